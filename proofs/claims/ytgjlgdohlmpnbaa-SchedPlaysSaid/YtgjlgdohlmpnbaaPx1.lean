/- Written by a program of this session (gp.py), which drives the printer of the kit: contracts of Go functions over the translation, and the rows of laws: each says what its theorems state. Conditions: as each theorem states them. -/
import Derived.Test.YtgjlgdohlmpnbaaPx0
import Derived.Test.YtgjlgdohlmpnbaaG1
import Derived.Test.YtgjlgdohlmpnbaaG2
namespace Go.Proofs.Ytgjlgdohlmpnbaa.P
open Go.RowKit Go.Proofs.YtgjlgdohlmpnbaaW.PrintWords Go.Proofs.YtgjlgdohlmpnbaaW.PrintLast Go.Proofs.YtgjlgdohlmpnbaaW.PrintMore
attribute [local go_sem] max2_int min2_int max_two min_two max_three min_three max_four min_four   -- for this text's walks alone
set_option linter.unusedVariables false
set_option linter.unusedSimpArgs false

-- GIVEN: function 19 (carling/graph.Ready): graph_Ready.f, graph_Ready.calls

-- GIVEN: function 16 (carling/graph.Order): graph_Order.f, graph_Order.calls

/-! ### carlinglaw21_awake: function 14 -/
def carlinglaw21_awake.f  : Option (Bool) := (graph_Order.f (([(⟨(⟨#[97]⟩ : ByteArray), (([1] : List Int))⟩ : S31), (⟨(⟨#[98]⟩ : ByteArray), ([] : List Int)⟩ : S31), (⟨(⟨#[99]⟩ : ByteArray), (([1] : List Int))⟩ : S31)] : List (S31)))).bind fun bt110 => (if bt110.2 = 0 then (if (bt110.1.length : Int) = 3 then (if 0 < (bt110.1.length : Int) then (if (rd bt110.1 0) = 1 then (if 1 < (bt110.1.length : Int) then (if (rd bt110.1 1) = 0 then (if 2 < (bt110.1.length : Int) then (some ((rd bt110.1 2) == 2)) else (none)) else (some false)) else (none)) else (some false)) else (none)) else (some false)) else (some false))
set_option maxHeartbeats 8000000 in
set_option maxRecDepth 100000 in
theorem carlinglaw21_awake.calls  (r : Bool) (w : World) (h : carlinglaw21_awake.f  = some r) :
    Calls Try.prog 14 #[] w fun e w' => e = .returned (.bool r) ∧ Below w.heap.size w w' := by
  have hu31 := Try.underlying31
  have HB := Aside0.mk (Below.refl w.heap.size w)
  have H : ((graph_Order.f (([(⟨(⟨#[97]⟩ : ByteArray), (([1] : List Int))⟩ : S31), (⟨(⟨#[98]⟩ : ByteArray), ([] : List Int)⟩ : S31), (⟨(⟨#[99]⟩ : ByteArray), (([1] : List Int))⟩ : S31)] : List (S31)))).bind fun bt110 => (if bt110.2 = 0 then (if (bt110.1.length : Int) = 3 then (if 0 < (bt110.1.length : Int) then (if (rd bt110.1 0) = 1 then (if 1 < (bt110.1.length : Int) then (if (rd bt110.1 1) = 0 then (if 2 < (bt110.1.length : Int) then (some ((rd bt110.1 2) == 2)) else (none)) else (some false)) else (none)) else (some false)) else (none)) else (some false)) else (some false))) = some r := h
  clear h
  obtain ⟨y101, hy101⟩ : ∃ y_ : List Int, y_ = (([1] : List Int)) := ⟨_, rfl⟩
  replace H : ((graph_Order.f (([(⟨(⟨#[97]⟩ : ByteArray), y101⟩ : S31), (⟨(⟨#[98]⟩ : ByteArray), ([] : List Int)⟩ : S31), (⟨(⟨#[99]⟩ : ByteArray), (([1] : List Int))⟩ : S31)] : List (S31)))).bind fun bt110 => (if bt110.2 = 0 then (if (bt110.1.length : Int) = 3 then (if 0 < (bt110.1.length : Int) then (if (rd bt110.1 0) = 1 then (if 1 < (bt110.1.length : Int) then (if (rd bt110.1 1) = 0 then (if 2 < (bt110.1.length : Int) then (some ((rd bt110.1 2) == 2)) else (none)) else (some false)) else (none)) else (some false)) else (none)) else (some false)) else (some false))) = some r := by first | (rw [hy101]; with_reducible exact H) | (have H2_ := (Option.bind_some _ _).symm.trans H; rw [hy101]; with_reducible exact H2_) | (have H2_ := (Option.bind_some _ _).symm.trans H; with_reducible exact H2_) | with_reducible exact H | (rw [hy101]; exact H) | exact H
  have Ny101 := Aside0.mk hy101
  clear hy101
  obtain ⟨y104, hy104⟩ : ∃ y_ : List Int, y_ = (([1] : List Int)) := ⟨_, rfl⟩
  replace H : ((graph_Order.f (([(⟨(⟨#[97]⟩ : ByteArray), y101⟩ : S31), (⟨(⟨#[98]⟩ : ByteArray), ([] : List Int)⟩ : S31), (⟨(⟨#[99]⟩ : ByteArray), y104⟩ : S31)] : List (S31)))).bind fun bt110 => (if bt110.2 = 0 then (if (bt110.1.length : Int) = 3 then (if 0 < (bt110.1.length : Int) then (if (rd bt110.1 0) = 1 then (if 1 < (bt110.1.length : Int) then (if (rd bt110.1 1) = 0 then (if 2 < (bt110.1.length : Int) then (some ((rd bt110.1 2) == 2)) else (none)) else (some false)) else (none)) else (some false)) else (none)) else (some false)) else (some false))) = some r := by first | (rw [hy104]; with_reducible exact H) | (have H2_ := (Option.bind_some _ _).symm.trans H; rw [hy104]; with_reducible exact H2_) | (have H2_ := (Option.bind_some _ _).symm.trans H; with_reducible exact H2_) | with_reducible exact H | (rw [hy104]; exact H) | exact H
  have Ny104 := Aside0.mk hy104
  clear hy104
  obtain ⟨y107, hy107⟩ : ∃ y_ : List (S31), y_ = (([(⟨(⟨#[97]⟩ : ByteArray), y101⟩ : S31), (⟨(⟨#[98]⟩ : ByteArray), ([] : List Int)⟩ : S31), (⟨(⟨#[99]⟩ : ByteArray), y104⟩ : S31)] : List (S31))) := ⟨_, rfl⟩
  replace H : ((graph_Order.f y107).bind fun bt110 => (if bt110.2 = 0 then (if (bt110.1.length : Int) = 3 then (if 0 < (bt110.1.length : Int) then (if (rd bt110.1 0) = 1 then (if 1 < (bt110.1.length : Int) then (if (rd bt110.1 1) = 0 then (if 2 < (bt110.1.length : Int) then (some ((rd bt110.1 2) == 2)) else (none)) else (some false)) else (none)) else (some false)) else (none)) else (some false)) else (some false))) = some r := by first | (rw [hy107]; with_reducible exact H) | (have H2_ := (Option.bind_some _ _).symm.trans H; rw [hy107]; with_reducible exact H2_) | (have H2_ := (Option.bind_some _ _).symm.trans H; with_reducible exact H2_) | with_reducible exact H | (rw [hy107]; exact H) | exact H
  have Ny107 := Aside0.mk hy107
  clear hy107
  replace H := Option.bind_eq_some_iff.mp H
  obtain ⟨⟨t110, t111⟩, A10, H⟩ := H
  replace H : (if t111 = 0 then (if (t110.length : Int) = 3 then (if 0 < (t110.length : Int) then (if (rd t110 0) = 1 then (if 1 < (t110.length : Int) then (if (rd t110 1) = 0 then (if 2 < (t110.length : Int) then (some ((rd t110 2) == 2)) else (none)) else (some false)) else (none)) else (some false)) else (none)) else (some false)) else (some false)) = some r := H
  have A1 := Aside0.mk A10
  clear A10
  by_cases c2 : t111 = 0
  · rw [if_pos c2] at H
    have c2b0 : (t111 == 0) = true := beq_iff_eq.mpr c2
    have c2b1 : (t111 != 0) = false := bne_eq_false_iff_eq.mpr c2
    clear c2
    by_cases c3 : (t110.length : Int) = 3
    · rw [if_pos c3] at H
      have c3b0 : ((t110.length : Int) == 3) = true := beq_iff_eq.mpr c3
      have c3b1 : ((t110.length : Int) != 3) = false := bne_eq_false_iff_eq.mpr c3
      clear c3
      by_cases c4 : 0 < (t110.length : Int)
      · rw [if_pos c4] at H
        have c4b0 : decide (0 < (t110.length : Int)) = true := decide_eq_true c4
        have c4b1 : decide (0 < t110.length) = true := decide_eq_true (by omega)
        clear c4
        by_cases c5 : (rd t110 0) = 1
        · rw [if_pos c5] at H
          have c5b0 : ((rd t110 0) == 1) = true := beq_iff_eq.mpr c5
          have c5b1 : ((rd t110 0) != 1) = false := bne_eq_false_iff_eq.mpr c5
          clear c5
          by_cases c6 : 1 < (t110.length : Int)
          · rw [if_pos c6] at H
            have c6b0 : decide (1 < (t110.length : Int)) = true := decide_eq_true c6
            have c6b1 : decide (1 < t110.length) = true := decide_eq_true (by omega)
            clear c6
            by_cases c7 : (rd t110 1) = 0
            · rw [if_pos c7] at H
              have c7b0 : ((rd t110 1) == 0) = true := beq_iff_eq.mpr c7
              have c7b1 : ((rd t110 1) != 0) = false := bne_eq_false_iff_eq.mpr c7
              clear c7
              by_cases c8 : 2 < (t110.length : Int)
              · rw [if_pos c8] at H
                have c8b0 : decide (2 < (t110.length : Int)) = true := decide_eq_true c8
                have c8b1 : decide (2 < t110.length) = true := decide_eq_true (by omega)
                clear c8
                obtain rfl := Option.some.inj H
                go_enter Try.func14, Try.ntmps14
                go_wp2_with (first | ((with_reducible refine gate_dst (N := 4) rfl ?_); (try (refine gate_guard (by rfl) ?_; dsimp only)); refine Kd.R_lit (Kd.int .i64) _ 3 ?hg (N := 4) ?hd (xs := ([1] : List Int)) (inner := [.int .i64 1]) (ok := fun _ => True) (okp := fun _ => True) ?hr ?hp (fun _ hk => hk) trivial (Below.refl _ _) (Nat.le_refl _) (by simp) ?_; (case hd => rfl); (case hg => rfl); (case hr => first | (go_simp; done) | (go_simp; rfl)); (case hp => exact (Reps.one (show Kd.M (Kd.int .i64) _ _ _ 1 [.int .i64 1] from rfl) (Reps.none _ _))); intro v102 w9 ho10 hb hg_ hnew_; clear hg_ hnew_; (first | rw [← Ny101.out] at ho10 | (simp only [Int.reduceToNat] at ho10; rw [← Ny101.out] at ho10)); have n0_ := Aside0.mk (Kd.R_lower ho10 (below_size (by repeat (first | (with_reducible first | exact HB.out | apply below_alloc | apply pw_below_drewN | apply below_drew1) | exact HB.out)))); have n1_ := Aside0.mk (below_step (by repeat (first | (with_reducible first | exact HB.out | apply below_alloc | apply pw_below_drewN | apply below_drew1) | exact HB.out)) hb); clear HB; have HO103 := n0_; have HB := n1_; clear n0_ n1_; clear hb ho10; obtain ⟨Ao11, co11, eo11⟩ := Kd.R_slice HO103.out; subst eo11) | ((with_reducible refine gate_dst (N := 7) rfl ?_); (try (refine gate_guard (by rfl) ?_; dsimp only)); refine Kd.R_lit (Kd.int .i64) _ 3 ?hg (N := 7) ?hd (xs := ([1] : List Int)) (inner := [.int .i64 1]) (ok := fun _ => True) (okp := fun _ => True) ?hr ?hp (fun _ hk => hk) trivial (Below.refl _ _) (Nat.le_refl _) (by simp) ?_; (case hd => rfl); (case hg => rfl); (case hr => first | (go_simp; done) | (go_simp; rfl)); (case hp => exact (Reps.one (show Kd.M (Kd.int .i64) _ _ _ 1 [.int .i64 1] from rfl) (Reps.none _ _))); intro v105 w12 ho13 hb hg_ hnew_; clear hg_ hnew_; (first | rw [← Ny104.out] at ho13 | (simp only [Int.reduceToNat] at ho13; rw [← Ny104.out] at ho13)); have n0_ := Aside0.mk (Kd.R_elder' (by (with_reducible repeat (first | apply Kd.R_alloc | apply Kd.R_drewN | apply Kd.R_drew)); exact HO103.out) (Kd.R_base ho13) hb); have n1_ := Aside0.mk (Kd.R_lower (Kd.R_new' ho13 (Kd.R_lt (by (with_reducible repeat (first | apply Kd.R_alloc | apply Kd.R_drewN | apply Kd.R_drew)); exact HO103.out))) (below_size (by repeat (first | (with_reducible first | exact HB.out | apply below_alloc | apply pw_below_drewN | apply below_drew1) | exact HB.out)))); have n2_ := Aside0.mk (below_step (by repeat (first | (with_reducible first | exact HB.out | apply below_alloc | apply pw_below_drewN | apply below_drew1) | exact HB.out)) hb); clear HO103; clear HB; have HO103 := n0_; have HO106 := n1_; have HB := n2_; clear n0_ n1_ n2_; clear hb ho13; obtain ⟨Ao14, co14, eo14⟩ := Kd.R_slice HO106.out; subst eo14) | ((with_reducible refine gate_dst (N := 9) rfl ?_); (try (refine gate_guard (by rfl) ?_; dsimp only)); refine Kd.N_lit k31 _ 31 ?hg (N' := 9) ?hd (xs := ([(⟨(⟨#[97]⟩ : ByteArray), y101⟩ : S31), (⟨(⟨#[98]⟩ : ByteArray), ([] : List Int)⟩ : S31), (⟨(⟨#[99]⟩ : ByteArray), y104⟩ : S31)] : List (S31))) (inner := [.string (⟨#[97]⟩ : ByteArray), .slice Ao11 y101.length co11, .string (⟨#[98]⟩ : ByteArray), .slice none 0 0, .string (⟨#[99]⟩ : ByteArray), .slice Ao14 y104.length co14]) (ok := (fun _ => True)) (okp := (fun _ => True)) ?hr ?hp (fun _ hk => hk) ((show ∀ k_, w12.heap.size ≤ k_ → (fun _ => True) k_ from fun k_ hk => trivial) _ (Nat.le_refl _)) (Below.refl _ _) (Nat.le_refl _) (by simp) ?_; (case hd => rfl); (case hg => rfl); (case hr => first | (go_simp; done) | (go_simp; rfl)); (case hp => exact (Reps.c2 (show Kd.FK k31 _ _ (⟨(⟨#[97]⟩ : ByteArray), y101⟩ : S31) [.string (⟨#[97]⟩ : ByteArray), .slice Ao11 y101.length co11] from (k31_mkF _ _ (⟨(⟨#[97]⟩ : ByteArray), y101⟩ : S31) (Kd.R_reads' (Kd.R_mono (ok' := (fun _ => True)) (HO103.out) (fun k_ hk => trivial))).2.1 (Kd.R_F (Kd.R_mono (ok' := (fun _ => True)) (HO103.out) (fun k_ hk => trivial))))) (Reps.c2 (show Kd.FK k31 _ _ (⟨(⟨#[98]⟩ : ByteArray), ([] : List Int)⟩ : S31) [.string (⟨#[98]⟩ : ByteArray), .slice none 0 0] from (k31_mkF _ _ (⟨(⟨#[98]⟩ : ByteArray), ([] : List Int)⟩ : S31) (Nat.le_refl _) (Kd.F_nil _ _ _))) (Reps.c2 (show Kd.FK k31 _ _ (⟨(⟨#[99]⟩ : ByteArray), y104⟩ : S31) [.string (⟨#[99]⟩ : ByteArray), .slice Ao14 y104.length co14] from (k31_mkF _ _ (⟨(⟨#[99]⟩ : ByteArray), y104⟩ : S31) (Kd.R_reads' (Kd.R_mono (ok' := (fun _ => True)) (HO106.out) (fun k_ hk => trivial))).2.1 (Kd.R_F (Kd.R_mono (ok' := (fun _ => True)) (HO106.out) (fun k_ hk => trivial))))) (Reps.none _ _))))); intro v108 w15 ho16 hb hg_ hnew_; clear hg_ hnew_; (first | rw [← Ny107.out] at ho16 | (simp only [Int.reduceToNat] at ho16; rw [← Ny107.out] at ho16)); have n0_ := Aside0.mk (Kd.N_lower ho16 (below_size (by repeat (first | (with_reducible first | exact HB.out | apply below_alloc | apply pw_below_drewN | apply below_drew1) | exact HB.out)))); have n1_ := Aside0.mk (below_step (by repeat (first | (with_reducible first | exact HB.out | apply below_alloc | apply pw_below_drewN | apply below_drew1) | exact HB.out)) hb); clear HB; clear HO103; clear HO106; have HO109 := n0_; have HB := n1_; clear n0_ n1_; clear hb ho16; obtain ⟨Ao17, co17, eo17⟩ := Kd.N_slice HO109.out; subst eo17) | ((with_reducible refine gate_callee (f := 16) rfl ?_); refine goesL_ (some 10) rfl rfl Try.func16 (by kernel_rfl) rfl #[.slice Ao17 y107.length co17] rfl (by (try simp only [List.map_toArray, List.map_cons, List.map_nil]); first | done | rfl | (simp only [List.length_drop, List.length_take]; rfl)) ?_; (with_reducible refine (graph_Order.calls _ _ y107 t110 t111 _ ?side1 ?side2 A1.out).mono ?_); (case side1 => repeat (first | exact (Kd.N_reads' HO109.out).2.2 | (with_reducible refine Kd.C_alloc ?_ _) | (with_reducible refine Kd.C_drewN ?_ _) | (with_reducible refine Kd.C_drew ?_))); (case side2 => exact (Kd.N_reads' HO109.out).2.1); rintro e w18 ⟨v112, rfl, ho0, hb⟩; refine ⟨_, rfl, ?_⟩; have n0_ := Aside0.mk (Kd.N_elder' (by (with_reducible repeat (first | apply Kd.N_alloc | apply Kd.N_drewN | apply Kd.N_drew)); exact HO109.out) (Kd.R_base ho0) hb); have n1_ := Aside0.mk (Kd.R_lower ho0 (below_size (by repeat (first | (with_reducible first | exact HB.out | apply below_alloc | apply pw_below_drewN | apply below_drew1) | exact HB.out)))); have n2_ := Aside0.mk (below_step (by repeat (first | (with_reducible first | exact HB.out | apply below_alloc | apply pw_below_drewN | apply below_drew1) | exact HB.out)) hb); clear HO109; clear HB; have HO109 := n0_; have HO113 := n1_; have HB := n2_; clear n0_ n1_ n2_; (try clear hb); (try clear hb2); (try clear hk); (try clear hi); (try clear ho0); obtain ⟨Ao19, co19, eo19⟩ := Kd.R_slice HO113.out; subst eo19; have p114 : 0 ≤ (0 : Int) := (by omega); have q114 : 0 < (t110.length : Int) := of_decide_eq_true (by first | (with_reducible assumption) | assumption); obtain ⟨ad114, e114, hx114_0⟩ := Kd.at_int (Kd.R_reads' HO113.out).2.2 0 p114 q114; cases e114; have qi114 : (0 < t110.length) = True := eq_true (by omega); (try rw [show ((0 : Int)).toNat = 0 from rfl] at hx114_0); (try rw [Addr.add_zero'] at hx114_0); replace p114 := eq_true p114; replace q114 := eq_true q114; have p115 : 0 ≤ (1 : Int) := (by omega); have q115 : 1 < (t110.length : Int) := of_decide_eq_true (by first | (with_reducible assumption) | assumption); obtain ⟨ad115, e115, hx115_0⟩ := Kd.at_int (Kd.R_reads' HO113.out).2.2 1 p115 q115; obtain rfl : ad114 = ad115 := (by injection e115); (try simp only [show (1 : Int).toNat = 1 from rfl, Nat.reduceMul, Nat.reduceEqDiff, Go.Addr.add, ↓reduceIte] at hx115_0); have qi115 : (1 < t110.length) = True := eq_true (by omega); (try rw [show ((1 : Int)).toNat = 1 from rfl] at hx115_0); replace p115 := eq_true p115; replace q115 := eq_true q115; have p116 : 0 ≤ (2 : Int) := (by omega); have q116 : 2 < (t110.length : Int) := of_decide_eq_true (by first | (with_reducible assumption) | assumption); obtain ⟨ad116, e116, hx116_0⟩ := Kd.at_int (Kd.R_reads' HO113.out).2.2 2 p116 q116; obtain rfl : ad114 = ad116 := (by injection e116); (try simp only [show (2 : Int).toNat = 2 from rfl, Nat.reduceMul, Nat.reduceEqDiff, Go.Addr.add, ↓reduceIte] at hx116_0); have qi116 : (2 < t110.length) = True := eq_true (by omega); (try rw [show ((2 : Int)).toNat = 2 from rfl] at hx116_0); replace p116 := eq_true p116; replace q116 := eq_true q116))
                go_ret
                exact ⟨by first | rfl | (simp [errW_none, errW_some] <;> rfl) | (simp [*, errW_none, errW_some] <;> rfl), by repeat (first | (with_reducible first | exact HB.out | apply below_alloc | apply pw_below_drewN | apply below_drew1) | exact HB.out)⟩
              · rw [if_neg c8] at H
                exact absurd H (by simp)
            · rw [if_neg c7] at H
              have c7b0 : ((rd t110 1) == 0) = false := beq_eq_false_iff_ne.mpr c7
              have c7b1 : ((rd t110 1) != 0) = true := bne_iff_ne.mpr c7
              obtain rfl := Option.some.inj H
              go_enter Try.func14, Try.ntmps14
              go_wp2_with (first | ((with_reducible refine gate_dst (N := 4) rfl ?_); (try (refine gate_guard (by rfl) ?_; dsimp only)); refine Kd.R_lit (Kd.int .i64) _ 3 ?hg (N := 4) ?hd (xs := ([1] : List Int)) (inner := [.int .i64 1]) (ok := fun _ => True) (okp := fun _ => True) ?hr ?hp (fun _ hk => hk) trivial (Below.refl _ _) (Nat.le_refl _) (by simp) ?_; (case hd => rfl); (case hg => rfl); (case hr => first | (go_simp; done) | (go_simp; rfl)); (case hp => exact (Reps.one (show Kd.M (Kd.int .i64) _ _ _ 1 [.int .i64 1] from rfl) (Reps.none _ _))); intro v102 w20 ho21 hb hg_ hnew_; clear hg_ hnew_; (first | rw [← Ny101.out] at ho21 | (simp only [Int.reduceToNat] at ho21; rw [← Ny101.out] at ho21)); have n0_ := Aside0.mk (Kd.R_lower ho21 (below_size (by repeat (first | (with_reducible first | exact HB.out | apply below_alloc | apply pw_below_drewN | apply below_drew1) | exact HB.out)))); have n1_ := Aside0.mk (below_step (by repeat (first | (with_reducible first | exact HB.out | apply below_alloc | apply pw_below_drewN | apply below_drew1) | exact HB.out)) hb); clear HB; have HO103 := n0_; have HB := n1_; clear n0_ n1_; clear hb ho21; obtain ⟨Ao22, co22, eo22⟩ := Kd.R_slice HO103.out; subst eo22) | ((with_reducible refine gate_dst (N := 7) rfl ?_); (try (refine gate_guard (by rfl) ?_; dsimp only)); refine Kd.R_lit (Kd.int .i64) _ 3 ?hg (N := 7) ?hd (xs := ([1] : List Int)) (inner := [.int .i64 1]) (ok := fun _ => True) (okp := fun _ => True) ?hr ?hp (fun _ hk => hk) trivial (Below.refl _ _) (Nat.le_refl _) (by simp) ?_; (case hd => rfl); (case hg => rfl); (case hr => first | (go_simp; done) | (go_simp; rfl)); (case hp => exact (Reps.one (show Kd.M (Kd.int .i64) _ _ _ 1 [.int .i64 1] from rfl) (Reps.none _ _))); intro v105 w23 ho24 hb hg_ hnew_; clear hg_ hnew_; (first | rw [← Ny104.out] at ho24 | (simp only [Int.reduceToNat] at ho24; rw [← Ny104.out] at ho24)); have n0_ := Aside0.mk (Kd.R_elder' (by (with_reducible repeat (first | apply Kd.R_alloc | apply Kd.R_drewN | apply Kd.R_drew)); exact HO103.out) (Kd.R_base ho24) hb); have n1_ := Aside0.mk (Kd.R_lower (Kd.R_new' ho24 (Kd.R_lt (by (with_reducible repeat (first | apply Kd.R_alloc | apply Kd.R_drewN | apply Kd.R_drew)); exact HO103.out))) (below_size (by repeat (first | (with_reducible first | exact HB.out | apply below_alloc | apply pw_below_drewN | apply below_drew1) | exact HB.out)))); have n2_ := Aside0.mk (below_step (by repeat (first | (with_reducible first | exact HB.out | apply below_alloc | apply pw_below_drewN | apply below_drew1) | exact HB.out)) hb); clear HO103; clear HB; have HO103 := n0_; have HO106 := n1_; have HB := n2_; clear n0_ n1_ n2_; clear hb ho24; obtain ⟨Ao25, co25, eo25⟩ := Kd.R_slice HO106.out; subst eo25) | ((with_reducible refine gate_dst (N := 9) rfl ?_); (try (refine gate_guard (by rfl) ?_; dsimp only)); refine Kd.N_lit k31 _ 31 ?hg (N' := 9) ?hd (xs := ([(⟨(⟨#[97]⟩ : ByteArray), y101⟩ : S31), (⟨(⟨#[98]⟩ : ByteArray), ([] : List Int)⟩ : S31), (⟨(⟨#[99]⟩ : ByteArray), y104⟩ : S31)] : List (S31))) (inner := [.string (⟨#[97]⟩ : ByteArray), .slice Ao22 y101.length co22, .string (⟨#[98]⟩ : ByteArray), .slice none 0 0, .string (⟨#[99]⟩ : ByteArray), .slice Ao25 y104.length co25]) (ok := (fun _ => True)) (okp := (fun _ => True)) ?hr ?hp (fun _ hk => hk) ((show ∀ k_, w23.heap.size ≤ k_ → (fun _ => True) k_ from fun k_ hk => trivial) _ (Nat.le_refl _)) (Below.refl _ _) (Nat.le_refl _) (by simp) ?_; (case hd => rfl); (case hg => rfl); (case hr => first | (go_simp; done) | (go_simp; rfl)); (case hp => exact (Reps.c2 (show Kd.FK k31 _ _ (⟨(⟨#[97]⟩ : ByteArray), y101⟩ : S31) [.string (⟨#[97]⟩ : ByteArray), .slice Ao22 y101.length co22] from (k31_mkF _ _ (⟨(⟨#[97]⟩ : ByteArray), y101⟩ : S31) (Kd.R_reads' (Kd.R_mono (ok' := (fun _ => True)) (HO103.out) (fun k_ hk => trivial))).2.1 (Kd.R_F (Kd.R_mono (ok' := (fun _ => True)) (HO103.out) (fun k_ hk => trivial))))) (Reps.c2 (show Kd.FK k31 _ _ (⟨(⟨#[98]⟩ : ByteArray), ([] : List Int)⟩ : S31) [.string (⟨#[98]⟩ : ByteArray), .slice none 0 0] from (k31_mkF _ _ (⟨(⟨#[98]⟩ : ByteArray), ([] : List Int)⟩ : S31) (Nat.le_refl _) (Kd.F_nil _ _ _))) (Reps.c2 (show Kd.FK k31 _ _ (⟨(⟨#[99]⟩ : ByteArray), y104⟩ : S31) [.string (⟨#[99]⟩ : ByteArray), .slice Ao25 y104.length co25] from (k31_mkF _ _ (⟨(⟨#[99]⟩ : ByteArray), y104⟩ : S31) (Kd.R_reads' (Kd.R_mono (ok' := (fun _ => True)) (HO106.out) (fun k_ hk => trivial))).2.1 (Kd.R_F (Kd.R_mono (ok' := (fun _ => True)) (HO106.out) (fun k_ hk => trivial))))) (Reps.none _ _))))); intro v108 w26 ho27 hb hg_ hnew_; clear hg_ hnew_; (first | rw [← Ny107.out] at ho27 | (simp only [Int.reduceToNat] at ho27; rw [← Ny107.out] at ho27)); have n0_ := Aside0.mk (Kd.N_lower ho27 (below_size (by repeat (first | (with_reducible first | exact HB.out | apply below_alloc | apply pw_below_drewN | apply below_drew1) | exact HB.out)))); have n1_ := Aside0.mk (below_step (by repeat (first | (with_reducible first | exact HB.out | apply below_alloc | apply pw_below_drewN | apply below_drew1) | exact HB.out)) hb); clear HB; clear HO103; clear HO106; have HO109 := n0_; have HB := n1_; clear n0_ n1_; clear hb ho27; obtain ⟨Ao28, co28, eo28⟩ := Kd.N_slice HO109.out; subst eo28) | ((with_reducible refine gate_callee (f := 16) rfl ?_); refine goesL_ (some 10) rfl rfl Try.func16 (by kernel_rfl) rfl #[.slice Ao28 y107.length co28] rfl (by (try simp only [List.map_toArray, List.map_cons, List.map_nil]); first | done | rfl | (simp only [List.length_drop, List.length_take]; rfl)) ?_; (with_reducible refine (graph_Order.calls _ _ y107 t110 t111 _ ?side1 ?side2 A1.out).mono ?_); (case side1 => repeat (first | exact (Kd.N_reads' HO109.out).2.2 | (with_reducible refine Kd.C_alloc ?_ _) | (with_reducible refine Kd.C_drewN ?_ _) | (with_reducible refine Kd.C_drew ?_))); (case side2 => exact (Kd.N_reads' HO109.out).2.1); rintro e w29 ⟨v112, rfl, ho0, hb⟩; refine ⟨_, rfl, ?_⟩; have n0_ := Aside0.mk (Kd.N_elder' (by (with_reducible repeat (first | apply Kd.N_alloc | apply Kd.N_drewN | apply Kd.N_drew)); exact HO109.out) (Kd.R_base ho0) hb); have n1_ := Aside0.mk (Kd.R_lower ho0 (below_size (by repeat (first | (with_reducible first | exact HB.out | apply below_alloc | apply pw_below_drewN | apply below_drew1) | exact HB.out)))); have n2_ := Aside0.mk (below_step (by repeat (first | (with_reducible first | exact HB.out | apply below_alloc | apply pw_below_drewN | apply below_drew1) | exact HB.out)) hb); clear HO109; clear HB; have HO109 := n0_; have HO113 := n1_; have HB := n2_; clear n0_ n1_ n2_; (try clear hb); (try clear hb2); (try clear hk); (try clear hi); (try clear ho0); obtain ⟨Ao30, co30, eo30⟩ := Kd.R_slice HO113.out; subst eo30; have p114 : 0 ≤ (0 : Int) := (by omega); have q114 : 0 < (t110.length : Int) := of_decide_eq_true (by first | (with_reducible assumption) | assumption); obtain ⟨ad114, e114, hx114_0⟩ := Kd.at_int (Kd.R_reads' HO113.out).2.2 0 p114 q114; cases e114; have qi114 : (0 < t110.length) = True := eq_true (by omega); (try rw [show ((0 : Int)).toNat = 0 from rfl] at hx114_0); (try rw [Addr.add_zero'] at hx114_0); replace p114 := eq_true p114; replace q114 := eq_true q114; have p115 : 0 ≤ (1 : Int) := (by omega); have q115 : 1 < (t110.length : Int) := of_decide_eq_true (by first | (with_reducible assumption) | assumption); obtain ⟨ad115, e115, hx115_0⟩ := Kd.at_int (Kd.R_reads' HO113.out).2.2 1 p115 q115; obtain rfl : ad114 = ad115 := (by injection e115); (try simp only [show (1 : Int).toNat = 1 from rfl, Nat.reduceMul, Nat.reduceEqDiff, Go.Addr.add, ↓reduceIte] at hx115_0); have qi115 : (1 < t110.length) = True := eq_true (by omega); (try rw [show ((1 : Int)).toNat = 1 from rfl] at hx115_0); replace p115 := eq_true p115; replace q115 := eq_true q115))
              go_ret
              exact ⟨by first | rfl | (simp [errW_none, errW_some] <;> rfl) | (simp [*, errW_none, errW_some] <;> rfl), by repeat (first | (with_reducible first | exact HB.out | apply below_alloc | apply pw_below_drewN | apply below_drew1) | exact HB.out)⟩
          · rw [if_neg c6] at H
            exact absurd H (by simp)
        · rw [if_neg c5] at H
          have c5b0 : ((rd t110 0) == 1) = false := beq_eq_false_iff_ne.mpr c5
          have c5b1 : ((rd t110 0) != 1) = true := bne_iff_ne.mpr c5
          obtain rfl := Option.some.inj H
          go_enter Try.func14, Try.ntmps14
          go_wp2_with (first | ((with_reducible refine gate_dst (N := 4) rfl ?_); (try (refine gate_guard (by rfl) ?_; dsimp only)); refine Kd.R_lit (Kd.int .i64) _ 3 ?hg (N := 4) ?hd (xs := ([1] : List Int)) (inner := [.int .i64 1]) (ok := fun _ => True) (okp := fun _ => True) ?hr ?hp (fun _ hk => hk) trivial (Below.refl _ _) (Nat.le_refl _) (by simp) ?_; (case hd => rfl); (case hg => rfl); (case hr => first | (go_simp; done) | (go_simp; rfl)); (case hp => exact (Reps.one (show Kd.M (Kd.int .i64) _ _ _ 1 [.int .i64 1] from rfl) (Reps.none _ _))); intro v102 w31 ho32 hb hg_ hnew_; clear hg_ hnew_; (first | rw [← Ny101.out] at ho32 | (simp only [Int.reduceToNat] at ho32; rw [← Ny101.out] at ho32)); have n0_ := Aside0.mk (Kd.R_lower ho32 (below_size (by repeat (first | (with_reducible first | exact HB.out | apply below_alloc | apply pw_below_drewN | apply below_drew1) | exact HB.out)))); have n1_ := Aside0.mk (below_step (by repeat (first | (with_reducible first | exact HB.out | apply below_alloc | apply pw_below_drewN | apply below_drew1) | exact HB.out)) hb); clear HB; have HO103 := n0_; have HB := n1_; clear n0_ n1_; clear hb ho32; obtain ⟨Ao33, co33, eo33⟩ := Kd.R_slice HO103.out; subst eo33) | ((with_reducible refine gate_dst (N := 7) rfl ?_); (try (refine gate_guard (by rfl) ?_; dsimp only)); refine Kd.R_lit (Kd.int .i64) _ 3 ?hg (N := 7) ?hd (xs := ([1] : List Int)) (inner := [.int .i64 1]) (ok := fun _ => True) (okp := fun _ => True) ?hr ?hp (fun _ hk => hk) trivial (Below.refl _ _) (Nat.le_refl _) (by simp) ?_; (case hd => rfl); (case hg => rfl); (case hr => first | (go_simp; done) | (go_simp; rfl)); (case hp => exact (Reps.one (show Kd.M (Kd.int .i64) _ _ _ 1 [.int .i64 1] from rfl) (Reps.none _ _))); intro v105 w34 ho35 hb hg_ hnew_; clear hg_ hnew_; (first | rw [← Ny104.out] at ho35 | (simp only [Int.reduceToNat] at ho35; rw [← Ny104.out] at ho35)); have n0_ := Aside0.mk (Kd.R_elder' (by (with_reducible repeat (first | apply Kd.R_alloc | apply Kd.R_drewN | apply Kd.R_drew)); exact HO103.out) (Kd.R_base ho35) hb); have n1_ := Aside0.mk (Kd.R_lower (Kd.R_new' ho35 (Kd.R_lt (by (with_reducible repeat (first | apply Kd.R_alloc | apply Kd.R_drewN | apply Kd.R_drew)); exact HO103.out))) (below_size (by repeat (first | (with_reducible first | exact HB.out | apply below_alloc | apply pw_below_drewN | apply below_drew1) | exact HB.out)))); have n2_ := Aside0.mk (below_step (by repeat (first | (with_reducible first | exact HB.out | apply below_alloc | apply pw_below_drewN | apply below_drew1) | exact HB.out)) hb); clear HO103; clear HB; have HO103 := n0_; have HO106 := n1_; have HB := n2_; clear n0_ n1_ n2_; clear hb ho35; obtain ⟨Ao36, co36, eo36⟩ := Kd.R_slice HO106.out; subst eo36) | ((with_reducible refine gate_dst (N := 9) rfl ?_); (try (refine gate_guard (by rfl) ?_; dsimp only)); refine Kd.N_lit k31 _ 31 ?hg (N' := 9) ?hd (xs := ([(⟨(⟨#[97]⟩ : ByteArray), y101⟩ : S31), (⟨(⟨#[98]⟩ : ByteArray), ([] : List Int)⟩ : S31), (⟨(⟨#[99]⟩ : ByteArray), y104⟩ : S31)] : List (S31))) (inner := [.string (⟨#[97]⟩ : ByteArray), .slice Ao33 y101.length co33, .string (⟨#[98]⟩ : ByteArray), .slice none 0 0, .string (⟨#[99]⟩ : ByteArray), .slice Ao36 y104.length co36]) (ok := (fun _ => True)) (okp := (fun _ => True)) ?hr ?hp (fun _ hk => hk) ((show ∀ k_, w34.heap.size ≤ k_ → (fun _ => True) k_ from fun k_ hk => trivial) _ (Nat.le_refl _)) (Below.refl _ _) (Nat.le_refl _) (by simp) ?_; (case hd => rfl); (case hg => rfl); (case hr => first | (go_simp; done) | (go_simp; rfl)); (case hp => exact (Reps.c2 (show Kd.FK k31 _ _ (⟨(⟨#[97]⟩ : ByteArray), y101⟩ : S31) [.string (⟨#[97]⟩ : ByteArray), .slice Ao33 y101.length co33] from (k31_mkF _ _ (⟨(⟨#[97]⟩ : ByteArray), y101⟩ : S31) (Kd.R_reads' (Kd.R_mono (ok' := (fun _ => True)) (HO103.out) (fun k_ hk => trivial))).2.1 (Kd.R_F (Kd.R_mono (ok' := (fun _ => True)) (HO103.out) (fun k_ hk => trivial))))) (Reps.c2 (show Kd.FK k31 _ _ (⟨(⟨#[98]⟩ : ByteArray), ([] : List Int)⟩ : S31) [.string (⟨#[98]⟩ : ByteArray), .slice none 0 0] from (k31_mkF _ _ (⟨(⟨#[98]⟩ : ByteArray), ([] : List Int)⟩ : S31) (Nat.le_refl _) (Kd.F_nil _ _ _))) (Reps.c2 (show Kd.FK k31 _ _ (⟨(⟨#[99]⟩ : ByteArray), y104⟩ : S31) [.string (⟨#[99]⟩ : ByteArray), .slice Ao36 y104.length co36] from (k31_mkF _ _ (⟨(⟨#[99]⟩ : ByteArray), y104⟩ : S31) (Kd.R_reads' (Kd.R_mono (ok' := (fun _ => True)) (HO106.out) (fun k_ hk => trivial))).2.1 (Kd.R_F (Kd.R_mono (ok' := (fun _ => True)) (HO106.out) (fun k_ hk => trivial))))) (Reps.none _ _))))); intro v108 w37 ho38 hb hg_ hnew_; clear hg_ hnew_; (first | rw [← Ny107.out] at ho38 | (simp only [Int.reduceToNat] at ho38; rw [← Ny107.out] at ho38)); have n0_ := Aside0.mk (Kd.N_lower ho38 (below_size (by repeat (first | (with_reducible first | exact HB.out | apply below_alloc | apply pw_below_drewN | apply below_drew1) | exact HB.out)))); have n1_ := Aside0.mk (below_step (by repeat (first | (with_reducible first | exact HB.out | apply below_alloc | apply pw_below_drewN | apply below_drew1) | exact HB.out)) hb); clear HB; clear HO103; clear HO106; have HO109 := n0_; have HB := n1_; clear n0_ n1_; clear hb ho38; obtain ⟨Ao39, co39, eo39⟩ := Kd.N_slice HO109.out; subst eo39) | ((with_reducible refine gate_callee (f := 16) rfl ?_); refine goesL_ (some 10) rfl rfl Try.func16 (by kernel_rfl) rfl #[.slice Ao39 y107.length co39] rfl (by (try simp only [List.map_toArray, List.map_cons, List.map_nil]); first | done | rfl | (simp only [List.length_drop, List.length_take]; rfl)) ?_; (with_reducible refine (graph_Order.calls _ _ y107 t110 t111 _ ?side1 ?side2 A1.out).mono ?_); (case side1 => repeat (first | exact (Kd.N_reads' HO109.out).2.2 | (with_reducible refine Kd.C_alloc ?_ _) | (with_reducible refine Kd.C_drewN ?_ _) | (with_reducible refine Kd.C_drew ?_))); (case side2 => exact (Kd.N_reads' HO109.out).2.1); rintro e w40 ⟨v112, rfl, ho0, hb⟩; refine ⟨_, rfl, ?_⟩; have n0_ := Aside0.mk (Kd.N_elder' (by (with_reducible repeat (first | apply Kd.N_alloc | apply Kd.N_drewN | apply Kd.N_drew)); exact HO109.out) (Kd.R_base ho0) hb); have n1_ := Aside0.mk (Kd.R_lower ho0 (below_size (by repeat (first | (with_reducible first | exact HB.out | apply below_alloc | apply pw_below_drewN | apply below_drew1) | exact HB.out)))); have n2_ := Aside0.mk (below_step (by repeat (first | (with_reducible first | exact HB.out | apply below_alloc | apply pw_below_drewN | apply below_drew1) | exact HB.out)) hb); clear HO109; clear HB; have HO109 := n0_; have HO113 := n1_; have HB := n2_; clear n0_ n1_ n2_; (try clear hb); (try clear hb2); (try clear hk); (try clear hi); (try clear ho0); obtain ⟨Ao41, co41, eo41⟩ := Kd.R_slice HO113.out; subst eo41; have p114 : 0 ≤ (0 : Int) := (by omega); have q114 : 0 < (t110.length : Int) := of_decide_eq_true (by first | (with_reducible assumption) | assumption); obtain ⟨ad114, e114, hx114_0⟩ := Kd.at_int (Kd.R_reads' HO113.out).2.2 0 p114 q114; cases e114; have qi114 : (0 < t110.length) = True := eq_true (by omega); (try rw [show ((0 : Int)).toNat = 0 from rfl] at hx114_0); (try rw [Addr.add_zero'] at hx114_0); replace p114 := eq_true p114; replace q114 := eq_true q114))
          go_ret
          exact ⟨by first | rfl | (simp [errW_none, errW_some] <;> rfl) | (simp [*, errW_none, errW_some] <;> rfl), by repeat (first | (with_reducible first | exact HB.out | apply below_alloc | apply pw_below_drewN | apply below_drew1) | exact HB.out)⟩
      · rw [if_neg c4] at H
        exact absurd H (by simp)
    · rw [if_neg c3] at H
      have c3b0 : ((t110.length : Int) == 3) = false := beq_eq_false_iff_ne.mpr c3
      have c3b1 : ((t110.length : Int) != 3) = true := bne_iff_ne.mpr c3
      obtain rfl := Option.some.inj H
      go_enter Try.func14, Try.ntmps14
      go_wp2_with (first | ((with_reducible refine gate_dst (N := 4) rfl ?_); (try (refine gate_guard (by rfl) ?_; dsimp only)); refine Kd.R_lit (Kd.int .i64) _ 3 ?hg (N := 4) ?hd (xs := ([1] : List Int)) (inner := [.int .i64 1]) (ok := fun _ => True) (okp := fun _ => True) ?hr ?hp (fun _ hk => hk) trivial (Below.refl _ _) (Nat.le_refl _) (by simp) ?_; (case hd => rfl); (case hg => rfl); (case hr => first | (go_simp; done) | (go_simp; rfl)); (case hp => exact (Reps.one (show Kd.M (Kd.int .i64) _ _ _ 1 [.int .i64 1] from rfl) (Reps.none _ _))); intro v102 w42 ho43 hb hg_ hnew_; clear hg_ hnew_; (first | rw [← Ny101.out] at ho43 | (simp only [Int.reduceToNat] at ho43; rw [← Ny101.out] at ho43)); have n0_ := Aside0.mk (Kd.R_lower ho43 (below_size (by repeat (first | (with_reducible first | exact HB.out | apply below_alloc | apply pw_below_drewN | apply below_drew1) | exact HB.out)))); have n1_ := Aside0.mk (below_step (by repeat (first | (with_reducible first | exact HB.out | apply below_alloc | apply pw_below_drewN | apply below_drew1) | exact HB.out)) hb); clear HB; have HO103 := n0_; have HB := n1_; clear n0_ n1_; clear hb ho43; obtain ⟨Ao44, co44, eo44⟩ := Kd.R_slice HO103.out; subst eo44) | ((with_reducible refine gate_dst (N := 7) rfl ?_); (try (refine gate_guard (by rfl) ?_; dsimp only)); refine Kd.R_lit (Kd.int .i64) _ 3 ?hg (N := 7) ?hd (xs := ([1] : List Int)) (inner := [.int .i64 1]) (ok := fun _ => True) (okp := fun _ => True) ?hr ?hp (fun _ hk => hk) trivial (Below.refl _ _) (Nat.le_refl _) (by simp) ?_; (case hd => rfl); (case hg => rfl); (case hr => first | (go_simp; done) | (go_simp; rfl)); (case hp => exact (Reps.one (show Kd.M (Kd.int .i64) _ _ _ 1 [.int .i64 1] from rfl) (Reps.none _ _))); intro v105 w45 ho46 hb hg_ hnew_; clear hg_ hnew_; (first | rw [← Ny104.out] at ho46 | (simp only [Int.reduceToNat] at ho46; rw [← Ny104.out] at ho46)); have n0_ := Aside0.mk (Kd.R_elder' (by (with_reducible repeat (first | apply Kd.R_alloc | apply Kd.R_drewN | apply Kd.R_drew)); exact HO103.out) (Kd.R_base ho46) hb); have n1_ := Aside0.mk (Kd.R_lower (Kd.R_new' ho46 (Kd.R_lt (by (with_reducible repeat (first | apply Kd.R_alloc | apply Kd.R_drewN | apply Kd.R_drew)); exact HO103.out))) (below_size (by repeat (first | (with_reducible first | exact HB.out | apply below_alloc | apply pw_below_drewN | apply below_drew1) | exact HB.out)))); have n2_ := Aside0.mk (below_step (by repeat (first | (with_reducible first | exact HB.out | apply below_alloc | apply pw_below_drewN | apply below_drew1) | exact HB.out)) hb); clear HO103; clear HB; have HO103 := n0_; have HO106 := n1_; have HB := n2_; clear n0_ n1_ n2_; clear hb ho46; obtain ⟨Ao47, co47, eo47⟩ := Kd.R_slice HO106.out; subst eo47) | ((with_reducible refine gate_dst (N := 9) rfl ?_); (try (refine gate_guard (by rfl) ?_; dsimp only)); refine Kd.N_lit k31 _ 31 ?hg (N' := 9) ?hd (xs := ([(⟨(⟨#[97]⟩ : ByteArray), y101⟩ : S31), (⟨(⟨#[98]⟩ : ByteArray), ([] : List Int)⟩ : S31), (⟨(⟨#[99]⟩ : ByteArray), y104⟩ : S31)] : List (S31))) (inner := [.string (⟨#[97]⟩ : ByteArray), .slice Ao44 y101.length co44, .string (⟨#[98]⟩ : ByteArray), .slice none 0 0, .string (⟨#[99]⟩ : ByteArray), .slice Ao47 y104.length co47]) (ok := (fun _ => True)) (okp := (fun _ => True)) ?hr ?hp (fun _ hk => hk) ((show ∀ k_, w45.heap.size ≤ k_ → (fun _ => True) k_ from fun k_ hk => trivial) _ (Nat.le_refl _)) (Below.refl _ _) (Nat.le_refl _) (by simp) ?_; (case hd => rfl); (case hg => rfl); (case hr => first | (go_simp; done) | (go_simp; rfl)); (case hp => exact (Reps.c2 (show Kd.FK k31 _ _ (⟨(⟨#[97]⟩ : ByteArray), y101⟩ : S31) [.string (⟨#[97]⟩ : ByteArray), .slice Ao44 y101.length co44] from (k31_mkF _ _ (⟨(⟨#[97]⟩ : ByteArray), y101⟩ : S31) (Kd.R_reads' (Kd.R_mono (ok' := (fun _ => True)) (HO103.out) (fun k_ hk => trivial))).2.1 (Kd.R_F (Kd.R_mono (ok' := (fun _ => True)) (HO103.out) (fun k_ hk => trivial))))) (Reps.c2 (show Kd.FK k31 _ _ (⟨(⟨#[98]⟩ : ByteArray), ([] : List Int)⟩ : S31) [.string (⟨#[98]⟩ : ByteArray), .slice none 0 0] from (k31_mkF _ _ (⟨(⟨#[98]⟩ : ByteArray), ([] : List Int)⟩ : S31) (Nat.le_refl _) (Kd.F_nil _ _ _))) (Reps.c2 (show Kd.FK k31 _ _ (⟨(⟨#[99]⟩ : ByteArray), y104⟩ : S31) [.string (⟨#[99]⟩ : ByteArray), .slice Ao47 y104.length co47] from (k31_mkF _ _ (⟨(⟨#[99]⟩ : ByteArray), y104⟩ : S31) (Kd.R_reads' (Kd.R_mono (ok' := (fun _ => True)) (HO106.out) (fun k_ hk => trivial))).2.1 (Kd.R_F (Kd.R_mono (ok' := (fun _ => True)) (HO106.out) (fun k_ hk => trivial))))) (Reps.none _ _))))); intro v108 w48 ho49 hb hg_ hnew_; clear hg_ hnew_; (first | rw [← Ny107.out] at ho49 | (simp only [Int.reduceToNat] at ho49; rw [← Ny107.out] at ho49)); have n0_ := Aside0.mk (Kd.N_lower ho49 (below_size (by repeat (first | (with_reducible first | exact HB.out | apply below_alloc | apply pw_below_drewN | apply below_drew1) | exact HB.out)))); have n1_ := Aside0.mk (below_step (by repeat (first | (with_reducible first | exact HB.out | apply below_alloc | apply pw_below_drewN | apply below_drew1) | exact HB.out)) hb); clear HB; clear HO103; clear HO106; have HO109 := n0_; have HB := n1_; clear n0_ n1_; clear hb ho49; obtain ⟨Ao50, co50, eo50⟩ := Kd.N_slice HO109.out; subst eo50) | ((with_reducible refine gate_callee (f := 16) rfl ?_); refine goesL_ (some 10) rfl rfl Try.func16 (by kernel_rfl) rfl #[.slice Ao50 y107.length co50] rfl (by (try simp only [List.map_toArray, List.map_cons, List.map_nil]); first | done | rfl | (simp only [List.length_drop, List.length_take]; rfl)) ?_; (with_reducible refine (graph_Order.calls _ _ y107 t110 t111 _ ?side1 ?side2 A1.out).mono ?_); (case side1 => repeat (first | exact (Kd.N_reads' HO109.out).2.2 | (with_reducible refine Kd.C_alloc ?_ _) | (with_reducible refine Kd.C_drewN ?_ _) | (with_reducible refine Kd.C_drew ?_))); (case side2 => exact (Kd.N_reads' HO109.out).2.1); rintro e w51 ⟨v112, rfl, ho0, hb⟩; refine ⟨_, rfl, ?_⟩; have n0_ := Aside0.mk (Kd.N_elder' (by (with_reducible repeat (first | apply Kd.N_alloc | apply Kd.N_drewN | apply Kd.N_drew)); exact HO109.out) (Kd.R_base ho0) hb); have n1_ := Aside0.mk (Kd.R_lower ho0 (below_size (by repeat (first | (with_reducible first | exact HB.out | apply below_alloc | apply pw_below_drewN | apply below_drew1) | exact HB.out)))); have n2_ := Aside0.mk (below_step (by repeat (first | (with_reducible first | exact HB.out | apply below_alloc | apply pw_below_drewN | apply below_drew1) | exact HB.out)) hb); clear HO109; clear HB; have HO109 := n0_; have HO113 := n1_; have HB := n2_; clear n0_ n1_ n2_; (try clear hb); (try clear hb2); (try clear hk); (try clear hi); (try clear ho0); obtain ⟨Ao52, co52, eo52⟩ := Kd.R_slice HO113.out; subst eo52))
      go_ret
      exact ⟨by first | rfl | (simp [errW_none, errW_some] <;> rfl) | (simp [*, errW_none, errW_some] <;> rfl), by repeat (first | (with_reducible first | exact HB.out | apply below_alloc | apply pw_below_drewN | apply below_drew1) | exact HB.out)⟩
  · rw [if_neg c2] at H
    have c2b0 : (t111 == 0) = false := beq_eq_false_iff_ne.mpr c2
    have c2b1 : (t111 != 0) = true := bne_iff_ne.mpr c2
    obtain rfl := Option.some.inj H
    go_enter Try.func14, Try.ntmps14
    go_wp2_with (first | ((with_reducible refine gate_dst (N := 4) rfl ?_); (try (refine gate_guard (by rfl) ?_; dsimp only)); refine Kd.R_lit (Kd.int .i64) _ 3 ?hg (N := 4) ?hd (xs := ([1] : List Int)) (inner := [.int .i64 1]) (ok := fun _ => True) (okp := fun _ => True) ?hr ?hp (fun _ hk => hk) trivial (Below.refl _ _) (Nat.le_refl _) (by simp) ?_; (case hd => rfl); (case hg => rfl); (case hr => first | (go_simp; done) | (go_simp; rfl)); (case hp => exact (Reps.one (show Kd.M (Kd.int .i64) _ _ _ 1 [.int .i64 1] from rfl) (Reps.none _ _))); intro v102 w53 ho54 hb hg_ hnew_; clear hg_ hnew_; (first | rw [← Ny101.out] at ho54 | (simp only [Int.reduceToNat] at ho54; rw [← Ny101.out] at ho54)); have n0_ := Aside0.mk (Kd.R_lower ho54 (below_size (by repeat (first | (with_reducible first | exact HB.out | apply below_alloc | apply pw_below_drewN | apply below_drew1) | exact HB.out)))); have n1_ := Aside0.mk (below_step (by repeat (first | (with_reducible first | exact HB.out | apply below_alloc | apply pw_below_drewN | apply below_drew1) | exact HB.out)) hb); clear HB; have HO103 := n0_; have HB := n1_; clear n0_ n1_; clear hb ho54; obtain ⟨Ao55, co55, eo55⟩ := Kd.R_slice HO103.out; subst eo55) | ((with_reducible refine gate_dst (N := 7) rfl ?_); (try (refine gate_guard (by rfl) ?_; dsimp only)); refine Kd.R_lit (Kd.int .i64) _ 3 ?hg (N := 7) ?hd (xs := ([1] : List Int)) (inner := [.int .i64 1]) (ok := fun _ => True) (okp := fun _ => True) ?hr ?hp (fun _ hk => hk) trivial (Below.refl _ _) (Nat.le_refl _) (by simp) ?_; (case hd => rfl); (case hg => rfl); (case hr => first | (go_simp; done) | (go_simp; rfl)); (case hp => exact (Reps.one (show Kd.M (Kd.int .i64) _ _ _ 1 [.int .i64 1] from rfl) (Reps.none _ _))); intro v105 w56 ho57 hb hg_ hnew_; clear hg_ hnew_; (first | rw [← Ny104.out] at ho57 | (simp only [Int.reduceToNat] at ho57; rw [← Ny104.out] at ho57)); have n0_ := Aside0.mk (Kd.R_elder' (by (with_reducible repeat (first | apply Kd.R_alloc | apply Kd.R_drewN | apply Kd.R_drew)); exact HO103.out) (Kd.R_base ho57) hb); have n1_ := Aside0.mk (Kd.R_lower (Kd.R_new' ho57 (Kd.R_lt (by (with_reducible repeat (first | apply Kd.R_alloc | apply Kd.R_drewN | apply Kd.R_drew)); exact HO103.out))) (below_size (by repeat (first | (with_reducible first | exact HB.out | apply below_alloc | apply pw_below_drewN | apply below_drew1) | exact HB.out)))); have n2_ := Aside0.mk (below_step (by repeat (first | (with_reducible first | exact HB.out | apply below_alloc | apply pw_below_drewN | apply below_drew1) | exact HB.out)) hb); clear HO103; clear HB; have HO103 := n0_; have HO106 := n1_; have HB := n2_; clear n0_ n1_ n2_; clear hb ho57; obtain ⟨Ao58, co58, eo58⟩ := Kd.R_slice HO106.out; subst eo58) | ((with_reducible refine gate_dst (N := 9) rfl ?_); (try (refine gate_guard (by rfl) ?_; dsimp only)); refine Kd.N_lit k31 _ 31 ?hg (N' := 9) ?hd (xs := ([(⟨(⟨#[97]⟩ : ByteArray), y101⟩ : S31), (⟨(⟨#[98]⟩ : ByteArray), ([] : List Int)⟩ : S31), (⟨(⟨#[99]⟩ : ByteArray), y104⟩ : S31)] : List (S31))) (inner := [.string (⟨#[97]⟩ : ByteArray), .slice Ao55 y101.length co55, .string (⟨#[98]⟩ : ByteArray), .slice none 0 0, .string (⟨#[99]⟩ : ByteArray), .slice Ao58 y104.length co58]) (ok := (fun _ => True)) (okp := (fun _ => True)) ?hr ?hp (fun _ hk => hk) ((show ∀ k_, w56.heap.size ≤ k_ → (fun _ => True) k_ from fun k_ hk => trivial) _ (Nat.le_refl _)) (Below.refl _ _) (Nat.le_refl _) (by simp) ?_; (case hd => rfl); (case hg => rfl); (case hr => first | (go_simp; done) | (go_simp; rfl)); (case hp => exact (Reps.c2 (show Kd.FK k31 _ _ (⟨(⟨#[97]⟩ : ByteArray), y101⟩ : S31) [.string (⟨#[97]⟩ : ByteArray), .slice Ao55 y101.length co55] from (k31_mkF _ _ (⟨(⟨#[97]⟩ : ByteArray), y101⟩ : S31) (Kd.R_reads' (Kd.R_mono (ok' := (fun _ => True)) (HO103.out) (fun k_ hk => trivial))).2.1 (Kd.R_F (Kd.R_mono (ok' := (fun _ => True)) (HO103.out) (fun k_ hk => trivial))))) (Reps.c2 (show Kd.FK k31 _ _ (⟨(⟨#[98]⟩ : ByteArray), ([] : List Int)⟩ : S31) [.string (⟨#[98]⟩ : ByteArray), .slice none 0 0] from (k31_mkF _ _ (⟨(⟨#[98]⟩ : ByteArray), ([] : List Int)⟩ : S31) (Nat.le_refl _) (Kd.F_nil _ _ _))) (Reps.c2 (show Kd.FK k31 _ _ (⟨(⟨#[99]⟩ : ByteArray), y104⟩ : S31) [.string (⟨#[99]⟩ : ByteArray), .slice Ao58 y104.length co58] from (k31_mkF _ _ (⟨(⟨#[99]⟩ : ByteArray), y104⟩ : S31) (Kd.R_reads' (Kd.R_mono (ok' := (fun _ => True)) (HO106.out) (fun k_ hk => trivial))).2.1 (Kd.R_F (Kd.R_mono (ok' := (fun _ => True)) (HO106.out) (fun k_ hk => trivial))))) (Reps.none _ _))))); intro v108 w59 ho60 hb hg_ hnew_; clear hg_ hnew_; (first | rw [← Ny107.out] at ho60 | (simp only [Int.reduceToNat] at ho60; rw [← Ny107.out] at ho60)); have n0_ := Aside0.mk (Kd.N_lower ho60 (below_size (by repeat (first | (with_reducible first | exact HB.out | apply below_alloc | apply pw_below_drewN | apply below_drew1) | exact HB.out)))); have n1_ := Aside0.mk (below_step (by repeat (first | (with_reducible first | exact HB.out | apply below_alloc | apply pw_below_drewN | apply below_drew1) | exact HB.out)) hb); clear HB; clear HO103; clear HO106; have HO109 := n0_; have HB := n1_; clear n0_ n1_; clear hb ho60; obtain ⟨Ao61, co61, eo61⟩ := Kd.N_slice HO109.out; subst eo61) | ((with_reducible refine gate_callee (f := 16) rfl ?_); refine goesL_ (some 10) rfl rfl Try.func16 (by kernel_rfl) rfl #[.slice Ao61 y107.length co61] rfl (by (try simp only [List.map_toArray, List.map_cons, List.map_nil]); first | done | rfl | (simp only [List.length_drop, List.length_take]; rfl)) ?_; (with_reducible refine (graph_Order.calls _ _ y107 t110 t111 _ ?side1 ?side2 A1.out).mono ?_); (case side1 => repeat (first | exact (Kd.N_reads' HO109.out).2.2 | (with_reducible refine Kd.C_alloc ?_ _) | (with_reducible refine Kd.C_drewN ?_ _) | (with_reducible refine Kd.C_drew ?_))); (case side2 => exact (Kd.N_reads' HO109.out).2.1); rintro e w62 ⟨v112, rfl, ho0, hb⟩; refine ⟨_, rfl, ?_⟩; have n0_ := Aside0.mk (Kd.N_elder' (by (with_reducible repeat (first | apply Kd.N_alloc | apply Kd.N_drewN | apply Kd.N_drew)); exact HO109.out) (Kd.R_base ho0) hb); have n1_ := Aside0.mk (Kd.R_lower ho0 (below_size (by repeat (first | (with_reducible first | exact HB.out | apply below_alloc | apply pw_below_drewN | apply below_drew1) | exact HB.out)))); have n2_ := Aside0.mk (below_step (by repeat (first | (with_reducible first | exact HB.out | apply below_alloc | apply pw_below_drewN | apply below_drew1) | exact HB.out)) hb); clear HO109; clear HB; have HO109 := n0_; have HO113 := n1_; have HB := n2_; clear n0_ n1_ n2_; (try clear hb); (try clear hb2); (try clear hk); (try clear hi); (try clear ho0)))
    go_ret
    exact ⟨by first | rfl | (simp [errW_none, errW_some] <;> rfl) | (simp [*, errW_none, errW_some] <;> rfl), by repeat (first | (with_reducible first | exact HB.out | apply below_alloc | apply pw_below_drewN | apply below_drew1) | exact HB.out)⟩

/-! ### carlingref21_Light: function 15 -/
def carlingref21_Light.l0 : Nat → List (S31) → Int → Option (Bool)
  | 0, _, _ => none
  | k + 1, x0, x3 => if x3 < (x0.length : Int) then (if 0 ≤ x3 then (if (((rd_T31 x0 x3).f0).size : Int) > 100 then (some false) else (if (((rd_T31 x0 x3).f1).length : Int) > 100 then (some false) else (carlingref21_Light.l0 k x0 (wrap64 (x3 + 1))))) else (none)) else (some true)
def carlingref21_Light.f (k : Nat) (l0 : List (S31)) : Option (Bool) := if (l0.length : Int) > 60 then (some false) else (carlingref21_Light.l0 k l0 0)
theorem carlingref21_Light.mono_l : ∀ k, (∀ y0 y1, LeO (carlingref21_Light.l0 k y0 y1) (carlingref21_Light.l0 (k + 1) y0 y1))
  | 0 => fun _ _ r h => by simp [carlingref21_Light.l0] at h
  | k + 1 => by
    have ih0 := carlingref21_Light.mono_l k
    · intro y0 y1
      unfold carlingref21_Light.l0
      repeat' first
      | (with_reducible exact ih0 _ _)
      | (with_reducible exact LeO.refl _)
      | (with_reducible exact LeO.none _)
      | (with_reducible refine LeO.ite ?_ ?_)
      | (with_reducible refine LeO.bind ?_ (fun _ => ?_))
      | exact ih0 _ _
      | exact LeO.none _
      | refine LeO.ite ?_ ?_
      | refine LeO.bind ?_ (fun _ => ?_)
theorem carlingref21_Light.mono : ∀ a0 k, LeO (carlingref21_Light.f k a0) (carlingref21_Light.f (k + 1) a0) := by
  intro a0 k
  have ih0 := carlingref21_Light.mono_l k
  unfold carlingref21_Light.f
  repeat' first
      | (with_reducible exact ih0 _ _)
      | (with_reducible exact LeO.refl _)
      | (with_reducible exact LeO.none _)
      | (with_reducible refine LeO.ite ?_ ?_)
      | (with_reducible refine LeO.bind ?_ (fun _ => ?_))
      | exact ih0 _ _
      | exact LeO.none _
      | refine LeO.ite ?_ ?_
      | refine LeO.bind ?_ (fun _ => ?_)
set_option maxHeartbeats 8000000 in
set_option maxRecDepth 100000 in
theorem carlingref21_Light.calls (k : Nat) (A0 : Option Addr) (c0 : Nat) (l0 : List (S31)) (r : Bool) (w : World) (hr0 : Kd.C k31 w A0 l0.length l0) (hc0 : l0.length ≤ c0) (h : carlingref21_Light.f k l0 = some r) :
    Calls Try.prog 15 #[.slice A0 l0.length c0] w fun e w' => e = .returned (.bool r) ∧ Drawn0 w w' := by
  have HR0 := Aside0.mk hr0
  have HC0 := Aside0.mk hc0
  clear hr0 hc0
  have H : (if (l0.length : Int) > 60 then (some false) else (carlingref21_Light.l0 k l0 0)) = some r := h
  clear h
  by_cases c2 : (l0.length : Int) > 60
  · rw [if_pos c2] at H
    have c2b0 : decide (60 < (l0.length : Int)) = true := decide_eq_true c2
    have c2b1 : decide (60 < l0.length) = true := decide_eq_true (by omega)
    clear c2
    obtain rfl := Option.some.inj H
    go_enter Try.func15, Try.ntmps15
    go_wp2
    go_ret
    exact ⟨by first | rfl | (simp; done) | (simp [*]; done), by repeat (first | exact Drawn0.refl _ | apply Drawn0.step)⟩
  · rw [if_neg c2] at H
    have c2b0 : decide (60 < (l0.length : Int)) = false := decide_eq_false c2
    have c2b1 : decide (60 < l0.length) = false := decide_eq_false (by omega)
    clear c2
    have H' := Aside0.mk H
    clear H
    go_enter Try.func15, Try.ntmps15
    go_wp2
    go_loopg [3] k (fun kq v3 w' => ∃ (x3_1 : Int), v3 = .int .i64 x3_1 ∧ Aside0 (carlingref21_Light.l0 kq l0 x3_1 = some r) ∧ Aside0 (kq ≤ k) ∧ Drawn0 w w')
    case atStart => exact ⟨(0), (by first | rfl | (simp; done) | (simp [*]; done)), H', ⟨Nat.le_refl _⟩, by repeat (first | exact Drawn0.refl _ | apply Drawn0.step)⟩
    case round =>
      clear H'
      try clear c1
      try clear c2
      try clear c2b0
      try clear c2b1
      try clear p2
      obtain ⟨x3_1, rfl, HA, HK1, ⟨m1, rfl⟩⟩ := hrel
      cases gk with
      | zero => exact absurd HA.out (by simp [carlingref21_Light.l0])
      | succ k1 =>
        have H := HA.out
        clear HA
        simp only [carlingref21_Light.l0] at H
        by_cases c3 : x3_1 < (l0.length : Int)
        · rw [if_pos c3] at H
          have c3b0 : decide (x3_1 < (l0.length : Int)) = true := decide_eq_true c3
          clear c3
          by_cases c4 : 0 ≤ x3_1
          · rw [if_pos c4] at H
            have c4b0 : decide (0 ≤ x3_1) = true := decide_eq_true c4
            clear c4
            by_cases c5 : (((rd_T31 l0 x3_1).f0).size : Int) > 100
            · rw [if_pos c5] at H
              have c5b0 : decide (100 < (((rd_T31 l0 x3_1).f0).size : Int)) = true := decide_eq_true c5
              have c5b1 : decide (100 < ((rd_T31 l0 x3_1).f0).size) = true := decide_eq_true (by omega)
              clear c5
              obtain rfl := Option.some.inj H
              have p117 : 0 ≤ (x3_1 : Int) := of_decide_eq_true (by first | (with_reducible assumption) | assumption)
              have q117 : x3_1 < (l0.length : Int) := of_decide_eq_true (by first | (with_reducible assumption) | assumption)
              obtain ⟨ad117, A117_1, c117_1, e117, hx117_0, hx117_1, hl117_1, hi117_1⟩ := at_T31 HR0.out x3_1 p117 q117
              cases e117
              have HR117_1 := Aside0.mk hi117_1
              have HC117_1 := Aside0.mk hl117_1
              clear hi117_1 hl117_1
              replace p117 := eq_true p117
              replace q117 := eq_true q117
              go_wp2
              go_ret
              exact ⟨by first | rfl | (simp; done) | (simp [*]; done), by repeat (first | exact Drawn0.refl _ | apply Drawn0.step)⟩
            · rw [if_neg c5] at H
              have c5b0 : decide (100 < (((rd_T31 l0 x3_1).f0).size : Int)) = false := decide_eq_false c5
              have c5b1 : decide (100 < ((rd_T31 l0 x3_1).f0).size) = false := decide_eq_false (by omega)
              clear c5
              by_cases c6 : (((rd_T31 l0 x3_1).f1).length : Int) > 100
              · rw [if_pos c6] at H
                have c6b0 : decide (100 < (((rd_T31 l0 x3_1).f1).length : Int)) = true := decide_eq_true c6
                have c6b1 : decide (100 < ((rd_T31 l0 x3_1).f1).length) = true := decide_eq_true (by omega)
                clear c6
                obtain rfl := Option.some.inj H
                have p117 : 0 ≤ (x3_1 : Int) := of_decide_eq_true (by first | (with_reducible assumption) | assumption)
                have q117 : x3_1 < (l0.length : Int) := of_decide_eq_true (by first | (with_reducible assumption) | assumption)
                obtain ⟨ad117, A117_1, c117_1, e117, hx117_0, hx117_1, hl117_1, hi117_1⟩ := at_T31 HR0.out x3_1 p117 q117
                cases e117
                have HR117_1 := Aside0.mk hi117_1
                have HC117_1 := Aside0.mk hl117_1
                clear hi117_1 hl117_1
                replace p117 := eq_true p117
                replace q117 := eq_true q117
                have p118 : 0 ≤ (x3_1 : Int) := of_decide_eq_true (by first | (with_reducible assumption) | assumption)
                have q118 : x3_1 < (l0.length : Int) := of_decide_eq_true (by first | (with_reducible assumption) | assumption)
                obtain ⟨ad118, A118_1, c118_1, e118, hx118_0, hx118_1, hl118_1, hi118_1⟩ := at_T31 HR0.out x3_1 p118 q118
                obtain rfl : ad117 = ad118 := (by injection e118)
                have HR118_1 := Aside0.mk hi118_1
                have HC118_1 := Aside0.mk hl118_1
                clear hi118_1 hl118_1
                replace p118 := eq_true p118
                replace q118 := eq_true q118
                have ea_ := Option.some.inj (hx117_1.symm.trans hx118_1)
                injection ea_ with ea_ en_ ec_
                subst ea_
                subst ec_
                clear en_
                go_wp2
                go_ret
                exact ⟨by first | rfl | (simp; done) | (simp [*]; done), by repeat (first | exact Drawn0.refl _ | apply Drawn0.step)⟩
              · rw [if_neg c6] at H
                have c6b0 : decide (100 < (((rd_T31 l0 x3_1).f1).length : Int)) = false := decide_eq_false c6
                have c6b1 : decide (100 < ((rd_T31 l0 x3_1).f1).length) = false := decide_eq_false (by omega)
                clear c6
                have H' := Aside0.mk H
                clear H
                have p117 : 0 ≤ (x3_1 : Int) := of_decide_eq_true (by first | (with_reducible assumption) | assumption)
                have q117 : x3_1 < (l0.length : Int) := of_decide_eq_true (by first | (with_reducible assumption) | assumption)
                obtain ⟨ad117, A117_1, c117_1, e117, hx117_0, hx117_1, hl117_1, hi117_1⟩ := at_T31 HR0.out x3_1 p117 q117
                cases e117
                have HR117_1 := Aside0.mk hi117_1
                have HC117_1 := Aside0.mk hl117_1
                clear hi117_1 hl117_1
                replace p117 := eq_true p117
                replace q117 := eq_true q117
                have p118 : 0 ≤ (x3_1 : Int) := of_decide_eq_true (by first | (with_reducible assumption) | assumption)
                have q118 : x3_1 < (l0.length : Int) := of_decide_eq_true (by first | (with_reducible assumption) | assumption)
                obtain ⟨ad118, A118_1, c118_1, e118, hx118_0, hx118_1, hl118_1, hi118_1⟩ := at_T31 HR0.out x3_1 p118 q118
                obtain rfl : ad117 = ad118 := (by injection e118)
                have HR118_1 := Aside0.mk hi118_1
                have HC118_1 := Aside0.mk hl118_1
                clear hi118_1 hl118_1
                replace p118 := eq_true p118
                replace q118 := eq_true q118
                have ea_ := Option.some.inj (hx117_1.symm.trans hx118_1)
                injection ea_ with ea_ en_ ec_
                subst ea_
                subst ec_
                clear en_
                go_wp2
                go_roundg k1
                case measure => have := HK1.out; omega
                case rel => exact ⟨(wrap64 (x3_1 + 1)), (by first | rfl | (simp; done) | (simp [*]; done)), H', ⟨by have := HK1.out; omega⟩, by repeat (first | exact Drawn0.refl _ | apply Drawn0.step)⟩
          · rw [if_neg c4] at H
            exact absurd H (by simp)
        · rw [if_neg c3] at H
          have c3b0 : decide (x3_1 < (l0.length : Int)) = false := decide_eq_false c3
          clear c3
          obtain rfl := Option.some.inj H
          go_wp2
          go_ret
          exact ⟨by first | rfl | (simp; done) | (simp [*]; done), by repeat (first | exact Drawn0.refl _ | apply Drawn0.step)⟩

/-! ### carlingref21_Ready: function 20 -/
mutual
def carlingref21_Ready.l0 : Nat → List (S31) → List Bool → List Int → Int → Option (List Int)
  | 0, _, _, _, _ => none
  | k + 1, x0, x1, x5, x6 => if x6 < (x0.length : Int) then (if x6 < (x1.length : Int) then (if 0 ≤ x6 then (carlingref21_Ready.j1 k x0 x1 x5 x6 (!(rdOf false x1 x6))) else (none)) else (carlingref21_Ready.j1 k x0 x1 x5 x6 (!false))) else (some x5)
def carlingref21_Ready.j1 : Nat → List (S31) → List Bool → List Int → Int → Bool → Option (List Int)
  | 0, _, _, _, _, _ => none
  | k + 1, x0, x1, x5, x6, x7 => carlingref21_Ready.l1 k x0 x1 x5 x6 x7 0
def carlingref21_Ready.l1 : Nat → List (S31) → List Bool → List Int → Int → Bool → Int → Option (List Int)
  | 0, _, _, _, _, _, _ => none
  | k + 1, x0, x1, x5, x6, x7, x8 => if 0 ≤ x6 then (if x6 < (x0.length : Int) then (if x8 < (((rd_T31 x0 x6).f1).length : Int) then (if 0 ≤ x8 then (if (rd ((rd_T31 x0 x6).f1) x8) < 0 then (carlingref21_Ready.l1 k x0 x1 x5 x6 false (wrap64 (x8 + 1))) else (if (rd ((rd_T31 x0 x6).f1) x8) ≥ (x0.length : Int) then (carlingref21_Ready.l1 k x0 x1 x5 x6 false (wrap64 (x8 + 1))) else (if (rd ((rd_T31 x0 x6).f1) x8) ≥ (x1.length : Int) then (carlingref21_Ready.l1 k x0 x1 x5 x6 false (wrap64 (x8 + 1))) else (if 0 ≤ (rd ((rd_T31 x0 x6).f1) x8) then (if (rd ((rd_T31 x0 x6).f1) x8) < (x1.length : Int) then (if (rdOf false x1 (rd ((rd_T31 x0 x6).f1) x8) = true) then (carlingref21_Ready.l1 k x0 x1 x5 x6 x7 (wrap64 (x8 + 1))) else (carlingref21_Ready.l1 k x0 x1 x5 x6 false (wrap64 (x8 + 1)))) else (none)) else (none))))) else (none)) else (if x7 = true then (if x5.length < 17592186044416 then (carlingref21_Ready.l0 k x0 x1 (x5 ++ [x6]) (wrap64 (x6 + 1))) else (none)) else (carlingref21_Ready.l0 k x0 x1 x5 (wrap64 (x6 + 1))))) else (none)) else (none)
end
def carlingref21_Ready.f (k : Nat) (l0 : List (S31)) (l1 : List Bool) : Option (List Int) := carlingref21_Ready.l0 k l0 l1 ([] : List Int) 0
theorem carlingref21_Ready.mono_l : ∀ k, (∀ y0 y1 y2 y3, LeO (carlingref21_Ready.l0 k y0 y1 y2 y3) (carlingref21_Ready.l0 (k + 1) y0 y1 y2 y3)) ∧ (∀ y0 y1 y2 y3 y4, LeO (carlingref21_Ready.j1 k y0 y1 y2 y3 y4) (carlingref21_Ready.j1 (k + 1) y0 y1 y2 y3 y4)) ∧ (∀ y0 y1 y2 y3 y4 y5, LeO (carlingref21_Ready.l1 k y0 y1 y2 y3 y4 y5) (carlingref21_Ready.l1 (k + 1) y0 y1 y2 y3 y4 y5))
  | 0 => ⟨fun _ _ _ _ r h => by simp [carlingref21_Ready.l0] at h, fun _ _ _ _ _ r h => by simp [carlingref21_Ready.j1] at h, fun _ _ _ _ _ _ r h => by simp [carlingref21_Ready.l1] at h⟩
  | k + 1 => by
    obtain ⟨ih0, ih1, ih2⟩ := carlingref21_Ready.mono_l k
    refine ⟨?_, ?_, ?_⟩
    · intro y0 y1 y2 y3
      unfold carlingref21_Ready.l0
      repeat' first
      | (with_reducible exact ih0 _ _ _ _)
      | (with_reducible exact ih1 _ _ _ _ _)
      | (with_reducible exact ih2 _ _ _ _ _ _)
      | (with_reducible exact LeO.refl _)
      | (with_reducible exact LeO.none _)
      | (with_reducible refine LeO.ite ?_ ?_)
      | (with_reducible refine LeO.bind ?_ (fun _ => ?_))
      | exact ih0 _ _ _ _
      | exact ih1 _ _ _ _ _
      | exact ih2 _ _ _ _ _ _
      | exact LeO.none _
      | refine LeO.ite ?_ ?_
      | refine LeO.bind ?_ (fun _ => ?_)
    · intro y0 y1 y2 y3 y4
      unfold carlingref21_Ready.j1
      repeat' first
      | (with_reducible exact ih0 _ _ _ _)
      | (with_reducible exact ih1 _ _ _ _ _)
      | (with_reducible exact ih2 _ _ _ _ _ _)
      | (with_reducible exact LeO.refl _)
      | (with_reducible exact LeO.none _)
      | (with_reducible refine LeO.ite ?_ ?_)
      | (with_reducible refine LeO.bind ?_ (fun _ => ?_))
      | exact ih0 _ _ _ _
      | exact ih1 _ _ _ _ _
      | exact ih2 _ _ _ _ _ _
      | exact LeO.none _
      | refine LeO.ite ?_ ?_
      | refine LeO.bind ?_ (fun _ => ?_)
    · intro y0 y1 y2 y3 y4 y5
      unfold carlingref21_Ready.l1
      repeat' first
      | (with_reducible exact ih0 _ _ _ _)
      | (with_reducible exact ih1 _ _ _ _ _)
      | (with_reducible exact ih2 _ _ _ _ _ _)
      | (with_reducible exact LeO.refl _)
      | (with_reducible exact LeO.none _)
      | (with_reducible refine LeO.ite ?_ ?_)
      | (with_reducible refine LeO.bind ?_ (fun _ => ?_))
      | exact ih0 _ _ _ _
      | exact ih1 _ _ _ _ _
      | exact ih2 _ _ _ _ _ _
      | exact LeO.none _
      | refine LeO.ite ?_ ?_
      | refine LeO.bind ?_ (fun _ => ?_)
theorem carlingref21_Ready.mono : ∀ a0 a1 k, LeO (carlingref21_Ready.f k a0 a1) (carlingref21_Ready.f (k + 1) a0 a1) := by
  intro a0 a1 k
  obtain ⟨ih0, ih1, ih2⟩ := carlingref21_Ready.mono_l k
  unfold carlingref21_Ready.f
  repeat' first
      | (with_reducible exact ih0 _ _ _ _)
      | (with_reducible exact ih1 _ _ _ _ _)
      | (with_reducible exact ih2 _ _ _ _ _ _)
      | (with_reducible exact LeO.refl _)
      | (with_reducible exact LeO.none _)
      | (with_reducible refine LeO.ite ?_ ?_)
      | (with_reducible refine LeO.bind ?_ (fun _ => ?_))
      | exact ih0 _ _ _ _
      | exact ih1 _ _ _ _ _
      | exact ih2 _ _ _ _ _ _
      | exact LeO.none _
      | refine LeO.ite ?_ ?_
      | refine LeO.bind ?_ (fun _ => ?_)
set_option maxHeartbeats 8000000 in
set_option maxRecDepth 100000 in
theorem carlingref21_Ready.calls (k : Nat) (A0 : Option Addr) (c0 : Nat) (l0 : List (S31)) (A1 : Option Addr) (c1 : Nat) (l1 : List Bool) (r : List Int) (w : World) (hr0 : Kd.C k31 w A0 l0.length l0) (hc0 : l0.length ≤ c0) (hr1 : Kd.C Kd.bool w A1 l1.length l1) (hc1 : l1.length ≤ c1) (h : carlingref21_Ready.f k l0 l1 = some r) :
    Calls Try.prog 20 #[.slice A0 l0.length c0, .slice A1 l1.length c1] w fun e w' => ∃ v0_ : Value, e = .returned (v0_) ∧ Kd.R (Kd.int .i64) 3 w' w.heap.size (fun _ => True) v0_ r ∧ Below w.heap.size w w' := by
  have HR0 := Aside0.mk hr0
  have HC0 := Aside0.mk hc0
  clear hr0 hc0
  have HR1 := Aside0.mk hr1
  have HC1 := Aside0.mk hc1
  clear hr1 hc1
  have HB := Aside0.mk (Below.refl w.heap.size w)
  have H : (carlingref21_Ready.l0 k l0 l1 ([] : List Int) 0) = some r := h
  clear h
  have H' := Aside0.mk H
  clear H
  go_enter Try.func20, Try.ntmps20
  go_wp2
  go_loopg [5, 6] k (fun kq v5 v6 w' => ∃ (x5_1 : List Int) (x6_1 : Int), v6 = .int .i64 x6_1 ∧ Aside0 (carlingref21_Ready.l0 kq l0 l1 x5_1 x6_1 = some r) ∧ Aside0 (kq ≤ k) ∧ Aside0 (Kd.R (Kd.int .i64) 3 w' w.heap.size (fun _ => True) v5 x5_1) ∧ Aside0 (Below w.heap.size w w'))
  case atStart => exact ⟨(([] : List Int)), (0), (by first | rfl | (simp; done) | (simp [*]; done)), H', ⟨Nat.le_refl _⟩, ⟨by first | exact Kd.R_nil _ _ _ _ _ | exact Kd.N_nil _ _ _ _ _ | exact Kd.V_nil _ _ _ _ _ | exact Kd.Q_nil _ _ _ _ _ | exact Kd.S_nil _ _ _ _ _⟩, ⟨by repeat (first | (with_reducible first | exact HB.out | apply below_alloc | apply pw_below_drewN | apply below_drew1) | exact HB.out)⟩⟩
  case round =>
    clear H'
    try clear c1
    try clear c2
    try clear p2
    obtain ⟨x5_1, x6_1, rfl, HA, HK1, HO_5, HB⟩ := hrel
    cases gk with
    | zero => exact absurd HA.out (by simp [carlingref21_Ready.l0])
    | succ k1 =>
      have H := HA.out
      clear HA
      simp only [carlingref21_Ready.l0] at H
      by_cases c3 : x6_1 < (l0.length : Int)
      · rw [if_pos c3] at H
        have c3b0 : decide (x6_1 < (l0.length : Int)) = true := decide_eq_true c3
        clear c3
        have HC4 := Aside0.mk H
        clear H
        go_upto_region 5 with (fail)
        go_cut [7] (fun v7 wc => ∃ (kq : Nat) (x7_3 : Bool), v7 = .bool x7_3 ∧ Aside0 (carlingref21_Ready.j1 kq l0 l1 x5_1 x6_1 x7_3 = some r) ∧ Aside0 (kq ≤ k1) ∧ Aside0 (Kd.R (Kd.int .i64) 3 wc w.heap.size (fun _ => True) u5 x5_1) ∧ Aside0 (Below w.heap.size w wc))
        case first =>
          have H := HC4.out
          clear HC4
          by_cases c5 : x6_1 < (l1.length : Int)
          · rw [if_pos c5] at H
            have c5b0 : decide (x6_1 < (l1.length : Int)) = true := decide_eq_true c5
            clear c5
            (first | rw [c5b0] | (simp only [i64_w, i32_w]; rw [c5b0]) | skip)
            by_cases c6 : 0 ≤ x6_1
            · rw [if_pos c6] at H
              have c6b0 : decide (0 ≤ x6_1) = true := decide_eq_true c6
              clear c6
              have H' := Aside0.mk H
              clear H
              have p119 : 0 ≤ (x6_1 : Int) := of_decide_eq_true (by first | (with_reducible assumption) | assumption)
              have q119 : x6_1 < (l1.length : Int) := of_decide_eq_true (by first | (with_reducible assumption) | assumption)
              obtain ⟨ad119, e119, hx119_0⟩ := Kd.at_bool HR1.out x6_1 p119 q119
              cases e119
              replace hx119_0 := (HB.out.cell (World.block_lt_of_cell? w _ hx119_0)).trans hx119_0
              replace p119 := eq_true p119
              replace q119 := eq_true q119
              go_wp2
              go_meet
              case rel => exact ⟨_, (!(rdOf false l1 x6_1)), (by first | rfl | (simp; done) | (simp [*]; done)), H', ⟨by have := HK1.out; first | omega | exact Nat.le_refl _⟩, ⟨by (with_reducible repeat (first | apply Kd.R_alloc | apply Kd.R_drewN | apply Kd.R_drew)); exact HO_5.out⟩, ⟨by repeat (first | (with_reducible first | exact HB.out | apply below_alloc | apply pw_below_drewN | apply below_drew1) | exact HB.out)⟩⟩
            · rw [if_neg c6] at H
              exact absurd H (by simp)
          · rw [if_neg c5] at H
            have c5b0 : decide (x6_1 < (l1.length : Int)) = false := decide_eq_false c5
            clear c5
            (first | rw [c5b0] | (simp only [i64_w, i32_w]; rw [c5b0]) | skip)
            have H' := Aside0.mk H
            clear H
            go_wp2
            go_meet
            case rel => exact ⟨_, (!false), (by first | rfl | (simp; done) | (simp [*]; done)), H', ⟨by have := HK1.out; first | omega | exact Nat.le_refl _⟩, ⟨by (with_reducible repeat (first | apply Kd.R_alloc | apply Kd.R_drewN | apply Kd.R_drew)); exact HO_5.out⟩, ⟨by repeat (first | (with_reducible first | exact HB.out | apply below_alloc | apply pw_below_drewN | apply below_drew1) | exact HB.out)⟩⟩
        case rest =>
          clear HC4
          try clear c1
          try clear p1
          try clear q1
          try clear hx1
          try clear c2
          try clear p2
          try clear c3
          try clear c3b0
          try clear c5
          try clear c5b0
          try clear c6
          try clear c6b0
          try clear hx119_0
          try clear p119
          try clear p2
          try clear q119
          obtain ⟨kq, x7_3, rfl, HA, HJ3, HO_5, HB⟩ := hcut
          cases kq with
          | zero => exact absurd HA.out (by simp [carlingref21_Ready.j1])
          | succ kj3 =>
            have H := HA.out
            clear HA
            simp only [carlingref21_Ready.j1] at H
            have H' := Aside0.mk H
            clear H
            go_wp2
            go_loopg [7, 8] kj3 (fun kq v7 v8 w' => ∃ (x7_3 : Bool) (x8_3 : Int), v7 = .bool x7_3 ∧ v8 = .int .i64 x8_3 ∧ Aside0 (carlingref21_Ready.l1 kq l0 l1 x5_1 x6_1 x7_3 x8_3 = some r) ∧ Aside0 (kq ≤ kj3) ∧ Aside0 (Kd.R (Kd.int .i64) 3 w' w.heap.size (fun _ => True) u5 x5_1) ∧ Aside0 (Below w.heap.size w w'))
            case atStart => exact ⟨(x7_3), (0), (by first | rfl | (simp; done) | (simp [*]; done)), (by first | rfl | (simp; done) | (simp [*]; done)), H', ⟨Nat.le_refl _⟩, ⟨by (with_reducible repeat (first | apply Kd.R_alloc | apply Kd.R_drewN | apply Kd.R_drew)); exact HO_5.out⟩, ⟨by repeat (first | (with_reducible first | exact HB.out | apply below_alloc | apply pw_below_drewN | apply below_drew1) | exact HB.out)⟩⟩
            case round =>
              clear H'
              try clear c1
              try clear p1
              try clear q1
              try clear hx1
              try clear c2
              try clear p2
              try clear c3
              try clear c3b0
              try clear c5
              try clear c5b0
              try clear c6
              try clear c6b0
              try clear hx119_0
              try clear p1
              try clear p119
              try clear p2
              try clear q1
              try clear q119
              obtain ⟨x7_3, x8_3, rfl, rfl, HA, HK3, HO_5, HB⟩ := hrel
              cases gk with
              | zero => exact absurd HA.out (by simp [carlingref21_Ready.l1])
              | succ k3 =>
                have H := HA.out
                clear HA
                simp only [carlingref21_Ready.l1] at H
                by_cases c7 : 0 ≤ x6_1
                · rw [if_pos c7] at H
                  have c7b0 : decide (0 ≤ x6_1) = true := decide_eq_true c7
                  clear c7
                  by_cases c8 : x6_1 < (l0.length : Int)
                  · rw [if_pos c8] at H
                    have c8b0 : decide (x6_1 < (l0.length : Int)) = true := decide_eq_true c8
                    clear c8
                    by_cases c9 : x8_3 < (((rd_T31 l0 x6_1).f1).length : Int)
                    · rw [if_pos c9] at H
                      have c9b0 : decide (x8_3 < (((rd_T31 l0 x6_1).f1).length : Int)) = true := decide_eq_true c9
                      clear c9
                      by_cases c10 : 0 ≤ x8_3
                      · rw [if_pos c10] at H
                        have c10b0 : decide (0 ≤ x8_3) = true := decide_eq_true c10
                        clear c10
                        by_cases c11 : (rd ((rd_T31 l0 x6_1).f1) x8_3) < 0
                        · rw [if_pos c11] at H
                          have c11b0 : decide ((rd ((rd_T31 l0 x6_1).f1) x8_3) < 0) = true := decide_eq_true c11
                          clear c11
                          have H' := Aside0.mk H
                          clear H
                          have p120 : 0 ≤ (x6_1 : Int) := of_decide_eq_true (by first | (with_reducible assumption) | assumption)
                          have q120 : x6_1 < (l0.length : Int) := of_decide_eq_true (by first | (with_reducible assumption) | assumption)
                          obtain ⟨ad120, A120_1, c120_1, e120, hx120_0, hx120_1, hl120_1, hi120_1⟩ := at_T31 HR0.out x6_1 p120 q120
                          cases e120
                          replace hx120_0 := (HB.out.cell (World.block_lt_of_cell? w _ hx120_0)).trans hx120_0
                          replace hx120_1 := (HB.out.cell (World.block_lt_of_cell? w _ hx120_1)).trans hx120_1
                          have HR120_1 := Aside0.mk hi120_1
                          have HC120_1 := Aside0.mk hl120_1
                          clear hi120_1 hl120_1
                          replace p120 := eq_true p120
                          replace q120 := eq_true q120
                          have p121 : 0 ≤ (x6_1 : Int) := of_decide_eq_true (by first | (with_reducible assumption) | assumption)
                          have q121 : x6_1 < (l0.length : Int) := of_decide_eq_true (by first | (with_reducible assumption) | assumption)
                          obtain ⟨ad121, A121_1, c121_1, e121, hx121_0, hx121_1, hl121_1, hi121_1⟩ := at_T31 HR0.out x6_1 p121 q121
                          obtain rfl : ad120 = ad121 := (by injection e121)
                          replace hx121_0 := (HB.out.cell (World.block_lt_of_cell? w _ hx121_0)).trans hx121_0
                          replace hx121_1 := (HB.out.cell (World.block_lt_of_cell? w _ hx121_1)).trans hx121_1
                          have HR121_1 := Aside0.mk hi121_1
                          have HC121_1 := Aside0.mk hl121_1
                          clear hi121_1 hl121_1
                          replace p121 := eq_true p121
                          replace q121 := eq_true q121
                          have ea_ := Option.some.inj (hx120_1.symm.trans hx121_1)
                          injection ea_ with ea_ en_ ec_
                          subst ea_
                          subst ec_
                          clear en_
                          have p122 : 0 ≤ (x8_3 : Int) := of_decide_eq_true (by first | (with_reducible assumption) | assumption)
                          have q122 : x8_3 < (((rd_T31 l0 x6_1).f1).length : Int) := of_decide_eq_true (by first | (with_reducible assumption) | assumption)
                          obtain ⟨ad122, e122, hx122_0⟩ := Kd.at_int HR121_1.out x8_3 p122 q122
                          cases e122
                          replace hx122_0 := (HB.out.cell (World.block_lt_of_cell? w _ hx122_0)).trans hx122_0
                          replace p122 := eq_true p122
                          replace q122 := eq_true q122
                          go_wp2
                          go_roundg k3
                          case measure => have := HK1.out; have := HJ3.out; have := HK3.out; omega
                          case rel => exact ⟨(false), (wrap64 (x8_3 + 1)), (by first | rfl | (simp; done) | (simp [*]; done)), (by first | rfl | (simp; done) | (simp [*]; done)), H', ⟨by have := HK1.out; have := HJ3.out; have := HK3.out; omega⟩, ⟨by (with_reducible repeat (first | apply Kd.R_alloc | apply Kd.R_drewN | apply Kd.R_drew)); exact HO_5.out⟩, ⟨by repeat (first | (with_reducible first | exact HB.out | apply below_alloc | apply pw_below_drewN | apply below_drew1) | exact HB.out)⟩⟩
                        · rw [if_neg c11] at H
                          have c11b0 : decide ((rd ((rd_T31 l0 x6_1).f1) x8_3) < 0) = false := decide_eq_false c11
                          clear c11
                          by_cases c12 : (rd ((rd_T31 l0 x6_1).f1) x8_3) ≥ (l0.length : Int)
                          · rw [if_pos c12] at H
                            have c12b0 : decide ((l0.length : Int) ≤ (rd ((rd_T31 l0 x6_1).f1) x8_3)) = true := decide_eq_true c12
                            clear c12
                            have H' := Aside0.mk H
                            clear H
                            have p120 : 0 ≤ (x6_1 : Int) := of_decide_eq_true (by first | (with_reducible assumption) | assumption)
                            have q120 : x6_1 < (l0.length : Int) := of_decide_eq_true (by first | (with_reducible assumption) | assumption)
                            obtain ⟨ad120, A120_1, c120_1, e120, hx120_0, hx120_1, hl120_1, hi120_1⟩ := at_T31 HR0.out x6_1 p120 q120
                            cases e120
                            replace hx120_0 := (HB.out.cell (World.block_lt_of_cell? w _ hx120_0)).trans hx120_0
                            replace hx120_1 := (HB.out.cell (World.block_lt_of_cell? w _ hx120_1)).trans hx120_1
                            have HR120_1 := Aside0.mk hi120_1
                            have HC120_1 := Aside0.mk hl120_1
                            clear hi120_1 hl120_1
                            replace p120 := eq_true p120
                            replace q120 := eq_true q120
                            have p121 : 0 ≤ (x6_1 : Int) := of_decide_eq_true (by first | (with_reducible assumption) | assumption)
                            have q121 : x6_1 < (l0.length : Int) := of_decide_eq_true (by first | (with_reducible assumption) | assumption)
                            obtain ⟨ad121, A121_1, c121_1, e121, hx121_0, hx121_1, hl121_1, hi121_1⟩ := at_T31 HR0.out x6_1 p121 q121
                            obtain rfl : ad120 = ad121 := (by injection e121)
                            replace hx121_0 := (HB.out.cell (World.block_lt_of_cell? w _ hx121_0)).trans hx121_0
                            replace hx121_1 := (HB.out.cell (World.block_lt_of_cell? w _ hx121_1)).trans hx121_1
                            have HR121_1 := Aside0.mk hi121_1
                            have HC121_1 := Aside0.mk hl121_1
                            clear hi121_1 hl121_1
                            replace p121 := eq_true p121
                            replace q121 := eq_true q121
                            have ea_ := Option.some.inj (hx120_1.symm.trans hx121_1)
                            injection ea_ with ea_ en_ ec_
                            subst ea_
                            subst ec_
                            clear en_
                            have p122 : 0 ≤ (x8_3 : Int) := of_decide_eq_true (by first | (with_reducible assumption) | assumption)
                            have q122 : x8_3 < (((rd_T31 l0 x6_1).f1).length : Int) := of_decide_eq_true (by first | (with_reducible assumption) | assumption)
                            obtain ⟨ad122, e122, hx122_0⟩ := Kd.at_int HR121_1.out x8_3 p122 q122
                            cases e122
                            replace hx122_0 := (HB.out.cell (World.block_lt_of_cell? w _ hx122_0)).trans hx122_0
                            replace p122 := eq_true p122
                            replace q122 := eq_true q122
                            go_wp2
                            go_roundg k3
                            case measure => have := HK1.out; have := HJ3.out; have := HK3.out; omega
                            case rel => exact ⟨(false), (wrap64 (x8_3 + 1)), (by first | rfl | (simp; done) | (simp [*]; done)), (by first | rfl | (simp; done) | (simp [*]; done)), H', ⟨by have := HK1.out; have := HJ3.out; have := HK3.out; omega⟩, ⟨by (with_reducible repeat (first | apply Kd.R_alloc | apply Kd.R_drewN | apply Kd.R_drew)); exact HO_5.out⟩, ⟨by repeat (first | (with_reducible first | exact HB.out | apply below_alloc | apply pw_below_drewN | apply below_drew1) | exact HB.out)⟩⟩
                          · rw [if_neg c12] at H
                            have c12b0 : decide ((l0.length : Int) ≤ (rd ((rd_T31 l0 x6_1).f1) x8_3)) = false := decide_eq_false c12
                            clear c12
                            by_cases c13 : (rd ((rd_T31 l0 x6_1).f1) x8_3) ≥ (l1.length : Int)
                            · rw [if_pos c13] at H
                              have c13b0 : decide ((l1.length : Int) ≤ (rd ((rd_T31 l0 x6_1).f1) x8_3)) = true := decide_eq_true c13
                              clear c13
                              have H' := Aside0.mk H
                              clear H
                              have p120 : 0 ≤ (x6_1 : Int) := of_decide_eq_true (by first | (with_reducible assumption) | assumption)
                              have q120 : x6_1 < (l0.length : Int) := of_decide_eq_true (by first | (with_reducible assumption) | assumption)
                              obtain ⟨ad120, A120_1, c120_1, e120, hx120_0, hx120_1, hl120_1, hi120_1⟩ := at_T31 HR0.out x6_1 p120 q120
                              cases e120
                              replace hx120_0 := (HB.out.cell (World.block_lt_of_cell? w _ hx120_0)).trans hx120_0
                              replace hx120_1 := (HB.out.cell (World.block_lt_of_cell? w _ hx120_1)).trans hx120_1
                              have HR120_1 := Aside0.mk hi120_1
                              have HC120_1 := Aside0.mk hl120_1
                              clear hi120_1 hl120_1
                              replace p120 := eq_true p120
                              replace q120 := eq_true q120
                              have p121 : 0 ≤ (x6_1 : Int) := of_decide_eq_true (by first | (with_reducible assumption) | assumption)
                              have q121 : x6_1 < (l0.length : Int) := of_decide_eq_true (by first | (with_reducible assumption) | assumption)
                              obtain ⟨ad121, A121_1, c121_1, e121, hx121_0, hx121_1, hl121_1, hi121_1⟩ := at_T31 HR0.out x6_1 p121 q121
                              obtain rfl : ad120 = ad121 := (by injection e121)
                              replace hx121_0 := (HB.out.cell (World.block_lt_of_cell? w _ hx121_0)).trans hx121_0
                              replace hx121_1 := (HB.out.cell (World.block_lt_of_cell? w _ hx121_1)).trans hx121_1
                              have HR121_1 := Aside0.mk hi121_1
                              have HC121_1 := Aside0.mk hl121_1
                              clear hi121_1 hl121_1
                              replace p121 := eq_true p121
                              replace q121 := eq_true q121
                              have ea_ := Option.some.inj (hx120_1.symm.trans hx121_1)
                              injection ea_ with ea_ en_ ec_
                              subst ea_
                              subst ec_
                              clear en_
                              have p122 : 0 ≤ (x8_3 : Int) := of_decide_eq_true (by first | (with_reducible assumption) | assumption)
                              have q122 : x8_3 < (((rd_T31 l0 x6_1).f1).length : Int) := of_decide_eq_true (by first | (with_reducible assumption) | assumption)
                              obtain ⟨ad122, e122, hx122_0⟩ := Kd.at_int HR121_1.out x8_3 p122 q122
                              cases e122
                              replace hx122_0 := (HB.out.cell (World.block_lt_of_cell? w _ hx122_0)).trans hx122_0
                              replace p122 := eq_true p122
                              replace q122 := eq_true q122
                              go_wp2
                              go_roundg k3
                              case measure => have := HK1.out; have := HJ3.out; have := HK3.out; omega
                              case rel => exact ⟨(false), (wrap64 (x8_3 + 1)), (by first | rfl | (simp; done) | (simp [*]; done)), (by first | rfl | (simp; done) | (simp [*]; done)), H', ⟨by have := HK1.out; have := HJ3.out; have := HK3.out; omega⟩, ⟨by (with_reducible repeat (first | apply Kd.R_alloc | apply Kd.R_drewN | apply Kd.R_drew)); exact HO_5.out⟩, ⟨by repeat (first | (with_reducible first | exact HB.out | apply below_alloc | apply pw_below_drewN | apply below_drew1) | exact HB.out)⟩⟩
                            · rw [if_neg c13] at H
                              have c13b0 : decide ((l1.length : Int) ≤ (rd ((rd_T31 l0 x6_1).f1) x8_3)) = false := decide_eq_false c13
                              clear c13
                              by_cases c14 : 0 ≤ (rd ((rd_T31 l0 x6_1).f1) x8_3)
                              · rw [if_pos c14] at H
                                have c14b0 : decide (0 ≤ (rd ((rd_T31 l0 x6_1).f1) x8_3)) = true := decide_eq_true c14
                                clear c14
                                by_cases c15 : (rd ((rd_T31 l0 x6_1).f1) x8_3) < (l1.length : Int)
                                · rw [if_pos c15] at H
                                  have c15b0 : decide ((rd ((rd_T31 l0 x6_1).f1) x8_3) < (l1.length : Int)) = true := decide_eq_true c15
                                  clear c15
                                  obtain ⟨bq16, hbq16⟩ : ∃ b_ : Bool, b_ = (rdOf false l1 (rd ((rd_T31 l0 x6_1).f1) x8_3)) := ⟨_, rfl⟩
                                  replace H : (if (bq16 = true) then (carlingref21_Ready.l1 k3 l0 l1 x5_1 x6_1 x7_3 (wrap64 (x8_3 + 1))) else (carlingref21_Ready.l1 k3 l0 l1 x5_1 x6_1 false (wrap64 (x8_3 + 1)))) = some r := by rw [← hbq16] at H; exact H
                                  have Nbq16 := Aside0.mk hbq16
                                  clear hbq16
                                  by_cases c17 : (bq16 = true)
                                  · subst c17
                                    have H1 : (carlingref21_Ready.l1 k3 l0 l1 x5_1 x6_1 x7_3 (wrap64 (x8_3 + 1))) = some r := by rw [if_pos rfl] at H; exact H
                                    clear H
                                    have H := H1
                                    clear H1
                                    have H' := Aside0.mk H
                                    clear H
                                    have p120 : 0 ≤ (x6_1 : Int) := of_decide_eq_true (by first | (with_reducible assumption) | assumption)
                                    have q120 : x6_1 < (l0.length : Int) := of_decide_eq_true (by first | (with_reducible assumption) | assumption)
                                    obtain ⟨ad120, A120_1, c120_1, e120, hx120_0, hx120_1, hl120_1, hi120_1⟩ := at_T31 HR0.out x6_1 p120 q120
                                    cases e120
                                    replace hx120_0 := (HB.out.cell (World.block_lt_of_cell? w _ hx120_0)).trans hx120_0
                                    replace hx120_1 := (HB.out.cell (World.block_lt_of_cell? w _ hx120_1)).trans hx120_1
                                    have HR120_1 := Aside0.mk hi120_1
                                    have HC120_1 := Aside0.mk hl120_1
                                    clear hi120_1 hl120_1
                                    replace p120 := eq_true p120
                                    replace q120 := eq_true q120
                                    have p121 : 0 ≤ (x6_1 : Int) := of_decide_eq_true (by first | (with_reducible assumption) | assumption)
                                    have q121 : x6_1 < (l0.length : Int) := of_decide_eq_true (by first | (with_reducible assumption) | assumption)
                                    obtain ⟨ad121, A121_1, c121_1, e121, hx121_0, hx121_1, hl121_1, hi121_1⟩ := at_T31 HR0.out x6_1 p121 q121
                                    obtain rfl : ad120 = ad121 := (by injection e121)
                                    replace hx121_0 := (HB.out.cell (World.block_lt_of_cell? w _ hx121_0)).trans hx121_0
                                    replace hx121_1 := (HB.out.cell (World.block_lt_of_cell? w _ hx121_1)).trans hx121_1
                                    have HR121_1 := Aside0.mk hi121_1
                                    have HC121_1 := Aside0.mk hl121_1
                                    clear hi121_1 hl121_1
                                    replace p121 := eq_true p121
                                    replace q121 := eq_true q121
                                    have ea_ := Option.some.inj (hx120_1.symm.trans hx121_1)
                                    injection ea_ with ea_ en_ ec_
                                    subst ea_
                                    subst ec_
                                    clear en_
                                    have p122 : 0 ≤ (x8_3 : Int) := of_decide_eq_true (by first | (with_reducible assumption) | assumption)
                                    have q122 : x8_3 < (((rd_T31 l0 x6_1).f1).length : Int) := of_decide_eq_true (by first | (with_reducible assumption) | assumption)
                                    obtain ⟨ad122, e122, hx122_0⟩ := Kd.at_int HR121_1.out x8_3 p122 q122
                                    cases e122
                                    replace hx122_0 := (HB.out.cell (World.block_lt_of_cell? w _ hx122_0)).trans hx122_0
                                    replace p122 := eq_true p122
                                    replace q122 := eq_true q122
                                    have p123 : 0 ≤ ((rd ((rd_T31 l0 x6_1).f1) x8_3) : Int) := of_decide_eq_true (by first | (with_reducible assumption) | assumption)
                                    have q123 : (rd ((rd_T31 l0 x6_1).f1) x8_3) < (l1.length : Int) := of_decide_eq_true (by first | (with_reducible assumption) | assumption)
                                    obtain ⟨ad123, e123, hx123_0⟩ := Kd.at_bool HR1.out (rd ((rd_T31 l0 x6_1).f1) x8_3) p123 q123
                                    (try rw [← Nbq16.out] at hx123_0)
                                    cases e123
                                    replace hx123_0 := (HB.out.cell (World.block_lt_of_cell? w _ hx123_0)).trans hx123_0
                                    replace p123 := eq_true p123
                                    replace q123 := eq_true q123
                                    go_wp2
                                    go_roundg k3
                                    case measure => have := HK1.out; have := HJ3.out; have := HK3.out; omega
                                    case rel => exact ⟨(x7_3), (wrap64 (x8_3 + 1)), (by first | rfl | (simp; done) | (simp [*]; done)), (by first | rfl | (simp; done) | (simp [*]; done)), H', ⟨by have := HK1.out; have := HJ3.out; have := HK3.out; omega⟩, ⟨by (with_reducible repeat (first | apply Kd.R_alloc | apply Kd.R_drewN | apply Kd.R_drew)); exact HO_5.out⟩, ⟨by repeat (first | (with_reducible first | exact HB.out | apply below_alloc | apply pw_below_drewN | apply below_drew1) | exact HB.out)⟩⟩
                                  · replace c17 := Bool.eq_false_iff.mpr c17
                                    subst c17
                                    have H1 : (carlingref21_Ready.l1 k3 l0 l1 x5_1 x6_1 false (wrap64 (x8_3 + 1))) = some r := by rw [if_neg (show ¬ (false = true) by decide)] at H; exact H
                                    clear H
                                    have H := H1
                                    clear H1
                                    have H' := Aside0.mk H
                                    clear H
                                    have p120 : 0 ≤ (x6_1 : Int) := of_decide_eq_true (by first | (with_reducible assumption) | assumption)
                                    have q120 : x6_1 < (l0.length : Int) := of_decide_eq_true (by first | (with_reducible assumption) | assumption)
                                    obtain ⟨ad120, A120_1, c120_1, e120, hx120_0, hx120_1, hl120_1, hi120_1⟩ := at_T31 HR0.out x6_1 p120 q120
                                    cases e120
                                    replace hx120_0 := (HB.out.cell (World.block_lt_of_cell? w _ hx120_0)).trans hx120_0
                                    replace hx120_1 := (HB.out.cell (World.block_lt_of_cell? w _ hx120_1)).trans hx120_1
                                    have HR120_1 := Aside0.mk hi120_1
                                    have HC120_1 := Aside0.mk hl120_1
                                    clear hi120_1 hl120_1
                                    replace p120 := eq_true p120
                                    replace q120 := eq_true q120
                                    have p121 : 0 ≤ (x6_1 : Int) := of_decide_eq_true (by first | (with_reducible assumption) | assumption)
                                    have q121 : x6_1 < (l0.length : Int) := of_decide_eq_true (by first | (with_reducible assumption) | assumption)
                                    obtain ⟨ad121, A121_1, c121_1, e121, hx121_0, hx121_1, hl121_1, hi121_1⟩ := at_T31 HR0.out x6_1 p121 q121
                                    obtain rfl : ad120 = ad121 := (by injection e121)
                                    replace hx121_0 := (HB.out.cell (World.block_lt_of_cell? w _ hx121_0)).trans hx121_0
                                    replace hx121_1 := (HB.out.cell (World.block_lt_of_cell? w _ hx121_1)).trans hx121_1
                                    have HR121_1 := Aside0.mk hi121_1
                                    have HC121_1 := Aside0.mk hl121_1
                                    clear hi121_1 hl121_1
                                    replace p121 := eq_true p121
                                    replace q121 := eq_true q121
                                    have ea_ := Option.some.inj (hx120_1.symm.trans hx121_1)
                                    injection ea_ with ea_ en_ ec_
                                    subst ea_
                                    subst ec_
                                    clear en_
                                    have p122 : 0 ≤ (x8_3 : Int) := of_decide_eq_true (by first | (with_reducible assumption) | assumption)
                                    have q122 : x8_3 < (((rd_T31 l0 x6_1).f1).length : Int) := of_decide_eq_true (by first | (with_reducible assumption) | assumption)
                                    obtain ⟨ad122, e122, hx122_0⟩ := Kd.at_int HR121_1.out x8_3 p122 q122
                                    cases e122
                                    replace hx122_0 := (HB.out.cell (World.block_lt_of_cell? w _ hx122_0)).trans hx122_0
                                    replace p122 := eq_true p122
                                    replace q122 := eq_true q122
                                    have p123 : 0 ≤ ((rd ((rd_T31 l0 x6_1).f1) x8_3) : Int) := of_decide_eq_true (by first | (with_reducible assumption) | assumption)
                                    have q123 : (rd ((rd_T31 l0 x6_1).f1) x8_3) < (l1.length : Int) := of_decide_eq_true (by first | (with_reducible assumption) | assumption)
                                    obtain ⟨ad123, e123, hx123_0⟩ := Kd.at_bool HR1.out (rd ((rd_T31 l0 x6_1).f1) x8_3) p123 q123
                                    (try rw [← Nbq16.out] at hx123_0)
                                    cases e123
                                    replace hx123_0 := (HB.out.cell (World.block_lt_of_cell? w _ hx123_0)).trans hx123_0
                                    replace p123 := eq_true p123
                                    replace q123 := eq_true q123
                                    go_wp2
                                    go_roundg k3
                                    case measure => have := HK1.out; have := HJ3.out; have := HK3.out; omega
                                    case rel => exact ⟨(false), (wrap64 (x8_3 + 1)), (by first | rfl | (simp; done) | (simp [*]; done)), (by first | rfl | (simp; done) | (simp [*]; done)), H', ⟨by have := HK1.out; have := HJ3.out; have := HK3.out; omega⟩, ⟨by (with_reducible repeat (first | apply Kd.R_alloc | apply Kd.R_drewN | apply Kd.R_drew)); exact HO_5.out⟩, ⟨by repeat (first | (with_reducible first | exact HB.out | apply below_alloc | apply pw_below_drewN | apply below_drew1) | exact HB.out)⟩⟩
                                · rw [if_neg c15] at H
                                  exact absurd H (by simp)
                              · rw [if_neg c14] at H
                                exact absurd H (by simp)
                      · rw [if_neg c10] at H
                        exact absurd H (by simp)
                    · rw [if_neg c9] at H
                      have c9b0 : decide (x8_3 < (((rd_T31 l0 x6_1).f1).length : Int)) = false := decide_eq_false c9
                      clear c9
                      by_cases c18 : x7_3 = true
                      · subst c18
                        have H1 : (if x5_1.length < 17592186044416 then (carlingref21_Ready.l0 k3 l0 l1 (x5_1 ++ [x6_1]) (wrap64 (x6_1 + 1))) else (none)) = some r := by rw [if_pos rfl] at H; exact H
                        clear H
                        have H := H1
                        clear H1
                        by_cases c19 : x5_1.length < 17592186044416
                        · rw [if_pos c19] at H
                          have LMc19 := Aside0.mk c19
                          clear c19
                          obtain ⟨y124, hy124⟩ : ∃ y_ : List Int, y_ = (x5_1 ++ [x6_1]) := ⟨_, rfl⟩
                          replace H : (carlingref21_Ready.l0 k3 l0 l1 y124 (wrap64 (x6_1 + 1))) = some r := by first | (rw [hy124]; with_reducible exact H) | (have H2_ := (Option.bind_some _ _).symm.trans H; rw [hy124]; with_reducible exact H2_) | (have H2_ := (Option.bind_some _ _).symm.trans H; with_reducible exact H2_) | with_reducible exact H | (rw [hy124]; exact H) | exact H
                          have Ny124 := Aside0.mk hy124
                          clear hy124
                          have H' := Aside0.mk H
                          clear H
                          have p120 : 0 ≤ (x6_1 : Int) := of_decide_eq_true (by first | (with_reducible assumption) | assumption)
                          have q120 : x6_1 < (l0.length : Int) := of_decide_eq_true (by first | (with_reducible assumption) | assumption)
                          obtain ⟨ad120, A120_1, c120_1, e120, hx120_0, hx120_1, hl120_1, hi120_1⟩ := at_T31 HR0.out x6_1 p120 q120
                          cases e120
                          replace hx120_0 := (HB.out.cell (World.block_lt_of_cell? w _ hx120_0)).trans hx120_0
                          replace hx120_1 := (HB.out.cell (World.block_lt_of_cell? w _ hx120_1)).trans hx120_1
                          have HR120_1 := Aside0.mk hi120_1
                          have HC120_1 := Aside0.mk hl120_1
                          clear hi120_1 hl120_1
                          replace p120 := eq_true p120
                          replace q120 := eq_true q120
                          go_wp2_with (first | ((with_reducible refine gate_builtin (b := .append) (xs := #[.tmp 67, .tmp 69]) rfl ?_); (try (refine gate_guard (by rfl) ?_; dsimp only)); at_builtin; refine Kd.R_append (Kd.int .i64) (w0 := w) w.heap.size rfl (.tmp 67) (.tmp 69) 25 3 (.int .i64 0) 8 rfl Try.underlying25 info3 rfl (by decide) (by omega) u5 x5_1 x6_1 [.int .i64 x6_1] (fun _ => True) (fun _ => False) rfl rfl ?aP (fun _ hk => hk.elim) ?aF ?aO ?aB ?aS ?aL ?_; (case aP => exact rfl); (case aB => exact (by repeat (first | (with_reducible first | exact HB.out | apply below_alloc | apply pw_below_drewN | apply below_drew1) | exact HB.out))); (case aF => exact (fun _ _ => trivial)); (case aO => exact (by (with_reducible repeat (first | apply Kd.R_alloc | apply Kd.R_drewN | apply Kd.R_drew)); exact HO_5.out)); (case aS => exact (below_size (by repeat (first | (with_reducible first | exact HB.out | apply below_alloc | apply pw_below_drewN | apply below_drew1) | exact HB.out)))); (case aL => have := LMc19.out; omega); intro v125 w20 ho hb hg hat; rw [← Ny124.out] at ho; have n0_ := Aside0.mk (hb); have n1_ := Aside0.mk (ho); clear HB; clear HO_5; have HB := n0_; have HO126 := n1_; clear n0_ n1_; clear ho hb hg hat))
                          go_roundg k3
                          case measure => have := HK1.out; have := HJ3.out; have := HK3.out; omega
                          case rel => exact ⟨(y124), (wrap64 (x6_1 + 1)), (by first | rfl | (simp; done) | (simp [*]; done)), H', ⟨by have := HK1.out; have := HJ3.out; have := HK3.out; omega⟩, ⟨by (with_reducible repeat (first | apply Kd.R_alloc | apply Kd.R_drewN | apply Kd.R_drew)); exact HO126.out⟩, ⟨by repeat (first | (with_reducible first | exact HB.out | apply below_alloc | apply pw_below_drewN | apply below_drew1) | exact HB.out)⟩⟩
                        · rw [if_neg c19] at H
                          exact absurd H (by simp)
                      · replace c18 := Bool.eq_false_iff.mpr c18
                        subst c18
                        have H1 : (carlingref21_Ready.l0 k3 l0 l1 x5_1 (wrap64 (x6_1 + 1))) = some r := by rw [if_neg (show ¬ (false = true) by decide)] at H; exact H
                        clear H
                        have H := H1
                        clear H1
                        have H' := Aside0.mk H
                        clear H
                        have p120 : 0 ≤ (x6_1 : Int) := of_decide_eq_true (by first | (with_reducible assumption) | assumption)
                        have q120 : x6_1 < (l0.length : Int) := of_decide_eq_true (by first | (with_reducible assumption) | assumption)
                        obtain ⟨ad120, A120_1, c120_1, e120, hx120_0, hx120_1, hl120_1, hi120_1⟩ := at_T31 HR0.out x6_1 p120 q120
                        cases e120
                        replace hx120_0 := (HB.out.cell (World.block_lt_of_cell? w _ hx120_0)).trans hx120_0
                        replace hx120_1 := (HB.out.cell (World.block_lt_of_cell? w _ hx120_1)).trans hx120_1
                        have HR120_1 := Aside0.mk hi120_1
                        have HC120_1 := Aside0.mk hl120_1
                        clear hi120_1 hl120_1
                        replace p120 := eq_true p120
                        replace q120 := eq_true q120
                        go_wp2
                        go_roundg k3
                        case measure => have := HK1.out; have := HJ3.out; have := HK3.out; omega
                        case rel => exact ⟨(x5_1), (wrap64 (x6_1 + 1)), (by first | rfl | (simp; done) | (simp [*]; done)), H', ⟨by have := HK1.out; have := HJ3.out; have := HK3.out; omega⟩, ⟨by (with_reducible repeat (first | apply Kd.R_alloc | apply Kd.R_drewN | apply Kd.R_drew)); exact HO_5.out⟩, ⟨by repeat (first | (with_reducible first | exact HB.out | apply below_alloc | apply pw_below_drewN | apply below_drew1) | exact HB.out)⟩⟩
                  · rw [if_neg c8] at H
                    exact absurd H (by simp)
                · rw [if_neg c7] at H
                  exact absurd H (by simp)
      · rw [if_neg c3] at H
        have c3b0 : decide (x6_1 < (l0.length : Int)) = false := decide_eq_false c3
        clear c3
        obtain rfl := Option.some.inj H
        go_wp2
        go_ret
        exact ⟨_, by first | rfl | (simp [errW_none, errW_some] <;> rfl) | (simp [*, errW_none, errW_some] <;> rfl), by (with_reducible repeat (first | apply Kd.R_alloc | apply Kd.R_drewN | apply Kd.R_drew)); exact HO_5.out, by repeat (first | (with_reducible first | exact HB.out | apply below_alloc | apply pw_below_drewN | apply below_drew1) | exact HB.out)⟩

end Go.Proofs.Ytgjlgdohlmpnbaa.P
