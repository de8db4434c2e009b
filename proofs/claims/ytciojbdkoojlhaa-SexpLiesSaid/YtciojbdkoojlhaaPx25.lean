/- Written by a program of this session (gp.py), which drives the printer of the kit: contracts of Go functions over the translation, and the rows of laws: each says what its theorems state. Conditions: as each theorem states them. -/
import Derived.Test.YtciojbdkoojlhaaPx0
namespace Go.Proofs.Ytciojbdkoojlhaa.P
open Go.RowKit Go.Proofs.YtciojbdkoojlhaaW.PrintWords Go.Proofs.YtciojbdkoojlhaaW.PrintLast Go.Proofs.YtciojbdkoojlhaaW.PrintMore
attribute [local go_sem] max2_int min2_int max_two min_two max_three min_three max_four min_four   -- for this text's walks alone
set_option linter.unusedVariables false
set_option linter.unusedSimpArgs false

/-! ### carlinglaw02_lies: function 19 -/
mutual
def carlinglaw02_lies.l0 : Nat → ByteArray → List (S30) → Int → Int → Option (Int)
  | 0, _, _, _, _ => none
  | k + 1, x0, x1, x2, x7 => if x7 < (x1.length : Int) then (if 0 ≤ x7 then (if ((rd_T30 x1 x7).f3) < x2 then (carlinglaw02_lies.j1 k x0 x1 x7 true ((rd_T30 x1 x7).f0) ((rd_T30 x1 x7).f1) ((rd_T30 x1 x7).f2) ((rd_T30 x1 x7).f3)) else (carlinglaw02_lies.j1 k x0 x1 x7 (decide (((rd_T30 x1 x7).f3) ≥ (x0.size : Int))) ((rd_T30 x1 x7).f0) ((rd_T30 x1 x7).f1) ((rd_T30 x1 x7).f2) ((rd_T30 x1 x7).f3))) else (none)) else (some x2)
def carlinglaw02_lies.j1 : Nat → ByteArray → List (S30) → Int → Bool → Bool → ByteArray → List (S30) → Int → Option (Int)
  | 0, _, _, _, _, _, _, _, _ => none
  | k + 1, x0, x1, x7, x29, x231000, x231001, x231002, x231003 => if x29 = true then (some (-1)) else (if x231000 = true then (if 0 ≤ x231003 then (if x231003 < (x0.size : Int) then (if (bt x0 x231003) = 40 then ((carlinglaw02_lies.f k x0 x231002 (wrap64 (x231003 + 1))).bind fun t231 => (if t231 < 0 then (some (-1)) else (carlinglaw02_lies.l0 k x0 x1 t231 (wrap64 (x7 + 1))))) else (some (-1))) else (none)) else (none)) else (if (x231001.size : Int) > (wrap64 ((x0.size : Int) - x231003)) then (some (-1)) else (if 0 ≤ x231003 then (if x231003 ≤ (wrap64 (x231003 + (x231001.size : Int))) then (if (wrap64 (x231003 + (x231001.size : Int))) ≤ (x0.size : Int) then (if (x0.extract (x231003 : Int).toNat ((wrap64 (x231003 + (x231001.size : Int))) : Int).toNat).toList = x231001.toList then (carlinglaw02_lies.l0 k x0 x1 (wrap64 (x231003 + 1)) (wrap64 (x7 + 1))) else (some (-1))) else (none)) else (none)) else (none))))
def carlinglaw02_lies.f : Nat → ByteArray → List (S30) → Int → Option (Int)
  | 0, _, _, _ => none
  | k + 1, a0, l1, a2 => carlinglaw02_lies.l0 k a0 l1 a2 0
end
theorem carlinglaw02_lies.mono_l : ∀ k, (∀ y0 y1 y2, LeO (carlinglaw02_lies.f k y0 y1 y2) (carlinglaw02_lies.f (k + 1) y0 y1 y2)) ∧ (∀ y0 y1 y2 y3, LeO (carlinglaw02_lies.l0 k y0 y1 y2 y3) (carlinglaw02_lies.l0 (k + 1) y0 y1 y2 y3)) ∧ (∀ y0 y1 y2 y3 y4 y5 y6 y7, LeO (carlinglaw02_lies.j1 k y0 y1 y2 y3 y4 y5 y6 y7) (carlinglaw02_lies.j1 (k + 1) y0 y1 y2 y3 y4 y5 y6 y7))
  | 0 => ⟨fun _ _ _ r h => by simp [carlinglaw02_lies.f] at h, fun _ _ _ _ r h => by simp [carlinglaw02_lies.l0] at h, fun _ _ _ _ _ _ _ _ r h => by simp [carlinglaw02_lies.j1] at h⟩
  | k + 1 => by
    obtain ⟨ih0, ih1, ih2⟩ := carlinglaw02_lies.mono_l k
    refine ⟨?_, ?_, ?_⟩
    · intro y0 y1 y2
      unfold carlinglaw02_lies.f
      repeat' first
      | (with_reducible exact ih0 _ _ _)
      | (with_reducible exact ih1 _ _ _ _)
      | (with_reducible exact ih2 _ _ _ _ _ _ _ _)
      | (with_reducible exact LeO.refl _)
      | (with_reducible exact LeO.none _)
      | (with_reducible refine LeO.ite ?_ ?_)
      | (with_reducible refine LeO.bind ?_ (fun _ => ?_))
      | exact ih0 _ _ _
      | exact ih1 _ _ _ _
      | exact ih2 _ _ _ _ _ _ _ _
      | exact LeO.none _
      | refine LeO.ite ?_ ?_
      | refine LeO.bind ?_ (fun _ => ?_)
    · intro y0 y1 y2 y3
      unfold carlinglaw02_lies.l0
      repeat' first
      | (with_reducible exact ih0 _ _ _)
      | (with_reducible exact ih1 _ _ _ _)
      | (with_reducible exact ih2 _ _ _ _ _ _ _ _)
      | (with_reducible exact LeO.refl _)
      | (with_reducible exact LeO.none _)
      | (with_reducible refine LeO.ite ?_ ?_)
      | (with_reducible refine LeO.bind ?_ (fun _ => ?_))
      | exact ih0 _ _ _
      | exact ih1 _ _ _ _
      | exact ih2 _ _ _ _ _ _ _ _
      | exact LeO.none _
      | refine LeO.ite ?_ ?_
      | refine LeO.bind ?_ (fun _ => ?_)
    · intro y0 y1 y2 y3 y4 y5 y6 y7
      unfold carlinglaw02_lies.j1
      repeat' first
      | (with_reducible exact ih0 _ _ _)
      | (with_reducible exact ih1 _ _ _ _)
      | (with_reducible exact ih2 _ _ _ _ _ _ _ _)
      | (with_reducible exact LeO.refl _)
      | (with_reducible exact LeO.none _)
      | (with_reducible refine LeO.ite ?_ ?_)
      | (with_reducible refine LeO.bind ?_ (fun _ => ?_))
      | exact ih0 _ _ _
      | exact ih1 _ _ _ _
      | exact ih2 _ _ _ _ _ _ _ _
      | exact LeO.none _
      | refine LeO.ite ?_ ?_
      | refine LeO.bind ?_ (fun _ => ?_)
theorem carlinglaw02_lies.mono : ∀ a0 a1 a2 k, LeO (carlinglaw02_lies.f k a0 a1 a2) (carlinglaw02_lies.f (k + 1) a0 a1 a2) := by
  intro a0 a1 a2 k
  obtain ⟨ih0, ih1, ih2⟩ := carlinglaw02_lies.mono_l k
  exact ih0 a0 a1 a2
set_option maxHeartbeats 8000000 in
set_option maxRecDepth 100000 in
theorem carlinglaw02_lies.calls (k : Nat) : ∀ (a0 : ByteArray) (A1 : Option Addr) (c1 : Nat) (l1 : List (S30)) (a2 : Int) (r : Int) (w : World) (hr1 : Kd.C k30 w A1 l1.length l1) (hc1 : l1.length ≤ c1) (h : carlinglaw02_lies.f k a0 l1 a2 = some r),
    Calls Try.prog 19 #[.string a0, .slice A1 l1.length c1, .int .i64 a2] w fun e w' => e = .returned (.int .i64 r) ∧ Below w.heap.size w w' := by
  induction k using Nat.strongRecOn with
  | _ k ih =>
  intro a0 A1 c1 l1 a2 r w hr1 hc1 h
  cases k with
  | zero => exact absurd h (by simp [carlinglaw02_lies.f])
  | succ k =>
  simp only [carlinglaw02_lies.f] at h
  have hu30 := Try.underlying30
  have HR1 := Aside0.mk hr1
  have HC1 := Aside0.mk hc1
  clear hr1 hc1
  have HB := Aside0.mk (Below.refl w.heap.size w)
  have H : (carlinglaw02_lies.l0 k a0 l1 a2 0) = some r := h
  clear h
  have H' := Aside0.mk H
  clear H
  go_enter Try.func19, Try.ntmps19
  go_wp2
  repeat (go_quiet (fail); try go_wp2)
  go_loopg [2, 7] k (fun kq v2 v7 w' => ∃ (x2_1 : Int) (x7_1 : Int), v2 = .int .i64 x2_1 ∧ v7 = .int .i64 x7_1 ∧ Aside0 (carlinglaw02_lies.l0 kq a0 l1 x2_1 x7_1 = some r) ∧ Aside0 (kq ≤ k) ∧ Aside0 (Below w.heap.size w w'))
  case atStart => exact ⟨(a2), (0), (by first | rfl | (simp; done) | (simp [*]; done)), (by first | rfl | (simp; done) | (simp [*]; done)), H', ⟨Nat.le_refl _⟩, ⟨by repeat (first | (with_reducible first | exact HB.out | apply below_alloc | apply pw_below_drewN | apply below_drew1) | exact HB.out)⟩⟩
  case round =>
    clear H'
    try clear c1
    try clear p2
    obtain ⟨x2_1, x7_1, rfl, rfl, HA, HK1, HB⟩ := hrel
    cases gk with
    | zero => exact absurd HA.out (by simp [carlinglaw02_lies.l0])
    | succ k1 =>
      have H := HA.out
      clear HA
      simp only [carlinglaw02_lies.l0] at H
      by_cases c4 : x7_1 < (l1.length : Int)
      · rw [if_pos c4] at H
        have c4b0 : decide (x7_1 < (l1.length : Int)) = true := decide_eq_true c4
        clear c4
        by_cases c5 : 0 ≤ x7_1
        · rw [if_pos c5] at H
          have c5b0 : decide (0 ≤ x7_1) = true := decide_eq_true c5
          clear c5
          have HC6 := Aside0.mk H
          clear H
          have p229 : 0 ≤ (x7_1 : Int) := of_decide_eq_true (by first | (with_reducible assumption) | assumption)
          have q229 : x7_1 < (l1.length : Int) := of_decide_eq_true (by first | (with_reducible assumption) | assumption)
          obtain ⟨ad229, A229_2, c229_2, e229, hx229_0, hx229_1, hx229_2, hx229_3, hl229_2, hi229_2⟩ := at_T30 HR1.out x7_1 p229 q229
          cases e229
          replace hx229_0 := (HB.out.cell (World.block_lt_of_cell? w _ hx229_0)).trans hx229_0
          replace hx229_1 := (HB.out.cell (World.block_lt_of_cell? w _ hx229_1)).trans hx229_1
          replace hx229_2 := (HB.out.cell (World.block_lt_of_cell? w _ hx229_2)).trans hx229_2
          replace hx229_3 := (HB.out.cell (World.block_lt_of_cell? w _ hx229_3)).trans hx229_3
          have HR229_2 := Aside0.mk hi229_2
          have HC229_2 := Aside0.mk hl229_2
          clear hi229_2 hl229_2
          replace p229 := eq_true p229
          replace q229 := eq_true q229
          go_upto_region 5 with (first | ((with_reducible refine gate_dst (N := 8) rfl ?_); (try (refine gate_guard (by rfl) ?_; dsimp only)); refine box_event ?hg (N := 8) ?hd (cs := #[.bool false, .string (⟨#[]⟩ : ByteArray), .slice none 0 0, .int .i64 0]) (t := 30) ?hr ?_; (case hd => rfl); (case hg => rfl); (case hr => first | (go_simp; done) | (go_simp; rfl)); intro gb230 hg w7 hbox hb; have n0_ := Aside0.mk (below_step (by repeat (first | (with_reducible first | exact HB.out | apply below_alloc | apply pw_below_drewN | apply below_drew1) | exact HB.out)) hb); have n1_ := Aside0.mk (hbox); have n2_ := Aside0.mk ((by rw [hg]; exact (below_size (by repeat (first | (with_reducible first | exact HB.out | apply below_alloc | apply pw_below_drewN | apply below_drew1) | exact HB.out))) : w.heap.size ≤ gb230)); have n3_ := Aside0.mk ((by rw [hg]; exact (below_size (by repeat (first | (with_reducible first | exact HB.out | apply below_alloc | apply pw_below_drewN | apply below_drew1) | exact HB.out))) : w.heap.size ≤ gb230)); clear HB; have HB := n0_; have BK230 := n1_; have GW230 := n2_; have GE230 := n3_; clear n0_ n1_ n2_ n3_; clear hb hbox hg; have hcz8_0 : w7.cell? ⟨gb230, 0, none⟩ = some (.bool false) := (blk_cell BK230.out 0).trans rfl; have hcz8_1 : w7.cell? ⟨gb230, 1, none⟩ = some (.string (⟨#[]⟩ : ByteArray)) := (blk_cell BK230.out 1).trans rfl; have hcz8_2 : w7.cell? ⟨gb230, 2, none⟩ = some (.slice none 0 0) := (blk_cell BK230.out 2).trans rfl; have hcz8_3 : w7.cell? ⟨gb230, 3, none⟩ = some (.int .i64 0) := (blk_cell BK230.out 3).trans rfl; have hfz8_0 := blk_frozen BK230.out 0; have hfz8_1 := blk_frozen BK230.out 1; have hfz8_2 := blk_frozen BK230.out 2; have hfz8_3 := blk_frozen BK230.out 3))
          repeat (go_quiet (first | ((with_reducible refine gate_dst (N := 8) rfl ?_); (try (refine gate_guard (by rfl) ?_; dsimp only)); refine box_event ?hg (N := 8) ?hd (cs := #[.bool false, .string (⟨#[]⟩ : ByteArray), .slice none 0 0, .int .i64 0]) (t := 30) ?hr ?_; (case hd => rfl); (case hg => rfl); (case hr => first | (go_simp; done) | (go_simp; rfl)); intro gb230 hg w7 hbox hb; have n0_ := Aside0.mk (below_step (by repeat (first | (with_reducible first | exact HB.out | apply below_alloc | apply pw_below_drewN | apply below_drew1) | exact HB.out)) hb); have n1_ := Aside0.mk (hbox); have n2_ := Aside0.mk ((by rw [hg]; exact (below_size (by repeat (first | (with_reducible first | exact HB.out | apply below_alloc | apply pw_below_drewN | apply below_drew1) | exact HB.out))) : w.heap.size ≤ gb230)); have n3_ := Aside0.mk ((by rw [hg]; exact (below_size (by repeat (first | (with_reducible first | exact HB.out | apply below_alloc | apply pw_below_drewN | apply below_drew1) | exact HB.out))) : w.heap.size ≤ gb230)); clear HB; have HB := n0_; have BK230 := n1_; have GW230 := n2_; have GE230 := n3_; clear n0_ n1_ n2_ n3_; clear hb hbox hg; have hcz8_0 : w7.cell? ⟨gb230, 0, none⟩ = some (.bool false) := (blk_cell BK230.out 0).trans rfl; have hcz8_1 : w7.cell? ⟨gb230, 1, none⟩ = some (.string (⟨#[]⟩ : ByteArray)) := (blk_cell BK230.out 1).trans rfl; have hcz8_2 : w7.cell? ⟨gb230, 2, none⟩ = some (.slice none 0 0) := (blk_cell BK230.out 2).trans rfl; have hcz8_3 : w7.cell? ⟨gb230, 3, none⟩ = some (.int .i64 0) := (blk_cell BK230.out 3).trans rfl; have hfz8_0 := blk_frozen BK230.out 0; have hfz8_1 := blk_frozen BK230.out 1; have hfz8_2 := blk_frozen BK230.out 2; have hfz8_3 := blk_frozen BK230.out 3)); go_upto_region 5 with (first | ((with_reducible refine gate_dst (N := 8) rfl ?_); (try (refine gate_guard (by rfl) ?_; dsimp only)); refine box_event ?hg (N := 8) ?hd (cs := #[.bool false, .string (⟨#[]⟩ : ByteArray), .slice none 0 0, .int .i64 0]) (t := 30) ?hr ?_; (case hd => rfl); (case hg => rfl); (case hr => first | (go_simp; done) | (go_simp; rfl)); intro gb230 hg w7 hbox hb; have n0_ := Aside0.mk (below_step (by repeat (first | (with_reducible first | exact HB.out | apply below_alloc | apply pw_below_drewN | apply below_drew1) | exact HB.out)) hb); have n1_ := Aside0.mk (hbox); have n2_ := Aside0.mk ((by rw [hg]; exact (below_size (by repeat (first | (with_reducible first | exact HB.out | apply below_alloc | apply pw_below_drewN | apply below_drew1) | exact HB.out))) : w.heap.size ≤ gb230)); have n3_ := Aside0.mk ((by rw [hg]; exact (below_size (by repeat (first | (with_reducible first | exact HB.out | apply below_alloc | apply pw_below_drewN | apply below_drew1) | exact HB.out))) : w.heap.size ≤ gb230)); clear HB; have HB := n0_; have BK230 := n1_; have GW230 := n2_; have GE230 := n3_; clear n0_ n1_ n2_ n3_; clear hb hbox hg; have hcz8_0 : w7.cell? ⟨gb230, 0, none⟩ = some (.bool false) := (blk_cell BK230.out 0).trans rfl; have hcz8_1 : w7.cell? ⟨gb230, 1, none⟩ = some (.string (⟨#[]⟩ : ByteArray)) := (blk_cell BK230.out 1).trans rfl; have hcz8_2 : w7.cell? ⟨gb230, 2, none⟩ = some (.slice none 0 0) := (blk_cell BK230.out 2).trans rfl; have hcz8_3 : w7.cell? ⟨gb230, 3, none⟩ = some (.int .i64 0) := (blk_cell BK230.out 3).trans rfl; have hfz8_0 := blk_frozen BK230.out 0; have hfz8_1 := blk_frozen BK230.out 1; have hfz8_2 := blk_frozen BK230.out 2; have hfz8_3 := blk_frozen BK230.out 3)))
          (try simp only [Act.put, List.setIfInBounds_toArray, List.set_cons_zero, List.set_cons_succ])
          go_cut [29] (fun v29 wc => ∃ (kq : Nat) (x29_5 : Bool), v29 = .bool x29_5 ∧ Aside0 (carlinglaw02_lies.j1 kq a0 l1 x7_1 x29_5 ((rd_T30 l1 x7_1).f0) ((rd_T30 l1 x7_1).f1) ((rd_T30 l1 x7_1).f2) ((rd_T30 l1 x7_1).f3) = some r) ∧ Aside0 (kq ≤ k1) ∧ Aside0 (wc.heap[gb230]? = some (.cells #[.bool ((rd_T30 l1 x7_1).f0), .string ((rd_T30 l1 x7_1).f1), (.slice A229_2 ((rd_T30 l1 x7_1).f2).length c229_2), .int .i64 ((rd_T30 l1 x7_1).f3)] 30 (0, 0))) ∧ Aside0 (Below w.heap.size w wc))
          case first =>
            have H := HC6.out
            clear HC6
            by_cases c9 : ((rd_T30 l1 x7_1).f3) < x2_1
            · rw [if_pos c9] at H
              have c9b0 : decide (((rd_T30 l1 x7_1).f3) < x2_1) = true := decide_eq_true c9
              clear c9
              (first | rw [c9b0] | (simp only [i64_w, i32_w]; rw [c9b0]) | skip)
              have H' := Aside0.mk H
              clear H
              have hcz10_0 : w7.cell? ⟨gb230, 0, none⟩ = some (.bool false) := (blk_cell BK230.out 0).trans rfl
              have hcz10_1 : w7.cell? ⟨gb230, 1, none⟩ = some (.string (⟨#[]⟩ : ByteArray)) := (blk_cell BK230.out 1).trans rfl
              have hcz10_2 : w7.cell? ⟨gb230, 2, none⟩ = some (.slice none 0 0) := (blk_cell BK230.out 2).trans rfl
              have hcz10_3 : w7.cell? ⟨gb230, 3, none⟩ = some (.int .i64 0) := (blk_cell BK230.out 3).trans rfl
              have hfz10_0 := blk_frozen BK230.out 0
              have hfz10_1 := blk_frozen BK230.out 1
              have hfz10_2 := blk_frozen BK230.out 2
              have hfz10_3 := blk_frozen BK230.out 3
              go_wp2
              repeat (go_quiet (fail); try go_wp2)
              go_meet
              case rel => exact ⟨_, (true), (by first | rfl | (simp; done) | (simp [*]; done)), H', ⟨by have := HK1.out; first | omega | exact Nat.le_refl _⟩, ⟨by (with_reducible repeat (first | refine blk_drewN ?_ _ | refine blk_drew ?_ | refine blk_alloc ?_ _)); refine blk_put (cs := #[.bool ((rd_T30 l1 x7_1).f0), .string ((rd_T30 l1 x7_1).f1), .slice A229_2 ((rd_T30 l1 x7_1).f2).length c229_2, .int .i64 0]) ?_ 3 _ rfl; (with_reducible repeat (first | refine blk_drewN ?_ _ | refine blk_drew ?_ | refine blk_alloc ?_ _)); refine blk_put (cs := #[.bool ((rd_T30 l1 x7_1).f0), .string ((rd_T30 l1 x7_1).f1), .slice none 0 0, .int .i64 0]) ?_ 2 _ rfl; (with_reducible repeat (first | refine blk_drewN ?_ _ | refine blk_drew ?_ | refine blk_alloc ?_ _)); refine blk_put (cs := #[.bool ((rd_T30 l1 x7_1).f0), .string (⟨#[]⟩ : ByteArray), .slice none 0 0, .int .i64 0]) ?_ 1 _ rfl; (with_reducible repeat (first | refine blk_drewN ?_ _ | refine blk_drew ?_ | refine blk_alloc ?_ _)); refine blk_put (cs := #[.bool false, .string (⟨#[]⟩ : ByteArray), .slice none 0 0, .int .i64 0]) ?_ 0 _ rfl; (with_reducible repeat (first | refine blk_drewN ?_ _ | refine blk_drew ?_ | refine blk_alloc ?_ _)); exact BK230.out⟩, ⟨by repeat (first | (with_reducible first | exact HB.out | apply below_alloc | apply pw_below_drewN | apply below_drew1 | refine below_set ?_ GE230.out) | exact HB.out)⟩⟩
            · rw [if_neg c9] at H
              have c9b0 : decide (((rd_T30 l1 x7_1).f3) < x2_1) = false := decide_eq_false c9
              clear c9
              (first | rw [c9b0] | (simp only [i64_w, i32_w]; rw [c9b0]) | skip)
              have H' := Aside0.mk H
              clear H
              have hcz11_0 : w7.cell? ⟨gb230, 0, none⟩ = some (.bool false) := (blk_cell BK230.out 0).trans rfl
              have hcz11_1 : w7.cell? ⟨gb230, 1, none⟩ = some (.string (⟨#[]⟩ : ByteArray)) := (blk_cell BK230.out 1).trans rfl
              have hcz11_2 : w7.cell? ⟨gb230, 2, none⟩ = some (.slice none 0 0) := (blk_cell BK230.out 2).trans rfl
              have hcz11_3 : w7.cell? ⟨gb230, 3, none⟩ = some (.int .i64 0) := (blk_cell BK230.out 3).trans rfl
              have hfz11_0 := blk_frozen BK230.out 0
              have hfz11_1 := blk_frozen BK230.out 1
              have hfz11_2 := blk_frozen BK230.out 2
              have hfz11_3 := blk_frozen BK230.out 3
              go_wp2
              repeat (go_quiet (fail); try go_wp2)
              go_meet
              case rel => exact ⟨_, (decide (((rd_T30 l1 x7_1).f3) ≥ (a0.size : Int))), (by first | rfl | (simp; done) | (simp [*]; done)), H', ⟨by have := HK1.out; first | omega | exact Nat.le_refl _⟩, ⟨by (with_reducible repeat (first | refine blk_drewN ?_ _ | refine blk_drew ?_ | refine blk_alloc ?_ _)); refine blk_put (cs := #[.bool ((rd_T30 l1 x7_1).f0), .string ((rd_T30 l1 x7_1).f1), .slice A229_2 ((rd_T30 l1 x7_1).f2).length c229_2, .int .i64 0]) ?_ 3 _ rfl; (with_reducible repeat (first | refine blk_drewN ?_ _ | refine blk_drew ?_ | refine blk_alloc ?_ _)); refine blk_put (cs := #[.bool ((rd_T30 l1 x7_1).f0), .string ((rd_T30 l1 x7_1).f1), .slice none 0 0, .int .i64 0]) ?_ 2 _ rfl; (with_reducible repeat (first | refine blk_drewN ?_ _ | refine blk_drew ?_ | refine blk_alloc ?_ _)); refine blk_put (cs := #[.bool ((rd_T30 l1 x7_1).f0), .string (⟨#[]⟩ : ByteArray), .slice none 0 0, .int .i64 0]) ?_ 1 _ rfl; (with_reducible repeat (first | refine blk_drewN ?_ _ | refine blk_drew ?_ | refine blk_alloc ?_ _)); refine blk_put (cs := #[.bool false, .string (⟨#[]⟩ : ByteArray), .slice none 0 0, .int .i64 0]) ?_ 0 _ rfl; (with_reducible repeat (first | refine blk_drewN ?_ _ | refine blk_drew ?_ | refine blk_alloc ?_ _)); exact BK230.out⟩, ⟨by repeat (first | (with_reducible first | exact HB.out | apply below_alloc | apply pw_below_drewN | apply below_drew1 | refine below_set ?_ GE230.out) | exact HB.out)⟩⟩
          case rest =>
            clear HC6
            try clear c1
            try clear c2
            try clear p2
            try clear q2
            try clear hx2
            try clear c4
            try clear c4b0
            try clear c5
            try clear c5b0
            try clear c9
            try clear c9b0
            try clear hcz10_0
            try clear hcz10_1
            try clear hcz10_2
            try clear hcz10_3
            try clear hcz11_0
            try clear hcz11_1
            try clear hcz11_2
            try clear hcz11_3
            try clear hcz8_0
            try clear hcz8_1
            try clear hcz8_2
            try clear hcz8_3
            try clear hfz10_0
            try clear hfz10_1
            try clear hfz10_2
            try clear hfz10_3
            try clear hfz11_0
            try clear hfz11_1
            try clear hfz11_2
            try clear hfz11_3
            try clear hfz8_0
            try clear hfz8_1
            try clear hfz8_2
            try clear hfz8_3
            try clear hx229_0
            try clear hx229_1
            try clear hx229_2
            try clear hx229_3
            try clear p2
            try clear p229
            try clear q229
            obtain ⟨kq, x29_5, rfl, HA, HJ5, BK230, HB⟩ := hcut
            cases kq with
            | zero => exact absurd HA.out (by simp [carlinglaw02_lies.j1])
            | succ kj5 =>
              have H := HA.out
              clear HA
              simp only [carlinglaw02_lies.j1] at H
              by_cases c12 : x29_5 = true
              · subst c12
                have H1 : (some (-1)) = some r := by rw [if_pos rfl] at H; exact H
                clear H
                have H := H1
                clear H1
                obtain rfl := Option.some.inj H
                go_wp2
                repeat (go_quiet (fail); try go_wp2)
                go_ret
                exact ⟨by first | rfl | (simp [errW_none, errW_some] <;> rfl) | (simp [*, errW_none, errW_some] <;> rfl), by repeat (first | (with_reducible first | exact HB.out | apply below_alloc | apply pw_below_drewN | apply below_drew1 | refine below_set ?_ GE230.out) | exact HB.out)⟩
              · replace c12 := Bool.eq_false_iff.mpr c12
                subst c12
                have H1 : (if ((rd_T30 l1 x7_1).f0) = true then (if 0 ≤ ((rd_T30 l1 x7_1).f3) then (if ((rd_T30 l1 x7_1).f3) < (a0.size : Int) then (if (bt a0 ((rd_T30 l1 x7_1).f3)) = 40 then ((carlinglaw02_lies.f kj5 a0 ((rd_T30 l1 x7_1).f2) (wrap64 (((rd_T30 l1 x7_1).f3) + 1))).bind fun t231 => (if t231 < 0 then (some (-1)) else (carlinglaw02_lies.l0 kj5 a0 l1 t231 (wrap64 (x7_1 + 1))))) else (some (-1))) else (none)) else (none)) else (if (((rd_T30 l1 x7_1).f1).size : Int) > (wrap64 ((a0.size : Int) - ((rd_T30 l1 x7_1).f3))) then (some (-1)) else (if 0 ≤ ((rd_T30 l1 x7_1).f3) then (if ((rd_T30 l1 x7_1).f3) ≤ (wrap64 (((rd_T30 l1 x7_1).f3) + (((rd_T30 l1 x7_1).f1).size : Int))) then (if (wrap64 (((rd_T30 l1 x7_1).f3) + (((rd_T30 l1 x7_1).f1).size : Int))) ≤ (a0.size : Int) then (if (a0.extract (((rd_T30 l1 x7_1).f3) : Int).toNat ((wrap64 (((rd_T30 l1 x7_1).f3) + (((rd_T30 l1 x7_1).f1).size : Int))) : Int).toNat).toList = ((rd_T30 l1 x7_1).f1).toList then (carlinglaw02_lies.l0 kj5 a0 l1 (wrap64 (((rd_T30 l1 x7_1).f3) + 1)) (wrap64 (x7_1 + 1))) else (some (-1))) else (none)) else (none)) else (none)))) = some r := by rw [if_neg (show ¬ (false = true) by decide)] at H; exact H
                clear H
                have H := H1
                clear H1
                by_cases c13 : ((rd_T30 l1 x7_1).f0) = true
                · rw [if_pos c13] at H
                  have c13b0 : ((rd_T30 l1 x7_1).f0) = true := c13
                  clear c13
                  by_cases c14 : 0 ≤ ((rd_T30 l1 x7_1).f3)
                  · rw [if_pos c14] at H
                    have c14b0 : decide (0 ≤ ((rd_T30 l1 x7_1).f3)) = true := decide_eq_true c14
                    clear c14
                    by_cases c15 : ((rd_T30 l1 x7_1).f3) < (a0.size : Int)
                    · rw [if_pos c15] at H
                      have c15b0 : decide (((rd_T30 l1 x7_1).f3) < (a0.size : Int)) = true := decide_eq_true c15
                      clear c15
                      by_cases c17 : (bt a0 ((rd_T30 l1 x7_1).f3)) = 40
                      · rw [if_pos c17] at H
                        have c17b0 : ((bt a0 ((rd_T30 l1 x7_1).f3)) == 40) = true := beq_iff_eq.mpr c17
                        have c17b1 : ((bt a0 ((rd_T30 l1 x7_1).f3)) != 40) = false := bne_eq_false_iff_eq.mpr c17
                        clear c17
                        replace H := Option.bind_eq_some_iff.mp H
                        obtain ⟨t231, A180, H⟩ := H
                        replace H : (if t231 < 0 then (some (-1)) else (carlinglaw02_lies.l0 kj5 a0 l1 t231 (wrap64 (x7_1 + 1)))) = some r := H
                        have A18 := Aside0.mk A180
                        clear A180
                        by_cases c19 : t231 < 0
                        · rw [if_pos c19] at H
                          have c19b0 : decide (t231 < 0) = true := decide_eq_true c19
                          clear c19
                          obtain rfl := Option.some.inj H
                          have hcz20_0 : wc.cell? ⟨gb230, 0, none⟩ = some (.bool ((rd_T30 l1 x7_1).f0)) := (blk_cell BK230.out 0).trans rfl
                          have hcz20_1 : wc.cell? ⟨gb230, 1, none⟩ = some (.string ((rd_T30 l1 x7_1).f1)) := (blk_cell BK230.out 1).trans rfl
                          have hcz20_2 : wc.cell? ⟨gb230, 2, none⟩ = some (.slice A229_2 ((rd_T30 l1 x7_1).f2).length c229_2) := (blk_cell BK230.out 2).trans rfl
                          have hcz20_3 : wc.cell? ⟨gb230, 3, none⟩ = some (.int .i64 ((rd_T30 l1 x7_1).f3)) := (blk_cell BK230.out 3).trans rfl
                          have hfz20_0 := blk_frozen BK230.out 0
                          have hfz20_1 := blk_frozen BK230.out 1
                          have hfz20_2 := blk_frozen BK230.out 2
                          have hfz20_3 := blk_frozen BK230.out 3
                          have p16 : 0 ≤ (((rd_T30 l1 x7_1).f3) : Int) := of_decide_eq_true (by first | (with_reducible assumption) | assumption)
                          have q16 : ((rd_T30 l1 x7_1).f3) < (a0.size : Int) := of_decide_eq_true (by first | (with_reducible assumption) | assumption)
                          have hx16 := bt_at a0 ((rd_T30 l1 x7_1).f3)
                          replace p16 := eq_true p16
                          replace q16 := eq_true q16
                          go_wp2_with (first | (go_at_call 19; (with_reducible refine (ih kj5 (by have := HK1.out; have := HJ5.out; omega) a0 _ _ ((rd_T30 l1 x7_1).f2) (wrap64 (((rd_T30 l1 x7_1).f3) + 1)) t231 _ ?side1 ?side2 A18.out).mono ?_); (case side1 => repeat (first | exact (Kd.C_below HR229_2.out HB.out) | (with_reducible refine Kd.C_alloc ?_ _) | (with_reducible refine Kd.C_drewN ?_ _) | (with_reducible refine Kd.C_drew ?_))); (case side2 => exact HC229_2.out); rintro e w21 ⟨rfl, hb⟩; have n0_ := Aside0.mk (blk_below (g := gb230) (o := .cells #[.bool ((rd_T30 l1 x7_1).f0), .string ((rd_T30 l1 x7_1).f1), .slice A229_2 ((rd_T30 l1 x7_1).f2).length c229_2, .int .i64 ((rd_T30 l1 x7_1).f3)] 30 (0, 0)) (by (with_reducible repeat (first | refine blk_drewN ?_ _ | refine blk_drew ?_ | refine blk_alloc ?_ _)); exact BK230.out) hb); have n1_ := Aside0.mk (below_step (by repeat (first | (with_reducible first | exact HB.out | apply below_alloc | apply pw_below_drewN | apply below_drew1 | refine below_set ?_ GE230.out) | exact HB.out)) hb); clear BK230; clear HB; have BK230 := n0_; have HB := n1_; clear n0_ n1_; (try clear hb); (try clear hb2); (try clear hk); (try clear hi)))
                          repeat (go_quiet (first | (go_at_call 19; (with_reducible refine (ih kj5 (by have := HK1.out; have := HJ5.out; omega) a0 _ _ ((rd_T30 l1 x7_1).f2) (wrap64 (((rd_T30 l1 x7_1).f3) + 1)) t231 _ ?side1 ?side2 A18.out).mono ?_); (case side1 => repeat (first | exact (Kd.C_below HR229_2.out HB.out) | (with_reducible refine Kd.C_alloc ?_ _) | (with_reducible refine Kd.C_drewN ?_ _) | (with_reducible refine Kd.C_drew ?_))); (case side2 => exact HC229_2.out); rintro e w21 ⟨rfl, hb⟩; have n0_ := Aside0.mk (blk_below (g := gb230) (o := .cells #[.bool ((rd_T30 l1 x7_1).f0), .string ((rd_T30 l1 x7_1).f1), .slice A229_2 ((rd_T30 l1 x7_1).f2).length c229_2, .int .i64 ((rd_T30 l1 x7_1).f3)] 30 (0, 0)) (by (with_reducible repeat (first | refine blk_drewN ?_ _ | refine blk_drew ?_ | refine blk_alloc ?_ _)); exact BK230.out) hb); have n1_ := Aside0.mk (below_step (by repeat (first | (with_reducible first | exact HB.out | apply below_alloc | apply pw_below_drewN | apply below_drew1 | refine below_set ?_ GE230.out) | exact HB.out)) hb); clear BK230; clear HB; have BK230 := n0_; have HB := n1_; clear n0_ n1_; (try clear hb); (try clear hb2); (try clear hk); (try clear hi))); try go_wp2_with (first | (go_at_call 19; (with_reducible refine (ih kj5 (by have := HK1.out; have := HJ5.out; omega) a0 _ _ ((rd_T30 l1 x7_1).f2) (wrap64 (((rd_T30 l1 x7_1).f3) + 1)) t231 _ ?side1 ?side2 A18.out).mono ?_); (case side1 => repeat (first | exact (Kd.C_below HR229_2.out HB.out) | (with_reducible refine Kd.C_alloc ?_ _) | (with_reducible refine Kd.C_drewN ?_ _) | (with_reducible refine Kd.C_drew ?_))); (case side2 => exact HC229_2.out); rintro e w21 ⟨rfl, hb⟩; have n0_ := Aside0.mk (blk_below (g := gb230) (o := .cells #[.bool ((rd_T30 l1 x7_1).f0), .string ((rd_T30 l1 x7_1).f1), .slice A229_2 ((rd_T30 l1 x7_1).f2).length c229_2, .int .i64 ((rd_T30 l1 x7_1).f3)] 30 (0, 0)) (by (with_reducible repeat (first | refine blk_drewN ?_ _ | refine blk_drew ?_ | refine blk_alloc ?_ _)); exact BK230.out) hb); have n1_ := Aside0.mk (below_step (by repeat (first | (with_reducible first | exact HB.out | apply below_alloc | apply pw_below_drewN | apply below_drew1 | refine below_set ?_ GE230.out) | exact HB.out)) hb); clear BK230; clear HB; have BK230 := n0_; have HB := n1_; clear n0_ n1_; (try clear hb); (try clear hb2); (try clear hk); (try clear hi))))
                          go_ret
                          exact ⟨by first | rfl | (simp [errW_none, errW_some] <;> rfl) | (simp [*, errW_none, errW_some] <;> rfl), by repeat (first | (with_reducible first | exact HB.out | apply below_alloc | apply pw_below_drewN | apply below_drew1 | refine below_set ?_ GE230.out) | exact HB.out)⟩
                        · rw [if_neg c19] at H
                          have c19b0 : decide (t231 < 0) = false := decide_eq_false c19
                          clear c19
                          have H' := Aside0.mk H
                          clear H
                          have hcz22_0 : wc.cell? ⟨gb230, 0, none⟩ = some (.bool ((rd_T30 l1 x7_1).f0)) := (blk_cell BK230.out 0).trans rfl
                          have hcz22_1 : wc.cell? ⟨gb230, 1, none⟩ = some (.string ((rd_T30 l1 x7_1).f1)) := (blk_cell BK230.out 1).trans rfl
                          have hcz22_2 : wc.cell? ⟨gb230, 2, none⟩ = some (.slice A229_2 ((rd_T30 l1 x7_1).f2).length c229_2) := (blk_cell BK230.out 2).trans rfl
                          have hcz22_3 : wc.cell? ⟨gb230, 3, none⟩ = some (.int .i64 ((rd_T30 l1 x7_1).f3)) := (blk_cell BK230.out 3).trans rfl
                          have hfz22_0 := blk_frozen BK230.out 0
                          have hfz22_1 := blk_frozen BK230.out 1
                          have hfz22_2 := blk_frozen BK230.out 2
                          have hfz22_3 := blk_frozen BK230.out 3
                          have p16 : 0 ≤ (((rd_T30 l1 x7_1).f3) : Int) := of_decide_eq_true (by first | (with_reducible assumption) | assumption)
                          have q16 : ((rd_T30 l1 x7_1).f3) < (a0.size : Int) := of_decide_eq_true (by first | (with_reducible assumption) | assumption)
                          have hx16 := bt_at a0 ((rd_T30 l1 x7_1).f3)
                          replace p16 := eq_true p16
                          replace q16 := eq_true q16
                          go_wp2_with (first | (go_at_call 19; (with_reducible refine (ih kj5 (by have := HK1.out; have := HJ5.out; omega) a0 _ _ ((rd_T30 l1 x7_1).f2) (wrap64 (((rd_T30 l1 x7_1).f3) + 1)) t231 _ ?side1 ?side2 A18.out).mono ?_); (case side1 => repeat (first | exact (Kd.C_below HR229_2.out HB.out) | (with_reducible refine Kd.C_alloc ?_ _) | (with_reducible refine Kd.C_drewN ?_ _) | (with_reducible refine Kd.C_drew ?_))); (case side2 => exact HC229_2.out); rintro e w23 ⟨rfl, hb⟩; have n0_ := Aside0.mk (blk_below (g := gb230) (o := .cells #[.bool ((rd_T30 l1 x7_1).f0), .string ((rd_T30 l1 x7_1).f1), .slice A229_2 ((rd_T30 l1 x7_1).f2).length c229_2, .int .i64 ((rd_T30 l1 x7_1).f3)] 30 (0, 0)) (by (with_reducible repeat (first | refine blk_drewN ?_ _ | refine blk_drew ?_ | refine blk_alloc ?_ _)); exact BK230.out) hb); have n1_ := Aside0.mk (below_step (by repeat (first | (with_reducible first | exact HB.out | apply below_alloc | apply pw_below_drewN | apply below_drew1 | refine below_set ?_ GE230.out) | exact HB.out)) hb); clear BK230; clear HB; have BK230 := n0_; have HB := n1_; clear n0_ n1_; (try clear hb); (try clear hb2); (try clear hk); (try clear hi)))
                          repeat (go_quiet (first | (go_at_call 19; (with_reducible refine (ih kj5 (by have := HK1.out; have := HJ5.out; omega) a0 _ _ ((rd_T30 l1 x7_1).f2) (wrap64 (((rd_T30 l1 x7_1).f3) + 1)) t231 _ ?side1 ?side2 A18.out).mono ?_); (case side1 => repeat (first | exact (Kd.C_below HR229_2.out HB.out) | (with_reducible refine Kd.C_alloc ?_ _) | (with_reducible refine Kd.C_drewN ?_ _) | (with_reducible refine Kd.C_drew ?_))); (case side2 => exact HC229_2.out); rintro e w23 ⟨rfl, hb⟩; have n0_ := Aside0.mk (blk_below (g := gb230) (o := .cells #[.bool ((rd_T30 l1 x7_1).f0), .string ((rd_T30 l1 x7_1).f1), .slice A229_2 ((rd_T30 l1 x7_1).f2).length c229_2, .int .i64 ((rd_T30 l1 x7_1).f3)] 30 (0, 0)) (by (with_reducible repeat (first | refine blk_drewN ?_ _ | refine blk_drew ?_ | refine blk_alloc ?_ _)); exact BK230.out) hb); have n1_ := Aside0.mk (below_step (by repeat (first | (with_reducible first | exact HB.out | apply below_alloc | apply pw_below_drewN | apply below_drew1 | refine below_set ?_ GE230.out) | exact HB.out)) hb); clear BK230; clear HB; have BK230 := n0_; have HB := n1_; clear n0_ n1_; (try clear hb); (try clear hb2); (try clear hk); (try clear hi))); try go_wp2_with (first | (go_at_call 19; (with_reducible refine (ih kj5 (by have := HK1.out; have := HJ5.out; omega) a0 _ _ ((rd_T30 l1 x7_1).f2) (wrap64 (((rd_T30 l1 x7_1).f3) + 1)) t231 _ ?side1 ?side2 A18.out).mono ?_); (case side1 => repeat (first | exact (Kd.C_below HR229_2.out HB.out) | (with_reducible refine Kd.C_alloc ?_ _) | (with_reducible refine Kd.C_drewN ?_ _) | (with_reducible refine Kd.C_drew ?_))); (case side2 => exact HC229_2.out); rintro e w23 ⟨rfl, hb⟩; have n0_ := Aside0.mk (blk_below (g := gb230) (o := .cells #[.bool ((rd_T30 l1 x7_1).f0), .string ((rd_T30 l1 x7_1).f1), .slice A229_2 ((rd_T30 l1 x7_1).f2).length c229_2, .int .i64 ((rd_T30 l1 x7_1).f3)] 30 (0, 0)) (by (with_reducible repeat (first | refine blk_drewN ?_ _ | refine blk_drew ?_ | refine blk_alloc ?_ _)); exact BK230.out) hb); have n1_ := Aside0.mk (below_step (by repeat (first | (with_reducible first | exact HB.out | apply below_alloc | apply pw_below_drewN | apply below_drew1 | refine below_set ?_ GE230.out) | exact HB.out)) hb); clear BK230; clear HB; have BK230 := n0_; have HB := n1_; clear n0_ n1_; (try clear hb); (try clear hb2); (try clear hk); (try clear hi))))
                          go_roundg kj5
                          case measure => have := HK1.out; have := HJ5.out; omega
                          case rel => exact ⟨(t231), (wrap64 (x7_1 + 1)), (by first | rfl | (simp; done) | (simp [*]; done)), (by first | rfl | (simp; done) | (simp [*]; done)), H', ⟨by have := HK1.out; have := HJ5.out; omega⟩, ⟨by repeat (first | (with_reducible first | exact HB.out | apply below_alloc | apply pw_below_drewN | apply below_drew1 | refine below_set ?_ GE230.out) | exact HB.out)⟩⟩
                      · rw [if_neg c17] at H
                        have c17b0 : ((bt a0 ((rd_T30 l1 x7_1).f3)) == 40) = false := beq_eq_false_iff_ne.mpr c17
                        have c17b1 : ((bt a0 ((rd_T30 l1 x7_1).f3)) != 40) = true := bne_iff_ne.mpr c17
                        obtain rfl := Option.some.inj H
                        have hcz24_0 : wc.cell? ⟨gb230, 0, none⟩ = some (.bool ((rd_T30 l1 x7_1).f0)) := (blk_cell BK230.out 0).trans rfl
                        have hcz24_1 : wc.cell? ⟨gb230, 1, none⟩ = some (.string ((rd_T30 l1 x7_1).f1)) := (blk_cell BK230.out 1).trans rfl
                        have hcz24_2 : wc.cell? ⟨gb230, 2, none⟩ = some (.slice A229_2 ((rd_T30 l1 x7_1).f2).length c229_2) := (blk_cell BK230.out 2).trans rfl
                        have hcz24_3 : wc.cell? ⟨gb230, 3, none⟩ = some (.int .i64 ((rd_T30 l1 x7_1).f3)) := (blk_cell BK230.out 3).trans rfl
                        have hfz24_0 := blk_frozen BK230.out 0
                        have hfz24_1 := blk_frozen BK230.out 1
                        have hfz24_2 := blk_frozen BK230.out 2
                        have hfz24_3 := blk_frozen BK230.out 3
                        have p16 : 0 ≤ (((rd_T30 l1 x7_1).f3) : Int) := of_decide_eq_true (by first | (with_reducible assumption) | assumption)
                        have q16 : ((rd_T30 l1 x7_1).f3) < (a0.size : Int) := of_decide_eq_true (by first | (with_reducible assumption) | assumption)
                        have hx16 := bt_at a0 ((rd_T30 l1 x7_1).f3)
                        replace p16 := eq_true p16
                        replace q16 := eq_true q16
                        go_wp2
                        repeat (go_quiet (fail); try go_wp2)
                        go_ret
                        exact ⟨by first | rfl | (simp [errW_none, errW_some] <;> rfl) | (simp [*, errW_none, errW_some] <;> rfl), by repeat (first | (with_reducible first | exact HB.out | apply below_alloc | apply pw_below_drewN | apply below_drew1 | refine below_set ?_ GE230.out) | exact HB.out)⟩
                    · rw [if_neg c15] at H
                      exact absurd H (by simp)
                  · rw [if_neg c14] at H
                    exact absurd H (by simp)
                · rw [if_neg c13] at H
                  have c13b0 : ((rd_T30 l1 x7_1).f0) = false := by simpa using c13
                  clear c13
                  by_cases c25 : (((rd_T30 l1 x7_1).f1).size : Int) > (wrap64 ((a0.size : Int) - ((rd_T30 l1 x7_1).f3)))
                  · rw [if_pos c25] at H
                    have c25b0 : decide ((wrap64 ((a0.size : Int) - ((rd_T30 l1 x7_1).f3))) < (((rd_T30 l1 x7_1).f1).size : Int)) = true := decide_eq_true c25
                    clear c25
                    obtain rfl := Option.some.inj H
                    have hcz26_0 : wc.cell? ⟨gb230, 0, none⟩ = some (.bool ((rd_T30 l1 x7_1).f0)) := (blk_cell BK230.out 0).trans rfl
                    have hcz26_1 : wc.cell? ⟨gb230, 1, none⟩ = some (.string ((rd_T30 l1 x7_1).f1)) := (blk_cell BK230.out 1).trans rfl
                    have hcz26_2 : wc.cell? ⟨gb230, 2, none⟩ = some (.slice A229_2 ((rd_T30 l1 x7_1).f2).length c229_2) := (blk_cell BK230.out 2).trans rfl
                    have hcz26_3 : wc.cell? ⟨gb230, 3, none⟩ = some (.int .i64 ((rd_T30 l1 x7_1).f3)) := (blk_cell BK230.out 3).trans rfl
                    have hfz26_0 := blk_frozen BK230.out 0
                    have hfz26_1 := blk_frozen BK230.out 1
                    have hfz26_2 := blk_frozen BK230.out 2
                    have hfz26_3 := blk_frozen BK230.out 3
                    go_wp2
                    repeat (go_quiet (fail); try go_wp2)
                    go_ret
                    exact ⟨by first | rfl | (simp [errW_none, errW_some] <;> rfl) | (simp [*, errW_none, errW_some] <;> rfl), by repeat (first | (with_reducible first | exact HB.out | apply below_alloc | apply pw_below_drewN | apply below_drew1 | refine below_set ?_ GE230.out) | exact HB.out)⟩
                  · rw [if_neg c25] at H
                    have c25b0 : decide ((wrap64 ((a0.size : Int) - ((rd_T30 l1 x7_1).f3))) < (((rd_T30 l1 x7_1).f1).size : Int)) = false := decide_eq_false c25
                    clear c25
                    by_cases c27 : 0 ≤ ((rd_T30 l1 x7_1).f3)
                    · rw [if_pos c27] at H
                      have c27b0 := eq_true c27
                      have c27b1 : decide (0 ≤ ((rd_T30 l1 x7_1).f3)) = true := decide_eq_true c27
                      clear c27
                      by_cases c28 : ((rd_T30 l1 x7_1).f3) ≤ (wrap64 (((rd_T30 l1 x7_1).f3) + (((rd_T30 l1 x7_1).f1).size : Int)))
                      · rw [if_pos c28] at H
                        have c28b0 := eq_true c28
                        have c28b1 : decide (((rd_T30 l1 x7_1).f3) ≤ (wrap64 (((rd_T30 l1 x7_1).f3) + (((rd_T30 l1 x7_1).f1).size : Int)))) = true := decide_eq_true c28
                        by_cases c29 : (wrap64 (((rd_T30 l1 x7_1).f3) + (((rd_T30 l1 x7_1).f1).size : Int))) ≤ (a0.size : Int)
                        · rw [if_pos c29] at H
                          have c29b0 := eq_true c29
                          have c29b1 : decide ((wrap64 (((rd_T30 l1 x7_1).f3) + (((rd_T30 l1 x7_1).f1).size : Int))) ≤ (a0.size : Int)) = true := decide_eq_true c29
                          by_cases c30 : (a0.extract (((rd_T30 l1 x7_1).f3) : Int).toNat ((wrap64 (((rd_T30 l1 x7_1).f3) + (((rd_T30 l1 x7_1).f1).size : Int))) : Int).toNat).toList = ((rd_T30 l1 x7_1).f1).toList
                          · rw [if_pos c30] at H
                            have c30b0 : ((a0.extract (((rd_T30 l1 x7_1).f3) : Int).toNat ((wrap64 (((rd_T30 l1 x7_1).f3) + (((rd_T30 l1 x7_1).f1).size : Int))) : Int).toNat).toList == ((rd_T30 l1 x7_1).f1).toList) = true := beq_iff_eq.mpr c30
                            have c30b1 : ((a0.extract (((rd_T30 l1 x7_1).f3) : Int).toNat ((wrap64 (((rd_T30 l1 x7_1).f3) + (((rd_T30 l1 x7_1).f1).size : Int))) : Int).toNat).toList != ((rd_T30 l1 x7_1).f1).toList) = false := bne_eq_false_iff_eq.mpr c30
                            clear c30
                            have H' := Aside0.mk H
                            clear H
                            have hcz31_0 : wc.cell? ⟨gb230, 0, none⟩ = some (.bool ((rd_T30 l1 x7_1).f0)) := (blk_cell BK230.out 0).trans rfl
                            have hcz31_1 : wc.cell? ⟨gb230, 1, none⟩ = some (.string ((rd_T30 l1 x7_1).f1)) := (blk_cell BK230.out 1).trans rfl
                            have hcz31_2 : wc.cell? ⟨gb230, 2, none⟩ = some (.slice A229_2 ((rd_T30 l1 x7_1).f2).length c229_2) := (blk_cell BK230.out 2).trans rfl
                            have hcz31_3 : wc.cell? ⟨gb230, 3, none⟩ = some (.int .i64 ((rd_T30 l1 x7_1).f3)) := (blk_cell BK230.out 3).trans rfl
                            have hfz31_0 := blk_frozen BK230.out 0
                            have hfz31_1 := blk_frozen BK230.out 1
                            have hfz31_2 := blk_frozen BK230.out 2
                            have hfz31_3 := blk_frozen BK230.out 3
                            go_wp2
                            repeat (go_quiet (fail); try go_wp2)
                            go_roundg kj5
                            case measure => have := HK1.out; have := HJ5.out; omega
                            case rel => exact ⟨(wrap64 (((rd_T30 l1 x7_1).f3) + 1)), (wrap64 (x7_1 + 1)), (by first | rfl | (simp; done) | (simp [*]; done)), (by first | rfl | (simp; done) | (simp [*]; done)), H', ⟨by have := HK1.out; have := HJ5.out; omega⟩, ⟨by repeat (first | (with_reducible first | exact HB.out | apply below_alloc | apply pw_below_drewN | apply below_drew1 | refine below_set ?_ GE230.out) | exact HB.out)⟩⟩
                          · rw [if_neg c30] at H
                            have c30b0 : ((a0.extract (((rd_T30 l1 x7_1).f3) : Int).toNat ((wrap64 (((rd_T30 l1 x7_1).f3) + (((rd_T30 l1 x7_1).f1).size : Int))) : Int).toNat).toList == ((rd_T30 l1 x7_1).f1).toList) = false := beq_eq_false_iff_ne.mpr c30
                            have c30b1 : ((a0.extract (((rd_T30 l1 x7_1).f3) : Int).toNat ((wrap64 (((rd_T30 l1 x7_1).f3) + (((rd_T30 l1 x7_1).f1).size : Int))) : Int).toNat).toList != ((rd_T30 l1 x7_1).f1).toList) = true := bne_iff_ne.mpr c30
                            obtain rfl := Option.some.inj H
                            have hcz32_0 : wc.cell? ⟨gb230, 0, none⟩ = some (.bool ((rd_T30 l1 x7_1).f0)) := (blk_cell BK230.out 0).trans rfl
                            have hcz32_1 : wc.cell? ⟨gb230, 1, none⟩ = some (.string ((rd_T30 l1 x7_1).f1)) := (blk_cell BK230.out 1).trans rfl
                            have hcz32_2 : wc.cell? ⟨gb230, 2, none⟩ = some (.slice A229_2 ((rd_T30 l1 x7_1).f2).length c229_2) := (blk_cell BK230.out 2).trans rfl
                            have hcz32_3 : wc.cell? ⟨gb230, 3, none⟩ = some (.int .i64 ((rd_T30 l1 x7_1).f3)) := (blk_cell BK230.out 3).trans rfl
                            have hfz32_0 := blk_frozen BK230.out 0
                            have hfz32_1 := blk_frozen BK230.out 1
                            have hfz32_2 := blk_frozen BK230.out 2
                            have hfz32_3 := blk_frozen BK230.out 3
                            go_wp2
                            repeat (go_quiet (fail); try go_wp2)
                            go_ret
                            exact ⟨by first | rfl | (simp [errW_none, errW_some] <;> rfl) | (simp [*, errW_none, errW_some] <;> rfl), by repeat (first | (with_reducible first | exact HB.out | apply below_alloc | apply pw_below_drewN | apply below_drew1 | refine below_set ?_ GE230.out) | exact HB.out)⟩
                        · rw [if_neg c29] at H
                          exact absurd H (by simp)
                      · rw [if_neg c28] at H
                        exact absurd H (by simp)
                    · rw [if_neg c27] at H
                      exact absurd H (by simp)
        · rw [if_neg c5] at H
          exact absurd H (by simp)
      · rw [if_neg c4] at H
        have c4b0 : decide (x7_1 < (l1.length : Int)) = false := decide_eq_false c4
        clear c4
        obtain rfl := Option.some.inj H
        go_wp2
        repeat (go_quiet (fail); try go_wp2)
        go_ret
        exact ⟨by first | rfl | (simp [errW_none, errW_some] <;> rfl) | (simp [*, errW_none, errW_some] <;> rfl), by repeat (first | (with_reducible first | exact HB.out | apply below_alloc | apply pw_below_drewN | apply below_drew1) | exact HB.out)⟩

end Go.Proofs.Ytciojbdkoojlhaa.P
