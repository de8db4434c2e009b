/- Written by a program of this session (gp.py), which drives the printer of the kit: contracts of Go functions over the translation, and the rows of laws: each says what its theorems state. Conditions: as each theorem states them. -/
import Derived.Test.YtnhianjjhkjeoaaPx0
import Derived.Test.YtnhianjjhkjeoaaG3
namespace Go.Proofs.Ytnhianjjhkjeoaa.P
open Go.RowKit Go.Proofs.YtnhianjjhkjeoaaW.PrintWords Go.Proofs.YtnhianjjhkjeoaaW.PrintLast Go.Proofs.YtnhianjjhkjeoaaW.PrintMore
attribute [local go_sem] max2_int min2_int max_two min_two max_three min_three max_four min_four   -- for this text's walks alone
set_option linter.unusedVariables false
set_option linter.unusedSimpArgs false

/-! ### mach_Of: function 16 -/
mutual
def mach_OfV.l0 : Nat → List Int → List (S31) → Option ((List (S31)) × Int)
  | 0, _, _ => none
  | k + 1, x0, x4 => if (x0.length : Int) > 0 then (if 0 < (x0.length : Int) then (if 1 < (x0.length : Int) then (if 2 < (x0.length : Int) then (if 3 < (x0.length : Int) then (if 4 < (x0.length : Int) then (if 5 ≤ 9 then (if 9 ≤ (x0.length : Int) then ((some ((x0.take 9).drop 5 : List Int)).bind fun y172 => (mach_OfV.l1 k x0 x4 y172 (y172.length : Int) 0 (wrap64 (rd x0 0)) (wrap64 (rd x0 1)) (wrap64 (rd x0 2)) (wrap64 (rd x0 3)) (wrap64 (rd x0 4)) 0)) else (none)) else (none)) else (none)) else (none)) else (none)) else (none)) else (none)) else (some (x4, 0))
def mach_OfV.l1 : Nat → List Int → List (S31) → List Int → Int → Int → Int → Int → Int → Int → Int → Int → Option ((List (S31)) × Int)
  | 0, _, _, _, _, _, _, _, _, _, _, _ => none
  | k + 1, x0, x4, x39, x40, x41, x172000, x172001, x172002, x172003, x172004, x172005 => if x41 < x40 then (if 0 ≤ x41 then (if x41 < (x39.length : Int) then (mach_OfV.l1 k x0 x4 x39 x40 (wrap64 (x41 + 1)) x172000 x172001 x172002 x172003 x172004 (Go.bits .or .u32 ((x172005 * 256) % 4294967296) ((rd x39 x41) % 4294967296))) else (none)) else (none)) else ((mach_Right.f x172000 x172001 x172002 x172003 x172004 x172005).bind fun t178 => (if t178 = true then (if x4.length < 2932031007402 then (if 9 ≤ (x0.length : Int) then (mach_OfV.l0 k (x0.drop 9) (x4 ++ [(⟨x172000, x172001, x172002, x172003, x172004, x172005⟩ : S31)])) else (none)) else (none)) else (some (([] : List (S31)), 6))))
end
def mach_OfV.f (k : Nat) (l0 : List Int) : Option ((List (S31)) × Int) := if ((l0.length : Int) % 9) = 0 then (mach_OfV.l0 k l0 ([] : List (S31))) else (some (([] : List (S31)), 7))
theorem mach_OfV.mono_l : ∀ k, (∀ y0 y1, LeO (mach_OfV.l0 k y0 y1) (mach_OfV.l0 (k + 1) y0 y1)) ∧ (∀ y0 y1 y2 y3 y4 y5 y6 y7 y8 y9 y10, LeO (mach_OfV.l1 k y0 y1 y2 y3 y4 y5 y6 y7 y8 y9 y10) (mach_OfV.l1 (k + 1) y0 y1 y2 y3 y4 y5 y6 y7 y8 y9 y10))
  | 0 => ⟨fun _ _ r h => by simp [mach_OfV.l0] at h, fun _ _ _ _ _ _ _ _ _ _ _ r h => by simp [mach_OfV.l1] at h⟩
  | k + 1 => by
    obtain ⟨ih0, ih1⟩ := mach_OfV.mono_l k
    refine ⟨?_, ?_⟩
    · intro y0 y1
      unfold mach_OfV.l0
      repeat' first
      | (with_reducible exact ih0 _ _)
      | (with_reducible exact ih1 _ _ _ _ _ _ _ _ _ _ _)
      | (with_reducible exact LeO.refl _)
      | (with_reducible exact LeO.none _)
      | (with_reducible refine LeO.ite ?_ ?_)
      | (with_reducible refine LeO.bind ?_ (fun _ => ?_))
      | exact ih0 _ _
      | exact ih1 _ _ _ _ _ _ _ _ _ _ _
      | exact LeO.none _
      | refine LeO.ite ?_ ?_
      | refine LeO.bind ?_ (fun _ => ?_)
    · intro y0 y1 y2 y3 y4 y5 y6 y7 y8 y9 y10
      unfold mach_OfV.l1
      repeat' first
      | (with_reducible exact ih0 _ _)
      | (with_reducible exact ih1 _ _ _ _ _ _ _ _ _ _ _)
      | (with_reducible exact LeO.refl _)
      | (with_reducible exact LeO.none _)
      | (with_reducible refine LeO.ite ?_ ?_)
      | (with_reducible refine LeO.bind ?_ (fun _ => ?_))
      | exact ih0 _ _
      | exact ih1 _ _ _ _ _ _ _ _ _ _ _
      | exact LeO.none _
      | refine LeO.ite ?_ ?_
      | refine LeO.bind ?_ (fun _ => ?_)
theorem mach_OfV.mono : ∀ a0 k, LeO (mach_OfV.f k a0) (mach_OfV.f (k + 1) a0) := by
  intro a0 k
  obtain ⟨ih0, ih1⟩ := mach_OfV.mono_l k
  unfold mach_OfV.f
  repeat' first
      | (with_reducible exact ih0 _ _)
      | (with_reducible exact ih1 _ _ _ _ _ _ _ _ _ _ _)
      | (with_reducible exact LeO.refl _)
      | (with_reducible exact LeO.none _)
      | (with_reducible refine LeO.ite ?_ ?_)
      | (with_reducible refine LeO.bind ?_ (fun _ => ?_))
      | exact ih0 _ _
      | exact ih1 _ _ _ _ _ _ _ _ _ _ _
      | exact LeO.none _
      | refine LeO.ite ?_ ?_
      | refine LeO.bind ?_ (fun _ => ?_)
def mach_OfV.T6 : Bool × List (List Nat × List Nat) := (true, [([], []), ([0], [0]), ([1], [1]), ([2], [2]), ([], []), ([4], [4]), ([5], [5]), ([6], [6]), ([], []), ([8], [8]), ([9], [9]), ([10], [10]), ([], []), ([12], [12]), ([13], [13]), ([14], [14]), ([], []), ([16], [16]), ([17], [17]), ([18], [18]), ([3, 7, 11, 15, 19], [3, 7, 11, 15, 19]), ([], []), ([21, 20, 0, 1, 2, 3, 4, 5, 6, 7, 8, 9, 10, 11, 12, 13, 14, 15, 16, 17, 18, 19, 20, 21], [20, 21])])
def mach_OfV.B6 : List Nat := [0, 1, 3, 7, 0, 16, 48, 112, 0, 256, 768, 1792, 0, 4096, 12288, 28672, 0, 65536, 196608, 458752, 1048575, 0, 4194303]
theorem mach_OfV.tab6 : rtab .any (opsOf Try.f16 6) = mach_OfV.T6 := by kernel_rfl
theorem mach_OfV.bits6 : waitsOk mach_OfV.T6.2 mach_OfV.B6 = true := by kernel_rfl
theorem V_away1 {α : Type} {d : Kd α} {e base g : Nat} {W : World} {ok : Nat → Prop} {v : Value} {xs : List α} (h : Kd.V d e W base ok v xs) (hok : ∀ k, ok k → k ≠ g) (hn : 0 < xs.length) (hs : 0 < d.sz) : some g ≠ v.ownBlock := by
  obtain ⟨A, c, rfl, hl, hF⟩ := h
  obtain ⟨ad, cc, rfl, _, _, _, hin⟩ := Kd.F_get hF (xs[0]'hn) 0 (by omega) (by omega)
  intro he
  exact hok _ (hin hs) (by simpa [Value.ownBlock] using he.symm)
set_option maxHeartbeats 8000000 in
set_option maxRecDepth 100000 in
theorem mach_OfV.calls (k : Nat) (P0_ : Nat → Prop) (A0 : Option Addr) (c0 : Nat) (l0 : List Int) (r1 : List (S31)) (r2 : Int) (w : World) (hs0 : Kd.V (Kd.int .u8) 5 w w.heap.size (fun k_ => P0_ k_) (.slice A0 l0.length c0) l0) (h : mach_OfV.f k l0 = some (r1, r2)) :
    Calls Try.prog 16 #[.slice A0 l0.length c0] w fun e w' => ∃ v0_ : Value, e = .returned (.tuple #[v0_, .int .i64 r2]) ∧ Kd.R k31 31 w' w.heap.size (fun k_ => (w.heap.size ≤ k_)) v0_ r1 ∧ Below w.heap.size w w' := by
  have hu31 := Try.underlying31
  have HO0 := Aside0.mk (show Kd.V (Kd.int .u8) 5 w w.heap.size (fun k_ => (P0_ k_ ∨ w.heap.size ≤ k_)) (.slice A0 l0.length c0) l0 from Kd.V_mono hs0 (fun k_ hk => .inl hk))
  have HB := Aside0.mk (Below.refl w.heap.size w)
  have H : (if ((l0.length : Int) % 9) = 0 then (mach_OfV.l0 k l0 ([] : List (S31))) else (some (([] : List (S31)), 7))) = some (r1, r2) := h
  clear h
  by_cases c2 : ((l0.length : Int) % 9) = 0
  · rw [if_pos c2] at H
    have c2b0 : (((l0.length : Int) % 9) == 0) = true := beq_iff_eq.mpr c2
    have c2b1 : (((l0.length : Int) % 9) != 0) = false := bne_eq_false_iff_eq.mpr c2
    clear c2
    have H' := Aside0.mk H
    clear H
    go_enter Try.func16, Try.ntmps16
    go_wp2
    go_loopg [0, 4] k (fun kq v0 v4 w' => ∃ (x0_1 : List Int) (x4_1 : List (S31)), Aside0 (mach_OfV.l0 kq x0_1 x4_1 = some (r1, r2)) ∧ Aside0 (kq ≤ k) ∧ Aside0 (Kd.V (Kd.int .u8) 5 w' w.heap.size (fun k_ => (P0_ k_ ∨ w.heap.size ≤ k_) ∧ some k_ ≠ (v4 : Value).ownBlock) v0 x0_1) ∧ Aside0 (Kd.R k31 31 w' w.heap.size (fun k_ => (w.heap.size ≤ k_)) v4 x4_1) ∧ Aside0 (Below w.heap.size w w'))
    case atStart => exact ⟨(l0), (([] : List (S31))), H', ⟨Nat.le_refl _⟩, ⟨by (with_reducible repeat (first | apply Kd.V_alloc | apply Kd.V_drewN | apply Kd.V_drew)); exact Kd.V_mono HO0.out (fun _ hk => ⟨hk, (by simp [Value.ownBlock])⟩)⟩, ⟨by first | exact Kd.R_nil _ _ _ _ _ | exact Kd.N_nil _ _ _ _ _ | exact Kd.V_nil _ _ _ _ _ | exact Kd.Q_nil _ _ _ _ _ | exact Kd.S_nil _ _ _ _ _⟩, ⟨by repeat (first | (with_reducible first | exact HB.out | apply below_alloc | apply pw_below_drewN | apply below_drew1) | exact HB.out)⟩⟩
    case round =>
      clear H'
      try clear c1
      try clear c2
      try clear c2b0
      try clear c2b1
      try clear p2
      obtain ⟨x0_1, x4_1, HA, HK1, HO_0, HO_4, HB⟩ := hrel
      cases gk with
      | zero => exact absurd HA.out (by simp [mach_OfV.l0])
      | succ k1 =>
        have H := HA.out
        clear HA
        simp only [mach_OfV.l0] at H
        by_cases c3 : (x0_1.length : Int) > 0
        · rw [if_pos c3] at H
          have c3b0 : decide (0 < (x0_1.length : Int)) = true := decide_eq_true c3
          have c3b1 : decide (0 < x0_1.length) = true := decide_eq_true (by omega)
          clear c3
          by_cases c4 : 0 < (x0_1.length : Int)
          · rw [if_pos c4] at H
            have c4b0 : decide (0 < (x0_1.length : Int)) = true := decide_eq_true c4
            have c4b1 : decide (0 < x0_1.length) = true := decide_eq_true (by omega)
            clear c4
            by_cases c5 : 1 < (x0_1.length : Int)
            · rw [if_pos c5] at H
              have c5b0 : decide (1 < (x0_1.length : Int)) = true := decide_eq_true c5
              have c5b1 : decide (1 < x0_1.length) = true := decide_eq_true (by omega)
              clear c5
              by_cases c6 : 2 < (x0_1.length : Int)
              · rw [if_pos c6] at H
                have c6b0 : decide (2 < (x0_1.length : Int)) = true := decide_eq_true c6
                have c6b1 : decide (2 < x0_1.length) = true := decide_eq_true (by omega)
                clear c6
                by_cases c7 : 3 < (x0_1.length : Int)
                · rw [if_pos c7] at H
                  have c7b0 : decide (3 < (x0_1.length : Int)) = true := decide_eq_true c7
                  have c7b1 : decide (3 < x0_1.length) = true := decide_eq_true (by omega)
                  clear c7
                  by_cases c8 : 4 < (x0_1.length : Int)
                  · rw [if_pos c8] at H
                    have c8b0 : decide (4 < (x0_1.length : Int)) = true := decide_eq_true c8
                    have c8b1 : decide (4 < x0_1.length) = true := decide_eq_true (by omega)
                    clear c8
                    by_cases c9 : 5 ≤ 9
                    · rw [if_pos c9] at H
                      have c9b0 := eq_true c9
                      have c9b1 : decide (5 ≤ 9) = true := decide_eq_true c9
                      clear c9
                      by_cases c10 : 9 ≤ (x0_1.length : Int)
                      · rw [if_pos c10] at H
                        have c10b0 := eq_true c10
                        have c10b1 : decide (9 ≤ (x0_1.length : Int)) = true := decide_eq_true c10
                        clear c10
                        obtain ⟨y172, hy172⟩ : ∃ y_ : List Int, y_ = ((x0_1.take 9).drop 5) := ⟨_, rfl⟩
                        replace H : (mach_OfV.l1 k1 x0_1 x4_1 y172 (y172.length : Int) 0 (wrap64 (rd x0_1 0)) (wrap64 (rd x0_1 1)) (wrap64 (rd x0_1 2)) (wrap64 (rd x0_1 3)) (wrap64 (rd x0_1 4)) 0) = some (r1, r2) := by first | (rw [hy172]; with_reducible exact H) | (have H2_ := (Option.bind_some _ _).symm.trans H; rw [hy172]; with_reducible exact H2_) | (have H2_ := (Option.bind_some _ _).symm.trans H; with_reducible exact H2_) | with_reducible exact H | (rw [hy172]; exact H) | exact H
                        have Ny172 := Aside0.mk hy172
                        clear hy172
                        have H' := Aside0.mk H
                        clear H
                        obtain ⟨Ao11, co11, eo11⟩ := Kd.V_slice HO_0.out
                        subst eo11
                        try go_wp2
                        have n0_ := Aside0.mk (Kd.V_drew HO_0.out)
                        have n1_ := Aside0.mk (Kd.R_drew HO_4.out)
                        have n2_ := Aside0.mk (below_drew1 HB.out)
                        clear HO_0
                        clear HO_4
                        clear HB
                        have HO_0 := n0_
                        have HO_4 := n1_
                        have HB := n2_
                        clear n0_ n1_ n2_
                        have p166 : 0 ≤ (0 : Int) := (by omega)
                        have q166 : 0 < (x0_1.length : Int) := of_decide_eq_true (by first | (with_reducible assumption) | assumption)
                        obtain ⟨ad166, e166, hx166_0⟩ := Kd.at_int (Kd.V_reads' HO_0.out).2.2 0 p166 q166
                        cases e166
                        have qi166 : (0 < x0_1.length) = True := eq_true (by omega)
                        (try rw [show ((0 : Int)).toNat = 0 from rfl] at hx166_0)
                        (try rw [Addr.add_zero'] at hx166_0)
                        replace p166 := eq_true p166
                        replace q166 := eq_true q166
                        have p167 : 0 ≤ (1 : Int) := (by omega)
                        have q167 : 1 < (x0_1.length : Int) := of_decide_eq_true (by first | (with_reducible assumption) | assumption)
                        obtain ⟨ad167, e167, hx167_0⟩ := Kd.at_int (Kd.V_reads' HO_0.out).2.2 1 p167 q167
                        obtain rfl : ad166 = ad167 := (by injection e167)
                        (try simp only [show (1 : Int).toNat = 1 from rfl, Nat.reduceMul, Nat.reduceEqDiff, Go.Addr.add, ↓reduceIte] at hx167_0)
                        have qi167 : (1 < x0_1.length) = True := eq_true (by omega)
                        (try rw [show ((1 : Int)).toNat = 1 from rfl] at hx167_0)
                        replace p167 := eq_true p167
                        replace q167 := eq_true q167
                        have p168 : 0 ≤ (2 : Int) := (by omega)
                        have q168 : 2 < (x0_1.length : Int) := of_decide_eq_true (by first | (with_reducible assumption) | assumption)
                        obtain ⟨ad168, e168, hx168_0⟩ := Kd.at_int (Kd.V_reads' HO_0.out).2.2 2 p168 q168
                        obtain rfl : ad166 = ad168 := (by injection e168)
                        (try simp only [show (2 : Int).toNat = 2 from rfl, Nat.reduceMul, Nat.reduceEqDiff, Go.Addr.add, ↓reduceIte] at hx168_0)
                        have qi168 : (2 < x0_1.length) = True := eq_true (by omega)
                        (try rw [show ((2 : Int)).toNat = 2 from rfl] at hx168_0)
                        replace p168 := eq_true p168
                        replace q168 := eq_true q168
                        have p169 : 0 ≤ (3 : Int) := (by omega)
                        have q169 : 3 < (x0_1.length : Int) := of_decide_eq_true (by first | (with_reducible assumption) | assumption)
                        obtain ⟨ad169, e169, hx169_0⟩ := Kd.at_int (Kd.V_reads' HO_0.out).2.2 3 p169 q169
                        obtain rfl : ad166 = ad169 := (by injection e169)
                        (try simp only [show (3 : Int).toNat = 3 from rfl, Nat.reduceMul, Nat.reduceEqDiff, Go.Addr.add, ↓reduceIte] at hx169_0)
                        have qi169 : (3 < x0_1.length) = True := eq_true (by omega)
                        (try rw [show ((3 : Int)).toNat = 3 from rfl] at hx169_0)
                        replace p169 := eq_true p169
                        replace q169 := eq_true q169
                        have p170 : 0 ≤ (4 : Int) := (by omega)
                        have q170 : 4 < (x0_1.length : Int) := of_decide_eq_true (by first | (with_reducible assumption) | assumption)
                        obtain ⟨ad170, e170, hx170_0⟩ := Kd.at_int (Kd.V_reads' HO_0.out).2.2 4 p170 q170
                        obtain rfl : ad166 = ad170 := (by injection e170)
                        (try simp only [show (4 : Int).toNat = 4 from rfl, Nat.reduceMul, Nat.reduceEqDiff, Go.Addr.add, ↓reduceIte] at hx170_0)
                        have qi170 : (4 < x0_1.length) = True := eq_true (by omega)
                        (try rw [show ((4 : Int)).toNat = 4 from rfl] at hx170_0)
                        replace p170 := eq_true p170
                        replace q170 := eq_true q170
                        refine start_ (n := 23) (S := fun w' => w'.cell? ad166 = some (.int .u8 (rd x0_1 0)) ∧ w'.cell? ⟨ad166.block, ad166.off + 1, none⟩ = some (.int .u8 (rd x0_1 1)) ∧ w'.cell? ⟨ad166.block, ad166.off + 2, none⟩ = some (.int .u8 (rd x0_1 2)) ∧ w'.cell? ⟨ad166.block, ad166.off + 3, none⟩ = some (.int .u8 (rd x0_1 3)) ∧ w'.cell? ⟨ad166.block, ad166.off + 4, none⟩ = some (.int .u8 (rd x0_1 4))) (ds := []) #[false, false, false, false, false, false, false, false, false, false, false, false, false, false, false, false, false, false, false, false, false, false, false] (by kernel_rfl) rfl rfl ⟨hx166_0, hx167_0, hx168_0, hx169_0, hx170_0⟩ (fun hHeld => ?_); refine with_tabW mach_OfV.tab6 mach_OfV.bits6 (fun HT_ HW_ => ?_)
                        generalize wr.drew = w12 at HO_0 HO_4 HB hx166_0 hx167_0 hx168_0 hx169_0 hx170_0 hHeld ⊢
                        refine pure_ (i := 0) (N := some 17) (v := ?_) (a' := ?_) #[true, false, false, false, false, false, false, false, false, false, false, false, false, false, false, false, false, false, false, false, false, false, false] rfl rfl (any_of HT_.out (by kernel_rfl)) (fun _ _ _ h => h) (Or.inl ⟨by rfl, ?_⟩) ?_ ?_
                        rotate_left
                        · intro w'
                          go_simp
                          with_reducible rfl
                        rotate_left
                        · simp only [Act.put, List.setIfInBounds_toArray, List.set_cons_zero, List.set_cons_succ, i64_w, i32_w]
                          rfl
                        refine pure_ (i := 1) (N := some 18) (v := ?_) (a' := ?_) #[true, true, false, false, false, false, false, false, false, false, false, false, false, false, false, false, false, false, false, false, false, false, false] rfl rfl (any_of HT_.out (by kernel_rfl)) (fun _ _ _ h => h) (Or.inl ⟨by rfl, ?_⟩) ?_ ?_
                        rotate_left
                        · intro w'
                          go_simp
                          with_reducible rfl
                        rotate_left
                        · simp only [Act.put, List.setIfInBounds_toArray, List.set_cons_zero, List.set_cons_succ, i64_w, i32_w]
                          rfl
                        refine pure_ (i := 4) (N := some 21) (v := ?_) (a' := ?_) #[true, true, false, false, true, false, false, false, false, false, false, false, false, false, false, false, false, false, false, false, false, false, false] rfl rfl (any_of HT_.out (by kernel_rfl)) (fun _ _ _ h => h) (Or.inl ⟨by rfl, ?_⟩) ?_ ?_
                        rotate_left
                        · intro w'
                          go_simp
                          with_reducible rfl
                        rotate_left
                        · simp only [Act.put, List.setIfInBounds_toArray, List.set_cons_zero, List.set_cons_succ, i64_w, i32_w]
                          rfl
                        refine pure_ (i := 5) (N := some 22) (v := ?_) (a' := ?_) #[true, true, false, false, true, true, false, false, false, false, false, false, false, false, false, false, false, false, false, false, false, false, false] rfl rfl (any_of HT_.out (by kernel_rfl)) (fun _ _ _ h => h) (Or.inl ⟨by rfl, ?_⟩) ?_ ?_
                        rotate_left
                        · intro w'
                          go_simp
                          with_reducible rfl
                        rotate_left
                        · simp only [Act.put, List.setIfInBounds_toArray, List.set_cons_zero, List.set_cons_succ, i64_w, i32_w]
                          rfl
                        refine pure_ (i := 8) (N := some 25) (v := ?_) (a' := ?_) #[true, true, false, false, true, true, false, false, true, false, false, false, false, false, false, false, false, false, false, false, false, false, false] rfl rfl (any_of HT_.out (by kernel_rfl)) (fun _ _ _ h => h) (Or.inl ⟨by rfl, ?_⟩) ?_ ?_
                        rotate_left
                        · intro w'
                          go_simp
                          with_reducible rfl
                        rotate_left
                        · simp only [Act.put, List.setIfInBounds_toArray, List.set_cons_zero, List.set_cons_succ, i64_w, i32_w]
                          rfl
                        refine pure_ (i := 9) (N := some 26) (v := ?_) (a' := ?_) #[true, true, false, false, true, true, false, false, true, true, false, false, false, false, false, false, false, false, false, false, false, false, false] rfl rfl (any_of HT_.out (by kernel_rfl)) (fun _ _ _ h => h) (Or.inl ⟨by rfl, ?_⟩) ?_ ?_
                        rotate_left
                        · intro w'
                          go_simp
                          with_reducible rfl
                        rotate_left
                        · simp only [Act.put, List.setIfInBounds_toArray, List.set_cons_zero, List.set_cons_succ, i64_w, i32_w]
                          rfl
                        refine pure_ (i := 12) (N := some 29) (v := ?_) (a' := ?_) #[true, true, false, false, true, true, false, false, true, true, false, false, true, false, false, false, false, false, false, false, false, false, false] rfl rfl (any_of HT_.out (by kernel_rfl)) (fun _ _ _ h => h) (Or.inl ⟨by rfl, ?_⟩) ?_ ?_
                        rotate_left
                        · intro w'
                          go_simp
                          with_reducible rfl
                        rotate_left
                        · simp only [Act.put, List.setIfInBounds_toArray, List.set_cons_zero, List.set_cons_succ, i64_w, i32_w]
                          rfl
                        refine pure_ (i := 13) (N := some 30) (v := ?_) (a' := ?_) #[true, true, false, false, true, true, false, false, true, true, false, false, true, true, false, false, false, false, false, false, false, false, false] rfl rfl (any_of HT_.out (by kernel_rfl)) (fun _ _ _ h => h) (Or.inl ⟨by rfl, ?_⟩) ?_ ?_
                        rotate_left
                        · intro w'
                          go_simp
                          with_reducible rfl
                        rotate_left
                        · simp only [Act.put, List.setIfInBounds_toArray, List.set_cons_zero, List.set_cons_succ, i64_w, i32_w]
                          rfl
                        refine pure_ (i := 16) (N := some 33) (v := ?_) (a' := ?_) #[true, true, false, false, true, true, false, false, true, true, false, false, true, true, false, false, true, false, false, false, false, false, false] rfl rfl (any_of HT_.out (by kernel_rfl)) (fun _ _ _ h => h) (Or.inl ⟨by rfl, ?_⟩) ?_ ?_
                        rotate_left
                        · intro w'
                          go_simp
                          with_reducible rfl
                        rotate_left
                        · simp only [Act.put, List.setIfInBounds_toArray, List.set_cons_zero, List.set_cons_succ, i64_w, i32_w]
                          rfl
                        refine pure_ (i := 17) (N := some 34) (v := ?_) (a' := ?_) #[true, true, false, false, true, true, false, false, true, true, false, false, true, true, false, false, true, true, false, false, false, false, false] rfl rfl (any_of HT_.out (by kernel_rfl)) (fun _ _ _ h => h) (Or.inl ⟨by rfl, ?_⟩) ?_ ?_
                        rotate_left
                        · intro w'
                          go_simp
                          with_reducible rfl
                        rotate_left
                        · simp only [Act.put, List.setIfInBounds_toArray, List.set_cons_zero, List.set_cons_succ, i64_w, i32_w]
                          rfl
                        refine take_ (i := 2) (N := some 19) (v := ?_) (a' := ?_) #[true, true, true, false, true, true, false, false, true, true, false, false, true, true, false, false, true, true, false, false, false, false, false] rfl rfl (take_ofW HT_.out HW_.out (by kernel_rfl)) (fun _ _ _ h => h) (Or.inl ⟨by rfl, ?_⟩) hHeld ?_ ?_
                        rotate_left
                        · rintro w' ⟨s0, s1, s2, s3, s4⟩
                          go_simp
                          with_reducible rfl
                        rotate_left
                        · simp only [Act.put, List.setIfInBounds_toArray, List.set_cons_zero, List.set_cons_succ, i64_w, i32_w]
                          rfl
                        refine pure_ (i := 3) (N := some 20) (v := ?_) (a' := ?_) #[true, true, true, true, true, true, false, false, true, true, false, false, true, true, false, false, true, true, false, false, false, false, false] rfl rfl (any_of HT_.out (by kernel_rfl)) (fun _ _ _ h => h) (Or.inl ⟨by rfl, ?_⟩) ?_ ?_
                        rotate_left
                        · intro w'
                          go_simp
                          with_reducible rfl
                        rotate_left
                        · simp only [Act.put, List.setIfInBounds_toArray, List.set_cons_zero, List.set_cons_succ, i64_w, i32_w]
                          rfl
                        refine take_ (i := 6) (N := some 23) (v := ?_) (a' := ?_) #[true, true, true, true, true, true, true, false, true, true, false, false, true, true, false, false, true, true, false, false, false, false, false] rfl rfl (take_ofW HT_.out HW_.out (by kernel_rfl)) (fun _ _ _ h => h) (Or.inl ⟨by rfl, ?_⟩) hHeld ?_ ?_
                        rotate_left
                        · rintro w' ⟨s0, s1, s2, s3, s4⟩
                          go_simp
                          with_reducible rfl
                        rotate_left
                        · simp only [Act.put, List.setIfInBounds_toArray, List.set_cons_zero, List.set_cons_succ, i64_w, i32_w]
                          rfl
                        refine pure_ (i := 7) (N := some 24) (v := ?_) (a' := ?_) #[true, true, true, true, true, true, true, true, true, true, false, false, true, true, false, false, true, true, false, false, false, false, false] rfl rfl (any_of HT_.out (by kernel_rfl)) (fun _ _ _ h => h) (Or.inl ⟨by rfl, ?_⟩) ?_ ?_
                        rotate_left
                        · intro w'
                          go_simp
                          with_reducible rfl
                        rotate_left
                        · simp only [Act.put, List.setIfInBounds_toArray, List.set_cons_zero, List.set_cons_succ, i64_w, i32_w]
                          rfl
                        refine take_ (i := 10) (N := some 27) (v := ?_) (a' := ?_) #[true, true, true, true, true, true, true, true, true, true, true, false, true, true, false, false, true, true, false, false, false, false, false] rfl rfl (take_ofW HT_.out HW_.out (by kernel_rfl)) (fun _ _ _ h => h) (Or.inl ⟨by rfl, ?_⟩) hHeld ?_ ?_
                        rotate_left
                        · rintro w' ⟨s0, s1, s2, s3, s4⟩
                          go_simp
                          with_reducible rfl
                        rotate_left
                        · simp only [Act.put, List.setIfInBounds_toArray, List.set_cons_zero, List.set_cons_succ, i64_w, i32_w]
                          rfl
                        refine pure_ (i := 11) (N := some 28) (v := ?_) (a' := ?_) #[true, true, true, true, true, true, true, true, true, true, true, true, true, true, false, false, true, true, false, false, false, false, false] rfl rfl (any_of HT_.out (by kernel_rfl)) (fun _ _ _ h => h) (Or.inl ⟨by rfl, ?_⟩) ?_ ?_
                        rotate_left
                        · intro w'
                          go_simp
                          with_reducible rfl
                        rotate_left
                        · simp only [Act.put, List.setIfInBounds_toArray, List.set_cons_zero, List.set_cons_succ, i64_w, i32_w]
                          rfl
                        refine take_ (i := 14) (N := some 31) (v := ?_) (a' := ?_) #[true, true, true, true, true, true, true, true, true, true, true, true, true, true, true, false, true, true, false, false, false, false, false] rfl rfl (take_ofW HT_.out HW_.out (by kernel_rfl)) (fun _ _ _ h => h) (Or.inl ⟨by rfl, ?_⟩) hHeld ?_ ?_
                        rotate_left
                        · rintro w' ⟨s0, s1, s2, s3, s4⟩
                          go_simp
                          with_reducible rfl
                        rotate_left
                        · simp only [Act.put, List.setIfInBounds_toArray, List.set_cons_zero, List.set_cons_succ, i64_w, i32_w]
                          rfl
                        refine pure_ (i := 15) (N := some 32) (v := ?_) (a' := ?_) #[true, true, true, true, true, true, true, true, true, true, true, true, true, true, true, true, true, true, false, false, false, false, false] rfl rfl (any_of HT_.out (by kernel_rfl)) (fun _ _ _ h => h) (Or.inl ⟨by rfl, ?_⟩) ?_ ?_
                        rotate_left
                        · intro w'
                          go_simp
                          with_reducible rfl
                        rotate_left
                        · simp only [Act.put, List.setIfInBounds_toArray, List.set_cons_zero, List.set_cons_succ, i64_w, i32_w]
                          rfl
                        refine take_ (i := 18) (N := some 35) (v := ?_) (a' := ?_) #[true, true, true, true, true, true, true, true, true, true, true, true, true, true, true, true, true, true, true, false, false, false, false] rfl rfl (take_ofW HT_.out HW_.out (by kernel_rfl)) (fun _ _ _ h => h) (Or.inl ⟨by rfl, ?_⟩) hHeld ?_ ?_
                        rotate_left
                        · rintro w' ⟨s0, s1, s2, s3, s4⟩
                          go_simp
                          with_reducible rfl
                        rotate_left
                        · simp only [Act.put, List.setIfInBounds_toArray, List.set_cons_zero, List.set_cons_succ, i64_w, i32_w]
                          rfl
                        refine pure_ (i := 19) (N := some 36) (v := ?_) (a' := ?_) #[true, true, true, true, true, true, true, true, true, true, true, true, true, true, true, true, true, true, true, true, false, false, false] rfl rfl (any_of HT_.out (by kernel_rfl)) (fun _ _ _ h => h) (Or.inl ⟨by rfl, ?_⟩) ?_ ?_
                        rotate_left
                        · intro w'
                          go_simp
                          with_reducible rfl
                        rotate_left
                        · simp only [Act.put, List.setIfInBounds_toArray, List.set_cons_zero, List.set_cons_succ, i64_w, i32_w]
                          rfl
                        refine pure_ (i := 20) (N := some 37) (v := ?_) (a' := ?_) #[true, true, true, true, true, true, true, true, true, true, true, true, true, true, true, true, true, true, true, true, true, false, false] rfl rfl (any_of HT_.out (by kernel_rfl)) (fun _ _ _ h => h) (Or.inl ⟨by rfl, ?_⟩) ?_ ?_
                        rotate_left
                        · intro w'
                          go_simp
                          with_reducible rfl
                        rotate_left
                        · simp only [Act.put, List.setIfInBounds_toArray, List.set_cons_zero, List.set_cons_succ, i64_w, i32_w]
                          rfl
                        refine one_ (i := 21) (N := some 5) #[true, true, true, true, true, true, true, true, true, true, true, true, true, true, true, true, true, true, true, true, true, true, false] rfl rfl (one_of HT_.out (by kernel_rfl)) (by decide) (fun K hK => ?_)
                        refine box_step ?hg (N := 5) ?hd (cs := #[.int .i64 0, .int .i64 0, .int .i64 0, .int .i64 0, .int .i64 0, .int .u32 0]) (t := 31) ?hr ?_; (case hd => rfl); (case hg => rfl); (case hr => first | (go_simp; done) | (go_simp; rfl))
                        intro gb171 hg w13 hbox hb
                        have HS0_ := (hb.cell (World.block_lt_of_cell? _ _ (hHeld.1))).trans (hHeld.1)
                        have HS1_ := (hb.cell (World.block_lt_of_cell? _ _ (hHeld.2.1))).trans (hHeld.2.1)
                        have HS2_ := (hb.cell (World.block_lt_of_cell? _ _ (hHeld.2.2.1))).trans (hHeld.2.2.1)
                        have HS3_ := (hb.cell (World.block_lt_of_cell? _ _ (hHeld.2.2.2.1))).trans (hHeld.2.2.2.1)
                        have HS4_ := (hb.cell (World.block_lt_of_cell? _ _ (hHeld.2.2.2.2))).trans (hHeld.2.2.2.2)
                        have n0_ := Aside0.mk (Kd.V_below (Kd.V_elderB (by (with_reducible repeat (first | apply Kd.V_alloc | apply Kd.V_drewN | apply Kd.V_drew)); exact HO_0.out) gb171 (Nat.le_of_eq hg.symm)) hb)
                        have n1_ := Aside0.mk (Kd.R_below (Kd.R_elderB (by (with_reducible repeat (first | apply Kd.R_alloc | apply Kd.R_drewN | apply Kd.R_drew)); exact HO_4.out) gb171 (Nat.le_of_eq hg.symm)) hb)
                        have n2_ := Aside0.mk (below_step (by repeat (first | (with_reducible first | exact HB.out | apply below_alloc | apply pw_below_drewN | apply below_drew1) | exact HB.out)) hb)
                        have n3_ := Aside0.mk (hbox)
                        have n4_ := Aside0.mk ((by rw [hg]; exact (below_size (by repeat (first | (with_reducible first | exact HB.out | apply below_alloc | apply pw_below_drewN | apply below_drew1) | exact HB.out))) : w.heap.size ≤ gb171))
                        have n5_ := Aside0.mk ((by rw [hg]; exact (below_size (by repeat (first | (with_reducible first | exact HB.out | apply below_alloc | apply pw_below_drewN | apply below_drew1) | exact HB.out))) : w.heap.size ≤ gb171))
                        clear HO_0
                        clear HO_4
                        clear HB
                        have HO_0 := n0_
                        have HO_4 := n1_
                        have HB := n2_
                        have BK171 := n3_
                        have GW171 := n4_
                        have GE171 := n5_
                        clear n0_ n1_ n2_ n3_ n4_ n5_
                        clear hb hbox hg
                        refine hK.out _ _ ⟨HS0_, HS1_, HS2_, HS3_, HS4_⟩ (fun hHeld => ?_)
                        clear hK K
                        refine norm_ (a' := ?_) ?_ ?_
                        rotate_left
                        · show Act.put _ (some 5) _ = _
                          simp only [Act.put, List.setIfInBounds_toArray, List.set_cons_zero, List.set_cons_succ, i64_w, i32_w]
                          rfl
                        refine one_ (i := 22) (N := none) #[true, true, true, true, true, true, true, true, true, true, true, true, true, true, true, true, true, true, true, true, true, true, true] rfl rfl (one_of HT_.out (by kernel_rfl)) (by decide) (fun K hK => ?_)
                        have hs14 : w13.cell? ⟨gb171, 0, none⟩ = some (.int .i64 0) := (blk_cell BK171.out 0).trans rfl
                        have hfs14 := blk_frozen BK171.out 0
                        have hs15 : w13.cell? ⟨gb171, 1, none⟩ = some (.int .i64 0) := (blk_cell BK171.out 1).trans rfl
                        have hfs15 := blk_frozen BK171.out 1
                        have hs16 : w13.cell? ⟨gb171, 2, none⟩ = some (.int .i64 0) := (blk_cell BK171.out 2).trans rfl
                        have hfs16 := blk_frozen BK171.out 2
                        have hs17 : w13.cell? ⟨gb171, 3, none⟩ = some (.int .i64 0) := (blk_cell BK171.out 3).trans rfl
                        have hfs17 := blk_frozen BK171.out 3
                        have hs18 : w13.cell? ⟨gb171, 4, none⟩ = some (.int .i64 0) := (blk_cell BK171.out 4).trans rfl
                        have hfs18 := blk_frozen BK171.out 4
                        have hs19 : w13.cell? ⟨gb171, 5, none⟩ = some (.int .u32 0) := (blk_cell BK171.out 5).trans rfl
                        have hfs19 := blk_frozen BK171.out 5
                        refine skip_ (w1 := ?_) (by rfl) rfl ?_ ?_
                        rotate_left
                        · go_simp
                          rfl
                        refine hK.out _ _ ⟨((cell_far (p := ⟨gb171, _, none⟩) (by first | exact Kd.own_blk (V_away1 HO_0.out (fun _ hk => hk.2) (of_decide_eq_true c3b1) Nat.one_pos) | (rw [add_block]; exact Kd.own_blk (V_away1 HO_0.out (fun _ hk => hk.2) (of_decide_eq_true c3b1) Nat.one_pos)) | (show (Addr.add _ _).block ≠ _; rw [add_block]; exact Kd.own_blk (V_away1 HO_0.out (fun _ hk => hk.2) (of_decide_eq_true c3b1) Nat.one_pos)) | (dsimp only; exact Kd.own_blk (V_away1 HO_0.out (fun _ hk => hk.2) (of_decide_eq_true c3b1) Nat.one_pos))) _).trans (((cell_far (p := ⟨gb171, _, none⟩) (by first | exact Kd.own_blk (V_away1 HO_0.out (fun _ hk => hk.2) (of_decide_eq_true c3b1) Nat.one_pos) | (rw [add_block]; exact Kd.own_blk (V_away1 HO_0.out (fun _ hk => hk.2) (of_decide_eq_true c3b1) Nat.one_pos)) | (show (Addr.add _ _).block ≠ _; rw [add_block]; exact Kd.own_blk (V_away1 HO_0.out (fun _ hk => hk.2) (of_decide_eq_true c3b1) Nat.one_pos)) | (dsimp only; exact Kd.own_blk (V_away1 HO_0.out (fun _ hk => hk.2) (of_decide_eq_true c3b1) Nat.one_pos))) _).trans (((cell_far (p := ⟨gb171, _, none⟩) (by first | exact Kd.own_blk (V_away1 HO_0.out (fun _ hk => hk.2) (of_decide_eq_true c3b1) Nat.one_pos) | (rw [add_block]; exact Kd.own_blk (V_away1 HO_0.out (fun _ hk => hk.2) (of_decide_eq_true c3b1) Nat.one_pos)) | (show (Addr.add _ _).block ≠ _; rw [add_block]; exact Kd.own_blk (V_away1 HO_0.out (fun _ hk => hk.2) (of_decide_eq_true c3b1) Nat.one_pos)) | (dsimp only; exact Kd.own_blk (V_away1 HO_0.out (fun _ hk => hk.2) (of_decide_eq_true c3b1) Nat.one_pos))) _).trans (((cell_far (p := ⟨gb171, _, none⟩) (by first | exact Kd.own_blk (V_away1 HO_0.out (fun _ hk => hk.2) (of_decide_eq_true c3b1) Nat.one_pos) | (rw [add_block]; exact Kd.own_blk (V_away1 HO_0.out (fun _ hk => hk.2) (of_decide_eq_true c3b1) Nat.one_pos)) | (show (Addr.add _ _).block ≠ _; rw [add_block]; exact Kd.own_blk (V_away1 HO_0.out (fun _ hk => hk.2) (of_decide_eq_true c3b1) Nat.one_pos)) | (dsimp only; exact Kd.own_blk (V_away1 HO_0.out (fun _ hk => hk.2) (of_decide_eq_true c3b1) Nat.one_pos))) _).trans (((cell_far (p := ⟨gb171, _, none⟩) (by first | exact Kd.own_blk (V_away1 HO_0.out (fun _ hk => hk.2) (of_decide_eq_true c3b1) Nat.one_pos) | (rw [add_block]; exact Kd.own_blk (V_away1 HO_0.out (fun _ hk => hk.2) (of_decide_eq_true c3b1) Nat.one_pos)) | (show (Addr.add _ _).block ≠ _; rw [add_block]; exact Kd.own_blk (V_away1 HO_0.out (fun _ hk => hk.2) (of_decide_eq_true c3b1) Nat.one_pos)) | (dsimp only; exact Kd.own_blk (V_away1 HO_0.out (fun _ hk => hk.2) (of_decide_eq_true c3b1) Nat.one_pos))) _).trans (((cell_far (p := ⟨gb171, _, none⟩) (by first | exact Kd.own_blk (V_away1 HO_0.out (fun _ hk => hk.2) (of_decide_eq_true c3b1) Nat.one_pos) | (rw [add_block]; exact Kd.own_blk (V_away1 HO_0.out (fun _ hk => hk.2) (of_decide_eq_true c3b1) Nat.one_pos)) | (show (Addr.add _ _).block ≠ _; rw [add_block]; exact Kd.own_blk (V_away1 HO_0.out (fun _ hk => hk.2) (of_decide_eq_true c3b1) Nat.one_pos)) | (dsimp only; exact Kd.own_blk (V_away1 HO_0.out (fun _ hk => hk.2) (of_decide_eq_true c3b1) Nat.one_pos))) _).trans (hHeld.1)))))))))))), ((cell_far (p := ⟨gb171, _, none⟩) (by first | exact Kd.own_blk (V_away1 HO_0.out (fun _ hk => hk.2) (of_decide_eq_true c3b1) Nat.one_pos) | (rw [add_block]; exact Kd.own_blk (V_away1 HO_0.out (fun _ hk => hk.2) (of_decide_eq_true c3b1) Nat.one_pos)) | (show (Addr.add _ _).block ≠ _; rw [add_block]; exact Kd.own_blk (V_away1 HO_0.out (fun _ hk => hk.2) (of_decide_eq_true c3b1) Nat.one_pos)) | (dsimp only; exact Kd.own_blk (V_away1 HO_0.out (fun _ hk => hk.2) (of_decide_eq_true c3b1) Nat.one_pos))) _).trans (((cell_far (p := ⟨gb171, _, none⟩) (by first | exact Kd.own_blk (V_away1 HO_0.out (fun _ hk => hk.2) (of_decide_eq_true c3b1) Nat.one_pos) | (rw [add_block]; exact Kd.own_blk (V_away1 HO_0.out (fun _ hk => hk.2) (of_decide_eq_true c3b1) Nat.one_pos)) | (show (Addr.add _ _).block ≠ _; rw [add_block]; exact Kd.own_blk (V_away1 HO_0.out (fun _ hk => hk.2) (of_decide_eq_true c3b1) Nat.one_pos)) | (dsimp only; exact Kd.own_blk (V_away1 HO_0.out (fun _ hk => hk.2) (of_decide_eq_true c3b1) Nat.one_pos))) _).trans (((cell_far (p := ⟨gb171, _, none⟩) (by first | exact Kd.own_blk (V_away1 HO_0.out (fun _ hk => hk.2) (of_decide_eq_true c3b1) Nat.one_pos) | (rw [add_block]; exact Kd.own_blk (V_away1 HO_0.out (fun _ hk => hk.2) (of_decide_eq_true c3b1) Nat.one_pos)) | (show (Addr.add _ _).block ≠ _; rw [add_block]; exact Kd.own_blk (V_away1 HO_0.out (fun _ hk => hk.2) (of_decide_eq_true c3b1) Nat.one_pos)) | (dsimp only; exact Kd.own_blk (V_away1 HO_0.out (fun _ hk => hk.2) (of_decide_eq_true c3b1) Nat.one_pos))) _).trans (((cell_far (p := ⟨gb171, _, none⟩) (by first | exact Kd.own_blk (V_away1 HO_0.out (fun _ hk => hk.2) (of_decide_eq_true c3b1) Nat.one_pos) | (rw [add_block]; exact Kd.own_blk (V_away1 HO_0.out (fun _ hk => hk.2) (of_decide_eq_true c3b1) Nat.one_pos)) | (show (Addr.add _ _).block ≠ _; rw [add_block]; exact Kd.own_blk (V_away1 HO_0.out (fun _ hk => hk.2) (of_decide_eq_true c3b1) Nat.one_pos)) | (dsimp only; exact Kd.own_blk (V_away1 HO_0.out (fun _ hk => hk.2) (of_decide_eq_true c3b1) Nat.one_pos))) _).trans (((cell_far (p := ⟨gb171, _, none⟩) (by first | exact Kd.own_blk (V_away1 HO_0.out (fun _ hk => hk.2) (of_decide_eq_true c3b1) Nat.one_pos) | (rw [add_block]; exact Kd.own_blk (V_away1 HO_0.out (fun _ hk => hk.2) (of_decide_eq_true c3b1) Nat.one_pos)) | (show (Addr.add _ _).block ≠ _; rw [add_block]; exact Kd.own_blk (V_away1 HO_0.out (fun _ hk => hk.2) (of_decide_eq_true c3b1) Nat.one_pos)) | (dsimp only; exact Kd.own_blk (V_away1 HO_0.out (fun _ hk => hk.2) (of_decide_eq_true c3b1) Nat.one_pos))) _).trans (((cell_far (p := ⟨gb171, _, none⟩) (by first | exact Kd.own_blk (V_away1 HO_0.out (fun _ hk => hk.2) (of_decide_eq_true c3b1) Nat.one_pos) | (rw [add_block]; exact Kd.own_blk (V_away1 HO_0.out (fun _ hk => hk.2) (of_decide_eq_true c3b1) Nat.one_pos)) | (show (Addr.add _ _).block ≠ _; rw [add_block]; exact Kd.own_blk (V_away1 HO_0.out (fun _ hk => hk.2) (of_decide_eq_true c3b1) Nat.one_pos)) | (dsimp only; exact Kd.own_blk (V_away1 HO_0.out (fun _ hk => hk.2) (of_decide_eq_true c3b1) Nat.one_pos))) _).trans (hHeld.2.1)))))))))))), ((cell_far (p := ⟨gb171, _, none⟩) (by first | exact Kd.own_blk (V_away1 HO_0.out (fun _ hk => hk.2) (of_decide_eq_true c3b1) Nat.one_pos) | (rw [add_block]; exact Kd.own_blk (V_away1 HO_0.out (fun _ hk => hk.2) (of_decide_eq_true c3b1) Nat.one_pos)) | (show (Addr.add _ _).block ≠ _; rw [add_block]; exact Kd.own_blk (V_away1 HO_0.out (fun _ hk => hk.2) (of_decide_eq_true c3b1) Nat.one_pos)) | (dsimp only; exact Kd.own_blk (V_away1 HO_0.out (fun _ hk => hk.2) (of_decide_eq_true c3b1) Nat.one_pos))) _).trans (((cell_far (p := ⟨gb171, _, none⟩) (by first | exact Kd.own_blk (V_away1 HO_0.out (fun _ hk => hk.2) (of_decide_eq_true c3b1) Nat.one_pos) | (rw [add_block]; exact Kd.own_blk (V_away1 HO_0.out (fun _ hk => hk.2) (of_decide_eq_true c3b1) Nat.one_pos)) | (show (Addr.add _ _).block ≠ _; rw [add_block]; exact Kd.own_blk (V_away1 HO_0.out (fun _ hk => hk.2) (of_decide_eq_true c3b1) Nat.one_pos)) | (dsimp only; exact Kd.own_blk (V_away1 HO_0.out (fun _ hk => hk.2) (of_decide_eq_true c3b1) Nat.one_pos))) _).trans (((cell_far (p := ⟨gb171, _, none⟩) (by first | exact Kd.own_blk (V_away1 HO_0.out (fun _ hk => hk.2) (of_decide_eq_true c3b1) Nat.one_pos) | (rw [add_block]; exact Kd.own_blk (V_away1 HO_0.out (fun _ hk => hk.2) (of_decide_eq_true c3b1) Nat.one_pos)) | (show (Addr.add _ _).block ≠ _; rw [add_block]; exact Kd.own_blk (V_away1 HO_0.out (fun _ hk => hk.2) (of_decide_eq_true c3b1) Nat.one_pos)) | (dsimp only; exact Kd.own_blk (V_away1 HO_0.out (fun _ hk => hk.2) (of_decide_eq_true c3b1) Nat.one_pos))) _).trans (((cell_far (p := ⟨gb171, _, none⟩) (by first | exact Kd.own_blk (V_away1 HO_0.out (fun _ hk => hk.2) (of_decide_eq_true c3b1) Nat.one_pos) | (rw [add_block]; exact Kd.own_blk (V_away1 HO_0.out (fun _ hk => hk.2) (of_decide_eq_true c3b1) Nat.one_pos)) | (show (Addr.add _ _).block ≠ _; rw [add_block]; exact Kd.own_blk (V_away1 HO_0.out (fun _ hk => hk.2) (of_decide_eq_true c3b1) Nat.one_pos)) | (dsimp only; exact Kd.own_blk (V_away1 HO_0.out (fun _ hk => hk.2) (of_decide_eq_true c3b1) Nat.one_pos))) _).trans (((cell_far (p := ⟨gb171, _, none⟩) (by first | exact Kd.own_blk (V_away1 HO_0.out (fun _ hk => hk.2) (of_decide_eq_true c3b1) Nat.one_pos) | (rw [add_block]; exact Kd.own_blk (V_away1 HO_0.out (fun _ hk => hk.2) (of_decide_eq_true c3b1) Nat.one_pos)) | (show (Addr.add _ _).block ≠ _; rw [add_block]; exact Kd.own_blk (V_away1 HO_0.out (fun _ hk => hk.2) (of_decide_eq_true c3b1) Nat.one_pos)) | (dsimp only; exact Kd.own_blk (V_away1 HO_0.out (fun _ hk => hk.2) (of_decide_eq_true c3b1) Nat.one_pos))) _).trans (((cell_far (p := ⟨gb171, _, none⟩) (by first | exact Kd.own_blk (V_away1 HO_0.out (fun _ hk => hk.2) (of_decide_eq_true c3b1) Nat.one_pos) | (rw [add_block]; exact Kd.own_blk (V_away1 HO_0.out (fun _ hk => hk.2) (of_decide_eq_true c3b1) Nat.one_pos)) | (show (Addr.add _ _).block ≠ _; rw [add_block]; exact Kd.own_blk (V_away1 HO_0.out (fun _ hk => hk.2) (of_decide_eq_true c3b1) Nat.one_pos)) | (dsimp only; exact Kd.own_blk (V_away1 HO_0.out (fun _ hk => hk.2) (of_decide_eq_true c3b1) Nat.one_pos))) _).trans (hHeld.2.2.1)))))))))))), ((cell_far (p := ⟨gb171, _, none⟩) (by first | exact Kd.own_blk (V_away1 HO_0.out (fun _ hk => hk.2) (of_decide_eq_true c3b1) Nat.one_pos) | (rw [add_block]; exact Kd.own_blk (V_away1 HO_0.out (fun _ hk => hk.2) (of_decide_eq_true c3b1) Nat.one_pos)) | (show (Addr.add _ _).block ≠ _; rw [add_block]; exact Kd.own_blk (V_away1 HO_0.out (fun _ hk => hk.2) (of_decide_eq_true c3b1) Nat.one_pos)) | (dsimp only; exact Kd.own_blk (V_away1 HO_0.out (fun _ hk => hk.2) (of_decide_eq_true c3b1) Nat.one_pos))) _).trans (((cell_far (p := ⟨gb171, _, none⟩) (by first | exact Kd.own_blk (V_away1 HO_0.out (fun _ hk => hk.2) (of_decide_eq_true c3b1) Nat.one_pos) | (rw [add_block]; exact Kd.own_blk (V_away1 HO_0.out (fun _ hk => hk.2) (of_decide_eq_true c3b1) Nat.one_pos)) | (show (Addr.add _ _).block ≠ _; rw [add_block]; exact Kd.own_blk (V_away1 HO_0.out (fun _ hk => hk.2) (of_decide_eq_true c3b1) Nat.one_pos)) | (dsimp only; exact Kd.own_blk (V_away1 HO_0.out (fun _ hk => hk.2) (of_decide_eq_true c3b1) Nat.one_pos))) _).trans (((cell_far (p := ⟨gb171, _, none⟩) (by first | exact Kd.own_blk (V_away1 HO_0.out (fun _ hk => hk.2) (of_decide_eq_true c3b1) Nat.one_pos) | (rw [add_block]; exact Kd.own_blk (V_away1 HO_0.out (fun _ hk => hk.2) (of_decide_eq_true c3b1) Nat.one_pos)) | (show (Addr.add _ _).block ≠ _; rw [add_block]; exact Kd.own_blk (V_away1 HO_0.out (fun _ hk => hk.2) (of_decide_eq_true c3b1) Nat.one_pos)) | (dsimp only; exact Kd.own_blk (V_away1 HO_0.out (fun _ hk => hk.2) (of_decide_eq_true c3b1) Nat.one_pos))) _).trans (((cell_far (p := ⟨gb171, _, none⟩) (by first | exact Kd.own_blk (V_away1 HO_0.out (fun _ hk => hk.2) (of_decide_eq_true c3b1) Nat.one_pos) | (rw [add_block]; exact Kd.own_blk (V_away1 HO_0.out (fun _ hk => hk.2) (of_decide_eq_true c3b1) Nat.one_pos)) | (show (Addr.add _ _).block ≠ _; rw [add_block]; exact Kd.own_blk (V_away1 HO_0.out (fun _ hk => hk.2) (of_decide_eq_true c3b1) Nat.one_pos)) | (dsimp only; exact Kd.own_blk (V_away1 HO_0.out (fun _ hk => hk.2) (of_decide_eq_true c3b1) Nat.one_pos))) _).trans (((cell_far (p := ⟨gb171, _, none⟩) (by first | exact Kd.own_blk (V_away1 HO_0.out (fun _ hk => hk.2) (of_decide_eq_true c3b1) Nat.one_pos) | (rw [add_block]; exact Kd.own_blk (V_away1 HO_0.out (fun _ hk => hk.2) (of_decide_eq_true c3b1) Nat.one_pos)) | (show (Addr.add _ _).block ≠ _; rw [add_block]; exact Kd.own_blk (V_away1 HO_0.out (fun _ hk => hk.2) (of_decide_eq_true c3b1) Nat.one_pos)) | (dsimp only; exact Kd.own_blk (V_away1 HO_0.out (fun _ hk => hk.2) (of_decide_eq_true c3b1) Nat.one_pos))) _).trans (((cell_far (p := ⟨gb171, _, none⟩) (by first | exact Kd.own_blk (V_away1 HO_0.out (fun _ hk => hk.2) (of_decide_eq_true c3b1) Nat.one_pos) | (rw [add_block]; exact Kd.own_blk (V_away1 HO_0.out (fun _ hk => hk.2) (of_decide_eq_true c3b1) Nat.one_pos)) | (show (Addr.add _ _).block ≠ _; rw [add_block]; exact Kd.own_blk (V_away1 HO_0.out (fun _ hk => hk.2) (of_decide_eq_true c3b1) Nat.one_pos)) | (dsimp only; exact Kd.own_blk (V_away1 HO_0.out (fun _ hk => hk.2) (of_decide_eq_true c3b1) Nat.one_pos))) _).trans (hHeld.2.2.2.1)))))))))))), ((cell_far (p := ⟨gb171, _, none⟩) (by first | exact Kd.own_blk (V_away1 HO_0.out (fun _ hk => hk.2) (of_decide_eq_true c3b1) Nat.one_pos) | (rw [add_block]; exact Kd.own_blk (V_away1 HO_0.out (fun _ hk => hk.2) (of_decide_eq_true c3b1) Nat.one_pos)) | (show (Addr.add _ _).block ≠ _; rw [add_block]; exact Kd.own_blk (V_away1 HO_0.out (fun _ hk => hk.2) (of_decide_eq_true c3b1) Nat.one_pos)) | (dsimp only; exact Kd.own_blk (V_away1 HO_0.out (fun _ hk => hk.2) (of_decide_eq_true c3b1) Nat.one_pos))) _).trans (((cell_far (p := ⟨gb171, _, none⟩) (by first | exact Kd.own_blk (V_away1 HO_0.out (fun _ hk => hk.2) (of_decide_eq_true c3b1) Nat.one_pos) | (rw [add_block]; exact Kd.own_blk (V_away1 HO_0.out (fun _ hk => hk.2) (of_decide_eq_true c3b1) Nat.one_pos)) | (show (Addr.add _ _).block ≠ _; rw [add_block]; exact Kd.own_blk (V_away1 HO_0.out (fun _ hk => hk.2) (of_decide_eq_true c3b1) Nat.one_pos)) | (dsimp only; exact Kd.own_blk (V_away1 HO_0.out (fun _ hk => hk.2) (of_decide_eq_true c3b1) Nat.one_pos))) _).trans (((cell_far (p := ⟨gb171, _, none⟩) (by first | exact Kd.own_blk (V_away1 HO_0.out (fun _ hk => hk.2) (of_decide_eq_true c3b1) Nat.one_pos) | (rw [add_block]; exact Kd.own_blk (V_away1 HO_0.out (fun _ hk => hk.2) (of_decide_eq_true c3b1) Nat.one_pos)) | (show (Addr.add _ _).block ≠ _; rw [add_block]; exact Kd.own_blk (V_away1 HO_0.out (fun _ hk => hk.2) (of_decide_eq_true c3b1) Nat.one_pos)) | (dsimp only; exact Kd.own_blk (V_away1 HO_0.out (fun _ hk => hk.2) (of_decide_eq_true c3b1) Nat.one_pos))) _).trans (((cell_far (p := ⟨gb171, _, none⟩) (by first | exact Kd.own_blk (V_away1 HO_0.out (fun _ hk => hk.2) (of_decide_eq_true c3b1) Nat.one_pos) | (rw [add_block]; exact Kd.own_blk (V_away1 HO_0.out (fun _ hk => hk.2) (of_decide_eq_true c3b1) Nat.one_pos)) | (show (Addr.add _ _).block ≠ _; rw [add_block]; exact Kd.own_blk (V_away1 HO_0.out (fun _ hk => hk.2) (of_decide_eq_true c3b1) Nat.one_pos)) | (dsimp only; exact Kd.own_blk (V_away1 HO_0.out (fun _ hk => hk.2) (of_decide_eq_true c3b1) Nat.one_pos))) _).trans (((cell_far (p := ⟨gb171, _, none⟩) (by first | exact Kd.own_blk (V_away1 HO_0.out (fun _ hk => hk.2) (of_decide_eq_true c3b1) Nat.one_pos) | (rw [add_block]; exact Kd.own_blk (V_away1 HO_0.out (fun _ hk => hk.2) (of_decide_eq_true c3b1) Nat.one_pos)) | (show (Addr.add _ _).block ≠ _; rw [add_block]; exact Kd.own_blk (V_away1 HO_0.out (fun _ hk => hk.2) (of_decide_eq_true c3b1) Nat.one_pos)) | (dsimp only; exact Kd.own_blk (V_away1 HO_0.out (fun _ hk => hk.2) (of_decide_eq_true c3b1) Nat.one_pos))) _).trans (((cell_far (p := ⟨gb171, _, none⟩) (by first | exact Kd.own_blk (V_away1 HO_0.out (fun _ hk => hk.2) (of_decide_eq_true c3b1) Nat.one_pos) | (rw [add_block]; exact Kd.own_blk (V_away1 HO_0.out (fun _ hk => hk.2) (of_decide_eq_true c3b1) Nat.one_pos)) | (show (Addr.add _ _).block ≠ _; rw [add_block]; exact Kd.own_blk (V_away1 HO_0.out (fun _ hk => hk.2) (of_decide_eq_true c3b1) Nat.one_pos)) | (dsimp only; exact Kd.own_blk (V_away1 HO_0.out (fun _ hk => hk.2) (of_decide_eq_true c3b1) Nat.one_pos))) _).trans (hHeld.2.2.2.2))))))))))))⟩ (fun hHeld => ?_)
                        clear hK K
                        refine done_ (done_of HT_.out (by kernel_rfl)) ?_
                        have n0_ : Aside0 (Kd.V (Kd.int .u8) 5 ((((((w13.setCell ⟨gb171, 0, none⟩ (.int .i64 (wrap64 (rd x0_1 0)))).setCell ⟨gb171, 1, none⟩ (.int .i64 (wrap64 (rd x0_1 1)))).setCell ⟨gb171, 2, none⟩ (.int .i64 (wrap64 (rd x0_1 2)))).setCell ⟨gb171, 3, none⟩ (.int .i64 (wrap64 (rd x0_1 3)))).setCell ⟨gb171, 4, none⟩ (.int .i64 (wrap64 (rd x0_1 4)))).setCell ⟨gb171, 5, none⟩ (.int .u32 0)) w.heap.size (fun k_ => (P0_ k_ ∨ w.heap.size ≤ k_) ∧ some k_ ≠ (u4 : Value).ownBlock ∧ k_ ≠ gb171) (.slice (some ad166) x0_1.length co11) x0_1) := ⟨by (with_reducible repeat (first | apply Kd.V_alloc | apply Kd.V_drewN | apply Kd.V_drew)); exact Kd.V_mono (Kd.V_far (p := ⟨gb171, 5, none⟩) (Kd.V_far (p := ⟨gb171, 4, none⟩) (Kd.V_far (p := ⟨gb171, 3, none⟩) (Kd.V_far (p := ⟨gb171, 2, none⟩) (Kd.V_far (p := ⟨gb171, 1, none⟩) (Kd.V_far (p := ⟨gb171, 0, none⟩) (Kd.V_mono HO_0.out (fun k_ hk => (⟨hk, hk.2⟩ : _ ∧ k_ ≠ gb171))) (fun _ hk => hk.2) (.int .i64 (wrap64 (rd x0_1 0)))) (fun _ hk => hk.2) (.int .i64 (wrap64 (rd x0_1 1)))) (fun _ hk => hk.2) (.int .i64 (wrap64 (rd x0_1 2)))) (fun _ hk => hk.2) (.int .i64 (wrap64 (rd x0_1 3)))) (fun _ hk => hk.2) (.int .i64 (wrap64 (rd x0_1 4)))) (fun _ hk => hk.2) (.int .u32 0)) (fun _ hk => ⟨hk.1.1.1, ⟨hk.1.1.2, hk.1.2⟩⟩)⟩
                        have n1_ : Aside0 (Kd.R k31 31 ((((((w13.setCell ⟨gb171, 0, none⟩ (.int .i64 (wrap64 (rd x0_1 0)))).setCell ⟨gb171, 1, none⟩ (.int .i64 (wrap64 (rd x0_1 1)))).setCell ⟨gb171, 2, none⟩ (.int .i64 (wrap64 (rd x0_1 2)))).setCell ⟨gb171, 3, none⟩ (.int .i64 (wrap64 (rd x0_1 3)))).setCell ⟨gb171, 4, none⟩ (.int .i64 (wrap64 (rd x0_1 4)))).setCell ⟨gb171, 5, none⟩ (.int .u32 0)) w.heap.size (fun k_ => (w.heap.size ≤ k_) ∧ k_ ≠ gb171) u4 x4_1) := ⟨by (with_reducible repeat (first | apply Kd.R_alloc | apply Kd.R_drewN | apply Kd.R_drew)); exact Kd.R_mono (Kd.R_far (p := ⟨gb171, 5, none⟩) (Kd.R_far (p := ⟨gb171, 4, none⟩) (Kd.R_far (p := ⟨gb171, 3, none⟩) (Kd.R_far (p := ⟨gb171, 2, none⟩) (Kd.R_far (p := ⟨gb171, 1, none⟩) (Kd.R_far (p := ⟨gb171, 0, none⟩) (Kd.R_mono HO_4.out (fun k_ hk => (⟨hk, hk.2⟩ : _ ∧ k_ ≠ gb171))) (fun _ hk => hk.2) (.int .i64 (wrap64 (rd x0_1 0)))) (fun _ hk => hk.2) (.int .i64 (wrap64 (rd x0_1 1)))) (fun _ hk => hk.2) (.int .i64 (wrap64 (rd x0_1 2)))) (fun _ hk => hk.2) (.int .i64 (wrap64 (rd x0_1 3)))) (fun _ hk => hk.2) (.int .i64 (wrap64 (rd x0_1 4)))) (fun _ hk => hk.2) (.int .u32 0)) (fun _ hk => ⟨hk.1.1, hk.1.2⟩)⟩
                        have n2_ : Aside0 (((((((w13.setCell ⟨gb171, 0, none⟩ (.int .i64 (wrap64 (rd x0_1 0)))).setCell ⟨gb171, 1, none⟩ (.int .i64 (wrap64 (rd x0_1 1)))).setCell ⟨gb171, 2, none⟩ (.int .i64 (wrap64 (rd x0_1 2)))).setCell ⟨gb171, 3, none⟩ (.int .i64 (wrap64 (rd x0_1 3)))).setCell ⟨gb171, 4, none⟩ (.int .i64 (wrap64 (rd x0_1 4)))).setCell ⟨gb171, 5, none⟩ (.int .u32 0)).heap[gb171]? = some (.cells #[.int .i64 (wrap64 (rd x0_1 0)), .int .i64 (wrap64 (rd x0_1 1)), .int .i64 (wrap64 (rd x0_1 2)), .int .i64 (wrap64 (rd x0_1 3)), .int .i64 (wrap64 (rd x0_1 4)), .int .u32 0] 31 (0, 0))) := ⟨by (with_reducible repeat (first | refine blk_drewN ?_ _ | refine blk_drew ?_ | refine blk_alloc ?_ _)); refine blk_put (cs := #[.int .i64 (wrap64 (rd x0_1 0)), .int .i64 (wrap64 (rd x0_1 1)), .int .i64 (wrap64 (rd x0_1 2)), .int .i64 (wrap64 (rd x0_1 3)), .int .i64 (wrap64 (rd x0_1 4)), .int .u32 0]) ?_ 5 _ rfl; (with_reducible repeat (first | refine blk_drewN ?_ _ | refine blk_drew ?_ | refine blk_alloc ?_ _)); refine blk_put (cs := #[.int .i64 (wrap64 (rd x0_1 0)), .int .i64 (wrap64 (rd x0_1 1)), .int .i64 (wrap64 (rd x0_1 2)), .int .i64 (wrap64 (rd x0_1 3)), .int .i64 0, .int .u32 0]) ?_ 4 _ rfl; (with_reducible repeat (first | refine blk_drewN ?_ _ | refine blk_drew ?_ | refine blk_alloc ?_ _)); refine blk_put (cs := #[.int .i64 (wrap64 (rd x0_1 0)), .int .i64 (wrap64 (rd x0_1 1)), .int .i64 (wrap64 (rd x0_1 2)), .int .i64 0, .int .i64 0, .int .u32 0]) ?_ 3 _ rfl; (with_reducible repeat (first | refine blk_drewN ?_ _ | refine blk_drew ?_ | refine blk_alloc ?_ _)); refine blk_put (cs := #[.int .i64 (wrap64 (rd x0_1 0)), .int .i64 (wrap64 (rd x0_1 1)), .int .i64 0, .int .i64 0, .int .i64 0, .int .u32 0]) ?_ 2 _ rfl; (with_reducible repeat (first | refine blk_drewN ?_ _ | refine blk_drew ?_ | refine blk_alloc ?_ _)); refine blk_put (cs := #[.int .i64 (wrap64 (rd x0_1 0)), .int .i64 0, .int .i64 0, .int .i64 0, .int .i64 0, .int .u32 0]) ?_ 1 _ rfl; (with_reducible repeat (first | refine blk_drewN ?_ _ | refine blk_drew ?_ | refine blk_alloc ?_ _)); refine blk_put (cs := #[.int .i64 0, .int .i64 0, .int .i64 0, .int .i64 0, .int .i64 0, .int .u32 0]) ?_ 0 _ rfl; (with_reducible repeat (first | refine blk_drewN ?_ _ | refine blk_drew ?_ | refine blk_alloc ?_ _)); exact BK171.out⟩
                        have n3_ : Aside0 (Below w.heap.size w ((((((w13.setCell ⟨gb171, 0, none⟩ (.int .i64 (wrap64 (rd x0_1 0)))).setCell ⟨gb171, 1, none⟩ (.int .i64 (wrap64 (rd x0_1 1)))).setCell ⟨gb171, 2, none⟩ (.int .i64 (wrap64 (rd x0_1 2)))).setCell ⟨gb171, 3, none⟩ (.int .i64 (wrap64 (rd x0_1 3)))).setCell ⟨gb171, 4, none⟩ (.int .i64 (wrap64 (rd x0_1 4)))).setCell ⟨gb171, 5, none⟩ (.int .u32 0))) := ⟨by repeat (first | (with_reducible first | exact HB.out | apply below_alloc | apply pw_below_drewN | apply below_drew1 | refine below_set ?_ GE171.out) | exact HB.out)⟩
                        (try clear HO_0)
                        (try clear HO_4)
                        (try clear BK171)
                        (try clear HB)
                        generalize ((((((w13.setCell ⟨gb171, 0, none⟩ (.int .i64 (wrap64 (rd x0_1 0)))).setCell ⟨gb171, 1, none⟩ (.int .i64 (wrap64 (rd x0_1 1)))).setCell ⟨gb171, 2, none⟩ (.int .i64 (wrap64 (rd x0_1 2)))).setCell ⟨gb171, 3, none⟩ (.int .i64 (wrap64 (rd x0_1 3)))).setCell ⟨gb171, 4, none⟩ (.int .i64 (wrap64 (rd x0_1 4)))).setCell ⟨gb171, 5, none⟩ (.int .u32 0)) = w20 at n0_ n1_ n2_ n3_ ⊢
                        have HO_0 := n0_
                        have HO_4 := n1_
                        have BK171 := n2_
                        have HB := n3_
                        clear n0_ n1_ n2_ n3_
                        have q21 : (9 : Int) ≤ ((x0_1.length : Int) : Int) := of_decide_eq_true (by first | (with_reducible assumption) | assumption)
                        obtain ⟨i021, hi021, _, hsz21, _⟩ := info_parts info5
                        have hroom21 : x0_1.length ≤ co11 := (Kd.V_reads' HO_0.out).2.1
                        have hC21 : Kd.F (Kd.int .u8) _ _ (some ad166) x0_1.length x0_1 := (Kd.V_at (base := w.heap.size) HO_0.out).2.2
                        have ql21 : (5 : Int) ≤ (9 : Int) := (by omega)
                        have hcut21 := cut_mid (P := Try.prog) 24 5 .i64 .i64 Try.underlying24 hi021 1 hsz21 (some ad166) x0_1.length co11 5 9 (by omega) ql21 q21 hroom21
                        have hr21 := Kd.F_mid (lo := (5 : Int).toNat) (hi := (9 : Int).toNat) (c := co11) hC21 (by omega) (by omega) hroom21
                        obtain ⟨A21, hA21⟩ : ∃ A1, A1 = (if co11 = (5 : Int).toNat then (some ad166) else ((some ad166) : Option Addr).map (·.add ((5 : Int).toNat * 1))) := ⟨_, rfl⟩
                        obtain ⟨c21, hc21⟩ : ∃ c1, c1 = co11 - (5 : Int).toNat := ⟨_, rfl⟩
                        have hy21 : y172.length = (9 : Int).toNat - (5 : Int).toNat := (by rw [Ny172.out, List.length_drop, List.length_take] <;> omega)
                        rw [show ((x0_1).take (9 : Int).toNat).drop (5 : Int).toNat = y172 from Ny172.out.symm] at hr21
                        replace hr21 : Kd.F (Kd.int .u8) _ _ A21 y172.length y172 := (by rw [hA21]; exact hr21)
                        rw [← hy21, ← hA21, ← hc21] at hcut21
                        have HO176 := Aside0.mk (show Kd.V (Kd.int .u8) 5 _ w.heap.size _ (.slice A21 y172.length c21) y172 from Kd.V_mk (by rw [hy21, hc21]; exact Nat.sub_le_sub_right (Nat.le_trans (by omega) hroom21) _) hr21)
                        have HC176 := Aside0.mk (show y172.length ≤ c21 from by rw [hy21, hc21]; exact Nat.sub_le_sub_right (Nat.le_trans (by omega) hroom21) _)
                        clear hr21 hC21 hroom21 hi021 hsz21 hc21
                        have KY21 := Aside0.mk hy21
                        have KA21 := Aside0.mk hA21
                        clear hy21 hA21
                        replace q21 := eq_true q21
                        try go_wp2
                        go_loopg [41] k1 (fun kq v41 w' => ∃ (x41_2 : Int) (x172005_2 : Int), v41 = .int .i64 x41_2 ∧ Aside0 (mach_OfV.l1 kq x0_1 x4_1 y172 (y172.length : Int) x41_2 (wrap64 (rd x0_1 0)) (wrap64 (rd x0_1 1)) (wrap64 (rd x0_1 2)) (wrap64 (rd x0_1 3)) (wrap64 (rd x0_1 4)) x172005_2 = some (r1, r2)) ∧ Aside0 (kq ≤ k1) ∧ Aside0 (Kd.V (Kd.int .u8) 5 w' w.heap.size (fun k_ => (P0_ k_ ∨ w.heap.size ≤ k_) ∧ some k_ ≠ (u4 : Value).ownBlock ∧ k_ ≠ gb171) (.slice (some ad166) x0_1.length co11) x0_1) ∧ Aside0 (Kd.R k31 31 w' w.heap.size (fun k_ => (w.heap.size ≤ k_) ∧ k_ ≠ gb171) u4 x4_1) ∧ Aside0 (Kd.V (Kd.int .u8) 5 w' w.heap.size (fun k_ => (P0_ k_ ∨ w.heap.size ≤ k_) ∧ some k_ ≠ (u4 : Value).ownBlock ∧ k_ ≠ gb171) (.slice A21 y172.length c21) y172) ∧ Aside0 (w'.heap[gb171]? = some (.cells #[.int .i64 (wrap64 (rd x0_1 0)), .int .i64 (wrap64 (rd x0_1 1)), .int .i64 (wrap64 (rd x0_1 2)), .int .i64 (wrap64 (rd x0_1 3)), .int .i64 (wrap64 (rd x0_1 4)), .int .u32 x172005_2] 31 (0, 0))) ∧ Aside0 (Below w.heap.size w w'))
                        case atStart => exact ⟨(0), (0), (by first | rfl | (simp; done) | (simp [*]; done)), H', ⟨Nat.le_refl _⟩, ⟨by (with_reducible repeat (first | apply Kd.V_alloc | apply Kd.V_drewN | apply Kd.V_drew)); exact HO_0.out⟩, ⟨by (with_reducible repeat (first | apply Kd.R_alloc | apply Kd.R_drewN | apply Kd.R_drew)); exact HO_4.out⟩, ⟨by (with_reducible repeat (first | apply Kd.V_alloc | apply Kd.V_drewN | apply Kd.V_drew)); exact HO176.out⟩, ⟨by (with_reducible repeat (first | refine blk_drewN ?_ _ | refine blk_drew ?_ | refine blk_alloc ?_ _)); exact BK171.out⟩, ⟨by repeat (first | (with_reducible first | exact HB.out | apply below_alloc | apply pw_below_drewN | apply below_drew1 | refine below_set ?_ GE171.out) | exact HB.out)⟩⟩
                        case round =>
                          clear H'
                          try clear c1
                          try clear p1
                          try clear q1
                          try clear hx1
                          try clear qi1
                          try clear c2
                          try clear c2b0
                          try clear c2b1
                          try clear p2
                          try clear q2
                          try clear c3
                          try clear c3b0
                          try clear c3b1
                          try clear c4
                          try clear c4b0
                          try clear c4b1
                          try clear c5
                          try clear c5b0
                          try clear c5b1
                          try clear c6
                          try clear c6b0
                          try clear c6b1
                          try clear p6
                          try clear c7
                          try clear c7b0
                          try clear c7b1
                          try clear c8
                          try clear c8b0
                          try clear c8b1
                          try clear c9
                          try clear c9b0
                          try clear c9b1
                          try clear c10
                          try clear c10b0
                          try clear c10b1
                          try clear c16
                          try clear p16
                          try clear q16
                          try clear hx16
                          try clear qi16
                          try clear p17
                          try clear q17
                          try clear hx17
                          try clear qi17
                          try clear c21
                          try clear q21
                          try clear hx166_0
                          try clear hx167_0
                          try clear hx168_0
                          try clear hx169_0
                          try clear hx170_0
                          try clear p166
                          try clear p167
                          try clear p168
                          try clear p169
                          try clear p170
                          try clear p2
                          try clear q166
                          try clear q167
                          try clear q168
                          try clear q169
                          try clear q170
                          try clear q21
                          obtain ⟨x41_2, x172005_2, rfl, HA, HK2, HO_0, HO_4, HO_39, BK171, HB⟩ := hrel
                          cases gk with
                          | zero => exact absurd HA.out (by simp [mach_OfV.l1])
                          | succ k2 =>
                            have H := HA.out
                            clear HA
                            simp only [mach_OfV.l1] at H
                            by_cases c22 : x41_2 < (y172.length : Int)
                            · rw [if_pos c22] at H
                              have c22b0 : decide (x41_2 < (y172.length : Int)) = true := decide_eq_true c22
                              clear c22
                              by_cases c23 : 0 ≤ x41_2
                              · rw [if_pos c23] at H
                                have c23b0 : decide (0 ≤ x41_2) = true := decide_eq_true c23
                                clear c23
                                by_cases c24 : x41_2 < (y172.length : Int)
                                · rw [if_pos c24] at H
                                  have c24b0 : decide (x41_2 < (y172.length : Int)) = true := decide_eq_true c24
                                  clear c24
                                  have H' := Aside0.mk H
                                  clear H
                                  have p177 : 0 ≤ (x41_2 : Int) := of_decide_eq_true (by first | (with_reducible assumption) | assumption)
                                  have q177 : x41_2 < (y172.length : Int) := of_decide_eq_true (by first | (with_reducible assumption) | assumption)
                                  obtain ⟨ad177, e177, hx177_0⟩ := Kd.at_int (Kd.V_reads' HO_39.out).2.2 x41_2 p177 q177
                                  cases e177
                                  replace p177 := eq_true p177
                                  replace q177 := eq_true q177
                                  have hcz25_0 : wr.cell? ⟨gb171, 0, none⟩ = some (.int .i64 (wrap64 (rd x0_1 0))) := (blk_cell BK171.out 0).trans rfl
                                  have hcz25_1 : wr.cell? ⟨gb171, 1, none⟩ = some (.int .i64 (wrap64 (rd x0_1 1))) := (blk_cell BK171.out 1).trans rfl
                                  have hcz25_2 : wr.cell? ⟨gb171, 2, none⟩ = some (.int .i64 (wrap64 (rd x0_1 2))) := (blk_cell BK171.out 2).trans rfl
                                  have hcz25_3 : wr.cell? ⟨gb171, 3, none⟩ = some (.int .i64 (wrap64 (rd x0_1 3))) := (blk_cell BK171.out 3).trans rfl
                                  have hcz25_4 : wr.cell? ⟨gb171, 4, none⟩ = some (.int .i64 (wrap64 (rd x0_1 4))) := (blk_cell BK171.out 4).trans rfl
                                  have hcz25_5 : wr.cell? ⟨gb171, 5, none⟩ = some (.int .u32 x172005_2) := (blk_cell BK171.out 5).trans rfl
                                  have hfz25_0 := blk_frozen BK171.out 0
                                  have hfz25_1 := blk_frozen BK171.out 1
                                  have hfz25_2 := blk_frozen BK171.out 2
                                  have hfz25_3 := blk_frozen BK171.out 3
                                  have hfz25_4 := blk_frozen BK171.out 4
                                  have hfz25_5 := blk_frozen BK171.out 5
                                  go_wp2
                                  go_roundg k2
                                  case measure => have := HK1.out; have := HK2.out; omega
                                  case rel => exact ⟨(wrap64 (x41_2 + 1)), (Go.bits .or .u32 ((x172005_2 * 256) % 4294967296) ((rd y172 x41_2) % 4294967296)), (by first | rfl | (simp; done) | (simp [*]; done)), H', ⟨by have := HK1.out; have := HK2.out; omega⟩, ⟨by (with_reducible repeat (first | apply Kd.V_alloc | apply Kd.V_drewN | apply Kd.V_drew)); exact Kd.V_mono (Kd.V_far (p := ⟨gb171, 5, none⟩) (Kd.V_mono HO_0.out (fun k_ hk => (⟨hk, hk.2.2⟩ : _ ∧ k_ ≠ gb171))) (fun _ hk => hk.2) (.int .u32 (Go.bits .or .u32 ((x172005_2 * 256) % 4294967296) ((rd y172 x41_2) % 4294967296)))) (fun _ hk => ⟨hk.1.1, ⟨hk.1.2.1, hk.1.2.2⟩⟩)⟩, ⟨by (with_reducible repeat (first | apply Kd.R_alloc | apply Kd.R_drewN | apply Kd.R_drew)); exact Kd.R_mono (Kd.R_far (p := ⟨gb171, 5, none⟩) (Kd.R_mono HO_4.out (fun k_ hk => (⟨hk, hk.2⟩ : _ ∧ k_ ≠ gb171))) (fun _ hk => hk.2) (.int .u32 (Go.bits .or .u32 ((x172005_2 * 256) % 4294967296) ((rd y172 x41_2) % 4294967296)))) (fun _ hk => ⟨hk.1.1, hk.1.2⟩)⟩, ⟨by (with_reducible repeat (first | apply Kd.V_alloc | apply Kd.V_drewN | apply Kd.V_drew)); exact Kd.V_mono (Kd.V_far (p := ⟨gb171, 5, none⟩) (Kd.V_mono HO_39.out (fun k_ hk => (⟨hk, hk.2.2⟩ : _ ∧ k_ ≠ gb171))) (fun _ hk => hk.2) (.int .u32 (Go.bits .or .u32 ((x172005_2 * 256) % 4294967296) ((rd y172 x41_2) % 4294967296)))) (fun _ hk => ⟨hk.1.1, ⟨hk.1.2.1, hk.1.2.2⟩⟩)⟩, ⟨by (with_reducible repeat (first | refine blk_drewN ?_ _ | refine blk_drew ?_ | refine blk_alloc ?_ _)); refine blk_put (cs := #[.int .i64 (wrap64 (rd x0_1 0)), .int .i64 (wrap64 (rd x0_1 1)), .int .i64 (wrap64 (rd x0_1 2)), .int .i64 (wrap64 (rd x0_1 3)), .int .i64 (wrap64 (rd x0_1 4)), .int .u32 x172005_2]) ?_ 5 _ rfl; (with_reducible repeat (first | refine blk_drewN ?_ _ | refine blk_drew ?_ | refine blk_alloc ?_ _)); exact BK171.out⟩, ⟨by repeat (first | (with_reducible first | exact HB.out | apply below_alloc | apply pw_below_drewN | apply below_drew1 | refine below_set ?_ GE171.out) | exact HB.out)⟩⟩
                                · rw [if_neg c24] at H
                                  exact absurd H (by simp)
                              · rw [if_neg c23] at H
                                exact absurd H (by simp)
                            · rw [if_neg c22] at H
                              have c22b0 : decide (x41_2 < (y172.length : Int)) = false := decide_eq_false c22
                              clear c22
                              replace H := Option.bind_eq_some_iff.mp H
                              obtain ⟨t178, A260, H⟩ := H
                              replace H : (if t178 = true then (if x4_1.length < 2932031007402 then (if 9 ≤ (x0_1.length : Int) then (mach_OfV.l0 k2 (x0_1.drop 9) (x4_1 ++ [(⟨(wrap64 (rd x0_1 0)), (wrap64 (rd x0_1 1)), (wrap64 (rd x0_1 2)), (wrap64 (rd x0_1 3)), (wrap64 (rd x0_1 4)), x172005_2⟩ : S31)])) else (none)) else (none)) else (some (([] : List (S31)), 6))) = some (r1, r2) := H
                              have A26 := Aside0.mk A260
                              clear A260
                              by_cases c27 : t178 = true
                              · subst c27
                                have H1 : (if x4_1.length < 2932031007402 then (if 9 ≤ (x0_1.length : Int) then (mach_OfV.l0 k2 (x0_1.drop 9) (x4_1 ++ [(⟨(wrap64 (rd x0_1 0)), (wrap64 (rd x0_1 1)), (wrap64 (rd x0_1 2)), (wrap64 (rd x0_1 3)), (wrap64 (rd x0_1 4)), x172005_2⟩ : S31)])) else (none)) else (none)) = some (r1, r2) := by rw [if_pos rfl] at H; exact H
                                clear H
                                have H := H1
                                clear H1
                                by_cases c28 : x4_1.length < 2932031007402
                                · rw [if_pos c28] at H
                                  have LMc28 := Aside0.mk c28
                                  clear c28
                                  obtain ⟨y179, hy179⟩ : ∃ y_ : List (S31), y_ = (x4_1 ++ [(⟨(wrap64 (rd x0_1 0)), (wrap64 (rd x0_1 1)), (wrap64 (rd x0_1 2)), (wrap64 (rd x0_1 3)), (wrap64 (rd x0_1 4)), x172005_2⟩ : S31)]) := ⟨_, rfl⟩
                                  replace H : (if 9 ≤ (x0_1.length : Int) then (mach_OfV.l0 k2 (x0_1.drop 9) y179) else (none)) = some (r1, r2) := by first | (rw [hy179]; with_reducible exact H) | (have H2_ := (Option.bind_some _ _).symm.trans H; rw [hy179]; with_reducible exact H2_) | (have H2_ := (Option.bind_some _ _).symm.trans H; with_reducible exact H2_) | with_reducible exact H | (rw [hy179]; exact H) | exact H
                                  have Ny179 := Aside0.mk hy179
                                  clear hy179
                                  by_cases c29 : 9 ≤ (x0_1.length : Int)
                                  · rw [if_pos c29] at H
                                    have c29b0 := eq_true c29
                                    have c29b1 : decide (9 ≤ (x0_1.length : Int)) = true := decide_eq_true c29
                                    clear c29
                                    obtain ⟨y182, hy182⟩ : ∃ y_ : List Int, y_ = (x0_1.drop 9) := ⟨_, rfl⟩
                                    replace H : (mach_OfV.l0 k2 y182 y179) = some (r1, r2) := by first | (rw [hy182]; with_reducible exact H) | (have H2_ := (Option.bind_some _ _).symm.trans H; rw [hy182]; with_reducible exact H2_) | (have H2_ := (Option.bind_some _ _).symm.trans H; with_reducible exact H2_) | with_reducible exact H | (rw [hy182]; exact H) | exact H
                                    have Ny182 := Aside0.mk hy182
                                    clear hy182
                                    have H' := Aside0.mk H
                                    clear H
                                    have hcz30_0 : wr.cell? ⟨gb171, 0, none⟩ = some (.int .i64 (wrap64 (rd x0_1 0))) := (blk_cell BK171.out 0).trans rfl
                                    have hcz30_1 : wr.cell? ⟨gb171, 1, none⟩ = some (.int .i64 (wrap64 (rd x0_1 1))) := (blk_cell BK171.out 1).trans rfl
                                    have hcz30_2 : wr.cell? ⟨gb171, 2, none⟩ = some (.int .i64 (wrap64 (rd x0_1 2))) := (blk_cell BK171.out 2).trans rfl
                                    have hcz30_3 : wr.cell? ⟨gb171, 3, none⟩ = some (.int .i64 (wrap64 (rd x0_1 3))) := (blk_cell BK171.out 3).trans rfl
                                    have hcz30_4 : wr.cell? ⟨gb171, 4, none⟩ = some (.int .i64 (wrap64 (rd x0_1 4))) := (blk_cell BK171.out 4).trans rfl
                                    have hcz30_5 : wr.cell? ⟨gb171, 5, none⟩ = some (.int .u32 x172005_2) := (blk_cell BK171.out 5).trans rfl
                                    have hfz30_0 := blk_frozen BK171.out 0
                                    have hfz30_1 := blk_frozen BK171.out 1
                                    have hfz30_2 := blk_frozen BK171.out 2
                                    have hfz30_3 := blk_frozen BK171.out 3
                                    have hfz30_4 := blk_frozen BK171.out 4
                                    have hfz30_5 := blk_frozen BK171.out 5
                                    go_wp2_with (first | ((with_reducible refine gate_callee (f := 12) rfl ?_); refine goesL_ (some 54) rfl rfl Try.func12 (by kernel_rfl) rfl #[.agg #[.int .i64 (wrap64 (rd x0_1 0)), .int .i64 (wrap64 (rd x0_1 1)), .int .i64 (wrap64 (rd x0_1 2)), .int .i64 (wrap64 (rd x0_1 3)), .int .i64 (wrap64 (rd x0_1 4)), .int .u32 x172005_2]] rfl (by (try simp only [List.map_toArray, List.map_cons, List.map_nil]); first | done | rfl | (simp only [List.length_drop, List.length_take]; rfl)) ?_; (with_reducible refine (mach_Right.calls (wrap64 (rd x0_1 0)) (wrap64 (rd x0_1 1)) (wrap64 (rd x0_1 2)) (wrap64 (rd x0_1 3)) (wrap64 (rd x0_1 4)) x172005_2 true _ A26.out).mono ?_); rintro e w31 ⟨rfl, hb⟩; refine ⟨_, rfl, ?_⟩; have n0_ := Aside0.mk (Kd.V_below (by (with_reducible repeat (first | apply Kd.V_alloc | apply Kd.V_drewN | apply Kd.V_drew)); exact HO_0.out) hb); have n1_ := Aside0.mk (Kd.R_below (by (with_reducible repeat (first | apply Kd.R_alloc | apply Kd.R_drewN | apply Kd.R_drew)); exact HO_4.out) hb); have n2_ := Aside0.mk (Kd.V_below (by (with_reducible repeat (first | apply Kd.V_alloc | apply Kd.V_drewN | apply Kd.V_drew)); exact HO_39.out) hb); have n3_ := Aside0.mk (blk_below (g := gb171) (o := .cells #[.int .i64 (wrap64 (rd x0_1 0)), .int .i64 (wrap64 (rd x0_1 1)), .int .i64 (wrap64 (rd x0_1 2)), .int .i64 (wrap64 (rd x0_1 3)), .int .i64 (wrap64 (rd x0_1 4)), .int .u32 x172005_2] 31 (0, 0)) (by (with_reducible repeat (first | refine blk_drewN ?_ _ | refine blk_drew ?_ | refine blk_alloc ?_ _)); exact BK171.out) hb); have n4_ := Aside0.mk (below_step (by repeat (first | (with_reducible first | exact HB.out | apply below_alloc | apply pw_below_drewN | apply below_drew1 | refine below_set ?_ GE171.out) | exact HB.out)) hb); clear HO_0; clear HO_4; clear HO_39; clear BK171; clear HB; have HO_0 := n0_; have HO_4 := n1_; have HO_39 := n2_; have BK171 := n3_; have HB := n4_; clear n0_ n1_ n2_ n3_ n4_; (try clear hb); (try clear hb2); (try clear hk); (try clear hi); have hcz32_0 : w31.cell? ⟨gb171, 0, none⟩ = some (.int .i64 (wrap64 (rd x0_1 0))) := (blk_cell BK171.out 0).trans rfl; have hcz32_1 : w31.cell? ⟨gb171, 1, none⟩ = some (.int .i64 (wrap64 (rd x0_1 1))) := (blk_cell BK171.out 1).trans rfl; have hcz32_2 : w31.cell? ⟨gb171, 2, none⟩ = some (.int .i64 (wrap64 (rd x0_1 2))) := (blk_cell BK171.out 2).trans rfl; have hcz32_3 : w31.cell? ⟨gb171, 3, none⟩ = some (.int .i64 (wrap64 (rd x0_1 3))) := (blk_cell BK171.out 3).trans rfl; have hcz32_4 : w31.cell? ⟨gb171, 4, none⟩ = some (.int .i64 (wrap64 (rd x0_1 4))) := (blk_cell BK171.out 4).trans rfl; have hcz32_5 : w31.cell? ⟨gb171, 5, none⟩ = some (.int .u32 x172005_2) := (blk_cell BK171.out 5).trans rfl; have hfz32_0 := blk_frozen BK171.out 0; have hfz32_1 := blk_frozen BK171.out 1; have hfz32_2 := blk_frozen BK171.out 2; have hfz32_3 := blk_frozen BK171.out 3; have hfz32_4 := blk_frozen BK171.out 4; have hfz32_5 := blk_frozen BK171.out 5) | ((with_reducible refine gate_builtin (b := .append) (xs := #[.tmp 56, .tmp 58]) rfl ?_); at_builtin; refine Kd.R_append k31 (w0 := w) w.heap.size rfl (.tmp 56) (.tmp 58) 22 31 (.agg #[(.int .i64 0), (.int .i64 0), (.int .i64 0), (.int .i64 0), (.int .i64 0), (.int .u32 0)]) 48 rfl Try.underlying22 info31 rfl (by decide) (by omega) u4 x4_1 (⟨(wrap64 (rd x0_1 0)), (wrap64 (rd x0_1 1)), (wrap64 (rd x0_1 2)), (wrap64 (rd x0_1 3)), (wrap64 (rd x0_1 4)), x172005_2⟩ : S31) [.int .i64 (wrap64 (rd x0_1 0)), .int .i64 (wrap64 (rd x0_1 1)), .int .i64 (wrap64 (rd x0_1 2)), .int .i64 (wrap64 (rd x0_1 3)), .int .i64 (wrap64 (rd x0_1 4)), .int .u32 x172005_2] (fun k_ => (w.heap.size ≤ k_) ∧ k_ ≠ gb171) (fun _ => False) rfl rfl ?aP (fun _ hk => hk.elim) ?aF ?aO ?aB ?aS ?aL ?_; (case aP => exact k31_mkM _ _ _ (⟨(wrap64 (rd x0_1 0)), (wrap64 (rd x0_1 1)), (wrap64 (rd x0_1 2)), (wrap64 (rd x0_1 3)), (wrap64 (rd x0_1 4)), x172005_2⟩ : S31)); (case aB => exact (by repeat (first | (with_reducible first | exact HB.out | apply below_alloc | apply pw_below_drewN | apply below_drew1 | refine below_set ?_ GE171.out) | exact HB.out))); (case aF => exact (fun k_ hk => ⟨(Nat.le_trans (below_size (by repeat (first | (with_reducible first | exact HB.out | apply below_alloc | apply pw_below_drewN | apply below_drew1 | refine below_set ?_ GE171.out) | exact HB.out))) hk), Kd.freshB (g := gb171) (o := .cells #[.int .i64 (wrap64 (rd x0_1 0)), .int .i64 (wrap64 (rd x0_1 1)), .int .i64 (wrap64 (rd x0_1 2)), .int .i64 (wrap64 (rd x0_1 3)), .int .i64 (wrap64 (rd x0_1 4)), .int .u32 x172005_2] 31 (0, 0)) (by (with_reducible repeat (first | refine blk_drewN ?_ _ | refine blk_drew ?_ | refine blk_alloc ?_ _)); exact BK171.out) k_ hk⟩)); (case aO => exact (by (with_reducible repeat (first | apply Kd.R_alloc | apply Kd.R_drewN | apply Kd.R_drew)); exact HO_4.out)); (case aS => exact (below_size (by repeat (first | (with_reducible first | exact HB.out | apply below_alloc | apply pw_below_drewN | apply below_drew1 | refine below_set ?_ GE171.out) | exact HB.out)))); (case aL => have := LMc28.out; omega); intro v180 w33 ho hb hg hat; rw [← Ny179.out] at ho; have n0_ := Aside0.mk (Kd.V_afterv (ok := (fun k_ => (P0_ k_ ∨ w.heap.size ≤ k_) ∧ k_ ≠ gb171)) (by (with_reducible repeat (first | apply Kd.V_alloc | apply Kd.V_drewN | apply Kd.V_drew)); exact Kd.V_mono HO_0.out (fun _ hk => ⟨⟨hk.1, hk.2.2⟩, hk.2.1⟩)) hg hat); have n1_ := Aside0.mk (Kd.V_afterv (ok := (fun k_ => (P0_ k_ ∨ w.heap.size ≤ k_) ∧ k_ ≠ gb171)) (by (with_reducible repeat (first | apply Kd.V_alloc | apply Kd.V_drewN | apply Kd.V_drew)); exact Kd.V_mono HO_39.out (fun _ hk => ⟨⟨hk.1, hk.2.2⟩, hk.2.1⟩)) hg hat); have n2_ := Aside0.mk (blk_grown (g := gb171) (o := .cells #[.int .i64 (wrap64 (rd x0_1 0)), .int .i64 (wrap64 (rd x0_1 1)), .int .i64 (wrap64 (rd x0_1 2)), .int .i64 (wrap64 (rd x0_1 3)), .int .i64 (wrap64 (rd x0_1 4)), .int .u32 x172005_2] 31 (0, 0)) (by (with_reducible repeat (first | refine blk_drewN ?_ _ | refine blk_drew ?_ | refine blk_alloc ?_ _)); exact BK171.out) hg (Kd.R_away HO_4.out (fun _ hk => hk.2))); have n3_ := Aside0.mk (hb); have n4_ := Aside0.mk (ho); clear HO_0; clear HO_39; clear BK171; clear HB; clear HO_4; have HO_0 := n0_; have HO_39 := n1_; have BK171 := n2_; have HB := n3_; have HO181 := n4_; clear n0_ n1_ n2_ n3_ n4_; clear ho hb hg hat; have q34 : (9 : Int) ≤ ((x0_1.length : Int) : Int) := of_decide_eq_true (by first | (with_reducible assumption) | assumption); obtain ⟨i034, hi034, _, hsz34, _⟩ := info_parts info5; have hroom34 : x0_1.length ≤ co11 := (Kd.V_reads' HO_0.out).2.1; have hC34 : Kd.F (Kd.int .u8) _ _ (some ad166) x0_1.length x0_1 := (Kd.V_at (base := w.heap.size) HO_0.out).2.2; have hcut34 := cut_from (P := Try.prog) 24 5 .i64 Try.underlying24 hi034 1 hsz34 (some ad166) x0_1.length co11 9 (by omega) q34; have hr34 := Kd.F_cut (m := (9 : Int).toNat) (c := co11) hC34 (by omega) hroom34; obtain ⟨A34, hA34⟩ : ∃ A1, A1 = (if co11 = (9 : Int).toNat then (some ad166) else ((some ad166) : Option Addr).map (·.add ((9 : Int).toNat * 1))) := ⟨_, rfl⟩; obtain ⟨c34, hc34⟩ : ∃ c1, c1 = co11 - (9 : Int).toNat := ⟨_, rfl⟩; have hy34 : y182.length = x0_1.length - (9 : Int).toNat := (by rw [Ny182.out, List.length_drop] <;> omega); rw [show (x0_1).drop (9 : Int).toNat = y182 from Ny182.out.symm] at hr34; replace hr34 : Kd.F (Kd.int .u8) _ _ A34 y182.length y182 := (by rw [hA34]; exact hr34); rw [← hy34, ← hA34, ← hc34] at hcut34; have HO186 := Aside0.mk (show Kd.V (Kd.int .u8) 5 _ w.heap.size _ (.slice A34 y182.length c34) y182 from Kd.V_mk (by rw [hy34, hc34]; exact Nat.sub_le_sub_right hroom34 _) hr34); have HC186 := Aside0.mk (show y182.length ≤ c34 from by rw [hy34, hc34]; exact Nat.sub_le_sub_right hroom34 _); clear hr34 hC34 hroom34 hi034 hsz34 hc34; have KY34 := Aside0.mk hy34; have KA34 := Aside0.mk hA34; clear hy34 hA34; replace q34 := eq_true q34))
                                    go_roundg k2
                                    case measure => have := HK1.out; have := HK2.out; omega
                                    case rel => exact ⟨(y182), (y179), H', ⟨by have := HK1.out; have := HK2.out; omega⟩, ⟨by (with_reducible repeat (first | apply Kd.V_alloc | apply Kd.V_drewN | apply Kd.V_drew)); exact Kd.V_mono HO186.out (fun _ hk => ⟨hk.1.1, hk.2⟩)⟩, ⟨by (with_reducible repeat (first | apply Kd.R_alloc | apply Kd.R_drewN | apply Kd.R_drew)); exact Kd.R_mono HO181.out (fun _ hk => hk.1)⟩, ⟨by repeat (first | (with_reducible first | exact HB.out | apply below_alloc | apply pw_below_drewN | apply below_drew1 | refine below_set ?_ GE171.out) | exact HB.out)⟩⟩
                                  · rw [if_neg c29] at H
                                    exact absurd H (by simp)
                                · rw [if_neg c28] at H
                                  exact absurd H (by simp)
                              · replace c27 := Bool.eq_false_iff.mpr c27
                                subst c27
                                have H1 : (some (([] : List (S31)), 6)) = some (r1, r2) := by rw [if_neg (show ¬ (false = true) by decide)] at H; exact H
                                clear H
                                have H := H1
                                clear H1
                                simp only [Option.some.injEq, Prod.mk.injEq] at H
                                obtain ⟨rfl, rfl⟩ := H
                                have hcz35_0 : wr.cell? ⟨gb171, 0, none⟩ = some (.int .i64 (wrap64 (rd x0_1 0))) := (blk_cell BK171.out 0).trans rfl
                                have hcz35_1 : wr.cell? ⟨gb171, 1, none⟩ = some (.int .i64 (wrap64 (rd x0_1 1))) := (blk_cell BK171.out 1).trans rfl
                                have hcz35_2 : wr.cell? ⟨gb171, 2, none⟩ = some (.int .i64 (wrap64 (rd x0_1 2))) := (blk_cell BK171.out 2).trans rfl
                                have hcz35_3 : wr.cell? ⟨gb171, 3, none⟩ = some (.int .i64 (wrap64 (rd x0_1 3))) := (blk_cell BK171.out 3).trans rfl
                                have hcz35_4 : wr.cell? ⟨gb171, 4, none⟩ = some (.int .i64 (wrap64 (rd x0_1 4))) := (blk_cell BK171.out 4).trans rfl
                                have hcz35_5 : wr.cell? ⟨gb171, 5, none⟩ = some (.int .u32 x172005_2) := (blk_cell BK171.out 5).trans rfl
                                have hfz35_0 := blk_frozen BK171.out 0
                                have hfz35_1 := blk_frozen BK171.out 1
                                have hfz35_2 := blk_frozen BK171.out 2
                                have hfz35_3 := blk_frozen BK171.out 3
                                have hfz35_4 := blk_frozen BK171.out 4
                                have hfz35_5 := blk_frozen BK171.out 5
                                go_wp2_with (first | ((with_reducible refine gate_callee (f := 12) rfl ?_); refine goesL_ (some 54) rfl rfl Try.func12 (by kernel_rfl) rfl #[.agg #[.int .i64 (wrap64 (rd x0_1 0)), .int .i64 (wrap64 (rd x0_1 1)), .int .i64 (wrap64 (rd x0_1 2)), .int .i64 (wrap64 (rd x0_1 3)), .int .i64 (wrap64 (rd x0_1 4)), .int .u32 x172005_2]] rfl (by (try simp only [List.map_toArray, List.map_cons, List.map_nil]); first | done | rfl | (simp only [List.length_drop, List.length_take]; rfl)) ?_; (with_reducible refine (mach_Right.calls (wrap64 (rd x0_1 0)) (wrap64 (rd x0_1 1)) (wrap64 (rd x0_1 2)) (wrap64 (rd x0_1 3)) (wrap64 (rd x0_1 4)) x172005_2 false _ A26.out).mono ?_); rintro e w36 ⟨rfl, hb⟩; refine ⟨_, rfl, ?_⟩; have n0_ := Aside0.mk (Kd.V_below (by (with_reducible repeat (first | apply Kd.V_alloc | apply Kd.V_drewN | apply Kd.V_drew)); exact HO_0.out) hb); have n1_ := Aside0.mk (Kd.R_below (by (with_reducible repeat (first | apply Kd.R_alloc | apply Kd.R_drewN | apply Kd.R_drew)); exact HO_4.out) hb); have n2_ := Aside0.mk (Kd.V_below (by (with_reducible repeat (first | apply Kd.V_alloc | apply Kd.V_drewN | apply Kd.V_drew)); exact HO_39.out) hb); have n3_ := Aside0.mk (blk_below (g := gb171) (o := .cells #[.int .i64 (wrap64 (rd x0_1 0)), .int .i64 (wrap64 (rd x0_1 1)), .int .i64 (wrap64 (rd x0_1 2)), .int .i64 (wrap64 (rd x0_1 3)), .int .i64 (wrap64 (rd x0_1 4)), .int .u32 x172005_2] 31 (0, 0)) (by (with_reducible repeat (first | refine blk_drewN ?_ _ | refine blk_drew ?_ | refine blk_alloc ?_ _)); exact BK171.out) hb); have n4_ := Aside0.mk (below_step (by repeat (first | (with_reducible first | exact HB.out | apply below_alloc | apply pw_below_drewN | apply below_drew1 | refine below_set ?_ GE171.out) | exact HB.out)) hb); clear HO_0; clear HO_4; clear HO_39; clear BK171; clear HB; have HO_0 := n0_; have HO_4 := n1_; have HO_39 := n2_; have BK171 := n3_; have HB := n4_; clear n0_ n1_ n2_ n3_ n4_; (try clear hb); (try clear hb2); (try clear hk); (try clear hi)))
                                go_ret2
                                exact ⟨_, by first | rfl | (simp [errW_none, errW_some] <;> rfl) | (simp [*, errW_none, errW_some] <;> rfl), by first | exact Kd.R_nil _ _ _ _ _ | exact Kd.N_nil _ _ _ _ _ | exact Kd.V_nil _ _ _ _ _ | exact Kd.Q_nil _ _ _ _ _ | exact Kd.S_nil _ _ _ _ _, by repeat (first | (with_reducible first | exact HB.out | apply below_alloc | apply pw_below_drewN | apply below_drew1 | refine below_set ?_ GE171.out) | exact HB.out)⟩
                      · rw [if_neg c10] at H
                        exact absurd H (by simp)
                    · rw [if_neg c9] at H
                      exact absurd H (by simp)
                  · rw [if_neg c8] at H
                    exact absurd H (by simp)
                · rw [if_neg c7] at H
                  exact absurd H (by simp)
              · rw [if_neg c6] at H
                exact absurd H (by simp)
            · rw [if_neg c5] at H
              exact absurd H (by simp)
          · rw [if_neg c4] at H
            exact absurd H (by simp)
        · rw [if_neg c3] at H
          have c3b0 : decide (0 < (x0_1.length : Int)) = false := decide_eq_false c3
          have c3b1 : decide (0 < x0_1.length) = false := decide_eq_false (by omega)
          clear c3
          simp only [Option.some.injEq, Prod.mk.injEq] at H
          obtain ⟨rfl, rfl⟩ := H
          obtain ⟨Ao37, co37, eo37⟩ := Kd.V_slice HO_0.out
          subst eo37
          go_wp2
          go_ret2
          exact ⟨_, by first | rfl | (simp [errW_none, errW_some] <;> rfl) | (simp [*, errW_none, errW_some] <;> rfl), by (with_reducible repeat (first | apply Kd.R_alloc | apply Kd.R_drewN | apply Kd.R_drew)); exact HO_4.out, by repeat (first | (with_reducible first | exact HB.out | apply below_alloc | apply pw_below_drewN | apply below_drew1) | exact HB.out)⟩
  · rw [if_neg c2] at H
    have c2b0 : (((l0.length : Int) % 9) == 0) = false := beq_eq_false_iff_ne.mpr c2
    have c2b1 : (((l0.length : Int) % 9) != 0) = true := bne_iff_ne.mpr c2
    simp only [Option.some.injEq, Prod.mk.injEq] at H
    obtain ⟨rfl, rfl⟩ := H
    go_enter Try.func16, Try.ntmps16
    go_wp2
    go_ret2
    exact ⟨_, by first | rfl | (simp [errW_none, errW_some] <;> rfl) | (simp [*, errW_none, errW_some] <;> rfl), by first | exact Kd.R_nil _ _ _ _ _ | exact Kd.N_nil _ _ _ _ _ | exact Kd.V_nil _ _ _ _ _ | exact Kd.Q_nil _ _ _ _ _ | exact Kd.S_nil _ _ _ _ _, by repeat (first | (with_reducible first | exact HB.out | apply below_alloc | apply pw_below_drewN | apply below_drew1) | exact HB.out)⟩

/-- The same, for a slice that is only read. -/
def mach_Of.f (k : Nat) (l0 : List Int) : Option (List S31 × Int) := mach_OfV.f k l0
theorem mach_Of.mono : ∀ a0 k, LeO (mach_Of.f k a0) (mach_Of.f (k + 1) a0) := mach_OfV.mono
theorem mach_Of.calls (k : Nat) (A0 : Option Addr) (c0 : Nat) (l0 : List Int) (r1 : List (S31)) (r2 : Int) (w : World) (hr0 : Kd.C (Kd.int .u8) w A0 l0.length l0) (hc0 : l0.length ≤ c0) (h : mach_Of.f k l0 = some (r1, r2)) :
    Calls Try.prog 16 #[.slice A0 l0.length c0] w fun e w' => ∃ v0_ : Value, e = .returned (.tuple #[v0_, .int .i64 r2]) ∧ Kd.R k31 31 w' w.heap.size (fun _ => True) v0_ r1 ∧ Below w.heap.size w w' := by
  refine (mach_OfV.calls k (fun k_ => k_ < w.heap.size) A0 c0 l0 r1 r2 w ⟨_, _, rfl, hc0, Kd.C_F (Kd.heap_int .u8) hr0⟩ h).mono ?_
  rintro e w' ⟨v0_, he, hR, hB⟩
  exact ⟨v0_, he, Kd.R_mono hR (fun _ _ => trivial), hB⟩

end Go.Proofs.Ytnhianjjhkjeoaa.P
