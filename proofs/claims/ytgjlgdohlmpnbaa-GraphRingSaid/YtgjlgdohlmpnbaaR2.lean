/- Written by a program of this session (gp.py), which drives the printer of the kit: contracts of Go functions over the translation, and the rows of laws: each says what its theorems state. Conditions: as each theorem states them. -/
import Derived.Test.YtgjlgdohlmpnbaaR1
namespace Go.Proofs.Ytgjlgdohlmpnbaa.P
open Go.RowKit Go.Proofs.YtgjlgdohlmpnbaaW.PrintWords Go.Proofs.YtgjlgdohlmpnbaaW.PrintLast Go.Proofs.YtgjlgdohlmpnbaaW.PrintMore
open List renaming setIfInBounds_toArray → lA, set_cons_zero → lZ, set_cons_succ → lS
open Bool renaming true → T, false → F
open Go.Proofs.YtgjlgdohlmpnbaaW.PrintWords renaming below_alloc → bA, pw_below_drewN → bN, below_drew1 → bD
open Go.Proofs.YtgjlgdohlmpnbaaW.PrintWords.Kd renaming R_alloc → rA, R_drewN → rN, R_drew → rD
open Go.Proofs.YtgjlgdohlmpnbaaW.PrintWords.Kd renaming S_alloc → sA, S_drewN → sN, S_drew → sD
attribute [local go_sem] max2_int min2_int max_two min_two max_three min_three max_four min_four   -- for this text's walks alone
set_option linter.unusedVariables false
set_option linter.unusedSimpArgs false

set_option maxHeartbeats 8000000 in
set_option maxRecDepth 100000 in
theorem carlinglaw21_GraphRing.calls (k : Nat) (a0 : Int) (a1 : Int) (a2 : Bool) (r : Bool) (w : World) (h : carlinglaw21_GraphRing.f k a0 a1 a2 = some r) :
  Calls Try.prog 9 #[.int .i64 a0, .int .i64 a1, .bool a2] w fun e w' => e = .returned (.bool r) ∧ Below w.heap.size w w' := by
 have hu31 := Try.underlying31
 have HB := Aside0.mk (Below.refl w.heap.size w)
 have H : ((carlinglaw21_awake.f).bind fun t117 => (if a0 < 1 then (carlinglaw21_GraphRing.j0 k a0 a1 a2 t117 true) else (if a0 > 26 then (carlinglaw21_GraphRing.j0 k a0 a1 a2 t117 true) else (carlinglaw21_GraphRing.j0 k a0 a1 a2 t117 (decide (a1 < 0)))))) = some r := h
 clear h
 replace H := Option.bind_eq_some_iff.mp H
 obtain ⟨t117, A40, H⟩ := H
 replace H : (if a0 < 1 then (carlinglaw21_GraphRing.j0 k a0 a1 a2 t117 true) else (if a0 > 26 then (carlinglaw21_GraphRing.j0 k a0 a1 a2 t117 true) else (carlinglaw21_GraphRing.j0 k a0 a1 a2 t117 (decide (a1 < 0))))) = some r := H
 have A4 := Aside0.mk A40
 clear A40
 have HC5 := Aside0.mk H
 clear H
 go_enter Try.func9, Try.ntmps9
 go_upto_region 2 with (first | ((with_reducible refine gate_callee (f := 14) rfl ?_); refine goesL_ (some 15) rfl rfl Try.func14 (by kernel_rfl) rfl #[] rfl (by (try simp only [List.map_toArray, List.map_cons, List.map_nil]); first | done | rfl | (simp only [List.length_drop, List.length_take]; rfl)) ?_; (with_reducible refine (carlinglaw21_awake.calls  t117 _ A4.out).mono ?_); rintro e w6 ⟨rfl, hb⟩; refine ⟨_, rfl, ?_⟩; have n0_ := Aside0.mk (below_step (by repeat first | exact HB.out | apply bA | apply bN | apply bD) hb); clear HB; have HB := n0_; clear n0_; (try clear hb); (try clear hb2); (try clear hk); (try clear hi)))
 (try simp only [Act.put, lA, lZ, lS])
 go_cut [25] (fun v25 wc => ∃ (kq : Nat) (x25_4 : Bool), v25 = .bool x25_4 ∧ Aside0 (carlinglaw21_GraphRing.j0 kq a0 a1 a2 t117 x25_4 = some r) ∧ Aside0 (kq ≤ k) ∧ Aside0 (Below w.heap.size w wc))
 case first =>
  have H := HC5.out
  clear HC5
  by_cases c7 : a0 < 1
  ·rw [if_pos c7] at H
   have c7b0 : decide (a0 < 1) = true := decide_eq_true c7
   clear c7
   (first | rw [c7b0] | (simp only [i64_w, i32_w]; rw [c7b0]) | skip)
   have H' := Aside0.mk H
   clear H
   go_wp2
   go_meet
   case rel => exact ⟨_, (true), (by first | rfl | (simp; done) | (simp [*]; done)), H', ⟨by first | omega | exact Nat.le_refl _⟩, ⟨by repeat (first | (with_reducible first | exact HB.out | apply bA | apply bN | apply bD) | exact HB.out)⟩⟩
  ·rw [if_neg c7] at H
   have c7b0 : decide (a0 < 1) = false := decide_eq_false c7
   clear c7
   (first | rw [c7b0] | (simp only [i64_w, i32_w]; rw [c7b0]) | skip)
   by_cases c8 : a0 > 26
   ·rw [if_pos c8] at H
    have c8b0 : decide (26 < a0) = true := decide_eq_true c8
    clear c8
    have H' := Aside0.mk H
    clear H
    go_wp2
    go_meet
    case rel => exact ⟨_, (true), (by first | rfl | (simp; done) | (simp [*]; done)), H', ⟨by first | omega | exact Nat.le_refl _⟩, ⟨by repeat (first | (with_reducible first | exact HB.out | apply bA | apply bN | apply bD) | exact HB.out)⟩⟩
   ·rw [if_neg c8] at H
    have c8b0 : decide (26 < a0) = false := decide_eq_false c8
    clear c8
    have H' := Aside0.mk H
    clear H
    go_wp2
    go_meet
    case rel => exact ⟨_, (decide (a1 < 0)), (by first | rfl | (simp; done) | (simp [*]; done)), H', ⟨by first | omega | exact Nat.le_refl _⟩, ⟨by repeat (first | (with_reducible first | exact HB.out | apply bA | apply bN | apply bD) | exact HB.out)⟩⟩
 case rest =>
  clear HC5
  try clear c1
  try clear p2
  try clear c7
  try clear c7b0
  try clear c8
  try clear c8b0
  obtain ⟨kq, x25_4, rfl, HA, HJ4, HB⟩ := hcut
  cases kq with
  | zero => exact absurd HA.out (by simp [carlinglaw21_GraphRing.j0])
  | succ kj4 =>
   have H := HA.out
   clear HA
   simp only [carlinglaw21_GraphRing.j0] at H
   by_cases c9 : x25_4 = true
   ·subst c9
    have H1 : (some t117) = some r := by rw [if_pos rfl] at H; exact H
    clear H
    have H := H1
    clear H1
    obtain rfl := Option.some.inj H
    go_wp2
    go_ret
    exact ⟨by first | rfl | (simp [errW_none, errW_some] <;> rfl) | (simp [*, errW_none, errW_some] <;> rfl), by repeat (first | (with_reducible first | exact HB.out | apply bA | apply bN | apply bD) | exact HB.out)⟩
   ·replace c9 := Bool.eq_false_iff.mpr c9
    subst c9
    have H1 : (if a0 = 0 then (none) else (carlinglaw21_GraphRing.l0 kj4 a0 a2 t117 (Int.tmod a1 a0) ([] : List (S31)) 0)) = some r := by rw [if_neg (show ¬ (false = true) by decide)] at H; exact H
    clear H
    have H := H1
    clear H1
    by_cases c10 : a0 = 0
    ·rw [if_pos c10] at H
     exact absurd H (by simp)
    ·rw [if_neg c10] at H
     have c10b0 : (a0 == 0) = false := beq_eq_false_iff_ne.mpr c10
     have c10b1 : (a0 != 0) = true := bne_iff_ne.mpr c10
     have H' := Aside0.mk H
     clear H
     go_wp2
     go_loopg [9, 10] kj4 (fun kq v9 v10 w' => ∃ (x9_2 : List (S31)) (x10_2 : Int), v10 = .int .i64 x10_2 ∧ Aside0 (carlinglaw21_GraphRing.l0 kq a0 a2 t117 (Int.tmod a1 a0) x9_2 x10_2 = some r) ∧ Aside0 (kq ≤ kj4) ∧ Aside0 (Kd.S k31 31 w' w.heap.size (fun _ => True) v9 x9_2) ∧ Aside0 (Below w.heap.size w w'))
     case atStart => exact ⟨(([] : List (S31))), (0), (by first | rfl | (simp; done) | (simp [*]; done)), H', ⟨Nat.le_refl _⟩, ⟨by first | exact Kd.S_nil _ _ _ _ _ | exact Kd.N_nil _ _ _ _ _ | exact Kd.V_nil _ _ _ _ _ | exact Kd.Q_nil _ _ _ _ _ | exact Kd.R_nil _ _ _ _ _⟩, ⟨by repeat (first | (with_reducible first | exact HB.out | apply bA | apply bN | apply bD) | exact HB.out)⟩⟩
     case round =>
      clear H'
      try clear c1
      try clear p2
      try clear c7
      try clear c7b0
      try clear c8
      try clear c8b0
      try clear c9
      try clear c10
      try clear c10b0
      try clear c10b1
      try clear p2
      obtain ⟨x9_2, x10_2, rfl, HA, HK2, HO_9, HB⟩ := hrel
      cases gk with
      | zero => exact absurd HA.out (by simp [carlinglaw21_GraphRing.l0])
      | succ k2 =>
       have H := HA.out
       clear HA
       simp only [carlinglaw21_GraphRing.l0] at H
       by_cases c11 : x10_2 < a0
       ·rw [if_pos c11] at H
        have c11b0 : decide (x10_2 < a0) = true := decide_eq_true c11
        clear c11
        obtain ⟨y118, hy118⟩ : ∃ y_ : List Int, y_ = (([(wrap64 (97 + x10_2)) % 256] : List Int)) := ⟨_, rfl⟩
        replace H : (if a0 = 0 then (none) else ((some (([Int.tmod (wrap64 (x10_2 + 1)) a0] : List Int) : List Int)).bind fun y121 => (if x10_2 = (Int.tmod a1 a0) then (if a2 = true then (if x9_2.length < 3518437208883 then (carlinglaw21_GraphRing.l0 k2 a0 a2 t117 (Int.tmod a1 a0) (x9_2 ++ [(⟨strOfNums y118, y121⟩ : S31)]) (wrap64 (x10_2 + 1))) else (none)) else (if x9_2.length < 3518437208883 then (carlinglaw21_GraphRing.l0 k2 a0 a2 t117 (Int.tmod a1 a0) (x9_2 ++ [(⟨strOfNums y118, ([] : List Int)⟩ : S31)]) (wrap64 (x10_2 + 1))) else (none))) else (if x9_2.length < 3518437208883 then (carlinglaw21_GraphRing.l0 k2 a0 a2 t117 (Int.tmod a1 a0) (x9_2 ++ [(⟨strOfNums y118, y121⟩ : S31)]) (wrap64 (x10_2 + 1))) else (none))))) = some r := by first | (rw [hy118]; with_reducible exact H) | (have H2_ := (Option.bind_some _ _).symm.trans H; rw [hy118]; with_reducible exact H2_) | (have H2_ := (Option.bind_some _ _).symm.trans H; with_reducible exact H2_) | with_reducible exact H | (rw [hy118]; exact H) | exact H
        have Ny118 := Aside0.mk hy118
        clear hy118
        by_cases c12 : a0 = 0
        ·rw [if_pos c12] at H
         exact absurd H (by simp)
        ·rw [if_neg c12] at H
         have c12b0 : (a0 == 0) = false := beq_eq_false_iff_ne.mpr c12
         have c12b1 : (a0 != 0) = true := bne_iff_ne.mpr c12
         obtain ⟨y121, hy121⟩ : ∃ y_ : List Int, y_ = (([Int.tmod (wrap64 (x10_2 + 1)) a0] : List Int)) := ⟨_, rfl⟩
         replace H : (if x10_2 = (Int.tmod a1 a0) then (if a2 = true then (if x9_2.length < 3518437208883 then (carlinglaw21_GraphRing.l0 k2 a0 a2 t117 (Int.tmod a1 a0) (x9_2 ++ [(⟨strOfNums y118, y121⟩ : S31)]) (wrap64 (x10_2 + 1))) else (none)) else (if x9_2.length < 3518437208883 then (carlinglaw21_GraphRing.l0 k2 a0 a2 t117 (Int.tmod a1 a0) (x9_2 ++ [(⟨strOfNums y118, ([] : List Int)⟩ : S31)]) (wrap64 (x10_2 + 1))) else (none))) else (if x9_2.length < 3518437208883 then (carlinglaw21_GraphRing.l0 k2 a0 a2 t117 (Int.tmod a1 a0) (x9_2 ++ [(⟨strOfNums y118, y121⟩ : S31)]) (wrap64 (x10_2 + 1))) else (none))) = some r := by first | (rw [hy121]; with_reducible exact H) | (have H2_ := (Option.bind_some _ _).symm.trans H; rw [hy121]; with_reducible exact H2_) | (have H2_ := (Option.bind_some _ _).symm.trans H; with_reducible exact H2_) | with_reducible exact H | (rw [hy121]; exact H) | exact H
         have Ny121 := Aside0.mk hy121
         clear hy121
         by_cases c13 : x10_2 = (Int.tmod a1 a0)
         ·rw [if_pos c13] at H
          have c13b0 : (x10_2 == (Int.tmod a1 a0)) = true := beq_iff_eq.mpr c13
          have c13b1 : (x10_2 != (Int.tmod a1 a0)) = false := bne_eq_false_iff_eq.mpr c13
          clear c13
          by_cases c14 : a2 = true
          ·subst c14
           have H1 : (if x9_2.length < 3518437208883 then (carlinglaw21_GraphRing.l0 k2 a0 true t117 (Int.tmod a1 a0) (x9_2 ++ [(⟨strOfNums y118, y121⟩ : S31)]) (wrap64 (x10_2 + 1))) else (none)) = some r := by rw [if_pos rfl] at H; exact H
           clear H
           have H := H1
           clear H1
           by_cases c15 : x9_2.length < 3518437208883
           ·rw [if_pos c15] at H
            have LMc15 := Aside0.mk c15
            clear c15
            obtain ⟨y125, hy125⟩ : ∃ y_ : List (S31), y_ = (x9_2 ++ [(⟨strOfNums y118, y121⟩ : S31)]) := ⟨_, rfl⟩
            replace H : (carlinglaw21_GraphRing.l0 k2 a0 true t117 (Int.tmod a1 a0) y125 (wrap64 (x10_2 + 1))) = some r := by first | (rw [hy125]; with_reducible exact H) | (have H2_ := (Option.bind_some _ _).symm.trans H; rw [hy125]; with_reducible exact H2_) | (have H2_ := (Option.bind_some _ _).symm.trans H; with_reducible exact H2_) | with_reducible exact H | (rw [hy125]; exact H) | exact H
            have Ny125 := Aside0.mk hy125
            clear hy125
            have H' := Aside0.mk H
            clear H
            try go_wp2
            have n0_ := Aside0.mk (sD HO_9.out)
            have n1_ := Aside0.mk (bD HB.out)
            clear HO_9
            clear HB
            have HO_9 := n0_
            have HB := n1_
            clear n0_ n1_
            refine start_ (n := 13) (S := fun w' => True) (ds := []) #[F,F,F,F,F,F,F,F,F,F,F,F,F] (by kernel_rfl) rfl rfl trivial (fun hHeld => ?_); refine with_tabW carlinglaw21_GraphRing.tab9 carlinglaw21_GraphRing.bits9 (fun HT_ HW_ => ?_)
            generalize wr.drew = w16 at HO_9 HB hHeld ⊢
            refine pure_ (i := 0) (N := some 35) (v := ?_) (a' := ?_) #[T,F,F,F,F,F,F,F,F,F,F,F,F] rfl rfl (any_of HT_.out (by kernel_rfl)) (fun _ _ _ h => h) (Or.inl ⟨by rfl, ?_⟩) ?_ ?_
            rotate_left
            ·intro w'
             go_simp
             with_reducible rfl
            rotate_left
            ·simp only [Act.put, lA, lZ, lS, i64_w, i32_w]
             rfl
            refine pure_ (i := 1) (N := some 36) (v := ?_) (a' := ?_) #[T,T,F,F,F,F,F,F,F,F,F,F,F] rfl rfl (any_of HT_.out (by kernel_rfl)) (fun _ _ _ h => h) (Or.inl ⟨by rfl, ?_⟩) ?_ ?_
            rotate_left
            ·intro w'
             go_simp
             with_reducible rfl
            rotate_left
            ·simp only [Act.put, lA, lZ, lS, i64_w, i32_w]
             rfl
            refine pure_ (i := 2) (N := some 37) (v := ?_) (a' := ?_) #[T,T,T,F,F,F,F,F,F,F,F,F,F] rfl rfl (any_of HT_.out (by kernel_rfl)) (fun _ _ _ h => h) (Or.inl ⟨by rfl, ?_⟩) ?_ ?_
            rotate_left
            ·intro w'
             go_simp
             with_reducible rfl
            rotate_left
            ·simp only [Act.put, lA, lZ, lS, i64_w, i32_w]
             rfl
            refine pure_ (i := 5) (N := some 40) (v := ?_) (a' := ?_) #[T,T,T,F,F,T,F,F,F,F,F,F,F] rfl rfl (any_of HT_.out (by kernel_rfl)) (fun _ _ _ h => h) (Or.inl ⟨by rfl, ?_⟩) ?_ ?_
            rotate_left
            ·intro w'
             go_simp
             with_reducible rfl
            rotate_left
            ·simp only [Act.put, lA, lZ, lS, i64_w, i32_w]
             rfl
            refine pure_ (i := 6) (N := some 41) (v := ?_) (a' := ?_) #[T,T,T,F,F,T,T,F,F,F,F,F,F] rfl rfl (any_of HT_.out (by kernel_rfl)) (fun _ _ _ h => h) (Or.inl ⟨by rfl, ?_⟩) ?_ ?_
            rotate_left
            ·intro w'
             go_simp
             with_reducible rfl
            rotate_left
            ·simp only [Act.put, lA, lZ, lS, i64_w, i32_w]
             rfl
            refine pure_ (i := 7) (N := some 42) (v := ?_) (a' := ?_) #[T,T,T,F,F,T,T,T,F,F,F,F,F] rfl rfl (any_of HT_.out (by kernel_rfl)) (fun _ _ _ h => h) (Or.inl ⟨by rfl, ?_⟩) ?_ ?_
            rotate_left
            ·intro w'
             go_simp
             with_reducible rfl
            rotate_left
            ·simp only [Act.put, lA, lZ, lS, i64_w, i32_w]
             rfl
            refine pure_ (i := 8) (N := some 43) (v := ?_) (a' := ?_) #[T,T,T,F,F,T,T,T,T,F,F,F,F] rfl rfl (any_of HT_.out (by kernel_rfl)) (fun _ _ _ h => h) (Or.inl ⟨by rfl, ?_⟩) ?_ ?_
            rotate_left
            ·intro w'
             go_simp
             with_reducible rfl
            rotate_left
            ·simp only [Act.put, lA, lZ, lS, i64_w, i32_w]
             rfl
            refine join_ (σ := Value × Value × Nat) 1 #[T,T,T,T,T,T,T,T,T,T,T,T,F] (fun s_ => [(38, s_.1), (39, .string (strOfNums y118)), (44, s_.2.1), (11, .pointer (some ⟨s_.2.2, 0, none⟩)), (45, .agg #[.string (strOfNums y118), s_.2.1])]) (fun s_ w' => (Kd.R (Kd.int .u8) 5 w' w.heap.size (fun _ => True) s_.1 y118) ∧ (Kd.R (Kd.int .i64) 3 w' w.heap.size (fun _ => True) s_.2.1 y121) ∧ (Kd.S k31 31 w' w.heap.size (fun k_ => some k_ ≠ (s_.2.1 : Value).ownBlock ∧ k_ ≠ s_.2.2) u9 x9_2) ∧ (w'.heap[s_.2.2]? = some (.cells #[.string (⟨#[]⟩ : ByteArray), .slice none 0 0] 31 (0, 0))) ∧ (w.heap.size ≤ s_.2.2) ∧ (w.heap.size ≤ s_.2.2) ∧ (Below w.heap.size w w')) ?_ ?_
            rotate_left
            ·intro hJ3_4_9_11
             refine join_ (σ := Value × Value) 2 #[T,T,T,T,T,T,T,T,T,T,T,F,F] (fun s_ => [(38, s_.1), (39, .string (strOfNums y118)), (44, s_.2), (45, .agg #[.string (strOfNums y118), s_.2])]) (fun s_ w' => (Kd.R (Kd.int .u8) 5 w' w.heap.size (fun _ => True) s_.1 y118) ∧ (Kd.R (Kd.int .i64) 3 w' w.heap.size (fun _ => True) s_.2 y121) ∧ (Kd.S k31 31 w' w.heap.size (fun k_ => some k_ ≠ (s_.2 : Value).ownBlock) u9 x9_2) ∧ (Below w.heap.size w w')) ?_ ?_
             rotate_left
             ·intro hJ3_4_9
              refine join_ (σ := Value × Nat) 3 #[T,T,T,T,T,T,T,T,T,F,F,T,F] (fun s_ => [(38, s_.1), (39, .string (strOfNums y118)), (11, .pointer (some ⟨s_.2, 0, none⟩))]) (fun s_ w' => (Kd.R (Kd.int .u8) 5 w' w.heap.size (fun _ => True) s_.1 y118) ∧ (Kd.S k31 31 w' w.heap.size (fun k_ => k_ ≠ s_.2) u9 x9_2) ∧ (w'.heap[s_.2]? = some (.cells #[.string (⟨#[]⟩ : ByteArray), .slice none 0 0] 31 (0, 0))) ∧ (w.heap.size ≤ s_.2) ∧ (w.heap.size ≤ s_.2) ∧ (Below w.heap.size w w')) ?_ ?_
              rotate_left
              ·intro hJ3_4_11
               refine join_ (σ := Value × Value × Nat) 3 #[T,T,T,T,F,T,T,T,T,T,F,T,F] (fun s_ => [(38, s_.1), (44, s_.2.1), (11, .pointer (some ⟨s_.2.2, 0, none⟩))]) (fun s_ w' => (Kd.R (Kd.int .u8) 5 w' w.heap.size (fun _ => True) s_.1 y118) ∧ (Kd.R (Kd.int .i64) 3 w' w.heap.size (fun _ => True) s_.2.1 y121) ∧ (Kd.S k31 31 w' w.heap.size (fun k_ => some k_ ≠ (s_.2.1 : Value).ownBlock ∧ k_ ≠ s_.2.2) u9 x9_2) ∧ (w'.heap[s_.2.2]? = some (.cells #[.string (⟨#[]⟩ : ByteArray), .slice none 0 0] 31 (0, 0))) ∧ (w.heap.size ≤ s_.2.2) ∧ (w.heap.size ≤ s_.2.2) ∧ (Below w.heap.size w w')) ?_ ?_
               rotate_left
               ·intro hJ3_9_11
                refine join_ (σ := Value) 4 #[T,T,T,T,T,T,T,T,T,F,F,F,F] (fun s_ => [(38, s_), (39, .string (strOfNums y118))]) (fun s_ w' => (Kd.R (Kd.int .u8) 5 w' w.heap.size (fun _ => True) s_ y118) ∧ (Kd.S k31 31 w' w.heap.size (fun _ => True) u9 x9_2) ∧ (Below w.heap.size w w')) ?_ ?_
                rotate_left
                ·intro hJ3_4
                 refine join_ (σ := Value × Value) 4 #[T,T,T,T,F,T,T,T,T,T,F,F,F] (fun s_ => [(38, s_.1), (44, s_.2)]) (fun s_ w' => (Kd.R (Kd.int .u8) 5 w' w.heap.size (fun _ => True) s_.1 y118) ∧ (Kd.R (Kd.int .i64) 3 w' w.heap.size (fun _ => True) s_.2 y121) ∧ (Kd.S k31 31 w' w.heap.size (fun k_ => some k_ ≠ (s_.2 : Value).ownBlock) u9 x9_2) ∧ (Below w.heap.size w w')) ?_ ?_
                 rotate_left
                 ·intro hJ3_9
                  refine join_ (σ := Value × Nat) 4 #[T,T,T,T,F,T,T,T,T,F,F,T,F] (fun s_ => [(38, s_.1), (11, .pointer (some ⟨s_.2, 0, none⟩))]) (fun s_ w' => (Kd.R (Kd.int .u8) 5 w' w.heap.size (fun _ => True) s_.1 y118) ∧ (Kd.S k31 31 w' w.heap.size (fun k_ => k_ ≠ s_.2) u9 x9_2) ∧ (w'.heap[s_.2]? = some (.cells #[.string (⟨#[]⟩ : ByteArray), .slice none 0 0] 31 (0, 0))) ∧ (w.heap.size ≤ s_.2) ∧ (w.heap.size ≤ s_.2) ∧ (Below w.heap.size w w')) ?_ ?_
                  rotate_left
                  ·intro hJ3_11
                   refine join_ (σ := Value × Nat) 4 #[T,T,T,F,F,T,T,T,T,T,F,T,F] (fun s_ => [(44, s_.1), (11, .pointer (some ⟨s_.2, 0, none⟩))]) (fun s_ w' => (Kd.R (Kd.int .i64) 3 w' w.heap.size (fun _ => True) s_.1 y121) ∧ (Kd.S k31 31 w' w.heap.size (fun k_ => some k_ ≠ (s_.1 : Value).ownBlock ∧ k_ ≠ s_.2) u9 x9_2) ∧ (w'.heap[s_.2]? = some (.cells #[.string (⟨#[]⟩ : ByteArray), .slice none 0 0] 31 (0, 0))) ∧ (w.heap.size ≤ s_.2) ∧ (w.heap.size ≤ s_.2) ∧ (Below w.heap.size w w')) ?_ ?_
                   rotate_left
                   ·intro hJ9_11
                    refine join_ (σ := Value) 5 #[T,T,T,T,F,T,T,T,T,F,F,F,F] (fun s_ => [(38, s_)]) (fun s_ w' => (Kd.R (Kd.int .u8) 5 w' w.heap.size (fun _ => True) s_ y118) ∧ (Kd.S k31 31 w' w.heap.size (fun _ => True) u9 x9_2) ∧ (Below w.heap.size w w')) ?_ ?_
                    rotate_left
                    ·intro hJ3
                     refine join_ (σ := Value) 5 #[T,T,T,F,F,T,T,T,T,T,F,F,F] (fun s_ => [(44, s_)]) (fun s_ w' => (Kd.R (Kd.int .i64) 3 w' w.heap.size (fun _ => True) s_ y121) ∧ (Kd.S k31 31 w' w.heap.size (fun k_ => some k_ ≠ (s_ : Value).ownBlock) u9 x9_2) ∧ (Below w.heap.size w w')) ?_ ?_
                     rotate_left
                     ·intro hJ9
                      refine join_ (σ := Nat) 5 #[T,T,T,F,F,T,T,T,T,F,F,T,F] (fun s_ => [(11, .pointer (some ⟨s_, 0, none⟩))]) (fun s_ w' => (Kd.S k31 31 w' w.heap.size (fun k_ => k_ ≠ s_) u9 x9_2) ∧ (w'.heap[s_]? = some (.cells #[.string (⟨#[]⟩ : ByteArray), .slice none 0 0] 31 (0, 0))) ∧ (w.heap.size ≤ s_) ∧ (w.heap.size ≤ s_) ∧ (Below w.heap.size w w')) ?_ ?_
                      rotate_left
                      ·intro hJ11
                       refine three_ (i := 3) (j := 9) (k := 11) (Ni := some 38) (Nj := some 44) (Nk := some 11) #[T,T,T,T,F,T,T,T,T,F,F,F,F] #[T,T,T,F,F,T,T,T,T,T,F,F,F] #[T,T,T,F,F,T,T,T,T,F,F,T,F] rfl rfl rfl rfl rfl rfl (three_of HT_.out (by kernel_rfl)) (by decide) (by decide) (by decide) (fun K hK => ?_) (fun K hK => ?_) (fun K hK => ?_)
                       ·skip
                        refine Kd.R_lit_step (Kd.int .u8) _ 5 ?hg (N := 38) ?hd (xs := ([(wrap64 (97 + x10_2)) % 256] : List Int)) (inner := [.int .u8 ((wrap64 (97 + x10_2)) % 256)]) (ok := fun _ => True) (okp := fun _ => True) ?hr ?hp (fun _ hk => hk) trivial (Below.refl _ _) (Nat.le_refl _) (by simp) ?_; (case hd => rfl); (case hg => rfl); (case hr => first | (go_simp; done) | (go_simp; rfl)); (case hp => exact (Reps.one (show Kd.M (Kd.int .u8) _ _ _ ((wrap64 (97 + x10_2)) % 256) [.int .u8 ((wrap64 (97 + x10_2)) % 256)] from rfl) (Reps.none _ _)))
                        intro v119 w17 ho18 hb hg_ hnew_
                        clear hg_ hnew_
                        (first | rw [← Ny118.out] at ho18 | (simp only [Int.reduceToNat] at ho18; rw [← Ny118.out] at ho18))
                        have n0_ := Aside0.mk (Kd.S_below (by (with_reducible repeat first | apply sA | apply sN | apply sD); exact HO_9.out) hb)
                        have n1_ := Aside0.mk (Kd.R_lower ho18 (below_size (by repeat first | exact HB.out | apply bA | apply bN | apply bD)))
                        have n2_ := Aside0.mk (below_step (by repeat first | exact HB.out | apply bA | apply bN | apply bD) hb)
                        clear HO_9
                        clear HB
                        have HO_9 := n0_
                        have HO120 := n1_
                        have HB := n2_
                        clear n0_ n1_ n2_
                        clear hb ho18
                        refine hK.out _ _ trivial (fun hHeld => ?_)
                        clear hK K
                        refine norm_ (a' := ?_) ?_ ?_
                        rotate_left
                        ·show Act.put _ (some 38) _ = _
                         simp only [Act.put, lA, lZ, lS, i64_w, i32_w]
                         rfl
                        exact norm_ (by simp only [putAll, Act.put, lA, lZ, lS]; first | done | rfl) (hJ3 (v119) _ ⟨(by (with_reducible repeat first | apply rA | apply rN | apply rD); exact HO120.out), (by (with_reducible repeat first | apply sA | apply sN | apply sD); exact HO_9.out), (by repeat first | exact HB.out | apply bA | apply bN | apply bD)⟩)
                       ·skip
                        refine Kd.R_lit_step (Kd.int .i64) _ 3 ?hg (N := 44) ?hd (xs := ([Int.tmod (wrap64 (x10_2 + 1)) a0] : List Int)) (inner := [.int .i64 (Int.tmod (wrap64 (x10_2 + 1)) a0)]) (ok := fun _ => True) (okp := fun _ => True) ?hr ?hp (fun _ hk => hk) trivial (Below.refl _ _) (Nat.le_refl _) (by simp) ?_; (case hd => rfl); (case hg => rfl); (case hr => first | (go_simp; done) | (go_simp; rfl)); (case hp => exact (Reps.one (show Kd.M (Kd.int .i64) _ _ _ (Int.tmod (wrap64 (x10_2 + 1)) a0) [.int .i64 (Int.tmod (wrap64 (x10_2 + 1)) a0)] from rfl) (Reps.none _ _)))
                        intro v122 w17 ho18 hb hg_ hnew_
                        clear hg_ hnew_
                        (first | rw [← Ny121.out] at ho18 | (simp only [Int.reduceToNat] at ho18; rw [← Ny121.out] at ho18))
                        have n0_ := Aside0.mk (Kd.S_elder' (by (with_reducible repeat first | apply sA | apply sN | apply sD); exact HO_9.out) (Kd.R_base ho18) hb)
                        have n1_ := Aside0.mk (Kd.R_lower ho18 (below_size (by repeat first | exact HB.out | apply bA | apply bN | apply bD)))
                        have n2_ := Aside0.mk (below_step (by repeat first | exact HB.out | apply bA | apply bN | apply bD) hb)
                        clear HO_9
                        clear HB
                        have HO_9 := n0_
                        have HO123 := n1_
                        have HB := n2_
                        clear n0_ n1_ n2_
                        clear hb ho18
                        refine hK.out _ _ trivial (fun hHeld => ?_)
                        clear hK K
                        refine norm_ (a' := ?_) ?_ ?_
                        rotate_left
                        ·show Act.put _ (some 44) _ = _
                         simp only [Act.put, lA, lZ, lS, i64_w, i32_w]
                         rfl
                        exact norm_ (by simp only [putAll, Act.put, lA, lZ, lS]; first | done | rfl) (hJ9 (v122) _ ⟨(by (with_reducible repeat first | apply rA | apply rN | apply rD); exact HO123.out), (by (with_reducible repeat first | apply sA | apply sN | apply sD); exact Kd.S_mono HO_9.out (fun _ hk => hk.2)), (by repeat first | exact HB.out | apply bA | apply bN | apply bD)⟩)
                       ·skip
                        refine box_step ?hg (N := 11) ?hd (cs := #[.string (⟨#[]⟩ : ByteArray), .slice none 0 0]) (t := 31) ?hr ?_; (case hd => rfl); (case hg => rfl); (case hr => first | (go_simp; done) | (go_simp; rfl))
                        intro gb124 hg w17 hbox hb
                        have n0_ := Aside0.mk (Kd.S_below (Kd.S_elderB (by (with_reducible repeat first | apply sA | apply sN | apply sD); exact HO_9.out) gb124 (Nat.le_of_eq hg.symm)) hb)
                        have n1_ := Aside0.mk (below_step (by repeat first | exact HB.out | apply bA | apply bN | apply bD) hb)
                        have n2_ := Aside0.mk (hbox)
                        have n3_ := Aside0.mk ((by rw [hg]; exact (below_size (by repeat first | exact HB.out | apply bA | apply bN | apply bD)) : w.heap.size ≤ gb124))
                        have n4_ := Aside0.mk ((by rw [hg]; exact (below_size (by repeat first | exact HB.out | apply bA | apply bN | apply bD)) : w.heap.size ≤ gb124))
                        clear HO_9
                        clear HB
                        have HO_9 := n0_
                        have HB := n1_
                        have BK124 := n2_
                        have GW124 := n3_
                        have GE124 := n4_
                        clear n0_ n1_ n2_ n3_ n4_
                        clear hb hbox hg
                        refine hK.out _ _ trivial (fun hHeld => ?_)
                        clear hK K
                        refine norm_ (a' := ?_) ?_ ?_
                        rotate_left
                        ·show Act.put _ (some 11) _ = _
                         simp only [Act.put, lA, lZ, lS, i64_w, i32_w]
                         rfl
                        exact norm_ (by simp only [putAll, Act.put, lA, lZ, lS]; first | done | rfl) (hJ11 (gb124) _ ⟨(by (with_reducible repeat first | apply sA | apply sN | apply sD); exact Kd.S_mono HO_9.out (fun _ hk => hk.2)), (by (with_reducible repeat (first | refine blk_drewN ?_ _ | refine blk_drew ?_ | refine blk_alloc ?_ _)); exact BK124.out), GW124.out, GE124.out, (by repeat (first | (with_reducible first | exact HB.out | apply bA | apply bN | apply bD | refine below_set ?_ GE124.out) | exact HB.out))⟩)
                      ·skip
                       rintro gb124 w18 ⟨h0_, h1_, h2_, h3_, h4_⟩
                       have n0_ : Aside0 (Kd.S k31 31 w18 w.heap.size (fun k_ => k_ ≠ gb124) u9 x9_2) := ⟨h0_⟩
                       have n1_ : Aside0 (w18.heap[gb124]? = some (.cells #[.string (⟨#[]⟩ : ByteArray), .slice none 0 0] 31 (0, 0))) := ⟨h1_⟩
                       have n2_ : Aside0 (w.heap.size ≤ gb124) := ⟨h2_⟩
                       have n3_ : Aside0 (w.heap.size ≤ gb124) := ⟨h3_⟩
                       have n4_ : Aside0 (Below w.heap.size w w18) := ⟨h4_⟩
                       clear HO_9
                       clear HB
                       clear h0_ h1_ h2_ h3_ h4_
                       have HO_9 := n0_
                       have BK124 := n1_
                       have GW124 := n2_
                       have GE124 := n3_
                       have HB := n4_
                       clear n0_ n1_ n2_ n3_ n4_
                       have hHeld := trivial
                       refine norm_ (a' := ?_) ?_ ?_
                       rotate_left
                       ·simp only [putAll, Act.put, lA, lZ, lS]
                        rfl
                       refine two_ (i := 3) (j := 9) (Ni := some 38) (Nj := some 44) #[T,T,T,T,F,T,T,T,T,F,F,T,F] #[T,T,T,F,F,T,T,T,T,T,F,T,F] rfl rfl rfl rfl (two_of HT_.out (by kernel_rfl)) (by decide) (by decide) (fun K hK => ?_) (fun K hK => ?_)
                       ·skip
                        refine Kd.R_lit_step (Kd.int .u8) _ 5 ?hg (N := 38) ?hd (xs := ([(wrap64 (97 + x10_2)) % 256] : List Int)) (inner := [.int .u8 ((wrap64 (97 + x10_2)) % 256)]) (ok := fun _ => True) (okp := fun _ => True) ?hr ?hp (fun _ hk => hk) trivial (Below.refl _ _) (Nat.le_refl _) (by simp) ?_; (case hd => rfl); (case hg => rfl); (case hr => first | (go_simp; done) | (go_simp; rfl)); (case hp => exact (Reps.one (show Kd.M (Kd.int .u8) _ _ _ ((wrap64 (97 + x10_2)) % 256) [.int .u8 ((wrap64 (97 + x10_2)) % 256)] from rfl) (Reps.none _ _)))
                        intro v119 w19 ho20 hb hg_ hnew_
                        clear hg_ hnew_
                        (first | rw [← Ny118.out] at ho20 | (simp only [Int.reduceToNat] at ho20; rw [← Ny118.out] at ho20))
                        have n0_ := Aside0.mk (Kd.S_below (by (with_reducible repeat first | apply sA | apply sN | apply sD); exact HO_9.out) hb)
                        have n1_ := Aside0.mk (Kd.R_lower ho20 (below_size (by repeat (first | (with_reducible first | exact HB.out | apply bA | apply bN | apply bD | refine below_set ?_ GE124.out) | exact HB.out))))
                        have n2_ := Aside0.mk (blk_below (g := gb124) (o := .cells #[.string (⟨#[]⟩ : ByteArray), .slice none 0 0] 31 (0, 0)) (by (with_reducible repeat (first | refine blk_drewN ?_ _ | refine blk_drew ?_ | refine blk_alloc ?_ _)); exact BK124.out) hb)
                        have n3_ := Aside0.mk (below_step (by repeat (first | (with_reducible first | exact HB.out | apply bA | apply bN | apply bD | refine below_set ?_ GE124.out) | exact HB.out)) hb)
                        clear HO_9
                        clear BK124
                        clear HB
                        have HO_9 := n0_
                        have HO120 := n1_
                        have BK124 := n2_
                        have HB := n3_
                        clear n0_ n1_ n2_ n3_
                        clear hb ho20
                        refine hK.out _ _ trivial (fun hHeld => ?_)
                        clear hK K
                        refine norm_ (a' := ?_) ?_ ?_
                        rotate_left
                        ·show Act.put _ (some 38) _ = _
                         simp only [Act.put, lA, lZ, lS, i64_w, i32_w]
                         rfl
                        exact norm_ (by simp only [putAll, Act.put, lA, lZ, lS]; first | done | rfl) (hJ3_11 (v119, gb124) _ ⟨(by (with_reducible repeat first | apply rA | apply rN | apply rD); exact HO120.out), (by (with_reducible repeat first | apply sA | apply sN | apply sD); exact HO_9.out), (by (with_reducible repeat (first | refine blk_drewN ?_ _ | refine blk_drew ?_ | refine blk_alloc ?_ _)); exact BK124.out), GW124.out, GE124.out, (by repeat (first | (with_reducible first | exact HB.out | apply bA | apply bN | apply bD | refine below_set ?_ GE124.out) | exact HB.out))⟩)
                       ·skip
                        refine Kd.R_lit_step (Kd.int .i64) _ 3 ?hg (N := 44) ?hd (xs := ([Int.tmod (wrap64 (x10_2 + 1)) a0] : List Int)) (inner := [.int .i64 (Int.tmod (wrap64 (x10_2 + 1)) a0)]) (ok := fun _ => True) (okp := fun _ => True) ?hr ?hp (fun _ hk => hk) trivial (Below.refl _ _) (Nat.le_refl _) (by simp) ?_; (case hd => rfl); (case hg => rfl); (case hr => first | (go_simp; done) | (go_simp; rfl)); (case hp => exact (Reps.one (show Kd.M (Kd.int .i64) _ _ _ (Int.tmod (wrap64 (x10_2 + 1)) a0) [.int .i64 (Int.tmod (wrap64 (x10_2 + 1)) a0)] from rfl) (Reps.none _ _)))
                        intro v122 w19 ho20 hb hg_ hnew_
                        clear hg_ hnew_
                        (first | rw [← Ny121.out] at ho20 | (simp only [Int.reduceToNat] at ho20; rw [← Ny121.out] at ho20))
                        have n0_ := Aside0.mk (Kd.S_elder' (by (with_reducible repeat first | apply sA | apply sN | apply sD); exact HO_9.out) (Kd.R_base ho20) hb)
                        have n1_ := Aside0.mk (Kd.R_lower ho20 (below_size (by repeat (first | (with_reducible first | exact HB.out | apply bA | apply bN | apply bD | refine below_set ?_ GE124.out) | exact HB.out))))
                        have n2_ := Aside0.mk (blk_below (g := gb124) (o := .cells #[.string (⟨#[]⟩ : ByteArray), .slice none 0 0] 31 (0, 0)) (by (with_reducible repeat (first | refine blk_drewN ?_ _ | refine blk_drew ?_ | refine blk_alloc ?_ _)); exact BK124.out) hb)
                        have n3_ := Aside0.mk (below_step (by repeat (first | (with_reducible first | exact HB.out | apply bA | apply bN | apply bD | refine below_set ?_ GE124.out) | exact HB.out)) hb)
                        clear HO_9
                        clear BK124
                        clear HB
                        have HO_9 := n0_
                        have HO123 := n1_
                        have BK124 := n2_
                        have HB := n3_
                        clear n0_ n1_ n2_ n3_
                        clear hb ho20
                        refine hK.out _ _ trivial (fun hHeld => ?_)
                        clear hK K
                        refine norm_ (a' := ?_) ?_ ?_
                        rotate_left
                        ·show Act.put _ (some 44) _ = _
                         simp only [Act.put, lA, lZ, lS, i64_w, i32_w]
                         rfl
                        exact norm_ (by simp only [putAll, Act.put, lA, lZ, lS]; first | done | rfl) (hJ9_11 (v122, gb124) _ ⟨(by (with_reducible repeat first | apply rA | apply rN | apply rD); exact HO123.out), (by (with_reducible repeat first | apply sA | apply sN | apply sD); exact Kd.S_mono HO_9.out (fun _ hk => ⟨hk.2, hk.1⟩)), (by (with_reducible repeat (first | refine blk_drewN ?_ _ | refine blk_drew ?_ | refine blk_alloc ?_ _)); exact BK124.out), GW124.out, GE124.out, (by repeat (first | (with_reducible first | exact HB.out | apply bA | apply bN | apply bD | refine below_set ?_ GE124.out) | exact HB.out))⟩)
                     ·skip
                      rintro v122 w19 ⟨h0_, h1_, h2_⟩
                      have n0_ : Aside0 (Kd.R (Kd.int .i64) 3 w19 w.heap.size (fun _ => True) v122 y121) := ⟨h0_⟩
                      have n1_ : Aside0 (Kd.S k31 31 w19 w.heap.size (fun k_ => some k_ ≠ (v122 : Value).ownBlock) u9 x9_2) := ⟨h1_⟩
                      have n2_ : Aside0 (Below w.heap.size w w19) := ⟨h2_⟩
                      clear HO_9
                      clear HB
                      clear h0_ h1_ h2_
                      have HO123 := n0_
                      have HO_9 := n1_
                      have HB := n2_
                      clear n0_ n1_ n2_
                      have hHeld := trivial
                      refine norm_ (a' := ?_) ?_ ?_
                      rotate_left
                      ·simp only [putAll, Act.put, lA, lZ, lS]
                       rfl
                      refine two_ (i := 3) (j := 11) (Ni := some 38) (Nj := some 11) #[T,T,T,T,F,T,T,T,T,T,F,F,F] #[T,T,T,F,F,T,T,T,T,T,F,T,F] rfl rfl rfl rfl (two_of HT_.out (by kernel_rfl)) (by decide) (by decide) (fun K hK => ?_) (fun K hK => ?_)
                      ·skip
                       refine Kd.R_lit_step (Kd.int .u8) _ 5 ?hg (N := 38) ?hd (xs := ([(wrap64 (97 + x10_2)) % 256] : List Int)) (inner := [.int .u8 ((wrap64 (97 + x10_2)) % 256)]) (ok := fun _ => True) (okp := fun _ => True) ?hr ?hp (fun _ hk => hk) trivial (Below.refl _ _) (Nat.le_refl _) (by simp) ?_; (case hd => rfl); (case hg => rfl); (case hr => first | (go_simp; done) | (go_simp; rfl)); (case hp => exact (Reps.one (show Kd.M (Kd.int .u8) _ _ _ ((wrap64 (97 + x10_2)) % 256) [.int .u8 ((wrap64 (97 + x10_2)) % 256)] from rfl) (Reps.none _ _)))
                       intro v119 w20 ho21 hb hg_ hnew_
                       clear hg_ hnew_
                       (first | rw [← Ny118.out] at ho21 | (simp only [Int.reduceToNat] at ho21; rw [← Ny118.out] at ho21))
                       have n0_ := Aside0.mk (Kd.S_below (by (with_reducible repeat first | apply sA | apply sN | apply sD); exact HO_9.out) hb)
                       have n1_ := Aside0.mk (Kd.R_below (by (with_reducible repeat first | apply rA | apply rN | apply rD); exact HO123.out) hb)
                       have n2_ := Aside0.mk (Kd.R_lower ho21 (below_size (by repeat first | exact HB.out | apply bA | apply bN | apply bD)))
                       have n3_ := Aside0.mk (below_step (by repeat first | exact HB.out | apply bA | apply bN | apply bD) hb)
                       clear HO_9
                       clear HO123
                       clear HB
                       have HO_9 := n0_
                       have HO123 := n1_
                       have HO120 := n2_
                       have HB := n3_
                       clear n0_ n1_ n2_ n3_
                       clear hb ho21
                       refine hK.out _ _ trivial (fun hHeld => ?_)
                       clear hK K
                       refine norm_ (a' := ?_) ?_ ?_
                       rotate_left
                       ·show Act.put _ (some 38) _ = _
                        simp only [Act.put, lA, lZ, lS, i64_w, i32_w]
                        rfl
                       exact norm_ (by simp only [putAll, Act.put, lA, lZ, lS]; first | done | rfl) (hJ3_9 (v119, v122) _ ⟨(by (with_reducible repeat first | apply rA | apply rN | apply rD); exact HO120.out), (by (with_reducible repeat first | apply rA | apply rN | apply rD); exact HO123.out), (by (with_reducible repeat first | apply sA | apply sN | apply sD); exact HO_9.out), (by repeat first | exact HB.out | apply bA | apply bN | apply bD)⟩)
                      ·skip
                       refine box_step ?hg (N := 11) ?hd (cs := #[.string (⟨#[]⟩ : ByteArray), .slice none 0 0]) (t := 31) ?hr ?_; (case hd => rfl); (case hg => rfl); (case hr => first | (go_simp; done) | (go_simp; rfl))
                       intro gb124 hg w20 hbox hb
                       have n0_ := Aside0.mk (Kd.S_below (Kd.S_elderB (by (with_reducible repeat first | apply sA | apply sN | apply sD); exact HO_9.out) gb124 (Nat.le_of_eq hg.symm)) hb)
                       have n1_ := Aside0.mk (Kd.R_below (by (with_reducible repeat first | apply rA | apply rN | apply rD); exact HO123.out) hb)
                       have n2_ := Aside0.mk (below_step (by repeat first | exact HB.out | apply bA | apply bN | apply bD) hb)
                       have n3_ := Aside0.mk (hbox)
                       have n4_ := Aside0.mk ((by rw [hg]; exact (below_size (by repeat first | exact HB.out | apply bA | apply bN | apply bD)) : w.heap.size ≤ gb124))
                       have n5_ := Aside0.mk ((by rw [hg]; exact (below_size (by repeat first | exact HB.out | apply bA | apply bN | apply bD)) : w.heap.size ≤ gb124))
                       clear HO_9
                       clear HO123
                       clear HB
                       have HO_9 := n0_
                       have HO123 := n1_
                       have HB := n2_
                       have BK124 := n3_
                       have GW124 := n4_
                       have GE124 := n5_
                       clear n0_ n1_ n2_ n3_ n4_ n5_
                       clear hb hbox hg
                       refine hK.out _ _ trivial (fun hHeld => ?_)
                       clear hK K
                       refine norm_ (a' := ?_) ?_ ?_
                       rotate_left
                       ·show Act.put _ (some 11) _ = _
                        simp only [Act.put, lA, lZ, lS, i64_w, i32_w]
                        rfl
                       exact norm_ (by simp only [putAll, Act.put, lA, lZ, lS]; first | done | rfl) (hJ9_11 (v122, gb124) _ ⟨(by (with_reducible repeat first | apply rA | apply rN | apply rD); exact HO123.out), (by (with_reducible repeat first | apply sA | apply sN | apply sD); exact HO_9.out), (by (with_reducible repeat (first | refine blk_drewN ?_ _ | refine blk_drew ?_ | refine blk_alloc ?_ _)); exact BK124.out), GW124.out, GE124.out, (by repeat (first | (with_reducible first | exact HB.out | apply bA | apply bN | apply bD | refine below_set ?_ GE124.out) | exact HB.out))⟩)
                    ·skip
                     rintro v119 w19 ⟨h0_, h1_, h2_⟩
                     have n0_ : Aside0 (Kd.R (Kd.int .u8) 5 w19 w.heap.size (fun _ => True) v119 y118) := ⟨h0_⟩
                     have n1_ : Aside0 (Kd.S k31 31 w19 w.heap.size (fun _ => True) u9 x9_2) := ⟨h1_⟩
                     have n2_ : Aside0 (Below w.heap.size w w19) := ⟨h2_⟩
                     clear HO_9
                     clear HB
                     clear h0_ h1_ h2_
                     have HO120 := n0_
                     have HO_9 := n1_
                     have HB := n2_
                     clear n0_ n1_ n2_
                     have hHeld := trivial
                     refine norm_ (a' := ?_) ?_ ?_
                     rotate_left
                     ·simp only [putAll, Act.put, lA, lZ, lS]
                      rfl
                     refine three_ (i := 4) (j := 9) (k := 11) (Ni := some 39) (Nj := some 44) (Nk := some 11) #[T,T,T,T,T,T,T,T,T,F,F,F,F] #[T,T,T,T,F,T,T,T,T,T,F,F,F] #[T,T,T,T,F,T,T,T,T,F,F,T,F] rfl rfl rfl rfl rfl rfl (three_of HT_.out (by kernel_rfl)) (by decide) (by decide) (by decide) (fun K hK => ?_) (fun K hK => ?_) (fun K hK => ?_)
                     ·skip
                      have hcv20 := own_string (P := Try.prog) Try.underlying40 Try.underlying5 Try.underlying9 (Kd.own_of_R HO120.out)
                      refine value_ (w1 := ?_) (v := ?_) (by rfl) rfl ?_ ?_
                      rotate_left 2
                      ·go_simp
                       constructor
                       ·rfl
                       ·rfl
                      clear hcv20
                      refine hK.out _ _ trivial (fun hHeld => ?_)
                      clear hK K
                      refine norm_ (a' := ?_) ?_ ?_
                      rotate_left
                      ·show Act.put _ (some 39) _ = _
                       simp only [Act.put, lA, lZ, lS, i64_w, i32_w]
                       rfl
                      exact norm_ (by simp only [putAll, Act.put, lA, lZ, lS]; first | done | rfl) (hJ3_4 (v119) _ ⟨(by (with_reducible repeat first | apply rA | apply rN | apply rD); exact HO120.out), (by (with_reducible repeat first | apply sA | apply sN | apply sD); exact HO_9.out), (by repeat first | exact HB.out | apply bA | apply bN | apply bD)⟩)
                     ·skip
                      refine Kd.R_lit_step (Kd.int .i64) _ 3 ?hg (N := 44) ?hd (xs := ([Int.tmod (wrap64 (x10_2 + 1)) a0] : List Int)) (inner := [.int .i64 (Int.tmod (wrap64 (x10_2 + 1)) a0)]) (ok := fun _ => True) (okp := fun _ => True) ?hr ?hp (fun _ hk => hk) trivial (Below.refl _ _) (Nat.le_refl _) (by simp) ?_; (case hd => rfl); (case hg => rfl); (case hr => first | (go_simp; done) | (go_simp; rfl)); (case hp => exact (Reps.one (show Kd.M (Kd.int .i64) _ _ _ (Int.tmod (wrap64 (x10_2 + 1)) a0) [.int .i64 (Int.tmod (wrap64 (x10_2 + 1)) a0)] from rfl) (Reps.none _ _)))
                      intro v122 w20 ho21 hb hg_ hnew_
                      clear hg_ hnew_
                      (first | rw [← Ny121.out] at ho21 | (simp only [Int.reduceToNat] at ho21; rw [← Ny121.out] at ho21))
                      have n0_ := Aside0.mk (Kd.S_elder' (by (with_reducible repeat first | apply sA | apply sN | apply sD); exact HO_9.out) (Kd.R_base ho21) hb)
                      have n1_ := Aside0.mk (Kd.R_below (by (with_reducible repeat first | apply rA | apply rN | apply rD); exact HO120.out) hb)
                      have n2_ := Aside0.mk (Kd.R_lower ho21 (below_size (by repeat first | exact HB.out | apply bA | apply bN | apply bD)))
                      have n3_ := Aside0.mk (below_step (by repeat first | exact HB.out | apply bA | apply bN | apply bD) hb)
                      clear HO_9
                      clear HO120
                      clear HB
                      have HO_9 := n0_
                      have HO120 := n1_
                      have HO123 := n2_
                      have HB := n3_
                      clear n0_ n1_ n2_ n3_
                      clear hb ho21
                      refine hK.out _ _ trivial (fun hHeld => ?_)
                      clear hK K
                      refine norm_ (a' := ?_) ?_ ?_
                      rotate_left
                      ·show Act.put _ (some 44) _ = _
                       simp only [Act.put, lA, lZ, lS, i64_w, i32_w]
                       rfl
                      exact norm_ (by simp only [putAll, Act.put, lA, lZ, lS]; first | done | rfl) (hJ3_9 (v119, v122) _ ⟨(by (with_reducible repeat first | apply rA | apply rN | apply rD); exact HO120.out), (by (with_reducible repeat first | apply rA | apply rN | apply rD); exact HO123.out), (by (with_reducible repeat first | apply sA | apply sN | apply sD); exact Kd.S_mono HO_9.out (fun _ hk => hk.2)), (by repeat first | exact HB.out | apply bA | apply bN | apply bD)⟩)
                     ·skip
                      refine box_step ?hg (N := 11) ?hd (cs := #[.string (⟨#[]⟩ : ByteArray), .slice none 0 0]) (t := 31) ?hr ?_; (case hd => rfl); (case hg => rfl); (case hr => first | (go_simp; done) | (go_simp; rfl))
                      intro gb124 hg w20 hbox hb
                      have n0_ := Aside0.mk (Kd.S_below (Kd.S_elderB (by (with_reducible repeat first | apply sA | apply sN | apply sD); exact HO_9.out) gb124 (Nat.le_of_eq hg.symm)) hb)
                      have n1_ := Aside0.mk (Kd.R_below (by (with_reducible repeat first | apply rA | apply rN | apply rD); exact HO120.out) hb)
                      have n2_ := Aside0.mk (below_step (by repeat first | exact HB.out | apply bA | apply bN | apply bD) hb)
                      have n3_ := Aside0.mk (hbox)
                      have n4_ := Aside0.mk ((by rw [hg]; exact (below_size (by repeat first | exact HB.out | apply bA | apply bN | apply bD)) : w.heap.size ≤ gb124))
                      have n5_ := Aside0.mk ((by rw [hg]; exact (below_size (by repeat first | exact HB.out | apply bA | apply bN | apply bD)) : w.heap.size ≤ gb124))
                      clear HO_9
                      clear HO120
                      clear HB
                      have HO_9 := n0_
                      have HO120 := n1_
                      have HB := n2_
                      have BK124 := n3_
                      have GW124 := n4_
                      have GE124 := n5_
                      clear n0_ n1_ n2_ n3_ n4_ n5_
                      clear hb hbox hg
                      refine hK.out _ _ trivial (fun hHeld => ?_)
                      clear hK K
                      refine norm_ (a' := ?_) ?_ ?_
                      rotate_left
                      ·show Act.put _ (some 11) _ = _
                       simp only [Act.put, lA, lZ, lS, i64_w, i32_w]
                       rfl
                      exact norm_ (by simp only [putAll, Act.put, lA, lZ, lS]; first | done | rfl) (hJ3_11 (v119, gb124) _ ⟨(by (with_reducible repeat first | apply rA | apply rN | apply rD); exact HO120.out), (by (with_reducible repeat first | apply sA | apply sN | apply sD); exact Kd.S_mono HO_9.out (fun _ hk => hk.2)), (by (with_reducible repeat (first | refine blk_drewN ?_ _ | refine blk_drew ?_ | refine blk_alloc ?_ _)); exact BK124.out), GW124.out, GE124.out, (by repeat (first | (with_reducible first | exact HB.out | apply bA | apply bN | apply bD | refine below_set ?_ GE124.out) | exact HB.out))⟩)
                   ·skip
                    rintro ⟨v122, gb124⟩ w20 ⟨h0_, h1_, h2_, h3_, h4_, h5_⟩
                    have n0_ : Aside0 (Kd.R (Kd.int .i64) 3 w20 w.heap.size (fun _ => True) v122 y121) := ⟨h0_⟩
                    have n1_ : Aside0 (Kd.S k31 31 w20 w.heap.size (fun k_ => some k_ ≠ (v122 : Value).ownBlock ∧ k_ ≠ gb124) u9 x9_2) := ⟨h1_⟩
                    have n2_ : Aside0 (w20.heap[gb124]? = some (.cells #[.string (⟨#[]⟩ : ByteArray), .slice none 0 0] 31 (0, 0))) := ⟨h2_⟩
                    have n3_ : Aside0 (w.heap.size ≤ gb124) := ⟨h3_⟩
                    have n4_ : Aside0 (w.heap.size ≤ gb124) := ⟨h4_⟩
                    have n5_ : Aside0 (Below w.heap.size w w20) := ⟨h5_⟩
                    clear HO_9
                    clear HB
                    clear h0_ h1_ h2_ h3_ h4_ h5_
                    have HO123 := n0_
                    have HO_9 := n1_
                    have BK124 := n2_
                    have GW124 := n3_
                    have GE124 := n4_
                    have HB := n5_
                    clear n0_ n1_ n2_ n3_ n4_ n5_
                    have hHeld := trivial
                    refine norm_ (a' := ?_) ?_ ?_
                    rotate_left
                    ·simp only [putAll, Act.put, lA, lZ, lS]
                     rfl
                    refine one_ (i := 3) (N := some 38) #[T,T,T,T,F,T,T,T,T,T,F,T,F] rfl rfl (one_of HT_.out (by kernel_rfl)) (by decide) (fun K hK => ?_)
                    refine Kd.R_lit_step (Kd.int .u8) _ 5 ?hg (N := 38) ?hd (xs := ([(wrap64 (97 + x10_2)) % 256] : List Int)) (inner := [.int .u8 ((wrap64 (97 + x10_2)) % 256)]) (ok := fun _ => True) (okp := fun _ => True) ?hr ?hp (fun _ hk => hk) trivial (Below.refl _ _) (Nat.le_refl _) (by simp) ?_; (case hd => rfl); (case hg => rfl); (case hr => first | (go_simp; done) | (go_simp; rfl)); (case hp => exact (Reps.one (show Kd.M (Kd.int .u8) _ _ _ ((wrap64 (97 + x10_2)) % 256) [.int .u8 ((wrap64 (97 + x10_2)) % 256)] from rfl) (Reps.none _ _)))
                    intro v119 w21 ho22 hb hg_ hnew_
                    clear hg_ hnew_
                    (first | rw [← Ny118.out] at ho22 | (simp only [Int.reduceToNat] at ho22; rw [← Ny118.out] at ho22))
                    have n0_ := Aside0.mk (Kd.S_below (by (with_reducible repeat first | apply sA | apply sN | apply sD); exact HO_9.out) hb)
                    have n1_ := Aside0.mk (Kd.R_below (by (with_reducible repeat first | apply rA | apply rN | apply rD); exact HO123.out) hb)
                    have n2_ := Aside0.mk (Kd.R_lower ho22 (below_size (by repeat (first | (with_reducible first | exact HB.out | apply bA | apply bN | apply bD | refine below_set ?_ GE124.out) | exact HB.out))))
                    have n3_ := Aside0.mk (blk_below (g := gb124) (o := .cells #[.string (⟨#[]⟩ : ByteArray), .slice none 0 0] 31 (0, 0)) (by (with_reducible repeat (first | refine blk_drewN ?_ _ | refine blk_drew ?_ | refine blk_alloc ?_ _)); exact BK124.out) hb)
                    have n4_ := Aside0.mk (below_step (by repeat (first | (with_reducible first | exact HB.out | apply bA | apply bN | apply bD | refine below_set ?_ GE124.out) | exact HB.out)) hb)
                    clear HO_9
                    clear HO123
                    clear BK124
                    clear HB
                    have HO_9 := n0_
                    have HO123 := n1_
                    have HO120 := n2_
                    have BK124 := n3_
                    have HB := n4_
                    clear n0_ n1_ n2_ n3_ n4_
                    clear hb ho22
                    refine hK.out _ _ trivial (fun hHeld => ?_)
                    clear hK K
                    refine norm_ (a' := ?_) ?_ ?_
                    rotate_left
                    ·show Act.put _ (some 38) _ = _
                     simp only [Act.put, lA, lZ, lS, i64_w, i32_w]
                     rfl
                    exact norm_ (by simp only [putAll, Act.put, lA, lZ, lS]; first | done | rfl) (hJ3_9_11 (v119, v122, gb124) _ ⟨(by (with_reducible repeat first | apply rA | apply rN | apply rD); exact HO120.out), (by (with_reducible repeat first | apply rA | apply rN | apply rD); exact HO123.out), (by (with_reducible repeat first | apply sA | apply sN | apply sD); exact HO_9.out), (by (with_reducible repeat (first | refine blk_drewN ?_ _ | refine blk_drew ?_ | refine blk_alloc ?_ _)); exact BK124.out), GW124.out, GE124.out, (by repeat (first | (with_reducible first | exact HB.out | apply bA | apply bN | apply bD | refine below_set ?_ GE124.out) | exact HB.out))⟩)
                  ·skip
                   rintro ⟨v119, gb124⟩ w20 ⟨h0_, h1_, h2_, h3_, h4_, h5_⟩
                   have n0_ : Aside0 (Kd.R (Kd.int .u8) 5 w20 w.heap.size (fun _ => True) v119 y118) := ⟨h0_⟩
                   have n1_ : Aside0 (Kd.S k31 31 w20 w.heap.size (fun k_ => k_ ≠ gb124) u9 x9_2) := ⟨h1_⟩
                   have n2_ : Aside0 (w20.heap[gb124]? = some (.cells #[.string (⟨#[]⟩ : ByteArray), .slice none 0 0] 31 (0, 0))) := ⟨h2_⟩
                   have n3_ : Aside0 (w.heap.size ≤ gb124) := ⟨h3_⟩
                   have n4_ : Aside0 (w.heap.size ≤ gb124) := ⟨h4_⟩
                   have n5_ : Aside0 (Below w.heap.size w w20) := ⟨h5_⟩
                   clear HO_9
                   clear HB
                   clear h0_ h1_ h2_ h3_ h4_ h5_
                   have HO120 := n0_
                   have HO_9 := n1_
                   have BK124 := n2_
                   have GW124 := n3_
                   have GE124 := n4_
                   have HB := n5_
                   clear n0_ n1_ n2_ n3_ n4_ n5_
                   have hHeld := trivial
                   refine norm_ (a' := ?_) ?_ ?_
                   rotate_left
                   ·simp only [putAll, Act.put, lA, lZ, lS]
                    rfl
                   refine two_ (i := 4) (j := 9) (Ni := some 39) (Nj := some 44) #[T,T,T,T,T,T,T,T,T,F,F,T,F] #[T,T,T,T,F,T,T,T,T,T,F,T,F] rfl rfl rfl rfl (two_of HT_.out (by kernel_rfl)) (by decide) (by decide) (fun K hK => ?_) (fun K hK => ?_)
                   ·skip
                    have hcv21 := own_string (P := Try.prog) Try.underlying40 Try.underlying5 Try.underlying9 (Kd.own_of_R HO120.out)
                    refine value_ (w1 := ?_) (v := ?_) (by rfl) rfl ?_ ?_
                    rotate_left 2
                    ·go_simp
                     constructor
                     ·rfl
                     ·rfl
                    clear hcv21
                    refine hK.out _ _ trivial (fun hHeld => ?_)
                    clear hK K
                    refine norm_ (a' := ?_) ?_ ?_
                    rotate_left
                    ·show Act.put _ (some 39) _ = _
                     simp only [Act.put, lA, lZ, lS, i64_w, i32_w]
                     rfl
                    exact norm_ (by simp only [putAll, Act.put, lA, lZ, lS]; first | done | rfl) (hJ3_4_11 (v119, gb124) _ ⟨(by (with_reducible repeat first | apply rA | apply rN | apply rD); exact HO120.out), (by (with_reducible repeat first | apply sA | apply sN | apply sD); exact HO_9.out), (by (with_reducible repeat (first | refine blk_drewN ?_ _ | refine blk_drew ?_ | refine blk_alloc ?_ _)); exact BK124.out), GW124.out, GE124.out, (by repeat (first | (with_reducible first | exact HB.out | apply bA | apply bN | apply bD | refine below_set ?_ GE124.out) | exact HB.out))⟩)
                   ·skip
                    refine Kd.R_lit_step (Kd.int .i64) _ 3 ?hg (N := 44) ?hd (xs := ([Int.tmod (wrap64 (x10_2 + 1)) a0] : List Int)) (inner := [.int .i64 (Int.tmod (wrap64 (x10_2 + 1)) a0)]) (ok := fun _ => True) (okp := fun _ => True) ?hr ?hp (fun _ hk => hk) trivial (Below.refl _ _) (Nat.le_refl _) (by simp) ?_; (case hd => rfl); (case hg => rfl); (case hr => first | (go_simp; done) | (go_simp; rfl)); (case hp => exact (Reps.one (show Kd.M (Kd.int .i64) _ _ _ (Int.tmod (wrap64 (x10_2 + 1)) a0) [.int .i64 (Int.tmod (wrap64 (x10_2 + 1)) a0)] from rfl) (Reps.none _ _)))
                    intro v122 w21 ho22 hb hg_ hnew_
                    clear hg_ hnew_
                    (first | rw [← Ny121.out] at ho22 | (simp only [Int.reduceToNat] at ho22; rw [← Ny121.out] at ho22))
                    have n0_ := Aside0.mk (Kd.S_elder' (by (with_reducible repeat first | apply sA | apply sN | apply sD); exact HO_9.out) (Kd.R_base ho22) hb)
                    have n1_ := Aside0.mk (Kd.R_below (by (with_reducible repeat first | apply rA | apply rN | apply rD); exact HO120.out) hb)
                    have n2_ := Aside0.mk (Kd.R_lower ho22 (below_size (by repeat (first | (with_reducible first | exact HB.out | apply bA | apply bN | apply bD | refine below_set ?_ GE124.out) | exact HB.out))))
                    have n3_ := Aside0.mk (blk_below (g := gb124) (o := .cells #[.string (⟨#[]⟩ : ByteArray), .slice none 0 0] 31 (0, 0)) (by (with_reducible repeat (first | refine blk_drewN ?_ _ | refine blk_drew ?_ | refine blk_alloc ?_ _)); exact BK124.out) hb)
                    have n4_ := Aside0.mk (below_step (by repeat (first | (with_reducible first | exact HB.out | apply bA | apply bN | apply bD | refine below_set ?_ GE124.out) | exact HB.out)) hb)
                    clear HO_9
                    clear HO120
                    clear BK124
                    clear HB
                    have HO_9 := n0_
                    have HO120 := n1_
                    have HO123 := n2_
                    have BK124 := n3_
                    have HB := n4_
                    clear n0_ n1_ n2_ n3_ n4_
                    clear hb ho22
                    refine hK.out _ _ trivial (fun hHeld => ?_)
                    clear hK K
                    refine norm_ (a' := ?_) ?_ ?_
                    rotate_left
                    ·show Act.put _ (some 44) _ = _
                     simp only [Act.put, lA, lZ, lS, i64_w, i32_w]
                     rfl
                    exact norm_ (by simp only [putAll, Act.put, lA, lZ, lS]; first | done | rfl) (hJ3_9_11 (v119, v122, gb124) _ ⟨(by (with_reducible repeat first | apply rA | apply rN | apply rD); exact HO120.out), (by (with_reducible repeat first | apply rA | apply rN | apply rD); exact HO123.out), (by (with_reducible repeat first | apply sA | apply sN | apply sD); exact Kd.S_mono HO_9.out (fun _ hk => ⟨hk.2, hk.1⟩)), (by (with_reducible repeat (first | refine blk_drewN ?_ _ | refine blk_drew ?_ | refine blk_alloc ?_ _)); exact BK124.out), GW124.out, GE124.out, (by repeat (first | (with_reducible first | exact HB.out | apply bA | apply bN | apply bD | refine below_set ?_ GE124.out) | exact HB.out))⟩)
                 ·skip
                  rintro ⟨v119, v122⟩ w21 ⟨h0_, h1_, h2_, h3_⟩
                  have n0_ : Aside0 (Kd.R (Kd.int .u8) 5 w21 w.heap.size (fun _ => True) v119 y118) := ⟨h0_⟩
                  have n1_ : Aside0 (Kd.R (Kd.int .i64) 3 w21 w.heap.size (fun _ => True) v122 y121) := ⟨h1_⟩
                  have n2_ : Aside0 (Kd.S k31 31 w21 w.heap.size (fun k_ => some k_ ≠ (v122 : Value).ownBlock) u9 x9_2) := ⟨h2_⟩
                  have n3_ : Aside0 (Below w.heap.size w w21) := ⟨h3_⟩
                  clear HO_9
                  clear HB
                  clear h0_ h1_ h2_ h3_
                  have HO120 := n0_
                  have HO123 := n1_
                  have HO_9 := n2_
                  have HB := n3_
                  clear n0_ n1_ n2_ n3_
                  have hHeld := trivial
                  obtain ⟨Ao23, co23, eo23⟩ := Kd.R_slice HO123.out
                  (first | subst eo23 | (injection eo23 with f1_ f2_ f3_; have f4_ := f1_.symm; have f5_ := f3_.symm; clear f1_ f2_ f3_; subst f4_; subst f5_))
                  refine norm_ (a' := ?_) ?_ ?_
                  rotate_left
                  ·simp only [putAll, Act.put, lA, lZ, lS]
                   rfl
                  refine two_ (i := 4) (j := 11) (Ni := some 39) (Nj := some 11) #[T,T,T,T,T,T,T,T,T,T,F,F,F] #[T,T,T,T,F,T,T,T,T,T,F,T,F] rfl rfl rfl rfl (two_of HT_.out (by kernel_rfl)) (by decide) (by decide) (fun K hK => ?_) (fun K hK => ?_)
                  ·skip
                   have hcv22 := own_string (P := Try.prog) Try.underlying40 Try.underlying5 Try.underlying9 (Kd.own_of_R HO120.out)
                   refine value_ (w1 := ?_) (v := ?_) (by rfl) rfl ?_ ?_
                   rotate_left 2
                   ·go_simp
                    constructor
                    ·rfl
                    ·rfl
                   clear hcv22
                   refine hK.out _ _ trivial (fun hHeld => ?_)
                   clear hK K
                   refine norm_ (a' := ?_) ?_ ?_
                   rotate_left
                   ·show Act.put _ (some 39) _ = _
                    simp only [Act.put, lA, lZ, lS, i64_w, i32_w]
                    rfl
                   refine pure_ (i := 10) (N := some 45) (v := ?_) (a' := ?_) #[T,T,T,T,T,T,T,T,T,T,T,F,F] rfl rfl (any_of HT_.out (by kernel_rfl)) (fun _ _ _ h => h) (Or.inl ⟨by rfl, ?_⟩) ?_ ?_
                   rotate_left
                   ·intro w'
                    go_simp
                    with_reducible rfl
                   rotate_left
                   ·simp only [Act.put, lA, lZ, lS, i64_w, i32_w]
                    rfl
                   exact norm_ (by simp only [putAll, Act.put, lA, lZ, lS]; first | done | rfl) (hJ3_4_9 (v119, .slice Ao23 y121.length co23) _ ⟨(by (with_reducible repeat first | apply rA | apply rN | apply rD); exact HO120.out), (by (with_reducible repeat first | apply rA | apply rN | apply rD); exact HO123.out), (by (with_reducible repeat first | apply sA | apply sN | apply sD); exact HO_9.out), (by repeat first | exact HB.out | apply bA | apply bN | apply bD)⟩)
                  ·skip
                   refine box_step ?hg (N := 11) ?hd (cs := #[.string (⟨#[]⟩ : ByteArray), .slice none 0 0]) (t := 31) ?hr ?_; (case hd => rfl); (case hg => rfl); (case hr => first | (go_simp; done) | (go_simp; rfl))
                   intro gb124 hg w22 hbox hb
                   have n0_ := Aside0.mk (Kd.S_below (Kd.S_elderB (by (with_reducible repeat first | apply sA | apply sN | apply sD); exact HO_9.out) gb124 (Nat.le_of_eq hg.symm)) hb)
                   have n1_ := Aside0.mk (Kd.R_below (by (with_reducible repeat first | apply rA | apply rN | apply rD); exact HO120.out) hb)
                   have n2_ := Aside0.mk (Kd.R_below (by (with_reducible repeat first | apply rA | apply rN | apply rD); exact HO123.out) hb)
                   have n3_ := Aside0.mk (below_step (by repeat first | exact HB.out | apply bA | apply bN | apply bD) hb)
                   have n4_ := Aside0.mk (hbox)
                   have n5_ := Aside0.mk ((by rw [hg]; exact (below_size (by repeat first | exact HB.out | apply bA | apply bN | apply bD)) : w.heap.size ≤ gb124))
                   have n6_ := Aside0.mk ((by rw [hg]; exact (below_size (by repeat first | exact HB.out | apply bA | apply bN | apply bD)) : w.heap.size ≤ gb124))
                   clear HO_9
                   clear HO120
                   clear HO123
                   clear HB
                   have HO_9 := n0_
                   have HO120 := n1_
                   have HO123 := n2_
                   have HB := n3_
                   have BK124 := n4_
                   have GW124 := n5_
                   have GE124 := n6_
                   clear n0_ n1_ n2_ n3_ n4_ n5_ n6_
                   clear hb hbox hg
                   refine hK.out _ _ trivial (fun hHeld => ?_)
                   clear hK K
                   refine norm_ (a' := ?_) ?_ ?_
                   rotate_left
                   ·show Act.put _ (some 11) _ = _
                    simp only [Act.put, lA, lZ, lS, i64_w, i32_w]
                    rfl
                   exact norm_ (by simp only [putAll, Act.put, lA, lZ, lS]; first | done | rfl) (hJ3_9_11 (v119, .slice Ao23 y121.length co23, gb124) _ ⟨(by (with_reducible repeat first | apply rA | apply rN | apply rD); exact HO120.out), (by (with_reducible repeat first | apply rA | apply rN | apply rD); exact HO123.out), (by (with_reducible repeat first | apply sA | apply sN | apply sD); exact HO_9.out), (by (with_reducible repeat (first | refine blk_drewN ?_ _ | refine blk_drew ?_ | refine blk_alloc ?_ _)); exact BK124.out), GW124.out, GE124.out, (by repeat (first | (with_reducible first | exact HB.out | apply bA | apply bN | apply bD | refine below_set ?_ GE124.out) | exact HB.out))⟩)
                ·skip
                 rintro v119 w20 ⟨h0_, h1_, h2_⟩
                 have n0_ : Aside0 (Kd.R (Kd.int .u8) 5 w20 w.heap.size (fun _ => True) v119 y118) := ⟨h0_⟩
                 have n1_ : Aside0 (Kd.S k31 31 w20 w.heap.size (fun _ => True) u9 x9_2) := ⟨h1_⟩
                 have n2_ : Aside0 (Below w.heap.size w w20) := ⟨h2_⟩
                 clear HO_9
                 clear HB
                 clear h0_ h1_ h2_
                 have HO120 := n0_
                 have HO_9 := n1_
                 have HB := n2_
                 clear n0_ n1_ n2_
                 have hHeld := trivial
                 refine norm_ (a' := ?_) ?_ ?_
                 rotate_left
                 ·simp only [putAll, Act.put, lA, lZ, lS]
                  rfl
                 refine two_ (i := 9) (j := 11) (Ni := some 44) (Nj := some 11) #[T,T,T,T,T,T,T,T,T,T,F,F,F] #[T,T,T,T,T,T,T,T,T,F,F,T,F] rfl rfl rfl rfl (two_of HT_.out (by kernel_rfl)) (by decide) (by decide) (fun K hK => ?_) (fun K hK => ?_)
                 ·skip
                  refine Kd.R_lit_step (Kd.int .i64) _ 3 ?hg (N := 44) ?hd (xs := ([Int.tmod (wrap64 (x10_2 + 1)) a0] : List Int)) (inner := [.int .i64 (Int.tmod (wrap64 (x10_2 + 1)) a0)]) (ok := fun _ => True) (okp := fun _ => True) ?hr ?hp (fun _ hk => hk) trivial (Below.refl _ _) (Nat.le_refl _) (by simp) ?_; (case hd => rfl); (case hg => rfl); (case hr => first | (go_simp; done) | (go_simp; rfl)); (case hp => exact (Reps.one (show Kd.M (Kd.int .i64) _ _ _ (Int.tmod (wrap64 (x10_2 + 1)) a0) [.int .i64 (Int.tmod (wrap64 (x10_2 + 1)) a0)] from rfl) (Reps.none _ _)))
                  intro v122 w21 ho22 hb hg_ hnew_
                  clear hg_ hnew_
                  (first | rw [← Ny121.out] at ho22 | (simp only [Int.reduceToNat] at ho22; rw [← Ny121.out] at ho22))
                  have n0_ := Aside0.mk (Kd.S_elder' (by (with_reducible repeat first | apply sA | apply sN | apply sD); exact HO_9.out) (Kd.R_base ho22) hb)
                  have n1_ := Aside0.mk (Kd.R_below (by (with_reducible repeat first | apply rA | apply rN | apply rD); exact HO120.out) hb)
                  have n2_ := Aside0.mk (Kd.R_lower ho22 (below_size (by repeat first | exact HB.out | apply bA | apply bN | apply bD)))
                  have n3_ := Aside0.mk (below_step (by repeat first | exact HB.out | apply bA | apply bN | apply bD) hb)
                  clear HO_9
                  clear HO120
                  clear HB
                  have HO_9 := n0_
                  have HO120 := n1_
                  have HO123 := n2_
                  have HB := n3_
                  clear n0_ n1_ n2_ n3_
                  clear hb ho22
                  obtain ⟨Ao23, co23, eo23⟩ := Kd.R_slice HO123.out
                  (first | subst eo23 | (injection eo23 with f1_ f2_ f3_; have f4_ := f1_.symm; have f5_ := f3_.symm; clear f1_ f2_ f3_; subst f4_; subst f5_))
                  refine hK.out _ _ trivial (fun hHeld => ?_)
                  clear hK K
                  refine norm_ (a' := ?_) ?_ ?_
                  rotate_left
                  ·show Act.put _ (some 44) _ = _
                   simp only [Act.put, lA, lZ, lS, i64_w, i32_w]
                   rfl
                  refine pure_ (i := 10) (N := some 45) (v := ?_) (a' := ?_) #[T,T,T,T,T,T,T,T,T,T,T,F,F] rfl rfl (any_of HT_.out (by kernel_rfl)) (fun _ _ _ h => h) (Or.inl ⟨by rfl, ?_⟩) ?_ ?_
                  rotate_left
                  ·intro w'
                   go_simp
                   with_reducible rfl
                  rotate_left
                  ·simp only [Act.put, lA, lZ, lS, i64_w, i32_w]
                   rfl
                  exact norm_ (by simp only [putAll, Act.put, lA, lZ, lS]; first | done | rfl) (hJ3_4_9 (v119, .slice Ao23 y121.length co23) _ ⟨(by (with_reducible repeat first | apply rA | apply rN | apply rD); exact HO120.out), (by (with_reducible repeat first | apply rA | apply rN | apply rD); exact HO123.out), (by (with_reducible repeat first | apply sA | apply sN | apply sD); exact Kd.S_mono HO_9.out (fun _ hk => hk.2)), (by repeat first | exact HB.out | apply bA | apply bN | apply bD)⟩)
                 ·skip
                  refine box_step ?hg (N := 11) ?hd (cs := #[.string (⟨#[]⟩ : ByteArray), .slice none 0 0]) (t := 31) ?hr ?_; (case hd => rfl); (case hg => rfl); (case hr => first | (go_simp; done) | (go_simp; rfl))
                  intro gb124 hg w21 hbox hb
                  have n0_ := Aside0.mk (Kd.S_below (Kd.S_elderB (by (with_reducible repeat first | apply sA | apply sN | apply sD); exact HO_9.out) gb124 (Nat.le_of_eq hg.symm)) hb)
                  have n1_ := Aside0.mk (Kd.R_below (by (with_reducible repeat first | apply rA | apply rN | apply rD); exact HO120.out) hb)
                  have n2_ := Aside0.mk (below_step (by repeat first | exact HB.out | apply bA | apply bN | apply bD) hb)
                  have n3_ := Aside0.mk (hbox)
                  have n4_ := Aside0.mk ((by rw [hg]; exact (below_size (by repeat first | exact HB.out | apply bA | apply bN | apply bD)) : w.heap.size ≤ gb124))
                  have n5_ := Aside0.mk ((by rw [hg]; exact (below_size (by repeat first | exact HB.out | apply bA | apply bN | apply bD)) : w.heap.size ≤ gb124))
                  clear HO_9
                  clear HO120
                  clear HB
                  have HO_9 := n0_
                  have HO120 := n1_
                  have HB := n2_
                  have BK124 := n3_
                  have GW124 := n4_
                  have GE124 := n5_
                  clear n0_ n1_ n2_ n3_ n4_ n5_
                  clear hb hbox hg
                  refine hK.out _ _ trivial (fun hHeld => ?_)
                  clear hK K
                  refine norm_ (a' := ?_) ?_ ?_
                  rotate_left
                  ·show Act.put _ (some 11) _ = _
                   simp only [Act.put, lA, lZ, lS, i64_w, i32_w]
                   rfl
                  exact norm_ (by simp only [putAll, Act.put, lA, lZ, lS]; first | done | rfl) (hJ3_4_11 (v119, gb124) _ ⟨(by (with_reducible repeat first | apply rA | apply rN | apply rD); exact HO120.out), (by (with_reducible repeat first | apply sA | apply sN | apply sD); exact Kd.S_mono HO_9.out (fun _ hk => hk.2)), (by (with_reducible repeat (first | refine blk_drewN ?_ _ | refine blk_drew ?_ | refine blk_alloc ?_ _)); exact BK124.out), GW124.out, GE124.out, (by repeat (first | (with_reducible first | exact HB.out | apply bA | apply bN | apply bD | refine below_set ?_ GE124.out) | exact HB.out))⟩)
               ·skip
                rintro ⟨v119, v122, gb124⟩ w22 ⟨h0_, h1_, h2_, h3_, h4_, h5_, h6_⟩
                have n0_ : Aside0 (Kd.R (Kd.int .u8) 5 w22 w.heap.size (fun _ => True) v119 y118) := ⟨h0_⟩
                have n1_ : Aside0 (Kd.R (Kd.int .i64) 3 w22 w.heap.size (fun _ => True) v122 y121) := ⟨h1_⟩
                have n2_ : Aside0 (Kd.S k31 31 w22 w.heap.size (fun k_ => some k_ ≠ (v122 : Value).ownBlock ∧ k_ ≠ gb124) u9 x9_2) := ⟨h2_⟩
                have n3_ : Aside0 (w22.heap[gb124]? = some (.cells #[.string (⟨#[]⟩ : ByteArray), .slice none 0 0] 31 (0, 0))) := ⟨h3_⟩
                have n4_ : Aside0 (w.heap.size ≤ gb124) := ⟨h4_⟩
                have n5_ : Aside0 (w.heap.size ≤ gb124) := ⟨h5_⟩
                have n6_ : Aside0 (Below w.heap.size w w22) := ⟨h6_⟩
                clear HO_9
                clear HB
                clear h0_ h1_ h2_ h3_ h4_ h5_ h6_
                have HO120 := n0_
                have HO123 := n1_
                have HO_9 := n2_
                have BK124 := n3_
                have GW124 := n4_
                have GE124 := n5_
                have HB := n6_
                clear n0_ n1_ n2_ n3_ n4_ n5_ n6_
                have hHeld := trivial
                obtain ⟨Ao24, co24, eo24⟩ := Kd.R_slice HO123.out
                (first | subst eo24 | (injection eo24 with f1_ f2_ f3_; have f4_ := f1_.symm; have f5_ := f3_.symm; clear f1_ f2_ f3_; subst f4_; subst f5_))
                refine norm_ (a' := ?_) ?_ ?_
                rotate_left
                ·simp only [putAll, Act.put, lA, lZ, lS]
                 rfl
                refine one_ (i := 4) (N := some 39) #[T,T,T,T,T,T,T,T,T,T,F,T,F] rfl rfl (one_of HT_.out (by kernel_rfl)) (by decide) (fun K hK => ?_)
                have hcv23 := own_string (P := Try.prog) Try.underlying40 Try.underlying5 Try.underlying9 (Kd.own_of_R HO120.out)
                refine value_ (w1 := ?_) (v := ?_) (by rfl) rfl ?_ ?_
                rotate_left 2
                ·go_simp
                 constructor
                 ·rfl
                 ·rfl
                clear hcv23
                refine hK.out _ _ trivial (fun hHeld => ?_)
                clear hK K
                refine norm_ (a' := ?_) ?_ ?_
                rotate_left
                ·show Act.put _ (some 39) _ = _
                 simp only [Act.put, lA, lZ, lS, i64_w, i32_w]
                 rfl
                refine pure_ (i := 10) (N := some 45) (v := ?_) (a' := ?_) #[T,T,T,T,T,T,T,T,T,T,T,T,F] rfl rfl (any_of HT_.out (by kernel_rfl)) (fun _ _ _ h => h) (Or.inl ⟨by rfl, ?_⟩) ?_ ?_
                rotate_left
                ·intro w'
                 go_simp
                 with_reducible rfl
                rotate_left
                ·simp only [Act.put, lA, lZ, lS, i64_w, i32_w]
                 rfl
                exact norm_ (by simp only [putAll, Act.put, lA, lZ, lS]; first | done | rfl) (hJ3_4_9_11 (v119, .slice Ao24 y121.length co24, gb124) _ ⟨(by (with_reducible repeat first | apply rA | apply rN | apply rD); exact HO120.out), (by (with_reducible repeat first | apply rA | apply rN | apply rD); exact HO123.out), (by (with_reducible repeat first | apply sA | apply sN | apply sD); exact HO_9.out), (by (with_reducible repeat (first | refine blk_drewN ?_ _ | refine blk_drew ?_ | refine blk_alloc ?_ _)); exact BK124.out), GW124.out, GE124.out, (by repeat (first | (with_reducible first | exact HB.out | apply bA | apply bN | apply bD | refine below_set ?_ GE124.out) | exact HB.out))⟩)
              ·skip
               rintro ⟨v119, gb124⟩ w21 ⟨h0_, h1_, h2_, h3_, h4_, h5_⟩
               have n0_ : Aside0 (Kd.R (Kd.int .u8) 5 w21 w.heap.size (fun _ => True) v119 y118) := ⟨h0_⟩
               have n1_ : Aside0 (Kd.S k31 31 w21 w.heap.size (fun k_ => k_ ≠ gb124) u9 x9_2) := ⟨h1_⟩
               have n2_ : Aside0 (w21.heap[gb124]? = some (.cells #[.string (⟨#[]⟩ : ByteArray), .slice none 0 0] 31 (0, 0))) := ⟨h2_⟩
               have n3_ : Aside0 (w.heap.size ≤ gb124) := ⟨h3_⟩
               have n4_ : Aside0 (w.heap.size ≤ gb124) := ⟨h4_⟩
               have n5_ : Aside0 (Below w.heap.size w w21) := ⟨h5_⟩
               clear HO_9
               clear HB
               clear h0_ h1_ h2_ h3_ h4_ h5_
               have HO120 := n0_
               have HO_9 := n1_
               have BK124 := n2_
               have GW124 := n3_
               have GE124 := n4_
               have HB := n5_
               clear n0_ n1_ n2_ n3_ n4_ n5_
               have hHeld := trivial
               refine norm_ (a' := ?_) ?_ ?_
               rotate_left
               ·simp only [putAll, Act.put, lA, lZ, lS]
                rfl
               refine one_ (i := 9) (N := some 44) #[T,T,T,T,T,T,T,T,T,T,F,T,F] rfl rfl (one_of HT_.out (by kernel_rfl)) (by decide) (fun K hK => ?_)
               refine Kd.R_lit_step (Kd.int .i64) _ 3 ?hg (N := 44) ?hd (xs := ([Int.tmod (wrap64 (x10_2 + 1)) a0] : List Int)) (inner := [.int .i64 (Int.tmod (wrap64 (x10_2 + 1)) a0)]) (ok := fun _ => True) (okp := fun _ => True) ?hr ?hp (fun _ hk => hk) trivial (Below.refl _ _) (Nat.le_refl _) (by simp) ?_; (case hd => rfl); (case hg => rfl); (case hr => first | (go_simp; done) | (go_simp; rfl)); (case hp => exact (Reps.one (show Kd.M (Kd.int .i64) _ _ _ (Int.tmod (wrap64 (x10_2 + 1)) a0) [.int .i64 (Int.tmod (wrap64 (x10_2 + 1)) a0)] from rfl) (Reps.none _ _)))
               intro v122 w22 ho23 hb hg_ hnew_
               clear hg_ hnew_
               (first | rw [← Ny121.out] at ho23 | (simp only [Int.reduceToNat] at ho23; rw [← Ny121.out] at ho23))
               have n0_ := Aside0.mk (Kd.S_elder' (by (with_reducible repeat first | apply sA | apply sN | apply sD); exact HO_9.out) (Kd.R_base ho23) hb)
               have n1_ := Aside0.mk (Kd.R_below (by (with_reducible repeat first | apply rA | apply rN | apply rD); exact HO120.out) hb)
               have n2_ := Aside0.mk (Kd.R_lower ho23 (below_size (by repeat (first | (with_reducible first | exact HB.out | apply bA | apply bN | apply bD | refine below_set ?_ GE124.out) | exact HB.out))))
               have n3_ := Aside0.mk (blk_below (g := gb124) (o := .cells #[.string (⟨#[]⟩ : ByteArray), .slice none 0 0] 31 (0, 0)) (by (with_reducible repeat (first | refine blk_drewN ?_ _ | refine blk_drew ?_ | refine blk_alloc ?_ _)); exact BK124.out) hb)
               have n4_ := Aside0.mk (below_step (by repeat (first | (with_reducible first | exact HB.out | apply bA | apply bN | apply bD | refine below_set ?_ GE124.out) | exact HB.out)) hb)
               clear HO_9
               clear HO120
               clear BK124
               clear HB
               have HO_9 := n0_
               have HO120 := n1_
               have HO123 := n2_
               have BK124 := n3_
               have HB := n4_
               clear n0_ n1_ n2_ n3_ n4_
               clear hb ho23
               obtain ⟨Ao24, co24, eo24⟩ := Kd.R_slice HO123.out
               (first | subst eo24 | (injection eo24 with f1_ f2_ f3_; have f4_ := f1_.symm; have f5_ := f3_.symm; clear f1_ f2_ f3_; subst f4_; subst f5_))
               refine hK.out _ _ trivial (fun hHeld => ?_)
               clear hK K
               refine norm_ (a' := ?_) ?_ ?_
               rotate_left
               ·show Act.put _ (some 44) _ = _
                simp only [Act.put, lA, lZ, lS, i64_w, i32_w]
                rfl
               refine pure_ (i := 10) (N := some 45) (v := ?_) (a' := ?_) #[T,T,T,T,T,T,T,T,T,T,T,T,F] rfl rfl (any_of HT_.out (by kernel_rfl)) (fun _ _ _ h => h) (Or.inl ⟨by rfl, ?_⟩) ?_ ?_
               rotate_left
               ·intro w'
                go_simp
                with_reducible rfl
               rotate_left
               ·simp only [Act.put, lA, lZ, lS, i64_w, i32_w]
                rfl
               exact norm_ (by simp only [putAll, Act.put, lA, lZ, lS]; first | done | rfl) (hJ3_4_9_11 (v119, .slice Ao24 y121.length co24, gb124) _ ⟨(by (with_reducible repeat first | apply rA | apply rN | apply rD); exact HO120.out), (by (with_reducible repeat first | apply rA | apply rN | apply rD); exact HO123.out), (by (with_reducible repeat first | apply sA | apply sN | apply sD); exact Kd.S_mono HO_9.out (fun _ hk => ⟨hk.2, hk.1⟩)), (by (with_reducible repeat (first | refine blk_drewN ?_ _ | refine blk_drew ?_ | refine blk_alloc ?_ _)); exact BK124.out), GW124.out, GE124.out, (by repeat (first | (with_reducible first | exact HB.out | apply bA | apply bN | apply bD | refine below_set ?_ GE124.out) | exact HB.out))⟩)
             ·skip
              rintro ⟨v119, v122⟩ w23 ⟨h0_, h1_, h2_, h3_⟩
              have n0_ : Aside0 (Kd.R (Kd.int .u8) 5 w23 w.heap.size (fun _ => True) v119 y118) := ⟨h0_⟩
              have n1_ : Aside0 (Kd.R (Kd.int .i64) 3 w23 w.heap.size (fun _ => True) v122 y121) := ⟨h1_⟩
              have n2_ : Aside0 (Kd.S k31 31 w23 w.heap.size (fun k_ => some k_ ≠ (v122 : Value).ownBlock) u9 x9_2) := ⟨h2_⟩
              have n3_ : Aside0 (Below w.heap.size w w23) := ⟨h3_⟩
              clear HO_9
              clear HB
              clear h0_ h1_ h2_ h3_
              have HO120 := n0_
              have HO123 := n1_
              have HO_9 := n2_
              have HB := n3_
              clear n0_ n1_ n2_ n3_
              have hHeld := trivial
              obtain ⟨Ao24, co24, eo24⟩ := Kd.R_slice HO123.out
              (first | subst eo24 | (injection eo24 with f1_ f2_ f3_; have f4_ := f1_.symm; have f5_ := f3_.symm; clear f1_ f2_ f3_; subst f4_; subst f5_))
              refine norm_ (a' := ?_) ?_ ?_
              rotate_left
              ·simp only [putAll, Act.put, lA, lZ, lS]
               rfl
              refine one_ (i := 11) (N := some 11) #[T,T,T,T,T,T,T,T,T,T,T,T,F] rfl rfl (one_of HT_.out (by kernel_rfl)) (by decide) (fun K hK => ?_)
              refine box_step ?hg (N := 11) ?hd (cs := #[.string (⟨#[]⟩ : ByteArray), .slice none 0 0]) (t := 31) ?hr ?_; (case hd => rfl); (case hg => rfl); (case hr => first | (go_simp; done) | (go_simp; rfl))
              intro gb124 hg w25 hbox hb
              have n0_ := Aside0.mk (Kd.S_below (Kd.S_elderB (by (with_reducible repeat first | apply sA | apply sN | apply sD); exact HO_9.out) gb124 (Nat.le_of_eq hg.symm)) hb)
              have n1_ := Aside0.mk (Kd.R_below (by (with_reducible repeat first | apply rA | apply rN | apply rD); exact HO120.out) hb)
              have n2_ := Aside0.mk (Kd.R_below (by (with_reducible repeat first | apply rA | apply rN | apply rD); exact HO123.out) hb)
              have n3_ := Aside0.mk (below_step (by repeat first | exact HB.out | apply bA | apply bN | apply bD) hb)
              have n4_ := Aside0.mk (hbox)
              have n5_ := Aside0.mk ((by rw [hg]; exact (below_size (by repeat first | exact HB.out | apply bA | apply bN | apply bD)) : w.heap.size ≤ gb124))
              have n6_ := Aside0.mk ((by rw [hg]; exact (below_size (by repeat first | exact HB.out | apply bA | apply bN | apply bD)) : w.heap.size ≤ gb124))
              clear HO_9
              clear HO120
              clear HO123
              clear HB
              have HO_9 := n0_
              have HO120 := n1_
              have HO123 := n2_
              have HB := n3_
              have BK124 := n4_
              have GW124 := n5_
              have GE124 := n6_
              clear n0_ n1_ n2_ n3_ n4_ n5_ n6_
              clear hb hbox hg
              refine hK.out _ _ trivial (fun hHeld => ?_)
              clear hK K
              refine norm_ (a' := ?_) ?_ ?_
              rotate_left
              ·show Act.put _ (some 11) _ = _
               simp only [Act.put, lA, lZ, lS, i64_w, i32_w]
               rfl
              exact norm_ (by simp only [putAll, Act.put, lA, lZ, lS]; first | done | rfl) (hJ3_4_9_11 (v119, .slice Ao24 y121.length co24, gb124) _ ⟨(by (with_reducible repeat first | apply rA | apply rN | apply rD); exact HO120.out), (by (with_reducible repeat first | apply rA | apply rN | apply rD); exact HO123.out), (by (with_reducible repeat first | apply sA | apply sN | apply sD); exact HO_9.out), (by (with_reducible repeat (first | refine blk_drewN ?_ _ | refine blk_drew ?_ | refine blk_alloc ?_ _)); exact BK124.out), GW124.out, GE124.out, (by repeat (first | (with_reducible first | exact HB.out | apply bA | apply bN | apply bD | refine below_set ?_ GE124.out) | exact HB.out))⟩)
            rintro ⟨v119, v122, gb124⟩ w24 ⟨h0_, h1_, h2_, h3_, h4_, h5_, h6_⟩
            have n0_ : Aside0 (Kd.R (Kd.int .u8) 5 w24 w.heap.size (fun _ => True) v119 y118) := ⟨h0_⟩
            have n1_ : Aside0 (Kd.R (Kd.int .i64) 3 w24 w.heap.size (fun _ => True) v122 y121) := ⟨h1_⟩
            have n2_ : Aside0 (Kd.S k31 31 w24 w.heap.size (fun k_ => some k_ ≠ (v122 : Value).ownBlock ∧ k_ ≠ gb124) u9 x9_2) := ⟨h2_⟩
            have n3_ : Aside0 (w24.heap[gb124]? = some (.cells #[.string (⟨#[]⟩ : ByteArray), .slice none 0 0] 31 (0, 0))) := ⟨h3_⟩
            have n4_ : Aside0 (w.heap.size ≤ gb124) := ⟨h4_⟩
            have n5_ : Aside0 (w.heap.size ≤ gb124) := ⟨h5_⟩
            have n6_ : Aside0 (Below w.heap.size w w24) := ⟨h6_⟩
            clear HO_9
            clear HB
            clear h0_ h1_ h2_ h3_ h4_ h5_ h6_
            have HO120 := n0_
            have HO123 := n1_
            have HO_9 := n2_
            have BK124 := n3_
            have GW124 := n4_
            have GE124 := n5_
            have HB := n6_
            clear n0_ n1_ n2_ n3_ n4_ n5_ n6_
            have hHeld := trivial
            obtain ⟨Ao25, co25, eo25⟩ := Kd.R_slice HO123.out
            (first | subst eo25 | (injection eo25 with f1_ f2_ f3_; have f4_ := f1_.symm; have f5_ := f3_.symm; clear f1_ f2_ f3_; subst f4_; subst f5_))
            refine norm_ (a' := ?_) ?_ ?_
            rotate_left
            ·simp only [putAll, Act.put, lA, lZ, lS]
             rfl
            refine one_ (i := 12) (N := none) #[T,T,T,T,T,T,T,T,T,T,T,T,T] rfl rfl (one_of HT_.out (by kernel_rfl)) (by decide) (fun K hK => ?_)
            have hs26 : w24.cell? ⟨gb124, 0, none⟩ = some (.string (⟨#[]⟩ : ByteArray)) := (blk_cell BK124.out 0).trans rfl
            have hfs26 := blk_frozen BK124.out 0
            have hs27 : w24.cell? ⟨gb124, 1, none⟩ = some (.slice none 0 0) := (blk_cell BK124.out 1).trans rfl
            have hfs27 := blk_frozen BK124.out 1
            refine skip_ (w1 := ?_) (by rfl) rfl ?_ ?_
            rotate_left
            ·go_simp
             rfl
            refine hK.out _ _ trivial (fun hHeld => ?_)
            clear hK K
            refine done_ (done_of HT_.out (by kernel_rfl)) ?_
            have n0_ : Aside0 (Kd.S k31 31 ((w24.setCell ⟨gb124, 0, none⟩ (.string (strOfNums y118))).setCell ⟨gb124, 1, none⟩ (.slice Ao25 y121.length co25)) w.heap.size (fun k_ => some k_ ≠ (.slice Ao25 y121.length co25 : Value).ownBlock ∧ k_ ≠ gb124) u9 x9_2) := ⟨by (with_reducible repeat first | apply sA | apply sN | apply sD); exact Kd.S_mono (Kd.S_far (p := ⟨gb124, 1, none⟩) (Kd.S_far (p := ⟨gb124, 0, none⟩) (Kd.S_mono HO_9.out (fun k_ hk => (⟨hk, hk.2⟩ : _ ∧ k_ ≠ gb124))) (fun _ hk => hk.2) (.string (strOfNums y118))) (fun _ hk => hk.2) (.slice Ao25 y121.length co25)) (fun _ hk => ⟨hk.1.1, hk.1.2⟩)⟩
            have n1_ : Aside0 (Kd.R (Kd.int .u8) 5 ((w24.setCell ⟨gb124, 0, none⟩ (.string (strOfNums y118))).setCell ⟨gb124, 1, none⟩ (.slice Ao25 y121.length co25)) w.heap.size (fun _ => True) v119 y118) := ⟨by (with_reducible repeat first | apply rA | apply rN | apply rD); exact Kd.R_mono (Kd.R_far (p := ⟨gb124, 1, none⟩) (Kd.R_far (p := ⟨gb124, 0, none⟩) (Kd.R_types HO120.out BK124.out (by decide)) (fun _ hk => hk.2) (.string (strOfNums y118))) (fun _ hk => hk.2) (.slice Ao25 y121.length co25)) (fun _ hk => trivial)⟩
            have n2_ : Aside0 (Kd.R (Kd.int .i64) 3 ((w24.setCell ⟨gb124, 0, none⟩ (.string (strOfNums y118))).setCell ⟨gb124, 1, none⟩ (.slice Ao25 y121.length co25)) w.heap.size (fun _ => True) (.slice Ao25 y121.length co25) y121) := ⟨by (with_reducible repeat first | apply rA | apply rN | apply rD); exact Kd.R_mono (Kd.R_far (p := ⟨gb124, 1, none⟩) (Kd.R_far (p := ⟨gb124, 0, none⟩) (Kd.R_types HO123.out BK124.out (by decide)) (fun _ hk => hk.2) (.string (strOfNums y118))) (fun _ hk => hk.2) (.slice Ao25 y121.length co25)) (fun _ hk => trivial)⟩
            have n3_ : Aside0 (((w24.setCell ⟨gb124, 0, none⟩ (.string (strOfNums y118))).setCell ⟨gb124, 1, none⟩ (.slice Ao25 y121.length co25)).heap[gb124]? = some (.cells #[.string (strOfNums y118), .slice Ao25 y121.length co25] 31 (0, 0))) := ⟨by (with_reducible repeat (first | refine blk_drewN ?_ _ | refine blk_drew ?_ | refine blk_alloc ?_ _)); refine blk_put (cs := #[.string (strOfNums y118), .slice none 0 0]) ?_ 1 _ rfl; (with_reducible repeat (first | refine blk_drewN ?_ _ | refine blk_drew ?_ | refine blk_alloc ?_ _)); refine blk_put (cs := #[.string (⟨#[]⟩ : ByteArray), .slice none 0 0]) ?_ 0 _ rfl; (with_reducible repeat (first | refine blk_drewN ?_ _ | refine blk_drew ?_ | refine blk_alloc ?_ _)); exact BK124.out⟩
            have n4_ : Aside0 (Below w.heap.size w ((w24.setCell ⟨gb124, 0, none⟩ (.string (strOfNums y118))).setCell ⟨gb124, 1, none⟩ (.slice Ao25 y121.length co25))) := ⟨by repeat (first | (with_reducible first | exact HB.out | apply bA | apply bN | apply bD | refine below_set ?_ GE124.out) | exact HB.out)⟩
            (try clear HO_9)
            (try clear HO120)
            (try clear HO123)
            (try clear BK124)
            (try clear HB)
            generalize ((w24.setCell ⟨gb124, 0, none⟩ (.string (strOfNums y118))).setCell ⟨gb124, 1, none⟩ (.slice Ao25 y121.length co25)) = w28 at n0_ n1_ n2_ n3_ n4_ ⊢
            have HO_9 := n0_
            have HO120 := n1_
            have HO123 := n2_
            have BK124 := n3_
            have HB := n4_
            clear n0_ n1_ n2_ n3_ n4_
            have hcz29_0 : w28.cell? ⟨gb124, 0, none⟩ = some (.string (strOfNums y118)) := (blk_cell BK124.out 0).trans rfl
            have hcz29_1 : w28.cell? ⟨gb124, 1, none⟩ = some (.slice Ao25 y121.length co25) := (blk_cell BK124.out 1).trans rfl
            have hfz29_0 := blk_frozen BK124.out 0
            have hfz29_1 := blk_frozen BK124.out 1
            try go_wp2_with (first | ((with_reducible refine gate_builtin (b := .append) (xs := #[.tmp 54, .tmp 56]) rfl ?_); (try (refine gate_guard (by rfl) ?_; dsimp only)); at_builtin; refine Kd.S_append k31 (w0 := w) w.heap.size rfl (.tmp 54) (.tmp 56) 22 31 (.agg #[(.string ⟨#[]⟩), (.slice none 0 0)]) 40 rfl Try.underlying22 info31 rfl (by decide) (by omega) u9 x9_2 (⟨strOfNums y118, y121⟩ : S31) [.string (strOfNums y118), .slice Ao25 y121.length co25] (fun k_ => k_ ≠ gb124) (fun k_ => some k_ = (.slice Ao25 y121.length co25 : Value).ownBlock) rfl rfl ?aP (fun k_ hk_ => ((Kd.R_mono (ok' := fun k_ => ((fun k_ => k_ ≠ gb124)) k_ ∧ some k_ ≠ (u9 : Value).ownBlock) (Kd.R_types (Kd.R_apart' (HO123.out) (Kd.S_typed HO_9.out) (by decide)) BK124.out (by decide)) (fun k_ hk => ⟨hk.2, hk.1.2⟩))).1 k_ hk_.symm) ?aF ?aO ?aB ?aS ?aL ?_; (case aP => exact k31_mkM _ _ _ (⟨strOfNums y118, y121⟩ : S31) (Kd.R_mono (Kd.R_tight rfl (Kd.R_mono (ok' := fun k_ => ((fun k_ => k_ ≠ gb124)) k_ ∧ some k_ ≠ (u9 : Value).ownBlock) (Kd.R_types (Kd.R_apart' (HO123.out) (Kd.S_typed HO_9.out) (by decide)) BK124.out (by decide)) (fun k_ hk => ⟨hk.2, hk.1.2⟩))) (fun _ h_ => h_))); (case aB => exact (by repeat (first | (with_reducible first | exact HB.out | apply bA | apply bN | apply bD | refine below_set ?_ GE124.out) | exact HB.out))); (case aF => exact (fun k_ hk => Kd.freshB (g := gb124) (o := .cells #[.string (strOfNums y118), .slice Ao25 y121.length co25] 31 (0, 0)) (by (with_reducible repeat (first | refine blk_drewN ?_ _ | refine blk_drew ?_ | refine blk_alloc ?_ _)); exact BK124.out) k_ hk)); (case aO => exact (by (with_reducible repeat first | apply sA | apply sN | apply sD); exact Kd.S_mono HO_9.out (fun k_ hk => ⟨hk.2, fun e_ => hk.1 e_⟩))); (case aS => exact (below_size (by repeat (first | (with_reducible first | exact HB.out | apply bA | apply bN | apply bD | refine below_set ?_ GE124.out) | exact HB.out)))); (case aL => have := LMc15.out; omega); intro v126 w30 ho hb hg hat; rw [← Ny125.out] at ho; have n0_ := Aside0.mk (Kd.R_over' (by (with_reducible repeat first | apply rA | apply rN | apply rD); exact HO120.out) (Kd.S_typed (by (with_reducible repeat first | apply sA | apply sN | apply sD); exact HO_9.out)) (by decide) hg); have n1_ := Aside0.mk (blk_grown (g := gb124) (o := .cells #[.string (strOfNums y118), .slice Ao25 y121.length co25] 31 (0, 0)) (by (with_reducible repeat (first | refine blk_drewN ?_ _ | refine blk_drew ?_ | refine blk_alloc ?_ _)); exact BK124.out) hg (Kd.S_away HO_9.out (fun _ hk => hk.2))); have n2_ := Aside0.mk (hb); have n3_ := Aside0.mk (ho); clear HO120; clear BK124; clear HB; clear HO_9; clear HO123; have HO120 := n0_; have BK124 := n1_; have HB := n2_; have HO127 := n3_; clear n0_ n1_ n2_ n3_; clear ho hb hg hat))
            go_roundg k2
            case measure => have := HJ4.out; have := HK2.out; omega
            case rel => exact ⟨(y125), (wrap64 (x10_2 + 1)), (by first | rfl | (simp; done) | (simp [*]; done)), H', ⟨by have := HJ4.out; have := HK2.out; omega⟩, ⟨by (with_reducible repeat first | apply sA | apply sN | apply sD); exact Kd.S_mono HO127.out (fun _ hk => trivial)⟩, ⟨by repeat (first | (with_reducible first | exact HB.out | apply bA | apply bN | apply bD | refine below_set ?_ GE124.out) | exact HB.out)⟩⟩
           ·rw [if_neg c15] at H
            exact absurd H (by simp)
          ·replace c14 := Bool.eq_false_iff.mpr c14
           subst c14
           have H1 : (if x9_2.length < 3518437208883 then (carlinglaw21_GraphRing.l0 k2 a0 false t117 (Int.tmod a1 a0) (x9_2 ++ [(⟨strOfNums y118, ([] : List Int)⟩ : S31)]) (wrap64 (x10_2 + 1))) else (none)) = some r := by rw [if_neg (show ¬ (false = true) by decide)] at H; exact H
           clear H
           have H := H1
           clear H1
           by_cases c31 : x9_2.length < 3518437208883
           ·rw [if_pos c31] at H
            have LMc31 := Aside0.mk c31
            clear c31
            obtain ⟨y128, hy128⟩ : ∃ y_ : List (S31), y_ = (x9_2 ++ [(⟨strOfNums y118, ([] : List Int)⟩ : S31)]) := ⟨_, rfl⟩
            replace H : (carlinglaw21_GraphRing.l0 k2 a0 false t117 (Int.tmod a1 a0) y128 (wrap64 (x10_2 + 1))) = some r := by first | (rw [hy128]; with_reducible exact H) | (have H2_ := (Option.bind_some _ _).symm.trans H; rw [hy128]; with_reducible exact H2_) | (have H2_ := (Option.bind_some _ _).symm.trans H; with_reducible exact H2_) | with_reducible exact H | (rw [hy128]; exact H) | exact H
            have Ny128 := Aside0.mk hy128
            clear hy128
            have H' := Aside0.mk H
            clear H
            try go_wp2
            have n0_ := Aside0.mk (sD HO_9.out)
            have n1_ := Aside0.mk (bD HB.out)
            clear HO_9
            clear HB
            have HO_9 := n0_
            have HB := n1_
            clear n0_ n1_
            refine start_ (n := 13) (S := fun w' => True) (ds := []) #[F,F,F,F,F,F,F,F,F,F,F,F,F] (by kernel_rfl) rfl rfl trivial (fun hHeld => ?_); refine with_tabW carlinglaw21_GraphRing.tab9 carlinglaw21_GraphRing.bits9 (fun HT_ HW_ => ?_)
            generalize wr.drew = w32 at HO_9 HB hHeld ⊢
            refine pure_ (i := 0) (N := some 35) (v := ?_) (a' := ?_) #[T,F,F,F,F,F,F,F,F,F,F,F,F] rfl rfl (any_of HT_.out (by kernel_rfl)) (fun _ _ _ h => h) (Or.inl ⟨by rfl, ?_⟩) ?_ ?_
            rotate_left
            ·intro w'
             go_simp
             with_reducible rfl
            rotate_left
            ·simp only [Act.put, lA, lZ, lS, i64_w, i32_w]
             rfl
            refine pure_ (i := 1) (N := some 36) (v := ?_) (a' := ?_) #[T,T,F,F,F,F,F,F,F,F,F,F,F] rfl rfl (any_of HT_.out (by kernel_rfl)) (fun _ _ _ h => h) (Or.inl ⟨by rfl, ?_⟩) ?_ ?_
            rotate_left
            ·intro w'
             go_simp
             with_reducible rfl
            rotate_left
            ·simp only [Act.put, lA, lZ, lS, i64_w, i32_w]
             rfl
            refine pure_ (i := 2) (N := some 37) (v := ?_) (a' := ?_) #[T,T,T,F,F,F,F,F,F,F,F,F,F] rfl rfl (any_of HT_.out (by kernel_rfl)) (fun _ _ _ h => h) (Or.inl ⟨by rfl, ?_⟩) ?_ ?_
            rotate_left
            ·intro w'
             go_simp
             with_reducible rfl
            rotate_left
            ·simp only [Act.put, lA, lZ, lS, i64_w, i32_w]
             rfl
            refine pure_ (i := 5) (N := some 40) (v := ?_) (a' := ?_) #[T,T,T,F,F,T,F,F,F,F,F,F,F] rfl rfl (any_of HT_.out (by kernel_rfl)) (fun _ _ _ h => h) (Or.inl ⟨by rfl, ?_⟩) ?_ ?_
            rotate_left
            ·intro w'
             go_simp
             with_reducible rfl
            rotate_left
            ·simp only [Act.put, lA, lZ, lS, i64_w, i32_w]
             rfl
            refine pure_ (i := 6) (N := some 41) (v := ?_) (a' := ?_) #[T,T,T,F,F,T,T,F,F,F,F,F,F] rfl rfl (any_of HT_.out (by kernel_rfl)) (fun _ _ _ h => h) (Or.inl ⟨by rfl, ?_⟩) ?_ ?_
            rotate_left
            ·intro w'
             go_simp
             with_reducible rfl
            rotate_left
            ·simp only [Act.put, lA, lZ, lS, i64_w, i32_w]
             rfl
            refine pure_ (i := 7) (N := some 42) (v := ?_) (a' := ?_) #[T,T,T,F,F,T,T,T,F,F,F,F,F] rfl rfl (any_of HT_.out (by kernel_rfl)) (fun _ _ _ h => h) (Or.inl ⟨by rfl, ?_⟩) ?_ ?_
            rotate_left
            ·intro w'
             go_simp
             with_reducible rfl
            rotate_left
            ·simp only [Act.put, lA, lZ, lS, i64_w, i32_w]
             rfl
            refine pure_ (i := 8) (N := some 43) (v := ?_) (a' := ?_) #[T,T,T,F,F,T,T,T,T,F,F,F,F] rfl rfl (any_of HT_.out (by kernel_rfl)) (fun _ _ _ h => h) (Or.inl ⟨by rfl, ?_⟩) ?_ ?_
            rotate_left
            ·intro w'
             go_simp
             with_reducible rfl
            rotate_left
            ·simp only [Act.put, lA, lZ, lS, i64_w, i32_w]
             rfl
            refine join_ (σ := Value × Value × Nat) 1 #[T,T,T,T,T,T,T,T,T,T,T,T,F] (fun s_ => [(38, s_.1), (39, .string (strOfNums y118)), (44, s_.2.1), (11, .pointer (some ⟨s_.2.2, 0, none⟩)), (45, .agg #[.string (strOfNums y118), s_.2.1])]) (fun s_ w' => (Kd.R (Kd.int .u8) 5 w' w.heap.size (fun _ => True) s_.1 y118) ∧ (Kd.R (Kd.int .i64) 3 w' w.heap.size (fun _ => True) s_.2.1 y121) ∧ (Kd.S k31 31 w' w.heap.size (fun k_ => some k_ ≠ (s_.2.1 : Value).ownBlock ∧ k_ ≠ s_.2.2) u9 x9_2) ∧ (w'.heap[s_.2.2]? = some (.cells #[.string (⟨#[]⟩ : ByteArray), .slice none 0 0] 31 (0, 0))) ∧ (w.heap.size ≤ s_.2.2) ∧ (w.heap.size ≤ s_.2.2) ∧ (Below w.heap.size w w')) ?_ ?_
            rotate_left
            ·intro hJ3_4_9_11
             refine join_ (σ := Value × Value) 2 #[T,T,T,T,T,T,T,T,T,T,T,F,F] (fun s_ => [(38, s_.1), (39, .string (strOfNums y118)), (44, s_.2), (45, .agg #[.string (strOfNums y118), s_.2])]) (fun s_ w' => (Kd.R (Kd.int .u8) 5 w' w.heap.size (fun _ => True) s_.1 y118) ∧ (Kd.R (Kd.int .i64) 3 w' w.heap.size (fun _ => True) s_.2 y121) ∧ (Kd.S k31 31 w' w.heap.size (fun k_ => some k_ ≠ (s_.2 : Value).ownBlock) u9 x9_2) ∧ (Below w.heap.size w w')) ?_ ?_
             rotate_left
             ·intro hJ3_4_9
              refine join_ (σ := Value × Nat) 3 #[T,T,T,T,T,T,T,T,T,F,F,T,F] (fun s_ => [(38, s_.1), (39, .string (strOfNums y118)), (11, .pointer (some ⟨s_.2, 0, none⟩))]) (fun s_ w' => (Kd.R (Kd.int .u8) 5 w' w.heap.size (fun _ => True) s_.1 y118) ∧ (Kd.S k31 31 w' w.heap.size (fun k_ => k_ ≠ s_.2) u9 x9_2) ∧ (w'.heap[s_.2]? = some (.cells #[.string (⟨#[]⟩ : ByteArray), .slice none 0 0] 31 (0, 0))) ∧ (w.heap.size ≤ s_.2) ∧ (w.heap.size ≤ s_.2) ∧ (Below w.heap.size w w')) ?_ ?_
              rotate_left
              ·intro hJ3_4_11
               refine join_ (σ := Value × Value × Nat) 3 #[T,T,T,T,F,T,T,T,T,T,F,T,F] (fun s_ => [(38, s_.1), (44, s_.2.1), (11, .pointer (some ⟨s_.2.2, 0, none⟩))]) (fun s_ w' => (Kd.R (Kd.int .u8) 5 w' w.heap.size (fun _ => True) s_.1 y118) ∧ (Kd.R (Kd.int .i64) 3 w' w.heap.size (fun _ => True) s_.2.1 y121) ∧ (Kd.S k31 31 w' w.heap.size (fun k_ => some k_ ≠ (s_.2.1 : Value).ownBlock ∧ k_ ≠ s_.2.2) u9 x9_2) ∧ (w'.heap[s_.2.2]? = some (.cells #[.string (⟨#[]⟩ : ByteArray), .slice none 0 0] 31 (0, 0))) ∧ (w.heap.size ≤ s_.2.2) ∧ (w.heap.size ≤ s_.2.2) ∧ (Below w.heap.size w w')) ?_ ?_
               rotate_left
               ·intro hJ3_9_11
                refine join_ (σ := Value) 4 #[T,T,T,T,T,T,T,T,T,F,F,F,F] (fun s_ => [(38, s_), (39, .string (strOfNums y118))]) (fun s_ w' => (Kd.R (Kd.int .u8) 5 w' w.heap.size (fun _ => True) s_ y118) ∧ (Kd.S k31 31 w' w.heap.size (fun _ => True) u9 x9_2) ∧ (Below w.heap.size w w')) ?_ ?_
                rotate_left
                ·intro hJ3_4
                 refine join_ (σ := Value × Value) 4 #[T,T,T,T,F,T,T,T,T,T,F,F,F] (fun s_ => [(38, s_.1), (44, s_.2)]) (fun s_ w' => (Kd.R (Kd.int .u8) 5 w' w.heap.size (fun _ => True) s_.1 y118) ∧ (Kd.R (Kd.int .i64) 3 w' w.heap.size (fun _ => True) s_.2 y121) ∧ (Kd.S k31 31 w' w.heap.size (fun k_ => some k_ ≠ (s_.2 : Value).ownBlock) u9 x9_2) ∧ (Below w.heap.size w w')) ?_ ?_
                 rotate_left
                 ·intro hJ3_9
                  refine join_ (σ := Value × Nat) 4 #[T,T,T,T,F,T,T,T,T,F,F,T,F] (fun s_ => [(38, s_.1), (11, .pointer (some ⟨s_.2, 0, none⟩))]) (fun s_ w' => (Kd.R (Kd.int .u8) 5 w' w.heap.size (fun _ => True) s_.1 y118) ∧ (Kd.S k31 31 w' w.heap.size (fun k_ => k_ ≠ s_.2) u9 x9_2) ∧ (w'.heap[s_.2]? = some (.cells #[.string (⟨#[]⟩ : ByteArray), .slice none 0 0] 31 (0, 0))) ∧ (w.heap.size ≤ s_.2) ∧ (w.heap.size ≤ s_.2) ∧ (Below w.heap.size w w')) ?_ ?_
                  rotate_left
                  ·intro hJ3_11
                   refine join_ (σ := Value × Nat) 4 #[T,T,T,F,F,T,T,T,T,T,F,T,F] (fun s_ => [(44, s_.1), (11, .pointer (some ⟨s_.2, 0, none⟩))]) (fun s_ w' => (Kd.R (Kd.int .i64) 3 w' w.heap.size (fun _ => True) s_.1 y121) ∧ (Kd.S k31 31 w' w.heap.size (fun k_ => some k_ ≠ (s_.1 : Value).ownBlock ∧ k_ ≠ s_.2) u9 x9_2) ∧ (w'.heap[s_.2]? = some (.cells #[.string (⟨#[]⟩ : ByteArray), .slice none 0 0] 31 (0, 0))) ∧ (w.heap.size ≤ s_.2) ∧ (w.heap.size ≤ s_.2) ∧ (Below w.heap.size w w')) ?_ ?_
                   rotate_left
                   ·intro hJ9_11
                    refine join_ (σ := Value) 5 #[T,T,T,T,F,T,T,T,T,F,F,F,F] (fun s_ => [(38, s_)]) (fun s_ w' => (Kd.R (Kd.int .u8) 5 w' w.heap.size (fun _ => True) s_ y118) ∧ (Kd.S k31 31 w' w.heap.size (fun _ => True) u9 x9_2) ∧ (Below w.heap.size w w')) ?_ ?_
                    rotate_left
                    ·intro hJ3
                     refine join_ (σ := Value) 5 #[T,T,T,F,F,T,T,T,T,T,F,F,F] (fun s_ => [(44, s_)]) (fun s_ w' => (Kd.R (Kd.int .i64) 3 w' w.heap.size (fun _ => True) s_ y121) ∧ (Kd.S k31 31 w' w.heap.size (fun k_ => some k_ ≠ (s_ : Value).ownBlock) u9 x9_2) ∧ (Below w.heap.size w w')) ?_ ?_
                     rotate_left
                     ·intro hJ9
                      refine join_ (σ := Nat) 5 #[T,T,T,F,F,T,T,T,T,F,F,T,F] (fun s_ => [(11, .pointer (some ⟨s_, 0, none⟩))]) (fun s_ w' => (Kd.S k31 31 w' w.heap.size (fun k_ => k_ ≠ s_) u9 x9_2) ∧ (w'.heap[s_]? = some (.cells #[.string (⟨#[]⟩ : ByteArray), .slice none 0 0] 31 (0, 0))) ∧ (w.heap.size ≤ s_) ∧ (w.heap.size ≤ s_) ∧ (Below w.heap.size w w')) ?_ ?_
                      rotate_left
                      ·intro hJ11
                       refine three_ (i := 3) (j := 9) (k := 11) (Ni := some 38) (Nj := some 44) (Nk := some 11) #[T,T,T,T,F,T,T,T,T,F,F,F,F] #[T,T,T,F,F,T,T,T,T,T,F,F,F] #[T,T,T,F,F,T,T,T,T,F,F,T,F] rfl rfl rfl rfl rfl rfl (three_of HT_.out (by kernel_rfl)) (by decide) (by decide) (by decide) (fun K hK => ?_) (fun K hK => ?_) (fun K hK => ?_)
                       ·skip
                        refine Kd.R_lit_step (Kd.int .u8) _ 5 ?hg (N := 38) ?hd (xs := ([(wrap64 (97 + x10_2)) % 256] : List Int)) (inner := [.int .u8 ((wrap64 (97 + x10_2)) % 256)]) (ok := fun _ => True) (okp := fun _ => True) ?hr ?hp (fun _ hk => hk) trivial (Below.refl _ _) (Nat.le_refl _) (by simp) ?_; (case hd => rfl); (case hg => rfl); (case hr => first | (go_simp; done) | (go_simp; rfl)); (case hp => exact (Reps.one (show Kd.M (Kd.int .u8) _ _ _ ((wrap64 (97 + x10_2)) % 256) [.int .u8 ((wrap64 (97 + x10_2)) % 256)] from rfl) (Reps.none _ _)))
                        intro v119 w33 ho34 hb hg_ hnew_
                        clear hg_ hnew_
                        (first | rw [← Ny118.out] at ho34 | (simp only [Int.reduceToNat] at ho34; rw [← Ny118.out] at ho34))
                        have n0_ := Aside0.mk (Kd.S_below (by (with_reducible repeat first | apply sA | apply sN | apply sD); exact HO_9.out) hb)
                        have n1_ := Aside0.mk (Kd.R_lower ho34 (below_size (by repeat first | exact HB.out | apply bA | apply bN | apply bD)))
                        have n2_ := Aside0.mk (below_step (by repeat first | exact HB.out | apply bA | apply bN | apply bD) hb)
                        clear HO_9
                        clear HB
                        have HO_9 := n0_
                        have HO120 := n1_
                        have HB := n2_
                        clear n0_ n1_ n2_
                        clear hb ho34
                        refine hK.out _ _ trivial (fun hHeld => ?_)
                        clear hK K
                        refine norm_ (a' := ?_) ?_ ?_
                        rotate_left
                        ·show Act.put _ (some 38) _ = _
                         simp only [Act.put, lA, lZ, lS, i64_w, i32_w]
                         rfl
                        exact norm_ (by simp only [putAll, Act.put, lA, lZ, lS]; first | done | rfl) (hJ3 (v119) _ ⟨(by (with_reducible repeat first | apply rA | apply rN | apply rD); exact HO120.out), (by (with_reducible repeat first | apply sA | apply sN | apply sD); exact HO_9.out), (by repeat first | exact HB.out | apply bA | apply bN | apply bD)⟩)
                       ·skip
                        refine Kd.R_lit_step (Kd.int .i64) _ 3 ?hg (N := 44) ?hd (xs := ([Int.tmod (wrap64 (x10_2 + 1)) a0] : List Int)) (inner := [.int .i64 (Int.tmod (wrap64 (x10_2 + 1)) a0)]) (ok := fun _ => True) (okp := fun _ => True) ?hr ?hp (fun _ hk => hk) trivial (Below.refl _ _) (Nat.le_refl _) (by simp) ?_; (case hd => rfl); (case hg => rfl); (case hr => first | (go_simp; done) | (go_simp; rfl)); (case hp => exact (Reps.one (show Kd.M (Kd.int .i64) _ _ _ (Int.tmod (wrap64 (x10_2 + 1)) a0) [.int .i64 (Int.tmod (wrap64 (x10_2 + 1)) a0)] from rfl) (Reps.none _ _)))
                        intro v122 w33 ho34 hb hg_ hnew_
                        clear hg_ hnew_
                        (first | rw [← Ny121.out] at ho34 | (simp only [Int.reduceToNat] at ho34; rw [← Ny121.out] at ho34))
                        have n0_ := Aside0.mk (Kd.S_elder' (by (with_reducible repeat first | apply sA | apply sN | apply sD); exact HO_9.out) (Kd.R_base ho34) hb)
                        have n1_ := Aside0.mk (Kd.R_lower ho34 (below_size (by repeat first | exact HB.out | apply bA | apply bN | apply bD)))
                        have n2_ := Aside0.mk (below_step (by repeat first | exact HB.out | apply bA | apply bN | apply bD) hb)
                        clear HO_9
                        clear HB
                        have HO_9 := n0_
                        have HO123 := n1_
                        have HB := n2_
                        clear n0_ n1_ n2_
                        clear hb ho34
                        refine hK.out _ _ trivial (fun hHeld => ?_)
                        clear hK K
                        refine norm_ (a' := ?_) ?_ ?_
                        rotate_left
                        ·show Act.put _ (some 44) _ = _
                         simp only [Act.put, lA, lZ, lS, i64_w, i32_w]
                         rfl
                        exact norm_ (by simp only [putAll, Act.put, lA, lZ, lS]; first | done | rfl) (hJ9 (v122) _ ⟨(by (with_reducible repeat first | apply rA | apply rN | apply rD); exact HO123.out), (by (with_reducible repeat first | apply sA | apply sN | apply sD); exact Kd.S_mono HO_9.out (fun _ hk => hk.2)), (by repeat first | exact HB.out | apply bA | apply bN | apply bD)⟩)
                       ·skip
                        refine box_step ?hg (N := 11) ?hd (cs := #[.string (⟨#[]⟩ : ByteArray), .slice none 0 0]) (t := 31) ?hr ?_; (case hd => rfl); (case hg => rfl); (case hr => first | (go_simp; done) | (go_simp; rfl))
                        intro gb124 hg w33 hbox hb
                        have n0_ := Aside0.mk (Kd.S_below (Kd.S_elderB (by (with_reducible repeat first | apply sA | apply sN | apply sD); exact HO_9.out) gb124 (Nat.le_of_eq hg.symm)) hb)
                        have n1_ := Aside0.mk (below_step (by repeat first | exact HB.out | apply bA | apply bN | apply bD) hb)
                        have n2_ := Aside0.mk (hbox)
                        have n3_ := Aside0.mk ((by rw [hg]; exact (below_size (by repeat first | exact HB.out | apply bA | apply bN | apply bD)) : w.heap.size ≤ gb124))
                        have n4_ := Aside0.mk ((by rw [hg]; exact (below_size (by repeat first | exact HB.out | apply bA | apply bN | apply bD)) : w.heap.size ≤ gb124))
                        clear HO_9
                        clear HB
                        have HO_9 := n0_
                        have HB := n1_
                        have BK124 := n2_
                        have GW124 := n3_
                        have GE124 := n4_
                        clear n0_ n1_ n2_ n3_ n4_
                        clear hb hbox hg
                        refine hK.out _ _ trivial (fun hHeld => ?_)
                        clear hK K
                        refine norm_ (a' := ?_) ?_ ?_
                        rotate_left
                        ·show Act.put _ (some 11) _ = _
                         simp only [Act.put, lA, lZ, lS, i64_w, i32_w]
                         rfl
                        exact norm_ (by simp only [putAll, Act.put, lA, lZ, lS]; first | done | rfl) (hJ11 (gb124) _ ⟨(by (with_reducible repeat first | apply sA | apply sN | apply sD); exact Kd.S_mono HO_9.out (fun _ hk => hk.2)), (by (with_reducible repeat (first | refine blk_drewN ?_ _ | refine blk_drew ?_ | refine blk_alloc ?_ _)); exact BK124.out), GW124.out, GE124.out, (by repeat (first | (with_reducible first | exact HB.out | apply bA | apply bN | apply bD | refine below_set ?_ GE124.out) | exact HB.out))⟩)
                      ·skip
                       rintro gb124 w34 ⟨h0_, h1_, h2_, h3_, h4_⟩
                       have n0_ : Aside0 (Kd.S k31 31 w34 w.heap.size (fun k_ => k_ ≠ gb124) u9 x9_2) := ⟨h0_⟩
                       have n1_ : Aside0 (w34.heap[gb124]? = some (.cells #[.string (⟨#[]⟩ : ByteArray), .slice none 0 0] 31 (0, 0))) := ⟨h1_⟩
                       have n2_ : Aside0 (w.heap.size ≤ gb124) := ⟨h2_⟩
                       have n3_ : Aside0 (w.heap.size ≤ gb124) := ⟨h3_⟩
                       have n4_ : Aside0 (Below w.heap.size w w34) := ⟨h4_⟩
                       clear HO_9
                       clear HB
                       clear h0_ h1_ h2_ h3_ h4_
                       have HO_9 := n0_
                       have BK124 := n1_
                       have GW124 := n2_
                       have GE124 := n3_
                       have HB := n4_
                       clear n0_ n1_ n2_ n3_ n4_
                       have hHeld := trivial
                       refine norm_ (a' := ?_) ?_ ?_
                       rotate_left
                       ·simp only [putAll, Act.put, lA, lZ, lS]
                        rfl
                       refine two_ (i := 3) (j := 9) (Ni := some 38) (Nj := some 44) #[T,T,T,T,F,T,T,T,T,F,F,T,F] #[T,T,T,F,F,T,T,T,T,T,F,T,F] rfl rfl rfl rfl (two_of HT_.out (by kernel_rfl)) (by decide) (by decide) (fun K hK => ?_) (fun K hK => ?_)
                       ·skip
                        refine Kd.R_lit_step (Kd.int .u8) _ 5 ?hg (N := 38) ?hd (xs := ([(wrap64 (97 + x10_2)) % 256] : List Int)) (inner := [.int .u8 ((wrap64 (97 + x10_2)) % 256)]) (ok := fun _ => True) (okp := fun _ => True) ?hr ?hp (fun _ hk => hk) trivial (Below.refl _ _) (Nat.le_refl _) (by simp) ?_; (case hd => rfl); (case hg => rfl); (case hr => first | (go_simp; done) | (go_simp; rfl)); (case hp => exact (Reps.one (show Kd.M (Kd.int .u8) _ _ _ ((wrap64 (97 + x10_2)) % 256) [.int .u8 ((wrap64 (97 + x10_2)) % 256)] from rfl) (Reps.none _ _)))
                        intro v119 w35 ho36 hb hg_ hnew_
                        clear hg_ hnew_
                        (first | rw [← Ny118.out] at ho36 | (simp only [Int.reduceToNat] at ho36; rw [← Ny118.out] at ho36))
                        have n0_ := Aside0.mk (Kd.S_below (by (with_reducible repeat first | apply sA | apply sN | apply sD); exact HO_9.out) hb)
                        have n1_ := Aside0.mk (Kd.R_lower ho36 (below_size (by repeat (first | (with_reducible first | exact HB.out | apply bA | apply bN | apply bD | refine below_set ?_ GE124.out) | exact HB.out))))
                        have n2_ := Aside0.mk (blk_below (g := gb124) (o := .cells #[.string (⟨#[]⟩ : ByteArray), .slice none 0 0] 31 (0, 0)) (by (with_reducible repeat (first | refine blk_drewN ?_ _ | refine blk_drew ?_ | refine blk_alloc ?_ _)); exact BK124.out) hb)
                        have n3_ := Aside0.mk (below_step (by repeat (first | (with_reducible first | exact HB.out | apply bA | apply bN | apply bD | refine below_set ?_ GE124.out) | exact HB.out)) hb)
                        clear HO_9
                        clear BK124
                        clear HB
                        have HO_9 := n0_
                        have HO120 := n1_
                        have BK124 := n2_
                        have HB := n3_
                        clear n0_ n1_ n2_ n3_
                        clear hb ho36
                        refine hK.out _ _ trivial (fun hHeld => ?_)
                        clear hK K
                        refine norm_ (a' := ?_) ?_ ?_
                        rotate_left
                        ·show Act.put _ (some 38) _ = _
                         simp only [Act.put, lA, lZ, lS, i64_w, i32_w]
                         rfl
                        exact norm_ (by simp only [putAll, Act.put, lA, lZ, lS]; first | done | rfl) (hJ3_11 (v119, gb124) _ ⟨(by (with_reducible repeat first | apply rA | apply rN | apply rD); exact HO120.out), (by (with_reducible repeat first | apply sA | apply sN | apply sD); exact HO_9.out), (by (with_reducible repeat (first | refine blk_drewN ?_ _ | refine blk_drew ?_ | refine blk_alloc ?_ _)); exact BK124.out), GW124.out, GE124.out, (by repeat (first | (with_reducible first | exact HB.out | apply bA | apply bN | apply bD | refine below_set ?_ GE124.out) | exact HB.out))⟩)
                       ·skip
                        refine Kd.R_lit_step (Kd.int .i64) _ 3 ?hg (N := 44) ?hd (xs := ([Int.tmod (wrap64 (x10_2 + 1)) a0] : List Int)) (inner := [.int .i64 (Int.tmod (wrap64 (x10_2 + 1)) a0)]) (ok := fun _ => True) (okp := fun _ => True) ?hr ?hp (fun _ hk => hk) trivial (Below.refl _ _) (Nat.le_refl _) (by simp) ?_; (case hd => rfl); (case hg => rfl); (case hr => first | (go_simp; done) | (go_simp; rfl)); (case hp => exact (Reps.one (show Kd.M (Kd.int .i64) _ _ _ (Int.tmod (wrap64 (x10_2 + 1)) a0) [.int .i64 (Int.tmod (wrap64 (x10_2 + 1)) a0)] from rfl) (Reps.none _ _)))
                        intro v122 w35 ho36 hb hg_ hnew_
                        clear hg_ hnew_
                        (first | rw [← Ny121.out] at ho36 | (simp only [Int.reduceToNat] at ho36; rw [← Ny121.out] at ho36))
                        have n0_ := Aside0.mk (Kd.S_elder' (by (with_reducible repeat first | apply sA | apply sN | apply sD); exact HO_9.out) (Kd.R_base ho36) hb)
                        have n1_ := Aside0.mk (Kd.R_lower ho36 (below_size (by repeat (first | (with_reducible first | exact HB.out | apply bA | apply bN | apply bD | refine below_set ?_ GE124.out) | exact HB.out))))
                        have n2_ := Aside0.mk (blk_below (g := gb124) (o := .cells #[.string (⟨#[]⟩ : ByteArray), .slice none 0 0] 31 (0, 0)) (by (with_reducible repeat (first | refine blk_drewN ?_ _ | refine blk_drew ?_ | refine blk_alloc ?_ _)); exact BK124.out) hb)
                        have n3_ := Aside0.mk (below_step (by repeat (first | (with_reducible first | exact HB.out | apply bA | apply bN | apply bD | refine below_set ?_ GE124.out) | exact HB.out)) hb)
                        clear HO_9
                        clear BK124
                        clear HB
                        have HO_9 := n0_
                        have HO123 := n1_
                        have BK124 := n2_
                        have HB := n3_
                        clear n0_ n1_ n2_ n3_
                        clear hb ho36
                        refine hK.out _ _ trivial (fun hHeld => ?_)
                        clear hK K
                        refine norm_ (a' := ?_) ?_ ?_
                        rotate_left
                        ·show Act.put _ (some 44) _ = _
                         simp only [Act.put, lA, lZ, lS, i64_w, i32_w]
                         rfl
                        exact norm_ (by simp only [putAll, Act.put, lA, lZ, lS]; first | done | rfl) (hJ9_11 (v122, gb124) _ ⟨(by (with_reducible repeat first | apply rA | apply rN | apply rD); exact HO123.out), (by (with_reducible repeat first | apply sA | apply sN | apply sD); exact Kd.S_mono HO_9.out (fun _ hk => ⟨hk.2, hk.1⟩)), (by (with_reducible repeat (first | refine blk_drewN ?_ _ | refine blk_drew ?_ | refine blk_alloc ?_ _)); exact BK124.out), GW124.out, GE124.out, (by repeat (first | (with_reducible first | exact HB.out | apply bA | apply bN | apply bD | refine below_set ?_ GE124.out) | exact HB.out))⟩)
                     ·skip
                      rintro v122 w35 ⟨h0_, h1_, h2_⟩
                      have n0_ : Aside0 (Kd.R (Kd.int .i64) 3 w35 w.heap.size (fun _ => True) v122 y121) := ⟨h0_⟩
                      have n1_ : Aside0 (Kd.S k31 31 w35 w.heap.size (fun k_ => some k_ ≠ (v122 : Value).ownBlock) u9 x9_2) := ⟨h1_⟩
                      have n2_ : Aside0 (Below w.heap.size w w35) := ⟨h2_⟩
                      clear HO_9
                      clear HB
                      clear h0_ h1_ h2_
                      have HO123 := n0_
                      have HO_9 := n1_
                      have HB := n2_
                      clear n0_ n1_ n2_
                      have hHeld := trivial
                      refine norm_ (a' := ?_) ?_ ?_
                      rotate_left
                      ·simp only [putAll, Act.put, lA, lZ, lS]
                       rfl
                      refine two_ (i := 3) (j := 11) (Ni := some 38) (Nj := some 11) #[T,T,T,T,F,T,T,T,T,T,F,F,F] #[T,T,T,F,F,T,T,T,T,T,F,T,F] rfl rfl rfl rfl (two_of HT_.out (by kernel_rfl)) (by decide) (by decide) (fun K hK => ?_) (fun K hK => ?_)
                      ·skip
                       refine Kd.R_lit_step (Kd.int .u8) _ 5 ?hg (N := 38) ?hd (xs := ([(wrap64 (97 + x10_2)) % 256] : List Int)) (inner := [.int .u8 ((wrap64 (97 + x10_2)) % 256)]) (ok := fun _ => True) (okp := fun _ => True) ?hr ?hp (fun _ hk => hk) trivial (Below.refl _ _) (Nat.le_refl _) (by simp) ?_; (case hd => rfl); (case hg => rfl); (case hr => first | (go_simp; done) | (go_simp; rfl)); (case hp => exact (Reps.one (show Kd.M (Kd.int .u8) _ _ _ ((wrap64 (97 + x10_2)) % 256) [.int .u8 ((wrap64 (97 + x10_2)) % 256)] from rfl) (Reps.none _ _)))
                       intro v119 w36 ho37 hb hg_ hnew_
                       clear hg_ hnew_
                       (first | rw [← Ny118.out] at ho37 | (simp only [Int.reduceToNat] at ho37; rw [← Ny118.out] at ho37))
                       have n0_ := Aside0.mk (Kd.S_below (by (with_reducible repeat first | apply sA | apply sN | apply sD); exact HO_9.out) hb)
                       have n1_ := Aside0.mk (Kd.R_below (by (with_reducible repeat first | apply rA | apply rN | apply rD); exact HO123.out) hb)
                       have n2_ := Aside0.mk (Kd.R_lower ho37 (below_size (by repeat first | exact HB.out | apply bA | apply bN | apply bD)))
                       have n3_ := Aside0.mk (below_step (by repeat first | exact HB.out | apply bA | apply bN | apply bD) hb)
                       clear HO_9
                       clear HO123
                       clear HB
                       have HO_9 := n0_
                       have HO123 := n1_
                       have HO120 := n2_
                       have HB := n3_
                       clear n0_ n1_ n2_ n3_
                       clear hb ho37
                       refine hK.out _ _ trivial (fun hHeld => ?_)
                       clear hK K
                       refine norm_ (a' := ?_) ?_ ?_
                       rotate_left
                       ·show Act.put _ (some 38) _ = _
                        simp only [Act.put, lA, lZ, lS, i64_w, i32_w]
                        rfl
                       exact norm_ (by simp only [putAll, Act.put, lA, lZ, lS]; first | done | rfl) (hJ3_9 (v119, v122) _ ⟨(by (with_reducible repeat first | apply rA | apply rN | apply rD); exact HO120.out), (by (with_reducible repeat first | apply rA | apply rN | apply rD); exact HO123.out), (by (with_reducible repeat first | apply sA | apply sN | apply sD); exact HO_9.out), (by repeat first | exact HB.out | apply bA | apply bN | apply bD)⟩)
                      ·skip
                       refine box_step ?hg (N := 11) ?hd (cs := #[.string (⟨#[]⟩ : ByteArray), .slice none 0 0]) (t := 31) ?hr ?_; (case hd => rfl); (case hg => rfl); (case hr => first | (go_simp; done) | (go_simp; rfl))
                       intro gb124 hg w36 hbox hb
                       have n0_ := Aside0.mk (Kd.S_below (Kd.S_elderB (by (with_reducible repeat first | apply sA | apply sN | apply sD); exact HO_9.out) gb124 (Nat.le_of_eq hg.symm)) hb)
                       have n1_ := Aside0.mk (Kd.R_below (by (with_reducible repeat first | apply rA | apply rN | apply rD); exact HO123.out) hb)
                       have n2_ := Aside0.mk (below_step (by repeat first | exact HB.out | apply bA | apply bN | apply bD) hb)
                       have n3_ := Aside0.mk (hbox)
                       have n4_ := Aside0.mk ((by rw [hg]; exact (below_size (by repeat first | exact HB.out | apply bA | apply bN | apply bD)) : w.heap.size ≤ gb124))
                       have n5_ := Aside0.mk ((by rw [hg]; exact (below_size (by repeat first | exact HB.out | apply bA | apply bN | apply bD)) : w.heap.size ≤ gb124))
                       clear HO_9
                       clear HO123
                       clear HB
                       have HO_9 := n0_
                       have HO123 := n1_
                       have HB := n2_
                       have BK124 := n3_
                       have GW124 := n4_
                       have GE124 := n5_
                       clear n0_ n1_ n2_ n3_ n4_ n5_
                       clear hb hbox hg
                       refine hK.out _ _ trivial (fun hHeld => ?_)
                       clear hK K
                       refine norm_ (a' := ?_) ?_ ?_
                       rotate_left
                       ·show Act.put _ (some 11) _ = _
                        simp only [Act.put, lA, lZ, lS, i64_w, i32_w]
                        rfl
                       exact norm_ (by simp only [putAll, Act.put, lA, lZ, lS]; first | done | rfl) (hJ9_11 (v122, gb124) _ ⟨(by (with_reducible repeat first | apply rA | apply rN | apply rD); exact HO123.out), (by (with_reducible repeat first | apply sA | apply sN | apply sD); exact HO_9.out), (by (with_reducible repeat (first | refine blk_drewN ?_ _ | refine blk_drew ?_ | refine blk_alloc ?_ _)); exact BK124.out), GW124.out, GE124.out, (by repeat (first | (with_reducible first | exact HB.out | apply bA | apply bN | apply bD | refine below_set ?_ GE124.out) | exact HB.out))⟩)
                    ·skip
                     rintro v119 w35 ⟨h0_, h1_, h2_⟩
                     have n0_ : Aside0 (Kd.R (Kd.int .u8) 5 w35 w.heap.size (fun _ => True) v119 y118) := ⟨h0_⟩
                     have n1_ : Aside0 (Kd.S k31 31 w35 w.heap.size (fun _ => True) u9 x9_2) := ⟨h1_⟩
                     have n2_ : Aside0 (Below w.heap.size w w35) := ⟨h2_⟩
                     clear HO_9
                     clear HB
                     clear h0_ h1_ h2_
                     have HO120 := n0_
                     have HO_9 := n1_
                     have HB := n2_
                     clear n0_ n1_ n2_
                     have hHeld := trivial
                     refine norm_ (a' := ?_) ?_ ?_
                     rotate_left
                     ·simp only [putAll, Act.put, lA, lZ, lS]
                      rfl
                     refine three_ (i := 4) (j := 9) (k := 11) (Ni := some 39) (Nj := some 44) (Nk := some 11) #[T,T,T,T,T,T,T,T,T,F,F,F,F] #[T,T,T,T,F,T,T,T,T,T,F,F,F] #[T,T,T,T,F,T,T,T,T,F,F,T,F] rfl rfl rfl rfl rfl rfl (three_of HT_.out (by kernel_rfl)) (by decide) (by decide) (by decide) (fun K hK => ?_) (fun K hK => ?_) (fun K hK => ?_)
                     ·skip
                      have hcv36 := own_string (P := Try.prog) Try.underlying40 Try.underlying5 Try.underlying9 (Kd.own_of_R HO120.out)
                      refine value_ (w1 := ?_) (v := ?_) (by rfl) rfl ?_ ?_
                      rotate_left 2
                      ·go_simp
                       constructor
                       ·rfl
                       ·rfl
                      clear hcv36
                      refine hK.out _ _ trivial (fun hHeld => ?_)
                      clear hK K
                      refine norm_ (a' := ?_) ?_ ?_
                      rotate_left
                      ·show Act.put _ (some 39) _ = _
                       simp only [Act.put, lA, lZ, lS, i64_w, i32_w]
                       rfl
                      exact norm_ (by simp only [putAll, Act.put, lA, lZ, lS]; first | done | rfl) (hJ3_4 (v119) _ ⟨(by (with_reducible repeat first | apply rA | apply rN | apply rD); exact HO120.out), (by (with_reducible repeat first | apply sA | apply sN | apply sD); exact HO_9.out), (by repeat first | exact HB.out | apply bA | apply bN | apply bD)⟩)
                     ·skip
                      refine Kd.R_lit_step (Kd.int .i64) _ 3 ?hg (N := 44) ?hd (xs := ([Int.tmod (wrap64 (x10_2 + 1)) a0] : List Int)) (inner := [.int .i64 (Int.tmod (wrap64 (x10_2 + 1)) a0)]) (ok := fun _ => True) (okp := fun _ => True) ?hr ?hp (fun _ hk => hk) trivial (Below.refl _ _) (Nat.le_refl _) (by simp) ?_; (case hd => rfl); (case hg => rfl); (case hr => first | (go_simp; done) | (go_simp; rfl)); (case hp => exact (Reps.one (show Kd.M (Kd.int .i64) _ _ _ (Int.tmod (wrap64 (x10_2 + 1)) a0) [.int .i64 (Int.tmod (wrap64 (x10_2 + 1)) a0)] from rfl) (Reps.none _ _)))
                      intro v122 w36 ho37 hb hg_ hnew_
                      clear hg_ hnew_
                      (first | rw [← Ny121.out] at ho37 | (simp only [Int.reduceToNat] at ho37; rw [← Ny121.out] at ho37))
                      have n0_ := Aside0.mk (Kd.S_elder' (by (with_reducible repeat first | apply sA | apply sN | apply sD); exact HO_9.out) (Kd.R_base ho37) hb)
                      have n1_ := Aside0.mk (Kd.R_below (by (with_reducible repeat first | apply rA | apply rN | apply rD); exact HO120.out) hb)
                      have n2_ := Aside0.mk (Kd.R_lower ho37 (below_size (by repeat first | exact HB.out | apply bA | apply bN | apply bD)))
                      have n3_ := Aside0.mk (below_step (by repeat first | exact HB.out | apply bA | apply bN | apply bD) hb)
                      clear HO_9
                      clear HO120
                      clear HB
                      have HO_9 := n0_
                      have HO120 := n1_
                      have HO123 := n2_
                      have HB := n3_
                      clear n0_ n1_ n2_ n3_
                      clear hb ho37
                      refine hK.out _ _ trivial (fun hHeld => ?_)
                      clear hK K
                      refine norm_ (a' := ?_) ?_ ?_
                      rotate_left
                      ·show Act.put _ (some 44) _ = _
                       simp only [Act.put, lA, lZ, lS, i64_w, i32_w]
                       rfl
                      exact norm_ (by simp only [putAll, Act.put, lA, lZ, lS]; first | done | rfl) (hJ3_9 (v119, v122) _ ⟨(by (with_reducible repeat first | apply rA | apply rN | apply rD); exact HO120.out), (by (with_reducible repeat first | apply rA | apply rN | apply rD); exact HO123.out), (by (with_reducible repeat first | apply sA | apply sN | apply sD); exact Kd.S_mono HO_9.out (fun _ hk => hk.2)), (by repeat first | exact HB.out | apply bA | apply bN | apply bD)⟩)
                     ·skip
                      refine box_step ?hg (N := 11) ?hd (cs := #[.string (⟨#[]⟩ : ByteArray), .slice none 0 0]) (t := 31) ?hr ?_; (case hd => rfl); (case hg => rfl); (case hr => first | (go_simp; done) | (go_simp; rfl))
                      intro gb124 hg w36 hbox hb
                      have n0_ := Aside0.mk (Kd.S_below (Kd.S_elderB (by (with_reducible repeat first | apply sA | apply sN | apply sD); exact HO_9.out) gb124 (Nat.le_of_eq hg.symm)) hb)
                      have n1_ := Aside0.mk (Kd.R_below (by (with_reducible repeat first | apply rA | apply rN | apply rD); exact HO120.out) hb)
                      have n2_ := Aside0.mk (below_step (by repeat first | exact HB.out | apply bA | apply bN | apply bD) hb)
                      have n3_ := Aside0.mk (hbox)
                      have n4_ := Aside0.mk ((by rw [hg]; exact (below_size (by repeat first | exact HB.out | apply bA | apply bN | apply bD)) : w.heap.size ≤ gb124))
                      have n5_ := Aside0.mk ((by rw [hg]; exact (below_size (by repeat first | exact HB.out | apply bA | apply bN | apply bD)) : w.heap.size ≤ gb124))
                      clear HO_9
                      clear HO120
                      clear HB
                      have HO_9 := n0_
                      have HO120 := n1_
                      have HB := n2_
                      have BK124 := n3_
                      have GW124 := n4_
                      have GE124 := n5_
                      clear n0_ n1_ n2_ n3_ n4_ n5_
                      clear hb hbox hg
                      refine hK.out _ _ trivial (fun hHeld => ?_)
                      clear hK K
                      refine norm_ (a' := ?_) ?_ ?_
                      rotate_left
                      ·show Act.put _ (some 11) _ = _
                       simp only [Act.put, lA, lZ, lS, i64_w, i32_w]
                       rfl
                      exact norm_ (by simp only [putAll, Act.put, lA, lZ, lS]; first | done | rfl) (hJ3_11 (v119, gb124) _ ⟨(by (with_reducible repeat first | apply rA | apply rN | apply rD); exact HO120.out), (by (with_reducible repeat first | apply sA | apply sN | apply sD); exact Kd.S_mono HO_9.out (fun _ hk => hk.2)), (by (with_reducible repeat (first | refine blk_drewN ?_ _ | refine blk_drew ?_ | refine blk_alloc ?_ _)); exact BK124.out), GW124.out, GE124.out, (by repeat (first | (with_reducible first | exact HB.out | apply bA | apply bN | apply bD | refine below_set ?_ GE124.out) | exact HB.out))⟩)
                   ·skip
                    rintro ⟨v122, gb124⟩ w36 ⟨h0_, h1_, h2_, h3_, h4_, h5_⟩
                    have n0_ : Aside0 (Kd.R (Kd.int .i64) 3 w36 w.heap.size (fun _ => True) v122 y121) := ⟨h0_⟩
                    have n1_ : Aside0 (Kd.S k31 31 w36 w.heap.size (fun k_ => some k_ ≠ (v122 : Value).ownBlock ∧ k_ ≠ gb124) u9 x9_2) := ⟨h1_⟩
                    have n2_ : Aside0 (w36.heap[gb124]? = some (.cells #[.string (⟨#[]⟩ : ByteArray), .slice none 0 0] 31 (0, 0))) := ⟨h2_⟩
                    have n3_ : Aside0 (w.heap.size ≤ gb124) := ⟨h3_⟩
                    have n4_ : Aside0 (w.heap.size ≤ gb124) := ⟨h4_⟩
                    have n5_ : Aside0 (Below w.heap.size w w36) := ⟨h5_⟩
                    clear HO_9
                    clear HB
                    clear h0_ h1_ h2_ h3_ h4_ h5_
                    have HO123 := n0_
                    have HO_9 := n1_
                    have BK124 := n2_
                    have GW124 := n3_
                    have GE124 := n4_
                    have HB := n5_
                    clear n0_ n1_ n2_ n3_ n4_ n5_
                    have hHeld := trivial
                    refine norm_ (a' := ?_) ?_ ?_
                    rotate_left
                    ·simp only [putAll, Act.put, lA, lZ, lS]
                     rfl
                    refine one_ (i := 3) (N := some 38) #[T,T,T,T,F,T,T,T,T,T,F,T,F] rfl rfl (one_of HT_.out (by kernel_rfl)) (by decide) (fun K hK => ?_)
                    refine Kd.R_lit_step (Kd.int .u8) _ 5 ?hg (N := 38) ?hd (xs := ([(wrap64 (97 + x10_2)) % 256] : List Int)) (inner := [.int .u8 ((wrap64 (97 + x10_2)) % 256)]) (ok := fun _ => True) (okp := fun _ => True) ?hr ?hp (fun _ hk => hk) trivial (Below.refl _ _) (Nat.le_refl _) (by simp) ?_; (case hd => rfl); (case hg => rfl); (case hr => first | (go_simp; done) | (go_simp; rfl)); (case hp => exact (Reps.one (show Kd.M (Kd.int .u8) _ _ _ ((wrap64 (97 + x10_2)) % 256) [.int .u8 ((wrap64 (97 + x10_2)) % 256)] from rfl) (Reps.none _ _)))
                    intro v119 w37 ho38 hb hg_ hnew_
                    clear hg_ hnew_
                    (first | rw [← Ny118.out] at ho38 | (simp only [Int.reduceToNat] at ho38; rw [← Ny118.out] at ho38))
                    have n0_ := Aside0.mk (Kd.S_below (by (with_reducible repeat first | apply sA | apply sN | apply sD); exact HO_9.out) hb)
                    have n1_ := Aside0.mk (Kd.R_below (by (with_reducible repeat first | apply rA | apply rN | apply rD); exact HO123.out) hb)
                    have n2_ := Aside0.mk (Kd.R_lower ho38 (below_size (by repeat (first | (with_reducible first | exact HB.out | apply bA | apply bN | apply bD | refine below_set ?_ GE124.out) | exact HB.out))))
                    have n3_ := Aside0.mk (blk_below (g := gb124) (o := .cells #[.string (⟨#[]⟩ : ByteArray), .slice none 0 0] 31 (0, 0)) (by (with_reducible repeat (first | refine blk_drewN ?_ _ | refine blk_drew ?_ | refine blk_alloc ?_ _)); exact BK124.out) hb)
                    have n4_ := Aside0.mk (below_step (by repeat (first | (with_reducible first | exact HB.out | apply bA | apply bN | apply bD | refine below_set ?_ GE124.out) | exact HB.out)) hb)
                    clear HO_9
                    clear HO123
                    clear BK124
                    clear HB
                    have HO_9 := n0_
                    have HO123 := n1_
                    have HO120 := n2_
                    have BK124 := n3_
                    have HB := n4_
                    clear n0_ n1_ n2_ n3_ n4_
                    clear hb ho38
                    refine hK.out _ _ trivial (fun hHeld => ?_)
                    clear hK K
                    refine norm_ (a' := ?_) ?_ ?_
                    rotate_left
                    ·show Act.put _ (some 38) _ = _
                     simp only [Act.put, lA, lZ, lS, i64_w, i32_w]
                     rfl
                    exact norm_ (by simp only [putAll, Act.put, lA, lZ, lS]; first | done | rfl) (hJ3_9_11 (v119, v122, gb124) _ ⟨(by (with_reducible repeat first | apply rA | apply rN | apply rD); exact HO120.out), (by (with_reducible repeat first | apply rA | apply rN | apply rD); exact HO123.out), (by (with_reducible repeat first | apply sA | apply sN | apply sD); exact HO_9.out), (by (with_reducible repeat (first | refine blk_drewN ?_ _ | refine blk_drew ?_ | refine blk_alloc ?_ _)); exact BK124.out), GW124.out, GE124.out, (by repeat (first | (with_reducible first | exact HB.out | apply bA | apply bN | apply bD | refine below_set ?_ GE124.out) | exact HB.out))⟩)
                  ·skip
                   rintro ⟨v119, gb124⟩ w36 ⟨h0_, h1_, h2_, h3_, h4_, h5_⟩
                   have n0_ : Aside0 (Kd.R (Kd.int .u8) 5 w36 w.heap.size (fun _ => True) v119 y118) := ⟨h0_⟩
                   have n1_ : Aside0 (Kd.S k31 31 w36 w.heap.size (fun k_ => k_ ≠ gb124) u9 x9_2) := ⟨h1_⟩
                   have n2_ : Aside0 (w36.heap[gb124]? = some (.cells #[.string (⟨#[]⟩ : ByteArray), .slice none 0 0] 31 (0, 0))) := ⟨h2_⟩
                   have n3_ : Aside0 (w.heap.size ≤ gb124) := ⟨h3_⟩
                   have n4_ : Aside0 (w.heap.size ≤ gb124) := ⟨h4_⟩
                   have n5_ : Aside0 (Below w.heap.size w w36) := ⟨h5_⟩
                   clear HO_9
                   clear HB
                   clear h0_ h1_ h2_ h3_ h4_ h5_
                   have HO120 := n0_
                   have HO_9 := n1_
                   have BK124 := n2_
                   have GW124 := n3_
                   have GE124 := n4_
                   have HB := n5_
                   clear n0_ n1_ n2_ n3_ n4_ n5_
                   have hHeld := trivial
                   refine norm_ (a' := ?_) ?_ ?_
                   rotate_left
                   ·simp only [putAll, Act.put, lA, lZ, lS]
                    rfl
                   refine two_ (i := 4) (j := 9) (Ni := some 39) (Nj := some 44) #[T,T,T,T,T,T,T,T,T,F,F,T,F] #[T,T,T,T,F,T,T,T,T,T,F,T,F] rfl rfl rfl rfl (two_of HT_.out (by kernel_rfl)) (by decide) (by decide) (fun K hK => ?_) (fun K hK => ?_)
                   ·skip
                    have hcv37 := own_string (P := Try.prog) Try.underlying40 Try.underlying5 Try.underlying9 (Kd.own_of_R HO120.out)
                    refine value_ (w1 := ?_) (v := ?_) (by rfl) rfl ?_ ?_
                    rotate_left 2
                    ·go_simp
                     constructor
                     ·rfl
                     ·rfl
                    clear hcv37
                    refine hK.out _ _ trivial (fun hHeld => ?_)
                    clear hK K
                    refine norm_ (a' := ?_) ?_ ?_
                    rotate_left
                    ·show Act.put _ (some 39) _ = _
                     simp only [Act.put, lA, lZ, lS, i64_w, i32_w]
                     rfl
                    exact norm_ (by simp only [putAll, Act.put, lA, lZ, lS]; first | done | rfl) (hJ3_4_11 (v119, gb124) _ ⟨(by (with_reducible repeat first | apply rA | apply rN | apply rD); exact HO120.out), (by (with_reducible repeat first | apply sA | apply sN | apply sD); exact HO_9.out), (by (with_reducible repeat (first | refine blk_drewN ?_ _ | refine blk_drew ?_ | refine blk_alloc ?_ _)); exact BK124.out), GW124.out, GE124.out, (by repeat (first | (with_reducible first | exact HB.out | apply bA | apply bN | apply bD | refine below_set ?_ GE124.out) | exact HB.out))⟩)
                   ·skip
                    refine Kd.R_lit_step (Kd.int .i64) _ 3 ?hg (N := 44) ?hd (xs := ([Int.tmod (wrap64 (x10_2 + 1)) a0] : List Int)) (inner := [.int .i64 (Int.tmod (wrap64 (x10_2 + 1)) a0)]) (ok := fun _ => True) (okp := fun _ => True) ?hr ?hp (fun _ hk => hk) trivial (Below.refl _ _) (Nat.le_refl _) (by simp) ?_; (case hd => rfl); (case hg => rfl); (case hr => first | (go_simp; done) | (go_simp; rfl)); (case hp => exact (Reps.one (show Kd.M (Kd.int .i64) _ _ _ (Int.tmod (wrap64 (x10_2 + 1)) a0) [.int .i64 (Int.tmod (wrap64 (x10_2 + 1)) a0)] from rfl) (Reps.none _ _)))
                    intro v122 w37 ho38 hb hg_ hnew_
                    clear hg_ hnew_
                    (first | rw [← Ny121.out] at ho38 | (simp only [Int.reduceToNat] at ho38; rw [← Ny121.out] at ho38))
                    have n0_ := Aside0.mk (Kd.S_elder' (by (with_reducible repeat first | apply sA | apply sN | apply sD); exact HO_9.out) (Kd.R_base ho38) hb)
                    have n1_ := Aside0.mk (Kd.R_below (by (with_reducible repeat first | apply rA | apply rN | apply rD); exact HO120.out) hb)
                    have n2_ := Aside0.mk (Kd.R_lower ho38 (below_size (by repeat (first | (with_reducible first | exact HB.out | apply bA | apply bN | apply bD | refine below_set ?_ GE124.out) | exact HB.out))))
                    have n3_ := Aside0.mk (blk_below (g := gb124) (o := .cells #[.string (⟨#[]⟩ : ByteArray), .slice none 0 0] 31 (0, 0)) (by (with_reducible repeat (first | refine blk_drewN ?_ _ | refine blk_drew ?_ | refine blk_alloc ?_ _)); exact BK124.out) hb)
                    have n4_ := Aside0.mk (below_step (by repeat (first | (with_reducible first | exact HB.out | apply bA | apply bN | apply bD | refine below_set ?_ GE124.out) | exact HB.out)) hb)
                    clear HO_9
                    clear HO120
                    clear BK124
                    clear HB
                    have HO_9 := n0_
                    have HO120 := n1_
                    have HO123 := n2_
                    have BK124 := n3_
                    have HB := n4_
                    clear n0_ n1_ n2_ n3_ n4_
                    clear hb ho38
                    refine hK.out _ _ trivial (fun hHeld => ?_)
                    clear hK K
                    refine norm_ (a' := ?_) ?_ ?_
                    rotate_left
                    ·show Act.put _ (some 44) _ = _
                     simp only [Act.put, lA, lZ, lS, i64_w, i32_w]
                     rfl
                    exact norm_ (by simp only [putAll, Act.put, lA, lZ, lS]; first | done | rfl) (hJ3_9_11 (v119, v122, gb124) _ ⟨(by (with_reducible repeat first | apply rA | apply rN | apply rD); exact HO120.out), (by (with_reducible repeat first | apply rA | apply rN | apply rD); exact HO123.out), (by (with_reducible repeat first | apply sA | apply sN | apply sD); exact Kd.S_mono HO_9.out (fun _ hk => ⟨hk.2, hk.1⟩)), (by (with_reducible repeat (first | refine blk_drewN ?_ _ | refine blk_drew ?_ | refine blk_alloc ?_ _)); exact BK124.out), GW124.out, GE124.out, (by repeat (first | (with_reducible first | exact HB.out | apply bA | apply bN | apply bD | refine below_set ?_ GE124.out) | exact HB.out))⟩)
                 ·skip
                  rintro ⟨v119, v122⟩ w37 ⟨h0_, h1_, h2_, h3_⟩
                  have n0_ : Aside0 (Kd.R (Kd.int .u8) 5 w37 w.heap.size (fun _ => True) v119 y118) := ⟨h0_⟩
                  have n1_ : Aside0 (Kd.R (Kd.int .i64) 3 w37 w.heap.size (fun _ => True) v122 y121) := ⟨h1_⟩
                  have n2_ : Aside0 (Kd.S k31 31 w37 w.heap.size (fun k_ => some k_ ≠ (v122 : Value).ownBlock) u9 x9_2) := ⟨h2_⟩
                  have n3_ : Aside0 (Below w.heap.size w w37) := ⟨h3_⟩
                  clear HO_9
                  clear HB
                  clear h0_ h1_ h2_ h3_
                  have HO120 := n0_
                  have HO123 := n1_
                  have HO_9 := n2_
                  have HB := n3_
                  clear n0_ n1_ n2_ n3_
                  have hHeld := trivial
                  obtain ⟨Ao39, co39, eo39⟩ := Kd.R_slice HO123.out
                  (first | subst eo39 | (injection eo39 with f1_ f2_ f3_; have f4_ := f1_.symm; have f5_ := f3_.symm; clear f1_ f2_ f3_; subst f4_; subst f5_))
                  refine norm_ (a' := ?_) ?_ ?_
                  rotate_left
                  ·simp only [putAll, Act.put, lA, lZ, lS]
                   rfl
                  refine two_ (i := 4) (j := 11) (Ni := some 39) (Nj := some 11) #[T,T,T,T,T,T,T,T,T,T,F,F,F] #[T,T,T,T,F,T,T,T,T,T,F,T,F] rfl rfl rfl rfl (two_of HT_.out (by kernel_rfl)) (by decide) (by decide) (fun K hK => ?_) (fun K hK => ?_)
                  ·skip
                   have hcv38 := own_string (P := Try.prog) Try.underlying40 Try.underlying5 Try.underlying9 (Kd.own_of_R HO120.out)
                   refine value_ (w1 := ?_) (v := ?_) (by rfl) rfl ?_ ?_
                   rotate_left 2
                   ·go_simp
                    constructor
                    ·rfl
                    ·rfl
                   clear hcv38
                   refine hK.out _ _ trivial (fun hHeld => ?_)
                   clear hK K
                   refine norm_ (a' := ?_) ?_ ?_
                   rotate_left
                   ·show Act.put _ (some 39) _ = _
                    simp only [Act.put, lA, lZ, lS, i64_w, i32_w]
                    rfl
                   refine pure_ (i := 10) (N := some 45) (v := ?_) (a' := ?_) #[T,T,T,T,T,T,T,T,T,T,T,F,F] rfl rfl (any_of HT_.out (by kernel_rfl)) (fun _ _ _ h => h) (Or.inl ⟨by rfl, ?_⟩) ?_ ?_
                   rotate_left
                   ·intro w'
                    go_simp
                    with_reducible rfl
                   rotate_left
                   ·simp only [Act.put, lA, lZ, lS, i64_w, i32_w]
                    rfl
                   exact norm_ (by simp only [putAll, Act.put, lA, lZ, lS]; first | done | rfl) (hJ3_4_9 (v119, .slice Ao39 y121.length co39) _ ⟨(by (with_reducible repeat first | apply rA | apply rN | apply rD); exact HO120.out), (by (with_reducible repeat first | apply rA | apply rN | apply rD); exact HO123.out), (by (with_reducible repeat first | apply sA | apply sN | apply sD); exact HO_9.out), (by repeat first | exact HB.out | apply bA | apply bN | apply bD)⟩)
                  ·skip
                   refine box_step ?hg (N := 11) ?hd (cs := #[.string (⟨#[]⟩ : ByteArray), .slice none 0 0]) (t := 31) ?hr ?_; (case hd => rfl); (case hg => rfl); (case hr => first | (go_simp; done) | (go_simp; rfl))
                   intro gb124 hg w38 hbox hb
                   have n0_ := Aside0.mk (Kd.S_below (Kd.S_elderB (by (with_reducible repeat first | apply sA | apply sN | apply sD); exact HO_9.out) gb124 (Nat.le_of_eq hg.symm)) hb)
                   have n1_ := Aside0.mk (Kd.R_below (by (with_reducible repeat first | apply rA | apply rN | apply rD); exact HO120.out) hb)
                   have n2_ := Aside0.mk (Kd.R_below (by (with_reducible repeat first | apply rA | apply rN | apply rD); exact HO123.out) hb)
                   have n3_ := Aside0.mk (below_step (by repeat first | exact HB.out | apply bA | apply bN | apply bD) hb)
                   have n4_ := Aside0.mk (hbox)
                   have n5_ := Aside0.mk ((by rw [hg]; exact (below_size (by repeat first | exact HB.out | apply bA | apply bN | apply bD)) : w.heap.size ≤ gb124))
                   have n6_ := Aside0.mk ((by rw [hg]; exact (below_size (by repeat first | exact HB.out | apply bA | apply bN | apply bD)) : w.heap.size ≤ gb124))
                   clear HO_9
                   clear HO120
                   clear HO123
                   clear HB
                   have HO_9 := n0_
                   have HO120 := n1_
                   have HO123 := n2_
                   have HB := n3_
                   have BK124 := n4_
                   have GW124 := n5_
                   have GE124 := n6_
                   clear n0_ n1_ n2_ n3_ n4_ n5_ n6_
                   clear hb hbox hg
                   refine hK.out _ _ trivial (fun hHeld => ?_)
                   clear hK K
                   refine norm_ (a' := ?_) ?_ ?_
                   rotate_left
                   ·show Act.put _ (some 11) _ = _
                    simp only [Act.put, lA, lZ, lS, i64_w, i32_w]
                    rfl
                   exact norm_ (by simp only [putAll, Act.put, lA, lZ, lS]; first | done | rfl) (hJ3_9_11 (v119, .slice Ao39 y121.length co39, gb124) _ ⟨(by (with_reducible repeat first | apply rA | apply rN | apply rD); exact HO120.out), (by (with_reducible repeat first | apply rA | apply rN | apply rD); exact HO123.out), (by (with_reducible repeat first | apply sA | apply sN | apply sD); exact HO_9.out), (by (with_reducible repeat (first | refine blk_drewN ?_ _ | refine blk_drew ?_ | refine blk_alloc ?_ _)); exact BK124.out), GW124.out, GE124.out, (by repeat (first | (with_reducible first | exact HB.out | apply bA | apply bN | apply bD | refine below_set ?_ GE124.out) | exact HB.out))⟩)
                ·skip
                 rintro v119 w36 ⟨h0_, h1_, h2_⟩
                 have n0_ : Aside0 (Kd.R (Kd.int .u8) 5 w36 w.heap.size (fun _ => True) v119 y118) := ⟨h0_⟩
                 have n1_ : Aside0 (Kd.S k31 31 w36 w.heap.size (fun _ => True) u9 x9_2) := ⟨h1_⟩
                 have n2_ : Aside0 (Below w.heap.size w w36) := ⟨h2_⟩
                 clear HO_9
                 clear HB
                 clear h0_ h1_ h2_
                 have HO120 := n0_
                 have HO_9 := n1_
                 have HB := n2_
                 clear n0_ n1_ n2_
                 have hHeld := trivial
                 refine norm_ (a' := ?_) ?_ ?_
                 rotate_left
                 ·simp only [putAll, Act.put, lA, lZ, lS]
                  rfl
                 refine two_ (i := 9) (j := 11) (Ni := some 44) (Nj := some 11) #[T,T,T,T,T,T,T,T,T,T,F,F,F] #[T,T,T,T,T,T,T,T,T,F,F,T,F] rfl rfl rfl rfl (two_of HT_.out (by kernel_rfl)) (by decide) (by decide) (fun K hK => ?_) (fun K hK => ?_)
                 ·skip
                  refine Kd.R_lit_step (Kd.int .i64) _ 3 ?hg (N := 44) ?hd (xs := ([Int.tmod (wrap64 (x10_2 + 1)) a0] : List Int)) (inner := [.int .i64 (Int.tmod (wrap64 (x10_2 + 1)) a0)]) (ok := fun _ => True) (okp := fun _ => True) ?hr ?hp (fun _ hk => hk) trivial (Below.refl _ _) (Nat.le_refl _) (by simp) ?_; (case hd => rfl); (case hg => rfl); (case hr => first | (go_simp; done) | (go_simp; rfl)); (case hp => exact (Reps.one (show Kd.M (Kd.int .i64) _ _ _ (Int.tmod (wrap64 (x10_2 + 1)) a0) [.int .i64 (Int.tmod (wrap64 (x10_2 + 1)) a0)] from rfl) (Reps.none _ _)))
                  intro v122 w37 ho38 hb hg_ hnew_
                  clear hg_ hnew_
                  (first | rw [← Ny121.out] at ho38 | (simp only [Int.reduceToNat] at ho38; rw [← Ny121.out] at ho38))
                  have n0_ := Aside0.mk (Kd.S_elder' (by (with_reducible repeat first | apply sA | apply sN | apply sD); exact HO_9.out) (Kd.R_base ho38) hb)
                  have n1_ := Aside0.mk (Kd.R_below (by (with_reducible repeat first | apply rA | apply rN | apply rD); exact HO120.out) hb)
                  have n2_ := Aside0.mk (Kd.R_lower ho38 (below_size (by repeat first | exact HB.out | apply bA | apply bN | apply bD)))
                  have n3_ := Aside0.mk (below_step (by repeat first | exact HB.out | apply bA | apply bN | apply bD) hb)
                  clear HO_9
                  clear HO120
                  clear HB
                  have HO_9 := n0_
                  have HO120 := n1_
                  have HO123 := n2_
                  have HB := n3_
                  clear n0_ n1_ n2_ n3_
                  clear hb ho38
                  obtain ⟨Ao39, co39, eo39⟩ := Kd.R_slice HO123.out
                  (first | subst eo39 | (injection eo39 with f1_ f2_ f3_; have f4_ := f1_.symm; have f5_ := f3_.symm; clear f1_ f2_ f3_; subst f4_; subst f5_))
                  refine hK.out _ _ trivial (fun hHeld => ?_)
                  clear hK K
                  refine norm_ (a' := ?_) ?_ ?_
                  rotate_left
                  ·show Act.put _ (some 44) _ = _
                   simp only [Act.put, lA, lZ, lS, i64_w, i32_w]
                   rfl
                  refine pure_ (i := 10) (N := some 45) (v := ?_) (a' := ?_) #[T,T,T,T,T,T,T,T,T,T,T,F,F] rfl rfl (any_of HT_.out (by kernel_rfl)) (fun _ _ _ h => h) (Or.inl ⟨by rfl, ?_⟩) ?_ ?_
                  rotate_left
                  ·intro w'
                   go_simp
                   with_reducible rfl
                  rotate_left
                  ·simp only [Act.put, lA, lZ, lS, i64_w, i32_w]
                   rfl
                  exact norm_ (by simp only [putAll, Act.put, lA, lZ, lS]; first | done | rfl) (hJ3_4_9 (v119, .slice Ao39 y121.length co39) _ ⟨(by (with_reducible repeat first | apply rA | apply rN | apply rD); exact HO120.out), (by (with_reducible repeat first | apply rA | apply rN | apply rD); exact HO123.out), (by (with_reducible repeat first | apply sA | apply sN | apply sD); exact Kd.S_mono HO_9.out (fun _ hk => hk.2)), (by repeat first | exact HB.out | apply bA | apply bN | apply bD)⟩)
                 ·skip
                  refine box_step ?hg (N := 11) ?hd (cs := #[.string (⟨#[]⟩ : ByteArray), .slice none 0 0]) (t := 31) ?hr ?_; (case hd => rfl); (case hg => rfl); (case hr => first | (go_simp; done) | (go_simp; rfl))
                  intro gb124 hg w37 hbox hb
                  have n0_ := Aside0.mk (Kd.S_below (Kd.S_elderB (by (with_reducible repeat first | apply sA | apply sN | apply sD); exact HO_9.out) gb124 (Nat.le_of_eq hg.symm)) hb)
                  have n1_ := Aside0.mk (Kd.R_below (by (with_reducible repeat first | apply rA | apply rN | apply rD); exact HO120.out) hb)
                  have n2_ := Aside0.mk (below_step (by repeat first | exact HB.out | apply bA | apply bN | apply bD) hb)
                  have n3_ := Aside0.mk (hbox)
                  have n4_ := Aside0.mk ((by rw [hg]; exact (below_size (by repeat first | exact HB.out | apply bA | apply bN | apply bD)) : w.heap.size ≤ gb124))
                  have n5_ := Aside0.mk ((by rw [hg]; exact (below_size (by repeat first | exact HB.out | apply bA | apply bN | apply bD)) : w.heap.size ≤ gb124))
                  clear HO_9
                  clear HO120
                  clear HB
                  have HO_9 := n0_
                  have HO120 := n1_
                  have HB := n2_
                  have BK124 := n3_
                  have GW124 := n4_
                  have GE124 := n5_
                  clear n0_ n1_ n2_ n3_ n4_ n5_
                  clear hb hbox hg
                  refine hK.out _ _ trivial (fun hHeld => ?_)
                  clear hK K
                  refine norm_ (a' := ?_) ?_ ?_
                  rotate_left
                  ·show Act.put _ (some 11) _ = _
                   simp only [Act.put, lA, lZ, lS, i64_w, i32_w]
                   rfl
                  exact norm_ (by simp only [putAll, Act.put, lA, lZ, lS]; first | done | rfl) (hJ3_4_11 (v119, gb124) _ ⟨(by (with_reducible repeat first | apply rA | apply rN | apply rD); exact HO120.out), (by (with_reducible repeat first | apply sA | apply sN | apply sD); exact Kd.S_mono HO_9.out (fun _ hk => hk.2)), (by (with_reducible repeat (first | refine blk_drewN ?_ _ | refine blk_drew ?_ | refine blk_alloc ?_ _)); exact BK124.out), GW124.out, GE124.out, (by repeat (first | (with_reducible first | exact HB.out | apply bA | apply bN | apply bD | refine below_set ?_ GE124.out) | exact HB.out))⟩)
               ·skip
                rintro ⟨v119, v122, gb124⟩ w38 ⟨h0_, h1_, h2_, h3_, h4_, h5_, h6_⟩
                have n0_ : Aside0 (Kd.R (Kd.int .u8) 5 w38 w.heap.size (fun _ => True) v119 y118) := ⟨h0_⟩
                have n1_ : Aside0 (Kd.R (Kd.int .i64) 3 w38 w.heap.size (fun _ => True) v122 y121) := ⟨h1_⟩
                have n2_ : Aside0 (Kd.S k31 31 w38 w.heap.size (fun k_ => some k_ ≠ (v122 : Value).ownBlock ∧ k_ ≠ gb124) u9 x9_2) := ⟨h2_⟩
                have n3_ : Aside0 (w38.heap[gb124]? = some (.cells #[.string (⟨#[]⟩ : ByteArray), .slice none 0 0] 31 (0, 0))) := ⟨h3_⟩
                have n4_ : Aside0 (w.heap.size ≤ gb124) := ⟨h4_⟩
                have n5_ : Aside0 (w.heap.size ≤ gb124) := ⟨h5_⟩
                have n6_ : Aside0 (Below w.heap.size w w38) := ⟨h6_⟩
                clear HO_9
                clear HB
                clear h0_ h1_ h2_ h3_ h4_ h5_ h6_
                have HO120 := n0_
                have HO123 := n1_
                have HO_9 := n2_
                have BK124 := n3_
                have GW124 := n4_
                have GE124 := n5_
                have HB := n6_
                clear n0_ n1_ n2_ n3_ n4_ n5_ n6_
                have hHeld := trivial
                obtain ⟨Ao40, co40, eo40⟩ := Kd.R_slice HO123.out
                (first | subst eo40 | (injection eo40 with f1_ f2_ f3_; have f4_ := f1_.symm; have f5_ := f3_.symm; clear f1_ f2_ f3_; subst f4_; subst f5_))
                refine norm_ (a' := ?_) ?_ ?_
                rotate_left
                ·simp only [putAll, Act.put, lA, lZ, lS]
                 rfl
                refine one_ (i := 4) (N := some 39) #[T,T,T,T,T,T,T,T,T,T,F,T,F] rfl rfl (one_of HT_.out (by kernel_rfl)) (by decide) (fun K hK => ?_)
                have hcv39 := own_string (P := Try.prog) Try.underlying40 Try.underlying5 Try.underlying9 (Kd.own_of_R HO120.out)
                refine value_ (w1 := ?_) (v := ?_) (by rfl) rfl ?_ ?_
                rotate_left 2
                ·go_simp
                 constructor
                 ·rfl
                 ·rfl
                clear hcv39
                refine hK.out _ _ trivial (fun hHeld => ?_)
                clear hK K
                refine norm_ (a' := ?_) ?_ ?_
                rotate_left
                ·show Act.put _ (some 39) _ = _
                 simp only [Act.put, lA, lZ, lS, i64_w, i32_w]
                 rfl
                refine pure_ (i := 10) (N := some 45) (v := ?_) (a' := ?_) #[T,T,T,T,T,T,T,T,T,T,T,T,F] rfl rfl (any_of HT_.out (by kernel_rfl)) (fun _ _ _ h => h) (Or.inl ⟨by rfl, ?_⟩) ?_ ?_
                rotate_left
                ·intro w'
                 go_simp
                 with_reducible rfl
                rotate_left
                ·simp only [Act.put, lA, lZ, lS, i64_w, i32_w]
                 rfl
                exact norm_ (by simp only [putAll, Act.put, lA, lZ, lS]; first | done | rfl) (hJ3_4_9_11 (v119, .slice Ao40 y121.length co40, gb124) _ ⟨(by (with_reducible repeat first | apply rA | apply rN | apply rD); exact HO120.out), (by (with_reducible repeat first | apply rA | apply rN | apply rD); exact HO123.out), (by (with_reducible repeat first | apply sA | apply sN | apply sD); exact HO_9.out), (by (with_reducible repeat (first | refine blk_drewN ?_ _ | refine blk_drew ?_ | refine blk_alloc ?_ _)); exact BK124.out), GW124.out, GE124.out, (by repeat (first | (with_reducible first | exact HB.out | apply bA | apply bN | apply bD | refine below_set ?_ GE124.out) | exact HB.out))⟩)
              ·skip
               rintro ⟨v119, gb124⟩ w37 ⟨h0_, h1_, h2_, h3_, h4_, h5_⟩
               have n0_ : Aside0 (Kd.R (Kd.int .u8) 5 w37 w.heap.size (fun _ => True) v119 y118) := ⟨h0_⟩
               have n1_ : Aside0 (Kd.S k31 31 w37 w.heap.size (fun k_ => k_ ≠ gb124) u9 x9_2) := ⟨h1_⟩
               have n2_ : Aside0 (w37.heap[gb124]? = some (.cells #[.string (⟨#[]⟩ : ByteArray), .slice none 0 0] 31 (0, 0))) := ⟨h2_⟩
               have n3_ : Aside0 (w.heap.size ≤ gb124) := ⟨h3_⟩
               have n4_ : Aside0 (w.heap.size ≤ gb124) := ⟨h4_⟩
               have n5_ : Aside0 (Below w.heap.size w w37) := ⟨h5_⟩
               clear HO_9
               clear HB
               clear h0_ h1_ h2_ h3_ h4_ h5_
               have HO120 := n0_
               have HO_9 := n1_
               have BK124 := n2_
               have GW124 := n3_
               have GE124 := n4_
               have HB := n5_
               clear n0_ n1_ n2_ n3_ n4_ n5_
               have hHeld := trivial
               refine norm_ (a' := ?_) ?_ ?_
               rotate_left
               ·simp only [putAll, Act.put, lA, lZ, lS]
                rfl
               refine one_ (i := 9) (N := some 44) #[T,T,T,T,T,T,T,T,T,T,F,T,F] rfl rfl (one_of HT_.out (by kernel_rfl)) (by decide) (fun K hK => ?_)
               refine Kd.R_lit_step (Kd.int .i64) _ 3 ?hg (N := 44) ?hd (xs := ([Int.tmod (wrap64 (x10_2 + 1)) a0] : List Int)) (inner := [.int .i64 (Int.tmod (wrap64 (x10_2 + 1)) a0)]) (ok := fun _ => True) (okp := fun _ => True) ?hr ?hp (fun _ hk => hk) trivial (Below.refl _ _) (Nat.le_refl _) (by simp) ?_; (case hd => rfl); (case hg => rfl); (case hr => first | (go_simp; done) | (go_simp; rfl)); (case hp => exact (Reps.one (show Kd.M (Kd.int .i64) _ _ _ (Int.tmod (wrap64 (x10_2 + 1)) a0) [.int .i64 (Int.tmod (wrap64 (x10_2 + 1)) a0)] from rfl) (Reps.none _ _)))
               intro v122 w38 ho39 hb hg_ hnew_
               clear hg_ hnew_
               (first | rw [← Ny121.out] at ho39 | (simp only [Int.reduceToNat] at ho39; rw [← Ny121.out] at ho39))
               have n0_ := Aside0.mk (Kd.S_elder' (by (with_reducible repeat first | apply sA | apply sN | apply sD); exact HO_9.out) (Kd.R_base ho39) hb)
               have n1_ := Aside0.mk (Kd.R_below (by (with_reducible repeat first | apply rA | apply rN | apply rD); exact HO120.out) hb)
               have n2_ := Aside0.mk (Kd.R_lower ho39 (below_size (by repeat (first | (with_reducible first | exact HB.out | apply bA | apply bN | apply bD | refine below_set ?_ GE124.out) | exact HB.out))))
               have n3_ := Aside0.mk (blk_below (g := gb124) (o := .cells #[.string (⟨#[]⟩ : ByteArray), .slice none 0 0] 31 (0, 0)) (by (with_reducible repeat (first | refine blk_drewN ?_ _ | refine blk_drew ?_ | refine blk_alloc ?_ _)); exact BK124.out) hb)
               have n4_ := Aside0.mk (below_step (by repeat (first | (with_reducible first | exact HB.out | apply bA | apply bN | apply bD | refine below_set ?_ GE124.out) | exact HB.out)) hb)
               clear HO_9
               clear HO120
               clear BK124
               clear HB
               have HO_9 := n0_
               have HO120 := n1_
               have HO123 := n2_
               have BK124 := n3_
               have HB := n4_
               clear n0_ n1_ n2_ n3_ n4_
               clear hb ho39
               obtain ⟨Ao40, co40, eo40⟩ := Kd.R_slice HO123.out
               (first | subst eo40 | (injection eo40 with f1_ f2_ f3_; have f4_ := f1_.symm; have f5_ := f3_.symm; clear f1_ f2_ f3_; subst f4_; subst f5_))
               refine hK.out _ _ trivial (fun hHeld => ?_)
               clear hK K
               refine norm_ (a' := ?_) ?_ ?_
               rotate_left
               ·show Act.put _ (some 44) _ = _
                simp only [Act.put, lA, lZ, lS, i64_w, i32_w]
                rfl
               refine pure_ (i := 10) (N := some 45) (v := ?_) (a' := ?_) #[T,T,T,T,T,T,T,T,T,T,T,T,F] rfl rfl (any_of HT_.out (by kernel_rfl)) (fun _ _ _ h => h) (Or.inl ⟨by rfl, ?_⟩) ?_ ?_
               rotate_left
               ·intro w'
                go_simp
                with_reducible rfl
               rotate_left
               ·simp only [Act.put, lA, lZ, lS, i64_w, i32_w]
                rfl
               exact norm_ (by simp only [putAll, Act.put, lA, lZ, lS]; first | done | rfl) (hJ3_4_9_11 (v119, .slice Ao40 y121.length co40, gb124) _ ⟨(by (with_reducible repeat first | apply rA | apply rN | apply rD); exact HO120.out), (by (with_reducible repeat first | apply rA | apply rN | apply rD); exact HO123.out), (by (with_reducible repeat first | apply sA | apply sN | apply sD); exact Kd.S_mono HO_9.out (fun _ hk => ⟨hk.2, hk.1⟩)), (by (with_reducible repeat (first | refine blk_drewN ?_ _ | refine blk_drew ?_ | refine blk_alloc ?_ _)); exact BK124.out), GW124.out, GE124.out, (by repeat (first | (with_reducible first | exact HB.out | apply bA | apply bN | apply bD | refine below_set ?_ GE124.out) | exact HB.out))⟩)
             ·skip
              rintro ⟨v119, v122⟩ w39 ⟨h0_, h1_, h2_, h3_⟩
              have n0_ : Aside0 (Kd.R (Kd.int .u8) 5 w39 w.heap.size (fun _ => True) v119 y118) := ⟨h0_⟩
              have n1_ : Aside0 (Kd.R (Kd.int .i64) 3 w39 w.heap.size (fun _ => True) v122 y121) := ⟨h1_⟩
              have n2_ : Aside0 (Kd.S k31 31 w39 w.heap.size (fun k_ => some k_ ≠ (v122 : Value).ownBlock) u9 x9_2) := ⟨h2_⟩
              have n3_ : Aside0 (Below w.heap.size w w39) := ⟨h3_⟩
              clear HO_9
              clear HB
              clear h0_ h1_ h2_ h3_
              have HO120 := n0_
              have HO123 := n1_
              have HO_9 := n2_
              have HB := n3_
              clear n0_ n1_ n2_ n3_
              have hHeld := trivial
              obtain ⟨Ao40, co40, eo40⟩ := Kd.R_slice HO123.out
              (first | subst eo40 | (injection eo40 with f1_ f2_ f3_; have f4_ := f1_.symm; have f5_ := f3_.symm; clear f1_ f2_ f3_; subst f4_; subst f5_))
              refine norm_ (a' := ?_) ?_ ?_
              rotate_left
              ·simp only [putAll, Act.put, lA, lZ, lS]
               rfl
              refine one_ (i := 11) (N := some 11) #[T,T,T,T,T,T,T,T,T,T,T,T,F] rfl rfl (one_of HT_.out (by kernel_rfl)) (by decide) (fun K hK => ?_)
              refine box_step ?hg (N := 11) ?hd (cs := #[.string (⟨#[]⟩ : ByteArray), .slice none 0 0]) (t := 31) ?hr ?_; (case hd => rfl); (case hg => rfl); (case hr => first | (go_simp; done) | (go_simp; rfl))
              intro gb124 hg w41 hbox hb
              have n0_ := Aside0.mk (Kd.S_below (Kd.S_elderB (by (with_reducible repeat first | apply sA | apply sN | apply sD); exact HO_9.out) gb124 (Nat.le_of_eq hg.symm)) hb)
              have n1_ := Aside0.mk (Kd.R_below (by (with_reducible repeat first | apply rA | apply rN | apply rD); exact HO120.out) hb)
              have n2_ := Aside0.mk (Kd.R_below (by (with_reducible repeat first | apply rA | apply rN | apply rD); exact HO123.out) hb)
              have n3_ := Aside0.mk (below_step (by repeat first | exact HB.out | apply bA | apply bN | apply bD) hb)
              have n4_ := Aside0.mk (hbox)
              have n5_ := Aside0.mk ((by rw [hg]; exact (below_size (by repeat first | exact HB.out | apply bA | apply bN | apply bD)) : w.heap.size ≤ gb124))
              have n6_ := Aside0.mk ((by rw [hg]; exact (below_size (by repeat first | exact HB.out | apply bA | apply bN | apply bD)) : w.heap.size ≤ gb124))
              clear HO_9
              clear HO120
              clear HO123
              clear HB
              have HO_9 := n0_
              have HO120 := n1_
              have HO123 := n2_
              have HB := n3_
              have BK124 := n4_
              have GW124 := n5_
              have GE124 := n6_
              clear n0_ n1_ n2_ n3_ n4_ n5_ n6_
              clear hb hbox hg
              refine hK.out _ _ trivial (fun hHeld => ?_)
              clear hK K
              refine norm_ (a' := ?_) ?_ ?_
              rotate_left
              ·show Act.put _ (some 11) _ = _
               simp only [Act.put, lA, lZ, lS, i64_w, i32_w]
               rfl
              exact norm_ (by simp only [putAll, Act.put, lA, lZ, lS]; first | done | rfl) (hJ3_4_9_11 (v119, .slice Ao40 y121.length co40, gb124) _ ⟨(by (with_reducible repeat first | apply rA | apply rN | apply rD); exact HO120.out), (by (with_reducible repeat first | apply rA | apply rN | apply rD); exact HO123.out), (by (with_reducible repeat first | apply sA | apply sN | apply sD); exact HO_9.out), (by (with_reducible repeat (first | refine blk_drewN ?_ _ | refine blk_drew ?_ | refine blk_alloc ?_ _)); exact BK124.out), GW124.out, GE124.out, (by repeat (first | (with_reducible first | exact HB.out | apply bA | apply bN | apply bD | refine below_set ?_ GE124.out) | exact HB.out))⟩)
            rintro ⟨v119, v122, gb124⟩ w40 ⟨h0_, h1_, h2_, h3_, h4_, h5_, h6_⟩
            have n0_ : Aside0 (Kd.R (Kd.int .u8) 5 w40 w.heap.size (fun _ => True) v119 y118) := ⟨h0_⟩
            have n1_ : Aside0 (Kd.R (Kd.int .i64) 3 w40 w.heap.size (fun _ => True) v122 y121) := ⟨h1_⟩
            have n2_ : Aside0 (Kd.S k31 31 w40 w.heap.size (fun k_ => some k_ ≠ (v122 : Value).ownBlock ∧ k_ ≠ gb124) u9 x9_2) := ⟨h2_⟩
            have n3_ : Aside0 (w40.heap[gb124]? = some (.cells #[.string (⟨#[]⟩ : ByteArray), .slice none 0 0] 31 (0, 0))) := ⟨h3_⟩
            have n4_ : Aside0 (w.heap.size ≤ gb124) := ⟨h4_⟩
            have n5_ : Aside0 (w.heap.size ≤ gb124) := ⟨h5_⟩
            have n6_ : Aside0 (Below w.heap.size w w40) := ⟨h6_⟩
            clear HO_9
            clear HB
            clear h0_ h1_ h2_ h3_ h4_ h5_ h6_
            have HO120 := n0_
            have HO123 := n1_
            have HO_9 := n2_
            have BK124 := n3_
            have GW124 := n4_
            have GE124 := n5_
            have HB := n6_
            clear n0_ n1_ n2_ n3_ n4_ n5_ n6_
            have hHeld := trivial
            obtain ⟨Ao41, co41, eo41⟩ := Kd.R_slice HO123.out
            (first | subst eo41 | (injection eo41 with f1_ f2_ f3_; have f4_ := f1_.symm; have f5_ := f3_.symm; clear f1_ f2_ f3_; subst f4_; subst f5_))
            refine norm_ (a' := ?_) ?_ ?_
            rotate_left
            ·simp only [putAll, Act.put, lA, lZ, lS]
             rfl
            refine one_ (i := 12) (N := none) #[T,T,T,T,T,T,T,T,T,T,T,T,T] rfl rfl (one_of HT_.out (by kernel_rfl)) (by decide) (fun K hK => ?_)
            have hs42 : w40.cell? ⟨gb124, 0, none⟩ = some (.string (⟨#[]⟩ : ByteArray)) := (blk_cell BK124.out 0).trans rfl
            have hfs42 := blk_frozen BK124.out 0
            have hs43 : w40.cell? ⟨gb124, 1, none⟩ = some (.slice none 0 0) := (blk_cell BK124.out 1).trans rfl
            have hfs43 := blk_frozen BK124.out 1
            refine skip_ (w1 := ?_) (by rfl) rfl ?_ ?_
            rotate_left
            ·go_simp
             rfl
            refine hK.out _ _ trivial (fun hHeld => ?_)
            clear hK K
            refine done_ (done_of HT_.out (by kernel_rfl)) ?_
            have hcz44_0 : w40.cell? ⟨gb124, 0, none⟩ = some (.string (⟨#[]⟩ : ByteArray)) := (blk_cell BK124.out 0).trans rfl
            have hcz44_1 : w40.cell? ⟨gb124, 1, none⟩ = some (.slice none 0 0) := (blk_cell BK124.out 1).trans rfl
            have hfz44_0 := blk_frozen BK124.out 0
            have hfz44_1 := blk_frozen BK124.out 1
            have hx2_ : (((w40.setCell ⟨gb124, 0, none⟩ (.string (strOfNums y118))).setCell ⟨gb124, 1, none⟩ (.slice Ao41 y121.length co41)).setCell ⟨gb124, 1, none⟩ (.slice none 0 0)).cell? ⟨gb124, 1, none⟩ = some (.slice none 0 0) := World.cell?_setCell_same _ _ _ (World.cell?_setCell_same _ _ _ ((World.cell?_setCell_other _ _ _ _ (by simp)).trans hcz44_1))
            try go_wp2_with (first | ((with_reducible refine gate_builtin (b := .append) (xs := #[.tmp 54, .tmp 56]) rfl ?_); (try (refine gate_guard (by rfl) ?_; dsimp only)); at_builtin; refine Kd.S_append k31 (w0 := w) w.heap.size rfl (.tmp 54) (.tmp 56) 22 31 (.agg #[(.string ⟨#[]⟩), (.slice none 0 0)]) 40 rfl Try.underlying22 info31 rfl (by decide) (by omega) u9 x9_2 (⟨strOfNums y118, ([] : List Int)⟩ : S31) [.string (strOfNums y118), .slice none 0 0] (fun k_ => some k_ ≠ (.slice Ao41 y121.length co41 : Value).ownBlock ∧ k_ ≠ gb124) (fun _ => False) rfl (by first | (go_simp; done) | (go_simp; rfl)) ?aP (fun k_ hk_ => hk_.elim) ?aF ?aO ?aB ?aS ?aL ?_; (case aP => exact k31_mkM _ _ _ (⟨strOfNums y118, ([] : List Int)⟩ : S31) (Kd.R_nil _ _ _ _ _)); (case aB => exact (by repeat (first | (with_reducible first | exact HB.out | apply bA | apply bN | apply bD | refine below_set ?_ GE124.out) | exact HB.out))); (case aF => exact (fun k_ hk => ⟨Kd.fresh' (Kd.R_lt (by (with_reducible repeat first | apply rA | apply rN | apply rD); exact (Kd.R_mono (Kd.R_far (p := ⟨gb124, 1, none⟩) (Kd.R_far (p := ⟨gb124, 1, none⟩) (Kd.R_far (p := ⟨gb124, 0, none⟩) (Kd.R_types HO123.out BK124.out (by decide)) (fun _ hk => hk.2) (.string (strOfNums y118))) (fun _ hk => hk.2) (.slice Ao41 y121.length co41)) (fun _ hk => hk.2) (.slice none 0 0)) (fun _ h_ => h_.1)))) k_ hk, Kd.freshB (g := gb124) (o := .cells #[.string (strOfNums y118), .slice none 0 0] 31 (0, 0)) (by (with_reducible repeat (first | refine blk_drewN ?_ _ | refine blk_drew ?_ | refine blk_alloc ?_ _)); refine blk_put (cs := #[.string (strOfNums y118), .slice Ao41 y121.length co41]) ?_ 1 _ rfl; (with_reducible repeat (first | refine blk_drewN ?_ _ | refine blk_drew ?_ | refine blk_alloc ?_ _)); refine blk_put (cs := #[.string (strOfNums y118), .slice none 0 0]) ?_ 1 _ rfl; (with_reducible repeat (first | refine blk_drewN ?_ _ | refine blk_drew ?_ | refine blk_alloc ?_ _)); refine blk_put (cs := #[.string (⟨#[]⟩ : ByteArray), .slice none 0 0]) ?_ 0 _ rfl; (with_reducible repeat (first | refine blk_drewN ?_ _ | refine blk_drew ?_ | refine blk_alloc ?_ _)); exact BK124.out) k_ hk⟩)); (case aO => exact (by (with_reducible repeat first | apply sA | apply sN | apply sD); exact Kd.S_mono (Kd.S_far (p := ⟨gb124, 1, none⟩) (Kd.S_far (p := ⟨gb124, 1, none⟩) (Kd.S_far (p := ⟨gb124, 0, none⟩) (Kd.S_mono HO_9.out (fun k_ hk => (⟨hk, hk.2⟩ : _ ∧ k_ ≠ gb124))) (fun _ hk => hk.2) (.string (strOfNums y118))) (fun _ hk => hk.2) (.slice Ao41 y121.length co41)) (fun _ hk => hk.2) (.slice none 0 0)) (fun k_ hk => ⟨⟨hk.1.1, hk.1.2⟩, fun e_ => e_⟩))); (case aS => exact (below_size (by repeat (first | (with_reducible first | exact HB.out | apply bA | apply bN | apply bD | refine below_set ?_ GE124.out) | exact HB.out)))); (case aL => have := LMc31.out; omega); intro v129 w45 ho hb hg hat; rw [← Ny128.out] at ho; have n0_ := Aside0.mk (Kd.R_over' (by (with_reducible repeat first | apply rA | apply rN | apply rD); exact (Kd.R_mono (Kd.R_far (p := ⟨gb124, 1, none⟩) (Kd.R_far (p := ⟨gb124, 1, none⟩) (Kd.R_far (p := ⟨gb124, 0, none⟩) (Kd.R_types HO120.out BK124.out (by decide)) (fun _ hk => hk.2) (.string (strOfNums y118))) (fun _ hk => hk.2) (.slice Ao41 y121.length co41)) (fun _ hk => hk.2) (.slice none 0 0)) (fun _ h_ => h_.1))) (Kd.S_typed (by (with_reducible repeat first | apply sA | apply sN | apply sD); exact (Kd.S_mono (Kd.S_far (p := ⟨gb124, 1, none⟩) (Kd.S_far (p := ⟨gb124, 1, none⟩) (Kd.S_far (p := ⟨gb124, 0, none⟩) (Kd.S_mono HO_9.out (fun k_ hk => (⟨hk, hk.2⟩ : _ ∧ k_ ≠ gb124))) (fun _ hk => hk.2) (.string (strOfNums y118))) (fun _ hk => hk.2) (.slice Ao41 y121.length co41)) (fun _ hk => hk.2) (.slice none 0 0)) (fun _ h_ => h_.1)))) (by decide) hg); have n1_ := Aside0.mk (Kd.R_over' (by (with_reducible repeat first | apply rA | apply rN | apply rD); exact (Kd.R_mono (Kd.R_far (p := ⟨gb124, 1, none⟩) (Kd.R_far (p := ⟨gb124, 1, none⟩) (Kd.R_far (p := ⟨gb124, 0, none⟩) (Kd.R_types HO123.out BK124.out (by decide)) (fun _ hk => hk.2) (.string (strOfNums y118))) (fun _ hk => hk.2) (.slice Ao41 y121.length co41)) (fun _ hk => hk.2) (.slice none 0 0)) (fun _ h_ => h_.1))) (Kd.S_typed (by (with_reducible repeat first | apply sA | apply sN | apply sD); exact (Kd.S_mono (Kd.S_far (p := ⟨gb124, 1, none⟩) (Kd.S_far (p := ⟨gb124, 1, none⟩) (Kd.S_far (p := ⟨gb124, 0, none⟩) (Kd.S_mono HO_9.out (fun k_ hk => (⟨hk, hk.2⟩ : _ ∧ k_ ≠ gb124))) (fun _ hk => hk.2) (.string (strOfNums y118))) (fun _ hk => hk.2) (.slice Ao41 y121.length co41)) (fun _ hk => hk.2) (.slice none 0 0)) (fun _ h_ => h_.1)))) (by decide) hg); have n2_ := Aside0.mk (blk_grown (g := gb124) (o := .cells #[.string (strOfNums y118), .slice none 0 0] 31 (0, 0)) (by (with_reducible repeat (first | refine blk_drewN ?_ _ | refine blk_drew ?_ | refine blk_alloc ?_ _)); refine blk_put (cs := #[.string (strOfNums y118), .slice Ao41 y121.length co41]) ?_ 1 _ rfl; (with_reducible repeat (first | refine blk_drewN ?_ _ | refine blk_drew ?_ | refine blk_alloc ?_ _)); refine blk_put (cs := #[.string (strOfNums y118), .slice none 0 0]) ?_ 1 _ rfl; (with_reducible repeat (first | refine blk_drewN ?_ _ | refine blk_drew ?_ | refine blk_alloc ?_ _)); refine blk_put (cs := #[.string (⟨#[]⟩ : ByteArray), .slice none 0 0]) ?_ 0 _ rfl; (with_reducible repeat (first | refine blk_drewN ?_ _ | refine blk_drew ?_ | refine blk_alloc ?_ _)); exact BK124.out) hg (Kd.S_away HO_9.out (fun _ hk => hk.2))); have n3_ := Aside0.mk (hb); have n4_ := Aside0.mk (ho); clear HO120; clear HO123; clear BK124; clear HB; clear HO_9; have HO120 := n0_; have HO123 := n1_; have BK124 := n2_; have HB := n3_; have HO130 := n4_; clear n0_ n1_ n2_ n3_ n4_; clear ho hb hg hat))
            go_roundg k2
            case measure => have := HJ4.out; have := HK2.out; omega
            case rel => exact ⟨(y128), (wrap64 (x10_2 + 1)), (by first | rfl | (simp; done) | (simp [*]; done)), H', ⟨by have := HJ4.out; have := HK2.out; omega⟩, ⟨by (with_reducible repeat first | apply sA | apply sN | apply sD); exact Kd.S_mono HO130.out (fun _ hk => trivial)⟩, ⟨by repeat (first | (with_reducible first | exact HB.out | apply bA | apply bN | apply bD | refine below_set ?_ GE124.out) | exact HB.out)⟩⟩
           ·rw [if_neg c31] at H
            exact absurd H (by simp)
         ·rw [if_neg c13] at H
          have c13b0 : (x10_2 == (Int.tmod a1 a0)) = false := beq_eq_false_iff_ne.mpr c13
          have c13b1 : (x10_2 != (Int.tmod a1 a0)) = true := bne_iff_ne.mpr c13
          by_cases c46 : x9_2.length < 3518437208883
          ·rw [if_pos c46] at H
           have LMc46 := Aside0.mk c46
           clear c46
           obtain ⟨y131, hy131⟩ : ∃ y_ : List (S31), y_ = (x9_2 ++ [(⟨strOfNums y118, y121⟩ : S31)]) := ⟨_, rfl⟩
           replace H : (carlinglaw21_GraphRing.l0 k2 a0 a2 t117 (Int.tmod a1 a0) y131 (wrap64 (x10_2 + 1))) = some r := by first | (rw [hy131]; with_reducible exact H) | (have H2_ := (Option.bind_some _ _).symm.trans H; rw [hy131]; with_reducible exact H2_) | (have H2_ := (Option.bind_some _ _).symm.trans H; with_reducible exact H2_) | with_reducible exact H | (rw [hy131]; exact H) | exact H
           have Ny131 := Aside0.mk hy131
           clear hy131
           have H' := Aside0.mk H
           clear H
           try go_wp2
           have n0_ := Aside0.mk (sD HO_9.out)
           have n1_ := Aside0.mk (bD HB.out)
           clear HO_9
           clear HB
           have HO_9 := n0_
           have HB := n1_
           clear n0_ n1_
           refine start_ (n := 13) (S := fun w' => True) (ds := []) #[F,F,F,F,F,F,F,F,F,F,F,F,F] (by kernel_rfl) rfl rfl trivial (fun hHeld => ?_); refine with_tabW carlinglaw21_GraphRing.tab9 carlinglaw21_GraphRing.bits9 (fun HT_ HW_ => ?_)
           generalize wr.drew = w47 at HO_9 HB hHeld ⊢
           refine pure_ (i := 0) (N := some 35) (v := ?_) (a' := ?_) #[T,F,F,F,F,F,F,F,F,F,F,F,F] rfl rfl (any_of HT_.out (by kernel_rfl)) (fun _ _ _ h => h) (Or.inl ⟨by rfl, ?_⟩) ?_ ?_
           rotate_left
           ·intro w'
            go_simp
            with_reducible rfl
           rotate_left
           ·simp only [Act.put, lA, lZ, lS, i64_w, i32_w]
            rfl
           refine pure_ (i := 1) (N := some 36) (v := ?_) (a' := ?_) #[T,T,F,F,F,F,F,F,F,F,F,F,F] rfl rfl (any_of HT_.out (by kernel_rfl)) (fun _ _ _ h => h) (Or.inl ⟨by rfl, ?_⟩) ?_ ?_
           rotate_left
           ·intro w'
            go_simp
            with_reducible rfl
           rotate_left
           ·simp only [Act.put, lA, lZ, lS, i64_w, i32_w]
            rfl
           refine pure_ (i := 2) (N := some 37) (v := ?_) (a' := ?_) #[T,T,T,F,F,F,F,F,F,F,F,F,F] rfl rfl (any_of HT_.out (by kernel_rfl)) (fun _ _ _ h => h) (Or.inl ⟨by rfl, ?_⟩) ?_ ?_
           rotate_left
           ·intro w'
            go_simp
            with_reducible rfl
           rotate_left
           ·simp only [Act.put, lA, lZ, lS, i64_w, i32_w]
            rfl
           refine pure_ (i := 5) (N := some 40) (v := ?_) (a' := ?_) #[T,T,T,F,F,T,F,F,F,F,F,F,F] rfl rfl (any_of HT_.out (by kernel_rfl)) (fun _ _ _ h => h) (Or.inl ⟨by rfl, ?_⟩) ?_ ?_
           rotate_left
           ·intro w'
            go_simp
            with_reducible rfl
           rotate_left
           ·simp only [Act.put, lA, lZ, lS, i64_w, i32_w]
            rfl
           refine pure_ (i := 6) (N := some 41) (v := ?_) (a' := ?_) #[T,T,T,F,F,T,T,F,F,F,F,F,F] rfl rfl (any_of HT_.out (by kernel_rfl)) (fun _ _ _ h => h) (Or.inl ⟨by rfl, ?_⟩) ?_ ?_
           rotate_left
           ·intro w'
            go_simp
            with_reducible rfl
           rotate_left
           ·simp only [Act.put, lA, lZ, lS, i64_w, i32_w]
            rfl
           refine pure_ (i := 7) (N := some 42) (v := ?_) (a' := ?_) #[T,T,T,F,F,T,T,T,F,F,F,F,F] rfl rfl (any_of HT_.out (by kernel_rfl)) (fun _ _ _ h => h) (Or.inl ⟨by rfl, ?_⟩) ?_ ?_
           rotate_left
           ·intro w'
            go_simp
            with_reducible rfl
           rotate_left
           ·simp only [Act.put, lA, lZ, lS, i64_w, i32_w]
            rfl
           refine pure_ (i := 8) (N := some 43) (v := ?_) (a' := ?_) #[T,T,T,F,F,T,T,T,T,F,F,F,F] rfl rfl (any_of HT_.out (by kernel_rfl)) (fun _ _ _ h => h) (Or.inl ⟨by rfl, ?_⟩) ?_ ?_
           rotate_left
           ·intro w'
            go_simp
            with_reducible rfl
           rotate_left
           ·simp only [Act.put, lA, lZ, lS, i64_w, i32_w]
            rfl
           refine join_ (σ := Value × Value × Nat) 1 #[T,T,T,T,T,T,T,T,T,T,T,T,F] (fun s_ => [(38, s_.1), (39, .string (strOfNums y118)), (44, s_.2.1), (11, .pointer (some ⟨s_.2.2, 0, none⟩)), (45, .agg #[.string (strOfNums y118), s_.2.1])]) (fun s_ w' => (Kd.R (Kd.int .u8) 5 w' w.heap.size (fun _ => True) s_.1 y118) ∧ (Kd.R (Kd.int .i64) 3 w' w.heap.size (fun _ => True) s_.2.1 y121) ∧ (Kd.S k31 31 w' w.heap.size (fun k_ => some k_ ≠ (s_.2.1 : Value).ownBlock ∧ k_ ≠ s_.2.2) u9 x9_2) ∧ (w'.heap[s_.2.2]? = some (.cells #[.string (⟨#[]⟩ : ByteArray), .slice none 0 0] 31 (0, 0))) ∧ (w.heap.size ≤ s_.2.2) ∧ (w.heap.size ≤ s_.2.2) ∧ (Below w.heap.size w w')) ?_ ?_
           rotate_left
           ·intro hJ3_4_9_11
            refine join_ (σ := Value × Value) 2 #[T,T,T,T,T,T,T,T,T,T,T,F,F] (fun s_ => [(38, s_.1), (39, .string (strOfNums y118)), (44, s_.2), (45, .agg #[.string (strOfNums y118), s_.2])]) (fun s_ w' => (Kd.R (Kd.int .u8) 5 w' w.heap.size (fun _ => True) s_.1 y118) ∧ (Kd.R (Kd.int .i64) 3 w' w.heap.size (fun _ => True) s_.2 y121) ∧ (Kd.S k31 31 w' w.heap.size (fun k_ => some k_ ≠ (s_.2 : Value).ownBlock) u9 x9_2) ∧ (Below w.heap.size w w')) ?_ ?_
            rotate_left
            ·intro hJ3_4_9
             refine join_ (σ := Value × Nat) 3 #[T,T,T,T,T,T,T,T,T,F,F,T,F] (fun s_ => [(38, s_.1), (39, .string (strOfNums y118)), (11, .pointer (some ⟨s_.2, 0, none⟩))]) (fun s_ w' => (Kd.R (Kd.int .u8) 5 w' w.heap.size (fun _ => True) s_.1 y118) ∧ (Kd.S k31 31 w' w.heap.size (fun k_ => k_ ≠ s_.2) u9 x9_2) ∧ (w'.heap[s_.2]? = some (.cells #[.string (⟨#[]⟩ : ByteArray), .slice none 0 0] 31 (0, 0))) ∧ (w.heap.size ≤ s_.2) ∧ (w.heap.size ≤ s_.2) ∧ (Below w.heap.size w w')) ?_ ?_
             rotate_left
             ·intro hJ3_4_11
              refine join_ (σ := Value × Value × Nat) 3 #[T,T,T,T,F,T,T,T,T,T,F,T,F] (fun s_ => [(38, s_.1), (44, s_.2.1), (11, .pointer (some ⟨s_.2.2, 0, none⟩))]) (fun s_ w' => (Kd.R (Kd.int .u8) 5 w' w.heap.size (fun _ => True) s_.1 y118) ∧ (Kd.R (Kd.int .i64) 3 w' w.heap.size (fun _ => True) s_.2.1 y121) ∧ (Kd.S k31 31 w' w.heap.size (fun k_ => some k_ ≠ (s_.2.1 : Value).ownBlock ∧ k_ ≠ s_.2.2) u9 x9_2) ∧ (w'.heap[s_.2.2]? = some (.cells #[.string (⟨#[]⟩ : ByteArray), .slice none 0 0] 31 (0, 0))) ∧ (w.heap.size ≤ s_.2.2) ∧ (w.heap.size ≤ s_.2.2) ∧ (Below w.heap.size w w')) ?_ ?_
              rotate_left
              ·intro hJ3_9_11
               refine join_ (σ := Value) 4 #[T,T,T,T,T,T,T,T,T,F,F,F,F] (fun s_ => [(38, s_), (39, .string (strOfNums y118))]) (fun s_ w' => (Kd.R (Kd.int .u8) 5 w' w.heap.size (fun _ => True) s_ y118) ∧ (Kd.S k31 31 w' w.heap.size (fun _ => True) u9 x9_2) ∧ (Below w.heap.size w w')) ?_ ?_
               rotate_left
               ·intro hJ3_4
                refine join_ (σ := Value × Value) 4 #[T,T,T,T,F,T,T,T,T,T,F,F,F] (fun s_ => [(38, s_.1), (44, s_.2)]) (fun s_ w' => (Kd.R (Kd.int .u8) 5 w' w.heap.size (fun _ => True) s_.1 y118) ∧ (Kd.R (Kd.int .i64) 3 w' w.heap.size (fun _ => True) s_.2 y121) ∧ (Kd.S k31 31 w' w.heap.size (fun k_ => some k_ ≠ (s_.2 : Value).ownBlock) u9 x9_2) ∧ (Below w.heap.size w w')) ?_ ?_
                rotate_left
                ·intro hJ3_9
                 refine join_ (σ := Value × Nat) 4 #[T,T,T,T,F,T,T,T,T,F,F,T,F] (fun s_ => [(38, s_.1), (11, .pointer (some ⟨s_.2, 0, none⟩))]) (fun s_ w' => (Kd.R (Kd.int .u8) 5 w' w.heap.size (fun _ => True) s_.1 y118) ∧ (Kd.S k31 31 w' w.heap.size (fun k_ => k_ ≠ s_.2) u9 x9_2) ∧ (w'.heap[s_.2]? = some (.cells #[.string (⟨#[]⟩ : ByteArray), .slice none 0 0] 31 (0, 0))) ∧ (w.heap.size ≤ s_.2) ∧ (w.heap.size ≤ s_.2) ∧ (Below w.heap.size w w')) ?_ ?_
                 rotate_left
                 ·intro hJ3_11
                  refine join_ (σ := Value × Nat) 4 #[T,T,T,F,F,T,T,T,T,T,F,T,F] (fun s_ => [(44, s_.1), (11, .pointer (some ⟨s_.2, 0, none⟩))]) (fun s_ w' => (Kd.R (Kd.int .i64) 3 w' w.heap.size (fun _ => True) s_.1 y121) ∧ (Kd.S k31 31 w' w.heap.size (fun k_ => some k_ ≠ (s_.1 : Value).ownBlock ∧ k_ ≠ s_.2) u9 x9_2) ∧ (w'.heap[s_.2]? = some (.cells #[.string (⟨#[]⟩ : ByteArray), .slice none 0 0] 31 (0, 0))) ∧ (w.heap.size ≤ s_.2) ∧ (w.heap.size ≤ s_.2) ∧ (Below w.heap.size w w')) ?_ ?_
                  rotate_left
                  ·intro hJ9_11
                   refine join_ (σ := Value) 5 #[T,T,T,T,F,T,T,T,T,F,F,F,F] (fun s_ => [(38, s_)]) (fun s_ w' => (Kd.R (Kd.int .u8) 5 w' w.heap.size (fun _ => True) s_ y118) ∧ (Kd.S k31 31 w' w.heap.size (fun _ => True) u9 x9_2) ∧ (Below w.heap.size w w')) ?_ ?_
                   rotate_left
                   ·intro hJ3
                    refine join_ (σ := Value) 5 #[T,T,T,F,F,T,T,T,T,T,F,F,F] (fun s_ => [(44, s_)]) (fun s_ w' => (Kd.R (Kd.int .i64) 3 w' w.heap.size (fun _ => True) s_ y121) ∧ (Kd.S k31 31 w' w.heap.size (fun k_ => some k_ ≠ (s_ : Value).ownBlock) u9 x9_2) ∧ (Below w.heap.size w w')) ?_ ?_
                    rotate_left
                    ·intro hJ9
                     refine join_ (σ := Nat) 5 #[T,T,T,F,F,T,T,T,T,F,F,T,F] (fun s_ => [(11, .pointer (some ⟨s_, 0, none⟩))]) (fun s_ w' => (Kd.S k31 31 w' w.heap.size (fun k_ => k_ ≠ s_) u9 x9_2) ∧ (w'.heap[s_]? = some (.cells #[.string (⟨#[]⟩ : ByteArray), .slice none 0 0] 31 (0, 0))) ∧ (w.heap.size ≤ s_) ∧ (w.heap.size ≤ s_) ∧ (Below w.heap.size w w')) ?_ ?_
                     rotate_left
                     ·intro hJ11
                      refine three_ (i := 3) (j := 9) (k := 11) (Ni := some 38) (Nj := some 44) (Nk := some 11) #[T,T,T,T,F,T,T,T,T,F,F,F,F] #[T,T,T,F,F,T,T,T,T,T,F,F,F] #[T,T,T,F,F,T,T,T,T,F,F,T,F] rfl rfl rfl rfl rfl rfl (three_of HT_.out (by kernel_rfl)) (by decide) (by decide) (by decide) (fun K hK => ?_) (fun K hK => ?_) (fun K hK => ?_)
                      ·skip
                       refine Kd.R_lit_step (Kd.int .u8) _ 5 ?hg (N := 38) ?hd (xs := ([(wrap64 (97 + x10_2)) % 256] : List Int)) (inner := [.int .u8 ((wrap64 (97 + x10_2)) % 256)]) (ok := fun _ => True) (okp := fun _ => True) ?hr ?hp (fun _ hk => hk) trivial (Below.refl _ _) (Nat.le_refl _) (by simp) ?_; (case hd => rfl); (case hg => rfl); (case hr => first | (go_simp; done) | (go_simp; rfl)); (case hp => exact (Reps.one (show Kd.M (Kd.int .u8) _ _ _ ((wrap64 (97 + x10_2)) % 256) [.int .u8 ((wrap64 (97 + x10_2)) % 256)] from rfl) (Reps.none _ _)))
                       intro v119 w48 ho49 hb hg_ hnew_
                       clear hg_ hnew_
                       (first | rw [← Ny118.out] at ho49 | (simp only [Int.reduceToNat] at ho49; rw [← Ny118.out] at ho49))
                       have n0_ := Aside0.mk (Kd.S_below (by (with_reducible repeat first | apply sA | apply sN | apply sD); exact HO_9.out) hb)
                       have n1_ := Aside0.mk (Kd.R_lower ho49 (below_size (by repeat first | exact HB.out | apply bA | apply bN | apply bD)))
                       have n2_ := Aside0.mk (below_step (by repeat first | exact HB.out | apply bA | apply bN | apply bD) hb)
                       clear HO_9
                       clear HB
                       have HO_9 := n0_
                       have HO120 := n1_
                       have HB := n2_
                       clear n0_ n1_ n2_
                       clear hb ho49
                       refine hK.out _ _ trivial (fun hHeld => ?_)
                       clear hK K
                       refine norm_ (a' := ?_) ?_ ?_
                       rotate_left
                       ·show Act.put _ (some 38) _ = _
                        simp only [Act.put, lA, lZ, lS, i64_w, i32_w]
                        rfl
                       exact norm_ (by simp only [putAll, Act.put, lA, lZ, lS]; first | done | rfl) (hJ3 (v119) _ ⟨(by (with_reducible repeat first | apply rA | apply rN | apply rD); exact HO120.out), (by (with_reducible repeat first | apply sA | apply sN | apply sD); exact HO_9.out), (by repeat first | exact HB.out | apply bA | apply bN | apply bD)⟩)
                      ·skip
                       refine Kd.R_lit_step (Kd.int .i64) _ 3 ?hg (N := 44) ?hd (xs := ([Int.tmod (wrap64 (x10_2 + 1)) a0] : List Int)) (inner := [.int .i64 (Int.tmod (wrap64 (x10_2 + 1)) a0)]) (ok := fun _ => True) (okp := fun _ => True) ?hr ?hp (fun _ hk => hk) trivial (Below.refl _ _) (Nat.le_refl _) (by simp) ?_; (case hd => rfl); (case hg => rfl); (case hr => first | (go_simp; done) | (go_simp; rfl)); (case hp => exact (Reps.one (show Kd.M (Kd.int .i64) _ _ _ (Int.tmod (wrap64 (x10_2 + 1)) a0) [.int .i64 (Int.tmod (wrap64 (x10_2 + 1)) a0)] from rfl) (Reps.none _ _)))
                       intro v122 w48 ho49 hb hg_ hnew_
                       clear hg_ hnew_
                       (first | rw [← Ny121.out] at ho49 | (simp only [Int.reduceToNat] at ho49; rw [← Ny121.out] at ho49))
                       have n0_ := Aside0.mk (Kd.S_elder' (by (with_reducible repeat first | apply sA | apply sN | apply sD); exact HO_9.out) (Kd.R_base ho49) hb)
                       have n1_ := Aside0.mk (Kd.R_lower ho49 (below_size (by repeat first | exact HB.out | apply bA | apply bN | apply bD)))
                       have n2_ := Aside0.mk (below_step (by repeat first | exact HB.out | apply bA | apply bN | apply bD) hb)
                       clear HO_9
                       clear HB
                       have HO_9 := n0_
                       have HO123 := n1_
                       have HB := n2_
                       clear n0_ n1_ n2_
                       clear hb ho49
                       refine hK.out _ _ trivial (fun hHeld => ?_)
                       clear hK K
                       refine norm_ (a' := ?_) ?_ ?_
                       rotate_left
                       ·show Act.put _ (some 44) _ = _
                        simp only [Act.put, lA, lZ, lS, i64_w, i32_w]
                        rfl
                       exact norm_ (by simp only [putAll, Act.put, lA, lZ, lS]; first | done | rfl) (hJ9 (v122) _ ⟨(by (with_reducible repeat first | apply rA | apply rN | apply rD); exact HO123.out), (by (with_reducible repeat first | apply sA | apply sN | apply sD); exact Kd.S_mono HO_9.out (fun _ hk => hk.2)), (by repeat first | exact HB.out | apply bA | apply bN | apply bD)⟩)
                      ·skip
                       refine box_step ?hg (N := 11) ?hd (cs := #[.string (⟨#[]⟩ : ByteArray), .slice none 0 0]) (t := 31) ?hr ?_; (case hd => rfl); (case hg => rfl); (case hr => first | (go_simp; done) | (go_simp; rfl))
                       intro gb124 hg w48 hbox hb
                       have n0_ := Aside0.mk (Kd.S_below (Kd.S_elderB (by (with_reducible repeat first | apply sA | apply sN | apply sD); exact HO_9.out) gb124 (Nat.le_of_eq hg.symm)) hb)
                       have n1_ := Aside0.mk (below_step (by repeat first | exact HB.out | apply bA | apply bN | apply bD) hb)
                       have n2_ := Aside0.mk (hbox)
                       have n3_ := Aside0.mk ((by rw [hg]; exact (below_size (by repeat first | exact HB.out | apply bA | apply bN | apply bD)) : w.heap.size ≤ gb124))
                       have n4_ := Aside0.mk ((by rw [hg]; exact (below_size (by repeat first | exact HB.out | apply bA | apply bN | apply bD)) : w.heap.size ≤ gb124))
                       clear HO_9
                       clear HB
                       have HO_9 := n0_
                       have HB := n1_
                       have BK124 := n2_
                       have GW124 := n3_
                       have GE124 := n4_
                       clear n0_ n1_ n2_ n3_ n4_
                       clear hb hbox hg
                       refine hK.out _ _ trivial (fun hHeld => ?_)
                       clear hK K
                       refine norm_ (a' := ?_) ?_ ?_
                       rotate_left
                       ·show Act.put _ (some 11) _ = _
                        simp only [Act.put, lA, lZ, lS, i64_w, i32_w]
                        rfl
                       exact norm_ (by simp only [putAll, Act.put, lA, lZ, lS]; first | done | rfl) (hJ11 (gb124) _ ⟨(by (with_reducible repeat first | apply sA | apply sN | apply sD); exact Kd.S_mono HO_9.out (fun _ hk => hk.2)), (by (with_reducible repeat (first | refine blk_drewN ?_ _ | refine blk_drew ?_ | refine blk_alloc ?_ _)); exact BK124.out), GW124.out, GE124.out, (by repeat (first | (with_reducible first | exact HB.out | apply bA | apply bN | apply bD | refine below_set ?_ GE124.out) | exact HB.out))⟩)
                     ·skip
                      rintro gb124 w49 ⟨h0_, h1_, h2_, h3_, h4_⟩
                      have n0_ : Aside0 (Kd.S k31 31 w49 w.heap.size (fun k_ => k_ ≠ gb124) u9 x9_2) := ⟨h0_⟩
                      have n1_ : Aside0 (w49.heap[gb124]? = some (.cells #[.string (⟨#[]⟩ : ByteArray), .slice none 0 0] 31 (0, 0))) := ⟨h1_⟩
                      have n2_ : Aside0 (w.heap.size ≤ gb124) := ⟨h2_⟩
                      have n3_ : Aside0 (w.heap.size ≤ gb124) := ⟨h3_⟩
                      have n4_ : Aside0 (Below w.heap.size w w49) := ⟨h4_⟩
                      clear HO_9
                      clear HB
                      clear h0_ h1_ h2_ h3_ h4_
                      have HO_9 := n0_
                      have BK124 := n1_
                      have GW124 := n2_
                      have GE124 := n3_
                      have HB := n4_
                      clear n0_ n1_ n2_ n3_ n4_
                      have hHeld := trivial
                      refine norm_ (a' := ?_) ?_ ?_
                      rotate_left
                      ·simp only [putAll, Act.put, lA, lZ, lS]
                       rfl
                      refine two_ (i := 3) (j := 9) (Ni := some 38) (Nj := some 44) #[T,T,T,T,F,T,T,T,T,F,F,T,F] #[T,T,T,F,F,T,T,T,T,T,F,T,F] rfl rfl rfl rfl (two_of HT_.out (by kernel_rfl)) (by decide) (by decide) (fun K hK => ?_) (fun K hK => ?_)
                      ·skip
                       refine Kd.R_lit_step (Kd.int .u8) _ 5 ?hg (N := 38) ?hd (xs := ([(wrap64 (97 + x10_2)) % 256] : List Int)) (inner := [.int .u8 ((wrap64 (97 + x10_2)) % 256)]) (ok := fun _ => True) (okp := fun _ => True) ?hr ?hp (fun _ hk => hk) trivial (Below.refl _ _) (Nat.le_refl _) (by simp) ?_; (case hd => rfl); (case hg => rfl); (case hr => first | (go_simp; done) | (go_simp; rfl)); (case hp => exact (Reps.one (show Kd.M (Kd.int .u8) _ _ _ ((wrap64 (97 + x10_2)) % 256) [.int .u8 ((wrap64 (97 + x10_2)) % 256)] from rfl) (Reps.none _ _)))
                       intro v119 w50 ho51 hb hg_ hnew_
                       clear hg_ hnew_
                       (first | rw [← Ny118.out] at ho51 | (simp only [Int.reduceToNat] at ho51; rw [← Ny118.out] at ho51))
                       have n0_ := Aside0.mk (Kd.S_below (by (with_reducible repeat first | apply sA | apply sN | apply sD); exact HO_9.out) hb)
                       have n1_ := Aside0.mk (Kd.R_lower ho51 (below_size (by repeat (first | (with_reducible first | exact HB.out | apply bA | apply bN | apply bD | refine below_set ?_ GE124.out) | exact HB.out))))
                       have n2_ := Aside0.mk (blk_below (g := gb124) (o := .cells #[.string (⟨#[]⟩ : ByteArray), .slice none 0 0] 31 (0, 0)) (by (with_reducible repeat (first | refine blk_drewN ?_ _ | refine blk_drew ?_ | refine blk_alloc ?_ _)); exact BK124.out) hb)
                       have n3_ := Aside0.mk (below_step (by repeat (first | (with_reducible first | exact HB.out | apply bA | apply bN | apply bD | refine below_set ?_ GE124.out) | exact HB.out)) hb)
                       clear HO_9
                       clear BK124
                       clear HB
                       have HO_9 := n0_
                       have HO120 := n1_
                       have BK124 := n2_
                       have HB := n3_
                       clear n0_ n1_ n2_ n3_
                       clear hb ho51
                       refine hK.out _ _ trivial (fun hHeld => ?_)
                       clear hK K
                       refine norm_ (a' := ?_) ?_ ?_
                       rotate_left
                       ·show Act.put _ (some 38) _ = _
                        simp only [Act.put, lA, lZ, lS, i64_w, i32_w]
                        rfl
                       exact norm_ (by simp only [putAll, Act.put, lA, lZ, lS]; first | done | rfl) (hJ3_11 (v119, gb124) _ ⟨(by (with_reducible repeat first | apply rA | apply rN | apply rD); exact HO120.out), (by (with_reducible repeat first | apply sA | apply sN | apply sD); exact HO_9.out), (by (with_reducible repeat (first | refine blk_drewN ?_ _ | refine blk_drew ?_ | refine blk_alloc ?_ _)); exact BK124.out), GW124.out, GE124.out, (by repeat (first | (with_reducible first | exact HB.out | apply bA | apply bN | apply bD | refine below_set ?_ GE124.out) | exact HB.out))⟩)
                      ·skip
                       refine Kd.R_lit_step (Kd.int .i64) _ 3 ?hg (N := 44) ?hd (xs := ([Int.tmod (wrap64 (x10_2 + 1)) a0] : List Int)) (inner := [.int .i64 (Int.tmod (wrap64 (x10_2 + 1)) a0)]) (ok := fun _ => True) (okp := fun _ => True) ?hr ?hp (fun _ hk => hk) trivial (Below.refl _ _) (Nat.le_refl _) (by simp) ?_; (case hd => rfl); (case hg => rfl); (case hr => first | (go_simp; done) | (go_simp; rfl)); (case hp => exact (Reps.one (show Kd.M (Kd.int .i64) _ _ _ (Int.tmod (wrap64 (x10_2 + 1)) a0) [.int .i64 (Int.tmod (wrap64 (x10_2 + 1)) a0)] from rfl) (Reps.none _ _)))
                       intro v122 w50 ho51 hb hg_ hnew_
                       clear hg_ hnew_
                       (first | rw [← Ny121.out] at ho51 | (simp only [Int.reduceToNat] at ho51; rw [← Ny121.out] at ho51))
                       have n0_ := Aside0.mk (Kd.S_elder' (by (with_reducible repeat first | apply sA | apply sN | apply sD); exact HO_9.out) (Kd.R_base ho51) hb)
                       have n1_ := Aside0.mk (Kd.R_lower ho51 (below_size (by repeat (first | (with_reducible first | exact HB.out | apply bA | apply bN | apply bD | refine below_set ?_ GE124.out) | exact HB.out))))
                       have n2_ := Aside0.mk (blk_below (g := gb124) (o := .cells #[.string (⟨#[]⟩ : ByteArray), .slice none 0 0] 31 (0, 0)) (by (with_reducible repeat (first | refine blk_drewN ?_ _ | refine blk_drew ?_ | refine blk_alloc ?_ _)); exact BK124.out) hb)
                       have n3_ := Aside0.mk (below_step (by repeat (first | (with_reducible first | exact HB.out | apply bA | apply bN | apply bD | refine below_set ?_ GE124.out) | exact HB.out)) hb)
                       clear HO_9
                       clear BK124
                       clear HB
                       have HO_9 := n0_
                       have HO123 := n1_
                       have BK124 := n2_
                       have HB := n3_
                       clear n0_ n1_ n2_ n3_
                       clear hb ho51
                       refine hK.out _ _ trivial (fun hHeld => ?_)
                       clear hK K
                       refine norm_ (a' := ?_) ?_ ?_
                       rotate_left
                       ·show Act.put _ (some 44) _ = _
                        simp only [Act.put, lA, lZ, lS, i64_w, i32_w]
                        rfl
                       exact norm_ (by simp only [putAll, Act.put, lA, lZ, lS]; first | done | rfl) (hJ9_11 (v122, gb124) _ ⟨(by (with_reducible repeat first | apply rA | apply rN | apply rD); exact HO123.out), (by (with_reducible repeat first | apply sA | apply sN | apply sD); exact Kd.S_mono HO_9.out (fun _ hk => ⟨hk.2, hk.1⟩)), (by (with_reducible repeat (first | refine blk_drewN ?_ _ | refine blk_drew ?_ | refine blk_alloc ?_ _)); exact BK124.out), GW124.out, GE124.out, (by repeat (first | (with_reducible first | exact HB.out | apply bA | apply bN | apply bD | refine below_set ?_ GE124.out) | exact HB.out))⟩)
                    ·skip
                     rintro v122 w50 ⟨h0_, h1_, h2_⟩
                     have n0_ : Aside0 (Kd.R (Kd.int .i64) 3 w50 w.heap.size (fun _ => True) v122 y121) := ⟨h0_⟩
                     have n1_ : Aside0 (Kd.S k31 31 w50 w.heap.size (fun k_ => some k_ ≠ (v122 : Value).ownBlock) u9 x9_2) := ⟨h1_⟩
                     have n2_ : Aside0 (Below w.heap.size w w50) := ⟨h2_⟩
                     clear HO_9
                     clear HB
                     clear h0_ h1_ h2_
                     have HO123 := n0_
                     have HO_9 := n1_
                     have HB := n2_
                     clear n0_ n1_ n2_
                     have hHeld := trivial
                     refine norm_ (a' := ?_) ?_ ?_
                     rotate_left
                     ·simp only [putAll, Act.put, lA, lZ, lS]
                      rfl
                     refine two_ (i := 3) (j := 11) (Ni := some 38) (Nj := some 11) #[T,T,T,T,F,T,T,T,T,T,F,F,F] #[T,T,T,F,F,T,T,T,T,T,F,T,F] rfl rfl rfl rfl (two_of HT_.out (by kernel_rfl)) (by decide) (by decide) (fun K hK => ?_) (fun K hK => ?_)
                     ·skip
                      refine Kd.R_lit_step (Kd.int .u8) _ 5 ?hg (N := 38) ?hd (xs := ([(wrap64 (97 + x10_2)) % 256] : List Int)) (inner := [.int .u8 ((wrap64 (97 + x10_2)) % 256)]) (ok := fun _ => True) (okp := fun _ => True) ?hr ?hp (fun _ hk => hk) trivial (Below.refl _ _) (Nat.le_refl _) (by simp) ?_; (case hd => rfl); (case hg => rfl); (case hr => first | (go_simp; done) | (go_simp; rfl)); (case hp => exact (Reps.one (show Kd.M (Kd.int .u8) _ _ _ ((wrap64 (97 + x10_2)) % 256) [.int .u8 ((wrap64 (97 + x10_2)) % 256)] from rfl) (Reps.none _ _)))
                      intro v119 w51 ho52 hb hg_ hnew_
                      clear hg_ hnew_
                      (first | rw [← Ny118.out] at ho52 | (simp only [Int.reduceToNat] at ho52; rw [← Ny118.out] at ho52))
                      have n0_ := Aside0.mk (Kd.S_below (by (with_reducible repeat first | apply sA | apply sN | apply sD); exact HO_9.out) hb)
                      have n1_ := Aside0.mk (Kd.R_below (by (with_reducible repeat first | apply rA | apply rN | apply rD); exact HO123.out) hb)
                      have n2_ := Aside0.mk (Kd.R_lower ho52 (below_size (by repeat first | exact HB.out | apply bA | apply bN | apply bD)))
                      have n3_ := Aside0.mk (below_step (by repeat first | exact HB.out | apply bA | apply bN | apply bD) hb)
                      clear HO_9
                      clear HO123
                      clear HB
                      have HO_9 := n0_
                      have HO123 := n1_
                      have HO120 := n2_
                      have HB := n3_
                      clear n0_ n1_ n2_ n3_
                      clear hb ho52
                      refine hK.out _ _ trivial (fun hHeld => ?_)
                      clear hK K
                      refine norm_ (a' := ?_) ?_ ?_
                      rotate_left
                      ·show Act.put _ (some 38) _ = _
                       simp only [Act.put, lA, lZ, lS, i64_w, i32_w]
                       rfl
                      exact norm_ (by simp only [putAll, Act.put, lA, lZ, lS]; first | done | rfl) (hJ3_9 (v119, v122) _ ⟨(by (with_reducible repeat first | apply rA | apply rN | apply rD); exact HO120.out), (by (with_reducible repeat first | apply rA | apply rN | apply rD); exact HO123.out), (by (with_reducible repeat first | apply sA | apply sN | apply sD); exact HO_9.out), (by repeat first | exact HB.out | apply bA | apply bN | apply bD)⟩)
                     ·skip
                      refine box_step ?hg (N := 11) ?hd (cs := #[.string (⟨#[]⟩ : ByteArray), .slice none 0 0]) (t := 31) ?hr ?_; (case hd => rfl); (case hg => rfl); (case hr => first | (go_simp; done) | (go_simp; rfl))
                      intro gb124 hg w51 hbox hb
                      have n0_ := Aside0.mk (Kd.S_below (Kd.S_elderB (by (with_reducible repeat first | apply sA | apply sN | apply sD); exact HO_9.out) gb124 (Nat.le_of_eq hg.symm)) hb)
                      have n1_ := Aside0.mk (Kd.R_below (by (with_reducible repeat first | apply rA | apply rN | apply rD); exact HO123.out) hb)
                      have n2_ := Aside0.mk (below_step (by repeat first | exact HB.out | apply bA | apply bN | apply bD) hb)
                      have n3_ := Aside0.mk (hbox)
                      have n4_ := Aside0.mk ((by rw [hg]; exact (below_size (by repeat first | exact HB.out | apply bA | apply bN | apply bD)) : w.heap.size ≤ gb124))
                      have n5_ := Aside0.mk ((by rw [hg]; exact (below_size (by repeat first | exact HB.out | apply bA | apply bN | apply bD)) : w.heap.size ≤ gb124))
                      clear HO_9
                      clear HO123
                      clear HB
                      have HO_9 := n0_
                      have HO123 := n1_
                      have HB := n2_
                      have BK124 := n3_
                      have GW124 := n4_
                      have GE124 := n5_
                      clear n0_ n1_ n2_ n3_ n4_ n5_
                      clear hb hbox hg
                      refine hK.out _ _ trivial (fun hHeld => ?_)
                      clear hK K
                      refine norm_ (a' := ?_) ?_ ?_
                      rotate_left
                      ·show Act.put _ (some 11) _ = _
                       simp only [Act.put, lA, lZ, lS, i64_w, i32_w]
                       rfl
                      exact norm_ (by simp only [putAll, Act.put, lA, lZ, lS]; first | done | rfl) (hJ9_11 (v122, gb124) _ ⟨(by (with_reducible repeat first | apply rA | apply rN | apply rD); exact HO123.out), (by (with_reducible repeat first | apply sA | apply sN | apply sD); exact HO_9.out), (by (with_reducible repeat (first | refine blk_drewN ?_ _ | refine blk_drew ?_ | refine blk_alloc ?_ _)); exact BK124.out), GW124.out, GE124.out, (by repeat (first | (with_reducible first | exact HB.out | apply bA | apply bN | apply bD | refine below_set ?_ GE124.out) | exact HB.out))⟩)
                   ·skip
                    rintro v119 w50 ⟨h0_, h1_, h2_⟩
                    have n0_ : Aside0 (Kd.R (Kd.int .u8) 5 w50 w.heap.size (fun _ => True) v119 y118) := ⟨h0_⟩
                    have n1_ : Aside0 (Kd.S k31 31 w50 w.heap.size (fun _ => True) u9 x9_2) := ⟨h1_⟩
                    have n2_ : Aside0 (Below w.heap.size w w50) := ⟨h2_⟩
                    clear HO_9
                    clear HB
                    clear h0_ h1_ h2_
                    have HO120 := n0_
                    have HO_9 := n1_
                    have HB := n2_
                    clear n0_ n1_ n2_
                    have hHeld := trivial
                    refine norm_ (a' := ?_) ?_ ?_
                    rotate_left
                    ·simp only [putAll, Act.put, lA, lZ, lS]
                     rfl
                    refine three_ (i := 4) (j := 9) (k := 11) (Ni := some 39) (Nj := some 44) (Nk := some 11) #[T,T,T,T,T,T,T,T,T,F,F,F,F] #[T,T,T,T,F,T,T,T,T,T,F,F,F] #[T,T,T,T,F,T,T,T,T,F,F,T,F] rfl rfl rfl rfl rfl rfl (three_of HT_.out (by kernel_rfl)) (by decide) (by decide) (by decide) (fun K hK => ?_) (fun K hK => ?_) (fun K hK => ?_)
                    ·skip
                     have hcv51 := own_string (P := Try.prog) Try.underlying40 Try.underlying5 Try.underlying9 (Kd.own_of_R HO120.out)
                     refine value_ (w1 := ?_) (v := ?_) (by rfl) rfl ?_ ?_
                     rotate_left 2
                     ·go_simp
                      constructor
                      ·rfl
                      ·rfl
                     clear hcv51
                     refine hK.out _ _ trivial (fun hHeld => ?_)
                     clear hK K
                     refine norm_ (a' := ?_) ?_ ?_
                     rotate_left
                     ·show Act.put _ (some 39) _ = _
                      simp only [Act.put, lA, lZ, lS, i64_w, i32_w]
                      rfl
                     exact norm_ (by simp only [putAll, Act.put, lA, lZ, lS]; first | done | rfl) (hJ3_4 (v119) _ ⟨(by (with_reducible repeat first | apply rA | apply rN | apply rD); exact HO120.out), (by (with_reducible repeat first | apply sA | apply sN | apply sD); exact HO_9.out), (by repeat first | exact HB.out | apply bA | apply bN | apply bD)⟩)
                    ·skip
                     refine Kd.R_lit_step (Kd.int .i64) _ 3 ?hg (N := 44) ?hd (xs := ([Int.tmod (wrap64 (x10_2 + 1)) a0] : List Int)) (inner := [.int .i64 (Int.tmod (wrap64 (x10_2 + 1)) a0)]) (ok := fun _ => True) (okp := fun _ => True) ?hr ?hp (fun _ hk => hk) trivial (Below.refl _ _) (Nat.le_refl _) (by simp) ?_; (case hd => rfl); (case hg => rfl); (case hr => first | (go_simp; done) | (go_simp; rfl)); (case hp => exact (Reps.one (show Kd.M (Kd.int .i64) _ _ _ (Int.tmod (wrap64 (x10_2 + 1)) a0) [.int .i64 (Int.tmod (wrap64 (x10_2 + 1)) a0)] from rfl) (Reps.none _ _)))
                     intro v122 w51 ho52 hb hg_ hnew_
                     clear hg_ hnew_
                     (first | rw [← Ny121.out] at ho52 | (simp only [Int.reduceToNat] at ho52; rw [← Ny121.out] at ho52))
                     have n0_ := Aside0.mk (Kd.S_elder' (by (with_reducible repeat first | apply sA | apply sN | apply sD); exact HO_9.out) (Kd.R_base ho52) hb)
                     have n1_ := Aside0.mk (Kd.R_below (by (with_reducible repeat first | apply rA | apply rN | apply rD); exact HO120.out) hb)
                     have n2_ := Aside0.mk (Kd.R_lower ho52 (below_size (by repeat first | exact HB.out | apply bA | apply bN | apply bD)))
                     have n3_ := Aside0.mk (below_step (by repeat first | exact HB.out | apply bA | apply bN | apply bD) hb)
                     clear HO_9
                     clear HO120
                     clear HB
                     have HO_9 := n0_
                     have HO120 := n1_
                     have HO123 := n2_
                     have HB := n3_
                     clear n0_ n1_ n2_ n3_
                     clear hb ho52
                     refine hK.out _ _ trivial (fun hHeld => ?_)
                     clear hK K
                     refine norm_ (a' := ?_) ?_ ?_
                     rotate_left
                     ·show Act.put _ (some 44) _ = _
                      simp only [Act.put, lA, lZ, lS, i64_w, i32_w]
                      rfl
                     exact norm_ (by simp only [putAll, Act.put, lA, lZ, lS]; first | done | rfl) (hJ3_9 (v119, v122) _ ⟨(by (with_reducible repeat first | apply rA | apply rN | apply rD); exact HO120.out), (by (with_reducible repeat first | apply rA | apply rN | apply rD); exact HO123.out), (by (with_reducible repeat first | apply sA | apply sN | apply sD); exact Kd.S_mono HO_9.out (fun _ hk => hk.2)), (by repeat first | exact HB.out | apply bA | apply bN | apply bD)⟩)
                    ·skip
                     refine box_step ?hg (N := 11) ?hd (cs := #[.string (⟨#[]⟩ : ByteArray), .slice none 0 0]) (t := 31) ?hr ?_; (case hd => rfl); (case hg => rfl); (case hr => first | (go_simp; done) | (go_simp; rfl))
                     intro gb124 hg w51 hbox hb
                     have n0_ := Aside0.mk (Kd.S_below (Kd.S_elderB (by (with_reducible repeat first | apply sA | apply sN | apply sD); exact HO_9.out) gb124 (Nat.le_of_eq hg.symm)) hb)
                     have n1_ := Aside0.mk (Kd.R_below (by (with_reducible repeat first | apply rA | apply rN | apply rD); exact HO120.out) hb)
                     have n2_ := Aside0.mk (below_step (by repeat first | exact HB.out | apply bA | apply bN | apply bD) hb)
                     have n3_ := Aside0.mk (hbox)
                     have n4_ := Aside0.mk ((by rw [hg]; exact (below_size (by repeat first | exact HB.out | apply bA | apply bN | apply bD)) : w.heap.size ≤ gb124))
                     have n5_ := Aside0.mk ((by rw [hg]; exact (below_size (by repeat first | exact HB.out | apply bA | apply bN | apply bD)) : w.heap.size ≤ gb124))
                     clear HO_9
                     clear HO120
                     clear HB
                     have HO_9 := n0_
                     have HO120 := n1_
                     have HB := n2_
                     have BK124 := n3_
                     have GW124 := n4_
                     have GE124 := n5_
                     clear n0_ n1_ n2_ n3_ n4_ n5_
                     clear hb hbox hg
                     refine hK.out _ _ trivial (fun hHeld => ?_)
                     clear hK K
                     refine norm_ (a' := ?_) ?_ ?_
                     rotate_left
                     ·show Act.put _ (some 11) _ = _
                      simp only [Act.put, lA, lZ, lS, i64_w, i32_w]
                      rfl
                     exact norm_ (by simp only [putAll, Act.put, lA, lZ, lS]; first | done | rfl) (hJ3_11 (v119, gb124) _ ⟨(by (with_reducible repeat first | apply rA | apply rN | apply rD); exact HO120.out), (by (with_reducible repeat first | apply sA | apply sN | apply sD); exact Kd.S_mono HO_9.out (fun _ hk => hk.2)), (by (with_reducible repeat (first | refine blk_drewN ?_ _ | refine blk_drew ?_ | refine blk_alloc ?_ _)); exact BK124.out), GW124.out, GE124.out, (by repeat (first | (with_reducible first | exact HB.out | apply bA | apply bN | apply bD | refine below_set ?_ GE124.out) | exact HB.out))⟩)
                  ·skip
                   rintro ⟨v122, gb124⟩ w51 ⟨h0_, h1_, h2_, h3_, h4_, h5_⟩
                   have n0_ : Aside0 (Kd.R (Kd.int .i64) 3 w51 w.heap.size (fun _ => True) v122 y121) := ⟨h0_⟩
                   have n1_ : Aside0 (Kd.S k31 31 w51 w.heap.size (fun k_ => some k_ ≠ (v122 : Value).ownBlock ∧ k_ ≠ gb124) u9 x9_2) := ⟨h1_⟩
                   have n2_ : Aside0 (w51.heap[gb124]? = some (.cells #[.string (⟨#[]⟩ : ByteArray), .slice none 0 0] 31 (0, 0))) := ⟨h2_⟩
                   have n3_ : Aside0 (w.heap.size ≤ gb124) := ⟨h3_⟩
                   have n4_ : Aside0 (w.heap.size ≤ gb124) := ⟨h4_⟩
                   have n5_ : Aside0 (Below w.heap.size w w51) := ⟨h5_⟩
                   clear HO_9
                   clear HB
                   clear h0_ h1_ h2_ h3_ h4_ h5_
                   have HO123 := n0_
                   have HO_9 := n1_
                   have BK124 := n2_
                   have GW124 := n3_
                   have GE124 := n4_
                   have HB := n5_
                   clear n0_ n1_ n2_ n3_ n4_ n5_
                   have hHeld := trivial
                   refine norm_ (a' := ?_) ?_ ?_
                   rotate_left
                   ·simp only [putAll, Act.put, lA, lZ, lS]
                    rfl
                   refine one_ (i := 3) (N := some 38) #[T,T,T,T,F,T,T,T,T,T,F,T,F] rfl rfl (one_of HT_.out (by kernel_rfl)) (by decide) (fun K hK => ?_)
                   refine Kd.R_lit_step (Kd.int .u8) _ 5 ?hg (N := 38) ?hd (xs := ([(wrap64 (97 + x10_2)) % 256] : List Int)) (inner := [.int .u8 ((wrap64 (97 + x10_2)) % 256)]) (ok := fun _ => True) (okp := fun _ => True) ?hr ?hp (fun _ hk => hk) trivial (Below.refl _ _) (Nat.le_refl _) (by simp) ?_; (case hd => rfl); (case hg => rfl); (case hr => first | (go_simp; done) | (go_simp; rfl)); (case hp => exact (Reps.one (show Kd.M (Kd.int .u8) _ _ _ ((wrap64 (97 + x10_2)) % 256) [.int .u8 ((wrap64 (97 + x10_2)) % 256)] from rfl) (Reps.none _ _)))
                   intro v119 w52 ho53 hb hg_ hnew_
                   clear hg_ hnew_
                   (first | rw [← Ny118.out] at ho53 | (simp only [Int.reduceToNat] at ho53; rw [← Ny118.out] at ho53))
                   have n0_ := Aside0.mk (Kd.S_below (by (with_reducible repeat first | apply sA | apply sN | apply sD); exact HO_9.out) hb)
                   have n1_ := Aside0.mk (Kd.R_below (by (with_reducible repeat first | apply rA | apply rN | apply rD); exact HO123.out) hb)
                   have n2_ := Aside0.mk (Kd.R_lower ho53 (below_size (by repeat (first | (with_reducible first | exact HB.out | apply bA | apply bN | apply bD | refine below_set ?_ GE124.out) | exact HB.out))))
                   have n3_ := Aside0.mk (blk_below (g := gb124) (o := .cells #[.string (⟨#[]⟩ : ByteArray), .slice none 0 0] 31 (0, 0)) (by (with_reducible repeat (first | refine blk_drewN ?_ _ | refine blk_drew ?_ | refine blk_alloc ?_ _)); exact BK124.out) hb)
                   have n4_ := Aside0.mk (below_step (by repeat (first | (with_reducible first | exact HB.out | apply bA | apply bN | apply bD | refine below_set ?_ GE124.out) | exact HB.out)) hb)
                   clear HO_9
                   clear HO123
                   clear BK124
                   clear HB
                   have HO_9 := n0_
                   have HO123 := n1_
                   have HO120 := n2_
                   have BK124 := n3_
                   have HB := n4_
                   clear n0_ n1_ n2_ n3_ n4_
                   clear hb ho53
                   refine hK.out _ _ trivial (fun hHeld => ?_)
                   clear hK K
                   refine norm_ (a' := ?_) ?_ ?_
                   rotate_left
                   ·show Act.put _ (some 38) _ = _
                    simp only [Act.put, lA, lZ, lS, i64_w, i32_w]
                    rfl
                   exact norm_ (by simp only [putAll, Act.put, lA, lZ, lS]; first | done | rfl) (hJ3_9_11 (v119, v122, gb124) _ ⟨(by (with_reducible repeat first | apply rA | apply rN | apply rD); exact HO120.out), (by (with_reducible repeat first | apply rA | apply rN | apply rD); exact HO123.out), (by (with_reducible repeat first | apply sA | apply sN | apply sD); exact HO_9.out), (by (with_reducible repeat (first | refine blk_drewN ?_ _ | refine blk_drew ?_ | refine blk_alloc ?_ _)); exact BK124.out), GW124.out, GE124.out, (by repeat (first | (with_reducible first | exact HB.out | apply bA | apply bN | apply bD | refine below_set ?_ GE124.out) | exact HB.out))⟩)
                 ·skip
                  rintro ⟨v119, gb124⟩ w51 ⟨h0_, h1_, h2_, h3_, h4_, h5_⟩
                  have n0_ : Aside0 (Kd.R (Kd.int .u8) 5 w51 w.heap.size (fun _ => True) v119 y118) := ⟨h0_⟩
                  have n1_ : Aside0 (Kd.S k31 31 w51 w.heap.size (fun k_ => k_ ≠ gb124) u9 x9_2) := ⟨h1_⟩
                  have n2_ : Aside0 (w51.heap[gb124]? = some (.cells #[.string (⟨#[]⟩ : ByteArray), .slice none 0 0] 31 (0, 0))) := ⟨h2_⟩
                  have n3_ : Aside0 (w.heap.size ≤ gb124) := ⟨h3_⟩
                  have n4_ : Aside0 (w.heap.size ≤ gb124) := ⟨h4_⟩
                  have n5_ : Aside0 (Below w.heap.size w w51) := ⟨h5_⟩
                  clear HO_9
                  clear HB
                  clear h0_ h1_ h2_ h3_ h4_ h5_
                  have HO120 := n0_
                  have HO_9 := n1_
                  have BK124 := n2_
                  have GW124 := n3_
                  have GE124 := n4_
                  have HB := n5_
                  clear n0_ n1_ n2_ n3_ n4_ n5_
                  have hHeld := trivial
                  refine norm_ (a' := ?_) ?_ ?_
                  rotate_left
                  ·simp only [putAll, Act.put, lA, lZ, lS]
                   rfl
                  refine two_ (i := 4) (j := 9) (Ni := some 39) (Nj := some 44) #[T,T,T,T,T,T,T,T,T,F,F,T,F] #[T,T,T,T,F,T,T,T,T,T,F,T,F] rfl rfl rfl rfl (two_of HT_.out (by kernel_rfl)) (by decide) (by decide) (fun K hK => ?_) (fun K hK => ?_)
                  ·skip
                   have hcv52 := own_string (P := Try.prog) Try.underlying40 Try.underlying5 Try.underlying9 (Kd.own_of_R HO120.out)
                   refine value_ (w1 := ?_) (v := ?_) (by rfl) rfl ?_ ?_
                   rotate_left 2
                   ·go_simp
                    constructor
                    ·rfl
                    ·rfl
                   clear hcv52
                   refine hK.out _ _ trivial (fun hHeld => ?_)
                   clear hK K
                   refine norm_ (a' := ?_) ?_ ?_
                   rotate_left
                   ·show Act.put _ (some 39) _ = _
                    simp only [Act.put, lA, lZ, lS, i64_w, i32_w]
                    rfl
                   exact norm_ (by simp only [putAll, Act.put, lA, lZ, lS]; first | done | rfl) (hJ3_4_11 (v119, gb124) _ ⟨(by (with_reducible repeat first | apply rA | apply rN | apply rD); exact HO120.out), (by (with_reducible repeat first | apply sA | apply sN | apply sD); exact HO_9.out), (by (with_reducible repeat (first | refine blk_drewN ?_ _ | refine blk_drew ?_ | refine blk_alloc ?_ _)); exact BK124.out), GW124.out, GE124.out, (by repeat (first | (with_reducible first | exact HB.out | apply bA | apply bN | apply bD | refine below_set ?_ GE124.out) | exact HB.out))⟩)
                  ·skip
                   refine Kd.R_lit_step (Kd.int .i64) _ 3 ?hg (N := 44) ?hd (xs := ([Int.tmod (wrap64 (x10_2 + 1)) a0] : List Int)) (inner := [.int .i64 (Int.tmod (wrap64 (x10_2 + 1)) a0)]) (ok := fun _ => True) (okp := fun _ => True) ?hr ?hp (fun _ hk => hk) trivial (Below.refl _ _) (Nat.le_refl _) (by simp) ?_; (case hd => rfl); (case hg => rfl); (case hr => first | (go_simp; done) | (go_simp; rfl)); (case hp => exact (Reps.one (show Kd.M (Kd.int .i64) _ _ _ (Int.tmod (wrap64 (x10_2 + 1)) a0) [.int .i64 (Int.tmod (wrap64 (x10_2 + 1)) a0)] from rfl) (Reps.none _ _)))
                   intro v122 w52 ho53 hb hg_ hnew_
                   clear hg_ hnew_
                   (first | rw [← Ny121.out] at ho53 | (simp only [Int.reduceToNat] at ho53; rw [← Ny121.out] at ho53))
                   have n0_ := Aside0.mk (Kd.S_elder' (by (with_reducible repeat first | apply sA | apply sN | apply sD); exact HO_9.out) (Kd.R_base ho53) hb)
                   have n1_ := Aside0.mk (Kd.R_below (by (with_reducible repeat first | apply rA | apply rN | apply rD); exact HO120.out) hb)
                   have n2_ := Aside0.mk (Kd.R_lower ho53 (below_size (by repeat (first | (with_reducible first | exact HB.out | apply bA | apply bN | apply bD | refine below_set ?_ GE124.out) | exact HB.out))))
                   have n3_ := Aside0.mk (blk_below (g := gb124) (o := .cells #[.string (⟨#[]⟩ : ByteArray), .slice none 0 0] 31 (0, 0)) (by (with_reducible repeat (first | refine blk_drewN ?_ _ | refine blk_drew ?_ | refine blk_alloc ?_ _)); exact BK124.out) hb)
                   have n4_ := Aside0.mk (below_step (by repeat (first | (with_reducible first | exact HB.out | apply bA | apply bN | apply bD | refine below_set ?_ GE124.out) | exact HB.out)) hb)
                   clear HO_9
                   clear HO120
                   clear BK124
                   clear HB
                   have HO_9 := n0_
                   have HO120 := n1_
                   have HO123 := n2_
                   have BK124 := n3_
                   have HB := n4_
                   clear n0_ n1_ n2_ n3_ n4_
                   clear hb ho53
                   refine hK.out _ _ trivial (fun hHeld => ?_)
                   clear hK K
                   refine norm_ (a' := ?_) ?_ ?_
                   rotate_left
                   ·show Act.put _ (some 44) _ = _
                    simp only [Act.put, lA, lZ, lS, i64_w, i32_w]
                    rfl
                   exact norm_ (by simp only [putAll, Act.put, lA, lZ, lS]; first | done | rfl) (hJ3_9_11 (v119, v122, gb124) _ ⟨(by (with_reducible repeat first | apply rA | apply rN | apply rD); exact HO120.out), (by (with_reducible repeat first | apply rA | apply rN | apply rD); exact HO123.out), (by (with_reducible repeat first | apply sA | apply sN | apply sD); exact Kd.S_mono HO_9.out (fun _ hk => ⟨hk.2, hk.1⟩)), (by (with_reducible repeat (first | refine blk_drewN ?_ _ | refine blk_drew ?_ | refine blk_alloc ?_ _)); exact BK124.out), GW124.out, GE124.out, (by repeat (first | (with_reducible first | exact HB.out | apply bA | apply bN | apply bD | refine below_set ?_ GE124.out) | exact HB.out))⟩)
                ·skip
                 rintro ⟨v119, v122⟩ w52 ⟨h0_, h1_, h2_, h3_⟩
                 have n0_ : Aside0 (Kd.R (Kd.int .u8) 5 w52 w.heap.size (fun _ => True) v119 y118) := ⟨h0_⟩
                 have n1_ : Aside0 (Kd.R (Kd.int .i64) 3 w52 w.heap.size (fun _ => True) v122 y121) := ⟨h1_⟩
                 have n2_ : Aside0 (Kd.S k31 31 w52 w.heap.size (fun k_ => some k_ ≠ (v122 : Value).ownBlock) u9 x9_2) := ⟨h2_⟩
                 have n3_ : Aside0 (Below w.heap.size w w52) := ⟨h3_⟩
                 clear HO_9
                 clear HB
                 clear h0_ h1_ h2_ h3_
                 have HO120 := n0_
                 have HO123 := n1_
                 have HO_9 := n2_
                 have HB := n3_
                 clear n0_ n1_ n2_ n3_
                 have hHeld := trivial
                 obtain ⟨Ao54, co54, eo54⟩ := Kd.R_slice HO123.out
                 (first | subst eo54 | (injection eo54 with f1_ f2_ f3_; have f4_ := f1_.symm; have f5_ := f3_.symm; clear f1_ f2_ f3_; subst f4_; subst f5_))
                 refine norm_ (a' := ?_) ?_ ?_
                 rotate_left
                 ·simp only [putAll, Act.put, lA, lZ, lS]
                  rfl
                 refine two_ (i := 4) (j := 11) (Ni := some 39) (Nj := some 11) #[T,T,T,T,T,T,T,T,T,T,F,F,F] #[T,T,T,T,F,T,T,T,T,T,F,T,F] rfl rfl rfl rfl (two_of HT_.out (by kernel_rfl)) (by decide) (by decide) (fun K hK => ?_) (fun K hK => ?_)
                 ·skip
                  have hcv53 := own_string (P := Try.prog) Try.underlying40 Try.underlying5 Try.underlying9 (Kd.own_of_R HO120.out)
                  refine value_ (w1 := ?_) (v := ?_) (by rfl) rfl ?_ ?_
                  rotate_left 2
                  ·go_simp
                   constructor
                   ·rfl
                   ·rfl
                  clear hcv53
                  refine hK.out _ _ trivial (fun hHeld => ?_)
                  clear hK K
                  refine norm_ (a' := ?_) ?_ ?_
                  rotate_left
                  ·show Act.put _ (some 39) _ = _
                   simp only [Act.put, lA, lZ, lS, i64_w, i32_w]
                   rfl
                  refine pure_ (i := 10) (N := some 45) (v := ?_) (a' := ?_) #[T,T,T,T,T,T,T,T,T,T,T,F,F] rfl rfl (any_of HT_.out (by kernel_rfl)) (fun _ _ _ h => h) (Or.inl ⟨by rfl, ?_⟩) ?_ ?_
                  rotate_left
                  ·intro w'
                   go_simp
                   with_reducible rfl
                  rotate_left
                  ·simp only [Act.put, lA, lZ, lS, i64_w, i32_w]
                   rfl
                  exact norm_ (by simp only [putAll, Act.put, lA, lZ, lS]; first | done | rfl) (hJ3_4_9 (v119, .slice Ao54 y121.length co54) _ ⟨(by (with_reducible repeat first | apply rA | apply rN | apply rD); exact HO120.out), (by (with_reducible repeat first | apply rA | apply rN | apply rD); exact HO123.out), (by (with_reducible repeat first | apply sA | apply sN | apply sD); exact HO_9.out), (by repeat first | exact HB.out | apply bA | apply bN | apply bD)⟩)
                 ·skip
                  refine box_step ?hg (N := 11) ?hd (cs := #[.string (⟨#[]⟩ : ByteArray), .slice none 0 0]) (t := 31) ?hr ?_; (case hd => rfl); (case hg => rfl); (case hr => first | (go_simp; done) | (go_simp; rfl))
                  intro gb124 hg w53 hbox hb
                  have n0_ := Aside0.mk (Kd.S_below (Kd.S_elderB (by (with_reducible repeat first | apply sA | apply sN | apply sD); exact HO_9.out) gb124 (Nat.le_of_eq hg.symm)) hb)
                  have n1_ := Aside0.mk (Kd.R_below (by (with_reducible repeat first | apply rA | apply rN | apply rD); exact HO120.out) hb)
                  have n2_ := Aside0.mk (Kd.R_below (by (with_reducible repeat first | apply rA | apply rN | apply rD); exact HO123.out) hb)
                  have n3_ := Aside0.mk (below_step (by repeat first | exact HB.out | apply bA | apply bN | apply bD) hb)
                  have n4_ := Aside0.mk (hbox)
                  have n5_ := Aside0.mk ((by rw [hg]; exact (below_size (by repeat first | exact HB.out | apply bA | apply bN | apply bD)) : w.heap.size ≤ gb124))
                  have n6_ := Aside0.mk ((by rw [hg]; exact (below_size (by repeat first | exact HB.out | apply bA | apply bN | apply bD)) : w.heap.size ≤ gb124))
                  clear HO_9
                  clear HO120
                  clear HO123
                  clear HB
                  have HO_9 := n0_
                  have HO120 := n1_
                  have HO123 := n2_
                  have HB := n3_
                  have BK124 := n4_
                  have GW124 := n5_
                  have GE124 := n6_
                  clear n0_ n1_ n2_ n3_ n4_ n5_ n6_
                  clear hb hbox hg
                  refine hK.out _ _ trivial (fun hHeld => ?_)
                  clear hK K
                  refine norm_ (a' := ?_) ?_ ?_
                  rotate_left
                  ·show Act.put _ (some 11) _ = _
                   simp only [Act.put, lA, lZ, lS, i64_w, i32_w]
                   rfl
                  exact norm_ (by simp only [putAll, Act.put, lA, lZ, lS]; first | done | rfl) (hJ3_9_11 (v119, .slice Ao54 y121.length co54, gb124) _ ⟨(by (with_reducible repeat first | apply rA | apply rN | apply rD); exact HO120.out), (by (with_reducible repeat first | apply rA | apply rN | apply rD); exact HO123.out), (by (with_reducible repeat first | apply sA | apply sN | apply sD); exact HO_9.out), (by (with_reducible repeat (first | refine blk_drewN ?_ _ | refine blk_drew ?_ | refine blk_alloc ?_ _)); exact BK124.out), GW124.out, GE124.out, (by repeat (first | (with_reducible first | exact HB.out | apply bA | apply bN | apply bD | refine below_set ?_ GE124.out) | exact HB.out))⟩)
               ·skip
                rintro v119 w51 ⟨h0_, h1_, h2_⟩
                have n0_ : Aside0 (Kd.R (Kd.int .u8) 5 w51 w.heap.size (fun _ => True) v119 y118) := ⟨h0_⟩
                have n1_ : Aside0 (Kd.S k31 31 w51 w.heap.size (fun _ => True) u9 x9_2) := ⟨h1_⟩
                have n2_ : Aside0 (Below w.heap.size w w51) := ⟨h2_⟩
                clear HO_9
                clear HB
                clear h0_ h1_ h2_
                have HO120 := n0_
                have HO_9 := n1_
                have HB := n2_
                clear n0_ n1_ n2_
                have hHeld := trivial
                refine norm_ (a' := ?_) ?_ ?_
                rotate_left
                ·simp only [putAll, Act.put, lA, lZ, lS]
                 rfl
                refine two_ (i := 9) (j := 11) (Ni := some 44) (Nj := some 11) #[T,T,T,T,T,T,T,T,T,T,F,F,F] #[T,T,T,T,T,T,T,T,T,F,F,T,F] rfl rfl rfl rfl (two_of HT_.out (by kernel_rfl)) (by decide) (by decide) (fun K hK => ?_) (fun K hK => ?_)
                ·skip
                 refine Kd.R_lit_step (Kd.int .i64) _ 3 ?hg (N := 44) ?hd (xs := ([Int.tmod (wrap64 (x10_2 + 1)) a0] : List Int)) (inner := [.int .i64 (Int.tmod (wrap64 (x10_2 + 1)) a0)]) (ok := fun _ => True) (okp := fun _ => True) ?hr ?hp (fun _ hk => hk) trivial (Below.refl _ _) (Nat.le_refl _) (by simp) ?_; (case hd => rfl); (case hg => rfl); (case hr => first | (go_simp; done) | (go_simp; rfl)); (case hp => exact (Reps.one (show Kd.M (Kd.int .i64) _ _ _ (Int.tmod (wrap64 (x10_2 + 1)) a0) [.int .i64 (Int.tmod (wrap64 (x10_2 + 1)) a0)] from rfl) (Reps.none _ _)))
                 intro v122 w52 ho53 hb hg_ hnew_
                 clear hg_ hnew_
                 (first | rw [← Ny121.out] at ho53 | (simp only [Int.reduceToNat] at ho53; rw [← Ny121.out] at ho53))
                 have n0_ := Aside0.mk (Kd.S_elder' (by (with_reducible repeat first | apply sA | apply sN | apply sD); exact HO_9.out) (Kd.R_base ho53) hb)
                 have n1_ := Aside0.mk (Kd.R_below (by (with_reducible repeat first | apply rA | apply rN | apply rD); exact HO120.out) hb)
                 have n2_ := Aside0.mk (Kd.R_lower ho53 (below_size (by repeat first | exact HB.out | apply bA | apply bN | apply bD)))
                 have n3_ := Aside0.mk (below_step (by repeat first | exact HB.out | apply bA | apply bN | apply bD) hb)
                 clear HO_9
                 clear HO120
                 clear HB
                 have HO_9 := n0_
                 have HO120 := n1_
                 have HO123 := n2_
                 have HB := n3_
                 clear n0_ n1_ n2_ n3_
                 clear hb ho53
                 obtain ⟨Ao54, co54, eo54⟩ := Kd.R_slice HO123.out
                 (first | subst eo54 | (injection eo54 with f1_ f2_ f3_; have f4_ := f1_.symm; have f5_ := f3_.symm; clear f1_ f2_ f3_; subst f4_; subst f5_))
                 refine hK.out _ _ trivial (fun hHeld => ?_)
                 clear hK K
                 refine norm_ (a' := ?_) ?_ ?_
                 rotate_left
                 ·show Act.put _ (some 44) _ = _
                  simp only [Act.put, lA, lZ, lS, i64_w, i32_w]
                  rfl
                 refine pure_ (i := 10) (N := some 45) (v := ?_) (a' := ?_) #[T,T,T,T,T,T,T,T,T,T,T,F,F] rfl rfl (any_of HT_.out (by kernel_rfl)) (fun _ _ _ h => h) (Or.inl ⟨by rfl, ?_⟩) ?_ ?_
                 rotate_left
                 ·intro w'
                  go_simp
                  with_reducible rfl
                 rotate_left
                 ·simp only [Act.put, lA, lZ, lS, i64_w, i32_w]
                  rfl
                 exact norm_ (by simp only [putAll, Act.put, lA, lZ, lS]; first | done | rfl) (hJ3_4_9 (v119, .slice Ao54 y121.length co54) _ ⟨(by (with_reducible repeat first | apply rA | apply rN | apply rD); exact HO120.out), (by (with_reducible repeat first | apply rA | apply rN | apply rD); exact HO123.out), (by (with_reducible repeat first | apply sA | apply sN | apply sD); exact Kd.S_mono HO_9.out (fun _ hk => hk.2)), (by repeat first | exact HB.out | apply bA | apply bN | apply bD)⟩)
                ·skip
                 refine box_step ?hg (N := 11) ?hd (cs := #[.string (⟨#[]⟩ : ByteArray), .slice none 0 0]) (t := 31) ?hr ?_; (case hd => rfl); (case hg => rfl); (case hr => first | (go_simp; done) | (go_simp; rfl))
                 intro gb124 hg w52 hbox hb
                 have n0_ := Aside0.mk (Kd.S_below (Kd.S_elderB (by (with_reducible repeat first | apply sA | apply sN | apply sD); exact HO_9.out) gb124 (Nat.le_of_eq hg.symm)) hb)
                 have n1_ := Aside0.mk (Kd.R_below (by (with_reducible repeat first | apply rA | apply rN | apply rD); exact HO120.out) hb)
                 have n2_ := Aside0.mk (below_step (by repeat first | exact HB.out | apply bA | apply bN | apply bD) hb)
                 have n3_ := Aside0.mk (hbox)
                 have n4_ := Aside0.mk ((by rw [hg]; exact (below_size (by repeat first | exact HB.out | apply bA | apply bN | apply bD)) : w.heap.size ≤ gb124))
                 have n5_ := Aside0.mk ((by rw [hg]; exact (below_size (by repeat first | exact HB.out | apply bA | apply bN | apply bD)) : w.heap.size ≤ gb124))
                 clear HO_9
                 clear HO120
                 clear HB
                 have HO_9 := n0_
                 have HO120 := n1_
                 have HB := n2_
                 have BK124 := n3_
                 have GW124 := n4_
                 have GE124 := n5_
                 clear n0_ n1_ n2_ n3_ n4_ n5_
                 clear hb hbox hg
                 refine hK.out _ _ trivial (fun hHeld => ?_)
                 clear hK K
                 refine norm_ (a' := ?_) ?_ ?_
                 rotate_left
                 ·show Act.put _ (some 11) _ = _
                  simp only [Act.put, lA, lZ, lS, i64_w, i32_w]
                  rfl
                 exact norm_ (by simp only [putAll, Act.put, lA, lZ, lS]; first | done | rfl) (hJ3_4_11 (v119, gb124) _ ⟨(by (with_reducible repeat first | apply rA | apply rN | apply rD); exact HO120.out), (by (with_reducible repeat first | apply sA | apply sN | apply sD); exact Kd.S_mono HO_9.out (fun _ hk => hk.2)), (by (with_reducible repeat (first | refine blk_drewN ?_ _ | refine blk_drew ?_ | refine blk_alloc ?_ _)); exact BK124.out), GW124.out, GE124.out, (by repeat (first | (with_reducible first | exact HB.out | apply bA | apply bN | apply bD | refine below_set ?_ GE124.out) | exact HB.out))⟩)
              ·skip
               rintro ⟨v119, v122, gb124⟩ w53 ⟨h0_, h1_, h2_, h3_, h4_, h5_, h6_⟩
               have n0_ : Aside0 (Kd.R (Kd.int .u8) 5 w53 w.heap.size (fun _ => True) v119 y118) := ⟨h0_⟩
               have n1_ : Aside0 (Kd.R (Kd.int .i64) 3 w53 w.heap.size (fun _ => True) v122 y121) := ⟨h1_⟩
               have n2_ : Aside0 (Kd.S k31 31 w53 w.heap.size (fun k_ => some k_ ≠ (v122 : Value).ownBlock ∧ k_ ≠ gb124) u9 x9_2) := ⟨h2_⟩
               have n3_ : Aside0 (w53.heap[gb124]? = some (.cells #[.string (⟨#[]⟩ : ByteArray), .slice none 0 0] 31 (0, 0))) := ⟨h3_⟩
               have n4_ : Aside0 (w.heap.size ≤ gb124) := ⟨h4_⟩
               have n5_ : Aside0 (w.heap.size ≤ gb124) := ⟨h5_⟩
               have n6_ : Aside0 (Below w.heap.size w w53) := ⟨h6_⟩
               clear HO_9
               clear HB
               clear h0_ h1_ h2_ h3_ h4_ h5_ h6_
               have HO120 := n0_
               have HO123 := n1_
               have HO_9 := n2_
               have BK124 := n3_
               have GW124 := n4_
               have GE124 := n5_
               have HB := n6_
               clear n0_ n1_ n2_ n3_ n4_ n5_ n6_
               have hHeld := trivial
               obtain ⟨Ao55, co55, eo55⟩ := Kd.R_slice HO123.out
               (first | subst eo55 | (injection eo55 with f1_ f2_ f3_; have f4_ := f1_.symm; have f5_ := f3_.symm; clear f1_ f2_ f3_; subst f4_; subst f5_))
               refine norm_ (a' := ?_) ?_ ?_
               rotate_left
               ·simp only [putAll, Act.put, lA, lZ, lS]
                rfl
               refine one_ (i := 4) (N := some 39) #[T,T,T,T,T,T,T,T,T,T,F,T,F] rfl rfl (one_of HT_.out (by kernel_rfl)) (by decide) (fun K hK => ?_)
               have hcv54 := own_string (P := Try.prog) Try.underlying40 Try.underlying5 Try.underlying9 (Kd.own_of_R HO120.out)
               refine value_ (w1 := ?_) (v := ?_) (by rfl) rfl ?_ ?_
               rotate_left 2
               ·go_simp
                constructor
                ·rfl
                ·rfl
               clear hcv54
               refine hK.out _ _ trivial (fun hHeld => ?_)
               clear hK K
               refine norm_ (a' := ?_) ?_ ?_
               rotate_left
               ·show Act.put _ (some 39) _ = _
                simp only [Act.put, lA, lZ, lS, i64_w, i32_w]
                rfl
               refine pure_ (i := 10) (N := some 45) (v := ?_) (a' := ?_) #[T,T,T,T,T,T,T,T,T,T,T,T,F] rfl rfl (any_of HT_.out (by kernel_rfl)) (fun _ _ _ h => h) (Or.inl ⟨by rfl, ?_⟩) ?_ ?_
               rotate_left
               ·intro w'
                go_simp
                with_reducible rfl
               rotate_left
               ·simp only [Act.put, lA, lZ, lS, i64_w, i32_w]
                rfl
               exact norm_ (by simp only [putAll, Act.put, lA, lZ, lS]; first | done | rfl) (hJ3_4_9_11 (v119, .slice Ao55 y121.length co55, gb124) _ ⟨(by (with_reducible repeat first | apply rA | apply rN | apply rD); exact HO120.out), (by (with_reducible repeat first | apply rA | apply rN | apply rD); exact HO123.out), (by (with_reducible repeat first | apply sA | apply sN | apply sD); exact HO_9.out), (by (with_reducible repeat (first | refine blk_drewN ?_ _ | refine blk_drew ?_ | refine blk_alloc ?_ _)); exact BK124.out), GW124.out, GE124.out, (by repeat (first | (with_reducible first | exact HB.out | apply bA | apply bN | apply bD | refine below_set ?_ GE124.out) | exact HB.out))⟩)
             ·skip
              rintro ⟨v119, gb124⟩ w52 ⟨h0_, h1_, h2_, h3_, h4_, h5_⟩
              have n0_ : Aside0 (Kd.R (Kd.int .u8) 5 w52 w.heap.size (fun _ => True) v119 y118) := ⟨h0_⟩
              have n1_ : Aside0 (Kd.S k31 31 w52 w.heap.size (fun k_ => k_ ≠ gb124) u9 x9_2) := ⟨h1_⟩
              have n2_ : Aside0 (w52.heap[gb124]? = some (.cells #[.string (⟨#[]⟩ : ByteArray), .slice none 0 0] 31 (0, 0))) := ⟨h2_⟩
              have n3_ : Aside0 (w.heap.size ≤ gb124) := ⟨h3_⟩
              have n4_ : Aside0 (w.heap.size ≤ gb124) := ⟨h4_⟩
              have n5_ : Aside0 (Below w.heap.size w w52) := ⟨h5_⟩
              clear HO_9
              clear HB
              clear h0_ h1_ h2_ h3_ h4_ h5_
              have HO120 := n0_
              have HO_9 := n1_
              have BK124 := n2_
              have GW124 := n3_
              have GE124 := n4_
              have HB := n5_
              clear n0_ n1_ n2_ n3_ n4_ n5_
              have hHeld := trivial
              refine norm_ (a' := ?_) ?_ ?_
              rotate_left
              ·simp only [putAll, Act.put, lA, lZ, lS]
               rfl
              refine one_ (i := 9) (N := some 44) #[T,T,T,T,T,T,T,T,T,T,F,T,F] rfl rfl (one_of HT_.out (by kernel_rfl)) (by decide) (fun K hK => ?_)
              refine Kd.R_lit_step (Kd.int .i64) _ 3 ?hg (N := 44) ?hd (xs := ([Int.tmod (wrap64 (x10_2 + 1)) a0] : List Int)) (inner := [.int .i64 (Int.tmod (wrap64 (x10_2 + 1)) a0)]) (ok := fun _ => True) (okp := fun _ => True) ?hr ?hp (fun _ hk => hk) trivial (Below.refl _ _) (Nat.le_refl _) (by simp) ?_; (case hd => rfl); (case hg => rfl); (case hr => first | (go_simp; done) | (go_simp; rfl)); (case hp => exact (Reps.one (show Kd.M (Kd.int .i64) _ _ _ (Int.tmod (wrap64 (x10_2 + 1)) a0) [.int .i64 (Int.tmod (wrap64 (x10_2 + 1)) a0)] from rfl) (Reps.none _ _)))
              intro v122 w53 ho54 hb hg_ hnew_
              clear hg_ hnew_
              (first | rw [← Ny121.out] at ho54 | (simp only [Int.reduceToNat] at ho54; rw [← Ny121.out] at ho54))
              have n0_ := Aside0.mk (Kd.S_elder' (by (with_reducible repeat first | apply sA | apply sN | apply sD); exact HO_9.out) (Kd.R_base ho54) hb)
              have n1_ := Aside0.mk (Kd.R_below (by (with_reducible repeat first | apply rA | apply rN | apply rD); exact HO120.out) hb)
              have n2_ := Aside0.mk (Kd.R_lower ho54 (below_size (by repeat (first | (with_reducible first | exact HB.out | apply bA | apply bN | apply bD | refine below_set ?_ GE124.out) | exact HB.out))))
              have n3_ := Aside0.mk (blk_below (g := gb124) (o := .cells #[.string (⟨#[]⟩ : ByteArray), .slice none 0 0] 31 (0, 0)) (by (with_reducible repeat (first | refine blk_drewN ?_ _ | refine blk_drew ?_ | refine blk_alloc ?_ _)); exact BK124.out) hb)
              have n4_ := Aside0.mk (below_step (by repeat (first | (with_reducible first | exact HB.out | apply bA | apply bN | apply bD | refine below_set ?_ GE124.out) | exact HB.out)) hb)
              clear HO_9
              clear HO120
              clear BK124
              clear HB
              have HO_9 := n0_
              have HO120 := n1_
              have HO123 := n2_
              have BK124 := n3_
              have HB := n4_
              clear n0_ n1_ n2_ n3_ n4_
              clear hb ho54
              obtain ⟨Ao55, co55, eo55⟩ := Kd.R_slice HO123.out
              (first | subst eo55 | (injection eo55 with f1_ f2_ f3_; have f4_ := f1_.symm; have f5_ := f3_.symm; clear f1_ f2_ f3_; subst f4_; subst f5_))
              refine hK.out _ _ trivial (fun hHeld => ?_)
              clear hK K
              refine norm_ (a' := ?_) ?_ ?_
              rotate_left
              ·show Act.put _ (some 44) _ = _
               simp only [Act.put, lA, lZ, lS, i64_w, i32_w]
               rfl
              refine pure_ (i := 10) (N := some 45) (v := ?_) (a' := ?_) #[T,T,T,T,T,T,T,T,T,T,T,T,F] rfl rfl (any_of HT_.out (by kernel_rfl)) (fun _ _ _ h => h) (Or.inl ⟨by rfl, ?_⟩) ?_ ?_
              rotate_left
              ·intro w'
               go_simp
               with_reducible rfl
              rotate_left
              ·simp only [Act.put, lA, lZ, lS, i64_w, i32_w]
               rfl
              exact norm_ (by simp only [putAll, Act.put, lA, lZ, lS]; first | done | rfl) (hJ3_4_9_11 (v119, .slice Ao55 y121.length co55, gb124) _ ⟨(by (with_reducible repeat first | apply rA | apply rN | apply rD); exact HO120.out), (by (with_reducible repeat first | apply rA | apply rN | apply rD); exact HO123.out), (by (with_reducible repeat first | apply sA | apply sN | apply sD); exact Kd.S_mono HO_9.out (fun _ hk => ⟨hk.2, hk.1⟩)), (by (with_reducible repeat (first | refine blk_drewN ?_ _ | refine blk_drew ?_ | refine blk_alloc ?_ _)); exact BK124.out), GW124.out, GE124.out, (by repeat (first | (with_reducible first | exact HB.out | apply bA | apply bN | apply bD | refine below_set ?_ GE124.out) | exact HB.out))⟩)
            ·skip
             rintro ⟨v119, v122⟩ w54 ⟨h0_, h1_, h2_, h3_⟩
             have n0_ : Aside0 (Kd.R (Kd.int .u8) 5 w54 w.heap.size (fun _ => True) v119 y118) := ⟨h0_⟩
             have n1_ : Aside0 (Kd.R (Kd.int .i64) 3 w54 w.heap.size (fun _ => True) v122 y121) := ⟨h1_⟩
             have n2_ : Aside0 (Kd.S k31 31 w54 w.heap.size (fun k_ => some k_ ≠ (v122 : Value).ownBlock) u9 x9_2) := ⟨h2_⟩
             have n3_ : Aside0 (Below w.heap.size w w54) := ⟨h3_⟩
             clear HO_9
             clear HB
             clear h0_ h1_ h2_ h3_
             have HO120 := n0_
             have HO123 := n1_
             have HO_9 := n2_
             have HB := n3_
             clear n0_ n1_ n2_ n3_
             have hHeld := trivial
             obtain ⟨Ao55, co55, eo55⟩ := Kd.R_slice HO123.out
             (first | subst eo55 | (injection eo55 with f1_ f2_ f3_; have f4_ := f1_.symm; have f5_ := f3_.symm; clear f1_ f2_ f3_; subst f4_; subst f5_))
             refine norm_ (a' := ?_) ?_ ?_
             rotate_left
             ·simp only [putAll, Act.put, lA, lZ, lS]
              rfl
             refine one_ (i := 11) (N := some 11) #[T,T,T,T,T,T,T,T,T,T,T,T,F] rfl rfl (one_of HT_.out (by kernel_rfl)) (by decide) (fun K hK => ?_)
             refine box_step ?hg (N := 11) ?hd (cs := #[.string (⟨#[]⟩ : ByteArray), .slice none 0 0]) (t := 31) ?hr ?_; (case hd => rfl); (case hg => rfl); (case hr => first | (go_simp; done) | (go_simp; rfl))
             intro gb124 hg w56 hbox hb
             have n0_ := Aside0.mk (Kd.S_below (Kd.S_elderB (by (with_reducible repeat first | apply sA | apply sN | apply sD); exact HO_9.out) gb124 (Nat.le_of_eq hg.symm)) hb)
             have n1_ := Aside0.mk (Kd.R_below (by (with_reducible repeat first | apply rA | apply rN | apply rD); exact HO120.out) hb)
             have n2_ := Aside0.mk (Kd.R_below (by (with_reducible repeat first | apply rA | apply rN | apply rD); exact HO123.out) hb)
             have n3_ := Aside0.mk (below_step (by repeat first | exact HB.out | apply bA | apply bN | apply bD) hb)
             have n4_ := Aside0.mk (hbox)
             have n5_ := Aside0.mk ((by rw [hg]; exact (below_size (by repeat first | exact HB.out | apply bA | apply bN | apply bD)) : w.heap.size ≤ gb124))
             have n6_ := Aside0.mk ((by rw [hg]; exact (below_size (by repeat first | exact HB.out | apply bA | apply bN | apply bD)) : w.heap.size ≤ gb124))
             clear HO_9
             clear HO120
             clear HO123
             clear HB
             have HO_9 := n0_
             have HO120 := n1_
             have HO123 := n2_
             have HB := n3_
             have BK124 := n4_
             have GW124 := n5_
             have GE124 := n6_
             clear n0_ n1_ n2_ n3_ n4_ n5_ n6_
             clear hb hbox hg
             refine hK.out _ _ trivial (fun hHeld => ?_)
             clear hK K
             refine norm_ (a' := ?_) ?_ ?_
             rotate_left
             ·show Act.put _ (some 11) _ = _
              simp only [Act.put, lA, lZ, lS, i64_w, i32_w]
              rfl
             exact norm_ (by simp only [putAll, Act.put, lA, lZ, lS]; first | done | rfl) (hJ3_4_9_11 (v119, .slice Ao55 y121.length co55, gb124) _ ⟨(by (with_reducible repeat first | apply rA | apply rN | apply rD); exact HO120.out), (by (with_reducible repeat first | apply rA | apply rN | apply rD); exact HO123.out), (by (with_reducible repeat first | apply sA | apply sN | apply sD); exact HO_9.out), (by (with_reducible repeat (first | refine blk_drewN ?_ _ | refine blk_drew ?_ | refine blk_alloc ?_ _)); exact BK124.out), GW124.out, GE124.out, (by repeat (first | (with_reducible first | exact HB.out | apply bA | apply bN | apply bD | refine below_set ?_ GE124.out) | exact HB.out))⟩)
           rintro ⟨v119, v122, gb124⟩ w55 ⟨h0_, h1_, h2_, h3_, h4_, h5_, h6_⟩
           have n0_ : Aside0 (Kd.R (Kd.int .u8) 5 w55 w.heap.size (fun _ => True) v119 y118) := ⟨h0_⟩
           have n1_ : Aside0 (Kd.R (Kd.int .i64) 3 w55 w.heap.size (fun _ => True) v122 y121) := ⟨h1_⟩
           have n2_ : Aside0 (Kd.S k31 31 w55 w.heap.size (fun k_ => some k_ ≠ (v122 : Value).ownBlock ∧ k_ ≠ gb124) u9 x9_2) := ⟨h2_⟩
           have n3_ : Aside0 (w55.heap[gb124]? = some (.cells #[.string (⟨#[]⟩ : ByteArray), .slice none 0 0] 31 (0, 0))) := ⟨h3_⟩
           have n4_ : Aside0 (w.heap.size ≤ gb124) := ⟨h4_⟩
           have n5_ : Aside0 (w.heap.size ≤ gb124) := ⟨h5_⟩
           have n6_ : Aside0 (Below w.heap.size w w55) := ⟨h6_⟩
           clear HO_9
           clear HB
           clear h0_ h1_ h2_ h3_ h4_ h5_ h6_
           have HO120 := n0_
           have HO123 := n1_
           have HO_9 := n2_
           have BK124 := n3_
           have GW124 := n4_
           have GE124 := n5_
           have HB := n6_
           clear n0_ n1_ n2_ n3_ n4_ n5_ n6_
           have hHeld := trivial
           obtain ⟨Ao56, co56, eo56⟩ := Kd.R_slice HO123.out
           (first | subst eo56 | (injection eo56 with f1_ f2_ f3_; have f4_ := f1_.symm; have f5_ := f3_.symm; clear f1_ f2_ f3_; subst f4_; subst f5_))
           refine norm_ (a' := ?_) ?_ ?_
           rotate_left
           ·simp only [putAll, Act.put, lA, lZ, lS]
            rfl
           refine one_ (i := 12) (N := none) #[T,T,T,T,T,T,T,T,T,T,T,T,T] rfl rfl (one_of HT_.out (by kernel_rfl)) (by decide) (fun K hK => ?_)
           have hs57 : w55.cell? ⟨gb124, 0, none⟩ = some (.string (⟨#[]⟩ : ByteArray)) := (blk_cell BK124.out 0).trans rfl
           have hfs57 := blk_frozen BK124.out 0
           have hs58 : w55.cell? ⟨gb124, 1, none⟩ = some (.slice none 0 0) := (blk_cell BK124.out 1).trans rfl
           have hfs58 := blk_frozen BK124.out 1
           refine skip_ (w1 := ?_) (by rfl) rfl ?_ ?_
           rotate_left
           ·go_simp
            rfl
           refine hK.out _ _ trivial (fun hHeld => ?_)
           clear hK K
           refine done_ (done_of HT_.out (by kernel_rfl)) ?_
           have n0_ : Aside0 (Kd.S k31 31 ((w55.setCell ⟨gb124, 0, none⟩ (.string (strOfNums y118))).setCell ⟨gb124, 1, none⟩ (.slice Ao56 y121.length co56)) w.heap.size (fun k_ => some k_ ≠ (.slice Ao56 y121.length co56 : Value).ownBlock ∧ k_ ≠ gb124) u9 x9_2) := ⟨by (with_reducible repeat first | apply sA | apply sN | apply sD); exact Kd.S_mono (Kd.S_far (p := ⟨gb124, 1, none⟩) (Kd.S_far (p := ⟨gb124, 0, none⟩) (Kd.S_mono HO_9.out (fun k_ hk => (⟨hk, hk.2⟩ : _ ∧ k_ ≠ gb124))) (fun _ hk => hk.2) (.string (strOfNums y118))) (fun _ hk => hk.2) (.slice Ao56 y121.length co56)) (fun _ hk => ⟨hk.1.1, hk.1.2⟩)⟩
           have n1_ : Aside0 (Kd.R (Kd.int .u8) 5 ((w55.setCell ⟨gb124, 0, none⟩ (.string (strOfNums y118))).setCell ⟨gb124, 1, none⟩ (.slice Ao56 y121.length co56)) w.heap.size (fun _ => True) v119 y118) := ⟨by (with_reducible repeat first | apply rA | apply rN | apply rD); exact Kd.R_mono (Kd.R_far (p := ⟨gb124, 1, none⟩) (Kd.R_far (p := ⟨gb124, 0, none⟩) (Kd.R_types HO120.out BK124.out (by decide)) (fun _ hk => hk.2) (.string (strOfNums y118))) (fun _ hk => hk.2) (.slice Ao56 y121.length co56)) (fun _ hk => trivial)⟩
           have n2_ : Aside0 (Kd.R (Kd.int .i64) 3 ((w55.setCell ⟨gb124, 0, none⟩ (.string (strOfNums y118))).setCell ⟨gb124, 1, none⟩ (.slice Ao56 y121.length co56)) w.heap.size (fun _ => True) (.slice Ao56 y121.length co56) y121) := ⟨by (with_reducible repeat first | apply rA | apply rN | apply rD); exact Kd.R_mono (Kd.R_far (p := ⟨gb124, 1, none⟩) (Kd.R_far (p := ⟨gb124, 0, none⟩) (Kd.R_types HO123.out BK124.out (by decide)) (fun _ hk => hk.2) (.string (strOfNums y118))) (fun _ hk => hk.2) (.slice Ao56 y121.length co56)) (fun _ hk => trivial)⟩
           have n3_ : Aside0 (((w55.setCell ⟨gb124, 0, none⟩ (.string (strOfNums y118))).setCell ⟨gb124, 1, none⟩ (.slice Ao56 y121.length co56)).heap[gb124]? = some (.cells #[.string (strOfNums y118), .slice Ao56 y121.length co56] 31 (0, 0))) := ⟨by (with_reducible repeat (first | refine blk_drewN ?_ _ | refine blk_drew ?_ | refine blk_alloc ?_ _)); refine blk_put (cs := #[.string (strOfNums y118), .slice none 0 0]) ?_ 1 _ rfl; (with_reducible repeat (first | refine blk_drewN ?_ _ | refine blk_drew ?_ | refine blk_alloc ?_ _)); refine blk_put (cs := #[.string (⟨#[]⟩ : ByteArray), .slice none 0 0]) ?_ 0 _ rfl; (with_reducible repeat (first | refine blk_drewN ?_ _ | refine blk_drew ?_ | refine blk_alloc ?_ _)); exact BK124.out⟩
           have n4_ : Aside0 (Below w.heap.size w ((w55.setCell ⟨gb124, 0, none⟩ (.string (strOfNums y118))).setCell ⟨gb124, 1, none⟩ (.slice Ao56 y121.length co56))) := ⟨by repeat (first | (with_reducible first | exact HB.out | apply bA | apply bN | apply bD | refine below_set ?_ GE124.out) | exact HB.out)⟩
           (try clear HO_9)
           (try clear HO120)
           (try clear HO123)
           (try clear BK124)
           (try clear HB)
           generalize ((w55.setCell ⟨gb124, 0, none⟩ (.string (strOfNums y118))).setCell ⟨gb124, 1, none⟩ (.slice Ao56 y121.length co56)) = w59 at n0_ n1_ n2_ n3_ n4_ ⊢
           have HO_9 := n0_
           have HO120 := n1_
           have HO123 := n2_
           have BK124 := n3_
           have HB := n4_
           clear n0_ n1_ n2_ n3_ n4_
           have hcz60_0 : w59.cell? ⟨gb124, 0, none⟩ = some (.string (strOfNums y118)) := (blk_cell BK124.out 0).trans rfl
           have hcz60_1 : w59.cell? ⟨gb124, 1, none⟩ = some (.slice Ao56 y121.length co56) := (blk_cell BK124.out 1).trans rfl
           have hfz60_0 := blk_frozen BK124.out 0
           have hfz60_1 := blk_frozen BK124.out 1
           try go_wp2_with (first | ((with_reducible refine gate_builtin (b := .append) (xs := #[.tmp 54, .tmp 56]) rfl ?_); (try (refine gate_guard (by rfl) ?_; dsimp only)); at_builtin; refine Kd.S_append k31 (w0 := w) w.heap.size rfl (.tmp 54) (.tmp 56) 22 31 (.agg #[(.string ⟨#[]⟩), (.slice none 0 0)]) 40 rfl Try.underlying22 info31 rfl (by decide) (by omega) u9 x9_2 (⟨strOfNums y118, y121⟩ : S31) [.string (strOfNums y118), .slice Ao56 y121.length co56] (fun k_ => k_ ≠ gb124) (fun k_ => some k_ = (.slice Ao56 y121.length co56 : Value).ownBlock) rfl rfl ?aP (fun k_ hk_ => ((Kd.R_mono (ok' := fun k_ => ((fun k_ => k_ ≠ gb124)) k_ ∧ some k_ ≠ (u9 : Value).ownBlock) (Kd.R_types (Kd.R_apart' (HO123.out) (Kd.S_typed HO_9.out) (by decide)) BK124.out (by decide)) (fun k_ hk => ⟨hk.2, hk.1.2⟩))).1 k_ hk_.symm) ?aF ?aO ?aB ?aS ?aL ?_; (case aP => exact k31_mkM _ _ _ (⟨strOfNums y118, y121⟩ : S31) (Kd.R_mono (Kd.R_tight rfl (Kd.R_mono (ok' := fun k_ => ((fun k_ => k_ ≠ gb124)) k_ ∧ some k_ ≠ (u9 : Value).ownBlock) (Kd.R_types (Kd.R_apart' (HO123.out) (Kd.S_typed HO_9.out) (by decide)) BK124.out (by decide)) (fun k_ hk => ⟨hk.2, hk.1.2⟩))) (fun _ h_ => h_))); (case aB => exact (by repeat (first | (with_reducible first | exact HB.out | apply bA | apply bN | apply bD | refine below_set ?_ GE124.out) | exact HB.out))); (case aF => exact (fun k_ hk => Kd.freshB (g := gb124) (o := .cells #[.string (strOfNums y118), .slice Ao56 y121.length co56] 31 (0, 0)) (by (with_reducible repeat (first | refine blk_drewN ?_ _ | refine blk_drew ?_ | refine blk_alloc ?_ _)); exact BK124.out) k_ hk)); (case aO => exact (by (with_reducible repeat first | apply sA | apply sN | apply sD); exact Kd.S_mono HO_9.out (fun k_ hk => ⟨hk.2, fun e_ => hk.1 e_⟩))); (case aS => exact (below_size (by repeat (first | (with_reducible first | exact HB.out | apply bA | apply bN | apply bD | refine below_set ?_ GE124.out) | exact HB.out)))); (case aL => have := LMc46.out; omega); intro v132 w61 ho hb hg hat; rw [← Ny131.out] at ho; have n0_ := Aside0.mk (Kd.R_over' (by (with_reducible repeat first | apply rA | apply rN | apply rD); exact HO120.out) (Kd.S_typed (by (with_reducible repeat first | apply sA | apply sN | apply sD); exact HO_9.out)) (by decide) hg); have n1_ := Aside0.mk (blk_grown (g := gb124) (o := .cells #[.string (strOfNums y118), .slice Ao56 y121.length co56] 31 (0, 0)) (by (with_reducible repeat (first | refine blk_drewN ?_ _ | refine blk_drew ?_ | refine blk_alloc ?_ _)); exact BK124.out) hg (Kd.S_away HO_9.out (fun _ hk => hk.2))); have n2_ := Aside0.mk (hb); have n3_ := Aside0.mk (ho); clear HO120; clear BK124; clear HB; clear HO_9; clear HO123; have HO120 := n0_; have BK124 := n1_; have HB := n2_; have HO133 := n3_; clear n0_ n1_ n2_ n3_; clear ho hb hg hat))
           go_roundg k2
           case measure => have := HJ4.out; have := HK2.out; omega
           case rel => exact ⟨(y131), (wrap64 (x10_2 + 1)), (by first | rfl | (simp; done) | (simp [*]; done)), H', ⟨by have := HJ4.out; have := HK2.out; omega⟩, ⟨by (with_reducible repeat first | apply sA | apply sN | apply sD); exact Kd.S_mono HO133.out (fun _ hk => trivial)⟩, ⟨by repeat (first | (with_reducible first | exact HB.out | apply bA | apply bN | apply bD | refine below_set ?_ GE124.out) | exact HB.out)⟩⟩
          ·rw [if_neg c46] at H
           exact absurd H (by simp)
       ·rw [if_neg c11] at H
        have c11b0 : decide (x10_2 < a0) = false := decide_eq_false c11
        clear c11
        replace H := Option.bind_eq_some_iff.mp H
        obtain ⟨⟨t134, t135⟩, A620, H⟩ := H
        replace H : (if a2 = true then (if t117 = true then (if t135 = 13 then (if (t134.length : Int) = 0 then ((graph_Users.f x9_2 (Int.tmod a1 a0)).bind fun t138 => (some ((t138.length : Int) == a0))) else (some false)) else (some false)) else (some false)) else (if t135 = 0 then (carlinglaw21_GraphRing.j2 k2 a0 t117 (Int.tmod a1 a0) x9_2 t134 ((t134.length : Int) != a0)) else (carlinglaw21_GraphRing.j2 k2 a0 t117 (Int.tmod a1 a0) x9_2 t134 true))) = some r := H
        have A62 := Aside0.mk A620
        clear A620
        by_cases c63 : a2 = true
        ·subst c63
         have H1 : (if t117 = true then (if t135 = 13 then (if (t134.length : Int) = 0 then ((graph_Users.f x9_2 (Int.tmod a1 a0)).bind fun t138 => (some ((t138.length : Int) == a0))) else (some false)) else (some false)) else (some false)) = some r := by rw [if_pos rfl] at H; exact H
         clear H
         have H := H1
         clear H1
         by_cases c64 : t117 = true
         ·subst c64
          have H1 : (if t135 = 13 then (if (t134.length : Int) = 0 then ((graph_Users.f x9_2 (Int.tmod a1 a0)).bind fun t138 => (some ((t138.length : Int) == a0))) else (some false)) else (some false)) = some r := by rw [if_pos rfl] at H; exact H
          clear H
          have H := H1
          clear H1
          by_cases c65 : t135 = 13
          ·rw [if_pos c65] at H
           have c65b0 : (t135 == 13) = true := beq_iff_eq.mpr c65
           have c65b1 : (t135 != 13) = false := bne_eq_false_iff_eq.mpr c65
           clear c65
           by_cases c66 : (t134.length : Int) = 0
           ·rw [if_pos c66] at H
            have c66b0 : ((t134.length : Int) == 0) = true := beq_iff_eq.mpr c66
            have c66b1 : ((t134.length : Int) != 0) = false := bne_eq_false_iff_eq.mpr c66
            clear c66
            replace H := Option.bind_eq_some_iff.mp H
            obtain ⟨t138, A670, H⟩ := H
            replace H : (some ((t138.length : Int) == a0)) = some r := H
            have A67 := Aside0.mk A670
            clear A670
            obtain rfl := Option.some.inj H
            obtain ⟨Ao68, co68, eo68⟩ := Kd.S_slice HO_9.out
            subst eo68
            go_wp2_with (first | ((with_reducible refine gate_callee (f := 16) rfl ?_); refine goesL_ (some 60) rfl rfl Try.func16 (by kernel_rfl) rfl #[.slice Ao68 x9_2.length co68] rfl (by (try simp only [List.map_toArray, List.map_cons, List.map_nil]); first | done | rfl | (simp only [List.length_drop, List.length_take]; rfl)) ?_; (with_reducible refine (graph_Order.calls _ _ x9_2 t134 t135 _ ?side1 ?side2 A62.out).mono ?_); (case side1 => repeat (first | exact (Kd.S_reads' HO_9.out).2.2 | (with_reducible refine Kd.C_alloc ?_ _) | (with_reducible refine Kd.C_drewN ?_ _) | (with_reducible refine Kd.C_drew ?_))); (case side2 => exact (Kd.S_reads' HO_9.out).2.1); rintro e w69 ⟨v136, rfl, ho0, hb⟩; refine ⟨_, rfl, ?_⟩; have n0_ := Aside0.mk (Kd.S_elder' (by (with_reducible repeat first | apply sA | apply sN | apply sD); exact HO_9.out) (Kd.R_base ho0) hb); have n1_ := Aside0.mk (Kd.R_lower ho0 (below_size (by repeat first | exact HB.out | apply bA | apply bN | apply bD))); have n2_ := Aside0.mk (below_step (by repeat first | exact HB.out | apply bA | apply bN | apply bD) hb); clear HO_9; clear HB; have HO_9 := n0_; have HO137 := n1_; have HB := n2_; clear n0_ n1_ n2_; (try clear hb); (try clear hb2); (try clear hk); (try clear hi); (try clear ho0); obtain ⟨Ao70, co70, eo70⟩ := Kd.R_slice HO137.out; subst eo70) | (go_at_call 21; (with_reducible refine (graph_Users.calls _ _ x9_2 (Int.tmod a1 a0) t138 _ ?side1 ?side2 A67.out).mono ?_); (case side1 => repeat (first | exact (Kd.S_reads' HO_9.out).2.2 | (with_reducible refine Kd.C_alloc ?_ _) | (with_reducible refine Kd.C_drewN ?_ _) | (with_reducible refine Kd.C_drew ?_))); (case side2 => exact (Kd.S_reads' HO_9.out).2.1); rintro e w71 ⟨v139, rfl, ho0, hb⟩; have n0_ := Aside0.mk (Kd.S_elder' (by (with_reducible repeat first | apply sA | apply sN | apply sD); exact HO_9.out) (Kd.R_base ho0) hb); have n1_ := Aside0.mk (Kd.R_elder' (by (with_reducible repeat first | apply rA | apply rN | apply rD); exact HO137.out) (Kd.R_base ho0) hb); have n2_ := Aside0.mk (Kd.R_lower (Kd.R_new' ho0 (Kd.R_lt (by (with_reducible repeat first | apply rA | apply rN | apply rD); exact HO137.out))) (below_size (by repeat first | exact HB.out | apply bA | apply bN | apply bD))); have n3_ := Aside0.mk (below_step (by repeat first | exact HB.out | apply bA | apply bN | apply bD) hb); clear HO_9; clear HO137; clear HB; have HO_9 := n0_; have HO137 := n1_; have HO140 := n2_; have HB := n3_; clear n0_ n1_ n2_ n3_; (try clear hb); (try clear hb2); (try clear hk); (try clear hi); (try clear ho0); obtain ⟨Ao72, co72, eo72⟩ := Kd.R_slice HO140.out; subst eo72))
            go_ret
            exact ⟨by first | rfl | (simp [errW_none, errW_some] <;> rfl) | (simp [*, errW_none, errW_some] <;> rfl), by repeat (first | (with_reducible first | exact HB.out | apply bA | apply bN | apply bD) | exact HB.out)⟩
           ·rw [if_neg c66] at H
            have c66b0 : ((t134.length : Int) == 0) = false := beq_eq_false_iff_ne.mpr c66
            have c66b1 : ((t134.length : Int) != 0) = true := bne_iff_ne.mpr c66
            have c66b2 : ¬ (t134 = []) := fun h_ => c66 (by rw [h_]; rfl)
            obtain rfl := Option.some.inj H
            obtain ⟨Ao73, co73, eo73⟩ := Kd.S_slice HO_9.out
            subst eo73
            go_wp2_with (first | ((with_reducible refine gate_callee (f := 16) rfl ?_); refine goesL_ (some 60) rfl rfl Try.func16 (by kernel_rfl) rfl #[.slice Ao73 x9_2.length co73] rfl (by (try simp only [List.map_toArray, List.map_cons, List.map_nil]); first | done | rfl | (simp only [List.length_drop, List.length_take]; rfl)) ?_; (with_reducible refine (graph_Order.calls _ _ x9_2 t134 t135 _ ?side1 ?side2 A62.out).mono ?_); (case side1 => repeat (first | exact (Kd.S_reads' HO_9.out).2.2 | (with_reducible refine Kd.C_alloc ?_ _) | (with_reducible refine Kd.C_drewN ?_ _) | (with_reducible refine Kd.C_drew ?_))); (case side2 => exact (Kd.S_reads' HO_9.out).2.1); rintro e w74 ⟨v136, rfl, ho0, hb⟩; refine ⟨_, rfl, ?_⟩; have n0_ := Aside0.mk (Kd.S_elder' (by (with_reducible repeat first | apply sA | apply sN | apply sD); exact HO_9.out) (Kd.R_base ho0) hb); have n1_ := Aside0.mk (Kd.R_lower ho0 (below_size (by repeat first | exact HB.out | apply bA | apply bN | apply bD))); have n2_ := Aside0.mk (below_step (by repeat first | exact HB.out | apply bA | apply bN | apply bD) hb); clear HO_9; clear HB; have HO_9 := n0_; have HO137 := n1_; have HB := n2_; clear n0_ n1_ n2_; (try clear hb); (try clear hb2); (try clear hk); (try clear hi); (try clear ho0); obtain ⟨Ao75, co75, eo75⟩ := Kd.R_slice HO137.out; subst eo75))
            go_ret
            exact ⟨by first | rfl | (simp [errW_none, errW_some] <;> rfl) | (simp [*, errW_none, errW_some] <;> rfl), by repeat (first | (with_reducible first | exact HB.out | apply bA | apply bN | apply bD) | exact HB.out)⟩
          ·rw [if_neg c65] at H
           have c65b0 : (t135 == 13) = false := beq_eq_false_iff_ne.mpr c65
           have c65b1 : (t135 != 13) = true := bne_iff_ne.mpr c65
           obtain rfl := Option.some.inj H
           obtain ⟨Ao76, co76, eo76⟩ := Kd.S_slice HO_9.out
           subst eo76
           go_wp2_with (first | ((with_reducible refine gate_callee (f := 16) rfl ?_); refine goesL_ (some 60) rfl rfl Try.func16 (by kernel_rfl) rfl #[.slice Ao76 x9_2.length co76] rfl (by (try simp only [List.map_toArray, List.map_cons, List.map_nil]); first | done | rfl | (simp only [List.length_drop, List.length_take]; rfl)) ?_; (with_reducible refine (graph_Order.calls _ _ x9_2 t134 t135 _ ?side1 ?side2 A62.out).mono ?_); (case side1 => repeat (first | exact (Kd.S_reads' HO_9.out).2.2 | (with_reducible refine Kd.C_alloc ?_ _) | (with_reducible refine Kd.C_drewN ?_ _) | (with_reducible refine Kd.C_drew ?_))); (case side2 => exact (Kd.S_reads' HO_9.out).2.1); rintro e w77 ⟨v136, rfl, ho0, hb⟩; refine ⟨_, rfl, ?_⟩; have n0_ := Aside0.mk (Kd.S_elder' (by (with_reducible repeat first | apply sA | apply sN | apply sD); exact HO_9.out) (Kd.R_base ho0) hb); have n1_ := Aside0.mk (Kd.R_lower ho0 (below_size (by repeat first | exact HB.out | apply bA | apply bN | apply bD))); have n2_ := Aside0.mk (below_step (by repeat first | exact HB.out | apply bA | apply bN | apply bD) hb); clear HO_9; clear HB; have HO_9 := n0_; have HO137 := n1_; have HB := n2_; clear n0_ n1_ n2_; (try clear hb); (try clear hb2); (try clear hk); (try clear hi); (try clear ho0)))
           go_ret
           exact ⟨by first | rfl | (simp [errW_none, errW_some] <;> rfl) | (simp [*, errW_none, errW_some] <;> rfl), by repeat (first | (with_reducible first | exact HB.out | apply bA | apply bN | apply bD) | exact HB.out)⟩
         ·replace c64 := Bool.eq_false_iff.mpr c64
          subst c64
          have H1 : (some false) = some r := by rw [if_neg (show ¬ (false = true) by decide)] at H; exact H
          clear H
          have H := H1
          clear H1
          obtain rfl := Option.some.inj H
          obtain ⟨Ao78, co78, eo78⟩ := Kd.S_slice HO_9.out
          subst eo78
          go_wp2_with (first | ((with_reducible refine gate_callee (f := 16) rfl ?_); refine goesL_ (some 60) rfl rfl Try.func16 (by kernel_rfl) rfl #[.slice Ao78 x9_2.length co78] rfl (by (try simp only [List.map_toArray, List.map_cons, List.map_nil]); first | done | rfl | (simp only [List.length_drop, List.length_take]; rfl)) ?_; (with_reducible refine (graph_Order.calls _ _ x9_2 t134 t135 _ ?side1 ?side2 A62.out).mono ?_); (case side1 => repeat (first | exact (Kd.S_reads' HO_9.out).2.2 | (with_reducible refine Kd.C_alloc ?_ _) | (with_reducible refine Kd.C_drewN ?_ _) | (with_reducible refine Kd.C_drew ?_))); (case side2 => exact (Kd.S_reads' HO_9.out).2.1); rintro e w79 ⟨v136, rfl, ho0, hb⟩; refine ⟨_, rfl, ?_⟩; have n0_ := Aside0.mk (Kd.S_elder' (by (with_reducible repeat first | apply sA | apply sN | apply sD); exact HO_9.out) (Kd.R_base ho0) hb); have n1_ := Aside0.mk (Kd.R_lower ho0 (below_size (by repeat first | exact HB.out | apply bA | apply bN | apply bD))); have n2_ := Aside0.mk (below_step (by repeat first | exact HB.out | apply bA | apply bN | apply bD) hb); clear HO_9; clear HB; have HO_9 := n0_; have HO137 := n1_; have HB := n2_; clear n0_ n1_ n2_; (try clear hb); (try clear hb2); (try clear hk); (try clear hi); (try clear ho0)))
          go_ret
          exact ⟨by first | rfl | (simp [errW_none, errW_some] <;> rfl) | (simp [*, errW_none, errW_some] <;> rfl), by repeat (first | (with_reducible first | exact HB.out | apply bA | apply bN | apply bD) | exact HB.out)⟩
        ·replace c63 := Bool.eq_false_iff.mpr c63
         subst c63
         have H1 : (if t135 = 0 then (carlinglaw21_GraphRing.j2 k2 a0 t117 (Int.tmod a1 a0) x9_2 t134 ((t134.length : Int) != a0)) else (carlinglaw21_GraphRing.j2 k2 a0 t117 (Int.tmod a1 a0) x9_2 t134 true)) = some r := by rw [if_neg (show ¬ (false = true) by decide)] at H; exact H
         clear H
         have H := H1
         clear H1
         have HC80 := Aside0.mk H
         clear H
         obtain ⟨Ao81, co81, eo81⟩ := Kd.S_slice HO_9.out
         subst eo81
         go_upto_region 16 with (first | ((with_reducible refine gate_callee (f := 16) rfl ?_); refine goesL_ (some 60) rfl rfl Try.func16 (by kernel_rfl) rfl #[.slice Ao81 x9_2.length co81] rfl (by (try simp only [List.map_toArray, List.map_cons, List.map_nil]); first | done | rfl | (simp only [List.length_drop, List.length_take]; rfl)) ?_; (with_reducible refine (graph_Order.calls _ _ x9_2 t134 t135 _ ?side1 ?side2 A62.out).mono ?_); (case side1 => repeat (first | exact (Kd.S_reads' HO_9.out).2.2 | (with_reducible refine Kd.C_alloc ?_ _) | (with_reducible refine Kd.C_drewN ?_ _) | (with_reducible refine Kd.C_drew ?_))); (case side2 => exact (Kd.S_reads' HO_9.out).2.1); rintro e w82 ⟨v136, rfl, ho0, hb⟩; refine ⟨_, rfl, ?_⟩; have n0_ := Aside0.mk (Kd.S_elder' (by (with_reducible repeat first | apply sA | apply sN | apply sD); exact HO_9.out) (Kd.R_base ho0) hb); have n1_ := Aside0.mk (Kd.R_lower ho0 (below_size (by repeat first | exact HB.out | apply bA | apply bN | apply bD))); have n2_ := Aside0.mk (below_step (by repeat first | exact HB.out | apply bA | apply bN | apply bD) hb); clear HO_9; clear HB; have HO_9 := n0_; have HO137 := n1_; have HB := n2_; clear n0_ n1_ n2_; (try clear hb); (try clear hb2); (try clear hk); (try clear hi); (try clear ho0)))
         (try simp only [Act.put, lA, lZ, lS])
         go_cut [89] (fun v89 wc => ∃ (kq : Nat) (x89_79 : Bool), v89 = .bool x89_79 ∧ Aside0 (carlinglaw21_GraphRing.j2 kq a0 t117 (Int.tmod a1 a0) x9_2 t134 x89_79 = some r) ∧ Aside0 (kq ≤ k2) ∧ Aside0 (Kd.S k31 31 wc w.heap.size (fun k_ => some k_ ≠ (v136 : Value).ownBlock) (.slice Ao81 x9_2.length co81) x9_2) ∧ Aside0 (Kd.R (Kd.int .i64) 3 wc w.heap.size (fun _ => True) v136 t134) ∧ Aside0 (Below w.heap.size w wc))
         case first =>
          have H := HC80.out
          clear HC80
          by_cases c83 : t135 = 0
          ·rw [if_pos c83] at H
           have c83b0 : (t135 == 0) = true := beq_iff_eq.mpr c83
           have c83b1 : (t135 != 0) = false := bne_eq_false_iff_eq.mpr c83
           clear c83
           (first | rw [c83b0] | (simp only [i64_w, i32_w]; rw [c83b0]) | skip)
           have H' := Aside0.mk H
           clear H
           obtain ⟨Ao84, co84, eo84⟩ := Kd.R_slice HO137.out
           subst eo84
           go_wp2
           go_meet
           case rel => exact ⟨_, (((t134.length : Int) != a0)), (by first | rfl | (simp; done) | (simp [*]; done)), H', ⟨by have := HJ4.out; have := HK2.out; first | omega | exact Nat.le_refl _⟩, ⟨by (with_reducible repeat first | apply sA | apply sN | apply sD); exact Kd.S_mono HO_9.out (fun _ hk => hk.2)⟩, ⟨by (with_reducible repeat first | apply rA | apply rN | apply rD); exact HO137.out⟩, ⟨by repeat (first | (with_reducible first | exact HB.out | apply bA | apply bN | apply bD) | exact HB.out)⟩⟩
          ·rw [if_neg c83] at H
           have c83b0 : (t135 == 0) = false := beq_eq_false_iff_ne.mpr c83
           have c83b1 : (t135 != 0) = true := bne_iff_ne.mpr c83
           (first | rw [c83b0] | (simp only [i64_w, i32_w]; rw [c83b0]) | skip)
           have H' := Aside0.mk H
           clear H
           go_wp2
           go_meet
           case rel => exact ⟨_, (true), (by first | rfl | (simp; done) | (simp [*]; done)), H', ⟨by have := HJ4.out; have := HK2.out; first | omega | exact Nat.le_refl _⟩, ⟨by (with_reducible repeat first | apply sA | apply sN | apply sD); exact Kd.S_mono HO_9.out (fun _ hk => hk.2)⟩, ⟨by (with_reducible repeat first | apply rA | apply rN | apply rD); exact HO137.out⟩, ⟨by repeat (first | (with_reducible first | exact HB.out | apply bA | apply bN | apply bD) | exact HB.out)⟩⟩
         case rest =>
          clear HC80
          try clear c1
          try clear p2
          try clear c4
          try clear hcv5
          try clear c6
          try clear p6
          try clear c8
          try clear c11
          try clear c11b0
          try clear c16
          try clear c46
          try clear hcv52
          try clear hcv53
          try clear hcv54
          try clear c63
          try clear c64
          try clear p64
          try clear c65
          try clear c65b0
          try clear c65b1
          try clear c66
          try clear c66b0
          try clear c66b1
          try clear c66b2
          try clear c83
          try clear c83b0
          try clear c83b1
          try clear hcz60_0
          try clear hcz60_1
          try clear hfz60_0
          try clear hfz60_1
          obtain ⟨kq, x89_79, rfl, HA, HJ79, HO_9, HO_12, HB⟩ := hcut
          cases kq with
          | zero => exact absurd HA.out (by simp [carlinglaw21_GraphRing.j2])
          | succ kj79 =>
           have H := HA.out
           clear HA
           simp only [carlinglaw21_GraphRing.j2] at H
           by_cases c85 : x89_79 = true
           ·subst c85
            have H1 : (some false) = some r := by rw [if_pos rfl] at H; exact H
            clear H
            have H := H1
            clear H1
            obtain rfl := Option.some.inj H
            go_wp2
            go_ret
            exact ⟨by first | rfl | (simp [errW_none, errW_some] <;> rfl) | (simp [*, errW_none, errW_some] <;> rfl), by repeat (first | (with_reducible first | exact HB.out | apply bA | apply bN | apply bD) | exact HB.out)⟩
           ·replace c85 := Bool.eq_false_iff.mpr c85
            subst c85
            have H1 : (carlinglaw21_GraphRing.l1 kj79 a0 t117 (Int.tmod a1 a0) x9_2 t134 0) = some r := by rw [if_neg (show ¬ (false = true) by decide)] at H; exact H
            clear H
            have H := H1
            clear H1
            have H' := Aside0.mk H
            clear H
            go_wp2
            go_loopg [14] kj79 (fun kq v14 w' => ∃ (x14_4 : Int), v14 = .int .i64 x14_4 ∧ Aside0 (carlinglaw21_GraphRing.l1 kq a0 t117 (Int.tmod a1 a0) x9_2 t134 x14_4 = some r) ∧ Aside0 (kq ≤ kj79) ∧ Aside0 (Kd.S k31 31 w' w.heap.size (fun k_ => some k_ ≠ (v136 : Value).ownBlock) (.slice Ao81 x9_2.length co81) x9_2) ∧ Aside0 (Kd.R (Kd.int .i64) 3 w' w.heap.size (fun _ => True) v136 t134) ∧ Aside0 (Below w.heap.size w w'))
            case atStart => exact ⟨(0), (by first | rfl | (simp; done) | (simp [*]; done)), H', ⟨Nat.le_refl _⟩, ⟨by (with_reducible repeat first | apply sA | apply sN | apply sD); exact HO_9.out⟩, ⟨by (with_reducible repeat first | apply rA | apply rN | apply rD); exact HO_12.out⟩, ⟨by repeat (first | (with_reducible first | exact HB.out | apply bA | apply bN | apply bD) | exact HB.out)⟩⟩
            case round =>
             clear H'
             try clear c1
             try clear p2
             try clear c4
             try clear hcv5
             try clear c6
             try clear p6
             try clear c8
             try clear c11
             try clear c11b0
             try clear c16
             try clear c46
             try clear hcv52
             try clear hcv53
             try clear hcv54
             try clear c63
             try clear c64
             try clear p64
             try clear c65
             try clear c65b0
             try clear c65b1
             try clear c66
             try clear c66b0
             try clear c66b1
             try clear c66b2
             try clear c83
             try clear c83b0
             try clear c83b1
             try clear c85
             try clear hcz60_0
             try clear hcz60_1
             try clear hfz60_0
             try clear hfz60_1
             try clear p2
             try clear p6
             try clear p64
             obtain ⟨x14_4, rfl, HA, HK4, HO_9, HO_12, HB⟩ := hrel
             cases gk with
             | zero => exact absurd HA.out (by simp [carlinglaw21_GraphRing.l1])
             | succ k4 =>
              have H := HA.out
              clear HA
              simp only [carlinglaw21_GraphRing.l1] at H
              by_cases c86 : x14_4 < a0
              ·rw [if_pos c86] at H
               have c86b0 : decide (x14_4 < a0) = true := decide_eq_true c86
               clear c86
               by_cases c87 : 0 ≤ x14_4
               ·rw [if_pos c87] at H
                have c87b0 : decide (0 ≤ x14_4) = true := decide_eq_true c87
                clear c87
                by_cases c88 : x14_4 < (t134.length : Int)
                ·rw [if_pos c88] at H
                 have c88b0 : decide (x14_4 < (t134.length : Int)) = true := decide_eq_true c88
                 clear c88
                 by_cases c89 : a0 = 0
                 ·rw [if_pos c89] at H
                  exact absurd H (by simp)
                 ·rw [if_neg c89] at H
                  have c89b0 : (a0 == 0) = false := beq_eq_false_iff_ne.mpr c89
                  have c89b1 : (a0 != 0) = true := bne_iff_ne.mpr c89
                  by_cases c90 : (rd t134 x14_4) = (Int.tmod (wrap64 ((wrap64 ((Int.tmod a1 a0) - x14_4)) + a0)) a0)
                  ·rw [if_pos c90] at H
                   have c90b0 : ((rd t134 x14_4) == (Int.tmod (wrap64 ((wrap64 ((Int.tmod a1 a0) - x14_4)) + a0)) a0)) = true := beq_iff_eq.mpr c90
                   have c90b1 : ((rd t134 x14_4) != (Int.tmod (wrap64 ((wrap64 ((Int.tmod a1 a0) - x14_4)) + a0)) a0)) = false := bne_eq_false_iff_eq.mpr c90
                   clear c90
                   have H' := Aside0.mk H
                   clear H
                   try go_wp2
                   have n0_ := Aside0.mk (sD HO_9.out)
                   have n1_ := Aside0.mk (rD HO_12.out)
                   have n2_ := Aside0.mk (bD HB.out)
                   clear HO_9
                   clear HO_12
                   clear HB
                   have HO_9 := n0_
                   have HO_12 := n1_
                   have HB := n2_
                   clear n0_ n1_ n2_
                   obtain ⟨Ao92, co92, eo92⟩ := Kd.R_slice HO_12.out
                   (first | subst eo92 | (injection eo92 with f1_ f2_ f3_; have f4_ := f1_.symm; have f5_ := f3_.symm; clear f1_ f2_ f3_; subst f4_; subst f5_))
                   have p141 : 0 ≤ (x14_4 : Int) := of_decide_eq_true (by first | (with_reducible assumption) | assumption)
                   have q141 : x14_4 < (t134.length : Int) := of_decide_eq_true (by first | (with_reducible assumption) | assumption)
                   obtain ⟨ad141, e141, hx141_0⟩ := Kd.at_int (Kd.R_reads' HO_12.out).2.2 x14_4 p141 q141
                   cases e141
                   replace p141 := eq_true p141
                   replace q141 := eq_true q141
                   refine start_ (n := 12) (S := fun w' => w'.cell? (ad141.add (x14_4).toNat) = some (.int .i64 (rd t134 x14_4))) (ds := []) #[F,F,F,F,F,F,F,F,F,F,F,F] (by kernel_rfl) rfl rfl (hx141_0) (fun hHeld => ?_); refine with_tabW carlinglaw21_GraphRing.tab21 carlinglaw21_GraphRing.bits21 (fun HT_ HW_ => ?_)
                   generalize wr.drew = w91 at HO_9 HO_12 HB hx141_0 hHeld ⊢
                   refine pure_ (i := 0) (N := some 95) (v := ?_) (a' := ?_) #[T,F,F,F,F,F,F,F,F,F,F,F] rfl rfl (any_of HT_.out (by kernel_rfl)) (fun _ _ _ h => h) (Or.inl ⟨by rfl, ?_⟩) ?_ ?_
                   rotate_left
                   ·intro w'
                    go_simp
                    with_reducible rfl
                   rotate_left
                   ·simp only [Act.put, lA, lZ, lS, i64_w, i32_w]
                    rfl
                   refine pure_ (i := 1) (N := some 96) (v := ?_) (a' := ?_) #[T,T,F,F,F,F,F,F,F,F,F,F] rfl rfl (any_of HT_.out (by kernel_rfl)) (fun _ _ _ h => h) (Or.inl ⟨by rfl, ?_⟩) ?_ ?_
                   rotate_left
                   ·intro w'
                    go_simp
                    with_reducible rfl
                   rotate_left
                   ·simp only [Act.put, lA, lZ, lS, i64_w, i32_w]
                    rfl
                   refine pure_ (i := 2) (N := some 97) (v := ?_) (a' := ?_) #[T,T,T,F,F,F,F,F,F,F,F,F] rfl rfl (any_of HT_.out (by kernel_rfl)) (fun _ _ _ h => h) (Or.inl ⟨by rfl, ?_⟩) ?_ ?_
                   rotate_left
                   ·intro w'
                    go_simp
                    with_reducible rfl
                   rotate_left
                   ·simp only [Act.put, lA, lZ, lS, i64_w, i32_w]
                    rfl
                   refine pure_ (i := 4) (N := some 99) (v := ?_) (a' := ?_) #[T,T,T,F,T,F,F,F,F,F,F,F] rfl rfl (any_of HT_.out (by kernel_rfl)) (fun _ _ _ h => h) (Or.inl ⟨by rfl, ?_⟩) ?_ ?_
                   rotate_left
                   ·intro w'
                    go_simp
                    with_reducible rfl
                   rotate_left
                   ·simp only [Act.put, lA, lZ, lS, i64_w, i32_w]
                    rfl
                   refine pure_ (i := 5) (N := some 100) (v := ?_) (a' := ?_) #[T,T,T,F,T,T,F,F,F,F,F,F] rfl rfl (any_of HT_.out (by kernel_rfl)) (fun _ _ _ h => h) (Or.inl ⟨by rfl, ?_⟩) ?_ ?_
                   rotate_left
                   ·intro w'
                    go_simp
                    with_reducible rfl
                   rotate_left
                   ·simp only [Act.put, lA, lZ, lS, i64_w, i32_w]
                    rfl
                   refine pure_ (i := 6) (N := some 101) (v := ?_) (a' := ?_) #[T,T,T,F,T,T,T,F,F,F,F,F] rfl rfl (any_of HT_.out (by kernel_rfl)) (fun _ _ _ h => h) (Or.inl ⟨by rfl, ?_⟩) ?_ ?_
                   rotate_left
                   ·intro w'
                    go_simp
                    with_reducible rfl
                   rotate_left
                   ·simp only [Act.put, lA, lZ, lS, i64_w, i32_w]
                    rfl
                   refine pure_ (i := 7) (N := some 102) (v := ?_) (a' := ?_) #[T,T,T,F,T,T,T,T,F,F,F,F] rfl rfl (any_of HT_.out (by kernel_rfl)) (fun _ _ _ h => h) (Or.inl ⟨by rfl, ?_⟩) ?_ ?_
                   rotate_left
                   ·intro w'
                    go_simp
                    with_reducible rfl
                   rotate_left
                   ·simp only [Act.put, lA, lZ, lS, i64_w, i32_w]
                    rfl
                   refine pure_ (i := 8) (N := some 103) (v := ?_) (a' := ?_) #[T,T,T,F,T,T,T,T,T,F,F,F] rfl rfl (any_of HT_.out (by kernel_rfl)) (fun _ _ _ h => h) (Or.inl ⟨by rfl, ?_⟩) ?_ ?_
                   rotate_left
                   ·intro w'
                    go_simp
                    with_reducible rfl
                   rotate_left
                   ·simp only [Act.put, lA, lZ, lS, i64_w, i32_w]
                    rfl
                   refine pure_ (i := 9) (N := some 104) (v := ?_) (a' := ?_) #[T,T,T,F,T,T,T,T,T,T,F,F] rfl rfl (any_of HT_.out (by kernel_rfl)) (fun _ _ _ h => h) (Or.inl ⟨by rfl, ?_⟩) ?_ ?_
                   rotate_left
                   ·intro w'
                    go_simp
                    with_reducible rfl
                   rotate_left
                   ·simp only [Act.put, lA, lZ, lS, i64_w, i32_w]
                    rfl
                   refine pure_ (i := 10) (N := some 105) (v := ?_) (a' := ?_) #[T,T,T,F,T,T,T,T,T,T,T,F] rfl rfl (any_of HT_.out (by kernel_rfl)) (fun _ _ _ h => h) (Or.inl ⟨by rfl, ?_⟩) ?_ ?_
                   rotate_left
                   ·intro w'
                    go_simp
                    with_reducible rfl
                   rotate_left
                   ·simp only [Act.put, lA, lZ, lS, i64_w, i32_w]
                    rfl
                   refine take_ (i := 3) (N := some 98) (v := ?_) (a' := ?_) #[T,T,T,T,T,T,T,T,T,T,T,F] rfl rfl (take_ofW HT_.out HW_.out (by kernel_rfl)) (fun _ _ _ h => h) (Or.inl ⟨by rfl, ?_⟩) hHeld ?_ ?_
                   rotate_left
                   ·intro w' s0
                    go_simp
                    with_reducible rfl
                   rotate_left
                   ·simp only [Act.put, lA, lZ, lS, i64_w, i32_w]
                    rfl
                   refine pure_ (i := 11) (N := some 106) (v := ?_) (a' := ?_) #[T,T,T,T,T,T,T,T,T,T,T,T] rfl rfl (any_of HT_.out (by kernel_rfl)) (fun _ _ _ h => h) (Or.inl ⟨by rfl, ?_⟩) ?_ ?_
                   rotate_left
                   ·intro w'
                    go_simp
                    with_reducible rfl
                   rotate_left
                   ·simp only [Act.put, lA, lZ, lS, i64_w, i32_w]
                    rfl
                   refine done_ (done_of HT_.out (by kernel_rfl)) ?_
                   try go_wp2
                   go_roundg k4
                   case measure => have := HJ4.out; have := HK2.out; have := HJ79.out; have := HK4.out; omega
                   case rel => exact ⟨(wrap64 (x14_4 + 1)), (by first | rfl | (simp; done) | (simp [*]; done)), H', ⟨by have := HJ4.out; have := HK2.out; have := HJ79.out; have := HK4.out; omega⟩, ⟨by (with_reducible repeat first | apply sA | apply sN | apply sD); exact HO_9.out⟩, ⟨by (with_reducible repeat first | apply rA | apply rN | apply rD); exact HO_12.out⟩, ⟨by repeat (first | (with_reducible first | exact HB.out | apply bA | apply bN | apply bD) | exact HB.out)⟩⟩
                  ·rw [if_neg c90] at H
                   have c90b0 : ((rd t134 x14_4) == (Int.tmod (wrap64 ((wrap64 ((Int.tmod a1 a0) - x14_4)) + a0)) a0)) = false := beq_eq_false_iff_ne.mpr c90
                   have c90b1 : ((rd t134 x14_4) != (Int.tmod (wrap64 ((wrap64 ((Int.tmod a1 a0) - x14_4)) + a0)) a0)) = true := bne_iff_ne.mpr c90
                   obtain rfl := Option.some.inj H
                   try go_wp2
                   have n0_ := Aside0.mk (sD HO_9.out)
                   have n1_ := Aside0.mk (rD HO_12.out)
                   have n2_ := Aside0.mk (bD HB.out)
                   clear HO_9
                   clear HO_12
                   clear HB
                   have HO_9 := n0_
                   have HO_12 := n1_
                   have HB := n2_
                   clear n0_ n1_ n2_
                   obtain ⟨Ao94, co94, eo94⟩ := Kd.R_slice HO_12.out
                   (first | subst eo94 | (injection eo94 with f1_ f2_ f3_; have f4_ := f1_.symm; have f5_ := f3_.symm; clear f1_ f2_ f3_; subst f4_; subst f5_))
                   have p141 : 0 ≤ (x14_4 : Int) := of_decide_eq_true (by first | (with_reducible assumption) | assumption)
                   have q141 : x14_4 < (t134.length : Int) := of_decide_eq_true (by first | (with_reducible assumption) | assumption)
                   obtain ⟨ad141, e141, hx141_0⟩ := Kd.at_int (Kd.R_reads' HO_12.out).2.2 x14_4 p141 q141
                   cases e141
                   replace p141 := eq_true p141
                   replace q141 := eq_true q141
                   refine start_ (n := 12) (S := fun w' => w'.cell? (ad141.add (x14_4).toNat) = some (.int .i64 (rd t134 x14_4))) (ds := []) #[F,F,F,F,F,F,F,F,F,F,F,F] (by kernel_rfl) rfl rfl (hx141_0) (fun hHeld => ?_); refine with_tabW carlinglaw21_GraphRing.tab21 carlinglaw21_GraphRing.bits21 (fun HT_ HW_ => ?_)
                   generalize wr.drew = w93 at HO_9 HO_12 HB hx141_0 hHeld ⊢
                   refine pure_ (i := 0) (N := some 95) (v := ?_) (a' := ?_) #[T,F,F,F,F,F,F,F,F,F,F,F] rfl rfl (any_of HT_.out (by kernel_rfl)) (fun _ _ _ h => h) (Or.inl ⟨by rfl, ?_⟩) ?_ ?_
                   rotate_left
                   ·intro w'
                    go_simp
                    with_reducible rfl
                   rotate_left
                   ·simp only [Act.put, lA, lZ, lS, i64_w, i32_w]
                    rfl
                   refine pure_ (i := 1) (N := some 96) (v := ?_) (a' := ?_) #[T,T,F,F,F,F,F,F,F,F,F,F] rfl rfl (any_of HT_.out (by kernel_rfl)) (fun _ _ _ h => h) (Or.inl ⟨by rfl, ?_⟩) ?_ ?_
                   rotate_left
                   ·intro w'
                    go_simp
                    with_reducible rfl
                   rotate_left
                   ·simp only [Act.put, lA, lZ, lS, i64_w, i32_w]
                    rfl
                   refine pure_ (i := 2) (N := some 97) (v := ?_) (a' := ?_) #[T,T,T,F,F,F,F,F,F,F,F,F] rfl rfl (any_of HT_.out (by kernel_rfl)) (fun _ _ _ h => h) (Or.inl ⟨by rfl, ?_⟩) ?_ ?_
                   rotate_left
                   ·intro w'
                    go_simp
                    with_reducible rfl
                   rotate_left
                   ·simp only [Act.put, lA, lZ, lS, i64_w, i32_w]
                    rfl
                   refine pure_ (i := 4) (N := some 99) (v := ?_) (a' := ?_) #[T,T,T,F,T,F,F,F,F,F,F,F] rfl rfl (any_of HT_.out (by kernel_rfl)) (fun _ _ _ h => h) (Or.inl ⟨by rfl, ?_⟩) ?_ ?_
                   rotate_left
                   ·intro w'
                    go_simp
                    with_reducible rfl
                   rotate_left
                   ·simp only [Act.put, lA, lZ, lS, i64_w, i32_w]
                    rfl
                   refine pure_ (i := 5) (N := some 100) (v := ?_) (a' := ?_) #[T,T,T,F,T,T,F,F,F,F,F,F] rfl rfl (any_of HT_.out (by kernel_rfl)) (fun _ _ _ h => h) (Or.inl ⟨by rfl, ?_⟩) ?_ ?_
                   rotate_left
                   ·intro w'
                    go_simp
                    with_reducible rfl
                   rotate_left
                   ·simp only [Act.put, lA, lZ, lS, i64_w, i32_w]
                    rfl
                   refine pure_ (i := 6) (N := some 101) (v := ?_) (a' := ?_) #[T,T,T,F,T,T,T,F,F,F,F,F] rfl rfl (any_of HT_.out (by kernel_rfl)) (fun _ _ _ h => h) (Or.inl ⟨by rfl, ?_⟩) ?_ ?_
                   rotate_left
                   ·intro w'
                    go_simp
                    with_reducible rfl
                   rotate_left
                   ·simp only [Act.put, lA, lZ, lS, i64_w, i32_w]
                    rfl
                   refine pure_ (i := 7) (N := some 102) (v := ?_) (a' := ?_) #[T,T,T,F,T,T,T,T,F,F,F,F] rfl rfl (any_of HT_.out (by kernel_rfl)) (fun _ _ _ h => h) (Or.inl ⟨by rfl, ?_⟩) ?_ ?_
                   rotate_left
                   ·intro w'
                    go_simp
                    with_reducible rfl
                   rotate_left
                   ·simp only [Act.put, lA, lZ, lS, i64_w, i32_w]
                    rfl
                   refine pure_ (i := 8) (N := some 103) (v := ?_) (a' := ?_) #[T,T,T,F,T,T,T,T,T,F,F,F] rfl rfl (any_of HT_.out (by kernel_rfl)) (fun _ _ _ h => h) (Or.inl ⟨by rfl, ?_⟩) ?_ ?_
                   rotate_left
                   ·intro w'
                    go_simp
                    with_reducible rfl
                   rotate_left
                   ·simp only [Act.put, lA, lZ, lS, i64_w, i32_w]
                    rfl
                   refine pure_ (i := 9) (N := some 104) (v := ?_) (a' := ?_) #[T,T,T,F,T,T,T,T,T,T,F,F] rfl rfl (any_of HT_.out (by kernel_rfl)) (fun _ _ _ h => h) (Or.inl ⟨by rfl, ?_⟩) ?_ ?_
                   rotate_left
                   ·intro w'
                    go_simp
                    with_reducible rfl
                   rotate_left
                   ·simp only [Act.put, lA, lZ, lS, i64_w, i32_w]
                    rfl
                   refine pure_ (i := 10) (N := some 105) (v := ?_) (a' := ?_) #[T,T,T,F,T,T,T,T,T,T,T,F] rfl rfl (any_of HT_.out (by kernel_rfl)) (fun _ _ _ h => h) (Or.inl ⟨by rfl, ?_⟩) ?_ ?_
                   rotate_left
                   ·intro w'
                    go_simp
                    with_reducible rfl
                   rotate_left
                   ·simp only [Act.put, lA, lZ, lS, i64_w, i32_w]
                    rfl
                   refine take_ (i := 3) (N := some 98) (v := ?_) (a' := ?_) #[T,T,T,T,T,T,T,T,T,T,T,F] rfl rfl (take_ofW HT_.out HW_.out (by kernel_rfl)) (fun _ _ _ h => h) (Or.inl ⟨by rfl, ?_⟩) hHeld ?_ ?_
                   rotate_left
                   ·intro w' s0
                    go_simp
                    with_reducible rfl
                   rotate_left
                   ·simp only [Act.put, lA, lZ, lS, i64_w, i32_w]
                    rfl
                   refine pure_ (i := 11) (N := some 106) (v := ?_) (a' := ?_) #[T,T,T,T,T,T,T,T,T,T,T,T] rfl rfl (any_of HT_.out (by kernel_rfl)) (fun _ _ _ h => h) (Or.inl ⟨by rfl, ?_⟩) ?_ ?_
                   rotate_left
                   ·intro w'
                    go_simp
                    with_reducible rfl
                   rotate_left
                   ·simp only [Act.put, lA, lZ, lS, i64_w, i32_w]
                    rfl
                   refine done_ (done_of HT_.out (by kernel_rfl)) ?_
                   try go_wp2
                   go_ret
                   exact ⟨by first | rfl | (simp [errW_none, errW_some] <;> rfl) | (simp [*, errW_none, errW_some] <;> rfl), by repeat (first | (with_reducible first | exact HB.out | apply bA | apply bN | apply bD) | exact HB.out)⟩
                ·rw [if_neg c88] at H
                 exact absurd H (by simp)
               ·rw [if_neg c87] at H
                exact absurd H (by simp)
              ·rw [if_neg c86] at H
               have c86b0 : decide (x14_4 < a0) = false := decide_eq_false c86
               clear c86
               by_cases c95 : t117 = true
               ·subst c95
                have H1 : ((graph_Users.f x9_2 (Int.tmod a1 a0)).bind fun t142 => (some ((t142.length : Int) == (wrap64 (a0 - 1))))) = some r := by rw [if_pos rfl] at H; exact H
                clear H
                have H := H1
                clear H1
                replace H := Option.bind_eq_some_iff.mp H
                obtain ⟨t142, A960, H⟩ := H
                replace H : (some ((t142.length : Int) == (wrap64 (a0 - 1)))) = some r := H
                have A96 := Aside0.mk A960
                clear A960
                obtain rfl := Option.some.inj H
                go_wp2_with (first | (go_at_call 21; (with_reducible refine (graph_Users.calls _ _ x9_2 (Int.tmod a1 a0) t142 _ ?side1 ?side2 A96.out).mono ?_); (case side1 => repeat (first | exact (Kd.S_reads' HO_9.out).2.2 | (with_reducible refine Kd.C_alloc ?_ _) | (with_reducible refine Kd.C_drewN ?_ _) | (with_reducible refine Kd.C_drew ?_))); (case side2 => exact (Kd.S_reads' HO_9.out).2.1); rintro e w97 ⟨v143, rfl, ho0, hb⟩; have n0_ := Aside0.mk (Kd.S_elder' (by (with_reducible repeat first | apply sA | apply sN | apply sD); exact HO_9.out) (Kd.R_base ho0) hb); have n1_ := Aside0.mk (Kd.R_elder' (by (with_reducible repeat first | apply rA | apply rN | apply rD); exact HO_12.out) (Kd.R_base ho0) hb); have n2_ := Aside0.mk (Kd.R_lower (Kd.R_new' ho0 (Kd.R_lt (by (with_reducible repeat first | apply rA | apply rN | apply rD); exact HO_12.out))) (below_size (by repeat first | exact HB.out | apply bA | apply bN | apply bD))); have n3_ := Aside0.mk (below_step (by repeat first | exact HB.out | apply bA | apply bN | apply bD) hb); clear HO_9; clear HO_12; clear HB; have HO_9 := n0_; have HO_12 := n1_; have HO144 := n2_; have HB := n3_; clear n0_ n1_ n2_ n3_; (try clear hb); (try clear hb2); (try clear hk); (try clear hi); (try clear ho0); obtain ⟨Ao98, co98, eo98⟩ := Kd.R_slice HO144.out; subst eo98))
                go_ret
                exact ⟨by first | rfl | (simp [errW_none, errW_some] <;> rfl) | (simp [*, errW_none, errW_some] <;> rfl), by repeat (first | (with_reducible first | exact HB.out | apply bA | apply bN | apply bD) | exact HB.out)⟩
               ·replace c95 := Bool.eq_false_iff.mpr c95
                subst c95
                have H1 : (some false) = some r := by rw [if_neg (show ¬ (false = true) by decide)] at H; exact H
                clear H
                have H := H1
                clear H1
                obtain rfl := Option.some.inj H
                go_wp2
                go_ret
                exact ⟨by first | rfl | (simp [errW_none, errW_some] <;> rfl) | (simp [*, errW_none, errW_some] <;> rfl), by repeat (first | (with_reducible first | exact HB.out | apply bA | apply bN | apply bD) | exact HB.out)⟩

/-- THE ONE PURE STATEMENT of carlinglaw21_GraphRing: yours. -/
def carlinglaw21_GraphRing.Pure : Prop := ∀ (a0 : Int) (a1 : Int) (a2 : Bool), (Lit.int .i64 a0).wf = true → (Lit.int .i64 a1).wf = true → ∃ k, carlinglaw21_GraphRing.f k a0 a1 a2 = some true
theorem carlinglaw21_GraphRing.walk (P : carlinglaw21_GraphRing.Pure) (a0 : Int) (a1 : Int) (a2 : Bool) (w : World) (w0 : (Lit.int .i64 a0).wf = true) (w1 : (Lit.int .i64 a1).wf = true) :
  Calls Try.prog 9 #[.int .i64 a0, .int .i64 a1, .bool a2] w fun e w' => e = .returned (.bool true) ∧ Below w.heap.size w w' := by
 obtain ⟨k, h⟩ := P a0 a1 a2 w0 w1
 refine (carlinglaw21_GraphRing.calls k a0 a1 a2 true w h).mono ?_
 rintro e w' ⟨rfl, hd⟩
 exact ⟨rfl, hd⟩

end Go.Proofs.Ytgjlgdohlmpnbaa.P

