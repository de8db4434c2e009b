/- The contract of carlingref22.New: the document's scheduler in a new block, or what is wrong. Conditions: as it states. -/
import Derived.Test.YtgjlgdohlmpnbaaG10
namespace Go.Proofs.Ytgjlgdohlmpnbaa.P
set_option linter.unusedVariables false
set_option linter.unusedSimpArgs false
open Go.RowKit Go.Proofs.YtgjlgdohlmpnbaaW.PrintWords Go.Proofs.YtgjlgdohlmpnbaaW.PrintLast Go.Proofs.YtgjlgdohlmpnbaaW.PrintMore

theorem setCell_size (W : World) (p : Addr) (u : Value) : (W.setCell p u).heap.size = W.heap.size := by simp [World.setCell]
def doneTo (d : List Bool) : Nat → List Bool
  | 0 => []
  | i + 1 => doneTo d i ++ [bit d i]
theorem doneTo_len (d : List Bool) : ∀ i, (doneTo d i).length = i
  | 0 => rfl
  | i + 1 => by simp [doneTo, doneTo_len d i]
def refTo (l : List S31) (x : Int) (d : List Bool) (i : Nat) : Rs := { l := l, many := x, done := doneTo d i, who := List.replicate i (-1), phase := List.replicate i 0, steps := 0, made := [] }
set_option maxHeartbeats 8000000 in
set_option maxRecDepth 100000 in
theorem rnew_any (A0 : Option Addr) (c0 : Nat) (l0 : List S31) (x : Int) (A1 : Option Addr) (c1 : Nat) (l1 : List Bool) (w : World) (hr0 : Kd.C k31 w A0 l0.length l0) (hc0 : l0.length ≤ c0) (hr1 : Kd.C Kd.bool w A1 l1.length l1) (hlen : l0.length ≤ 1000000) (k : Nat) (ho : carlingref21_Order.f k l0 = some (orderOf l0)) :
    Calls Try.prog 27 #[.slice A0 l0.length c0, .int .i64 x, .slice A1 l1.length c1] w fun e w' => Below w.heap.size w w' ∧
      (newErr l0 x ≠ 0 ∧ e = .returned (.tuple #[.pointer none, .int .i64 (newErr l0 x)]) ∨ newErr l0 x = 0 ∧ ∃ b, e = .returned (.tuple #[.pointer (some ⟨b, 0, none⟩), .int .i64 0]) ∧ RefAt w' w.heap.size b (refTo l0 x l1 l0.length) (fun _ => False) A0 c0) := by
  have HR0 := Aside0.mk hr0
  have HR1 := Aside0.mk hr1
  have HOO := Hid1.mk (carlingref21_Order.calls k A0 c0 l0 (orderOf l0).1 (orderOf l0).2 w hr0 hc0 ho)
  clear hr0 hr1 ho
  by_cases he : (orderOf l0).2 = 0
  · by_cases hx : x < 1 ∨ 16 < x
    · have hn : newErr l0 x = 1 := by unfold newErr; rw [if_neg (by omega), if_pos hx]
      rw [hn]
      go_enter Try.func27, Try.ntmps27
      by_cases hx1 : x < 1
      · have hx1d : decide (x < 1) = true := decide_eq_true hx1
        go_wp2_with (go_at_call 17; refine HOO.out.mono ?_; rintro e w1 ⟨v16, rfl, ho, hb⟩; rw [he])
        go_ret2
        exact ⟨hb, .inl ⟨by decide, rfl⟩⟩
      · have hx2 : 16 < x := by omega
        have hx1d : decide (x < 1) = false := decide_eq_false hx1
        have hx2d : decide (16 < x) = true := decide_eq_true hx2
        go_wp2_with (go_at_call 17; refine HOO.out.mono ?_; rintro e w1 ⟨v16, rfl, ho, hb⟩; rw [he])
        go_ret2
        exact ⟨hb, .inl ⟨by decide, rfl⟩⟩
    · have hn : newErr l0 x = 0 := by unfold newErr; rw [if_neg (by omega), if_neg hx]
      rw [hn]
      have hx1d : decide (x < 1) = false := decide_eq_false (by omega)
      have hx2d : decide (16 < x) = false := decide_eq_false (by omega)
      clear hx
      go_enter Try.func27, Try.ntmps27
      go_wp2_with (go_at_call 17; refine HOO.out.mono ?_; rintro e w1 ⟨v16, rfl, ho, hb⟩; rw [he]; have HB1 := Aside0.mk hb; clear ho hb)
      obtain ⟨b, hbE⟩ : ∃ b, b = w1.heap.size := ⟨_, rfl⟩
      have hR1 : RefAt (w1.alloc (.cells #[.slice A0 l0.length c0, .int .i64 x, .slice none 0 0, .slice none 0 0, .slice none 0 0, .int .i64 0, .slice none 0 0] 55)) w.heap.size b (refTo l0 x l1 0) (fun _ => False) A0 c0 := ⟨_, _, _, _, {
        nb := fun h => h
        blk := by rw [hbE]; exact blk_new w1 _
        low := by rw [hbE]; exact below_size HB1.out
        rd := Kd.R_nil _ _ _ _ _
        rw := Kd.R_nil _ _ _ _ _
        rp := Kd.R_nil _ _ _ _ _
        rm := Kd.R_nil _ _ _ _ _ }⟩
      have hB1 := HB1.out.alloc (below_size HB1.out) (.cells #[.slice A0 l0.length c0, .int .i64 x, .slice none 0 0, .slice none 0 0, .slice none 0 0, .int .i64 0, .slice none 0 0] 55)
      obtain ⟨W1, hW1⟩ : ∃ W1, W1 = (w1.alloc (.cells #[.slice A0 l0.length c0, .int .i64 x, .slice none 0 0, .slice none 0 0, .slice none 0 0, .int .i64 0, .slice none 0 0] 55)) := ⟨_, rfl⟩
      rw [← hW1] at hR1 hB1 ⊢
      rw [← hbE]
      have HRS := Aside0.mk hR1
      have HBS := Aside0.mk hB1
      clear hW1 hbE hR1 hB1 HB1
      go_loopw [11] (fun v11 w' => ∃ i : Nat, i ≤ l0.length ∧ v11 = .int .i64 i ∧ Aside0 (RefAt w' w.heap.size b (refTo l0 x l1 i) (fun _ => False) A0 c0) ∧ Aside0 (Below w.heap.size w w')) (fun v11 _ => l0.length - (intOf v11).toNat)
      case atStart => exact ⟨0, by omega, rfl, HRS, HBS⟩
      case round =>
        clear HRS HBS
        obtain ⟨i, hi, rfl, HR, BR⟩ := hrel
        by_cases hlt : i < l0.length
        · obtain ⟨vd, vw, vp, vm, hR⟩ := HR.out
          obtain ⟨Ad, cd, evd⟩ := Kd.R_slice hR.rd
          obtain ⟨Aw, cw, evw⟩ := Kd.R_slice hR.rw
          obtain ⟨Ap, cp, evp⟩ := Kd.R_slice hR.rp
          rw [show (refTo l0 x l1 i).done.length = i from doneTo_len _ _] at evd
          rw [show (refTo l0 x l1 i).who.length = i from List.length_replicate] at evw
          rw [show (refTo l0 x l1 i).phase.length = i from List.length_replicate] at evp
          subst evd
          subst evw
          subst evp
          have hstep : doneTo l1 i ++ [bit l1 i] = doneTo l1 (i + 1) := rfl
          have HRd := hR.below (below_drew1 (Below.refl wr.heap.size wr))
          have HBd := BR.out.drew
          have hbsz : w.heap.size ≤ wr.drew.heap.size := Nat.le_of_lt (Nat.lt_of_le_of_lt HRd.low (blk_lt HRd.blk))
          have k2 : wr.drew.cell? ⟨b, 2, none⟩ = some (.slice Ad i cd) := (blk_cell HRd.blk 2).trans rfl
          clear hR HR
          by_cases hil : i < l1.length
          · obtain ⟨ad1, ead1, hc1⟩ := Kd.at_bool HR1.out (i : Int) (by omega) (by omega)
            subst ead1
            have hbit : rdOf false l1 (i : Int) = bit l1 i := by simp [rdOf, bit]
            rw [Int.toNat_natCast, hbit] at hc1
            have hw1 := Hid1.mk hc1
            have ka := pw_cell_below BR.out hc1
            have hilI : ((i : Int) < (l1.length : Int)) = True := eq_true (by omega)
            have hilD : decide ((i : Int) < (l1.length : Int)) = true := decide_eq_true (by omega)
            have hilN : decide (i < l1.length) = true := decide_eq_true hil
            have hiI : (0 ≤ (i : Int)) = True := eq_true (by omega)
            clear hc1 hbit BR
            go_wp2
            refine start_ (n := 20) (S := fun w' => w'.cell? ⟨b, 2, none⟩ = some (.slice Ad i cd) ∧ w'.cell? (ad1.add i) = some (.bool (bit l1 i))) (ds := [19]) #[false, false, false, false, false, false, false, false, false, false, false, false, false, false, false, false, false, false, false, false] (by kernel_rfl) rfl rfl ⟨k2, ka⟩ (fun hHeld => ?_)
            generalize wr.drew = Wd at HRd HBd hbsz k2 ka hHeld ⊢
            refine pure_ (i := 0) (N := some 36) (v := ?_) (a' := ?_) #[true, false, false, false, false, false, false, false, false, false, false, false, false, false, false, false, false, false, false, false] rfl rfl (by kernel_rfl) (fun _ _ _ h => h) (Or.inl ⟨by rfl, ?_⟩) ?_ ?_
            rotate_left
            · intro w'
              go_simp
              first | done | with_reducible rfl
            rotate_left
            · simp only [Act.put, List.setIfInBounds_toArray, List.set_cons_zero, List.set_cons_succ, i64_w, i32_w]
              rfl
            refine pure_ (i := 1) (N := some 37) (v := ?_) (a' := ?_) #[true, true, false, false, false, false, false, false, false, false, false, false, false, false, false, false, false, false, false, false] rfl rfl (by kernel_rfl) (fun _ _ _ h => h) (Or.inl ⟨by rfl, ?_⟩) ?_ ?_
            rotate_left
            · intro w'
              go_simp
              first | done | with_reducible rfl
            rotate_left
            · simp only [Act.put, List.setIfInBounds_toArray, List.set_cons_zero, List.set_cons_succ, i64_w, i32_w]
              rfl
            refine pure_ (i := 2) (N := some 38) (v := ?_) (a' := ?_) #[true, true, true, false, false, false, false, false, false, false, false, false, false, false, false, false, false, false, false, false] rfl rfl (by kernel_rfl) (fun _ _ _ h => h) (Or.inl ⟨by rfl, ?_⟩) ?_ ?_
            rotate_left
            · intro w'
              go_simp
              first | done | with_reducible rfl
            rotate_left
            · simp only [Act.put, List.setIfInBounds_toArray, List.set_cons_zero, List.set_cons_succ, i64_w, i32_w]
              rfl
            refine pure_ (i := 3) (N := some 39) (v := ?_) (a' := ?_) #[true, true, true, true, false, false, false, false, false, false, false, false, false, false, false, false, false, false, false, false] rfl rfl (by kernel_rfl) (fun _ _ _ h => h) (Or.inl ⟨by rfl, ?_⟩) ?_ ?_
            rotate_left
            · intro w'
              go_simp
              first | done | with_reducible rfl
            rotate_left
            · simp only [Act.put, List.setIfInBounds_toArray, List.set_cons_zero, List.set_cons_succ, i64_w, i32_w]
              rfl
            refine take_ (i := 4) (N := some 40) (v := ?_) (a' := ?_) #[true, true, true, true, true, false, false, false, false, false, false, false, false, false, false, false, false, false, false, false] rfl rfl (by kernel_rfl) (fun _ _ _ h => h) (Or.inl ⟨by rfl, ?_⟩) hHeld ?_ ?_
            rotate_left
            · intro w' s0
              obtain ⟨s1_, s2_⟩ := s0
              go_simp
              first | done | with_reducible rfl
            rotate_left
            · simp only [Act.put, List.setIfInBounds_toArray, List.set_cons_zero, List.set_cons_succ, i64_w, i32_w]
              rfl
            refine pure_ (i := 5) (N := some 41) (v := ?_) (a' := ?_) #[true, true, true, true, true, true, false, false, false, false, false, false, false, false, false, false, false, false, false, false] rfl rfl (by kernel_rfl) (fun _ _ _ h => h) (Or.inl ⟨by rfl, ?_⟩) ?_ ?_
            rotate_left
            · intro w'
              go_simp
              first | done | with_reducible rfl
            rotate_left
            · simp only [Act.put, List.setIfInBounds_toArray, List.set_cons_zero, List.set_cons_succ, i64_w, i32_w]
              rfl
            refine pure_ (i := 6) (N := some 42) (v := ?_) (a' := ?_) #[true, true, true, true, true, true, true, false, false, false, false, false, false, false, false, false, false, false, false, false] rfl rfl (by kernel_rfl) (fun _ _ _ h => h) (Or.inl ⟨by rfl, ?_⟩) ?_ ?_
            rotate_left
            · intro w'
              go_simp
              first | done | with_reducible rfl
            rotate_left
            · simp only [Act.put, List.setIfInBounds_toArray, List.set_cons_zero, List.set_cons_succ, i64_w, i32_w]
              rfl
            refine pure_ (i := 7) (N := some 43) (v := ?_) (a' := ?_) #[true, true, true, true, true, true, true, true, false, false, false, false, false, false, false, false, false, false, false, false] rfl rfl (by kernel_rfl) (fun _ _ _ h => h) (Or.inl ⟨by rfl, ?_⟩) ?_ ?_
            rotate_left
            · intro w'
              go_simp
              first | done | with_reducible rfl
            rotate_left
            · simp only [Act.put, List.setIfInBounds_toArray, List.set_cons_zero, List.set_cons_succ, i64_w, i32_w]
              rfl
            refine pure_ (i := 8) (N := some 44) (v := ?_) (a' := ?_) #[true, true, true, true, true, true, true, true, true, false, false, false, false, false, false, false, false, false, false, false] rfl rfl (by kernel_rfl) (fun _ _ _ h => h) (Or.inl ⟨by rfl, ?_⟩) ?_ ?_
            rotate_left
            · intro w'
              go_simp
              first | done | with_reducible rfl
            rotate_left
            · simp only [Act.put, List.setIfInBounds_toArray, List.set_cons_zero, List.set_cons_succ, i64_w, i32_w]
              rfl
            refine pure_ (i := 9) (N := some 45) (v := ?_) (a' := ?_) #[true, true, true, true, true, true, true, true, true, true, false, false, false, false, false, false, false, false, false, false] rfl rfl (by kernel_rfl) (fun _ _ _ h => h) (Or.inl ⟨by rfl, ?_⟩) ?_ ?_
            rotate_left
            · intro w'
              go_simp
              first | done | with_reducible rfl
            rotate_left
            · simp only [Act.put, List.setIfInBounds_toArray, List.set_cons_zero, List.set_cons_succ, i64_w, i32_w]
              rfl
            refine pure_ (i := 10) (N := some 46) (v := ?_) (a' := ?_) #[true, true, true, true, true, true, true, true, true, true, true, false, false, false, false, false, false, false, false, false] rfl rfl (by kernel_rfl) (fun _ _ _ h => h) (Or.inl ⟨by rfl, ?_⟩) ?_ ?_
            rotate_left
            · intro w'
              go_simp
              first | done | with_reducible rfl
            rotate_left
            · simp only [Act.put, List.setIfInBounds_toArray, List.set_cons_zero, List.set_cons_succ, i64_w, i32_w]
              rfl
            refine pure_ (i := 11) (N := some 47) (v := ?_) (a' := ?_) #[true, true, true, true, true, true, true, true, true, true, true, true, false, false, false, false, false, false, false, false] rfl rfl (by kernel_rfl) (fun _ _ _ h => h) (Or.inl ⟨by rfl, ?_⟩) ?_ ?_
            rotate_left
            · intro w'
              go_simp
              first | done | with_reducible rfl
            rotate_left
            · simp only [Act.put, List.setIfInBounds_toArray, List.set_cons_zero, List.set_cons_succ, i64_w, i32_w]
              rfl
            refine pure_ (i := 12) (N := some 48) (v := ?_) (a' := ?_) #[true, true, true, true, true, true, true, true, true, true, true, true, true, false, false, false, false, false, false, false] rfl rfl (by kernel_rfl) (fun _ _ _ h => h) (Or.inl ⟨by rfl, ?_⟩) ?_ ?_
            rotate_left
            · intro w'
              go_simp
              first | done | with_reducible rfl
            rotate_left
            · simp only [Act.put, List.setIfInBounds_toArray, List.set_cons_zero, List.set_cons_succ, i64_w, i32_w]
              rfl
            refine take_ (i := 13) (N := some 49) (v := ?_) (a' := ?_) #[true, true, true, true, true, true, true, true, true, true, true, true, true, true, false, false, false, false, false, false] rfl rfl (by kernel_rfl) (fun _ _ _ h => h) (Or.inl ⟨by rfl, ?_⟩) hHeld ?_ ?_
            rotate_left
            · intro w' s0
              obtain ⟨s1_, s2_⟩ := s0
              go_simp
              first | done | with_reducible rfl
            rotate_left
            · simp only [Act.put, List.setIfInBounds_toArray, List.set_cons_zero, List.set_cons_succ, i64_w, i32_w]
              rfl
            refine pure_ (i := 14) (N := some 50) (v := ?_) (a' := ?_) #[true, true, true, true, true, true, true, true, true, true, true, true, true, true, true, false, false, false, false, false] rfl rfl (by kernel_rfl) (fun _ _ _ h => h) (Or.inl ⟨by rfl, ?_⟩) ?_ ?_
            rotate_left
            · intro w'
              go_simp
              first | done | with_reducible rfl
            rotate_left
            · simp only [Act.put, List.setIfInBounds_toArray, List.set_cons_zero, List.set_cons_succ, i64_w, i32_w]
              rfl
            refine one_ (i := 15) (N := some 51) #[true, true, true, true, true, true, true, true, true, true, true, true, true, true, true, true, false, false, false, false] rfl rfl (by kernel_rfl) (by decide) (fun K hK => ?_)
            refine value_ (w1 := ?_) (v := ?_) (by rfl) rfl ?_ ?_
            rotate_left 2
            · go_simp
              first | done | rfl | (constructor <;> rfl)
            refine hK.out _ _ ⟨alloc_cell' hHeld.1 _, alloc_cell' hHeld.2 _⟩ (fun hHeld => ?_)
            clear hK K
            refine norm_ (a' := ?_) ?_ ?_
            rotate_left
            · simp only [Act.put, List.setIfInBounds_toArray, List.set_cons_zero, List.set_cons_succ]
              rfl
            refine one_ (i := 16) (N := some 52) #[true, true, true, true, true, true, true, true, true, true, true, true, true, true, true, true, true, false, false, false] rfl rfl (by kernel_rfl) (by decide) (fun K hK => ?_)
            refine Kd.R_append_step Kd.bool (w0 := w) w.heap.size (by rfl) (.tmp 40) (.tmp 51) 35 4 (.bool false) 1 rfl Try.underlying35 info4 rfl (by decide) (by omega) _ (doneTo l1 i) (bit l1 i) [.bool (bit l1 i)] _ (fun _ => False) rfl rfl rfl (fun _ hk => hk.elim) (fun _ _ h => h) HRd.rd HBd hbsz (by rw [doneTo_len]; omega) ?_
            intro v1 wa hoa hba hga hata
            rw [hstep] at hoa
            obtain ⟨Av, cv, ev⟩ := Kd.R_slice hoa
            rw [doneTo_len] at ev
            subst ev
            have hnb := HRd.typed_ne (Kd.R_typed HRd.rd) (by decide)
            have k2 : wa.cell? ⟨b, 2, none⟩ = some (.slice Ad i cd) := (blk_cell (blk_grown HRd.blk hga hnb) 2).trans rfl
            have f2 := blk_frozen (blk_grown HRd.blk hga hnb) 2
            have ka : wa.cell? (ad1.add i) = some (.bool (bit l1 i)) := pw_cell_below hba (by exact hw1.out)
            refine hK.out _ _ ⟨k2, ka⟩ (fun hHeld => ?_)
            clear hK K
            have HRa := Aside0.mk (HRd.growDone hga hoa)
            have HBa := Aside0.mk (hba.setCell (p := ⟨b, 2, none⟩) HRd.low (.slice Av (i + 1) cv))
            clear hga hoa hata hba hnb
            refine norm_ (a' := ?_) ?_ ?_
            rotate_left
            · show Act.put _ (some 52) _ = _
              simp only [Act.put, List.setIfInBounds_toArray, List.set_cons_zero, List.set_cons_succ]
              rfl
            refine pure_ (i := 17) (N := some 53) (v := ?_) (a' := ?_) #[true, true, true, true, true, true, true, true, true, true, true, true, true, true, true, true, true, true, false, false] rfl rfl (by kernel_rfl) (fun _ _ _ h => h) (Or.inl ⟨by rfl, ?_⟩) ?_ ?_
            rotate_left
            · intro w'
              go_simp
              first | done | with_reducible rfl
            rotate_left
            · simp only [Act.put, List.setIfInBounds_toArray, List.set_cons_zero, List.set_cons_succ, i64_w, i32_w]
              rfl
            refine pure_ (i := 18) (N := some 54) (v := ?_) (a' := ?_) #[true, true, true, true, true, true, true, true, true, true, true, true, true, true, true, true, true, true, true, false] rfl rfl (by kernel_rfl) (fun _ _ _ h => h) (Or.inl ⟨by rfl, ?_⟩) ?_ ?_
            rotate_left
            · intro w'
              go_simp
              first | done | with_reducible rfl
            rotate_left
            · simp only [Act.put, List.setIfInBounds_toArray, List.set_cons_zero, List.set_cons_succ, i64_w, i32_w]
              rfl
            refine last_ (i := 19) (N := none) #[true, true, true, true, true, true, true, true, true, true, true, true, true, true, true, true, true, true, true, true] rfl rfl (by kernel_rfl) (by decide) (fun K hK => ?_)
            refine skip_ (w1 := ?_) (by rfl) rfl ?_ ?_
            rotate_left
            · go_simp
              first | done | rfl
            refine hK.out _ _ ?_
            clear hK K
            refine done_ (by kernel_rfl) ?_
            have k3a : (wa.setCell ⟨b, 2, none⟩ (.slice Av (i + 1) cv)).cell? ⟨b, 3, none⟩ = some (.slice Aw i cw) := (blk_cell HRa.out.blk 3).trans rfl
            go_wp2_with (first | ((with_reducible refine gate_builtin (b := .append) (xs := #[.tmp 59, .tmp 60]) rfl ?_); (try (refine gate_guard (by rfl) ?_; dsimp only)); at_builtin; refine Kd.R_append (Kd.int .i64) (w0 := w) w.heap.size rfl (.tmp 59) (.tmp 60) 25 3 (.int .i64 0) 8 rfl Try.underlying25 info3 rfl (by decide) (by omega) _ (List.replicate i (-1)) (-1) [.int .i64 (-1)] _ (fun _ => False) rfl (by first | rfl | (rw [setCell_size]; rfl)) rfl (fun _ hk => hk.elim) (fun k hk => ⟨fun h => by have := Kd.R_lt HRa.out.rp k h.symm; omega, fun h => by have := Kd.R_lt HRa.out.rm k h.symm; omega, fun h => h⟩) HRa.out.rw HBa.out (Nat.le_of_lt (Nat.lt_of_le_of_lt HRa.out.low (blk_lt HRa.out.blk))) (by simp; omega) ?_; intro v1 wb hob hbb hgb hatb; rw [← List.replicate_succ'] at hob; obtain ⟨Ab, cb, eb⟩ := Kd.R_slice hob; rw [List.length_replicate] at eb; subst eb; have hnb := HRa.out.typed_ne (Kd.R_typed HRa.out.rw) (by decide); have k3 : wb.cell? ⟨b, 3, none⟩ = some (.slice Aw i cw) := (blk_cell (blk_grown HRa.out.blk hgb hnb) 3).trans rfl; have f3 := blk_frozen (blk_grown HRa.out.blk hgb hnb) 3; have HRb := Aside0.mk (HRa.out.growWho hgb hatb hob); have HBb := Aside0.mk (hbb.setCell (p := ⟨b, 3, none⟩) HRa.out.low (.slice Ab (i + 1) cb)); have k4 : (wb.setCell ⟨b, 3, none⟩ (.slice Ab (i + 1) cb)).cell? ⟨b, 4, none⟩ = some (.slice Ap i cp) := (blk_cell HRb.out.blk 4).trans rfl; clear hgb hob hatb hbb hnb) | ((with_reducible refine gate_builtin (b := .append) (xs := #[.tmp 68, .tmp 69]) rfl ?_); (try (refine gate_guard (by rfl) ?_; dsimp only)); at_builtin; refine Kd.R_append (Kd.int .i64) (w0 := w) w.heap.size rfl (.tmp 68) (.tmp 69) 25 3 (.int .i64 0) 8 rfl Try.underlying25 info3 rfl (by decide) (by omega) _ (List.replicate i 0) (0) [.int .i64 (0)] _ (fun _ => False) rfl (by first | rfl | (rw [setCell_size]; rfl)) rfl (fun _ hk => hk.elim) (fun k hk => ⟨fun h => by have := Kd.R_lt HRb.out.rw k h.symm; omega, fun h => by have := Kd.R_lt HRb.out.rm k h.symm; omega, fun h => h⟩) HRb.out.rp HBb.out (Nat.le_of_lt (Nat.lt_of_le_of_lt HRb.out.low (blk_lt HRb.out.blk))) (by simp; omega) ?_; intro v1 wc hoc hbc hgc hatc; rw [← List.replicate_succ'] at hoc; obtain ⟨Ac, cc, ec⟩ := Kd.R_slice hoc; rw [List.length_replicate] at ec; subst ec; have hnb := HRb.out.typed_ne (Kd.R_typed HRb.out.rp) (by decide); have k4' : wc.cell? ⟨b, 4, none⟩ = some (.slice Ap i cp) := (blk_cell (blk_grown HRb.out.blk hgc hnb) 4).trans rfl; have f4 := blk_frozen (blk_grown HRb.out.blk hgc hnb) 4; have HRc := Aside0.mk (HRb.out.growPhase hgc hatc hoc); have HBc := Aside0.mk (hbc.setCell (p := ⟨b, 4, none⟩) HRb.out.low (.slice Ac (i + 1) cc)); clear hgc hoc hatc hbc hnb))
            go_roundw
            case rel => exact ⟨i + 1, by omega, by go_num, ⟨⟨_, _, _, _, HRc.out⟩⟩, HBc⟩
            case measure => simp [intOf]; omega
          · have hb0 : bit l1 i = false := by unfold bit; simp [List.getElem?_eq_none (Nat.le_of_not_lt hil)]
            rw [hb0] at hstep
            have hilI : ((i : Int) < (l1.length : Int)) = False := eq_false (by omega)
            have hilD : decide ((i : Int) < (l1.length : Int)) = false := decide_eq_false (by omega)
            have hilN : decide (i < l1.length) = false := decide_eq_false hil
            clear hb0 BR
            go_wp2
            refine start_ (n := 20) (S := fun w' => w'.cell? ⟨b, 2, none⟩ = some (.slice Ad i cd) ∧ True) (ds := [19]) #[false, false, false, false, false, false, false, false, false, false, false, false, false, false, false, false, false, false, false, false] (by kernel_rfl) rfl rfl ⟨k2, trivial⟩ (fun hHeld => ?_)
            generalize wr.drew = Wd at HRd HBd hbsz k2  hHeld ⊢
            refine pure_ (i := 0) (N := some 36) (v := ?_) (a' := ?_) #[true, false, false, false, false, false, false, false, false, false, false, false, false, false, false, false, false, false, false, false] rfl rfl (by kernel_rfl) (fun _ _ _ h => h) (Or.inl ⟨by rfl, ?_⟩) ?_ ?_
            rotate_left
            · intro w'
              go_simp
              first | done | with_reducible rfl
            rotate_left
            · simp only [Act.put, List.setIfInBounds_toArray, List.set_cons_zero, List.set_cons_succ, i64_w, i32_w]
              rfl
            refine pure_ (i := 1) (N := some 37) (v := ?_) (a' := ?_) #[true, true, false, false, false, false, false, false, false, false, false, false, false, false, false, false, false, false, false, false] rfl rfl (by kernel_rfl) (fun _ _ _ h => h) (Or.inl ⟨by rfl, ?_⟩) ?_ ?_
            rotate_left
            · intro w'
              go_simp
              first | done | with_reducible rfl
            rotate_left
            · simp only [Act.put, List.setIfInBounds_toArray, List.set_cons_zero, List.set_cons_succ, i64_w, i32_w]
              rfl
            refine pure_ (i := 2) (N := some 38) (v := ?_) (a' := ?_) #[true, true, true, false, false, false, false, false, false, false, false, false, false, false, false, false, false, false, false, false] rfl rfl (by kernel_rfl) (fun _ _ _ h => h) (Or.inl ⟨by rfl, ?_⟩) ?_ ?_
            rotate_left
            · intro w'
              go_simp
              first | done | with_reducible rfl
            rotate_left
            · simp only [Act.put, List.setIfInBounds_toArray, List.set_cons_zero, List.set_cons_succ, i64_w, i32_w]
              rfl
            refine pure_ (i := 3) (N := some 39) (v := ?_) (a' := ?_) #[true, true, true, true, false, false, false, false, false, false, false, false, false, false, false, false, false, false, false, false] rfl rfl (by kernel_rfl) (fun _ _ _ h => h) (Or.inl ⟨by rfl, ?_⟩) ?_ ?_
            rotate_left
            · intro w'
              go_simp
              first | done | with_reducible rfl
            rotate_left
            · simp only [Act.put, List.setIfInBounds_toArray, List.set_cons_zero, List.set_cons_succ, i64_w, i32_w]
              rfl
            refine take_ (i := 4) (N := some 40) (v := ?_) (a' := ?_) #[true, true, true, true, true, false, false, false, false, false, false, false, false, false, false, false, false, false, false, false] rfl rfl (by kernel_rfl) (fun _ _ _ h => h) (Or.inl ⟨by rfl, ?_⟩) hHeld ?_ ?_
            rotate_left
            · intro w' s0
              obtain ⟨s1_, s2_⟩ := s0
              go_simp
              first | done | with_reducible rfl
            rotate_left
            · simp only [Act.put, List.setIfInBounds_toArray, List.set_cons_zero, List.set_cons_succ, i64_w, i32_w]
              rfl
            refine pure_ (i := 5) (N := some 41) (v := ?_) (a' := ?_) #[true, true, true, true, true, true, false, false, false, false, false, false, false, false, false, false, false, false, false, false] rfl rfl (by kernel_rfl) (fun _ _ _ h => h) (Or.inl ⟨by rfl, ?_⟩) ?_ ?_
            rotate_left
            · intro w'
              go_simp
              first | done | with_reducible rfl
            rotate_left
            · simp only [Act.put, List.setIfInBounds_toArray, List.set_cons_zero, List.set_cons_succ, i64_w, i32_w]
              rfl
            refine pure_ (i := 6) (N := some 42) (v := ?_) (a' := ?_) #[true, true, true, true, true, true, true, false, false, false, false, false, false, false, false, false, false, false, false, false] rfl rfl (by kernel_rfl) (fun _ _ _ h => h) (Or.inl ⟨by rfl, ?_⟩) ?_ ?_
            rotate_left
            · intro w'
              go_simp
              first | done | with_reducible rfl
            rotate_left
            · simp only [Act.put, List.setIfInBounds_toArray, List.set_cons_zero, List.set_cons_succ, i64_w, i32_w]
              rfl
            refine pure_ (i := 7) (N := some 43) (v := ?_) (a' := ?_) #[true, true, true, true, true, true, true, true, false, false, false, false, false, false, false, false, false, false, false, false] rfl rfl (by kernel_rfl) (fun _ _ _ h => h) (Or.inl ⟨by rfl, ?_⟩) ?_ ?_
            rotate_left
            · intro w'
              go_simp
              first | done | with_reducible rfl
            rotate_left
            · simp only [Act.put, List.setIfInBounds_toArray, List.set_cons_zero, List.set_cons_succ, i64_w, i32_w]
              rfl
            refine pure_ (i := 8) (N := some 44) (v := ?_) (a' := ?_) #[true, true, true, true, true, true, true, true, true, false, false, false, false, false, false, false, false, false, false, false] rfl rfl (by kernel_rfl) (fun _ _ _ h => h) (Or.inl ⟨by rfl, ?_⟩) ?_ ?_
            rotate_left
            · intro w'
              go_simp
              first | done | with_reducible rfl
            rotate_left
            · simp only [Act.put, List.setIfInBounds_toArray, List.set_cons_zero, List.set_cons_succ, i64_w, i32_w]
              rfl
            refine pure_ (i := 9) (N := some 45) (v := ?_) (a' := ?_) #[true, true, true, true, true, true, true, true, true, true, false, false, false, false, false, false, false, false, false, false] rfl rfl (by kernel_rfl) (fun _ _ _ h => h) (Or.inl ⟨by rfl, ?_⟩) ?_ ?_
            rotate_left
            · intro w'
              go_simp
              first | done | with_reducible rfl
            rotate_left
            · simp only [Act.put, List.setIfInBounds_toArray, List.set_cons_zero, List.set_cons_succ, i64_w, i32_w]
              rfl
            refine pure_ (i := 10) (N := some 46) (v := undef) (a' := ?_) #[true, true, true, true, true, true, true, true, true, true, true, false, false, false, false, false, false, false, false, false] rfl rfl (by kernel_rfl) (fun _ _ _ h => h) (Or.inr ⟨by rfl, rfl⟩) ?_ ?_
            rotate_left
            · simp only [Act.put, List.setIfInBounds_toArray, List.set_cons_zero, List.set_cons_succ, i64_w, i32_w]
              rfl
            refine pure_ (i := 11) (N := some 47) (v := undef) (a' := ?_) #[true, true, true, true, true, true, true, true, true, true, true, true, false, false, false, false, false, false, false, false] rfl rfl (by kernel_rfl) (fun _ _ _ h => h) (Or.inr ⟨by rfl, rfl⟩) ?_ ?_
            rotate_left
            · simp only [Act.put, List.setIfInBounds_toArray, List.set_cons_zero, List.set_cons_succ, i64_w, i32_w]
              rfl
            refine pure_ (i := 12) (N := some 48) (v := undef) (a' := ?_) #[true, true, true, true, true, true, true, true, true, true, true, true, true, false, false, false, false, false, false, false] rfl rfl (by kernel_rfl) (fun _ _ _ h => h) (Or.inr ⟨by rfl, rfl⟩) ?_ ?_
            rotate_left
            · simp only [Act.put, List.setIfInBounds_toArray, List.set_cons_zero, List.set_cons_succ, i64_w, i32_w]
              rfl
            refine pure_ (i := 13) (N := some 49) (v := undef) (a' := ?_) #[true, true, true, true, true, true, true, true, true, true, true, true, true, true, false, false, false, false, false, false] rfl rfl (by kernel_rfl) (fun _ _ _ h => h) (Or.inr ⟨by rfl, rfl⟩) ?_ ?_
            rotate_left
            · simp only [Act.put, List.setIfInBounds_toArray, List.set_cons_zero, List.set_cons_succ, i64_w, i32_w]
              rfl
            refine pure_ (i := 14) (N := some 50) (v := ?_) (a' := ?_) #[true, true, true, true, true, true, true, true, true, true, true, true, true, true, true, false, false, false, false, false] rfl rfl (by kernel_rfl) (fun _ _ _ h => h) (Or.inl ⟨by rfl, ?_⟩) ?_ ?_
            rotate_left
            · intro w'
              go_simp
              first | done | with_reducible rfl
            rotate_left
            · simp only [Act.put, List.setIfInBounds_toArray, List.set_cons_zero, List.set_cons_succ, i64_w, i32_w]
              rfl
            refine one_ (i := 15) (N := some 51) #[true, true, true, true, true, true, true, true, true, true, true, true, true, true, true, true, false, false, false, false] rfl rfl (by kernel_rfl) (by decide) (fun K hK => ?_)
            refine value_ (w1 := ?_) (v := ?_) (by rfl) rfl ?_ ?_
            rotate_left 2
            · go_simp
              first | done | rfl | (constructor <;> rfl)
            refine hK.out _ _ ⟨alloc_cell' hHeld.1 _, trivial⟩ (fun hHeld => ?_)
            clear hK K
            refine norm_ (a' := ?_) ?_ ?_
            rotate_left
            · simp only [Act.put, List.setIfInBounds_toArray, List.set_cons_zero, List.set_cons_succ]
              rfl
            refine one_ (i := 16) (N := some 52) #[true, true, true, true, true, true, true, true, true, true, true, true, true, true, true, true, true, false, false, false] rfl rfl (by kernel_rfl) (by decide) (fun K hK => ?_)
            refine Kd.R_append_step Kd.bool (w0 := w) w.heap.size (by rfl) (.tmp 40) (.tmp 51) 35 4 (.bool false) 1 rfl Try.underlying35 info4 rfl (by decide) (by omega) _ (doneTo l1 i) false [.bool false] _ (fun _ => False) rfl rfl rfl (fun _ hk => hk.elim) (fun _ _ h => h) HRd.rd HBd hbsz (by rw [doneTo_len]; omega) ?_
            intro v1 wa hoa hba hga hata
            rw [hstep] at hoa
            obtain ⟨Av, cv, ev⟩ := Kd.R_slice hoa
            rw [doneTo_len] at ev
            subst ev
            have hnb := HRd.typed_ne (Kd.R_typed HRd.rd) (by decide)
            have k2 : wa.cell? ⟨b, 2, none⟩ = some (.slice Ad i cd) := (blk_cell (blk_grown HRd.blk hga hnb) 2).trans rfl
            have f2 := blk_frozen (blk_grown HRd.blk hga hnb) 2
            refine hK.out _ _ ⟨k2, trivial⟩ (fun hHeld => ?_)
            clear hK K
            have HRa := Aside0.mk (HRd.growDone hga hoa)
            have HBa := Aside0.mk (hba.setCell (p := ⟨b, 2, none⟩) HRd.low (.slice Av (i + 1) cv))
            clear hga hoa hata hba hnb
            refine norm_ (a' := ?_) ?_ ?_
            rotate_left
            · show Act.put _ (some 52) _ = _
              simp only [Act.put, List.setIfInBounds_toArray, List.set_cons_zero, List.set_cons_succ]
              rfl
            refine pure_ (i := 17) (N := some 53) (v := ?_) (a' := ?_) #[true, true, true, true, true, true, true, true, true, true, true, true, true, true, true, true, true, true, false, false] rfl rfl (by kernel_rfl) (fun _ _ _ h => h) (Or.inl ⟨by rfl, ?_⟩) ?_ ?_
            rotate_left
            · intro w'
              go_simp
              first | done | with_reducible rfl
            rotate_left
            · simp only [Act.put, List.setIfInBounds_toArray, List.set_cons_zero, List.set_cons_succ, i64_w, i32_w]
              rfl
            refine pure_ (i := 18) (N := some 54) (v := ?_) (a' := ?_) #[true, true, true, true, true, true, true, true, true, true, true, true, true, true, true, true, true, true, true, false] rfl rfl (by kernel_rfl) (fun _ _ _ h => h) (Or.inl ⟨by rfl, ?_⟩) ?_ ?_
            rotate_left
            · intro w'
              go_simp
              first | done | with_reducible rfl
            rotate_left
            · simp only [Act.put, List.setIfInBounds_toArray, List.set_cons_zero, List.set_cons_succ, i64_w, i32_w]
              rfl
            refine last_ (i := 19) (N := none) #[true, true, true, true, true, true, true, true, true, true, true, true, true, true, true, true, true, true, true, true] rfl rfl (by kernel_rfl) (by decide) (fun K hK => ?_)
            refine skip_ (w1 := ?_) (by rfl) rfl ?_ ?_
            rotate_left
            · go_simp
              first | done | rfl
            refine hK.out _ _ ?_
            clear hK K
            refine done_ (by kernel_rfl) ?_
            have k3a : (wa.setCell ⟨b, 2, none⟩ (.slice Av (i + 1) cv)).cell? ⟨b, 3, none⟩ = some (.slice Aw i cw) := (blk_cell HRa.out.blk 3).trans rfl
            go_wp2_with (first | ((with_reducible refine gate_builtin (b := .append) (xs := #[.tmp 59, .tmp 60]) rfl ?_); (try (refine gate_guard (by rfl) ?_; dsimp only)); at_builtin; refine Kd.R_append (Kd.int .i64) (w0 := w) w.heap.size rfl (.tmp 59) (.tmp 60) 25 3 (.int .i64 0) 8 rfl Try.underlying25 info3 rfl (by decide) (by omega) _ (List.replicate i (-1)) (-1) [.int .i64 (-1)] _ (fun _ => False) rfl (by first | rfl | (rw [setCell_size]; rfl)) rfl (fun _ hk => hk.elim) (fun k hk => ⟨fun h => by have := Kd.R_lt HRa.out.rp k h.symm; omega, fun h => by have := Kd.R_lt HRa.out.rm k h.symm; omega, fun h => h⟩) HRa.out.rw HBa.out (Nat.le_of_lt (Nat.lt_of_le_of_lt HRa.out.low (blk_lt HRa.out.blk))) (by simp; omega) ?_; intro v1 wb hob hbb hgb hatb; rw [← List.replicate_succ'] at hob; obtain ⟨Ab, cb, eb⟩ := Kd.R_slice hob; rw [List.length_replicate] at eb; subst eb; have hnb := HRa.out.typed_ne (Kd.R_typed HRa.out.rw) (by decide); have k3 : wb.cell? ⟨b, 3, none⟩ = some (.slice Aw i cw) := (blk_cell (blk_grown HRa.out.blk hgb hnb) 3).trans rfl; have f3 := blk_frozen (blk_grown HRa.out.blk hgb hnb) 3; have HRb := Aside0.mk (HRa.out.growWho hgb hatb hob); have HBb := Aside0.mk (hbb.setCell (p := ⟨b, 3, none⟩) HRa.out.low (.slice Ab (i + 1) cb)); have k4 : (wb.setCell ⟨b, 3, none⟩ (.slice Ab (i + 1) cb)).cell? ⟨b, 4, none⟩ = some (.slice Ap i cp) := (blk_cell HRb.out.blk 4).trans rfl; clear hgb hob hatb hbb hnb) | ((with_reducible refine gate_builtin (b := .append) (xs := #[.tmp 68, .tmp 69]) rfl ?_); (try (refine gate_guard (by rfl) ?_; dsimp only)); at_builtin; refine Kd.R_append (Kd.int .i64) (w0 := w) w.heap.size rfl (.tmp 68) (.tmp 69) 25 3 (.int .i64 0) 8 rfl Try.underlying25 info3 rfl (by decide) (by omega) _ (List.replicate i 0) (0) [.int .i64 (0)] _ (fun _ => False) rfl (by first | rfl | (rw [setCell_size]; rfl)) rfl (fun _ hk => hk.elim) (fun k hk => ⟨fun h => by have := Kd.R_lt HRb.out.rw k h.symm; omega, fun h => by have := Kd.R_lt HRb.out.rm k h.symm; omega, fun h => h⟩) HRb.out.rp HBb.out (Nat.le_of_lt (Nat.lt_of_le_of_lt HRb.out.low (blk_lt HRb.out.blk))) (by simp; omega) ?_; intro v1 wc hoc hbc hgc hatc; rw [← List.replicate_succ'] at hoc; obtain ⟨Ac, cc, ec⟩ := Kd.R_slice hoc; rw [List.length_replicate] at ec; subst ec; have hnb := HRb.out.typed_ne (Kd.R_typed HRb.out.rp) (by decide); have k4' : wc.cell? ⟨b, 4, none⟩ = some (.slice Ap i cp) := (blk_cell (blk_grown HRb.out.blk hgc hnb) 4).trans rfl; have f4 := blk_frozen (blk_grown HRb.out.blk hgc hnb) 4; have HRc := Aside0.mk (HRb.out.growPhase hgc hatc hoc); have HBc := Aside0.mk (hbc.setCell (p := ⟨b, 4, none⟩) HRb.out.low (.slice Ac (i + 1) cc)); clear hgc hoc hatc hbc hnb))
            go_roundw
            case rel => exact ⟨i + 1, by omega, by go_num, ⟨⟨_, _, _, _, HRc.out⟩⟩, HBc⟩
            case measure => simp [intOf]; omega
        · obtain rfl : i = l0.length := by omega
          go_wp2
          go_ret2
          exact ⟨BR.out, .inr ⟨by trivial, b, rfl, HR.out⟩⟩
  · have hn : newErr l0 x = (orderOf l0).2 := by unfold newErr; rw [if_pos he]
    rw [hn]
    have hef : ((orderOf l0).2 = 0) = False := eq_false he
    have heb : ((orderOf l0).2 != 0) = true := bne_iff_ne.mpr he
    go_enter Try.func27, Try.ntmps27
    go_wp2_with (go_at_call 17; refine HOO.out.mono ?_; rintro e w1 ⟨v16, rfl, ho, hb⟩)
    go_ret2
    exact ⟨hb, .inl ⟨he, rfl⟩⟩
end Go.Proofs.Ytgjlgdohlmpnbaa.P
