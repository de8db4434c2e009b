/- The contract of sched's least: the least job that is ready and not taken. Conditions: as it states. -/
import Derived.Test.YtgjlgdohlmpnbaaG4
namespace Go.Proofs.Ytgjlgdohlmpnbaa.P
set_option linter.unusedVariables false
set_option linter.unusedSimpArgs false
open Go.RowKit Go.Proofs.YtgjlgdohlmpnbaaW.PrintWords Go.Proofs.YtgjlgdohlmpnbaaW.PrintLast Go.Proofs.YtgjlgdohlmpnbaaW.PrintMore
/-- the least of the first m of rs that is not taken, as the loop goes -/
def leastTo (l : List S31) (taken : List Bool) (rs : List Int) : Nat → Int
  | 0 => -1
  | m + 1 => if rdOf false taken (rd rs (m : Int)) = true then leastTo l taken rs m else if leastTo l taken rs m < 0 then rd rs (m : Int) else if Op.bytesLess ((rd_T31 l (rd rs (m : Int))).f0).toList ((rd_T31 l (leastTo l taken rs m)).f0).toList = true then rd rs (m : Int) else leastTo l taken rs m
def leastOf (s : St) : Int := leastTo s.l s.taken (readyTo s.l s.done s.l.length) (readyTo s.l s.done s.l.length).length
theorem least_mem (l : List S31) (taken : List Bool) (rs : List Int) : ∀ m, m ≤ rs.length → leastTo l taken rs m = -1 ∨ leastTo l taken rs m ∈ rs
  | 0, _ => .inl rfl
  | m + 1, h => by
    unfold leastTo
    have hm := rd_mem rs m h
    have ih := least_mem l taken rs m (by omega)
    split
    · exact ih
    · split
      · exact .inr hm
      · split
        · exact .inr hm
        · exact ih
set_option maxHeartbeats 4000000 in
set_option maxRecDepth 100000 in
theorem least_any (b : Nat) (s : St) (base : Nat) (w : World) {K : Nat → Prop} (h : SchedAt w base b s K) (hlen : s.l.length ≤ 1000000) (hneed : ∀ i : Nat, (rd_T31 s.l (i : Int)).f1.length ≤ 1000000) (ht : s.taken.length = s.l.length) :
    Calls Try.prog 37 #[.pointer (some ⟨b, 0, none⟩)] w fun e w' => e = .returned (.int .i64 (leastOf s)) ∧ Below w.heap.size w w' := by
  obtain ⟨Al, cl, vd, vt, vm, cs, h⟩ := h
  have h0 : w.cell? ⟨b, 0, none⟩ = some (.slice Al s.l.length cl) := (blk_cell h.blk 0).trans h.cells.c0
  have h34 : w.cell? ⟨b, 34, none⟩ = some vd := (blk_cell h.blk 34).trans h.cells.c34
  have h35 : w.cell? ⟨b, 35, none⟩ = some vt := (blk_cell h.blk 35).trans h.cells.c35
  obtain ⟨Ad, cd, rfl, hcd, hd1⟩ := Kd.R_reads h.rd
  obtain ⟨At, ct, rfl, hct, ht1⟩ := Kd.R_reads h.rt
  obtain ⟨_, hcl, hl1⟩ := Kd.R_reads' h.rl
  have HD := Aside0.mk hd1
  have HT := Aside0.mk ht1
  have HL := Aside0.mk hl1
  have H := Hid1.mk h
  have HTL := Hid1.mk ht
  clear h hd1 ht1 hl1 hcd hct hcl ht
  unfold leastOf
  have HM := Hid1.mk (ready_mem s.l s.done s.l.length)
  have hrl := readyTo_len s.l s.done s.l.length
  obtain ⟨rs, hrs⟩ : ∃ rs, rs = readyTo s.l s.done s.l.length := ⟨_, rfl⟩
  rw [← hrs] at HM hrl
  rw [← hrs]
  have HRS := Hid1.mk hrs
  clear hrs
  go_enter Try.func37, Try.ntmps37
  go_wp2
  have HLd := Aside0.mk (Kd.C_below HL.out (below_drew1 (Below.refl w.heap.size w)))
  have HDd := Aside0.mk (Kd.C_below HD.out (below_drew1 (Below.refl w.heap.size w)))
  have HTd := Aside0.mk (Kd.C_below HT.out (below_drew1 (Below.refl w.heap.size w)))
  clear HL HD HT
  refine start_ (n := 11) (S := fun w' => w'.cell? ⟨b, 0, none⟩ = some (.slice Al s.l.length cl) ∧ w'.cell? ⟨b, 34, none⟩ = some (.slice Ad s.done.length cd) ∧ w'.cell? ⟨b, 35, none⟩ = some (.slice At s.taken.length ct)) (ds := []) #[false, false, false, false, false, false, false, false, false, false, false] (by kernel_rfl) rfl rfl ⟨h0, h34, h35⟩ (fun hHeld => ?_)
  refine pure_ (i := 0) (N := some 6) (v := ?_) (a' := ?_) #[true, false, false, false, false, false, false, false, false, false, false] rfl rfl (by kernel_rfl) (fun _ _ _ h => h) (Or.inl ⟨by rfl, ?_⟩) ?_ ?_
  rotate_left
  · intro w'
    go_simp
    first | done | with_reducible rfl
  rotate_left
  · simp only [Act.put, List.setIfInBounds_toArray, List.set_cons_zero, List.set_cons_succ, i64_w, i32_w]
    rfl
  refine pure_ (i := 1) (N := some 7) (v := ?_) (a' := ?_) #[true, true, false, false, false, false, false, false, false, false, false] rfl rfl (by kernel_rfl) (fun _ _ _ h => h) (Or.inl ⟨by rfl, ?_⟩) ?_ ?_
  rotate_left
  · intro w'
    go_simp
    first | done | with_reducible rfl
  rotate_left
  · simp only [Act.put, List.setIfInBounds_toArray, List.set_cons_zero, List.set_cons_succ, i64_w, i32_w]
    rfl
  refine pure_ (i := 2) (N := some 8) (v := ?_) (a' := ?_) #[true, true, true, false, false, false, false, false, false, false, false] rfl rfl (by kernel_rfl) (fun _ _ _ h => h) (Or.inl ⟨by rfl, ?_⟩) ?_ ?_
  rotate_left
  · intro w'
    go_simp
    first | done | with_reducible rfl
  rotate_left
  · simp only [Act.put, List.setIfInBounds_toArray, List.set_cons_zero, List.set_cons_succ, i64_w, i32_w]
    rfl
  refine take_ (i := 3) (N := some 9) (v := ?_) (a' := ?_) #[true, true, true, true, false, false, false, false, false, false, false] rfl rfl (by kernel_rfl) (fun _ _ _ h => h) (Or.inl ⟨by rfl, ?_⟩) hHeld ?_ ?_
  rotate_left
  · intro w' s0
    obtain ⟨s1_, s2_, s3_⟩ := s0
    go_simp
    first | done | with_reducible rfl
  rotate_left
  · simp only [Act.put, List.setIfInBounds_toArray, List.set_cons_zero, List.set_cons_succ, i64_w, i32_w]
    rfl
  refine pure_ (i := 4) (N := some 10) (v := ?_) (a' := ?_) #[true, true, true, true, true, false, false, false, false, false, false] rfl rfl (by kernel_rfl) (fun _ _ _ h => h) (Or.inl ⟨by rfl, ?_⟩) ?_ ?_
  rotate_left
  · intro w'
    go_simp
    first | done | with_reducible rfl
  rotate_left
  · simp only [Act.put, List.setIfInBounds_toArray, List.set_cons_zero, List.set_cons_succ, i64_w, i32_w]
    rfl
  refine pure_ (i := 5) (N := some 11) (v := ?_) (a' := ?_) #[true, true, true, true, true, true, false, false, false, false, false] rfl rfl (by kernel_rfl) (fun _ _ _ h => h) (Or.inl ⟨by rfl, ?_⟩) ?_ ?_
  rotate_left
  · intro w'
    go_simp
    first | done | with_reducible rfl
  rotate_left
  · simp only [Act.put, List.setIfInBounds_toArray, List.set_cons_zero, List.set_cons_succ, i64_w, i32_w]
    rfl
  refine pure_ (i := 6) (N := some 12) (v := ?_) (a' := ?_) #[true, true, true, true, true, true, true, false, false, false, false] rfl rfl (by kernel_rfl) (fun _ _ _ h => h) (Or.inl ⟨by rfl, ?_⟩) ?_ ?_
  rotate_left
  · intro w'
    go_simp
    first | done | with_reducible rfl
  rotate_left
  · simp only [Act.put, List.setIfInBounds_toArray, List.set_cons_zero, List.set_cons_succ, i64_w, i32_w]
    rfl
  refine take_ (i := 7) (N := some 13) (v := ?_) (a' := ?_) #[true, true, true, true, true, true, true, true, false, false, false] rfl rfl (by kernel_rfl) (fun _ _ _ h => h) (Or.inl ⟨by rfl, ?_⟩) hHeld ?_ ?_
  rotate_left
  · intro w' s0
    obtain ⟨s1_, s2_, s3_⟩ := s0
    go_simp
    first | done | with_reducible rfl
  rotate_left
  · simp only [Act.put, List.setIfInBounds_toArray, List.set_cons_zero, List.set_cons_succ, i64_w, i32_w]
    rfl
  refine pure_ (i := 10) (N := some 16) (v := ?_) (a' := ?_) #[true, true, true, true, true, true, true, true, false, false, true] rfl rfl (by kernel_rfl) (fun _ _ _ h => h) (Or.inl ⟨by rfl, ?_⟩) ?_ ?_
  rotate_left
  · intro w'
    go_simp
    first | done | with_reducible rfl
  rotate_left
  · simp only [Act.put, List.setIfInBounds_toArray, List.set_cons_zero, List.set_cons_succ, i64_w, i32_w]
    rfl
  refine one_ (i := 8) (N := some 14) #[true, true, true, true, true, true, true, true, true, false, true] rfl rfl (by kernel_rfl) (by decide) (fun K hK => ?_)
  refine goes_ Try.func19 (by kernel_rfl) rfl #[.slice Al s.l.length cl, .slice Ad s.done.length cd] (by rfl) rfl rfl (by (try simp only [List.map_toArray, List.map_cons, List.map_nil]); rfl) ?_
  refine (ready_any Al cl s.l Ad cd s.done w.drew HLd.out HDd.out hlen hneed).mono ?_
  rintro e w1 ⟨v14, rfl, ho, hb⟩
  refine ⟨_, rfl, ?_⟩
  refine hK.out _ _ ⟨pw_cell_below hb hHeld.1, pw_cell_below hb hHeld.2.1, pw_cell_below hb hHeld.2.2⟩ (fun hHeld => ?_)
  clear hK K
  rw [← HRS.out] at ho
  obtain ⟨A14, c14, rfl⟩ := Kd.R_slice ho
  have HR1 := Aside0.mk (Kd.R_reads' ho).2.2
  have HB1 := Aside0.mk (below_step (below_drew1 (Below.refl w.heap.size w)) hb)
  have HC1 := Aside0.mk (Kd.C_below HLd.out hb)
  have HT1 := Aside0.mk (Kd.C_below HTd.out hb)
  have K1 := Aside0.mk hHeld.1
  have K35 := Aside0.mk hHeld.2.2
  clear ho hb HLd HDd HTd
  refine norm_ (a' := ?_) ?_ ?_
  rotate_left
  · simp only [Act.put, List.setIfInBounds_toArray, List.set_cons_zero, List.set_cons_succ]
    rfl
  refine pure_ (i := 9) (N := some 15) (v := ?_) (a' := ?_) #[true, true, true, true, true, true, true, true, true, true, true] rfl rfl (by kernel_rfl) (fun _ _ _ h => h) (Or.inl ⟨by rfl, ?_⟩) ?_ ?_
  rotate_left
  · intro w'
    go_simp
    first | done | with_reducible rfl
  rotate_left
  · simp only [Act.put, List.setIfInBounds_toArray, List.set_cons_zero, List.set_cons_succ, i64_w, i32_w]
    rfl
  refine done_ (by kernel_rfl) ?_
  go_wp2
  clear h0 h34 h35
  go_loopw [3, 16] (fun v3 v16 w2 => ∃ m : Nat, m ≤ rs.length ∧ v3 = .int .i64 (leastTo s.l s.taken rs m) ∧ v16 = .int .i64 m ∧ Aside0 (Below w1.heap.size w1 w2))
    (fun _ v16 _ => rs.length - (intOf v16).toNat)
  case atStart => exact ⟨0, by omega, rfl, rfl, ⟨Below.refl _ _⟩⟩
  case round =>
    obtain ⟨m, hm, rfl, rfl, BR⟩ := hrel
    by_cases hmt : m < rs.length
    · obtain ⟨an, rfl, hcn⟩ := Kd.at_int HR1.out (m : Int) (by omega) (by omega)
      have hcn := pw_cell_below BR.out hcn
      rw [Int.toNat_natCast] at hcn
      have hi0 := HM.out _ (rd_mem rs m hmt)
      have hb0 := least_mem s.l s.taken rs m hm
      obtain ⟨i, hiE⟩ : ∃ i, i = rd rs (m : Int) := ⟨_, rfl⟩
      obtain ⟨bb, hbE⟩ : ∃ bb, bb = leastTo s.l s.taken rs m := ⟨_, rfl⟩
      rw [← hiE] at hi0 hcn
      rw [← hbE] at hb0 ⊢
      have hi1 := hi0.1
      have hi2 := hi0.2.1
      have hb1 : bb < 0 ∨ (0 ≤ bb ∧ bb < s.l.length) := hb0.imp (fun h => by omega) (fun h => ⟨(HM.out _ h).1, (HM.out _ h).2.1⟩)
      have hi3 : i < (s.taken.length : Int) := by rw [HTL.out]; exact hi2
      have HIE := Hid1.mk hiE
      have HBEE := Hid1.mk hbE
      clear hi0 hb0 hiE hbE
      have kc0 := pw_cell_below BR.out K1.out
      have kc35 := pw_cell_below BR.out K35.out
      obtain ⟨aT, eT, hcT⟩ := Kd.at_bool HT1.out i hi1 hi3
      subst eT
      have hcT := pw_cell_below BR.out hcT
      by_cases htk : rdOf false s.taken i = true
      · rw [htk] at hcT
        clear hb1
        have htk := Hid1.mk htk
        have HX : Hid1 (leastTo s.l s.taken rs (m + 1) = bb) := ⟨by simp only [leastTo]; rw [← HIE.out, if_pos htk.out, HBEE.out]⟩
        go_wp2
        repeat (go_quiet (fail))
        try go_wp2
        go_roundw
        case rel => exact ⟨m + 1, by omega, by rw [HX.out], by go_num, ⟨by first | exact BR.out | exact pw_below_drewN BR.out _⟩⟩
        case measure => simp [intOf]; omega
      · have htk := Bool.eq_false_iff.mpr htk
        rw [htk] at hcT
        have htk := Hid1.mk htk
        have hne : ¬ rdOf false s.taken i = true := by rw [htk.out]; decide
        have hne := Hid1.mk hne
        by_cases hneg : bb < 0
        · have qn : decide (bb < 0) = true := decide_eq_true hneg
          clear hb1
          have HX : Hid1 (leastTo s.l s.taken rs (m + 1) = i) := ⟨by simp only [leastTo]; rw [← HIE.out, if_neg hne.out, ← HBEE.out, if_pos hneg]⟩
          go_wp2
          repeat (go_quiet (fail))
          try go_wp2
          go_roundw
          case rel => exact ⟨m + 1, by omega, by rw [HX.out], by go_num, ⟨by first | exact BR.out | exact pw_below_drewN BR.out _⟩⟩
          case measure => simp [intOf]; omega
        · obtain ⟨hb2, hb3⟩ : 0 ≤ bb ∧ bb < s.l.length := hb1.resolve_left hneg
          have qn : decide (bb < 0) = false := decide_eq_false hneg
          clear hb1
          obtain ⟨ad, Aj, cj, rfl, hx0, hx1, hlj, hj⟩ := at_T31 HC1.out i hi1 hi2
          obtain ⟨ad', Aj', cj', e', hy0, hy1, hlj', hj'⟩ := at_T31 HC1.out bb hb2 hb3
          obtain rfl : ad = ad' := by injection e'
          have hx0 := pw_cell_below BR.out hx0
          have hy0 := pw_cell_below BR.out hy0
          clear hx1 hlj hj hy1 hlj' hj' e'
          by_cases hless : Op.bytesLess ((rd_T31 s.l i).f0).toList ((rd_T31 s.l bb).f0).toList = true
          · have HX : Hid1 (leastTo s.l s.taken rs (m + 1) = i) := ⟨by simp only [leastTo]; rw [← HIE.out, if_neg hne.out, ← HBEE.out, if_neg hneg, if_pos hless]⟩
            go_wp2
            repeat (go_quiet (fail))
            try go_wp2
            go_roundw
            case rel => exact ⟨m + 1, by omega, by rw [HX.out], by go_num, ⟨by first | exact BR.out | exact pw_below_drewN BR.out _⟩⟩
            case measure => simp [intOf]; omega
          · have hless := Bool.eq_false_iff.mpr hless
            have hln : ¬ Op.bytesLess ((rd_T31 s.l i).f0).toList ((rd_T31 s.l bb).f0).toList = true := by rw [hless]; decide
            have hln := Hid1.mk hln
            have HX : Hid1 (leastTo s.l s.taken rs (m + 1) = bb) := ⟨by simp only [leastTo]; rw [← HIE.out, if_neg hne.out, ← HBEE.out, if_neg hneg, if_neg hln.out]⟩
            go_wp2
            repeat (go_quiet (fail))
            try go_wp2
            go_roundw
            case rel => exact ⟨m + 1, by omega, by rw [HX.out], by go_num, ⟨by first | exact BR.out | exact pw_below_drewN BR.out _⟩⟩
            case measure => simp [intOf]; omega
    · obtain rfl : m = rs.length := by omega
      go_wp2
      go_ret
      exact ⟨rfl, below_step HB1.out BR.out⟩
end Go.Proofs.Ytgjlgdohlmpnbaa.P
