/- The contract of sched's New: a scheduler in a new block, or what is wrong. Conditions: as it states. -/
import Derived.Test.YtgjlgdohlmpnbaaG7
namespace Go.Proofs.Ytgjlgdohlmpnbaa.P
set_option linter.unusedVariables false
set_option linter.unusedSimpArgs false
open Go.RowKit Go.Proofs.YtgjlgdohlmpnbaaW.PrintWords Go.Proofs.YtgjlgdohlmpnbaaW.PrintLast Go.Proofs.YtgjlgdohlmpnbaaW.PrintMore

theorem Blk.set_l {cs : Array Value} {s : St} {vl vd vt vm : Value} (h : Blk cs s vl vd vt vm) (l' : List S31) (v1 : Value) : Blk (cs.setIfInBounds 0 v1) { s with l := l' } v1 vd vt vm where
  size := by simp [h.size]
  c0 := (cs_set h.size (by omega) h.c0).trans rfl
  c1 := (cs_set h.size (by omega) h.c1).trans rfl
  job i hi := by rw [cs_set h.size (by omega) (h.job i hi), if_neg (by omega)]
  phase i hi := by rw [cs_set h.size (by omega) (h.phase i hi), if_neg (by omega)]
  c34 := (cs_set h.size (by omega) h.c34).trans rfl
  c35 := (cs_set h.size (by omega) h.c35).trans rfl
  c36 := (cs_set h.size (by omega) h.c36).trans rfl
  c37 := (cs_set h.size (by omega) h.c37).trans rfl
/-- the row of jobs grows, and is stored -/
theorem SchedOf.grow {w w1 : World} {base b : Nat} {s : St} {K : Nat → Prop} {Al A1 : Option Addr} {cl c1 : Nat} {vd vt vm : Value} {cs : Array Value} (h : SchedOf w base b s K Al cl vd vt vm cs) {l' : List S31} (hg : w.grownBy w1 (Value.slice Al s.l.length cl).ownBlock)
    (hr : Kd.R k31 31 w1 base (fun k => some k ≠ vm.ownBlock ∧ ¬ K k) (.slice A1 l'.length c1) l') : SchedOf (w1.setCell ⟨b, 0, none⟩ (.slice A1 l'.length c1)) base b { s with l := l' } K A1 c1 vd vt vm (cs.setIfInBounds 0 (.slice A1 l'.length c1)) := by
  have hb1 : w1.heap[b]? = some (.cells cs 66 (0, 0)) := blk_grown h.blk hg (h.typed_ne (Kd.R_typed h.rl) (by decide))
  exact {
    nb := h.nb
    blk := blk_set hb1 0 _
    low := h.low
    cells := h.cells.set_l l' _
    rl := Kd.R_set hr hb1 (by decide) 0 _
    rd := Kd.R_set (Kd.R_over' h.rd (Kd.R_typed h.rl) (by decide) hg) hb1 (by decide) 0 _
    rt := Kd.R_set (Kd.R_over' h.rt (Kd.R_typed h.rl) (by decide) hg) hb1 (by decide) 0 _
    rm := Kd.R_set (Kd.R_over' h.rm (Kd.R_typed h.rl) (by decide) hg) hb1 (by decide) 0 _ }
/-- the done ones of a list, as far as there are jobs -/
def copied (n : Nat) (done : List Bool) : List Bool := done.take (min done.length n) ++ (List.replicate n false).drop (min done.length n)
def freshSt (l : List S31) (workers : Int) (n : Nat) : St := { l := l, many := workers, jb := fun _ => 0, ph := fun _ => 0, done := List.replicate n false, taken := List.replicate n false, made := [], steps := 0 }
def newSt (l : List S31) (workers : Int) (done : List Bool) : St := { freshSt l workers l.length with done := copied l.length done }
/-- what is wrong, if anything -/
def newErr (l : List S31) (workers : Int) : Int := if (orderOf l).2 ≠ 0 then (orderOf l).2 else if workers < 1 ∨ 16 < workers then 1 else 0
theorem blk_fresh (l : List S31) (workers : Int) (n : Nat) (vl vd vt vm : Value) : Blk #[vl, .int .i64 workers, .int .i64 0, .int .i64 0, .int .i64 0, .int .i64 0, .int .i64 0, .int .i64 0, .int .i64 0, .int .i64 0, .int .i64 0, .int .i64 0, .int .i64 0, .int .i64 0, .int .i64 0, .int .i64 0, .int .i64 0, .int .i64 0, .int .i64 0, .int .i64 0, .int .i64 0, .int .i64 0, .int .i64 0, .int .i64 0, .int .i64 0, .int .i64 0, .int .i64 0, .int .i64 0, .int .i64 0, .int .i64 0, .int .i64 0, .int .i64 0, .int .i64 0, .int .i64 0, vd, vt, vm, .int .i64 0] (freshSt l workers n) vl vd vt vm where
  size := rfl
  c0 := rfl
  c1 := rfl
  job i hi := by
    have h : i = 0 ∨ i = 1 ∨ i = 2 ∨ i = 3 ∨ i = 4 ∨ i = 5 ∨ i = 6 ∨ i = 7 ∨ i = 8 ∨ i = 9 ∨ i = 10 ∨ i = 11 ∨ i = 12 ∨ i = 13 ∨ i = 14 ∨ i = 15 := by omega
    rcases h with rfl | rfl | rfl | rfl | rfl | rfl | rfl | rfl | rfl | rfl | rfl | rfl | rfl | rfl | rfl | rfl <;> rfl
  phase i hi := by
    have h : i = 0 ∨ i = 1 ∨ i = 2 ∨ i = 3 ∨ i = 4 ∨ i = 5 ∨ i = 6 ∨ i = 7 ∨ i = 8 ∨ i = 9 ∨ i = 10 ∨ i = 11 ∨ i = 12 ∨ i = 13 ∨ i = 14 ∨ i = 15 := by omega
    rcases h with rfl | rfl | rfl | rfl | rfl | rfl | rfl | rfl | rfl | rfl | rfl | rfl | rfl | rfl | rfl | rfl <;> rfl
  c34 := rfl
  c35 := rfl
  c36 := rfl
  c37 := rfl
theorem take_rd (l : List S31) (i : Nat) (h : i < l.length) : l.take i ++ [rd_T31 l (i : Int)] = l.take (i + 1) := by
  have e : rd_T31 l (i : Int) = l[i] := by simp [rd_T31, h]
  rw [e]; exact List.take_append_getElem h
set_option maxHeartbeats 4000000 in
set_option maxRecDepth 100000 in
theorem new_any (A0 : Option Addr) (c0 : Nat) (l0 : List S31) (x : Int) (A1 : Option Addr) (c1 : Nat) (d0 : List Bool) (w : World) (hr0 : Kd.C k31 w A0 l0.length l0) (hc0 : l0.length ≤ c0) (hr1 : Kd.C Kd.bool w A1 d0.length d0) (hlen : l0.length ≤ 1000000) (hneed : ∀ i : Nat, (rd_T31 l0 (i : Int)).f1.length ≤ 1000000) (hname : ∀ i : Nat, (rd_T31 l0 (i : Int)).f0.size ≤ 1000000) :
    Calls Try.prog 25 #[.slice A0 l0.length c0, .int .i64 x, .slice A1 d0.length c1] w fun e w' => Below w.heap.size w w' ∧
      (newErr l0 x ≠ 0 ∧ e = .returned (.tuple #[.pointer none, .int .i64 (newErr l0 x)]) ∨ newErr l0 x = 0 ∧ ∃ b, e = .returned (.tuple #[.pointer (some ⟨b, 0, none⟩), .int .i64 0]) ∧ SchedAt w' w.heap.size b (newSt l0 x d0) (fun _ => False)) := by
  have HR0 := Aside0.mk hr0
  have HR1 := Aside0.mk hr1
  have HB := Aside0.mk (Below.refl w.heap.size w)
  clear hr0 hr1
  by_cases he : (orderOf l0).2 = 0
  · by_cases hx : x < 1 ∨ 16 < x
    · have hn : newErr l0 x = 1 := by unfold newErr; rw [if_neg (by omega), if_pos hx]
      rw [hn]
      go_enter Try.func25, Try.ntmps25
      by_cases hx1 : x < 1
      · have hx1d : decide (x < 1) = true := decide_eq_true hx1
        go_wp2_with (go_at_call 16; refine (order_any A0 c0 l0 w HR0.out hc0 hlen hneed hname).mono ?_; rintro e w1 ⟨v16, rfl, ho, hb⟩; rw [he])
        go_ret2
        exact ⟨hb, .inl ⟨by decide, rfl⟩⟩
      · have hx2 : 16 < x := by omega
        have hx1d : decide (x < 1) = false := decide_eq_false hx1
        go_wp2_with (go_at_call 16; refine (order_any A0 c0 l0 w HR0.out hc0 hlen hneed hname).mono ?_; rintro e w1 ⟨v16, rfl, ho, hb⟩; rw [he])
        go_ret2
        exact ⟨hb, .inl ⟨by decide, rfl⟩⟩
    · have hn : newErr l0 x = 0 := by unfold newErr; rw [if_neg (by omega), if_neg hx]
      rw [hn]
      have hx1 : (x < 1) = False := eq_false (by omega)
      have hx2 : (16 < x) = False := eq_false (by omega)
      have hx1d : decide (x < 1) = false := decide_eq_false (by omega)
      have hx2d : decide (16 < x) = false := decide_eq_false (by omega)
      have hxx : 1 ≤ x ∧ x ≤ 16 := by omega
      clear hx
      go_enter Try.func25, Try.ntmps25
      go_wp2_with (go_at_call 16; refine (order_any A0 c0 l0 w HR0.out hc0 hlen hneed hname).mono ?_; rintro e w1 ⟨v16, rfl, ho, hb⟩; rw [he])
      refine start_ (n := 10) (S := fun _ => True) (ds := []) #[false, false, false, false, false, false, false, false, false, false] (by kernel_rfl) rfl rfl trivial (fun hHeld => ?_)
      generalize hwd : w1.drew = wd
      have HBd : Below w.heap.size w wd := hwd ▸ (below_step HB.out hb).drew
      clear hwd
      refine pure_ (i := 0) (N := some 27) (v := ?_) (a' := ?_) #[true, false, false, false, false, false, false, false, false, false] rfl rfl (by kernel_rfl) (fun _ _ _ h => h) (Or.inl ⟨by rfl, ?_⟩) ?_ ?_
      rotate_left
      · intro w'
        go_simp
        first | done | with_reducible rfl
      rotate_left
      · simp only [Act.put, List.setIfInBounds_toArray, List.set_cons_zero, List.set_cons_succ, i64_w, i32_w]
        rfl
      refine pure_ (i := 1) (N := some 28) (v := ?_) (a' := ?_) #[true, true, false, false, false, false, false, false, false, false] rfl rfl (by kernel_rfl) (fun _ _ _ h => h) (Or.inl ⟨by rfl, ?_⟩) ?_ ?_
      rotate_left
      · intro w'
        go_simp
        first | done | with_reducible rfl
      rotate_left
      · simp only [Act.put, List.setIfInBounds_toArray, List.set_cons_zero, List.set_cons_succ, i64_w, i32_w]
        rfl
      refine pure_ (i := 2) (N := some 29) (v := ?_) (a' := ?_) #[true, true, true, false, false, false, false, false, false, false] rfl rfl (by kernel_rfl) (fun _ _ _ h => h) (Or.inl ⟨by rfl, ?_⟩) ?_ ?_
      rotate_left
      · intro w'
        go_simp
        first | done | with_reducible rfl
      rotate_left
      · simp only [Act.put, List.setIfInBounds_toArray, List.set_cons_zero, List.set_cons_succ, i64_w, i32_w]
        rfl
      refine pure_ (i := 4) (N := some 31) (v := ?_) (a' := ?_) #[true, true, true, false, true, false, false, false, false, false] rfl rfl (by kernel_rfl) (fun _ _ _ h => h) (Or.inl ⟨by rfl, ?_⟩) ?_ ?_
      rotate_left
      · intro w'
        go_simp
        first | done | with_reducible rfl
      rotate_left
      · simp only [Act.put, List.setIfInBounds_toArray, List.set_cons_zero, List.set_cons_succ, i64_w, i32_w]
        rfl
      refine pure_ (i := 5) (N := some 32) (v := ?_) (a' := ?_) #[true, true, true, false, true, true, false, false, false, false] rfl rfl (by kernel_rfl) (fun _ _ _ h => h) (Or.inl ⟨by rfl, ?_⟩) ?_ ?_
      rotate_left
      · intro w'
        go_simp
        first | done | with_reducible rfl
      rotate_left
      · simp only [Act.put, List.setIfInBounds_toArray, List.set_cons_zero, List.set_cons_succ, i64_w, i32_w]
        rfl

      refine join_ (σ := Value × Value) 3 #[true, true, true, true, true, true, true, false, false, false] (fun s_ => [(30, s_.1), (33, s_.2)]) (fun s_ w' => Kd.R Kd.bool 4 w' wd.heap.size (fun k => some k ≠ (s_.2 : Value).ownBlock) s_.1 (List.replicate l0.length false) ∧ Kd.R Kd.bool 4 w' wd.heap.size (fun k => some k ≠ (s_.1 : Value).ownBlock) s_.2 (List.replicate l0.length false) ∧ Below wd.heap.size wd w') ?_ ?_
      rotate_left
      · intro hJ
        refine two_ (i := 3) (j := 6) (Ni := some 30) (Nj := some 33) #[true, true, true, true, true, true, false, false, false, false] #[true, true, true, false, true, true, true, false, false, false] rfl rfl rfl rfl (by kernel_rfl) (by decide) (by decide) (fun K hK => ?_) (fun K hK => ?_)
        · skip
          refine Kd.R_make_step Kd.bool (w0 := wd) wd.heap.size 4 (by rfl) rfl 35 _ _ rfl (l0.length : Int) rfl rfl Try.underlying35 (.bool false) 1 info4 rfl (by decide) (by omega) false (ok := fun _ => True) (okp := fun _ => True) rfl (fun _ hk => hk) trivial (by omega) (by omega) (Below.refl _ _) (Nat.le_refl _) ?_
          intro va wa hoa hba hga hna
          rw [Int.toNat_natCast] at hoa
          clear hga hna
          refine hK.out _ _ trivial (fun hHeld => ?_)
          clear hK K
          refine norm_ (a' := ?_) ?_ ?_
          rotate_left
          · show Act.put _ (some 30) _ = _
            simp only [Act.put, List.setIfInBounds_toArray, List.set_cons_zero, List.set_cons_succ]
            rfl
          refine one_ (i := 6) (N := some 33) #[true, true, true, true, true, true, true, false, false, false] rfl rfl (by kernel_rfl) (by decide) (fun K hK => ?_)
          refine Kd.R_make_step Kd.bool (w0 := wa) wa.heap.size 4 (by rfl) rfl 35 _ _ rfl (l0.length : Int) rfl rfl Try.underlying35 (.bool false) 1 info4 rfl (by decide) (by omega) false (ok := fun _ => True) (okp := fun _ => True) rfl (fun _ hk => hk) trivial (by omega) (by omega) (Below.refl _ _) (Nat.le_refl _) ?_
          intro vb wb hob hbb hgb hnb
          rw [Int.toNat_natCast] at hob
          obtain ⟨nb, enb, hnb⟩ := hnb
          refine hK.out _ _ trivial (fun hHeld => ?_)
          clear hK K
          refine norm_ (a' := ?_) ?_ ?_
          rotate_left
          · show Act.put _ (some 33) _ = _
            simp only [Act.put, List.setIfInBounds_toArray, List.set_cons_zero, List.set_cons_succ]
            rfl
          have ra : Kd.R Kd.bool 4 wb wd.heap.size (fun k => some k ≠ vb.ownBlock) va (List.replicate l0.length false) := Kd.R_below (Kd.R_mono (Kd.R_bound hoa) (fun k hk => by rw [enb]; intro he; injection he with he; have := hk.2.2.1; omega)) hbb
          have rb : Kd.R Kd.bool 4 wb wd.heap.size (fun k => some k ≠ va.ownBlock) vb (List.replicate l0.length false) := Kd.R_lower (Kd.R_mono (Kd.R_newR hob hoa) (fun _ hk => hk.2)) (below_size hba)
          have bb : Below wd.heap.size wd wb := below_step hba hbb
          exact norm_ (by first | (simp only [putAll, Act.put, List.setIfInBounds_toArray, List.set_cons_zero, List.set_cons_succ]; done) | (simp only [putAll, Act.put, List.setIfInBounds_toArray, List.set_cons_zero, List.set_cons_succ]; rfl)) (hJ (va, vb) _ ⟨ra, rb, bb⟩)
        · skip
          refine Kd.R_make_step Kd.bool (w0 := wd) wd.heap.size 4 (by rfl) rfl 35 _ _ rfl (l0.length : Int) rfl rfl Try.underlying35 (.bool false) 1 info4 rfl (by decide) (by omega) false (ok := fun _ => True) (okp := fun _ => True) rfl (fun _ hk => hk) trivial (by omega) (by omega) (Below.refl _ _) (Nat.le_refl _) ?_
          intro va wa hoa hba hga hna
          rw [Int.toNat_natCast] at hoa
          clear hga hna
          refine hK.out _ _ trivial (fun hHeld => ?_)
          clear hK K
          refine norm_ (a' := ?_) ?_ ?_
          rotate_left
          · show Act.put _ (some 33) _ = _
            simp only [Act.put, List.setIfInBounds_toArray, List.set_cons_zero, List.set_cons_succ]
            rfl
          refine one_ (i := 3) (N := some 30) #[true, true, true, true, true, true, true, false, false, false] rfl rfl (by kernel_rfl) (by decide) (fun K hK => ?_)
          refine Kd.R_make_step Kd.bool (w0 := wa) wa.heap.size 4 (by rfl) rfl 35 _ _ rfl (l0.length : Int) rfl rfl Try.underlying35 (.bool false) 1 info4 rfl (by decide) (by omega) false (ok := fun _ => True) (okp := fun _ => True) rfl (fun _ hk => hk) trivial (by omega) (by omega) (Below.refl _ _) (Nat.le_refl _) ?_
          intro vb wb hob hbb hgb hnb
          rw [Int.toNat_natCast] at hob
          obtain ⟨nb, enb, hnb⟩ := hnb
          refine hK.out _ _ trivial (fun hHeld => ?_)
          clear hK K
          refine norm_ (a' := ?_) ?_ ?_
          rotate_left
          · show Act.put _ (some 30) _ = _
            simp only [Act.put, List.setIfInBounds_toArray, List.set_cons_zero, List.set_cons_succ]
            rfl
          have ra : Kd.R Kd.bool 4 wb wd.heap.size (fun k => some k ≠ vb.ownBlock) va (List.replicate l0.length false) := Kd.R_below (Kd.R_mono (Kd.R_bound hoa) (fun k hk => by rw [enb]; intro he; injection he with he; have := hk.2.2.1; omega)) hbb
          have rb : Kd.R Kd.bool 4 wb wd.heap.size (fun k => some k ≠ va.ownBlock) vb (List.replicate l0.length false) := Kd.R_lower (Kd.R_mono (Kd.R_newR hob hoa) (fun _ hk => hk.2)) (below_size hba)
          have bb : Below wd.heap.size wd wb := below_step hba hbb
          exact norm_ (by first | (simp only [putAll, Act.put, List.setIfInBounds_toArray, List.set_cons_zero, List.set_cons_succ]; done) | (simp only [putAll, Act.put, List.setIfInBounds_toArray, List.set_cons_zero, List.set_cons_succ]; rfl)) (hJ (vb, va) _ ⟨rb, ra, bb⟩)

      rintro ⟨vd, vt⟩ w3 ⟨hd3, ht3, hb3⟩
      obtain ⟨Ad, cd, evd⟩ := Kd.R_slice hd3
      obtain ⟨At, ct, evt⟩ := Kd.R_slice ht3
      subst evd
      subst evt
      have HD3 := Aside0.mk hd3
      have HT3 := Aside0.mk ht3
      have HB3 := Aside0.mk hb3
      clear hd3 ht3 hb3
      have hHeld := trivial
      refine norm_ (a' := ?_) ?_ ?_
      rotate_left
      · simp only [putAll, Act.put, List.setIfInBounds_toArray, List.set_cons_zero, List.set_cons_succ]
        rfl
      refine pure_ (i := 7) (N := some 34) (v := ?_) (a' := ?_) #[true, true, true, true, true, true, true, true, false, false] rfl rfl (by kernel_rfl) (fun _ _ _ h => h) (Or.inl ⟨by rfl, ?_⟩) ?_ ?_
      rotate_left
      · intro w'
        go_simp
        first | done | with_reducible rfl
      rotate_left
      · simp only [Act.put, List.setIfInBounds_toArray, List.set_cons_zero, List.set_cons_succ, i64_w, i32_w]
        rfl
      refine one_ (i := 8) (N := some 35) #[true, true, true, true, true, true, true, true, true, false] rfl rfl (by kernel_rfl) (by decide) (fun K hK => ?_)
      refine box_step ?hg (N := 35) ?hd (cs := #[.slice none 0 0, .int .i64 x, .int .i64 0, .int .i64 0, .int .i64 0, .int .i64 0, .int .i64 0, .int .i64 0, .int .i64 0, .int .i64 0, .int .i64 0, .int .i64 0, .int .i64 0, .int .i64 0, .int .i64 0, .int .i64 0, .int .i64 0, .int .i64 0, .int .i64 0, .int .i64 0, .int .i64 0, .int .i64 0, .int .i64 0, .int .i64 0, .int .i64 0, .int .i64 0, .int .i64 0, .int .i64 0, .int .i64 0, .int .i64 0, .int .i64 0, .int .i64 0, .int .i64 0, .int .i64 0, .slice Ad (List.replicate l0.length false).length cd, .slice At (List.replicate l0.length false).length ct, .slice none 0 0, .int .i64 0]) (t := 66) ?hr ?_; (case hd => rfl); (case hg => rfl); (case hr => first | (go_simp; done) | (go_simp; rfl))
      intro b hbE w4 hbox hb4
      have HBE := Hid1.mk hbE
      clear hbE
      refine hK.out _ _ trivial (fun hHeld => ?_)
      clear hK K
      refine norm_ (a' := ?_) ?_ ?_
      rotate_left
      · show Act.put _ (some 35) _ = _
        simp only [Act.put, List.setIfInBounds_toArray, List.set_cons_zero, List.set_cons_succ]
        rfl
      refine pure_ (i := 9) (N := some 10) (v := ?_) (a' := ?_) #[true, true, true, true, true, true, true, true, true, true] rfl rfl (by kernel_rfl) (fun _ _ _ h => h) (Or.inl ⟨by rfl, ?_⟩) ?_ ?_
      rotate_left
      · intro w'
        go_simp
        first | done | with_reducible rfl
      rotate_left
      · simp only [Act.put, List.setIfInBounds_toArray, List.set_cons_zero, List.set_cons_succ, i64_w, i32_w]
        rfl
      refine done_ (by kernel_rfl) ?_
      have HB4 := Aside0.mk (below_step (below_step HBd HB3.out) hb4)
      have hw4 : w.heap.size ≤ b := by rw [HBE.out]; exact Nat.le_trans (below_size HBd) (below_size HB3.out)
      have HS4 : SchedAt w4 w.heap.size b (freshSt (l0.take 0) x l0.length) (fun _ => False) := ⟨_, _, _, _, _, _, {
        nb := fun h => h
        blk := hbox
        low := hw4
        cells := blk_fresh [] x l0.length _ _ _ _
        rl := Kd.R_nil _ _ _ _ _
        rd := Kd.R_mono (Kd.R_lower (Kd.R_below HD3.out hb4) (below_size HBd)) (fun _ h => ⟨h, fun f => f⟩)
        rt := Kd.R_mono (Kd.R_lower (Kd.R_below HT3.out hb4) (below_size HBd)) (fun _ h => ⟨h, fun f => f⟩)
        rm := Kd.R_nil _ _ _ _ _ }⟩
      have HS4 := Aside0.mk HS4
      clear hbox hb4 HD3 HT3 HB3 HBd hw4
      go_wp2
      go_loopw [38] (fun v38 w' => ∃ i : Nat, i ≤ l0.length ∧ v38 = .int .i64 i ∧ Aside0 (SchedAt w' w.heap.size b (freshSt (l0.take i) x l0.length) (fun _ => False)) ∧ Aside0 (Below w.heap.size w w')) (fun v38 _ => l0.length - (intOf v38).toNat)
      case atStart => exact ⟨0, by omega, rfl, HS4, HB4⟩
      case round =>
        obtain ⟨i, hi, rfl, HSA, BR⟩ := hrel
        clear HS4 HB4
        by_cases hlt : i < l0.length
        · obtain ⟨ad, Aj, cj, rfl, hx0, hx1, hlj, hj⟩ := at_T31 HR0.out (i : Int) (by omega) (by omega)
          have hx0 := pw_cell_below BR.out hx0
          have hx1 := pw_cell_below BR.out hx1
          rw [Int.toNat_natCast] at hx0 hx1
          have HJ := Aside0.mk (Kd.C_below hj BR.out)
          clear hj hlj
          obtain ⟨Al, cl, vd, vt, vm, cs, HS⟩ := HSA.out
          have HS := Aside0.mk HS
          clear HSA
          go_wp2
          have hli : (freshSt (l0.take i) x l0.length).l.length = i := by show (l0.take i).length = i; rw [List.length_take]; omega
          obtain ⟨xb, hxbE⟩ : ∃ xb, xb = wr.heap.size := ⟨_, rfl⟩
          have hxl : Hid1 ((Value.slice Al i cl).ownBlock ≠ some xb) := ⟨fun h => by have := Kd.R_lt HS.out.rl; rw [hli] at this; have := this xb h; omega⟩
          have HSW := HS.out.below (below_alloc (Below.refl _ _) (.cells #[.string (rd_T31 l0 ↑i).f0, .slice Aj (rd_T31 l0 ↑i).f1.length cj] 31))
          have HXW := blk_new wr (.cells #[.string (rd_T31 l0 ↑i).f0, .slice Aj (rd_T31 l0 ↑i).f1.length cj] 31)
          have HBW := BR.out.alloc (below_size BR.out) (.cells #[.string (rd_T31 l0 ↑i).f0, .slice Aj (rd_T31 l0 ↑i).f1.length cj] 31)
          have HJW := Kd.C_alloc HJ.out (.cells #[.string (rd_T31 l0 ↑i).f0, .slice Aj (rd_T31 l0 ↑i).f1.length cj] 31)
          clear hx0 hx1
          obtain ⟨W, hW⟩ : ∃ W, W = wr.alloc (.cells #[.string (rd_T31 l0 ↑i).f0, .slice Aj (rd_T31 l0 ↑i).f1.length cj] 31) := ⟨_, rfl⟩
          rw [← hW] at HSW HXW HBW HJW ⊢
          rw [← hxbE] at HXW ⊢
          clear hW hxbE
          have HSd := HSW.below (below_drew1 (Below.refl W.heap.size W))
          have HXd : W.drew.heap[xb]? = some (.cells #[.string (rd_T31 l0 ↑i).f0, .slice Aj (rd_T31 l0 ↑i).f1.length cj] 31 (0, 0)) := HXW
          have HBd := HBW.drew
          have HJd := Kd.C_below HJW (below_drew1 (Below.refl W.heap.size W))
          have k0 : W.drew.cell? ⟨b, 0, none⟩ = some (.slice Al i cl) := by
            have := (blk_cell HSd.blk 0).trans HSd.cells.c0
            rw [hli] at this; exact this
          have kx0 : W.drew.cell? ⟨xb, 0, none⟩ = some (.string (rd_T31 l0 ↑i).f0) := (blk_cell HXd 0).trans rfl
          have kx1 : W.drew.cell? ⟨xb, 1, none⟩ = some (.slice Aj (rd_T31 l0 ↑i).f1.length cj) := (blk_cell HXd 1).trans rfl
          clear HSW HXW HBW HJW
          refine start_ (n := 17) (S := fun w' => w'.cell? ⟨b, 0, none⟩ = some (.slice Al i cl) ∧ w'.cell? ⟨xb, 0, none⟩ = some (.string (rd_T31 l0 ↑i).f0) ∧ w'.cell? ⟨xb, 1, none⟩ = some (.slice Aj (rd_T31 l0 ↑i).f1.length cj)) (ds := [16]) #[false, false, false, false, false, false, false, false, false, false, false, false, false, false, false, false, false] (by kernel_rfl) rfl rfl ⟨k0, kx0, kx1⟩ (fun hHeld => ?_)
          generalize W.drew = Wd at HSd HXd HBd HJd k0 kx0 kx1 hHeld ⊢
          have hHeld0 := hHeld
          refine pure_ (i := 0) (N := some 42) (v := ?_) (a' := ?_) #[true, false, false, false, false, false, false, false, false, false, false, false, false, false, false, false, false] rfl rfl (by kernel_rfl) (fun _ _ _ h => h) (Or.inl ⟨by rfl, ?_⟩) ?_ ?_
          rotate_left
          · intro w'
            go_simp
            first | done | with_reducible rfl
          rotate_left
          · simp only [Act.put, List.setIfInBounds_toArray, List.set_cons_zero, List.set_cons_succ, i64_w, i32_w]
            rfl
          refine pure_ (i := 1) (N := some 43) (v := ?_) (a' := ?_) #[true, true, false, false, false, false, false, false, false, false, false, false, false, false, false, false, false] rfl rfl (by kernel_rfl) (fun _ _ _ h => h) (Or.inl ⟨by rfl, ?_⟩) ?_ ?_
          rotate_left
          · intro w'
            go_simp
            first | done | with_reducible rfl
          rotate_left
          · simp only [Act.put, List.setIfInBounds_toArray, List.set_cons_zero, List.set_cons_succ, i64_w, i32_w]
            rfl
          refine pure_ (i := 2) (N := some 44) (v := ?_) (a' := ?_) #[true, true, true, false, false, false, false, false, false, false, false, false, false, false, false, false, false] rfl rfl (by kernel_rfl) (fun _ _ _ h => h) (Or.inl ⟨by rfl, ?_⟩) ?_ ?_
          rotate_left
          · intro w'
            go_simp
            first | done | with_reducible rfl
          rotate_left
          · simp only [Act.put, List.setIfInBounds_toArray, List.set_cons_zero, List.set_cons_succ, i64_w, i32_w]
            rfl
          refine pure_ (i := 3) (N := some 45) (v := ?_) (a' := ?_) #[true, true, true, true, false, false, false, false, false, false, false, false, false, false, false, false, false] rfl rfl (by kernel_rfl) (fun _ _ _ h => h) (Or.inl ⟨by rfl, ?_⟩) ?_ ?_
          rotate_left
          · intro w'
            go_simp
            first | done | with_reducible rfl
          rotate_left
          · simp only [Act.put, List.setIfInBounds_toArray, List.set_cons_zero, List.set_cons_succ, i64_w, i32_w]
            rfl
          refine take_ (i := 4) (N := some 46) (v := ?_) (a' := ?_) #[true, true, true, true, true, false, false, false, false, false, false, false, false, false, false, false, false] rfl rfl (by kernel_rfl) (fun _ _ _ h => h) (Or.inl ⟨by rfl, ?_⟩) hHeld ?_ ?_
          rotate_left
          · intro w' s0
            obtain ⟨s1_, s2_, s3_⟩ := s0
            go_simp
            first | done | with_reducible rfl
          rotate_left
          · simp only [Act.put, List.setIfInBounds_toArray, List.set_cons_zero, List.set_cons_succ, i64_w, i32_w]
            rfl
          refine pure_ (i := 5) (N := some 47) (v := ?_) (a' := ?_) #[true, true, true, true, true, true, false, false, false, false, false, false, false, false, false, false, false] rfl rfl (by kernel_rfl) (fun _ _ _ h => h) (Or.inl ⟨by rfl, ?_⟩) ?_ ?_
          rotate_left
          · intro w'
            go_simp
            first | done | with_reducible rfl
          rotate_left
          · simp only [Act.put, List.setIfInBounds_toArray, List.set_cons_zero, List.set_cons_succ, i64_w, i32_w]
            rfl
          refine take_ (i := 6) (N := some 48) (v := ?_) (a' := ?_) #[true, true, true, true, true, true, true, false, false, false, false, false, false, false, false, false, false] rfl rfl (by kernel_rfl) (fun _ _ _ h => h) (Or.inl ⟨by rfl, ?_⟩) hHeld ?_ ?_
          rotate_left
          · intro w' s0
            obtain ⟨s1_, s2_, s3_⟩ := s0
            go_simp
            first | done | with_reducible rfl
          rotate_left
          · simp only [Act.put, List.setIfInBounds_toArray, List.set_cons_zero, List.set_cons_succ, i64_w, i32_w]
            rfl
          refine pure_ (i := 8) (N := some 50) (v := ?_) (a' := ?_) #[true, true, true, true, true, true, true, false, true, false, false, false, false, false, false, false, false] rfl rfl (by kernel_rfl) (fun _ _ _ h => h) (Or.inl ⟨by rfl, ?_⟩) ?_ ?_
          rotate_left
          · intro w'
            go_simp
            first | done | with_reducible rfl
          rotate_left
          · simp only [Act.put, List.setIfInBounds_toArray, List.set_cons_zero, List.set_cons_succ, i64_w, i32_w]
            rfl
          refine take_ (i := 9) (N := some 51) (v := ?_) (a' := ?_) #[true, true, true, true, true, true, true, false, true, true, false, false, false, false, false, false, false] rfl rfl (by kernel_rfl) (fun _ _ _ h => h) (Or.inl ⟨by rfl, ?_⟩) hHeld ?_ ?_
          rotate_left
          · intro w' s0
            obtain ⟨s1_, s2_, s3_⟩ := s0
            go_simp
            first | done | with_reducible rfl
          rotate_left
          · simp only [Act.put, List.setIfInBounds_toArray, List.set_cons_zero, List.set_cons_succ, i64_w, i32_w]
            rfl
          refine one_ (i := 7) (N := some 49) #[true, true, true, true, true, true, true, true, true, true, false, false, false, false, false, false, false] rfl rfl (by kernel_rfl) (by decide) (fun K hK => ?_)
          refine Kd.R_lit_step (Kd.int .i64) (w0 := Wd) Wd.heap.size 3 ?hg (N := 49) ?hd (xs := ([] : List Int)) (inner := []) (ok := fun _ => True) (okp := fun _ => True) ?hr ?hp (fun _ hk => hk) trivial (Below.refl _ _) (Nat.le_refl _) (by simp) ?_; (case hd => rfl); (case hg => rfl); (case hr => first | (go_simp; done) | (go_simp; rfl)); (case hp => exact Reps.none _ _)
          intro v49 w49 ho49 hb49 hg49 hn49
          clear hg49 hn49
          obtain ⟨A49, c49, e49⟩ := Kd.R_slice ho49
          subst e49
          refine hK.out _ _ ⟨pw_cell_below hb49 hHeld.1, pw_cell_below hb49 hHeld.2.1, pw_cell_below hb49 hHeld.2.2⟩ (fun hHeld => ?_)
          clear hK K
          refine norm_ (a' := ?_) ?_ ?_
          rotate_left
          · show Act.put _ (some 49) _ = _
            simp only [Act.put, List.setIfInBounds_toArray, List.set_cons_zero, List.set_cons_succ]
            rfl
          refine one_ (i := 10) (N := some 52) #[true, true, true, true, true, true, true, true, true, true, true, false, false, false, false, false, false] rfl rfl (by kernel_rfl) (by decide) (fun K hK => ?_)
          refine Kd.R_append_rows_step (Kd.int .i64) (w0 := Wd) Wd.heap.size (by rfl) (.tmp 49) (.tmp 51) 25 3 (.int .i64 0) 8 rfl Try.underlying25 info3 rfl (by decide) (by omega) _ ([] : List Int) (rd_T31 l0 ↑i).f1 _ _ _ (fun _ => True) (fun _ => False) rfl rfl ho49 (Kd.C_below HJd hb49) (fun _ _ h => h) (fun _ hk => hk.elim) (fun _ _ => trivial) hb49 (below_size hb49) (by have := hneed i; simp only [List.length_nil]; omega) ?_
          intro v52 w52 ho52 hb52 hg52 hn52
          rw [List.nil_append] at ho52
          clear hg52 hn52 ho49 hb49
          obtain ⟨A52, c52, e52⟩ := Kd.R_slice ho52
          subst e52
          refine hK.out _ _ ⟨pw_cell_below hb52 hHeld0.1, pw_cell_below hb52 hHeld0.2.1, pw_cell_below hb52 hHeld0.2.2⟩ (fun hHeld => ?_)
          clear hK K
          refine norm_ (a' := ?_) ?_ ?_
          rotate_left
          · show Act.put _ (some 52) _ = _
            simp only [Act.put, List.setIfInBounds_toArray, List.set_cons_zero, List.set_cons_succ]
            rfl
          refine pure_ (i := 11) (N := some 53) (v := ?_) (a' := ?_) #[true, true, true, true, true, true, true, true, true, true, true, true, false, false, false, false, false] rfl rfl (by kernel_rfl) (fun _ _ _ h => h) (Or.inl ⟨by rfl, ?_⟩) ?_ ?_
          rotate_left
          · intro w'
            go_simp
            first | done | with_reducible rfl
          rotate_left
          · simp only [Act.put, List.setIfInBounds_toArray, List.set_cons_zero, List.set_cons_succ, i64_w, i32_w]
            rfl
          refine one_ (i := 12) (N := some 54) #[true, true, true, true, true, true, true, true, true, true, true, true, true, false, false, false, false] rfl rfl (by kernel_rfl) (by decide) (fun K hK => ?_)
          refine value_ (w1 := ?_) (v := ?_) (by rfl) rfl ?_ ?_
          rotate_left 2
          · go_simp
            first | done | rfl | (constructor <;> rfl)
          refine hK.out _ _ ⟨alloc_cell' hHeld.1 _, alloc_cell' hHeld.2.1 _, alloc_cell' hHeld.2.2 _⟩ (fun hHeld => ?_)
          clear hK K
          refine norm_ (a' := ?_) ?_ ?_
          rotate_left
          · simp only [Act.put, List.setIfInBounds_toArray, List.set_cons_zero, List.set_cons_succ]
            rfl
          refine one_ (i := 13) (N := some 55) #[true, true, true, true, true, true, true, true, true, true, true, true, true, true, false, false, false] rfl rfl (by kernel_rfl) (by decide) (fun K hK => ?_)
          have HS52 := HSd.below hb52
          have hbase52 : w.heap.size ≤ w52.heap.size := Nat.le_of_lt (Nat.lt_of_le_of_lt HS52.low (blk_lt HS52.blk))
          have hrl52 : Kd.R k31 31 w52 w.heap.size (fun k => some k ≠ vm.ownBlock ∧ ¬ False) (.slice Al i cl) (l0.take i) := by have := HS52.rl; rw [hli] at this; exact this
          refine Kd.R_append_step k31 (w0 := w) w.heap.size (by rfl) (.tmp 46) (.tmp 54) 22 31 (.agg #[.string ⟨#[]⟩, .slice none 0 0]) 40 rfl Try.underlying22 info31 rfl (by decide) (by omega) _ (l0.take i) (rd_T31 l0 ↑i) [.string (rd_T31 l0 ↑i).f0, .slice A52 (rd_T31 l0 ↑i).f1.length c52] (fun k => some k ≠ vm.ownBlock ∧ ¬ False) (fun k => Wd.heap.size ≤ k) rfl rfl ?aP ?aK (fun k hk => ⟨fun h => by have := Kd.R_lt HS52.rm k h.symm; omega, fun h => h⟩) hrl52 (below_step HBd hb52) hbase52 (by rw [List.length_take]; omega) ?_
          case aP => exact k31_mkM _ _ _ _ (Kd.R_lower (Kd.R_mono (Kd.R_bound ho52) (fun k hk => hk.2.1)) (below_size HBd))
          case aK => exact fun k hk => ⟨⟨fun h => by have := Kd.R_lt HSd.rm k h.symm; omega, fun h => h⟩, fun h => by have h2 := Kd.R_lt HSd.rl; rw [hli] at h2; have := h2 k h.symm; omega⟩
          intro v55 w55 ho55 hb55 hg55 hn55
          rw [take_rd l0 i hlt] at ho55
          obtain ⟨A55, c55, e55⟩ := Kd.R_slice ho55
          subst e55
          have hlen1 : (l0.take (i + 1)).length = i + 1 := by rw [List.length_take]; omega
          have hnb := HS52.typed_ne (Kd.R_typed HS52.rl) (by decide)
          rw [hli] at hnb
          have k0 : w55.cell? ⟨b, 0, none⟩ = some (.slice Al i cl) := by have h3 := (blk_cell (blk_grown HS52.blk hg55 hnb) 0).trans HS52.cells.c0; rw [hli] at h3; exact h3
          have f0 := blk_frozen (blk_grown HS52.blk hg55 hnb) 0
          have hx52 := blk_below HXd hb52
          have hnx : some xb ≠ (Value.slice Al i cl).ownBlock := fun eq => hxl.out (eq.symm)
          refine hK.out _ _ ⟨k0, (blk_cell (blk_grown hx52 hg55 hnx) 0).trans rfl, (blk_cell (blk_grown hx52 hg55 hnx) 1).trans rfl⟩ (fun hHeld => ?_)
          clear hK K
          have HS55 := HS52.grow (by rw [hli]; exact hg55) ho55
          rw [hlen1] at HS55 ⊢
          have HS55 := Aside0.mk HS55
          have HB55 := Aside0.mk hb55
          have HLO := Aside0.mk HS52.low
          clear hg55 ho55 hb55 hn55 hnb hx52 hnx HS52 ho52 hrl52
          refine norm_ (a' := ?_) ?_ ?_
          rotate_left
          · show Act.put _ (some 55) _ = _
            simp only [Act.put, List.setIfInBounds_toArray, List.set_cons_zero, List.set_cons_succ]
            rfl
          refine pure_ (i := 14) (N := some 56) (v := ?_) (a' := ?_) #[true, true, true, true, true, true, true, true, true, true, true, true, true, true, true, false, false] rfl rfl (by kernel_rfl) (fun _ _ _ h => h) (Or.inl ⟨by rfl, ?_⟩) ?_ ?_
          rotate_left
          · intro w'
            go_simp
            first | done | with_reducible rfl
          rotate_left
          · simp only [Act.put, List.setIfInBounds_toArray, List.set_cons_zero, List.set_cons_succ, i64_w, i32_w]
            rfl
          refine pure_ (i := 15) (N := some 57) (v := ?_) (a' := ?_) #[true, true, true, true, true, true, true, true, true, true, true, true, true, true, true, true, false] rfl rfl (by kernel_rfl) (fun _ _ _ h => h) (Or.inl ⟨by rfl, ?_⟩) ?_ ?_
          rotate_left
          · intro w'
            go_simp
            first | done | with_reducible rfl
          rotate_left
          · simp only [Act.put, List.setIfInBounds_toArray, List.set_cons_zero, List.set_cons_succ, i64_w, i32_w]
            rfl
          refine last_ (i := 16) (N := none) #[true, true, true, true, true, true, true, true, true, true, true, true, true, true, true, true, true] rfl rfl (by kernel_rfl) (by decide) (fun K hK => ?_)
          refine skip_ (w1 := ?_) (by rfl) rfl ?_ ?_
          rotate_left
          · go_simp
            first | done | rfl
          refine hK.out _ _ ?_
          clear hK K
          refine done_ (by kernel_rfl) ?_
          go_wp2
          go_roundw
          case rel => exact ⟨i + 1, by omega, by go_num, ⟨⟨_, _, _, _, _, _, HS55.out⟩⟩, ⟨HB55.out.setCell (p := ⟨b, 0, none⟩) HLO.out _⟩⟩
          case measure => simp [intOf]; omega
        · obtain rfl : i = l0.length := by omega
          obtain ⟨Al, cl, vd, vt, vm, cs, HS⟩ := HSA.out
          rw [List.take_length] at HS
          obtain ⟨Ad, cd, evd⟩ := Kd.R_slice HS.rd
          subst evd
          have k34 := (blk_cell HS.blk 34).trans HS.cells.c34
          have HS := Aside0.mk HS
          have HC1 := Aside0.mk (Kd.C_below HR1.out BR.out)
          go_wp2_with ((with_reducible refine gate_builtin (b := .copy) (xs := #[.tmp 62, .tmp 63]) rfl ?_); (try (refine gate_guard (by rfl) ?_; dsimp only)); refine Kd.R_copy false (w0 := w) w.heap.size rfl (.tmp 62) (.tmp 63) 35 35 4 rfl Try.underlying35 (by kernel_rfl) _ (List.replicate l0.length false) d0 A1 _ c1 (fun k => some k ≠ vt.ownBlock ∧ ¬ False) rfl rfl HS.out.rd HC1.out BR.out (below_size BR.out) ?_; intro wc hrc hbc hgc)
          go_ret2
          rw [List.length_replicate] at hrc
          exact ⟨hbc, .inr ⟨by trivial, b, rfl, _, _, _, _, _, _, HS.out.finish hgc hrc⟩⟩
  · have hn : newErr l0 x = (orderOf l0).2 := by unfold newErr; rw [if_pos he]
    rw [hn]
    have hef : ((orderOf l0).2 = 0) = False := eq_false he
    have heb : ((orderOf l0).2 != 0) = true := bne_iff_ne.mpr he
    go_enter Try.func25, Try.ntmps25
    go_wp2_with (go_at_call 16; refine (order_any A0 c0 l0 w HR0.out hc0 hlen hneed hname).mono ?_; rintro e w1 ⟨v16, rfl, ho, hb⟩)
    go_ret2
    exact ⟨hb, .inl ⟨he, rfl⟩⟩
end Go.Proofs.Ytgjlgdohlmpnbaa.P
