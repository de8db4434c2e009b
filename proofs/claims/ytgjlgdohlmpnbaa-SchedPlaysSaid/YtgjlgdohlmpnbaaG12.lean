/- The contract of carlingref22's Pick. Conditions: as it states. -/
import Derived.Test.YtgjlgdohlmpnbaaG11
import Derived.Test.YtgjlgdohlmpnbaaB1
namespace Go.Proofs.Ytgjlgdohlmpnbaa.P
set_option linter.unusedVariables false
set_option linter.unusedSimpArgs false
open Go.RowKit Go.Proofs.YtgjlgdohlmpnbaaW.PrintWords Go.Proofs.YtgjlgdohlmpnbaaW.PrintLast Go.Proofs.YtgjlgdohlmpnbaaW.PrintMore

/-- has worker x job i, not done yet? -/
def heldBy (s : Rs) (x : Int) (i : Nat) : Bool := decide (rd s.who (i : Int) = x) && !(bit s.done i)
def firstHeld (s : Rs) (x : Int) : Nat → Nat → Option Nat
  | 0, _ => none
  | d + 1, i => if heldBy s x i = true then some i else firstHeld s x d (i + 1)
def rleastTo (l : List S31) (who : List Int) (rs : List Int) : Nat → Int
  | 0 => -1
  | m + 1 => if rd who (rd rs (m : Int)) < 0 then (if rleastTo l who rs m < 0 then rd rs (m : Int) else if Op.bytesLess ((rd_T31 l (rd rs (m : Int))).f0).toList ((rd_T31 l (rleastTo l who rs m)).f0).toList = true then rd rs (m : Int) else rleastTo l who rs m) else rleastTo l who rs m
def rleastOf (s : Rs) : Int := rleastTo s.l s.who (readyTo s.l s.done s.l.length) (readyTo s.l s.done s.l.length).length
def refStep (s : Rs) (i : Nat) : Rs × Int × Int :=
  if wrap64 (rd s.phase (i : Int) + 1) = 3 then ({ s with steps := wrap64 (s.steps + 1), phase := s.phase.set i 3, done := s.done.set i true, who := s.who.set i (-1), made := s.made ++ [(i : Int)] }, i, 3)
  else ({ s with steps := wrap64 (s.steps + 1), phase := s.phase.set i (wrap64 (rd s.phase (i : Int) + 1)) }, i, wrap64 (rd s.phase (i : Int) + 1))
def refPick (s : Rs) (x : Int) : Rs × Int × Int :=
  if x < 0 ∨ s.many ≤ x then (s, -1, 0)
  else match firstHeld s x s.l.length 0 with
    | some i => refStep s i
    | none => if rleastOf s < 0 then (s, -1, 0) else ({ s with steps := wrap64 (s.steps + 1), who := s.who.set (rleastOf s).toNat x, phase := s.phase.set (rleastOf s).toNat 1 }, rleastOf s, 1)
theorem firstHeld_some (s : Rs) (x : Int) : ∀ (d j i : Nat), (∀ k, j ≤ k → k < i → heldBy s x k = false) → heldBy s x i = true → j ≤ i → i < j + d → firstHeld s x d j = some i
  | 0, j, i, _, _, h3, h4 => by omega
  | d + 1, j, i, h1, h2, h3, h4 => by
    unfold firstHeld
    by_cases e : j = i
    · subst e; rw [if_pos h2]
    · rw [if_neg (by rw [h1 j (Nat.le_refl _) (by omega)]; decide)]
      exact firstHeld_some s x d (j + 1) i (fun k hk => h1 k (by omega)) h2 (by omega) (by omega)
theorem firstHeld_none (s : Rs) (x : Int) : ∀ (d j : Nat), (∀ k, j ≤ k → k < j + d → heldBy s x k = false) → firstHeld s x d j = none
  | 0, j, _ => rfl
  | d + 1, j, h1 => by
    unfold firstHeld
    rw [if_neg (by rw [h1 j (Nat.le_refl _) (by omega)]; decide)]
    exact firstHeld_none s x d (j + 1) (fun k hk hk2 => h1 k (by omega) (by omega))
theorem rleast_mem (l : List S31) (who : List Int) (rs : List Int) : ∀ m, m ≤ rs.length → rleastTo l who rs m = -1 ∨ rleastTo l who rs m ∈ rs
  | 0, _ => .inl rfl
  | m + 1, h => by
    unfold rleastTo
    have hm := rd_mem rs m h
    have ih := rleast_mem l who rs m (by omega)
    split
    · split
      · exact .inr hm
      · split
        · exact .inr hm
        · exact ih
    · exact ih
structure RGood (s : Rs) : Prop where
  few : s.l.length ≤ 1000000
  done : s.done.length = s.l.length
  who : s.who.length = s.l.length
  phase : s.phase.length = s.l.length
set_option maxHeartbeats 8000000 in
set_option maxRecDepth 100000 in
theorem rpick_any (b : Nat) (s : Rs) (x : Int) (w0 w : World) {K : Nat → Prop} {A0 : Option Addr} {c0 : Nat} (h : RefAt w w0.heap.size b s K A0 c0) (hg : RGood s) (hm : s.made.length ≤ 1000000) (hl : Kd.C k31 w0 A0 s.l.length s.l) (hc0 : s.l.length ≤ c0) (hB : Below w0.heap.size w0 w) (hK : ∀ k, K k → k < w.heap.size)
    (k2 : Nat) (hk2 : carlingref21_Ready.f k2 s.l s.done = some (readyTo s.l s.done s.l.length)) :
    Calls Try.prog 28 #[.pointer (some ⟨b, 0, none⟩), .int .i64 x] w fun e w' => e = .returned (.tuple #[.int .i64 (refPick s x).2.1, .int .i64 (refPick s x).2.2]) ∧ RefAt w' w0.heap.size b (refPick s x).1 K A0 c0 ∧ Fr K w0.heap.size w0 w w' := by
  obtain ⟨vd, vw, vp, vm, h⟩ := h
  have hbw : w0.heap.size ≤ w.heap.size := hB.size
  have c1 : w.cell? ⟨b, 1, none⟩ = some (.int .i64 s.many) := (blk_cell h.blk 1).trans rfl
  have HG := Aside0.mk hg
  have HL := Aside0.mk hl
  have HK2 := Hid1.mk hk2
  have HB := Aside0.mk (⟨hB, Kp.start hK⟩ : Fr K w0.heap.size w0 w w)
  have H := Hid1.mk h
  clear hK hl hk2
  by_cases hx0 : x < 0
  · have hp : refPick s x = (s, -1, 0) := by unfold refPick; rw [if_pos (.inl hx0)]
    rw [hp]
    clear h hg hB
    have qn : decide (x < 0) = true := decide_eq_true hx0
    go_enter Try.func28, Try.ntmps28
    go_wp2
    go_ret2
    exact ⟨rfl, ⟨vd, vw, vp, vm, H.out⟩, HB.out⟩
  · by_cases hx1 : s.many ≤ x
    · have hp : refPick s x = (s, -1, 0) := by unfold refPick; rw [if_pos (.inr hx1)]
      rw [hp]
      clear h hg hB
      go_enter Try.func28, Try.ntmps28
      go_wp2
      go_ret2
      exact ⟨rfl, ⟨vd, vw, vp, vm, H.out⟩, HB.out⟩
    · have k0 : w.cell? ⟨b, 0, none⟩ = some (.slice A0 s.l.length c0) := (blk_cell h.blk 0).trans rfl
      have k2c : w.cell? ⟨b, 2, none⟩ = some vd := (blk_cell h.blk 2).trans rfl
      have k3c : w.cell? ⟨b, 3, none⟩ = some vw := (blk_cell h.blk 3).trans rfl
      have k5c : w.cell? ⟨b, 5, none⟩ = some (.int .i64 s.steps) := (blk_cell h.blk 5).trans rfl
      have f5c := blk_frozen h.blk 5
      obtain ⟨Ad, cd, evd⟩ := Kd.R_slice h.rd
      obtain ⟨Aw, cw, evw⟩ := Kd.R_slice h.rw
      obtain ⟨Ap, cp, evp⟩ := Kd.R_slice h.rp
      obtain ⟨Am, cm, evm⟩ := Kd.R_slice h.rm
      rw [hg.done] at evd
      rw [hg.who] at evw
      rw [hg.phase] at evp
      subst evd
      subst evw
      subst evp
      subst evm
      have hfew := hg.few
      have hdl := hg.done
      have hwl := hg.who
      have hpl := hg.phase
      have HDL := Hid1.mk (And.intro hdl (And.intro hwl hpl))
      have HX := Hid1.mk (show ¬ (x < 0 ∨ s.many ≤ x) by omega)
      clear h hg hB hdl hwl hpl
      go_enter Try.func28, Try.ntmps28
      go_wp2
      go_loopw [6] (fun v6 w' => w' = w ∧ ∃ i : Nat, i ≤ s.l.length ∧ v6 = .int .i64 i ∧ Hid1 (∀ j, j < i → heldBy s x j = false)) (fun v6 _ => s.l.length - (intOf v6).toNat)
      case atStart => exact ⟨rfl, 0, by omega, rfl, ⟨fun j hj => absurd hj (Nat.not_lt_zero _)⟩⟩
      case round =>
        obtain ⟨rfl, i, hi, rfl, HA⟩ := hrel
        by_cases hlt : i < s.l.length
        · have hi0 : (0 ≤ (i : Int)) = True := eq_true (by omega)
          have hi1 : ((i : Int) < (s.l.length : Int)) = True := eq_true (by omega)
          obtain ⟨gd, cap1, ev1, hgbd, _, _, _⟩ := Kd.R_form H.out.rd (by have := HDL.out.1; omega)
          injection ev1 with ev1a ev1b ev1c
          subst ev1a
          obtain ⟨gw, cap2, ev2, hgbw, _, _, _⟩ := Kd.R_form H.out.rw (by have := HDL.out.2.1; omega)
          injection ev2 with ev2a ev2b ev2c
          subst ev2a
          obtain ⟨gp, cap3, ev3, hgbp, _, _, _⟩ := Kd.R_form H.out.rp (by have := HDL.out.2.2; omega)
          injection ev3 with ev3a ev3b ev3c
          subst ev3a
          clear ev1b ev1c ev2b ev2c ev3b ev3c
          have cwi := (Kd.R_celln 0 H.out.rw (i : Int) (by omega) (by omega)).1
          have cdi := (Kd.R_celln false H.out.rd (i : Int) (by omega) (by omega)).1
          rw [Int.toNat_natCast] at cwi cdi
          have hbit : rdOf false s.done (i : Int) = bit s.done i := by simp [rdOf, bit]
          rw [hbit] at cdi
          obtain ⟨z, hzE⟩ : ∃ z, z = rd s.who (i : Int) := ⟨_, rfl⟩
          have cwz : wr.cell? ⟨gw, i, none⟩ = some (.int .i64 z) := by rw [hzE]; exact cwi
          obtain ⟨dd, hdE⟩ : ∃ dd, dd = bit s.done i := ⟨_, rfl⟩
          rw [← hdE] at cdi
          have HZ := Hid1.mk (And.intro hzE hdE)
          clear cwi hbit hzE hdE
          by_cases hzx : z = x
          · subst hzx
            cases dd with
            | true =>
              have HS : Hid1 (∀ j, j < i + 1 → heldBy s z j = false) := ⟨fun j hj => by
                by_cases e : j = i
                · subst e; unfold heldBy; rw [← HZ.out.2]; simp
                · exact HA.out j (by omega)⟩
              go_wp2
              go_roundw
              case rel => exact ⟨by first | rfl | trivial, i + 1, by omega, by go_num, HS⟩
              case measure => simp [intOf]; omega
            | false =>
              have hfirst : firstHeld s z s.l.length 0 = some i := firstHeld_some s z _ 0 i (fun k _ hk => HA.out k hk) (by unfold heldBy; rw [← HZ.out.1, ← HZ.out.2]; simp) (by omega) (by omega)
              have hpick : refPick s z = refStep s i := by unfold refPick; rw [if_neg HX.out, hfirst]
              obtain ⟨q, hqE⟩ : ∃ q, q = rd s.phase (i : Int) := ⟨_, rfl⟩
              have HQ := Hid1.mk (And.intro hpick hqE)
              clear hfirst hpick
              have h1 := H.out.putSteps (wrap64 (s.steps + 1))
              have k41 : (wr.setCell ⟨b, 5, none⟩ (.int .i64 (wrap64 (s.steps + 1)))).cell? ⟨b, 4, none⟩ = some (.slice (some ⟨gp, 0, none⟩) s.l.length cp) := (blk_cell h1.blk 4).trans rfl
              obtain ⟨cp1o, fp1⟩ := Kd.R_celln 0 h1.rp (i : Int) (by omega) (by omega)
              obtain ⟨hr2, hg2⟩ := Kd.R_putg h1.rp (i : Int) (wrap64 (q + 1))
              rw [Int.toNat_natCast] at cp1o fp1 hr2 hg2
              have cp1 : (wr.setCell ⟨b, 5, none⟩ (.int .i64 (wrap64 (s.steps + 1)))).cell? ⟨gp, i, none⟩ = some (.int .i64 q) := by rw [hqE]; exact cp1o
              clear cp1o
              have h2 := h1.setPhase (w1 := ((wr.setCell ⟨b, 5, none⟩ (.int .i64 (wrap64 (s.steps + 1)))).setCell ⟨gp, i, none⟩ (.int .i64 (wrap64 (q + 1))))) hg2 hr2
              have k42 : ((wr.setCell ⟨b, 5, none⟩ (.int .i64 (wrap64 (s.steps + 1)))).setCell ⟨gp, i, none⟩ (.int .i64 (wrap64 (q + 1)))).cell? ⟨b, 4, none⟩ = some (.slice (some ⟨gp, 0, none⟩) s.l.length cp) := (blk_cell h2.blk 4).trans rfl
              have cp2 : ((wr.setCell ⟨b, 5, none⟩ (.int .i64 (wrap64 (s.steps + 1)))).setCell ⟨gp, i, none⟩ (.int .i64 (wrap64 (q + 1)))).cell? ⟨gp, i, none⟩ = some (.int .i64 (wrap64 (q + 1))) := by
                have := (Kd.R_celln 0 h2.rp (i : Int) (by omega) (by omega)).1
                rw [Int.toNat_natCast] at this
                rw [this]
                have hlen : i < s.phase.length := by have := HDL.out.2.2; omega
                simp [rdOf, hlen]
              have B1 := HB.out.setCell (p := ⟨b, 5, none⟩) H.out.low H.out.nb (.int .i64 (wrap64 (s.steps + 1)))
              have B2 := B1.setCell (p := ⟨gp, i, none⟩) hgbp (H.out.rp.1 gp rfl).2.2 (.int .i64 (wrap64 (q + 1)))
              clear hr2 hg2 hqE
              by_cases hp3 : wrap64 (q + 1) = 3
              · have k22 : ((wr.setCell ⟨b, 5, none⟩ (.int .i64 (wrap64 (s.steps + 1)))).setCell ⟨gp, i, none⟩ (.int .i64 (wrap64 (q + 1)))).cell? ⟨b, 2, none⟩ = some (.slice (some ⟨gd, 0, none⟩) s.l.length cd) := (blk_cell h2.blk 2).trans rfl
                obtain ⟨cd2, fd2⟩ := Kd.R_celln false h2.rd (i : Int) (by omega) (by omega)
                obtain ⟨hr3, hg3⟩ := Kd.R_putg h2.rd (i : Int) true
                rw [Int.toNat_natCast] at cd2 fd2 hr3 hg3
                have h3 := h2.setDone (w1 := (((wr.setCell ⟨b, 5, none⟩ (.int .i64 (wrap64 (s.steps + 1)))).setCell ⟨gp, i, none⟩ (.int .i64 (wrap64 (q + 1)))).setCell ⟨gd, i, none⟩ (.bool true))) hg3 hr3
                have k33 : (((wr.setCell ⟨b, 5, none⟩ (.int .i64 (wrap64 (s.steps + 1)))).setCell ⟨gp, i, none⟩ (.int .i64 (wrap64 (q + 1)))).setCell ⟨gd, i, none⟩ (.bool true)).cell? ⟨b, 3, none⟩ = some (.slice (some ⟨gw, 0, none⟩) s.l.length cw) := (blk_cell h3.blk 3).trans rfl
                obtain ⟨cw3, fw3⟩ := Kd.R_celln 0 h3.rw (i : Int) (by omega) (by omega)
                obtain ⟨hr4, hg4⟩ := Kd.R_putg h3.rw (i : Int) (-1)
                rw [Int.toNat_natCast] at cw3 fw3 hr4 hg4
                have h4 := h3.setWho (w1 := ((((wr.setCell ⟨b, 5, none⟩ (.int .i64 (wrap64 (s.steps + 1)))).setCell ⟨gp, i, none⟩ (.int .i64 (wrap64 (q + 1)))).setCell ⟨gd, i, none⟩ (.bool true)).setCell ⟨gw, i, none⟩ (.int .i64 (-1)))) hg4 hr4
                have k64 : ((((wr.setCell ⟨b, 5, none⟩ (.int .i64 (wrap64 (s.steps + 1)))).setCell ⟨gp, i, none⟩ (.int .i64 (wrap64 (q + 1)))).setCell ⟨gd, i, none⟩ (.bool true)).setCell ⟨gw, i, none⟩ (.int .i64 (-1))).cell? ⟨b, 6, none⟩ = some (.slice Am s.made.length cm) := (blk_cell h4.blk 6).trans rfl
                have B3 := B2.setCell (p := ⟨gd, i, none⟩) hgbd (H.out.rd.1 gd rfl) (.bool true)
                have B4 := Aside0.mk (B3.setCell (p := ⟨gw, i, none⟩) hgbw (H.out.rw.1 gw rfl).2.2 (.int .i64 (-1)))
                have H4 := Aside0.mk h4
                have HP3 := Hid1.mk hp3
                have hp3b : (wrap64 (q + 1) == 3) = true := beq_iff_eq.mpr hp3
                have cp3 : ((wr.setCell ⟨b, 5, none⟩ (.int .i64 (wrap64 (s.steps + 1)))).setCell ⟨gp, i, none⟩ (.int .i64 (wrap64 (q + 1)))).cell? ⟨gp, i, none⟩ = some (.int .i64 3) := cp2.trans (by rw [hp3])
                clear cp2
                clear h1 h2 h3 h4 hr3 hg3 hr4 hg4 B1 B2 B3 hp3
                go_wp2_with ((with_reducible refine gate_builtin (b := .append) (xs := #[.tmp 87, .tmp 89]) rfl ?_); (try (refine gate_guard (by rfl) ?_; dsimp only)); at_builtin; refine Kd.R_append (Kd.int .i64) (w0 := w0) w0.heap.size rfl (.tmp 87) (.tmp 89) 25 3 (.int .i64 0) 8 rfl Try.underlying25 info3 rfl (by decide) (by omega) _ s.made (i : Int) [.int .i64 (i : Int)] _ (fun _ => False) rfl (by first | rfl | (simp only [setCell_size]; rfl)) rfl (fun _ hk => hk.elim) (fun k hk => ⟨fun h => by have := Kd.R_lt H4.out.rw k h.symm; omega, fun h => by have := Kd.R_lt H4.out.rp k h.symm; omega, B4.out.kept.fresh hk⟩) H4.out.rm B4.out.below (Nat.le_of_lt (Nat.lt_of_le_of_lt H4.out.low (blk_lt H4.out.blk))) (by omega) ?_; intro v1 w5 ho5 hb5 hg5 hat5; obtain ⟨A5, c5, e5⟩ := Kd.R_slice ho5; rw [show (s.made ++ [(i : Int)]).length = s.made.length + 1 by simp] at e5; subst e5; have hnb := H4.out.typed_ne (Kd.R_typed H4.out.rm) (by decide); have k65 : w5.cell? ⟨b, 6, none⟩ = some (.slice Am s.made.length cm) := (blk_cell (blk_grown H4.out.blk hg5 hnb) 6).trans rfl; have f65 := blk_frozen (blk_grown H4.out.blk hg5 hnb) 6; have h6 := H4.out.growMade hg5 hat5 ho5; have k46 : (w5.setCell ⟨b, 6, none⟩ (.slice A5 (s.made.length + 1) c5)).cell? ⟨b, 4, none⟩ = some (.slice (some ⟨gp, 0, none⟩) s.l.length cp) := (blk_cell h6.blk 4).trans rfl; have cp6 : (w5.setCell ⟨b, 6, none⟩ (.slice A5 (s.made.length + 1) c5)).cell? ⟨gp, i, none⟩ = some (.int .i64 3) := (by have := (Kd.R_celln 0 h6.rp (i : Int) (by omega) (by omega)).1; rw [Int.toNat_natCast] at this; rw [this]; have hlen : i < s.phase.length := (by have := HDL.out.2.2; omega); simp [rdOf, hlen, HP3.out]); have H6 := Aside0.mk h6; have B6 : Aside0 (Fr K w0.heap.size w0 wr (w5.setCell ⟨b, 6, none⟩ (.slice A5 (s.made.length + 1) c5))) := ⟨(⟨hb5, B4.out.kept.grown hg5 (fun k hk => (H4.out.rm.1 k hk).2.2)⟩ : Fr K w0.heap.size w0 wr w5).setCell (p := ⟨b, 6, none⟩) H4.out.low H4.out.nb _⟩; clear h6 ho5 hb5 hg5 hat5 hnb)
                go_quiet (fail)
                go_wp2
                go_ret2
                have he : refPick s z = ({ s with steps := wrap64 (s.steps + 1), phase := s.phase.set i 3, done := s.done.set i true, who := s.who.set i (-1), made := s.made ++ [(i : Int)] }, (i : Int), 3) := by rw [HQ.out.1]; unfold refStep; rw [← HQ.out.2, if_pos HP3.out]
                rw [he]
                have hfin := H6.out.below (pw_below_drewN (Below.refl _ _) nq)
                rw [HP3.out] at hfin
                exact ⟨rfl, ⟨_, _, _, _, hfin⟩, B6.out.drewN _⟩
              · have hp3f : (wrap64 (q + 1) = 3) = False := eq_false hp3
                have hp3b : (wrap64 (q + 1) == 3) = false := beq_eq_false_iff_ne.mpr hp3
                have H2 := Aside0.mk h2
                have BB2 := Aside0.mk B2
                have HP3 := Hid1.mk hp3
                clear h1 h2 B1 B2 hp3
                go_wp2
                go_quiet (fail)
                go_wp2
                go_ret2
                have he : refPick s z = ({ s with steps := wrap64 (s.steps + 1), phase := s.phase.set i (wrap64 (q + 1)) }, (i : Int), wrap64 (q + 1)) := by rw [HQ.out.1]; unfold refStep; rw [← HQ.out.2, if_neg HP3.out]
                rw [he]
                exact ⟨rfl, ⟨_, _, _, _, H2.out.below (pw_below_drewN (Below.refl _ _) _)⟩, BB2.out.drewN _⟩
          · have hzn : (z != x) = true := bne_iff_ne.mpr hzx
            have HS : Hid1 (∀ j, j < i + 1 → heldBy s x j = false) := ⟨fun j hj => by
              by_cases e : j = i
              · subst e; unfold heldBy; rw [← HZ.out.1, decide_eq_false hzx, Bool.false_and]
              · exact HA.out j (by omega)⟩
            go_wp2
            go_roundw
            case rel => exact ⟨by first | rfl | trivial, i + 1, by omega, by go_num, HS⟩
            case measure => simp [intOf]; omega
        · obtain rfl : i = s.l.length := by omega
          have hnone : firstHeld s x s.l.length 0 = none := firstHeld_none s x _ 0 (fun k _ hk => HA.out k (by omega))
          have hpick : refPick s x = if rleastOf s < 0 then (s, -1, 0) else ({ s with steps := wrap64 (s.steps + 1), who := s.who.set (rleastOf s).toNat x, phase := s.phase.set (rleastOf s).toNat 1 }, rleastOf s, 1) := by unfold refPick; rw [if_neg HX.out, hnone]
          have HPK := Hid1.mk hpick
          clear hnone hpick hlt HA
          go_wp2
          have Hd := H.out.below (below_drew1 (Below.refl wr.heap.size wr))
          have Bd := HB.out.drew
          have hbd : w0.heap.size ≤ wr.drew.heap.size := hbw
          have k0d : wr.drew.cell? ⟨b, 0, none⟩ = some (.slice A0 s.l.length c0) := k0
          have k2d : wr.drew.cell? ⟨b, 2, none⟩ = some (.slice Ad s.l.length cd) := k2c
          have k3d : wr.drew.cell? ⟨b, 3, none⟩ = some (.slice Aw s.l.length cw) := k3c
          have HRDY : Aside0 (Calls Try.prog 20 #[.slice A0 s.l.length c0, .slice Ad s.l.length cd] wr.drew fun e w' => ∃ v0_ : Value, e = .returned (v0_) ∧ Kd.R (Kd.int .i64) 3 w' wr.drew.heap.size (fun _ => True) v0_ (readyTo s.l s.done s.l.length) ∧ Below wr.drew.heap.size wr.drew w') := ⟨by
            have hread := Kd.R_reads' Hd.rd
            have := carlingref21_Ready.calls k2 A0 c0 s.l Ad cd s.done (readyTo s.l s.done s.l.length) wr.drew (Kd.C_below HL.out Bd.below) hc0 hread.2.2 (by have := hread.2.1; have h2 := HDL.out.1; omega) HK2.out
            rw [HDL.out.1] at this
            exact this⟩
          have HM := Hid1.mk (ready_mem s.l s.done s.l.length)
          have hrl := readyTo_len s.l s.done s.l.length
          obtain ⟨rs, hrs⟩ : ∃ rs, rs = readyTo s.l s.done s.l.length := ⟨_, rfl⟩
          rw [← hrs] at HM hrl
          have HRS := Hid1.mk hrs
          clear hrs k2c k0
          refine start_ (n := 10) (S := fun w' => w'.cell? ⟨b, 0, none⟩ = some (.slice A0 s.l.length c0) ∧ w'.cell? ⟨b, 2, none⟩ = some (.slice Ad s.l.length cd)) (ds := []) #[false, false, false, false, false, false, false, false, false, false] (by kernel_rfl) rfl rfl ⟨k0d, k2d⟩ (fun hHeld => ?_)
          generalize wr.drew = wd at Hd Bd hbd HRDY k0d k2d k3d hHeld ⊢
          refine pure_ (i := 0) (N := some 101) (v := ?_) (a' := ?_) #[true, false, false, false, false, false, false, false, false, false] rfl rfl (by kernel_rfl) (fun _ _ _ h => h) (Or.inl ⟨by rfl, ?_⟩) ?_ ?_
          rotate_left
          · intro w'
            go_simp
            first | done | with_reducible rfl
          rotate_left
          · simp only [Act.put, List.setIfInBounds_toArray, List.set_cons_zero, List.set_cons_succ, i64_w, i32_w]
            rfl
          refine pure_ (i := 1) (N := some 102) (v := ?_) (a' := ?_) #[true, true, false, false, false, false, false, false, false, false] rfl rfl (by kernel_rfl) (fun _ _ _ h => h) (Or.inl ⟨by rfl, ?_⟩) ?_ ?_
          rotate_left
          · intro w'
            go_simp
            first | done | with_reducible rfl
          rotate_left
          · simp only [Act.put, List.setIfInBounds_toArray, List.set_cons_zero, List.set_cons_succ, i64_w, i32_w]
            rfl
          refine pure_ (i := 2) (N := some 103) (v := ?_) (a' := ?_) #[true, true, true, false, false, false, false, false, false, false] rfl rfl (by kernel_rfl) (fun _ _ _ h => h) (Or.inl ⟨by rfl, ?_⟩) ?_ ?_
          rotate_left
          · intro w'
            go_simp
            first | done | with_reducible rfl
          rotate_left
          · simp only [Act.put, List.setIfInBounds_toArray, List.set_cons_zero, List.set_cons_succ, i64_w, i32_w]
            rfl
          refine take_ (i := 3) (N := some 104) (v := ?_) (a' := ?_) #[true, true, true, true, false, false, false, false, false, false] rfl rfl (by kernel_rfl) (fun _ _ _ h => h) (Or.inl ⟨by rfl, ?_⟩) hHeld ?_ ?_
          rotate_left
          · intro w' s0
            obtain ⟨s1_, s2_⟩ := s0
            go_simp
            first | done | with_reducible rfl
          rotate_left
          · simp only [Act.put, List.setIfInBounds_toArray, List.set_cons_zero, List.set_cons_succ, i64_w, i32_w]
            rfl
          refine pure_ (i := 4) (N := some 105) (v := ?_) (a' := ?_) #[true, true, true, true, true, false, false, false, false, false] rfl rfl (by kernel_rfl) (fun _ _ _ h => h) (Or.inl ⟨by rfl, ?_⟩) ?_ ?_
          rotate_left
          · intro w'
            go_simp
            first | done | with_reducible rfl
          rotate_left
          · simp only [Act.put, List.setIfInBounds_toArray, List.set_cons_zero, List.set_cons_succ, i64_w, i32_w]
            rfl
          refine pure_ (i := 5) (N := some 106) (v := ?_) (a' := ?_) #[true, true, true, true, true, true, false, false, false, false] rfl rfl (by kernel_rfl) (fun _ _ _ h => h) (Or.inl ⟨by rfl, ?_⟩) ?_ ?_
          rotate_left
          · intro w'
            go_simp
            first | done | with_reducible rfl
          rotate_left
          · simp only [Act.put, List.setIfInBounds_toArray, List.set_cons_zero, List.set_cons_succ, i64_w, i32_w]
            rfl
          refine pure_ (i := 6) (N := some 107) (v := ?_) (a' := ?_) #[true, true, true, true, true, true, true, false, false, false] rfl rfl (by kernel_rfl) (fun _ _ _ h => h) (Or.inl ⟨by rfl, ?_⟩) ?_ ?_
          rotate_left
          · intro w'
            go_simp
            first | done | with_reducible rfl
          rotate_left
          · simp only [Act.put, List.setIfInBounds_toArray, List.set_cons_zero, List.set_cons_succ, i64_w, i32_w]
            rfl
          refine take_ (i := 7) (N := some 108) (v := ?_) (a' := ?_) #[true, true, true, true, true, true, true, true, false, false] rfl rfl (by kernel_rfl) (fun _ _ _ h => h) (Or.inl ⟨by rfl, ?_⟩) hHeld ?_ ?_
          rotate_left
          · intro w' s0
            obtain ⟨s1_, s2_⟩ := s0
            go_simp
            first | done | with_reducible rfl
          rotate_left
          · simp only [Act.put, List.setIfInBounds_toArray, List.set_cons_zero, List.set_cons_succ, i64_w, i32_w]
            rfl
          refine one_ (i := 8) (N := some 109) #[true, true, true, true, true, true, true, true, true, false] rfl rfl (by kernel_rfl) (by decide) (fun K_ hK => ?_)
          refine goes_ Try.func20 (by kernel_rfl) rfl #[.slice A0 s.l.length c0, .slice Ad s.l.length cd] (by rfl) rfl rfl (by (try simp only [List.map_toArray, List.map_cons, List.map_nil]); rfl) ?_
          refine (HRDY.out).mono ?_
          rintro e w1 ⟨v14, rfl, ho, hb⟩
          refine ⟨_, rfl, ?_⟩
          have k3w := pw_cell_below hb k3d
          refine hK.out _ _ ⟨pw_cell_below hb hHeld.1, pw_cell_below hb hHeld.2⟩ (fun hHeld => ?_)
          clear hK K_
          rw [← HRS.out] at ho
          obtain ⟨A14, c14, rfl⟩ := Kd.R_slice ho
          have HR1 := Aside0.mk (Kd.R_reads' ho).2.2
          have H1 := Aside0.mk (Hd.below hb)
          have B1 := Aside0.mk (Bd.on hbd hb)
          have K0 := Aside0.mk hHeld.1
          have K3 := Aside0.mk k3w
          clear ho hb Hd Bd hbd HRDY k3d
          refine norm_ (a' := ?_) ?_ ?_
          rotate_left
          · simp only [Act.put, List.setIfInBounds_toArray, List.set_cons_zero, List.set_cons_succ]
            rfl
          refine pure_ (i := 9) (N := some 7) (v := ?_) (a' := ?_) #[true, true, true, true, true, true, true, true, true, true] rfl rfl (by kernel_rfl) (fun _ _ _ h => h) (Or.inl ⟨by rfl, ?_⟩) ?_ ?_
          rotate_left
          · intro w'
            go_simp
            first | done | with_reducible rfl
          rotate_left
          · simp only [Act.put, List.setIfInBounds_toArray, List.set_cons_zero, List.set_cons_succ, i64_w, i32_w]
            rfl
          refine done_ (by kernel_rfl) ?_
          go_wp2
          clear k0d k2d k3c
          go_loopw [8, 9] (fun v8 v9 w2 => ∃ m : Nat, m ≤ rs.length ∧ v8 = .int .i64 (rleastTo s.l s.who rs m) ∧ v9 = .int .i64 m ∧ Aside0 (Below w1.heap.size w1 w2))
            (fun _ v9 _ => rs.length - (intOf v9).toNat)
          case atStart => exact ⟨0, by omega, rfl, rfl, ⟨Below.refl _ _⟩⟩
          case round =>
            obtain ⟨m, hm2, rfl, rfl, BR⟩ := hrel
            by_cases hmt : m < rs.length
            · obtain ⟨an, rfl, hcn⟩ := Kd.at_int HR1.out (m : Int) (by omega) (by omega)
              have hcn := pw_cell_below BR.out hcn
              rw [Int.toNat_natCast] at hcn
              have hm0 : (0 ≤ (m : Int)) = True := eq_true (by omega)
              have hm1 : ((m : Int) < (rs.length : Int)) = True := eq_true (by omega)
              have hi0 := HM.out _ (rd_mem rs m hmt)
              have hb0 := rleast_mem s.l s.who rs m hm2
              obtain ⟨i, hiE⟩ : ∃ i, i = rd rs (m : Int) := ⟨_, rfl⟩
              obtain ⟨bb, hbE⟩ : ∃ bb, bb = rleastTo s.l s.who rs m := ⟨_, rfl⟩
              rw [← hiE] at hi0 hcn
              rw [← hbE] at hb0 ⊢
              have hi1 := hi0.1
              have hi2 := hi0.2.1
              have hb1 : bb < 0 ∨ (0 ≤ bb ∧ bb < s.l.length) := hb0.imp (fun h => by omega) (fun h => ⟨(HM.out _ h).1, (HM.out _ h).2.1⟩)
              have hi3 : i < (s.l.length : Int) := hi2
              have HIE := Hid1.mk hiE
              have HBEE := Hid1.mk hbE
              clear hi0 hb0 hiE hbE
              have kc0 := pw_cell_below BR.out K0.out
              have kc3 := pw_cell_below BR.out K3.out
              obtain ⟨aT, eT, hcT⟩ := Kd.at_int (Kd.R_reads' H1.out.rw).2.2 i hi1 (by have := HDL.out.2.1; omega)
              subst eT
              have hcT := pw_cell_below BR.out hcT
              by_cases htk : rd s.who i < 0
              · have htkD : decide (rd s.who i < 0) = true := decide_eq_true htk
                have hne := Hid1.mk htk
                clear htk
                by_cases hneg : bb < 0
                · have qn : decide (bb < 0) = true := decide_eq_true hneg
                  clear hb1
                  have HXX : Hid1 (rleastTo s.l s.who rs (m + 1) = i) := ⟨by simp only [rleastTo]; rw [← HIE.out, if_pos hne.out, ← HBEE.out, if_pos hneg]⟩
                  go_wp2
                  repeat (go_quiet (fail))
                  try go_wp2
                  go_roundw
                  case rel => exact ⟨m + 1, by omega, by rw [HXX.out], by go_num, ⟨by first | exact BR.out | exact pw_below_drewN BR.out _⟩⟩
                  case measure => simp [intOf]; omega
                · obtain ⟨hb2, hb3⟩ : 0 ≤ bb ∧ bb < s.l.length := hb1.resolve_left hneg
                  have qn : decide (bb < 0) = false := decide_eq_false hneg
                  clear hb1
                  have HC1 := Kd.C_below HL.out B1.out.below
                  obtain ⟨ad, Aj, cj, eA, hx0, hx1, hlj, hj⟩ := at_T31 HC1 i hi1 hi2
                  obtain ⟨ad', Aj', cj', e', hy0, hy1, hlj', hj'⟩ := at_T31 HC1 bb hb2 hb3
                  subst eA
                  obtain rfl : ad = ad' := by injection e'
                  have hx0 := pw_cell_below BR.out hx0
                  have hy0 := pw_cell_below BR.out hy0
                  clear hx1 hlj hj hy1 hlj' hj' e' HC1
                  by_cases hless : Op.bytesLess ((rd_T31 s.l i).f0).toList ((rd_T31 s.l bb).f0).toList = true
                  · have HXX : Hid1 (rleastTo s.l s.who rs (m + 1) = i) := ⟨by simp only [rleastTo]; rw [← HIE.out, if_pos hne.out, ← HBEE.out, if_neg hneg, if_pos hless]⟩
                    go_wp2
                    repeat (go_quiet (fail))
                    try go_wp2
                    go_roundw
                    case rel => exact ⟨m + 1, by omega, by rw [HXX.out], by go_num, ⟨by first | exact BR.out | exact pw_below_drewN BR.out _⟩⟩
                    case measure => simp [intOf]; omega
                  · have hless := Bool.eq_false_iff.mpr hless
                    have hln : ¬ Op.bytesLess ((rd_T31 s.l i).f0).toList ((rd_T31 s.l bb).f0).toList = true := by rw [hless]; decide
                    have hln := Hid1.mk hln
                    have HXX : Hid1 (rleastTo s.l s.who rs (m + 1) = bb) := ⟨by simp only [rleastTo]; rw [← HIE.out, if_pos hne.out, ← HBEE.out, if_neg hneg, if_neg hln.out]⟩
                    go_wp2
                    repeat (go_quiet (fail))
                    try go_wp2
                    go_roundw
                    case rel => exact ⟨m + 1, by omega, by rw [HXX.out], by go_num, ⟨by first | exact BR.out | exact pw_below_drewN BR.out _⟩⟩
                    case measure => simp [intOf]; omega
              · have htkD : decide (rd s.who i < 0) = false := decide_eq_false htk
                have hne := Hid1.mk htk
                clear htk hb1
                have HXX : Hid1 (rleastTo s.l s.who rs (m + 1) = bb) := ⟨by simp only [rleastTo]; rw [← HIE.out, if_neg hne.out, HBEE.out]⟩
                go_wp2
                repeat (go_quiet (fail))
                try go_wp2
                go_roundw
                case rel => exact ⟨m + 1, by omega, by rw [HXX.out], by go_num, ⟨by first | exact BR.out | exact pw_below_drewN BR.out _⟩⟩
                case measure => simp [intOf]; omega
            · obtain rfl : m = rs.length := by omega
              have hm1 : ((rs.length : Int) < (rs.length : Int)) = False := eq_false (by omega)
              have hb0 := rleast_mem s.l s.who rs rs.length (Nat.le_refl _)
              have hro : rleastOf s = rleastTo s.l s.who rs rs.length := by unfold rleastOf; rw [HRS.out]
              obtain ⟨bb, hbE⟩ : ∃ bb, bb = rleastTo s.l s.who rs rs.length := ⟨_, rfl⟩
              rw [← hbE] at hb0 hro ⊢
              have HBE := Hid1.mk hro
              clear hbE hro
              have HF := Aside0.mk (B1.out.on (Nat.le_of_lt (Nat.lt_of_le_of_lt H1.out.low (blk_lt H1.out.blk))) BR.out)
              by_cases hneg : bb < 0
              · have qn : decide (bb < 0) = true := decide_eq_true hneg
                have hp2 : refPick s x = (s, -1, 0) := by rw [HPK.out, if_pos (by rw [HBE.out]; exact hneg)]
                go_wp2
                go_ret2
                rw [hp2]
                exact ⟨rfl, ⟨_, _, _, _, H1.out.below BR.out⟩, HF.out⟩
              · obtain ⟨hb2, hb3⟩ : 0 ≤ bb ∧ bb < s.l.length := by
                  rcases hb0 with h | h
                  · omega
                  · exact ⟨(HM.out _ h).1, (HM.out _ h).2.1⟩
                have qn : decide (bb < 0) = false := decide_eq_false hneg
                obtain ⟨n, rfl⟩ : ∃ n : Nat, bb = (n : Int) := ⟨bb.toNat, by omega⟩
                have hp2 : refPick s x = ({ s with steps := wrap64 (s.steps + 1), who := s.who.set n x, phase := s.phase.set n 1 }, (n : Int), 1) := by rw [HPK.out, if_neg (by rw [HBE.out]; exact hneg), HBE.out, Int.toNat_natCast]
                have HP2 := Hid1.mk hp2
                clear hp2 hb0
                have hr := H1.out.below BR.out
                obtain ⟨gw, cap2, ev2, hgbw, _, _, _⟩ := Kd.R_form hr.rw (by have := HDL.out.2.1; omega)
                injection ev2 with ev2a ev2b ev2c
                subst ev2a
                obtain ⟨gp, cap3, ev3, hgbp, _, _, _⟩ := Kd.R_form hr.rp (by have := HDL.out.2.2; omega)
                injection ev3 with ev3a ev3b ev3c
                subst ev3a
                clear ev2b ev2c ev3b ev3c
                have k5 : wr.cell? ⟨b, 5, none⟩ = some (.int .i64 s.steps) := (blk_cell hr.blk 5).trans rfl
                have f5 := blk_frozen hr.blk 5
                have h1 := hr.putSteps (wrap64 (s.steps + 1))
                have k31 : (wr.setCell ⟨b, 5, none⟩ (.int .i64 (wrap64 (s.steps + 1)))).cell? ⟨b, 3, none⟩ = some (.slice (some ⟨gw, 0, none⟩) s.l.length cw) := (blk_cell h1.blk 3).trans rfl
                obtain ⟨cw1, fw1⟩ := Kd.R_celln 0 h1.rw (n : Int) (by omega) (by omega)
                obtain ⟨hr2, hg2⟩ := Kd.R_putg h1.rw (n : Int) x
                rw [Int.toNat_natCast] at cw1 fw1 hr2 hg2
                have h2 := h1.setWho (w1 := ((wr.setCell ⟨b, 5, none⟩ (.int .i64 (wrap64 (s.steps + 1)))).setCell ⟨gw, n, none⟩ (.int .i64 x))) hg2 hr2
                have k42 : ((wr.setCell ⟨b, 5, none⟩ (.int .i64 (wrap64 (s.steps + 1)))).setCell ⟨gw, n, none⟩ (.int .i64 x)).cell? ⟨b, 4, none⟩ = some (.slice (some ⟨gp, 0, none⟩) s.l.length cp) := (blk_cell h2.blk 4).trans rfl
                obtain ⟨cp2, fp2⟩ := Kd.R_celln 0 h2.rp (n : Int) (by omega) (by omega)
                obtain ⟨hr3, hg3⟩ := Kd.R_putg h2.rp (n : Int) 1
                rw [Int.toNat_natCast] at cp2 fp2 hr3 hg3
                have h3 := Aside0.mk (h2.setPhase (w1 := (((wr.setCell ⟨b, 5, none⟩ (.int .i64 (wrap64 (s.steps + 1)))).setCell ⟨gw, n, none⟩ (.int .i64 x)).setCell ⟨gp, n, none⟩ (.int .i64 1))) hg3 hr3)
                have F3 := Aside0.mk (((HF.out.setCell (p := ⟨b, 5, none⟩) hr.low hr.nb (.int .i64 (wrap64 (s.steps + 1)))).setCell (p := ⟨gw, n, none⟩) hgbw (hr.rw.1 gw rfl).2.2 (.int .i64 x)).setCell (p := ⟨gp, n, none⟩) hgbp (hr.rp.1 gp rfl).2.2 (.int .i64 1))
                have hn0 : (0 ≤ (n : Int)) = True := eq_true (by omega)
                have hn1 : ((n : Int) < (s.l.length : Int)) = True := eq_true hb3
                clear h1 h2 hr hr2 hg2 hr3 hg3
                go_wp2
                go_ret2
                rw [HP2.out]
                exact ⟨rfl, ⟨_, _, _, _, h3.out⟩, F3.out⟩
end Go.Proofs.Ytgjlgdohlmpnbaa.P
