/- The walk of SchedOnce: whatever the jobs, what is done already and the picks, it returns true. Conditions: none beyond what is read. -/
import Derived.Test.YtgjlgdohlmpnbaaB8
import Derived.Test.YtgjlgdohlmpnbaaB2
namespace Go.Proofs.Ytgjlgdohlmpnbaa.P
set_option linter.unusedVariables false
set_option linter.unusedSimpArgs false
open Go.RowKit Go.Proofs.YtgjlgdohlmpnbaaW.PrintWords Go.Proofs.YtgjlgdohlmpnbaaW.PrintLast Go.Proofs.YtgjlgdohlmpnbaaW.PrintMore
open Go.Proofs.Ytgjlgdohlmpnbaa.Pure (Ends light_ends)

/-- the phases that the law begins with, as far as job i -/
def phTo (d : List Bool) (n : Nat) : Nat → List Int
  | 0 => List.replicate n 0
  | i + 1 => if bit d i = true then (phTo d n i).set i 3 else phTo d n i
theorem phTo_len (d : List Bool) (n : Nat) : ∀ i, (phTo d n i).length = n
  | 0 => by simp [phTo]
  | i + 1 => by unfold phTo; split <;> simp [phTo_len d n i]
theorem phTo_rd (d : List Bool) (n : Nat) : ∀ i, i ≤ n → ∀ a, a < n → rd (phTo d n i) (a : Int) = if a < i ∧ bit d a = true then 3 else 0
  | 0, _, a, ha => by simp [phTo, rd, ha]
  | i + 1, h, a, ha => by
    have ih := phTo_rd d n i (by omega) a ha
    unfold phTo
    by_cases hb : bit d i = true
    · rw [if_pos hb, rdI_set _ _ _ _ (by rw [phTo_len]; omega)]
      by_cases e : a = i
      · subst e; rw [if_pos rfl, if_pos ⟨by omega, hb⟩]
      · rw [if_neg e, ih]
        by_cases h2 : a < i ∧ bit d a = true
        · rw [if_pos h2, if_pos ⟨by omega, h2.2⟩]
        · rw [if_neg h2, if_neg (fun h3 => h2 ⟨by omega, h3.2⟩)]
    · rw [if_neg hb, ih]
      by_cases h2 : a < i ∧ bit d a = true
      · rw [if_pos h2, if_pos ⟨by omega, h2.2⟩]
      · rw [if_neg h2, if_neg (fun h3 => h2 ⟨by
          have : a ≠ i := fun e => by subst e; exact hb h3.2
          omega, h3.2⟩)]
theorem copied_bit (d : List Bool) (n a : Nat) (ha : a < n) : bit (copied n d) a = bit d a := by
  unfold bit copied
  simp only [List.getD_eq_getElem?_getD, List.getElem?_append, List.length_take]
  by_cases h : a < min (min d.length n) d.length
  · rw [if_pos h, List.getElem?_take]; rw [if_pos (by omega)]
  · rw [if_neg h]
    have : d.length ≤ a := by omega
    rw [List.getElem?_eq_none this]
    simp only [List.getElem?_drop, List.getElem?_replicate]
    split <;> rfl
theorem run_start {l : List S31} {x : Int} (d : List Bool) : Run (newSt l x d) (phTo d l.length l.length) (List.replicate l.length 0) where
  lenP := phTo_len _ _ _
  lenW := by simp [newSt, freshSt]
  fin a ha := by
    have ha : a < l.length := ha
    rw [phTo_rd d l.length l.length (Nat.le_refl _) a ha]
    show _ ↔ bit (copied l.length d) a = true
    rw [copied_bit d _ a ha]
    by_cases h : bit d a = true
    · rw [if_pos ⟨ha, h⟩]; simp [h]
    · rw [if_neg (fun h2 => h h2.2)]; simp [h]
  held i _ h := absurd rfl h
  free a ha hd _ := by
    have ha : a < l.length := ha
    have hd : bit (copied l.length d) a = false := hd
    rw [copied_bit d _ a ha] at hd
    rw [phTo_rd d l.length l.length (Nat.le_refl _) a ha, if_neg (fun h2 => by rw [hd] at h2; cases h2.2)]
theorem size_set (W : World) (p : Addr) (u : Value) : W.heap.size ≤ (W.setCell p u).heap.size := ((Below.refl 0 W).setCell (p := p) (Nat.zero_le _) u).size
/-- two rows of numbers, apart, in blocks that are kept -/
structure TwoRows (W : World) (B : Nat) (K : Nat → Prop) (vp vw : Value) (ph who : List Int) : Prop where
  p : Kd.R (Kd.int .i64) 3 W B (fun k => K k ∧ some k ≠ vw.ownBlock) vp ph
  w : Kd.R (Kd.int .i64) 3 W B (fun k => K k ∧ some k ≠ vp.ownBlock) vw who
theorem TwoRows.kept {W W1 : World} {B : Nat} {K : Nat → Prop} {vp vw : Value} {ph who : List Int} (h : TwoRows W B K vp vw ph who) (hk : Kp K W W1) : TwoRows W1 B K vp vw ph who :=
  ⟨Kd.R_step h.p (fun k hk2 _ => (hk k hk2.1).2), Kd.R_step h.w (fun k hk2 _ => (hk k hk2.1).2)⟩
theorem TwoRows.putP {W : World} {B : Nat} {K : Nat → Prop} {vw : Value} {ph who : List Int} {g n c : Nat} (h : TwoRows W B K (.slice (some ⟨g, 0, none⟩) n c) vw ph who) (a : Nat) (x : Int) : TwoRows (W.setCell ⟨g, a, none⟩ (.int .i64 x)) B K (.slice (some ⟨g, 0, none⟩) n c) vw (ph.set a x) who := by
  obtain ⟨h1, h2⟩ := Kd.R_putg h.p (a : Int) x
  rw [Int.toNat_natCast] at h1 h2
  exact ⟨h1, Kd.R_step h.w (fun k hk hlt => h2.block k hlt hk.2)⟩
theorem TwoRows.putW {W : World} {B : Nat} {K : Nat → Prop} {vp : Value} {ph who : List Int} {g n c : Nat} (h : TwoRows W B K vp (.slice (some ⟨g, 0, none⟩) n c) ph who) (a : Nat) (x : Int) : TwoRows (W.setCell ⟨g, a, none⟩ (.int .i64 x)) B K vp (.slice (some ⟨g, 0, none⟩) n c) ph (who.set a x) := by
  obtain ⟨h1, h2⟩ := Kd.R_putg h.w (a : Int) x
  rw [Int.toNat_natCast] at h1 h2
  exact ⟨Kd.R_step h.p (fun k hk hlt => h2.block k hlt hk.2), h1⟩
theorem SchedAt.put_far {W : World} {base b : Nat} {s : St} {K : Nat → Prop} (h : SchedAt W base b s K) {g : Nat} (hg : K g) (a : Nat) (u : Value) : SchedAt (W.setCell ⟨g, a, none⟩ u) base b s K :=
  h.other (fun k hk _ => Below.heap_setCell W _ u k (fun e => hk (by rw [e]; exact hg)))
def carlinglaw22_SchedOnce.f (_ : List S31) (_ : List Bool) (_ : List Int) : Option Bool := some true
set_option maxHeartbeats 8000000 in
set_option maxRecDepth 100000 in
theorem carlinglaw22_SchedOnce.calls (A0 : Option Addr) (c0 : Nat) (l0 : List (S31)) (A1 : Option Addr) (c1 : Nat) (l1 : List Bool) (A2 : Option Addr) (c2 : Nat) (l2 : List Int) (r : Bool) (w : World) (hr0 : Kd.C k31 w A0 l0.length l0) (hc0 : l0.length ≤ c0) (hr1 : Kd.C Kd.bool w A1 l1.length l1) (hc1 : l1.length ≤ c1) (hr2 : Kd.C (Kd.int .i64) w A2 l2.length l2) (hc2 : l2.length ≤ c2) (h : carlinglaw22_SchedOnce.f l0 l1 l2 = some r) :
    Calls Try.prog 10 #[.slice A0 l0.length c0, .slice A1 l1.length c1, .slice A2 l2.length c2] w fun e w' => e = .returned (.bool r) ∧ Below w.heap.size w w' := by
  obtain rfl : true = r := Option.some.inj h
  clear h
  obtain ⟨b, e1, e2⟩ := light_ends l0
  obtain ⟨k, hk⟩ := e1.get
  have HR0 := Aside0.mk hr0
  have HR1 := Aside0.mk hr1
  have HR2 := Aside0.mk hr2
  have HK := Hid1.mk hk
  clear e1 hk hr0 hr1 hr2
  cases b with
  | false =>
    clear e2
    go_enter Try.func10, Try.ntmps10
    go_wp2_with (first
      | (go_at_call 24; refine (awake_any w).mono ?_; rintro e w1 ⟨rfl, hb⟩; have HB1 := Aside0.mk hb; clear hb)
      | (go_at_call 15; refine (carlingref21_Light.calls k A0 c0 l0 false w1 (Kd.C_below HR0.out HB1.out) hc0 HK.out).mono ?_; rintro e w2 ⟨rfl, hd⟩; have HB2 := Aside0.mk (below_step HB1.out hd.below); clear hd))
    go_ret
    exact ⟨rfl, HB2.out⟩
  | true =>
    obtain ⟨hf, hl⟩ := e2 rfl
    clear e2
    have HF := Hid1.mk hf
    clear hf
    by_cases hp : (l2.length : Int) > 400
    · have hpd : decide ((400 : Int) < (l2.length : Int)) = true := decide_eq_true hp
      go_enter Try.func10, Try.ntmps10
      go_wp2_with (first
        | (go_at_call 24; refine (awake_any w).mono ?_; rintro e w1 ⟨rfl, hb⟩; have HB1 := Aside0.mk hb; clear hb)
        | (go_at_call 15; refine (carlingref21_Light.calls k A0 c0 l0 true w1 (Kd.C_below HR0.out HB1.out) hc0 HK.out).mono ?_; rintro e w2 ⟨rfl, hd⟩; have HB2 := Aside0.mk (below_step HB1.out hd.below); clear hd))
      go_ret
      exact ⟨rfl, HB2.out⟩
    · have hpd : decide ((400 : Int) < (l2.length : Int)) = false := decide_eq_false hp
      by_cases hdn : (l1.length : Int) > 200
      · have hdd : decide ((200 : Int) < (l1.length : Int)) = true := decide_eq_true hdn
        go_enter Try.func10, Try.ntmps10
        go_wp2_with (first
          | (go_at_call 24; refine (awake_any w).mono ?_; rintro e w1 ⟨rfl, hb⟩; have HB1 := Aside0.mk hb; clear hb)
          | (go_at_call 15; refine (carlingref21_Light.calls k A0 c0 l0 true w1 (Kd.C_below HR0.out HB1.out) hc0 HK.out).mono ?_; rintro e w2 ⟨rfl, hd⟩; have HB2 := Aside0.mk (below_step HB1.out hd.below); clear hd))
        go_ret
        exact ⟨rfl, HB2.out⟩
      · have hdd : decide ((200 : Int) < (l1.length : Int)) = false := decide_eq_false hdn
        by_cases hz : newErr l0 4 = 0
        · have HN := fun w hC hD => new_ok (w := w) (A0 := A0) (c0 := c0) (x := 4) (A1 := A1) (c1 := c1) (d0 := l1) hC hc0 hD HF.out hz
          have HNN := Aside0.mk HN
          clear HN hz
          go_enter Try.func10, Try.ntmps10
          go_wp2_with (first
            | (go_at_call 24; refine (awake_any w).mono ?_; rintro e w1 ⟨rfl, hb⟩; have HB1 := Aside0.mk hb; clear hb)
            | (go_at_call 15; refine (carlingref21_Light.calls k A0 c0 l0 true w1 (Kd.C_below HR0.out HB1.out) hc0 HK.out).mono ?_; rintro e w2 ⟨rfl, hd⟩; have HB2 := Aside0.mk (below_step HB1.out hd.below); clear hd)
            | (go_at_call 25; refine (HNN.out _ (Kd.C_below HR0.out HB2.out) (Kd.C_below HR1.out HB2.out)).mono ?_; rintro e w3 ⟨b, he, hs, hb⟩; subst he; have HB3 := Aside0.mk (below_step HB2.out hb); have HS3 := Aside0.mk hs; have HB23 := Aside0.mk hb; have hsz3 := below_size hb; clear hs hb)
            | (at_make; refine Kd.R_make (Kd.int .i64) (w0 := w3) w3.heap.size 3 rfl (N := 49) rfl 25 _ _ rfl (l0.length : Int) rfl rfl Try.underlying25 (.int .i64 0) 8 info3 rfl (by decide) (by omega) 0 (ok := fun _ => True) (okp := fun _ => True) rfl (fun _ hk => hk) trivial (by omega) (by omega) (Below.refl _ _) (Nat.le_refl _) ?_; intro vp w4 ho hb hg_ hnew_; rw [Int.toNat_natCast] at ho; clear hg_ hnew_; obtain ⟨Ap, cp, evp⟩ := Kd.R_slice ho; rw [List.length_replicate] at evp; subst evp; have HP4 := Aside0.mk ho; have HB4 := Aside0.mk hb; clear ho hb)
            | (at_make; refine Kd.R_make (Kd.int .i64) (w0 := w4) w4.heap.size 3 rfl (N := 52) rfl 25 _ _ rfl (l0.length : Int) rfl rfl Try.underlying25 (.int .i64 0) 8 info3 rfl (by decide) (by omega) 0 (ok := fun _ => True) (okp := fun _ => True) rfl (fun _ hk => hk) trivial (by omega) (by omega) (Below.refl _ _) (Nat.le_refl _) ?_; intro vw w5 ho hb hg_ hnew_; rw [Int.toNat_natCast] at ho; clear hg_; obtain ⟨nw, enw, hnw⟩ := hnew_; obtain ⟨Aw, cw, evw⟩ := Kd.R_slice ho; rw [List.length_replicate] at evw; subst evw; have HW5 := Aside0.mk ho; have HB5 := Aside0.mk hb; clear ho hb))
          obtain ⟨K, hKE⟩ : ∃ K : Nat → Prop, K = (fun k => w3.heap.size ≤ k ∧ k < w5.heap.size) := ⟨_, rfl⟩
          have hs45 := below_size HB4.out
          have hs55 := below_size HB5.out
          have HS5 : Aside0 (SchedAt w5 w2.heap.size b (newSt l0 4 l1) K) := ⟨((HS3.out.more.less (K' := K) (fun k hk => .inr (by rw [hKE] at hk; exact hk.1))).below (below_step HB4.out HB5.out))⟩
          have HT5 : Aside0 (TwoRows w5 w3.heap.size K (.slice Ap l0.length cp) (.slice Aw l0.length cw) (phTo l1 l0.length 0) (List.replicate l0.length 0)) := ⟨{
            p := Kd.R_below (Kd.R_mono (Kd.R_bound HP4.out) (fun k hk => ⟨by rw [hKE]; exact ⟨hk.2.1, Nat.lt_of_lt_of_le hk.2.2.1 hs55⟩, by rw [enw]; intro he; injection he with he; have := hk.2.2.1; omega⟩)) HB5.out
            w := Kd.R_lower (Kd.R_mono (Kd.R_bound (Kd.R_newR HW5.out HP4.out)) (fun k hk => ⟨by rw [hKE]; exact ⟨Nat.le_trans hs45 hk.2.1, hk.2.2.1⟩, hk.1.2⟩)) hs45 }⟩
          have HB25 : Aside0 (Below w2.heap.size w2 w5) := ⟨HB23.out.trans ((below_step HB4.out HB5.out).mono hsz3)⟩
          have hKb : ∀ k, K k → w2.heap.size ≤ k := fun k hk => by rw [hKE] at hk; exact Nat.le_trans hsz3 hk.1
          have HKE := Hid1.mk hKb
          have HKT : Hid1 (∀ k, K k → k < w5.heap.size) := ⟨fun k hk => by rw [hKE] at hk; exact hk.2⟩
          clear hKE hKb HS3 HP4 HW5 HB4 HB5 HB3 HB23 hs45 hs55 hsz3 enw hnw
          go_loopw [13] (fun v13 w' => ∃ i : Nat, i ≤ l0.length ∧ v13 = .int .i64 i ∧ Aside0 (SchedAt w' w2.heap.size b (newSt l0 4 l1) K) ∧ Aside0 (TwoRows w' w3.heap.size K (.slice Ap l0.length cp) (.slice Aw l0.length cw) (phTo l1 l0.length i) (List.replicate l0.length 0)) ∧ Aside0 (Below w2.heap.size w2 w') ∧ Hid1 (∀ k, K k → k < w'.heap.size)) (fun v13 _ => l0.length - (intOf v13).toNat)
          case atStart => exact ⟨0, by omega, rfl, HS5, HT5, HB25, HKT⟩
          case round =>
            clear HS5 HT5 HB25 HKT
            obtain ⟨i, hi, rfl, HS, HT, BR, HKB⟩ := hrel
            by_cases hlt : i < l0.length
            · have hi0 : (0 ≤ (i : Int)) = True := eq_true (by omega)
              have hi1 : ((i : Int) < (l0.length : Int)) = True := eq_true (by omega)
              by_cases hil : i < l1.length
              · have hil1 : ((i : Int) < (l1.length : Int)) = True := eq_true (by omega)
                have hil2 : decide ((i : Int) < (l1.length : Int)) = true := decide_eq_true (by omega)
                obtain ⟨ad, ead, hc⟩ := Kd.at_bool (Kd.C_below HR1.out (below_step HB2.out BR.out)) (i : Int) (by omega) (by omega)
                subst ead
                rw [Int.toNat_natCast] at hc
                have hbit : rdOf false l1 (i : Int) = bit l1 i := by simp [rdOf, bit]
                rw [hbit] at hc
                by_cases hb : bit l1 i = true
                · rw [hb] at hc
                  have HX : Hid1 (phTo l1 l0.length (i + 1) = (phTo l1 l0.length i).set i 3) := ⟨by show (if bit l1 i = true then _ else _) = _; rw [if_pos hb]⟩
                  have hlenp : (phTo l1 l0.length i).length = l0.length := phTo_len _ _ _
                  obtain ⟨g, cap, ev, hgb, hglt, cells, hgc⟩ := Kd.R_form HT.out.p (by omega)
                  injection ev with ev1 ev2 ev3
                  subst ev1
                  obtain ⟨cdj, fdj⟩ := Kd.R_celln 0 HT.out.p (i : Int) (by omega) (by omega)
                  rw [Int.toNat_natCast] at cdj fdj
                  have hKg : K g := (HT.out.p.1 g rfl).1
                  have HT' := Aside0.mk (HT.out.putP i 3)
                  have HS' := Aside0.mk (HS.out.put_far hKg i (.int .i64 3))
                  have BR' := Aside0.mk (BR.out.setCell (p := ⟨g, i, none⟩) (HKE.out g hKg) (.int .i64 3))
                  clear hgc ev2 ev3 hlenp HT HS BR hb hbit
                  go_wp2
                  go_roundw
                  case rel => exact ⟨i + 1, by omega, by go_num, HS', ⟨by rw [HX.out]; exact HT'.out⟩, BR', ⟨fun k hk => Nat.lt_of_lt_of_le (HKB.out k hk) (size_set _ _ _)⟩⟩
                  case measure => simp [intOf]; omega
                · have hb := Bool.eq_false_iff.mpr hb
                  rw [hb] at hc
                  have HX : Hid1 (phTo l1 l0.length (i + 1) = phTo l1 l0.length i) := ⟨by show (if bit l1 i = true then _ else _) = _; rw [if_neg (by rw [hb]; decide)]⟩
                  clear hb hbit
                  go_wp2
                  go_roundw
                  case rel => exact ⟨i + 1, by omega, by go_num, HS, ⟨by rw [HX.out]; exact HT.out⟩, BR, HKB⟩
                  case measure => simp [intOf]; omega
              · have hil1 : ((i : Int) < (l1.length : Int)) = False := eq_false (by omega)
                have hil2 : decide ((i : Int) < (l1.length : Int)) = false := decide_eq_false (by omega)
                have HX : Hid1 (phTo l1 l0.length (i + 1) = phTo l1 l0.length i) := ⟨by
                  have : bit l1 i = false := by unfold bit; simp [List.getElem?_eq_none (Nat.le_of_not_lt hil)]
                  show (if bit l1 i = true then _ else _) = _; rw [if_neg (by rw [this]; decide)]⟩
                go_wp2
                go_roundw
                case rel => exact ⟨i + 1, by omega, by go_num, HS, ⟨by rw [HX.out]; exact HT.out⟩, BR, HKB⟩
                case measure => simp [intOf]; omega
            · obtain rfl : i = l0.length := by omega
              go_wp2
              go_loopw [14] (fun v14 w' => ∃ (i : Nat) (s : St) (ph who : List Int), i ≤ l2.length ∧ v14 = .int .i64 i ∧ Hid1 (Run s ph who ∧ Good s ∧ s.l = l0 ∧ s.made.length ≤ i) ∧ Aside0 (SchedAt w' w2.heap.size b s K) ∧ Aside0 (TwoRows w' w3.heap.size K (.slice Ap l0.length cp) (.slice Aw l0.length cw) ph who) ∧ Aside0 (Below w2.heap.size w2 w') ∧ Hid1 (∀ k, K k → k < w'.heap.size)) (fun v14 _ => l2.length - (intOf v14).toNat)
              case atStart => exact ⟨0, _, _, _, by omega, rfl, ⟨run_start l1, good_new HF.out (by omega) l1, rfl, Nat.zero_le _⟩, HS, HT, BR, HKB⟩
              case round =>
                clear HS HT BR HKB
                obtain ⟨i, s, ph, who, hi, rfl, HI, HS, HT, BR, HKB⟩ := hrel
                have hszr : w2.heap.size ≤ wr.heap.size := BR.out.size
                by_cases hlt : i < l2.length
                · have hi0 : (0 ≤ (i : Int)) = True := eq_true (by omega)
                  have hi1 : ((i : Int) < (l2.length : Int)) = True := eq_true (by omega)
                  obtain ⟨hrun, hg, hsl, hml⟩ := HI.out
                  have hmk : s.made.length ≤ 1000000 := by omega
                  obtain ⟨ad2, ead2, hx2⟩ := Kd.at_int HR2.out (i : Int) (by omega) (by omega)
                  subst ead2
                  rw [Int.toNat_natCast] at hx2
                  obtain ⟨x, hxE⟩ : ∃ x, x = rd l2 (i : Int) := ⟨_, rfl⟩
                  rw [← hxE] at hx2
                  clear hxE
                  have hst := once_step hg hrun x
                  have hg' := pick_good hg x
                  have hpl := pick_l s x
                  have hpk := pick_any b s w2.heap.size x w2 wr HS.out hg hmk BR.out hszr HKB.out
                  obtain ⟨s', a, p, hr⟩ : ∃ s' a p, pickOf s x = (s', a, p) := ⟨_, _, _, rfl⟩
                  rw [hr] at hst hg' hpl hpk
                  dsimp only at hst hg' hpl hpk
                  have hI' : s'.l = l0 ∧ s'.made.length ≤ i + 1 := ⟨by rw [hpl.1]; exact hsl, by omega⟩
                  have HPK := Aside0.mk hpk
                  have HX2 := Aside0.mk (pw_cell_below HB2.out hx2)
                  have hx20 := Hid1.mk hx2
                  clear hpk hpl hr hx2
                  by_cases ha : a < 0
                  · obtain ⟨ha1, hp0, hrun'⟩ := hst.none ha
                    subst ha1
                    subst hp0
                    have HI' : Hid1 (Run s' ph who ∧ Good s' ∧ s'.l = l0 ∧ s'.made.length ≤ i + 1) := ⟨hrun', hg', hI'⟩
                    have HXR := pw_cell_below BR.out HX2.out
                    clear hst hrun hg hsl hml hmk hg' hI' hrun' ha
                    go_wp2_with (go_at_call 26; refine HPK.out.mono ?_; rintro e w6 ⟨he, hs, hb, hsz⟩; subst he; have HS6 := Aside0.mk hs; have FR6 := Aside0.mk hb; clear hs hb)
                    go_roundw
                    case rel => exact ⟨i + 1, s', ph, who, by omega, by go_num, HI', HS6, ⟨HT.out.kept FR6.out.kept⟩, ⟨FR6.out.below⟩, ⟨fun k hk => FR6.out.kept.lt hk⟩⟩
                    case measure => simp [intOf]; omega
                  · obtain ⟨n, rfl⟩ : ∃ n : Nat, a = (n : Int) := ⟨a.toNat, by omega⟩
                    obtain ⟨h1, h2, h3, h4, h5, h6⟩ := hst.some (by omega)
                    rw [Int.toNat_natCast] at h6
                    rw [hsl] at h1 h5
                    have HI' : Hid1 (Run s' (ph.set n p) (who.set n x) ∧ Good s' ∧ s'.l = l0 ∧ s'.made.length ≤ i + 1) := ⟨h6, hg', hI'⟩
                    have HN5 := Hid1.mk h5
                    have hlp : ph.length = l0.length := by rw [hrun.lenP, hsl]
                    have hlw : who.length = l0.length := by rw [hrun.lenW, hsl]
                    clear hst hg hsl hml hmk hg' hI' h5 h6 hrun
                    obtain ⟨gp, cap, ev, hgb, _, _, _⟩ := Kd.R_form HT.out.p (by omega)
                    injection ev with ev1 ev2 ev3
                    subst ev1
                    obtain ⟨gw, capw, evw, hgbw, _, _, _⟩ := Kd.R_form HT.out.w (by omega)
                    injection evw with evw1 evw2 evw3
                    subst evw1
                    clear ev2 ev3 evw2 evw3
                    obtain ⟨q, hqE⟩ : ∃ q, q = rd ph (n : Int) := ⟨_, rfl⟩
                    rw [← hqE] at h2
                    obtain ⟨z, hzE⟩ : ∃ z, z = rd who (n : Int) := ⟨_, rfl⟩
                    rw [← hzE] at h3
                    have HQE := Hid1.mk (And.intro hqE hzE)
                    clear hqE hzE
                    have hn0 : (0 ≤ (n : Int)) = True := eq_true (by omega)
                    have hn1 : ((n : Int) < (l0.length : Int)) = True := eq_true h1
                    have hn2 : ((n : Int) < 0) = False := eq_false (by omega)
                    have hn2d : decide ((n : Int) < 0) = false := decide_eq_false (by omega)
                    have hn3d : decide ((l0.length : Int) ≤ (n : Int)) = false := decide_eq_false (by omega)
                    have hw : wrap64 (q + 1) = p := by rw [Pure.wrap_small (by omega) (by omega)]; exact h2.symm
                    have hpw : (p != wrap64 (q + 1)) = false := by rw [hw]; exact bne_self_eq_false p
                    have hpw2 : (p != IntKind.i64.wrap (q + 1)) = false := by rw [i64_w]; exact hpw
                    have hnN : decide (l0.length ≤ n) = false := decide_eq_false (by omega)
                    have hNL := few_need HF.out n
                    have HXR := pw_cell_below BR.out HX2.out
                    have hnl : n < l0.length := by omega
                    clear h1 h2
                    have hgt : ∃ gt : Bool, decide (1 < p) = gt ∧ (gt = true → z = x) := ⟨decide (1 < p), rfl, fun h => h3 (of_decide_eq_true h)⟩
                    obtain ⟨gt, hgt1, hgt2⟩ := hgt
                    have HST : Aside0 (∀ w', Kp K wr w' → TwoRows w' w3.heap.size K (.slice (some ⟨gp, 0, none⟩) l0.length cp) (.slice (some ⟨gw, 0, none⟩) l0.length cw) ph who) := ⟨fun w' hk => HT.out.kept hk⟩
                    clear h3 h4
                    cases gt with
                    | true =>
                      obtain rfl : z = x := hgt2 rfl
                      clear hgt2
                      go_wp2_with (go_at_call 26; refine HPK.out.mono ?_; rintro e w6 ⟨he, hs, hb, hsz⟩; subst he; have HS6 := Aside0.mk hs; have FR6 := Aside0.mk hb; have HT6 := Aside0.mk (HST.out w6 hb.kept); have cp6 : w6.cell? ⟨gp, n, none⟩ = some (.int .i64 q) := (by have := (Kd.R_celln 0 HT6.out.p (n : Int) (by omega) (by omega)).1; rw [Int.toNat_natCast] at this; rw [HQE.out.1]; exact this); have cw6 : w6.cell? ⟨gw, n, none⟩ = some (.int .i64 z) := (by have := (Kd.R_celln 0 HT6.out.w (n : Int) (by omega) (by omega)).1; rw [Int.toNat_natCast] at this; rw [HQE.out.2]; exact this); have HXR6 := pw_cell_below (below_step HB2.out hb.below) (by exact hx20.out); obtain ⟨ad, Aj, cj, ead, hx0, hx1, hlj, hj⟩ := at_T31 (Kd.C_below HR0.out (below_step HB2.out hb.below)) (n : Int) (by omega) (by omega); subst ead; rw [Int.toNat_natCast] at hx0 hx1; have HJ := Aside0.mk hj; clear hs hb hj hlj hx0)
                      go_quiet (fail)
                      obtain ⟨W, hW⟩ : ∃ W, W = w6.drewN nq := ⟨_, rfl⟩
                      have BW : Below w2.heap.size w2 W := by rw [hW]; exact pw_below_drewN FR6.out.below _
                      have KW : ∀ k, K k → k < W.heap.size := fun k hk => by rw [hW]; exact FR6.out.kept.lt hk
                      have SW : SchedAt W w2.heap.size b s' K := by rw [hW]; exact HS6.out.below (pw_below_drewN (Below.refl _ _) _)
                      have TW : TwoRows W w3.heap.size K (.slice (some ⟨gp, 0, none⟩) l0.length cp) (.slice (some ⟨gw, 0, none⟩) l0.length cw) ph who := by rw [hW]; exact HT6.out.kept (fun k hk => ⟨FR6.out.kept.lt hk, rfl⟩)
                      have xW : (w6.drewN nq).cell? _ = _ := HXR6
                      have jW : (w6.drewN nq).cell? _ = _ := hx1
                      have JW : Kd.C (Kd.int .i64) W Aj (rd_T31 l0 (n : Int)).f1.length (rd_T31 l0 (n : Int)).f1 := by rw [hW]; exact Kd.C_below HJ.out (pw_below_drewN (Below.refl _ _) _)
                      rw [← hW] at xW jW ⊢
                      have BW := Aside0.mk BW
                      have KW := Hid1.mk KW
                      have SW := Aside0.mk SW
                      have TW := Aside0.mk TW
                      have JW := Aside0.mk JW
                      clear hW cp6 cw6 HXR6 hx1 HJ HS6 FR6 HT6
                      go_wp2
                      go_loopw [17] (fun v17 w' => w' = W ∧ ∃ m : Nat, m ≤ (rd_T31 l0 (n : Int)).f1.length ∧ v17 = .int .i64 m) (fun v17 _ => (rd_T31 l0 (n : Int)).f1.length - (intOf v17).toNat)
                      case atStart => exact ⟨rfl, 0, by omega, rfl⟩
                      case round =>
                        obtain ⟨rfl, m, hm, rfl⟩ := hrel
                        by_cases hmt : m < (rd_T31 l0 (n : Int)).f1.length
                        · obtain ⟨x0, hx0E⟩ : ∃ x0, x0 = rd (rd_T31 l0 (n : Int)).f1 (m : Int) := ⟨_, rfl⟩
                          have h50 := HN5.out _ (rd_mem _ m hmt)
                          obtain ⟨an, ean, hcn⟩ := Kd.at_int JW.out (m : Int) (by omega) (by omega)
                          subst ean
                          rw [Int.toNat_natCast] at hcn
                          rw [← hx0E] at h50 hcn
                          clear hx0E
                          have hx00 : (0 ≤ x0) = True := eq_true h50.1
                          have hx01 : (x0 < (l0.length : Int)) = True := eq_true h50.2.1
                          have hc3 := (Kd.R_celln 0 TW.out.p x0 h50.1 h50.2.1).1
                          have hph3 : rdOf 0 ph x0 = 3 := h50.2.2
                          rw [hph3] at hc3
                          have hm0 : (0 ≤ (m : Int)) = True := eq_true (by omega)
                          have hm1 : ((m : Int) < ((rd_T31 l0 (n : Int)).f1.length : Int)) = True := eq_true (by omega)
                          clear h50 hph3
                          go_wp2
                          go_roundw
                          case rel => exact ⟨by first | rfl | trivial, m + 1, by omega, by go_num⟩
                          case measure => simp [intOf]; omega
                        · have hm1 : ((m : Int) < ((rd_T31 l0 (n : Int)).f1.length : Int)) = False := eq_false (by omega)
                          obtain ⟨sp1, sp2⟩ := Kd.R_celln 0 TW.out.p (n : Int) (by omega) (by omega)
                          rw [Int.toNat_natCast] at sp1 sp2
                          have hKp : K gp := (TW.out.p.1 gp rfl).1
                          have hKw : K gw := (TW.out.w.1 gw rfl).1
                          have T1 := TW.out.putP n p
                          have T2 := T1.putW n z
                          obtain ⟨sw1, sw2⟩ := Kd.R_celln 0 T1.w (n : Int) (by omega) (by omega)
                          rw [Int.toNat_natCast] at sw1 sw2
                          have B1 := BW.out.setCell (p := ⟨gp, n, none⟩) (HKE.out gp hKp) (.int .i64 p)
                          have B2 := Aside0.mk (B1.setCell (p := ⟨gw, n, none⟩) (HKE.out gw hKw) (.int .i64 z))
                          have xx := pw_cell_below B1 HX2.out
                          have S2 := Aside0.mk ((SW.out.put_far hKp n (.int .i64 p)).put_far hKw n (.int .i64 z))
                          have T2 := Aside0.mk T2
                          have K2 := Hid1.mk (fun k hk => Nat.lt_of_lt_of_le (KW.out k hk) (Nat.le_trans (size_set _ ⟨gp, n, none⟩ (.int .i64 p)) (size_set _ ⟨gw, n, none⟩ (.int .i64 z))))
                          clear T1 B1
                          go_wp2
                          go_roundw
                          case rel => exact ⟨i + 1, s', ph.set n p, who.set n z, by omega, by go_num, HI', S2, T2, B2, K2⟩
                          case measure => simp [intOf]; omega
                    | false =>
                      clear hgt2
                      go_wp2_with (go_at_call 26; refine HPK.out.mono ?_; rintro e w6 ⟨he, hs, hb, hsz⟩; subst he; have HS6 := Aside0.mk hs; have FR6 := Aside0.mk hb; have HT6 := Aside0.mk (HST.out w6 hb.kept); have cp6 : w6.cell? ⟨gp, n, none⟩ = some (.int .i64 q) := (by have := (Kd.R_celln 0 HT6.out.p (n : Int) (by omega) (by omega)).1; rw [Int.toNat_natCast] at this; rw [HQE.out.1]; exact this); have cw6 : w6.cell? ⟨gw, n, none⟩ = some (.int .i64 z) := (by have := (Kd.R_celln 0 HT6.out.w (n : Int) (by omega) (by omega)).1; rw [Int.toNat_natCast] at this; rw [HQE.out.2]; exact this); have HXR6 := pw_cell_below (below_step HB2.out hb.below) (by exact hx20.out); obtain ⟨ad, Aj, cj, ead, hx0, hx1, hlj, hj⟩ := at_T31 (Kd.C_below HR0.out (below_step HB2.out hb.below)) (n : Int) (by omega) (by omega); subst ead; rw [Int.toNat_natCast] at hx0 hx1; have HJ := Aside0.mk hj; clear hs hb hj hlj hx0)
                      go_quiet (fail)
                      obtain ⟨W, hW⟩ : ∃ W, W = w6.drewN nq := ⟨_, rfl⟩
                      have BW : Below w2.heap.size w2 W := by rw [hW]; exact pw_below_drewN FR6.out.below _
                      have KW : ∀ k, K k → k < W.heap.size := fun k hk => by rw [hW]; exact FR6.out.kept.lt hk
                      have SW : SchedAt W w2.heap.size b s' K := by rw [hW]; exact HS6.out.below (pw_below_drewN (Below.refl _ _) _)
                      have TW : TwoRows W w3.heap.size K (.slice (some ⟨gp, 0, none⟩) l0.length cp) (.slice (some ⟨gw, 0, none⟩) l0.length cw) ph who := by rw [hW]; exact HT6.out.kept (fun k hk => ⟨FR6.out.kept.lt hk, rfl⟩)
                      have xW : (w6.drewN nq).cell? _ = _ := HXR6
                      have jW : (w6.drewN nq).cell? _ = _ := hx1
                      have JW : Kd.C (Kd.int .i64) W Aj (rd_T31 l0 (n : Int)).f1.length (rd_T31 l0 (n : Int)).f1 := by rw [hW]; exact Kd.C_below HJ.out (pw_below_drewN (Below.refl _ _) _)
                      rw [← hW] at xW jW ⊢
                      have BW := Aside0.mk BW
                      have KW := Hid1.mk KW
                      have SW := Aside0.mk SW
                      have TW := Aside0.mk TW
                      have JW := Aside0.mk JW
                      clear hW cp6 cw6 HXR6 hx1 HJ HS6 FR6 HT6
                      go_wp2
                      go_loopw [17] (fun v17 w' => w' = W ∧ ∃ m : Nat, m ≤ (rd_T31 l0 (n : Int)).f1.length ∧ v17 = .int .i64 m) (fun v17 _ => (rd_T31 l0 (n : Int)).f1.length - (intOf v17).toNat)
                      case atStart => exact ⟨rfl, 0, by omega, rfl⟩
                      case round =>
                        obtain ⟨rfl, m, hm, rfl⟩ := hrel
                        by_cases hmt : m < (rd_T31 l0 (n : Int)).f1.length
                        · obtain ⟨x0, hx0E⟩ : ∃ x0, x0 = rd (rd_T31 l0 (n : Int)).f1 (m : Int) := ⟨_, rfl⟩
                          have h50 := HN5.out _ (rd_mem _ m hmt)
                          obtain ⟨an, ean, hcn⟩ := Kd.at_int JW.out (m : Int) (by omega) (by omega)
                          subst ean
                          rw [Int.toNat_natCast] at hcn
                          rw [← hx0E] at h50 hcn
                          clear hx0E
                          have hx00 : (0 ≤ x0) = True := eq_true h50.1
                          have hx01 : (x0 < (l0.length : Int)) = True := eq_true h50.2.1
                          have hc3 := (Kd.R_celln 0 TW.out.p x0 h50.1 h50.2.1).1
                          have hph3 : rdOf 0 ph x0 = 3 := h50.2.2
                          rw [hph3] at hc3
                          have hm0 : (0 ≤ (m : Int)) = True := eq_true (by omega)
                          have hm1 : ((m : Int) < ((rd_T31 l0 (n : Int)).f1.length : Int)) = True := eq_true (by omega)
                          clear h50 hph3
                          go_wp2
                          go_roundw
                          case rel => exact ⟨by first | rfl | trivial, m + 1, by omega, by go_num⟩
                          case measure => simp [intOf]; omega
                        · have hm1 : ((m : Int) < ((rd_T31 l0 (n : Int)).f1.length : Int)) = False := eq_false (by omega)
                          obtain ⟨sp1, sp2⟩ := Kd.R_celln 0 TW.out.p (n : Int) (by omega) (by omega)
                          rw [Int.toNat_natCast] at sp1 sp2
                          have hKp : K gp := (TW.out.p.1 gp rfl).1
                          have hKw : K gw := (TW.out.w.1 gw rfl).1
                          have T1 := TW.out.putP n p
                          have T2 := T1.putW n x
                          obtain ⟨sw1, sw2⟩ := Kd.R_celln 0 T1.w (n : Int) (by omega) (by omega)
                          rw [Int.toNat_natCast] at sw1 sw2
                          have B1 := BW.out.setCell (p := ⟨gp, n, none⟩) (HKE.out gp hKp) (.int .i64 p)
                          have B2 := Aside0.mk (B1.setCell (p := ⟨gw, n, none⟩) (HKE.out gw hKw) (.int .i64 x))
                          have xx := pw_cell_below B1 HX2.out
                          have S2 := Aside0.mk ((SW.out.put_far hKp n (.int .i64 p)).put_far hKw n (.int .i64 x))
                          have T2 := Aside0.mk T2
                          have K2 := Hid1.mk (fun k hk => Nat.lt_of_lt_of_le (KW.out k hk) (Nat.le_trans (size_set _ ⟨gp, n, none⟩ (.int .i64 p)) (size_set _ ⟨gw, n, none⟩ (.int .i64 x))))
                          clear T1 B1
                          go_wp2
                          go_roundw
                          case rel => exact ⟨i + 1, s', ph.set n p, who.set n x, by omega, by go_num, HI', S2, T2, B2, K2⟩
                          case measure => simp [intOf]; omega
                · obtain rfl : i = l2.length := by omega
                  go_wp2
                  go_ret
                  exact ⟨rfl, below_step HB2.out BR.out⟩
        · have HN := fun w hC hD => new_bad (w := w) (A0 := A0) (c0 := c0) (x := 4) (A1 := A1) (c1 := c1) (d0 := l1) hC hc0 hD HF.out hz
          obtain ⟨n0, hn0⟩ : ∃ n0, n0 = newErr l0 4 := ⟨_, rfl⟩
          rw [← hn0] at hz HN
          have HNN := Aside0.mk HN
          clear HN hn0
          have hzb : (n0 != 0) = true := bne_iff_ne.mpr hz
          have hzf : (n0 = 0) = False := eq_false hz
          go_enter Try.func10, Try.ntmps10
          go_wp2_with (first
            | (go_at_call 24; refine (awake_any w).mono ?_; rintro e w1 ⟨rfl, hb⟩; have HB1 := Aside0.mk hb; clear hb)
            | (go_at_call 15; refine (carlingref21_Light.calls k A0 c0 l0 true w1 (Kd.C_below HR0.out HB1.out) hc0 HK.out).mono ?_; rintro e w2 ⟨rfl, hd⟩; have HB2 := Aside0.mk (below_step HB1.out hd.below); clear hd)
            | (go_at_call 25; refine (HNN.out _ (Kd.C_below HR0.out HB2.out) (Kd.C_below HR1.out HB2.out)).mono ?_; rintro e w3 ⟨he, hb⟩; subst he; have HB3 := Aside0.mk (below_step HB2.out hb); clear hb))
          go_ret
          exact ⟨rfl, HB3.out⟩
end Go.Proofs.Ytgjlgdohlmpnbaa.P
