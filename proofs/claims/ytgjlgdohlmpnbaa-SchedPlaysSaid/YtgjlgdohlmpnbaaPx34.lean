/- The walk of SchedPlays: whatever the jobs, the crew and the picks, it returns true. Conditions: none beyond what is read. -/
import Derived.Test.YtgjlgdohlmpnbaaB9
import Derived.Test.YtgjlgdohlmpnbaaB2
import Derived.Test.YtgjlgdohlmpnbaaPx3
namespace Go.Proofs.Ytgjlgdohlmpnbaa.P
set_option linter.unusedVariables false
set_option linter.unusedSimpArgs false
open Go.RowKit Go.Proofs.YtgjlgdohlmpnbaaW.PrintWords Go.Proofs.YtgjlgdohlmpnbaaW.PrintLast Go.Proofs.YtgjlgdohlmpnbaaW.PrintMore
open Go.Proofs.Ytgjlgdohlmpnbaa.Pure (Ends light_ends same_ends order_ends ready_ends)

theorem RefOf.lower {w : World} {base base' b : Nat} {s : Rs} {K : Nat → Prop} {A0 : Option Addr} {c0 : Nat} {vd vw vp vm : Value} (h : RefOf w base b s K A0 c0 vd vw vp vm) (hb : base' ≤ base) : RefOf w base' b s (fun k => K k ∨ k < base) A0 c0 vd vw vp vm :=
  ⟨fun h2 => h2.elim h.nb (fun h3 => by have := h.low; omega), h.blk, Nat.le_trans hb h.low,
    Kd.R_lower (Kd.R_mono (Kd.R_bound h.rd) (fun k hk => fun h2 => h2.elim hk.1 (fun h3 => by have := hk.2.1; omega))) hb,
    Kd.R_lower (Kd.R_mono (Kd.R_bound h.rw) (fun k hk => ⟨hk.1.1, hk.1.2.1, fun h2 => h2.elim hk.1.2.2 (fun h3 => by have := hk.2.1; omega)⟩)) hb,
    Kd.R_lower (Kd.R_mono (Kd.R_bound h.rp) (fun k hk => ⟨hk.1.1, hk.1.2.1, fun h2 => h2.elim hk.1.2.2 (fun h3 => by have := hk.2.1; omega)⟩)) hb,
    Kd.R_lower (Kd.R_mono (Kd.R_bound h.rm) (fun k hk => ⟨hk.1.1, hk.1.2.1, fun h2 => h2.elim hk.1.2.2 (fun h3 => by have := hk.2.1; omega)⟩)) hb⟩
theorem RefAt.lower {w : World} {base base' b : Nat} {s : Rs} {K : Nat → Prop} {A0 : Option Addr} {c0 : Nat} (h : RefAt w base b s K A0 c0) (hb : base' ≤ base) : RefAt w base' b s (fun k => K k ∨ k < base) A0 c0 := by
  obtain ⟨vd, vw, vp, vm, h⟩ := h; exact ⟨vd, vw, vp, vm, h.lower hb⟩
theorem RefAt.below {w w1 : World} {base b : Nat} {s : Rs} {K : Nat → Prop} {A0 : Option Addr} {c0 : Nat} (h : RefAt w base b s K A0 c0) (hb : Below w.heap.size w w1) : RefAt w1 base b s K A0 c0 := by
  obtain ⟨vd, vw, vp, vm, h⟩ := h; exact ⟨vd, vw, vp, vm, h.below hb⟩
theorem RefAt.less {w : World} {base b : Nat} {s : Rs} {K K' : Nat → Prop} {A0 : Option Addr} {c0 : Nat} (h : RefAt w base b s K A0 c0) (hs : ∀ k, K' k → K k) : RefAt w base b s K' A0 c0 := by
  obtain ⟨vd, vw, vp, vm, h⟩ := h; exact ⟨vd, vw, vp, vm, h.less hs⟩
theorem RefAt.more {w : World} {base b : Nat} {s : Rs} {K : Nat → Prop} {A0 : Option Addr} {c0 : Nat} (h : RefAt w base b s K A0 c0) : RefAt w base b s (fun k => K k ∨ w.heap.size ≤ k) A0 c0 := by
  obtain ⟨vd, vw, vp, vm, h⟩ := h; exact ⟨vd, vw, vp, vm, h.more⟩
theorem RefAt.other {w w1 : World} {base b : Nat} {s : Rs} {K : Nat → Prop} {A0 : Option Addr} {c0 : Nat} (h : RefAt w base b s K A0 c0) (hm : ∀ k, ¬ K k → k < w.heap.size → w1.heap[k]? = w.heap[k]?) : RefAt w1 base b s K A0 c0 := by
  obtain ⟨vd, vw, vp, vm, h⟩ := h; exact ⟨vd, vw, vp, vm, h.other hm⟩
theorem rgood_of {s : St} {r : Rs} (hg : Good s) (h : AlikeS s r) : RGood r := ⟨by rw [h.jobs]; exact hg.few, by rw [h.done, h.jobs]; exact hg.done, by rw [h.jobs]; exact h.lenW, by rw [h.jobs]; exact h.lenP⟩
def carlinglaw22_SchedPlays.f (_ : List S31) (_ : Int) (_ : List Bool) (_ : List Int) : Option Bool := some true
set_option maxHeartbeats 8000000 in
set_option maxRecDepth 100000 in
theorem carlinglaw22_SchedPlays.calls (A0 : Option Addr) (c0 : Nat) (l0 : List (S31)) (a1 : Int) (A1 : Option Addr) (c1 : Nat) (l1 : List Bool) (A2 : Option Addr) (c2 : Nat) (l2 : List Int) (r : Bool) (w : World) (hr0 : Kd.C k31 w A0 l0.length l0) (hc0 : l0.length ≤ c0) (hr1 : Kd.C Kd.bool w A1 l1.length l1) (hc1 : l1.length ≤ c1) (hr2 : Kd.C (Kd.int .i64) w A2 l2.length l2) (hc2 : l2.length ≤ c2) (h : carlinglaw22_SchedPlays.f l0 a1 l1 l2 = some r) :
    Calls Try.prog 11 #[.slice A0 l0.length c0, .agg #[.int .i64 a1, .slice A1 l1.length c1], .slice A2 l2.length c2] w fun e w' => e = .returned (.bool r) ∧ Below w.heap.size w w' := by
  obtain rfl : true = r := Option.some.inj h
  clear h
  obtain ⟨b, e1, e2⟩ := light_ends l0
  obtain ⟨k, hk⟩ := e1.get
  have HR0 := Aside0.mk hr0
  have HR1 := Aside0.mk hr1
  have HR2 := Aside0.mk hr2
  have HK := Hid1.mk hk
  have hx0 := Aside0.mk (blk_new w (.cells #[.int .i64 a1, .slice A1 l1.length c1] 49))
  clear e1 hk hr0 hr1 hr2
  cases b with
  | false =>
    clear e2
    go_enter Try.func11, Try.ntmps11
    go_wp2_with (first | (go_at_call 24; refine (awake_any _).mono ?_; rintro e w1 ⟨rfl, hb⟩; have HX1 := Aside0.mk (blk_below hx0.out hb); have HB1 := Aside0.mk (below_step (below_alloc (Below.refl _ _) _) hb); clear hb) | (go_at_call 15; refine (carlingref21_Light.calls k A0 c0 l0 false w1 (Kd.C_below HR0.out HB1.out) hc0 HK.out).mono ?_; rintro e w2 ⟨rfl, hd⟩; have HB2 := Aside0.mk (below_step HB1.out hd.below); have HX2 := Aside0.mk (blk_below HX1.out hd.below); have x20 : w2.cell? ⟨w.heap.size, 0, none⟩ = some (.int .i64 a1) := (blk_cell HX2.out 0).trans rfl; have x21 : w2.cell? ⟨w.heap.size, 1, none⟩ = some (.slice A1 l1.length c1) := (blk_cell HX2.out 1).trans rfl; clear hd))
    go_ret
    exact ⟨rfl, HB2.out⟩
  | true =>
    obtain ⟨hf, hl⟩ := e2 rfl
    clear e2
    obtain ⟨ko, hko⟩ := (order_ends l0 hf).get
    have HKO := Hid1.mk hko
    have HF := Hid1.mk hf
    clear hf hko
    by_cases hdn : (l1.length : Int) > 200
    · have hdd : decide ((200 : Int) < (l1.length : Int)) = true := decide_eq_true hdn
      go_enter Try.func11, Try.ntmps11
      go_wp2_with (first | (go_at_call 24; refine (awake_any _).mono ?_; rintro e w1 ⟨rfl, hb⟩; have HX1 := Aside0.mk (blk_below hx0.out hb); have HB1 := Aside0.mk (below_step (below_alloc (Below.refl _ _) _) hb); clear hb) | (go_at_call 15; refine (carlingref21_Light.calls k A0 c0 l0 true w1 (Kd.C_below HR0.out HB1.out) hc0 HK.out).mono ?_; rintro e w2 ⟨rfl, hd⟩; have HB2 := Aside0.mk (below_step HB1.out hd.below); have HX2 := Aside0.mk (blk_below HX1.out hd.below); have x20 : w2.cell? ⟨w.heap.size, 0, none⟩ = some (.int .i64 a1) := (blk_cell HX2.out 0).trans rfl; have x21 : w2.cell? ⟨w.heap.size, 1, none⟩ = some (.slice A1 l1.length c1) := (blk_cell HX2.out 1).trans rfl; clear hd))
      go_ret
      exact ⟨rfl, HB2.out⟩
    · have hdd : decide ((200 : Int) < (l1.length : Int)) = false := decide_eq_false hdn
      by_cases hz : newErr l0 a1 = 0
      · have HN := Aside0.mk (fun w hC hD => new_ok (w := w) (A0 := A0) (c0 := c0) (x := a1) (A1 := A1) (c1 := c1) (d0 := l1) hC hc0 hD HF.out hz)
        have HRN : Aside0 (∀ w, Kd.C k31 w A0 l0.length l0 → Kd.C Kd.bool w A1 l1.length l1 → Calls Try.prog 27 #[.slice A0 l0.length c0, .int .i64 a1, .slice A1 l1.length c1] w fun e w' => ∃ b, e = .returned (.tuple #[.pointer (some ⟨b, 0, none⟩), .int .i64 0]) ∧ RefAt w' w.heap.size b (refTo l0 a1 l1 l0.length) (fun _ => False) A0 c0 ∧ Below w.heap.size w w') := ⟨fun w hC hD => by
          refine (rnew_any A0 c0 l0 a1 A1 c1 l1 w hC hc0 hD HF.out.1 ko HKO.out).mono ?_
          rintro e w' ⟨hb, (⟨hne, he⟩ | ⟨_, b, he, hs⟩)⟩
          · exact absurd hz hne
          · exact ⟨b, he, hs, hb⟩⟩
        have hx16 : a1 ≤ 16 := by
          unfold newErr at hz
          by_cases he : (orderOf l0).2 ≠ 0
          · rw [if_pos he] at hz; exact absurd hz he
          · rw [if_neg he] at hz
            by_cases h : a1 < 1 ∨ 16 < a1
            · rw [if_pos h] at hz; cases hz
            · omega
        have HG0 := Hid1.mk (good_new HF.out hx16 l1)
        clear hz hx16
        go_enter Try.func11, Try.ntmps11
        go_wp2_with (first
          | (go_at_call 24; refine (awake_any _).mono ?_; rintro e w1 ⟨rfl, hb⟩; have HX1 := Aside0.mk (blk_below hx0.out hb); have HB1 := Aside0.mk (below_step (below_alloc (Below.refl _ _) _) hb); clear hb)
          | (go_at_call 15; refine (carlingref21_Light.calls k A0 c0 l0 true w1 (Kd.C_below HR0.out HB1.out) hc0 HK.out).mono ?_; rintro e w2 ⟨rfl, hd⟩; have HB2 := Aside0.mk (below_step HB1.out hd.below); have HX2 := Aside0.mk (blk_below HX1.out hd.below); have x20 : w2.cell? ⟨w.heap.size, 0, none⟩ = some (.int .i64 a1) := (blk_cell HX2.out 0).trans rfl; have x21 : w2.cell? ⟨w.heap.size, 1, none⟩ = some (.slice A1 l1.length c1) := (blk_cell HX2.out 1).trans rfl; clear hd)
          | (go_at_call 25; refine (HN.out _ (Kd.C_below HR0.out HB2.out) (Kd.C_below HR1.out HB2.out)).mono ?_; rintro e w3 ⟨bs, he, hs, hb⟩; subst he; have HB3 := Aside0.mk (below_step HB2.out hb); have HB23 := Aside0.mk hb; have HS3 := Aside0.mk hs; have HX3 := Aside0.mk (blk_below HX2.out hb); have x30 : w3.cell? ⟨w.heap.size, 0, none⟩ = some (.int .i64 a1) := (blk_cell HX3.out 0).trans rfl; have x31 : w3.cell? ⟨w.heap.size, 1, none⟩ = some (.slice A1 l1.length c1) := (blk_cell HX3.out 1).trans rfl; clear hs hb)
          | (go_at_call 27; refine (HRN.out _ (Kd.C_below HR0.out HB3.out) (Kd.C_below HR1.out HB3.out)).mono ?_; rintro e w4 ⟨br, he, hs, hb⟩; subst he; have HB34 := Aside0.mk hb; have HS4 := Aside0.mk hs; clear hs hb))
        have hs23 := below_size HB23.out
        have hs34 := below_size HB34.out
        obtain ⟨K, hKE⟩ : ∃ K : Nat → Prop, K = (fun k => w3.heap.size ≤ k ∧ k < w4.heap.size) := ⟨_, rfl⟩
        have HA4 : Aside0 (SchedAt w4 w2.heap.size bs (newSt l0 a1 l1) K) := ⟨(HS3.out.more.less (K' := K) (fun k hk => .inr (by rw [hKE] at hk; exact hk.1))).below HB34.out⟩
        have HC4 : Aside0 (RefAt w4 w2.heap.size br (refTo l0 a1 l1 l0.length) (fun k => ¬ K k ∧ k < w4.heap.size) A0 c0) := ⟨(HS4.out.lower hs23).less (fun k hk => .inr (by rw [hKE] at hk; omega))⟩
        have HKB : Hid1 (∀ k, K k → k < w4.heap.size) := ⟨fun k hk => by rw [hKE] at hk; exact hk.2⟩
        have HB24 : Aside0 (Below w2.heap.size w2 w4) := ⟨HB23.out.trans (HB34.out.mono hs23)⟩
        clear hKE HS3 HS4 HB23 HB34 hs23 hs34 HX3 x30 x31 HX2 x20 x21 HX1 HB3
        go_loopw [13] (fun v13 w' => ∃ (i : Nat) (s : St) (q : Rs) (K : Nat → Prop), (i ≤ l2.length ∧ i ≤ 300) ∧ v13 = .int .i64 i ∧ Hid1 (Good s ∧ AlikeS s q ∧ s.l = l0 ∧ s.made.length ≤ i) ∧ Aside0 (SchedAt w' w2.heap.size bs s K) ∧ Aside0 (RefAt w' w2.heap.size br q (fun k => ¬ K k ∧ k < w'.heap.size) A0 c0) ∧ Hid1 (∀ k, K k → k < w'.heap.size) ∧ Aside0 (Below w2.heap.size w2 w')) (fun v13 _ => 300 - (intOf v13).toNat)
        case atStart => exact ⟨0, _, _, K, ⟨by omega, by omega⟩, rfl, ⟨HG0.out, alike_new l0 a1 l1, rfl, Nat.zero_le _⟩, HA4, HC4, HKB, HB24⟩
        case round =>
          clear HA4 HC4 HKB HB24
          obtain ⟨i, s, q, K, ⟨hi, hi3⟩, rfl, HI, HS, HQ, HKB, BR⟩ := hrel
          have hszr : w2.heap.size ≤ wr.heap.size := BR.out.size
          by_cases hlt : i < l2.length
          · by_cases h3 : i < 300
            · have hi0 : (0 ≤ (i : Int)) = True := eq_true (by omega)
              have hi1 : decide (i < l2.length) = true := decide_eq_true hlt
              have hi1I : ((i : Int) < (l2.length : Int)) = True := eq_true (by omega)
              have hi2 : decide ((i : Int) < 300) = true := decide_eq_true (by omega)
              have hi2I : ((i : Int) < 300) = True := eq_true (by omega)
              obtain ⟨hg, hal, hsl, hml⟩ := HI.out
              have hmk : s.made.length ≤ 1000000 := by omega
              obtain ⟨ad2, ead2, hx2⟩ := Kd.at_int HR2.out (i : Int) (by omega) (by omega)
              subst ead2
              rw [Int.toNat_natCast] at hx2
              obtain ⟨x, hxE⟩ : ∃ x, x = rd l2 (i : Int) := ⟨_, rfl⟩
              rw [← hxE] at hx2
              clear hxE
              have HX2 := Aside0.mk (pw_cell_below HB2.out hx2)
              have hg' := pick_good hg x
              have hpl := pick_l s x
              have hst := alike_step hg hal x
              have hpk := pick_any bs s w2.heap.size x w2 wr HS.out hg hmk BR.out hszr HKB.out
              obtain ⟨k2, hk2⟩ := (ready_ends q.l q.done (by rw [hal.jobs, hsl]; exact HF.out)).get
              have hqm : q.made.length ≤ 1000000 := by rw [hal.made]; exact hmk
              have hrp := fun (W : World) (K2 : Nat → Prop) (h : RefAt W w2.heap.size br q K2 A0 c0) (hB : Below w2.heap.size w2 W) (hK2 : ∀ k, K2 k → k < W.heap.size) => rpick_any br q x w2 W h (rgood_of hg hal) hqm (by rw [hal.jobs, hsl]; exact Kd.C_below HR0.out HB2.out) (by rw [hal.jobs, hsl]; exact hc0) hB hK2 k2 hk2
              obtain ⟨s', a, p, hr⟩ : ∃ s' a p, pickOf s x = (s', a, p) := ⟨_, _, _, rfl⟩
              obtain ⟨q', hq'⟩ : ∃ q', q' = (refPick q x).1 := ⟨_, rfl⟩
              rw [hr] at hst hg' hpl hpk
              dsimp only at hst hg' hpl hpk
              rw [hst.1, ← hq'] at hrp
              rw [← hq'] at hst
              dsimp only at hrp
              have hsl' : s'.l = l0 := by rw [hpl.1]; exact hsl
              have hml' : s'.made.length ≤ i + 1 := by omega
              have HI' : Hid1 (Good s' ∧ AlikeS s' q' ∧ s'.l = l0 ∧ s'.made.length ≤ i + 1) := ⟨hg', hst.2, hsl', hml'⟩
              have HML : Hid1 (s'.made.length ≤ 1000000) := ⟨by omega⟩
              have HDL : Hid1 (s'.done.length ≤ 1000000) := ⟨by rw [hg'.done]; exact hg'.few⟩
              obtain ⟨k3, hk3⟩ := (same_ends s'.made (by omega)).get
              have HK3 := Hid1.mk hk3
              have HPK := Aside0.mk hpk
              have HRP := Aside0.mk hrp
              have hqm' : q'.made = s'.made := hst.2.made
              have hqd' : q'.done = s'.done := hst.2.done
              have hqs' : q'.steps = s'.steps := hst.2.steps
              have HQE := Hid1.mk (And.intro hqm' (And.intro hqd' hqs'))
              have HXR := pw_cell_below BR.out HX2.out
              clear hg hal hsl hml hmk hg' hpl hst hpk hk2 hqm hrp hr hq' hsl' hml' hk3 hqm' hqd' hqs' hx2
              go_wp2_with (first
                | (go_at_call 26; refine HPK.out.mono ?_; rintro e w6 ⟨he, hs, hb, hsz⟩; subst he; have HS6 := Aside0.mk hs; have FR6 := Aside0.mk hb; have hB6 := hb.below; have hR6 : RefAt w6 w2.heap.size br q (fun k => ¬ K k ∧ k < w6.heap.size) A0 c0 := ((HQ.out.more.other (w1 := w6) (fun k hk hlt => (FR6.out.kept k (by by_cases hKk : K k; exact hKk; exact absurd (Or.inl ⟨hKk, hlt⟩) hk)).2)).less (fun k hk => by by_cases h5 : k < wr.heap.size; exact .inl ⟨hk.1, h5⟩; exact .inr (by omega))); have HQ6 := Aside0.mk hR6; have HXR6 := pw_cell_below hB6 HX2.out; clear hs hb hR6 hB6)
                | (go_at_call 28; refine (HRP.out w6 _ HQ6.out FR6.out.below (fun k hk => hk.2)).mono ?_; rintro e w7 ⟨he, hs, hb⟩; subst he; have HQ7 := Aside0.mk hs; have FR7 := Aside0.mk hb; clear hs hb))
              have HS7 : Aside0 (SchedAt w7 w2.heap.size bs s' (fun k => (K k ∨ w6.heap.size ≤ k) ∧ k < w7.heap.size)) := ⟨(HS6.out.more.other (fun k hk hlt => (FR7.out.kept k ⟨fun h => hk (.inl h), hlt⟩).2)).less (fun k hk => hk.1)⟩
              have HR7 : Aside0 (RefAt w7 w2.heap.size br q' (fun k => ¬ ((K k ∨ w6.heap.size ≤ k) ∧ k < w7.heap.size) ∧ k < w7.heap.size) A0 c0) := ⟨HQ7.out.less (fun k hk => ⟨fun h => hk.1 ⟨.inl h, hk.2⟩, by
                by_cases h5 : k < w6.heap.size
                · exact h5
                · exact absurd ⟨.inr (by omega), hk.2⟩ hk.1⟩)⟩
              have HB7 : Aside0 (Below w2.heap.size w2 w7) := ⟨FR7.out.below⟩
              obtain ⟨K', hK'⟩ : ∃ K' : Nat → Prop, K' = (fun k => (K k ∨ w6.heap.size ≤ k) ∧ k < w7.heap.size) := ⟨_, rfl⟩
              have HKB7 : Hid1 (∀ k, K' k → k < w7.heap.size) := ⟨fun k hk => by rw [hK'] at hk; exact hk.2⟩
              have hR7e : (fun k => ¬ ((K k ∨ w6.heap.size ≤ k) ∧ k < w7.heap.size) ∧ k < w7.heap.size) = (fun k => ¬ K' k ∧ k < w7.heap.size) := by rw [hK']
              rw [← hK'] at HS7
              rw [hR7e] at HR7
              clear hK' hR7e HS6 HQ6 HQ7 FR6 FR7 HXR HXR6 HPK HRP HKB HQ HS
              obtain ⟨vd, vw, vp, vm, hR⟩ := HR7.out
              obtain ⟨Am, cm, evm⟩ := Kd.R_slice hR.rm
              rw [HQE.out.1] at evm
              subst evm
              have SD := Aside0.mk (HS7.out.below (below_drew1 (Below.refl w7.heap.size w7)))
              have RD := Aside0.mk (hR.below (below_drew1 (Below.refl w7.heap.size w7)))
              have SZ : Hid1 (w2.heap.size ≤ w7.drew.heap.size) := ⟨HB7.out.size⟩
              have k6 : w7.drew.cell? ⟨br, 6, none⟩ = some (.slice Am s'.made.length cm) := (blk_cell RD.out.blk 6).trans rfl
              have hd7 : Below w7.heap.size w7 w7.drew := below_drew1 (Below.refl w7.heap.size w7)
              have RM8 : ∀ {W : World} {K9 : Nat → Prop}, RefOf W w2.heap.size br q' K9 A0 c0 vd vw vp (.slice Am s'.made.length cm) → s'.made.length ≤ cm ∧ Kd.C (Kd.int .i64) W Am s'.made.length s'.made := fun {W} {K9} h => by
                have := Kd.R_reads' h.rm
                rw [HQE.out.1] at this
                exact this.2
              have RM8 := @RM8
              clear hR
              have HD7 := Aside0.mk hd7
              clear hd7
              refine start_ (n := 8) (S := fun w' => w'.cell? ⟨br, 6, none⟩ = some (.slice Am s'.made.length cm)) (ds := []) #[false, false, false, false, false, false, false, false] (by kernel_rfl) rfl rfl k6 (fun hHeld => ?_)
              generalize w7.drew = wd at SD RD SZ k6 HD7 hHeld ⊢
              refine pure_ (i := 0) (N := some 91) (v := ?_) (a' := ?_) #[true, false, false, false, false, false, false, false] rfl rfl (by kernel_rfl) (fun _ _ _ h => h) (Or.inl ⟨by rfl, ?_⟩) ?_ ?_
              rotate_left
              · intro w'
                go_simp
                first | done | with_reducible rfl
              rotate_left
              · simp only [Act.put, List.setIfInBounds_toArray, List.set_cons_zero, List.set_cons_succ, i64_w, i32_w]
                rfl
              refine pure_ (i := 2) (N := some 93) (v := ?_) (a' := ?_) #[true, false, true, false, false, false, false, false] rfl rfl (by kernel_rfl) (fun _ _ _ h => h) (Or.inl ⟨by rfl, ?_⟩) ?_ ?_
              rotate_left
              · intro w'
                go_simp
                first | done | with_reducible rfl
              rotate_left
              · simp only [Act.put, List.setIfInBounds_toArray, List.set_cons_zero, List.set_cons_succ, i64_w, i32_w]
                rfl
              refine pure_ (i := 3) (N := some 94) (v := ?_) (a' := ?_) #[true, false, true, true, false, false, false, false] rfl rfl (by kernel_rfl) (fun _ _ _ h => h) (Or.inl ⟨by rfl, ?_⟩) ?_ ?_
              rotate_left
              · intro w'
                go_simp
                first | done | with_reducible rfl
              rotate_left
              · simp only [Act.put, List.setIfInBounds_toArray, List.set_cons_zero, List.set_cons_succ, i64_w, i32_w]
                rfl
              refine pure_ (i := 4) (N := some 95) (v := ?_) (a' := ?_) #[true, false, true, true, true, false, false, false] rfl rfl (by kernel_rfl) (fun _ _ _ h => h) (Or.inl ⟨by rfl, ?_⟩) ?_ ?_
              rotate_left
              · intro w'
                go_simp
                first | done | with_reducible rfl
              rotate_left
              · simp only [Act.put, List.setIfInBounds_toArray, List.set_cons_zero, List.set_cons_succ, i64_w, i32_w]
                rfl
              refine take_ (i := 5) (N := some 96) (v := ?_) (a' := ?_) #[true, false, true, true, true, true, false, false] rfl rfl (by kernel_rfl) (fun _ _ _ h => h) (Or.inl ⟨by rfl, ?_⟩) hHeld ?_ ?_
              rotate_left
              · intro w' s0
                go_simp
                first | done | with_reducible rfl
              rotate_left
              · simp only [Act.put, List.setIfInBounds_toArray, List.set_cons_zero, List.set_cons_succ, i64_w, i32_w]
                rfl
              refine one_ (i := 1) (N := some 92) #[true, true, true, true, true, true, false, false] rfl rfl (by kernel_rfl) (by decide) (fun K_ hK_ => ?_)
              refine goes_ Try.func29 (by kernel_rfl) rfl #[.pointer (some ⟨bs, 0, none⟩)] (by rfl) rfl rfl (by (try simp only [List.map_toArray, List.map_cons, List.map_nil]); rfl) ?_
              refine (done_any bs s' w2.heap.size wd SD.out SZ.out HML.out).mono ?_
              rintro e w8 ⟨v8, he, hr8, hb8⟩
              subst he
              refine ⟨_, rfl, ?_⟩
              obtain ⟨A8, c8, e8, hc8, hC8⟩ := Kd.R_reads hr8
              subst e8
              have HC8 := Aside0.mk hC8
              have B8 := Aside0.mk hb8
              have RD8 := Aside0.mk (RD.out.below hb8)
              refine hK_.out _ _ (pw_cell_below hb8 hHeld) (fun hHeld => ?_)
              clear hK_ K_ hr8 hC8 hb8
              refine norm_ (a' := ?_) ?_ ?_
              rotate_left
              · simp only [Act.put, List.setIfInBounds_toArray, List.set_cons_zero, List.set_cons_succ]
                rfl
              refine one_ (i := 6) (N := some 97) #[true, true, true, true, true, true, true, false] rfl rfl (by kernel_rfl) (by decide) (fun K_ hK_ => ?_)
              refine goes_ Try.func18 (by kernel_rfl) rfl #[.slice A8 s'.made.length c8, .slice Am s'.made.length cm] (by rfl) rfl rfl (by (try simp only [List.map_toArray, List.map_cons, List.map_nil]); rfl) ?_
              refine (carlingref06_SameInts.calls k3 A8 c8 s'.made Am cm s'.made true w8 HC8.out hc8 (RM8 RD8.out).2 (RM8 RD8.out).1 HK3.out).mono ?_
              rintro e w9 ⟨he, hd9⟩
              subst he
              refine ⟨_, rfl, ?_⟩
              have B9 := Aside0.mk (below_step B8.out hd9.below)
              refine hK_.out _ _ (pw_cell_below hd9.below hHeld) (fun hHeld => ?_)
              clear hK_ K_ hd9
              refine norm_ (a' := ?_) ?_ ?_
              rotate_left
              · simp only [Act.put, List.setIfInBounds_toArray, List.set_cons_zero, List.set_cons_succ]
                rfl
              refine pure_ (i := 7) (N := some 18) (v := ?_) (a' := ?_) #[true, true, true, true, true, true, true, true] rfl rfl (by kernel_rfl) (fun _ _ _ h => h) (Or.inl ⟨by rfl, ?_⟩) ?_ ?_
              rotate_left
              · intro w'
                go_simp
                first | done | with_reducible rfl
              rotate_left
              · simp only [Act.put, List.setIfInBounds_toArray, List.set_cons_zero, List.set_cons_succ, i64_w, i32_w]
                rfl
              refine done_ (by kernel_rfl) ?_
              go_wp2
              have S9 := Aside0.mk (SD.out.below B9.out)
              have R9 : Aside0 (RefAt w9 w2.heap.size br q' (fun k => ¬ K' k ∧ k < w7.heap.size) A0 c0) := ⟨⟨_, _, _, _, RD.out.below B9.out⟩⟩
              have B79 := Aside0.mk (below_step HD7.out B9.out)
              have HOV : Aside0 (∀ n, Calls Try.prog 31 #[.pointer (some ⟨br, 0, none⟩)] (w9.drewN n) fun e w' => e = .returned (.bool (overOf s'.done)) ∧ w' = w9.drewN n) := ⟨fun n => by
                have := rover_any br q' w2.heap.size (w9.drewN n) (R9.out.below (pw_below_drewN (Below.refl _ _) n)) (by rw [HQE.out.2.1]; exact HDL.out)
                rw [HQE.out.2.1] at this; exact this⟩
              have k59 : w9.cell? ⟨br, 5, none⟩ = some (.int .i64 s'.steps) := by
                have := (blk_cell (RD.out.below B9.out).blk 5).trans rfl
                rw [this]
                show some (Value.int .i64 q'.steps) = _
                rw [HQE.out.2.2]
              clear SD RD k6 RM8
              go_quiet (first
                | (go_at_call 30; refine Calls.quiet_of_same (over_any bs s' w2.heap.size _ (S9.out.below (pw_below_drewN (Below.refl _ _) _)) HDL.out))
                | (go_at_call 31; exact Calls.quiet_of_same (HOV.out _))
                | (go_at_call 32; refine Calls.quiet_of_same (steps_any bs s' w2.heap.size _ (S9.out.below (pw_below_drewN (Below.refl _ _) _)))))
              go_wp2
              go_roundw
              case rel =>
                have hB := pw_below_drewN B79.out nq
                exact ⟨i + 1, s', q', K', ⟨by omega, by omega⟩, by go_num, HI', ⟨HS7.out.below hB⟩, ⟨(HR7.out.more.below hB).less (fun k hk => by by_cases h5 : k < w7.heap.size; exact .inl ⟨hk.1, h5⟩; exact .inr (by omega))⟩, ⟨fun k hk => Nat.lt_of_lt_of_le (HKB7.out k hk) (below_size hB)⟩, ⟨HB7.out.trans (hB.mono HB7.out.size)⟩⟩
              case measure => simp [intOf]; omega
            · have hi0 : (0 ≤ (i : Int)) = True := eq_true (by omega)
              have hi1 : decide (i < l2.length) = true := decide_eq_true hlt
              have hi1I : ((i : Int) < (l2.length : Int)) = True := eq_true (by omega)
              have hi2 : decide ((i : Int) < 300) = false := decide_eq_false (by omega)
              have hi2I : ((i : Int) < 300) = False := eq_false (by omega)
              go_wp2
              go_ret
              exact ⟨rfl, below_step HB2.out BR.out⟩
          · have hi1 : decide (i < l2.length) = false := decide_eq_false hlt
            have hi1I : ((i : Int) < (l2.length : Int)) = False := eq_false (by omega)
            go_wp2
            go_ret
            exact ⟨rfl, below_step HB2.out BR.out⟩
      · have HN := Aside0.mk (fun w hC hD => new_bad (w := w) (A0 := A0) (c0 := c0) (x := a1) (A1 := A1) (c1 := c1) (d0 := l1) hC hc0 hD HF.out hz)
        have HRN : Aside0 (∀ w, Kd.C k31 w A0 l0.length l0 → Kd.C Kd.bool w A1 l1.length l1 → Calls Try.prog 27 #[.slice A0 l0.length c0, .int .i64 a1, .slice A1 l1.length c1] w fun e w' => e = .returned (.tuple #[.pointer none, .int .i64 (newErr l0 a1)]) ∧ Below w.heap.size w w') := ⟨fun w hC hD => by
          refine (rnew_any A0 c0 l0 a1 A1 c1 l1 w hC hc0 hD HF.out.1 ko HKO.out).mono ?_
          rintro e w' ⟨hb, (⟨hne, he⟩ | ⟨h0, b, he, hs⟩)⟩
          · exact ⟨he, hb⟩
          · exact absurd h0 hz⟩
        obtain ⟨n0, hn0⟩ : ∃ n0, n0 = newErr l0 a1 := ⟨_, rfl⟩
        rw [← hn0] at HN HRN
        clear hn0 hz
        go_enter Try.func11, Try.ntmps11
        go_wp2_with (first
          | (go_at_call 24; refine (awake_any _).mono ?_; rintro e w1 ⟨rfl, hb⟩; have HX1 := Aside0.mk (blk_below hx0.out hb); have HB1 := Aside0.mk (below_step (below_alloc (Below.refl _ _) _) hb); clear hb)
          | (go_at_call 15; refine (carlingref21_Light.calls k A0 c0 l0 true w1 (Kd.C_below HR0.out HB1.out) hc0 HK.out).mono ?_; rintro e w2 ⟨rfl, hd⟩; have HB2 := Aside0.mk (below_step HB1.out hd.below); have HX2 := Aside0.mk (blk_below HX1.out hd.below); have x20 : w2.cell? ⟨w.heap.size, 0, none⟩ = some (.int .i64 a1) := (blk_cell HX2.out 0).trans rfl; have x21 : w2.cell? ⟨w.heap.size, 1, none⟩ = some (.slice A1 l1.length c1) := (blk_cell HX2.out 1).trans rfl; clear hd)
          | (go_at_call 25; refine (HN.out _ (Kd.C_below HR0.out HB2.out) (Kd.C_below HR1.out HB2.out)).mono ?_; rintro e w3 ⟨he, hb⟩; subst he; have HB3 := Aside0.mk (below_step HB2.out hb); have HX3 := Aside0.mk (blk_below HX2.out hb); have x30 : w3.cell? ⟨w.heap.size, 0, none⟩ = some (.int .i64 a1) := (blk_cell HX3.out 0).trans rfl; have x31 : w3.cell? ⟨w.heap.size, 1, none⟩ = some (.slice A1 l1.length c1) := (blk_cell HX3.out 1).trans rfl; clear hb)
          | (go_at_call 27; refine (HRN.out _ (Kd.C_below HR0.out HB3.out) (Kd.C_below HR1.out HB3.out)).mono ?_; rintro e w4 ⟨he, hb⟩; subst he; have HB4 := Aside0.mk (below_step HB3.out hb); clear hb))
        go_loopw [13] (fun v13 w' => v13 = .int .i64 0 ∧ w' = w4) (fun _ _ => 0)
        case atStart => exact ⟨rfl, rfl⟩
        case round =>
          obtain ⟨rfl, rfl⟩ := hrel
          by_cases hlt : 0 < l2.length
          · have hi1 : decide (0 < l2.length) = true := decide_eq_true hlt
            have hi1I : ((0 : Int) < (l2.length : Int)) = True := eq_true (by omega)
            go_wp2
            go_ret
            exact ⟨rfl, HB4.out⟩
          · have hi1 : decide (0 < l2.length) = false := decide_eq_false hlt
            have hi1I : ((0 : Int) < (l2.length : Int)) = False := eq_false (by omega)
            go_wp2
            go_ret
            exact ⟨rfl, HB4.out⟩
end Go.Proofs.Ytgjlgdohlmpnbaa.P
