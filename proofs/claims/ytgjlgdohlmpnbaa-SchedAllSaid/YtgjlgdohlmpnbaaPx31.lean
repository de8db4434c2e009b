/- The walk of SchedAll: whatever the jobs and the workers, it returns true. Conditions: none beyond what is read. -/
import Derived.Test.YtgjlgdohlmpnbaaG9
import Derived.Test.YtgjlgdohlmpnbaaB2
import Derived.Test.YtgjlgdohlmpnbaaB7
namespace Go.Proofs.Ytgjlgdohlmpnbaa.P
set_option linter.unusedVariables false
set_option linter.unusedSimpArgs false
open Go.RowKit Go.Proofs.YtgjlgdohlmpnbaaW.PrintWords Go.Proofs.YtgjlgdohlmpnbaaW.PrintLast Go.Proofs.YtgjlgdohlmpnbaaW.PrintMore
open Go.Proofs.Ytgjlgdohlmpnbaa.Pure (Ends light_ends isDone_in)

theorem copied_all (n : Nat) : copied n (List.replicate n true) = List.replicate n true := by simp [copied]
theorem ready_none (l : List S31) (hL : l.length ≤ 1000000) : ∀ n, n ≤ l.length → readyTo l (List.replicate l.length true) n = []
  | 0, _ => rfl
  | n + 1, h => by
    have hd : isDone l.length (List.replicate l.length true) (n : Int) = true := by
      unfold isDone
      rw [decide_eq_true (by simp; omega), Int.toNat_natCast]
      simp [List.getElem?_replicate, Nat.lt_of_succ_le h]
    unfold readyTo
    rw [if_neg (by unfold freeJ; rw [hd]; simp)]
    exact ready_none l hL n (by omega)
def carlinglaw22_SchedAll.f (_ : List S31) (_ : Int) : Option Bool := some true
/-- what SchedAll's answer is where no scheduler is made -/
theorem all_bad {l : List S31} {x : Int} (h : ¬ newErr l x = 0) : (x < 1 ∨ 16 < x ∨ newErr l x ≠ 1 ∨ 0 < l.length) := by
  unfold newErr at *
  by_cases he : (orderOf l).2 ≠ 0
  · rw [if_pos he] at h ⊢
    by_cases h1 : (orderOf l).2 = 1
    · right; right; right
      rcases Nat.eq_zero_or_pos l.length with h0 | h0
      · have hl : l = [] := List.length_eq_zero_iff.mp h0
        subst hl
        exact absurd h1 (by decide +kernel)
      · exact h0
    · exact .inr (.inr (.inl h1))
  · rw [if_neg he] at h ⊢
    by_cases hx : x < 1 ∨ 16 < x
    · rcases hx with hx | hx
      · exact .inl hx
      · exact .inr (.inl hx)
    · rw [if_neg hx] at h; exact absurd rfl h
theorem all_pick {l : List S31} (hf : fewJ l) {x : Int} (hx : newErr l x = 0) : pickOf (newSt l x (List.replicate l.length true)) 0 = (newSt l x (List.replicate l.length true), -1, 0) := by
  have hx1 : 1 ≤ x := by
    unfold newErr at hx
    by_cases he : (orderOf l).2 ≠ 0
    · rw [if_pos he] at hx; exact absurd hx he
    · rw [if_neg he] at hx
      by_cases h : x < 1 ∨ 16 < x
      · rw [if_pos h] at hx; cases hx
      · omega
  have hl : leastOf (newSt l x (List.replicate l.length true)) = -1 := by
    have hr : readyTo l (copied l.length (List.replicate l.length true)) l.length = [] := by rw [copied_all]; exact ready_none l hf.1 _ (Nat.le_refl _)
    show leastTo l _ (readyTo l (copied l.length (List.replicate l.length true)) l.length) (readyTo l (copied l.length (List.replicate l.length true)) l.length).length = -1
    rw [hr]; rfl
  unfold pickOf
  rw [if_neg (by show ¬ ((0 : Int) < 0 ∨ x ≤ 0); omega), if_pos ⟨rfl, rfl⟩, hl, if_pos (by decide)]
theorem fill_step (i n : Nat) (h : i < n) : (List.replicate i true ++ List.replicate (n - i) false).set i true = List.replicate (i + 1) true ++ List.replicate (n - (i + 1)) false := by
  obtain ⟨d, rfl⟩ : ∃ d, n = i + 1 + d := ⟨n - (i + 1), by omega⟩
  rw [show i + 1 + d - i = d + 1 by omega, show i + 1 + d - (i + 1) = d by omega, List.replicate_succ' (n := i), List.set_append_right _ _ (by simp)]
  simp [List.replicate_succ]
set_option maxHeartbeats 4000000 in
set_option maxRecDepth 100000 in
theorem carlinglaw22_SchedAll.calls (A0 : Option Addr) (c0 : Nat) (l0 : List (S31)) (a1 : Int) (r : Bool) (w : World) (hr0 : Kd.C k31 w A0 l0.length l0) (hc0 : l0.length ≤ c0) (h : carlinglaw22_SchedAll.f l0 a1 = some r) :
    Calls Try.prog 12 #[.slice A0 l0.length c0, .int .i64 a1] w fun e w' => e = .returned (.bool r) ∧ Below w.heap.size w w' := by
  obtain rfl : true = r := Option.some.inj h
  clear h
  obtain ⟨b, e1, e2⟩ := light_ends l0
  obtain ⟨k, hk⟩ := e1.get
  have HR0 := Aside0.mk hr0
  have HK := Hid1.mk hk
  clear e1 hk hr0
  cases b with
  | false =>
    clear e2
    go_enter Try.func12, Try.ntmps12
    go_wp2_with (first
      | (go_at_call 24; refine (awake_any w).mono ?_; rintro e w1 ⟨rfl, hb⟩; have HB1 := Aside0.mk hb; clear hb)
      | (go_at_call 15; refine (carlingref21_Light.calls k A0 c0 l0 false w1 (Kd.C_below HR0.out HB1.out) hc0 HK.out).mono ?_; rintro e w2 ⟨rfl, hd⟩; have HB2 := Aside0.mk (below_step HB1.out hd.below); clear hd))
    go_ret
    exact ⟨rfl, HB2.out⟩
  | true =>
    obtain ⟨hf, hl⟩ := e2 rfl
    clear e2
    have HF := Hid1.mk hf
    clear hf
    go_enter Try.func12, Try.ntmps12
    go_wp2_with (first
      | (go_at_call 24; refine (awake_any w).mono ?_; rintro e w1 ⟨rfl, hb⟩; have HB1 := Aside0.mk hb; clear hb)
      | (go_at_call 15; refine (carlingref21_Light.calls k A0 c0 l0 true w1 (Kd.C_below HR0.out HB1.out) hc0 HK.out).mono ?_; rintro e w2 ⟨rfl, hd⟩; have HB2 := Aside0.mk (below_step HB1.out hd.below); clear hd)
      | (at_make; refine Kd.R_make Kd.bool (w0 := w) w.heap.size 4 rfl (N := 21) rfl 35 _ _ rfl (l0.length : Int) rfl rfl Try.underlying35 (.bool false) 1 info4 rfl (by decide) (by omega) false (ok := fun _ => True) (okp := fun _ => True) rfl (fun _ hk => hk) trivial (by omega) (by omega) HB2.out (below_size HB2.out) ?_; intro vd w3 ho hb hg_ hnew_; rw [Int.toNat_natCast] at ho; clear hg_ hnew_; obtain ⟨Ad, cd, evd⟩ := Kd.R_slice ho; rw [List.length_replicate] at evd; subst evd; have HD3 := Aside0.mk ho; have HB3 := Aside0.mk hb; clear ho hb))
    go_loopw [8] (fun v8 w' => ∃ i : Nat, i ≤ l0.length ∧ v8 = .int .i64 i ∧ Aside0 (Kd.R Kd.bool 4 w' w.heap.size (fun _ => True) (.slice Ad l0.length cd) (List.replicate i true ++ List.replicate (l0.length - i) false)) ∧ Aside0 (Below w.heap.size w w')) (fun v8 _ => l0.length - (intOf v8).toNat)
    case atStart => exact ⟨0, by omega, rfl, by simpa using HD3, HB3⟩
    case round =>
      clear HD3 HB3
      obtain ⟨i, hi, rfl, HD, BR⟩ := hrel
      by_cases hlt : i < l0.length
      · obtain ⟨g, cap, ev, hgb, hglt, cells, hgc⟩ := Kd.R_form HD.out (by simp; omega)
        injection ev with ev1 ev2 ev3
        subst ev1
        obtain ⟨cdj, fdj⟩ := Kd.R_celln false HD.out (i : Int) (by omega) (by omega)
        have HP := Aside0.mk (Kd.R_putg HD.out (i : Int) true)
        rw [Int.toNat_natCast] at cdj fdj HP
        rw [fill_step i l0.length hlt] at HP
        have hgb' := Hid1.mk hgb
        have hi0 : (0 ≤ (i : Int)) = True := eq_true (by omega)
        have hi1 : ((i : Int) < (l0.length : Int)) = True := eq_true (by omega)
        clear hgc ev2 ev3
        go_wp2
        go_roundw
        case rel => exact ⟨i + 1, by omega, by go_num, ⟨HP.out.1⟩, ⟨BR.out.setCell (p := ⟨g, i, none⟩) hgb'.out _⟩⟩
        case measure => simp [intOf]; omega
      · obtain rfl : i = l0.length := by omega
        rw [Nat.sub_self, List.replicate_zero, List.append_nil] at HD
        have HCD := Aside0.mk (Kd.R_reads' HD.out).2.2
        rw [List.length_replicate] at HCD
        have HCL := Aside0.mk (Kd.C_below HR0.out BR.out)
        by_cases hz : newErr l0 a1 = 0
        · have HN := new_ok (x := a1) (A1 := Ad) (c1 := cd) (d0 := List.replicate l0.length true) HCL.out hc0 (by rw [List.length_replicate]; exact HCD.out) HF.out hz
          rw [List.length_replicate] at HN
          have hp := all_pick HF.out hz
          have ho : overOf (newSt l0 a1 (List.replicate l0.length true)).done = true := by show overOf (copied _ _) = true; rw [copied_all]; simp [overOf]
          have hs : (newSt l0 a1 (List.replicate l0.length true)).steps = 0 := rfl
          have hm : (newSt l0 a1 (List.replicate l0.length true)).made = [] := rfl
          have hx : a1 ≤ 16 := by
            unfold newErr at hz
            by_cases he : (orderOf l0).2 ≠ 0
            · rw [if_pos he] at hz; exact absurd hz he
            · rw [if_neg he] at hz
              by_cases h : a1 < 1 ∨ 16 < a1
              · rw [if_pos h] at hz; cases hz
              · omega
          have hg := good_new HF.out hx (List.replicate l0.length true)
          have hd := hg.done
          obtain ⟨s, hsE⟩ : ∃ s, s = newSt l0 a1 (List.replicate l0.length true) := ⟨_, rfl⟩
          rw [← hsE] at HN hp ho hs hm hg hd
          have hdl : s.done.length ≤ 1000000 := by rw [hd]; exact hg.few
          have hml : s.made.length ≤ 1000000 := by rw [hm]; exact Nat.zero_le _
          have HNN := Aside0.mk HN
          have HP := Hid1.mk hp
          have HG := Hid1.mk hg
          have HO := Hid1.mk ho
          have HS := Hid1.mk hs
          have HM := Hid1.mk hm
          clear HN hp ho hs hm hg hd hsE hx hz
          go_wp2_with (first
            | (go_at_call 25; refine HNN.out.mono ?_; rintro e w4 ⟨b, he, hs, hb⟩; subst he; have HS4 := Aside0.mk hs; have hsz := below_size hb; have HB4 := Aside0.mk (below_step BR.out hb); clear hs hb)
            | (go_at_call 26; refine (pick_any b s wr.heap.size 0 w4 w4 HS4.out HG.out hml (Below.refl _ _) hsz).mono ?_; rintro e w5 ⟨he, hs, hb, hsz2⟩; rw [HP.out] at hs he; subst he; have HS5 := Aside0.mk hs; have HB5 := Aside0.mk (HB4.out.trans (hb.mono (below_size BR.out))); clear hs hb)
            | (go_at_call 30; refine (over_any b s wr.heap.size _ HS5.out hdl).mono ?_; rintro e w6 ⟨he, rfl⟩; rw [HO.out] at he; subst he)
            | (go_at_call 32; refine (steps_any b s wr.heap.size _ HS5.out).mono ?_; rintro e w7 ⟨he, rfl⟩; rw [HS.out] at he; subst he)
            | (go_at_call 29; refine (done_any b s wr.heap.size _ HS5.out (by omega) hml).mono ?_; rintro e w8 ⟨v8, he, hr8, hb8⟩; subst he; rw [HM.out] at hr8; obtain ⟨A8, c8, e8⟩ := Kd.R_slice hr8; subst e8; have HB8 := Aside0.mk (below_step HB5.out hb8); clear hr8 hb8))
          go_ret
          exact ⟨rfl, HB8.out⟩
        · have HN := new_bad (x := a1) (A1 := Ad) (c1 := cd) (d0 := List.replicate l0.length true) HCL.out hc0 (by rw [List.length_replicate]; exact HCD.out) HF.out hz
          rw [List.length_replicate] at HN
          have ha := all_bad hz
          obtain ⟨n0, hn0⟩ : ∃ n0, n0 = newErr l0 a1 := ⟨_, rfl⟩
          rw [← hn0] at hz ha HN
          have HNN := Aside0.mk HN
          clear HN hn0
          have hzb : (n0 != 0) = true := bne_iff_ne.mpr hz
          have hzf : (n0 = 0) = False := eq_false hz
          by_cases h1 : a1 < 1
          · have h1d : decide (a1 < 1) = true := decide_eq_true h1
            clear ha
            go_wp2_with (go_at_call 25; refine HNN.out.mono ?_; rintro e w4 ⟨he, hb⟩; subst he; have HB4 := Aside0.mk (below_step BR.out hb); clear hb)
            go_ret
            exact ⟨rfl, HB4.out⟩
          · have h1d : decide (a1 < 1) = false := decide_eq_false h1
            by_cases h2 : 16 < a1
            · have h2d : decide (16 < a1) = true := decide_eq_true h2
              clear ha
              go_wp2_with (go_at_call 25; refine HNN.out.mono ?_; rintro e w4 ⟨he, hb⟩; subst he; have HB4 := Aside0.mk (below_step BR.out hb); clear hb)
              go_ret
              exact ⟨rfl, HB4.out⟩
            · have h2d : decide (16 < a1) = false := decide_eq_false h2
              have ha := (ha.resolve_left h1).resolve_left h2
              by_cases h3 : n0 = 1
              · have h4 := ha.resolve_left (fun h => h h3)
                subst h3
                have h4d : decide (0 < l0.length) = true := decide_eq_true h4
                have h4i : ((0 : Int) < (l0.length : Int)) = True := eq_true (by omega)
                clear ha
                go_wp2_with (go_at_call 25; refine HNN.out.mono ?_; rintro e w4 ⟨he, hb⟩; subst he; have HB4 := Aside0.mk (below_step BR.out hb); clear hb)
                go_ret
                exact ⟨rfl, HB4.out⟩
              · have h3b : (n0 != 1) = true := bne_iff_ne.mpr h3
                have h3f : (n0 = 1) = False := eq_false h3
                clear ha
                go_wp2_with (go_at_call 25; refine HNN.out.mono ?_; rintro e w4 ⟨he, hb⟩; subst he; have HB4 := Aside0.mk (below_step BR.out hb); clear hb)
                go_ret
                exact ⟨rfl, HB4.out⟩
end Go.Proofs.Ytgjlgdohlmpnbaa.P
