/- The walk of SchedAlone: whatever the jobs and the workers, it returns true. Conditions: none beyond what is read. -/
import Derived.Test.YtgjlgdohlmpnbaaG9
import Derived.Test.YtgjlgdohlmpnbaaB2
import Derived.Test.YtgjlgdohlmpnbaaB3
import Derived.Test.YtgjlgdohlmpnbaaPx3
namespace Go.Proofs.Ytgjlgdohlmpnbaa.P
set_option linter.unusedVariables false
set_option linter.unusedSimpArgs false
open Go.RowKit Go.Proofs.YtgjlgdohlmpnbaaW.PrintWords Go.Proofs.YtgjlgdohlmpnbaaW.PrintLast Go.Proofs.YtgjlgdohlmpnbaaW.PrintMore
open Go.Proofs.Ytgjlgdohlmpnbaa.Pure (Ends light_ends same_ends)

def playN (s : St) : Nat → St
  | 0 => s
  | n + 1 => (pickOf (playN s n) 0).1
theorem playN_good {s : St} (hg : Good s) : ∀ n, Good (playN s n)
  | 0 => hg
  | n + 1 => pick_good (playN_good hg n) 0
theorem playN_made (s : St) : ∀ n, (playN s n).made.length ≤ s.made.length + n
  | 0 => Nat.le_refl _
  | n + 1 => by
    have := playN_made s n
    have h2 := (pick_l (playN s n) 0).2.2
    show (pickOf (playN s n) 0).1.made.length ≤ _
    omega
theorem least_best (l : List S31) (taken : List Bool) (rs : List Int) : ∀ m, m ≤ rs.length → (∀ x ∈ rs, rdOf false taken x = false) → leastTo l taken rs m = bestTo l rs m
  | 0, _, _ => rfl
  | m + 1, h, hr => by
    have hm := hr _ (rd_mem rs m h)
    unfold leastTo bestTo
    rw [if_neg (by rw [hm]; decide), least_best l taken rs m (by omega) hr]
/-- one worker alone, between two jobs -/
structure Alone (l : List S31) (s : St) (full : List Int) : Prop where
  jobs : s.l = l
  many : 1 ≤ s.many
  jb : s.jb 0 = 0
  ph : s.ph 0 = 0
  same : s.taken = s.done
  len : s.done.length = l.length
  out : s.made.length + undone s.done = l.length
  go : orderGo l (undone s.done + 1) s.done s.made = full
theorem pick_idle {s : St} (hm : 1 ≤ s.many) (h0 : s.jb 0 = 0) (h1 : s.ph 0 = 0) {b : Int} (hb : leastOf s = b) (hb0 : 0 ≤ b) : (pickOf s 0).1 = ({ s with taken := s.taken.set b.toNat true } : St).goOn 0 b 0 := by
  unfold pickOf
  rw [if_neg (by omega), if_pos ⟨h0, h1⟩, hb, if_neg (by omega)]; rfl
theorem pick_busy {s : St} (hm : 1 ≤ s.many) (h1 : ¬ s.ph 0 = 0) : (pickOf s 0).1 = s.goOn 0 (s.jb 0) (s.ph 0) := by
  unfold pickOf
  rw [if_neg (by omega), if_neg (fun h => h1 h.2)]; rfl
theorem alone_step {l : List S31} {s : St} {full : List Int} (h : Alone l s full) (hfull : full.length = l.length) (hlt : s.made.length < l.length) : Alone l (pickOf (pickOf (pickOf s 0).1 0).1 0).1 full ∧ (pickOf (pickOf (pickOf s 0).1 0).1 0).1.made.length = s.made.length + 1 := by
  obtain ⟨hl, hm, h0, h1, hsame, hlen, hout, hgo⟩ := h
  have hmem := ready_mem l s.done l.length
  have hbest := best_mem l (readyTo l s.done l.length) (readyTo l s.done l.length).length (Nat.le_refl _)
  have hleast : leastOf s = bestTo l (readyTo l s.done l.length) (readyTo l s.done l.length).length := by
    unfold leastOf
    rw [hl]
    refine least_best l s.taken _ _ (Nat.le_refl _) fun x hx => ?_
    have hx2 := hmem x hx
    have := free_undone (i := x.toNat) (by omega) (by omega) hx2.2.2
    rw [hsame]; simpa [rdOf] using this
  have hgo2 : orderGo l (undone s.done + 1) s.done s.made = (if bestTo l (readyTo l s.done l.length) (readyTo l s.done l.length).length < 0 then s.made
      else orderGo l (undone s.done) (s.done.set (bestTo l (readyTo l s.done l.length) (readyTo l s.done l.length).length).toNat true) (s.made ++ [bestTo l (readyTo l s.done l.length) (readyTo l s.done l.length).length])) := rfl
  generalize bestTo l (readyTo l s.done l.length) (readyTo l s.done l.length).length = b at hbest hleast hgo2
  rcases hbest with hb | hb
  · rw [if_pos (by omega)] at hgo2
    rw [hgo2] at hgo
    rw [← hgo] at hfull; omega
  · have hb2 := hmem _ hb
    rw [if_neg (by omega)] at hgo2
    have hu := undone_set s.done b.toNat (by omega) (free_undone (by omega) (by omega) hb2.2.2)
    have e1 := pick_idle hm h0 h1 hleast hb2.1
    have e2 : (pickOf (pickOf s 0).1 0).1 = (pickOf s 0).1.goOn 0 b 1 := by
      have hj : (pickOf s 0).1.jb 0 = b := by rw [e1]; rfl
      have hp : (pickOf s 0).1.ph 0 = 1 := by rw [e1]; rfl
      rw [pick_busy (by rw [(pick_l s 0).2.1]; exact hm) (by rw [hp]; decide), hj, hp]
    have e3 : (pickOf (pickOf (pickOf s 0).1 0).1 0).1 = (pickOf (pickOf s 0).1 0).1.goOn 0 b 2 := by
      have hj : (pickOf (pickOf s 0).1 0).1.jb 0 = b := by rw [e2]; rfl
      have hp : (pickOf (pickOf s 0).1 0).1.ph 0 = 2 := by rw [e2]; rfl
      rw [pick_busy (by rw [(pick_l _ 0).2.1, (pick_l s 0).2.1]; exact hm) (by rw [hp]; decide), hj, hp]
    have hd : (pickOf (pickOf (pickOf s 0).1 0).1 0).1.done = s.done.set b.toNat true := by rw [e3, e2, e1]; rfl
    have ht : (pickOf (pickOf (pickOf s 0).1 0).1 0).1.taken = s.taken.set b.toNat true := by rw [e3, e2, e1]; rfl
    have hmade : (pickOf (pickOf (pickOf s 0).1 0).1 0).1.made = s.made ++ [b] := by rw [e3, e2, e1]; rfl
    refine ⟨⟨?_, ?_, ?_, ?_, ?_, ?_, ?_, ?_⟩, ?_⟩
    · rw [(pick_l _ 0).1, (pick_l _ 0).1, (pick_l s 0).1]; exact hl
    · rw [(pick_l _ 0).2.1, (pick_l _ 0).2.1, (pick_l s 0).2.1]; exact hm
    · rw [e3]; rfl
    · rw [e3]; rfl
    · rw [hd, ht, hsame]
    · rw [hd, List.length_set]; exact hlen
    · rw [hd, hmade, List.length_append, List.length_singleton]; omega
    · rw [hd, hmade, hu, ← hgo2]; exact hgo
    · rw [hmade, List.length_append, List.length_singleton]
theorem alone_all {l : List S31} {s : St} {full : List Int} (h : Alone l s full) (hfull : full.length = l.length) (hm : s.made = []) : ∀ k, k ≤ l.length → Alone l (playN s (3 * k)) full ∧ (playN s (3 * k)).made.length = k
  | 0, _ => ⟨h, by show s.made.length = 0; rw [hm]; rfl⟩
  | k + 1, hk => by
    obtain ⟨h1, h2⟩ := alone_all h hfull hm k (by omega)
    have := alone_step h1 hfull (by omega)
    rw [h2] at this
    exact this
theorem undone_none : ∀ (d : List Bool), undone d = 0 → overOf d = true
  | [], _ => rfl
  | x :: d, h => by
    have h2 : undone d = 0 := by simp only [undone, List.countP_cons] at h ⊢; omega
    have h3 : x = true := by
      cases x
      · simp [undone] at h
      · rfl
    subst h3
    have := undone_none d h2
    simpa [overOf] using this
theorem goLen (l : List S31) : ∀ (n : Nat) (done : List Bool) (out : List Int), done.length = l.length → undone done = n → (orderGo l (undone done + 1) done out).length ≤ out.length + undone done
  | n, done, out, hd, hn => by
    have hmem := ready_mem l done l.length
    have hbest := best_mem l (readyTo l done l.length) (readyTo l done l.length).length (Nat.le_refl _)
    show (if bestTo l (readyTo l done l.length) (readyTo l done l.length).length < 0 then out
        else orderGo l (undone done) (done.set (bestTo l (readyTo l done l.length) (readyTo l done l.length).length).toNat true) (out ++ [bestTo l (readyTo l done l.length) (readyTo l done l.length).length])).length ≤ _
    rcases hbest with hb | hb
    · rw [if_pos (by omega)]; omega
    · have h := hmem _ hb
      have hu := undone_set done _ (by omega : (bestTo l (readyTo l done l.length) (readyTo l done l.length).length).toNat < done.length) (free_undone (by omega) (by omega) h.2.2)
      rw [if_neg (by omega)]
      rw [← hu]
      have := goLen l (n - 1) (done.set (bestTo l (readyTo l done l.length) (readyTo l done l.length).length).toNat true) (out ++ [bestTo l (readyTo l done l.length) (readyTo l done l.length).length]) (by rw [List.length_set]; exact hd) (by omega)
      rw [List.length_append, List.length_singleton] at this
      omega
termination_by n => n
decreasing_by omega

theorem alone_end {l : List S31} {x : Int} (hz : newErr l x = 0) : (playN (newSt l x []) (3 * l.length)).made = (orderOf l).1 ∧ overOf (playN (newSt l x []) (3 * l.length)).done = true := by
  have ho : (orderOf l).2 = 0 ∧ 1 ≤ x := by
    unfold newErr at hz
    by_cases he : (orderOf l).2 ≠ 0
    · rw [if_pos he] at hz; exact absurd hz he
    · rw [if_neg he] at hz
      refine ⟨by omega, ?_⟩
      by_cases h : x < 1 ∨ 16 < x
      · rw [if_pos h] at hz; cases hz
      · omega
  have hd0 : (newSt l x []).done = List.replicate l.length false := by simp [newSt, copied]
  obtain ⟨ho, hx⟩ := ho
  unfold orderOf at ho ⊢
  by_cases h1 : badTo l l.length = true
  · rw [if_pos h1] at ho; cases ho
  · rw [if_neg h1] at ho ⊢
    by_cases h2 : twiceTo l l.length = true
    · rw [if_pos h2] at ho; cases ho
    · rw [if_neg h2] at ho ⊢
      by_cases h3 : (orderGo l (l.length + 1) (List.replicate l.length false) []).length < l.length
      · rw [if_pos h3] at ho; cases ho
      · rw [if_neg h3]
        have hle := goLen l _ (List.replicate l.length false) [] (by simp) rfl
        rw [undone_rep] at hle
        simp only [List.length_nil, Nat.zero_add] at hle
        have hA : Alone l (newSt l x []) (orderGo l (l.length + 1) (List.replicate l.length false) []) := ⟨rfl, hx, rfl, rfl, by rw [hd0]; rfl, by rw [hd0]; simp, by rw [hd0, undone_rep]; show 0 + _ = _; omega, by rw [hd0, undone_rep]; rfl⟩
        obtain ⟨h4, h5⟩ := alone_all hA (by omega) rfl l.length (Nat.le_refl _)
        have hu : undone (playN (newSt l x []) (3 * l.length)).done = 0 := by have := h4.out; omega
        refine ⟨?_, undone_none _ hu⟩
        have hgo := h4.go
        rw [hu] at hgo
        have : orderGo l (0 + 1) (playN (newSt l x []) (3 * l.length)).done (playN (newSt l x []) (3 * l.length)).made = (playN (newSt l x []) (3 * l.length)).made := by
          unfold orderGo
          split
          · rfl
          · rename_i hb
            have hbm := (best_mem l (readyTo l (playN (newSt l x []) (3 * l.length)).done l.length) _ (Nat.le_refl _)).resolve_left (by omega)
            have hm := ready_mem l _ l.length _ hbm
            have := undone_set (playN (newSt l x []) (3 * l.length)).done _ (by rw [h4.len]; omega) (free_undone (by omega) (by rw [h4.len]; omega) hm.2.2)
            omega
        rw [← this]; exact hgo
def carlinglaw22_SchedAlone.f (_ : List S31) (_ : Int) : Option Bool := some true
theorem new_rng {l : List S31} {x : Int} (hz : newErr l x = 0) : (orderOf l).2 = 0 ∧ 1 ≤ x ∧ x ≤ 16 := by
  unfold newErr at hz
  by_cases he : (orderOf l).2 ≠ 0
  · rw [if_pos he] at hz; exact absurd hz he
  · rw [if_neg he] at hz
    refine ⟨by omega, ?_⟩
    by_cases h : x < 1 ∨ 16 < x
    · rw [if_pos h] at hz; cases hz
    · omega
theorem alone_bad {l : List S31} {x : Int} (hz : ¬ newErr l x = 0) : (orderOf l).2 = newErr l x ∨ (orderOf l).2 = 0 ∧ newErr l x = 1 ∧ (x < 1 ∨ 16 < x) := by
  unfold newErr at *
  by_cases he : (orderOf l).2 ≠ 0
  · rw [if_pos he]; exact .inl rfl
  · rw [if_neg he] at hz ⊢
    by_cases h : x < 1 ∨ 16 < x
    · rw [if_pos h]; exact .inr ⟨by omega, rfl, h⟩
    · rw [if_neg h] at hz; exact absurd rfl hz
set_option maxHeartbeats 4000000 in
set_option maxRecDepth 100000 in
theorem carlinglaw22_SchedAlone.calls (A0 : Option Addr) (c0 : Nat) (l0 : List (S31)) (a1 : Int) (r : Bool) (w : World) (hr0 : Kd.C k31 w A0 l0.length l0) (hc0 : l0.length ≤ c0) (h : carlinglaw22_SchedAlone.f l0 a1 = some r) :
    Calls Try.prog 13 #[.slice A0 l0.length c0, .int .i64 a1] w fun e w' => e = .returned (.bool r) ∧ Below w.heap.size w w' := by
  obtain rfl : true = r := Option.some.inj h
  clear h
  obtain ⟨b, e1, e2⟩ := light_ends l0
  obtain ⟨k, hk⟩ := e1.get
  have HR0 := Aside0.mk hr0
  have HK := Hid1.mk hk
  clear e1 hk hr0
  cases b with
  | false =>
    clear e2
    go_enter Try.func13, Try.ntmps13
    go_wp2_with (first
      | (go_at_call 24; refine (awake_any w).mono ?_; rintro e w1 ⟨rfl, hb⟩; have HB1 := Aside0.mk hb; clear hb)
      | (go_at_call 15; refine (carlingref21_Light.calls k A0 c0 l0 false w1 (Kd.C_below HR0.out HB1.out) hc0 HK.out).mono ?_; rintro e w2 ⟨rfl, hd⟩; have HB2 := Aside0.mk (below_step HB1.out hd.below); clear hd))
    go_ret
    exact ⟨rfl, HB2.out⟩
  | true =>
    obtain ⟨hf, hl⟩ := e2 rfl
    clear e2
    have hol := Pure.orderOf_len l0
    have HF := Hid1.mk hf
    clear hf
    by_cases hz : newErr l0 a1 = 0
    · obtain ⟨ho0, hx1, hx2⟩ := new_rng hz
      obtain ⟨hm, hov⟩ := alone_end hz
      have hg := good_new HF.out hx2 []
      have hl0 : (newSt l0 a1 []).l = l0 := rfl
      have hm0 : (newSt l0 a1 []).made = [] := rfl
      have HN := fun w hC => new_ok (w := w) (A0 := A0) (c0 := c0) (x := a1) (A1 := none) (c1 := 0) (d0 := []) hC hc0 (Kd.C_nil _ _) HF.out hz
      obtain ⟨s, hsE⟩ : ∃ s, s = newSt l0 a1 [] := ⟨_, rfl⟩
      rw [← hsE] at HN hm hov hg hl0 hm0
      have hgn := playN_good hg
      have hmn := playN_made s
      have HNN := Aside0.mk HN
      have HO := Hid1.mk ho0
      have HM := Hid1.mk hm
      have HOV := Hid1.mk hov
      have HG := Hid1.mk hgn
      have HMN := Hid1.mk hmn
      have HSM := Hid1.mk hm0
      obtain ⟨k2, hk2⟩ := (same_ends (orderOf l0).1 (by omega)).get
      have HK2 := Hid1.mk hk2
      clear HN hm hov hg hsE hgn hmn hz hx1 hx2 ho0 hm0 hl0 hk2
      go_enter Try.func13, Try.ntmps13
      go_wp2_with (first
        | (go_at_call 24; refine (awake_any w).mono ?_; rintro e w1 ⟨rfl, hb⟩; have HB1 := Aside0.mk hb; clear hb)
        | (go_at_call 15; refine (carlingref21_Light.calls k A0 c0 l0 true w1 (Kd.C_below HR0.out HB1.out) hc0 HK.out).mono ?_; rintro e w2 ⟨rfl, hd⟩; have HB2 := Aside0.mk (below_step HB1.out hd.below); clear hd)
        | (go_at_call 25; refine (HNN.out _ (Kd.C_below HR0.out HB2.out)).mono ?_; rintro e w3 ⟨b, he, hs, hb⟩; subst he; have HB3 := Aside0.mk (below_step HB2.out hb); have HS3 := Aside0.mk hs; have hsz3 := below_size hb; clear hs hb)
        | (go_at_call 16; refine (order_any A0 c0 l0 w3 (Kd.C_below HR0.out HB3.out) hc0 HF.out.1 (few_need HF.out) (few_name HF.out)).mono ?_; rintro e w4 ⟨v4, he, ho, hb⟩; rw [HO.out] at he; subst he; obtain ⟨A4, c4, e4, hc4, hC4⟩ := Kd.R_reads ho; subst e4; have HO4 := Aside0.mk ho; have HB4 := Aside0.mk (below_step HB3.out hb); have HS4 := Aside0.mk ((HS3.out.more.less (K' := fun k => w3.heap.size ≤ k ∧ k < w4.heap.size) (fun k hk => .inr hk.1)).below hb); have hsz4 := below_size hb; clear ho hb hC4 HS3))
      have HFR : Aside0 (Fr (fun k => w3.heap.size ≤ k ∧ k < w4.heap.size) w2.heap.size w4 w4 w4) := ⟨⟨Below.refl _ _, Kp.start (fun k hk => hk.2)⟩⟩
      obtain ⟨K, hKE⟩ : ∃ K : Nat → Prop, K = (fun k => w3.heap.size ≤ k ∧ k < w4.heap.size) := ⟨_, rfl⟩
      rw [← hKE] at HS4 HFR
      have HKE := Hid1.mk hKE
      clear hKE
      have hw3 : wrap64 (3 * (l0.length : Int)) = ((3 * l0.length : Nat) : Int) := by rw [Pure.wrap_small (by omega) (by omega)]; omega
      have HW3 := Hid1.mk hw3
      clear hw3
      go_loopw [11] (fun v11 w' => ∃ i : Nat, i ≤ 3 * l0.length ∧ v11 = .int .i64 i ∧ Aside0 (SchedAt w' w2.heap.size b (playN s i) K) ∧ Aside0 (Fr K w2.heap.size w4 w4 w')) (fun v11 _ => 3 * l0.length - (intOf v11).toNat)
      case atStart => exact ⟨0, by omega, rfl, HS4, HFR⟩
      case round =>
        clear HS4 HFR
        obtain ⟨i, hi, rfl, HS, FR⟩ := hrel
        have hszr : w2.heap.size ≤ wr.heap.size := by
          obtain ⟨_, _, _, _, _, _, h⟩ := HS.out
          exact Nat.le_of_lt (Nat.lt_of_le_of_lt h.low (blk_lt h.blk))
        have hmi : (playN s i).made.length ≤ 1000000 := by have := HMN.out i; rw [HSM.out] at this; simp only [List.length_nil] at this; omega
        by_cases hlt : i < 3 * l0.length
        · have hlt3 : ((i : Int) < wrap64 (3 * (l0.length : Int))) = True := eq_true (by rw [HW3.out]; omega)
          go_wp2_with (go_at_call 26; refine (pick_any b (playN s i) w2.heap.size 0 w4 wr HS.out (HG.out i) hmi FR.out.below hszr (fun k hk => FR.out.kept.lt hk)).mono ?_; rintro e w5 ⟨he, hs, hb, hsz5⟩; subst he; have HS5 := Aside0.mk hs; have FR5 : Aside0 (Fr K w2.heap.size w4 w4 w5) := ⟨⟨hb.below, FR.out.kept.trans hb.kept⟩⟩; clear hs hb)
          go_roundw
          case rel => exact ⟨i + 1, by omega, by go_num, ⟨HS5.out⟩, FR5⟩
          case measure => simp [intOf]; omega
        · obtain rfl : i = 3 * l0.length := by omega
          have hlt3 : (((3 * l0.length : Nat) : Int) < wrap64 (3 * (l0.length : Int))) = False := eq_false (by rw [HW3.out]; omega)
          have hd : (playN s (3 * l0.length)).done.length ≤ 1000000 := by rw [(HG.out _).done]; exact (HG.out _).few
          go_wp2_with (first
            | (go_at_call 29; refine (done_any b (playN s (3 * l0.length)) w2.heap.size wr HS.out hszr hmi).mono ?_; rintro e w6 ⟨v6, he, hr6, hb6⟩; subst he; rw [HM.out] at hr6; obtain ⟨A6, c6, e6, hc6, hC6⟩ := Kd.R_reads hr6; subst e6; have HC6 := Aside0.mk hC6; have HB6 := Aside0.mk hb6; clear hr6 hC6 hb6)
            | (go_at_call 18; refine (carlingref06_SameInts.calls k2 A6 c6 (orderOf l0).1 A4 c4 (orderOf l0).1 true w6 HC6.out hc6 (Kd.C_below (Kd.R_reads' (Kd.R_step (Kd.R_bound HO4.out) (fun k hk hlt => (FR.out.kept k (by rw [HKE.out]; exact ⟨hk.2.1, hlt⟩)).2))).2.2 HB6.out) hc4 HK2.out).mono ?_; rintro e w7 ⟨he, hd7⟩; subst he; have HB7 := Aside0.mk (below_step HB6.out hd7.below); clear hd7)
            | (go_at_call 30; refine (over_any b (playN s (3 * l0.length)) w2.heap.size w7 (HS.out.below HB7.out) hd).mono ?_; rintro e w8 ⟨he, rfl⟩; rw [HOV.out] at he; subst he))
          go_ret
          exact ⟨rfl, HB4.out.trans ((FR.out.below.trans (HB7.out.mono hszr)).mono (below_size HB2.out))⟩
    · have hb := alone_bad hz
      have HN := fun w hC => new_bad (w := w) (A0 := A0) (c0 := c0) (x := a1) (A1 := none) (c1 := 0) (d0 := []) hC hc0 (Kd.C_nil _ _) HF.out hz
      obtain ⟨n0, hn0⟩ : ∃ n0, n0 = newErr l0 a1 := ⟨_, rfl⟩
      rw [← hn0] at hz hb HN
      obtain ⟨f0, hf0⟩ : ∃ f0, f0 = (orderOf l0).2 := ⟨_, rfl⟩
      rw [← hf0] at hb
      have HNN := Aside0.mk HN
      have HFF := Hid1.mk hf0
      clear HN hn0 hf0
      have hzb : (n0 != 0) = true := bne_iff_ne.mpr hz
      have hzf : (n0 = 0) = False := eq_false hz
      rcases hb with h1 | ⟨h1, h2, h3⟩
      · subst h1
        go_enter Try.func13, Try.ntmps13
        go_wp2_with (first
          | (go_at_call 24; refine (awake_any w).mono ?_; rintro e w1 ⟨rfl, hb⟩; have HB1 := Aside0.mk hb; clear hb)
          | (go_at_call 15; refine (carlingref21_Light.calls k A0 c0 l0 true w1 (Kd.C_below HR0.out HB1.out) hc0 HK.out).mono ?_; rintro e w2 ⟨rfl, hd⟩; have HB2 := Aside0.mk (below_step HB1.out hd.below); clear hd)
          | (go_at_call 25; refine (HNN.out _ (Kd.C_below HR0.out HB2.out)).mono ?_; rintro e w3 ⟨he, hb⟩; subst he; have HB3 := Aside0.mk (below_step HB2.out hb); clear hb)
          | (go_at_call 16; refine (order_any A0 c0 l0 w3 (Kd.C_below HR0.out HB3.out) hc0 HF.out.1 (few_need HF.out) (few_name HF.out)).mono ?_; rintro e w4 ⟨v4, he, ho, hb⟩; rw [← HFF.out] at he; subst he; have HB4 := Aside0.mk (below_step HB3.out hb); clear ho hb))
        go_ret
        exact ⟨rfl, HB4.out⟩
      · subst h1
        subst h2
        by_cases h4 : a1 < 1
        · have h4d : decide (a1 < 1) = true := decide_eq_true h4
          clear h3
          go_enter Try.func13, Try.ntmps13
          go_wp2_with (first
            | (go_at_call 24; refine (awake_any w).mono ?_; rintro e w1 ⟨rfl, hb⟩; have HB1 := Aside0.mk hb; clear hb)
            | (go_at_call 15; refine (carlingref21_Light.calls k A0 c0 l0 true w1 (Kd.C_below HR0.out HB1.out) hc0 HK.out).mono ?_; rintro e w2 ⟨rfl, hd⟩; have HB2 := Aside0.mk (below_step HB1.out hd.below); clear hd)
            | (go_at_call 25; refine (HNN.out _ (Kd.C_below HR0.out HB2.out)).mono ?_; rintro e w3 ⟨he, hb⟩; subst he; have HB3 := Aside0.mk (below_step HB2.out hb); clear hb)
            | (go_at_call 16; refine (order_any A0 c0 l0 w3 (Kd.C_below HR0.out HB3.out) hc0 HF.out.1 (few_need HF.out) (few_name HF.out)).mono ?_; rintro e w4 ⟨v4, he, ho, hb⟩; rw [← HFF.out] at he; subst he; have HB4 := Aside0.mk (below_step HB3.out hb); clear ho hb))
          go_ret
          exact ⟨rfl, HB4.out⟩
        · have h4d : decide (a1 < 1) = false := decide_eq_false h4
          have h5 := h3.resolve_left h4
          have h5d : decide (16 < a1) = true := decide_eq_true h5
          clear h3
          go_enter Try.func13, Try.ntmps13
          go_wp2_with (first
            | (go_at_call 24; refine (awake_any w).mono ?_; rintro e w1 ⟨rfl, hb⟩; have HB1 := Aside0.mk hb; clear hb)
            | (go_at_call 15; refine (carlingref21_Light.calls k A0 c0 l0 true w1 (Kd.C_below HR0.out HB1.out) hc0 HK.out).mono ?_; rintro e w2 ⟨rfl, hd⟩; have HB2 := Aside0.mk (below_step HB1.out hd.below); clear hd)
            | (go_at_call 25; refine (HNN.out _ (Kd.C_below HR0.out HB2.out)).mono ?_; rintro e w3 ⟨he, hb⟩; subst he; have HB3 := Aside0.mk (below_step HB2.out hb); clear hb)
            | (go_at_call 16; refine (order_any A0 c0 l0 w3 (Kd.C_below HR0.out HB3.out) hc0 HF.out.1 (few_need HF.out) (few_name HF.out)).mono ?_; rintro e w4 ⟨v4, he, ho, hb⟩; rw [← HFF.out] at he; subst he; have HB4 := Aside0.mk (below_step HB3.out hb); clear ho hb))
          go_ret
          exact ⟨rfl, HB4.out⟩
end Go.Proofs.Ytgjlgdohlmpnbaa.P
