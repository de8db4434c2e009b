/- The contract of sched's Pick: what a pick answers and how the scheduler stands then. Conditions: as it states. -/
import Derived.Test.YtgjlgdohlmpnbaaG6
namespace Go.Proofs.Ytgjlgdohlmpnbaa.P
set_option linter.unusedVariables false
set_option linter.unusedSimpArgs false
open Go.RowKit Go.Proofs.YtgjlgdohlmpnbaaW.PrintWords Go.Proofs.YtgjlgdohlmpnbaaW.PrintLast Go.Proofs.YtgjlgdohlmpnbaaW.PrintMore

/-- worker i goes on with job j, of phase p -/
def St.goOn (s : St) (i : Nat) (j p : Int) : St :=
  if nextOf p = 3 then { s with steps := wrap64 (s.steps + 1), jb := fun k => if k = i then 0 else s.jb k, ph := fun k => if k = i then 0 else s.ph k, done := s.done.set j.toNat true, made := s.made ++ [j] }
  else { s with steps := wrap64 (s.steps + 1), jb := fun k => if k = i then j else s.jb k, ph := fun k => if k = i then nextOf p else s.ph k }
def pickOf (s : St) (x : Int) : St × Int × Int :=
  if x < 0 ∨ s.many ≤ x then (s, -1, 0)
  else if s.jb x.toNat = 0 ∧ s.ph x.toNat = 0 then
    if leastOf s < 0 then (s, -1, 0) else (({ s with taken := s.taken.set (leastOf s).toNat true } : St).goOn x.toNat (leastOf s) 0, leastOf s, 1)
  else (s.goOn x.toNat (s.jb x.toNat) (s.ph x.toNat), s.jb x.toNat, nextOf (s.ph x.toNat))
/-- what always holds of a scheduler -/
structure Good (s : St) : Prop where
  few : s.l.length ≤ 1000000
  needs : ∀ i : Nat, (rd_T31 s.l (i : Int)).f1.length ≤ 1000000
  taken : s.taken.length = s.l.length
  done : s.done.length = s.l.length
  many : s.many ≤ 16
  work : ∀ i : Nat, i < 16 → (s.jb i = 0 ∧ s.ph i = 0) ∨ (0 ≤ s.jb i ∧ s.jb i < s.l.length ∧ 1 ≤ s.ph i ∧ s.ph i ≤ 2)
theorem least_in {s : St} (hg : Good s) (h : ¬ leastOf s < 0) : 0 ≤ leastOf s ∧ leastOf s < s.l.length := by
  have h1 := least_mem s.l s.taken (readyTo s.l s.done s.l.length) _ (Nat.le_refl _)
  unfold leastOf at h ⊢
  rcases h1 with h1 | h1
  · omega
  · have := ready_mem s.l s.done s.l.length _ h1; omega
theorem goOn_off {s : St} {i : Nat} {j p : Int} (h : ¬ nextOf p = 3) : ((({ s with steps := wrap64 (s.steps + 1) } : St).job i j).phase i (nextOf p)) = s.goOn i j p := by unfold St.goOn; rw [if_neg h]; rfl
theorem goOn_on {s : St} {i : Nat} {j p : Int} (h : nextOf p = 3) (q : Int) : ((({ (({ s with steps := wrap64 (s.steps + 1) } : St).job i j).phase i q with done := s.done.set j.toNat true, made := s.made ++ [j] } : St).job i 0).phase i 0) = s.goOn i j p := by
  unfold St.goOn
  rw [if_pos h]
  simp only [St.job, St.phase, St.mk.injEq, true_and, and_true]
  exact ⟨funext fun k => by by_cases e : k = i <;> simp [e], funext fun k => by by_cases e : k = i <;> simp [e]⟩
theorem below_on {base : Nat} {w0 w w1 : World} (h : Below base w0 w) (hb : base ≤ w.heap.size) (k : Below w.heap.size w w1) : Below base w0 w1 := h.trans (k.mono hb)
set_option maxHeartbeats 4000000 in
set_option maxRecDepth 100000 in
theorem pick_any (b : Nat) (s : St) (base : Nat) (x : Int) (w0 w : World) {K : Nat → Prop} (h : SchedAt w base b s K) (hg : Good s) (hm : s.made.length ≤ 1000000) (hB : Below base w0 w) (hbw : base ≤ w.heap.size) (hK : ∀ k, K k → k < w.heap.size) :
    Calls Try.prog 26 #[.pointer (some ⟨b, 0, none⟩), .int .i64 x] w fun e w' => e = .returned (.tuple #[.int .i64 (pickOf s x).2.1, .int .i64 (pickOf s x).2.2]) ∧ SchedAt w' base b (pickOf s x).1 K ∧ Fr K base w0 w w' ∧ base ≤ w'.heap.size := by
  obtain ⟨Al, cl, vd, vt, vm, cs, h⟩ := h
  have h1 : w.cell? ⟨b, 1, none⟩ = some (.int .i64 s.many) := (blk_cell h.blk 1).trans h.cells.c1
  have HG := Aside0.mk hg
  have HB := Aside0.mk (⟨hB, Kp.start hK⟩ : Fr K base w0 w w)
  have hKx : ¬ K w.heap.size := fun h => Nat.lt_irrefl _ (hK _ h)
  have H := Hid1.mk h
  clear hK
  have hmany := hg.many
  by_cases hx0 : x < 0
  · have hp : pickOf s x = (s, -1, 0) := by unfold pickOf; rw [if_pos (.inl hx0)]
    rw [hp]
    clear h hg hB
    have qn : decide (x < 0) = true := decide_eq_true hx0
    go_enter Try.func26, Try.ntmps26
    go_wp2
    go_ret2
    exact ⟨rfl, ⟨Al, cl, vd, vt, vm, cs, H.out⟩, HB.out, hbw⟩
  · by_cases hx1 : s.many ≤ x
    · have hp : pickOf s x = (s, -1, 0) := by unfold pickOf; rw [if_pos (.inr hx1)]
      rw [hp]
      clear h hg hB
      go_enter Try.func26, Try.ntmps26
      go_wp2
      go_ret2
      exact ⟨rfl, ⟨Al, cl, vd, vt, vm, cs, H.out⟩, HB.out, hbw⟩
    · obtain ⟨i, rfl⟩ : ∃ i : Nat, x = (i : Int) := ⟨x.toNat, by omega⟩
      have hi : i < 16 := by omega
      have hiI : ((i : Int) < 16) = True := eq_true (by omega)
      have hj : w.cell? ⟨b, 2 + i * 2, none⟩ = some (.int .i64 (s.jb i)) := (blk_cell h.blk _).trans (h.cells.job i hi)
      have hph : w.cell? ⟨b, 2 + i * 2 + 1, none⟩ = some (.int .i64 (s.ph i)) := (blk_cell h.blk _).trans (h.cells.phase i hi)
      have hw := hg.work i hi
      have hdl := hg.done
      have hlt := least_in hg
      clear hB h
      obtain ⟨xb, hxbE⟩ : ∃ xb, xb = w.heap.size := ⟨_, rfl⟩
      have hxb : base ≤ xb := by rw [hxbE]; exact hbw
      have HS0 := Aside0.mk (H.out.below (below_alloc (Below.refl _ _) (.cells #[.int .i64 (s.jb i), .int .i64 (s.ph i)] 63)))
      have HXX := Aside0.mk (blk_new w (.cells #[.int .i64 (s.jb i), .int .i64 (s.ph i)] 63))
      have HB0 := Aside0.mk (HB.out.alloc hbw (.cells #[.int .i64 (s.jb i), .int .i64 (s.ph i)] 63))
      rw [← hxbE] at HXX
      by_cases hz : s.jb i = 0 ∧ s.ph i = 0
      · by_cases hneg : leastOf s < 0
        · have hp : pickOf s (i : Int) = (s, -1, 0) := by unfold pickOf; rw [if_neg (by omega), Int.toNat_natCast, if_pos hz, if_pos hneg]
          rw [hp]
          clear hp hw hlt
          obtain ⟨j, hje⟩ : ∃ j, j = leastOf s := ⟨_, rfl⟩
          rw [← hje] at hneg
          have HJ := Hid1.mk hje
          clear hje
          rw [hz.1, hz.2] at HS0 HXX HB0
          rw [hz.1] at hj
          rw [hz.2] at hph
          have hnT : (j < 0) = True := eq_true hneg
          have hnD : decide (j < 0) = true := decide_eq_true hneg
          clear hz
          have HGG := Aside0.mk hg
          clear hg
          go_enter Try.func26, Try.ntmps26
          rw [hxbE] at HXX hxb
          go_wp2_with (go_at_call 37; refine (least_any b s base _ ⟨_, _, _, _, _, _, HS0.out⟩ HGG.out.few HGG.out.needs HGG.out.taken).mono ?_; rintro e w1 ⟨he, hb⟩; rw [← HJ.out] at he; subst he; have hx1 := blk_below HXX.out hb; have HS1 := HS0.out.below hb; have kx0 : w1.cell? ⟨w.heap.size, 0, none⟩ = some (.int .i64 0) := (blk_cell hx1 0).trans rfl; have fx0 := blk_frozen hx1 0; have HS2 := Aside0.mk (HS1.far hx1 0 (.int .i64 j)); have HB1 := Aside0.mk ((HB0.out.on (Nat.le_of_lt (Nat.lt_of_le_of_lt HS0.out.low (blk_lt HS0.out.blk))) hb).setCell (p := ⟨w.heap.size, 0, none⟩) hxb hKx (.int .i64 j)); clear HS1 hb hx1 HS0 HXX HB0)
          go_ret2
          exact ⟨rfl, ⟨_, _, _, _, _, _, HS2.out⟩, HB1.out, Nat.le_of_lt (Nat.lt_of_le_of_lt HS2.out.low (blk_lt HS2.out.blk))⟩
        · have hp : pickOf s (i : Int) = (({ s with taken := s.taken.set (leastOf s).toNat true } : St).goOn i (leastOf s) 0, leastOf s, nextOf 0) := by unfold pickOf; rw [if_neg (by omega), Int.toNat_natCast, if_pos hz, if_neg hneg]; rfl
          rw [hp]
          have hjr := hlt hneg
          clear hp hw hlt
          obtain ⟨j, hje⟩ : ∃ j, j = leastOf s := ⟨_, rfl⟩
          rw [← hje] at hneg hjr ⊢
          obtain ⟨s1, hs1⟩ : ∃ s1, s1 = ({ s with taken := s.taken.set j.toNat true } : St) := ⟨_, rfl⟩
          rw [← hs1]
          have HJ := Hid1.mk hje
          have HS1E := Hid1.mk hs1
          clear hje hs1
          rw [hz.1, hz.2] at HS0 HXX HB0
          rw [hz.1] at hj
          rw [hz.2] at hph
          have hnT : (j < 0) = False := eq_false hneg
          have hnD : decide (j < 0) = false := decide_eq_false hneg
          clear hz
          have htl := hg.taken
          have HGG := Aside0.mk hg
          clear hg
          go_enter Try.func26, Try.ntmps26
          rw [hxbE] at HXX hxb
          go_wp2_with (go_at_call 37; refine (least_any b s base _ ⟨_, _, _, _, _, _, HS0.out⟩ HGG.out.few HGG.out.needs HGG.out.taken).mono ?_; rintro e w1 ⟨he, hb⟩; rw [← HJ.out] at he; subst he; have hx1 := blk_below HXX.out hb; have HS1 := HS0.out.below hb; have kx0 : w1.cell? ⟨w.heap.size, 0, none⟩ = some (.int .i64 0) := (blk_cell hx1 0).trans rfl; have fx0 := blk_frozen hx1 0; have HS2 := Aside0.mk (HS1.far hx1 0 (.int .i64 j)); have HX2 := Aside0.mk (blk_put hx1 0 (.int .i64 j) (cs' := #[.int .i64 j, .int .i64 0]) rfl); have HB1 := Aside0.mk ((HB0.out.on (Nat.le_of_lt (Nat.lt_of_le_of_lt HS0.out.low (blk_lt HS0.out.blk))) hb).setCell (p := ⟨w.heap.size, 0, none⟩) hxb hKx (.int .i64 j)); clear HS1 hb hx1 HS0 HXX HB0)
          obtain ⟨W1, hW1⟩ : ∃ W1, W1 = w1.setCell ⟨w.heap.size, 0, none⟩ (.int .i64 j) := ⟨_, rfl⟩
          rw [← hW1] at HS2 HX2 HB1 ⊢
          clear hW1 kx0 fx0
          obtain ⟨gt, ct, evt, hgb, hglt, cellsd, hgc⟩ := Kd.R_form HS2.out.rt (by omega)
          subst evt
          have hjl : (j < (s.taken.length : Int)) = True := eq_true (by omega)
          have hj0 : (0 ≤ j) = True := eq_true (by omega)
          have HSd := HS2.out.below (below_drew1 (Below.refl W1.heap.size W1))
          have HXd : W1.drew.heap[w.heap.size]? = some (.cells #[.int .i64 j, .int .i64 0] 63 (0, 0)) := HX2.out
          have HBd := HB1.out.drew
          have k35 : W1.drew.cell? ⟨b, 35, none⟩ = some (.slice (some ⟨gt, 0, none⟩) s.taken.length ct) := (blk_cell HSd.blk 35).trans HSd.cells.c35
          have kx0 : W1.drew.cell? ⟨w.heap.size, 0, none⟩ = some (.int .i64 j) := (blk_cell HXd 0).trans rfl
          obtain ⟨cdj, fdj⟩ := Kd.R_celln false HSd.rt j (by omega) (of_eq_true hjl)
          obtain ⟨cellse, hgce⟩ := Kd.R_typed HSd.rt gt rfl
          clear HX2 HS2 HB1 hgc cellsd
          refine start_ (n := 8) (S := fun w' => w'.cell? ⟨b, 35, none⟩ = some (.slice (some ⟨gt, 0, none⟩) s.taken.length ct) ∧ w'.cell? ⟨w.heap.size, 0, none⟩ = some (.int .i64 j)) (ds := [7]) #[false, false, false, false, false, false, false, false] (by kernel_rfl) rfl rfl ⟨k35, kx0⟩ (fun hHeld => ?_)
          generalize W1.drew = Wd1 at HSd HXd HBd k35 kx0 cdj fdj hgce hHeld ⊢
          refine pure_ (i := 0) (N := some 32) (v := ?_) (a' := ?_) #[true, false, false, false, false, false, false, false] rfl rfl (by kernel_rfl) (fun _ _ _ h => h) (Or.inl ⟨by rfl, ?_⟩) ?_ ?_
          rotate_left
          · intro w'
            go_simp
            first | done | with_reducible rfl
          rotate_left
          · simp only [Act.put, List.setIfInBounds_toArray, List.set_cons_zero, List.set_cons_succ, i64_w, i32_w]
            rfl
          refine pure_ (i := 1) (N := some 33) (v := ?_) (a' := ?_) #[true, true, false, false, false, false, false, false] rfl rfl (by kernel_rfl) (fun _ _ _ h => h) (Or.inl ⟨by rfl, ?_⟩) ?_ ?_
          rotate_left
          · intro w'
            go_simp
            first | done | with_reducible rfl
          rotate_left
          · simp only [Act.put, List.setIfInBounds_toArray, List.set_cons_zero, List.set_cons_succ, i64_w, i32_w]
            rfl
          refine pure_ (i := 2) (N := some 34) (v := ?_) (a' := ?_) #[true, true, true, false, false, false, false, false] rfl rfl (by kernel_rfl) (fun _ _ _ h => h) (Or.inl ⟨by rfl, ?_⟩) ?_ ?_
          rotate_left
          · intro w'
            go_simp
            first | done | with_reducible rfl
          rotate_left
          · simp only [Act.put, List.setIfInBounds_toArray, List.set_cons_zero, List.set_cons_succ, i64_w, i32_w]
            rfl
          refine take_ (i := 3) (N := some 35) (v := ?_) (a' := ?_) #[true, true, true, true, false, false, false, false] rfl rfl (by kernel_rfl) (fun _ _ _ h => h) (Or.inl ⟨by rfl, ?_⟩) hHeld ?_ ?_
          rotate_left
          · intro w' s0
            obtain ⟨s1_, s2_⟩ := s0
            go_simp
            first | done | with_reducible rfl
          rotate_left
          · simp only [Act.put, List.setIfInBounds_toArray, List.set_cons_zero, List.set_cons_succ, i64_w, i32_w]
            rfl
          refine pure_ (i := 4) (N := some 36) (v := ?_) (a' := ?_) #[true, true, true, true, true, false, false, false] rfl rfl (by kernel_rfl) (fun _ _ _ h => h) (Or.inl ⟨by rfl, ?_⟩) ?_ ?_
          rotate_left
          · intro w'
            go_simp
            first | done | with_reducible rfl
          rotate_left
          · simp only [Act.put, List.setIfInBounds_toArray, List.set_cons_zero, List.set_cons_succ, i64_w, i32_w]
            rfl
          refine take_ (i := 5) (N := some 37) (v := ?_) (a' := ?_) #[true, true, true, true, true, true, false, false] rfl rfl (by kernel_rfl) (fun _ _ _ h => h) (Or.inl ⟨by rfl, ?_⟩) hHeld ?_ ?_
          rotate_left
          · intro w' s0
            obtain ⟨s1_, s2_⟩ := s0
            go_simp
            first | done | with_reducible rfl
          rotate_left
          · simp only [Act.put, List.setIfInBounds_toArray, List.set_cons_zero, List.set_cons_succ, i64_w, i32_w]
            rfl
          refine pure_ (i := 6) (N := some 38) (v := ?_) (a' := ?_) #[true, true, true, true, true, true, true, false] rfl rfl (by kernel_rfl) (fun _ _ _ h => h) (Or.inl ⟨by rfl, ?_⟩) ?_ ?_
          rotate_left
          · intro w'
            go_simp
            first | done | with_reducible rfl
          rotate_left
          · simp only [Act.put, List.setIfInBounds_toArray, List.set_cons_zero, List.set_cons_succ, i64_w, i32_w]
            rfl
          refine last_ (i := 7) (N := none) #[true, true, true, true, true, true, true, true] rfl rfl (by kernel_rfl) (by decide) (fun K hK => ?_)
          refine skip_ (w1 := ?_) (by rfl) rfl ?_ ?_
          rotate_left
          · go_simp
            first | done | rfl
          refine hK.out _ _ ?_
          clear hK K
          refine done_ (by kernel_rfl) ?_
          obtain ⟨hr5, hg5⟩ := Kd.R_putg HSd.rt j true
          have HS0 := Aside0.mk (HSd.take (w1 := Wd1.setCell ⟨gt, j.toNat, none⟩ (.bool true)) hg5 hr5)
          have HXX := Aside0.mk (blk_far HXd (p := ⟨gt, j.toNat, none⟩) (blk_ne HXd hgce (by decide)) (.bool true))
          have HB0 := Aside0.mk (HBd.setCell (p := ⟨gt, j.toNat, none⟩) hgb (HSd.rt.1 gt rfl).2 (.bool true))
          rw [← HS1E.out] at HS0
          clear HXd HBd k35 kx0 cdj fdj hgce hr5 hg5 HSd hjl
          obtain ⟨W5, hW5⟩ : ∃ W5, W5 = (Wd1.setCell ⟨gt, j.toNat, none⟩ (.bool true)) := ⟨_, rfl⟩
          rw [← hW5] at HS0 HXX HB0 ⊢
          have kz1 : W5.cell? ⟨w.heap.size, 1, none⟩ = some (.int .i64 0) := (blk_cell HXX.out 1).trans rfl
          clear hW5 cellse
          go_wp2_with (go_at_call 38; refine (next_any 0 _ (by omega) (by omega)).mono ?_; rintro e w1 ⟨rfl, hb⟩; have hx1 := blk_below (HXX.out) hb; have HS1 := HS0.out.below hb; have kx1 : w1.cell? ⟨w.heap.size, 1, none⟩ = some (.int .i64 0) := (blk_cell hx1 1).trans rfl; have fx1 := blk_frozen hx1 1; have HS2 := HS1.far hx1 1 (.int .i64 (nextOf 0)); have k37 : (w1.setCell ⟨w.heap.size, 1, none⟩ (.int .i64 (nextOf 0))).cell? ⟨b, 37, none⟩ = some (.int .i64 s1.steps) := (blk_cell HS2.blk 37).trans HS2.cells.c37; have f37 := blk_frozen HS2.blk 37; have HX2 := Aside0.mk (blk_put hx1 1 (.int .i64 (nextOf 0)) (cs' := #[.int .i64 j, .int .i64 (nextOf 0)]) rfl); have HS2 := Aside0.mk HS2; have HB1 := Aside0.mk (HB0.out.on (Nat.le_of_lt (Nat.lt_of_le_of_lt HS0.out.low (blk_lt HS0.out.blk))) hb); clear HS1 hb hx1 HS0 HXX HB0)
          have HS3 := HS2.out.steps (wrap64 (s1.steps + 1))
          have hne := blk_ne HX2.out HS2.out.blk (by decide)
          have HX3 := blk_far HX2.out (p := ⟨b, 37, none⟩) hne (.int .i64 (wrap64 (s1.steps + 1)))
          have HB3 := (HB1.out.setCell (p := ⟨w.heap.size, 1, none⟩) hxb hKx (.int .i64 (nextOf 0))).setCell (p := ⟨b, 37, none⟩) HS2.out.low HS2.out.nb (.int .i64 (wrap64 (s1.steps + 1)))
          clear k37 f37 kx1 fx1 HX2 HS2 HB1
          obtain ⟨W, hW⟩ : ∃ W, W = ((w1.setCell ⟨w.heap.size, 1, none⟩ (.int .i64 (nextOf 0))).setCell ⟨b, 37, none⟩ (.int .i64 (wrap64 (s1.steps + 1)))) := ⟨_, rfl⟩
          rw [← hW] at HS3 HX3 HB3 ⊢
          clear hW
          obtain ⟨S3, hS3⟩ : ∃ S3, S3 = ({ s1 with steps := wrap64 (s1.steps + 1) } : St) := ⟨_, rfl⟩
          rw [← hS3] at HS3
          have HE3 := Hid1.mk hS3
          clear hS3
          have HSd := HS3.below (below_drew1 (Below.refl W.heap.size W))
          have HB3d := HB3.drew
          have HXd : W.drew.heap[w.heap.size]? = some (.cells #[.int .i64 j, .int .i64 (nextOf 0)] 63 (0, 0)) := HX3
          have kx0 : W.drew.cell? ⟨w.heap.size, 0, none⟩ = some (.int .i64 j) := (blk_cell HXd 0).trans rfl
          have kx1 : W.drew.cell? ⟨w.heap.size, 1, none⟩ = some (.int .i64 (nextOf 0)) := (blk_cell HXd 1).trans rfl
          have cj : W.drew.cell? ⟨b, 2 + i * 2, none⟩ = some (.int .i64 (S3.jb i)) := (blk_cell HSd.blk _).trans (HSd.cells.job i hi)
          have cp : W.drew.cell? ⟨b, 2 + i * 2 + 1, none⟩ = some (.int .i64 (S3.ph i)) := (blk_cell HSd.blk _).trans (HSd.cells.phase i hi)
          have fj := blk_frozen HSd.blk (2 + i * 2)
          have fp := blk_frozen HSd.blk (2 + i * 2 + 1)
          refine start_ (n := 7) (S := fun w' => w'.cell? ⟨w.heap.size, 0, none⟩ = some (.int .i64 j) ∧ w'.cell? ⟨w.heap.size, 1, none⟩ = some (.int .i64 (nextOf 0))) (ds := [6]) #[false, false, false, false, false, false, false] (by kernel_rfl) rfl rfl ⟨kx0, kx1⟩ (fun hHeld => ?_)
          generalize W.drew = Wd at HSd HXd kx0 kx1 cj cp fj fp HB3d hHeld ⊢
          refine pure_ (i := 0) (N := some 50) (v := ?_) (a' := ?_) #[true, false, false, false, false, false, false] rfl rfl (by kernel_rfl) (fun _ _ _ h => h) (Or.inl ⟨by rfl, ?_⟩) ?_ ?_
          rotate_left
          · intro w'
            go_simp
            first | done | with_reducible rfl
          rotate_left
          · simp only [Act.put, List.setIfInBounds_toArray, List.set_cons_zero, List.set_cons_succ, i64_w, i32_w]
            rfl
          refine pure_ (i := 1) (N := some 51) (v := ?_) (a' := ?_) #[true, true, false, false, false, false, false] rfl rfl (by kernel_rfl) (fun _ _ _ h => h) (Or.inl ⟨by rfl, ?_⟩) ?_ ?_
          rotate_left
          · intro w'
            go_simp
            first | done | with_reducible rfl
          rotate_left
          · simp only [Act.put, List.setIfInBounds_toArray, List.set_cons_zero, List.set_cons_succ, i64_w, i32_w]
            rfl
          refine take_ (i := 2) (N := some 52) (v := ?_) (a' := ?_) #[true, true, true, false, false, false, false] rfl rfl (by kernel_rfl) (fun _ _ _ h => h) (Or.inl ⟨by rfl, ?_⟩) hHeld ?_ ?_
          rotate_left
          · intro w' s0
            obtain ⟨s1_, s2_⟩ := s0
            go_simp
            first | done | with_reducible rfl
          rotate_left
          · simp only [Act.put, List.setIfInBounds_toArray, List.set_cons_zero, List.set_cons_succ, i64_w, i32_w]
            rfl
          refine pure_ (i := 3) (N := some 53) (v := ?_) (a' := ?_) #[true, true, true, true, false, false, false] rfl rfl (by kernel_rfl) (fun _ _ _ h => h) (Or.inl ⟨by rfl, ?_⟩) ?_ ?_
          rotate_left
          · intro w'
            go_simp
            first | done | with_reducible rfl
          rotate_left
          · simp only [Act.put, List.setIfInBounds_toArray, List.set_cons_zero, List.set_cons_succ, i64_w, i32_w]
            rfl
          refine pure_ (i := 4) (N := some 54) (v := ?_) (a' := ?_) #[true, true, true, true, true, false, false] rfl rfl (by kernel_rfl) (fun _ _ _ h => h) (Or.inl ⟨by rfl, ?_⟩) ?_ ?_
          rotate_left
          · intro w'
            go_simp
            first | done | with_reducible rfl
          rotate_left
          · simp only [Act.put, List.setIfInBounds_toArray, List.set_cons_zero, List.set_cons_succ, i64_w, i32_w]
            rfl
          refine pure_ (i := 5) (N := some 55) (v := ?_) (a' := ?_) #[true, true, true, true, true, true, false] rfl rfl (by kernel_rfl) (fun _ _ _ h => h) (Or.inl ⟨by rfl, ?_⟩) ?_ ?_
          rotate_left
          · intro w'
            go_simp
            first | done | with_reducible rfl
          rotate_left
          · simp only [Act.put, List.setIfInBounds_toArray, List.set_cons_zero, List.set_cons_succ, i64_w, i32_w]
            rfl
          refine last_ (i := 6) (N := none) #[true, true, true, true, true, true, true] rfl rfl (by kernel_rfl) (by decide) (fun K hK => ?_)
          refine skip_ (w1 := ?_) (by rfl) rfl ?_ ?_
          rotate_left
          · go_simp
            first | done | rfl
          refine hK.out _ _ ?_
          clear hK K
          refine done_ (by kernel_rfl) ?_

          have HS4 := (HSd.job i hi j).phase i hi (nextOf 0)
          have HX4 := blk_far (blk_far HXd (p := ⟨b, 2 + i * 2, none⟩) hne (.int .i64 j)) (p := ⟨b, 2 + i * 2 + 1, none⟩) hne (.int .i64 (nextOf 0))
          have HB4 := (HB3d.setCell (p := ⟨b, 2 + i * 2, none⟩) HSd.low HSd.nb (.int .i64 j)).setCell (p := ⟨b, 2 + i * 2 + 1, none⟩) HSd.low HSd.nb (.int .i64 (nextOf 0))
          clear kx0 kx1 cj cp fj fp HXd HSd HX3 HS3 HB3 HB3d
          obtain ⟨W2, hW2⟩ : ∃ W2, W2 = ((Wd.setCell ⟨b, 2 + i * 2, none⟩ (.int .i64 j)).setCell ⟨b, 2 + i * 2 + 1, none⟩ (.int .i64 (nextOf 0))) := ⟨_, rfl⟩
          rw [← hW2] at HS4 HX4 HB4 ⊢
          clear hW2
          have kx0 : W2.cell? ⟨w.heap.size, 0, none⟩ = some (.int .i64 j) := (blk_cell HX4 0).trans rfl
          have kx1 : W2.cell? ⟨w.heap.size, 1, none⟩ = some (.int .i64 (nextOf 0)) := (blk_cell HX4 1).trans rfl
          by_cases hq3 : nextOf 0 = 3
          · exact absurd hq3 (by decide)
          · have hq3f : (nextOf 0 = 3) = False := eq_false hq3
            have hq3b : (nextOf 0 == 3) = false := beq_eq_false_iff_ne.mpr hq3
            have hq3d : decide (nextOf 0 = 3) = false := decide_eq_false hq3
            have HS4 := Aside0.mk HS4
            have HX4 := Aside0.mk HX4
            have HB4 := Aside0.mk HB4
            have HQ3 := Hid1.mk hq3
            clear hq3
            go_wp2
            go_quiet (fail)

            go_wp2
            go_ret2
            refine ⟨rfl, ?_, ?_, ?_⟩
            · rw [← goOn_off HQ3.out, ← HE3.out]
              exact ⟨_, _, _, _, _, _, HS4.out.below (pw_below_drewN (Below.refl _ _) _)⟩
            · exact HB4.out.drewN _
            · exact Nat.le_of_lt (Nat.lt_of_le_of_lt HS4.out.low (blk_lt HS4.out.blk))
      · have hz2 : 0 ≤ s.jb i ∧ s.jb i < s.l.length ∧ 1 ≤ s.ph i ∧ s.ph i ≤ 2 := hw.resolve_left hz
        have hp : pickOf s (i : Int) = (s.goOn i (s.jb i) (s.ph i), s.jb i, nextOf (s.ph i)) := by unfold pickOf; rw [if_neg (by omega), Int.toNat_natCast, if_neg hz]
        rw [hp]
        clear hp hw hlt hg
        obtain ⟨j, hje⟩ : ∃ j, j = s.jb i := ⟨_, rfl⟩
        obtain ⟨p, hpe⟩ : ∃ p, p = s.ph i := ⟨_, rfl⟩
        rw [← hje] at hj hz2 hz HS0 HXX HB0 ⊢
        rw [← hpe] at hph hz2 hz HS0 HXX HB0 ⊢
        have HE := Hid1.mk (And.intro hje hpe)
        clear hje hpe
        have hp0 : (p = 0) = False := eq_false (by omega)
        go_enter Try.func26, Try.ntmps26
        rw [hxbE] at HXX hxb
        go_wp2_with (go_at_call 38; refine (next_any p _ (by omega) (by omega)).mono ?_; rintro e w1 ⟨rfl, hb⟩; have hx1 := blk_below (HXX.out) hb; have HS1 := HS0.out.below hb; have kx1 : w1.cell? ⟨w.heap.size, 1, none⟩ = some (.int .i64 p) := (blk_cell hx1 1).trans rfl; have fx1 := blk_frozen hx1 1; have HS2 := HS1.far hx1 1 (.int .i64 (nextOf p)); have k37 : (w1.setCell ⟨w.heap.size, 1, none⟩ (.int .i64 (nextOf p))).cell? ⟨b, 37, none⟩ = some (.int .i64 s.steps) := (blk_cell HS2.blk 37).trans HS2.cells.c37; have f37 := blk_frozen HS2.blk 37; have HX2 := Aside0.mk (blk_put hx1 1 (.int .i64 (nextOf p)) (cs' := #[.int .i64 j, .int .i64 (nextOf p)]) rfl); have HS2 := Aside0.mk HS2; have HB1 := Aside0.mk (HB0.out.on (Nat.le_of_lt (Nat.lt_of_le_of_lt HS0.out.low (blk_lt HS0.out.blk))) hb); clear HS1 hb hx1 HS0 HXX HB0)
        have HS3 := HS2.out.steps (wrap64 (s.steps + 1))
        have hne := blk_ne HX2.out HS2.out.blk (by decide)
        have HX3 := blk_far HX2.out (p := ⟨b, 37, none⟩) hne (.int .i64 (wrap64 (s.steps + 1)))
        have HB3 := (HB1.out.setCell (p := ⟨w.heap.size, 1, none⟩) hxb hKx (.int .i64 (nextOf p))).setCell (p := ⟨b, 37, none⟩) HS2.out.low HS2.out.nb (.int .i64 (wrap64 (s.steps + 1)))
        clear k37 f37 kx1 fx1 HX2 HS2 HB1
        obtain ⟨W, hW⟩ : ∃ W, W = ((w1.setCell ⟨w.heap.size, 1, none⟩ (.int .i64 (nextOf p))).setCell ⟨b, 37, none⟩ (.int .i64 (wrap64 (s.steps + 1)))) := ⟨_, rfl⟩
        rw [← hW] at HS3 HX3 HB3 ⊢
        clear hW
        obtain ⟨S3, hS3⟩ : ∃ S3, S3 = ({ s with steps := wrap64 (s.steps + 1) } : St) := ⟨_, rfl⟩
        rw [← hS3] at HS3
        have HE3 := Hid1.mk hS3
        clear hS3
        have HSd := HS3.below (below_drew1 (Below.refl W.heap.size W))
        have HB3d := HB3.drew
        have HXd : W.drew.heap[w.heap.size]? = some (.cells #[.int .i64 j, .int .i64 (nextOf p)] 63 (0, 0)) := HX3
        have kx0 : W.drew.cell? ⟨w.heap.size, 0, none⟩ = some (.int .i64 j) := (blk_cell HXd 0).trans rfl
        have kx1 : W.drew.cell? ⟨w.heap.size, 1, none⟩ = some (.int .i64 (nextOf p)) := (blk_cell HXd 1).trans rfl
        have cj : W.drew.cell? ⟨b, 2 + i * 2, none⟩ = some (.int .i64 (S3.jb i)) := (blk_cell HSd.blk _).trans (HSd.cells.job i hi)
        have cp : W.drew.cell? ⟨b, 2 + i * 2 + 1, none⟩ = some (.int .i64 (S3.ph i)) := (blk_cell HSd.blk _).trans (HSd.cells.phase i hi)
        have fj := blk_frozen HSd.blk (2 + i * 2)
        have fp := blk_frozen HSd.blk (2 + i * 2 + 1)
        refine start_ (n := 7) (S := fun w' => w'.cell? ⟨w.heap.size, 0, none⟩ = some (.int .i64 j) ∧ w'.cell? ⟨w.heap.size, 1, none⟩ = some (.int .i64 (nextOf p))) (ds := [6]) #[false, false, false, false, false, false, false] (by kernel_rfl) rfl rfl ⟨kx0, kx1⟩ (fun hHeld => ?_)
        generalize W.drew = Wd at HSd HXd kx0 kx1 cj cp fj fp HB3d hHeld ⊢
        refine pure_ (i := 0) (N := some 50) (v := ?_) (a' := ?_) #[true, false, false, false, false, false, false] rfl rfl (by kernel_rfl) (fun _ _ _ h => h) (Or.inl ⟨by rfl, ?_⟩) ?_ ?_
        rotate_left
        · intro w'
          go_simp
          first | done | with_reducible rfl
        rotate_left
        · simp only [Act.put, List.setIfInBounds_toArray, List.set_cons_zero, List.set_cons_succ, i64_w, i32_w]
          rfl
        refine pure_ (i := 1) (N := some 51) (v := ?_) (a' := ?_) #[true, true, false, false, false, false, false] rfl rfl (by kernel_rfl) (fun _ _ _ h => h) (Or.inl ⟨by rfl, ?_⟩) ?_ ?_
        rotate_left
        · intro w'
          go_simp
          first | done | with_reducible rfl
        rotate_left
        · simp only [Act.put, List.setIfInBounds_toArray, List.set_cons_zero, List.set_cons_succ, i64_w, i32_w]
          rfl
        refine take_ (i := 2) (N := some 52) (v := ?_) (a' := ?_) #[true, true, true, false, false, false, false] rfl rfl (by kernel_rfl) (fun _ _ _ h => h) (Or.inl ⟨by rfl, ?_⟩) hHeld ?_ ?_
        rotate_left
        · intro w' s0
          obtain ⟨s1_, s2_⟩ := s0
          go_simp
          first | done | with_reducible rfl
        rotate_left
        · simp only [Act.put, List.setIfInBounds_toArray, List.set_cons_zero, List.set_cons_succ, i64_w, i32_w]
          rfl
        refine pure_ (i := 3) (N := some 53) (v := ?_) (a' := ?_) #[true, true, true, true, false, false, false] rfl rfl (by kernel_rfl) (fun _ _ _ h => h) (Or.inl ⟨by rfl, ?_⟩) ?_ ?_
        rotate_left
        · intro w'
          go_simp
          first | done | with_reducible rfl
        rotate_left
        · simp only [Act.put, List.setIfInBounds_toArray, List.set_cons_zero, List.set_cons_succ, i64_w, i32_w]
          rfl
        refine pure_ (i := 4) (N := some 54) (v := ?_) (a' := ?_) #[true, true, true, true, true, false, false] rfl rfl (by kernel_rfl) (fun _ _ _ h => h) (Or.inl ⟨by rfl, ?_⟩) ?_ ?_
        rotate_left
        · intro w'
          go_simp
          first | done | with_reducible rfl
        rotate_left
        · simp only [Act.put, List.setIfInBounds_toArray, List.set_cons_zero, List.set_cons_succ, i64_w, i32_w]
          rfl
        refine pure_ (i := 5) (N := some 55) (v := ?_) (a' := ?_) #[true, true, true, true, true, true, false] rfl rfl (by kernel_rfl) (fun _ _ _ h => h) (Or.inl ⟨by rfl, ?_⟩) ?_ ?_
        rotate_left
        · intro w'
          go_simp
          first | done | with_reducible rfl
        rotate_left
        · simp only [Act.put, List.setIfInBounds_toArray, List.set_cons_zero, List.set_cons_succ, i64_w, i32_w]
          rfl
        refine last_ (i := 6) (N := none) #[true, true, true, true, true, true, true] rfl rfl (by kernel_rfl) (by decide) (fun K hK => ?_)
        refine skip_ (w1 := ?_) (by rfl) rfl ?_ ?_
        rotate_left
        · go_simp
          first | done | rfl
        refine hK.out _ _ ?_
        clear hK K
        refine done_ (by kernel_rfl) ?_

        have HS4 := (HSd.job i hi j).phase i hi (nextOf p)
        have HX4 := blk_far (blk_far HXd (p := ⟨b, 2 + i * 2, none⟩) hne (.int .i64 j)) (p := ⟨b, 2 + i * 2 + 1, none⟩) hne (.int .i64 (nextOf p))
        have HB4 := (HB3d.setCell (p := ⟨b, 2 + i * 2, none⟩) HSd.low HSd.nb (.int .i64 j)).setCell (p := ⟨b, 2 + i * 2 + 1, none⟩) HSd.low HSd.nb (.int .i64 (nextOf p))
        clear kx0 kx1 cj cp fj fp HXd HSd HX3 HS3 HB3 HB3d
        obtain ⟨W2, hW2⟩ : ∃ W2, W2 = ((Wd.setCell ⟨b, 2 + i * 2, none⟩ (.int .i64 j)).setCell ⟨b, 2 + i * 2 + 1, none⟩ (.int .i64 (nextOf p))) := ⟨_, rfl⟩
        rw [← hW2] at HS4 HX4 HB4 ⊢
        clear hW2
        have kx0 : W2.cell? ⟨w.heap.size, 0, none⟩ = some (.int .i64 j) := (blk_cell HX4 0).trans rfl
        have kx1 : W2.cell? ⟨w.heap.size, 1, none⟩ = some (.int .i64 (nextOf p)) := (blk_cell HX4 1).trans rfl
        by_cases hq3 : nextOf p = 3
        · rw [hq3] at kx1 HX4
          have HQ3 := Hid1.mk hq3
          have hd4 : ((S3.job i j).phase i (nextOf p)).done = s.done := by rw [HE3.out]; rfl
          have hm4 : ((S3.job i j).phase i (nextOf p)).made = s.made := by rw [HE3.out]; rfl
          obtain ⟨S4, hS4⟩ : ∃ S4, S4 = ((S3.job i j).phase i (nextOf p)) := ⟨_, rfl⟩
          rw [← hS4] at HS4 hd4 hm4
          have hdone := hdl
          obtain ⟨gd, cd, evd, hgb, hglt, cellsd, hgc⟩ := Kd.R_form HS4.rd (by rw [hd4]; omega)
          subst evd
          go_wp2
          have HE4 := Hid1.mk hS4
          have HDM := Hid1.mk (And.intro hd4 hm4)
          have hjl : (j < (S4.done.length : Int)) = True := eq_true (by rw [hd4]; omega)
          have hj0 : (0 ≤ j) = True := eq_true (by omega)
          clear hS4 hd4 hm4 hq3
          have HSd := HS4.below (below_drew1 (Below.refl W2.heap.size W2))
          have HXd : W2.drew.heap[w.heap.size]? = some (.cells #[.int .i64 j, .int .i64 3] 63 (0, 0)) := HX4
          have HBd := HB4.drew
          have k34 : W2.drew.cell? ⟨b, 34, none⟩ = some (.slice (some ⟨gd, 0, none⟩) S4.done.length cd) := (blk_cell HSd.blk 34).trans HSd.cells.c34
          have kx0 : W2.drew.cell? ⟨w.heap.size, 0, none⟩ = some (.int .i64 j) := (blk_cell HXd 0).trans rfl
          obtain ⟨cdj, fdj⟩ := Kd.R_celln false HSd.rd j (by omega) (of_eq_true hjl)
          obtain ⟨cellse, hgce⟩ := Kd.R_typed HSd.rd gd rfl
          clear kx1 HX4 HB4 HS4 hgc cellsd
          refine start_ (n := 8) (S := fun w' => w'.cell? ⟨b, 34, none⟩ = some (.slice (some ⟨gd, 0, none⟩) S4.done.length cd) ∧ w'.cell? ⟨w.heap.size, 0, none⟩ = some (.int .i64 j)) (ds := [7]) #[false, false, false, false, false, false, false, false] (by kernel_rfl) rfl rfl ⟨k34, kx0⟩ (fun hHeld => ?_)
          generalize W2.drew = Wd2 at HSd HXd HBd k34 kx0 cdj fdj hgce hHeld ⊢
          refine pure_ (i := 0) (N := some 59) (v := ?_) (a' := ?_) #[true, false, false, false, false, false, false, false] rfl rfl (by kernel_rfl) (fun _ _ _ h => h) (Or.inl ⟨by rfl, ?_⟩) ?_ ?_
          rotate_left
          · intro w'
            go_simp
            first | done | with_reducible rfl
          rotate_left
          · simp only [Act.put, List.setIfInBounds_toArray, List.set_cons_zero, List.set_cons_succ, i64_w, i32_w]
            rfl
          refine pure_ (i := 1) (N := some 60) (v := ?_) (a' := ?_) #[true, true, false, false, false, false, false, false] rfl rfl (by kernel_rfl) (fun _ _ _ h => h) (Or.inl ⟨by rfl, ?_⟩) ?_ ?_
          rotate_left
          · intro w'
            go_simp
            first | done | with_reducible rfl
          rotate_left
          · simp only [Act.put, List.setIfInBounds_toArray, List.set_cons_zero, List.set_cons_succ, i64_w, i32_w]
            rfl
          refine pure_ (i := 2) (N := some 61) (v := ?_) (a' := ?_) #[true, true, true, false, false, false, false, false] rfl rfl (by kernel_rfl) (fun _ _ _ h => h) (Or.inl ⟨by rfl, ?_⟩) ?_ ?_
          rotate_left
          · intro w'
            go_simp
            first | done | with_reducible rfl
          rotate_left
          · simp only [Act.put, List.setIfInBounds_toArray, List.set_cons_zero, List.set_cons_succ, i64_w, i32_w]
            rfl
          refine take_ (i := 3) (N := some 62) (v := ?_) (a' := ?_) #[true, true, true, true, false, false, false, false] rfl rfl (by kernel_rfl) (fun _ _ _ h => h) (Or.inl ⟨by rfl, ?_⟩) hHeld ?_ ?_
          rotate_left
          · intro w' s0
            obtain ⟨s1_, s2_⟩ := s0
            go_simp
            first | done | with_reducible rfl
          rotate_left
          · simp only [Act.put, List.setIfInBounds_toArray, List.set_cons_zero, List.set_cons_succ, i64_w, i32_w]
            rfl
          refine pure_ (i := 4) (N := some 63) (v := ?_) (a' := ?_) #[true, true, true, true, true, false, false, false] rfl rfl (by kernel_rfl) (fun _ _ _ h => h) (Or.inl ⟨by rfl, ?_⟩) ?_ ?_
          rotate_left
          · intro w'
            go_simp
            first | done | with_reducible rfl
          rotate_left
          · simp only [Act.put, List.setIfInBounds_toArray, List.set_cons_zero, List.set_cons_succ, i64_w, i32_w]
            rfl
          refine take_ (i := 5) (N := some 64) (v := ?_) (a' := ?_) #[true, true, true, true, true, true, false, false] rfl rfl (by kernel_rfl) (fun _ _ _ h => h) (Or.inl ⟨by rfl, ?_⟩) hHeld ?_ ?_
          rotate_left
          · intro w' s0
            obtain ⟨s1_, s2_⟩ := s0
            go_simp
            first | done | with_reducible rfl
          rotate_left
          · simp only [Act.put, List.setIfInBounds_toArray, List.set_cons_zero, List.set_cons_succ, i64_w, i32_w]
            rfl
          refine pure_ (i := 6) (N := some 65) (v := ?_) (a' := ?_) #[true, true, true, true, true, true, true, false] rfl rfl (by kernel_rfl) (fun _ _ _ h => h) (Or.inl ⟨by rfl, ?_⟩) ?_ ?_
          rotate_left
          · intro w'
            go_simp
            first | done | with_reducible rfl
          rotate_left
          · simp only [Act.put, List.setIfInBounds_toArray, List.set_cons_zero, List.set_cons_succ, i64_w, i32_w]
            rfl
          refine last_ (i := 7) (N := none) #[true, true, true, true, true, true, true, true] rfl rfl (by kernel_rfl) (by decide) (fun K hK => ?_)
          refine skip_ (w1 := ?_) (by rfl) rfl ?_ ?_
          rotate_left
          · go_simp
            first | done | rfl
          refine hK.out _ _ ?_
          clear hK K
          refine done_ (by kernel_rfl) ?_
          obtain ⟨hr5, hg5⟩ := Kd.R_putg HSd.rd j true
          have HS5 := HSd.finish (w1 := Wd2.setCell ⟨gd, j.toNat, none⟩ (.bool true)) hg5 hr5
          have HX5 := blk_far HXd (p := ⟨gd, j.toNat, none⟩) (blk_ne HXd hgce (by decide)) (.bool true)
          have HB5 := HBd.setCell (p := ⟨gd, j.toNat, none⟩) hgb (HSd.rd.1 gd rfl).2 (.bool true)
          clear HXd HBd k34 kx0 cdj fdj hgce hr5 hg5 HSd hjl
          obtain ⟨W5, hW5⟩ : ∃ W5, W5 = (Wd2.setCell ⟨gd, j.toNat, none⟩ (.bool true)) := ⟨_, rfl⟩
          rw [← hW5] at HS5 HX5 HB5 ⊢
          clear hW5 cellse
          have hml : S4.made.length ≤ 1000000 := by rw [HDM.out.2]; exact hm
          obtain ⟨Am, cm, evm⟩ := Kd.R_slice HS5.rm
          subst evm
          go_wp2
          have HSd := HS5.below (below_drew1 (Below.refl W5.heap.size W5))
          have HXd : W5.drew.heap[w.heap.size]? = some (.cells #[.int .i64 j, .int .i64 3] 63 (0, 0)) := HX5
          have HBd := HB5.drew
          have k36 : W5.drew.cell? ⟨b, 36, none⟩ = some (.slice Am S4.made.length cm) := (blk_cell HSd.blk 36).trans HSd.cells.c36
          have kx0 : W5.drew.cell? ⟨w.heap.size, 0, none⟩ = some (.int .i64 j) := (blk_cell HXd 0).trans rfl
          clear HX5 HB5 HS5
          refine start_ (n := 12) (S := fun w' => w'.cell? ⟨b, 36, none⟩ = some (.slice Am S4.made.length cm) ∧ w'.cell? ⟨w.heap.size, 0, none⟩ = some (.int .i64 j)) (ds := [11]) #[false, false, false, false, false, false, false, false, false, false, false, false] (by kernel_rfl) rfl rfl ⟨k36, kx0⟩ (fun hHeld => ?_)
          generalize W5.drew = Wd3 at HSd HXd HBd k36 kx0 hHeld ⊢
          refine pure_ (i := 0) (N := some 66) (v := ?_) (a' := ?_) #[true, false, false, false, false, false, false, false, false, false, false, false] rfl rfl (by kernel_rfl) (fun _ _ _ h => h) (Or.inl ⟨by rfl, ?_⟩) ?_ ?_
          rotate_left
          · intro w'
            go_simp
            first | done | with_reducible rfl
          rotate_left
          · simp only [Act.put, List.setIfInBounds_toArray, List.set_cons_zero, List.set_cons_succ, i64_w, i32_w]
            rfl
          refine pure_ (i := 1) (N := some 67) (v := ?_) (a' := ?_) #[true, true, false, false, false, false, false, false, false, false, false, false] rfl rfl (by kernel_rfl) (fun _ _ _ h => h) (Or.inl ⟨by rfl, ?_⟩) ?_ ?_
          rotate_left
          · intro w'
            go_simp
            first | done | with_reducible rfl
          rotate_left
          · simp only [Act.put, List.setIfInBounds_toArray, List.set_cons_zero, List.set_cons_succ, i64_w, i32_w]
            rfl
          refine pure_ (i := 2) (N := some 68) (v := ?_) (a' := ?_) #[true, true, true, false, false, false, false, false, false, false, false, false] rfl rfl (by kernel_rfl) (fun _ _ _ h => h) (Or.inl ⟨by rfl, ?_⟩) ?_ ?_
          rotate_left
          · intro w'
            go_simp
            first | done | with_reducible rfl
          rotate_left
          · simp only [Act.put, List.setIfInBounds_toArray, List.set_cons_zero, List.set_cons_succ, i64_w, i32_w]
            rfl
          refine pure_ (i := 3) (N := some 69) (v := ?_) (a' := ?_) #[true, true, true, true, false, false, false, false, false, false, false, false] rfl rfl (by kernel_rfl) (fun _ _ _ h => h) (Or.inl ⟨by rfl, ?_⟩) ?_ ?_
          rotate_left
          · intro w'
            go_simp
            first | done | with_reducible rfl
          rotate_left
          · simp only [Act.put, List.setIfInBounds_toArray, List.set_cons_zero, List.set_cons_succ, i64_w, i32_w]
            rfl
          refine take_ (i := 4) (N := some 70) (v := ?_) (a' := ?_) #[true, true, true, true, true, false, false, false, false, false, false, false] rfl rfl (by kernel_rfl) (fun _ _ _ h => h) (Or.inl ⟨by rfl, ?_⟩) hHeld ?_ ?_
          rotate_left
          · intro w' s0
            obtain ⟨s1_, s2_⟩ := s0
            go_simp
            first | done | with_reducible rfl
          rotate_left
          · simp only [Act.put, List.setIfInBounds_toArray, List.set_cons_zero, List.set_cons_succ, i64_w, i32_w]
            rfl
          refine pure_ (i := 5) (N := some 71) (v := ?_) (a' := ?_) #[true, true, true, true, true, true, false, false, false, false, false, false] rfl rfl (by kernel_rfl) (fun _ _ _ h => h) (Or.inl ⟨by rfl, ?_⟩) ?_ ?_
          rotate_left
          · intro w'
            go_simp
            first | done | with_reducible rfl
          rotate_left
          · simp only [Act.put, List.setIfInBounds_toArray, List.set_cons_zero, List.set_cons_succ, i64_w, i32_w]
            rfl
          refine take_ (i := 6) (N := some 72) (v := ?_) (a' := ?_) #[true, true, true, true, true, true, true, false, false, false, false, false] rfl rfl (by kernel_rfl) (fun _ _ _ h => h) (Or.inl ⟨by rfl, ?_⟩) hHeld ?_ ?_
          rotate_left
          · intro w' s0
            obtain ⟨s1_, s2_⟩ := s0
            go_simp
            first | done | with_reducible rfl
          rotate_left
          · simp only [Act.put, List.setIfInBounds_toArray, List.set_cons_zero, List.set_cons_succ, i64_w, i32_w]
            rfl
          refine one_ (i := 7) (N := some 73) #[true, true, true, true, true, true, true, true, false, false, false, false] rfl rfl (by kernel_rfl) (by decide) (fun K hK => ?_)
          refine value_ (w1 := ?_) (v := ?_) (by rfl) rfl ?_ ?_
          rotate_left 2
          · go_simp
            first | done | rfl | (constructor <;> rfl)
          refine hK.out _ _ ⟨alloc_cell' hHeld.1 _, alloc_cell' hHeld.2 _⟩ (fun hHeld => ?_)
          clear hK K
          refine norm_ (a' := ?_) ?_ ?_
          rotate_left
          · simp only [Act.put, List.setIfInBounds_toArray, List.set_cons_zero, List.set_cons_succ]
            rfl
          refine one_ (i := 8) (N := some 74) #[true, true, true, true, true, true, true, true, true, false, false, false] rfl rfl (by kernel_rfl) (by decide) (fun K hK => ?_)
          refine Kd.R_append_step (Kd.int .i64) (w0 := w0) base (by rfl) (.tmp 70) (.tmp 73) 25 3 (.int .i64 0) 8 rfl Try.underlying25 info3 rfl (by decide) (by omega) _ S4.made j [.int .i64 j] _ (fun _ => False) rfl rfl rfl (fun _ hk => hk.elim) (fun _ hk => HBd.kept.fresh hk) HSd.rm HBd.below (Nat.le_of_lt (Nat.lt_of_le_of_lt HSd.low (blk_lt HSd.blk))) (by omega) ?_
          intro v1 wa hoa hba hga hata
          obtain ⟨Av, cv, ev⟩ := Kd.R_slice hoa
          rw [show (S4.made ++ [j]).length = S4.made.length + 1 by simp] at ev
          subst ev
          have hnb := HSd.typed_ne (Kd.R_typed HSd.rm) (by decide)
          have hnx : some w.heap.size ≠ (Value.slice Am S4.made.length cm).ownBlock := fun eq => by obtain ⟨c, hc⟩ := Kd.R_typed HSd.rm w.heap.size eq.symm; exact blk_ne HXd hc (by decide) rfl
          have k36 := (blk_cell (blk_grown HSd.blk hga hnb) 36).trans HSd.cells.c36
          have f36 := blk_frozen (blk_grown HSd.blk hga hnb) 36
          refine hK.out _ _ ⟨k36, (blk_cell (blk_grown HXd hga hnx) 0).trans rfl⟩ (fun hHeld => ?_)
          clear hK K
          have HGa := Aside0.mk hga
          have HOa := Aside0.mk hoa
          have HATa := Aside0.mk hata
          have HBa := Aside0.mk (⟨hba, HBd.kept.grown hga (fun k hk => HSd.rm.1 k hk)⟩ : Fr K base w0 w wa)
          have HNX := Aside0.mk hnx
          clear hga hoa hata hba hnx hnb
          refine norm_ (a' := ?_) ?_ ?_
          rotate_left
          · show Act.put _ (some 74) _ = _
            simp only [Act.put, List.setIfInBounds_toArray, List.set_cons_zero, List.set_cons_succ]
            rfl
          refine pure_ (i := 9) (N := some 75) (v := ?_) (a' := ?_) #[true, true, true, true, true, true, true, true, true, true, false, false] rfl rfl (by kernel_rfl) (fun _ _ _ h => h) (Or.inl ⟨by rfl, ?_⟩) ?_ ?_
          rotate_left
          · intro w'
            go_simp
            first | done | with_reducible rfl
          rotate_left
          · simp only [Act.put, List.setIfInBounds_toArray, List.set_cons_zero, List.set_cons_succ, i64_w, i32_w]
            rfl
          refine pure_ (i := 10) (N := some 76) (v := ?_) (a' := ?_) #[true, true, true, true, true, true, true, true, true, true, true, false] rfl rfl (by kernel_rfl) (fun _ _ _ h => h) (Or.inl ⟨by rfl, ?_⟩) ?_ ?_
          rotate_left
          · intro w'
            go_simp
            first | done | with_reducible rfl
          rotate_left
          · simp only [Act.put, List.setIfInBounds_toArray, List.set_cons_zero, List.set_cons_succ, i64_w, i32_w]
            rfl
          refine last_ (i := 11) (N := none) #[true, true, true, true, true, true, true, true, true, true, true, true] rfl rfl (by kernel_rfl) (by decide) (fun K hK => ?_)
          refine skip_ (w1 := ?_) (by rfl) rfl ?_ ?_
          rotate_left
          · go_simp
            first | done | rfl
          refine hK.out _ _ ?_
          clear hK K
          refine done_ (by kernel_rfl) ?_
          have HS6 := HSd.make HGa.out HOa.out HATa.out
          have HX6 := blk_far (blk_grown HXd HGa.out HNX.out) (p := ⟨b, 36, none⟩) hne (.slice Av (S4.made.length + 1) cv)
          have HB6 := HBa.out.setCell (p := ⟨b, 36, none⟩) HSd.low HSd.nb (.slice Av (S4.made.length + 1) cv)
          clear HXd HBd k36 kx0 HSd HGa HOa HATa HNX HBa
          obtain ⟨W6, hW6⟩ : ∃ W6, W6 = (wa.setCell ⟨b, 36, none⟩ (.slice Av (S4.made.length + 1) cv)) := ⟨_, rfl⟩
          rw [← hW6] at HS6 HX6 HB6 ⊢
          clear hW6
          have cj : W6.cell? ⟨b, 2 + i * 2, none⟩ = some (.int .i64 (S4.jb i)) := (blk_cell HS6.blk _).trans (HS6.cells.job i hi)
          have cp : W6.cell? ⟨b, 2 + i * 2 + 1, none⟩ = some (.int .i64 (S4.ph i)) := (blk_cell HS6.blk _).trans (HS6.cells.phase i hi)
          have fj := blk_frozen HS6.blk (2 + i * 2)
          have fp := blk_frozen HS6.blk (2 + i * 2 + 1)
          have HS7 := (HS6.job i hi 0).phase i hi 0
          have HX7 := blk_far (blk_far HX6 (p := ⟨b, 2 + i * 2, none⟩) hne (.int .i64 0)) (p := ⟨b, 2 + i * 2 + 1, none⟩) hne (.int .i64 0)
          have HB7 := (HB6.setCell (p := ⟨b, 2 + i * 2, none⟩) HS6.low HS6.nb (.int .i64 0)).setCell (p := ⟨b, 2 + i * 2 + 1, none⟩) HS6.low HS6.nb (.int .i64 0)
          have kx0 : ((W6.setCell ⟨b, 2 + i * 2, none⟩ (.int .i64 0)).setCell ⟨b, 2 + i * 2 + 1, none⟩ (.int .i64 0)).cell? ⟨w.heap.size, 0, none⟩ = some (.int .i64 j) := (blk_cell HX7 0).trans rfl
          have kx1 : ((W6.setCell ⟨b, 2 + i * 2, none⟩ (.int .i64 0)).setCell ⟨b, 2 + i * 2 + 1, none⟩ (.int .i64 0)).cell? ⟨w.heap.size, 1, none⟩ = some (.int .i64 3) := (blk_cell HX7 1).trans rfl
          have HS7 := Aside0.mk HS7
          have HX7 := Aside0.mk HX7
          have HB7 := Aside0.mk HB7
          clear HS6 HX6 HB6
          go_wp2
          go_quiet (fail)
          go_wp2
          go_ret2
          refine ⟨by rw [HQ3.out]; rfl, ?_, ?_, ?_⟩
          · rw [← goOn_on HQ3.out (nextOf p), ← HE3.out, ← HDM.out.1, ← HDM.out.2, ← HE4.out]
            exact ⟨_, _, _, _, _, _, HS7.out.below (pw_below_drewN (Below.refl _ _) _)⟩
          · exact HB7.out.drewN _
          · exact Nat.le_of_lt (Nat.lt_of_le_of_lt HS7.out.low (blk_lt HS7.out.blk))
        · have hq3f : (nextOf p = 3) = False := eq_false hq3
          have hq3b : (nextOf p == 3) = false := beq_eq_false_iff_ne.mpr hq3
          have hq3d : decide (nextOf p = 3) = false := decide_eq_false hq3
          have HS4 := Aside0.mk HS4
          have HX4 := Aside0.mk HX4
          have HB4 := Aside0.mk HB4
          have HQ3 := Hid1.mk hq3
          clear hq3
          go_wp2
          go_quiet (fail)

          go_wp2
          go_ret2
          refine ⟨rfl, ?_, ?_, ?_⟩
          · rw [← goOn_off HQ3.out, ← HE3.out]
            exact ⟨_, _, _, _, _, _, HS4.out.below (pw_below_drewN (Below.refl _ _) _)⟩
          · exact HB4.out.drewN _
          · exact Nat.le_of_lt (Nat.lt_of_le_of_lt HS4.out.low (blk_lt HS4.out.blk))
end Go.Proofs.Ytgjlgdohlmpnbaa.P
