/- The contracts of sched's small functions: next, Steps, Done, Over, over a state that lies in a block of its own. Conditions: as each states. -/
import Derived.Test.YtgjlgdohlmpnbaaG2
namespace Go.Proofs.Ytgjlgdohlmpnbaa.P
set_option linter.unusedVariables false
set_option linter.unusedSimpArgs false
open Go.RowKit Go.Proofs.YtgjlgdohlmpnbaaW.PrintWords Go.Proofs.YtgjlgdohlmpnbaaW.PrintLast Go.Proofs.YtgjlgdohlmpnbaaW.PrintMore

/-- a scheduler: jobs, how many workers, each one's job and phase, what is done, taken, made, the steps -/
structure St where
  l : List S31
  many : Int
  jb : Nat → Int
  ph : Nat → Int
  done : List Bool
  taken : List Bool
  made : List Int
  steps : Int
structure Blk (cs : Array Value) (s : St) (vl vd vt vm : Value) : Prop where
  size : cs.size = 38
  c0 : cs[0]? = some vl
  c1 : cs[1]? = some (.int .i64 s.many)
  job : ∀ i : Nat, i < 16 → cs[2 + i * 2]? = some (.int .i64 (s.jb i))
  phase : ∀ i : Nat, i < 16 → cs[2 + i * 2 + 1]? = some (.int .i64 (s.ph i))
  c34 : cs[34]? = some vd
  c35 : cs[35]? = some vt
  c36 : cs[36]? = some vm
  c37 : cs[37]? = some (.int .i64 s.steps)
/-- the scheduler s lies in block b -/
structure SchedOf (w : World) (base b : Nat) (s : St) (K : Nat → Prop) (Al : Option Addr) (cl : Nat) (vd vt vm : Value) (cs : Array Value) : Prop where
  nb : ¬ K b
  blk : w.heap[b]? = some (.cells cs 66 (0, 0))
  low : base ≤ b
  cells : Blk cs s (.slice Al s.l.length cl) vd vt vm
  rl : Kd.R k31 31 w base (fun k => some k ≠ vm.ownBlock ∧ ¬ K k) (.slice Al s.l.length cl) s.l
  rd : Kd.R Kd.bool 4 w base (fun k => some k ≠ vt.ownBlock ∧ ¬ K k) vd s.done
  rt : Kd.R Kd.bool 4 w base (fun k => some k ≠ vd.ownBlock ∧ ¬ K k) vt s.taken
  rm : Kd.R (Kd.int .i64) 3 w base (fun k => ¬ K k) vm s.made
def SchedAt (w : World) (base b : Nat) (s : St) (K : Nat → Prop) : Prop := ∃ Al cl vd vt vm cs, SchedOf w base b s K Al cl vd vt vm cs
/-- blocks that are kept: they were there, and hold what they held -/
def Kp (K : Nat → Prop) (w W : World) : Prop := ∀ k, K k → k < w.heap.size ∧ W.heap[k]? = w.heap[k]?
theorem Kp.start {K : Nat → Prop} {w : World} (h : ∀ k, K k → k < w.heap.size) : Kp K w w := fun k hk => ⟨h k hk, rfl⟩
theorem Kp.lt {K : Nat → Prop} {w W : World} (h : Kp K w W) {k : Nat} (hk : K k) : k < W.heap.size := by
  obtain ⟨h1, h2⟩ := h k hk
  rw [Array.getElem?_eq_getElem h1] at h2
  exact (Array.getElem?_eq_some_iff.1 h2).1
theorem Kp.fresh {K : Nat → Prop} {w W : World} (h : Kp K w W) {k : Nat} (hk : W.heap.size ≤ k) : ¬ K k := fun h2 => by have := h.lt h2; omega
theorem Kp.below {K : Nat → Prop} {w W W1 : World} (h : Kp K w W) (hb : Below W.heap.size W W1) : Kp K w W1 := fun k hk => ⟨(h k hk).1, (hb.block k (h.lt hk)).trans (h k hk).2⟩
theorem Kp.set {K : Nat → Prop} {w W : World} (h : Kp K w W) {p : Addr} (hp : ¬ K p.block) (u : Value) : Kp K w (W.setCell p u) := fun k hk => ⟨(h k hk).1, (Below.heap_setCell W p u k (fun e => hp (e ▸ hk))).trans (h k hk).2⟩
theorem Kp.grown {K : Nat → Prop} {w W W1 : World} {row : Option Nat} (h : Kp K w W) (hg : W.grownBy W1 row) (hr : ∀ k, row = some k → ¬ K k) : Kp K w W1 := fun k hk => ⟨(h k hk).1, (hg.block k (h.lt hk) (fun e => hr k e.symm hk)).trans (h k hk).2⟩
theorem Kp.trans {K : Nat → Prop} {w W W1 : World} (h : Kp K w W) (h1 : Kp K W W1) : Kp K w W1 := fun k hk => ⟨(h k hk).1, (h1 k hk).2.trans (h k hk).2⟩
theorem Kp.less {K K' : Nat → Prop} {w W : World} (h : Kp K w W) (hs : ∀ k, K' k → K k) : Kp K' w W := fun k hk => h k (hs k hk)
/-- what a call leaves: all below base as in w0, and what is kept as in w -/
structure Fr (K : Nat → Prop) (base : Nat) (w0 w W : World) : Prop where
  below : Below base w0 W
  kept : Kp K w W
section
variable {K : Nat → Prop} {base : Nat} {w0 w W W1 : World}
theorem Fr.alloc (h : Fr K base w0 w W) (hB : base ≤ W.heap.size) (o : Obj) : Fr K base w0 w (W.alloc o) := ⟨h.below.alloc hB o, h.kept.below (below_alloc (Below.refl _ _) o)⟩
theorem Fr.setCell (h : Fr K base w0 w W) {p : Addr} (hp : base ≤ p.block) (hk : ¬ K p.block) (u : Value) : Fr K base w0 w (W.setCell p u) := ⟨h.below.setCell hp u, h.kept.set hk u⟩
theorem Fr.drew (h : Fr K base w0 w W) : Fr K base w0 w W.drew := ⟨h.below.drew, fun k hk => h.kept k hk⟩
theorem Fr.drewN (h : Fr K base w0 w W) (n : Nat) : Fr K base w0 w (W.drewN n) := ⟨pw_below_drewN h.below n, fun k hk => h.kept k hk⟩
theorem Fr.on (h : Fr K base w0 w W) (hb : base ≤ W.heap.size) (k : Below W.heap.size W W1) : Fr K base w0 w W1 := ⟨h.below.trans (k.mono hb), h.kept.below k⟩
end
theorem SchedOf.below {w w1 : World} {base b : Nat} {s : St} {K : Nat → Prop} {Al : Option Addr} {cl : Nat} {vd vt vm : Value} {cs : Array Value} (h : SchedOf w base b s K Al cl vd vt vm cs) (hb : Below w.heap.size w w1) : SchedOf w1 base b s K Al cl vd vt vm cs :=
  ⟨h.nb, blk_below h.blk hb, h.low, h.cells, Kd.R_below h.rl hb, Kd.R_below h.rd hb, Kd.R_below h.rt hb, Kd.R_below h.rm hb⟩
theorem SchedAt.below {w w1 : World} {base b : Nat} {s : St} {K : Nat → Prop} (h : SchedAt w base b s K) (hb : Below w.heap.size w w1) : SchedAt w1 base b s K := by
  obtain ⟨Al, cl, vd, vt, vm, cs, h⟩ := h
  exact ⟨Al, cl, vd, vt, vm, cs, h.below hb⟩

/-- blocks that are not the scheduler's own may change -/
theorem SchedOf.other {w w1 : World} {base b : Nat} {s : St} {K : Nat → Prop} {Al : Option Addr} {cl : Nat} {vd vt vm : Value} {cs : Array Value} (h : SchedOf w base b s K Al cl vd vt vm cs) (hm : ∀ k, ¬ K k → k < w.heap.size → w1.heap[k]? = w.heap[k]?) : SchedOf w1 base b s K Al cl vd vt vm cs :=
  ⟨h.nb, (hm b h.nb (blk_lt h.blk)).trans h.blk, h.low, h.cells, Kd.R_step h.rl (fun k hk hlt => hm k hk.2 hlt), Kd.R_step h.rd (fun k hk hlt => hm k hk.2 hlt), Kd.R_step h.rt (fun k hk hlt => hm k hk.2 hlt), Kd.R_step h.rm (fun k hk hlt => hm k hk hlt)⟩
theorem SchedOf.less {w : World} {base b : Nat} {s : St} {K K' : Nat → Prop} {Al : Option Addr} {cl : Nat} {vd vt vm : Value} {cs : Array Value} (h : SchedOf w base b s K Al cl vd vt vm cs) (hs : ∀ k, K' k → K k) : SchedOf w base b s K' Al cl vd vt vm cs :=
  ⟨fun hb => h.nb (hs _ hb), h.blk, h.low, h.cells, Kd.R_mono h.rl (fun k hk => ⟨hk.1, fun h2 => hk.2 (hs _ h2)⟩), Kd.R_mono h.rd (fun k hk => ⟨hk.1, fun h2 => hk.2 (hs _ h2)⟩), Kd.R_mono h.rt (fun k hk => ⟨hk.1, fun h2 => hk.2 (hs _ h2)⟩), Kd.R_mono h.rm (fun k hk => fun h2 => hk (hs _ h2))⟩
/-- what is not there yet is none of the scheduler's -/
theorem SchedOf.more {w : World} {base b : Nat} {s : St} {K : Nat → Prop} {Al : Option Addr} {cl : Nat} {vd vt vm : Value} {cs : Array Value} (h : SchedOf w base b s K Al cl vd vt vm cs) : SchedOf w base b s (fun k => K k ∨ w.heap.size ≤ k) Al cl vd vt vm cs :=
  ⟨fun hb => hb.elim h.nb (fun h2 => by have := blk_lt h.blk; omega), h.blk, h.low, h.cells, Kd.R_mono (Kd.R_bound h.rl) (fun k hk => ⟨hk.1.1, fun h2 => h2.elim hk.1.2 (fun h3 => by have := hk.2.2.1; omega)⟩), Kd.R_mono (Kd.R_bound h.rd) (fun k hk => ⟨hk.1.1, fun h2 => h2.elim hk.1.2 (fun h3 => by have := hk.2.2.1; omega)⟩),
    Kd.R_mono (Kd.R_bound h.rt) (fun k hk => ⟨hk.1.1, fun h2 => h2.elim hk.1.2 (fun h3 => by have := hk.2.2.1; omega)⟩), Kd.R_mono (Kd.R_bound h.rm) (fun k hk => fun h2 => h2.elim hk.1 (fun h3 => by have := hk.2.2.1; omega))⟩
theorem SchedAt.other {w w1 : World} {base b : Nat} {s : St} {K : Nat → Prop} (h : SchedAt w base b s K) (hm : ∀ k, ¬ K k → k < w.heap.size → w1.heap[k]? = w.heap[k]?) : SchedAt w1 base b s K := by
  obtain ⟨Al, cl, vd, vt, vm, cs, h⟩ := h
  exact ⟨Al, cl, vd, vt, vm, cs, h.other hm⟩
theorem SchedAt.less {w : World} {base b : Nat} {s : St} {K K' : Nat → Prop} (h : SchedAt w base b s K) (hs : ∀ k, K' k → K k) : SchedAt w base b s K' := by
  obtain ⟨Al, cl, vd, vt, vm, cs, h⟩ := h
  exact ⟨Al, cl, vd, vt, vm, cs, h.less hs⟩
theorem SchedAt.more {w : World} {base b : Nat} {s : St} {K : Nat → Prop} (h : SchedAt w base b s K) : SchedAt w base b s (fun k => K k ∨ w.heap.size ≤ k) := by
  obtain ⟨Al, cl, vd, vt, vm, cs, h⟩ := h
  exact ⟨Al, cl, vd, vt, vm, cs, h.more⟩
def nextOf (p : Int) : Int := if p = 0 then 1 else if p = 1 then 2 else if p = 2 then 3 else 0
set_option maxHeartbeats 1600000 in
theorem next_any (p : Int) (w : World) (h0 : 0 ≤ p) (h3 : p ≤ 3) : Calls Try.prog 38 #[.int .i64 p] w fun e w' => e = .returned (.int .i64 (nextOf p)) ∧ Below w.heap.size w w' := by
  have hp : p = 0 ∨ p = 1 ∨ p = 2 ∨ p = 3 := by omega
  rcases hp with rfl | rfl | rfl | rfl
  all_goals
    go_enter Try.func38, Try.ntmps38
    go_wp2
    go_ret
    exact ⟨rfl, below_alloc (Below.refl _ _) _⟩
set_option maxHeartbeats 1600000 in
theorem steps_any (b : Nat) (s : St) (base : Nat) (w : World) {K : Nat → Prop} (h : SchedAt w base b s K) : Calls Try.prog 32 #[.pointer (some ⟨b, 0, none⟩)] w fun e w' => e = .returned (.int .i64 s.steps) ∧ w' = w := by
  obtain ⟨Al, cl, vd, vt, vm, cs, h⟩ := h
  have h37 : w.cell? ⟨b, 37, none⟩ = some (.int .i64 s.steps) := (blk_cell h.blk 37).trans h.cells.c37
  have H := Hid1.mk h
  clear h
  go_enter Try.func32, Try.ntmps32
  go_wp2
  go_ret
  exact ⟨rfl, rfl⟩
/-- are all done? -/
def overOf (done : List Bool) : Bool := done.all id
theorem take_all : ∀ (d : List Bool) (i : Nat), i < d.length → (d.take i).all id = true → rdOf false d (i : Int) = true → (d.take (i + 1)).all id = true
  | [], i, h, _, _ => absurd h (Nat.not_lt_zero _)
  | x :: d, 0, _, _, h => by simpa [rdOf] using h
  | x :: d, i + 1, h, h1, h2 => by
    simp only [List.take_succ_cons, List.all_cons, Bool.and_eq_true] at h1 ⊢
    exact ⟨h1.1, take_all d i (Nat.lt_of_succ_lt_succ h) h1.2 (by simpa [rdOf] using h2)⟩
theorem not_all (d : List Bool) (i : Nat) (h : i < d.length) (h2 : rdOf false d (i : Int) = false) : d.all id = false := by
  rw [List.all_eq_false]
  exact ⟨d[i], List.getElem_mem h, by have : d[i] = false := by simpa [rdOf, h] using h2
                                      rw [this]; simp⟩
set_option maxHeartbeats 1600000 in
theorem over_any (b : Nat) (s : St) (base : Nat) (w : World) {K : Nat → Prop} (h : SchedAt w base b s K) (hd : s.done.length ≤ 1000000) : Calls Try.prog 30 #[.pointer (some ⟨b, 0, none⟩)] w fun e w' => e = .returned (.bool (overOf s.done)) ∧ w' = w := by
  obtain ⟨Al, cl, vd, vt, vm, cs, h⟩ := h
  have h34 : w.cell? ⟨b, 34, none⟩ = some vd := (blk_cell h.blk 34).trans h.cells.c34
  obtain ⟨Ad, cd, rfl, hcd, hd1⟩ := Kd.R_reads h.rd
  have HD := Aside0.mk hd1
  have H := Hid1.mk h
  clear h hd1 hcd
  go_enter Try.func30, Try.ntmps30
  go_wp2
  go_loopw [10] (fun v10 w' => w' = w ∧ ∃ i : Nat, i ≤ s.done.length ∧ v10 = .int .i64 i ∧ Hid1 ((s.done.take i).all id = true)) (fun v10 _ => s.done.length - (intOf v10).toNat)
  case atStart => exact ⟨rfl, 0, by omega, rfl, ⟨by simp⟩⟩
  case round =>
    obtain ⟨rfl, i, hi, rfl, HA⟩ := hrel
    by_cases hlt : i < s.done.length
    · obtain ⟨ad, rfl, hc⟩ := Kd.at_bool HD.out (i : Int) (by omega) (by omega)
      rw [Int.toNat_natCast] at hc
      by_cases hb : rdOf false s.done (i : Int) = true
      · rw [hb] at hc
        have HB := Hid1.mk hb
        clear hb
        go_wp2
        go_roundw
        case rel => exact ⟨by first | rfl | trivial, i + 1, by omega, by go_num, ⟨take_all _ i hlt HA.out HB.out⟩⟩
        case measure => simp [intOf]; omega
      · have hb := Bool.eq_false_iff.mpr hb
        rw [hb] at hc
        have HB := Hid1.mk hb
        clear hb
        go_wp2
        go_ret
        exact ⟨ret_bool (by unfold overOf; exact (not_all _ i hlt HB.out).symm), rfl⟩
    · obtain rfl : i = s.done.length := by omega
      have HL := Hid1.mk hlt
      go_wp2
      go_ret
      exact ⟨ret_bool (by unfold overOf; rw [← HA.out, List.take_length]), rfl⟩
set_option maxHeartbeats 1600000 in
theorem done_any (b : Nat) (s : St) (base : Nat) (w : World) {K : Nat → Prop} (h : SchedAt w base b s K) (hbw : base ≤ w.heap.size) (hm : s.made.length ≤ 1000000) : Calls Try.prog 29 #[.pointer (some ⟨b, 0, none⟩)] w fun e w' => ∃ v0_ : Value, e = .returned v0_ ∧ Kd.R (Kd.int .i64) 3 w' w.heap.size (fun _ => True) v0_ s.made ∧ Below w.heap.size w w' := by
  obtain ⟨Al, cl, vd, vt, vm, cs, h⟩ := h
  have h36 : w.cell? ⟨b, 36, none⟩ = some vm := (blk_cell h.blk 36).trans h.cells.c36
  obtain ⟨Am, cm, rfl, hcm, hm1⟩ := Kd.R_reads h.rm
  have HM := Aside0.mk hm1
  have H := Hid1.mk h
  clear h hm1 hcm
  have H36 := Aside0.mk h36
  clear h36
  have HB := Aside0.mk (Below.refl w.heap.size w)
  go_enter Try.func29, Try.ntmps29
  go_wp2_with (first | ((with_reducible refine gate_dst (N := 3) rfl ?_); (try (refine gate_guard (by rfl) ?_; dsimp only)); refine Kd.R_lit (Kd.int .i64) _ 3 ?hg (N := 3) ?hd (xs := ([] : List Int)) (inner := []) (ok := fun _ => True) (okp := fun _ => True) ?hr ?hp (fun _ hk => hk) trivial HB.out (Nat.le_refl _) (by simp) ?_; (case hd => rfl); (case hg => rfl); (case hr => first | (go_simp; done) | (go_simp; rfl)); (case hp => exact Reps.none _ _); intro v3 w9 ho hb hg hnew; clear hg hnew; have h36 := pw_cell_below hb H36.out; have HO := Aside0.mk ho; have HB2 := Aside0.mk hb; clear ho hb; obtain ⟨A3, c3, e3⟩ := Kd.R_slice HO.out; subst e3) | ((with_reducible refine gate_builtin (b := .append) (xs := #[.tmp 3, .tmp 7]) rfl ?_); (try (refine gate_guard (by rfl) ?_; dsimp only)); refine Kd.R_append_row (fun i => .int .i64 i) 0 (w0 := w) w.heap.size rfl (.tmp 3) (.tmp 7) 25 3 (.int .i64 0) 8 rfl Try.underlying25 info3 rfl (by omega) _ ([] : List Int) s.made _ _ _ (fun _ => True) rfl rfl (fun _ _ => trivial) HO.out (Kd.C_below HM.out HB2.out) HB2.out (below_size HB2.out) (by simp only [List.length_nil]; omega) ?_; intro v1 w1 ho1 hb1 hg1 hat1; clear hg1 hat1))
  go_ret
  exact ⟨_, rfl, ho1, hb1⟩
end Go.Proofs.Ytgjlgdohlmpnbaa.P
