/- The document's scheduler (carlingref22): how it lies in its block; Over. Conditions: as each states. -/
import Derived.Test.YtgjlgdohlmpnbaaB8
import Derived.Test.YtgjlgdohlmpnbaaPx1
import Derived.Test.YtgjlgdohlmpnbaaPx2
namespace Go.Proofs.Ytgjlgdohlmpnbaa.P
set_option linter.unusedVariables false
set_option linter.unusedSimpArgs false
open Go.RowKit Go.Proofs.YtgjlgdohlmpnbaaW.PrintWords Go.Proofs.YtgjlgdohlmpnbaaW.PrintLast Go.Proofs.YtgjlgdohlmpnbaaW.PrintMore

structure Rs where
  l : List S31
  many : Int
  done : List Bool
  who : List Int
  phase : List Int
  steps : Int
  made : List Int
def refCells (s : Rs) (A0 : Option Addr) (c0 : Nat) (vd vw vp vm : Value) : Array Value := #[.slice A0 s.l.length c0, .int .i64 s.many, vd, vw, vp, .int .i64 s.steps, vm]
structure RefOf (w : World) (base b : Nat) (s : Rs) (K : Nat → Prop) (A0 : Option Addr) (c0 : Nat) (vd vw vp vm : Value) : Prop where
  nb : ¬ K b
  blk : w.heap[b]? = some (.cells (refCells s A0 c0 vd vw vp vm) 55 (0, 0))
  low : base ≤ b
  rd : Kd.R Kd.bool 4 w base (fun k => ¬ K k) vd s.done
  rw : Kd.R (Kd.int .i64) 3 w base (fun k => some k ≠ vp.ownBlock ∧ some k ≠ vm.ownBlock ∧ ¬ K k) vw s.who
  rp : Kd.R (Kd.int .i64) 3 w base (fun k => some k ≠ vw.ownBlock ∧ some k ≠ vm.ownBlock ∧ ¬ K k) vp s.phase
  rm : Kd.R (Kd.int .i64) 3 w base (fun k => some k ≠ vw.ownBlock ∧ some k ≠ vp.ownBlock ∧ ¬ K k) vm s.made
def RefAt (w : World) (base b : Nat) (s : Rs) (K : Nat → Prop) (A0 : Option Addr) (c0 : Nat) : Prop := ∃ vd vw vp vm, RefOf w base b s K A0 c0 vd vw vp vm
section
variable {w w1 : World} {base b : Nat} {s : Rs} {K : Nat → Prop} {A0 : Option Addr} {c0 : Nat} {vd vw vp vm : Value}
theorem RefOf.below (h : RefOf w base b s K A0 c0 vd vw vp vm) (hb : Below w.heap.size w w1) : RefOf w1 base b s K A0 c0 vd vw vp vm :=
  ⟨h.nb, blk_below h.blk hb, h.low, Kd.R_below h.rd hb, Kd.R_below h.rw hb, Kd.R_below h.rp hb, Kd.R_below h.rm hb⟩
theorem RefOf.other (h : RefOf w base b s K A0 c0 vd vw vp vm) (hm : ∀ k, ¬ K k → k < w.heap.size → w1.heap[k]? = w.heap[k]?) : RefOf w1 base b s K A0 c0 vd vw vp vm :=
  ⟨h.nb, (hm b h.nb (blk_lt h.blk)).trans h.blk, h.low, Kd.R_step h.rd (fun k hk hlt => hm k hk hlt), Kd.R_step h.rw (fun k hk hlt => hm k hk.2.2 hlt), Kd.R_step h.rp (fun k hk hlt => hm k hk.2.2 hlt), Kd.R_step h.rm (fun k hk hlt => hm k hk.2.2 hlt)⟩
theorem RefOf.less {K' : Nat → Prop} (h : RefOf w base b s K A0 c0 vd vw vp vm) (hs : ∀ k, K' k → K k) : RefOf w base b s K' A0 c0 vd vw vp vm :=
  ⟨fun hb => h.nb (hs _ hb), h.blk, h.low, Kd.R_mono h.rd (fun k hk => fun h2 => hk (hs _ h2)), Kd.R_mono h.rw (fun k hk => ⟨hk.1, hk.2.1, fun h2 => hk.2.2 (hs _ h2)⟩), Kd.R_mono h.rp (fun k hk => ⟨hk.1, hk.2.1, fun h2 => hk.2.2 (hs _ h2)⟩), Kd.R_mono h.rm (fun k hk => ⟨hk.1, hk.2.1, fun h2 => hk.2.2 (hs _ h2)⟩)⟩
theorem RefOf.more (h : RefOf w base b s K A0 c0 vd vw vp vm) : RefOf w base b s (fun k => K k ∨ w.heap.size ≤ k) A0 c0 vd vw vp vm :=
  ⟨fun hb => hb.elim h.nb (fun h2 => by have := blk_lt h.blk; omega), h.blk, h.low,
    Kd.R_mono (Kd.R_bound h.rd) (fun k hk => fun h2 => h2.elim hk.1 (fun h3 => by have := hk.2.2.1; omega)),
    Kd.R_mono (Kd.R_bound h.rw) (fun k hk => ⟨hk.1.1, hk.1.2.1, fun h2 => h2.elim hk.1.2.2 (fun h3 => by have := hk.2.2.1; omega)⟩),
    Kd.R_mono (Kd.R_bound h.rp) (fun k hk => ⟨hk.1.1, hk.1.2.1, fun h2 => h2.elim hk.1.2.2 (fun h3 => by have := hk.2.2.1; omega)⟩),
    Kd.R_mono (Kd.R_bound h.rm) (fun k hk => ⟨hk.1.1, hk.1.2.1, fun h2 => h2.elim hk.1.2.2 (fun h3 => by have := hk.2.2.1; omega)⟩)⟩
theorem RefOf.typed_ne (h : RefOf w base b s K A0 c0 vd vw vp vm) {v : Value} {e : Nat} (hv : ∀ k, v.ownBlock = some k → ∃ cells, w.heap[k]? = some (.cells cells e (0, 0))) (he : e ≠ 55) : some b ≠ v.ownBlock := fun eq => by
  obtain ⟨c, hc⟩ := hv b eq.symm
  exact blk_ne h.blk hc (fun q => he q.symm) rfl
/-- a store into the scheduler's own block -/
theorem RefOf.put (h : RefOf w base b s K A0 c0 vd vw vp vm) (i : Nat) (u : Value) {s' : Rs} (hc : (refCells s A0 c0 vd vw vp vm).setIfInBounds i u = refCells s' A0 c0 vd vw vp vm) (hd : s'.done = s.done) (hw : s'.who = s.who) (hp : s'.phase = s.phase) (hm : s'.made = s.made) :
    RefOf (w.setCell ⟨b, i, none⟩ u) base b s' K A0 c0 vd vw vp vm where
  nb := h.nb
  blk := blk_put h.blk i u hc
  low := h.low
  rd := by rw [hd]; exact Kd.R_set h.rd h.blk (by decide) i u
  rw := by rw [hw]; exact Kd.R_set h.rw h.blk (by decide) i u
  rp := by rw [hp]; exact Kd.R_set h.rp h.blk (by decide) i u
  rm := by rw [hm]; exact Kd.R_set h.rm h.blk (by decide) i u
theorem RefOf.putSteps (h : RefOf w base b s K A0 c0 vd vw vp vm) (x : Int) : RefOf (w.setCell ⟨b, 5, none⟩ (.int .i64 x)) base b { s with steps := x } K A0 c0 vd vw vp vm := h.put 5 _ rfl rfl rfl rfl rfl
/-- stores into the rows -/
theorem RefOf.setDone (h : RefOf w base b s K A0 c0 vd vw vp vm) {t' : List Bool} (hg : w.grownBy w1 vd.ownBlock) (hr : Kd.R Kd.bool 4 w1 base (fun k => ¬ K k) vd t') : RefOf w1 base b { s with done := t' } K A0 c0 vd vw vp vm :=
  ⟨h.nb, blk_grown h.blk hg (h.typed_ne (Kd.R_typed h.rd) (by decide)), h.low, hr, Kd.R_over' h.rw (Kd.R_typed h.rd) (by decide) hg, Kd.R_over' h.rp (Kd.R_typed h.rd) (by decide) hg, Kd.R_over' h.rm (Kd.R_typed h.rd) (by decide) hg⟩
theorem RefOf.setWho (h : RefOf w base b s K A0 c0 vd vw vp vm) {t' : List Int} (hg : w.grownBy w1 vw.ownBlock) (hr : Kd.R (Kd.int .i64) 3 w1 base (fun k => some k ≠ vp.ownBlock ∧ some k ≠ vm.ownBlock ∧ ¬ K k) vw t') : RefOf w1 base b { s with who := t' } K A0 c0 vd vw vp vm :=
  ⟨h.nb, blk_grown h.blk hg (h.typed_ne (Kd.R_typed h.rw) (by decide)), h.low, Kd.R_over' h.rd (Kd.R_typed h.rw) (by decide) hg, hr, Kd.R_step h.rp (fun k hk hlt => hg.block k hlt hk.1), Kd.R_step h.rm (fun k hk hlt => hg.block k hlt hk.1)⟩
theorem RefOf.setPhase (h : RefOf w base b s K A0 c0 vd vw vp vm) {t' : List Int} (hg : w.grownBy w1 vp.ownBlock) (hr : Kd.R (Kd.int .i64) 3 w1 base (fun k => some k ≠ vw.ownBlock ∧ some k ≠ vm.ownBlock ∧ ¬ K k) vp t') : RefOf w1 base b { s with phase := t' } K A0 c0 vd vw vp vm :=
  ⟨h.nb, blk_grown h.blk hg (h.typed_ne (Kd.R_typed h.rp) (by decide)), h.low, Kd.R_over' h.rd (Kd.R_typed h.rp) (by decide) hg, Kd.R_step h.rw (fun k hk hlt => hg.block k hlt hk.1), hr, Kd.R_step h.rm (fun k hk hlt => hg.block k hlt hk.2.1)⟩
/-- rows that grow, and are stored -/
theorem RefOf.growDone (h : RefOf w base b s K A0 c0 vd vw vp vm) {m' : List Bool} {v1 : Value} (hg : w.grownBy w1 vd.ownBlock) (hr : Kd.R Kd.bool 4 w1 base (fun k => ¬ K k) v1 m') : RefOf (w1.setCell ⟨b, 2, none⟩ v1) base b { s with done := m' } K A0 c0 v1 vw vp vm := by
  have hb1 := blk_grown h.blk hg (h.typed_ne (Kd.R_typed h.rd) (by decide))
  exact ⟨h.nb, blk_put hb1 2 v1 rfl, h.low, Kd.R_set hr hb1 (by decide) 2 v1, Kd.R_set (Kd.R_over' h.rw (Kd.R_typed h.rd) (by decide) hg) hb1 (by decide) 2 v1, Kd.R_set (Kd.R_over' h.rp (Kd.R_typed h.rd) (by decide) hg) hb1 (by decide) 2 v1, Kd.R_set (Kd.R_over' h.rm (Kd.R_typed h.rd) (by decide) hg) hb1 (by decide) 2 v1⟩
/-- a row that stays beside one that grew -/
theorem beside {v1 v u : Value} {ok : Nat → Prop} {xs : List Int} (h : Kd.R (Kd.int .i64) 3 w base ok u xs) (hne : ∀ k, ok k → some k ≠ v.ownBlock) (hg : w.grownBy w1 v.ownBlock) (hat : v1.ownBlock = v.ownBlock ∨ ∃ b, v1.ownBlock = some b ∧ w.heap.size ≤ b) : Kd.R (Kd.int .i64) 3 w1 base (fun k => ok k ∧ some k ≠ v1.ownBlock) u xs := by
  refine Kd.R_mono (Kd.R_step (Kd.R_bound h) (fun k hk hlt => hg.block k hlt (hne k hk.1))) (fun k hk => ⟨hk.1, ?_⟩)
  rcases hat with e | ⟨q, e, hq⟩
  · rw [e]; exact hne k hk.1
  · rw [e]; intro he; injection he with he; have := hk.2.2.1; omega
theorem RefOf.growWho (h : RefOf w base b s K A0 c0 vd vw vp vm) {m' : List Int} {v1 : Value} (hg : w.grownBy w1 vw.ownBlock) (hat : v1.ownBlock = vw.ownBlock ∨ ∃ b, v1.ownBlock = some b ∧ w.heap.size ≤ b)
    (hr : Kd.R (Kd.int .i64) 3 w1 base (fun k => some k ≠ vp.ownBlock ∧ some k ≠ vm.ownBlock ∧ ¬ K k) v1 m') : RefOf (w1.setCell ⟨b, 3, none⟩ v1) base b { s with who := m' } K A0 c0 vd v1 vp vm := by
  have hb1 := blk_grown h.blk hg (h.typed_ne (Kd.R_typed h.rw) (by decide))
  exact ⟨h.nb, blk_put hb1 3 v1 rfl, h.low, Kd.R_set (Kd.R_over' h.rd (Kd.R_typed h.rw) (by decide) hg) hb1 (by decide) 3 v1, Kd.R_set hr hb1 (by decide) 3 v1,
    Kd.R_set (Kd.R_mono (beside h.rp (fun k hk => hk.1) hg hat) (fun k hk => ⟨hk.2, hk.1.2⟩)) hb1 (by decide) 3 v1, Kd.R_set (Kd.R_mono (beside h.rm (fun k hk => hk.1) hg hat) (fun k hk => ⟨hk.2, hk.1.2⟩)) hb1 (by decide) 3 v1⟩
theorem RefOf.growPhase (h : RefOf w base b s K A0 c0 vd vw vp vm) {m' : List Int} {v1 : Value} (hg : w.grownBy w1 vp.ownBlock) (hat : v1.ownBlock = vp.ownBlock ∨ ∃ b, v1.ownBlock = some b ∧ w.heap.size ≤ b)
    (hr : Kd.R (Kd.int .i64) 3 w1 base (fun k => some k ≠ vw.ownBlock ∧ some k ≠ vm.ownBlock ∧ ¬ K k) v1 m') : RefOf (w1.setCell ⟨b, 4, none⟩ v1) base b { s with phase := m' } K A0 c0 vd vw v1 vm := by
  have hb1 := blk_grown h.blk hg (h.typed_ne (Kd.R_typed h.rp) (by decide))
  exact ⟨h.nb, blk_put hb1 4 v1 rfl, h.low, Kd.R_set (Kd.R_over' h.rd (Kd.R_typed h.rp) (by decide) hg) hb1 (by decide) 4 v1,
    Kd.R_set (Kd.R_mono (beside h.rw (fun k hk => hk.1) hg hat) (fun k hk => ⟨hk.2, hk.1.2⟩)) hb1 (by decide) 4 v1, Kd.R_set hr hb1 (by decide) 4 v1, Kd.R_set (Kd.R_mono (beside h.rm (fun k hk => hk.2.1) hg hat) (fun k hk => ⟨hk.1.1, hk.2, hk.1.2.2⟩)) hb1 (by decide) 4 v1⟩
theorem RefOf.growMade (h : RefOf w base b s K A0 c0 vd vw vp vm) {m' : List Int} {v1 : Value} (hg : w.grownBy w1 vm.ownBlock) (hat : v1.ownBlock = vm.ownBlock ∨ ∃ b, v1.ownBlock = some b ∧ w.heap.size ≤ b)
    (hr : Kd.R (Kd.int .i64) 3 w1 base (fun k => some k ≠ vw.ownBlock ∧ some k ≠ vp.ownBlock ∧ ¬ K k) v1 m') : RefOf (w1.setCell ⟨b, 6, none⟩ v1) base b { s with made := m' } K A0 c0 vd vw vp v1 := by
  have hb1 := blk_grown h.blk hg (h.typed_ne (Kd.R_typed h.rm) (by decide))
  exact ⟨h.nb, blk_put hb1 6 v1 rfl, h.low, Kd.R_set (Kd.R_over' h.rd (Kd.R_typed h.rm) (by decide) hg) hb1 (by decide) 6 v1,
    Kd.R_set (Kd.R_mono (beside h.rw (fun k hk => hk.2.1) hg hat) (fun k hk => ⟨hk.1.1, hk.2, hk.1.2.2⟩)) hb1 (by decide) 6 v1, Kd.R_set (Kd.R_mono (beside h.rp (fun k hk => hk.2.1) hg hat) (fun k hk => ⟨hk.1.1, hk.2, hk.1.2.2⟩)) hb1 (by decide) 6 v1, Kd.R_set hr hb1 (by decide) 6 v1⟩
end
set_option maxHeartbeats 1600000 in
theorem rover_any (b : Nat) (s : Rs) (base : Nat) (w : World) {K : Nat → Prop} {A0 : Option Addr} {c0 : Nat} (h : RefAt w base b s K A0 c0) (hd : s.done.length ≤ 1000000) : Calls Try.prog 31 #[.pointer (some ⟨b, 0, none⟩)] w fun e w' => e = .returned (.bool (overOf s.done)) ∧ w' = w := by
  obtain ⟨vd, vw, vp, vm, h⟩ := h
  have h2 : w.cell? ⟨b, 2, none⟩ = some vd := (blk_cell h.blk 2).trans rfl
  obtain ⟨Ad, cd, rfl, hcd, hd1⟩ := Kd.R_reads h.rd
  have HD := Aside0.mk hd1
  have H := Hid1.mk h
  clear h hd1 hcd
  go_enter Try.func31, Try.ntmps31
  go_wp2
  go_loopw [3] (fun v10 w' => w' = w ∧ ∃ i : Nat, i ≤ s.done.length ∧ v10 = .int .i64 i ∧ Hid1 ((s.done.take i).all id = true)) (fun v10 _ => s.done.length - (intOf v10).toNat)
  case atStart => exact ⟨rfl, 0, by omega, rfl, ⟨by simp⟩⟩
  case round =>
    obtain ⟨rfl, i, hi, rfl, HA⟩ := hrel
    by_cases hlt : i < s.done.length
    · obtain ⟨ad, rfl, hc⟩ := Kd.at_bool HD.out (i : Int) (by omega) (by omega)
      rw [Int.toNat_natCast] at hc
      by_cases hb : rdOf false s.done (i : Int) = true
      · rw [hb] at hc
        have HB := Hid1.mk hb
        clear hb
        go_wp2
        go_roundw
        case rel => exact ⟨by first | rfl | trivial, i + 1, by omega, by go_num, ⟨take_all _ i hlt HA.out HB.out⟩⟩
        case measure => simp [intOf]; omega
      · have hb := Bool.eq_false_iff.mpr hb
        rw [hb] at hc
        have HB := Hid1.mk hb
        clear hb
        go_wp2
        go_ret
        exact ⟨ret_bool (by unfold overOf; exact (not_all _ i hlt HB.out).symm), rfl⟩
    · obtain rfl : i = s.done.length := by omega
      have HL := Hid1.mk hlt
      go_wp2
      go_ret
      exact ⟨ret_bool (by unfold overOf; rw [← HA.out, List.take_length]), rfl⟩
end Go.Proofs.Ytgjlgdohlmpnbaa.P
