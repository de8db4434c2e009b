/- Plain lemmas: what a store does to a scheduler's block and rows. Conditions: as each states. -/
import Derived.Test.YtgjlgdohlmpnbaaG5
namespace Go.Proofs.Ytgjlgdohlmpnbaa.P
set_option linter.unusedVariables false
set_option linter.unusedSimpArgs false
open Go.RowKit Go.Proofs.YtgjlgdohlmpnbaaW.PrintWords Go.Proofs.YtgjlgdohlmpnbaaW.PrintLast Go.Proofs.YtgjlgdohlmpnbaaW.PrintMore

theorem cs_set {cs : Array Value} {i j : Nat} {u v : Value} (hs : cs.size = 38) (hi : i < 38) (h : cs[j]? = some v) : (cs.setIfInBounds i u)[j]? = some (if i = j then u else v) := by
  rw [Array.getElem?_setIfInBounds]
  by_cases e : i = j
  · subst e; simp [hs, hi]
  · rw [if_neg e, if_neg e]; exact h
def St.job (s : St) (i : Nat) (x : Int) : St := { s with jb := fun k => if k = i then x else s.jb k }
def St.phase (s : St) (i : Nat) (x : Int) : St := { s with ph := fun k => if k = i then x else s.ph k }
section
variable {cs : Array Value} {s : St} {vl vd vt vm : Value}
theorem Blk.set_steps (h : Blk cs s vl vd vt vm) (x : Int) : Blk (cs.setIfInBounds 37 (.int .i64 x)) { s with steps := x } vl vd vt vm where
  size := by simp [h.size]
  c0 := (cs_set h.size (by omega) h.c0).trans rfl
  c1 := (cs_set h.size (by omega) h.c1).trans rfl
  job i hi := by rw [cs_set h.size (by omega) (h.job i hi), if_neg (by omega)]
  phase i hi := by rw [cs_set h.size (by omega) (h.phase i hi), if_neg (by omega)]
  c34 := (cs_set h.size (by omega) h.c34).trans rfl
  c35 := (cs_set h.size (by omega) h.c35).trans rfl
  c36 := (cs_set h.size (by omega) h.c36).trans rfl
  c37 := (cs_set h.size (by omega) h.c37).trans rfl
theorem Blk.set_made (h : Blk cs s vl vd vt vm) (made : List Int) (v1 : Value) : Blk (cs.setIfInBounds 36 v1) { s with made := made } vl vd vt v1 where
  size := by simp [h.size]
  c0 := (cs_set h.size (by omega) h.c0).trans rfl
  c1 := (cs_set h.size (by omega) h.c1).trans rfl
  job i hi := by rw [cs_set h.size (by omega) (h.job i hi), if_neg (by omega)]
  phase i hi := by rw [cs_set h.size (by omega) (h.phase i hi), if_neg (by omega)]
  c34 := (cs_set h.size (by omega) h.c34).trans rfl
  c35 := (cs_set h.size (by omega) h.c35).trans rfl
  c36 := (cs_set h.size (by omega) h.c36).trans rfl
  c37 := (cs_set h.size (by omega) h.c37).trans rfl
theorem Blk.set_job (h : Blk cs s vl vd vt vm) (k : Nat) (hk : k < 16) (x : Int) : Blk (cs.setIfInBounds (2 + k * 2) (.int .i64 x)) (s.job k x) vl vd vt vm where
  size := by simp [h.size]
  c0 := by rw [cs_set h.size (by omega) h.c0, if_neg (by omega)]
  c1 := by rw [cs_set h.size (by omega) h.c1, if_neg (by omega)]; rfl
  job i hi := by
    rw [cs_set h.size (by omega) (h.job i hi)]
    by_cases e : i = k
    · subst e; simp [St.job]
    · rw [if_neg (by omega)]; simp [St.job, e]
  phase i hi := by rw [cs_set h.size (by omega) (h.phase i hi), if_neg (by omega)]; rfl
  c34 := by rw [cs_set h.size (by omega) h.c34, if_neg (by omega)]
  c35 := by rw [cs_set h.size (by omega) h.c35, if_neg (by omega)]
  c36 := by rw [cs_set h.size (by omega) h.c36, if_neg (by omega)]
  c37 := by rw [cs_set h.size (by omega) h.c37, if_neg (by omega)]; rfl
theorem Blk.set_phase (h : Blk cs s vl vd vt vm) (k : Nat) (hk : k < 16) (x : Int) : Blk (cs.setIfInBounds (2 + k * 2 + 1) (.int .i64 x)) (s.phase k x) vl vd vt vm where
  size := by simp [h.size]
  c0 := by rw [cs_set h.size (by omega) h.c0, if_neg (by omega)]
  c1 := by rw [cs_set h.size (by omega) h.c1, if_neg (by omega)]; rfl
  job i hi := by rw [cs_set h.size (by omega) (h.job i hi), if_neg (by omega)]; rfl
  phase i hi := by
    rw [cs_set h.size (by omega) (h.phase i hi)]
    by_cases e : i = k
    · subst e; simp [St.phase]
    · rw [if_neg (by omega)]; simp [St.phase, e]
  c34 := by rw [cs_set h.size (by omega) h.c34, if_neg (by omega)]
  c35 := by rw [cs_set h.size (by omega) h.c35, if_neg (by omega)]
  c36 := by rw [cs_set h.size (by omega) h.c36, if_neg (by omega)]
  c37 := by rw [cs_set h.size (by omega) h.c37, if_neg (by omega)]; rfl
end
section
variable {w w1 : World} {base b : Nat} {s : St} {K : Nat → Prop} {Al : Option Addr} {cl : Nat} {vd vt vm : Value} {cs : Array Value}
/-- a store into the scheduler's own block -/
theorem SchedOf.put (h : SchedOf w base b s K Al cl vd vt vm cs) (i : Nat) (u : Value) {s' : St} (hc : Blk (cs.setIfInBounds i u) s' (.slice Al s.l.length cl) vd vt vm) (hl : s'.l = s.l) (hd : s'.done = s.done) (ht : s'.taken = s.taken) (hm : s'.made = s.made) :
    SchedOf (w.setCell ⟨b, i, none⟩ u) base b s' K Al cl vd vt vm (cs.setIfInBounds i u) where
  nb := h.nb
  blk := blk_set h.blk i u
  low := h.low
  cells := by rw [hl]; exact hc
  rl := by rw [hl]; exact Kd.R_set h.rl h.blk (by decide) i u
  rd := by rw [hd]; exact Kd.R_set h.rd h.blk (by decide) i u
  rt := by rw [ht]; exact Kd.R_set h.rt h.blk (by decide) i u
  rm := by rw [hm]; exact Kd.R_set h.rm h.blk (by decide) i u
theorem SchedOf.steps (h : SchedOf w base b s K Al cl vd vt vm cs) (x : Int) : SchedOf (w.setCell ⟨b, 37, none⟩ (.int .i64 x)) base b { s with steps := x } K Al cl vd vt vm (cs.setIfInBounds 37 (.int .i64 x)) :=
  h.put 37 _ (h.cells.set_steps x) rfl rfl rfl rfl
theorem SchedOf.job (h : SchedOf w base b s K Al cl vd vt vm cs) (k : Nat) (hk : k < 16) (x : Int) : SchedOf (w.setCell ⟨b, 2 + k * 2, none⟩ (.int .i64 x)) base b (s.job k x) K Al cl vd vt vm (cs.setIfInBounds (2 + k * 2) (.int .i64 x)) :=
  h.put _ _ (h.cells.set_job k hk x) rfl rfl rfl rfl
theorem SchedOf.phase (h : SchedOf w base b s K Al cl vd vt vm cs) (k : Nat) (hk : k < 16) (x : Int) : SchedOf (w.setCell ⟨b, 2 + k * 2 + 1, none⟩ (.int .i64 x)) base b (s.phase k x) K Al cl vd vt vm (cs.setIfInBounds (2 + k * 2 + 1) (.int .i64 x)) :=
  h.put _ _ (h.cells.set_phase k hk x) rfl rfl rfl rfl
/-- a store into a block of another type (63) -/
theorem SchedOf.far (h : SchedOf w base b s K Al cl vd vt vm cs) {g : Nat} {cx : Array Value} (hx : w.heap[g]? = some (.cells cx 63 (0, 0))) (i : Nat) (u : Value) : SchedOf (w.setCell ⟨g, i, none⟩ u) base b s K Al cl vd vt vm cs where
  nb := h.nb
  blk := blk_far h.blk (blk_ne h.blk hx (by decide)) u
  low := h.low
  cells := h.cells
  rl := Kd.R_set h.rl hx (by decide) i u
  rd := Kd.R_set h.rd hx (by decide) i u
  rt := Kd.R_set h.rt hx (by decide) i u
  rm := Kd.R_set h.rm hx (by decide) i u
theorem SchedOf.typed_ne (h : SchedOf w base b s K Al cl vd vt vm cs) {v : Value} {e : Nat} (hv : ∀ k, v.ownBlock = some k → ∃ cells, w.heap[k]? = some (.cells cells e (0, 0))) (he : e ≠ 66) : some b ≠ v.ownBlock := fun eq => by
  obtain ⟨c, hc⟩ := hv b eq.symm
  exact blk_ne h.blk hc (fun q => he q.symm) rfl
/-- a store into the row of what is taken -/
theorem SchedOf.take (h : SchedOf w base b s K Al cl vd vt vm cs) {t' : List Bool} (hg : w.grownBy w1 vt.ownBlock) (hr : Kd.R Kd.bool 4 w1 base (fun k => some k ≠ vd.ownBlock ∧ ¬ K k) vt t') : SchedOf w1 base b { s with taken := t' } K Al cl vd vt vm cs where
  nb := h.nb
  blk := blk_grown h.blk hg (h.typed_ne (Kd.R_typed h.rt) (by decide))
  low := h.low
  cells := ⟨h.cells.size, h.cells.c0, h.cells.c1, h.cells.job, h.cells.phase, h.cells.c34, h.cells.c35, h.cells.c36, h.cells.c37⟩
  rl := Kd.R_over' h.rl (Kd.R_typed h.rt) (by decide) hg
  rd := Kd.R_step h.rd (fun k hk hlt => hg.block k hlt hk.1)
  rt := hr
  rm := Kd.R_over' h.rm (Kd.R_typed h.rt) (by decide) hg
theorem SchedOf.finish (h : SchedOf w base b s K Al cl vd vt vm cs) {t' : List Bool} (hg : w.grownBy w1 vd.ownBlock) (hr : Kd.R Kd.bool 4 w1 base (fun k => some k ≠ vt.ownBlock ∧ ¬ K k) vd t') : SchedOf w1 base b { s with done := t' } K Al cl vd vt vm cs where
  nb := h.nb
  blk := blk_grown h.blk hg (h.typed_ne (Kd.R_typed h.rd) (by decide))
  low := h.low
  cells := ⟨h.cells.size, h.cells.c0, h.cells.c1, h.cells.job, h.cells.phase, h.cells.c34, h.cells.c35, h.cells.c36, h.cells.c37⟩
  rl := Kd.R_over' h.rl (Kd.R_typed h.rd) (by decide) hg
  rd := hr
  rt := Kd.R_step h.rt (fun k hk hlt => hg.block k hlt hk.1)
  rm := Kd.R_over' h.rm (Kd.R_typed h.rd) (by decide) hg
/-- what is made grows, and its new row is stored -/
theorem SchedOf.make (h : SchedOf w base b s K Al cl vd vt vm cs) {m' : List Int} {v1 : Value} (hg : w.grownBy w1 vm.ownBlock) (hr : Kd.R (Kd.int .i64) 3 w1 base (fun k => ¬ K k) v1 m') (hat : v1.ownBlock = vm.ownBlock ∨ ∃ b, v1.ownBlock = some b ∧ w.heap.size ≤ b) :
    SchedOf (w1.setCell ⟨b, 36, none⟩ v1) base b { s with made := m' } K Al cl vd vt v1 (cs.setIfInBounds 36 v1) := by
  have hb1 : w1.heap[b]? = some (.cells cs 66 (0, 0)) := blk_grown h.blk hg (h.typed_ne (Kd.R_typed h.rm) (by decide))
  have hl1 : Kd.R k31 31 w1 base (fun k => some k ≠ v1.ownBlock ∧ ¬ K k) (.slice Al s.l.length cl) s.l := by
    refine Kd.R_mono (Kd.R_step (Kd.R_bound h.rl) (fun k hk hlt => hg.block k hlt hk.1.1)) (fun k hk => ⟨?_, hk.1.2⟩)
    rcases hat with e | ⟨q, e, hq⟩
    · rw [e]; exact hk.1.1
    · rw [e]; intro he
      injection he with he
      have := hk.2.2.1
      omega
  exact {
    nb := h.nb
    blk := blk_set hb1 36 v1
    low := h.low
    cells := h.cells.set_made m' v1
    rl := Kd.R_set hl1 hb1 (by decide) 36 v1
    rd := Kd.R_set (Kd.R_over' h.rd (Kd.R_typed h.rm) (by decide) hg) hb1 (by decide) 36 v1
    rt := Kd.R_set (Kd.R_over' h.rt (Kd.R_typed h.rm) (by decide) hg) hb1 (by decide) 36 v1
    rm := Kd.R_set hr hb1 (by decide) 36 v1 }
end
end Go.Proofs.Ytgjlgdohlmpnbaa.P
