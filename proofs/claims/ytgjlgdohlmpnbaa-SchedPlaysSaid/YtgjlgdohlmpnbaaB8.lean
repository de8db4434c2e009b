/- Plain lemmas: what a run of picks keeps of jobs' phases and of who has them. Conditions: as each states. -/
import Derived.Test.YtgjlgdohlmpnbaaG9
namespace Go.Proofs.Ytgjlgdohlmpnbaa.P
set_option linter.unusedVariables false
set_option linter.unusedSimpArgs false
open Go.RowKit Go.Proofs.YtgjlgdohlmpnbaaW.PrintWords Go.Proofs.YtgjlgdohlmpnbaaW.PrintLast Go.Proofs.YtgjlgdohlmpnbaaW.PrintMore

def bit (d : List Bool) (a : Nat) : Bool := d.getD a false
theorem bit_set (d : List Bool) (a c : Nat) (h : a < d.length) : bit (d.set a true) c = if c = a then true else bit d c := by
  unfold bit
  simp only [List.getD_eq_getElem?_getD, List.getElem?_set]
  by_cases e : a = c
  · subst e; simp [h]
  · simp [e, Ne.symm e]
theorem rdI_set (d : List Int) (a c : Nat) (x : Int) (h : a < d.length) : rd (d.set a x) (c : Int) = if c = a then x else rd d (c : Int) := by
  simp only [rd, Int.toNat_natCast, List.getD_eq_getElem?_getD, List.getElem?_set]
  by_cases e : a = c
  · subst e; simp [h]
  · simp [e, Ne.symm e]
/-- all needs of job a are done -/
def needsDone (s : St) (a : Nat) : Prop := ∀ n ∈ (rd_T31 s.l (a : Int)).f1, 0 ≤ n ∧ n < s.l.length ∧ bit s.done n.toNat = true
structure Run (s : St) (phase who : List Int) : Prop where
  lenP : phase.length = s.l.length
  lenW : who.length = s.l.length
  fin : ∀ a, a < s.l.length → (rd phase (a : Int) = 3 ↔ bit s.done a = true)
  held : ∀ i, i < 16 → s.ph i ≠ 0 → ∃ a : Nat, s.jb i = (a : Int) ∧ a < s.l.length ∧ bit s.done a = false ∧ rd phase (a : Int) = s.ph i ∧ rd who (a : Int) = (i : Int) ∧ bit s.taken a = true ∧ needsDone s a
  free : ∀ a, a < s.l.length → bit s.done a = false → bit s.taken a = false → rd phase (a : Int) = 0
structure StepOk (s s' : St) (phase who : List Int) (x a p : Int) : Prop where
  none : a < 0 → a = -1 ∧ p = 0 ∧ Run s' phase who
  some : 0 ≤ a → a < s.l.length ∧ p = rd phase a + 1 ∧ (1 < p → rd who a = x) ∧ (1 ≤ p ∧ p ≤ 3) ∧ (∀ n ∈ (rd_T31 s.l a).f1, 0 ≤ n ∧ n < s.l.length ∧ rd phase n = 3) ∧ Run s' (phase.set a.toNat p) (who.set a.toNat x)
theorem needs_phase {s : St} {phase who : List Int} (h : Run s phase who) {a : Nat} (hn : needsDone s a) : ∀ n ∈ (rd_T31 s.l (a : Int)).f1, 0 ≤ n ∧ n < s.l.length ∧ rd phase n = 3 := fun n hnm => by
  obtain ⟨h1, h2, h3⟩ := hn n hnm
  refine ⟨h1, h2, ?_⟩
  have := (h.fin n.toNat (by omega)).2 h3
  rwa [Int.toNat_of_nonneg h1] at this
theorem needsDone_mono {s s' : St} (hl : s'.l = s.l) (hd : ∀ c, bit s.done c = true → bit s'.done c = true) {a : Nat} (h : needsDone s a) : needsDone s' a := by
  unfold needsDone at *
  rw [hl]
  exact fun n hn => ⟨(h n hn).1, (h n hn).2.1, hd _ (h n hn).2.2⟩
theorem pick_idle_i {s : St} {i : Nat} (hm : (i : Int) < s.many) (h0 : s.jb i = 0) (h1 : s.ph i = 0) : pickOf s (i : Int) = if leastOf s < 0 then (s, -1, 0) else (({ s with taken := s.taken.set (leastOf s).toNat true } : St).goOn i (leastOf s) 0, leastOf s, 1) := by
  unfold pickOf
  rw [if_neg (by omega), Int.toNat_natCast, if_pos ⟨h0, h1⟩]
theorem pick_busy_i {s : St} {i : Nat} (hm : (i : Int) < s.many) (h1 : ¬ s.ph i = 0) : pickOf s (i : Int) = (s.goOn i (s.jb i) (s.ph i), s.jb i, nextOf (s.ph i)) := by
  unfold pickOf
  rw [if_neg (by omega), Int.toNat_natCast, if_neg (fun h => h1 h.2)]
/-- the least one that may be taken is free, and not taken -/
theorem least_untaken (l : List S31) (taken : List Bool) (rs : List Int) : ∀ m, m ≤ rs.length → leastTo l taken rs m = -1 ∨ leastTo l taken rs m ∈ rs ∧ rdOf false taken (leastTo l taken rs m) = false
  | 0, _ => .inl rfl
  | m + 1, h => by
    unfold leastTo
    have hm := rd_mem rs m h
    have ih := least_untaken l taken rs m (by omega)
    split
    · exact ih
    · rename_i ht
      have ht := Bool.eq_false_iff.mpr ht
      split
      · exact .inr ⟨hm, ht⟩
      · split
        · exact .inr ⟨hm, ht⟩
        · exact ih
theorem least_free {s : St} (h : ¬ leastOf s < 0) : freeJ s.l s.done (leastOf s).toNat = true ∧ bit s.taken (leastOf s).toNat = false := by
  have h1 := least_untaken s.l s.taken (readyTo s.l s.done s.l.length) _ (Nat.le_refl _)
  unfold leastOf at h ⊢
  rcases h1 with h1 | ⟨h1, h2⟩
  · omega
  · exact ⟨(ready_mem s.l s.done s.l.length _ h1).2.2, h2⟩
theorem once_step {s : St} {phase who : List Int} (hg : Good s) (h : Run s phase who) (x : Int) : StepOk s (pickOf s x).1 phase who x (pickOf s x).2.1 (pickOf s x).2.2 := by
  have hm := hg.many
  by_cases hx : x < 0 ∨ s.many ≤ x
  · have e : pickOf s x = (s, -1, 0) := by unfold pickOf; rw [if_pos hx]
    rw [e]
    exact ⟨fun _ => ⟨rfl, rfl, h⟩, fun h0 => by cases h0⟩
  · obtain ⟨i, rfl⟩ : ∃ i : Nat, x = (i : Int) := ⟨x.toNat, by omega⟩
    have hi : i < 16 := by omega
    by_cases hp : s.ph i = 0
    · have hj : s.jb i = 0 := by rcases hg.work i hi with h1 | h1 <;> omega
      rw [pick_idle_i (by omega) hj hp]
      by_cases hn : leastOf s < 0
      · rw [if_pos hn]; exact ⟨fun _ => ⟨rfl, rfl, h⟩, fun h0 => by cases h0⟩
      · rw [if_neg hn]
        have hin := least_in hg hn
        have hfree := least_free hn
        obtain ⟨a, ha⟩ : ∃ a : Nat, leastOf s = (a : Int) := ⟨_, (Int.toNat_of_nonneg hin.1).symm⟩
        rw [ha] at hin hfree ⊢
        rw [Int.toNat_natCast]
        obtain ⟨hf, htk⟩ := hfree
        rw [Int.toNat_natCast] at hf htk
        have hal : a < s.l.length := by omega
        have hnd : bit s.done a = false := free_undone hal (by rw [hg.done]; exact hal) hf
        have hneeds : needsDone s a := fun n hnm => by
          unfold freeJ at hf
          rw [Bool.and_eq_true] at hf
          have := List.all_eq_true.1 hf.2 n hnm
          unfold isDone at this
          simp only [Bool.and_eq_true, decide_eq_true_eq] at this
          exact ⟨this.1.1, this.1.2.1, this.2⟩
        have hph := h.free a hal hnd htk
        have ht := hg.taken
        refine ⟨fun h0 => absurd h0 (by show ¬ ((a : Int) < 0); omega), fun _ => ⟨hin.2, by show (1 : Int) = rd phase (a : Int) + 1; rw [hph]; rfl, fun h1 => (by cases h1), by show (1 : Int) ≤ 1 ∧ (1 : Int) ≤ 3; omega, needs_phase h hneeds, ?_⟩⟩
        show Run (({ s with taken := s.taken.set a true } : St).goOn i (a : Int) 0) (phase.set (a : Int).toNat 1) (who.set (a : Int).toNat (i : Int))
        rw [Int.toNat_natCast]
        have e : ({ s with taken := s.taken.set a true } : St).goOn i (a : Int) 0 = { s with taken := s.taken.set a true, steps := wrap64 (s.steps + 1), jb := fun k => if k = i then (a : Int) else s.jb k, ph := fun k => if k = i then 1 else s.ph k } := by
          unfold St.goOn; rw [if_neg (by decide)]; rfl
        rw [e]
        refine ⟨by rw [List.length_set]; exact h.lenP, by rw [List.length_set]; exact h.lenW, fun c hc => ?_, fun k hk hpk => ?_, fun c hc hcd hct => ?_⟩
        · rw [rdI_set _ _ _ _ (by rw [h.lenP]; exact hal)]
          by_cases e : c = a
          · subst e
            rw [if_pos rfl]
            exact ⟨fun h => (by cases h), fun h2 => by rw [show bit s.done c = true from h2] at hnd; cases hnd⟩
          · rw [if_neg e]; exact h.fin c hc
        · by_cases e : k = i
          · subst e
            refine ⟨a, by simp, hal, hnd, ?_, ?_, ?_, hneeds⟩
            · rw [rdI_set _ _ _ _ (by rw [h.lenP]; exact hal), if_pos rfl]; simp
            · rw [rdI_set _ _ _ _ (by rw [h.lenW]; exact hal), if_pos rfl]
            · show bit (s.taken.set a true) a = true; rw [bit_set _ _ _ (by rw [ht]; exact hal), if_pos rfl]
          · have hpk2 : s.ph k ≠ 0 := by simpa [e] using hpk
            obtain ⟨c, h1, h2, h3, h4, h5, h6, h7⟩ := h.held k hk hpk2
            have hca : c ≠ a := fun e2 => by subst e2; rw [htk] at h6; cases h6
            refine ⟨c, by simpa [e] using h1, h2, h3, ?_, ?_, ?_, h7⟩
            · rw [rdI_set _ _ _ _ (by rw [h.lenP]; exact hal), if_neg hca]; simpa [e] using h4
            · rw [rdI_set _ _ _ _ (by rw [h.lenW]; exact hal), if_neg hca]; exact h5
            · show bit (s.taken.set a true) c = true; rw [bit_set _ _ _ (by rw [ht]; exact hal), if_neg hca]; exact h6
        · have hct2 : bit (s.taken.set a true) c = false := hct
          rw [bit_set _ _ _ (by rw [ht]; exact hal)] at hct2
          by_cases e : c = a
          · rw [if_pos e] at hct2; cases hct2
          · rw [if_neg e] at hct2
            rw [rdI_set _ _ _ _ (by rw [h.lenP]; exact hal), if_neg e]
            exact h.free c hc hcd hct2
    · obtain ⟨a, h1, h2, h3, h4, h5, h6, h7⟩ := h.held i hi hp
      have hr := (hg.work i hi).resolve_left (fun hh => hp hh.2)
      rw [pick_busy_i (by omega) hp, h1]
      obtain ⟨q, hq⟩ : ∃ q, q = s.ph i := ⟨_, rfl⟩
      rw [← hq] at hr h4 hp ⊢
      have hd := hg.done
      have hoth : ∀ k, k < 16 → s.ph k ≠ 0 → k ≠ i → ∀ c : Nat, s.jb k = (c : Int) → c ≠ a := fun k hk hpk hki c hc e => by
        subst e
        obtain ⟨c2, g1, g2, g3, g4, g5, g6, g7⟩ := h.held k hk hpk
        obtain rfl : c = c2 := by omega
        rw [h5] at g5; omega
      have hqq : q = 1 ∨ q = 2 := by omega
      rcases hqq with rfl | rfl
      · refine ⟨fun h0 => absurd h0 (by show ¬ ((a : Int) < 0); omega), fun _ => ⟨by show (a : Int) < _; omega, by show (2 : Int) = rd phase (a : Int) + 1; rw [h4]; rfl, fun _ => h5, by show (1 : Int) ≤ 2 ∧ (2 : Int) ≤ 3; omega, needs_phase h h7, ?_⟩⟩
        show Run (s.goOn i (a : Int) 1) (phase.set (a : Int).toNat 2) (who.set (a : Int).toNat (i : Int))
        rw [Int.toNat_natCast]
        have e : s.goOn i (a : Int) 1 = { s with steps := wrap64 (s.steps + 1), jb := fun k => if k = i then (a : Int) else s.jb k, ph := fun k => if k = i then 2 else s.ph k } := by
          unfold St.goOn; rw [if_neg (by decide)]; rfl
        rw [e]
        refine ⟨by rw [List.length_set]; exact h.lenP, by rw [List.length_set]; exact h.lenW, fun c hc => ?_, fun k hk hpk => ?_, fun c hc hcd hct => ?_⟩
        · rw [rdI_set _ _ _ _ (by rw [h.lenP]; exact h2)]
          by_cases e : c = a
          · subst e
            rw [if_pos rfl]
            exact ⟨fun h => (by cases h), fun h8 => by rw [show bit s.done c = true from h8] at h3; cases h3⟩
          · rw [if_neg e]; exact h.fin c hc
        · by_cases e : k = i
          · subst e
            refine ⟨a, by simp, h2, h3, ?_, ?_, h6, h7⟩
            · rw [rdI_set _ _ _ _ (by rw [h.lenP]; exact h2), if_pos rfl]; simp
            · rw [rdI_set _ _ _ _ (by rw [h.lenW]; exact h2), if_pos rfl]
          · have hpk2 : s.ph k ≠ 0 := by simpa [e] using hpk
            obtain ⟨c, g1, g2, g3, g4, g5, g6, g7⟩ := h.held k hk hpk2
            have hca := hoth k hk hpk2 e c g1
            refine ⟨c, by simpa [e] using g1, g2, g3, ?_, ?_, g6, g7⟩
            · rw [rdI_set _ _ _ _ (by rw [h.lenP]; exact h2), if_neg hca]; simpa [e] using g4
            · rw [rdI_set _ _ _ _ (by rw [h.lenW]; exact h2), if_neg hca]; exact g5
        · have hca : c ≠ a := fun e => by subst e; rw [show bit s.taken c = false from hct] at h6; cases h6
          rw [rdI_set _ _ _ _ (by rw [h.lenP]; exact h2), if_neg hca]
          exact h.free c hc hcd hct
      · refine ⟨fun h0 => absurd h0 (by show ¬ ((a : Int) < 0); omega), fun _ => ⟨by show (a : Int) < _; omega, by show (3 : Int) = rd phase (a : Int) + 1; rw [h4]; rfl, fun _ => h5, by show (1 : Int) ≤ 3 ∧ (3 : Int) ≤ 3; omega, needs_phase h h7, ?_⟩⟩
        show Run (s.goOn i (a : Int) 2) (phase.set (a : Int).toNat 3) (who.set (a : Int).toNat (i : Int))
        rw [Int.toNat_natCast]
        have e : s.goOn i (a : Int) 2 = { s with steps := wrap64 (s.steps + 1), jb := fun k => if k = i then 0 else s.jb k, ph := fun k => if k = i then 0 else s.ph k, done := s.done.set a true, made := s.made ++ [(a : Int)] } := by
          unfold St.goOn; rw [if_pos (by decide), Int.toNat_natCast]
        rw [e]
        have hds : ∀ c, bit (s.done.set a true) c = if c = a then true else bit s.done c := fun c => bit_set _ _ _ (by rw [hd]; exact h2)
        have hmono : ∀ c, bit s.done c = true → bit (s.done.set a true) c = true := fun c hc => by rw [hds]; split <;> first | rfl | exact hc
        refine ⟨by rw [List.length_set]; exact h.lenP, by rw [List.length_set]; exact h.lenW, fun c hc => ?_, fun k hk hpk => ?_, fun c hc hcd hct => ?_⟩
        · rw [rdI_set _ _ _ _ (by rw [h.lenP]; exact h2)]
          show _ ↔ bit (s.done.set a true) c = true
          rw [hds]
          by_cases e : c = a
          · simp [e]
          · rw [if_neg e, if_neg e]; exact h.fin c hc
        · by_cases e : k = i
          · subst e; simp at hpk
          · have hpk2 : s.ph k ≠ 0 := by simpa [e] using hpk
            obtain ⟨c, g1, g2, g3, g4, g5, g6, g7⟩ := h.held k hk hpk2
            have hca := hoth k hk hpk2 e c g1
            refine ⟨c, by simpa [e] using g1, g2, ?_, ?_, ?_, g6, ?_⟩
            · show bit (s.done.set a true) c = false; rw [hds, if_neg hca]; exact g3
            · rw [rdI_set _ _ _ _ (by rw [h.lenP]; exact h2), if_neg hca]; simpa [e] using g4
            · rw [rdI_set _ _ _ _ (by rw [h.lenW]; exact h2), if_neg hca]; exact g5
            · exact fun n hn => ⟨(g7 n hn).1, (g7 n hn).2.1, hmono _ (g7 n hn).2.2⟩
        · have hcd2 : bit (s.done.set a true) c = false := hcd
          rw [hds] at hcd2
          by_cases e : c = a
          · rw [if_pos e] at hcd2; cases hcd2
          · rw [if_neg e] at hcd2
            rw [rdI_set _ _ _ _ (by rw [h.lenP]; exact h2), if_neg e]
            exact h.free c hc hcd2 hct
end Go.Proofs.Ytgjlgdohlmpnbaa.P
