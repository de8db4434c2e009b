/- Plain lemmas: both schedulers go alike. Conditions: as each states. -/
import Derived.Test.YtgjlgdohlmpnbaaG12
namespace Go.Proofs.Ytgjlgdohlmpnbaa.P
set_option linter.unusedVariables false
set_option linter.unusedSimpArgs false
open Go.RowKit Go.Proofs.YtgjlgdohlmpnbaaW.PrintWords Go.Proofs.YtgjlgdohlmpnbaaW.PrintLast Go.Proofs.YtgjlgdohlmpnbaaW.PrintMore

structure AlikeS (s : St) (r : Rs) : Prop where
  jobs : r.l = s.l
  many : r.many = s.many
  done : r.done = s.done
  steps : r.steps = s.steps
  made : r.made = s.made
  lenW : r.who.length = s.l.length
  lenP : r.phase.length = s.l.length
  held : ∀ i, i < 16 → s.ph i ≠ 0 → ∃ a : Nat, s.jb i = (a : Int) ∧ a < s.l.length ∧ bit s.done a = false ∧ rd r.phase (a : Int) = s.ph i ∧ rd r.who (a : Int) = (i : Int) ∧ bit s.taken a = true
  who : ∀ a, a < s.l.length → bit s.done a = false → (rd r.who (a : Int) < 0 ∧ bit s.taken a = false) ∨ ∃ i : Nat, i < 16 ∧ rd r.who (a : Int) = (i : Int) ∧ s.ph i ≠ 0 ∧ s.jb i = (a : Int)
theorem least_alike (l : List S31) (taken : List Bool) (who : List Int) (rs : List Int) : ∀ m, m ≤ rs.length → (∀ x ∈ rs, (rd who x < 0 ↔ ¬ rdOf false taken x = true)) → rleastTo l who rs m = leastTo l taken rs m
  | 0, _, _ => rfl
  | m + 1, h, hr => by
    have hm := hr _ (rd_mem rs m h)
    have ih := least_alike l taken who rs m (by omega) hr
    unfold rleastTo leastTo
    rw [ih]
    by_cases ht : rdOf false taken (rd rs (m : Int)) = true
    · rw [if_pos ht, if_neg (fun h2 => hm.1 h2 ht)]
    · rw [if_neg ht, if_pos (hm.2 ht)]
theorem copied_bit' (d : List Bool) (n a : Nat) (ha : a < n) : bit (copied n d) a = bit d a := by
  unfold bit copied
  simp only [List.getD_eq_getElem?_getD, List.getElem?_append, List.length_take]
  by_cases h : a < min (min d.length n) d.length
  · rw [if_pos h, List.getElem?_take]; rw [if_pos (by omega)]
  · rw [if_neg h]
    have : d.length ≤ a := by omega
    rw [List.getElem?_eq_none this]
    simp only [List.getElem?_drop, List.getElem?_replicate]
    split <;> rfl
theorem done_same (d : List Bool) (n : Nat) : doneTo d n = copied n d := by
  apply List.ext_getElem?
  intro a
  by_cases ha : a < n
  · have h1 : (doneTo d n)[a]? = some (bit d a) := by
      have : ∀ n, a < n → (doneTo d n)[a]? = some (bit d a) := by
        intro n
        induction n with
        | zero => intro h; omega
        | succ n ih =>
          intro h
          unfold doneTo
          by_cases e : a = n
          · subst e; simp [doneTo_len]
          · rw [List.getElem?_append_left (by rw [doneTo_len]; omega)]; exact ih (by omega)
      exact this n ha
    have h2 : a < (copied n d).length := by rw [copied_len]; exact ha
    have h3 := copied_bit' d n a ha
    rw [h1, List.getElem?_eq_getElem h2]
    unfold bit at h3
    rw [List.getD_eq_getElem?_getD, List.getElem?_eq_getElem h2] at h3
    simp only [Option.getD_some] at h3
    rw [h3]
    simp [bit]
  · rw [List.getElem?_eq_none (by rw [doneTo_len]; omega), List.getElem?_eq_none (by rw [copied_len]; omega)]
theorem alike_new (l : List S31) (x : Int) (d : List Bool) : AlikeS (newSt l x d) (refTo l x d l.length) where
  jobs := rfl
  many := rfl
  done := done_same d l.length
  steps := rfl
  made := rfl
  lenW := List.length_replicate
  lenP := List.length_replicate
  held i _ h := absurd rfl h
  who a ha _ := .inl (by
    have ha : a < l.length := ha
    constructor
    · simp [refTo, rd, ha]
    · show bit (List.replicate l.length false) a = false
      simp [bit, ha])
theorem alike_step {s : St} {r : Rs} (hg : Good s) (h : AlikeS s r) (x : Int) : (refPick r x).2 = (pickOf s x).2 ∧ AlikeS (pickOf s x).1 (refPick r x).1 := by
  have hm := hg.many
  by_cases hx : x < 0 ∨ s.many ≤ x
  · have e1 : pickOf s x = (s, -1, 0) := by unfold pickOf; rw [if_pos hx]
    have e2 : refPick r x = (r, -1, 0) := by unfold refPick; rw [if_pos (by rw [h.many]; exact hx)]
    rw [e1, e2]; exact ⟨rfl, h⟩
  · obtain ⟨i, rfl⟩ : ∃ i : Nat, x = (i : Int) := ⟨x.toNat, by omega⟩
    have hi : i < 16 := by omega
    have hxr : ¬ ((i : Int) < 0 ∨ r.many ≤ (i : Int)) := by rw [h.many]; exact hx
    have hlr : r.l.length = s.l.length := by rw [h.jobs]
    have hd := hg.done
    have ht := hg.taken
    by_cases hp : s.ph i = 0
    · have hj : s.jb i = 0 := by rcases hg.work i hi with h1 | h1 <;> omega
      have hnone : firstHeld r (i : Int) r.l.length 0 = none := firstHeld_none r _ _ 0 (fun k _ hk => by
        unfold heldBy
        by_cases hw : rd r.who (k : Int) = (i : Int)
        · cases hb : bit r.done k
          · rw [h.done] at hb
            rcases h.who k (by omega) hb with h1 | ⟨i2, g1, g2, g3, g4⟩
            · omega
            · obtain rfl : i2 = i := by omega
              exact absurd hp g3
          · simp
        · rw [decide_eq_false hw, Bool.false_and])
      have hleast : rleastOf r = leastOf s := by
        unfold rleastOf leastOf
        rw [h.jobs, h.done]
        refine least_alike s.l s.taken r.who _ _ (Nat.le_refl _) fun y hy => ?_
        have hy2 := ready_mem s.l s.done s.l.length y hy
        obtain ⟨a, rfl⟩ : ∃ a : Nat, y = (a : Int) := ⟨y.toNat, by omega⟩
        have hnd : bit s.done a = false := free_undone (l := s.l) (i := a) (by omega) (by omega) (by simpa using hy2.2.2)
        have htb : rdOf false s.taken (a : Int) = bit s.taken a := by simp [rdOf, bit]
        rw [htb]
        rcases h.who a (by omega) hnd with ⟨h1, h2⟩ | ⟨i2, g1, g2, g3, g4⟩
        · rw [h2]; exact ⟨fun _ => by decide, fun _ => h1⟩
        · obtain ⟨c, k1, k2, k3, k4, k5, k6⟩ := h.held i2 g1 g3
          obtain rfl : a = c := by omega
          rw [k6]
          exact ⟨fun h8 => by omega, fun h8 => absurd rfl h8⟩
      rw [pick_idle_i (by omega) hj hp]
      have e2 : refPick r (i : Int) = if leastOf s < 0 then (r, -1, 0) else ({ r with steps := wrap64 (r.steps + 1), who := r.who.set (leastOf s).toNat (i : Int), phase := r.phase.set (leastOf s).toNat 1 }, leastOf s, 1) := by
        unfold refPick; rw [if_neg hxr, hnone, hleast]
      rw [e2]
      by_cases hn : leastOf s < 0
      · rw [if_pos hn, if_pos hn]; exact ⟨rfl, h⟩
      · rw [if_neg hn, if_neg hn]
        have hin := least_in hg hn
        obtain ⟨hf, htk⟩ := least_free hn
        obtain ⟨a, ha⟩ : ∃ a : Nat, leastOf s = (a : Int) := ⟨_, (Int.toNat_of_nonneg hin.1).symm⟩
        rw [ha] at hin hf htk ⊢
        rw [Int.toNat_natCast] at hf htk ⊢
        have hal : a < s.l.length := by omega
        have hnd : bit s.done a = false := free_undone hal (by rw [hd]; exact hal) hf
        refine ⟨rfl, ?_⟩
        have e : ({ s with taken := s.taken.set a true } : St).goOn i (a : Int) 0 = { s with taken := s.taken.set a true, steps := wrap64 (s.steps + 1), jb := fun k => if k = i then (a : Int) else s.jb k, ph := fun k => if k = i then 1 else s.ph k } := by
          unfold St.goOn; rw [if_neg (by decide)]; rfl
        show AlikeS (({ s with taken := s.taken.set a true } : St).goOn i (a : Int) 0) _
        rw [e]
        exact {
          jobs := h.jobs, many := h.many, done := h.done, made := h.made
          steps := by show wrap64 (r.steps + 1) = wrap64 (s.steps + 1); rw [h.steps]
          lenW := by show (r.who.set a _).length = _; rw [List.length_set]; exact h.lenW
          lenP := by show (r.phase.set a _).length = _; rw [List.length_set]; exact h.lenP
          held := fun k hk hpk => by
            by_cases e : k = i
            · subst e
              refine ⟨a, by simp, hal, hnd, ?_, ?_, ?_⟩
              · show rd (r.phase.set a 1) (a : Int) = _
                rw [rdI_set _ _ _ _ (by rw [h.lenP]; exact hal), if_pos rfl]; simp
              · show rd (r.who.set a _) (a : Int) = _
                rw [rdI_set _ _ _ _ (by rw [h.lenW]; exact hal), if_pos rfl]
              · show bit (s.taken.set a true) a = true; rw [bit_set _ _ _ (by rw [ht]; exact hal), if_pos rfl]
            · have hpk2 : s.ph k ≠ 0 := by simpa [e] using hpk
              obtain ⟨c, h1, h2, h3, h4, h5, h6⟩ := h.held k hk hpk2
              have hca : c ≠ a := fun e2 => by subst e2; rw [htk] at h6; cases h6
              refine ⟨c, by simpa [e] using h1, h2, h3, ?_, ?_, ?_⟩
              · show rd (r.phase.set a 1) (c : Int) = _
                rw [rdI_set _ _ _ _ (by rw [h.lenP]; exact hal), if_neg hca]; simpa [e] using h4
              · show rd (r.who.set a _) (c : Int) = _
                rw [rdI_set _ _ _ _ (by rw [h.lenW]; exact hal), if_neg hca]; exact h5
              · show bit (s.taken.set a true) c = true; rw [bit_set _ _ _ (by rw [ht]; exact hal), if_neg hca]; exact h6
          who := fun c hc hcd => by
            show (rd (r.who.set a (i : Int)) (c : Int) < 0 ∧ bit (s.taken.set a true) c = false) ∨ ∃ k : Nat, k < 16 ∧ rd (r.who.set a (i : Int)) (c : Int) = (k : Int) ∧ (if k = i then (1 : Int) else s.ph k) ≠ 0 ∧ (if k = i then (a : Int) else s.jb k) = (c : Int)
            rw [rdI_set _ _ _ _ (by rw [h.lenW]; exact hal), bit_set _ _ _ (by rw [ht]; exact hal)]
            by_cases e : c = a
            · right; subst e; exact ⟨i, hi, by rw [if_pos rfl], by rw [if_pos rfl]; decide, by rw [if_pos rfl]⟩
            · rw [if_neg e, if_neg e]
              rcases h.who c hc hcd with h1 | ⟨k, g1, g2, g3, g4⟩
              · exact .inl h1
              · have hki : k ≠ i := fun e2 => by subst e2; exact g3 hp
                exact .inr ⟨k, g1, g2, by rw [if_neg hki]; exact g3, by rw [if_neg hki]; exact g4⟩ }
    · obtain ⟨a, h1, h2, h3, h4, h5, h6⟩ := h.held i hi hp
      have hr := (hg.work i hi).resolve_left (fun hh => hp hh.2)
      have hoth : ∀ k, k < 16 → s.ph k ≠ 0 → k ≠ i → ∀ c : Nat, s.jb k = (c : Int) → c ≠ a := fun k hk hpk hki c hc e => by
        subst e
        obtain ⟨c2, g1, g2, g3, g4, g5, g6⟩ := h.held k hk hpk
        obtain rfl : c = c2 := by omega
        rw [h5] at g5; omega
      have hfirst : firstHeld r (i : Int) r.l.length 0 = some a := firstHeld_some r _ _ 0 a (fun k _ hk => by
        unfold heldBy
        by_cases hw : rd r.who (k : Int) = (i : Int)
        · cases hb : bit r.done k
          · rw [h.done] at hb
            rcases h.who k (by omega) hb with g | ⟨i2, g1, g2, g3, g4⟩
            · omega
            · obtain rfl : i2 = i := by omega
              omega
          · simp
        · rw [decide_eq_false hw, Bool.false_and]) (by unfold heldBy; rw [h5, h.done, h3]; simp) (by omega) (by omega)
      have e2 : refPick r (i : Int) = refStep r a := by unfold refPick; rw [if_neg hxr, hfirst]
      rw [pick_busy_i (by omega) hp, h1, e2]
      obtain ⟨q, hq⟩ : ∃ q, q = s.ph i := ⟨_, rfl⟩
      rw [← hq] at hr h4 hp ⊢
      unfold refStep
      rw [h4]
      have hqq : q = 1 ∨ q = 2 := by omega
      rcases hqq with rfl | rfl
      · rw [show wrap64 ((1 : Int) + 1) = 2 by rw [Pure.wrap_small (by omega) (by omega)]; rfl]
        rw [if_neg (by decide)]
        have e : s.goOn i (a : Int) 1 = { s with steps := wrap64 (s.steps + 1), jb := fun k => if k = i then (a : Int) else s.jb k, ph := fun k => if k = i then 2 else s.ph k } := by
          unfold St.goOn; rw [if_neg (by decide)]; rfl
        rw [e]
        refine ⟨rfl, {
          jobs := h.jobs, many := h.many, done := h.done, made := h.made
          steps := by show wrap64 (r.steps + 1) = wrap64 (s.steps + 1); rw [h.steps]
          lenW := h.lenW
          lenP := by show (r.phase.set a _).length = _; rw [List.length_set]; exact h.lenP
          held := fun k hk hpk => by
            by_cases e : k = i
            · subst e
              refine ⟨a, by simp, h2, h3, ?_, h5, h6⟩
              show rd (r.phase.set a _) (a : Int) = _
              rw [rdI_set _ _ _ _ (by rw [h.lenP]; exact h2), if_pos rfl]
              simp
            · have hpk2 : s.ph k ≠ 0 := by simpa [e] using hpk
              obtain ⟨c, g1, g2, g3, g4, g5, g6⟩ := h.held k hk hpk2
              have hca := hoth k hk hpk2 e c g1
              refine ⟨c, by simpa [e] using g1, g2, g3, ?_, g5, g6⟩
              show rd (r.phase.set a _) (c : Int) = _
              rw [rdI_set _ _ _ _ (by rw [h.lenP]; exact h2), if_neg hca]; simpa [e] using g4
          who := fun c hc hcd => by
            show (rd r.who (c : Int) < 0 ∧ bit s.taken c = false) ∨ ∃ k : Nat, k < 16 ∧ rd r.who (c : Int) = (k : Int) ∧ (if k = i then (2 : Int) else s.ph k) ≠ 0 ∧ (if k = i then (a : Int) else s.jb k) = (c : Int)
            rcases h.who c hc hcd with g | ⟨k, g1, g2, g3, g4⟩
            · exact .inl g
            · by_cases e : k = i
              · subst e; exact .inr ⟨k, g1, g2, by rw [if_pos rfl]; decide, by rw [if_pos rfl]; omega⟩
              · exact .inr ⟨k, g1, g2, by rw [if_neg e]; exact g3, by rw [if_neg e]; exact g4⟩ }⟩
      · rw [show wrap64 ((2 : Int) + 1) = 3 by rw [Pure.wrap_small (by omega) (by omega)]; rfl]
        rw [if_pos rfl]
        have e : s.goOn i (a : Int) 2 = { s with steps := wrap64 (s.steps + 1), jb := fun k => if k = i then 0 else s.jb k, ph := fun k => if k = i then 0 else s.ph k, done := s.done.set a true, made := s.made ++ [(a : Int)] } := by
          unfold St.goOn; rw [if_pos (by decide), Int.toNat_natCast]
        rw [e]
        have hds : ∀ c, bit (s.done.set a true) c = if c = a then true else bit s.done c := fun c => bit_set _ _ _ (by rw [hd]; exact h2)
        refine ⟨rfl, {
          jobs := h.jobs, many := h.many
          done := by show r.done.set a true = s.done.set a true; rw [h.done]
          made := by show r.made ++ [(a : Int)] = s.made ++ [(a : Int)]; rw [h.made]
          steps := by show wrap64 (r.steps + 1) = wrap64 (s.steps + 1); rw [h.steps]
          lenW := by show (r.who.set a _).length = _; rw [List.length_set]; exact h.lenW
          lenP := by show (r.phase.set a _).length = _; rw [List.length_set]; exact h.lenP
          held := fun k hk hpk => by
            by_cases e : k = i
            · subst e; simp at hpk
            · have hpk2 : s.ph k ≠ 0 := by simpa [e] using hpk
              obtain ⟨c, g1, g2, g3, g4, g5, g6⟩ := h.held k hk hpk2
              have hca := hoth k hk hpk2 e c g1
              refine ⟨c, by simpa [e] using g1, g2, ?_, ?_, ?_, g6⟩
              · show bit (s.done.set a true) c = false; rw [hds, if_neg hca]; exact g3
              · show rd (r.phase.set a _) (c : Int) = _
                rw [rdI_set _ _ _ _ (by rw [h.lenP]; exact h2), if_neg hca]; simpa [e] using g4
              · show rd (r.who.set a _) (c : Int) = _
                rw [rdI_set _ _ _ _ (by rw [h.lenW]; exact h2), if_neg hca]; exact g5
          who := fun c hc hcd => by
            have hcd2 : bit (s.done.set a true) c = false := hcd
            rw [hds] at hcd2
            show (rd (r.who.set a (-1)) (c : Int) < 0 ∧ bit s.taken c = false) ∨ ∃ k : Nat, k < 16 ∧ rd (r.who.set a (-1)) (c : Int) = (k : Int) ∧ (if k = i then (0 : Int) else s.ph k) ≠ 0 ∧ (if k = i then (0 : Int) else s.jb k) = (c : Int)
            by_cases e : c = a
            · rw [if_pos e] at hcd2; cases hcd2
            · rw [if_neg e] at hcd2
              rw [rdI_set _ _ _ _ (by rw [h.lenW]; exact h2), if_neg e]
              rcases h.who c hc hcd2 with g | ⟨k, g1, g2, g3, g4⟩
              · exact .inl g
              · have hki : k ≠ i := fun e2 => by subst e2; omega
                exact .inr ⟨k, g1, g2, by rw [if_neg hki]; exact g3, by rw [if_neg hki]; exact g4⟩ }⟩
end Go.Proofs.Ytgjlgdohlmpnbaa.P
