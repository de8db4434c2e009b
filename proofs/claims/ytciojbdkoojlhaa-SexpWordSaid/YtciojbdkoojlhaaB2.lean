/- The parser as a machine: what a step does, what stays true. Conditions: as each states. -/
import Derived.Test.YtciojbdkoojlhaaB1
namespace Go.Proofs.Ytciojbdkoojlhaa.P
set_option linter.unusedVariables false
open Go.RowKit Go.Proofs.YtciojbdkoojlhaaW.PrintWords Go.Proofs.YtciojbdkoojlhaaW.PrintLast Go.Proofs.YtciojbdkoojlhaaW.PrintMore
/-- The word, if there is one, is ended. -/
def flushS (s : MSt) : MSt := { s with top := flushT s, word := none }
theorem endW_cases (c : UInt8) (s : MSt) : (partB c = true ∧ endW c s = s) ∨ (partB c = false ∧ endW c s = flushS s) := by
  unfold endW flushS
  cases h : partB c with
  | true => exact .inl ⟨rfl, by simp⟩
  | false => exact .inr ⟨rfl, by simp⟩
/-- What a step does. -/
theorem act_cases {c : UInt8} {s s' : MSt} (h : act c (endW c s) = .go s') :
    (s'.top = (endW c s).top ∧ s'.stk = (endW c s).stk ∧ s'.word = (endW c s).word ∧ s'.pos = s.pos + 1) ∨
    (partB c = true ∧ s.note = false ∧ s' = { s with word := some (match s.word with | none => ([c], s.pos) | some (ws, b) => (ws ++ [c], b)), pos := s.pos + 1 }) ∨
    (c = 40 ∧ s.stk.length ≠ 24 ∧ s' = { (flushS s) with top := [], stk := (flushT s, s.pos) :: s.stk, pos := s.pos + 1 }) ∨
    (c = 41 ∧ ∃ t a r, s.stk = (t, a) :: r ∧ s' = { (flushS s) with top := t ++ [listNode (flushT s) a], stk := r, pos := s.pos + 1 }) := by
  obtain ⟨e1, e2, e3⟩ := endW_eq c s
  unfold act at h
  by_cases c1 : (endW c s).note = true
  · rw [if_pos c1] at h; injection h with h; subst h
    exact .inl ⟨rfl, rfl, rfl, by show (endW c s).pos + 1 = _; rw [e1]⟩
  rw [if_neg c1] at h
  by_cases c2 : c = 59
  · rw [if_pos c2] at h; injection h with h; subst h
    exact .inl ⟨rfl, rfl, rfl, by show (endW c s).pos + 1 = _; rw [e1]⟩
  rw [if_neg c2] at h
  by_cases c3 : isBlank c = true
  · rw [if_pos c3] at h; injection h with h; subst h
    exact .inl ⟨rfl, rfl, rfl, by show (endW c s).pos + 1 = _; rw [e1]⟩
  rw [if_neg c3] at h
  by_cases c4 : partB c = true
  · rw [if_pos c4] at h; injection h with h; subst h
    have hs : endW c s = s := by unfold endW; rw [if_pos c4]
    rw [hs] at c1 ⊢
    exact .inr (.inl ⟨c4, Bool.eq_false_iff.mpr c1, rfl⟩)
  rw [if_neg c4] at h
  have hs : endW c s = flushS s := by unfold endW; rw [if_neg c4]; rfl
  rw [hs] at h
  by_cases c5 : c = 40
  · rw [if_pos c5] at h
    by_cases c6 : (flushS s).stk.length = 24
    · rw [if_pos c6] at h; cases h
    · rw [if_neg c6] at h; injection h with h; subst h
      exact .inr (.inr (.inl ⟨c5, c6, rfl⟩))
  rw [if_neg c5] at h
  by_cases c7 : c = 41
  · rw [if_pos c7] at h
    cases hk : s.stk with
    | nil => rw [show (flushS s).stk = s.stk from rfl, hk] at h; cases h
    | cons q r =>
      rw [show (flushS s).stk = s.stk from rfl, hk] at h
      injection h with h; subst h
      exact .inr (.inr (.inr ⟨c7, q.1, q.2, r, rfl, rfl⟩))
  · rw [if_neg c7] at h; cases h
/-- What each step keeps is kept. -/
theorem run_inv (P : MSt → Prop) (hP : ∀ s c s', P s → act c (endW c s) = .go s' → P s') : ∀ (l : List UInt8) (s s' : MSt), P s → runM (.go s) l = .go s' → P s'
  | [], s, s', h, hr => by
    injection hr with hr
    exact hr ▸ h
  | c :: l, s, s', h, hr => by
    rw [runM_cons] at hr
    cases ha : act c (endW c s) with
    | bad e a =>
      rw [show stepM (.go s) c = act c (endW c s) from rfl, ha, runM_bad] at hr
      cases hr
    | go s1 =>
      rw [show stepM (.go s) c = act c (endW c s) from rfl, ha] at hr
      exact run_inv P hP l s1 s' (hP s c s1 h ha) hr
theorem act_bad {c : UInt8} {s : MSt} {e a : Nat} (h : act c s = .bad e a) : a = s.pos ∧ 2 ≤ e ∧ e ≤ 4 := by
  unfold act at h
  split at h
  · cases h
  · split at h
    · cases h
    · split at h
      · cases h
      · split at h
        · cases h
        · split at h
          · split at h
            · injection h with h1 h2; omega
            · cases h
          · split at h
            · split at h
              · injection h with h1 h2; omega
              · cases h
            · injection h with h1 h2; omega
/-- What is wrong lies in the text. -/
theorem bad_at : ∀ (l : List UInt8) (s : MSt) (e a : Nat), runM (.go s) l = .bad e a → s.pos ≤ a ∧ a < s.pos + l.length ∧ 2 ≤ e ∧ e ≤ 4
  | [], s, e, a, h => by cases h
  | c :: l, s, e, a, h => by
    rw [runM_cons, show stepM (.go s) c = act c (endW c s) from rfl] at h
    obtain ⟨e1, _, _⟩ := endW_eq c s
    cases ha : act c (endW c s) with
    | bad e' a' =>
      rw [ha, runM_bad] at h
      injection h with h1 h2
      subst h1 h2
      obtain ⟨h3, h4⟩ := act_bad ha
      rw [e1] at h3
      simp only [List.length_cons]
      omega
    | go s1 =>
      rw [ha] at h
      obtain ⟨h1, h2, h3⟩ := bad_at l s1 e a h
      have hp : s1.pos = s.pos + 1 := by
        rcases act_cases ha with h | ⟨_, _, h⟩ | ⟨_, _, h⟩ | ⟨_, _, _, _, _, h⟩
        · exact h.2.2.2
        all_goals (subst h; rfl)
      simp only [List.length_cons]
      omega
theorem run_pos : ∀ (l : List UInt8) (s s' : MSt), runM (.go s) l = .go s' → s'.pos = s.pos + l.length
  | [], s, s', h => by injection h with h; subst h; rfl
  | c :: l, s, s', h => by
    rw [runM_cons, show stepM (.go s) c = act c (endW c s) from rfl] at h
    cases ha : act c (endW c s) with
    | bad e a => rw [ha, runM_bad] at h; cases h
    | go s1 =>
      rw [ha] at h
      have h1 := run_pos l s1 s' h
      have hp : s1.pos = s.pos + 1 := by
        rcases act_cases ha with h | ⟨_, _, h⟩ | ⟨_, _, h⟩ | ⟨_, _, _, _, _, h⟩
        · exact h.2.2.2
        all_goals (subst h; rfl)
      simp only [List.length_cons]
      omega
/-! how many nodes -/
def stkCnt : List (List S30 × Nat) → Nat
  | [] => 0
  | (t, a) :: r => cntL t + 1 + stkCnt r
def CntOk (s : MSt) : Prop := cntL s.top + stkCnt s.stk + wN s ≤ s.pos
theorem cnt_word (ws : List UInt8) (b : Nat) : cnt (wordNode ws b) = 1 := by simp [wordNode, cnt, cntL]
theorem cnt_list (l : List S30) (a : Nat) : cnt (listNode l a) = 1 + cntL l := by simp [listNode, cnt]
theorem cnt_flush (s : MSt) : cntL (flushT s) = cntL s.top + wN s := by
  unfold flushT wN
  cases s.word with
  | none => rfl
  | some q => simp only [cntL_append, cntL, cnt_word]
theorem cnt_end {c : UInt8} {s : MSt} (h : CntOk s) : CntOk (endW c s) := by
  rcases endW_cases c s with ⟨_, e⟩ | ⟨_, e⟩
  · rw [e]; exact h
  · rw [e]
    unfold CntOk at h ⊢
    show cntL (flushT s) + stkCnt s.stk + 0 ≤ s.pos
    rw [cnt_flush]
    omega
theorem cnt_run {l : List UInt8} {s' : MSt} (h : runM (.go start) l = .go s') : CntOk s' := by
  refine run_inv CntOk (fun s c s' hs ha => ?_) l start s' (by simp [CntOk, start, cntL, stkCnt, wN]) h
  obtain ⟨e1, _, _⟩ := endW_eq c s
  rcases act_cases ha with ⟨h1, h2, h3, h4⟩ | ⟨hp, _, h⟩ | ⟨_, _, h⟩ | ⟨_, t, a, r, hk, h⟩
  · have hc := cnt_end (c := c) hs
    unfold CntOk wN at hc ⊢
    rw [h1, h2, h3, h4]
    rw [e1] at hc
    omega
  · subst h
    unfold CntOk wN at hs ⊢
    show cntL s.top + stkCnt s.stk + 1 ≤ s.pos + 1
    omega
  · subst h
    unfold CntOk at hs ⊢
    show cntL [] + (cntL (flushT s) + 1 + stkCnt s.stk) + 0 ≤ s.pos + 1
    rw [cnt_flush]
    simp only [cntL]
    omega
  · subst h
    unfold CntOk at hs ⊢
    rw [hk] at hs
    simp only [stkCnt] at hs
    show cntL (t ++ [listNode (flushT s) a]) + stkCnt r + 0 ≤ s.pos + 1
    simp only [cntL_append, cntL, cnt_list, cnt_flush]
    omega
/-! which words -/
def goodB (l : List UInt8) : Prop := l ≠ [] ∧ ∀ c ∈ l, partB c = true
def GoodL (l : List S30) : Prop := ∀ n ∈ l, n.f0 = false → n.f2 = [] ∧ goodB (bytesL n.f1)
def GoodS (s : MSt) : Prop := GoodL s.top ∧ (∀ p ∈ s.stk, GoodL p.1) ∧ ∀ ws b, s.word = some (ws, b) → goodB ws
theorem good_snoc {l : List S30} {n : S30} (h : GoodL l) (hn : n.f0 = false → n.f2 = [] ∧ goodB (bytesL n.f1)) : GoodL (l ++ [n]) := by
  intro m hm
  rcases List.mem_append.1 hm with hm | hm
  · exact h m hm
  · rw [List.mem_singleton] at hm
    subst hm
    exact hn
theorem good_flush {s : MSt} (h : GoodS s) : GoodL (flushT s) := by
  unfold flushT
  cases hw : s.word with
  | none => exact h.1
  | some q => exact good_snoc h.1 (fun _ => ⟨rfl, h.2.2 q.1 q.2 hw⟩)
theorem good_run {l : List UInt8} {s' : MSt} (h : runM (.go start) l = .go s') : GoodS s' := by
  refine run_inv GoodS (fun s c s' hs ha => ?_) l start s' ⟨fun _ h => (by cases h), fun _ h => (by cases h), fun _ _ h => (by cases h)⟩ h
  rcases act_cases ha with ⟨h1, h2, h3, h4⟩ | ⟨hp, _, h⟩ | ⟨_, _, h⟩ | ⟨_, t, a, r, hk, h⟩
  · have he : GoodS (endW c s) := by
      rcases endW_cases c s with ⟨_, e⟩ | ⟨_, e⟩
      · rw [e]; exact hs
      · rw [e]; exact ⟨good_flush hs, hs.2.1, fun _ _ h => (by cases h)⟩
    unfold GoodS
    rw [h1, h2, h3]
    exact he
  · subst h
    refine ⟨hs.1, hs.2.1, fun ws b hw => ?_⟩
    cases hq : s.word with
    | none =>
      simp only [hq, Option.some.injEq, Prod.mk.injEq] at hw
      obtain ⟨rfl, rfl⟩ := hw
      exact ⟨by simp, fun x hx => by rw [List.mem_singleton] at hx; rw [hx]; exact hp⟩
    | some q =>
      simp only [hq, Option.some.injEq, Prod.mk.injEq] at hw
      obtain ⟨rfl, rfl⟩ := hw
      refine ⟨by simp, fun x hx => ?_⟩
      rcases List.mem_append.1 hx with hx | hx
      · exact (hs.2.2 q.1 q.2 hq).2 x hx
      · rw [List.mem_singleton] at hx; rw [hx]; exact hp
  · subst h
    refine ⟨fun _ h => (by cases h), fun p hp => ?_, fun _ _ h => (by cases h)⟩
    rcases List.mem_cons.1 hp with rfl | hp
    · exact good_flush hs
    · exact hs.2.1 p hp
  · subst h
    refine ⟨good_snoc (hs.2.1 (t, a) (by rw [hk]; exact List.mem_cons_self)) (fun h => (by cases h)), fun p hp => hs.2.1 p (by rw [hk]; exact List.mem_cons_of_mem _ hp), fun _ _ h => (by cases h)⟩
theorem part_at {s : ByteArray} {i : Nat} (h : i < s.size) : partOf (byteAt s i) = partB ((bytesL s)[i]'(by rw [bytesL_len]; exact h)) := by
  unfold partB
  rw [bytesL_at s i h, byteAt_eq s i h]
theorem allTo_iff (s : ByteArray) : ∀ n, n ≤ s.size → (allTo s n = true ↔ ∀ i, i < n → ∀ h : i < (bytesL s).length, partB (bytesL s)[i] = true)
  | 0, _ => ⟨fun _ i hi => absurd hi (Nat.not_lt_zero _), fun _ => rfl⟩
  | n + 1, hn => by
    have ih := allTo_iff s n (by omega)
    unfold allTo
    rw [Bool.and_eq_true, ih, part_at (show n < s.size by omega)]
    refine ⟨fun ⟨h1, h2⟩ i hi h => ?_, fun h => ⟨fun i hi hh => h i (by omega) hh, h n (by omega) _⟩⟩
    by_cases e : i = n
    · subst e; exact h2
    · exact h1 i (by omega) h
theorem word_iff (s : ByteArray) : wordOf s = true ↔ goodB (bytesL s) := by
  unfold wordOf goodB
  rw [Bool.and_eq_true, allTo_iff s s.size (Nat.le_refl _), decide_eq_true_iff]
  have hl : (bytesL s).length = s.size := bytesL_len s
  refine ⟨fun ⟨h1, h2⟩ => ⟨fun e => h2 (by rw [← hl, e]; rfl), fun c hc => ?_⟩, fun ⟨h1, h2⟩ => ⟨fun i hi h => h2 _ (List.getElem_mem h), fun e => h1 (List.length_eq_zero_iff.1 (by rw [hl, e]))⟩⟩
  obtain ⟨i, hi, rfl⟩ := List.getElem_of_mem hc
  exact h1 i (by omega) hi
/-- A word alone is read as one. -/
theorem run_word : ∀ (l : List UInt8) (s : MSt) (ws : List UInt8) (b : Nat), s.word = some (ws, b) → s.note = false → (∀ c ∈ l, partB c = true) → runM (.go s) l = .go { s with word := some (ws ++ l, b), pos := s.pos + l.length }
  | [], s, ws, b, hw, hn, h => by
    rw [List.append_nil]
    show Mx.go s = _
    cases s
    simp_all
  | c :: l, s, ws, b, hw, hn, h => by
    have hp := h c List.mem_cons_self
    have h59 : c ≠ 59 := fun e => by rw [e] at hp; exact absurd hp (by decide +kernel)
    have hbl : isBlank c = false := by
      cases hb : isBlank c with
      | false => rfl
      | true =>
        unfold isBlank at hb
        simp only [Bool.or_eq_true, beq_iff_eq] at hb
        rcases hb with ((rfl | rfl) | rfl) | rfl <;> exact absurd hp (by decide +kernel)
    have ha : act c (endW c s) = .go { s with word := some (ws ++ [c], b), pos := s.pos + 1 } := by
      unfold endW act
      rw [if_pos hp, if_neg (by rw [hn]; decide), if_neg h59, if_neg (by rw [hbl]; decide), if_pos hp, hw]
    rw [runM_cons, show stepM (.go s) c = act c (endW c s) from rfl, ha]
    refine (run_word l { s with word := some (ws ++ [c], b), pos := s.pos + 1 } (ws ++ [c]) b rfl hn (fun x hx => h x (List.mem_cons_of_mem _ hx))).trans ?_
    simp only [List.append_assoc, List.singleton_append, List.length_cons, Nat.add_assoc, Nat.add_comm 1]
theorem run_words {l : List UInt8} {s : MSt} (hg : goodB l) (hw : s.word = none) (hn : s.note = false) : runM (.go s) l = .go { s with word := some (l, s.pos), pos := s.pos + l.length } := by
  obtain ⟨h1, h2⟩ := hg
  cases l with
  | nil => exact absurd rfl h1
  | cons c l =>
    have hp := h2 c List.mem_cons_self
    have h59 : c ≠ 59 := fun e => by rw [e] at hp; exact absurd hp (by decide +kernel)
    have hbl : isBlank c = false := by
      cases hb : isBlank c with
      | false => rfl
      | true =>
        unfold isBlank at hb
        simp only [Bool.or_eq_true, beq_iff_eq] at hb
        rcases hb with ((rfl | rfl) | rfl) | rfl <;> exact absurd hp (by decide +kernel)
    have ha : act c (endW c s) = .go { s with word := some ([c], s.pos), pos := s.pos + 1 } := by
      unfold endW act
      rw [if_pos hp, if_neg (by rw [hn]; decide), if_neg h59, if_neg (by rw [hbl]; decide), if_pos hp, hw]
    rw [runM_cons, show stepM (.go s) c = act c (endW c s) from rfl, ha]
    refine (run_word l { s with word := some ([c], s.pos), pos := s.pos + 1 } [c] s.pos rfl hn (fun x hx => h2 x (List.mem_cons_of_mem _ hx))).trans ?_
    simp only [List.singleton_append, List.length_cons, Nat.add_assoc, Nat.add_comm 1]
end Go.Proofs.Ytciojbdkoojlhaa.P
