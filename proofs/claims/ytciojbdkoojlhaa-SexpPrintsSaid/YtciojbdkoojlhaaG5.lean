/- The parser as a machine over bytes, in plain Lean. Conditions: as each states. -/
import Derived.Test.YtciojbdkoojlhaaG1
namespace Go.Proofs.Ytciojbdkoojlhaa.P
set_option linter.unusedVariables false
structure MSt where
  pos : Nat
  top : List S30
  stk : List (List S30 × Nat)
  word : Option (List UInt8 × Nat)
  note : Bool
inductive Mx where
  | bad (e : Nat) (at_ : Nat)
  | go (s : MSt)
def wordNode (ws : List UInt8) (b : Nat) : S30 := ⟨false, ⟨ws.toArray⟩, [], (b : Int)⟩
def listNode (l : List S30) (a : Nat) : S30 := ⟨true, ⟨#[]⟩, l, (a : Int)⟩
def partB (c : UInt8) : Bool := partOf (c.toNat : Int)
def isBlank (c : UInt8) : Bool := c == 32 || c == 9 || c == 10 || c == 13
def flushT (s : MSt) : List S30 := match s.word with
  | some (ws, b) => s.top ++ [wordNode ws b]
  | none => s.top
/-- The word is ended where the byte is none of it. -/
def endW (c : UInt8) (s : MSt) : MSt := if partB c then s else { s with top := flushT s, word := none }
def act (c : UInt8) (s : MSt) : Mx :=
  if s.note then .go { s with note := c != 10, pos := s.pos + 1 }
  else if c = 59 then .go { s with note := true, pos := s.pos + 1 }
  else if isBlank c then .go { s with pos := s.pos + 1 }
  else if partB c then .go { s with word := some (match s.word with | none => ([c], s.pos) | some (ws, b) => (ws ++ [c], b)), pos := s.pos + 1 }
  else if c = 40 then (if s.stk.length = 24 then .bad 4 s.pos else .go { s with top := [], stk := (s.top, s.pos) :: s.stk, pos := s.pos + 1 })
  else if c = 41 then (match s.stk with
    | [] => .bad 3 s.pos
    | (t, a) :: r => .go { s with top := t ++ [listNode s.top a], stk := r, pos := s.pos + 1 })
  else .bad 2 s.pos
def stepM (x : Mx) (c : UInt8) : Mx := match x with
  | .bad e a => .bad e a
  | .go s => act c (endW c s)
def runM (x : Mx) (l : List UInt8) : Mx := l.foldl stepM x
def start : MSt := ⟨0, [], [], none, false⟩
def finM (size : Nat) : Mx → List S30 × Int × Int
  | .bad e a => ([], e, a)
  | .go s => if s.stk = [] then (flushT s, 0, -1) else ([], 3, size)
def bytesL (s : ByteArray) : List UInt8 := s.data.toList
def parseM (s : ByteArray) : List S30 × Int × Int := if s.size > 16384 then ([], 5, 0) else finM s.size (runM (.go start) (bytesL s))
theorem runM_nil (x : Mx) : runM x [] = x := rfl
theorem runM_cons (x : Mx) (c : UInt8) (l : List UInt8) : runM x (c :: l) = runM (stepM x c) l := rfl
theorem runM_append (x : Mx) (a b : List UInt8) : runM x (a ++ b) = runM (runM x a) b := List.foldl_append
theorem runM_bad (e a : Nat) : ∀ l, runM (.bad e a) l = .bad e a
  | [] => rfl
  | _ :: l => runM_bad e a l
/-! what the walk asks -/
def opns (s : MSt) : List (List S30) := (s.stk.map (·.1)).reverse ++ [s.top]
def atsOf (s : MSt) : List Int := (s.stk.map (fun p => (p.2 : Int))).reverse
def begunOf (s : MSt) : Int := match s.word with
  | none => -1
  | some (_, b) => (b : Int)
/-- The machine's state is that of the first bytes. -/
structure OkAt (l : List UInt8) (s : MSt) : Prop where
  run : runM (.go start) (l.take s.pos) = .go s
  le : s.pos ≤ l.length
  word : ∀ ws b, s.word = some (ws, b) → b + ws.length = s.pos ∧ ws = (l.take s.pos).drop b ∧ s.note = false
  few : s.top.length + (match s.word with | none => 0 | some _ => 1) ≤ s.pos
  rows : ∀ p ∈ s.stk, p.1.length ≤ s.pos
  deep : s.stk.length ≤ 24
theorem okAt_start (l : List UInt8) : OkAt l start := ⟨rfl, Nat.zero_le _, fun _ _ h => (nomatch h), Nat.le_refl 0, fun _ h => (nomatch h), Nat.zero_le _⟩
theorem flush_len (s : MSt) : (flushT s).length = s.top.length + (match s.word with | none => 0 | some _ => 1) := by
  unfold flushT
  cases s.word with
  | none => rfl
  | some p => simp
theorem step_run {l : List UInt8} {s : MSt} (h : OkAt l s) (hl : s.pos < l.length) : runM (.go start) (l.take (s.pos + 1)) = act l[s.pos] (endW l[s.pos] s) := by
  rw [List.take_succ_eq_append_getElem hl, runM_append, h.run]
  rfl
theorem endW_eq (c : UInt8) (s : MSt) : (endW c s).pos = s.pos ∧ (endW c s).stk = s.stk ∧ (endW c s).note = s.note := by
  unfold endW
  split <;> exact ⟨rfl, rfl, rfl⟩
def wN (s : MSt) : Nat := match s.word with | none => 0 | some _ => 1
theorem endW_few (c : UInt8) (s : MSt) : (endW c s).top.length + wN (endW c s) = s.top.length + wN s := by
  unfold endW
  split
  · rfl
  · show (flushT s).length + 0 = _
    rw [flush_len]; rfl
theorem endW_word {c : UInt8} {s : MSt} {ws : List UInt8} {b : Nat} (h : (endW c s).word = some (ws, b)) : s.word = some (ws, b) ∧ partB c = true := by
  unfold endW at h
  split at h
  · exact ⟨h, by assumption⟩
  · cases h
theorem step_ok {l : List UInt8} {s s' : MSt} (h : OkAt l s) (hl : s.pos < l.length) (ha : act l[s.pos] (endW l[s.pos] s) = .go s') : OkAt l s' ∧ s'.pos = s.pos + 1 := by
  have hr := step_run h hl
  rw [ha] at hr
  generalize hc : l[s.pos] = c at ha
  obtain ⟨e1, e2, e3⟩ := endW_eq c s
  have e4 := endW_few c s
  have e5 := @endW_word c s
  have hf : s.top.length + wN s ≤ s.pos := h.few
  have htk : l.take (s.pos + 1) = l.take s.pos ++ [c] := by rw [List.take_succ_eq_append_getElem hl, hc]
  generalize hs1 : endW c s = s1 at ha e1 e2 e3 e4 e5
  have nw : s1.word = none → wN s1 = 0 := fun hw => by unfold wN; rw [hw]
  have key : s'.pos = s.pos + 1 → (∀ ws b, s'.word = some (ws, b) → b + ws.length = s.pos + 1 ∧ ws = (l.take (s.pos + 1)).drop b ∧ s'.note = false) → s'.top.length + wN s' ≤ s.pos + 1 → (∀ p ∈ s'.stk, p.1.length ≤ s.pos + 1) → s'.stk.length ≤ 24 → OkAt l s' ∧ s'.pos = s.pos + 1 := by
    intro k1 k2 k3 k4 k5
    exact ⟨⟨by rw [k1]; exact hr, by omega, by rw [k1]; exact k2, by rw [k1]; exact k3, by rw [k1]; exact k4, k5⟩, k1⟩
  have hrows : ∀ p ∈ s1.stk, p.1.length ≤ s.pos + 1 := fun p hp => by rw [e2] at hp; exact Nat.le_succ_of_le (h.rows p hp)
  have hdeep : s1.stk.length ≤ 24 := by rw [e2]; exact h.deep
  have hwn : partB c = false → s1.word = none := fun hp => by
    cases hw : s1.word with
    | none => rfl
    | some q => exact absurd (e5 (ws := q.1) (b := q.2) hw).2 (by rw [hp]; decide)
  unfold act at ha
  by_cases c1 : s1.note = true
  · rw [if_pos c1] at ha
    injection ha with ha; subst ha
    have hw : s1.word = none := by
      cases hw : s1.word with
      | none => rfl
      | some q => have := (h.word q.1 q.2 (e5 hw).1).2.2; rw [e3, this] at c1; cases c1
    refine key (by show s1.pos + 1 = _; omega) (fun ws b hh => ?_) ?_ hrows hdeep
    · rw [show s1.word = some (ws, b) from hh] at hw; cases hw
    · show s1.top.length + wN s1 ≤ _
      omega
  rw [if_neg c1] at ha
  by_cases c2 : c = 59
  · rw [if_pos c2] at ha
    injection ha with ha; subst ha
    have hw := hwn (by rw [c2]; decide +kernel)
    refine key (by show s1.pos + 1 = _; omega) (fun ws b hh => ?_) ?_ hrows hdeep
    · rw [show s1.word = some (ws, b) from hh] at hw; cases hw
    · show s1.top.length + wN s1 ≤ _
      omega
  rw [if_neg c2] at ha
  by_cases c3 : isBlank c = true
  · rw [if_pos c3] at ha
    injection ha with ha; subst ha
    have hw := hwn (by
      unfold isBlank at c3
      simp only [Bool.or_eq_true, beq_iff_eq] at c3
      rcases c3 with ((rfl | rfl) | rfl) | rfl <;> decide +kernel)
    refine key (by show s1.pos + 1 = _; omega) (fun ws b hh => ?_) ?_ hrows hdeep
    · rw [show s1.word = some (ws, b) from hh] at hw; cases hw
    · show s1.top.length + wN s1 ≤ _
      omega
  rw [if_neg c3] at ha
  by_cases c4 : partB c = true
  · rw [if_pos c4] at ha
    injection ha with ha; subst ha
    have hs1e : s1 = s := by rw [← hs1]; unfold endW; rw [if_pos c4]
    refine key (by show s1.pos + 1 = _; omega) (fun ws b hh => ?_) ?_ hrows hdeep
    · have hn : s1.note = false := Bool.eq_false_iff.mpr c1
      cases hw : s1.word with
      | none =>
        simp only [hw, Option.some.injEq, Prod.mk.injEq] at hh
        obtain ⟨rfl, rfl⟩ := hh
        refine ⟨by rw [e1]; rfl, ?_, hn⟩
        rw [htk, e1, List.drop_append_of_le_length (by rw [List.length_take]; omega), List.drop_eq_nil_of_le (by rw [List.length_take]; omega)]
        rfl
      | some q =>
        simp only [hw, Option.some.injEq, Prod.mk.injEq] at hh
        obtain ⟨rfl, rfl⟩ := hh
        obtain ⟨w1, w2, _⟩ := h.word q.1 q.2 (e5 hw).1
        refine ⟨by rw [List.length_append, List.length_singleton]; omega, ?_, hn⟩
        rw [htk, List.drop_append_of_le_length (by rw [List.length_take]; omega), ← w2]
    · show s1.top.length + 1 ≤ _
      have hw1 : s1.top.length + wN s1 ≤ s.pos := by omega
      omega
  rw [if_neg c4] at ha
  have hw := hwn (Bool.eq_false_iff.mpr c4)
  have hw0 := nw hw
  by_cases c5 : c = 40
  · rw [if_pos c5] at ha
    by_cases c6 : s1.stk.length = 24
    · rw [if_pos c6] at ha; cases ha
    · rw [if_neg c6] at ha
      injection ha with ha; subst ha
      refine key (by show s1.pos + 1 = _; omega) (fun ws b hh => ?_) ?_ (fun p hp => ?_) (by show s1.stk.length + 1 ≤ 24; omega)
      · rw [show s1.word = some (ws, b) from hh] at hw; cases hw
      · show 0 + wN s1 ≤ _
        rw [hw0]; omega
      · rcases List.mem_cons.1 hp with rfl | hp
        · show s1.top.length ≤ _; omega
        · exact hrows p hp
  rw [if_neg c5] at ha
  by_cases c7 : c = 41
  · rw [if_pos c7] at ha
    cases hk : s1.stk with
    | nil => rw [hk] at ha; cases ha
    | cons q r =>
      rw [hk] at ha
      injection ha with ha; subst ha
      have hq := h.rows q (by rw [← e2, hk]; exact List.mem_cons_self)
      have hkl : r.length + 1 = s.stk.length := by rw [← e2, hk]; rfl
      refine key (by show s1.pos + 1 = _; omega) (fun ws b hh => ?_) ?_ (fun p hp => hrows p (by rw [hk]; exact List.mem_cons_of_mem _ hp)) (by show r.length ≤ 24; have := h.deep; omega)
      · rw [show s1.word = some (ws, b) from hh] at hw; cases hw
      · show (q.1 ++ [_]).length + wN s1 ≤ _
        rw [hw0, List.length_append]
        show q.1.length + 1 + 0 ≤ _
        omega
  · rw [if_neg c7] at ha; cases ha
end Go.Proofs.Ytciojbdkoojlhaa.P
