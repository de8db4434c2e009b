/- What is printed is parsed as it was, but for places: the law, in plain Lean. Conditions: none. -/
import Derived.Test.YtciojbdkoojlhaaPx24
import Derived.Test.YtciojbdkoojlhaaB2
import Derived.Test.YtciojbdkoojlhaaB5
import Derived.Test.YtciojbdkoojlhaaO2
namespace Go.Proofs.Ytciojbdkoojlhaa.Pure
set_option linter.unusedVariables false
open Go.RowKit Go.Proofs.Ytciojbdkoojlhaa.P Go.Proofs.YtciojbdkoojlhaaW.PrintWords Go.Proofs.YtciojbdkoojlhaaW.PrintLast
theorem blank_sep {c : UInt8} (h : c = 10 ∨ c = 32) : partB c = false ∧ isBlank c = true ∧ c ≠ 59 := by
  rcases h with rfl | rfl
  · exact ⟨by decide +kernel, by decide, by decide⟩
  · exact ⟨by decide +kernel, by decide, by decide⟩
theorem end_flush (c : UInt8) (s : MSt) (h : partB c = false) : endW c s = flushS s := by
  rcases endW_cases c s with ⟨e, _⟩ | ⟨_, e⟩
  · rw [h] at e; cases e
  · exact e
/-- A blank between two nodes. -/
theorem run_sep {c : UInt8} (h : c = 10 ∨ c = 32) (s : MSt) (hn : s.note = false) : runM (.go s) [c] = .go { (flushS s) with pos := s.pos + 1 } := by
  obtain ⟨h1, h2, h3⟩ := blank_sep h
  show act c (endW c s) = _
  rw [end_flush c s h1]
  unfold act
  rw [if_neg (show ¬ (flushS s).note = true by show ¬ s.note = true; rw [hn]; decide), if_neg h3, if_pos h2]
  rfl
theorem run_open (s : MSt) (hn : s.note = false) (hw : s.word = none) (hk : s.stk.length ≠ 24) : runM (.go s) [40] = .go { s with top := [], stk := (s.top, s.pos) :: s.stk, pos := s.pos + 1 } := by
  show act 40 (endW 40 s) = _
  have hfs : flushT s = s.top := by unfold flushT; rw [hw]
  rw [end_flush 40 s (by decide +kernel)]
  unfold act
  rw [if_neg (show ¬ (flushS s).note = true by show ¬ s.note = true; rw [hn]; decide), if_neg (by decide), if_neg (by decide), if_neg (by decide +kernel), if_pos rfl, if_neg (show ¬ (flushS s).stk.length = 24 from hk)]
  show Mx.go ⟨s.pos + 1, [], (flushT s, s.pos) :: s.stk, none, s.note⟩ = Mx.go ⟨s.pos + 1, [], (s.top, s.pos) :: s.stk, s.word, s.note⟩
  rw [hfs, hw]
theorem run_shut (s : MSt) (hn : s.note = false) {t : List S30} {a : Nat} {r : List (List S30 × Nat)} (hk : s.stk = (t, a) :: r) : runM (.go s) [41] = .go { (flushS s) with top := t ++ [listNode (flushT s) a], stk := r, pos := s.pos + 1 } := by
  show act 41 (endW 41 s) = _
  rw [end_flush 41 s (by decide +kernel)]
  unfold act
  rw [if_neg (show ¬ (flushS s).note = true by show ¬ s.note = true; rw [hn]; decide), if_neg (by decide), if_neg (by decide), if_neg (by decide +kernel), if_neg (by decide), if_pos rfl]
  rw [show (flushS s).stk = s.stk from rfl, hk]
  rfl
theorem take_erL {l : List S30} {i : Nat} (h : i < l.length) : erL (l.take (i + 1)) = erL (l.take i) ++ [er l[i]] := by
  rw [List.take_succ_eq_append_getElem h, erL_append]
  simp [erL]
/-- What lay writes is read back. -/
theorem lay_back : ∀ (r : Nat) (l : List S30) (sep : UInt8) (s : MSt) (t : List UInt8), (sep = 10 ∨ sep = 32) → s.note = false → s.word = none → s.stk.length + r = 24 → layR r [sep] l = some t →
    ∃ s' m, runM (.go s) t = .go s' ∧ s'.note = false ∧ s'.stk = s.stk ∧ flushT s' = s.top ++ m ∧ erL m = erL l
  | r, l, sep, s, t, hsep, hn, hw, hd, ht => by
    rw [layR_eq] at ht
    have key : ∀ i, i ≤ l.length → ∀ t, layTo (ntOf r (subR r)) [sep] l i = some t → ∃ s' m, runM (.go s) t = .go s' ∧ s'.note = false ∧ s'.stk = s.stk ∧ flushT s' = s.top ++ m ∧ erL m = erL (l.take i) ∧ (i = 0 → s'.word = none) := by
      intro i
      induction i with
      | zero =>
        intro _ t ht
        injection ht with ht
        subst ht
        refine ⟨s, [], rfl, hn, rfl, ?_, by simp, fun _ => hw⟩
        unfold flushT
        rw [hw, List.append_nil]
      | succ i ih =>
        intro hi t ht
        have hlt : i < l.length := hi
        simp only [layTo] at ht
        obtain ⟨ti, h1, h2⟩ := Option.bind_eq_some_iff.1 ht
        obtain ⟨a, h3, h4⟩ := Option.map_eq_some_iff.1 h2
        subst h4
        obtain ⟨s1, m1, k1, k2, k3, k4, k5, k6⟩ := ih (by omega) ti h1
        -- behind the blank
        obtain ⟨s2, j1, j2, j3, j4, j5⟩ : ∃ s2, runM (.go s1) (if i = 0 then [] else [sep]) = .go s2 ∧ s2.note = false ∧ s2.stk = s.stk ∧ s2.top = s.top ++ m1 ∧ s2.word = none := by
          by_cases h0 : i = 0
          · rw [if_pos h0]
            have hw1 := k6 h0
            refine ⟨s1, rfl, k2, k3, ?_, hw1⟩
            rw [← k4]
            unfold flushT
            rw [hw1]
          · rw [if_neg h0, run_sep hsep s1 k2]
            exact ⟨_, rfl, k2, k3, k4, rfl⟩
        -- the node
        obtain ⟨s3, n', i1, i2, i3, i4, i5⟩ : ∃ s3 n', runM (.go s2) a = .go s3 ∧ s3.note = false ∧ s3.stk = s2.stk ∧ flushT s3 = s2.top ++ [n'] ∧ er n' = er l[i] := by
          rw [rd_at hlt] at h3
          generalize l[i] = nd at h3
          unfold ntOf at h3
          by_cases hf : nd.f0 = true
          · rw [if_pos hf] at h3
            by_cases hz : r = 0 ∨ nd.f1.size ≠ 0
            · rw [if_pos hz] at h3; cases h3
            · rw [if_neg hz] at h3
              obtain ⟨t', h5, h6⟩ := Option.map_eq_some_iff.1 h3
              subst h6
              obtain ⟨r', rfl⟩ : ∃ r', r = r' + 1 := ⟨r - 1, by omega⟩
              have hop := run_open s2 j2 j5 (by rw [j3]; omega)
              obtain ⟨s4, m', q1, q2, q3, q4, q5⟩ := lay_back r' nd.f2 32 { s2 with top := [], stk := (s2.top, s2.pos) :: s2.stk, pos := s2.pos + 1 } t' (.inr rfl) j2 j5 (by show s2.stk.length + 1 + r' = 24; rw [j3]; omega) h5
              have hsh := run_shut s4 q2 q3
              refine ⟨{ (flushS s4) with top := s2.top ++ [listNode (flushT s4) s2.pos], stk := s2.stk, pos := s4.pos + 1 }, listNode (flushT s4) s2.pos, ?_, q2, rfl, rfl, ?_⟩
              · have e : (40 :: (t' ++ [41]) : List UInt8) = [40] ++ (t' ++ [41]) := rfl
                rw [e, runM_append, hop, runM_append, q1, hsh]
              · rw [q4]
                have hf1 : nd.f1 = ⟨#[]⟩ := wordOf_zero (by omega)
                cases nd with
                | mk a b c d =>
                  simp only at hf hf1 q5
                  subst hf hf1
                  simp only [listNode, er, List.nil_append, q5]
          · rw [if_neg hf] at h3
            by_cases hz : 0 < nd.f2.length ∨ wordOf nd.f1 = false
            · rw [if_pos hz] at h3; cases h3
            · rw [if_neg hz] at h3
              injection h3 with h3
              subst h3
              have hwd : wordOf nd.f1 = true := by
                cases h : wordOf nd.f1 with
                | true => rfl
                | false => exact absurd (.inr h) hz
              have hrun := run_words (s := s2) ((word_iff nd.f1).1 hwd) j5 j2
              refine ⟨{ s2 with word := some (bytesL nd.f1, s2.pos), pos := s2.pos + (bytesL nd.f1).length }, wordNode (bytesL nd.f1) s2.pos, hrun, j2, rfl, rfl, ?_⟩
              have hx : (⟨(bytesL nd.f1).toArray⟩ : ByteArray) = nd.f1 := ByteArray.ext (by unfold bytesL; simp)
              have h2' : nd.f2 = [] := List.length_eq_zero_iff.1 (by have := (not_or.1 hz).1; omega)
              unfold wordNode
              rw [hx]
              cases nd with
              | mk a b c d =>
                simp only at hf h2'
                subst h2'
                have ha : a = false := Bool.eq_false_iff.mpr hf
                subst ha
                simp only [er, erL]
        refine ⟨s3, m1 ++ [n'], ?_, i2, i3.trans j3, ?_, ?_, fun h => by omega⟩
        · rw [runM_append, k1, runM_append, j1, i1]
        · rw [i4, j4, List.append_assoc]
        · rw [erL_append, k5, take_erL hlt]
          simp only [erL, i5]
    obtain ⟨s', m, h1, h2, h3, h4, h5, _⟩ := key l.length (Nat.le_refl _) t ht
    rw [List.take_length] at h5
    exact ⟨s', m, h1, h2, h3, h4, h5⟩
termination_by r => r
theorem SexpBack (l0 : List S30) : ∃ k, carlinglaw02_SexpBack.f k l0 = some true := by
  refine Ev.rounds ?_
  unfold carlinglaw02_SexpBack.f
  rw [awake_eq]
  simp only [Option.bind_some]
  obtain ⟨r, hE, h0, h1, h2⟩ := size_ev (cntL l0) l0 3000 0 (Nat.le_refl _) (by omega) (by omega) (by omega)
  refine Ev.bind hE ?_
  by_cases hr : r > 3000
  · simp only [if_pos hr]
    exact Ev.now _
  simp only [if_neg hr]
  have hws : wsmL l0 ≤ 3000 := by have := h2 (by omega); omega
  have hwt := wt_le 24 l0 (by omega)
  have hP : sexp_Print.f l0 = some (match layR 24 [10] l0 with
    | none => (⟨#[]⟩, 6)
    | some t => (⟨t.toArray⟩, 0)) := by unfold sexp_Print.f; rw [if_pos (by omega)]; rfl
  cases hs : layR 24 [10] l0 with
  | none =>
    rw [hs] at hP
    simp only [hP, Option.bind_some]
    refine Ev.congr (f := fun _ => some true) (fun k => ?_) (Ev.now _)
    rw [if_neg (by decide), if_pos trivial, if_pos (show (⟨#[]⟩ : ByteArray).toList = [] by rw [ByteArray.toList_eq])]
    rfl
  | some t =>
    rw [hs] at hP
    simp only [hP, Option.bind_some, if_true]
    have hts : (⟨t.toArray⟩ : ByteArray).size = t.length := by show t.toArray.size = _; simp
    have hby : bytesL (⟨t.toArray⟩ : ByteArray) = t := by unfold bytesL; simp
    have htl := layR_len (sep := [10]) (by decide) hs
    have hp : sexp_Parse.f ⟨t.toArray⟩ = some (parseM ⟨t.toArray⟩) := by unfold sexp_Parse.f; rw [if_pos (by rw [hts]; omega)]
    simp only [hp, Option.bind_some, hts]
    by_cases hl : (t.length : Int) > 16384
    · simp only [if_pos hl]
      have : parseM ⟨t.toArray⟩ = ([], 5, 0) := by unfold parseM; rw [if_pos (by rw [hts]; omega)]
      rw [this]
      exact Ev.now _
    · simp only [if_neg hl]
      obtain ⟨s', m, k1, k2, k3, k4, k5⟩ := lay_back 24 l0 10 P.start t (.inl rfl) rfl rfl rfl hs
      have hpm : parseM ⟨t.toArray⟩ = (m, 0, -1) := by
        unfold parseM
        rw [if_neg (by rw [hts]; omega), hby, k1]
        simp only [finM]
        rw [if_pos (show s'.stk = [] from k3), k4]
        rfl
      rw [hpm]
      have hcnt : cntL l0 ≤ 1099511627776 := by have := cnt_wsmL l0; omega
      refine Ev.bind (alike_ev (cntL l0) l0 m (Nat.le_refl _) hcnt k5.symm) ?_
      simp only [if_true]
      exact Ev.now _
end Go.Proofs.Ytciojbdkoojlhaa.Pure
