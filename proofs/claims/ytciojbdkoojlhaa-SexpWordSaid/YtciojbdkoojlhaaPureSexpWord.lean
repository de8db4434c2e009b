/- A text is read as one word, itself, just if it may be one: the law, in plain Lean. Conditions: the text's length. -/
import Derived.Test.YtciojbdkoojlhaaPx12
import Derived.Test.YtciojbdkoojlhaaB2
namespace Go.Proofs.Ytciojbdkoojlhaa.Pure
open Go.RowKit Go.Proofs.Ytciojbdkoojlhaa.P Go.Proofs.YtciojbdkoojlhaaW.PrintWords Go.Proofs.YtciojbdkoojlhaaW.PrintLast
theorem toList_eq (s : ByteArray) : s.toList = bytesL s := ByteArray.toList_eq s
theorem parse_short {s : ByteArray} (h : s.size ≤ 16384) : parseM s = finM s.size (runM (.go P.start) (bytesL s)) := by
  unfold parseM
  rw [if_neg (by omega)]
theorem SexpWord : carlinglaw02_SexpWord.Pure := by
  intro a0 hsz
  unfold carlinglaw02_SexpWord.f
  rw [awake_eq, Option.bind_some]
  by_cases hl : (a0.size : Int) > 1000
  · rw [if_pos hl]
  rw [if_neg hl]
  unfold sexp_Parse.f
  rw [if_pos (by omega), Option.bind_some, parse_short (by omega)]
  have hW : sexp_Word.f a0 = some (wordOf a0) := if_pos (by omega)
  rw [hW]
  simp only [Option.bind_some, if_true]
  obtain ⟨R, hR⟩ : ∃ R, R = finM a0.size (runM (.go P.start) (bytesL a0)) := ⟨_, rfl⟩
  rw [← hR]
  obtain ⟨l, e, at_⟩ := R
  simp only
  by_cases hw : wordOf a0 = true
  · rw [hw]
    have hr := run_words (s := P.start) ((word_iff a0).1 hw) rfl rfl
    rw [hr] at hR
    have hx : (⟨(bytesL a0).toArray⟩ : ByteArray) = a0 := ByteArray.ext (by unfold bytesL; simp)
    have hR' : (l, e, at_) = ([wordNode (bytesL a0) 0], 0, -1) := hR
    injection hR' with h1 h2
    injection h2 with h2 h3
    subst h1 h2
    have hrd : rd_T30 [wordNode (bytesL a0) 0] 0 = wordNode (bytesL a0) 0 := rfl
    have c1 : (([wordNode (bytesL a0) 0] : List S30).length : Int) = 1 := rfl
    have c2 : (0 : Int) < (([wordNode (bytesL a0) 0] : List S30).length : Int) := by rw [c1]; decide
    have c3 : ¬ (wordNode (bytesL a0) 0).f0 = true := by simp [wordNode]
    rw [hrd, if_pos rfl, if_pos c1, if_pos c2, if_neg c3]
    show some ((((⟨(bytesL a0).toArray⟩ : ByteArray)).toList == a0.toList) == true) = some true
    rw [hx]
    simp
  · have hw' : wordOf a0 = false := Bool.eq_false_iff.mpr hw
    rw [hw']
    have hg : GoodL l := by
      cases hr : runM (.go P.start) (bytesL a0) with
      | bad e' a =>
        rw [hr] at hR
        injection hR with h1
        subst h1
        exact fun _ h => (by cases h)
      | go s =>
        have hg := good_flush (good_run hr)
        rw [hr] at hR
        simp only [finM] at hR
        split at hR <;> injection hR with h1
        · subst h1; exact hg
        · subst h1; exact fun _ h => (by cases h)
    by_cases he : e = 0
    · rw [if_pos he]
      by_cases hlen : (l.length : Int) = 1
      · rw [if_pos hlen, if_pos (by omega)]
        have h0 : 0 < l.length := by omega
        have hrd : rd_T30 l 0 = l[0] := rd_at h0
        rw [hrd]
        by_cases hf : l[0].f0 = true
        · rw [if_pos hf]; rfl
        · rw [if_neg hf]
          have hgd := (hg _ (List.getElem_mem h0) (Bool.eq_false_iff.mpr hf)).2
          have hne : (l[0].f1.toList == a0.toList) = false := by
            apply beq_false_of_ne
            intro e
            rw [toList_eq, toList_eq] at e
            rw [e] at hgd
            exact hw ((word_iff a0).2 hgd)
          rw [hne]
          rfl
      · rw [if_neg hlen]; rfl
    · rw [if_neg he]; rfl
end Go.Proofs.Ytciojbdkoojlhaa.Pure
