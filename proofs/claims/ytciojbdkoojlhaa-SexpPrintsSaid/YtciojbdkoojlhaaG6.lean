/- The machine and runes. Conditions: as each states. -/
import Derived.Test.YtciojbdkoojlhaaG5
import Derived.Lib.DecodeN
import Derived.Laws.RangeAny
namespace Go.Proofs.Ytciojbdkoojlhaa.P
set_option linter.unusedVariables false
theorem bytesL_len (s : ByteArray) : (bytesL s).length = s.size := Array.length_toList
theorem bytesL_at (s : ByteArray) (i : Nat) (h : i < s.size) : (bytesL s)[i]'(by rw [bytesL_len]; exact h) = s[i]'h := by
  unfold bytesL
  rw [Array.getElem_toList]
  rfl
theorem get_bytes (s : ByteArray) (i : Nat) (h : i < s.size) : s.get! i = (bytesL s)[i]'(by rw [bytesL_len]; exact h) := by
  rw [bytesL_at s i h]
  exact get_at s i h
theorem decN_cont (n b0 b1 b2 b3 : Nat) (hn : 1 ≤ n) (h0 : 128 ≤ b0) : 
    (Go.Lib.decodeN n b0 b1 b2 b3).2 ≤ n ∧ (Go.Lib.decodeN n b0 b1 b2 b3).2 ≤ 4 ∧ (2 ≤ (Go.Lib.decodeN n b0 b1 b2 b3).2 → 128 ≤ b1) ∧ (3 ≤ (Go.Lib.decodeN n b0 b1 b2 b3).2 → 128 ≤ b2) ∧ (4 ≤ (Go.Lib.decodeN n b0 b1 b2 b3).2 → 128 ≤ b3) := by
  unfold Go.Lib.decodeN
  repeat' split
  all_goals first | (exfalso; omega) | (refine ⟨?_, ?_, ?_, ?_, ?_⟩ <;> simp only <;> omega)
theorem dec_cont (s : ByteArray) (pos r d : Nat) (h : pos < s.size) (h0 : 128 ≤ ((bytesL s)[pos]'(by rw [bytesL_len]; exact h)).toNat) (hd : Utf8.decode s pos = (r, d)) :
    pos + d ≤ s.size ∧ ∀ j, j < d → ∀ hj : pos + j < (bytesL s).length, 128 ≤ ((bytesL s)[pos + j]).toNat := by
  rw [Go.Lib.decode_at] at hd
  obtain ⟨c0, c1, c2, c3, c4⟩ := decN_cont (s.size - pos) (s.get! pos).toNat (s.get! (pos + 1)).toNat (s.get! (pos + 2)).toNat (s.get! (pos + 3)).toNat (by omega) (by rw [get_bytes s pos h]; exact h0)
  rw [hd] at c0 c1 c2 c3 c4
  simp only at c0 c1 c2 c3 c4
  refine ⟨by omega, fun j hj hl => ?_⟩
  have hs : pos + j < s.size := by rw [bytesL_len] at hl; exact hl
  rw [← get_bytes s (pos + j) hs]
  match j, hj with
  | 0, _ => rw [Nat.add_zero, get_bytes s pos h]; exact h0
  | 1, hj => exact c2 hj
  | 2, hj => exact c3 hj
  | 3, hj => exact c4 hj
  | j + 4, hj => omega
theorem part_hi {c : UInt8} (h : 128 ≤ c.toNat) : partB c = false := part_high (by omega)
/-- A note goes on over bytes that are no line's end. -/
theorem note_run {l : List UInt8} : ∀ (d : Nat) {s : MSt}, OkAt l s → s.note = true → s.pos + d ≤ l.length → (∀ j, j < d → ∀ hj : s.pos + j < l.length, 128 ≤ (l[s.pos + j]).toNat) → ∃ s', OkAt l s' ∧ s' = { s with pos := s.pos + d }
  | 0, s, h, _, _, _ => ⟨s, h, rfl⟩
  | d + 1, s, h, hn, hle, hb => by
    have hlt : s.pos < l.length := by omega
    have hw : s.word = none := by
      cases hw : s.word with
      | none => rfl
      | some q => have := (h.word q.1 q.2 hw).2.2; rw [hn] at this; cases this
    have hc : 128 ≤ (l[s.pos]).toNat := hb 0 (by omega) (by omega)
    have hne : (l[s.pos] != 10) = true := by
      apply bne_iff_ne.mpr
      intro e
      rw [e] at hc
      exact absurd hc (by decide)
    have he : endW l[s.pos] s = s := by
      unfold endW flushT
      rw [part_hi hc, hw]
      cases s
      simp_all
    have ha : act l[s.pos] (endW l[s.pos] s) = .go { s with pos := s.pos + 1 } := by
      rw [he]
      unfold act
      rw [if_pos hn, hne]
      cases s
      simp_all
    obtain ⟨h1, _⟩ := step_ok h hlt ha
    obtain ⟨s', h2, h3⟩ := note_run d h1 hn (by show s.pos + 1 + d ≤ _; omega) (fun j hj hl => by
      have := hb (j + 1) (by omega) (by show s.pos + (j + 1) < _; have : s.pos + 1 + j < l.length := hl; omega)
      have e : s.pos + 1 + j = s.pos + (j + 1) := by omega
      show 128 ≤ (l[s.pos + 1 + j]).toNat
      simp only [e]
      exact this)
    refine ⟨s', h2, ?_⟩
    rw [h3]
    show ({ s with pos := s.pos + 1 + d } : MSt) = _
    rw [Nat.add_assoc, Nat.add_comm 1 d]
/-- What is written wrong at a place ends the run there. -/
theorem run_bad {l : List UInt8} {s : MSt} {e a : Nat} (h : OkAt l s) (hl : s.pos < l.length) (ha : act l[s.pos] (endW l[s.pos] s) = .bad e a) : runM (.go start) l = .bad e a := by
  have hr := step_run h hl
  rw [ha] at hr
  rw [← List.take_append_drop (s.pos + 1) l, runM_append, hr, runM_bad]
theorem run_end {l : List UInt8} {s : MSt} (h : OkAt l s) (hl : s.pos = l.length) : runM (.go start) l = .go s := by
  have := h.run
  rw [hl, List.take_length] at this
  exact this
theorem word_text {s : ByteArray} {st : MSt} {ws : List UInt8} {b : Nat} (h : OkAt (bytesL s) st) (hw : st.word = some (ws, b)) : (⟨ws.toArray⟩ : ByteArray) = s.extract b st.pos ∧ b ≤ st.pos := by
  obtain ⟨h1, h2, _⟩ := h.word ws b hw
  refine ⟨?_, by omega⟩
  apply ByteArray.ext
  rw [ByteArray.data_extract]
  apply Array.ext'
  rw [Array.toList_extract]
  rw [h2]
  unfold bytesL
  simp [List.extract, List.drop_take]
end Go.Proofs.Ytciojbdkoojlhaa.P
