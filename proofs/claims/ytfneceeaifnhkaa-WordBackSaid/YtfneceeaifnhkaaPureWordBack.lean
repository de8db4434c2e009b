/- The pure statement of WordBack: signs and ops undo one another. No condition that matters. -/
import Derived.Test.YtfneceeaifnhkaaB1
import Derived.Test.YtfneceeaifnhkaaPx18
namespace Go.Proofs.Ytfneceeaifnhkaa.Pure
open Go.RowKit Go.Proofs.Ytfneceeaifnhkaa.P Go.Proofs.YtfneceeaifnhkaaW.PrintWords Go.Proofs.YtfneceeaifnhkaaW.PrintLast

abbrev sgs : List ByteArray := [⟨#[]⟩, ⟨#[43]⟩, ⟨#[45]⟩, ⟨#[42]⟩, ⟨#[38]⟩, ⟨#[124]⟩, ⟨#[94]⟩, ⟨#[60, 60]⟩, ⟨#[62, 62]⟩, ⟨#[60]⟩, ⟨#[61, 61]⟩]
theorem wrap_small {i : Int} (h0 : -1000 ≤ i) (h1 : i ≤ 1000) : wrap64 i = i := by unfold wrap64; omega
theorem of_tells (s : ByteArray) : ∀ (k : Nat) (i : Int), i + k = 11 → 1 ≤ i → ∃ m h, word_Of.l0 (k + 1) s sgs 11 i = some (m, h) ∧ (h = true → 1 ≤ m ∧ m ≤ 10 ∧ (rdOf ByteArray.empty sgs m).toList = s.toList) ∧ (h = false → m = 0)
  | 0, i, hk, h1 => ⟨0, false, by simp only [word_Of.l0]; rw [if_neg (by omega)], by simp, by simp⟩
  | k + 1, i, hk, h1 => by
    obtain ⟨m, h, h2, h3, h4⟩ := of_tells s k (i + 1) (by omega) (by omega)
    by_cases hs : (rdOf ByteArray.empty sgs i).toList = s.toList
    · refine ⟨i, true, ?_, fun _ => ⟨h1, by omega, hs⟩, by simp⟩
      unfold word_Of.l0
      rw [if_pos (by omega), if_pos (by omega), if_pos (by simp; omega), if_pos (by omega), if_pos hs]
    · refine ⟨m, h, ?_, h3, h4⟩
      unfold word_Of.l0
      rw [if_pos (by omega), if_pos (by omega), if_pos (by simp; omega), if_pos (by omega), if_neg hs, wrap_small (by omega) (by omega)]
      exact h2
theorem of_any (s : ByteArray) : ∃ m h, word_Of.f 12 s = some (m, h) ∧ (h = true → 1 ≤ m ∧ m ≤ 10 ∧ (rdOf ByteArray.empty sgs m).toList = s.toList) ∧ (h = false → m = 0) := by
  obtain ⟨m, h, h2, h3, h4⟩ := of_tells s 10 1 (by decide) (by decide)
  refine ⟨m, h, ?_, h3, h4⟩
  show word_Of.l0 12 s sgs 11 0 = some (m, h)
  unfold word_Of.l0
  rw [if_pos (by decide), if_pos (by decide), if_pos (by decide), if_neg (by decide), wrap_small (by decide) (by decide)]
  exact h2
theorem of_sign (op : Int) (h0 : 1 ≤ op) (h1 : op ≤ 10) : word_Of.f 12 (rdOf ByteArray.empty sgs op) = some (op, true) := by
  obtain rfl | rfl | rfl | rfl | rfl | rfl | rfl | rfl | rfl | rfl : op = 1 ∨ op = 2 ∨ op = 3 ∨ op = 4 ∨ op = 5 ∨ op = 6 ∨ op = 7 ∨ op = 8 ∨ op = 9 ∨ op = 10 := by omega
  all_goals decide +kernel
theorem of_empty : word_Of.f 12 ⟨#[]⟩ = some (0, false) := by decide +kernel
theorem op_ok (op : Int) : ∃ x, word_Op.f op 1 1 = some (x, decide (1 ≤ op ∧ op ≤ 10)) := by
  by_cases h : op < 1 ∨ 10 < op
  · exact ⟨0, by rw [op_other op 1 1 h, decide_eq_false (by omega)]⟩
  obtain rfl | rfl | rfl | rfl | rfl | rfl | rfl | rfl | rfl | rfl : op = 1 ∨ op = 2 ∨ op = 3 ∨ op = 4 ∨ op = 5 ∨ op = 6 ∨ op = 7 ∨ op = 8 ∨ op = 9 ∨ op = 10 := by omega
  · exact ⟨_, op1 1 1⟩
  · exact ⟨_, op2 1 1⟩
  · exact ⟨_, op3 1 1⟩
  · exact ⟨_, op4 1 1⟩
  · exact ⟨_, op5 1 1⟩
  · exact ⟨_, op6 1 1⟩
  · exact ⟨_, op7 1 1 (by decide)⟩
  · exact ⟨_, op8 1 1 (by decide)⟩
  · exact ⟨_, op9 1 1⟩
  · exact ⟨_, op10 1 1⟩
theorem WordBack : carlinglaw01_WordBack.Pure := by
  intro op s _ _
  refine ⟨12, ?_⟩
  unfold carlinglaw01_WordBack.f
  obtain ⟨m, h, h2, h3, h4⟩ := of_any s
  obtain ⟨x, hx⟩ := op_ok op
  have hm : ∃ t, word_Sign.f m = some (t, h) ∧ (h = true → t.toList = s.toList) := by
    cases h with
    | false =>
      obtain rfl := h4 rfl
      exact ⟨_, sign_out 0 (by decide), by simp⟩
    | true =>
      obtain ⟨ha, hb, hc⟩ := h3 rfl
      exact ⟨_, sign_in m ha hb, fun _ => hc⟩
  obtain ⟨t, ht, hts⟩ := hm
  have hS : ∃ y b n, word_Sign.f op = some (y, b) ∧ b = decide (1 ≤ op ∧ op ≤ 10) ∧ word_Of.f 12 y = some (n, b) ∧ (b = true → n = op) := by
    by_cases hop : op < 1 ∨ 10 < op
    · exact ⟨_, _, _, sign_out op hop, (decide_eq_false (by omega)).symm, of_empty, by simp⟩
    · exact ⟨_, _, _, sign_in op (by omega) (by omega), (decide_eq_true (by omega)).symm, of_sign op (by omega) (by omega), fun _ => rfl⟩
  obtain ⟨y, b, n, hy, hb, hn, hnop⟩ := hS
  rw [awake_true, hy]
  simp only [Option.bind_some]
  rw [hn, h2]
  simp only [Option.bind_some]
  rw [ht, hx, ← hb]
  simp only [Option.bind_some]
  cases b with
  | true =>
    have := hnop rfl
    subst this
    cases h with
    | true => simp [hts rfl]
    | false => simp
  | false =>
    cases h with
    | true => simp [hts rfl]
    | false => simp

end Go.Proofs.Ytfneceeaifnhkaa.Pure
