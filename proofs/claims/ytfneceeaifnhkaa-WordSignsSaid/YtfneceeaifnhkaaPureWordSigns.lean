/- The pure statement of WordSigns: how any op is written, and the op of any sign, are what the document says. No condition that matters. -/
import Derived.Test.YtfneceeaifnhkaaB1
import Derived.Test.YtfneceeaifnhkaaPx17
namespace Go.Proofs.Ytfneceeaifnhkaa.Pure
open Go.RowKit Go.Proofs.Ytfneceeaifnhkaa.P Go.Proofs.YtfneceeaifnhkaaW.PrintWords Go.Proofs.YtfneceeaifnhkaaW.PrintLast

abbrev sgs : List ByteArray := [⟨#[]⟩, ⟨#[43]⟩, ⟨#[45]⟩, ⟨#[42]⟩, ⟨#[38]⟩, ⟨#[124]⟩, ⟨#[94]⟩, ⟨#[60, 60]⟩, ⟨#[62, 62]⟩, ⟨#[60]⟩, ⟨#[61, 61]⟩]
theorem wrap_small {i : Int} (h0 : -1000 ≤ i) (h1 : i ≤ 1000) : wrap64 i = i := by unfold wrap64; omega
abbrev rgs : List ByteArray := [⟨#[43]⟩, ⟨#[45]⟩, ⟨#[42]⟩, ⟨#[38]⟩, ⟨#[124]⟩, ⟨#[94]⟩, ⟨#[60, 60]⟩, ⟨#[62, 62]⟩, ⟨#[60]⟩, ⟨#[61, 61]⟩]
theorem rd_shift (i : Int) (h : 1 ≤ i) : rdOf ByteArray.empty sgs i = rdOf ByteArray.empty rgs (i - 1) := by
  unfold rdOf
  obtain ⟨n, hn⟩ : ∃ n : Nat, i.toNat = n + 1 := ⟨i.toNat - 1, by omega⟩
  rw [hn, show (i - 1).toNat = n by omega]
  rfl
theorem of_both (s : ByteArray) : ∀ (k : Nat) (i : Int), i + k = 11 → 1 ≤ i → ∃ r, word_Of.l0 (k + 1) s sgs 11 i = some r ∧ carlingref01_Of.l0 (k + 1) s rgs (i - 1) = some r
  | 0, i, hk, h1 => ⟨(0, false), by simp only [word_Of.l0]; rw [if_neg (by omega)], by simp only [carlingref01_Of.l0]; rw [if_neg (by simp; omega)]⟩
  | k + 1, i, hk, h1 => by
    obtain ⟨r, h2, h3⟩ := of_both s k (i + 1) (by omega) (by omega)
    by_cases hs : (rdOf ByteArray.empty sgs i).toList = s.toList
    · refine ⟨(i, true), ?_, ?_⟩
      · unfold word_Of.l0
        rw [if_pos (by omega), if_pos (by omega), if_pos (by simp; omega), if_pos (by omega), if_pos hs]
      · rw [rd_shift i h1] at hs
        unfold carlingref01_Of.l0
        rw [if_pos (by simp; omega), if_pos (by omega), if_pos hs, wrap_small (by omega) (by omega), Int.sub_add_cancel]
    · refine ⟨r, ?_, ?_⟩
      · unfold word_Of.l0
        rw [if_pos (by omega), if_pos (by omega), if_pos (by simp; omega), if_pos (by omega), if_neg hs, wrap_small (by omega) (by omega)]
        exact h2
      · rw [rd_shift i h1] at hs
        unfold carlingref01_Of.l0
        rw [if_pos (by simp; omega), if_pos (by omega), if_neg hs, wrap_small (by omega) (by omega), Int.sub_add_cancel]
        rw [Int.add_sub_cancel] at h3
        exact h3
theorem of_same (s : ByteArray) : ∃ r, word_Of.f 12 s = some r ∧ carlingref01_Of.f 12 s = some r := by
  obtain ⟨r, h2, h3⟩ := of_both s 10 1 (by decide) (by decide)
  refine ⟨r, ?_, carlingref01_Of.mono s 11 r h3⟩
  show word_Of.l0 12 s sgs 11 0 = some r
  unfold word_Of.l0
  rw [if_pos (by decide), if_pos (by decide), if_pos (by decide), if_neg (by decide), wrap_small (by decide) (by decide)]
  exact h2
theorem sign_same (op : Int) : ∃ r, word_Sign.f op = some r ∧ carlingref01_Sign.f op = some r := by
  by_cases h : op < 1 ∨ 10 < op
  · refine ⟨_, sign_out op h, ?_⟩
    unfold carlingref01_Sign.f
    by_cases h1 : op < 1
    · rw [if_pos h1]
    · rw [if_neg h1, if_pos (by omega)]
  · refine ⟨_, sign_in op (by omega) (by omega), ?_⟩
    unfold carlingref01_Sign.f carlingref01_Signs.f
    rw [if_neg (by omega), if_neg (by omega)]
    simp only [Option.bind_some]
    rw [wrap_small (by omega) (by omega), if_pos (by omega), if_pos (by simp; omega)]
    have h2 := rd_shift op (by omega)
    rw [h2]
theorem WordSigns : carlinglaw01_WordSigns.Pure := by
  intro op s _ _
  refine ⟨12, ?_⟩
  unfold carlinglaw01_WordSigns.f
  rw [awake_true]
  simp only [Option.bind_some]
  by_cases hs : (s.size : Int) > 1000
  · rw [if_pos hs]
  · rw [if_neg hs]
    obtain ⟨r, h1, h2⟩ := sign_same op
    obtain ⟨q, h3, h4⟩ := of_same s
    rw [h1, h2, h3, h4]
    simp

end Go.Proofs.Ytfneceeaifnhkaa.Pure
