/- The pure statement of WordOrder: of two words just one is so: less, greater, the same; Sel takes one of two. Conditions: three words of 32 bits. -/
import Derived.Test.YtfneceeaifnhkaaB1
import Derived.Test.YtfneceeaifnhkaaPx12
namespace Go.Proofs.Ytfneceeaifnhkaa.Pure
open Go.RowKit Go.Proofs.Ytfneceeaifnhkaa.P Go.Proofs.YtfneceeaifnhkaaW.PrintWords Go.Proofs.YtfneceeaifnhkaaW.PrintLast

theorem WordOrder : carlinglaw01_WordOrder.Pure := by
  intro a b c ha hb hc
  obtain ⟨ha0, ha1⟩ := wf_u32 ha
  obtain ⟨hb0, hb1⟩ := wf_u32 hb
  unfold carlinglaw01_WordOrder.f
  rw [awake_true, op9, op9, op10]
  simp only [Option.bind_some]
  have hs : word_Sel.f c a b = some (if c = 0 then b else a) := by unfold word_Sel.f; split <;> rfl
  rw [hs]
  simp only [Option.bind_some]
  rw [if_pos trivial]
  have h1 : ((((if a < b then (1 : Int) else 0) + (if b < a then 1 else 0)) % 4294967296 + (if a = b then 1 else 0)) % 4294967296) = 1 := by
    rcases Int.lt_trichotomy a b with h | h | h
    · rw [if_pos h, if_neg (by omega), if_neg (by omega)]; rfl
    · rw [if_neg (by omega), if_neg (by omega), if_pos h]; rfl
    · rw [if_neg (by omega), if_pos h, if_neg (by omega)]; rfl
  have h2 : (((if a < b then (1 : Int) else 0) == 1) == decide (a < b)) = true := by by_cases h : a < b <;> simp [h]
  rw [if_pos h1, if_pos h2]
  by_cases h : c = 0
  · simp [h]
  · simp [h]

end Go.Proofs.Ytfneceeaifnhkaa.Pure
