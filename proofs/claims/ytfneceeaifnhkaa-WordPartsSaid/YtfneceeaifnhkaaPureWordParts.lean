/- The pure statement of WordParts: And and Or of two words are together what their sum is; Xor and And twice, too. Conditions: two words of 32 bits. -/
import Derived.Test.YtfneceeaifnhkaaB1
import Derived.Test.YtfneceeaifnhkaaPx11
namespace Go.Proofs.Ytfneceeaifnhkaa.Pure
open Go.RowKit Go.Proofs.Ytfneceeaifnhkaa.P Go.Proofs.YtfneceeaifnhkaaW.PrintWords Go.Proofs.YtfneceeaifnhkaaW.PrintLast

theorem WordParts : carlinglaw01_WordParts.Pure := by
  intro a b ha hb
  obtain ⟨ha0, ha1⟩ := wf_u32 ha
  obtain ⟨hb0, hb1⟩ := wf_u32 hb
  unfold carlinglaw01_WordParts.f
  rw [awake_true, op1, op4, op5, op6]
  simp only [Option.bind_some]
  rw [op1, op7 _ _ (by decide)]
  simp only [Option.bind_some]
  rw [op1]
  simp only [Option.bind_some]
  rw [and_u32 ⟨ha0, ha1⟩ ⟨hb0, hb1⟩, or_u32 ⟨ha0, ha1⟩ ⟨hb0, hb1⟩, xor_u32 ⟨ha0, ha1⟩ ⟨hb0, hb1⟩]
  have h1 := and_or a.toNat b.toNat
  have h2 := xor_and a.toNat b.toNat
  have hp : (2 : Int) ^ ((1 : Int) % 32).toNat = 2 := by decide
  rw [hp, if_pos trivial, if_pos (by omega)]
  simp only [Option.some.injEq, beq_iff_eq]
  omega

end Go.Proofs.Ytfneceeaifnhkaa.Pure
