/- The pure statement of WordUndo: Sub undoes Add, Xor undoes itself, Add and Mul take two words in either order. Conditions: two words of 32 bits. -/
import Derived.Test.YtfneceeaifnhkaaB1
import Derived.Test.YtfneceeaifnhkaaPx10
namespace Go.Proofs.Ytfneceeaifnhkaa.Pure
open Go.RowKit Go.Proofs.Ytfneceeaifnhkaa.P Go.Proofs.YtfneceeaifnhkaaW.PrintWords Go.Proofs.YtfneceeaifnhkaaW.PrintLast

theorem WordUndo : carlinglaw01_WordUndo.Pure := by
  intro a b ha hb
  obtain ⟨ha0, ha1⟩ := wf_u32 ha
  obtain ⟨hb0, hb1⟩ := wf_u32 hb
  unfold carlinglaw01_WordUndo.f
  rw [awake_true, op1, op1, op6, op3, op3]
  simp only [Option.bind_some]
  rw [op2, op6]
  simp only [Option.bind_some]
  have hx := xor_u32 ⟨ha0, ha1⟩ ⟨hb0, hb1⟩
  have hlt : (a.toNat ^^^ b.toNat) < 2 ^ 32 := Nat.xor_lt_two_pow (by omega) (by omega)
  have hy : Go.bits .xor .u32 (Go.bits .xor .u32 a b) b = a := by
    rw [hx, xor_u32 ⟨by omega, by omega⟩ ⟨hb0, hb1⟩, Int.toNat_natCast, Nat.xor_assoc, Nat.xor_self, Nat.xor_zero]
    omega
  rw [if_pos trivial, if_pos (by rw [Int.add_comm]), if_pos (by omega), if_pos hy, Int.mul_comm]
  simp

end Go.Proofs.Ytfneceeaifnhkaa.Pure
