/- The pure statement of WordOps: any two words, reckoned by any op, are what the document says. Conditions: two words of 32 bits. -/
import Derived.Test.YtfneceeaifnhkaaB1
import Derived.Test.YtfneceeaifnhkaaPx9
namespace Go.Proofs.Ytfneceeaifnhkaa.Pure
open Go.RowKit Go.Proofs.Ytfneceeaifnhkaa.P Go.Proofs.YtfneceeaifnhkaaW.PrintWords Go.Proofs.YtfneceeaifnhkaaW.PrintLast

theorem testBit_div (x i : Nat) : x / 2 ^ i % 2 = if x.testBit i then 1 else 0 := by
  rw [Nat.testBit_eq_decide_div_mod_eq]
  have := Nat.mod_lt (x / 2 ^ i) (show 0 < 2 by decide)
  by_cases h : x / 2 ^ i % 2 = 1
  · simp [h]
  · simp [h]
    omega
theorem bit_cast (a : Int) (h : 0 ≤ a) (i : Nat) : a / 2 ^ i % 2 = ((a.toNat / 2 ^ i % 2 : Nat) : Int) := by
  obtain ⟨n, rfl⟩ := Int.eq_ofNat_of_zero_le h
  simp
/-- What bits sums up is the word whose bits the rule tells. -/
theorem bitsAt_nat (a b r0 r1 r2 r3 : Int) (ha : 0 ≤ a) (hb : 0 ≤ b) (n : Nat) (hn : ∀ i, ((n / 2 ^ i % 2 : Nat) : Int) = bitsR r0 r1 r2 r3 (bitsK a b i)) : ∀ i : Nat, bitsAt a b r0 r1 r2 r3 i = ((n % 2 ^ i : Nat) : Int)
  | 0 => by simp [bitsAt, Nat.mod_one]
  | i + 1 => by
    rw [Nat.mod_pow_succ]
    have he : bitsAt a b r0 r1 r2 r3 (i + 1) = bitsAt a b r0 r1 r2 r3 i + bitsR r0 r1 r2 r3 (bitsK a b i) * 2 ^ i := rfl
    rw [he, bitsAt_nat a b r0 r1 r2 r3 ha hb n hn i, ← hn i, Int.natCast_add, Int.natCast_mul, Int.mul_comm]
    simp
theorem bitsAt_word {a b r0 r1 r2 r3 : Int} (ha : 0 ≤ a) (hb : 0 ≤ b) {n : Nat} (h32 : n < 2 ^ 32) (f : Bool → Bool → Bool) (hr : ∀ x y : Bool, bitsR r0 r1 r2 r3 ((if x then 1 else 0) * 2 + (if y then 1 else 0)) = if f x y then 1 else 0)
    (hn : ∀ i, n.testBit i = f (a.toNat.testBit i) (b.toNat.testBit i)) : bitsAt a b r0 r1 r2 r3 32 = (n : Int) := by
  rw [bitsAt_nat a b r0 r1 r2 r3 ha hb n ?_ 32, Nat.mod_eq_of_lt h32]
  intro i
  unfold bitsK
  rw [bit_cast a ha, bit_cast b hb, testBit_div, testBit_div, testBit_div, hn i]
  have h := hr (a.toNat.testBit i) (b.toNat.testBit i)
  generalize a.toNat.testBit i = x at h ⊢
  generalize b.toNat.testBit i = y at h ⊢
  cases x <;> cases y <;> simp at h ⊢ <;> rw [h] <;> split <;> rfl
theorem ref_op (op a b : Int) (ha : 0 ≤ a ∧ a < 4294967296) (hb : 0 ≤ b ∧ b < 4294967296) : carlingref01_Op.f op a b = word_Op.f op a b := by
  unfold carlingref01_Op.f
  rw [if_pos ⟨ha.1, ha.2, hb.1, hb.2⟩]
  by_cases e1 : op = 1
  · subst e1; rw [if_pos rfl, op1]
  rw [if_neg e1]
  by_cases e2 : op = 2
  · subst e2; rw [if_pos rfl, op2]
  rw [if_neg e2]
  by_cases e3 : op = 3
  · subst e3; rw [if_pos rfl, op3]
  rw [if_neg e3]
  by_cases e4 : op = 4
  · subst e4
    rw [if_pos rfl, op4, and_u32 ha hb, bitsAt_word ha.1 hb.1 (n := a.toNat &&& b.toNat) (Nat.and_lt_two_pow _ (by omega)) (fun x y => x && y) (by intro x y; cases x <;> cases y <;> rfl) (fun i => Nat.testBit_and _ _ i)]
  rw [if_neg e4]
  by_cases e5 : op = 5
  · subst e5
    rw [if_pos rfl, op5, or_u32 ha hb, bitsAt_word ha.1 hb.1 (n := a.toNat ||| b.toNat) (Nat.or_lt_two_pow (by omega) (by omega)) (fun x y => x || y) (by intro x y; cases x <;> cases y <;> rfl) (fun i => Nat.testBit_or _ _ i)]
  rw [if_neg e5]
  by_cases e6 : op = 6
  · subst e6
    rw [if_pos rfl, op6, xor_u32 ha hb, bitsAt_word ha.1 hb.1 (n := a.toNat ^^^ b.toNat) (Nat.xor_lt_two_pow (by omega) (by omega)) (fun x y => x ^^ y) (by intro x y; cases x <;> cases y <;> rfl) (fun i => Nat.testBit_xor _ _ i)]
  rw [if_neg e6]
  by_cases e7 : op = 7
  · subst e7; rw [if_pos rfl, op7 _ _ hb.1]
  rw [if_neg e7]
  by_cases e8 : op = 8
  · subst e8; rw [if_pos rfl, op8 _ _ hb.1]
  rw [if_neg e8]
  by_cases e9 : op = 9
  · subst e9; rw [if_pos rfl, op9]
  rw [if_neg e9]
  by_cases e10 : op = 10
  · subst e10; rw [if_pos rfl, op10]
  rw [if_neg e10, op_other _ _ _ (by omega)]
theorem op_some (op a b : Int) (hb : 0 ≤ b) : ∃ r, word_Op.f op a b = some r := by
  by_cases h : op < 1 ∨ 10 < op
  · exact ⟨_, op_other op a b h⟩
  obtain rfl | rfl | rfl | rfl | rfl | rfl | rfl | rfl | rfl | rfl : op = 1 ∨ op = 2 ∨ op = 3 ∨ op = 4 ∨ op = 5 ∨ op = 6 ∨ op = 7 ∨ op = 8 ∨ op = 9 ∨ op = 10 := by omega
  · exact ⟨_, op1 a b⟩
  · exact ⟨_, op2 a b⟩
  · exact ⟨_, op3 a b⟩
  · exact ⟨_, op4 a b⟩
  · exact ⟨_, op5 a b⟩
  · exact ⟨_, op6 a b⟩
  · exact ⟨_, op7 a b hb⟩
  · exact ⟨_, op8 a b hb⟩
  · exact ⟨_, op9 a b⟩
  · exact ⟨_, op10 a b⟩
theorem WordOps : carlinglaw01_WordOps.Pure := by
  intro op a b _ ha hb
  obtain ⟨ha0, ha1⟩ := wf_u32 ha
  obtain ⟨hb0, hb1⟩ := wf_u32 hb
  obtain ⟨r, hr⟩ := op_some op a b hb0
  unfold carlinglaw01_WordOps.f
  rw [awake_true, ref_op op a b ⟨ha0, ha1⟩ ⟨hb0, hb1⟩, hr]
  simp

end Go.Proofs.Ytfneceeaifnhkaa.Pure
