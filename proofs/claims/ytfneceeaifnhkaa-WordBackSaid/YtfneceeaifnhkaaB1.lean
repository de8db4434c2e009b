/- Plain lemmas on the ops of two words, and that the law's awake is true. Conditions: the words are words of 32 bits where a lemma says so. -/
import Derived.Test.YtfneceeaifnhkaaPx6
import Derived.Laws.BitsAllLaws
namespace Go.Proofs.Ytfneceeaifnhkaa.Pure
open Go.RowKit Go.Proofs.Ytfneceeaifnhkaa.P Go.Proofs.YtfneceeaifnhkaaW.PrintWords Go.Proofs.YtfneceeaifnhkaaW.PrintLast Go.Proofs.YtfneceeaifnhkaaW.PrintMore

theorem wf_u32 {a : Int} (h : (Lit.int .u32 a).wf = true) : 0 ≤ a ∧ a < 4294967296 := by
  have hmin : IntKind.u32.min = 0 := rfl
  have hmax : IntKind.u32.max = 4294967295 := rfl
  simp only [Lit.wf, Bool.and_eq_true, decide_eq_true_eq] at h
  omega
theorem wf_i64 {a : Int} (h : (Lit.int .i64 a).wf = true) : -9223372036854775808 ≤ a ∧ a ≤ 9223372036854775807 := by
  have hmin : IntKind.i64.min = -9223372036854775808 := rfl
  have hmax : IntKind.i64.max = 9223372036854775807 := rfl
  simp only [Lit.wf, Bool.and_eq_true, decide_eq_true_eq] at h
  omega
theorem op1 (a b : Int) : word_Op.f 1 a b = some ((a + b) % 4294967296, true) := rfl
theorem op2 (a b : Int) : word_Op.f 2 a b = some ((a - b) % 4294967296, true) := rfl
theorem op3 (a b : Int) : word_Op.f 3 a b = some ((a * b) % 4294967296, true) := rfl
theorem op4 (a b : Int) : word_Op.f 4 a b = some (Go.bits .and .u32 a b, true) := rfl
theorem op5 (a b : Int) : word_Op.f 5 a b = some (Go.bits .or .u32 a b, true) := rfl
theorem op6 (a b : Int) : word_Op.f 6 a b = some (Go.bits .xor .u32 a b, true) := rfl
theorem op7 (a b : Int) (hb : 0 ≤ b) : word_Op.f 7 a b = some (a * 2 ^ (b % 32).toNat % 4294967296, true) := by
  have h : Int.tmod b 32 = b % 32 := Int.tmod_eq_emod_of_nonneg hb
  have h0 : 0 ≤ b % 32 := by omega
  have hs : shl .u32 a (b % 32) = a * 2 ^ (b % 32).toNat % 4294967296 := by
    unfold shl
    rw [Nat.min_eq_left (by show (b % 32).toNat ≤ 32; omega), IntKind.wrap_u32']
  show (if 0 ≤ Int.tmod b 32 then some (shl .u32 a (Int.tmod b 32), true) else none) = _
  rw [h, if_pos h0, hs]
theorem op8 (a b : Int) (hb : 0 ≤ b) : word_Op.f 8 a b = some (a / 2 ^ (b % 32).toNat, true) := by
  have h : Int.tmod b 32 = b % 32 := Int.tmod_eq_emod_of_nonneg hb
  have h0 : 0 ≤ b % 32 := by omega
  have hs : shr .u32 a (b % 32) = a / 2 ^ (b % 32).toNat := by
    unfold shr
    rw [Nat.min_eq_left (by show (b % 32).toNat ≤ 32; omega)]
  show (if 0 ≤ Int.tmod b 32 then some (shr .u32 a (Int.tmod b 32), true) else none) = _
  rw [h, if_pos h0, hs]
theorem op9 (a b : Int) : word_Op.f 9 a b = some (if a < b then 1 else 0, true) := by
  show ((word_one.f (decide (a < b))).bind fun t => some (t, true)) = _
  unfold word_one.f
  by_cases h : a < b <;> simp [h]
theorem op10 (a b : Int) : word_Op.f 10 a b = some (if a = b then 1 else 0, true) := by
  show ((word_one.f (a == b)).bind fun t => some (t, true)) = _
  unfold word_one.f
  by_cases h : a = b <;> simp [h]
theorem op_other (op a b : Int) (h : op < 1 ∨ 10 < op) : word_Op.f op a b = some (0, false) := by
  unfold word_Op.f
  rw [if_neg (by omega), if_neg (by omega), if_neg (by omega), if_neg (by omega), if_neg (by omega), if_neg (by omega), if_neg (by omega), if_neg (by omega), if_neg (by omega), if_neg (by omega)]
theorem sign_in (op : Int) (h0 : 1 ≤ op) (h1 : op ≤ 10) : word_Sign.f op = some (rdOf ByteArray.empty [⟨#[]⟩, ⟨#[43]⟩, ⟨#[45]⟩, ⟨#[42]⟩, ⟨#[38]⟩, ⟨#[124]⟩, ⟨#[94]⟩, ⟨#[60, 60]⟩, ⟨#[62, 62]⟩, ⟨#[60]⟩, ⟨#[61, 61]⟩] op, true) := by
  unfold word_Sign.f word_signs.f
  rw [if_neg (by omega), if_neg (by omega)]
  simp only [Option.bind_some]
  rw [if_pos (by omega), if_pos (by simp; omega)]
theorem sign_out (op : Int) (h : op < 1 ∨ 10 < op) : word_Sign.f op = some (⟨#[]⟩, false) := by
  unfold word_Sign.f
  by_cases h1 : op < 1
  · rw [if_pos h1]
  · rw [if_neg h1, if_pos (by omega)]
theorem awake_true : carlinglaw01_awake.f = some true := by
  unfold carlinglaw01_awake.f
  rw [op2, sign_in 8 (by decide) (by decide)]
  simp only [Option.bind_some]
  rw [if_pos (by decide), if_pos trivial, if_pos (by decide +kernel), if_pos trivial]
  rfl

/-! bits -/
theorem and_u32 {a b : Int} (ha : 0 ≤ a ∧ a < 4294967296) (hb : 0 ≤ b ∧ b < 4294967296) : Go.bits .and .u32 a b = ((a.toNat &&& b.toNat : Nat) : Int) := u32_and a b ha.1 ha.2 hb.1 hb.2
theorem or_u32 {a b : Int} (ha : 0 ≤ a ∧ a < 4294967296) (hb : 0 ≤ b ∧ b < 4294967296) : Go.bits .or .u32 a b = ((a.toNat ||| b.toNat : Nat) : Int) := u32_or a b ha.1 ha.2 hb.1 hb.2
theorem xor_u32 {a b : Int} (ha : 0 ≤ a ∧ a < 4294967296) (hb : 0 ≤ b ∧ b < 4294967296) : Go.bits .xor .u32 a b = ((a.toNat ^^^ b.toNat : Nat) : Int) := u32_xor a b ha.1 ha.2 hb.1 hb.2
theorem and_or (x : Nat) : ∀ y : Nat, (x &&& y) + (x ||| y) = x + y := by
  induction x using Nat.strongRecOn with
  | _ x ih =>
    intro y
    by_cases h : x = 0
    · subst h; simp
    · have h1 := ih (x / 2) (by omega) (y / 2)
      rw [← Nat.and_div_two, ← Nat.or_div_two] at h1
      have h2 := @Nat.and_mod_two_eq_one x y
      have h3 := @Nat.or_mod_two_eq_one x y
      omega
theorem xor_and (x : Nat) : ∀ y : Nat, (x ^^^ y) + 2 * (x &&& y) = x + y := by
  induction x using Nat.strongRecOn with
  | _ x ih =>
    intro y
    by_cases h : x = 0
    · subst h; simp
    · have h1 := ih (x / 2) (by omega) (y / 2)
      rw [← Nat.and_div_two, ← Nat.xor_div_two] at h1
      have h2 := @Nat.and_mod_two_eq_one x y
      have h3 := @Nat.xor_mod_two_eq_one x y
      omega
end Go.Proofs.Ytfneceeaifnhkaa.Pure
