/- The contract of carlingref01.Op (and of its bits): what each op of two words of 32 bits comes to. Conditions: the words are words of 32 bits. -/
import Derived.Test.YtfneceeaifnhkaaPx0
import Derived.Laws.BitsAllLaws
namespace Go.Proofs.Ytfneceeaifnhkaa.P
open Go.RowKit Go.Proofs.YtfneceeaifnhkaaW.PrintWords Go.Proofs.YtfneceeaifnhkaaW.PrintLast Go.Proofs.YtfneceeaifnhkaaW.PrintMore

def bitsK (a b : Int) (i : Nat) : Int := a / 2 ^ i % 2 * 2 + b / 2 ^ i % 2
def bitsR (r0 r1 r2 r3 k : Int) : Int := if k = 0 then r0 else if k = 1 then r1 else if k = 2 then r2 else r3
def bitsAt (a b r0 r1 r2 r3 : Int) : Nat → Int
  | 0 => 0
  | i + 1 => bitsAt a b r0 r1 r2 r3 i + bitsR r0 r1 r2 r3 (bitsK a b i) * 2 ^ i
def isBit (r : Int) : Prop := r = 0 ∨ r = 1
theorem bitsK_range (a b : Int) (i : Nat) : 0 ≤ bitsK a b i ∧ bitsK a b i ≤ 3 := by unfold bitsK; omega
theorem div_nonneg_pow (a : Int) (i : Nat) (h : 0 ≤ a) : 0 ≤ a / 2 ^ i := Int.ediv_nonneg h (Int.le_of_lt (Int.pow_pos (by decide)))
theorem bitsK_walk (a b : Int) (i : Nat) (ha : 0 ≤ a) (hb : 0 ≤ b) : ((a / 2 ^ i).tmod 2 * 2 % 4294967296 + (b / 2 ^ i).tmod 2) % 4294967296 = bitsK a b i := by
  rw [Int.tmod_eq_emod_of_nonneg (div_nonneg_pow a i ha), Int.tmod_eq_emod_of_nonneg (div_nonneg_pow b i hb)]
  unfold bitsK
  omega
theorem bitsR_bit {r0 r1 r2 r3 : Int} (h0 : isBit r0) (h1 : isBit r1) (h2 : isBit r2) (h3 : isBit r3) (k : Int) : isBit (bitsR r0 r1 r2 r3 k) := by
  unfold bitsR
  split
  · exact h0
  · split
    · exact h1
    · split
      · exact h2
      · exact h3
theorem bitsAt_range (a b : Int) {r0 r1 r2 r3 : Int} (h0 : isBit r0) (h1 : isBit r1) (h2 : isBit r2) (h3 : isBit r3) : ∀ i : Nat, 0 ≤ bitsAt a b r0 r1 r2 r3 i ∧ bitsAt a b r0 r1 r2 r3 i < 2 ^ i
  | 0 => by simp [bitsAt]
  | i + 1 => by
    have h := bitsAt_range a b h0 h1 h2 h3 i
    have hb := bitsR_bit h0 h1 h2 h3 (bitsK a b i)
    have hp : (2 : Int) ^ (i + 1) = 2 ^ i * 2 := Int.pow_succ 2 i
    unfold bitsAt
    rcases hb with hb | hb <;> rw [hb, hp] <;> omega
theorem bitsAt_walk (a b : Int) {r0 r1 r2 r3 : Int} (h0 : isBit r0) (h1 : isBit r1) (h2 : isBit r2) (h3 : isBit r3) (i : Nat) (hi : i < 32) :
    (bitsAt a b r0 r1 r2 r3 i + bitsR r0 r1 r2 r3 (bitsK a b i) * 2 ^ i % 4294967296) % 4294967296 = bitsAt a b r0 r1 r2 r3 (i + 1) := by
  have h := bitsAt_range a b h0 h1 h2 h3 i
  have hb := bitsR_bit h0 h1 h2 h3 (bitsK a b i)
  have hp : (2 : Int) ^ i ≤ 2147483648 := by
    have : (2 : Nat) ^ i ≤ 2 ^ 31 := Nat.pow_le_pow_right (by decide) (by omega)
    have h2 : ((2 ^ i : Nat) : Int) ≤ ((2 ^ 31 : Nat) : Int) := by omega
    simpa using h2
  have hq : (0 : Int) < 2 ^ i := Int.pow_pos (by decide)
  have he : bitsAt a b r0 r1 r2 r3 (i + 1) = bitsAt a b r0 r1 r2 r3 i + bitsR r0 r1 r2 r3 (bitsK a b i) * 2 ^ i := rfl
  rw [he]
  rcases hb with hb | hb <;> rw [hb] <;> omega
theorem bits_cell {w : World} {g : Nat} {r0 r1 r2 r3 : Int} (h : w.heap[g]? = some (.cells #[.int .u32 r0, .int .u32 r1, .int .u32 r2, .int .u32 r3] 38 (0, 0))) (k : Int) (h0 : 0 ≤ k) (h3 : k ≤ 3) :
    w.cell? ⟨g, k.toNat, none⟩ = some (.int .u32 (bitsR r0 r1 r2 r3 k)) := by
  obtain rfl | rfl | rfl | rfl : k = 0 ∨ k = 1 ∨ k = 2 ∨ k = 3 := by omega
  all_goals simp [World.cell?, h, bitsR]

set_option maxHeartbeats 800000 in
theorem bits_any (a b r0 r1 r2 r3 : Int) (w : World) (ha0 : 0 ≤ a) (hb0 : 0 ≤ b) (h0 : isBit r0) (h1 : isBit r1) (h2 : isBit r2) (h3 : isBit r3) :
    Calls Try.prog 18 #[.int .u32 a, .int .u32 b, .agg #[.int .u32 r0, .int .u32 r1, .int .u32 r2, .int .u32 r3]] w fun e w' => e = .returned (.int .u32 (bitsAt a b r0 r1 r2 r3 32)) ∧ Below w.heap.size w w' := by
  have HP0 := Aside0.mk (And.intro h0 (And.intro h1 (And.intro h2 h3)))
  clear h0 h1 h2 h3
  go_enter Try.func18, Try.ntmps18
  go_wp2
  go_loopw [7, 8] (fun v7 v8 w' => ∃ i : Nat, i ≤ 32 ∧ v8 = .int .i64 i ∧ v7 = .int .u32 (bitsAt a b r0 r1 r2 r3 i) ∧ w'.heap[w.heap.size]? = some (.cells #[.int .u32 r0, .int .u32 r1, .int .u32 r2, .int .u32 r3] 38 (0, 0)) ∧ Below w.heap.size w w')
    (fun _ v8 _ => 32 - (intOf v8).toNat)
  case atStart => exact ⟨0, by omega, rfl, rfl, by rw [heap_alloc_new], below_alloc (Below.refl _ _) _⟩
  case round =>
    obtain ⟨i, hi, rfl, rfl, hblk, hB⟩ := hrel
    have HB := Aside0.mk hB
    have HK := Aside0.mk hblk
    clear hB hblk
    by_cases hlt : i < 32
    · go_wp2
      go_quiet (fail)
      rw [bitsK_walk a b i ha0 hb0]
      have hs := bitsAt_walk a b HP0.out.1 HP0.out.2.1 HP0.out.2.2.1 HP0.out.2.2.2 i hlt
      have hc := bits_cell HK.out _ (bitsK_range a b i).1 (bitsK_range a b i).2
      have hkr := bitsK_range a b i
      generalize bitsK a b i = kk at hs hc hkr ⊢
      obtain ⟨hk0, hk3⟩ := hkr
      have HS := Aside0.mk hs
      clear hs
      have hk4 : kk < 4 := by omega
      clear hk3
      go_wp2
      refine ⟨⟨i + 1, by omega, by go_num, by rw [HS.out], HK.out, pw_below_drewN HB.out nq⟩, ?_⟩
      simp [intOf]
      omega
    · go_wp2
      go_ret
      obtain rfl : i = 32 := by omega
      exact ⟨rfl, HB.out⟩

/-- What an op of two words of 32 bits comes to; nothing is said of others. -/
def carlingref01_Op.f (op a b : Int) : Option (Int × Bool) :=
  if 0 ≤ a ∧ a < 4294967296 ∧ 0 ≤ b ∧ b < 4294967296 then
    if op = 1 then some ((a + b) % 4294967296, true)
    else if op = 2 then some ((a - b) % 4294967296, true)
    else if op = 3 then some (a * b % 4294967296, true)
    else if op = 4 then some (bitsAt a b 0 0 0 1 32, true)
    else if op = 5 then some (bitsAt a b 0 1 1 1 32, true)
    else if op = 6 then some (bitsAt a b 0 1 1 0 32, true)
    else if op = 7 then some (a * 2 ^ (b % 32).toNat % 4294967296, true)
    else if op = 8 then some (a / 2 ^ (b % 32).toNat, true)
    else if op = 9 then some (if a < b then 1 else 0, true)
    else if op = 10 then some (if a = b then 1 else 0, true)
    else some (0, false)
  else none
theorem ret_pair {a b : Int} {k : IntKind} {x : Bool} (h : a = b) : Ending.returned (.tuple #[.int k a, .bool x]) = Ending.returned (.tuple #[.int k b, .bool x]) := by rw [h]
theorem mul_walk (a b : Int) : (IntKind.u64.wrap (a * b)).tmod 4294967296 % 4294967296 = a * b % 4294967296 := by
  rw [IntKind.wrap_u64, Int.tmod_eq_emod_of_nonneg (by omega)]
  omega
theorem shl_step (a : Int) (i : Nat) : a * 2 ^ i % 4294967296 * 2 % 4294967296 = a * 2 ^ (i + 1) % 4294967296 := by
  rw [show (2 : Int) ^ (i + 1) = 2 ^ i * 2 from Int.pow_succ 2 i, ← Int.mul_assoc]
  omega
theorem shr_step (a : Int) (i : Nat) : a / 2 ^ i / 2 = a / 2 ^ (i + 1) := by
  rw [show (2 : Int) ^ (i + 1) = 2 ^ i * 2 from Int.pow_succ 2 i, Int.ediv_ediv_of_nonneg (Int.le_of_lt (Int.pow_pos (by decide)))]
theorem shr_le (a : Int) (i : Nat) (h : 0 ≤ a) : a / 2 ^ i ≤ a := Int.ediv_le_self _ h
section
variable (a b : Int) (w : World) (ha0 : 0 ≤ a) (ha : a < 4294967296) (hb0 : 0 ≤ b) (hb : b < 4294967296)
include ha0 ha hb0 hb
set_option maxHeartbeats 800000 in
theorem Op_add : Calls Try.prog 11 #[.int .i64 1, .int .u32 a, .int .u32 b] w fun e w' => e = .returned (.tuple #[.int .u32 ((a + b) % 4294967296), .bool true]) ∧ Below w.heap.size w w' := by
  go_enter Try.func11, Try.ntmps11
  go_wp2
  go_ret2
  exact ⟨rfl, Below.refl _ _⟩
set_option maxHeartbeats 800000 in
theorem Op_sub : Calls Try.prog 11 #[.int .i64 2, .int .u32 a, .int .u32 b] w fun e w' => e = .returned (.tuple #[.int .u32 ((a - b) % 4294967296), .bool true]) ∧ Below w.heap.size w w' := by
  go_enter Try.func11, Try.ntmps11
  go_wp2
  go_ret2
  exact ⟨ret_pair (by omega), Below.refl _ _⟩
set_option maxHeartbeats 800000 in
theorem Op_mul : Calls Try.prog 11 #[.int .i64 3, .int .u32 a, .int .u32 b] w fun e w' => e = .returned (.tuple #[.int .u32 (a * b % 4294967296), .bool true]) ∧ Below w.heap.size w w' := by
  go_enter Try.func11, Try.ntmps11
  go_wp2
  go_ret2
  exact ⟨ret_pair (mul_walk a b), Below.refl _ _⟩
set_option maxHeartbeats 800000 in
theorem Op_and : Calls Try.prog 11 #[.int .i64 4, .int .u32 a, .int .u32 b] w fun e w' => e = .returned (.tuple #[.int .u32 (bitsAt a b 0 0 0 1 32), .bool true]) ∧ Below w.heap.size w w' := by
  go_enter Try.func11, Try.ntmps11
  go_wp2_with (go_at_call 18; refine (bits_any a b 0 0 0 1 _ ha0 hb0 (Or.inl rfl) (Or.inl rfl) (Or.inl rfl) (Or.inr rfl)).mono ?_; rintro e w' ⟨rfl, hbel⟩)
  go_ret2
  exact ⟨rfl, hbel⟩
set_option maxHeartbeats 800000 in
theorem Op_or : Calls Try.prog 11 #[.int .i64 5, .int .u32 a, .int .u32 b] w fun e w' => e = .returned (.tuple #[.int .u32 (bitsAt a b 0 1 1 1 32), .bool true]) ∧ Below w.heap.size w w' := by
  go_enter Try.func11, Try.ntmps11
  go_wp2_with (go_at_call 18; refine (bits_any a b 0 1 1 1 _ ha0 hb0 (Or.inl rfl) (Or.inr rfl) (Or.inr rfl) (Or.inr rfl)).mono ?_; rintro e w' ⟨rfl, hbel⟩)
  go_ret2
  exact ⟨rfl, hbel⟩
set_option maxHeartbeats 800000 in
theorem Op_xor : Calls Try.prog 11 #[.int .i64 6, .int .u32 a, .int .u32 b] w fun e w' => e = .returned (.tuple #[.int .u32 (bitsAt a b 0 1 1 0 32), .bool true]) ∧ Below w.heap.size w w' := by
  go_enter Try.func11, Try.ntmps11
  go_wp2_with (go_at_call 18; refine (bits_any a b 0 1 1 0 _ ha0 hb0 (Or.inl rfl) (Or.inr rfl) (Or.inr rfl) (Or.inl rfl)).mono ?_; rintro e w' ⟨rfl, hbel⟩)
  go_ret2
  exact ⟨rfl, hbel⟩
set_option maxHeartbeats 800000 in
theorem Op_shl : Calls Try.prog 11 #[.int .i64 7, .int .u32 a, .int .u32 b] w fun e w' => e = .returned (.tuple #[.int .u32 (a * 2 ^ (b % 32).toNat % 4294967296), .bool true]) ∧ Below w.heap.size w w' := by
  go_enter Try.func11, Try.ntmps11
  go_wp2
  go_loop [1, 11] (fun v1 v11 => ∃ i : Nat, (i : Int) ≤ b % 32 ∧ v11 = .int .u32 i ∧ v1 = .int .u32 (a * 2 ^ i % 4294967296)) (fun _ v11 => (b % 32).toNat - (intOf v11).toNat)
  case atStart => exact ⟨0, by omega, rfl, by simp; omega⟩
  case round =>
    obtain ⟨i, hi, rfl, rfl⟩ := hrel
    have hi32 : (i : Int) < 32 := by omega
    by_cases hlt : (i : Int) < b % 32
    · go_wp2
      refine ⟨⟨i + 1, by omega, by go_num, ?_⟩, ?_⟩
      · rw [shl_step]
      · simp [intOf]; omega
    · go_wp2
      go_ret2
      obtain rfl : i = (b % 32).toNat := by omega
      exact ⟨rfl, Below.refl _ _⟩
set_option maxHeartbeats 800000 in
theorem Op_shr : Calls Try.prog 11 #[.int .i64 8, .int .u32 a, .int .u32 b] w fun e w' => e = .returned (.tuple #[.int .u32 (a / 2 ^ (b % 32).toNat), .bool true]) ∧ Below w.heap.size w w' := by
  go_enter Try.func11, Try.ntmps11
  go_wp2
  go_loop [1, 11] (fun v1 v11 => ∃ i : Nat, (i : Int) ≤ b % 32 ∧ v11 = .int .u32 i ∧ v1 = .int .u32 (a / 2 ^ i)) (fun _ v11 => (b % 32).toNat - (intOf v11).toNat)
  case atStart => exact ⟨0, by omega, rfl, by simp⟩
  case round =>
    obtain ⟨i, hi, rfl, rfl⟩ := hrel
    have hi32 : (i : Int) < 32 := by omega
    have hq0 := div_nonneg_pow a i ha0
    have hq1 := shr_le a i ha0
    by_cases hlt : (i : Int) < b % 32
    · go_wp2
      refine ⟨⟨i + 1, by omega, by go_num, ?_⟩, ?_⟩
      · rw [← shr_step]
      · simp [intOf]; omega
    · go_wp2
      go_ret2
      obtain rfl : i = (b % 32).toNat := by omega
      exact ⟨rfl, Below.refl _ _⟩
set_option maxHeartbeats 800000 in
theorem Op_lt : Calls Try.prog 11 #[.int .i64 9, .int .u32 a, .int .u32 b] w fun e w' => e = .returned (.tuple #[.int .u32 (if a < b then 1 else 0), .bool true]) ∧ Below w.heap.size w w' := by
  by_cases hlt : a < b
  · rw [if_pos hlt]
    go_enter Try.func11, Try.ntmps11
    go_wp2
    go_ret2
    exact ⟨rfl, Below.refl _ _⟩
  · rw [if_neg hlt]
    go_enter Try.func11, Try.ntmps11
    go_wp2
    go_ret2
    exact ⟨rfl, Below.refl _ _⟩
set_option maxHeartbeats 800000 in
theorem Op_eq : Calls Try.prog 11 #[.int .i64 10, .int .u32 a, .int .u32 b] w fun e w' => e = .returned (.tuple #[.int .u32 (if a = b then 1 else 0), .bool true]) ∧ Below w.heap.size w w' := by
  by_cases hlt : a = b
  · rw [if_pos hlt]
    have hq : (a == b) = true := beq_iff_eq.mpr hlt
    clear hlt
    go_enter Try.func11, Try.ntmps11
    go_wp2
    go_ret2
    exact ⟨rfl, Below.refl _ _⟩
  · rw [if_neg hlt]
    have hq : (a == b) = false := beq_eq_false_iff_ne.mpr hlt
    clear hlt
    go_enter Try.func11, Try.ntmps11
    go_wp2
    go_ret2
    exact ⟨rfl, Below.refl _ _⟩
set_option maxHeartbeats 1600000 in
theorem Op_none (op : Int) (h : op < 1 ∨ 10 < op) : Calls Try.prog 11 #[.int .i64 op, .int .u32 a, .int .u32 b] w fun e w' => e = .returned (.tuple #[.int .u32 0, .bool false]) ∧ Below w.heap.size w w' := by
  have h1 : (op == 1) = false := beq_eq_false_iff_ne.mpr (by omega)
  have h2 : (op == 2) = false := beq_eq_false_iff_ne.mpr (by omega)
  have h3 : (op == 3) = false := beq_eq_false_iff_ne.mpr (by omega)
  have h4 : (op == 4) = false := beq_eq_false_iff_ne.mpr (by omega)
  have h5 : (op == 5) = false := beq_eq_false_iff_ne.mpr (by omega)
  have h6 : (op == 6) = false := beq_eq_false_iff_ne.mpr (by omega)
  have h7 : (op == 7) = false := beq_eq_false_iff_ne.mpr (by omega)
  have h8 : (op == 8) = false := beq_eq_false_iff_ne.mpr (by omega)
  have h9 : (op == 9) = false := beq_eq_false_iff_ne.mpr (by omega)
  have h10 : (op == 10) = false := beq_eq_false_iff_ne.mpr (by omega)
  clear h
  go_enter Try.func11, Try.ntmps11
  go_wp2
  go_ret2
  exact ⟨rfl, Below.refl _ _⟩
end
theorem carlingref01_Op.calls (a0 : Int) (a1 : Int) (a2 : Int) (r1 : Int) (r2 : Bool) (w : World) (h : carlingref01_Op.f a0 a1 a2 = some (r1, r2)) :
    Calls Try.prog 11 #[.int .i64 a0, .int .u32 a1, .int .u32 a2] w fun e w' => e = .returned (.tuple #[.int .u32 r1, .bool r2]) ∧ Below w.heap.size w w' := by
  unfold carlingref01_Op.f at h
  split at h
  · rename_i hw
    obtain ⟨h1, h2, h3, h4⟩ := hw
    by_cases e1 : a0 = 1
    · subst e1; simp at h; obtain ⟨rfl, rfl⟩ := h; exact Op_add a1 a2 w h1 h2 h3 h4
    by_cases e2 : a0 = 2
    · subst e2; simp at h; obtain ⟨rfl, rfl⟩ := h; exact Op_sub a1 a2 w h1 h2 h3 h4
    by_cases e3 : a0 = 3
    · subst e3; simp at h; obtain ⟨rfl, rfl⟩ := h; exact Op_mul a1 a2 w h1 h2 h3 h4
    by_cases e4 : a0 = 4
    · subst e4; simp at h; obtain ⟨rfl, rfl⟩ := h; exact Op_and a1 a2 w h1 h2 h3 h4
    by_cases e5 : a0 = 5
    · subst e5; simp at h; obtain ⟨rfl, rfl⟩ := h; exact Op_or a1 a2 w h1 h2 h3 h4
    by_cases e6 : a0 = 6
    · subst e6; simp at h; obtain ⟨rfl, rfl⟩ := h; exact Op_xor a1 a2 w h1 h2 h3 h4
    by_cases e7 : a0 = 7
    · subst e7; simp at h; obtain ⟨rfl, rfl⟩ := h; exact Op_shl a1 a2 w h1 h2 h3 h4
    by_cases e8 : a0 = 8
    · subst e8; simp at h; obtain ⟨rfl, rfl⟩ := h; exact Op_shr a1 a2 w h1 h2 h3 h4
    by_cases e9 : a0 = 9
    · subst e9; simp at h; obtain ⟨rfl, rfl⟩ := h; exact Op_lt a1 a2 w h1 h2 h3 h4
    by_cases e10 : a0 = 10
    · subst e10; simp at h; obtain ⟨rfl, rfl⟩ := h; exact Op_eq a1 a2 w h1 h2 h3 h4
    simp only [e1, e2, e3, e4, e5, e6, e7, e8, e9, e10, if_false, Option.some.injEq, Prod.mk.injEq] at h
    obtain ⟨rfl, rfl⟩ := h
    exact Op_none a1 a2 w h1 h2 h3 h4 a0 (by omega)
  · cases h
end Go.Proofs.Ytfneceeaifnhkaa.P
