/- Plain lemmas: what mach.Right, Bytes and the document's Right and Bytes come to, told as plain functions on lists. Conditions: as each states. -/
import Derived.Test.YtnhianjjhkjeoaaO2
import Derived.Test.YtnhianjjhkjeoaaG4
import Derived.Test.YtnhianjjhkjeoaaPx4
import Derived.Test.YtnhianjjhkjeoaaPx8
import Derived.Laws.BitsAllLaws
namespace Go.Proofs.Ytnhianjjhkjeoaa.Pure
open Go.RowKit Go.Proofs.Ytnhianjjhkjeoaa.P Go.Proofs.Ytnhianjjhkjeoaa.O Go.Proofs.YtnhianjjhkjeoaaW.PrintWords Go.Proofs.YtnhianjjhkjeoaaW.PrintLast Go.Proofs.YtnhianjjhkjeoaaW.PrintMore

/-! rounds -/
/-- With enough rounds it answers r. -/
def Ends {α : Type} (g : Nat → Option α) (r : α) : Prop := ∃ K, ∀ k, K ≤ k → g k = some r
namespace Ends
variable {α β : Type} {g a b : Nat → Option α} {r : α}
theorem const (r : α) : Ends (fun _ => some r) r := ⟨0, fun _ _ => rfl⟩
theorem succ (h : Ends (fun k => g (k + 1)) r) : Ends g r := by
  obtain ⟨K, hK⟩ := h
  refine ⟨K + 1, fun k hk => ?_⟩
  obtain ⟨m, rfl⟩ : ∃ m, k = m + 1 := ⟨k - 1, by omega⟩
  exact hK m (by omega)
theorem bind {g : Nat → Option β} {x : β} {h : Nat → β → Option α} (h1 : Ends g x) (h2 : Ends (fun k => h k x) r) : Ends (fun k => (g k).bind (fun y => h k y)) r := by
  obtain ⟨K, hK⟩ := h1
  obtain ⟨L, hL⟩ := h2
  refine ⟨max K L, fun k hk => ?_⟩
  show (g k).bind (fun y => h k y) = some r
  rw [hK k (by omega)]
  exact hL k (by omega)
theorem pos {c : Prop} [Decidable c] (hc : c) (h : Ends a r) : Ends (fun k => if c then a k else b k) r := by simpa [hc] using h
theorem neg {c : Prop} [Decidable c] (hc : ¬ c) (h : Ends b r) : Ends (fun k => if c then a k else b k) r := by simpa [hc] using h
theorem get (h : Ends g r) : ∃ k, g k = some r := by
  obtain ⟨K, hK⟩ := h
  exact ⟨K, hK K (Nat.le_refl _)⟩
theorem of_eq {o : Option α} (h : o = some r) : Ends (fun _ => o) r := ⟨0, fun _ _ => h⟩
end Ends

theorem wf_u32 {a : Int} (h : (Lit.int .u32 a).wf = true) : 0 ≤ a ∧ a < 4294967296 := by
  have hmin : IntKind.u32.min = 0 := rfl
  have hmax : IntKind.u32.max = 4294967295 := rfl
  simp only [Lit.wf, Bool.and_eq_true, decide_eq_true_eq] at h
  omega
theorem wf_u8 {a : Int} (h : (Lit.int .u8 a).wf = true) : 0 ≤ a ∧ a < 256 := by
  have hmin : IntKind.u8.min = 0 := rfl
  have hmax : IntKind.u8.max = 255 := rfl
  simp only [Lit.wf, Bool.and_eq_true, decide_eq_true_eq] at h
  omega
theorem wf_i64 {a : Int} (h : (Lit.int .i64 a).wf = true) : -9223372036854775808 ≤ a ∧ a ≤ 9223372036854775807 := by
  have hmin : IntKind.i64.min = -9223372036854775808 := rfl
  have hmax : IntKind.i64.max = 9223372036854775807 := rfl
  simp only [Lit.wf, Bool.and_eq_true, decide_eq_true_eq] at h
  omega
theorem wrap_small {i : Int} (h0 : -1000000000000 ≤ i) (h1 : i ≤ 1000000000000) : wrap64 i = i := by unfold wrap64; omega
theorem rd_drop {l xs : List S31} {x : S31} {i : Nat} (h : l.drop i = x :: xs) : rd_T31 l (i : Int) = x := by
  unfold rd_T31
  rw [Int.toNat_natCast]
  have h2 : l[i]? = some x := by
    have := congrArg (fun z => z[0]?) h
    simpa using this
  rw [List.getD_eq_getElem?_getD, h2]
  rfl
theorem drop_next {α : Type} {l xs : List α} {x : α} {i : Nat} (h : l.drop i = x :: xs) : l.drop (i + 1) = xs := by
  rw [← List.drop_drop, h]
  rfl
theorem drop_lt {α : Type} {l xs : List α} {x : α} {i : Nat} (h : l.drop i = x :: xs) : i < l.length := by
  rcases Nat.lt_or_ge i l.length with h1 | h1
  · exact h1
  · rw [List.drop_eq_nil_of_le h1] at h
    cases h

/-! what they come to -/
def right (x : S31) : Bool := rightB x.f0 x.f1 x.f2 x.f3 x.f4 x.f5
def bytes1 (x : S31) : List Int := [x.f0 % 256, x.f1 % 256, x.f2 % 256, x.f3 % 256, x.f4 % 256, (x.f5 / 16777216) % 256, (x.f5 / 65536) % 256, (x.f5 / 256) % 256, x.f5 % 256]
def bytesFrom (acc : List Int) : List S31 → List Int × Int
  | [] => (acc, 0)
  | x :: xs => if right x = true then bytesFrom (acc ++ bytes1 x) xs else ([], 6)
theorem right_eq (x : S31) : mach_Right.f x.f0 x.f1 x.f2 x.f3 x.f4 x.f5 = some (right x) := rfl
theorem bytes_loop (l : List S31) (hl : l.length ≤ 1000000) : ∀ (ys : List S31) (acc : List Int) (i : Nat), l.drop i = ys → acc.length ≤ 9 * i → Ends (fun k => mach_Bytes.l0 k acc l (l.length : Int) (i : Int)) (bytesFrom acc ys)
  | [], acc, i, hd, ha => by
    have hi : l.length ≤ i := by
      rcases Nat.lt_or_ge i l.length with h | h
      · rw [List.drop_eq_getElem_cons h] at hd
        cases hd
      · exact h
    apply Ends.succ
    simp only [mach_Bytes.l0]
    exact Ends.neg (by omega) (Ends.const _)
  | x :: xs, acc, i, hd, ha => by
    have hi := drop_lt hd
    apply Ends.succ
    simp only [mach_Bytes.l0]
    refine Ends.pos (by omega) (Ends.pos (by omega) (Ends.pos (by omega) ?_))
    rw [rd_drop hd]
    refine Ends.bind (Ends.of_eq (right_eq x)) ?_
    unfold bytesFrom
    cases hr : right x with
    | false =>
      simp only [Bool.false_eq_true, if_false]
      exact Ends.const _
    | true =>
      simp only [if_true, Option.bind_some]
      refine Ends.pos (by simp; omega) ?_
      rw [wrap_small (by omega) (by omega)]
      exact bytes_loop l hl xs (acc ++ bytes1 x) (i + 1) (drop_next hd) (by simp [bytes1]; omega)
theorem bytes_ends (l : List S31) (hl : l.length ≤ 1000000) : Ends (fun k => mach_Bytes.f k l) (bytesFrom [] l) := by
  unfold mach_Bytes.f
  refine Ends.pos hl ?_
  exact bytes_loop l hl l [] 0 rfl (by simp)

/-! the document's Right -/
theorem ref_right (x : S31) : Ends (fun k => carlingref13_Right.f k x.f0 x.f1 x.f2 x.f3 x.f4 x.f5) (right x) := by
  obtain ⟨k, op, d, a, b, n⟩ := x
  refine ⟨5, fun m hm => ?_⟩
  obtain ⟨m, rfl⟩ : ∃ z, m = z + 5 := ⟨m - 5, by omega⟩
  unfold right rightB rightTail okReg
  simp only [carlingref13_Right.f, carlingref13_Right.j0]
  by_cases h1 : d < 0
  · simp [h1, show ¬ (0 ≤ d ∧ d < 8) by omega]
  by_cases h2 : 7 < d
  · simp [h1, h2, show ¬ (0 ≤ d ∧ d < 8) by omega]
  by_cases h3 : a < 0
  · simp [h1, h2, h3, show ¬ (0 ≤ a ∧ a < 8) by omega]
  by_cases h4 : 7 < a
  · simp [h1, h2, h3, h4, show ¬ (0 ≤ a ∧ a < 8) by omega]
  by_cases h5 : b < 0
  · simp [h1, h2, h3, h4, h5, show ¬ (0 ≤ b ∧ b < 8) by omega]
  by_cases h6 : 7 < b
  · simp [h1, h2, h3, h4, h5, h6, show ¬ (0 ≤ b ∧ b < 8) by omega]
  rw [if_neg h1, if_neg (show ¬ d > 7 by omega), if_neg h3, if_neg (show ¬ a > 7 by omega), if_neg h5]
  have e1 : decide (b > 7) = false := by simp; omega
  have e2 : decide (0 ≤ d ∧ d < 8) = true := by simp; omega
  have e3 : decide (0 ≤ a ∧ a < 8) = true := by simp; omega
  have e4 : decide (0 ≤ b ∧ b < 8) = true := by simp; omega
  simp only [e1, e2, e3, e4, Bool.false_eq_true, if_false, Bool.true_and]
  clear e1 e2 e3 e4 h1 h2 h3 h4 h5 h6
  by_cases hk : 1 ≤ k ∧ k ≤ 9
  · rw [decide_eq_true hk, Bool.true_and]
    obtain rfl | rfl | rfl | rfl | rfl | rfl | rfl | rfl | rfl : k = 1 ∨ k = 2 ∨ k = 3 ∨ k = 4 ∨ k = 5 ∨ k = 6 ∨ k = 7 ∨ k = 8 ∨ k = 9 := by omega
    all_goals simp [carlingref13_Right.j1, carlingref13_Right.j2, carlingref13_Right.j3, hasOp, hasD, hasA, hasB, hasN, okOp]
    all_goals first
      | ac_rfl
      | (by_cases q1 : op < 1
         · simp [q1, show ¬ 1 ≤ op by omega]
         · by_cases q2 : 10 < op
           · simp [q1, q2, show ¬ op ≤ 10 by omega]
           · simp [q1, q2, show 1 ≤ op by omega, show op ≤ 10 by omega])
  · rw [decide_eq_false hk, Bool.false_and]
    simp [carlingref13_Right.j1, carlingref13_Right.j2, carlingref13_Right.j3, show k ≠ 1 by omega, show k ≠ 2 by omega, show k ≠ 3 by omega, show k ≠ 4 by omega, show k ≠ 5 by omega, show k ≠ 6 by omega, show k ≠ 7 by omega, show k ≠ 8 by omega, show k ≠ 9 by omega]

/-! the document's Bytes -/
theorem bytes1_ref (x : S31) (h : Wf31 x) : [x.f0 % 256, x.f1 % 256, x.f2 % 256, x.f3 % 256, x.f4 % 256, ((Int.tdiv x.f5 16777216) % 4294967296) % 256, ((Int.tdiv x.f5 65536) % 4294967296) % 256, ((Int.tdiv x.f5 256) % 4294967296) % 256, (Int.tmod x.f5 256) % 256] = bytes1 x := by
  obtain ⟨h0, h1⟩ := wf_u32 h.2.2.2.2.2
  unfold bytes1
  rw [Int.tdiv_eq_ediv_of_nonneg h0, Int.tdiv_eq_ediv_of_nonneg h0, Int.tdiv_eq_ediv_of_nonneg h0, Int.tmod_eq_emod_of_nonneg h0]
  have e1 : x.f5 / 16777216 % 4294967296 = x.f5 / 16777216 := by omega
  have e2 : x.f5 / 65536 % 4294967296 = x.f5 / 65536 := by omega
  have e3 : x.f5 / 256 % 4294967296 = x.f5 / 256 := by omega
  rw [e1, e2, e3, Int.emod_emod_of_dvd _ (Int.dvd_refl _)]
theorem ref_bytes_loop (l : List S31) (hl : l.length ≤ 1000000) (hw : ∀ y ∈ l, Wf31 y) : ∀ (ys : List S31) (acc : List Int) (i : Nat), l.drop i = ys → acc.length ≤ 9 * i → Ends (fun k => carlingref13_Bytes.l0 k l acc (i : Int)) (bytesFrom acc ys)
  | [], acc, i, hd, ha => by
    have hi : l.length ≤ i := by
      rcases Nat.lt_or_ge i l.length with h | h
      · rw [List.drop_eq_getElem_cons h] at hd
        cases hd
      · exact h
    apply Ends.succ
    simp only [carlingref13_Bytes.l0]
    exact Ends.neg (by omega) (Ends.const _)
  | x :: xs, acc, i, hd, ha => by
    have hi := drop_lt hd
    have hx : Wf31 x := hw x (List.mem_of_mem_drop (i := i) (by rw [hd]; exact List.mem_cons_self))
    apply Ends.succ
    simp only [carlingref13_Bytes.l0]
    refine Ends.pos (by omega) (Ends.pos (by omega) ?_)
    rw [rd_drop hd]
    refine Ends.bind (ref_right x) ?_
    unfold bytesFrom
    cases hr : right x with
    | false =>
      simp only [Bool.false_eq_true, if_false]
      exact Ends.const _
    | true =>
      simp only [if_true, Option.bind_some]
      refine Ends.pos (by simp; omega) ?_
      rw [wrap_small (by omega) (by omega), bytes1_ref x hx]
      exact ref_bytes_loop l hl hw xs (acc ++ bytes1 x) (i + 1) (drop_next hd) (by simp [bytes1]; omega)
theorem ref_bytes_ends (l : List S31) (hl : l.length ≤ 1000000) (hw : ∀ y ∈ l, Wf31 y) : Ends (fun k => carlingref13_Bytes.f k l) (bytesFrom [] l) := ref_bytes_loop l hl hw l [] 0 rfl (by simp)
end Go.Proofs.Ytnhianjjhkjeoaa.Pure
