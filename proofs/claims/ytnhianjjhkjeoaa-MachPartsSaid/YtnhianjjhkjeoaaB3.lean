/- Plain lemmas: what Of comes to, in the program and in the document, and whether two lists of instructions are the same. Conditions: as each states. -/
import Derived.Test.YtnhianjjhkjeoaaB2
import Derived.Test.YtnhianjjhkjeoaaPx15
namespace Go.Proofs.Ytnhianjjhkjeoaa.Pure
open Go.RowKit Go.Proofs.Ytnhianjjhkjeoaa.P Go.Proofs.Ytnhianjjhkjeoaa.O Go.Proofs.YtnhianjjhkjeoaaW.PrintWords Go.Proofs.YtnhianjjhkjeoaaW.PrintLast Go.Proofs.YtnhianjjhkjeoaaW.PrintMore

def isByte (c : Int) : Prop := 0 ≤ c ∧ c < 256
/-- The instructions of bytes, nine for each. -/
def ofFrom (acc : List S31) : List Int → List S31 × Int
  | c0 :: c1 :: c2 :: c3 :: c4 :: c5 :: c6 :: c7 :: c8 :: r =>
    if right ⟨c0, c1, c2, c3, c4, c5 * 16777216 + c6 * 65536 + c7 * 256 + c8⟩ = true then ofFrom (acc ++ [⟨c0, c1, c2, c3, c4, c5 * 16777216 + c6 * 65536 + c7 * 256 + c8⟩]) r else ([], 6)
  | _ => (acc, 0)
def ofS (b : List Int) : List S31 × Int := if b.length % 9 ≠ 0 then ([], 7) else ofFrom [] b
theorem or_step (x c : Int) (hx : 0 ≤ x ∧ x < 16777216) (hc : isByte c) : Go.bits .or .u32 ((x * 256) % 4294967296) (c % 4294967296) = x * 256 + c := by
  obtain ⟨c0, c1⟩ := hc
  rw [show x * 256 % 4294967296 = x * 256 by omega, show c % 4294967296 = c by omega, u32_or _ _ (by omega) (by omega) (by omega) (by omega), nat_join 8 _ _ (by omega) (by omega)]
  omega
theorem nine {b : List Int} (h : 9 ≤ b.length) : ∃ c0 c1 c2 c3 c4 c5 c6 c7 c8 r, b = c0 :: c1 :: c2 :: c3 :: c4 :: c5 :: c6 :: c7 :: c8 :: r := by
  match b, h with
  | c0 :: c1 :: c2 :: c3 :: c4 :: c5 :: c6 :: c7 :: c8 :: r, _ => exact ⟨c0, c1, c2, c3, c4, c5, c6, c7, c8, r, rfl⟩
theorem byte_wrap {c : Int} (h : isByte c) : wrap64 c = c := wrap_small (by have := h.1; omega) (by have := h.2; omega)
theorem of_loop : ∀ (n : Nat) (b : List Int) (acc : List S31), b.length = 9 * n → (∀ c ∈ b, isByte c) → acc.length + n ≤ 1000000 → Ends (fun k => mach_OfV.l0 k b acc) (ofFrom acc b)
  | 0, b, acc, hn, hb, ha => by
    obtain rfl : b = [] := List.eq_nil_of_length_eq_zero (by omega)
    apply Ends.succ
    simp only [mach_OfV.l0]
    exact Ends.neg (by simp) (Ends.const _)
  | n + 1, b, acc, hn, hb, ha => by
    obtain ⟨c0, c1, c2, c3, c4, c5, c6, c7, c8, r, rfl⟩ := nine (b := b) (by omega)
    have b0 : isByte c0 := hb c0 (by simp)
    have b1 : isByte c1 := hb c1 (by simp)
    have b2 : isByte c2 := hb c2 (by simp)
    have b3 : isByte c3 := hb c3 (by simp)
    have b4 : isByte c4 := hb c4 (by simp)
    have b5 : isByte c5 := hb c5 (by simp)
    have b6 : isByte c6 := hb c6 (by simp)
    have b7 : isByte c7 := hb c7 (by simp)
    have b8 : isByte c8 := hb c8 (by simp)
    have hr : r.length = 9 * n := by simp at hn; omega
    have hrb : ∀ c ∈ r, isByte c := fun c hc => hb c (by simp [hc])
    have hlen : ((c0 :: c1 :: c2 :: c3 :: c4 :: c5 :: c6 :: c7 :: c8 :: r).length : Int) = r.length + 9 := by simp; omega
    apply Ends.succ
    simp only [mach_OfV.l0]
    rw [hlen]
    refine Ends.pos (by omega) (Ends.pos (by omega) (Ends.pos (by omega) (Ends.pos (by omega) (Ends.pos (by omega) (Ends.pos (by omega) (Ends.pos (by omega) (Ends.pos (by omega) ?_)))))))
    simp only [Option.bind_some]
    have e0 : wrap64 (rd (c0 :: c1 :: c2 :: c3 :: c4 :: c5 :: c6 :: c7 :: c8 :: r) 0) = c0 := byte_wrap b0
    have e1 : wrap64 (rd (c0 :: c1 :: c2 :: c3 :: c4 :: c5 :: c6 :: c7 :: c8 :: r) 1) = c1 := byte_wrap b1
    have e2 : wrap64 (rd (c0 :: c1 :: c2 :: c3 :: c4 :: c5 :: c6 :: c7 :: c8 :: r) 2) = c2 := byte_wrap b2
    have e3 : wrap64 (rd (c0 :: c1 :: c2 :: c3 :: c4 :: c5 :: c6 :: c7 :: c8 :: r) 3) = c3 := byte_wrap b3
    have e4 : wrap64 (rd (c0 :: c1 :: c2 :: c3 :: c4 :: c5 :: c6 :: c7 :: c8 :: r) 4) = c4 := byte_wrap b4
    have e5 : ((c0 :: c1 :: c2 :: c3 :: c4 :: c5 :: c6 :: c7 :: c8 :: r).take 9).drop 5 = [c5, c6, c7, c8] := rfl
    rw [e0, e1, e2, e3, e4, e5]
    obtain ⟨p5, q5⟩ := b5
    obtain ⟨p6, q6⟩ := b6
    obtain ⟨p7, q7⟩ := b7
    obtain ⟨p8, q8⟩ := b8
    have hl4 : (([c5, c6, c7, c8] : List Int).length : Int) = 4 := rfl
    rw [hl4]
    -- four bytes, one behind the other
    apply Ends.succ
    simp only [mach_OfV.l1]
    refine Ends.pos (by decide) (Ends.pos (by decide) (Ends.pos (by rw [hl4]; decide) ?_))
    rw [show rd [c5, c6, c7, c8] 0 = c5 from rfl, or_step 0 c5 (by decide) ⟨p5, q5⟩, show wrap64 (0 + 1) = 1 from wrap_small (by decide) (by decide)]
    apply Ends.succ
    simp only [mach_OfV.l1]
    refine Ends.pos (by decide) (Ends.pos (by decide) (Ends.pos (by rw [hl4]; decide) ?_))
    rw [show rd [c5, c6, c7, c8] 1 = c6 from rfl, or_step _ c6 (by omega) ⟨p6, q6⟩, show wrap64 (1 + 1) = 2 from wrap_small (by decide) (by decide)]
    apply Ends.succ
    simp only [mach_OfV.l1]
    refine Ends.pos (by decide) (Ends.pos (by decide) (Ends.pos (by rw [hl4]; decide) ?_))
    rw [show rd [c5, c6, c7, c8] 2 = c7 from rfl, or_step _ c7 (by omega) ⟨p7, q7⟩, show wrap64 (2 + 1) = 3 from wrap_small (by decide) (by decide)]
    apply Ends.succ
    simp only [mach_OfV.l1]
    refine Ends.pos (by decide) (Ends.pos (by decide) (Ends.pos (by rw [hl4]; decide) ?_))
    rw [show rd [c5, c6, c7, c8] 3 = c8 from rfl, or_step _ c8 (by omega) ⟨p8, q8⟩, show wrap64 (3 + 1) = 4 from wrap_small (by decide) (by decide)]
    apply Ends.succ
    simp only [mach_OfV.l1]
    refine Ends.neg (by decide) ?_
    have hN : (((0 * 256 + c5) * 256 + c6) * 256 + c7) * 256 + c8 = c5 * 16777216 + c6 * 65536 + c7 * 256 + c8 := by omega
    rw [hN]
    refine Ends.bind (Ends.of_eq (right_eq ⟨c0, c1, c2, c3, c4, c5 * 16777216 + c6 * 65536 + c7 * 256 + c8⟩)) ?_
    unfold ofFrom
    cases hr2 : right ⟨c0, c1, c2, c3, c4, c5 * 16777216 + c6 * 65536 + c7 * 256 + c8⟩ with
    | false =>
      simp only [Bool.false_eq_true, if_false]
      exact Ends.const _
    | true =>
      simp only [if_true]
      refine Ends.pos (by omega) (Ends.pos (by omega) ?_)
      rw [show (c0 :: c1 :: c2 :: c3 :: c4 :: c5 :: c6 :: c7 :: c8 :: r).drop 9 = r from rfl]
      exact of_loop n r _ hr hrb (by simp; omega)
theorem of_ends (b : List Int) (hl : b.length ≤ 1000000) (hb : ∀ c ∈ b, isByte c) : Ends (fun k => mach_Of.f k b) (ofS b) := by
  unfold mach_Of.f mach_OfV.f ofS
  by_cases h : (b.length : Int) % 9 = 0
  · rw [if_neg (by omega)]
    exact Ends.pos h (of_loop (b.length / 9) b [] (by omega) hb (by simp; omega))
  · rw [if_pos (by omega)]
    exact Ends.neg h (Ends.const _)

/-! the same -/
theorem same_ends_loop (a : List S31) (ha : a.length ≤ 1000000) : ∀ (ys : List S31) (i : Nat), a.drop i = ys → Ends (fun k => carlingref13_Same.l0 k a a (i : Int)) true
  | [], i, hd => by
    have hi := drop_nil_le hd
    apply Ends.succ
    simp only [carlingref13_Same.l0]
    exact Ends.neg (by omega) (Ends.const _)
  | x :: xs, i, hd => by
    have hi := drop_lt hd
    apply Ends.succ
    simp only [carlingref13_Same.l0]
    refine Ends.pos (by omega) (Ends.pos (by omega) (Ends.pos (by omega) (Ends.neg (by simp) ?_)))
    rw [wrap_small (by omega) (by omega)]
    exact same_ends_loop a ha xs (i + 1) (drop_next hd)
theorem same_ends (a : List S31) (ha : a.length ≤ 1000000) : Ends (fun k => carlingref13_Same.f k a a) true := by
  unfold carlingref13_Same.f
  exact Ends.pos rfl (same_ends_loop a ha a 0 rfl)
theorem ofFrom_len : ∀ (n : Nat) (b : List Int) (acc : List S31), b.length ≤ n → (ofFrom acc b).1.length ≤ acc.length + b.length := by
  intro n
  induction n using Nat.strongRecOn with
  | _ n ih =>
    intro b acc hb
    match b with
    | c0 :: c1 :: c2 :: c3 :: c4 :: c5 :: c6 :: c7 :: c8 :: r =>
      unfold ofFrom
      split
      · have h := ih r.length (by simp at hb; omega) r (acc ++ [⟨c0, c1, c2, c3, c4, c5 * 16777216 + c6 * 65536 + c7 * 256 + c8⟩]) (Nat.le_refl _)
        simp at h ⊢
        omega
      · simp
    | [] => simp [ofFrom]
    | [_] => simp [ofFrom]
    | [_, _] => simp [ofFrom]
    | [_, _, _] => simp [ofFrom]
    | [_, _, _, _] => simp [ofFrom]
    | [_, _, _, _, _] => simp [ofFrom]
    | [_, _, _, _, _, _] => simp [ofFrom]
    | [_, _, _, _, _, _, _] => simp [ofFrom]
    | [_, _, _, _, _, _, _, _] => simp [ofFrom]
theorem ofS_len (b : List Int) : (ofS b).1.length ≤ b.length := by
  unfold ofS
  split
  · simp
  · simpa using ofFrom_len b.length b [] (Nat.le_refl _)
end Go.Proofs.Ytnhianjjhkjeoaa.Pure
