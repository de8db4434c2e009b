/- Plain lemmas: instructions and bytes undo one another. Conditions: as each states. -/
import Derived.Test.YtnhianjjhkjeoaaB3
import Derived.Test.YtnhianjjhkjeoaaPx15
namespace Go.Proofs.Ytnhianjjhkjeoaa.Pure
open Go.RowKit Go.Proofs.Ytnhianjjhkjeoaa.P Go.Proofs.Ytnhianjjhkjeoaa.O Go.Proofs.YtnhianjjhkjeoaaW.PrintWords Go.Proofs.YtnhianjjhkjeoaaW.PrintLast Go.Proofs.YtnhianjjhkjeoaaW.PrintMore

theorem bytes1_inst (c0 c1 c2 c3 c4 c5 c6 c7 c8 : Int) (b0 : isByte c0) (b1 : isByte c1) (b2 : isByte c2) (b3 : isByte c3) (b4 : isByte c4) (b5 : isByte c5) (b6 : isByte c6) (b7 : isByte c7) (b8 : isByte c8) :
    bytes1 ⟨c0, c1, c2, c3, c4, c5 * 16777216 + c6 * 65536 + c7 * 256 + c8⟩ = [c0, c1, c2, c3, c4, c5, c6, c7, c8] := by
  obtain ⟨p0, q0⟩ := b0
  obtain ⟨p1, q1⟩ := b1
  obtain ⟨p2, q2⟩ := b2
  obtain ⟨p3, q3⟩ := b3
  obtain ⟨p4, q4⟩ := b4
  obtain ⟨p5, q5⟩ := b5
  obtain ⟨p6, q6⟩ := b6
  obtain ⟨p7, q7⟩ := b7
  obtain ⟨p8, q8⟩ := b8
  have m (x : Int) (h0 : 0 ≤ x) (h1 : x < 256) : x % 256 = x := Int.emod_eq_of_lt h0 h1
  unfold bytes1
  simp only
  rw [m c0 p0 q0, m c1 p1 q1, m c2 p2 q2, m c3 p3 q3, m c4 p4 q4]
  have e5 : (c5 * 16777216 + c6 * 65536 + c7 * 256 + c8) / 16777216 % 256 = c5 := by omega
  have e6 : (c5 * 16777216 + c6 * 65536 + c7 * 256 + c8) / 65536 % 256 = c6 := by omega
  have e7 : (c5 * 16777216 + c6 * 65536 + c7 * 256 + c8) / 256 % 256 = c7 := by omega
  have e8 : (c5 * 16777216 + c6 * 65536 + c7 * 256 + c8) % 256 = c8 := by omega
  rw [e5, e6, e7, e8]
/-- Bytes that are instructions give them, and these give the bytes; others give what is wrong. -/
theorem of_bytes : ∀ (n : Nat) (b : List Int) (acc : List S31), b.length = 9 * n → (∀ c ∈ b, isByte c) →
    (∃ ms : List S31, ofFrom acc b = (acc ++ ms, 0) ∧ ms.length = n ∧ ∀ acc2, bytesFrom acc2 ms = (acc2 ++ b, 0)) ∨ ofFrom acc b = ([], 6)
  | 0, b, acc, hn, hb => by
    obtain rfl : b = [] := List.eq_nil_of_length_eq_zero (by omega)
    exact .inl ⟨[], by simp [ofFrom], rfl, fun acc2 => by simp [bytesFrom]⟩
  | n + 1, b, acc, hn, hb => by
    obtain ⟨c0, c1, c2, c3, c4, c5, c6, c7, c8, r, rfl⟩ := nine (b := b) (by omega)
    have hr : r.length = 9 * n := by simp at hn; omega
    have hrb : ∀ c ∈ r, isByte c := fun c hc => hb c (by simp [hc])
    have hx := bytes1_inst c0 c1 c2 c3 c4 c5 c6 c7 c8 (hb c0 (by simp)) (hb c1 (by simp)) (hb c2 (by simp)) (hb c3 (by simp)) (hb c4 (by simp)) (hb c5 (by simp)) (hb c6 (by simp)) (hb c7 (by simp)) (hb c8 (by simp))
    unfold ofFrom
    cases hr2 : right ⟨c0, c1, c2, c3, c4, c5 * 16777216 + c6 * 65536 + c7 * 256 + c8⟩ with
    | false => exact .inr (by simp)
    | true =>
      simp only [if_true]
      rcases of_bytes n r (acc ++ [⟨c0, c1, c2, c3, c4, c5 * 16777216 + c6 * 65536 + c7 * 256 + c8⟩]) hr hrb with ⟨ms, h1, h2, h3⟩ | h
      · refine .inl ⟨⟨c0, c1, c2, c3, c4, c5 * 16777216 + c6 * 65536 + c7 * 256 + c8⟩ :: ms, by rw [h1]; simp, by simp [h2], fun acc2 => ?_⟩
        unfold bytesFrom
        rw [if_pos hr2, h3, hx]
        simp
      · exact .inr h
theorem right_range (x : S31) (h : right x = true) : isByte x.f0 ∧ isByte x.f1 ∧ isByte x.f2 ∧ isByte x.f3 ∧ isByte x.f4 := by
  unfold right rightB rightTail okReg okOp at h
  simp only [Bool.and_eq_true, decide_eq_true_eq] at h
  obtain ⟨h0, ⟨h1, _⟩, ⟨h2, _⟩, ⟨h3, _⟩, h4, _⟩ := h
  unfold isByte
  have h5 : 0 ≤ x.f1 ∧ x.f1 ≤ 10 := by
    split at h4
    · simp only [decide_eq_true_eq] at h4
      omega
    · have : x.f1 = 0 := by simpa using h4
      omega
  omega
theorem inst_bytes1 (x : S31) (h : right x = true) (hw : Wf31 x) : (∀ c ∈ bytes1 x, isByte c) ∧ ∃ c5 c6 c7 c8, bytes1 x = [x.f0, x.f1, x.f2, x.f3, x.f4, c5, c6, c7, c8] ∧ c5 * 16777216 + c6 * 65536 + c7 * 256 + c8 = x.f5 := by
  obtain ⟨h0, h1, h2, h3, h4⟩ := right_range x h
  obtain ⟨n0, n1⟩ := wf_u32 hw.2.2.2.2.2
  have m (x : Int) (h : isByte x) : x % 256 = x := Int.emod_eq_of_lt h.1 h.2
  refine ⟨?_, x.f5 / 16777216 % 256, x.f5 / 65536 % 256, x.f5 / 256 % 256, x.f5 % 256, ?_, by omega⟩
  · intro c hc
    simp only [bytes1, List.mem_cons, List.not_mem_nil, or_false] at hc
    unfold isByte
    rcases hc with rfl | rfl | rfl | rfl | rfl | rfl | rfl | rfl | rfl <;> omega
  · unfold bytes1
    rw [m _ h0, m _ h1, m _ h2, m _ h3, m _ h4]
/-- The bytes of instructions that may be are read as these. -/
theorem bytes_of : ∀ (ys : List S31) (acc : List Int), (∀ y ∈ ys, Wf31 y) → (bytesFrom acc ys).2 = 0 →
    ∃ b, (∀ acc2, bytesFrom acc2 ys = (acc2 ++ b, 0)) ∧ b.length = 9 * ys.length ∧ (∀ c ∈ b, isByte c) ∧ ∀ acc2, ofFrom acc2 b = (acc2 ++ ys, 0)
  | [], acc, _, _ => ⟨[], fun acc2 => by simp [bytesFrom], rfl, by simp, fun acc2 => by simp [ofFrom]⟩
  | x :: xs, acc, hw, h => by
    unfold bytesFrom at h
    cases hr : right x with
    | false =>
      rw [hr] at h
      simp at h
    | true =>
      rw [hr] at h
      simp only [if_true] at h
      obtain ⟨b, h1, h2, h3, h4⟩ := bytes_of xs _ (fun y hy => hw y (List.mem_cons_of_mem _ hy)) h
      obtain ⟨g1, c5, c6, c7, c8, g2, g3⟩ := inst_bytes1 x hr (hw x List.mem_cons_self)
      refine ⟨bytes1 x ++ b, fun acc2 => ?_, ?_, ?_, fun acc2 => ?_⟩
      · unfold bytesFrom
        rw [if_pos hr, h1]
        simp
      · simp [bytes1, h2]
        omega
      · intro c hc
        rcases List.mem_append.1 hc with hc | hc
        · exact g1 c hc
        · exact h3 c hc
      · rw [g2]
        have hx : (⟨x.f0, x.f1, x.f2, x.f3, x.f4, c5 * 16777216 + c6 * 65536 + c7 * 256 + c8⟩ : S31) = x := by rw [g3]
        simp only [List.cons_append, List.nil_append]
        unfold ofFrom
        rw [hx, if_pos hr, h4]
        simp
theorem bytesFrom_bad : ∀ (ys : List S31) (acc : List Int), (bytesFrom acc ys).2 = 0 ∨ bytesFrom acc ys = ([], 6)
  | [], acc => .inl rfl
  | x :: xs, acc => by
    unfold bytesFrom
    cases hr : right x with
    | false => exact .inr (by simp)
    | true =>
      simp only [if_true]
      exact bytesFrom_bad xs _

end Go.Proofs.Ytnhianjjhkjeoaa.Pure
