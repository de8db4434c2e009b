/- The pure statement of MachOf: the instructions of any bytes are what the document says. Conditions: bytes. -/
import Derived.Test.YtnhianjjhkjeoaaB3
import Derived.Test.YtnhianjjhkjeoaaPx16
namespace Go.Proofs.Ytnhianjjhkjeoaa.Pure
open Go.RowKit Go.Proofs.Ytnhianjjhkjeoaa.P Go.Proofs.Ytnhianjjhkjeoaa.O Go.Proofs.YtnhianjjhkjeoaaW.PrintWords Go.Proofs.YtnhianjjhkjeoaaW.PrintLast Go.Proofs.YtnhianjjhkjeoaaW.PrintMore

theorem rd_at {l b : List Int} {i : Nat} (h : l.drop i = b) (j : Nat) (hj : (i : Int) + j ≤ 1000000000) : rd l (wrap64 ((i : Int) + j)) = b.getD j 0 := by
  rw [wrap_small (by omega) (by omega)]
  unfold rd
  rw [show ((i : Int) + j).toNat = i + j by omega, ← h, List.getD_eq_getElem?_getD, List.getD_eq_getElem?_getD, List.getElem?_drop]
theorem sum4 (a b c d : Int) (ha : isByte a) (hb : isByte b) (hc : isByte c) (hd : isByte d) : ((((((((a % 4294967296) * 16777216) % 4294967296) + (((b % 4294967296) * 65536) % 4294967296)) % 4294967296) + (((c % 4294967296) * 256) % 4294967296)) % 4294967296) + (d % 4294967296)) % 4294967296 = a * 16777216 + b * 65536 + c * 256 + d := by
  obtain ⟨a0, a1⟩ := ha
  obtain ⟨b0, b1⟩ := hb
  obtain ⟨c0, c1⟩ := hc
  obtain ⟨d0, d1⟩ := hd
  have m (x : Int) (h0 : 0 ≤ x) (h1 : x < 4294967296) : x % 4294967296 = x := Int.emod_eq_of_lt h0 h1
  rw [m a (by omega) (by omega), m b (by omega) (by omega), m c (by omega) (by omega), m d (by omega) (by omega), m (a * 16777216) (by omega) (by omega), m (b * 65536) (by omega) (by omega), m (c * 256) (by omega) (by omega), m (a * 16777216 + b * 65536) (by omega) (by omega), m (a * 16777216 + b * 65536 + c * 256) (by omega) (by omega), m (a * 16777216 + b * 65536 + c * 256 + d) (by omega) (by omega)]
set_option maxHeartbeats 1000000 in
theorem ref_of_loop (l : List Int) (hl : l.length ≤ 1000000) (hb : ∀ c ∈ l, isByte c) : ∀ (n : Nat) (b : List Int) (acc : List S31) (i : Nat), b.length = 9 * n → l.drop i = b → acc.length + n ≤ 1000000 → Ends (fun k => carlingref13_Of.l0 k l acc (i : Int)) (ofFrom acc b)
  | 0, b, acc, i, hn, hd, ha => by
    obtain rfl : b = [] := List.eq_nil_of_length_eq_zero (by omega)
    have hi := drop_nil_le hd
    apply Ends.succ
    simp only [carlingref13_Of.l0]
    exact Ends.neg (by omega) (Ends.const _)
  | n + 1, b, acc, i, hn, hd, ha => by
    have hil : l.length = i + b.length := by
      have h1 := congrArg List.length hd
      rw [List.length_drop] at h1
      omega
    have hmem : ∀ c ∈ b, isByte c := fun c hc => hb c (List.mem_of_mem_drop (i := i) (by rw [hd]; exact hc))
    obtain ⟨c0, c1, c2, c3, c4, c5, c6, c7, c8, r, rfl⟩ := nine (b := b) (by omega)
    have b0 : isByte c0 := hmem c0 (by simp)
    have b1 : isByte c1 := hmem c1 (by simp)
    have b2 : isByte c2 := hmem c2 (by simp)
    have b3 : isByte c3 := hmem c3 (by simp)
    have b4 : isByte c4 := hmem c4 (by simp)
    obtain ⟨p5, q5⟩ : isByte c5 := hmem c5 (by simp)
    obtain ⟨p6, q6⟩ : isByte c6 := hmem c6 (by simp)
    obtain ⟨p7, q7⟩ : isByte c7 := hmem c7 (by simp)
    obtain ⟨p8, q8⟩ : isByte c8 := hmem c8 (by simp)
    have hr : r.length = 9 * n := by simp at hn; omega
    have hil2 : l.length = i + (r.length + 9) := by simp at hil; omega
    have hdr : l.drop (i + 9) = r := by
      rw [← List.drop_drop, hd]
      rfl
    have e0 : rd l (i : Int) = c0 := by
      have h := rd_at hd 0 (by omega)
      rw [wrap_small (by omega) (by omega)] at h
      simpa using h
    have e1 : rd l (wrap64 ((i : Int) + 1)) = c1 := rd_at hd 1 (by omega)
    have e2 : rd l (wrap64 ((i : Int) + 2)) = c2 := rd_at hd 2 (by omega)
    have e3 : rd l (wrap64 ((i : Int) + 3)) = c3 := rd_at hd 3 (by omega)
    have e4 : rd l (wrap64 ((i : Int) + 4)) = c4 := rd_at hd 4 (by omega)
    have e5 : rd l (wrap64 ((i : Int) + 5)) = c5 := rd_at hd 5 (by omega)
    have e6 : rd l (wrap64 ((i : Int) + 6)) = c6 := rd_at hd 6 (by omega)
    have e7 : rd l (wrap64 ((i : Int) + 7)) = c7 := rd_at hd 7 (by omega)
    have e8 : rd l (wrap64 ((i : Int) + 8)) = c8 := rd_at hd 8 (by omega)
    apply Ends.succ
    simp only [carlingref13_Of.l0]
    rw [e0, e1, e2, e3, e4, e5, e6, e7, e8]
    rw [byte_wrap b0, byte_wrap b1, byte_wrap b2, byte_wrap b3, byte_wrap b4]
    rw [sum4 c5 c6 c7 c8 ⟨p5, q5⟩ ⟨p6, q6⟩ ⟨p7, q7⟩ ⟨p8, q8⟩]
    rw [wrap_small (i := (i : Int) + 1) (by omega) (by omega), wrap_small (i := (i : Int) + 2) (by omega) (by omega), wrap_small (i := (i : Int) + 3) (by omega) (by omega), wrap_small (i := (i : Int) + 4) (by omega) (by omega), wrap_small (i := (i : Int) + 5) (by omega) (by omega), wrap_small (i := (i : Int) + 6) (by omega) (by omega), wrap_small (i := (i : Int) + 7) (by omega) (by omega), wrap_small (i := (i : Int) + 8) (by omega) (by omega), wrap_small (i := (i : Int) + 9) (by omega) (by omega)]
    iterate 18 refine Ends.pos (by omega) ?_
    refine Ends.bind (ref_right ⟨c0, c1, c2, c3, c4, c5 * 16777216 + c6 * 65536 + c7 * 256 + c8⟩) ?_
    unfold ofFrom
    cases hr2 : right ⟨c0, c1, c2, c3, c4, c5 * 16777216 + c6 * 65536 + c7 * 256 + c8⟩ with
    | false =>
      simp only [Bool.false_eq_true, if_false]
      exact Ends.const _
    | true =>
      simp only [if_true]
      refine Ends.pos (by omega) ?_
      exact ref_of_loop l hl hb n r _ (i + 9) hr hdr (by simp; omega)
theorem ref_of_ends (b : List Int) (hl : b.length ≤ 1000000) (hb : ∀ c ∈ b, isByte c) : Ends (fun k => carlingref13_Of.f k b) (ofS b) := by
  unfold carlingref13_Of.f ofS
  by_cases h : (b.length : Int) % 9 = 0
  · rw [if_neg (by omega)]
    exact Ends.pos h (ref_of_loop b hl hb (b.length / 9) b [] 0 (by omega) rfl (by simp; omega))
  · rw [if_pos (by omega)]
    exact Ends.neg h (Ends.const _)
theorem MachOf (l0 : List Int) (hw : ∀ y ∈ l0, (Lit.int .u8 y).wf = true) (_ : l0.length ≤ 9223372036854775807) : ∃ k, carlinglaw13_MachOf.f k l0 = some true := by
  have hb : ∀ c ∈ l0, isByte c := fun c hc => wf_u8 (hw c hc)
  apply Ends.get
  unfold carlinglaw13_MachOf.f
  refine Ends.bind awake_ends ?_
  by_cases h : (l0.length : Int) > 20000
  · exact Ends.pos h (Ends.const _)
  · refine Ends.neg h (Ends.bind (of_ends l0 (by omega) hb) (Ends.bind (ref_of_ends l0 (by omega) hb) (Ends.bind (same_ends _ ?_) (Ends.pos rfl (Ends.pos rfl ?_)))))
    · have := ofS_len l0
      omega
    · simpa using Ends.const true

end Go.Proofs.Ytnhianjjhkjeoaa.Pure
