/- Plain lemmas: what Check comes to, in the program and in the document, and that the law's awake is true. Conditions: as each states. -/
import Derived.Test.YtnhianjjhkjeoaaB1
import Derived.Test.YtnhianjjhkjeoaaPx6
import Derived.Test.YtnhianjjhkjeoaaPx10
namespace Go.Proofs.Ytnhianjjhkjeoaa.Pure
open Go.RowKit Go.Proofs.Ytnhianjjhkjeoaa.P Go.Proofs.Ytnhianjjhkjeoaa.O Go.Proofs.YtnhianjjhkjeoaaW.PrintWords Go.Proofs.YtnhianjjhkjeoaaW.PrintLast Go.Proofs.YtnhianjjhkjeoaaW.PrintMore

/-- What is wrong with instruction i of len, 0: nothing. -/
def chkAt (len cells : Int) (x : S31) (i : Int) : Int :=
  if right x = false then 14
  else if (x.f0 = 4 ∨ x.f0 = 5) ∧ cells ≤ x.f5 then 16
  else if (x.f0 = 6 ∨ x.f0 = 7 ∨ x.f0 = 8) ∧ len ≤ x.f5 then 17
  else if i = len - 1 ∧ x.f0 ≠ 6 ∧ x.f0 ≠ 9 then 18
  else 0
def chkFrom (len cells : Int) : Int → List S31 → Int × Int
  | _, [] => (0, -1)
  | i, x :: xs => if chkAt len cells x i = 0 then chkFrom len cells (i + 1) xs else (chkAt len cells x i, i)
def chk (l : List S31) (cells : Int) : Int × Int :=
  if l.length = 0 ∨ 20000 < l.length ∨ cells < 0 ∨ 4096 < cells then (6, -1) else chkFrom l.length cells 0 l
theorem drop_nil_le {α : Type} {l : List α} {i : Nat} (h : l.drop i = []) : l.length ≤ i := by
  rcases Nat.lt_or_ge i l.length with h1 | h1
  · rw [List.drop_eq_getElem_cons h1] at h
    cases h
  · exact h1
theorem chk_loop (l : List S31) (cells : Int) (hl : l.length ≤ 20000) (hw : ∀ y ∈ l, Wf31 y) : ∀ (ys : List S31) (i : Nat), l.drop i = ys → Ends (fun k => mach_Check.l0 k l cells l (l.length : Int) (i : Int)) (chkFrom l.length cells i ys)
  | [], i, hd => by
    have hi := drop_nil_le hd
    apply Ends.succ
    simp only [mach_Check.l0]
    exact Ends.neg (by omega) (Ends.const _)
  | x :: xs, i, hd => by
    have hi := drop_lt hd
    have hx : Wf31 x := hw x (List.mem_of_mem_drop (i := i) (by rw [hd]; exact List.mem_cons_self))
    obtain ⟨n0, n1⟩ := wf_u32 hx.2.2.2.2.2
    have hn : wrap64 x.f5 = x.f5 := wrap_small (by omega) (by omega)
    have IH := chk_loop l cells hl hw xs (i + 1) (drop_next hd)
    apply Ends.succ
    simp only [mach_Check.l0]
    refine Ends.pos (by omega) (Ends.pos (by omega) (Ends.pos (by omega) ?_))
    rw [rd_drop hd]
    refine Ends.bind (Ends.of_eq (right_eq x)) ?_
    unfold chkFrom
    cases hr : right x with
    | false =>
      simp only [Bool.false_eq_true, if_false, chkAt, hr, if_true]
      exact Ends.const _
    | true =>
      simp only [if_true]
      -- the last tests
      have last : Ends (fun k => mach_Check.j3 k l cells i l l.length i (decide ((x.f0 = 6 ∨ x.f0 = 7 ∨ x.f0 = 8) ∧ (l.length : Int) ≤ x.f5)) x.f0 x.f1 x.f2 x.f3 x.f4 x.f5)
          (if (x.f0 = 6 ∨ x.f0 = 7 ∨ x.f0 = 8) ∧ (l.length : Int) ≤ x.f5 then (17, (i : Int)) else if (i : Int) = l.length - 1 ∧ x.f0 ≠ 6 ∧ x.f0 ≠ 9 then (18, (i : Int)) else chkFrom l.length cells (i + 1 : Nat) xs) := by
        apply Ends.succ
        simp only [mach_Check.j3]
        by_cases h1 : (x.f0 = 6 ∨ x.f0 = 7 ∨ x.f0 = 8) ∧ (l.length : Int) ≤ x.f5
        · rw [if_pos h1]
          exact Ends.pos (decide_eq_true h1) (Ends.const _)
        · rw [if_neg h1]
          refine Ends.neg (by simpa using h1) ?_
          rw [wrap_small (i := (l.length : Int) - 1) (by omega) (by omega), wrap_small (i := (i : Int) + 1) (by omega) (by omega)]
          by_cases h2 : (i : Int) = l.length - 1
          · refine Ends.pos h2 ?_
            by_cases h6 : x.f0 = 6
            · rw [if_neg (by simp [h6])]
              exact Ends.pos h6 IH
            · refine Ends.neg h6 ?_
              by_cases h9 : x.f0 = 9
              · rw [if_neg (by simp [h9])]
                exact Ends.pos h9 IH
              · rw [if_pos ⟨h2, h6, h9⟩]
                exact Ends.neg h9 (Ends.const _)
          · rw [if_neg (fun h => h2 h.1)]
            exact Ends.neg h2 IH
      have mid : Ends (fun k => mach_Check.j2 k l cells i l l.length i (decide ((x.f0 = 4 ∨ x.f0 = 5) ∧ cells ≤ x.f5)) x.f0 x.f1 x.f2 x.f3 x.f4 x.f5)
          (if (x.f0 = 4 ∨ x.f0 = 5) ∧ cells ≤ x.f5 then (16, (i : Int)) else if (x.f0 = 6 ∨ x.f0 = 7 ∨ x.f0 = 8) ∧ (l.length : Int) ≤ x.f5 then (17, (i : Int)) else if (i : Int) = l.length - 1 ∧ x.f0 ≠ 6 ∧ x.f0 ≠ 9 then (18, (i : Int)) else chkFrom l.length cells (i + 1 : Nat) xs) := by
        apply Ends.succ
        simp only [mach_Check.j2]
        by_cases h1 : (x.f0 = 4 ∨ x.f0 = 5) ∧ cells ≤ x.f5
        · rw [if_pos h1]
          exact Ends.pos (decide_eq_true h1) (Ends.const _)
        · rw [if_neg h1]
          refine Ends.neg (by simpa using h1) ?_
          rw [hn]
          by_cases h6 : x.f0 = 6
          · refine Ends.pos h6 ?_
            simpa [h6] using last
          · refine Ends.neg h6 ?_
            by_cases h7 : x.f0 = 7
            · refine Ends.pos h7 ?_
              simpa [h7] using last
            · refine Ends.neg h7 ?_
              by_cases h8 : x.f0 = 8
              · refine Ends.pos h8 ?_
                simpa [h8] using last
              · refine Ends.neg h8 ?_
                simpa [h6, h7, h8] using last
      have hres : (if chkAt l.length cells x i = 0 then chkFrom l.length cells (i + 1) xs else (chkAt l.length cells x i, (i : Int))) =
          (if (x.f0 = 4 ∨ x.f0 = 5) ∧ cells ≤ x.f5 then (16, (i : Int)) else if (x.f0 = 6 ∨ x.f0 = 7 ∨ x.f0 = 8) ∧ (l.length : Int) ≤ x.f5 then (17, (i : Int)) else if (i : Int) = l.length - 1 ∧ x.f0 ≠ 6 ∧ x.f0 ≠ 9 then (18, (i : Int)) else chkFrom l.length cells (i + 1 : Nat) xs) := by
        unfold chkAt
        rw [if_neg (show ¬ right x = false by simp [hr])]
        by_cases q1 : (x.f0 = 4 ∨ x.f0 = 5) ∧ cells ≤ x.f5
        · simp [q1]
        · simp only [q1, if_false]
          by_cases q2 : (x.f0 = 6 ∨ x.f0 = 7 ∨ x.f0 = 8) ∧ (l.length : Int) ≤ x.f5
          · simp [q2]
          · simp only [q2, if_false]
            by_cases q3 : (i : Int) = l.length - 1 ∧ x.f0 ≠ 6 ∧ x.f0 ≠ 9
            · simp [q3]
            · simp only [q3, if_false, if_true]
              rfl
      rw [hres]
      rw [hn]
      by_cases h4 : x.f0 = 4
      · refine Ends.pos h4 ?_
        simpa [h4] using mid
      · refine Ends.neg h4 ?_
        by_cases h5 : x.f0 = 5
        · refine Ends.pos h5 ?_
          simpa [h5] using mid
        · refine Ends.neg h5 ?_
          simpa [h4, h5] using mid
theorem chk_ends (l : List S31) (cells : Int) (hw : ∀ y ∈ l, Wf31 y) : Ends (fun k => mach_Check.f k l cells) (chk l cells) := by
  have j_true : Ends (fun k => mach_Check.j0 k l cells true) (6, -1) := by
    apply Ends.succ
    simp only [mach_Check.j0, if_true]
    exact Ends.const _
  unfold mach_Check.f chk
  by_cases h1 : (l.length : Int) = 0
  · rw [if_pos (.inl (by omega))]
    exact Ends.pos h1 j_true
  refine Ends.neg h1 ?_
  by_cases h2 : (l.length : Int) > 20000
  · rw [if_pos (.inr (.inl (by omega)))]
    exact Ends.pos h2 j_true
  refine Ends.neg h2 ?_
  by_cases h3 : cells < 0
  · rw [if_pos (.inr (.inr (.inl h3)))]
    exact Ends.pos h3 j_true
  refine Ends.neg h3 ?_
  by_cases h4 : cells > 4096
  · rw [if_pos (.inr (.inr (.inr h4))), decide_eq_true h4]
    exact j_true
  · rw [if_neg (by omega), decide_eq_false h4]
    apply Ends.succ
    simp only [mach_Check.j0, Bool.false_eq_true, if_false]
    exact chk_loop l cells (by omega) hw l 0 rfl

theorem u64_small {a : Int} (h0 : 0 ≤ a) (h1 : a < 18446744073709551616) : IntKind.u64.wrap a = a := by
  rw [IntKind.wrap_u64]
  omega
theorem ref_chk_loop (l : List S31) (cells : Int) (hl : l.length ≤ 20000) (hc0 : 0 ≤ cells) (hc1 : cells ≤ 4096) (hw : ∀ y ∈ l, Wf31 y) : ∀ (ys : List S31) (i : Nat), l.drop i = ys → Ends (fun k => carlingref13_Check.l0 k l cells (i : Int)) (chkFrom l.length cells i ys)
  | [], i, hd => by
    have hi := drop_nil_le hd
    apply Ends.succ
    simp only [carlingref13_Check.l0]
    exact Ends.neg (by omega) (Ends.const _)
  | x :: xs, i, hd => by
    have hi := drop_lt hd
    have hx : Wf31 x := hw x (List.mem_of_mem_drop (i := i) (by rw [hd]; exact List.mem_cons_self))
    obtain ⟨n0, n1⟩ := wf_u32 hx.2.2.2.2.2
    have hn : IntKind.u64.wrap x.f5 = x.f5 := u64_small (by omega) (by omega)
    have hc : IntKind.u64.wrap cells = cells := u64_small (by omega) (by omega)
    have hlen : IntKind.u64.wrap (l.length : Int) = l.length := u64_small (by omega) (by omega)
    have IH := ref_chk_loop l cells hl hc0 hc1 hw xs (i + 1) (drop_next hd)
    apply Ends.succ
    simp only [carlingref13_Check.l0]
    refine Ends.pos (by omega) (Ends.pos (by omega) ?_)
    rw [rd_drop hd]
    refine Ends.bind (ref_right x) ?_
    unfold chkFrom
    cases hr : right x with
    | false =>
      simp only [Bool.false_eq_true, if_false, chkAt, hr, if_true]
      exact Ends.const _
    | true =>
      simp only [if_true]
      have last : Ends (fun k => carlingref13_Check.j3 k l cells i (decide ((x.f0 = 6 ∨ x.f0 = 7 ∨ x.f0 = 8) ∧ (l.length : Int) ≤ x.f5)) x.f0 x.f1 x.f2 x.f3 x.f4 x.f5)
          (if (x.f0 = 6 ∨ x.f0 = 7 ∨ x.f0 = 8) ∧ (l.length : Int) ≤ x.f5 then (17, (i : Int)) else if (i : Int) = l.length - 1 ∧ x.f0 ≠ 6 ∧ x.f0 ≠ 9 then (18, (i : Int)) else chkFrom l.length cells (i + 1 : Nat) xs) := by
        apply Ends.succ
        simp only [carlingref13_Check.j3]
        by_cases h1 : (x.f0 = 6 ∨ x.f0 = 7 ∨ x.f0 = 8) ∧ (l.length : Int) ≤ x.f5
        · rw [if_pos h1]
          exact Ends.pos (decide_eq_true h1) (Ends.const _)
        · rw [if_neg h1]
          refine Ends.neg (by simpa using h1) ?_
          rw [wrap_small (i := (l.length : Int) - 1) (by omega) (by omega), wrap_small (i := (i : Int) + 1) (by omega) (by omega)]
          by_cases h2 : (i : Int) = l.length - 1
          · refine Ends.pos h2 ?_
            by_cases h6 : x.f0 = 6
            · rw [if_neg (by simp [h6])]
              exact Ends.pos h6 IH
            · refine Ends.neg h6 ?_
              by_cases h9 : x.f0 = 9
              · rw [if_neg (by simp [h9])]
                exact Ends.pos h9 IH
              · rw [if_pos ⟨h2, h6, h9⟩]
                exact Ends.neg h9 (Ends.const _)
          · rw [if_neg (fun h => h2 h.1)]
            exact Ends.neg h2 IH
      have mid : Ends (fun k => carlingref13_Check.j2 k l cells i (decide ((x.f0 = 4 ∨ x.f0 = 5) ∧ cells ≤ x.f5)) x.f0 x.f1 x.f2 x.f3 x.f4 x.f5)
          (if (x.f0 = 4 ∨ x.f0 = 5) ∧ cells ≤ x.f5 then (16, (i : Int)) else if (x.f0 = 6 ∨ x.f0 = 7 ∨ x.f0 = 8) ∧ (l.length : Int) ≤ x.f5 then (17, (i : Int)) else if (i : Int) = l.length - 1 ∧ x.f0 ≠ 6 ∧ x.f0 ≠ 9 then (18, (i : Int)) else chkFrom l.length cells (i + 1 : Nat) xs) := by
        apply Ends.succ
        simp only [carlingref13_Check.j2]
        by_cases h1 : (x.f0 = 4 ∨ x.f0 = 5) ∧ cells ≤ x.f5
        · rw [if_pos h1]
          exact Ends.pos (decide_eq_true h1) (Ends.const _)
        · rw [if_neg h1]
          refine Ends.neg (by simpa using h1) ?_
          rw [hn, hlen]
          by_cases h6 : x.f0 ≥ 6
          · refine Ends.pos h6 ?_
            by_cases h8 : x.f0 ≤ 8
            · refine Ends.pos h8 ?_
              have hq : (x.f0 = 6 ∨ x.f0 = 7 ∨ x.f0 = 8) := by omega
              simpa [hq] using last
            · refine Ends.neg h8 ?_
              have hq : ¬ (x.f0 = 6 ∨ x.f0 = 7 ∨ x.f0 = 8) := by omega
              simpa [hq] using last
          · refine Ends.neg h6 ?_
            have hq : ¬ (x.f0 = 6 ∨ x.f0 = 7 ∨ x.f0 = 8) := by omega
            simpa [hq] using last
      have hres : (if chkAt l.length cells x i = 0 then chkFrom l.length cells (i + 1) xs else (chkAt l.length cells x i, (i : Int))) =
          (if (x.f0 = 4 ∨ x.f0 = 5) ∧ cells ≤ x.f5 then (16, (i : Int)) else if (x.f0 = 6 ∨ x.f0 = 7 ∨ x.f0 = 8) ∧ (l.length : Int) ≤ x.f5 then (17, (i : Int)) else if (i : Int) = l.length - 1 ∧ x.f0 ≠ 6 ∧ x.f0 ≠ 9 then (18, (i : Int)) else chkFrom l.length cells (i + 1 : Nat) xs) := by
        unfold chkAt
        rw [if_neg (show ¬ right x = false by simp [hr])]
        by_cases q1 : (x.f0 = 4 ∨ x.f0 = 5) ∧ cells ≤ x.f5
        · simp [q1]
        · simp only [q1, if_false]
          by_cases q2 : (x.f0 = 6 ∨ x.f0 = 7 ∨ x.f0 = 8) ∧ (l.length : Int) ≤ x.f5
          · simp [q2]
          · simp only [q2, if_false]
            by_cases q3 : (i : Int) = l.length - 1 ∧ x.f0 ≠ 6 ∧ x.f0 ≠ 9
            · simp [q3]
            · simp only [q3, if_false, if_true]
              rfl
      rw [hres, hn, hc]
      by_cases h4 : x.f0 = 4
      · refine Ends.pos h4 ?_
        simpa [h4] using mid
      · refine Ends.neg h4 ?_
        by_cases h5 : x.f0 = 5
        · refine Ends.pos h5 ?_
          simpa [h5] using mid
        · refine Ends.neg h5 ?_
          simpa [h4, h5] using mid
theorem ref_chk_ends (l : List S31) (cells : Int) (hw : ∀ y ∈ l, Wf31 y) : Ends (fun k => carlingref13_Check.f k l cells) (chk l cells) := by
  have j_true : Ends (fun k => carlingref13_Check.j0 k l cells true) (6, -1) := by
    apply Ends.succ
    simp only [carlingref13_Check.j0, if_true]
    exact Ends.const _
  unfold carlingref13_Check.f chk
  by_cases h1 : (l.length : Int) = 0
  · rw [if_pos (.inl (by omega))]
    exact Ends.pos h1 j_true
  refine Ends.neg h1 ?_
  by_cases h2 : (l.length : Int) > 20000
  · rw [if_pos (.inr (.inl (by omega)))]
    exact Ends.pos h2 j_true
  refine Ends.neg h2 ?_
  by_cases h3 : cells < 0
  · rw [if_pos (.inr (.inr (.inl h3)))]
    exact Ends.pos h3 j_true
  refine Ends.neg h3 ?_
  by_cases h4 : cells > 4096
  · rw [if_pos (.inr (.inr (.inr h4))), decide_eq_true h4]
    exact j_true
  · rw [if_neg (by omega), decide_eq_false h4]
    apply Ends.succ
    simp only [carlingref13_Check.j0, Bool.false_eq_true, if_false]
    exact ref_chk_loop l cells (by omega) (by omega) (by omega) hw l 0 rfl

/-! awake -/
theorem wf_at {k op d a b n : Int} (h : decide (-1000 ≤ k ∧ k ≤ 1000 ∧ -1000 ≤ op ∧ op ≤ 1000 ∧ -1000 ≤ d ∧ d ≤ 1000 ∧ -1000 ≤ a ∧ a ≤ 1000 ∧ -1000 ≤ b ∧ b ≤ 1000 ∧ 0 ≤ n ∧ n ≤ 1000) = true) : Wf31 ⟨k, op, d, a, b, n⟩ := by
  have h' := of_decide_eq_true h
  refine ⟨?_, ?_, ?_, ?_, ?_, ?_⟩ <;> (simp only [Lit.wf, Bool.and_eq_true, decide_eq_true_eq]; have hmin : IntKind.i64.min = -9223372036854775808 := rfl; have hmax : IntKind.i64.max = 9223372036854775807 := rfl; have hmin' : IntKind.u32.min = 0 := rfl; have hmax' : IntKind.u32.max = 4294967295 := rfl; omega)
theorem awake_ends : Ends (fun k => carlinglaw13_awake.f k) true := by
  unfold carlinglaw13_awake.f
  refine Ends.bind (bytes_ends _ (by simp)) (Ends.bind (chk_ends _ 0 ?_) ?_)
  · intro y hy
    rw [List.mem_singleton.1 hy]
    exact wf_at (by decide)
  · have h1 : bytesFrom [] [(⟨3, 1, 1, 2, 3, 0⟩ : S31)] = ([3, 1, 1, 2, 3, 0, 0, 0, 0], 0) := by decide
    have h2 : chk [(⟨9, 0, 0, 0, 0, 0⟩ : S31)] 0 = (0, -1) := by decide
    rw [h1, h2]
    refine Ends.pos rfl (Ends.pos (by decide +kernel) (Ends.pos rfl (Ends.const _)))
end Go.Proofs.Ytnhianjjhkjeoaa.Pure
