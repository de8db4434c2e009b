/- The pure statement of MachParts: the bytes of code are those of its instructions, one behind the other; cut in between both parts are read. Conditions: each number of its kind. -/
import Derived.Test.YtnhianjjhkjeoaaB4
import Derived.Test.YtnhianjjhkjeoaaPx18
namespace Go.Proofs.Ytnhianjjhkjeoaa.Pure
open Go.RowKit Go.Proofs.Ytnhianjjhkjeoaa.P Go.Proofs.Ytnhianjjhkjeoaa.O Go.Proofs.YtnhianjjhkjeoaaW.PrintWords Go.Proofs.YtnhianjjhkjeoaaW.PrintLast Go.Proofs.YtnhianjjhkjeoaaW.PrintMore

theorem all_right : ∀ (ys : List S31) (acc : List Int), (bytesFrom acc ys).2 = 0 → ∀ y ∈ ys, right y = true
  | [], _, _ => by simp
  | x :: xs, acc, h => by
    unfold bytesFrom at h
    cases hr : right x with
    | false =>
      rw [hr] at h
      simp at h
    | true =>
      rw [hr] at h
      simp only [if_true] at h
      intro y hy
      rcases List.mem_cons.1 hy with rfl | hy
      · exact hr
      · exact all_right xs _ h y hy
theorem flat_of : ∀ (ys : List S31) (acc : List Int), (∀ y ∈ ys, right y = true) → bytesFrom acc ys = (acc ++ ys.flatMap bytes1, 0)
  | [], acc, _ => by simp [bytesFrom]
  | x :: xs, acc, h => by
    unfold bytesFrom
    rw [if_pos (h x List.mem_cons_self), flat_of xs _ (fun y hy => h y (List.mem_cons_of_mem _ hy))]
    simp
theorem flat_len : ∀ ys : List S31, (ys.flatMap bytes1).length = 9 * ys.length
  | [] => rfl
  | x :: xs => by
    rw [List.flatMap_cons, List.length_append, flat_len xs]
    simp [bytes1]
    omega
theorem str_append (a b : List Int) : strOfNums a ++ strOfNums b = strOfNums (a ++ b) := by
  apply ByteArray.ext
  simp [strOfNums]
theorem MachParts (l0 : List S31) (a1 : Int) (hw : ∀ y ∈ l0, Wf31 y) (_ : l0.length ≤ 9223372036854775807) (h1 : (Lit.int .i64 a1).wf = true) : ∃ k, carlinglaw13_MachParts.f k l0 a1 = some true := by
  obtain ⟨v0, v1⟩ := wf_i64 h1
  apply Ends.get
  unfold carlinglaw13_MachParts.f
  refine Ends.bind awake_ends ?_
  have j_true : Ends (fun k => carlinglaw13_MachParts.j0 k l0 a1 true true) true := by
    apply Ends.succ
    simp only [carlinglaw13_MachParts.j0, if_true]
    exact Ends.const _
  by_cases h : (l0.length : Int) > 1000
  · exact Ends.pos h j_true
  refine Ends.neg h ?_
  by_cases h2 : a1 < 0
  · rw [decide_eq_true h2]
    exact j_true
  rw [decide_eq_false h2]
  apply Ends.succ
  simp only [carlinglaw13_MachParts.j0, Bool.false_eq_true, if_false, if_true]
  refine Ends.bind (bytes_ends l0 (by omega)) ?_
  rcases bytesFrom_bad l0 [] with hz | hz
  · have hall := all_right l0 [] hz
    have e0 := flat_of l0 [] hall
    rw [e0]
    simp only [List.nil_append]
    have hl := flat_len l0
    have w1 : wrap64 ((l0.length : Int) + 1) = (l0.length : Int) + 1 := wrap_small (by omega) (by omega)
    have w2 : wrap64 (9 * (l0.length : Int)) = 9 * (l0.length : Int) := wrap_small (by omega) (by omega)
    rw [w1, w2, Int.tmod_eq_emod_of_nonneg (by omega)]
    have k0 : 0 ≤ a1 % ((l0.length : Int) + 1) := Int.emod_nonneg _ (by omega)
    have k1 : a1 % ((l0.length : Int) + 1) < (l0.length : Int) + 1 := Int.emod_lt_of_pos _ (by omega)
    obtain ⟨n, hn⟩ := Int.eq_ofNat_of_zero_le k0
    rw [hn] at k1 ⊢
    have w3 : wrap64 (9 * (n : Int)) = ((9 * n : Nat) : Int) := by rw [wrap_small (by omega) (by omega)]; omega
    rw [w3]
    simp only [Int.toNat_natCast]
    refine Ends.pos trivial (Ends.pos (by omega) (Ends.neg (by omega) (Ends.pos (by omega) (Ends.pos (by omega) ?_))))
    have hT : ∀ y ∈ l0.take n, right y = true := fun y hy => hall y (List.mem_of_mem_take hy)
    have hD : ∀ y ∈ l0.drop n, right y = true := fun y hy => hall y (List.mem_of_mem_drop hy)
    have eT := flat_of (l0.take n) [] hT
    have eD := flat_of (l0.drop n) [] hD
    have hTl : (l0.take n).length = n := by rw [List.length_take]; omega
    refine Ends.bind (bytes_ends (l0.take n) (by rw [hTl]; omega)) (Ends.bind (bytes_ends (l0.drop n) (by rw [List.length_drop]; omega)) ?_)
    rw [eT, eD]
    simp only [List.nil_append]
    have hcat : l0.flatMap bytes1 = (l0.take n).flatMap bytes1 ++ (l0.drop n).flatMap bytes1 := by
      rw [← List.flatMap_append, List.take_append_drop]
    have hcut : (l0.flatMap bytes1).take (9 * n) = (l0.take n).flatMap bytes1 := by
      rw [hcat, List.take_left' (by rw [flat_len, hTl])]
    refine Ends.pos (by omega) (Ends.pos (by omega) ?_)
    rw [hcut]
    obtain ⟨b, g1, g2, g3, g4⟩ := bytes_of (l0.take n) [] (fun y hy => hw y (List.mem_of_mem_take hy)) (by rw [eT])
    have hb : b = (l0.take n).flatMap bytes1 := by
      have := g1 []
      rw [eT] at this
      simpa using this.symm
    subst hb
    have e : ofS ((l0.take n).flatMap bytes1) = (l0.take n, 0) := by
      unfold ofS
      rw [if_neg (by omega), g4 []]
      rfl
    refine Ends.bind (of_ends _ (by rw [flat_len, hTl]; omega) g3) ?_
    rw [e]
    refine Ends.bind (same_ends _ (by rw [hTl]; omega)) ?_
    refine Ends.pos trivial (Ends.pos trivial (Ends.pos rfl (Ends.pos ?_ (Ends.pos ?_ (Ends.const _)))))
    · rw [strOfNums_size, strOfNums_size, flat_len, flat_len, hTl, List.length_drop]
      omega
    · rw [str_append, ← hcat]
  · rw [hz]
    exact Ends.neg (by decide) (Ends.const _)

end Go.Proofs.Ytnhianjjhkjeoaa.Pure
