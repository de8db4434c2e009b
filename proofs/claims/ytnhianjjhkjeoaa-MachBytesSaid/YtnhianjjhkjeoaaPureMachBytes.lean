/- The pure statement of MachBytes: which instructions may be, and their bytes, are what the document says. Conditions: each number of its kind. -/
import Derived.Test.YtnhianjjhkjeoaaB2
import Derived.Test.YtnhianjjhkjeoaaPx9
namespace Go.Proofs.Ytnhianjjhkjeoaa.Pure
open Go.RowKit Go.Proofs.Ytnhianjjhkjeoaa.P Go.Proofs.Ytnhianjjhkjeoaa.O Go.Proofs.YtnhianjjhkjeoaaW.PrintWords Go.Proofs.YtnhianjjhkjeoaaW.PrintLast Go.Proofs.YtnhianjjhkjeoaaW.PrintMore

theorem same_loop (l : List S31) (hl : l.length ≤ 1000000) (a : List Int) (e : Int) : ∀ (ys : List S31) (i : Nat), l.drop i = ys → Ends (fun k => carlinglaw13_MachBytes.l0 k l true a e a e (i : Int)) true
  | [], i, hd => by
    have hi := drop_nil_le hd
    apply Ends.succ
    simp only [carlinglaw13_MachBytes.l0]
    refine Ends.neg (by omega) (Ends.pos trivial (Ends.pos trivial ?_))
    simpa using Ends.const true
  | x :: xs, i, hd => by
    have hi := drop_lt hd
    apply Ends.succ
    simp only [carlinglaw13_MachBytes.l0]
    refine Ends.pos (by omega) (Ends.pos (by omega) ?_)
    rw [rd_drop hd]
    refine Ends.bind (Ends.of_eq (right_eq x)) (Ends.bind (ref_right x) (Ends.neg (by simp) ?_))
    rw [wrap_small (by omega) (by omega)]
    exact same_loop l hl a e xs (i + 1) (drop_next hd)
theorem MachBytes (l0 : List S31) (hw : ∀ y ∈ l0, Wf31 y) (_ : l0.length ≤ 9223372036854775807) : ∃ k, carlinglaw13_MachBytes.f k l0 = some true := by
  apply Ends.get
  unfold carlinglaw13_MachBytes.f
  refine Ends.bind awake_ends ?_
  by_cases h : (l0.length : Int) > 3000
  · exact Ends.pos h (Ends.const _)
  · refine Ends.neg h (Ends.bind (bytes_ends l0 (by omega)) (Ends.bind (ref_bytes_ends l0 (by omega) hw) ?_))
    exact same_loop l0 (by omega) _ _ l0 0 rfl

end Go.Proofs.Ytnhianjjhkjeoaa.Pure
