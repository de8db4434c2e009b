/- Instructions opened: a slice of instructions that came in is told as a list of them, each number of its own kind. No condition but what each theorem states. -/
import Derived.Test.YtnhianjjhkjeoaaO1
namespace Go.Proofs.Ytnhianjjhkjeoaa.O
open Go.RowKit Go.Proofs.Ytnhianjjhkjeoaa.P Go.Proofs.YtnhianjjhkjeoaaW.PrintWords Go.Proofs.YtnhianjjhkjeoaaW.PrintLast Go.Proofs.YtnhianjjhkjeoaaW.PrintMore
/-- The numbers of an instruction are of their kinds. -/
def Wf31 (x : S31) : Prop := (Lit.int .i64 x.f0).wf = true ∧ (Lit.int .i64 x.f1).wf = true ∧ (Lit.int .i64 x.f2).wf = true ∧ (Lit.int .i64 x.f3).wf = true ∧ (Lit.int .i64 x.f4).wf = true ∧ (Lit.int .u32 x.f5).wf = true
theorem cells31 : Try.prog.cellsOf 31 = 6 := by kernel_rfl
theorem cells3 : Try.prog.cellsOf 3 = 1 := by kernel_rfl
theorem cells29 : Try.prog.cellsOf 29 = 1 := by kernel_rfl
theorem cells5 : Try.prog.cellsOf 5 = 1 := by kernel_rfl
section
variable {H : Type} {enc : TypeId × Value → H} {w : World} {base : Nat} {spare : Nat → Bool} {held : Bool}
theorem opens31 (n : Nat) : Opens enc Try.prog w base spare held n 31 k31 Wf31 := fun cs x h => by
  obtain ⟨xs, m, _, _, hl, hxl, hg⟩ := DataW.trod_struct Try.underlying31 h
  rw [cells31] at hl
  match cs, hl with
  | [v0, v1, v2, v3, v4, v5], _ =>
    have g0 : DataW.trod enc Try.prog w base spare held m 3 (([v0, v1, v2, v3, v4, v5].drop 0).take (Try.prog.cellsOf 3)) = xs[0]? := hg 0 _ rfl
    have g1 : DataW.trod enc Try.prog w base spare held m 3 (([v0, v1, v2, v3, v4, v5].drop 1).take (Try.prog.cellsOf 3)) = xs[1]? := hg 1 _ rfl
    have g2 : DataW.trod enc Try.prog w base spare held m 3 (([v0, v1, v2, v3, v4, v5].drop 2).take (Try.prog.cellsOf 3)) = xs[2]? := hg 2 _ rfl
    have g3 : DataW.trod enc Try.prog w base spare held m 3 (([v0, v1, v2, v3, v4, v5].drop 3).take (Try.prog.cellsOf 3)) = xs[3]? := hg 3 _ rfl
    have g4 : DataW.trod enc Try.prog w base spare held m 3 (([v0, v1, v2, v3, v4, v5].drop 4).take (Try.prog.cellsOf 3)) = xs[4]? := hg 4 _ rfl
    have g5 : DataW.trod enc Try.prog w base spare held m 29 (([v0, v1, v2, v3, v4, v5].drop 5).take (Try.prog.cellsOf 29)) = xs[5]? := hg 5 _ rfl
    rw [cells3] at g0 g1 g2 g3 g4
    rw [cells29] at g5
    have hs : xs.length = 6 := hxl
    rw [List.getElem?_eq_getElem (by omega)] at g0 g1 g2 g3 g4 g5
    obtain ⟨n0, e0, _, w0⟩ := DataW.trod_int Try.underlying3 g0
    obtain ⟨n1, e1, _, w1⟩ := DataW.trod_int Try.underlying3 g1
    obtain ⟨n2, e2, _, w2⟩ := DataW.trod_int Try.underlying3 g2
    obtain ⟨n3, e3, _, w3⟩ := DataW.trod_int Try.underlying3 g3
    obtain ⟨n4, e4, _, w4⟩ := DataW.trod_int Try.underlying3 g4
    obtain ⟨n5, e5, _, w5⟩ := DataW.trod_int Try.underlying29 g5
    obtain rfl : v0 = _ := List.singleton_inj.1 e0
    obtain rfl : v1 = _ := List.singleton_inj.1 e1
    obtain rfl : v2 = _ := List.singleton_inj.1 e2
    obtain rfl : v3 = _ := List.singleton_inj.1 e3
    obtain rfl : v4 = _ := List.singleton_inj.1 e4
    obtain rfl : v5 = _ := List.singleton_inj.1 e5
    exact ⟨⟨n0, n1, n2, n3, n4, n5⟩, ⟨w0, w1, w2, w3, w4, w5⟩, k31_mk w ⟨n0, n1, n2, n3, n4, n5⟩⟩
end
end Go.Proofs.Ytnhianjjhkjeoaa.O
