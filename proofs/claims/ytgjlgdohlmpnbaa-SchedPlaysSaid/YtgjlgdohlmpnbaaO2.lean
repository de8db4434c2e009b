/- Jobs opened: a slice of jobs that came in is told as a list of them. No condition but what each theorem states. -/
import Derived.Test.YtgjlgdohlmpnbaaO1
namespace Go.Proofs.Ytgjlgdohlmpnbaa.O
open Go.RowKit Go.Proofs.Ytgjlgdohlmpnbaa.P Go.Proofs.YtgjlgdohlmpnbaaW.PrintWords Go.Proofs.YtgjlgdohlmpnbaaW.PrintLast Go.Proofs.YtgjlgdohlmpnbaaW.PrintMore
/-- The numbers of a job's needs are of their kind. -/
def Wf31 (x : S31) : Prop := x.f0.size ≤ maxLen ∧ ∀ y ∈ x.f1, (Lit.int .i64 y).wf = true
theorem cells31 : Try.prog.cellsOf 31 = 2 := by kernel_rfl
theorem cells3 : Try.prog.cellsOf 3 = 1 := by kernel_rfl
theorem cells9 : Try.prog.cellsOf 9 = 1 := by kernel_rfl
theorem cells25 : Try.prog.cellsOf 25 = 1 := by kernel_rfl
theorem cells35 : Try.prog.cellsOf 35 = 1 := by kernel_rfl
theorem cells4 : Try.prog.cellsOf 4 = 1 := by kernel_rfl
section
variable {H : Type} {enc : TypeId × Value → H} {w : World} {base : Nat} {spare : Nat → Bool} {held : Bool}
theorem opens31 (n : Nat) : Opens enc Try.prog w base spare held n 31 k31 Wf31 := fun cs x h => by
  obtain ⟨xs, m, _, _, hl, hxl, hg⟩ := DataW.trod_struct Try.underlying31 h
  rw [cells31] at hl
  match cs, hl with
  | [v0, v1], _ =>
    have g0 : DataW.trod enc Try.prog w base spare held m 9 (([v0, v1].drop 0).take (Try.prog.cellsOf 9)) = xs[0]? := hg 0 _ rfl
    have g1 : DataW.trod enc Try.prog w base spare held m 25 (([v0, v1].drop (0 + Try.prog.cellsOf 9)).take (Try.prog.cellsOf 25)) = xs[1]? := hg 1 _ rfl
    rw [cells9] at g0 g1
    rw [cells25] at g1
    have hs : xs.length = 2 := hxl
    rw [List.getElem?_eq_getElem (by omega)] at g0 g1
    obtain ⟨n0, e0, _, w0⟩ := DataW.trod_string Try.underlying9 g0
    obtain ⟨n1, w1, A1, c1, e1, hlc, hC⟩ := opens_slice (d := Kd.int .i64) Try.underlying25 cells3 (fun q _ => opens_int Try.underlying3 q) _ _ g1
    obtain rfl : v0 = _ := List.singleton_inj.1 e0
    obtain rfl : v1 = _ := List.singleton_inj.1 e1
    exact ⟨⟨n0, n1⟩, ⟨w0, w1⟩, [.string n0], [.slice A1 n1.length c1], rfl, rfl, ⟨A1, c1, rfl, hlc, hC⟩⟩
end
end Go.Proofs.Ytgjlgdohlmpnbaa.O
