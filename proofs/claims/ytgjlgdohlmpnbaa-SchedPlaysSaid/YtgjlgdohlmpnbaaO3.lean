/- A crew opened: a struct of a number and a slice of bools that came in by value. No condition but what each theorem states. -/
import Derived.Test.YtgjlgdohlmpnbaaO2
namespace Go.Proofs.Ytgjlgdohlmpnbaa.O
open Go.RowKit Go.Proofs.Ytgjlgdohlmpnbaa.P Go.Proofs.YtgjlgdohlmpnbaaW.PrintWords Go.Proofs.YtgjlgdohlmpnbaaW.PrintLast Go.Proofs.YtgjlgdohlmpnbaaW.PrintMore
theorem cells49 : Try.prog.cellsOf 49 = 2 := by kernel_rfl
section
variable {H : Type} {enc : TypeId × Value → H} {w : World} {base : Nat} {spare : Nat → Bool} {held : Bool}
theorem open_crew {v : Value} {D : DataW H} {p : List MemPlace} {r : Reach} {b0 : Nat} (hv : Value.okWide Try.prog w r b0 49 v) (h : DataW.Trod enc Try.prog w base spare held 49 v D p) :
    ∃ (n : Int) (A : Option Addr) (xs : List Bool) (c : Nat), v = .agg #[.int .i64 n, .slice A xs.length c] ∧ (Lit.int .i64 n).wf = true ∧ xs.length ≤ c ∧ Kd.bool.C w A xs.length xs := by
  obtain ⟨cs, rfl, hsz⟩ := WideShapes.okWide_struct Try.underlying49 hv
  obtain ⟨fuel, hf⟩ := h
  rw [cells49] at hsz
  obtain ⟨v0, v1, rfl⟩ : ∃ v0 v1, cs = #[v0, v1] := by
    match cs, hsz with
    | ⟨[a, b]⟩, _ => exact ⟨a, b, rfl⟩
  have hf : DataW.trod enc Try.prog w base spare held fuel 49 [v0, v1] = some (D, p) := hf
  obtain ⟨xs, m, _, _, hl, hxl, hg⟩ := DataW.trod_struct Try.underlying49 hf
  have g0 : DataW.trod enc Try.prog w base spare held m 3 (([v0, v1].drop 0).take (Try.prog.cellsOf 3)) = xs[0]? := hg 0 _ rfl
  have g1 : DataW.trod enc Try.prog w base spare held m 35 (([v0, v1].drop (0 + Try.prog.cellsOf 3)).take (Try.prog.cellsOf 35)) = xs[1]? := hg 1 _ rfl
  rw [cells3] at g0 g1
  rw [cells35] at g1
  have hs : xs.length = 2 := hxl
  rw [List.getElem?_eq_getElem (by omega)] at g0 g1
  obtain ⟨n0, e0, _, w0⟩ := DataW.trod_int Try.underlying3 g0
  obtain ⟨n1, w1, A1, c1, e1, hlc, hC⟩ := opens_slice (d := Kd.bool) Try.underlying35 cells4 (fun q _ => opens_bool Try.underlying4 q) _ _ g1
  obtain rfl : v0 = _ := List.singleton_inj.1 e0
  obtain rfl : v1 = _ := List.singleton_inj.1 e1
  exact ⟨n0, A1, n1, c1, rfl, w0, hlc, hC⟩
end
end Go.Proofs.Ytgjlgdohlmpnbaa.O
