/- Nodes opened: a slice of nodes that came in is told as a list of them. No condition but what each theorem states. -/
import Derived.Test.YtciojbdkoojlhaaO1
namespace Go.Proofs.Ytciojbdkoojlhaa.O
open Go.RowKit Go.Proofs.Ytciojbdkoojlhaa.P Go.Proofs.YtciojbdkoojlhaaW.PrintWords Go.Proofs.YtciojbdkoojlhaaW.PrintLast Go.Proofs.YtciojbdkoojlhaaW.PrintMore
theorem cells30 : Try.prog.cellsOf 30 = 4 := by kernel_rfl
theorem cells4 : Try.prog.cellsOf 4 = 1 := by kernel_rfl
theorem cells9 : Try.prog.cellsOf 9 = 1 := by kernel_rfl
theorem cells23 : Try.prog.cellsOf 23 = 1 := by kernel_rfl
theorem cells3 : Try.prog.cellsOf 3 = 1 := by kernel_rfl
section
variable {H : Type} {enc : TypeId × Value → H} {w : World} {base : Nat} {spare : Nat → Bool} {held : Bool}
theorem opens30 (n : Nat) : Opens enc Try.prog w base spare held n 30 k30 (fun _ => True) := by
  induction n using Nat.strongRecOn with
  | ind n ih =>
  intro cs x h
  obtain ⟨xs, m, hm, _, hl, hxl, hg⟩ := DataW.trod_struct Try.underlying30 h
  rw [cells30] at hl
  match cs, hl with
  | [v0, v1, v2, v3], _ =>
    have g0 : DataW.trod enc Try.prog w base spare held m 4 (([v0, v1, v2, v3].drop 0).take (Try.prog.cellsOf 4)) = xs[0]? := hg 0 _ rfl
    have g1 : DataW.trod enc Try.prog w base spare held m 9 (([v0, v1, v2, v3].drop (0 + Try.prog.cellsOf 4)).take (Try.prog.cellsOf 9)) = xs[1]? := hg 1 _ rfl
    have g2 : DataW.trod enc Try.prog w base spare held m 23 (([v0, v1, v2, v3].drop (0 + Try.prog.cellsOf 4 + Try.prog.cellsOf 9)).take (Try.prog.cellsOf 23)) = xs[2]? := hg 2 _ rfl
    have g3 : DataW.trod enc Try.prog w base spare held m 3 (([v0, v1, v2, v3].drop (0 + Try.prog.cellsOf 4 + Try.prog.cellsOf 9 + Try.prog.cellsOf 23)).take (Try.prog.cellsOf 3)) = xs[3]? := hg 3 _ rfl
    rw [cells4] at g0 g1 g2 g3
    rw [cells9] at g1 g2 g3
    rw [cells23] at g2 g3
    rw [cells3] at g3
    have hs : xs.length = 4 := hxl
    rw [List.getElem?_eq_getElem (by omega)] at g0 g1 g2 g3
    obtain ⟨n0, e0, _⟩ := DataW.trod_bool Try.underlying4 g0
    obtain ⟨n1, e1, _, w1⟩ := DataW.trod_string Try.underlying9 g1
    obtain ⟨n2, w2, A2, c2, e2, hlc, hC⟩ := opens_slice (d := k30) Try.underlying23 cells30 (fun q hq => ih q (by omega)) _ _ g2
    obtain ⟨n3, e3, _⟩ := DataW.trod_int Try.underlying3 g3
    obtain rfl : v0 = _ := List.singleton_inj.1 e0
    obtain rfl : v1 = _ := List.singleton_inj.1 e1
    obtain rfl : v2 = _ := List.singleton_inj.1 e2
    obtain rfl : v3 = _ := List.singleton_inj.1 e3
    exact ⟨⟨n0, n1, n2, n3⟩, trivial, k30_mk w ⟨n0, n1, n2, n3⟩ hlc hC⟩
end
end Go.Proofs.Ytciojbdkoojlhaa.O
