/- Written by a program of this session (gp.py), which drives the printer of the kit: contracts of Go functions over the translation, and the rows of laws: each says what its theorems state. Conditions: as each theorem states them. -/
import Derived.Test.YtgjlgdohlmpnbaaPx0
import Derived.Test.YtgjlgdohlmpnbaaPx1
import Derived.Test.YtgjlgdohlmpnbaaG2
import Derived.Test.YtgjlgdohlmpnbaaG3
namespace Go.Proofs.Ytgjlgdohlmpnbaa.P
open Go.RowKit Go.Proofs.YtgjlgdohlmpnbaaW.PrintWords Go.Proofs.YtgjlgdohlmpnbaaW.PrintLast Go.Proofs.YtgjlgdohlmpnbaaW.PrintMore
attribute [local go_sem] max2_int min2_int max_two min_two max_three min_three max_four min_four   -- for this text's walks alone
set_option linter.unusedVariables false
set_option linter.unusedSimpArgs false

theorem info5 : (Try.prog.info? 5).map (fun i => (i.zero, i.size, i.bytes)) = some (some (.int .u8 0), 1, 1) := by kernel_rfl
/-! ### carlinglaw21_GraphRing: function 9 -/
mutual
def carlinglaw21_GraphRing.j0 : Nat → Int → Int → Bool → Bool → Bool → Option (Bool)
  | 0, _, _, _, _, _ => none
  | k + 1, x0, x1, x2, x7, x25 => if x25 = true then (some x7) else (if x0 = 0 then (none) else (carlinglaw21_GraphRing.l0 k x0 x2 x7 (Int.tmod x1 x0) ([] : List (S31)) 0))
def carlinglaw21_GraphRing.l0 : Nat → Int → Bool → Bool → Int → List (S31) → Int → Option (Bool)
  | 0, _, _, _, _, _, _ => none
  | k + 1, x0, x2, x7, x8, x9, x10 => if x10 < x0 then ((some (([(wrap64 (97 + x10)) % 256] : List Int) : List Int)).bind fun y118 => (if x0 = 0 then (none) else ((some (([Int.tmod (wrap64 (x10 + 1)) x0] : List Int) : List Int)).bind fun y121 => (if x10 = x8 then (if x2 = true then (if x9.length < 3518437208883 then (carlinglaw21_GraphRing.l0 k x0 x2 x7 x8 (x9 ++ [(⟨strOfNums y118, y121⟩ : S31)]) (wrap64 (x10 + 1))) else (none)) else (if x9.length < 3518437208883 then (carlinglaw21_GraphRing.l0 k x0 x2 x7 x8 (x9 ++ [(⟨strOfNums y118, ([] : List Int)⟩ : S31)]) (wrap64 (x10 + 1))) else (none))) else (if x9.length < 3518437208883 then (carlinglaw21_GraphRing.l0 k x0 x2 x7 x8 (x9 ++ [(⟨strOfNums y118, y121⟩ : S31)]) (wrap64 (x10 + 1))) else (none)))))) else ((graph_Order.f x9).bind fun bt134 => (if x2 = true then (if x7 = true then (if bt134.2 = 13 then (if (bt134.1.length : Int) = 0 then ((graph_Users.f x9 x8).bind fun t138 => (some ((t138.length : Int) == x0))) else (some false)) else (some false)) else (some false)) else (if bt134.2 = 0 then (carlinglaw21_GraphRing.j2 k x0 x7 x8 x9 bt134.1 ((bt134.1.length : Int) != x0)) else (carlinglaw21_GraphRing.j2 k x0 x7 x8 x9 bt134.1 true))))
def carlinglaw21_GraphRing.j2 : Nat → Int → Bool → Int → List (S31) → List Int → Bool → Option (Bool)
  | 0, _, _, _, _, _, _ => none
  | k + 1, x0, x7, x8, x9, x12, x89 => if x89 = true then (some false) else (carlinglaw21_GraphRing.l1 k x0 x7 x8 x9 x12 0)
def carlinglaw21_GraphRing.l1 : Nat → Int → Bool → Int → List (S31) → List Int → Int → Option (Bool)
  | 0, _, _, _, _, _, _ => none
  | k + 1, x0, x7, x8, x9, x12, x14 => if x14 < x0 then (if 0 ≤ x14 then (if x14 < (x12.length : Int) then (if x0 = 0 then (none) else (if (rd x12 x14) = (Int.tmod (wrap64 ((wrap64 (x8 - x14)) + x0)) x0) then (carlinglaw21_GraphRing.l1 k x0 x7 x8 x9 x12 (wrap64 (x14 + 1))) else (some false))) else (none)) else (none)) else (if x7 = true then ((graph_Users.f x9 x8).bind fun t142 => (some ((t142.length : Int) == (wrap64 (x0 - 1))))) else (some false))
end
def carlinglaw21_GraphRing.f (k : Nat) (a0 : Int) (a1 : Int) (a2 : Bool) : Option (Bool) := (carlinglaw21_awake.f).bind fun t117 => (if a0 < 1 then (carlinglaw21_GraphRing.j0 k a0 a1 a2 t117 true) else (if a0 > 26 then (carlinglaw21_GraphRing.j0 k a0 a1 a2 t117 true) else (carlinglaw21_GraphRing.j0 k a0 a1 a2 t117 (decide (a1 < 0)))))
theorem carlinglaw21_GraphRing.mono_l : ∀ k, (∀ y0 y1 y2 y3 y4, LeO (carlinglaw21_GraphRing.j0 k y0 y1 y2 y3 y4) (carlinglaw21_GraphRing.j0 (k + 1) y0 y1 y2 y3 y4)) ∧ (∀ y0 y1 y2 y3 y4 y5, LeO (carlinglaw21_GraphRing.l0 k y0 y1 y2 y3 y4 y5) (carlinglaw21_GraphRing.l0 (k + 1) y0 y1 y2 y3 y4 y5)) ∧ (∀ y0 y1 y2 y3 y4 y5, LeO (carlinglaw21_GraphRing.j2 k y0 y1 y2 y3 y4 y5) (carlinglaw21_GraphRing.j2 (k + 1) y0 y1 y2 y3 y4 y5)) ∧ (∀ y0 y1 y2 y3 y4 y5, LeO (carlinglaw21_GraphRing.l1 k y0 y1 y2 y3 y4 y5) (carlinglaw21_GraphRing.l1 (k + 1) y0 y1 y2 y3 y4 y5))
  | 0 => ⟨fun _ _ _ _ _ r h => by simp [carlinglaw21_GraphRing.j0] at h, fun _ _ _ _ _ _ r h => by simp [carlinglaw21_GraphRing.l0] at h, fun _ _ _ _ _ _ r h => by simp [carlinglaw21_GraphRing.j2] at h, fun _ _ _ _ _ _ r h => by simp [carlinglaw21_GraphRing.l1] at h⟩
  | k + 1 => by
    obtain ⟨ih0, ih1, ih2, ih3⟩ := carlinglaw21_GraphRing.mono_l k
    refine ⟨?_, ?_, ?_, ?_⟩
    · intro y0 y1 y2 y3 y4
      unfold carlinglaw21_GraphRing.j0
      repeat' first
      | (with_reducible exact ih0 _ _ _ _ _)
      | (with_reducible exact ih1 _ _ _ _ _ _)
      | (with_reducible exact ih2 _ _ _ _ _ _)
      | (with_reducible exact ih3 _ _ _ _ _ _)
      | (with_reducible exact LeO.refl _)
      | (with_reducible exact LeO.none _)
      | (with_reducible refine LeO.ite ?_ ?_)
      | (with_reducible refine LeO.bind ?_ (fun _ => ?_))
      | exact ih0 _ _ _ _ _
      | exact ih1 _ _ _ _ _ _
      | exact ih2 _ _ _ _ _ _
      | exact ih3 _ _ _ _ _ _
      | exact LeO.none _
      | refine LeO.ite ?_ ?_
      | refine LeO.bind ?_ (fun _ => ?_)
    · intro y0 y1 y2 y3 y4 y5
      unfold carlinglaw21_GraphRing.l0
      repeat' first
      | (with_reducible exact ih0 _ _ _ _ _)
      | (with_reducible exact ih1 _ _ _ _ _ _)
      | (with_reducible exact ih2 _ _ _ _ _ _)
      | (with_reducible exact ih3 _ _ _ _ _ _)
      | (with_reducible exact LeO.refl _)
      | (with_reducible exact LeO.none _)
      | (with_reducible refine LeO.ite ?_ ?_)
      | (with_reducible refine LeO.bind ?_ (fun _ => ?_))
      | exact ih0 _ _ _ _ _
      | exact ih1 _ _ _ _ _ _
      | exact ih2 _ _ _ _ _ _
      | exact ih3 _ _ _ _ _ _
      | exact LeO.none _
      | refine LeO.ite ?_ ?_
      | refine LeO.bind ?_ (fun _ => ?_)
    · intro y0 y1 y2 y3 y4 y5
      unfold carlinglaw21_GraphRing.j2
      repeat' first
      | (with_reducible exact ih0 _ _ _ _ _)
      | (with_reducible exact ih1 _ _ _ _ _ _)
      | (with_reducible exact ih2 _ _ _ _ _ _)
      | (with_reducible exact ih3 _ _ _ _ _ _)
      | (with_reducible exact LeO.refl _)
      | (with_reducible exact LeO.none _)
      | (with_reducible refine LeO.ite ?_ ?_)
      | (with_reducible refine LeO.bind ?_ (fun _ => ?_))
      | exact ih0 _ _ _ _ _
      | exact ih1 _ _ _ _ _ _
      | exact ih2 _ _ _ _ _ _
      | exact ih3 _ _ _ _ _ _
      | exact LeO.none _
      | refine LeO.ite ?_ ?_
      | refine LeO.bind ?_ (fun _ => ?_)
    · intro y0 y1 y2 y3 y4 y5
      unfold carlinglaw21_GraphRing.l1
      repeat' first
      | (with_reducible exact ih0 _ _ _ _ _)
      | (with_reducible exact ih1 _ _ _ _ _ _)
      | (with_reducible exact ih2 _ _ _ _ _ _)
      | (with_reducible exact ih3 _ _ _ _ _ _)
      | (with_reducible exact LeO.refl _)
      | (with_reducible exact LeO.none _)
      | (with_reducible refine LeO.ite ?_ ?_)
      | (with_reducible refine LeO.bind ?_ (fun _ => ?_))
      | exact ih0 _ _ _ _ _
      | exact ih1 _ _ _ _ _ _
      | exact ih2 _ _ _ _ _ _
      | exact ih3 _ _ _ _ _ _
      | exact LeO.none _
      | refine LeO.ite ?_ ?_
      | refine LeO.bind ?_ (fun _ => ?_)
theorem carlinglaw21_GraphRing.mono : ∀ a0 a1 a2 k, LeO (carlinglaw21_GraphRing.f k a0 a1 a2) (carlinglaw21_GraphRing.f (k + 1) a0 a1 a2) := by
  intro a0 a1 a2 k
  obtain ⟨ih0, ih1, ih2, ih3⟩ := carlinglaw21_GraphRing.mono_l k
  unfold carlinglaw21_GraphRing.f
  repeat' first
      | (with_reducible exact ih0 _ _ _ _ _)
      | (with_reducible exact ih1 _ _ _ _ _ _)
      | (with_reducible exact ih2 _ _ _ _ _ _)
      | (with_reducible exact ih3 _ _ _ _ _ _)
      | (with_reducible exact LeO.refl _)
      | (with_reducible exact LeO.none _)
      | (with_reducible refine LeO.ite ?_ ?_)
      | (with_reducible refine LeO.bind ?_ (fun _ => ?_))
      | exact ih0 _ _ _ _ _
      | exact ih1 _ _ _ _ _ _
      | exact ih2 _ _ _ _ _ _
      | exact ih3 _ _ _ _ _ _
      | exact LeO.none _
      | refine LeO.ite ?_ ?_
      | refine LeO.bind ?_ (fun _ => ?_)
def carlinglaw21_GraphRing.T9 : Bool × List (List Nat × List Nat) := (true, [([], []), ([0], [0]), ([1], [1]), ([2], [2]), ([3], [3]), ([], []), ([5], [5]), ([], []), ([6, 7], [6, 7]), ([8], [8]), ([4, 9], [4, 9]), ([], []), ([11, 10, 0, 1, 2, 3, 4, 5, 6, 7, 8, 9, 10, 11], [10, 11])])
def carlinglaw21_GraphRing.B9 : List Nat := [0, 1, 3, 7, 15, 0, 32, 0, 224, 480, 1023, 0, 4095]
theorem carlinglaw21_GraphRing.tab9 : rtab .any (opsOf Try.f9 9) = carlinglaw21_GraphRing.T9 := by kernel_rfl
theorem carlinglaw21_GraphRing.bits9 : waitsOk carlinglaw21_GraphRing.T9.2 carlinglaw21_GraphRing.B9 = true := by kernel_rfl
def carlinglaw21_GraphRing.T21 : Bool × List (List Nat × List Nat) := (true, [([], []), ([], []), ([0, 1], [0, 1]), ([2], [2]), ([], []), ([], []), ([4, 5], [4, 5]), ([], []), ([6, 7], [6, 7]), ([], []), ([8, 9], [8, 9]), ([3, 10], [3, 10])])
def carlinglaw21_GraphRing.B21 : List Nat := [0, 0, 3, 7, 0, 0, 48, 0, 240, 0, 1008, 2047]
theorem carlinglaw21_GraphRing.tab21 : rtab .any (opsOf Try.f9 21) = carlinglaw21_GraphRing.T21 := by kernel_rfl
theorem carlinglaw21_GraphRing.bits21 : waitsOk carlinglaw21_GraphRing.T21.2 carlinglaw21_GraphRing.B21 = true := by kernel_rfl
end Go.Proofs.Ytgjlgdohlmpnbaa.P
