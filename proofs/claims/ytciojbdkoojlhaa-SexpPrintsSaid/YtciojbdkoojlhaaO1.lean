/- Arguments opened: whatever reads as data of a type is told by the printer's kinds (slices, strings, whole numbers, bools). No condition but what each theorem states. -/
import Derived.Test.YtciojbdkoojlhaaPx0
import Derived.WalkKit
import Derived.ProofKit
import Derived.OpenShut
import Derived.ChangeArms
import Derived.Deep.Slices
import Derived.Carry
namespace Go.Proofs.Ytciojbdkoojlhaa.O
open Go.RowKit Go.Proofs.YtciojbdkoojlhaaW.PrintWords Go.Proofs.YtciojbdkoojlhaaW.PrintLast Go.Proofs.YtciojbdkoojlhaaW.PrintMore
section
variable {H : Type} {enc : TypeId × Value → H} {P : Program} {w : World} {base : Nat} {spare : Nat → Bool} {held : Bool}
/-- What reads as a value of type t, by so much fuel, is of kind d, and its tale is well formed (Wf). -/
def Opens (enc : TypeId × Value → H) (P : Program) (w : World) (base : Nat) (spare : Nat → Bool) (held : Bool) (fuel : Nat) (t : TypeId) {α : Type} (d : Kd α) (Wf : α → Prop) : Prop :=
  ∀ (cs : List Value) (x : DataW H × List MemPlace), DataW.trod enc P w base spare held fuel t cs = some x → ∃ y : α, Wf y ∧ d.K w y cs
theorem opens_int {t : TypeId} {k : IntKind} (ht : P.underlying t = some (.int k)) (fuel : Nat) : Opens enc P w base spare held fuel t (Kd.int k) (fun n => (Lit.int k n).wf = true) := fun cs x h => by
  obtain ⟨n, rfl, _, hwf⟩ := DataW.trod_int ht h
  exact ⟨n, hwf, rfl⟩
theorem opens_bool {t : TypeId} (ht : P.underlying t = some .bool) (fuel : Nat) : Opens enc P w base spare held fuel t Kd.bool (fun _ => True) := fun cs x h => by
  obtain ⟨n, rfl, _⟩ := DataW.trod_bool ht h
  exact ⟨n, trivial, rfl⟩
theorem opens_string {t : TypeId} (ht : P.underlying t = some .string) (fuel : Nat) : Opens enc P w base spare held fuel t Kd.string (fun s => s.size ≤ maxLen) := fun cs x h => by
  obtain ⟨n, rfl, _, hs⟩ := DataW.trod_string ht h
  exact ⟨n, hs, rfl⟩
/-- So many values, one for each index. -/
theorem gather {α : Type} {R : Nat → α → Prop} : ∀ n : Nat, (∀ i, i < n → ∃ y, R i y) → ∃ ys : List α, ys.length = n ∧ ∀ i y, ys[i]? = some y → R i y
  | 0, _ => ⟨[], rfl, fun i y h => by simp at h⟩
  | n + 1, h => by
    obtain ⟨ys, hl, hy⟩ := gather n (fun i hi => h i (by omega))
    obtain ⟨z, hz⟩ := h n (by omega)
    refine ⟨ys ++ [z], by simp [hl], fun i y hi => ?_⟩
    rcases Nat.lt_or_ge i n with hlt | hge
    · rw [List.getElem?_append_left (by omega)] at hi
      exact hy i y hi
    · rw [List.getElem?_append_right (by omega)] at hi
      have h0 : i - ys.length = 0 := by
        rcases Nat.eq_zero_or_pos (i - ys.length) with h0 | h0
        · exact h0
        · rw [List.getElem?_eq_none (by simp; omega)] at hi
          cases hi
      rw [h0] at hi
      have hi' : z = y := by simpa using hi
      have hin : i = n := by omega
      rw [hin, ← hi']
      exact hz
theorem opens_slice {t e : TypeId} {α : Type} {d : Kd α} {Wf : α → Prop} (ht : P.underlying t = some (.slice e)) (hc : P.cellsOf e = d.sz) {fuel : Nat} (he : ∀ n, n < fuel → Opens enc P w base spare held n e d Wf) :
    Opens enc P w base spare held fuel t (Kd.slice e d) (fun xs => ∀ y ∈ xs, Wf y) := fun cs x h => by
  rcases DataW.trod_slice ht h with ⟨rfl, _⟩ | ⟨a, len, cap, elems, rest, n, hf, rfl, _, _, hl, hm, hlen, hel, _, _⟩
  · exact ⟨[], by simp, none, 0, rfl, by simp, Kd.C_nil _ _⟩
  · have hn : n < fuel := by omega
    obtain ⟨ys, hyl, hy⟩ := gather (R := fun i y => Wf y ∧ ∃ c, c.length = d.sz ∧ d.K w y c ∧ ∀ j u, c[j]? = some u → w.cell? (a.add (i * d.sz + j)) = some u) len (fun i hi => by
      have h1 := hel i hi
      have h2 : elems[i]? = some (elems[i]'(by omega)) := List.getElem?_eq_getElem (by omega)
      rw [h2] at h1
      obtain ⟨c, h3, h4⟩ := Option.bind_eq_some_iff.1 h1
      obtain ⟨y, hw, hk⟩ := he n hn c _ h4
      obtain ⟨_, hcl, hat⟩ := World.cells?_some h3
      refine ⟨y, hw, c, d.K_len hk, hk, fun j u hu => ?_⟩
      have hj : j < P.cellsOf e := by
        rw [← hcl]
        exact (List.getElem?_eq_some_iff.1 hu).1
      have h5 := hat j hj
      rw [hu, Go.Deep.add_add, hc] at h5
      exact h5)
    refine ⟨ys, fun y hyy => ?_, some a, cap, by rw [hyl], by omega, ?_⟩
    · obtain ⟨i, hi, rfl⟩ := List.mem_iff_getElem.1 hyy
      exact (hy i _ (List.getElem?_eq_getElem hi)).1
    · refine ⟨rfl, ?_, fun _ => ⟨a, rfl, fun j p hj => ?_⟩⟩
      · have := hm
        unfold maxLen at this
        omega
      · exact (hy j p hj).2
/-- A parameter that is a slice: its value, and what it reads as. -/
theorem open_rows {t e : TypeId} {α : Type} {d : Kd α} {Wf : α → Prop} {v : Value} {D : DataW H} {p : List MemPlace} {r : Reach} {b0 : Nat} (ht : P.underlying t = some (.slice e)) (hc : P.cellsOf e = d.sz) (hv : Value.okWide P w r b0 t v)
    (he : ∀ n, Opens enc P w base spare held n e d Wf) (h : DataW.Trod enc P w base spare held t v D p) :
    ∃ (A : Option Addr) (xs : List α) (c : Nat), v = .slice A xs.length c ∧ (∀ y ∈ xs, Wf y) ∧ xs.length ≤ c ∧ d.C w A xs.length xs := by
  obtain ⟨A, len, cap, rfl⟩ := WideShapes.okWide_slice ht hv
  obtain ⟨fuel, hf⟩ := h
  obtain ⟨xs, hw, A', c', hcs, hl, hC⟩ := opens_slice ht hc (fun n _ => he n) _ _ hf
  simp [Value.cells] at hcs
  obtain ⟨rfl, rfl, rfl⟩ := hcs
  exact ⟨_, xs, _, rfl, hw, hl, hC⟩
end
end Go.Proofs.Ytciojbdkoojlhaa.O
