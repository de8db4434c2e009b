/- The contract of word.signs: it hands back a new slice of the eleven signs. No condition. -/
import Derived.Test.YtfneceeaifnhkaaPx0
namespace Go.Proofs.Ytfneceeaifnhkaa.P
open Go.RowKit Go.Proofs.YtfneceeaifnhkaaW.PrintWords Go.Proofs.YtfneceeaifnhkaaW.PrintLast Go.Proofs.YtfneceeaifnhkaaW.PrintMore

/-- A block that is known whole reads as the scalars that it holds. -/
theorem C_of_block {α : Type} {enc : α → Value} {h1 : ∀ x, (enc x).oneCell' = true} {w : World} {g t : Nat} {fr : Nat × Nat} {cs : Array Value} (xs : List α) (d : α)
    (hb : w.heap[g]? = some (.cells cs t fr)) (hc : cs.toList = xs.map enc) (hm : xs.length ≤ 9223372036854775807) : (Kd.scalar enc h1).C w (some ⟨g, 0, none⟩) xs.length xs := by
  refine Kd.C_of_reads (d := d) ⟨rfl, hm, fun _ => ⟨_, rfl, fun j hj => ?_⟩⟩
  rw [add_plain]
  have hz : cs[j]? = some (enc (xs.getD j d)) := by
    rw [← Array.getElem?_toList, hc]
    simp [List.getD_eq_getElem?_getD, List.getElem?_eq_getElem hj]
  simp [World.cell?, hb, hz]

def word_signs.f : Option (List ByteArray) := some [⟨#[]⟩, ⟨#[43]⟩, ⟨#[45]⟩, ⟨#[42]⟩, ⟨#[38]⟩, ⟨#[124]⟩, ⟨#[94]⟩, ⟨#[60, 60]⟩, ⟨#[62, 62]⟩, ⟨#[60]⟩, ⟨#[61, 61]⟩]
set_option maxHeartbeats 800000 in
theorem word_signs.calls (r : List ByteArray) (w : World) (h : word_signs.f = some r) :
    Calls Try.prog 19 #[] w fun e w' => ∃ v0_ : Value, e = .returned (v0_) ∧ Kd.V Kd.string 9 w' w.heap.size (fun k_ => w.heap.size ≤ k_) v0_ r ∧ Below w.heap.size w w' := by
  unfold word_signs.f at h
  obtain rfl := Option.some.inj h
  clear h
  go_enter Try.func19, Try.ntmps19
  go_wp2
  go_ret
  refine ⟨_, rfl, ⟨_, _, rfl, Nat.le_refl _, fun W' hW' => ?_⟩, below_alloc (Below.refl _ _) _⟩
  have hb := hW' w.heap.size (Nat.le_refl _) (by simp)
  rw [heap_alloc_new] at hb
  exact C_of_block _ (⟨#[]⟩ : ByteArray) hb rfl (by simp)
end Go.Proofs.Ytfneceeaifnhkaa.P
