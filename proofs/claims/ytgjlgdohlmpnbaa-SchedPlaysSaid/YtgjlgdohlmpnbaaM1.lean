/- A map to bools that is used as a set of keys. -/
import Derived.Test.YtgjlgdohlmpnbaaPx0
import Derived.Maps.Views
import Derived.ChangeMaps5
namespace Go.Proofs.Ytgjlgdohlmpnbaa.P
open Go.RowKit Go.Proofs.YtgjlgdohlmpnbaaW.PrintWords Go.Proofs.YtgjlgdohlmpnbaaW.PrintLast Go.Proofs.YtgjlgdohlmpnbaaW.PrintMore
open Go.Maps
set_option linter.unusedVariables false
set_option linter.unusedSimpArgs false

noncomputable instance litDec : DecidableEq Lit := Classical.typeDecidableEq Lit
/-- block b is a map from type kt to bools: the keys ks, and no other, stand for true -/
def SetAt (w : World) (kt : TypeId) (b n : Nat) (ks : List Lit) : Prop :=
  ∃ D : DataW Unit, w.ownsMap Try.prog kt (plainElem Try.prog 4) b n D ∧ IsMap D ∧ ∀ kl, WideAt.IsKeyLit kl → D.atKey kl (.lit (.bool false)) = .lit (.bool (decide (kl ∈ ks)))
theorem SetAt.made (w : World) (kt : TypeId) : SetAt (w.alloc (.map #[] 0)) kt w.heap.size 0 [] :=
  ⟨_, World.ownsMap_made w Try.prog kt _, isMap_empty, fun kl _ => by rw [WideAt.atKey_none _ (by simp)]; simp⟩
theorem SetAt.mono {w : World} {kt : TypeId} {b n : Nat} {ks : List Lit} (h : SetAt w kt b n ks) {n' : Nat} (hn : n ≤ n') : SetAt w kt b n' ks := by
  obtain ⟨D, h1, h2, h3⟩ := h
  exact ⟨D, h1.mono hn, h2, h3⟩
theorem SetAt.below {w w' : World} {kt : TypeId} {b n : Nat} {ks : List Lit} (h : SetAt w kt b n ks) {g : Nat} (hg : Below g w w') (hb : b < g) : SetAt w' kt b n ks := by
  obtain ⟨D, ⟨es, clock, e1, F, e3, e4⟩, h2, h3⟩ := h
  exact ⟨D, ⟨es, clock, (hg.block b hb).trans e1, F, e3, e4⟩, h2, h3⟩
theorem SetAt.lt {w : World} {kt : TypeId} {b n : Nat} {ks : List Lit} (h : SetAt w kt b n ks) : b < w.heap.size := by
  obtain ⟨D, h1, h2, h3⟩ := h
  exact h1.lt
theorem SetAt.alloc {w : World} {kt : TypeId} {b n : Nat} {ks : List Lit} (h : SetAt w kt b n ks) (o : Obj) : SetAt (w.alloc o) kt b n ks := by
  obtain ⟨D, h1, h2, h3⟩ := h
  exact ⟨D, h1.alloc o, h2, h3⟩
theorem zero4 (w : World) : (zeroValue 4).run Try.prog w = .ok (.bool false) w := by kernel_rfl
theorem SetAt.look {w : World} {t kt : TypeId} {b n : Nat} {ks : List Lit} (h : SetAt w kt b n ks) (K : Keyed Try.prog kt) (ht : Try.prog.underlying t = some (.map kt 4)) {key : Value} {kl : Lit} (hkey : keyOf Try.prog kt key = some kl) :
    (Instr.lookup t (.map (some b)) key false).run Try.prog w = .ok (.bool (decide (kl ∈ ks))) w := by
  obtain ⟨D, h1, h2, h3⟩ := h
  obtain ⟨v, ps, hrun, hv⟩ := h1.lookup K ht (zero4 w) (plainElem_bool Try.underlying4 false) hkey
  rw [h3 kl (K.key hkey)] at hv
  obtain ⟨x, rfl, hx⟩ : ∃ x, v = .bool x ∧ x = decide (kl ∈ ks) := by
    unfold plainElem at hv
    rw [Try.underlying4] at hv
    cases v <;> simp at hv
    exact ⟨_, rfl, hv.1⟩
  rw [hrun, hx]
theorem SetAt.put {w w' : World} {kt : TypeId} {b n : Nat} {ks : List Lit} {kl : Lit} {D : DataW Unit} (h2 : IsMap D) (h3 : ∀ kl, WideAt.IsKeyLit kl → D.atKey kl (.lit (.bool false)) = .lit (.bool (decide (kl ∈ ks)))) (hk : WideAt.IsKeyLit kl)
    (h1 : w'.ownsMap Try.prog kt (plainElem Try.prog 4) b n (D.put kl (.lit (.bool true)))) : SetAt w' kt b n (kl :: ks) := by
  refine ⟨_, h1, h2.put _ _, fun k' hk' => ?_⟩
  by_cases e : k' = kl
  · subst e
    rw [atKey_put_same h2 hk]; simp
  · rw [atKey_put_other e, h3 k' hk']; simp [e]
/-- a store into the set, at the operation -/
theorem wpList_set_put {w : World} {ops : Array Oper} {rest : List Oper} {o : Oper} {a : Act} {Q : Exit → Act → World → Prop} (hg : o.guard = none) (m x v : Operand) (t : TypeId) (hop : o.op = Op.mapUpdate t m x v)
    (kt : TypeId) (K : Keyed Try.prog kt) (ht : Try.prog.underlying t = some (.map kt 4)) (b n : Nat) (ks : List Lit) (hown : SetAt w kt b n ks) (hn : n < maxLen) (key : Value) (kl : Lit)
    (hm : a.eval m = .map (some b)) (hx : a.eval x = key) (hv : a.eval v = .bool true) (hkey : keyOf Try.prog kt key = some kl)
    (hK : ∀ w', SetAt w' kt b (n + 1) (kl :: ks) → w.grownBy w' (some b) → wpList Try.prog ops Q rest (a.put o.dst undef) w') :
    wpList Try.prog ops Q (o :: rest) a w := by
  obtain ⟨D, h1, h2, h3⟩ := hown
  refine wpList_mapUpdate_own w hg m x v t hop kt 4 K ht (plainElem Try.prog 4) b n D hm h1 hn key (.bool true) kl hx hv hkey _ [] (plainElem_bool Try.underlying4 true) ?_
  intro w' r1 r2
  exact hK w' (SetAt.put (w := w) h2 h3 (K.key hkey) r1) r2
theorem key_string {s : ByteArray} (h : s.size ≤ 1000000) : keyOf Try.prog 9 (.string s) = some (.string s.data.toList) := Go.WideMaps.keyOf_string_mk Try.underlying9 (by simp only [maxLen]; omega)
theorem key_int {i : Int} (h0 : 0 ≤ i) (h : i ≤ 1000000) : keyOf Try.prog 3 (.int .i64 i) = some (.int .i64 i) := Maps.keyOf_int_mk Try.underlying3 (by simp [Lit.wf, IntKind.min, IntKind.max, IntKind.signed, IntKind.bits]; omega)
theorem lit_bytes {s t : ByteArray} : (Lit.string s.data.toList = Lit.string t.data.toList) ↔ s = t := by
  constructor
  · intro h
    simp at h
    exact ByteArray.ext h
  · rintro rfl; rfl
end Go.Proofs.Ytgjlgdohlmpnbaa.P
