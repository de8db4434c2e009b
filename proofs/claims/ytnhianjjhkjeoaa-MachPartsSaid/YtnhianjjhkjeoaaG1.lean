/- The contract of mach.has: what each kind of instruction has. Condition: the kind is 1 to 9. -/
import Derived.Test.YtnhianjjhkjeoaaPx0
import Derived.Laws.Tables
import Derived.Deep.WholeRow
namespace Go.Proofs.Ytnhianjjhkjeoaa.P
open Go.RowKit Go.Proofs.YtnhianjjhkjeoaaW.PrintWords Go.Proofs.YtnhianjjhkjeoaaW.PrintLast Go.Proofs.YtnhianjjhkjeoaaW.PrintMore

theorem wpList_build_to {P : Program} {ops : Array Oper} {rest : List Oper} {o : Oper} {a : Act} {w : World} {Q : Exit → Act → World → Prop} (hg : o.guard = none) (N : Tmp) (hd : o.dst = some N) (t : TypeId) (parts : Array (Nat × Operand)) (ho : o.op = .build t parts)
    (l : List (Nat × Value)) (hl : (parts.map fun (i, x) => (i, a.eval x)).toList = l) (cells : Array Value) (hb : P.built t l = some cells) (h : wpList P ops Q rest (a.put (some N) (.agg cells)) w) : wpList P ops Q (o :: rest) a w := by
  refine wpList_build hg t parts ho ?_ ?_
  · rw [hl, hb]; rfl
  · rw [hl, hb, hd]; exact h
def hasCells : Array Value := #[.bool false, .bool false, .bool false, .bool false, .bool false, .bool false, .bool true, .bool false, .bool false, .bool true, .bool false, .bool true, .bool true, .bool false, .bool false, .bool true, .bool true, .bool true, .bool true, .bool false, .bool false, .bool true, .bool false, .bool false, .bool true, .bool false, .bool false, .bool true, .bool false, .bool true, .bool false, .bool false, .bool false, .bool false, .bool true, .bool false, .bool false, .bool true, .bool false, .bool true, .bool false, .bool false, .bool false, .bool false, .bool true, .bool false, .bool false, .bool false, .bool false, .bool false]
theorem built46 : Try.prog.built 46 [(0, .agg #[.bool false, .bool false, .bool false, .bool false, .bool false]), (1, .agg #[.bool false, .bool true, .bool false, .bool false, .bool true]), (2, .agg #[.bool false, .bool true, .bool true, .bool false, .bool false]), (3, .agg #[.bool true, .bool true, .bool true, .bool true, .bool false]), (4, .agg #[.bool false, .bool true, .bool false, .bool false, .bool true]), (5, .agg #[.bool false, .bool false, .bool true, .bool false, .bool true]), (6, .agg #[.bool false, .bool false, .bool false, .bool false, .bool true]), (7, .agg #[.bool false, .bool false, .bool true, .bool false, .bool true]), (8, .agg #[.bool false, .bool false, .bool false, .bool false, .bool true]), (9, .agg #[.bool false, .bool false, .bool false, .bool false, .bool false])] = some hasCells := by kernel_rfl
theorem info46 : (Try.prog.info? 46).map (·.size) = some 50 := by kernel_rfl
theorem hasCells_one : hasCells.all (·.oneCell') = true := by decide +kernel
theorem has_cell {w : World} {g j : Nat} {v : Value} (hb : w.heap[g]? = some (.cells hasCells 46 (0, 0))) (h : hasCells[j]? = some v) : w.cell? ⟨g, j, none⟩ = some v := by
  rw [cell_of_row w g j hasCells 46 (0, 0) hb, h]

/-- What a kind has: Op, D, A, B, N. -/
def hasOp (k : Int) : Bool := k == 3
def hasD (k : Int) : Bool := k == 1 || k == 2 || k == 3 || k == 4
def hasA (k : Int) : Bool := k == 2 || k == 3 || k == 5 || k == 7
def hasB (k : Int) : Bool := k == 3
def hasN (k : Int) : Bool := k == 1 || k == 4 || k == 5 || k == 6 || k == 7 || k == 8
set_option maxHeartbeats 1600000 in
theorem has_any (k : Int) (w : World) (h1 : 1 ≤ k) (h9 : k ≤ 9) : Calls Try.prog 19 #[.int .i64 k] w fun e w' => e = .returned (.agg #[.bool (hasOp k), .bool (hasD k), .bool (hasA k), .bool (hasB k), .bool (hasN k)]) ∧ Below w.heap.size w w' := by
  go_enter Try.func19, Try.ntmps19
  go_upto_region 1 with (fail)
  go_step
  iterate 30 go_step
  refine wpList_build_to rfl 14 rfl 46 _ rfl _ ?hl hasCells built46 ?_
  case hl => simp only [List.map_toArray, List.map_cons, List.map_nil]; rfl
  simp only [Act.put, List.setIfInBounds_toArray, List.set_cons_zero, List.set_cons_succ]
  iterate 3 go_step
  refine wpList_store_row rfl 46 (.tmp 3) (.tmp 14) rfl (w.heap.size + 1) hasCells rfl rfl 46 _ (heap_alloc2_new _ _ _) info46 rfl hasCells_one ?_
  simp only [Act.put]
  rw [show w.heap.size + 1 = (w.alloc (.cells #[.bool false, .bool false, .bool false, .bool false, .bool false] 42)).heap.size by simp, World.setRow_alloc_new]
  obtain rfl | rfl | rfl | rfl | rfl | rfl | rfl | rfl | rfl : k = 1 ∨ k = 2 ∨ k = 3 ∨ k = 4 ∨ k = 5 ∨ k = 6 ∨ k = 7 ∨ k = 8 ∨ k = 9 := by omega
  · clear h1 h9
    have q0 : hasCells[5]? = some (.bool false) := rfl
    have q1 : hasCells[6]? = some (.bool true) := rfl
    have q2 : hasCells[7]? = some (.bool false) := rfl
    have q3 : hasCells[8]? = some (.bool false) := rfl
    have q4 : hasCells[9]? = some (.bool true) := rfl
    go_wp2
    exact bodyPost_ret (v := .agg #[.bool false, .bool true, .bool false, .bool false, .bool true]) (by simp [results, Try.results19, go_sem]) rfl ⟨rfl, below_alloc (below_alloc (Below.refl _ _) _) _⟩
  · clear h1 h9
    have q0 : hasCells[10]? = some (.bool false) := rfl
    have q1 : hasCells[11]? = some (.bool true) := rfl
    have q2 : hasCells[12]? = some (.bool true) := rfl
    have q3 : hasCells[13]? = some (.bool false) := rfl
    have q4 : hasCells[14]? = some (.bool false) := rfl
    go_wp2
    exact bodyPost_ret (v := .agg #[.bool false, .bool true, .bool true, .bool false, .bool false]) (by simp [results, Try.results19, go_sem]) rfl ⟨rfl, below_alloc (below_alloc (Below.refl _ _) _) _⟩
  · clear h1 h9
    have q0 : hasCells[15]? = some (.bool true) := rfl
    have q1 : hasCells[16]? = some (.bool true) := rfl
    have q2 : hasCells[17]? = some (.bool true) := rfl
    have q3 : hasCells[18]? = some (.bool true) := rfl
    have q4 : hasCells[19]? = some (.bool false) := rfl
    go_wp2
    exact bodyPost_ret (v := .agg #[.bool true, .bool true, .bool true, .bool true, .bool false]) (by simp [results, Try.results19, go_sem]) rfl ⟨rfl, below_alloc (below_alloc (Below.refl _ _) _) _⟩
  · clear h1 h9
    have q0 : hasCells[20]? = some (.bool false) := rfl
    have q1 : hasCells[21]? = some (.bool true) := rfl
    have q2 : hasCells[22]? = some (.bool false) := rfl
    have q3 : hasCells[23]? = some (.bool false) := rfl
    have q4 : hasCells[24]? = some (.bool true) := rfl
    go_wp2
    exact bodyPost_ret (v := .agg #[.bool false, .bool true, .bool false, .bool false, .bool true]) (by simp [results, Try.results19, go_sem]) rfl ⟨rfl, below_alloc (below_alloc (Below.refl _ _) _) _⟩
  · clear h1 h9
    have q0 : hasCells[25]? = some (.bool false) := rfl
    have q1 : hasCells[26]? = some (.bool false) := rfl
    have q2 : hasCells[27]? = some (.bool true) := rfl
    have q3 : hasCells[28]? = some (.bool false) := rfl
    have q4 : hasCells[29]? = some (.bool true) := rfl
    go_wp2
    exact bodyPost_ret (v := .agg #[.bool false, .bool false, .bool true, .bool false, .bool true]) (by simp [results, Try.results19, go_sem]) rfl ⟨rfl, below_alloc (below_alloc (Below.refl _ _) _) _⟩
  · clear h1 h9
    have q0 : hasCells[30]? = some (.bool false) := rfl
    have q1 : hasCells[31]? = some (.bool false) := rfl
    have q2 : hasCells[32]? = some (.bool false) := rfl
    have q3 : hasCells[33]? = some (.bool false) := rfl
    have q4 : hasCells[34]? = some (.bool true) := rfl
    go_wp2
    exact bodyPost_ret (v := .agg #[.bool false, .bool false, .bool false, .bool false, .bool true]) (by simp [results, Try.results19, go_sem]) rfl ⟨rfl, below_alloc (below_alloc (Below.refl _ _) _) _⟩
  · clear h1 h9
    have q0 : hasCells[35]? = some (.bool false) := rfl
    have q1 : hasCells[36]? = some (.bool false) := rfl
    have q2 : hasCells[37]? = some (.bool true) := rfl
    have q3 : hasCells[38]? = some (.bool false) := rfl
    have q4 : hasCells[39]? = some (.bool true) := rfl
    go_wp2
    exact bodyPost_ret (v := .agg #[.bool false, .bool false, .bool true, .bool false, .bool true]) (by simp [results, Try.results19, go_sem]) rfl ⟨rfl, below_alloc (below_alloc (Below.refl _ _) _) _⟩
  · clear h1 h9
    have q0 : hasCells[40]? = some (.bool false) := rfl
    have q1 : hasCells[41]? = some (.bool false) := rfl
    have q2 : hasCells[42]? = some (.bool false) := rfl
    have q3 : hasCells[43]? = some (.bool false) := rfl
    have q4 : hasCells[44]? = some (.bool true) := rfl
    go_wp2
    exact bodyPost_ret (v := .agg #[.bool false, .bool false, .bool false, .bool false, .bool true]) (by simp [results, Try.results19, go_sem]) rfl ⟨rfl, below_alloc (below_alloc (Below.refl _ _) _) _⟩
  · clear h1 h9
    have q0 : hasCells[45]? = some (.bool false) := rfl
    have q1 : hasCells[46]? = some (.bool false) := rfl
    have q2 : hasCells[47]? = some (.bool false) := rfl
    have q3 : hasCells[48]? = some (.bool false) := rfl
    have q4 : hasCells[49]? = some (.bool false) := rfl
    go_wp2
    exact bodyPost_ret (v := .agg #[.bool false, .bool false, .bool false, .bool false, .bool false]) (by simp [results, Try.results19, go_sem]) rfl ⟨rfl, below_alloc (below_alloc (Below.refl _ _) _) _⟩
end Go.Proofs.Ytnhianjjhkjeoaa.P
