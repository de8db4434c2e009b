/- The contract of mach.Right: which instructions may be. No condition. -/
import Derived.Test.YtnhianjjhkjeoaaG1
import Derived.LoopN
namespace Go.Proofs.Ytnhianjjhkjeoaa.P
open Go.RowKit Go.Proofs.YtnhianjjhkjeoaaW.PrintWords Go.Proofs.YtnhianjjhkjeoaaW.PrintLast Go.Proofs.YtnhianjjhkjeoaaW.PrintMore

def okReg (h : Bool) (n : Int) : Bool := decide (0 ≤ n ∧ n < 8) && (h || n == 0)
def okOp (h : Bool) (n : Int) : Bool := if h then decide (1 ≤ n ∧ n ≤ 10) else n == 0
theorem okReg_cases (h : Bool) (n : Int) : (n < 0 ∧ okReg h n = false) ∨ (8 ≤ n ∧ okReg h n = false) ∨ (n = 0 ∧ okReg h n = true) ∨ (0 < n ∧ n < 8 ∧ h = true ∧ okReg h n = true) ∨ (0 < n ∧ n < 8 ∧ h = false ∧ okReg h n = false) := by
  by_cases h0 : n < 0
  · exact .inl ⟨h0, by simp [okReg]; omega⟩
  by_cases h8 : 8 ≤ n
  · exact .inr (.inl ⟨h8, by simp [okReg]; omega⟩)
  by_cases hz : n = 0
  · exact .inr (.inr (.inl ⟨hz, by subst hz; simp [okReg]⟩))
  cases h
  · exact .inr (.inr (.inr (.inr ⟨by omega, by omega, rfl, by simp [okReg, hz]⟩)))
  · exact .inr (.inr (.inr (.inl ⟨by omega, by omega, rfl, by simp [okReg]; omega⟩)))
structure Hid1 (p : Prop) : Prop where mk :: (out : p)
def RegsOk (D A B : Bool) (d a b i : Int) : Prop := (1 ≤ i → okReg D d = true) ∧ (2 ≤ i → okReg A a = true) ∧ (3 ≤ i → okReg B b = true)
def rightTail (o D A B N : Bool) (op d a b n : Int) : Bool := okReg D d && (okReg A a && (okReg B b && (okOp o op && (N || n == 0))))
theorem ret_bool {a b : Bool} (h : a = b) : Ending.returned (.bool a) = Ending.returned (.bool b) := by rw [h]

theorem below_block {w w1 : World} {o : Obj} (hb : Below (w.alloc o).heap.size (w.alloc o) w1) : w1.heap[w.heap.size]? = some o := (hb.block _ (by simp)).trans (heap_alloc_new w o)
theorem alloc_cell {w1 : World} {g j : Nat} {v : Value} (hc : w1.cell? ⟨g, j, none⟩ = some v) (Y : Obj) : (w1.alloc Y).cell? ⟨g, j, none⟩ = some v := pw_cell_below (below_alloc (Below.refl _ _) Y) hc
theorem bel_end {w w1 : World} {X Y : Obj} (hb : Below (w.alloc X).heap.size (w.alloc X) w1) : Below w.heap.size w (w1.alloc Y) := below_alloc (below_then (below_alloc (Below.refl _ _) X) (by simp) hb) Y
set_option maxHeartbeats 4000000 in
theorem right_walk (k op d a b n : Int) (o D A B N : Bool) (w : World) (h1 : 1 ≤ k) (h9 : k ≤ 9)
    (hh : ∀ w : World, Calls Try.prog 19 #[.int .i64 k] w fun e w' => e = .returned (.agg #[.bool o, .bool D, .bool A, .bool B, .bool N]) ∧ Below w.heap.size w w') :
    Calls Try.prog 12 #[.agg #[.int .i64 k, .int .i64 op, .int .i64 d, .int .i64 a, .int .i64 b, .int .u32 n]] w fun e w' => e = .returned (.bool (rightTail o D A B N op d a b n)) ∧ Below w.heap.size w w' := by
  have HH := Hid1.mk hh
  clear hh
  have i0 : ∀ w : World, (Instr.index 44 (.agg #[.int .i64 d, .int .i64 a, .int .i64 b]) (.int .i64 0)).run Try.prog w = .ok (.int .i64 d) w := fun _ => by kernel_rfl
  have i1 : ∀ w : World, (Instr.index 44 (.agg #[.int .i64 d, .int .i64 a, .int .i64 b]) (.int .i64 1)).run Try.prog w = .ok (.int .i64 a) w := fun _ => by kernel_rfl
  have i2 : ∀ w : World, (Instr.index 44 (.agg #[.int .i64 d, .int .i64 a, .int .i64 b]) (.int .i64 2)).run Try.prog w = .ok (.int .i64 b) w := fun _ => by kernel_rfl
  go_enter Try.func12, Try.ntmps12
  go_wp2_with (go_at_call 19; refine (HH.out _).mono ?_; rintro e w1 ⟨rfl, hb⟩; have HB := Hid1.mk hb; have hblk := below_block hb; have hz := hb.size; clear hb; have c0 := cell_of_row w1 _ 0 _ _ _ hblk; have c1 := cell_of_row w1 _ 1 _ _ _ hblk; have c2 := cell_of_row w1 _ 2 _ _ _ hblk; have c3 := cell_of_row w1 _ 3 _ _ _ hblk; have c4 := cell_of_row w1 _ 4 _ _ _ hblk; have c5 := cell_of_row w1 _ 5 _ _ _ hblk; simp only [List.getElem?_toArray, List.getElem?_cons_zero, List.getElem?_cons_succ] at c0 c1 c2 c3 c4 c5; clear hblk; simp at hz; have d0 := alloc_cell c0; have d1 := alloc_cell c1; have d2 := alloc_cell c2; have d3 := alloc_cell c3; have d4 := alloc_cell c4; have d5 := alloc_cell c5; clear c0 c1 c2 c3 c4 c5)
  go_loop [24] (fun v24 => ∃ i : Int, 0 ≤ i ∧ i ≤ 3 ∧ v24 = .int .i64 i ∧ RegsOk D A B d a b i) (fun v24 => (3 - intOf v24).toNat)
  case atStart => exact ⟨0, by omega, by omega, rfl, fun h => absurd h (by omega), fun h => absurd h (by omega), fun h => absurd h (by omega)⟩
  case round =>
    obtain ⟨i, hi0, hi, rfl, hok⟩ := hrel
    have HO := Hid1.mk hok
    clear hok
    obtain rfl | rfl | rfl | rfl : i = 0 ∨ i = 1 ∨ i = 2 ∨ i = 3 := by omega
    · rcases okReg_cases D d with ⟨q, e⟩ | ⟨q, e⟩ | ⟨rfl, e⟩ | ⟨q, q2, rfl, e⟩ | ⟨q, q2, rfl, e⟩
      · have E := Hid1.mk e
        clear e
        go_wp2
        go_ret
        exact ⟨ret_bool (by simp [rightTail, E.out]), bel_end HB.out⟩
      · have E := Hid1.mk e
        clear e
        go_wp2
        go_ret
        exact ⟨ret_bool (by simp [rightTail, E.out]), bel_end HB.out⟩
      · have E := Hid1.mk e
        clear e
        go_wp2
        exact ⟨⟨1, by omega, by omega, rfl, fun _ => E.out, fun h => absurd h (by omega), fun h => absurd h (by omega)⟩, by simp [intOf]⟩
      · have E := Hid1.mk e
        clear e
        go_wp2
        exact ⟨⟨1, by omega, by omega, rfl, fun _ => E.out, fun h => absurd h (by omega), fun h => absurd h (by omega)⟩, by simp [intOf]⟩
      · have E := Hid1.mk e
        clear e
        go_wp2
        go_ret
        exact ⟨ret_bool (by simp [rightTail, E.out]), bel_end HB.out⟩
    · rcases okReg_cases A a with ⟨q, e⟩ | ⟨q, e⟩ | ⟨rfl, e⟩ | ⟨q, q2, rfl, e⟩ | ⟨q, q2, rfl, e⟩
      · have E := Hid1.mk e
        clear e
        go_wp2
        go_ret
        exact ⟨ret_bool (by simp [rightTail, E.out]), bel_end HB.out⟩
      · have E := Hid1.mk e
        clear e
        go_wp2
        go_ret
        exact ⟨ret_bool (by simp [rightTail, E.out]), bel_end HB.out⟩
      · have E := Hid1.mk e
        clear e
        go_wp2
        exact ⟨⟨2, by omega, by omega, rfl, fun _ => HO.out.1 (by omega), fun _ => E.out, fun h => absurd h (by omega)⟩, by simp [intOf]⟩
      · have E := Hid1.mk e
        clear e
        go_wp2
        exact ⟨⟨2, by omega, by omega, rfl, fun _ => HO.out.1 (by omega), fun _ => E.out, fun h => absurd h (by omega)⟩, by simp [intOf]⟩
      · have E := Hid1.mk e
        clear e
        go_wp2
        go_ret
        exact ⟨ret_bool (by simp [rightTail, E.out]), bel_end HB.out⟩
    · rcases okReg_cases B b with ⟨q, e⟩ | ⟨q, e⟩ | ⟨rfl, e⟩ | ⟨q, q2, rfl, e⟩ | ⟨q, q2, rfl, e⟩
      · have E := Hid1.mk e
        clear e
        go_wp2
        go_ret
        exact ⟨ret_bool (by simp [rightTail, E.out]), bel_end HB.out⟩
      · have E := Hid1.mk e
        clear e
        go_wp2
        go_ret
        exact ⟨ret_bool (by simp [rightTail, E.out]), bel_end HB.out⟩
      · have E := Hid1.mk e
        clear e
        go_wp2
        exact ⟨⟨3, by omega, by omega, rfl, fun _ => HO.out.1 (by omega), fun _ => HO.out.2.1 (by omega), fun _ => E.out⟩, by simp [intOf]⟩
      · have E := Hid1.mk e
        clear e
        go_wp2
        exact ⟨⟨3, by omega, by omega, rfl, fun _ => HO.out.1 (by omega), fun _ => HO.out.2.1 (by omega), fun _ => E.out⟩, by simp [intOf]⟩
      · have E := Hid1.mk e
        clear e
        go_wp2
        go_ret
        exact ⟨ret_bool (by simp [rightTail, E.out]), bel_end HB.out⟩
    · have e1 := HO.out.1 (by omega)
      have e2 := HO.out.2.1 (by omega)
      have e3 := HO.out.2.2 (by omega)
      have E := Hid1.mk (And.intro e1 (And.intro e2 e3))
      clear e1 e2 e3
      cases o
      · by_cases h0 : op = 0
        · subst h0
          cases N
          · by_cases hn : n = 0
            · subst hn
              go_wp2
              go_ret
              exact ⟨ret_bool (by simp [rightTail, E.out.1, E.out.2.1, E.out.2.2, okOp]), bel_end HB.out⟩
            · have hb1 : (n == 0) = false := beq_eq_false_iff_ne.mpr hn
              have hb2 : (n != 0) = true := bne_iff_ne.mpr hn
              go_wp2
              go_ret
              exact ⟨ret_bool (by simp [rightTail, hn]), bel_end HB.out⟩
          · go_wp2
            go_ret
            exact ⟨ret_bool (by simp [rightTail, E.out.1, E.out.2.1, E.out.2.2, okOp]), bel_end HB.out⟩
        · have hb1 : (op == 0) = false := beq_eq_false_iff_ne.mpr h0
          have hb2 : (op != 0) = true := bne_iff_ne.mpr h0
          go_wp2
          go_ret
          exact ⟨ret_bool (by simp [rightTail, okOp, h0]), bel_end HB.out⟩
      · by_cases h0 : op < 1
        · go_wp2
          go_ret
          exact ⟨ret_bool (by simp [rightTail, okOp, show ¬ (1 ≤ op ∧ op ≤ 10) by omega]), bel_end HB.out⟩
        · by_cases h10 : 10 < op
          · go_wp2
            go_ret
            exact ⟨ret_bool (by simp [rightTail, okOp, show ¬ (1 ≤ op ∧ op ≤ 10) by omega]), bel_end HB.out⟩
          · have hop : okOp true op = true := by simp [okOp]; omega
            have HOP := Hid1.mk hop
            clear hop
            cases N
            · by_cases hn : n = 0
              · subst hn
                go_wp2
                go_ret
                exact ⟨ret_bool (by simp [rightTail, E.out.1, E.out.2.1, E.out.2.2, HOP.out]), bel_end HB.out⟩
              · have hb1 : (n == 0) = false := beq_eq_false_iff_ne.mpr hn
                have hb2 : (n != 0) = true := bne_iff_ne.mpr hn
                go_wp2
                go_ret
                exact ⟨ret_bool (by simp [rightTail, hn]), bel_end HB.out⟩
            · go_wp2
              go_ret
              exact ⟨ret_bool (by simp [rightTail, E.out.1, E.out.2.1, E.out.2.2, HOP.out]), bel_end HB.out⟩

/-- Whether an instruction may be. -/
def rightB (k op d a b n : Int) : Bool := decide (1 ≤ k ∧ k ≤ 9) && rightTail (hasOp k) (hasD k) (hasA k) (hasB k) (hasN k) op d a b n
def mach_Right.f (a0_0 a0_1 a0_2 a0_3 a0_4 a0_5 : Int) : Option Bool := some (rightB a0_0 a0_1 a0_2 a0_3 a0_4 a0_5)
set_option maxHeartbeats 1600000 in
theorem right_out (k op d a b n : Int) (w : World) (h : k < 1 ∨ 9 < k) :
    Calls Try.prog 12 #[.agg #[.int .i64 k, .int .i64 op, .int .i64 d, .int .i64 a, .int .i64 b, .int .u32 n]] w fun e w' => e = .returned (.bool false) ∧ Below w.heap.size w w' := by
  by_cases h1 : k < 1
  · clear h
    go_enter Try.func12, Try.ntmps12
    go_wp2
    go_ret
    exact ⟨rfl, below_alloc (Below.refl _ _) _⟩
  · have h9 : 9 < k := by omega
    clear h
    go_enter Try.func12, Try.ntmps12
    go_wp2
    go_ret
    exact ⟨rfl, below_alloc (Below.refl _ _) _⟩
theorem mach_Right.calls (a0_0 : Int) (a0_1 : Int) (a0_2 : Int) (a0_3 : Int) (a0_4 : Int) (a0_5 : Int) (r : Bool) (w : World) (h : mach_Right.f a0_0 a0_1 a0_2 a0_3 a0_4 a0_5 = some r) :
    Calls Try.prog 12 #[.agg #[.int .i64 a0_0, .int .i64 a0_1, .int .i64 a0_2, .int .i64 a0_3, .int .i64 a0_4, .int .u32 a0_5]] w fun e w' => e = .returned (.bool r) ∧ Below w.heap.size w w' := by
  have h' := Option.some.inj h
  subst h'
  unfold rightB
  by_cases hk : 1 ≤ a0_0 ∧ a0_0 ≤ 9
  · rw [decide_eq_true hk, Bool.true_and]
    exact right_walk _ _ _ _ _ _ _ _ _ _ _ w hk.1 hk.2 (fun w => has_any a0_0 w hk.1 hk.2)
  · rw [decide_eq_false hk, Bool.false_and]
    exact right_out _ _ _ _ _ _ w (by omega)
end Go.Proofs.Ytnhianjjhkjeoaa.P
