/- The contract of graph.Ready: the places of the jobs that are not done and need none that is not, rising, in a new slice. No condition. -/
import Derived.Test.YtgjlgdohlmpnbaaPx0
namespace Go.Proofs.Ytgjlgdohlmpnbaa.P
set_option linter.unusedVariables false
set_option linter.unusedSimpArgs false
open Go.RowKit Go.Proofs.YtgjlgdohlmpnbaaW.PrintWords Go.Proofs.YtgjlgdohlmpnbaaW.PrintLast Go.Proofs.YtgjlgdohlmpnbaaW.PrintMore

/-- Is job n there, and done? -/
def isDone (len : Nat) (done : List Bool) (n : Int) : Bool := decide (0 ≤ n ∧ n < len ∧ n < done.length) && done.getD n.toNat false
theorem ret_bool {a b : Bool} (h : a = b) : Ending.returned (.bool a) = Ending.returned (.bool b) := by rw [h]
structure Hid1 (p : Prop) : Prop where mk :: (out : p)
set_option maxHeartbeats 1600000 in
theorem is_any (n : Int) (len : Nat) (done : List Bool) (A0 A1 : Option Addr) (c0 c1 : Nat) (B0 B1 : Nat) (W : World) (h0 : W.cell? ⟨B0, 0, none⟩ = some (.slice A0 len c0)) (h1 : W.cell? ⟨B1, 0, none⟩ = some (.slice A1 done.length c1)) (hd : Kd.C Kd.bool W A1 done.length done) :
    Calls Try.prog 33 #[.int .i64 n, .pointer (some ⟨B0, 0, none⟩), .pointer (some ⟨B1, 0, none⟩)] W fun e w' => e = .returned (.bool (isDone len done n)) ∧ w' = W := by
  by_cases hn : 0 ≤ n
  · by_cases hl : n < (len : Int)
    · by_cases hdl : n < (done.length : Int)
      · obtain ⟨ad, rfl, hc⟩ := Kd.at_bool hd n hn hdl
        have hc' := Hid1.mk hd
        clear hd
        go_enter Try.func33, Try.ntmps33
        go_wp2
        go_ret
        exact ⟨ret_bool (by simp [isDone, hn, hl, hdl, rdOf]), rfl⟩
      · have hc' := Hid1.mk hd
        clear hd
        go_enter Try.func33, Try.ntmps33
        go_wp2
        go_ret
        exact ⟨ret_bool (by unfold isDone; rw [decide_eq_false (by omega)]; rfl), rfl⟩
    · have hc' := Hid1.mk hd
      clear hd
      go_enter Try.func33, Try.ntmps33
      go_wp2
      go_ret
      exact ⟨ret_bool (by unfold isDone; rw [decide_eq_false (by omega)]; rfl), rfl⟩
  · have hc' := Hid1.mk hd
    clear hd
    go_enter Try.func33, Try.ntmps33
    go_wp2
    go_ret
    exact ⟨ret_bool (by unfold isDone; rw [decide_eq_false (by omega)]; rfl), rfl⟩

/-- Is job i not done, and needs none that is not? -/
def freeJ (l : List S31) (done : List Bool) (i : Nat) : Bool := !isDone l.length done i && (rd_T31 l (i : Int)).f1.all (isDone l.length done)
def readyTo (l : List S31) (done : List Bool) : Nat → List Int
  | 0 => []
  | i + 1 => if freeJ l done i = true then readyTo l done i ++ [(i : Int)] else readyTo l done i
theorem readyTo_len (l : List S31) (done : List Bool) : ∀ i, (readyTo l done i).length ≤ i
  | 0 => Nat.le_refl _
  | i + 1 => by
    have h := readyTo_len l done i
    unfold readyTo
    split
    · simp; omega
    · omega
/-- as far as need m: not done, and none that it needs is not -/
def freeM (l : List S31) (done : List Bool) (i m : Nat) : Bool := !isDone l.length done i && ((rd_T31 l (i : Int)).f1.take m).all (isDone l.length done)
theorem freeM_zero (l : List S31) (done : List Bool) (i : Nat) : freeM l done i 0 = !isDone l.length done i := by simp [freeM]
theorem freeM_end (l : List S31) (done : List Bool) (i : Nat) : freeM l done i (rd_T31 l (i : Int)).f1.length = freeJ l done i := by simp [freeM, freeJ]
theorem all_step (p : Int → Bool) : ∀ (N : List Int) (m : Nat), m < N.length → (N.take (m + 1)).all p = ((N.take m).all p && p (rd N (m : Int)))
  | [], m, h => absurd h (Nat.not_lt_zero _)
  | x :: N, 0, _ => by simp [rd]
  | x :: N, m + 1, h => by
    have e := all_step p N m (Nat.lt_of_succ_lt_succ h)
    have er : rd (x :: N) ((m + 1 : Nat) : Int) = rd N (m : Int) := by simp [rd]
    rw [List.take_succ_cons, List.all_cons, e, er, List.take_succ_cons, List.all_cons, Bool.and_assoc]
theorem freeM_succ (l : List S31) (done : List Bool) (i m : Nat) (h : m < (rd_T31 l (i : Int)).f1.length) : freeM l done i (m + 1) = (freeM l done i m && isDone l.length done (rd (rd_T31 l (i : Int)).f1 (m : Int))) := by
  unfold freeM; rw [all_step _ _ _ h, Bool.and_assoc]
theorem alloc_size1 (w : World) (o : Obj) : (w.alloc o).heap.size = w.heap.size + 1 := by first | exact Array.size_push _ | simp | (simp only [World.alloc_eq]; simp)
theorem alloc_cell {w1 : World} {g j : Nat} {v : Value} (hc : w1.cell? ⟨g, j, none⟩ = some v) (Y : Obj) : (w1.alloc Y).cell? ⟨g, j, none⟩ = some v := pw_cell_below (below_alloc (Below.refl _ _) Y) hc
theorem alloc_cell' {w1 : World} {a : Addr} {v : Value} (hc : w1.cell? a = some v) (Y : Obj) : (w1.alloc Y).cell? a = some v := pw_cell_below (below_alloc (Below.refl _ _) Y) hc

set_option maxHeartbeats 4000000 in
set_option maxRecDepth 100000 in
theorem ready_any (A0 : Option Addr) (c0 : Nat) (l0 : List S31) (A1 : Option Addr) (c1 : Nat) (l1 : List Bool) (w : World) (hr0 : Kd.C k31 w A0 l0.length l0) (hr1 : Kd.C Kd.bool w A1 l1.length l1) (hlen : l0.length ≤ 1000000) (hneed : ∀ i : Nat, (rd_T31 l0 (i : Int)).f1.length ≤ 1000000) :
    Calls Try.prog 19 #[.slice A0 l0.length c0, .slice A1 l1.length c1] w fun e w' => ∃ v0_ : Value, e = .returned (v0_) ∧ Kd.R (Kd.int .i64) 3 w' w.heap.size (fun _ => True) v0_ (readyTo l0 l1 l0.length) ∧ Below w.heap.size w w' := by
  have HR0 := Aside0.mk hr0
  have HR1 := Aside0.mk hr1
  have HB := Aside0.mk (Below.refl w.heap.size w)
  clear hr0 hr1
  go_enter Try.func19, Try.ntmps19
  go_wp2
  go_outline
  have b0 : Below w.heap.size w ((w.alloc (.cells #[.slice A0 l0.length c0] 22)).alloc (.cells #[.slice A1 l1.length c1] 35)) := below_alloc (below_alloc HB.out _) _
  have s0 : ((w.alloc (.cells #[.slice A0 l0.length c0] 22)).alloc (.cells #[.slice A1 l1.length c1] 35)).heap.size = w.heap.size + 2 := by rw [alloc_size1, alloc_size1]
  have k0 : ((w.alloc (.cells #[.slice A0 l0.length c0] 22)).alloc (.cells #[.slice A1 l1.length c1] 35)).cell? ⟨w.heap.size, 0, none⟩ = some (.slice A0 l0.length c0) := alloc_cell' (cell_of_row _ _ 0 _ _ _ (heap_alloc_new _ _)) _
  have k1 : ((w.alloc (.cells #[.slice A0 l0.length c0] 22)).alloc (.cells #[.slice A1 l1.length c1] 35)).cell? ⟨w.heap.size + 1, 0, none⟩ = some (.slice A1 l1.length c1) := by
    have := heap_alloc_new (w.alloc (.cells #[.slice A0 l0.length c0] 22)) (.cells #[.slice A1 l1.length c1] 35)
    exact cell_of_row _ _ 0 _ _ _ (by rw [show (w.alloc (.cells #[.slice A0 l0.length c0] 22)).heap.size = w.heap.size + 1 from alloc_size1 _ _] at this; exact this)
  obtain ⟨W0, hW0⟩ : ∃ W0, W0 = (w.alloc (.cells #[.slice A0 l0.length c0] 22)).alloc (.cells #[.slice A1 l1.length c1] 35) := ⟨_, rfl⟩
  rw [← hW0] at b0 s0 k0 k1 ⊢
  have HR0 := Aside0.mk (Kd.C_below HR0.out b0)
  have HR1 := Aside0.mk (Kd.C_below HR1.out b0)
  have HB := Aside0.mk b0
  have S0 := Aside0.mk s0
  have K0 := Aside0.mk k0
  have K1 := Aside0.mk k1
  clear b0 s0 k0 k1 hW0
  go_loopw [6, 15] (fun v6 v15 w' => ∃ i : Nat, i ≤ l0.length ∧ v15 = .int .i64 i ∧ Aside0 (Kd.R (Kd.int .i64) 3 w' W0.heap.size (fun _ => True) v6 (readyTo l0 l1 i)) ∧ Aside0 (Below W0.heap.size W0 w'))
    (fun _ v15 _ => l0.length - (intOf v15).toNat)
  case atStart => exact ⟨0, by omega, rfl, ⟨Kd.R_nil _ _ _ _ _⟩, ⟨Below.refl _ _⟩⟩
  case round =>
    obtain ⟨i, hi, rfl, HO, BR⟩ := hrel
    by_cases hlt : i < l0.length
    · obtain ⟨ad, Aj, cj, rfl, hx0, hx1, hlj, hj⟩ := at_T31 HR0.out (i : Int) (by omega) (by omega)
      have hx0 := pw_cell_below BR.out hx0
      have hx1 := pw_cell_below BR.out hx1
      rw [Int.toNat_natCast] at hx0 hx1
      have HJ := Aside0.mk (Kd.C_below hj BR.out)
      clear hj hlj
      have e0 := alloc_cell' (pw_cell_below BR.out K0.out)
      have e1 := alloc_cell' (pw_cell_below BR.out K1.out)
      go_wp2_with (go_at_call 33; refine (is_any (i : Int) l0.length l1 _ _ c0 c1 _ _ _ (e0 _) (e1 _) (Kd.C_alloc (Kd.C_below HR1.out BR.out) _)).mono ?_; rintro e w' ⟨rfl, rfl⟩)
      have HH := Hid1.mk (And.intro hx0 hx1)
      clear hx0 hx1
      obtain ⟨W, hW⟩ : ∃ W, W = wr.alloc (Obj.cells #[Value.string (rd_T31 l0 ↑i).f0, Value.slice Aj (rd_T31 l0 ↑i).f1.length cj] 31) := ⟨_, rfl⟩
      have BW : Below W0.heap.size W0 W := hW ▸ below_alloc BR.out _
      have HJW : Kd.C (Kd.int .i64) W Aj (rd_T31 l0 ↑i).f1.length (rd_T31 l0 ↑i).f1 := hW ▸ Kd.C_alloc HJ.out _
      have HOW : Kd.R (Kd.int .i64) 3 W W0.heap.size (fun _ => True) u6 (readyTo l0 l1 i) := hW ▸ Kd.R_alloc HO.out _
      have E0 : W.cell? ⟨w.heap.size, 0, none⟩ = some (.slice (some ad) l0.length c0) := pw_cell_below BW K0.out
      have E1 : W.cell? ⟨w.heap.size + 1, 0, none⟩ = some (.slice A1 l1.length c1) := pw_cell_below BW K1.out
      rw [← hW]
      have BW := Aside0.mk BW
      have HJW := Aside0.mk HJW
      have E0 := Aside0.mk E0
      have E1 := Aside0.mk E1
      have HOW := Aside0.mk HOW
      have HNL := hneed i
      clear hW HO HJ e0 e1 BR
      rw [← freeM_zero]
      go_loopw [9, 27] (fun v9 v27 w' => w' = W ∧ ∃ m : Nat, m ≤ (rd_T31 l0 ↑i).f1.length ∧ v9 = .bool (freeM l0 l1 i m) ∧ v27 = .int .i64 m)
        (fun _ v27 _ => (rd_T31 l0 ↑i).f1.length - (intOf v27).toNat)
      case atStart => exact ⟨rfl, 0, by omega, rfl, rfl⟩
      case round =>
        obtain ⟨rfl, m, hm, rfl, rfl⟩ := hrel
        by_cases hmt : m < (rd_T31 l0 ↑i).f1.length
        · obtain ⟨an, rfl, hcn⟩ := Kd.at_int HJW.out (m : Int) (by omega) (by omega)
          rw [Int.toNat_natCast] at hcn
          by_cases hf : freeM l0 l1 i m = true
          · have hf2 := freeM_succ l0 l1 i m hmt
            rw [hf, Bool.true_and] at hf2
            have HF := Hid1.mk hf2
            clear hf2
            rw [hf]
            go_wp2_with (go_at_call 33; refine (is_any (rd (rd_T31 l0 ↑i).f1 ↑m) l0.length l1 _ _ c0 c1 _ _ _ E0.out E1.out (Kd.C_below HR1.out BW.out)).mono ?_; rintro e w' ⟨rfl, rfl⟩)
            go_roundw
            case rel => exact ⟨by first | rfl | trivial, m + 1, by omega, by rw [HF.out], by go_num⟩
            case measure => simp [intOf]; omega
          · have hf' : freeM l0 l1 i m = false := by simpa using hf
            have hf2 := freeM_succ l0 l1 i m hmt
            rw [hf', Bool.false_and] at hf2
            have HF := Hid1.mk hf2
            clear hf2
            rw [hf']
            go_wp2
            go_roundw
            case rel => exact ⟨by first | rfl | trivial, m + 1, by omega, by rw [HF.out], by go_num⟩
            case measure => simp [intOf]; omega
        · obtain rfl : m = (rd_T31 l0 ↑i).f1.length := by omega
          have hN := readyTo_len l0 l1 i
          by_cases hf : freeJ l0 l1 i = true
          · have hs : readyTo l0 l1 (i + 1) = readyTo l0 l1 i ++ [(i : Int)] := by show (if freeJ l0 l1 i = true then _ else _) = _; rw [if_pos hf]
            have HS := Hid1.mk hs
            clear hs
            rw [freeM_end, hf]
            obtain ⟨Ao, co, eo⟩ := Kd.R_slice HOW.out
            subst eo
            go_wp2_with ((with_reducible refine gate_builtin (b := .append) (xs := #[.tmp 39, .tmp 41]) rfl ?_); (try (refine gate_guard (by rfl) ?_; dsimp only)); at_builtin; refine Kd.R_append (Kd.int .i64) (w0 := W0) W0.heap.size rfl (.tmp 39) (.tmp 41) 25 3 (.int .i64 0) 8 rfl Try.underlying25 info3 rfl (by decide) (by omega) _ (readyTo l0 l1 i) (i : Int) [.int .i64 i] (fun _ => True) (fun _ => False) rfl rfl ?aP (fun _ hk => hk.elim) ?aF ?aO ?aB ?aS ?aL ?_; (case aP => exact rfl); (case aB => exact BW.out); (case aF => exact (fun _ _ => trivial)); (case aO => exact HOW.out); (case aS => exact (below_size BW.out)); (case aL => omega); intro vv w20 ho hb hg hat)
            go_roundw
            case rel =>
              exact ⟨i + 1, by omega, by go_num, ⟨by rw [HS.out]; exact ho⟩, ⟨hb⟩⟩
            case measure => simp [intOf]; omega
          · have hs : readyTo l0 l1 (i + 1) = readyTo l0 l1 i := by show (if freeJ l0 l1 i = true then _ else _) = _; rw [if_neg hf]
            have HS := Hid1.mk hs
            clear hs
            have hf' : freeJ l0 l1 i = false := by simpa using hf
            rw [freeM_end, hf']
            go_wp2
            go_roundw
            case rel => exact ⟨i + 1, by omega, by go_num, ⟨by rw [HS.out]; exact HOW.out⟩, BW⟩
            case measure => simp [intOf]; omega
    · go_wp2
      go_ret
      obtain rfl : i = l0.length := by omega
      exact ⟨_, rfl, Kd.R_lower HO.out (below_size HB.out), below_step HB.out BR.out⟩

/-- few enough for the walk -/
def fewJ (l : List S31) : Prop := l.length ≤ 1000000 ∧ ∀ x ∈ l, x.f1.length ≤ 1000000 ∧ x.f0.size ≤ 1000000
instance (l : List S31) : Decidable (fewJ l) := by unfold fewJ; infer_instance
theorem few_need {l : List S31} (h : fewJ l) (i : Nat) : (rd_T31 l (i : Int)).f1.length ≤ 1000000 := by
  by_cases hi : i < l.length
  · have e : rd_T31 l (i : Int) = l[i] := by simp [rd_T31, rdOf, hi]
    rw [e]; exact (h.2 _ (List.getElem_mem hi)).1
  · have e : rd_T31 l (i : Int) = z31 := by simp [rd_T31, hi]
    rw [e]; exact Nat.zero_le _
theorem few_name {l : List S31} (h : fewJ l) (i : Nat) : (rd_T31 l (i : Int)).f0.size ≤ 1000000 := by
  by_cases hi : i < l.length
  · have e : rd_T31 l (i : Int) = l[i] := by simp [rd_T31, rdOf, hi]
    rw [e]; exact (h.2 _ (List.getElem_mem hi)).2
  · have e : rd_T31 l (i : Int) = z31 := by simp [rd_T31, hi]
    rw [e]; exact Nat.zero_le _
def graph_Ready.f (l : List S31) (done : List Bool) : Option (List Int) := if fewJ l then some (readyTo l done l.length) else none
theorem graph_Ready.calls (A0 : Option Addr) (c0 : Nat) (l0 : List S31) (A1 : Option Addr) (c1 : Nat) (l1 : List Bool) (r : List Int) (w : World) (hr0 : Kd.C k31 w A0 l0.length l0) (hc0 : l0.length ≤ c0) (hr1 : Kd.C Kd.bool w A1 l1.length l1) (hc1 : l1.length ≤ c1) (h : graph_Ready.f l0 l1 = some r) :
    Calls Try.prog 19 #[.slice A0 l0.length c0, .slice A1 l1.length c1] w fun e w' => ∃ v0_ : Value, e = .returned (v0_) ∧ Kd.R (Kd.int .i64) 3 w' w.heap.size (fun _ => True) v0_ r ∧ Below w.heap.size w w' := by
  unfold graph_Ready.f at h
  by_cases hf : fewJ l0
  · rw [if_pos hf] at h
    obtain rfl := Option.some.inj h
    exact ready_any A0 c0 l0 A1 c1 l1 w hr0 hr1 hf.1 (few_need hf)
  · rw [if_neg hf] at h; cases h
end Go.Proofs.Ytgjlgdohlmpnbaa.P
