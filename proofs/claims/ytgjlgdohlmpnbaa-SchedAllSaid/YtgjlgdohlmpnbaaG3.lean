/- The contract of graph.Users: those that need one, or need one that does. -/
import Derived.Test.YtgjlgdohlmpnbaaG2
namespace Go.Proofs.Ytgjlgdohlmpnbaa.P
open Go.RowKit Go.Proofs.YtgjlgdohlmpnbaaW.PrintWords Go.Proofs.YtgjlgdohlmpnbaaW.PrintLast Go.Proofs.YtgjlgdohlmpnbaaW.PrintMore
set_option linter.unusedVariables false
set_option linter.unusedSimpArgs false

/-- does one of the first m stand for n? -/
def hasTo (N : List Int) (n : Int) : Nat → Bool
  | 0 => false
  | m + 1 => hasTo N n m || (n == rd N (m : Int))
theorem hasTo_mono {N : List Int} {n : Int} {m : Nat} (h : hasTo N n m = true) : ∀ {k : Nat}, m ≤ k → hasTo N n k = true
  | 0, hk => by obtain rfl : m = 0 := by omega
                exact h
  | k + 1, hk => by
    by_cases e : m = k + 1
    · rw [← e]; exact h
    · simp only [hasTo]; rw [hasTo_mono h (by omega : m ≤ k)]; rfl
set_option maxHeartbeats 1600000 in
theorem index_any (A : Option Addr) (c : Nat) (N : List Int) (n : Int) (W : World) (hr : Kd.C (Kd.int .i64) W A N.length N) (hN : N.length ≤ 1000000) :
    Calls Try.prog 39 #[.slice A N.length c, .int .i64 n] W fun e w' => ∃ r : Int, e = .returned (.int .i64 r) ∧ w' = W ∧ decide (0 ≤ r) = hasTo N n N.length := by
  have HR := Aside0.mk hr
  clear hr
  go_enter Try.func39, Try.ntmps39
  go_wp2
  go_loopw [8] (fun v8 w' => w' = W ∧ ∃ m : Nat, m ≤ N.length ∧ v8 = .int .i64 m ∧ Hid1 (hasTo N n m = false)) (fun v8 _ => N.length - (intOf v8).toNat)
  case atStart => exact ⟨rfl, 0, by omega, rfl, ⟨rfl⟩⟩
  case round =>
    obtain ⟨rfl, m, hm, rfl, HF⟩ := hrel
    by_cases hmt : m < N.length
    · obtain ⟨an, rfl, hcn⟩ := Kd.at_int HR.out (m : Int) (by omega) (by omega)
      rw [Int.toNat_natCast] at hcn
      by_cases hq : n = rd N (m : Int)
      · have q1 : (n == rd N (m : Int)) = true := beq_iff_eq.mpr hq
        have HX : Hid1 (hasTo N n (m + 1) = true) := ⟨by simp only [hasTo]; rw [q1]; simp⟩
        clear hq
        go_wp2
        go_ret
        exact ⟨(m : Int), rfl, by first | rfl | trivial, by rw [hasTo_mono HX.out hmt]; simp⟩
      · have q1 : (n == rd N (m : Int)) = false := beq_eq_false_iff_ne.mpr hq
        have HX : Hid1 (hasTo N n (m + 1) = false) := ⟨by simp only [hasTo]; rw [HF.out, q1]; rfl⟩
        clear hq
        go_wp2
        go_roundw
        case rel => exact ⟨by first | rfl | trivial, m + 1, by omega, by go_num, HX⟩
        case measure => simp [intOf]; omega
    · obtain rfl : m = N.length := by omega
      go_wp2
      go_ret
      exact ⟨-1, rfl, by first | rfl | trivial, by rw [HF.out]; rfl⟩
theorem contains_any (A : Option Addr) (c : Nat) (N : List Int) (n : Int) (W : World) (hr : Kd.C (Kd.int .i64) W A N.length N) (hN : N.length ≤ 1000000) :
    Calls Try.prog 35 #[.slice A N.length c, .int .i64 n] W fun e w' => e = .returned (.bool (hasTo N n N.length)) ∧ w' = W := by
  have HR := Aside0.mk hr
  clear hr
  go_enter Try.func35, Try.ntmps35
  go_wp2_with (go_at_call 39; refine (index_any A c N n _ HR.out hN).mono ?_; rintro e w' ⟨r, rfl, rfl, hx⟩; have HX := Hid1.mk hx; clear hx)
  go_ret
  exact ⟨ret_bool HX.out, by first | rfl | trivial⟩

/-- the marks behind a visit of n: those that need n, and so on -/
def visitTo (l : List S31) (go : Int → List Int → List Int) (n : Int) (S : List Int) : Nat → List Int
  | 0 => S
  | i + 1 =>
    if (i : Int) ∈ visitTo l go n S i then visitTo l go n S i
    else if hasTo (rd_T31 l (i : Int)).f1 n (rd_T31 l (i : Int)).f1.length = true then go (i : Int) ((i : Int) :: visitTo l go n S i)
    else visitTo l go n S i
def visit (l : List S31) : Nat → Int → List Int → List Int
  | 0, _, S => S
  | f + 1, n, S => visitTo l (visit l f) n S l.length
/-- how many are not marked -/
def unmarked (l : List S31) (S : List Int) : Nat := (List.range l.length).countP (fun i : Nat => decide ((i : Int) ∉ S))
theorem unmarked_cons {l : List S31} {S : List Int} {i : Nat} (hi : i < l.length) (h : (i : Int) ∉ S) : unmarked l ((i : Int) :: S) + 1 = unmarked l S := by
  have key : ∀ n, i < n → (List.range n).countP (fun j : Nat => decide ((j : Int) ∉ (i : Int) :: S)) + 1 = (List.range n).countP (fun j : Nat => decide ((j : Int) ∉ S)) := by
    intro n
    have step : ∀ n, n ≤ i → (List.range n).countP (fun j : Nat => decide ((j : Int) ∉ (i : Int) :: S)) = (List.range n).countP (fun j : Nat => decide ((j : Int) ∉ S)) := by
      intro n hn
      apply List.countP_congr
      intro j hj
      have hj := List.mem_range.1 hj
      have : (j : Int) ≠ (i : Int) := by omega
      simp [this]
    induction n with
    | zero => intro h; omega
    | succ n ih =>
      intro hn
      rw [List.range_succ, List.countP_append, List.countP_append]
      by_cases e : n = i
      · subst e
        rw [step n (Nat.le_refl _)]
        simp [h]
      · have h2 := ih (by omega)
        have : (n : Int) ≠ (i : Int) := by omega
        have e2 : List.countP (fun j : Nat => decide ((j : Int) ∉ (i : Int) :: S)) [n] = List.countP (fun j : Nat => decide ((j : Int) ∉ S)) [n] := by simp [this]
        rw [e2]
        omega
  exact key l.length hi
def marksOf (S : List Int) : List Lit := S.map (fun i => .int .i64 i)
theorem mark_mem (S : List Int) (i : Int) : decide ((Lit.int .i64 i) ∈ marksOf S) = decide (i ∈ S) := by
  rw [decide_eq_decide]
  simp [marksOf]

def ptr0 (B : Nat) : Value := .pointer (some ⟨B, 0, none⟩)
set_option maxHeartbeats 4000000 in
set_option maxRecDepth 100000 in
theorem visit_any (A : Option Addr) (c : Nat) (l : List S31) (B0 B1 B2 b : Nat) (w0 : World) (hC : Kd.C k31 w0 A l.length l) (hw0 : w0.heap.size ≤ b) (hlen : l.length ≤ 1000000) (hneed : ∀ i : Nat, (rd_T31 l (i : Int)).f1.length ≤ 1000000)
    (hb0 : B0 ≠ b) (hb1 : B1 ≠ b) (hb2 : B2 ≠ b) : ∀ (f : Nat) (n : Int) (S : List Int) (W : World), unmarked l S < f → S.length + unmarked l S = l.length → Below w0.heap.size w0 W →
    W.cell? ⟨B0, 0, none⟩ = some (.slice A l.length c) → W.cell? ⟨B1, 0, none⟩ = some (.map (some b)) → W.cell? ⟨B2, 0, none⟩ = some (.func (Fn.func 34) #[] #[.pointer (some ⟨B0, 0, none⟩), .pointer (some ⟨B1, 0, none⟩), .pointer (some ⟨B2, 0, none⟩)]) →
    SetAt W 3 b S.length (marksOf S) →
    Calls Try.prog 34 #[.int .i64 n, .pointer (some ⟨B0, 0, none⟩), .pointer (some ⟨B1, 0, none⟩), .pointer (some ⟨B2, 0, none⟩)] W fun e w' => e = .returned (.tuple #[]) ∧ SetAt w' 3 b (visit l f n S).length (marksOf (visit l f n S)) ∧ W.grownBy w' (some b) ∧
      (visit l f n S).length + unmarked l (visit l f n S) = l.length ∧ unmarked l (visit l f n S) ≤ unmarked l S
  | 0, n, S, W, hf, _, _, _, _, _, _ => absurd hf (Nat.not_lt_zero _)
  | f + 1, n, S, W, hf, hS, hbl, hc0, hc1, hc2, hset => by
    have IH := Hid1.mk (visit_any A c l B0 B1 B2 b w0 hC hw0 hlen hneed hb0 hb1 hb2 f)
    have HC := Aside0.mk hC
    have HBL := Aside0.mk hbl
    have H1 := Aside0.mk hc1
    have H2 := Aside0.mk hc2
    have H0 := Aside0.mk hc0
    have HSET := Aside0.mk hset
    have HNE := Aside0.mk hneed
    have HSL := Hid1.mk hS
    clear hC hbl hc1 hc2 hset hneed hS
    go_enter Try.func34, Try.ntmps34
    go_wp2
    clear hc0
    go_loopw [9] (fun v9 w' => ∃ i : Nat, i ≤ l.length ∧ v9 = .int .i64 i ∧ Aside0 (SetAt w' 3 b (visitTo l (visit l f) n S i).length (marksOf (visitTo l (visit l f) n S i))) ∧ Aside0 (W.grownBy w' (some b)) ∧
        Hid1 ((visitTo l (visit l f) n S i).length + unmarked l (visitTo l (visit l f) n S i) = l.length) ∧ Hid1 (unmarked l (visitTo l (visit l f) n S i) ≤ unmarked l S)) (fun v9 _ => l.length - (intOf v9).toNat)
    case atStart => exact ⟨0, by omega, rfl, HSET, ⟨World.grownBy.refl _ _⟩, HSL, ⟨Nat.le_refl _⟩⟩
    case round =>
      obtain ⟨i, hi, rfl, HT, HG, HL, HU⟩ := hrel
      by_cases hlt : i < l.length
      · obtain ⟨T, hT⟩ : ∃ T, T = visitTo l (visit l f) n S i := ⟨_, rfl⟩
        rw [← hT] at HT HL HU
        have HTE := Hid1.mk hT
        clear hT
        have BR := Aside0.mk (Below.grown HBL.out HG.out (below_size HBL.out) (fun k hk => by cases hk; exact hw0))
        obtain ⟨ad, Aj, cj, rfl, hx0, hx1, hlj, hj⟩ := at_T31 HC.out (i : Int) (by omega) (by omega)
        have hx0 := pw_cell_below BR.out hx0
        have hx1 := pw_cell_below BR.out hx1
        rw [Int.toNat_natCast] at hx0 hx1
        have HJ := Aside0.mk (Kd.C_below hj BR.out)
        clear hj hlj
        have e0 := alloc_cell' (cell_grown HG.out H0.out (by simpa using hb0))
        have e1 := alloc_cell' (cell_grown HG.out H1.out (by simpa using hb1))
        have e2 := alloc_cell' (cell_grown HG.out H2.out (by simpa using hb2))
        have hkey : keyOf Try.prog 3 (.int .i64 (i : Int)) = some (.int .i64 (i : Int)) := key_int (by omega) (by omega)
        have hlook : ∀ Y, (Instr.lookup 60 (.map (some b)) (.int .i64 (i : Int)) false).run Try.prog (wr.alloc Y) = .ok (.bool (decide ((i : Int) ∈ T))) (wr.alloc Y) := fun Y => by
          rw [(HT.out.alloc Y).look (Maps.int_keyed Try.underlying3) Try.underlying60 hkey, mark_mem]
        have HK := Hid1.mk hkey
        clear hkey
        by_cases hin : (i : Int) ∈ T
        · rw [decide_eq_true hin] at hlook
          have HX : Hid1 (visitTo l (visit l f) n S (i + 1) = T) := ⟨by simp only [visitTo]; rw [← HTE.out, if_pos hin]⟩
          clear hin
          go_wp2
          go_roundw
          case rel => exact ⟨i + 1, by omega, by go_num, ⟨by rw [HX.out]; exact HT.out.alloc _⟩, ⟨HG.out.trans (World.grownBy_alloc _ _ _)⟩, ⟨by rw [HX.out]; exact HL.out⟩, ⟨by rw [HX.out]; exact HU.out⟩⟩
          case measure => simp [intOf]; omega
        · rw [decide_eq_false hin] at hlook
          have HNL := HNE.out i
          have hun := unmarked_cons hlt hin
          have HIN := Hid1.mk hin
          clear hin
          by_cases hh : hasTo (rd_T31 l (i : Int)).f1 n (rd_T31 l (i : Int)).f1.length = true
          · have HH := Hid1.mk hh
            have HX : Hid1 (visitTo l (visit l f) n S (i + 1) = visit l f (i : Int) ((i : Int) :: T)) := ⟨by simp only [visitTo]; rw [← HTE.out, if_neg HIN.out, if_pos hh]⟩
            clear hh
            have hfu : unmarked l ((i : Int) :: T) < f := by have := HU.out; omega
            have hle : unmarked l ((i : Int) :: T) ≤ unmarked l S := by have := HU.out; omega
            have hsl : ((i : Int) :: T).length + unmarked l ((i : Int) :: T) = l.length := by have := HL.out; rw [List.length_cons]; omega
            have htl : T.length < maxLen := by have := HL.out; simp only [maxLen]; omega
            have HFU := Hid1.mk hfu
            have HSL2 := Hid1.mk hsl
            have HTL := Hid1.mk htl
            have HLE := Hid1.mk hle
            clear hun hfu hsl htl hle
            go_wp2_with (first
              | (go_at_call 35; refine (contains_any Aj cj _ n _ (Kd.C_alloc HJ.out _) HNL).mono ?_; rintro e w' ⟨rfl, rfl⟩; rw [HH.out])
              | (at_mapUpdate; refine wpList_set_put rfl _ _ _ 60 rfl 3 (Maps.int_keyed Try.underlying3) Try.underlying60 b T.length _ (HT.out.alloc _) HTL.out _ _ rfl rfl rfl HK.out ?_; intro w1 hown hgrow; have g1 := cell_grown hgrow (e1 _) (by simpa using hb1); have g2 := cell_grown hgrow (e2 _) (by simpa using hb2); have g0 := cell_grown hgrow (e0 _) (by simpa using hb0))
              | (go_at_call 34; refine (IH.out (i : Int) ((i : Int) :: T) _ HFU.out HSL2.out (Below.grown (below_alloc BR.out _) hgrow (below_size (below_alloc BR.out _)) (fun k hk => by cases hk; exact hw0)) g0 g1 g2 hown).mono ?_; rintro e w2 ⟨rfl, hs2, hg2, hl2, hu2⟩))
            go_roundw
            case rel => exact ⟨i + 1, by omega, by go_num, ⟨by rw [HX.out]; exact hs2⟩, ⟨((HG.out.trans (World.grownBy_alloc _ _ _)).trans hgrow).trans hg2⟩, ⟨by rw [HX.out]; exact hl2⟩, ⟨by rw [HX.out]; exact Nat.le_trans hu2 HLE.out⟩⟩
            case measure => simp [intOf]; omega
          · have HH := Hid1.mk (Bool.eq_false_iff.mpr hh)
            have HX : Hid1 (visitTo l (visit l f) n S (i + 1) = T) := ⟨by simp only [visitTo]; rw [← HTE.out, if_neg HIN.out, if_neg hh]⟩
            clear hh hun
            go_wp2_with (go_at_call 35; refine (contains_any Aj cj _ n _ (Kd.C_alloc HJ.out _) HNL).mono ?_; rintro e w' ⟨rfl, rfl⟩; rw [HH.out])
            go_roundw
            case rel => exact ⟨i + 1, by omega, by go_num, ⟨by rw [HX.out]; exact HT.out.alloc _⟩, ⟨HG.out.trans (World.grownBy_alloc _ _ _)⟩, ⟨by rw [HX.out]; exact HL.out⟩, ⟨by rw [HX.out]; exact HU.out⟩⟩
            case measure => simp [intOf]; omega
      · obtain rfl : i = l.length := by omega
        go_wp2
        go_end0
        exact ⟨rfl, HT.out, HG.out, HL.out, HU.out⟩

def pickTo (S : List Int) : Nat → List Int
  | 0 => []
  | i + 1 => if (i : Int) ∈ S then pickTo S i ++ [(i : Int)] else pickTo S i
theorem pickTo_len (S : List Int) : ∀ i, (pickTo S i).length ≤ i
  | 0 => Nat.le_refl _
  | i + 1 => by
    have h := pickTo_len S i
    unfold pickTo
    split
    · rw [List.length_append, List.length_singleton]; omega
    · omega
def usersOf (l : List S31) (n : Int) : List Int := if n < 0 ∨ (l.length : Int) ≤ n then [] else pickTo (visit l (l.length + 1) n []) l.length
open Go.RowKit in
theorem run_store_fn {P : Program} {w : World} {a : Addr} {f : Fn} {ts vs : Array Value} {m : Mode} : (store a (.func f ts vs) m).run P w = stored P w a (.func f ts vs) m := run_store P w a _ m rfl
attribute [local go_sem] run_store_fn
theorem unmarked_nil (l : List S31) : unmarked l [] = l.length := by simp [unmarked]
/-- the world in which Users calls its closure first -/
def usersW (w : World) (A0 : Option Addr) (n c0 : Nat) : World := (((w.alloc (.cells #[.slice A0 n c0] 22)).alloc (.map #[] 0)).alloc (.cells #[.map (some (w.heap.size + 1))] 60)).alloc (.cells #[.func (Fn.func 34) #[] #[.pointer (some ⟨w.heap.size, 0, none⟩), .pointer (some ⟨w.heap.size + 1 + 1, 0, none⟩), .pointer (some ⟨w.heap.size + 1 + 1 + 1, 0, none⟩)]] 61)
theorem users_call (A0 : Option Addr) (c0 : Nat) (l0 : List S31) (a1 : Int) (w : World) (hr0 : Kd.C k31 w A0 l0.length l0) (hlen : l0.length ≤ 1000000) (hneed : ∀ i : Nat, (rd_T31 l0 (i : Int)).f1.length ≤ 1000000) :
    Calls Try.prog 34 #[.int .i64 a1, .pointer (some ⟨w.heap.size, 0, none⟩), .pointer (some ⟨w.heap.size + 1 + 1, 0, none⟩), .pointer (some ⟨w.heap.size + 1 + 1 + 1, 0, none⟩)] (usersW w A0 l0.length c0) fun e w' => e = .returned (.tuple #[]) ∧ SetAt w' 3 (w.heap.size + 1) (visit l0 (l0.length + 1) a1 []).length (marksOf (visit l0 (l0.length + 1) a1 [])) ∧ Below w.heap.size w w' ∧ w'.cell? ⟨w.heap.size, 0, none⟩ = some (.slice A0 l0.length c0) ∧ w'.cell? ⟨w.heap.size + 1 + 1, 0, none⟩ = some (.map (some (w.heap.size + 1))) := by
  have z1 := alloc_size1 w (.cells #[.slice A0 l0.length c0] 22)
  have z2 := alloc_size1 (w.alloc (.cells #[.slice A0 l0.length c0] 22)) (.map #[] 0)
  have z3 := alloc_size1 ((w.alloc (.cells #[.slice A0 l0.length c0] 22)).alloc (.map #[] 0)) (.cells #[.map (some (w.heap.size + 1))] 60)
  have hb : Below w.heap.size w (usersW w A0 l0.length c0) := below_alloc (below_alloc (below_alloc (below_alloc (Below.refl _ _) _) _) _) _
  have k0 : (usersW w A0 l0.length c0).cell? ⟨w.heap.size, 0, none⟩ = some (.slice A0 l0.length c0) := alloc_cell' (alloc_cell' (alloc_cell' (cell_of_row _ _ 0 _ _ _ (heap_alloc_new _ _)) _) _) _
  have k1 : (usersW w A0 l0.length c0).cell? ⟨w.heap.size + 1 + 1, 0, none⟩ = some (.map (some (w.heap.size + 1))) := alloc_cell' (cell_of_row _ _ 0 _ _ _ (by have := heap_alloc_new ((w.alloc (.cells #[.slice A0 l0.length c0] 22)).alloc (.map #[] 0)) (.cells #[.map (some (w.heap.size + 1))] 60); rw [z2, z1] at this; exact this)) _
  have k2 : (usersW w A0 l0.length c0).cell? ⟨w.heap.size + 1 + 1 + 1, 0, none⟩ = some (.func (Fn.func 34) #[] #[.pointer (some ⟨w.heap.size, 0, none⟩), .pointer (some ⟨w.heap.size + 1 + 1, 0, none⟩), .pointer (some ⟨w.heap.size + 1 + 1 + 1, 0, none⟩)]) := cell_of_row _ _ 0 _ _ _ (by
    have := heap_alloc_new (((w.alloc (.cells #[.slice A0 l0.length c0] 22)).alloc (.map #[] 0)).alloc (.cells #[.map (some (w.heap.size + 1))] 60)) (.cells #[.func (Fn.func 34) #[] #[.pointer (some ⟨w.heap.size, 0, none⟩), .pointer (some ⟨w.heap.size + 1 + 1, 0, none⟩), .pointer (some ⟨w.heap.size + 1 + 1 + 1, 0, none⟩)]] 61)
    rw [z3, z2, z1] at this; exact this)
  have hs : SetAt (usersW w A0 l0.length c0) 3 (w.heap.size + 1) 0 [] := by
    have := SetAt.made (w.alloc (.cells #[.slice A0 l0.length c0] 22)) 3
    rw [z1] at this
    exact (this.alloc _).alloc _
  refine (visit_any A0 c0 l0 w.heap.size (w.heap.size + 1 + 1) (w.heap.size + 1 + 1 + 1) (w.heap.size + 1) w hr0 (by omega) hlen hneed (by omega) (by omega) (by omega) (l0.length + 1) a1 [] _ (by rw [unmarked_nil]; omega) (by rw [unmarked_nil]; simp) hb k0 k1 k2 hs).mono ?_
  rintro e w' ⟨he, h1, h2, _, _⟩
  exact ⟨he, h1, Below.grown hb h2 (below_size hb) (fun k hk => by cases hk; omega), cell_grown h2 k0 (by simp), cell_grown h2 k1 (by simp)⟩
set_option maxHeartbeats 4000000 in
set_option maxRecDepth 100000 in
theorem users_any (A0 : Option Addr) (c0 : Nat) (l0 : List S31) (a1 : Int) (w : World) (hr0 : Kd.C k31 w A0 l0.length l0) (hlen : l0.length ≤ 1000000) (hneed : ∀ i : Nat, (rd_T31 l0 (i : Int)).f1.length ≤ 1000000) :
    Calls Try.prog 21 #[.slice A0 l0.length c0, .int .i64 a1] w fun e w' => ∃ v0_ : Value, e = .returned (v0_) ∧ Kd.R (Kd.int .i64) 3 w' w.heap.size (fun _ => True) v0_ (usersOf l0 a1) ∧ Below w.heap.size w w' := by
  have HR0 := Aside0.mk hr0
  have HNE := Aside0.mk hneed
  clear hr0 hneed
  by_cases h1 : a1 < 0
  · have HX : Hid1 (usersOf l0 a1 = []) := ⟨by unfold usersOf; rw [if_pos (.inl h1)]⟩
    go_enter Try.func21, Try.ntmps21
    go_wp2
    go_ret
    exact ⟨_, rfl, by rw [HX.out]; exact Kd.R_nil _ _ _ _ _, below_alloc (Below.refl _ _) _⟩
  · by_cases h2 : (l0.length : Int) ≤ a1
    · have HX : Hid1 (usersOf l0 a1 = []) := ⟨by unfold usersOf; rw [if_pos (.inr h2)]⟩
      go_enter Try.func21, Try.ntmps21
      go_wp2
      go_ret
      exact ⟨_, rfl, by rw [HX.out]; exact Kd.R_nil _ _ _ _ _, below_alloc (Below.refl _ _) _⟩
    · have HX : Hid1 (usersOf l0 a1 = pickTo (visit l0 (l0.length + 1) a1 []) l0.length) := ⟨by unfold usersOf; rw [if_neg (by omega)]⟩
      have hmk : ∀ w, (Instr.makeMap 60 none).run Try.prog w = .ok (.map (some w.heap.size)) (w.alloc (.map #[] 0)) := fun w => run_makeMap 60 w
      have HCALL := Hid1.mk (users_call A0 c0 l0 a1 w HR0.out hlen HNE.out)
      go_enter Try.func21, Try.ntmps21
      go_wp2_with (go_at_call 34; refine HCALL.out.mono ?_; rintro e w1 ⟨rfl, hS, hB, hc0, hc1⟩)
      generalize visit l0 (l0.length + 1) a1 [] = T at HX hS
      have HS := Aside0.mk hS
      have HB := Aside0.mk hB
      have C0 := Aside0.mk hc0
      have C1 := Aside0.mk hc1
      clear hS hB hc0 hc1 HCALL
      go_loopw [7, 24] (fun v7 v24 w' => ∃ i : Nat, i ≤ l0.length ∧ v24 = .int .i64 i ∧ Aside0 (Kd.R (Kd.int .i64) 3 w' w1.heap.size (fun _ => True) v7 (pickTo T i)) ∧ Aside0 (Below w1.heap.size w1 w')) (fun _ v24 _ => l0.length - (intOf v24).toNat)
      case atStart => exact ⟨0, by omega, rfl, ⟨Kd.R_nil _ _ _ _ _⟩, ⟨Below.refl _ _⟩⟩
      case round =>
        obtain ⟨i, hi, rfl, HO, BR⟩ := hrel
        by_cases hlt : i < l0.length
        · have e1 := pw_cell_below BR.out C1.out
          have hlook : (Instr.lookup 60 (.map (some (w.heap.size + 1))) (.int .i64 (i : Int)) false).run Try.prog wr = .ok (.bool (decide ((i : Int) ∈ T))) wr := by
            rw [(HS.out.below BR.out HS.out.lt).look (Maps.int_keyed Try.underlying3) Try.underlying60 (key_int (by omega) (by omega)), mark_mem]
          have hpl := pickTo_len T i
          by_cases hin : (i : Int) ∈ T
          · rw [decide_eq_true hin] at hlook
            have HP : Hid1 (pickTo T (i + 1) = pickTo T i ++ [(i : Int)]) := ⟨by simp only [pickTo]; rw [if_pos hin]⟩
            clear hin
            obtain ⟨Ao, co, rfl⟩ := Kd.R_slice HO.out
            go_wp2_with ((with_reducible refine gate_builtin (b := .append) (xs := #[.tmp 30, .tmp 32]) rfl ?_); (try (refine gate_guard (by rfl) ?_; dsimp only)); at_builtin; refine Kd.R_append (Kd.int .i64) (w0 := w1) w1.heap.size rfl (.tmp 30) (.tmp 32) 25 3 (.int .i64 0) 8 rfl Try.underlying25 info3 rfl (by decide) (by omega) _ (pickTo T i) (i : Int) [.int .i64 i] (fun _ => True) (fun _ => False) rfl rfl ?aP (fun _ hk => hk.elim) ?aF ?aO ?aB ?aS ?aL ?_; (case aP => exact rfl); (case aB => exact BR.out); (case aF => exact (fun _ _ => trivial)); (case aO => exact HO.out); (case aS => exact (below_size BR.out)); (case aL => omega); intro vv w20 ho hb hg hat)
            go_roundw
            case rel => exact ⟨i + 1, by omega, by go_num, ⟨by rw [HP.out]; exact ho⟩, ⟨hb⟩⟩
            case measure => simp [intOf]; omega
          · rw [decide_eq_false hin] at hlook
            have HP : Hid1 (pickTo T (i + 1) = pickTo T i) := ⟨by simp only [pickTo]; rw [if_neg hin]⟩
            clear hin
            go_wp2
            go_roundw
            case rel => exact ⟨i + 1, by omega, by go_num, ⟨by rw [HP.out]; exact HO.out⟩, BR⟩
            case measure => simp [intOf]; omega
        · obtain rfl : i = l0.length := by omega
          go_wp2
          go_ret
          exact ⟨_, rfl, by rw [HX.out]; exact Kd.R_lower HO.out (below_size HB.out), below_step HB.out BR.out⟩
def graph_Users.f (l : List S31) (n : Int) : Option (List Int) := if fewJ l then some (usersOf l n) else none
theorem graph_Users.calls (A0 : Option Addr) (c0 : Nat) (l0 : List S31) (a1 : Int) (r : List Int) (w : World) (hr0 : Kd.C k31 w A0 l0.length l0) (hc0 : l0.length ≤ c0) (h : graph_Users.f l0 a1 = some r) :
    Calls Try.prog 21 #[.slice A0 l0.length c0, .int .i64 a1] w fun e w' => ∃ v0_ : Value, e = .returned (v0_) ∧ Kd.R (Kd.int .i64) 3 w' w.heap.size (fun _ => True) v0_ r ∧ Below w.heap.size w w' := by
  unfold graph_Users.f at h
  by_cases hf : fewJ l0
  · rw [if_pos hf] at h
    obtain rfl := Option.some.inj h
    exact users_any A0 c0 l0 a1 w hr0 hf.1 (few_need hf)
  · rw [if_neg hf] at h; cases h
end Go.Proofs.Ytgjlgdohlmpnbaa.P
