/- The contract of graph.Order. -/
import Derived.Test.YtgjlgdohlmpnbaaG1
import Derived.Test.YtgjlgdohlmpnbaaM1
import Derived.Scope
import Derived.WalkMore
import Derived.ScopeJumps
namespace Go.Proofs.Ytgjlgdohlmpnbaa.P
open Go.RowKit Go.Proofs.YtgjlgdohlmpnbaaW.PrintWords Go.Proofs.YtgjlgdohlmpnbaaW.PrintLast Go.Proofs.YtgjlgdohlmpnbaaW.PrintMore
set_option linter.unusedVariables false
set_option linter.unusedSimpArgs false

instance decBA : DecidableEq ByteArray := fun a b => decidable_of_iff (a.data = b.data) ⟨fun h => ByteArray.ext h, fun h => by rw [h]⟩
def outOf (len : Nat) (n : Int) : Bool := decide (n < 0 ∨ (len : Int) ≤ n)
def outTo (l : List S31) (i : Nat) : Nat → Bool
  | 0 => false
  | m + 1 => outTo l i m || outOf l.length (rd (rd_T31 l (i : Int)).f1 (m : Int))
def badTo (l : List S31) : Nat → Bool
  | 0 => false
  | i + 1 => badTo l i || outTo l i (rd_T31 l (i : Int)).f1.length
def keysTo (l : List S31) : Nat → List ByteArray
  | 0 => []
  | i + 1 => (rd_T31 l (i : Int)).f0 :: keysTo l i
def twiceTo (l : List S31) : Nat → Bool
  | 0 => false
  | i + 1 => twiceTo l i || (keysTo l i).any (fun s => decide (s = (rd_T31 l (i : Int)).f0))
def litOf (s : ByteArray) : Lit := .string s.data.toList
theorem any_lit (ks : List ByteArray) (s : ByteArray) : decide (litOf s ∈ ks.map litOf) = ks.any (fun t => decide (t = s)) := by
  rw [Bool.eq_iff_iff]
  simp only [decide_eq_true_eq, List.mem_map, List.any_eq_true]
  constructor
  · rintro ⟨t, ht, e⟩; exact ⟨t, ht, lit_bytes.mp e⟩
  · rintro ⟨t, ht, rfl⟩; exact ⟨t, ht, rfl⟩
theorem outTo_mono {l : List S31} {i m : Nat} (h : outTo l i m = true) : ∀ {n : Nat}, m ≤ n → outTo l i n = true
  | 0, hn => by obtain rfl : m = 0 := by omega
                exact h
  | n + 1, hn => by
    by_cases e : m = n + 1
    · rw [← e]; exact h
    · simp only [outTo]; rw [outTo_mono h (by omega : m ≤ n)]; rfl
theorem badTo_mono {l : List S31} {m : Nat} (h : badTo l m = true) : ∀ {n : Nat}, m ≤ n → badTo l n = true
  | 0, hn => by obtain rfl : m = 0 := by omega
                exact h
  | n + 1, hn => by
    by_cases e : m = n + 1
    · rw [← e]; exact h
    · simp only [badTo]; rw [badTo_mono h (by omega : m ≤ n)]; rfl
theorem twiceTo_mono {l : List S31} {m : Nat} (h : twiceTo l m = true) : ∀ {n : Nat}, m ≤ n → twiceTo l n = true
  | 0, hn => by obtain rfl : m = 0 := by omega
                exact h
  | n + 1, hn => by
    by_cases e : m = n + 1
    · rw [← e]; exact h
    · simp only [twiceTo]; rw [twiceTo_mono h (by omega : m ≤ n)]; rfl
/-- the better one of two: the later, if there is none yet or its name is less -/
def bestTo (l : List S31) (rs : List Int) : Nat → Int
  | 0 => -1
  | m + 1 => if bestTo l rs m < 0 then rd rs (m : Int) else if Op.bytesLess ((rd_T31 l (rd rs (m : Int))).f0).toList ((rd_T31 l (bestTo l rs m)).f0).toList = true then rd rs (m : Int) else bestTo l rs m
def orderGo (l : List S31) : Nat → List Bool → List Int → List Int
  | 0, _, out => out
  | k + 1, done, out =>
    if bestTo l (readyTo l done l.length) (readyTo l done l.length).length < 0 then out
    else orderGo l k (done.set (bestTo l (readyTo l done l.length) (readyTo l done l.length).length).toNat true) (out ++ [bestTo l (readyTo l done l.length) (readyTo l done l.length).length])
theorem ready_mem (l : List S31) (done : List Bool) : ∀ (n : Nat) (x : Int), x ∈ readyTo l done n → 0 ≤ x ∧ x < n ∧ freeJ l done x.toNat = true
  | 0, x, h => by simp [readyTo] at h
  | n + 1, x, h => by
    unfold readyTo at h
    by_cases hf : freeJ l done n = true
    · rw [if_pos hf] at h
      rcases List.mem_append.1 h with h | h
      · have := ready_mem l done n x h; exact ⟨this.1, by omega, this.2.2⟩
      · obtain rfl : x = (n : Int) := by simpa using h
        exact ⟨by omega, by omega, by simpa using hf⟩
    · rw [if_neg hf] at h
      have := ready_mem l done n x h; exact ⟨this.1, by omega, this.2.2⟩
theorem rd_mem (xs : List Int) (m : Nat) (h : m < xs.length) : rd xs (m : Int) ∈ xs := by
  have : rd xs (m : Int) = xs[m] := by simp [rd, h]
  rw [this]; exact List.getElem_mem h
theorem best_mem (l : List S31) (rs : List Int) : ∀ m, m ≤ rs.length → bestTo l rs m = -1 ∨ bestTo l rs m ∈ rs
  | 0, _ => .inl rfl
  | m + 1, h => by
    unfold bestTo
    have hm := rd_mem rs m h
    split
    · exact .inr hm
    · split
      · exact .inr hm
      · exact best_mem l rs m (by omega)
/-- how many are not done yet -/
def undone (done : List Bool) : Nat := done.countP (fun b => !b)
theorem undone_rep (n : Nat) : undone (List.replicate n false) = n := by simp [undone, List.countP_replicate]
theorem undone_set : ∀ (done : List Bool) (k : Nat), k < done.length → done.getD k false = false → undone (done.set k true) + 1 = undone done
  | [], k, h, _ => absurd h (Nat.not_lt_zero _)
  | x :: r, 0, _, h => by
    have : x = false := by simpa using h
    subst this
    simp [undone]
  | x :: r, k + 1, hk, h => by
    have e := undone_set r k (Nat.lt_of_succ_lt_succ hk) (by simpa using h)
    simp only [undone, List.set_cons_succ, List.countP_cons] at e ⊢
    omega
theorem free_undone {l : List S31} {done : List Bool} {i : Nat} (hl : i < l.length) (hd : i < done.length) (h : freeJ l done i = true) : done.getD i false = false := by
  unfold freeJ at h
  have h1 : isDone l.length done (i : Int) = false := by
    cases e : isDone l.length done (i : Int)
    · rfl
    · rw [e] at h; simp at h
  unfold isDone at h1
  rw [decide_eq_true (by omega)] at h1
  simpa using h1
def orderOf (l : List S31) : List Int × Int :=
  if badTo l l.length = true then ([], 1) else if twiceTo l l.length = true then ([], 9) else
    if (orderGo l (l.length + 1) (List.replicate l.length false) []).length < l.length then ([], 13) else (orderGo l (l.length + 1) (List.replicate l.length false) [], 0)
theorem wp_scope_pass {P : Program} {a : Act} {w : World} {Q : Exit → Act → World → Prop} {c rest : Code} (l : Nat) (J : Act → World → Prop) (μ : Act → World → Nat) (hf : findLabel c l = some (Code.skip.seq rest))
    (pass : ∀ a w, J a w → rest.wp P (Exit.jump l (fun a' w' => J a' w' ∧ μ a' w' < μ a w) Q) a w)
    (first : (∀ a w, J a w → rest.wp P (Exit.jump l J Q) a w) → c.wp P (Exit.jump l J Q) a w) : (Code.scope c).wp P Q a w :=
  wp_scope_jumps l J μ hf (first fun a w hJ => Code.wp_mono (fun e a' w' h => by cases e <;> first | exact h | exact ⟨h.1, h.2.1⟩) (pass a w hJ)) (fun a w hJ => wp_seq (wp_skip (pass a w hJ)))
def lenOf : Value → Nat | .slice _ n _ => n | _ => 0
def orderJ (A0 : Option Addr) (c0 : Nat) (l0 : List S31) (w : World) (a' : Act) (w' : World) : Prop :=
  ∃ (done : List Bool) (out : List Int) (vd : Value) (Ao : Option Addr) (co : Nat) (u : Nat → Value), a' = { tmps := #[.slice A0 l0.length c0, u 1, u 2, u 3, u 4, u 5, u 6, u 7, u 8, u 9, u 10, vd, .slice Ao out.length co, u 13, u 14, u 15, u 16, u 17, u 18, u 19, u 20, u 21, u 22, u 23, u 24, u 25, u 26, u 27, u 28, u 29, u 30, u 31, u 32, u 33, u 34, u 35, u 36, u 37, u 38, u 39, u 40, u 41, u 42, u 43, u 44, u 45, u 46, u 47, u 48, u 49, u 50, u 51, u 52, u 53, u 54, u 55, u 56, u 57, u 58, u 59, u 60, u 61, u 62, u 63, u 64, u 65, u 66, u 67, u 68, u 69, u 70, u 71, u 72, u 73, u 74, u 75, u 76, u 77, u 78, u 79, u 80, u 81, u 82, u 83, u 84, u 85, u 86, u 87, u 88, u 89, u 90, u 91, u 92, u 93, u 94, u 95, u 96], defers := [] } ∧ Hid1 (badTo l0 l0.length = false) ∧ Hid1 (twiceTo l0 l0.length = false) ∧ done.length = l0.length ∧ out.length + undone done = l0.length ∧ Hid1 (orderGo l0 (undone done + 1) done out = orderGo l0 (l0.length + 1) (List.replicate l0.length false) []) ∧ Aside0 (Kd.R Kd.bool 4 w' w.heap.size (fun _ => True) vd done) ∧ Aside0 (Kd.R (Kd.int .i64) 3 w' w.heap.size (fun _ => True) (.slice Ao out.length co) out) ∧ Aside0 (Below w.heap.size w w')
theorem orderJ_elim {A0 : Option Addr} {c0 : Nat} {l0 : List S31} {w : World} {P : Act → World → Prop}
    (h : ∀ (w' : World) (done : List Bool) (out : List Int) (vd : Value) (Ao : Option Addr) (co : Nat) (u : Nat → Value), Hid1 (badTo l0 l0.length = false) → Hid1 (twiceTo l0 l0.length = false) → done.length = l0.length → out.length + undone done = l0.length → Hid1 (orderGo l0 (undone done + 1) done out = orderGo l0 (l0.length + 1) (List.replicate l0.length false) []) → Aside0 (Kd.R Kd.bool 4 w' w.heap.size (fun _ => True) vd done) → Aside0 (Kd.R (Kd.int .i64) 3 w' w.heap.size (fun _ => True) (.slice Ao out.length co) out) → Aside0 (Below w.heap.size w w') → P { tmps := #[.slice A0 l0.length c0, u 1, u 2, u 3, u 4, u 5, u 6, u 7, u 8, u 9, u 10, vd, .slice Ao out.length co, u 13, u 14, u 15, u 16, u 17, u 18, u 19, u 20, u 21, u 22, u 23, u 24, u 25, u 26, u 27, u 28, u 29, u 30, u 31, u 32, u 33, u 34, u 35, u 36, u 37, u 38, u 39, u 40, u 41, u 42, u 43, u 44, u 45, u 46, u 47, u 48, u 49, u 50, u 51, u 52, u 53, u 54, u 55, u 56, u 57, u 58, u 59, u 60, u 61, u 62, u 63, u 64, u 65, u 66, u 67, u 68, u 69, u 70, u 71, u 72, u 73, u 74, u 75, u 76, u 77, u 78, u 79, u 80, u 81, u 82, u 83, u 84, u 85, u 86, u 87, u 88, u 89, u 90, u 91, u 92, u 93, u 94, u 95, u 96], defers := [] } w') :
    ∀ a' w', orderJ A0 c0 l0 w a' w' → P a' w' := by
  intro a' w' hj
  obtain ⟨done, out, vd, Ao, co, u, e, h1, h2, h3, h4, h5, h6, h7, h8⟩ := hj
  rw [e]
  exact h w' done out vd Ao co u h1 h2 h3 h4 h5 h6 h7 h8
theorem orderJ_intro {A0 : Option Addr} {c0 : Nat} {l0 : List S31} {w w' : World} {t : Array Value} (done : List Bool) (out : List Int) (vd : Value) (Ao : Option Addr) (co : Nat)
    (ht : t = #[.slice A0 l0.length c0, t.getD 1 undef, t.getD 2 undef, t.getD 3 undef, t.getD 4 undef, t.getD 5 undef, t.getD 6 undef, t.getD 7 undef, t.getD 8 undef, t.getD 9 undef, t.getD 10 undef, vd, .slice Ao out.length co, t.getD 13 undef, t.getD 14 undef, t.getD 15 undef, t.getD 16 undef, t.getD 17 undef, t.getD 18 undef, t.getD 19 undef, t.getD 20 undef, t.getD 21 undef, t.getD 22 undef, t.getD 23 undef, t.getD 24 undef, t.getD 25 undef, t.getD 26 undef, t.getD 27 undef, t.getD 28 undef, t.getD 29 undef, t.getD 30 undef, t.getD 31 undef, t.getD 32 undef, t.getD 33 undef, t.getD 34 undef, t.getD 35 undef, t.getD 36 undef, t.getD 37 undef, t.getD 38 undef, t.getD 39 undef, t.getD 40 undef, t.getD 41 undef, t.getD 42 undef, t.getD 43 undef, t.getD 44 undef, t.getD 45 undef, t.getD 46 undef, t.getD 47 undef, t.getD 48 undef, t.getD 49 undef, t.getD 50 undef, t.getD 51 undef, t.getD 52 undef, t.getD 53 undef, t.getD 54 undef, t.getD 55 undef, t.getD 56 undef, t.getD 57 undef, t.getD 58 undef, t.getD 59 undef, t.getD 60 undef, t.getD 61 undef, t.getD 62 undef, t.getD 63 undef, t.getD 64 undef, t.getD 65 undef, t.getD 66 undef, t.getD 67 undef, t.getD 68 undef, t.getD 69 undef, t.getD 70 undef, t.getD 71 undef, t.getD 72 undef, t.getD 73 undef, t.getD 74 undef, t.getD 75 undef, t.getD 76 undef, t.getD 77 undef, t.getD 78 undef, t.getD 79 undef, t.getD 80 undef, t.getD 81 undef, t.getD 82 undef, t.getD 83 undef, t.getD 84 undef, t.getD 85 undef, t.getD 86 undef, t.getD 87 undef, t.getD 88 undef, t.getD 89 undef, t.getD 90 undef, t.getD 91 undef, t.getD 92 undef, t.getD 93 undef, t.getD 94 undef, t.getD 95 undef, t.getD 96 undef]) (hf : Hid1 (badTo l0 l0.length = false) ∧ Hid1 (twiceTo l0 l0.length = false) ∧ done.length = l0.length ∧ out.length + undone done = l0.length ∧ Hid1 (orderGo l0 (undone done + 1) done out = orderGo l0 (l0.length + 1) (List.replicate l0.length false) []) ∧ Aside0 (Kd.R Kd.bool 4 w' w.heap.size (fun _ => True) vd done) ∧ Aside0 (Kd.R (Kd.int .i64) 3 w' w.heap.size (fun _ => True) (.slice Ao out.length co) out) ∧ Aside0 (Below w.heap.size w w')) : orderJ A0 c0 l0 w { tmps := t, defers := [] } w' :=
  ⟨done, out, vd, Ao, co, fun k => t.getD k undef, congrArg (fun t => Act.mk t []) ht, hf⟩
def orderM (l0 : List S31) (a' : Act) (_ : World) : Nat := l0.length - lenOf (a'.tmps.getD 12 undef)
set_option maxHeartbeats 8000000 in
set_option maxRecDepth 100000 in
theorem order_any (A0 : Option Addr) (c0 : Nat) (l0 : List S31) (w : World) (hr0 : Kd.C k31 w A0 l0.length l0) (hc0 : l0.length ≤ c0) (hlen : l0.length ≤ 1000000) (hneed : ∀ i : Nat, (rd_T31 l0 (i : Int)).f1.length ≤ 1000000) (hname : ∀ i : Nat, (rd_T31 l0 (i : Int)).f0.size ≤ 1000000) :
    Calls Try.prog 16 #[.slice A0 l0.length c0] w fun e w' => ∃ v0_ : Value, e = .returned (.tuple #[v0_, .int .i64 (orderOf l0).2]) ∧ Kd.R (Kd.int .i64) 3 w' w.heap.size (fun _ => True) v0_ (orderOf l0).1 ∧ Below w.heap.size w w' := by
  have HR0 := Aside0.mk hr0
  have HB0 := Aside0.mk (Below.refl w.heap.size w)
  have HNE := Aside0.mk hneed
  have HNA := Aside0.mk hname
  clear hr0 hneed hname
  go_enter Try.func16, Try.ntmps16
  go_wp2
  refine wp_scope_pass 0 (orderJ A0 c0 l0 w) (orderM l0) rfl ?_ ?_
  · clear HB0
    refine orderJ_elim ?_
    intro w' done out vd Ao co u HBAD HTW hdl hou HGO HD HO HB
    show Code.wp Try.prog _ _ _ _
    obtain ⟨Ad, cd, evd⟩ := Kd.R_slice HD.out
    rw [hdl] at evd
    subst evd
    have hmem := ready_mem l0 done l0.length
    have hgo : (if bestTo l0 (readyTo l0 done l0.length) (readyTo l0 done l0.length).length < 0 then out
        else orderGo l0 (undone done) (done.set (bestTo l0 (readyTo l0 done l0.length) (readyTo l0 done l0.length).length).toNat true) (out ++ [bestTo l0 (readyTo l0 done l0.length) (readyTo l0 done l0.length).length])) = orderGo l0 (l0.length + 1) (List.replicate l0.length false) [] := HGO.out
    have hrlen := readyTo_len l0 done l0.length
    obtain ⟨rs, hrs⟩ : ∃ rs, rs = readyTo l0 done l0.length := ⟨_, rfl⟩
    rw [← hrs] at hmem hgo hrlen
    have hbest := best_mem l0 rs
    have HM := Hid1.mk hmem
    have HBE := Hid1.mk hbest
    have HGO := Hid1.mk hgo
    have HRS := Hid1.mk hrs
    have hra : ∀ W : World, Kd.C k31 W A0 l0.length l0 → Kd.C Kd.bool W Ad done.length done → Calls Try.prog 19 #[.slice A0 l0.length c0, .slice Ad l0.length cd] W fun e w' => ∃ v0_ : Value, e = .returned v0_ ∧ Kd.R (Kd.int .i64) 3 w' W.heap.size (fun _ => True) v0_ rs ∧ Below W.heap.size W w' := fun W a b => by
      have := ready_any A0 c0 l0 Ad cd done W a b hlen HNE.out
      rw [hdl, ← hrs] at this
      exact this
    have HRA := Hid1.mk hra
    have HDL := Hid1.mk hdl
    clear hmem hgo hrs hbest hra hdl
    go_wp2_with ((with_reducible refine gate_callee (f := 19) rfl ?_); refine goesL_ (some 59) rfl rfl Try.func19 (by kernel_rfl) rfl #[.slice A0 l0.length c0, .slice Ad l0.length cd] rfl (by (try simp only [List.map_toArray, List.map_cons, List.map_nil]); first | done | rfl) ?_; (with_reducible refine (HRA.out _ ?side1 ?side2).mono ?_); (case side1 => exact (Kd.C_below HR0.out HB.out)); (case side2 => exact ((Kd.R_reads' HD.out).2.2)); rintro e w1 ⟨vr, rfl, hr, hb1⟩; refine ⟨_, rfl, ?_⟩; obtain ⟨Ar, cr, rfl⟩ := Kd.R_slice hr)
    have HD1 := Aside0.mk (Kd.R_below HD.out hb1)
    have HO1 := Aside0.mk (Kd.R_below HO.out hb1)
    have HB1 := Aside0.mk (below_step HB.out hb1)
    have HR1 := Aside0.mk (Kd.R_reads' hr).2.2
    have HC1 := Aside0.mk (Kd.C_below HR0.out HB1.out)
    clear HD HO HB hr hb1
    go_loopw [13, 61] (fun v13 v61 w2 => ∃ m : Nat, m ≤ rs.length ∧ v13 = .int .i64 (bestTo l0 rs m) ∧ v61 = .int .i64 m ∧ Aside0 (Below w1.heap.size w1 w2))
      (fun _ v61 _ => rs.length - (intOf v61).toNat)
    case atStart => exact ⟨0, by omega, rfl, rfl, ⟨Below.refl _ _⟩⟩
    case round =>
      obtain ⟨m, hm, rfl, rfl, BR⟩ := hrel
      by_cases hmt : m < rs.length
      · obtain ⟨an, rfl, hcn⟩ := Kd.at_int HR1.out (m : Int) (by omega) (by omega)
        have hcn := pw_cell_below BR.out hcn
        rw [Int.toNat_natCast] at hcn
        have hi0 := HM.out _ (rd_mem rs m hmt)
        have hb0 := HBE.out m hm
        obtain ⟨i, hiE⟩ : ∃ i, i = rd rs (m : Int) := ⟨_, rfl⟩
        obtain ⟨b, hbE⟩ : ∃ b, b = bestTo l0 rs m := ⟨_, rfl⟩
        rw [← hiE] at hi0 hcn
        rw [← hbE] at hb0 ⊢
        have hi1 := hi0.1
        have hi2 := hi0.2.1
        have hb1 : b < 0 ∨ (0 ≤ b ∧ b < l0.length) := hb0.imp (fun h => by omega) (fun h => ⟨(HM.out _ h).1, (HM.out _ h).2.1⟩)
        have HIE := Hid1.mk hiE
        have HBEE := Hid1.mk hbE
        clear hi0 hb0 hiE hbE
        by_cases hneg : b < 0
        · have HX : Hid1 (bestTo l0 rs (m + 1) = i) := ⟨by simp only [bestTo]; rw [← HBEE.out, if_pos hneg, HIE.out]⟩
          clear hb1
          have qn : decide (b < 0) = true := decide_eq_true hneg
          go_wp2
          repeat (go_quiet (fail))
          try go_wp2
          go_roundw
          case rel => exact ⟨m + 1, by omega, by rw [HX.out], by go_num, ⟨by first | exact BR.out | exact pw_below_drewN BR.out _⟩⟩
          case measure => simp [intOf]; omega
        · obtain ⟨hb2, hb3⟩ : 0 ≤ b ∧ b < l0.length := hb1.resolve_left hneg
          have qn : decide (b < 0) = false := decide_eq_false hneg
          clear hb1
          obtain ⟨ad, Aj, cj, rfl, hx0, hx1, hlj, hj⟩ := at_T31 HC1.out i hi1 hi2
          obtain ⟨ad', Aj', cj', e', hy0, hy1, hlj', hj'⟩ := at_T31 HC1.out b hb2 hb3
          obtain rfl : ad = ad' := by injection e'
          have hx0 := pw_cell_below BR.out hx0
          have hy0 := pw_cell_below BR.out hy0
          clear hx1 hlj hj hy1 hlj' hj' e'
          by_cases hless : Op.bytesLess ((rd_T31 l0 i).f0).toList ((rd_T31 l0 b).f0).toList = true
          · have HX : Hid1 (bestTo l0 rs (m + 1) = i) := ⟨by simp only [bestTo]; rw [← HBEE.out, if_neg hneg, ← HIE.out, if_pos hless]⟩
            go_wp2
            repeat (go_quiet (fail))
            try go_wp2
            go_roundw
            case rel => exact ⟨m + 1, by omega, by rw [HX.out], by go_num, ⟨by first | exact BR.out | exact pw_below_drewN BR.out _⟩⟩
            case measure => simp [intOf]; omega
          · have HX : Hid1 (bestTo l0 rs (m + 1) = b) := ⟨by simp only [bestTo]; rw [← HBEE.out, if_neg hneg, ← HIE.out, if_neg hless]⟩
            have hless := Bool.eq_false_iff.mpr hless
            go_wp2
            repeat (go_quiet (fail))
            try go_wp2
            go_roundw
            case rel => exact ⟨m + 1, by omega, by rw [HX.out], by go_num, ⟨by first | exact BR.out | exact pw_below_drewN BR.out _⟩⟩
            case measure => simp [intOf]; omega
      · obtain rfl : m = rs.length := by omega
        have hb0 := HBE.out rs.length (Nat.le_refl _)
        obtain ⟨b, hbE⟩ : ∃ b, b = bestTo l0 rs rs.length := ⟨_, rfl⟩
        have hgo := HGO.out
        rw [← hbE] at hb0 hgo ⊢
        clear hbE
        by_cases hneg : b < 0
        · rw [if_pos hneg] at hgo
          have HG := Hid1.mk hgo
          clear hgo hb0
          by_cases hol : out.length < l0.length
          · go_wp2
            simp only [Exit.jump]
            go_ret2
            unfold orderOf
            rw [if_neg (by rw [HBAD.out]; decide), if_neg (by rw [HTW.out]; decide), ← HG.out, if_pos hol]
            exact ⟨_, rfl, Kd.R_nil _ _ _ _ _, below_step HB1.out BR.out⟩
          · go_wp2
            simp only [Exit.jump]
            go_ret2
            unfold orderOf
            rw [if_neg (by rw [HBAD.out]; decide), if_neg (by rw [HTW.out]; decide), ← HG.out, if_neg hol]
            exact ⟨_, rfl, Kd.R_below HO1.out BR.out, below_step HB1.out BR.out⟩
        · rw [if_neg hneg] at hgo
          have hbm := HM.out b (hb0.resolve_left (by omega))
          have HG := Hid1.mk hgo
          have hb2 := hbm.1
          have hb3 := hbm.2.1
          have hfr : done.getD b.toNat false = false := free_undone (by omega) (by have := HDL.out; omega) hbm.2.2
          have hus := undone_set done b.toNat (by have := HDL.out; omega) hfr
          have HG2 : Hid1 (orderGo l0 (undone (done.set b.toNat true) + 1) (done.set b.toNat true) (out ++ [b]) = orderGo l0 (l0.length + 1) (List.replicate l0.length false) []) := ⟨by rw [hus]; exact hgo⟩
          have HD2 := Kd.R_below HD1.out BR.out
          have HO2 := Aside0.mk (Kd.R_below HO1.out BR.out)
          have HB2 := Aside0.mk (below_step HB1.out BR.out)
          clear hgo hb0 hbm hfr HG HD1 HO1
          obtain ⟨gd, cd', ed, gb, gl, cl, HGd⟩ := Kd.R_form HD2 (by have := HDL.out; omega)
          injection ed with ea en ec
          subst ea
          subst ec
          clear en
          have GB := Aside0.mk gb
          clear gb gl HGd
          obtain ⟨hxd, hfd⟩ := Kd.R_celln false HD2 b hb2 (by omega)
          have HP := Aside0.mk (Kd.R_putg HD2 b true)
          have HD2 := Aside0.mk HD2
          go_wp2_with (first | ((with_reducible refine gate_store (t := 4) (p := 86) rfl ?_); refine store_event (t := 4) (p := 86) (v := ?vo) (w1 := (wr.setCell ⟨gd, b.toNat, none⟩ (.bool true))) ?hg ?ho ?hn ?hr ?_; (case ho => rfl); (case hg => rfl); (case hn => rfl); (case hr => first | (go_simp; done) | (go_simp; rfl)); intro w4 hw; have n0 := Aside0.mk (show Kd.R Kd.bool 4 w4 w.heap.size (fun _ => True) (.slice (some ⟨gd, 0, none⟩) l0.length cd) (done.set b.toNat true) from by rw [hw]; exact HP.out.1); have n1 := Aside0.mk (Kd.R_over' (v := (.slice (some ⟨gd, 0, none⟩) l0.length cd)) (w1 := w4) HO2.out (Kd.R_typed HD2.out) (by decide) (by rw [hw]; exact HP.out.2)); have n2 := Aside0.mk (show Below w.heap.size w w4 from by rw [hw]; exact below_set HB2.out GB.out); clear HO2 HD2 HP hw; have HD4 := n0; have HO4 := n1; have HB4 := n2; clear n0 n1 n2) | ((with_reducible refine gate_builtin (b := .append) (xs := #[.tmp 87, .tmp 89]) rfl ?_); (try (refine gate_guard (by rfl) ?_; dsimp only)); at_builtin; refine Kd.R_append (Kd.int .i64) (w0 := w) w.heap.size rfl (.tmp 87) (.tmp 89) 25 3 (.int .i64 0) 8 rfl Try.underlying25 info3 rfl (by decide) (by omega) _ out b [.int .i64 b] (fun _ => True) (fun _ => False) rfl rfl ?aP (fun _ hk => hk.elim) ?aF ?aO ?aB ?aS ?aL ?_; (case aP => exact rfl); (case aB => exact HB4.out); (case aF => exact (fun _ _ => trivial)); (case aO => exact HO4.out); (case aS => exact (below_size HB4.out)); (case aL => omega); intro vv w5 ho hb hg hat; have n0 := Aside0.mk (Kd.R_over' (w1 := w5) HD4.out (Kd.R_typed HO4.out) (by decide) hg); obtain ⟨Av, cv, rfl⟩ := Kd.R_slice ho; have n1 := Aside0.mk ho; have n2 := Aside0.mk hb; clear HD4 HO4 HB4 ho hb hg hat; have HD5 := n0; have HO5 := n1; have HB5 := n2; clear n0 n1 n2))
          go_step3
          refine ⟨rfl, orderJ_intro (done.set b.toNat true) (out ++ [b]) (.slice (some ⟨gd, 0, none⟩) l0.length cd) Av cv (by rw [show (out ++ [b]).length = out.length + 1 from by simp]; rfl) ⟨HBAD, HTW, by rw [List.length_set]; exact HDL.out, by rw [List.length_append, List.length_singleton]; omega, HG2, HD5, HO5, HB5⟩, ?_⟩
          show l0.length - (out.length + 1) < l0.length - out.length
          omega
  intro hpass
  go_wp2
  go_loopw [18] (fun v18 w' => ∃ i : Nat, i ≤ l0.length ∧ v18 = .int .i64 i ∧ Hid1 (badTo l0 i = false) ∧ Aside0 (Below w.heap.size w w'))
    (fun v18 _ => l0.length - (intOf v18).toNat)
  case atStart => exact ⟨0, by omega, rfl, ⟨rfl⟩, HB0⟩
  case round =>
    obtain ⟨i, hi, rfl, HBAD, BR⟩ := hrel
    by_cases hlt : i < l0.length
    · obtain ⟨ad, Aj, cj, rfl, hx0, hx1, hlj, hj⟩ := at_T31 HR0.out (i : Int) (by omega) (by omega)
      have hx0 := pw_cell_below BR.out hx0
      have hx1 := pw_cell_below BR.out hx1
      rw [Int.toNat_natCast] at hx0 hx1
      have HJ := Aside0.mk (Kd.C_below hj BR.out)
      clear hj hlj
      go_wp2
      have HH := Hid1.mk (And.intro hx0 hx1)
      clear hx0 hx1
      obtain ⟨W, hW⟩ : ∃ W, W = wr.alloc (Obj.cells #[Value.string (rd_T31 l0 ↑i).f0, Value.slice Aj (rd_T31 l0 ↑i).f1.length cj] 31) := ⟨_, rfl⟩
      have BW : Below w.heap.size w W := hW ▸ below_alloc BR.out _
      have HJW : Kd.C (Kd.int .i64) W Aj (rd_T31 l0 ↑i).f1.length (rd_T31 l0 ↑i).f1 := hW ▸ Kd.C_alloc HJ.out _
      rw [← hW]
      have BW := Aside0.mk BW
      have HJW := Aside0.mk HJW
      have HNL := HNE.out i
      clear hW HJ BR
      go_loopw [25] (fun v25 w' => w' = W ∧ ∃ m : Nat, m ≤ (rd_T31 l0 ↑i).f1.length ∧ v25 = .int .i64 m ∧ Hid1 (outTo l0 i m = false))
        (fun v25 _ => (rd_T31 l0 ↑i).f1.length - (intOf v25).toNat)
      case atStart => exact ⟨rfl, 0, by omega, rfl, ⟨rfl⟩⟩
      case round =>
        obtain ⟨rfl, m, hm, rfl, HOUT⟩ := hrel
        by_cases hmt : m < (rd_T31 l0 ↑i).f1.length
        · obtain ⟨an, rfl, hcn⟩ := Kd.at_int HJW.out (m : Int) (by omega) (by omega)
          rw [Int.toNat_natCast] at hcn
          by_cases hneg : rd (rd_T31 l0 ↑i).f1 ↑m < 0
          · have HX : Hid1 (outTo l0 i (m + 1) = true) := ⟨by simp only [outTo, outOf]; rw [decide_eq_true (Or.inl hneg)]; simp⟩
            go_wp2
            simp only [Exit.jump]
            go_ret2
            have hb : badTo l0 l0.length = true := badTo_mono (m := i + 1) (by simp only [badTo]; rw [outTo_mono HX.out hmt]; simp) hlt
            unfold orderOf
            rw [if_pos hb]
            exact ⟨_, rfl, Kd.R_nil _ _ _ _ _, BW.out⟩
          · by_cases hbig : (l0.length : Int) ≤ rd (rd_T31 l0 ↑i).f1 ↑m
            · have HX : Hid1 (outTo l0 i (m + 1) = true) := ⟨by simp only [outTo, outOf]; rw [decide_eq_true (Or.inr hbig)]; simp⟩
              go_wp2
              simp only [Exit.jump]
              go_ret2
              have hb : badTo l0 l0.length = true := badTo_mono (m := i + 1) (by simp only [badTo]; rw [outTo_mono HX.out hmt]; simp) hlt
              unfold orderOf
              rw [if_pos hb]
              exact ⟨_, rfl, Kd.R_nil _ _ _ _ _, BW.out⟩
            · have HX : Hid1 (outTo l0 i (m + 1) = false) := ⟨by simp only [outTo, outOf]; rw [HOUT.out, decide_eq_false (by omega)]; rfl⟩
              go_wp2
              go_roundw
              case rel => exact ⟨by first | rfl | trivial, m + 1, by omega, by go_num, HX⟩
              case measure => simp [intOf]; omega
        · obtain rfl : m = (rd_T31 l0 ↑i).f1.length := by omega
          have HX : Hid1 (badTo l0 (i + 1) = false) := ⟨by simp only [badTo]; rw [HBAD.out, HOUT.out]; rfl⟩
          go_wp2
          go_roundw
          case rel => exact ⟨i + 1, by omega, by go_num, HX, BW⟩
          case measure => simp [intOf]; omega
    · obtain rfl : i = l0.length := by omega
      have hmk : ∀ w, (Instr.makeMap 58 none).run Try.prog w = .ok (.map (some w.heap.size)) (w.alloc (.map #[] 0)) := fun w => run_makeMap 58 w
      go_wp2
      obtain ⟨W1, hW1⟩ : ∃ W1, W1 = wr.alloc (.map #[] 0) := ⟨_, rfl⟩
      have S1 : SetAt W1 9 wr.heap.size 0 [] := hW1 ▸ SetAt.made wr 9
      have B1 : Below w.heap.size w W1 := hW1 ▸ below_alloc BR.out _
      have hbg := below_size BR.out
      rw [← hW1]
      have S1 := Aside0.mk S1
      have B1 := Aside0.mk B1
      clear hW1 BR
      generalize wr.heap.size = b at S1 hbg ⊢
      go_loopw [42] (fun v42 w' => ∃ i : Nat, i ≤ l0.length ∧ v42 = .int .i64 i ∧ Hid1 (twiceTo l0 i = false) ∧ Aside0 (SetAt w' 9 b i ((keysTo l0 i).map litOf)) ∧ Aside0 (Below w.heap.size w w'))
        (fun v42 _ => l0.length - (intOf v42).toNat)
      case atStart => exact ⟨0, by omega, rfl, ⟨rfl⟩, S1, B1⟩
      case round =>
        obtain ⟨i, hi, rfl, HTW, HS, BR⟩ := hrel
        by_cases hlt : i < l0.length
        · obtain ⟨ad, Aj, cj, rfl, hx0, hx1, hlj, hj⟩ := at_T31 HR0.out (i : Int) (by omega) (by omega)
          have hx0 := pw_cell_below BR.out hx0
          have hx1 := pw_cell_below BR.out hx1
          rw [Int.toNat_natCast] at hx0 hx1
          clear hj hlj
          have hkey : keyOf Try.prog 9 (.string (rd_T31 l0 ↑i).f0) = some (litOf (rd_T31 l0 ↑i).f0) := key_string (HNA.out i)
          have hlook : ∀ Y, (Instr.lookup 58 (.map (some b)) (.string (rd_T31 l0 ↑i).f0) false).run Try.prog (wr.alloc Y) = .ok (.bool ((keysTo l0 i).any (fun s => decide (s = (rd_T31 l0 ↑i).f0)))) (wr.alloc Y) := fun Y => by
            rw [(HS.out.alloc Y).look (Maps.string_keyed Try.underlying9) Try.underlying58 hkey, any_lit]
          by_cases htw : (keysTo l0 i).any (fun s => decide (s = (rd_T31 l0 ↑i).f0)) = true
          · rw [htw] at hlook
            have HX := Hid1.mk htw
            clear htw
            go_wp2
            simp only [Exit.jump]
            go_ret2
            have hb : twiceTo l0 l0.length = true := twiceTo_mono (m := i + 1) (by simp only [twiceTo]; rw [HX.out]; simp) hlt
            unfold orderOf
            rw [if_neg (by rw [HBAD.out]; decide), if_pos hb]
            exact ⟨_, rfl, Kd.R_nil _ _ _ _ _, below_alloc BR.out _⟩
          · have htw' := Bool.eq_false_iff.mpr htw
            rw [htw'] at hlook
            have HX : Hid1 (twiceTo l0 (i + 1) = false) := ⟨by simp only [twiceTo]; rw [HTW.out, htw']; rfl⟩
            have HK := Hid1.mk hkey
            clear htw htw' hkey
            go_wp2_with (at_mapUpdate; refine wpList_set_put rfl _ _ _ 58 rfl 9 (Maps.string_keyed Try.underlying9) Try.underlying58 b i _ (HS.out.alloc _) (by simp only [maxLen]; omega) _ _ rfl rfl rfl HK.out ?_; intro w1 hown hgrow)
            go_roundw
            case rel => exact ⟨i + 1, by omega, by go_num, HX, ⟨hown⟩, ⟨Below.grown (below_alloc BR.out _) hgrow (below_size (below_alloc BR.out _)) (fun k hk => by cases hk; exact hbg)⟩⟩
            case measure => simp [intOf]; omega
        · obtain rfl : i = l0.length := by omega
          go_wp2_with (at_make; refine Kd.R_make Kd.bool _ 4 rfl (N := 56) rfl 35 _ _ rfl (l0.length : Int) rfl rfl Try.underlying35 (.bool false) 1 info4 rfl (by decide) (by omega) false (ok := fun _ => True) (okp := fun _ => True) rfl (fun _ hk => hk) trivial (by omega) (by omega) (Below.refl _ _) (Nat.le_refl _) ?_; intro vd w2 ho hb hg_ hnew_)
          go_step3
          rename_i hkk
          refine hkk _ _ ?_
          refine hpass _ _ ?_
          refine orderJ_intro (List.replicate l0.length false) [] vd none 0 rfl ⟨HBAD, HTW, by simp, by rw [undone_rep]; simp, ⟨by rw [undone_rep]⟩, ?_, ⟨Kd.R_nil _ _ _ _ _⟩, ⟨below_step BR.out hb⟩⟩
          exact ⟨Kd.R_lower (by rw [Int.toNat_natCast] at ho; exact ho) (below_size BR.out)⟩

def graph_Order.f (l : List S31) : Option (List Int × Int) := if fewJ l then some (orderOf l) else none
theorem graph_Order.calls (A0 : Option Addr) (c0 : Nat) (l0 : List S31) (r1 : List Int) (r2 : Int) (w : World) (hr0 : Kd.C k31 w A0 l0.length l0) (hc0 : l0.length ≤ c0) (h : graph_Order.f l0 = some (r1, r2)) :
    Calls Try.prog 16 #[.slice A0 l0.length c0] w fun e w' => ∃ v0_ : Value, e = .returned (.tuple #[v0_, .int .i64 r2]) ∧ Kd.R (Kd.int .i64) 3 w' w.heap.size (fun _ => True) v0_ r1 ∧ Below w.heap.size w w' := by
  unfold graph_Order.f at h
  by_cases hf : fewJ l0
  · rw [if_pos hf] at h
    have e := Option.some.inj h
    have e1 : (orderOf l0).1 = r1 := by rw [e]
    have e2 : (orderOf l0).2 = r2 := by rw [e]
    subst e1 e2
    exact order_any A0 c0 l0 w hr0 hc0 hf.1 (few_need hf) (few_name hf)
  · rw [if_neg hf] at h; cases h
end Go.Proofs.Ytgjlgdohlmpnbaa.P
