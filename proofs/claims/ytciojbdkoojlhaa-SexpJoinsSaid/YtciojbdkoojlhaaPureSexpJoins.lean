/- Two texts of whole nodes, with a line's end between, are read as the one's nodes and the other one's: the law, in plain Lean. Conditions: the texts' lengths. -/
import Derived.Test.YtciojbdkoojlhaaPx10
import Derived.Test.YtciojbdkoojlhaaB2
namespace Go.Proofs.Ytciojbdkoojlhaa.Pure
set_option linter.unusedVariables false
open Go.RowKit Go.Proofs.Ytciojbdkoojlhaa.P Go.Proofs.YtciojbdkoojlhaaW.PrintWords Go.Proofs.YtciojbdkoojlhaaW.PrintLast
theorem parse_short {s : ByteArray} (h : s.size ≤ 16384) : parseM s = finM s.size (runM (.go P.start) (bytesL s)) := by
  unfold parseM
  rw [if_neg (by omega)]
mutual
/-- a node at a place further on -/
def sh (K : Nat) : S30 → S30
  | ⟨a, b, c, d⟩ => ⟨a, b, shL K c, d + K⟩
def shL (K : Nat) : List S30 → List S30
  | [] => []
  | n :: r => sh K n :: shL K r
end
theorem shL_map (K : Nat) : ∀ l, shL K l = l.map (sh K)
  | [] => by simp [shL]
  | n :: r => by simp [shL, shL_map K r]
theorem shL_append (K : Nat) (a b : List S30) : shL K (a ++ b) = shL K a ++ shL K b := by simp [shL_map]
mutual
theorem er_sh (K : Nat) : ∀ n, er (sh K n) = er n
  | ⟨a, b, c, d⟩ => by simp only [sh, er, erL_sh K c]
theorem erL_sh (K : Nat) : ∀ l, erL (shL K l) = erL l
  | [] => by simp only [shL]
  | n :: r => by simp only [shL, erL, er_sh K n, erL_sh K r]
end
mutual
theorem cnt_sh (K : Nat) : ∀ n, cnt (sh K n) = cnt n
  | ⟨a, b, c, d⟩ => by simp only [sh, cnt, cntL_sh K c]
theorem cntL_sh (K : Nat) : ∀ l, cntL (shL K l) = cntL l
  | [] => by simp only [shL]
  | n :: r => by simp only [shL, cntL, cnt_sh K n, cntL_sh K r]
end
theorem sh_word (K : Nat) (ws : List UInt8) (b : Nat) : sh K (wordNode ws b) = wordNode ws (b + K) := by simp [sh, wordNode, shL]
theorem sh_list (K : Nat) (l : List S30) (a : Nat) : sh K (listNode l a) = listNode (shL K l) (a + K) := by simp [sh, listNode]
/-! the second text's run, from behind the first -/
def shStk (K : Nat) (l : List S30) : List (List S30 × Nat) → List (List S30 × Nat)
  | [] => []
  | (t, a) :: r => ((if r = [] then l ++ shL K t else shL K t), a + K) :: shStk K l r
def shTop (K : Nat) (l : List S30) (stk : List (List S30 × Nat)) (top : List S30) : List S30 := if stk = [] then l ++ shL K top else shL K top
def shSt (K : Nat) (l : List S30) (s : MSt) : MSt := ⟨s.pos + K, shTop K l s.stk s.top, shStk K l s.stk, s.word.map (fun p => (p.1, p.2 + K)), s.note⟩
def shMx (K : Nat) (l : List S30) : Mx → Mx
  | .bad e a => .bad e (a + K)
  | .go s => .go (shSt K l s)
theorem shTop_snoc (K : Nat) (l : List S30) (stk : List (List S30 × Nat)) (top : List S30) (n : S30) : shTop K l stk (top ++ [n]) = shTop K l stk top ++ [sh K n] := by
  unfold shTop
  split <;> simp [shL_append, shL]
theorem shStk_len (K : Nat) (l : List S30) : ∀ stk, (shStk K l stk).length = stk.length
  | [] => rfl
  | (t, a) :: r => by simp [shStk, shStk_len K l r]
theorem shStk_nil {K : Nat} {l : List S30} {stk : List (List S30 × Nat)} : shStk K l stk = [] ↔ stk = [] := by
  cases stk with
  | nil => simp [shStk]
  | cons p r => obtain ⟨t, a⟩ := p; simp [shStk]
theorem flush_sh (K : Nat) (l : List S30) (s : MSt) : flushT (shSt K l s) = shTop K l s.stk (flushT s) := by
  unfold flushT shSt
  cases hw : s.word with
  | none => rfl
  | some q =>
    simp only [Option.map_some]
    rw [shTop_snoc, sh_word]
theorem end_sh (K : Nat) (l : List S30) (c : UInt8) (s : MSt) : endW c (shSt K l s) = shSt K l (endW c s) := by
  unfold endW
  split
  · rfl
  · rw [flush_sh]
    rfl
theorem act_sh (K : Nat) (l : List S30) (c : UInt8) (s : MSt) : act c (shSt K l s) = shMx K l (act c s) := by
  unfold act
  by_cases c1 : s.note = true
  · rw [if_pos (show (shSt K l s).note = true from c1), if_pos c1]
    simp only [shMx, shSt, Nat.add_right_comm]
  rw [if_neg (show ¬ (shSt K l s).note = true from c1), if_neg c1]
  by_cases c2 : c = 59
  · rw [if_pos c2, if_pos c2]
    simp only [shMx, shSt, Nat.add_right_comm]
  rw [if_neg c2, if_neg c2]
  by_cases c3 : isBlank c = true
  · rw [if_pos c3, if_pos c3]
    simp only [shMx, shSt, Nat.add_right_comm]
  rw [if_neg c3, if_neg c3]
  by_cases c4 : partB c = true
  · rw [if_pos c4, if_pos c4]
    simp only [shMx, shSt, Nat.add_right_comm]
    cases s.word <;> rfl
  rw [if_neg c4, if_neg c4]
  by_cases c5 : c = 40
  · rw [if_pos c5, if_pos c5]
    by_cases c6 : s.stk.length = 24
    · rw [if_pos (show (shSt K l s).stk.length = 24 by show (shStk K l s.stk).length = 24; rw [shStk_len]; exact c6), if_pos c6]
      rfl
    · rw [if_neg (show ¬ (shSt K l s).stk.length = 24 by show ¬ (shStk K l s.stk).length = 24; rw [shStk_len]; exact c6), if_neg c6]
      simp only [shMx, shSt, shTop, shStk, Nat.add_right_comm, shL]
      simp
  rw [if_neg c5, if_neg c5]
  by_cases c7 : c = 41
  · rw [if_pos c7, if_pos c7]
    cases hk : s.stk with
    | nil =>
      have : (shSt K l s).stk = [] := by show shStk K l s.stk = []; rw [hk]; rfl
      rw [this]
      rfl
    | cons q r =>
      obtain ⟨t, a⟩ := q
      have : (shSt K l s).stk = ((if r = [] then l ++ shL K t else shL K t), a + K) :: shStk K l r := by show shStk K l s.stk = _; rw [hk]; rfl
      rw [this]
      have ht : (shSt K l s).top = shL K s.top := by show shTop K l s.stk s.top = _; unfold shTop; rw [hk, if_neg (by simp)]
      simp only [ht, shMx]
      unfold shSt
      simp only [Mx.go.injEq, MSt.mk.injEq, and_true]
      refine ⟨by omega, ?_⟩
      rw [shTop_snoc, sh_list]
      rfl
  · rw [if_neg c7, if_neg c7]
    rfl
theorem run_sh (K : Nat) (l : List S30) : ∀ (x : List UInt8) (m : Mx), runM (shMx K l m) x = shMx K l (runM m x)
  | [], m => rfl
  | c :: x, m => by
    rw [runM_cons, runM_cons, ← run_sh K l x]
    congr 1
    cases m with
    | bad e a => rfl
    | go s =>
      show act c (endW c (shSt K l s)) = shMx K l (act c (endW c s))
      rw [end_sh, act_sh]
theorem SexpJoins : carlinglaw02_SexpJoins.Pure := by
  intro a0 a1 hs0 hs1
  unfold carlinglaw02_SexpJoins.f
  rw [awake_eq]
  simp only [Option.bind_some]
  by_cases h0 : (a0.size : Int) > 8000
  · exact ⟨1, by rw [if_pos h0]; rfl⟩
  by_cases h1 : (a1.size : Int) > 8000
  · exact ⟨1, by rw [if_neg h0, decide_eq_true h1]; rfl⟩
  simp only [if_neg h0, decide_eq_false h1]
  have hp0 : sexp_Parse.f a0 = some (finM a0.size (runM (.go P.start) (bytesL a0))) := by unfold sexp_Parse.f; rw [if_pos (by omega), parse_short (by omega)]
  have hp1 : sexp_Parse.f a1 = some (finM a1.size (runM (.go P.start) (bytesL a1))) := by unfold sexp_Parse.f; rw [if_pos (by omega), parse_short (by omega)]
  have hz : ((a0 ++ (⟨#[10]⟩ : ByteArray)) ++ a1).size = a0.size + 1 + a1.size := by rw [ByteArray.size_append, ByteArray.size_append]; rfl
  have hby : bytesL ((a0 ++ (⟨#[10]⟩ : ByteArray)) ++ a1) = bytesL a0 ++ (10 :: bytesL a1) := by unfold bytesL; simp
  have hp2 : sexp_Parse.f ((a0 ++ (⟨#[10]⟩ : ByteArray)) ++ a1) = some (finM (a0.size + 1 + a1.size) (runM (runM (.go P.start) (bytesL a0)) (10 :: bytesL a1))) := by
    unfold sexp_Parse.f
    rw [if_pos (by rw [hz]; omega), parse_short (by rw [hz]; omega), hz, hby, runM_append]
  have hstep : ∀ k, carlinglaw02_SexpJoins.j0 (k + 1) a0 a1 true false = (if (finM a0.size (runM (.go P.start) (bytesL a0))).2.1 = 0 then
      (if (finM a1.size (runM (.go P.start) (bytesL a1))).2.1 = 0 then
        (if (finM a0.size (runM (.go P.start) (bytesL a0))).1.length < 2513169434916 then
          (if (finM a0.size (runM (.go P.start) (bytesL a0))).1.length + (finM a1.size (runM (.go P.start) (bytesL a1))).1.length < 2513169434916 then
            (carlingref02_Alike.f k (finM (a0.size + 1 + a1.size) (runM (runM (.go P.start) (bytesL a0)) (10 :: bytesL a1))).1 ((finM a0.size (runM (.go P.start) (bytesL a0))).1 ++ (finM a1.size (runM (.go P.start) (bytesL a1))).1)).bind fun t => if (finM (a0.size + 1 + a1.size) (runM (runM (.go P.start) (bytesL a0)) (10 :: bytesL a1))).2.1 = 0 then some t else some false
          else none) else none)
      else (if (finM (a0.size + 1 + a1.size) (runM (runM (.go P.start) (bytesL a0)) (10 :: bytesL a1))).2.1 = (finM a1.size (runM (.go P.start) (bytesL a1))).2.1 then some ((finM (a0.size + 1 + a1.size) (runM (runM (.go P.start) (bytesL a0)) (10 :: bytesL a1))).2.2 == wrap64 (wrap64 ((finM a1.size (runM (.go P.start) (bytesL a1))).2.2 + (a0.size : Int)) + 1)) else some false))
      else some true) := fun k => by
    simp only [carlinglaw02_SexpJoins.j0, hp0, hp1, hp2, Option.bind_some, Bool.false_eq_true, if_false, if_true, List.nil_append, List.length_nil, Nat.zero_add]
    rw [if_pos (by omega), if_pos (by rw [ByteArray.size_append]; show a0.size + 1 + a1.size ≤ _; omega)]
  cases hr0 : runM (.go P.start) (bytesL a0) with
  | bad e a =>
    refine ⟨1, ?_⟩
    rw [hstep 0, hr0]
    obtain ⟨_, _, h2, _⟩ := bad_at _ _ _ _ hr0
    rw [if_neg (by show ¬ ((e : Int) = 0); omega)]
  | go s0 =>
    by_cases hk : s0.stk = []
    · have hl0 : finM a0.size (.go s0) = (flushT s0, 0, -1) := by simp only [finM]; rw [if_pos hk]
      have hpos : s0.pos = a0.size := by
        have := run_pos _ _ _ hr0
        rw [bytesL_len] at this
        have h0 : P.start.pos = 0 := rfl
        omega
      have hnl : runM (.go s0) (10 :: bytesL a1) = shMx (a0.size + 1) (flushT s0) (runM (.go P.start) (bytesL a1)) := by
        rw [runM_cons, ← run_sh]
        congr 1
        show act 10 (endW 10 s0) = .go (shSt (a0.size + 1) (flushT s0) P.start)
        have he : endW 10 s0 = flushS s0 := by
          rcases endW_cases 10 s0 with ⟨h, _⟩ | ⟨_, h⟩
          · exact absurd h (by decide +kernel)
          · exact h
        rw [he]
        have hx : shSt (a0.size + 1) (flushT s0) P.start = ⟨a0.size + 1, flushT s0, [], none, false⟩ := by simp [shSt, P.start, shTop, shStk, shL]
        rw [hx]
        unfold act flushS
        by_cases hn : s0.note = true
        · rw [if_pos hn]
          simp [hk, hpos]
        · rw [if_neg hn, if_neg (by decide), if_pos (by decide)]
          simp [hk, hpos, hn]
      have hc0 := cnt_run hr0
      have hlen0 : (flushT s0).length ≤ 8000 := by
        have h1 := cntL_len (flushT s0)
        rw [cnt_flush] at h1
        unfold CntOk at hc0
        omega
      rw [hr0] at hstep
      rw [hnl, hl0] at hstep
      simp only [if_true] at hstep
      cases hr1 : runM (.go P.start) (bytesL a1) with
      | bad e a =>
        obtain ⟨h2, h3, h4, h5⟩ := bad_at _ _ _ _ hr1
        rw [bytesL_len] at h3
        have h6 : P.start.pos = 0 := rfl
        refine ⟨1, ?_⟩
        rw [hstep 0, hr1]
        simp only [shMx, finM]
        rw [if_neg (by omega), if_true]
        have hw : wrap64 (wrap64 ((a : Int) + (a0.size : Int)) + 1) = ((a + (a0.size + 1) : Nat) : Int) := by unfold wrap64; omega
        rw [hw]
        simp
      | go s1 =>
        have hpos1 : s1.pos = a1.size := by
          have := run_pos _ _ _ hr1
          rw [bytesL_len] at this
          have h0 : P.start.pos = 0 := rfl
          omega
        by_cases hk1 : s1.stk = []
        · have hl1 : finM a1.size (.go s1) = (flushT s1, 0, -1) := by simp only [finM]; rw [if_pos hk1]
          have hl2 : finM (a0.size + 1 + a1.size) (shMx (a0.size + 1) (flushT s0) (.go s1)) = (flushT s0 ++ shL (a0.size + 1) (flushT s1), 0, -1) := by
            simp only [shMx, finM]
            rw [if_pos (by show shStk _ _ s1.stk = []; rw [hk1]; rfl), flush_sh]
            unfold shTop
            rw [if_pos hk1]
          have hc1 := cnt_run hr1
          have hcnt1 : cntL (flushT s1) ≤ 8000 := by
            rw [cnt_flush]
            unfold CntOk at hc1
            omega
          have hcnt0 : cntL (flushT s0) ≤ 8000 := by
            rw [cnt_flush]
            unfold CntOk at hc0
            omega
          have hlen1 : (flushT s1).length ≤ 8000 := Nat.le_trans (cntL_len _) hcnt1
          have her : erL (flushT s0 ++ flushT s1) = erL (flushT s0 ++ shL (a0.size + 1) (flushT s1)) := by rw [erL_append, erL_append, erL_sh]
          have hcnt : cntL (flushT s0 ++ shL (a0.size + 1) (flushT s1)) ≤ 1099511627776 := by
            rw [cntL_append, cntL_sh]
            omega
          obtain ⟨k, hk2⟩ := (alike_ev _ _ _ (Nat.le_refl _) hcnt her.symm).rounds
          refine ⟨k + 1, ?_⟩
          rw [hstep k, hr1, hl1, hl2]
          simp only [if_true]
          rw [if_pos (by omega), if_pos (by omega)]
          rw [hk2]
          rfl
        · have hl1 : finM a1.size (.go s1) = ([], 3, (a1.size : Int)) := by simp only [finM]; rw [if_neg hk1]
          have hl2 : finM (a0.size + 1 + a1.size) (shMx (a0.size + 1) (flushT s0) (.go s1)) = ([], 3, ((a0.size + 1 + a1.size : Nat) : Int)) := by
            simp only [shMx, finM]
            rw [if_neg (by show ¬ shStk _ _ s1.stk = []; rw [shStk_nil]; exact hk1)]
          refine ⟨1, ?_⟩
          rw [hstep 0, hr1, hl1, hl2]
          simp only
          rw [if_neg (by decide), if_true]
          have hw : wrap64 (wrap64 ((a1.size : Int) + (a0.size : Int)) + 1) = ((a0.size + 1 + a1.size : Nat) : Int) := by unfold wrap64; omega
          rw [hw]
          simp
    · refine ⟨1, ?_⟩
      rw [hstep 0, hr0]
      have : finM a0.size (.go s0) = ([], 3, (a0.size : Int)) := by simp only [finM]; rw [if_neg hk]
      rw [this, if_neg (show ¬ ((3 : Int) = 0) by decide)]
end Go.Proofs.Ytciojbdkoojlhaa.Pure
