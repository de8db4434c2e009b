/- A node's first byte stands at its place, one behind the other; what is wrong lies in the text, or at its end: the law, in plain Lean. Conditions: the text's length. -/
import Derived.Test.YtciojbdkoojlhaaPx26
import Derived.Test.YtciojbdkoojlhaaB2
namespace Go.Proofs.Ytciojbdkoojlhaa.Pure
set_option linter.unusedVariables false
open Go.RowKit Go.Proofs.Ytciojbdkoojlhaa.P Go.Proofs.YtciojbdkoojlhaaW.PrintWords Go.Proofs.YtciojbdkoojlhaaW.PrintLast
theorem parse_short {s : ByteArray} (h : s.size ≤ 16384) : parseM s = finM s.size (runM (.go P.start) (bytesL s)) := by
  unfold parseM
  rw [if_neg (by omega)]
mutual
/-- nodes lie in a text from a place on; up to where -/
def lzN (x : List UInt8) (f : Nat) : S30 → Option Nat
  | ⟨a, b, c, d⟩ => if (f : Int) ≤ d ∧ d < (x.length : Int) then
      (if a = true then (if x[d.toNat]? = some 40 then lzL x (d.toNat + 1) c else none)
       else (if (x.drop d.toNat).take (bytesL b).length = bytesL b ∧ d.toNat + (bytesL b).length ≤ x.length then some (d.toNat + 1) else none)) else none
def lzL (x : List UInt8) (f : Nat) : List S30 → Option Nat
  | [] => some f
  | n :: r => (lzN x f n).bind fun g => lzL x g r
end
theorem lzL_append (x : List UInt8) : ∀ (a : List S30) (f : Nat) (b : List S30), lzL x f (a ++ b) = (lzL x f a).bind fun g => lzL x g b
  | [], f, b => rfl
  | n :: r, f, b => by
    simp only [List.cons_append, lzL]
    cases h : lzN x f n with
    | none => rfl
    | some g => simp only [Option.bind_some]; exact lzL_append x r g b
theorem lzL_one (x : List UInt8) (f : Nat) (n : S30) : lzL x f [n] = lzN x f n := by
  simp only [lzL]
  cases lzN x f n <;> rfl
/-! what stays true -/
def baseL (x : List UInt8) : List (List S30 × Nat) → Option Nat
  | [] => some 0
  | (t, a) :: r => (baseL x r).bind fun f => (lzL x f t).bind fun g => if g ≤ a ∧ x[a]? = some 40 then some (a + 1) else none
/-- The rows lie in the text, up to the word that is read. -/
def LieS (x : List UInt8) (s : MSt) : Prop := ∃ f g, baseL x s.stk = some f ∧ lzL x f s.top = some g ∧ g ≤ (match s.word with | none => s.pos | some (_, b) => b)
theorem lz_word {x : List UInt8} {s : MSt} {ws : List UInt8} {b g : Nat} (h : OkAt x s) (hw : s.word = some (ws, b)) (hne : ws ≠ []) (hg : g ≤ b) : lzN x g (wordNode ws b) = some (b + 1) := by
  obtain ⟨h1, h2, _⟩ := h.word ws b hw
  have hl := h.le
  have hpos : 0 < ws.length := List.length_pos_iff.2 hne
  have hby : bytesL (⟨ws.toArray⟩ : ByteArray) = ws := by unfold bytesL; simp
  unfold wordNode
  simp only [lzN, hby]
  rw [if_pos (by omega), if_neg (by decide)]
  rw [Int.toNat_natCast]
  have e : (x.drop b).take ws.length = ws := by
    rw [h2]
    rw [List.drop_take]
    congr 1
    rw [List.length_take, List.length_drop]
    omega
  rw [if_pos ⟨e, by omega⟩]
theorem lie_flush {x : List UInt8} {s : MSt} (h : OkAt x s) (hgd : GoodS s) (hL : LieS x s) : ∃ f g, baseL x s.stk = some f ∧ lzL x f (flushT s) = some g ∧ g ≤ s.pos := by
  obtain ⟨f, g, h1, h2, h3⟩ := hL
  unfold flushT
  cases hw : s.word with
  | none => rw [hw] at h3; exact ⟨f, g, h1, h2, h3⟩
  | some q =>
    obtain ⟨ws, b⟩ := q
    rw [hw] at h3
    refine ⟨f, b + 1, h1, ?_, ?_⟩
    · rw [lzL_append, h2]
      simp only [Option.bind_some]
      rw [lzL_one]
      exact lz_word h hw (hgd.2.2 ws b hw).1 h3
    · have := (h.word ws b hw).1
      have hne : 0 < ws.length := List.length_pos_iff.2 (hgd.2.2 ws b hw).1
      omega
theorem lie_step {x : List UInt8} {s s' : MSt} (h : OkAt x s) (hgd : GoodS s) (hL : LieS x s) (hlt : s.pos < x.length) (ha : act x[s.pos] (endW x[s.pos] s) = .go s') : LieS x s' := by
  obtain ⟨f, g, h1, h2, h3⟩ := lie_flush h hgd hL
  obtain ⟨f0, g0, h10, h20, h30⟩ := hL
  rcases act_cases ha with ⟨q1, q2, q3, q4⟩ | ⟨hp, hn, hs⟩ | ⟨hc, hd, hs⟩ | ⟨hc, t, a, r, hk, hs⟩
  · rcases endW_cases x[s.pos] s with ⟨_, e⟩ | ⟨_, e⟩
    · rw [e] at q1 q2 q3
      refine ⟨f0, g0, by rw [q2]; exact h10, by rw [q1]; exact h20, ?_⟩
      rw [q3, q4]
      cases hw : s.word with
      | none => rw [hw] at h30; simp only at h30 ⊢; omega
      | some q => rw [hw] at h30; exact h30
    · rw [e] at q1 q2 q3
      refine ⟨f, g, by rw [q2]; exact h1, by rw [q1]; exact h2, ?_⟩
      rw [q3, q4]
      show g ≤ s.pos + 1
      omega
  · subst hs
    refine ⟨f0, g0, h10, h20, ?_⟩
    cases hw : s.word with
    | none => rw [hw] at h30; exact h30
    | some q => rw [hw] at h30; exact h30
  · subst hs
    refine ⟨s.pos + 1, s.pos + 1, ?_, rfl, Nat.le_refl _⟩
    simp only [baseL, h1, h2, Option.bind_some]
    rw [if_pos ⟨h3, by rw [List.getElem?_eq_getElem hlt, hc]⟩]
  · subst hs
    rw [hk] at h1
    simp only [baseL] at h1
    obtain ⟨f1, h4, h5⟩ := Option.bind_eq_some_iff.1 h1
    obtain ⟨g1, h6, h7⟩ := Option.bind_eq_some_iff.1 h5
    split at h7
    · rename_i hca
      injection h7 with h7
      subst h7
      refine ⟨f1, g, h4, ?_, by show g ≤ s.pos + 1; omega⟩
      show lzL x f1 (t ++ [listNode (flushT s) a]) = some g
      rw [lzL_append, h6]
      simp only [Option.bind_some]
      rw [lzL_one]
      have hal : a < x.length := by
        rcases Nat.lt_or_ge a x.length with h | h
        · exact h
        · rw [List.getElem?_eq_none h] at hca; exact absurd hca.2 (by simp)
      unfold listNode
      simp only [lzN]
      rw [if_pos (by omega), if_pos trivial, Int.toNat_natCast, if_pos hca.2]
      exact h2
    · cases h7
theorem lie_run {x : List UInt8} : ∀ n, n ≤ x.length → ∀ s, runM (.go P.start) (x.take n) = .go s → OkAt x s ∧ s.pos = n ∧ GoodS s ∧ LieS x s
  | 0, hn, s, h => by
    injection h with h
    subst h
    exact ⟨okAt_start x, rfl, good_run (l := []) rfl, ⟨0, 0, rfl, rfl, Nat.le_refl _⟩⟩
  | n + 1, hn, s, h => by
    have hlt : n < x.length := hn
    have hgood := good_run h
    rw [List.take_succ_eq_append_getElem hlt, runM_append] at h
    cases h1 : runM (.go P.start) (x.take n) with
    | bad e a => rw [h1, runM_bad] at h; cases h
    | go s1 =>
      obtain ⟨k1, k2, k3, k4⟩ := lie_run n (by omega) s1 h1
      rw [h1] at h
      subst k2
      have ha : act x[s1.pos] (endW x[s1.pos] s1) = .go s := h
      obtain ⟨k5, k6⟩ := step_ok k1 hlt ha
      exact ⟨k5, k6, hgood, lie_step k1 k3 k4 hlt ha⟩
theorem toList_eq (s : ByteArray) : s.toList = bytesL s := ByteArray.toList_eq s
theorem extract_bytes (s : ByteArray) (i j : Nat) : bytesL (s.extract i j) = ((bytesL s).drop i).take (j - i) := by
  unfold bytesL
  rw [ByteArray.data_extract, Array.toList_extract]
theorem bt_of {s : ByteArray} {d : Int} {c : UInt8} (h : (bytesL s)[d.toNat]? = some c) : bt s d = (c.toNat : Int) := by
  have hl : d.toNat < (bytesL s).length := by
    rcases Nat.lt_or_ge d.toNat (bytesL s).length with h' | h'
    · exact h'
    · rw [List.getElem?_eq_none h'] at h; cases h
  rw [List.getElem?_eq_getElem hl] at h
  injection h with h
  have hs : d.toNat < s.size := by rw [bytesL_len] at hl; exact hl
  unfold bt
  rw [dif_pos hs, ← h, bytesL_at s _ hs]
theorem lies_ev (a0 : ByteArray) (hsz : a0.size ≤ 16384) : ∀ (N : Nat) (l : List S30) (f g : Nat), cntL l ≤ N → N ≤ 1099511627776 → lzL (bytesL a0) f l = some g → Ev (fun k => carlinglaw02_lies.f k a0 l (f : Int)) (g : Int)
  | N, l, f, g, hN, hB, hl => by
    have hlc := cntL_len l
    have hx : (bytesL a0).length = a0.size := bytesL_len a0
    have key : ∀ d i f, d + i = l.length → lzL (bytesL a0) f (l.drop i) = some g → Ev (fun k => carlinglaw02_lies.l0 k a0 l (f : Int) (i : Int)) (g : Int) := by
      intro d
      induction d with
      | zero =>
        intro i f hi hz
        rw [List.drop_eq_nil_of_le (by omega)] at hz
        injection hz with hz
        subst hz
        refine Ev.step (f := fun k => some (f : Int)) (fun k => ?_) (Ev.now _)
        simp only [carlinglaw02_lies.l0]
        rw [if_neg (by omega)]
      | succ d ih =>
        intro i f hi hz
        have hlt : i < l.length := by omega
        rw [List.drop_eq_getElem_cons hlt] at hz
        simp only [lzL] at hz
        obtain ⟨f', hn, hz⟩ := Option.bind_eq_some_iff.1 hz
        have hnext := ih (i + 1) f' (by omega) hz
        have hrd := rd_at hlt
        have hc := cnt_at hlt
        generalize hq : l[i] = n at hn hrd hc
        obtain ⟨a, b, c, e⟩ := n
        simp only [lzN] at hn
        by_cases hr : (f : Int) ≤ e ∧ e < ((bytesL a0).length : Int)
        · rw [if_pos hr] at hn
          have h1 : ∀ k, carlinglaw02_lies.l0 (k + 1) a0 l (f : Int) (i : Int) = carlinglaw02_lies.j1 k a0 l (i : Int) false a b c e := fun k => by
            simp only [carlinglaw02_lies.l0, hrd]
            rw [if_pos (by omega), if_pos (by omega), if_neg (by omega), decide_eq_false (by omega)]
          refine Ev.step h1 ?_
          by_cases ha : a = true
          · subst ha
            rw [if_pos rfl] at hn
            split at hn
            · rename_i h40
              have hb := bt_of h40
              have hcl : cntL c < N := by simp only at hc; omega
              have hsub := lies_ev a0 hsz (cntL c) c (e.toNat + 1) f' (Nat.le_refl _) (by omega) hn
              have he1 : ((e.toNat + 1 : Nat) : Int) = wrap64 (e + 1) := by unfold wrap64; omega
              rw [he1] at hsub
              refine Ev.step (f := fun k => (carlinglaw02_lies.f k a0 c (wrap64 (e + 1))).bind fun t => if t < 0 then some (-1) else carlinglaw02_lies.l0 k a0 l t (wrap64 ((i : Int) + 1))) (fun k => ?_) ?_
              · simp only [carlinglaw02_lies.j1]
                rw [if_neg (by decide), if_true, if_pos (by omega), if_pos (by omega), if_pos (by rw [hb]; rfl)]
              · refine Ev.bind hsub ?_
                have hne : ¬ ((f' : Int) < 0) := by omega
                simp only [if_neg hne]
                rw [wrap_at (by omega)]
                exact hnext
            · cases hn
          · have ha' : a = false := Bool.eq_false_iff.mpr ha
            subst ha'
            rw [if_neg (by decide)] at hn
            split at hn
            · rename_i hw
              injection hn with hn
              subst hn
              obtain ⟨hw1, hw2⟩ := hw
              have hbl : (bytesL b).length = b.size := bytesL_len b
              have he1 : ((e.toNat + 1 : Nat) : Int) = wrap64 (e + 1) := by unfold wrap64; omega
              have he2 : wrap64 ((a0.size : Int) - e) = (a0.size : Int) - e := by unfold wrap64; omega
              have he3 : wrap64 (e + (b.size : Int)) = e + (b.size : Int) := by unfold wrap64; omega
              rw [he1] at hnext
              refine Ev.step (f := fun k => carlinglaw02_lies.l0 k a0 l (wrap64 (e + 1)) (wrap64 ((i : Int) + 1))) (fun k => ?_) (by rw [wrap_at (by omega)]; exact hnext)
              simp only [carlinglaw02_lies.j1, he2, he3]
              rw [if_neg (by decide), if_neg (by decide), if_neg (by omega), if_pos (by omega), if_pos (by omega), if_pos (by omega), if_pos ?_]
              rw [toList_eq, toList_eq, extract_bytes, ← hw1]
              congr 1
              omega
            · cases hn
        · rw [if_neg hr] at hn
          cases hn
    refine Ev.step (f := fun k => carlinglaw02_lies.l0 k a0 l (f : Int) ((0 : Nat) : Int)) (fun k => ?_) (key l.length 0 f rfl (by rw [List.drop_zero]; exact hl))
    simp only [carlinglaw02_lies.f]
    rfl
termination_by N => N
theorem SexpLies : carlinglaw02_SexpLies.Pure := by
  intro a0 hs0
  unfold carlinglaw02_SexpLies.f
  rw [awake_eq]
  simp only [Option.bind_some]
  by_cases hl : (a0.size : Int) > 16384
  · refine ⟨0, ?_⟩
    rw [if_pos hl]
    have : sexp_Parse.f a0 = some ([], 5, 0) := by
      unfold sexp_Parse.f parseM
      rw [if_pos (by omega), if_pos (by omega)]
    rw [this]
    rfl
  simp only [if_neg hl]
  have hp0 : sexp_Parse.f a0 = some (finM a0.size (runM (.go P.start) (bytesL a0))) := by unfold sexp_Parse.f; rw [if_pos (by omega), parse_short (by omega)]
  simp only [hp0, Option.bind_some, if_true]
  cases hr : runM (.go P.start) (bytesL a0) with
  | bad e a =>
    obtain ⟨_, h3, h4, h5⟩ := bad_at _ _ _ _ hr
    rw [bytesL_len] at h3
    have h6 : P.start.pos = 0 := rfl
    refine ⟨0, ?_⟩
    rw [show finM a0.size (.bad e a) = ([], (e : Int), (a : Int)) from rfl]
    simp only
    rw [if_neg (by omega), if_pos (by omega), if_pos (by omega)]
  | go s =>
    by_cases hk : s.stk = []
    · have hf : finM a0.size (.go s) = (flushT s, 0, -1) := by simp only [finM]; rw [if_pos hk]
      have hlr := lie_run (x := bytesL a0) (bytesL a0).length (Nat.le_refl _) s (by rw [List.take_length]; exact hr)
      obtain ⟨k1, k2, k3, k4⟩ := hlr
      obtain ⟨f, g, h1, h2, h3⟩ := lie_flush k1 k3 k4
      rw [hk] at h1
      injection h1 with h1
      subst h1
      have hc := cnt_run hr
      have hcnt : cntL (flushT s) ≤ 1099511627776 := by
        rw [cnt_flush]
        unfold CntOk at hc
        rw [bytesL_len] at k2
        omega
      obtain ⟨k, hk2⟩ := (lies_ev a0 (by omega) _ (flushT s) 0 g (Nat.le_refl _) hcnt h2).rounds
      refine ⟨k, ?_⟩
      rw [hf]
      simp only [if_true]
      have hk3 : carlinglaw02_lies.f k a0 (flushT s) 0 = some (g : Int) := hk2
      rw [hk3]
      simp only [Option.bind_some]
      rw [decide_eq_true (by omega)]
    · have hf : finM a0.size (.go s) = ([], 3, (a0.size : Int)) := by simp only [finM]; rw [if_neg hk]
      refine ⟨0, ?_⟩
      rw [hf]
      simp only
      rw [if_neg (show ¬ ((3 : Int) = 0) by decide), if_pos (by omega), if_neg (by omega), if_true]
      rfl
end Go.Proofs.Ytciojbdkoojlhaa.Pure
