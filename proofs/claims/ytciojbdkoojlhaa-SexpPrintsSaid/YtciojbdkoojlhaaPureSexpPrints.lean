/- Any nodes, printed, and any text that may be a word: the law, in plain Lean. Conditions: none but the text's length. -/
import Derived.Test.YtciojbdkoojlhaaPx23
import Derived.Test.YtciojbdkoojlhaaB2
import Derived.Test.YtciojbdkoojlhaaB5
import Derived.Test.YtciojbdkoojlhaaO2
namespace Go.Proofs.Ytciojbdkoojlhaa.Pure
set_option linter.unusedVariables false
open Go.RowKit Go.Proofs.Ytciojbdkoojlhaa.P Go.Proofs.YtciojbdkoojlhaaW.PrintWords Go.Proofs.YtciojbdkoojlhaaW.PrintLast
theorem part_all : ∀ c : Fin 256, carlingref02_part.f 16 (c.val : Int) = some (partOf (c.val : Int)) := by decide +kernel
theorem part_ev (n : Nat) (h : n < 256) : Ev (fun k => carlingref02_part.f k (n : Int)) (partOf (n : Int)) :=
  Ev.of (fun k => carlingref02_part.mono (n : Int) k) (part_all ⟨n, h⟩)
theorem bt_byteAt {s : ByteArray} {i : Nat} (h : i < s.size) : bt s (i : Int) = ((byteAt s i : Nat) : Int) := by
  unfold bt
  rw [Int.toNat_natCast, dif_pos h, byteAt_eq s i h]
theorem byteAt_lt (s : ByteArray) (i : Nat) : byteAt s i < 256 := by
  unfold byteAt
  exact (s.data.getD i 0).toNat_lt
theorem word_ref (s : ByteArray) (hs : s.size ≤ 1099511627776) : Ev (fun k => carlingref02_Word.f k s) (wordOf s) := by
  have key : ∀ d i, d + i = s.size → allTo s i = true → Ev (fun k => carlingref02_Word.l0 k s (i : Int)) (wordOf s) := by
    intro d
    induction d with
    | zero =>
      intro i hi ha
      obtain rfl : i = s.size := by omega
      refine Ev.step (f := fun k => some (decide ((s.size : Int) > 0))) (fun k => ?_) ?_
      · simp only [carlingref02_Word.l0]
        rw [if_neg (by omega)]
      · have : wordOf s = decide ((s.size : Int) > 0) := by
          unfold wordOf
          rw [ha, Bool.true_and]
          by_cases h0 : s.size = 0
          · rw [decide_eq_false (by omega), decide_eq_false (by omega)]
          · rw [decide_eq_true h0, decide_eq_true (by omega)]
        rw [this]
        exact Ev.now _
    | succ d ih =>
      intro i hi ha
      have hlt : i < s.size := by omega
      have hb := bt_byteAt hlt
      have hpe := part_ev (byteAt s i) (byteAt_lt s i)
      rw [← hb] at hpe
      refine Ev.step (f := fun k => (carlingref02_part.f k (bt s (i : Int))).bind fun t => if t = true then carlingref02_Word.l0 k s (wrap64 ((i : Int) + 1)) else some false) (fun k => ?_) (Ev.bind hpe ?_)
      · simp only [carlingref02_Word.l0]
        rw [if_pos (by omega), if_pos (by omega)]
      · cases hp : partOf (bt s (i : Int)) with
        | true =>
          simp only [if_true]
          rw [wrap_at (by omega)]
          refine ih (i + 1) (by omega) ?_
          unfold allTo
          rw [ha, ← hb, hp]
          rfl
        | false =>
          have : wordOf s = false := by
            unfold wordOf
            rw [allTo_false (by rw [← hb]; exact hp) s.size hlt]
            rfl
          rw [this]
          simp only [Bool.false_eq_true, if_false]
          exact Ev.now _
  refine Ev.congr (f := fun k => carlingref02_Word.l0 k s ((0 : Nat) : Int)) (fun k => ?_) (key s.size 0 rfl rfl)
  unfold carlingref02_Word.f
  rfl
def resT (o : Option (List UInt8)) : ByteArray × Bool := match o with
  | none => (⟨#[]⟩, false)
  | some t => (⟨t.toArray⟩, true)
theorem mk_append (t : List UInt8) (s : ByteArray) : (⟨t.toArray⟩ : ByteArray) ++ s = ⟨(t ++ bytesL s).toArray⟩ := by
  apply ByteArray.ext
  rw [ByteArray.data_append]
  unfold bytesL
  simp
theorem mk_size (t : List UInt8) : (⟨t.toArray⟩ : ByteArray).size = t.length := by show t.toArray.size = _; simp
theorem bytesL_mk (t : List UInt8) : bytesL (⟨t.toArray⟩ : ByteArray) = t := by unfold bytesL; simp
theorem le_top {a : Nat} (h : a ≤ 9000000000000) : a ≤ 9223372036854775807 := by omega
set_option maxHeartbeats 4000000 in
theorem text_ev : ∀ (r d : Nat) (l : List S30) (sep : ByteArray), d + r = 24 → sep.size ≤ 1 → wtR r l ≤ 1099511627776 → Ev (fun k => carlingref02_text.f k l sep (d : Int)) (resT (layR r (bytesL sep) l))
  | r, d, l, sep, hdr, hsep, hwt => by
    have hnl : ∀ i t, layTo (ntOf r (subR r)) (bytesL sep) l i = some t → t.length ≤ wtTo (wnR r) l i := layTo_len (by rw [bytesL_len]; exact hsep) (nt_len r)
    have hll : l.length ≤ 1099511627776 := by
      have := wtTo_ge r l l.length
      rw [← wtR_eq] at this
      omega
    have key : ∀ dd i t, dd + i = l.length → layTo (ntOf r (subR r)) (bytesL sep) l i = some t → Ev (fun k => carlingref02_text.l0 k l sep (d : Int) ⟨t.toArray⟩ (i : Int)) (resT (layR r (bytesL sep) l)) := by
      intro dd
      induction dd with
      | zero =>
        intro i t hi ht
        obtain rfl : i = l.length := by omega
        rw [layR_eq, ht]
        refine Ev.step (f := fun k => some (⟨t.toArray⟩, true)) (fun k => ?_) (Ev.now _)
        simp only [carlingref02_text.l0]
        rw [if_neg (by omega)]
      | succ dd ih =>
        intro i t hi ht
        have hlt : i < l.length := by omega
        obtain ⟨n, hn⟩ : ∃ n, n = rd_T30 l (i : Int) := ⟨_, rfl⟩
        have htl := hnl i t ht
        have hat := wtTo_at (wnR r) l hlt
        rw [← wtR_eq, ← hn] at hat
        have hwn : n.f1.size + 3 ≤ wnR r n := by cases r <;> simp only [wnR] <;> omega
        obtain ⟨t1, ht1⟩ : ∃ t1, t1 = t ++ (if i = 0 then [] else bytesL sep) := ⟨_, rfl⟩
        have ht1l : t1.length ≤ t.length + 1 := by
          rw [ht1, List.length_append]
          split
          · simp
          · rw [bytesL_len]; omega
        have hsome : ∀ a, ntOf r (subR r) n = some a → layTo (ntOf r (subR r)) (bytesL sep) l (i + 1) = some (t1 ++ a) := fun a ha => by
          simp only [layTo]
          rw [ht, ← hn, ha, ht1]
          simp
        have hnone : ntOf r (subR r) n = none → layR r (bytesL sep) l = none := fun hh => by
          rw [layR_eq]
          refine layTo_none (i := i + 1) ?_ _ hlt
          simp only [layTo]
          rw [ht, ← hn, hh]
          rfl
        -- the text between
        suffices hj1 : Ev (fun k => carlingref02_text.j1 k l sep (d : Int) ⟨t1.toArray⟩ (i : Int)) (resT (layR r (bytesL sep) l)) by
          refine Ev.step (f := fun k => carlingref02_text.j1 k l sep (d : Int) ⟨t1.toArray⟩ (i : Int)) (fun k => ?_) hj1
          simp only [carlingref02_text.l0]
          rw [if_pos (by omega)]
          by_cases h0 : i = 0
          · rw [if_neg (by omega)]
            rw [ht1, if_pos h0, List.append_nil]
          · rw [if_pos (by omega), if_pos (by rw [mk_size]; exact le_top (by omega)), mk_append]
            rw [ht1, if_neg h0]
        have hi1 : (0 : Int) ≤ (i : Int) := by omega
        have hi2 : (i : Int) < (l.length : Int) := by omega
        by_cases hf : n.f0 = true
        · -- a list
          have hj2 : ∀ k, carlingref02_text.j1 (k + 1) l sep (d : Int) ⟨t1.toArray⟩ (i : Int) = (if (d : Int) = 24 then carlingref02_text.j2 k l sep (d : Int) ⟨t1.toArray⟩ (i : Int) true else carlingref02_text.j2 k l sep (d : Int) ⟨t1.toArray⟩ (i : Int) (n.f1.toList != ([] : List UInt8))) := fun k => by
            simp only [carlingref02_text.j1, ← hn]
            rw [if_pos hi1, if_pos hi2, if_pos hf]
          have hbad : ntOf r (subR r) n = none → Ev (fun k => carlingref02_text.j2 k l sep (d : Int) ⟨t1.toArray⟩ (i : Int) true) (resT (layR r (bytesL sep) l)) := fun hz => by
            rw [hnone hz]
            refine Ev.step (f := fun k => some ((⟨#[]⟩ : ByteArray), false)) (fun k => ?_) (Ev.now _)
            simp only [carlingref02_text.j2]
            rfl
          by_cases h24 : d = 24
          · have hz : ntOf r (subR r) n = none := by unfold ntOf; rw [if_pos hf, if_pos (.inl (by omega))]
            have h24i : (d : Int) = 24 := by omega
            refine Ev.step hj2 ?_
            simp only [if_pos h24i]
            exact hbad hz
          · have h24' : ¬ (d : Int) = 24 := by omega
            by_cases hs : n.f1.size = 0
            · obtain ⟨r', rfl⟩ : ∃ r', r = r' + 1 := ⟨r - 1, by omega⟩
              have hne : (n.f1.toList != ([] : List UInt8)) = false := by
                have := emptyL_true hs
                rw [List.isEmpty_iff] at this
                rw [this]
                rfl
              have hwn2 : n.f1.size + 3 + wtR r' n.f2 ≤ wnR (r' + 1) n := Nat.le_refl _
              have hsub := text_ev r' (d + 1) n.f2 ⟨#[32]⟩ (by omega) (by decide) (by omega)
              have hb32 : bytesL (⟨#[32]⟩ : ByteArray) = [32] := rfl
              rw [hb32] at hsub
              have hno : ¬ (r' + 1 = 0 ∨ n.f1.size ≠ 0) := fun hh => hh.elim (Nat.succ_ne_zero _) (fun h => h hs)
              have hwd : wrap64 ((d : Int) + 1) = ((d + 1 : Nat) : Int) := wrap_at (by omega)
              refine Ev.step hj2 ?_
              simp only [if_neg h24', hne]
              refine Ev.step (f := fun k => (carlingref02_text.f k n.f2 (⟨#[32]⟩ : ByteArray) ((d + 1 : Nat) : Int)).bind fun bt207 => (if bt207.2 = true then (if t1.length + 1 ≤ 9223372036854775807 then (if ((⟨t1.toArray⟩ : ByteArray) ++ (⟨#[40]⟩ : ByteArray)).size + bt207.1.size ≤ 9223372036854775807 then (if (((⟨t1.toArray⟩ : ByteArray) ++ (⟨#[40]⟩ : ByteArray)) ++ bt207.1).size + 1 ≤ 9223372036854775807 then (carlingref02_text.l0 k l sep (d : Int) ((((⟨t1.toArray⟩ : ByteArray) ++ (⟨#[40]⟩ : ByteArray)) ++ bt207.1) ++ (⟨#[41]⟩ : ByteArray)) ((i + 1 : Nat) : Int)) else (none)) else (none)) else (none)) else (some ((⟨#[]⟩ : ByteArray), false)))) (fun k => ?_) (Ev.bind hsub ?_)
              · simp only [carlingref02_text.j2, ← hn, hwd, mk_size]
                rw [if_neg (by decide), if_pos hi1, if_pos hi2, wrap_at (by omega)]
              · cases hls : layR r' [32] n.f2 with
                | none =>
                  have hz : ntOf (r' + 1) (subR (r' + 1)) n = none := by
                    unfold ntOf
                    rw [if_pos hf, if_neg hno]
                    show (layR r' [32] n.f2).map _ = none
                    rw [hls]
                    rfl
                  rw [hnone hz]
                  simp only [resT, Bool.false_eq_true, if_false]
                  exact Ev.now _
                | some t' =>
                  have hz : ntOf (r' + 1) (subR (r' + 1)) n = some (40 :: (t' ++ [41])) := by
                    unfold ntOf
                    rw [if_pos hf, if_neg hno]
                    show (layR r' [32] n.f2).map _ = _
                    rw [hls]
                    rfl
                  have hl' := layR_len (sep := [32]) (by decide) hls
                  have h40 : bytesL (⟨#[40]⟩ : ByteArray) = [40] := rfl
                  have h41 : bytesL (⟨#[41]⟩ : ByteArray) = [41] := rfl
                  have c1 : t1.length + 1 ≤ 9223372036854775807 := le_top (by omega)
                  simp only [resT, if_true, mk_append, bytesL_mk, mk_size, h40, h41, List.length_append, List.length_singleton]
                  have c2 : t1.length + 1 + t'.length ≤ 9223372036854775807 := le_top (by omega)
                  have c3 : t1.length + 1 + t'.length + 1 ≤ 9223372036854775807 := le_top (by omega)
                  simp only [if_pos c1, if_pos c2, if_pos c3]
                  have hst : t1 ++ (40 :: (t' ++ [41])) = t1 ++ [40] ++ t' ++ [41] := by simp
                  have := ih (i + 1) _ (by omega) (hsome _ hz)
                  rw [hst] at this
                  exact this
            · have hz : ntOf r (subR r) n = none := by unfold ntOf; rw [if_pos hf, if_pos (.inr hs)]
              have hne : (n.f1.toList != ([] : List UInt8)) = true := by
                have := emptyL_false hs
                cases h : n.f1.toList with
                | nil => rw [h] at this; cases this
                | cons a b => rfl
              refine Ev.step hj2 ?_
              simp only [if_neg h24', hne]
              exact hbad hz
        · -- a word
          have hf' : ¬ (n.f0 = true) := hf
          by_cases h2 : 0 < n.f2.length
          · have hz : ntOf r (subR r) n = none := by unfold ntOf; rw [if_neg hf, if_pos (.inl h2)]
            rw [hnone hz]
            refine Ev.step (f := fun k => some ((⟨#[]⟩ : ByteArray), false)) (fun k => ?_) (Ev.now _)
            simp only [carlingref02_text.j1, ← hn]
            rw [if_pos hi1, if_pos hi2, if_neg hf, if_pos (by omega)]
          · have hwr := word_ref n.f1 (by omega)
            refine Ev.step (f := fun k => (carlingref02_Word.f k n.f1).bind fun t203 => (if t203 = true then (if t1.length + n.f1.size ≤ 9223372036854775807 then (carlingref02_text.l0 k l sep (d : Int) ((⟨t1.toArray⟩ : ByteArray) ++ n.f1) ((i + 1 : Nat) : Int)) else (none)) else (some ((⟨#[]⟩ : ByteArray), false)))) (fun k => ?_) (Ev.bind hwr ?_)
            · simp only [carlingref02_text.j1, ← hn, mk_size]
              rw [if_pos hi1, if_pos hi2, if_neg hf, if_neg (by omega), wrap_at (by omega)]
            · cases hw : wordOf n.f1 with
              | false =>
                have hz : ntOf r (subR r) n = none := by unfold ntOf; rw [if_neg hf, if_pos (.inr hw)]
                rw [hnone hz]
                simp only [Bool.false_eq_true, if_false]
                exact Ev.now _
              | true =>
                have hz : ntOf r (subR r) n = some (bytesL n.f1) := by
                  unfold ntOf
                  rw [if_neg hf, if_neg (by rw [hw]; intro hh; rcases hh with hh | hh; exact h2 hh; cases hh)]
                have c1 : t1.length + n.f1.size ≤ 9223372036854775807 := le_top (by omega)
                simp only [if_true, if_pos c1, mk_append]
                exact ih (i + 1) _ (by omega) (hsome _ hz)
    refine Ev.step (f := fun k => carlingref02_text.l0 k l sep (d : Int) (⟨([] : List UInt8).toArray⟩ : ByteArray) ((0 : Nat) : Int)) (fun k => ?_) (key l.length 0 [] rfl rfl)
    simp only [carlingref02_text.f]
    rfl
termination_by r => r
theorem SexpPrints (l0 : List S30) (a1 : ByteArray) : ∃ k, carlinglaw02_SexpPrints.f k l0 a1 = some true := by
  refine Ev.rounds ?_
  unfold carlinglaw02_SexpPrints.f
  rw [awake_eq]
  simp only [Option.bind_some]
  obtain ⟨r, hE, h0, h1, h2⟩ := size_ev (cntL l0) l0 3000 0 (Nat.le_refl _) (by omega) (by omega) (by omega)
  refine Ev.bind hE ?_
  have hout : ∀ b, Ev (fun k => carlinglaw02_SexpPrints.j0 k l0 a1 b true) b := fun b => by
    refine Ev.step (f := fun k => some b) (fun k => ?_) (Ev.now _)
    simp only [carlinglaw02_SexpPrints.j0]
    rfl
  by_cases hr : r > 3000
  · simp only [if_pos hr]
    exact hout true
  simp only [if_neg hr]
  by_cases ha : (a1.size : Int) > 1000
  · rw [decide_eq_true ha]
    exact hout true
  rw [decide_eq_false ha]
  have hws : wsmL l0 ≤ 3000 := by have := h2 (by omega); omega
  have hwt := wt_le 24 l0 (by omega)
  obtain ⟨pr, hpr⟩ : ∃ pr : ByteArray × Int, pr = (match layR 24 [10] l0 with
    | none => (⟨#[]⟩, 6)
    | some t => (⟨t.toArray⟩, 0)) := ⟨_, rfl⟩
  have hP : sexp_Print.f l0 = some pr := by unfold sexp_Print.f; rw [if_pos (by omega), hpr]; rfl
  have hT := text_ev 24 0 l0 ⟨#[10]⟩ rfl (by decide) (by omega)
  have hb10 : bytesL (⟨#[10]⟩ : ByteArray) = [10] := rfl
  rw [hb10] at hT
  have hR : Ev (fun k => carlingref02_Print.f k l0) pr := by
    refine Ev.congr (f := fun k => (carlingref02_text.f k l0 (⟨#[10]⟩ : ByteArray) ((0 : Nat) : Int)).bind fun bt209 => (if bt209.2 = true then (some (bt209.1, 0)) else (some ((⟨#[]⟩ : ByteArray), 6)))) (fun k => ?_) (Ev.bind hT ?_)
    · unfold carlingref02_Print.f
      rfl
    · rw [hpr]
      cases layR 24 [10] l0 with
      | none =>
        simp only [resT, Bool.false_eq_true, if_false]
        exact Ev.now _
      | some t =>
        simp only [resT, if_true]
        exact Ev.now _
  have hW : sexp_Word.f a1 = some (wordOf a1) := if_pos (by omega)
  refine Ev.step (f := fun k => (carlingref02_Print.f k l0).bind fun bt215 => if pr.1.toList = bt215.1.toList then (if pr.2 = bt215.2 then (carlingref02_Word.f k a1).bind fun t218 => some (wordOf a1 == t218) else some false) else some false) (fun k => ?_) (Ev.bind hR ?_)
  · simp only [carlinglaw02_SexpPrints.j0, hP, hW, Option.bind_some, if_true, Bool.false_eq_true, if_false]
  · simp only [if_true]
    refine Ev.bind (word_ref a1 (by omega)) ?_
    simp only [beq_self_eq_true]
    exact Ev.now _
end Go.Proofs.Ytciojbdkoojlhaa.Pure
