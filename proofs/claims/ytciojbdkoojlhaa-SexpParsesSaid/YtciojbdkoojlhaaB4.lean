/- The document's parser and the machine. Conditions: the text's length. -/
import Derived.Test.YtciojbdkoojlhaaPx16
import Derived.Test.YtciojbdkoojlhaaB2
namespace Go.Proofs.Ytciojbdkoojlhaa.P
set_option linter.unusedVariables false
open Go.RowKit Go.Proofs.YtciojbdkoojlhaaW.PrintWords Go.Proofs.YtciojbdkoojlhaaW.PrintLast Go.Proofs.YtciojbdkoojlhaaW.PrintMore
theorem part_all : ∀ c : Fin 256, carlingref02_part.f 16 (c.val : Int) = some (partOf (c.val : Int)) := by decide +kernel
theorem part_ev (c : UInt8) : Ev (fun k => carlingref02_part.f k (c.toNat : Int)) (partB c) :=
  Ev.of (fun k => carlingref02_part.mono (c.toNat : Int) k) (part_all ⟨c.toNat, c.toNat_lt⟩)
theorem bt_byte {s : ByteArray} {i : Nat} (h : i < (bytesL s).length) : bt s (i : Int) = (((bytesL s)[i]).toNat : Int) := by
  have hs : i < s.size := by rw [bytesL_len] at h; exact h
  unfold bt
  rw [Int.toNat_natCast, dif_pos hs, bytesL_at s i hs]
theorem u8_int {c : UInt8} (k : UInt8) : ((c.toNat : Int) = (k.toNat : Int)) = (c = k) := by
  apply propext
  refine ⟨fun h => UInt8.toNat_inj.1 (by omega), fun h => by rw [h]⟩
/-- The next byte is none of the word's. -/
def Ended (x : List UInt8) (s : MSt) : Prop := s.word = none ∨ ∀ h : s.pos < x.length, partB x[s.pos] = false
theorem flush_flush (s : MSt) : flushT (flushS s) = flushT s := rfl
theorem flush_of_none {s : MSt} (h : s.word = none) : flushT s = s.top := by unfold flushT; rw [h]
theorem end_flush (c : UInt8) (s : MSt) (h : partB c = false) : endW c s = flushS s := by
  rcases endW_cases c s with ⟨e, _⟩ | ⟨_, e⟩
  · rw [h] at e; cases e
  · exact e
theorem ok_note {x : List UInt8} {s : MSt} (h : OkAt x s) (hn : s.note = true) : s.word = none := by
  cases hw : s.word with
  | none => rfl
  | some q => have := (h.word q.1 q.2 hw).2.2; rw [hn] at this; cases this
/-- Where skip ends. -/
def SkipTo (x : List UInt8) (s s' : MSt) : Prop := OkAt x s' ∧ s.pos ≤ s'.pos ∧ flushT s' = flushT s ∧ s'.stk = s.stk ∧ ∀ h : s'.pos < x.length, s'.note = false ∧ (s'.word = none ∨ partB x[s'.pos] = false) ∧ x[s'.pos] ≠ 59 ∧ isBlank x[s'.pos] = false
theorem wrap_small {i : Nat} (h : i ≤ 1099511627776) : wrap64 (i : Int) = (i : Int) := by unfold wrap64; omega
theorem skip_both (a0 : ByteArray) (hsz : a0.size ≤ 16384) : ∀ n : Nat,
    (∀ s, OkAt (bytesL a0) s → s.pos + n = (bytesL a0).length → s.note = false → Ended (bytesL a0) s → ∃ s', SkipTo (bytesL a0) s s' ∧ Ev (fun k => carlingref02_skip.l0 k a0 (s.pos : Int)) (s'.pos : Int)) ∧
    (∀ s, OkAt (bytesL a0) s → s.pos + n = (bytesL a0).length → s.note = true → ∃ s', SkipTo (bytesL a0) s s' ∧ Ev (fun k => carlingref02_skip.l1 k a0 (s.pos : Int)) (s'.pos : Int))
  | 0 => by
    have hx : (bytesL a0).length = a0.size := bytesL_len a0
    have hend : ∀ s : MSt, s.pos + 0 = (bytesL a0).length → Ev (fun k => carlingref02_skip.l0 k a0 (s.pos : Int)) (s.pos : Int) := fun s hs => by
      refine Ev.step (f := fun k => some (s.pos : Int)) (fun k => ?_) (Ev.now _)
      simp only [carlingref02_skip.l0]
      rw [if_neg (by omega)]
    refine ⟨fun s h1 h2 h3 h4 => ⟨s, ⟨h1, Nat.le_refl _, rfl, rfl, fun h => absurd h (by omega)⟩, hend s h2⟩, fun s h1 h2 h3 => ⟨s, ⟨h1, Nat.le_refl _, rfl, rfl, fun h => absurd h (by omega)⟩, ?_⟩⟩
    refine Ev.step (f := fun k => carlingref02_skip.l0 k a0 (s.pos : Int)) (fun k => ?_) (hend s h2)
    simp only [carlingref02_skip.l1]
    rw [if_neg (by omega)]
  | n + 1 => by
    have hx : (bytesL a0).length = a0.size := bytesL_len a0
    obtain ⟨ih0, ih1⟩ := skip_both a0 hsz n
    refine ⟨fun s h1 h2 h3 h4 => ?_, fun s h1 h2 h3 => ?_⟩
    · have hlt : s.pos < (bytesL a0).length := by omega
      have hb := bt_byte hlt
      have hstep : ∀ s', act (bytesL a0)[s.pos] (endW (bytesL a0)[s.pos] s) = .go s' → OkAt (bytesL a0) s' ∧ s'.pos = s.pos + 1 := fun s' ha => step_ok h1 hlt ha
      have h4' : s.word = none ∨ partB (bytesL a0)[s.pos] = false := h4.imp id (fun h => h hlt)
      generalize hc : (bytesL a0)[s.pos] = c at hb hstep h4'
      have e59 : (bt a0 (s.pos : Int) = 59) = (c = 59) := by rw [hb]; exact u8_int 59
      have e9 : (bt a0 (s.pos : Int) = 9) = (c = 9) := by rw [hb]; exact u8_int 9
      have e10 : (bt a0 (s.pos : Int) = 10) = (c = 10) := by rw [hb]; exact u8_int 10
      have e13 : (bt a0 (s.pos : Int) = 13) = (c = 13) := by rw [hb]; exact u8_int 13
      have e32 : (bt a0 (s.pos : Int) = 32) = (c = 32) := by rw [hb]; exact u8_int 32
      by_cases c59 : c = 59
      · have ha : act c (endW c s) = .go { (flushS s) with note := true, pos := s.pos + 1 } := by
          rw [end_flush c s (by rw [c59]; decide +kernel)]
          unfold act
          rw [if_neg (show ¬ (flushS s).note = true by show ¬ s.note = true; rw [h3]; decide), if_pos c59]
          rfl
        obtain ⟨k1, k2⟩ := hstep _ ha
        obtain ⟨s', ⟨j1, j2, j3, j4, j5⟩, j6⟩ := ih1 _ k1 (by rw [k2]; omega) rfl
        refine ⟨s', ⟨j1, by rw [k2] at j2; omega, j3.trans rfl, j4, j5⟩, ?_⟩
        refine Ev.step (f := fun k => carlingref02_skip.l1 k a0 (s.pos : Int)) (fun k => ?_) ?_
        · simp only [carlingref02_skip.l0]
          rw [if_pos (by omega), if_pos (by omega), if_pos (by rw [e59]; exact c59)]
        · refine Ev.step (f := fun k => carlingref02_skip.l1 k a0 (wrap64 ((s.pos : Int) + 1))) (fun k => ?_) ?_
          · simp only [carlingref02_skip.l1]
            rw [if_pos (by omega), if_pos (by omega), if_neg (by rw [e10, c59]; decide)]
          · rw [wrap_at (by omega)]
            exact j6
      by_cases cb : isBlank c = true
      · have hp : partB c = false := by
          unfold isBlank at cb
          simp only [Bool.or_eq_true, beq_iff_eq] at cb
          rcases cb with ((rfl | rfl) | rfl) | rfl <;> decide +kernel
        have ha : act c (endW c s) = .go { (flushS s) with pos := s.pos + 1 } := by
          rw [end_flush c s hp]
          unfold act
          rw [if_neg (show ¬ (flushS s).note = true by show ¬ s.note = true; rw [h3]; decide), if_neg c59, if_pos cb]
          rfl
        obtain ⟨k1, k2⟩ := hstep _ ha
        obtain ⟨s', ⟨j1, j2, j3, j4, j5⟩, j6⟩ := ih0 _ k1 (by rw [k2]; omega) h3 (.inl rfl)
        refine ⟨s', ⟨j1, by rw [k2] at j2; omega, j3.trans rfl, j4, j5⟩, ?_⟩
        refine Ev.step (f := fun k => carlingref02_skip.l0 k a0 (wrap64 ((s.pos : Int) + 1))) (fun k => ?_) (by rw [wrap_at (by omega)]; exact j6)
        simp only [carlingref02_skip.l0]
        rw [if_pos (by omega), if_pos (by omega), if_neg (by rw [e59]; exact c59)]
        simp only [e9, e10, e13, e32]
        unfold isBlank at cb
        simp only [Bool.or_eq_true, beq_iff_eq] at cb
        rcases cb with ((rfl | rfl) | rfl) | rfl <;> simp
      · have cb' : isBlank c = false := Bool.eq_false_iff.mpr cb
        refine ⟨s, ⟨h1, Nat.le_refl _, rfl, rfl, fun h => ?_⟩, ?_⟩
        · rw [show (bytesL a0)[s.pos] = c from hc]
          exact ⟨h3, h4', c59, cb'⟩
        · refine Ev.step (f := fun k => some (s.pos : Int)) (fun k => ?_) (Ev.now _)
          simp only [carlingref02_skip.l0]
          rw [if_pos (by omega), if_pos (by omega), if_neg (by rw [e59]; exact c59)]
          simp only [e9, e10, e13, e32]
          unfold isBlank at cb'
          simp only [Bool.or_eq_false_iff, beq_eq_false_iff_ne] at cb'
          obtain ⟨⟨⟨q1, q2⟩, q3⟩, q4⟩ := cb'
          rw [if_neg q2, if_neg q3, if_neg q4, if_neg q1]
    · have hlt : s.pos < (bytesL a0).length := by omega
      have hb := bt_byte hlt
      have hw := ok_note h1 h3
      have hstep : ∀ s', act (bytesL a0)[s.pos] (endW (bytesL a0)[s.pos] s) = .go s' → OkAt (bytesL a0) s' ∧ s'.pos = s.pos + 1 := fun s' ha => step_ok h1 hlt ha
      generalize (bytesL a0)[s.pos] = c at hb hstep
      have e10 : (bt a0 (s.pos : Int) = 10) = (c = 10) := by rw [hb]; exact u8_int 10
      have e59 : (bt a0 (s.pos : Int) = 59) = (c = 59) := by rw [hb]; exact u8_int 59
      have e9 : (bt a0 (s.pos : Int) = 9) = (c = 9) := by rw [hb]; exact u8_int 9
      have he : endW c s = s ∨ endW c s = flushS s := by
        rcases endW_cases c s with ⟨_, e⟩ | ⟨_, e⟩
        · exact .inl e
        · exact .inr e
      have hfs : flushS s = s := by
        have := flush_of_none hw
        unfold flushS
        rw [this]
        cases s
        simp_all
      have he : endW c s = s := by rw [hfs, or_self] at he; exact he
      have ha : act c (endW c s) = .go { s with note := c != 10, pos := s.pos + 1 } := by
        rw [he]
        unfold act
        rw [if_pos h3]
      obtain ⟨k1, k2⟩ := hstep _ ha
      by_cases c10 : c = 10
      · obtain ⟨s', ⟨j1, j2, j3, j4, j5⟩, j6⟩ := ih0 _ k1 (by rw [k2]; omega) (by rw [c10]; rfl) (.inl hw)
        refine ⟨s', ⟨j1, by rw [k2] at j2; omega, j3.trans rfl, j4, j5⟩, ?_⟩
        refine Ev.step (f := fun k => carlingref02_skip.l0 k a0 (s.pos : Int)) (fun k => ?_) ?_
        · simp only [carlingref02_skip.l1]
          rw [if_pos (by omega), if_pos (by omega), if_pos (by rw [e10]; exact c10)]
        · refine Ev.step (f := fun k => carlingref02_skip.l0 k a0 (wrap64 ((s.pos : Int) + 1))) (fun k => ?_) (by rw [wrap_at (by omega)]; exact j6)
          simp only [carlingref02_skip.l0]
          rw [if_pos (by omega), if_pos (by omega), if_neg (by rw [e59, c10]; decide), if_neg (by rw [e9, c10]; decide), if_pos (by rw [e10]; exact c10)]
      · obtain ⟨s', ⟨j1, j2, j3, j4, j5⟩, j6⟩ := ih1 _ k1 (by rw [k2]; omega) (bne_iff_ne.mpr c10)
        refine ⟨s', ⟨j1, by rw [k2] at j2; omega, j3.trans rfl, j4, j5⟩, ?_⟩
        refine Ev.step (f := fun k => carlingref02_skip.l1 k a0 (wrap64 ((s.pos : Int) + 1))) (fun k => ?_) (by rw [wrap_at (by omega)]; exact j6)
        simp only [carlingref02_skip.l1]
        rw [if_pos (by omega), if_pos (by omega), if_neg (by rw [e10]; exact c10)]
/-- What the whole text gives. -/
def finX (a0 : ByteArray) : List S30 × Int × Int := finM a0.size (runM (.go P.start) (bytesL a0))
theorem fin_bad {a0 : ByteArray} {s : MSt} {e a : Nat} (h : OkAt (bytesL a0) s) (hl : s.pos < (bytesL a0).length) (ha : act (bytesL a0)[s.pos] (endW (bytesL a0)[s.pos] s) = .bad e a) : finX a0 = ([], (e : Int), (a : Int)) := by
  unfold finX
  rw [run_bad h hl ha]
  rfl
theorem few_len {x : List UInt8} {s : MSt} (h : OkAt x s) : (flushT s).length ≤ x.length := by
  rw [flush_len]
  exact Nat.le_trans h.few h.le
/-- A word is read to its end. -/
theorem word_ev (a0 : ByteArray) (hsz : a0.size ≤ 16384) (deep : Nat) : ∀ (n : Nat) (s : MSt) (ws : List UInt8) (b : Nat), OkAt (bytesL a0) s → s.pos + n = (bytesL a0).length → s.word = some (ws, b) → ws ≠ [] →
    ∃ s5 ws', OkAt (bytesL a0) s5 ∧ s.pos ≤ s5.pos ∧ s5.word = some (ws', b) ∧ s5.top = s.top ∧ s5.stk = s.stk ∧ s5.note = false ∧ Ended (bytesL a0) s5 ∧
      ∀ R, Ev (fun k => carlingref02_nodes.l0 k a0 (s5.pos : Int) (deep : Int) (flushT s5)) R → Ev (fun k => carlingref02_nodes.l1 k a0 (b : Int) (deep : Int) s.top ((s.pos - b : Nat) : Int)) R := by
  intro n
  have hx : (bytesL a0).length = a0.size := bytesL_len a0
  have stop : ∀ (s : MSt) (ws : List UInt8) (b : Nat), OkAt (bytesL a0) s → s.word = some (ws, b) → ws ≠ [] → ∀ k R, carlingref02_nodes.l0 k a0 (s.pos : Int) (deep : Int) (flushT s) = R →
      (if ((s.pos - b : Nat) : Int) = 0 then (some (([] : List (S30)), (2 : Int), (b : Int))) else (if 0 ≤ (b : Int) then (if (b : Int) ≤ (wrap64 ((b : Int) + ((s.pos - b : Nat) : Int))) then (if (wrap64 ((b : Int) + ((s.pos - b : Nat) : Int))) ≤ (a0.size : Int) then (if s.top.length < 2513169434916 then (carlingref02_nodes.l0 k a0 (wrap64 ((b : Int) + ((s.pos - b : Nat) : Int))) (deep : Int) (s.top ++ [(⟨false, a0.extract (b : Int).toNat ((wrap64 ((b : Int) + ((s.pos - b : Nat) : Int))) : Int).toNat, ([] : List (S30)), (b : Int)⟩ : S30)])) else (none)) else (none)) else (none)) else (none))) = R := by
    intro s ws b h hw hne k R hR
    obtain ⟨h1, h2⟩ := word_text h hw
    have h3 := (h.word ws b hw).1
    have hpos : 0 < ws.length := List.length_pos_iff.2 hne
    have hle := h.le
    have hwp : wrap64 ((b : Int) + ((s.pos - b : Nat) : Int)) = (s.pos : Int) := by unfold wrap64; omega
    have hfew := few_len h
    have hft : flushT s = s.top ++ [wordNode ws b] := by unfold flushT; rw [hw]
    rw [hft, List.length_append] at hfew
    rw [hwp, if_neg (by omega), if_pos (by omega), if_pos (by omega), if_pos (by omega), if_pos (by omega), Int.toNat_natCast, Int.toNat_natCast, ← h1, ← hR, hft]
    rfl
  induction n with
  | zero =>
    intro s ws b h hn hw hne
    have h3 := h.word ws b hw
    refine ⟨s, ws, h, Nat.le_refl _, hw, rfl, rfl, h3.2.2, .inr (fun hh => absurd hh (by omega)), fun R hR => ?_⟩
    have hwp : wrap64 ((b : Int) + ((s.pos - b : Nat) : Int)) = (s.pos : Int) := by have := h3.1; unfold wrap64; omega
    obtain ⟨K, hK⟩ := hR
    refine ⟨K + 1, fun k hk => ?_⟩
    obtain ⟨k, rfl⟩ : ∃ k', k = k' + 1 := ⟨k - 1, by omega⟩
    simp only [carlingref02_nodes.l1]
    rw [if_neg (by rw [hwp]; omega)]
    exact stop s ws b h hw hne k _ (hK k (by omega))
  | succ n ih =>
    intro s ws b h hn hw hne
    have h3 := h.word ws b hw
    have hwp : wrap64 ((b : Int) + ((s.pos - b : Nat) : Int)) = (s.pos : Int) := by have := h3.1; unfold wrap64; omega
    have hlt : s.pos < (bytesL a0).length := by omega
    have hb := bt_byte hlt
    have hpe := part_ev (bytesL a0)[s.pos]
    cases hp : partB (bytesL a0)[s.pos] with
    | true =>
      have hl2 : runM (.go s) [(bytesL a0)[s.pos]] = .go { s with word := some (ws ++ [(bytesL a0)[s.pos]], b), pos := s.pos + 1 } := run_word _ s ws b hw h3.2.2 (fun c hc => by rw [List.mem_singleton] at hc; rw [hc]; exact hp)
      have ha : act (bytesL a0)[s.pos] (endW (bytesL a0)[s.pos] s) = .go { s with word := some (ws ++ [(bytesL a0)[s.pos]], b), pos := s.pos + 1 } := hl2
      obtain ⟨k1, k2⟩ := step_ok h hlt ha
      obtain ⟨s5, ws', j1, j2, j3, j4, j5, j6, j7, j8⟩ := ih _ (ws ++ [(bytesL a0)[s.pos]]) b k1 (by rw [k2]; omega) rfl (by simp)
      refine ⟨s5, ws', j1, by rw [k2] at j2; omega, j3, j4, j5, j6, j7, fun R hR => ?_⟩
      have hr := j8 R hR
      have hj : (((s.pos + 1 - b : Nat)) : Int) = wrap64 (((s.pos - b : Nat) : Int) + 1) := by have := h3.1; unfold wrap64; omega
      rw [hp, ← hb] at hpe
      refine Ev.step (f := fun k => (carlingref02_part.f k (bt a0 (s.pos : Int))).bind fun t => if t = true then carlingref02_nodes.l1 k a0 (b : Int) (deep : Int) s.top (wrap64 (((s.pos - b : Nat) : Int) + 1)) else (if ((s.pos - b : Nat) : Int) = 0 then (some (([] : List (S30)), (2 : Int), (b : Int))) else (if 0 ≤ (b : Int) then (if (b : Int) ≤ (wrap64 ((b : Int) + ((s.pos - b : Nat) : Int))) then (if (wrap64 ((b : Int) + ((s.pos - b : Nat) : Int))) ≤ (a0.size : Int) then (if s.top.length < 2513169434916 then (carlingref02_nodes.l0 k a0 (wrap64 ((b : Int) + ((s.pos - b : Nat) : Int))) (deep : Int) (s.top ++ [(⟨false, a0.extract (b : Int).toNat ((wrap64 ((b : Int) + ((s.pos - b : Nat) : Int))) : Int).toNat, ([] : List (S30)), (b : Int)⟩ : S30)])) else (none)) else (none)) else (none)) else (none)))) (fun k => ?_) ?_
      · simp only [carlingref02_nodes.l1]
        rw [if_pos (by rw [hwp]; omega), if_pos (by rw [hwp]; omega), hwp]
      · refine Ev.bind hpe ?_
        simp only [if_true]
        rw [← hj]
        exact hr
    | false =>
      refine ⟨s, ws, h, Nat.le_refl _, hw, rfl, rfl, h3.2.2, .inr (fun _ => hp), fun R hR => ?_⟩
      rw [hp, ← hb] at hpe
      obtain ⟨K, hK⟩ := hR
      obtain ⟨K2, hK2⟩ := hpe
      refine ⟨K + K2 + 1, fun k hk => ?_⟩
      obtain ⟨k, rfl⟩ : ∃ k', k = k' + 1 := ⟨k - 1, by omega⟩
      have hs := stop s ws b h hw hne k _ (hK k (by omega))
      rw [hwp] at hs
      have hk2 : carlingref02_part.f k (bt a0 (s.pos : Int)) = some false := hK2 k (by omega)
      simp only [carlingref02_nodes.l1]
      rw [if_pos (by rw [hwp]; omega), if_pos (by rw [hwp]; omega), hwp]
      rw [hk2]
      simp only [Option.bind_some, Bool.false_eq_true, if_false]
      exact hs
/-- What the document's nodes answer, and how the machine goes meanwhile. -/
def NodesTo (a0 : ByteArray) (s : MSt) (R : List S30 × Int × Int) : Prop :=
  (R.2.1 ≠ 0 ∧ R.1 = [] ∧ finX a0 = R) ∨
  (∃ s', OkAt (bytesL a0) s' ∧ s.pos ≤ s'.pos ∧ R = (flushT s', 0, (s'.pos : Int)) ∧ s'.stk = s.stk ∧ (s.stk = [] → s'.pos = (bytesL a0).length) ∧ (s.stk ≠ [] → s'.note = false ∧ ∃ h : s'.pos < (bytesL a0).length, (bytesL a0)[s'.pos] = 41))
theorem NodesTo.back {a0 : ByteArray} {s s1 : MSt} {R : List S30 × Int × Int} (h : NodesTo a0 s1 R) (hp : s.pos ≤ s1.pos) (hk : s1.stk = s.stk) : NodesTo a0 s R := by
  rcases h with h | ⟨s', h1, h2, h3, h4, h5, h6⟩
  · exact .inl h
  · exact .inr ⟨s', h1, by omega, h3, h4.trans hk, by rw [← hk]; exact h5, by rw [← hk]; exact h6⟩
theorem nodes_ev (a0 : ByteArray) (hsz : a0.size ≤ 16384) : ∀ (n : Nat) (s : MSt), OkAt (bytesL a0) s → s.pos + n = (bytesL a0).length → s.note = false → Ended (bytesL a0) s →
    ∃ R, NodesTo a0 s R ∧ Ev (fun k => carlingref02_nodes.l0 k a0 (s.pos : Int) (s.stk.length : Int) (flushT s)) R := by
  intro n
  induction n using Nat.strongRecOn with
  | ind n ih =>
  intro s h1 h2 h3 h4
  have hx : (bytesL a0).length = a0.size := bytesL_len a0
  obtain ⟨s1, ⟨j1, j2, j3, j4, j5⟩, j6⟩ := (skip_both a0 hsz n).1 s h1 h2 h3 h4
  have hle := j1.le
  have hdeep := h1.deep
  -- behind skip
  have go : ∀ (R : List S30 × Int × Int) (body : Nat → Option (List S30 × Int × Int)), (∀ k, (if (s1.pos : Int) = (a0.size : Int) then (if (s.stk.length : Int) > 0 then (some (([] : List (S30)), 3, (s1.pos : Int))) else (some (flushT s, 0, (s1.pos : Int)))) else (if 0 ≤ (s1.pos : Int) then (if (s1.pos : Int) < (a0.size : Int) then (if (bt a0 (s1.pos : Int)) = 41 then (if (s.stk.length : Int) = 0 then (some (([] : List (S30)), 3, (s1.pos : Int))) else (some (flushT s, 0, (s1.pos : Int)))) else (if (bt a0 (s1.pos : Int)) = 40 then (if (s.stk.length : Int) = 24 then (some (([] : List (S30)), 4, (s1.pos : Int))) else ((carlingref02_nodes.f k a0 (wrap64 ((s1.pos : Int) + 1)) (wrap64 ((s.stk.length : Int) + 1))).bind fun bt155 => (if bt155.2.1 = 0 then (if (flushT s).length < 2513169434916 then (carlingref02_nodes.l0 k a0 (wrap64 (bt155.2.2 + 1)) (s.stk.length : Int) ((flushT s) ++ [(⟨true, (⟨#[]⟩ : ByteArray), bt155.1, (s1.pos : Int)⟩ : S30)])) else (none)) else (some (([] : List (S30)), bt155.2.1, bt155.2.2))))) else (carlingref02_nodes.l1 k a0 (s1.pos : Int) (s.stk.length : Int) (flushT s) 0))) else (none)) else (none))) = body k) → Ev body R →
      Ev (fun k => carlingref02_nodes.l0 k a0 (s.pos : Int) (s.stk.length : Int) (flushT s)) R := by
    intro R body hbody hR
    obtain ⟨K, hK⟩ := j6
    obtain ⟨K2, hK2⟩ := hR
    refine ⟨K + K2 + 1, fun k hk => ?_⟩
    obtain ⟨k, rfl⟩ : ∃ k', k = k' + 1 := ⟨k - 1, by omega⟩
    have e1 : carlingref02_skip.f k a0 (s.pos : Int) = some (s1.pos : Int) := hK k (by omega)
    have e2 := hK2 k (by omega)
    rw [← hbody k] at e2
    simp only [carlingref02_nodes.l0]
    rw [e1]
    simp only [Option.bind_some]
    exact e2
  by_cases hend : s1.pos = (bytesL a0).length
  · have hfin : finX a0 = if s1.stk = [] then (flushT s1, 0, -1) else ([], 3, (a0.size : Int)) := by
      unfold finX
      rw [run_end j1 hend]
      rfl
    by_cases hk : s.stk = []
    · refine ⟨(flushT s, 0, (s1.pos : Int)), .inr ⟨s1, j1, j2, by rw [j3], j4, fun _ => hend, fun h => absurd hk h⟩, go _ _ (fun k => ?_) (Ev.now _)⟩
      rw [if_pos (by omega), if_neg (by rw [hk]; decide)]
    · have hl : 0 < s.stk.length := List.length_pos_iff.2 hk
      refine ⟨([], 3, (s1.pos : Int)), .inl ⟨(by show (3 : Int) ≠ 0; decide), rfl, ?_⟩, go _ _ (fun k => ?_) (Ev.now _)⟩
      · rw [hfin, if_neg (by rw [j4]; exact hk), hend, hx]
      · rw [if_pos (by omega), if_pos (by omega)]
  have hlt : s1.pos < (bytesL a0).length := by omega
  obtain ⟨q1, q2, q3, q4⟩ := j5 hlt
  have hb := bt_byte hlt
  have e41 : (bt a0 (s1.pos : Int) = 41) = ((bytesL a0)[s1.pos] = 41) := by rw [hb]; exact u8_int 41
  have e40 : (bt a0 (s1.pos : Int) = 40) = ((bytesL a0)[s1.pos] = 40) := by rw [hb]; exact u8_int 40
  have hfew := few_len j1
  by_cases c41 : (bytesL a0)[s1.pos] = 41
  · by_cases hk : s.stk = []
    · refine ⟨([], 3, (s1.pos : Int)), .inl ⟨(by show (3 : Int) ≠ 0; decide), rfl, ?_⟩, go _ _ (fun k => ?_) (Ev.now _)⟩
      · refine fin_bad (e := 3) j1 hlt ?_
        rw [end_flush _ s1 (by rw [c41]; decide +kernel)]
        unfold act
        rw [if_neg (show ¬ (flushS s1).note = true by show ¬ s1.note = true; rw [q1]; decide), if_neg q3, if_neg (by rw [q4]; decide), if_neg (by rw [c41]; decide +kernel), if_neg (by rw [c41]; decide), if_pos c41]
        rw [show (flushS s1).stk = s1.stk from rfl, j4, hk]
        rfl
      · rw [if_neg (by omega), if_pos (by omega), if_pos (by omega), if_pos (by rw [e41]; exact c41), if_pos (by rw [hk]; rfl)]
    · have hl : 0 < s.stk.length := List.length_pos_iff.2 hk
      refine ⟨(flushT s, 0, (s1.pos : Int)), .inr ⟨s1, j1, j2, by rw [j3], j4, fun h => absurd h hk, fun _ => ⟨q1, hlt, c41⟩⟩, go _ _ (fun k => ?_) (Ev.now _)⟩
      rw [if_neg (by omega), if_pos (by omega), if_pos (by omega), if_pos (by rw [e41]; exact c41), if_neg (by omega)]
  by_cases c40 : (bytesL a0)[s1.pos] = 40
  · have hact : act (bytesL a0)[s1.pos] (endW (bytesL a0)[s1.pos] s1) = if s1.stk.length = 24 then .bad 4 s1.pos else .go { (flushS s1) with top := [], stk := (flushT s1, s1.pos) :: s1.stk, pos := s1.pos + 1 } := by
      rw [end_flush _ s1 (by rw [c40]; decide +kernel)]
      unfold act
      rw [if_neg (show ¬ (flushS s1).note = true by show ¬ s1.note = true; rw [q1]; decide), if_neg q3, if_neg (by rw [q4]; decide), if_neg (by rw [c40]; decide +kernel), if_pos c40]
      rfl
    by_cases hd : s.stk.length = 24
    · refine ⟨([], 4, (s1.pos : Int)), .inl ⟨(by show (4 : Int) ≠ 0; decide), rfl, ?_⟩, go _ _ (fun k => ?_) (Ev.now _)⟩
      · refine fin_bad (e := 4) j1 hlt ?_
        rw [hact, if_pos (by rw [j4]; exact hd)]
      · rw [if_neg (by omega), if_pos (by omega), if_pos (by omega), if_neg (by rw [e41]; exact c41), if_pos (by rw [e40]; exact c40), if_pos (by rw [hd]; rfl)]
    · rw [if_neg (by rw [j4]; exact hd)] at hact
      obtain ⟨k1, k2⟩ := step_ok j1 hlt hact
      obtain ⟨R2, hN2, hE2⟩ := ih (n - (s1.pos + 1 - s.pos)) (by omega) _ k1 (by rw [k2]; omega) q1 (.inl rfl)
      have hE2' : Ev (fun k => carlingref02_nodes.f k a0 (wrap64 ((s1.pos : Int) + 1)) (wrap64 ((s.stk.length : Int) + 1))) R2 := by
        refine Ev.step (f := fun k => carlingref02_nodes.l0 k a0 (wrap64 ((s1.pos : Int) + 1)) (wrap64 ((s.stk.length : Int) + 1)) []) (fun k => ?_) ?_
        · simp only [carlingref02_nodes.f]
        · rw [wrap_at (by omega), wrap_at (by omega)]
          have hl : (((flushT s1, s1.pos) :: s1.stk).length : Int) = ((s.stk.length + 1 : Nat) : Int) := by rw [List.length_cons, j4]
          rw [← hl]
          exact hE2
      have hgo := fun (R : List S30 × Int × Int) (h : Ev (fun k => if R2.2.1 = 0 then (if (flushT s).length < 2513169434916 then (carlingref02_nodes.l0 k a0 (wrap64 (R2.2.2 + 1)) (s.stk.length : Int) ((flushT s) ++ [(⟨true, (⟨#[]⟩ : ByteArray), R2.1, (s1.pos : Int)⟩ : S30)])) else (none)) else (some (([] : List (S30)), R2.2.1, R2.2.2))) R) =>
        go R (fun k => (carlingref02_nodes.f k a0 (wrap64 ((s1.pos : Int) + 1)) (wrap64 ((s.stk.length : Int) + 1))).bind fun bt155 => (if bt155.2.1 = 0 then (if (flushT s).length < 2513169434916 then (carlingref02_nodes.l0 k a0 (wrap64 (bt155.2.2 + 1)) (s.stk.length : Int) ((flushT s) ++ [(⟨true, (⟨#[]⟩ : ByteArray), bt155.1, (s1.pos : Int)⟩ : S30)])) else (none)) else (some (([] : List (S30)), bt155.2.1, bt155.2.2)))) (fun k => by
          rw [if_neg (by omega), if_pos (by omega), if_pos (by omega), if_neg (by rw [e41]; exact c41), if_pos (by rw [e40]; exact c40), if_neg (by omega)]) (Ev.bind hE2' h)
      rcases hN2 with ⟨m1, m2, m3⟩ | ⟨s3, m1, m2, m3, m4, m5, m6⟩
      · refine ⟨R2, .inl ⟨m1, m2, m3⟩, hgo R2 ?_⟩
        simp only [if_neg m1]
        have : (([] : List S30), R2.2.1, R2.2.2) = R2 := by rw [← m2]
        rw [this]
        exact Ev.now _
      · obtain ⟨m7, m8, m9⟩ := m6 (by simp)
        have hact3 : act (bytesL a0)[s3.pos] (endW (bytesL a0)[s3.pos] s3) = .go { (flushS s3) with top := flushT s1 ++ [listNode (flushT s3) s1.pos], stk := s1.stk, pos := s3.pos + 1 } := by
          rw [end_flush _ s3 (by rw [m9]; decide +kernel)]
          unfold act
          rw [if_neg (show ¬ (flushS s3).note = true by show ¬ s3.note = true; rw [m7]; decide), if_neg (by rw [m9]; decide), if_neg (by rw [m9]; decide), if_neg (by rw [m9]; decide +kernel), if_neg (by rw [m9]; decide), if_pos m9]
          rw [show (flushS s3).stk = s3.stk from rfl, m4]
          rfl
        obtain ⟨k3, k4⟩ := step_ok m1 m8 hact3
        have m2' : s1.pos + 1 ≤ s3.pos := m2
        obtain ⟨R4, hN4, hE4⟩ := ih (n - (s3.pos + 1 - s.pos)) (by omega) _ k3 (by rw [k4]; omega) m7 (.inl rfl)
        refine ⟨R4, hN4.back (by show s.pos ≤ s3.pos + 1; omega) j4, hgo R4 ?_⟩
        rw [m3]
        have hfl : (flushT s).length < 2513169434916 := by rw [← j3]; omega
        simp only [if_true, if_pos hfl]
        rw [wrap_at (by have := m1.le; omega)]
        have hft : flushT s ++ [(⟨true, (⟨#[]⟩ : ByteArray), flushT s3, (s1.pos : Int)⟩ : S30)] = flushT s1 ++ [listNode (flushT s3) s1.pos] := by rw [j3]; rfl
        rw [hft, ← j4]
        exact hE4
  -- a word
  have hstart := fun (R : List S30 × Int × Int) (h : Ev (fun k => carlingref02_nodes.l1 k a0 (s1.pos : Int) (s.stk.length : Int) (flushT s) 0) R) =>
    go R _ (fun k => by rw [if_neg (by omega), if_pos (by omega), if_pos (by omega), if_neg (by rw [e41]; exact c41), if_neg (by rw [e40]; exact c40)]) h
  have hpe := part_ev (bytesL a0)[s1.pos]
  rw [← hb] at hpe
  have hwp : wrap64 ((s1.pos : Int) + 0) = (s1.pos : Int) := by rw [Int.add_zero]; exact wrap_small (by omega)
  cases hp : partB (bytesL a0)[s1.pos] with
  | false =>
    rw [hp] at hpe
    refine ⟨([], 2, (s1.pos : Int)), .inl ⟨(by show (2 : Int) ≠ 0; decide), rfl, ?_⟩, hstart _ ?_⟩
    · refine fin_bad (e := 2) j1 hlt ?_
      rw [end_flush _ s1 hp]
      unfold act
      rw [if_neg (show ¬ (flushS s1).note = true by show ¬ s1.note = true; rw [q1]; decide), if_neg q3, if_neg (by rw [q4]; decide), if_neg (by rw [hp]; decide), if_neg c40, if_neg c41]
      rfl
    · obtain ⟨K, hK⟩ := hpe
      refine ⟨K + 1, fun k hk => ?_⟩
      obtain ⟨k, rfl⟩ : ∃ k', k = k' + 1 := ⟨k - 1, by omega⟩
      have hk2 : carlingref02_part.f k (bt a0 (s1.pos : Int)) = some false := hK k (by omega)
      simp only [carlingref02_nodes.l1]
      rw [hwp, if_pos (by omega), if_pos (by omega), hk2]
      simp
  | true =>
    rw [hp] at hpe
    have hw : s1.word = none := q2.resolve_right (by rw [hp]; decide)
    have hg : goodB [(bytesL a0)[s1.pos]] := ⟨by simp, fun c hc => by rw [List.mem_singleton] at hc; rw [hc]; exact hp⟩
    have ha : act (bytesL a0)[s1.pos] (endW (bytesL a0)[s1.pos] s1) = .go { s1 with word := some ([(bytesL a0)[s1.pos]], s1.pos), pos := s1.pos + 1 } := run_words hg hw q1
    obtain ⟨k1, k2⟩ := step_ok j1 hlt ha
    obtain ⟨s5, ws', w1, w2, w3, w4, w5, w6, w7, w8⟩ := word_ev a0 hsz s.stk.length (n - (s1.pos + 1 - s.pos)) _ [(bytesL a0)[s1.pos]] s1.pos k1 (by rw [k2]; omega) rfl (by simp)
    rw [k2] at w2
    obtain ⟨R, hN, hE⟩ := ih (n - (s5.pos - s.pos)) (by omega) s5 w1 (by have := w1.le; omega) w6 w7
    rw [show s5.stk.length = s.stk.length by rw [w5]; exact congrArg List.length j4] at hE
    refine ⟨R, hN.back (by omega) (w5.trans j4), hstart R ?_⟩
    have hr := w8 R hE
    have hft : flushT s = s1.top := by rw [← j3]; exact flush_of_none hw
    rw [hft]
    have h1' : ((s1.pos + 1 - s1.pos : Nat) : Int) = wrap64 (0 + 1) := by rw [Nat.add_sub_cancel_left]; unfold wrap64; omega
    refine Ev.step (f := fun k => (carlingref02_part.f k (bt a0 (s1.pos : Int))).bind fun t => if t = true then carlingref02_nodes.l1 k a0 (s1.pos : Int) (s.stk.length : Int) s1.top (wrap64 (0 + 1)) else (some (([] : List (S30)), (2 : Int), (s1.pos : Int)))) (fun k => ?_) ?_
    · simp only [carlingref02_nodes.l1]
      rw [hwp, if_pos (by omega), if_pos (by omega)]
      simp
    · refine Ev.bind hpe ?_
      simp only [if_true]
      rw [← h1']
      exact hr
end Go.Proofs.Ytciojbdkoojlhaa.P
