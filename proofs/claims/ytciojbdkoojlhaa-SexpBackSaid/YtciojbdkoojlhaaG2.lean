/- sexp.Parse: the walk. Conditions: as each states. -/
import Derived.Test.YtciojbdkoojlhaaG4
import Derived.Test.YtciojbdkoojlhaaG6
import Derived.Lib.OthersKept
namespace Go.Proofs.Ytciojbdkoojlhaa.P
set_option linter.unusedVariables false
set_option linter.unusedSimpArgs false
open Go.RowKit Go.Proofs.YtciojbdkoojlhaaW.PrintWords Go.Proofs.YtciojbdkoojlhaaW.PrintLast Go.Proofs.YtciojbdkoojlhaaW.PrintMore
/-- The open rows. -/
def Opn' (w : World) (base b : Nat) (opn : List (List S30)) : Prop := ∃ g cap rows f, Opn w base b g cap rows f opn
theorem Opn'.below {w w1 : World} {base b : Nat} {opn : List (List S30)} (h : Opn' w base b opn) (hb : Below w.heap.size w w1) : Opn' w1 base b opn := by
  obtain ⟨g, cap, rows, f, h⟩ := h
  exact ⟨g, cap, rows, f, h.below hb⟩
theorem at_move {w w1 : World} {base : Nat} {v : Value} {xs : List Int} (h : (Kd.int .i64).R 3 w base (fun _ => True) v xs) (hm : ∀ (k : Nat) (c : Array Value), w.heap[k]? = some (Obj.cells c 3 (0, 0)) → w1.heap[k]? = some (Obj.cells c 3 (0, 0))) : (Kd.int .i64).R 3 w1 base (fun _ => True) v xs := by
  refine Kd.R_mono (Kd.R_move (Kd.R_bound h) (fun k hk => ?_)) (fun _ _ => trivial)
  obtain ⟨_, _, hlt, q, hq, c, hc⟩ := hk
  have : q = 3 := by simpa using (List.mem_cons.1 hq).resolve_right (by intro hh; cases hh)
  subst this
  rw [hc]
  exact hm k c hc
structure Kp (s : ByteArray) (base b it : Nat) (w0 w : World) (pos : Nat) (ats : List Int) (opn_ : List (List S30)) (v6 : Value) : Prop where
  it : w.heap[it]? = some (.stringIter s pos)
  at_ : (Kd.int .i64).R 3 w base (fun _ => True) v6 ats
  opn : Opn' w base b opn_
  below : Below base w0 w
abbrev Keep (s : ByteArray) (base b it : Nat) (w0 w : World) (pos : Nat) (st : MSt) (v6 : Value) : Prop := Kp s base b it w0 w pos (atsOf st) (opns st) v6
theorem fr_it {base : Nat} {w w' : World} (h : Fr base w w') {k p : Nat} {s : ByteArray} (hk : w.heap[k]? = some (.stringIter s p)) : w'.heap[k]? = some (.stringIter s p) := h.keep k _ hk (fun _ _ e => by cases e) (fun _ _ e => by cases e)
theorem fr_at {base : Nat} {w w' : World} (h : Fr base w w') {v : Value} {xs : List Int} (ha : (Kd.int .i64).R 3 w base (fun _ => True) v xs) : (Kd.int .i64).R 3 w' base (fun _ => True) v xs :=
  at_move ha (fun k c hk => h.keep k _ hk (fun _ _ e => by injection e with _ e; exact absurd e (by decide)) (fun _ _ e => by injection e with _ e; exact absurd e (by decide)))
/-- The word is ended where the rune is none of it. -/
def ended (r : Int) (st : MSt) : MSt := if partOf r then st else { st with top := flushT st, word := none }
def mustEnd (r : Int) (st : MSt) : Bool := decide (0 ≤ begunOf st) && !partOf r
theorem flush_none {st : MSt} (h : st.word = none) : ({ st with top := flushT st, word := none } : MSt) = st := by
  unfold flushT
  rw [h]
  cases st
  simp_all
theorem ended_of_not {r : Int} {st : MSt} (h : mustEnd r st = false) : ended r st = st := by
  unfold mustEnd at h
  unfold ended
  cases hp : partOf r with
  | true => rfl
  | false =>
    rw [hp] at h
    cases hw : st.word with
    | none => exact flush_none hw
    | some q =>
      have : begunOf st = (q.2 : Int) := by unfold begunOf; rw [hw]
      rw [this, decide_eq_true (by omega)] at h
      cases h
theorem ended_of {r : Int} {st : MSt} (h : mustEnd r st = true) : ∃ ws b, st.word = some (ws, b) ∧ begunOf st = (b : Int) ∧ partOf r = false ∧ ended r st = { st with top := st.top ++ [wordNode ws b], word := none } := by
  unfold mustEnd at h
  rw [Bool.and_eq_true] at h
  obtain ⟨h1, h2⟩ := h
  have h1 := of_decide_eq_true h1
  have hp : partOf r = false := by simpa using h2
  cases hw : st.word with
  | none => unfold begunOf at h1; rw [hw] at h1; simp at h1
  | some q =>
    refine ⟨q.1, q.2, rfl, by unfold begunOf; rw [hw], hp, ?_⟩
    unfold ended flushT
    rw [hp, hw]
    rfl
theorem ended_eq {c : UInt8} {r : Int} {st : MSt} (h : partOf r = partB c) : ended r st = endW c st := by
  unfold ended endW
  rw [h]
theorem opns_len (st : MSt) : ((st.stk.map (·.1)).reverse).length = st.stk.length := by rw [List.length_reverse, List.length_map]
theorem atsOf_len (st : MSt) : (atsOf st).length = st.stk.length := by unfold atsOf; rw [List.length_reverse, List.length_map]
/-- A word is put. -/
theorem putW (x : ByteArray) (a : Int) (base b : Nat) (o : List (List S30)) (t : List S30) (w : World) (h : Opn' w base b (o ++ [t])) (hl : t.length ≤ 100000) (ho : o.length ≤ 100000) :
    Calls Try.prog 20 #[.agg #[.bool false, .string x, .slice none 0 0, .int .i64 a], .pointer (some ⟨b, 0, none⟩)] w fun e w' => e = .returned (.tuple #[]) ∧ Opn' w' base b (o ++ [t ++ [⟨false, x, [], a⟩]]) ∧ Fr base w w' := by
  obtain ⟨g, cap, rows, f, h⟩ := h
  refine (put_any ⟨false, x, [], a⟩ _ base b g cap rows f o t w h (Kd.R_nil _ _ _ _ _) hl ho).mono ?_
  rintro e w' ⟨h1, ⟨rows', f', h2⟩, h3⟩
  exact ⟨h1, ⟨g, cap, rows', f', h2⟩, h3⟩
theorem keep_start (s : ByteArray) (w : World) (W0 : World) (hW0 : W0 = ((w.alloc (Obj.cells #[Value.slice none 0 0] 23)).alloc (Obj.cells #[Value.slice (some { block := w.heap.size, off := 0 }) 1 1] 38)).iter s 0) : Keep s w.heap.size (w.heap.size + 1) (w.heap.size + 1 + 1) w W0 0 start (.slice none 0 0) := by
  have hB1 := below_alloc (Below.refl w.heap.size w) (Obj.cells #[Value.slice none 0 0] 23)
  have hB2 := below_alloc hB1 (Obj.cells #[Value.slice (some { block := w.heap.size, off := 0 }) 1 1] 38)
  have hs1 : (w.alloc (Obj.cells #[Value.slice none 0 0] 23)).heap.size = w.heap.size + 1 := by simp
  have hs2 : ((w.alloc (Obj.cells #[Value.slice none 0 0] 23)).alloc (Obj.cells #[Value.slice (some { block := w.heap.size, off := 0 }) 1 1] 38)).heap.size = w.heap.size + 1 + 1 := by simp
  have b1 := blk_new w (Obj.cells #[Value.slice none 0 0] 23)
  have b2 := blk_new (w.alloc (Obj.cells #[Value.slice none 0 0] 23)) (Obj.cells #[Value.slice (some { block := w.heap.size, off := 0 }) 1 1] 38)
  have b3 := World.iter_heap ((w.alloc (Obj.cells #[Value.slice none 0 0] 23)).alloc (Obj.cells #[Value.slice (some { block := w.heap.size, off := 0 }) 1 1] 38)) s 0
  rw [hs1] at b2
  rw [hs2] at b3
  have ho := World.ownsRow_lit (base := w.heap.size) (e := 23) (size := 1) w #[Value.slice none 0 0] 1 (Nat.le_refl _) (by decide) (by rfl)
  have hoR : kSl.R 23 (w.alloc (Obj.cells #[Value.slice none 0 0] 23)) w.heap.size (fun _ => True) (.slice (some ⟨w.heap.size, 0, none⟩) 1 1) [((none, 0, 0) : Sl)] := Kd.R_of_own (enc := slv) ho (fun _ _ => trivial)
  have hb12 : Below (w.alloc (Obj.cells #[Value.slice none 0 0] 23)).heap.size (w.alloc (Obj.cells #[Value.slice none 0 0] 23)) (((w.alloc (Obj.cells #[Value.slice none 0 0] 23)).alloc (Obj.cells #[Value.slice (some { block := w.heap.size, off := 0 }) 1 1] 38)).iter s 0) := below_alloc (below_alloc (Below.refl _ _) _) _
  have hb23 : Below ((w.alloc (Obj.cells #[Value.slice none 0 0] 23)).alloc (Obj.cells #[Value.slice (some { block := w.heap.size, off := 0 }) 1 1] 38)).heap.size ((w.alloc (Obj.cells #[Value.slice none 0 0] 23)).alloc (Obj.cells #[Value.slice (some { block := w.heap.size, off := 0 }) 1 1] 38)) (((w.alloc (Obj.cells #[Value.slice none 0 0] 23)).alloc (Obj.cells #[Value.slice (some { block := w.heap.size, off := 0 }) 1 1] 38)).iter s 0) := below_alloc (Below.refl _ _) _
  subst hW0
  refine ⟨b3, Kd.R_nil _ _ _ _ _, ⟨w.heap.size, 1, [(none, 0, 0)], fun _ => 0, blk_below b2 hb23, by omega, Kd.R_below hoR hb12, rfl, ?_⟩, below_alloc hB2 _⟩
  intro j p xs hp hx
  have hj : j = 0 := by
    cases j with
    | zero => rfl
    | succ j => cases hp
  subst hj
  cases hp
  cases hx
  exact Kd.R_nil _ _ _ _ _
theorem Keep.turn {s : ByteArray} {base b it : Nat} {w0 w w1 : World} {pos pos' : Nat} {st st1 : MSt} {v6 : Value} (h : Keep s base b it w0 w pos st v6) (hI : w1 = w.iterAt it s pos') (hit : base ≤ it) (hst : st1.stk = st.stk) (htop : st1.top = st.top) : Keep s base b it w0 w1 pos' st1 v6 := by
  subst hI
  have hne : ∀ (k : Nat) (c : Array Value) (q : TypeId), w.heap[k]? = some (Obj.cells c q (0, 0)) → k ≠ it := fun k c q hk he => by rw [he, h.it] at hk; cases hk
  refine ⟨Go.Lib.iterAt_heap _ _ _ _ _ h.it, at_move (by unfold atsOf; rw [hst]; exact h.at_) (fun k c hk => by rw [Go.Lib.iterAt_other _ _ _ _ _ (hne k c 3 hk)]; exact hk), ?_, Go.Lib.below_iterAt h.below hit _ _⟩
  obtain ⟨g, cap, rows, f, ho⟩ := h.opn
  have : opns st1 = opns st := by unfold opns; rw [hst, htop]
  rw [this]
  exact ⟨g, cap, rows, f, ho.step (fun k c q _ hk _ => Go.Lib.iterAt_other _ _ _ _ _ (hne k c q hk))⟩
theorem Keep.put {s : ByteArray} {base b it : Nat} {w0 w w1 : World} {pos : Nat} {st st1 : MSt} {v6 : Value} (h : Keep s base b it w0 w pos st v6) (hf : Fr base w w1) (ho : Opn' w1 base b (opns st1)) (hat : atsOf st1 = atsOf st) : Keep s base b it w0 w1 pos st1 v6 :=
  ⟨fr_it hf h.it, by rw [hat]; exact fr_at hf h.at_, ho, h.below.trans hf.below⟩
theorem Keep.same {s : ByteArray} {base b it : Nat} {w0 w : World} {pos pos1 : Nat} {st st1 : MSt} {v6 : Value} (h : Keep s base b it w0 w pos st v6) (h1 : st1.top = st.top) (h2 : st1.stk = st.stk) (h3 : pos1 = pos) : Keep s base b it w0 w pos1 st1 v6 := by
  subst h3
  exact ⟨h.it, by unfold atsOf; rw [h2]; exact h.at_, by unfold opns; rw [h1, h2]; exact h.opn, h.below⟩
/-- What the machine does at a small rune. -/
theorem nxt {s : ByteArray} {st : MSt} {r d : Nat} (h : OkAt (bytesL s) st) (hlt : st.pos < s.size) (hr1 : byteAt s st.pos < 128 → r = byteAt s st.pos ∧ d = 1) (hr2 : 128 ≤ byteAt s st.pos → 128 ≤ r) (hr : r < 128) :
    d = 1 ∧ (ended r st).pos = st.pos ∧ (ended r st).note = st.note ∧ (ended r st).stk = st.stk ∧ ∃ c : UInt8, c.toNat = r ∧ partB c = partOf r ∧ (∀ s', act c (ended r st) = .go s' → OkAt (bytesL s) s' ∧ s'.pos = st.pos + 1) ∧ (∀ e a, act c (ended r st) = .bad e a → finM s.size (runM (.go start) (bytesL s)) = ([], (e : Int), (a : Int))) := by
  obtain ⟨hb, hd⟩ := hr1 (Nat.lt_of_not_le (fun hh => by have := hr2 hh; omega))
  have hlen : st.pos < (bytesL s).length := by rw [bytesL_len]; exact hlt
  have hcr : ((bytesL s)[st.pos]).toNat = r := by rw [bytesL_at s _ hlt, byteAt_eq s _ hlt, hb]
  have hpc : partOf r = partB (bytesL s)[st.pos] := by unfold partB; rw [hcr]
  have hee := ended_eq hpc (st := st)
  obtain ⟨e1, e2, e3⟩ := endW_eq (bytesL s)[st.pos] st
  rw [hee]
  refine ⟨hd, e1, e3, e2, _, hcr, hpc.symm, fun s' ha => step_ok h hlen ha, fun e a ha => ?_⟩
  rw [run_bad h hlen ha]
  rfl
theorem u8_of {c : UInt8} {r : Nat} (h : c.toNat = r) (k : UInt8) : (c = k) = (r = k.toNat) := by
  subst h
  exact propext ⟨fun h => by rw [h], fun h => UInt8.toNat_inj.1 h⟩
theorem u8_bne {c : UInt8} {r : Nat} (h : c.toNat = r) : ((r : Int) != 10) = (c != 10) := by
  subst h
  by_cases hc : c = 10
  · subst hc; rfl
  · have h1 : ((c.toNat : Int) != 10) = true := by
      apply bne_iff_ne.mpr
      intro e
      apply hc
      apply UInt8.toNat_inj.1
      show c.toNat = 10
      omega
    rw [h1]
    exact (bne_iff_ne.mpr hc).symm
theorem blank_of {c : UInt8} {r : Nat} (h : c.toNat = r) (q : r = 32 ∨ r = 9 ∨ r = 10 ∨ r = 13) : isBlank c = true ∧ c ≠ 59 := by
  subst h
  refine ⟨?_, fun e => by subst e; revert q; decide⟩
  unfold isBlank
  simp only [Bool.or_eq_true, beq_iff_eq]
  rcases q with q | q | q | q
  · exact .inl (.inl (.inl (UInt8.toNat_inj.1 q)))
  · exact .inl (.inl (.inr (UInt8.toNat_inj.1 q)))
  · exact .inl (.inr (UInt8.toNat_inj.1 q))
  · exact .inr (UInt8.toNat_inj.1 q)
theorem unblank {c : UInt8} {r : Nat} (h : c.toNat = r) (q : ¬ (r = 32 ∨ r = 9 ∨ r = 10 ∨ r = 13)) : isBlank c = false := by
  subst h
  unfold isBlank
  rw [Bool.eq_false_iff]
  intro hh
  apply q
  simp only [Bool.or_eq_true, beq_iff_eq] at hh
  rcases hh with ((hh | hh) | hh) | hh
  · exact .inl (by rw [hh]; rfl)
  · exact .inr (.inl (by rw [hh]; rfl))
  · exact .inr (.inr (.inl (by rw [hh]; rfl)))
  · exact .inr (.inr (.inr (by rw [hh]; rfl)))
theorem u8_ne {c : UInt8} {r : Nat} (h : c.toNat = r) {k : UInt8} (hk : r ≠ k.toNat) : c ≠ k := fun e => hk (by rw [← h, e])
theorem info3 : (Try.prog.info? 3).map (fun i => (i.zero, i.size, i.bytes)) = some (some (.int .i64 0), 1, 8) := by kernel_rfl
theorem info23 : (Try.prog.info? 23).map (fun i => (i.zero, i.size, i.bytes)) = some (some (.slice none 0 0), 1, 24) := by kernel_rfl
section
variable {s : ByteArray} {base b it : Nat} {w0 w w1 : World} {pos : Nat} {ats ats1 : List Int} {opn : List (List S30)} {v6 v1 : Value} {g cap g1 c1 : Nat} {rows : List Sl} {f : Nat → Nat}
theorem Opn.step3 (h : Opn w base b g cap rows f opn) (hm : ∀ (k : Nat) (c : Array Value) (q : TypeId), w.heap[k]? = some (.cells c q (0, 0)) → q ≠ 3 → w1.heap[k]? = w.heap[k]?) : Opn w1 base b g cap rows f opn :=
  h.step (fun k c q _ hk hq => hm k c q hk (by rcases hq with rfl | rfl | rfl <;> decide))
theorem Kp.grow_at (h : Kp s base b it w0 w pos ats opn v6) (ho : (Kd.int .i64).R 3 w1 base (fun _ => True) v1 ats1) (hb : Below base w0 w1) (hg : w.grownBy w1 v6.ownBlock) : Kp s base b it w0 w1 pos ats1 opn v1 := by
  have hty := Kd.R_typed h.at_
  refine ⟨blk_grown h.it hg (fun e => ?_), ho, ?_, hb⟩
  · obtain ⟨c, hc⟩ := hty it e.symm
    rw [h.it] at hc
    cases hc
  · obtain ⟨g, cap, rows, f, h2⟩ := h.opn
    refine ⟨g, cap, rows, f, h2.step3 (fun k c q hk hq => hg.block k (blk_lt hk) (fun e => ?_))⟩
    obtain ⟨c', hc'⟩ := hty k e.symm
    rw [hk] at hc'
    injection hc' with hc'
    injection hc' with _ hc'
    exact hq hc'
/-- A row is opened. -/
theorem Kp.push (h : Kp s base b it w0 w pos ats opn v6) (hO : Opn w base b g cap rows f opn) (ho : kSl.R 23 w1 base (fun _ => True) (.slice (some ⟨g1, 0, none⟩) (rows.length + 1) c1) (rows ++ [((none, 0, 0) : Sl)])) (hb : Below base w0 w1) (hg : w.grownBy w1 (some g)) : Kp s base b it w0 (w1.setCell ⟨b, 0, none⟩ (.slice (some ⟨g1, 0, none⟩) (rows.length + 1) c1)) pos ats (opn ++ [[]]) v6 := by
  obtain ⟨cg, hgd⟩ := Kd.R_typed hO.out g rfl
  have hne : ∀ (k : Nat) (o : Obj), w.heap[k]? = some o → (∀ c, o ≠ .cells c 23 (0, 0)) → w1.heap[k]? = some o := fun k o hk hq => blk_grown hk hg (fun e => by injection e with e; subst e; rw [hgd] at hk; injection hk with hk; exact hq cg hk.symm)
  have hbw := hne b _ hO.blk (fun c e => by injection e with _ e; exact absurd e (by decide))
  have hfar : ∀ (k : Nat) (o : Obj), w.heap[k]? = some o → (∀ c, o ≠ .cells c 23 (0, 0)) → (∀ c, o ≠ .cells c 38 (0, 0)) → (w1.setCell ⟨b, 0, none⟩ (.slice (some ⟨g1, 0, none⟩) (rows.length + 1) c1)).heap[k]? = some o := fun k o hk h1 h2 => by
    rw [Below.heap_setCell _ _ _ _ (fun e => by have e' : k = b := e; subst e'; rw [hO.blk] at hk; injection hk with hk; exact h2 _ hk.symm)]
    exact hne k o hk h1
  refine ⟨hfar it _ h.it (fun c e => by cases e) (fun c e => by cases e), at_move h.at_ (fun k c hk => hfar k _ hk (fun c e => by injection e with _ e; exact absurd e (by decide)) (fun c e => by injection e with _ e; exact absurd e (by decide))), ⟨g1, c1, rows ++ [(none, 0, 0)], f, ?_, hO.low, ?_, ?_, ?_⟩, hb.setCell hO.low _⟩
  · have := blk_set hbw 0 (.slice (some ⟨g1, 0, none⟩) (rows.length + 1) c1)
    rw [this, List.length_append]
    rfl
  · rw [List.length_append]
    exact Kd.R_set ho hbw (by decide) 0 _
  · rw [List.length_append, List.length_append, hO.rows.1]
    rfl
  · intro j p xs hp hx
    by_cases hj : j < rows.length
    · rw [List.getElem?_append_left hj] at hp
      rw [List.getElem?_append_left (by rw [← hO.rows.1]; exact hj)] at hx
      refine Kd.R_mono (Kd.R_move (Kd.R_bound (hO.rows.2 j p xs hp hx)) (fun k hk => ?_)) (fun _ hk => hk.1)
      obtain ⟨_, _, hlt, q, hq, c, hc⟩ := hk
      have : q = 30 := by
        rcases List.mem_cons.1 hq with e | e
        · exact e
        · exact List.mem_singleton.1 e
      subst this
      rw [hc]
      exact hfar k _ hc (fun c e => by injection e with _ e; exact absurd e (by decide)) (fun c e => by injection e with _ e; exact absurd e (by decide))
    · rw [List.getElem?_append_right (by omega)] at hp
      rw [List.getElem?_append_right (by rw [← hO.rows.1]; omega)] at hx
      rw [hO.rows.1] at hp
      generalize j - opn.length = i at hp hx
      cases i with
      | zero =>
        cases hp
        cases hx
        exact Kd.R_nil _ _ _ _ _
      | succ i => cases hp
end
/-- What the machine does at a great rune. -/
theorem nxtHi {s : ByteArray} {st : MSt} {r d : Nat} (h : OkAt (bytesL s) st) (hlt : st.pos < s.size) (hrd : Utf8.decode s st.pos = (r, d)) (hr1 : byteAt s st.pos < 128 → r = byteAt s st.pos ∧ d = 1) (hr : ¬ r < 128) :
    partOf r = false ∧ (st.note = true → ended r st = st ∧ OkAt (bytesL s) { st with pos := st.pos + d }) ∧ (st.note = false → finM s.size (runM (.go start) (bytesL s)) = ([], (2 : Int), (st.pos : Int))) := by
  have hlen : st.pos < (bytesL s).length := by rw [bytesL_len]; exact hlt
  have hp : partOf r = false := part_high (by omega)
  have hhi : 128 ≤ ((bytesL s)[st.pos]).toNat := by
    rw [bytesL_at s _ hlt, byteAt_eq s _ hlt]
    exact Nat.le_of_not_lt (fun hh => by obtain ⟨q, _⟩ := hr1 hh; omega)
  refine ⟨hp, fun hn => ⟨?_, ?_⟩, fun hn => ?_⟩
  · have hw : st.word = none := by
      cases hw : st.word with
      | none => rfl
      | some q => have := (h.word q.1 q.2 hw).2.2; rw [hn] at this; cases this
    unfold ended
    rw [hp]
    exact flush_none hw
  · obtain ⟨h1, h2⟩ := dec_cont s st.pos r d hlt hhi hrd
    obtain ⟨s', h3, h4⟩ := note_run d h hn (by rw [bytesL_len]; exact h1) h2
    rw [← h4]
    exact h3
  · have hpb := part_hi hhi
    have hk : ∀ k : UInt8, k.toNat < 128 → (bytesL s)[st.pos] ≠ k := fun k hk e => by rw [e] at hhi; omega
    have ha : act (bytesL s)[st.pos] (endW (bytesL s)[st.pos] st) = .bad 2 st.pos := by
      obtain ⟨e1, e2, e3⟩ := endW_eq (bytesL s)[st.pos] st
      have hb : isBlank (bytesL s)[st.pos] = false := unblank rfl (by omega)
      unfold act
      rw [if_neg (by rw [e3, hn]; decide), if_neg (hk 59 (by decide)), if_neg (by rw [hb]; decide), if_neg (by rw [hpb]; decide), if_neg (hk 40 (by decide)), if_neg (hk 41 (by decide)), e1]
    rw [run_bad h hlen ha]
    rfl
/-- What is read at the end. -/
theorem fin_end {s : ByteArray} {st : MSt} (h : OkAt (bytesL s) st) (hlt : ¬ st.pos < s.size) : st.pos = s.size ∧ finM s.size (runM (.go start) (bytesL s)) = if st.stk = [] then (flushT st, 0, -1) else ([], 3, (s.size : Int)) := by
  have hp : st.pos = s.size := by have := h.le; rw [bytesL_len] at this; omega
  refine ⟨hp, ?_⟩
  rw [run_end h (by rw [bytesL_len]; exact hp)]
  rfl
/-- The last row is closed. -/
theorem Opn.pop {w : World} {base b g cap : Nat} {rows : List Sl} {f : Nat → Nat} {o : List (List S30)} {t top : List S30} (h : Opn w base b g cap rows f ((o ++ [t]) ++ [top])) :
    Opn (w.setCell ⟨b, 0, none⟩ (.slice (some ⟨g, 0, none⟩) (o.length + 1) cap)) base b g cap (rows.take (o.length + 1)) f (o ++ [t]) := by
  have hl : rows.length = o.length + 2 := by rw [h.rows.1]; simp
  have hm : min (o.length + 1) rows.length = o.length + 1 := by omega
  refine ⟨?_, h.low, ?_, by rw [List.length_take, hm, List.length_append]; rfl, fun j p xs hp hx => ?_⟩
  · have := blk_set h.blk 0 (.slice (some ⟨g, 0, none⟩) (o.length + 1) cap)
    rw [this, List.length_take, hm]
    rfl
  · rw [List.length_take, hm]
    exact Kd.R_set (Kd.R_take h.out (by omega)) h.blk (by decide) 0 _
  · have hj : j < o.length + 1 := by
      rcases Nat.lt_or_ge j (o.length + 1) with hj | hj
      · exact hj
      · rw [List.getElem?_eq_none (by rw [List.length_append]; exact hj)] at hx; cases hx
    rw [List.getElem?_take_of_lt hj] at hp
    exact Kd.R_set (h.rows.2 j p xs hp (by rw [List.getElem?_append_left (by rw [List.length_append]; exact hj)]; exact hx)) h.blk (by decide) 0 _
theorem Kp.belowK {s : ByteArray} {base b it : Nat} {w0 w w1 : World} {pos : Nat} {ats : List Int} {opn : List (List S30)} {v6 : Value} (h : Kp s base b it w0 w pos ats opn v6) (hb : Below w.heap.size w w1) (hbs : base ≤ w.heap.size) : Kp s base b it w0 w1 pos ats opn v6 :=
  ⟨blk_below h.it hb, Kd.R_below h.at_ hb, h.opn.below hb, h.below.trans (hb.mono hbs)⟩
theorem wr1 {q : Nat} (h : q + 1 ≤ 24) : wrap64 ((q : Int) + 1) = (q : Int) + 1 := by unfold wrap64; omega
theorem wr2 {q : Nat} (h : q + 1 ≤ 24) : wrap64 (q : Int) = (q : Int) := by unfold wrap64; omega
theorem tn1 (q : Nat) : ((q : Int) + 1).toNat = q + 1 := by omega
theorem nn1 (q : Nat) : ((q : Int) + 1 == 0) = false := beq_false_of_ne (by omega)
theorem nn2 (q : Nat) : (((q + 1 : Nat) : Int) == 0) = false := beq_false_of_ne (by omega)
theorem nn3 (q : Nat) : ((q : Int) < (q : Int) + 1) = True := eq_true (by omega)
theorem nn4 (q : Nat) : ((q : Int) + 1 < (q : Int) + 1 + 1) = True := eq_true (by omega)
theorem nn5 (q : Nat) : ((0 : Int) ≤ (q : Int) + 1) = True := eq_true (by omega)
theorem nn6 {q c : Nat} (h : q + 1 ≤ c) : ((q : Int) + 1 ≤ (c : Int)) = True := eq_true (by omega)
theorem nn7 {q c : Nat} (h : q ≤ c) : ((q : Int) ≤ (c : Int)) = True := eq_true (by omega)
set_option maxRecDepth 100000 in
set_option maxHeartbeats 8000000 in
theorem parse_any (s : ByteArray) (w : World) (hsz : s.size ≤ 16384) (r1 : List S30) (r2 r3 : Int) (hr : finM s.size (runM (.go start) (bytesL s)) = (r1, r2, r3)) :
    Calls Try.prog 10 #[.string s] w fun e w' => ∃ v, e = .returned (.tuple #[v, .int .i64 r2, .int .i64 r3]) ∧ k30.R 30 w' w.heap.size (fun _ => True) v r1 ∧ Below w.heap.size w w' := by
  have hgs : decide ((16384 : Int) < s.size) = false := decide_eq_false (by omega)
  have HR := Aside0.mk hr
  clear hr
  go_enter Try.func10, Try.ntmps10
  go_wp2
  obtain ⟨W0, hW0⟩ : ∃ W0, W0 = ((w.alloc (Obj.cells #[Value.slice none 0 0] 23)).alloc (Obj.cells #[Value.slice (some { block := w.heap.size, off := 0 }) 1 1] 38)).iter s 0 := ⟨_, rfl⟩
  have hK0 := keep_start s w W0 hW0
  rw [← hW0]
  clear hW0
  have hbb : w.heap.size ≤ w.heap.size + 1 := by omega
  have hib : w.heap.size ≤ w.heap.size + 1 + 1 := by omega
  obtain ⟨b, hb⟩ : ∃ b, b = w.heap.size + 1 := ⟨_, rfl⟩
  rw [← hb] at hK0 hbb hib ⊢
  obtain ⟨it, hi⟩ : ∃ it, it = b + 1 := ⟨_, rfl⟩
  rw [← hi] at hK0 hib ⊢
  have HBI := Hid1.mk (And.intro hb hi)
  clear hb hi
  have HK0 := Aside0.mk hK0
  clear hK0
  go_loopw [6, 8, 9] (fun v6 v8 v9 w' => ∃ st, Aside0 (OkAt (bytesL s) st) ∧ v8 = .int .i64 (begunOf st) ∧ v9 = .bool st.note ∧ Aside0 (Keep s w.heap.size b it w w' st.pos st v6)) (fun _ _ _ w' => s.size - posOf w' it)
  case atStart => exact ⟨start, ⟨okAt_start _⟩, rfl, rfl, HK0⟩
  case round =>
    obtain ⟨st, HOK, h8, h9, HK⟩ := hrel
    by_cases hlt : st.pos < s.size
    · obtain ⟨r, d, hrd, hr1, hr2, hr3⟩ := byte_dec s st.pos hlt
      have hnx := fun ty => Go.Lib.run_next_any_at (P := Try.prog) wr it s st.pos ty HK.out.it hlt
      rw [hrd] at hnx
      have HRD := Hid1.mk (And.intro hrd (And.intro hr1 (And.intro hr2 hr3)))
      clear hrd hr1 hr2 hr3
      subst h8 h9
      go_upto_region 10 with (fail)
      obtain ⟨W1, hW1⟩ : ∃ W1, W1 = wr.iterAt it s (st.pos + d) := ⟨_, rfl⟩
      have HK1 := Aside0.mk (HK.out.turn (st1 := st) hW1 hib rfl rfl)
      rw [← hW1]
      clear hnx hW1
      have hqp : (0 ≤ begunOf st) = (0 ≤ begunOf st) := rfl
      clear hqp
      go_cut [30] (fun v30 wc => v30 = .bool (mustEnd r st) ∧ wc = W1)
      case first =>
        by_cases h0 : 0 ≤ begunOf st
        · have hqb : (0 ≤ begunOf st) = True := eq_true h0
          clear h0
          go_wp2_with (go_at_call 21; refine (part_any r (by omega) _).mono ?_; rintro e w' ⟨rfl, rfl⟩)
          go_meet
          exact ⟨congrArg Value.bool (by unfold mustEnd; rw [decide_eq_true (of_eq_true hqb)]; rfl), rfl⟩
        · have hqb : (0 ≤ begunOf st) = False := eq_false h0
          clear h0
          go_wp2
          go_meet
          exact ⟨congrArg Value.bool (by unfold mustEnd; rw [decide_eq_false (of_eq_false hqb)]; rfl), rfl⟩
      case rest =>
        obtain ⟨rfl, rfl⟩ := hcut
        go_upto_if 30 with (fail)
        go_cut [6, 8] (fun v6 v8 wc' => v8 = .int .i64 (begunOf (ended r st)) ∧ Aside0 (Keep s w.heap.size b it w wc' (st.pos + d) (ended r st) v6))
        case first =>
          cases hme : mustEnd r st with
          | false =>
            have he := Aside0.mk (ended_of_not hme)
            go_wp2
            go_meet
            rw [he.out]
            exact ⟨rfl, HK1⟩
          | true =>
            obtain ⟨ws, b0, hw, hbg, hpr, hee⟩ := ended_of hme
            have HE := Hid1.mk (And.intro hw (And.intro hpr hee))
            obtain ⟨hwt, hbl⟩ := word_text HOK.out hw
            have HT := Hid1.mk hwt
            have hln : st.top.length ≤ 100000 := Nat.le_trans (Nat.le_trans (Nat.le_add_right _ _) HOK.out.few) (by omega)
            have hdp : ((st.stk.map (·.1)).reverse).length ≤ 100000 := by rw [opns_len]; exact Nat.le_trans HOK.out.deep (by decide)
            have hbl2 : b0 ≤ s.size := by omega
            have hi1 : (0 : Int) ≤ (b0 : Int) := by omega
            have hi2 : (b0 : Int) ≤ (st.pos : Int) := by omega
            have hi3 : (st.pos : Int) ≤ (s.size : Int) := by omega
            clear hw hpr hee hme hwt
            go_wp2_with (go_at_call 20; (refine (putW (s.extract b0 st.pos) (b0 : Int) _ b ((st.stk.map (·.1)).reverse) st.top _ HK1.out.opn hln hdp).mono ?_; rintro e w' ⟨rfl, ho, hfr⟩))
            go_meet
            rw [HE.out.2.2]
            refine ⟨rfl, ⟨HK1.out.put hfr ?_ rfl⟩⟩
            show Opn' _ _ _ ((st.stk.map (·.1)).reverse ++ [st.top ++ [⟨false, ⟨ws.toArray⟩, [], (b0 : Int)⟩]])
            rw [HT.out]
            exact ho
        case rest =>
          obtain ⟨rfl, HK2⟩ := hcut
          obtain ⟨hrd, hr1, hr2, hr3⟩ := HRD.out
          by_cases hrlt : r < 128
          · obtain ⟨rfl, e1, e2, e3, c, hcr, hpc, hstep, hbad⟩ := nxt HOK.out hlt hr1 hr2 hrlt
            have HN := Hid1.mk (And.intro e1 (And.intro e3 (And.intro hcr (And.intro hpc (And.intro hstep hbad)))))
            clear e1 e3 hcr hpc hstep hbad hrd hr1 hr2 hr3
            obtain ⟨st1, hst1⟩ : ∃ st1, st1 = ended r st := ⟨_, rfl⟩
            rw [← hst1] at HK2 HN e2 ⊢
            clear hst1
            rw [← e2]
            have HE2 := Hid1.mk e2
            clear e2
            cases hnt : st1.note with
            | true =>
              have hs10 : ((r : Int) != 10) = ((r : Int) != 10) := rfl
              clear hs10
              go_wp2
              go_roundw
              case rel =>
                obtain ⟨e1, e3, hcr, hpc, hstep, hbad⟩ := HN.out
                have ha : act c st1 = .go { st1 with note := c != 10, pos := st1.pos + 1 } := by unfold act; rw [if_pos hnt]
                refine ⟨_, ⟨(hstep _ ha).1⟩, rfl, ?_, ⟨HK2.out.same rfl rfl (by show st1.pos + 1 = _; omega)⟩⟩
                exact congrArg Value.bool (u8_bne hcr)
              case measure =>
                rw [posOf_eq HK.out.it, posOf_eq HK2.out.it]
                omega
            | false =>
              by_cases q59 : r = 59
              · subst q59
                go_wp2
                go_roundw
                case rel =>
                  obtain ⟨e1, e3, hcr, hpc, hstep, hbad⟩ := HN.out
                  have hc : c = 59 := UInt8.toNat_inj.1 hcr
                  have ha : act c st1 = .go { st1 with note := true, pos := st1.pos + 1 } := by unfold act; rw [if_neg (by rw [hnt]; decide), if_pos hc]
                  exact ⟨_, ⟨(hstep _ ha).1⟩, rfl, rfl, ⟨HK2.out.same rfl rfl (by show st1.pos + 1 = _; omega)⟩⟩
                case measure =>
                  rw [posOf_eq HK.out.it, posOf_eq HK2.out.it]
                  omega
              have g59 : ((r : Int) == 59) = false := beq_false_of_ne (by omega)
              by_cases qb : r = 32 ∨ r = 9 ∨ r = 10 ∨ r = 13
              · have hbk := Hid1.mk (blank_of HN.out.2.2.1 qb)
                rcases qb with qb | qb | qb | qb
                all_goals
                  subst qb
                  go_wp2
                  go_roundw
                  case rel =>
                    obtain ⟨e1, e3, hcr, hpc, hstep, hbad⟩ := HN.out
                    have ha : act c st1 = .go { st1 with pos := st1.pos + 1 } := by unfold act; rw [if_neg (by rw [hnt]; decide), if_neg hbk.out.2, if_pos hbk.out.1]
                    exact ⟨_, ⟨(hstep _ ha).1⟩, rfl, by rw [← hnt], ⟨HK2.out.same rfl rfl (by show st1.pos + 1 = _; omega)⟩⟩
                  case measure =>
                    rw [posOf_eq HK.out.it, posOf_eq HK2.out.it]
                    omega
              have g32 : ((r : Int) == 32) = false := beq_false_of_ne (by omega)
              have g9 : ((r : Int) == 9) = false := beq_false_of_ne (by omega)
              have g10 : ((r : Int) == 10) = false := beq_false_of_ne (by omega)
              have g13 : ((r : Int) == 13) = false := beq_false_of_ne (by omega)
              have hact : Hid1 (act c st1 = (if partB c then .go { st1 with word := some (match st1.word with | none => ([c], st1.pos) | some (ws, b) => (ws ++ [c], b)), pos := st1.pos + 1 }
                  else if c = 40 then (if st1.stk.length = 24 then .bad 4 st1.pos else .go { st1 with top := [], stk := (st1.top, st1.pos) :: st1.stk, pos := st1.pos + 1 })
                  else if c = 41 then (match st1.stk with | [] => .bad 3 st1.pos | (t, a) :: r => .go { st1 with top := t ++ [listNode st1.top a], stk := r, pos := st1.pos + 1 })
                  else .bad 2 st1.pos)) := ⟨by unfold act; rw [if_neg (by rw [hnt]; decide), if_neg (u8_ne HN.out.2.2.1 (k := 59) q59), if_neg (by rw [unblank HN.out.2.2.1 qb]; decide)]; rfl⟩
              clear q59 qb
              by_cases hp : partOf (r : Int) = true
              · by_cases hbg : begunOf st1 < 0
                · have hqb : (begunOf st1 < 0) = True := eq_true hbg
                  clear hbg
                  go_wp2_with (go_at_call 21; refine (part_any r (by omega) _).mono ?_; rw [hp]; rintro e w' ⟨rfl, rfl⟩)
                  go_roundw
                  case rel =>
                    obtain ⟨e1, e3, hcr, hpc, hstep, hbad⟩ := HN.out
                    have ha := hact.out
                    rw [hpc, if_pos hp] at ha
                    refine ⟨_, ⟨(hstep _ ha).1⟩, ?_, by rw [← hnt], ⟨HK2.out.same rfl rfl (by show st1.pos + 1 = _; omega)⟩⟩
                    cases hw : st1.word with
                    | none => exact congrArg (fun k : Nat => Value.int IntKind.i64 (k : Int)) e1.symm
                    | some q => unfold begunOf at hqb; rw [hw] at hqb; exact absurd (of_eq_true hqb) (by show ¬ ((q.2 : Int) < 0); omega)
                  case measure =>
                    rw [posOf_eq HK.out.it, posOf_eq HK2.out.it]
                    omega
                · have hqb : (begunOf st1 < 0) = False := eq_false hbg
                  clear hbg
                  go_wp2_with (go_at_call 21; refine (part_any r (by omega) _).mono ?_; rw [hp]; rintro e w' ⟨rfl, rfl⟩)
                  go_roundw
                  case rel =>
                    obtain ⟨e1, e3, hcr, hpc, hstep, hbad⟩ := HN.out
                    have ha := hact.out
                    rw [hpc, if_pos hp] at ha
                    refine ⟨_, ⟨(hstep _ ha).1⟩, ?_, by rw [← hnt], ⟨HK2.out.same rfl rfl (by show st1.pos + 1 = _; omega)⟩⟩
                    cases hw : st1.word with
                    | none => unfold begunOf at hqb; rw [hw] at hqb; exact absurd (show (-1 : Int) < 0 by decide) (of_eq_false hqb)
                    | some q => unfold begunOf; rw [hw]
                  case measure =>
                    rw [posOf_eq HK.out.it, posOf_eq HK2.out.it]
                    omega
              · have hp' : partOf (r : Int) = false := Bool.eq_false_iff.mpr hp
                clear hp
                by_cases q40 : r = 40
                · subst q40
                  have hp40 : partOf 40 = false := hp'
                  obtain ⟨A6, c6, hv6⟩ := Kd.R_slice HK2.out.at_
                  subst hv6
                  have hol : (opns st1).length ≤ 25 := by unfold opns; rw [List.length_append, List.length_reverse, List.length_map, HN.out.2.1]; have := HOK.out.deep; show _ + 1 ≤ _; omega
                  have hal : (atsOf st1).length ≤ 24 := by rw [atsOf_len, HN.out.2.1]; exact HOK.out.deep
                  by_cases hd : (atsOf st1).length = 24
                  · have hq24 : (((atsOf st1).length : Int) == 24) = true := by rw [hd]; rfl
                    have HD := Hid1.mk hd
                    clear hd
                    go_wp2_with (go_at_call 21; refine (part_any 40 (by omega) _).mono ?_; rw [hp40]; rintro e w' ⟨rfl, rfl⟩)
                    go_ret3
                    obtain ⟨e1, e3, hcr, hpc, hstep, hbad⟩ := HN.out
                    have ha := hact.out
                    rw [show partB c = partOf 40 from hpc, if_neg (by rw [hp40]; decide), if_pos (UInt8.toNat_inj.1 (show c.toNat = (40 : UInt8).toNat from hcr)), if_pos (by rw [← atsOf_len]; exact HD.out)] at ha
                    have hfin := (hbad _ _ ha).symm.trans HR.out
                    injection hfin with f1 hfin
                    injection hfin with f2 f3
                    subst f1 f2 f3
                    exact ⟨_, by rw [e1]; rfl, Kd.R_nil _ _ _ _ _, HK2.out.below⟩
                  · have hq24 : (((atsOf st1).length : Int) == 24) = false := beq_false_of_ne (by omega)
                    have HD := Hid1.mk hd
                    clear hd
                    have hszb := HK2.out.below.size
                    go_wp2_with (first
                      | (go_at_call 21; refine (part_any 40 (by omega) _).mono ?_; rw [hp40]; rintro e w' ⟨rfl, rfl⟩)
                      | ((with_reducible refine gate_builtin (b := .append) (xs := #[.tmp 75, .tmp 77]) rfl ?_); (try (refine gate_guard (by rfl) ?_; dsimp only)); at_builtin; (refine Kd.R_append (Kd.int .i64) (w0 := w) w.heap.size rfl (.tmp 75) (.tmp 77) 39 3 (.int .i64 0) 8 rfl Try.underlying39 info3 rfl (by decide) (by omega) _ (atsOf st1) (st.pos : Int) [.int .i64 st.pos] (fun _ => True) (fun _ => False) rfl rfl rfl (fun _ hk => hk.elim) (fun _ _ => trivial) HK2.out.at_ HK2.out.below hszb (by omega) ?_; intro v1 w5 ho5 hb5 hg5 hat5; have HK5 := HK2.out.grow_at ho5 hb5 hg5; obtain ⟨g, cap, rows, f, hO⟩ := HK5.opn; have kb := (blk_cell hO.blk 0).trans rfl; have hrl : rows.length ≤ 25 := by rw [hO.rows.1]; exact hol))
                      | ((with_reducible refine gate_builtin (b := .append) (xs := #[.tmp 79, .tmp 80]) rfl ?_); (try (refine gate_guard (by rfl) ?_; dsimp only)); at_builtin; (refine Kd.R_append kSl (w0 := w) w.heap.size rfl (.tmp 79) (.tmp 80) 38 23 (.slice none 0 0) 24 rfl Try.underlying38 info23 rfl (by decide) (by omega) _ rows ((none, 0, 0) : Sl) [.slice none 0 0] (fun _ => True) (fun _ => False) rfl rfl rfl (fun _ hk => hk.elim) (fun _ _ => trivial) hO.out HK5.below hb5.size (by omega) ?_; intro v2 w6 ho6 hb6 hg6 hat6; obtain ⟨g1, c1, ev, _⟩ := Kd.R_form ho6 (by simp); rw [List.length_append, List.length_singleton] at ev; subst ev; have HK7 := Aside0.mk (Kp.push HK5 hO ho6 hb6 hg6); have hbne : some b ≠ some g := (by obtain ⟨cg, hgd⟩ := Kd.R_typed hO.out g rfl; exact fun e => by injection e with e; rw [← e, hO.blk] at hgd; injection hgd with hgd; injection hgd with _ hgd; exact absurd hgd (by decide)); have hbg6 := blk_grown hO.blk hg6 hbne; have kb6 := (blk_cell hbg6 0).trans rfl; have fb6 := blk_frozen hbg6 0)))
                    go_roundw
                    case rel =>
                      obtain ⟨e1, e3, hcr, hpc, hstep, hbad⟩ := HN.out
                      have ha := hact.out
                      rw [show partB c = partOf 40 from hpc, if_neg (by rw [hp40]; decide), if_pos (UInt8.toNat_inj.1 (show c.toNat = (40 : UInt8).toNat from hcr)), if_neg (by rw [← atsOf_len]; exact HD.out)] at ha
                      refine ⟨_, ⟨(hstep _ ha).1⟩, rfl, by rw [← hnt], ⟨?_⟩⟩
                      have k7 := HK7.out
                      have ea : atsOf { st1 with top := [], stk := (st1.top, st1.pos) :: st1.stk, pos := st1.pos + 1 } = atsOf st1 ++ [(st.pos : Int)] := by unfold atsOf; rw [← e1]; simp
                      have eo : opns { st1 with top := [], stk := (st1.top, st1.pos) :: st1.stk, pos := st1.pos + 1 } = opns st1 ++ [[]] := by unfold opns; simp
                      rw [← ea, ← eo, ← e1] at k7
                      exact k7
                    case measure =>
                      rw [posOf_eq HK.out.it, posOf_eq HK7.out.it]
                      omega
                have g40 : ((r : Int) == 40) = false := beq_false_of_ne (by omega)
                by_cases q41 : r = 41
                · subst q41
                  obtain ⟨A6, c6, hv6⟩ := Kd.R_slice HK2.out.at_
                  subst hv6
                  have hp41 : partOf 41 = false := hp'
                  cases hst : st1.stk with
                  | nil =>
                    have hal : (atsOf st1).length = 0 := by rw [atsOf_len, hst]; rfl
                    have hq0 : (((atsOf st1).length : Int) == 0) = true := by rw [hal]; rfl
                    have HD := Hid1.mk hst
                    clear hst hal
                    go_wp2_with (go_at_call 21; refine (part_any 41 (by omega) _).mono ?_; rw [hp41]; rintro e w' ⟨rfl, rfl⟩)
                    go_ret3
                    obtain ⟨e1, e3, hcr, hpc, hstep, hbad⟩ := HN.out
                    have ha := hact.out
                    rw [show partB c = partOf 41 from hpc, if_neg (by rw [hp41]; decide), if_neg (u8_ne hcr (k := 40) (by decide)), if_pos (UInt8.toNat_inj.1 (show c.toNat = (41 : UInt8).toNat from hcr)), HD.out] at ha
                    have hfin := (hbad _ _ ha).symm.trans HR.out
                    injection hfin with f1 hfin
                    injection hfin with f2 f3
                    subst f1 f2 f3
                    exact ⟨_, by rw [e1]; rfl, Kd.R_nil _ _ _ _ _, HK2.out.below⟩
                  | cons ta rst =>
                    obtain ⟨t1, a1⟩ := ta
                    have hal : (atsOf st1).length = rst.length + 1 := by rw [atsOf_len, hst]; rfl
                    have hol : (rst.map (·.1)).length = rst.length := List.length_map _
                    have haE : atsOf st1 = (rst.map (fun p => (p.2 : Int))).reverse ++ [(a1 : Int)] := by unfold atsOf; rw [hst]; simp
                    have hoE : opns st1 = ((rst.map (·.1)).reverse ++ [t1]) ++ [st1.top] := by unfold opns; rw [hst]; simp
                    rw [hal] at HK2 ⊢
                    have hk := HK2.out
                    unfold Keep at hk
                    have hst1 := Hid1.mk hst
                    clear hst
                    rw [haE, hoE] at hk
                    have hdl : rst.length + 1 ≤ 24 := by have := HOK.out.deep; rw [← HN.out.2.1, hst1.out] at this; exact this
                    have htl : t1.length ≤ 100000 := Nat.le_trans (HOK.out.rows (t1, a1) (by rw [← HN.out.2.1, hst1.out]; exact List.mem_cons_self)) (by omega)
                    obtain ⟨g, cap, rows, f, hO⟩ := hk.opn
                    obtain ⟨p, hp, hR⟩ := hO.row
                    obtain ⟨Ap, np, cp⟩ := p
                    obtain rfl : np = st1.top.length := (Kd.R_reads' hR).1
                    have hrl : rows.length = rst.length + 1 + 1 := by rw [hO.rows.1]; simp
                    have hol2 : ((rst.map (·.1)).reverse ++ [t1]).length = rst.length + 1 := by simp
                    rw [hol2] at hp hR
                    have hrd : rdOf ((none, 0, 0) : Sl) rows ((rst.length + 1 : Nat) : Int) = (Ap, st1.top.length, cp) := by unfold rdOf; rw [Int.toNat_natCast, List.getD_eq_getElem?_getD, hp]; rfl
                    have hoc := Kd.R_celln (d := ((none, 0, 0) : Sl)) hO.out ((rst.length + 1 : Nat) : Int) (by omega) (by omega)
                    rw [hrd, Int.toNat_natCast] at hoc
                    have hta := hk.at_
                    obtain ⟨ga, ca, ev, hgab, hgal, cga, hga⟩ := Kd.R_form hta (by simp)
                    injection ev with evA evn evc
                    subst evA evc
                    clear evn
                    have hac := Kd.R_celln (d := (0 : Int)) hta ((rst.length : Nat) : Int) (by omega) (by omega)
                    have hra : rdOf (0 : Int) ((rst.map (fun p => (p.2 : Int))).reverse ++ [(a1 : Int)]) ((rst.length : Nat) : Int) = (a1 : Int) := by unfold rdOf; rw [Int.toNat_natCast, List.getD_eq_getElem?_getD, List.getElem?_append_right (by simp)]; simp
                    rw [hra, Int.toNat_natCast] at hac
                    have kb : wc.cell? ⟨b, 0, none⟩ = some (.slice (some ⟨g, 0, none⟩) (rst.length + 1 + 1) cap) := by rw [← hrl]; exact (blk_cell hO.blk 0).trans rfl
                    have ko := hoc.1
                    have ka := hac.1
                    have hc1 : rst.length + 1 ≤ cap := by have := (Kd.R_reads' hO.out).2.1; omega
                    have hc2 : rst.length ≤ c6 := by have := (Kd.R_reads' hta).2.1; omega
                    have hn6 : ((rst.length : Int) + 1 ≤ (cap : Int)) = True := nn6 hc1
                    have hn7 : ((rst.length : Int) ≤ (c6 : Int)) = True := nn7 hc2
                    have hbs : w.heap.size ≤ wc.heap.size := hk.below.size
                    have hBd := (Below.refl wc.heap.size wc).drew
                    have hkd := hk.belowK hBd hbs
                    have hOd := hO.below hBd
                    have hRd := Kd.R_below hR hBd
                    have hbsd : w.heap.size ≤ wc.drew.heap.size := hbs
                    have HX := Hid1.mk (And.intro hrl (And.intro hp (And.intro hol (And.intro haE (And.intro hoE (And.intro hal hol2))))))
                    have hn1 : ((rst.length : Int) + 1 == 0) = false := nn1 _
                    have hn2 : (((rst.length + 1 : Nat) : Int) == 0) = false := nn2 _
                    have hn3 : ((rst.length : Int) < (rst.length : Int) + 1) = True := nn3 _
                    have hn4 : ((rst.length : Int) + 1 < (rst.length : Int) + 1 + 1) = True := nn4 _
                    have hw1 : wrap64 ((rst.length : Int) + 1) = (rst.length : Int) + 1 := wr1 hdl
                    have hw2 : wrap64 (rst.length : Int) = (rst.length : Int) := wr2 hdl
                    have hw3 : ((rst.length : Int) + 1).toNat = rst.length + 1 := tn1 _
                    have hn5 : ((0 : Int) ≤ (rst.length : Int) + 1) = True := nn5 _
                    have HR2 := Hid1.mk hR
                    clear hc1 hc2
                    have HO2 := Hid1.mk hO
                    have HK3 := Hid1.mk (And.intro hk hta)
                    have HKd := Hid1.mk hkd
                    have HOd := Hid1.mk hOd
                    have HRd := Hid1.mk hRd
                    clear hrl hp hol haE hoE hal hol2 hrd hra hoc hac hO hR hk hta hkd hOd hRd hga
                    go_wp2_with (go_at_call 21; refine (part_any 41 (by omega) _).mono ?_; rw [hp41]; rintro e w' ⟨rfl, h_⟩; rw [h_]; clear h_)
                    refine start_ (n := 15) (S := fun w' => w'.cell? ⟨b, 0, none⟩ = some (.slice (some ⟨g, 0, none⟩) (rst.length + 1 + 1) cap) ∧ w'.cell? ⟨g, rst.length + 1, none⟩ = some (.slice Ap st1.top.length cp) ∧ w'.cell? ⟨ga, rst.length, none⟩ = some (.int .i64 (a1 : Int))) (ds := [14]) #[false, false, false, false, false, false, false, false, false, false, false, false, false, false, false] (by kernel_rfl) rfl rfl ⟨kb, ko, ka⟩ (fun hHeld => ?_)
                    generalize wc.drew = Wd at hBd hbsd HKd HOd HRd hHeld ⊢
                    refine take_ (i := 0) (N := some 89) (v := ?_) (a' := ?_) #[true, false, false, false, false, false, false, false, false, false, false, false, false, false, false] rfl rfl (by kernel_rfl) (fun _ _ _ h => h) (Or.inl ⟨by rfl, ?_⟩) hHeld ?_ ?_
                    rotate_left
                    · intro w' s0
                      obtain ⟨s1_, s2_, s3_⟩ := s0
                      go_simp
                      first | done | with_reducible rfl
                    rotate_left
                    · simp only [Act.put, List.setIfInBounds_toArray, List.set_cons_zero, List.set_cons_succ, i64_w, i32_w]
                      rfl
                    refine take_ (i := 1) (N := some 90) (v := ?_) (a' := ?_) #[true, true, false, false, false, false, false, false, false, false, false, false, false, false, false] rfl rfl (by kernel_rfl) (fun _ _ _ h => h) (Or.inl ⟨by rfl, ?_⟩) hHeld ?_ ?_
                    rotate_left
                    · intro w' s0
                      obtain ⟨s1_, s2_, s3_⟩ := s0
                      go_simp
                      first | done | with_reducible rfl
                    rotate_left
                    · simp only [Act.put, List.setIfInBounds_toArray, List.set_cons_zero, List.set_cons_succ, i64_w, i32_w]
                      rfl
                    refine pure_ (i := 2) (N := some 91) (v := ?_) (a' := ?_) #[true, true, true, false, false, false, false, false, false, false, false, false, false, false, false] rfl rfl (by kernel_rfl) (fun _ _ _ h => h) (Or.inl ⟨by rfl, ?_⟩) ?_ ?_
                    rotate_left
                    · intro w'
                      go_simp
                      first | done | with_reducible rfl
                    rotate_left
                    · simp only [Act.put, List.setIfInBounds_toArray, List.set_cons_zero, List.set_cons_succ, i64_w, i32_w]
                      rfl
                    refine pure_ (i := 3) (N := some 92) (v := ?_) (a' := ?_) #[true, true, true, true, false, false, false, false, false, false, false, false, false, false, false] rfl rfl (by kernel_rfl) (fun _ _ _ h => h) (Or.inl ⟨by rfl, ?_⟩) ?_ ?_
                    rotate_left
                    · intro w'
                      go_simp
                      first | done | with_reducible rfl
                    rotate_left
                    · simp only [Act.put, List.setIfInBounds_toArray, List.set_cons_zero, List.set_cons_succ, i64_w, i32_w]
                      rfl
                    refine pure_ (i := 4) (N := some 93) (v := ?_) (a' := ?_) #[true, true, true, true, true, false, false, false, false, false, false, false, false, false, false] rfl rfl (by kernel_rfl) (fun _ _ _ h => h) (Or.inl ⟨by rfl, ?_⟩) ?_ ?_
                    rotate_left
                    · intro w'
                      go_simp
                      first | done | with_reducible rfl
                    rotate_left
                    · simp only [Act.put, List.setIfInBounds_toArray, List.set_cons_zero, List.set_cons_succ, i64_w, i32_w]
                      rfl
                    refine take_ (i := 5) (N := some 94) (v := ?_) (a' := ?_) #[true, true, true, true, true, true, false, false, false, false, false, false, false, false, false] rfl rfl (by kernel_rfl) (fun _ _ _ h => h) (Or.inl ⟨by rfl, ?_⟩) hHeld ?_ ?_
                    rotate_left
                    · intro w' s0
                      obtain ⟨s1_, s2_, s3_⟩ := s0
                      go_simp
                      first | done | with_reducible rfl
                    rotate_left
                    · simp only [Act.put, List.setIfInBounds_toArray, List.set_cons_zero, List.set_cons_succ, i64_w, i32_w]
                      rfl
                    refine pure_ (i := 6) (N := some 95) (v := ?_) (a' := ?_) #[true, true, true, true, true, true, true, false, false, false, false, false, false, false, false] rfl rfl (by kernel_rfl) (fun _ _ _ h => h) (Or.inl ⟨by rfl, ?_⟩) ?_ ?_
                    rotate_left
                    · intro w'
                      go_simp
                      first | done | with_reducible rfl
                    rotate_left
                    · simp only [Act.put, List.setIfInBounds_toArray, List.set_cons_zero, List.set_cons_succ, i64_w, i32_w]
                      rfl
                    refine pure_ (i := 7) (N := some 96) (v := ?_) (a' := ?_) #[true, true, true, true, true, true, true, true, false, false, false, false, false, false, false] rfl rfl (by kernel_rfl) (fun _ _ _ h => h) (Or.inl ⟨by rfl, ?_⟩) ?_ ?_
                    rotate_left
                    · intro w'
                      go_simp
                      first | done | with_reducible rfl
                    rotate_left
                    · simp only [Act.put, List.setIfInBounds_toArray, List.set_cons_zero, List.set_cons_succ, i64_w, i32_w]
                      rfl
                    refine pure_ (i := 8) (N := some 97) (v := ?_) (a' := ?_) #[true, true, true, true, true, true, true, true, true, false, false, false, false, false, false] rfl rfl (by kernel_rfl) (fun _ _ _ h => h) (Or.inl ⟨by rfl, ?_⟩) ?_ ?_
                    rotate_left
                    · intro w'
                      go_simp
                      first | done | with_reducible rfl
                    rotate_left
                    · simp only [Act.put, List.setIfInBounds_toArray, List.set_cons_zero, List.set_cons_succ, i64_w, i32_w]
                      rfl
                    refine pure_ (i := 9) (N := some 98) (v := ?_) (a' := ?_) #[true, true, true, true, true, true, true, true, true, true, false, false, false, false, false] rfl rfl (by kernel_rfl) (fun _ _ _ h => h) (Or.inl ⟨by rfl, ?_⟩) ?_ ?_
                    rotate_left
                    · intro w'
                      go_simp
                      first | done | with_reducible rfl
                    rotate_left
                    · simp only [Act.put, List.setIfInBounds_toArray, List.set_cons_zero, List.set_cons_succ, i64_w, i32_w]
                      rfl
                    refine pure_ (i := 10) (N := some 99) (v := ?_) (a' := ?_) #[true, true, true, true, true, true, true, true, true, true, true, false, false, false, false] rfl rfl (by kernel_rfl) (fun _ _ _ h => h) (Or.inl ⟨by rfl, ?_⟩) ?_ ?_
                    rotate_left
                    · intro w'
                      go_simp
                      first | done | with_reducible rfl
                    rotate_left
                    · simp only [Act.put, List.setIfInBounds_toArray, List.set_cons_zero, List.set_cons_succ, i64_w, i32_w]
                      rfl
                    refine take_ (i := 11) (N := some 100) (v := ?_) (a' := ?_) #[true, true, true, true, true, true, true, true, true, true, true, true, false, false, false] rfl rfl (by kernel_rfl) (fun _ _ _ h => h) (Or.inl ⟨by rfl, ?_⟩) hHeld ?_ ?_
                    rotate_left
                    · intro w' s0
                      obtain ⟨s1_, s2_, s3_⟩ := s0
                      go_simp
                      first | done | with_reducible rfl
                    rotate_left
                    · simp only [Act.put, List.setIfInBounds_toArray, List.set_cons_zero, List.set_cons_succ, i64_w, i32_w]
                      rfl
                    refine pure_ (i := 12) (N := some 101) (v := ?_) (a' := ?_) #[true, true, true, true, true, true, true, true, true, true, true, true, true, false, false] rfl rfl (by kernel_rfl) (fun _ _ _ h => h) (Or.inl ⟨by rfl, ?_⟩) ?_ ?_
                    rotate_left
                    · intro w'
                      go_simp
                      first | done | with_reducible rfl
                    rotate_left
                    · simp only [Act.put, List.setIfInBounds_toArray, List.set_cons_zero, List.set_cons_succ, i64_w, i32_w]
                      rfl
                    refine one_ (i := 13) (N := some 12) #[true, true, true, true, true, true, true, true, true, true, true, true, true, true, false] rfl rfl (by kernel_rfl) (by decide) (fun K hK => ?_)
                    refine value_ (w1 := ?_) (v := ?_) (by rfl) rfl ?_ ?_
                    rotate_left 2
                    · go_simp
                      first | done | rfl | (constructor <;> rfl)
                    refine hK.out _ _ ⟨alloc_cell' hHeld.1 _, alloc_cell' hHeld.2.1 _, alloc_cell' hHeld.2.2 _⟩ (fun hHeld => ?_)
                    clear hK K
                    refine norm_ (a' := ?_) ?_ ?_
                    rotate_left
                    · simp only [Act.put, List.setIfInBounds_toArray, List.set_cons_zero, List.set_cons_succ]
                      rfl
                    refine last_ (i := 14) (N := none) #[true, true, true, true, true, true, true, true, true, true, true, true, true, true, true] rfl rfl (by kernel_rfl) (by decide) (fun K hK => ?_)
                    refine skip_ (w1 := ?_) (by rfl) rfl ?_ ?_
                    rotate_left
                    · go_simp
                      first | done | rfl
                    refine hK.out _ _ ?_
                    clear hK K
                    refine done_ (by kernel_rfl) ?_
                    clear hHeld
                    obtain ⟨Wb, hWb⟩ : ∃ Wb, Wb = Wd.alloc (Obj.cells #[Value.bool true, Value.string { data := #[] }, Value.slice Ap st1.top.length cp, Value.int IntKind.i64 ↑a1] 30) := ⟨_, rfl⟩
                    obtain ⟨nb, hnb⟩ : ∃ nb, nb = Wd.heap.size := ⟨_, rfl⟩
                    have hnd : Wb.drew.heap[nb]? = some (.cells #[Value.bool true, Value.string { data := #[] }, Value.slice Ap st1.top.length cp, Value.int IntKind.i64 ↑a1] 30 (0, 0)) := by rw [hWb, hnb]; exact blk_new Wd _
                    have hBb : Below Wd.heap.size Wd Wb.drew := by rw [hWb]; exact (below_alloc (Below.refl _ _) _).drew
                    have HKb := Hid1.mk (HKd.out.belowK hBb hbsd)
                    have HOb := Hid1.mk (HOd.out.below hBb)
                    have HRb := Hid1.mk (Kd.R_below HRd.out hBb)
                    have kb : Wb.drew.cell? ⟨b, 0, none⟩ = some (.slice (some ⟨g, 0, none⟩) (rst.length + 1 + 1) cap) := by rw [← HX.out.1]; exact (blk_cell HOb.out.blk 0).trans rfl
                    have fb := blk_frozen HOb.out.blk 0
                    rw [← hnb, ← hWb]
                    have HNB := Hid1.mk hnb
                    clear hWb hnb
                    go_wp2
                    refine start_ (n := 12) (S := fun w' => w'.cell? ⟨b, 0, none⟩ = some (.slice (some ⟨g, 0, none⟩) (rst.length + 1 + 1) cap)) (ds := [10]) #[false, false, false, false, false, false, false, false, false, false, false, false] (by kernel_rfl) rfl rfl kb (fun hHeld => ?_)
                    generalize Wb.drew = Wf at hnd hBb HKb HOb HRb kb fb hHeld ⊢
                    refine take_ (i := 0) (N := some 102) (v := ?_) (a' := ?_) #[true, false, false, false, false, false, false, false, false, false, false, false] rfl rfl (by kernel_rfl) (fun _ _ _ h => h) (Or.inl ⟨by rfl, ?_⟩) hHeld ?_ ?_
                    rotate_left
                    · intro w' s0
                      have s1_ := s0
                      go_simp
                      first | done | with_reducible rfl
                    rotate_left
                    · simp only [Act.put, List.setIfInBounds_toArray, List.set_cons_zero, List.set_cons_succ, i64_w, i32_w]
                      rfl
                    refine take_ (i := 1) (N := some 103) (v := ?_) (a' := ?_) #[true, true, false, false, false, false, false, false, false, false, false, false] rfl rfl (by kernel_rfl) (fun _ _ _ h => h) (Or.inl ⟨by rfl, ?_⟩) hHeld ?_ ?_
                    rotate_left
                    · intro w' s0
                      have s1_ := s0
                      go_simp
                      first | done | with_reducible rfl
                    rotate_left
                    · simp only [Act.put, List.setIfInBounds_toArray, List.set_cons_zero, List.set_cons_succ, i64_w, i32_w]
                      rfl
                    refine pure_ (i := 2) (N := some 104) (v := ?_) (a' := ?_) #[true, true, true, false, false, false, false, false, false, false, false, false] rfl rfl (by kernel_rfl) (fun _ _ _ h => h) (Or.inl ⟨by rfl, ?_⟩) ?_ ?_
                    rotate_left
                    · intro w'
                      go_simp
                      first | done | with_reducible rfl
                    rotate_left
                    · simp only [Act.put, List.setIfInBounds_toArray, List.set_cons_zero, List.set_cons_succ, i64_w, i32_w]
                      rfl
                    refine pure_ (i := 3) (N := some 105) (v := ?_) (a' := ?_) #[true, true, true, true, false, false, false, false, false, false, false, false] rfl rfl (by kernel_rfl) (fun _ _ _ h => h) (Or.inl ⟨by rfl, ?_⟩) ?_ ?_
                    rotate_left
                    · intro w'
                      go_simp
                      first | done | with_reducible rfl
                    rotate_left
                    · simp only [Act.put, List.setIfInBounds_toArray, List.set_cons_zero, List.set_cons_succ, i64_w, i32_w]
                      rfl
                    refine pure_ (i := 4) (N := some 106) (v := ?_) (a' := ?_) #[true, true, true, true, true, false, false, false, false, false, false, false] rfl rfl (by kernel_rfl) (fun _ _ _ h => h) (Or.inl ⟨by rfl, ?_⟩) ?_ ?_
                    rotate_left
                    · intro w'
                      go_simp
                      first | done | with_reducible rfl
                    rotate_left
                    · simp only [Act.put, List.setIfInBounds_toArray, List.set_cons_zero, List.set_cons_succ, i64_w, i32_w]
                      rfl
                    refine pure_ (i := 5) (N := some 107) (v := ?_) (a' := ?_) #[true, true, true, true, true, true, false, false, false, false, false, false] rfl rfl (by kernel_rfl) (fun _ _ _ h => h) (Or.inl ⟨by rfl, ?_⟩) ?_ ?_
                    rotate_left
                    · intro w'
                      go_simp
                      first | done | with_reducible rfl
                    rotate_left
                    · simp only [Act.put, List.setIfInBounds_toArray, List.set_cons_zero, List.set_cons_succ, i64_w, i32_w]
                      rfl
                    refine pure_ (i := 6) (N := some 108) (v := ?_) (a' := ?_) #[true, true, true, true, true, true, true, false, false, false, false, false] rfl rfl (by kernel_rfl) (fun _ _ _ h => h) (Or.inl ⟨by rfl, ?_⟩) ?_ ?_
                    rotate_left
                    · intro w'
                      go_simp
                      first | done | with_reducible rfl
                    rotate_left
                    · simp only [Act.put, List.setIfInBounds_toArray, List.set_cons_zero, List.set_cons_succ, i64_w, i32_w]
                      rfl
                    refine pure_ (i := 7) (N := some 109) (v := ?_) (a' := ?_) #[true, true, true, true, true, true, true, true, false, false, false, false] rfl rfl (by kernel_rfl) (fun _ _ _ h => h) (Or.inl ⟨by rfl, ?_⟩) ?_ ?_
                    rotate_left
                    · intro w'
                      go_simp
                      first | done | with_reducible rfl
                    rotate_left
                    · simp only [Act.put, List.setIfInBounds_toArray, List.set_cons_zero, List.set_cons_succ, i64_w, i32_w]
                      rfl
                    refine pure_ (i := 8) (N := some 110) (v := ?_) (a' := ?_) #[true, true, true, true, true, true, true, true, true, false, false, false] rfl rfl (by kernel_rfl) (fun _ _ _ h => h) (Or.inl ⟨by rfl, ?_⟩) ?_ ?_
                    rotate_left
                    · intro w'
                      go_simp
                      first | done | with_reducible rfl
                    rotate_left
                    · simp only [Act.put, List.setIfInBounds_toArray, List.set_cons_zero, List.set_cons_succ, i64_w, i32_w]
                      rfl
                    refine pure_ (i := 9) (N := some 111) (v := ?_) (a' := ?_) #[true, true, true, true, true, true, true, true, true, true, false, false] rfl rfl (by kernel_rfl) (fun _ _ _ h => h) (Or.inl ⟨by rfl, ?_⟩) ?_ ?_
                    rotate_left
                    · intro w'
                      go_simp
                      first | done | with_reducible rfl
                    rotate_left
                    · simp only [Act.put, List.setIfInBounds_toArray, List.set_cons_zero, List.set_cons_succ, i64_w, i32_w]
                      rfl
                    refine last_ (i := 10) (N := none) #[true, true, true, true, true, true, true, true, true, true, true, false] rfl rfl (by kernel_rfl) (by decide) (fun K hK => ?_)
                    refine skip_ (w1 := ?_) (by rfl) rfl ?_ ?_
                    rotate_left
                    · go_simp
                      first | done | rfl
                    refine hK.out _ _ ?_
                    clear hK K
                    refine pure_ (i := 11) (N := some 6) (v := ?_) (a' := ?_) #[true, true, true, true, true, true, true, true, true, true, true, true] rfl rfl (by kernel_rfl) (fun _ _ _ h => h) (Or.inl ⟨by rfl, ?_⟩) ?_ ?_
                    rotate_left
                    · intro w'
                      go_simp
                      first | done | with_reducible rfl
                    rotate_left
                    · simp only [Act.put, List.setIfInBounds_toArray, List.set_cons_zero, List.set_cons_succ, i64_w, i32_w]
                      rfl
                    refine done_ (by kernel_rfl) ?_
                    clear hHeld kb fb
                    obtain ⟨Wz, hWz⟩ : ∃ Wz, Wz = Wf.setCell ⟨b, 0, none⟩ (.slice (some ⟨g, 0, none⟩) (rst.length + 1) cap) := ⟨_, rfl⟩
                    have hrv : ((rst.map (·.1)).reverse).length = rst.length := by simp
                    have hnbb : nb ≠ b := blk_ne hnd HOb.out.blk (by decide)
                    have hitb : it ≠ b := fun e => by have h1 := HKb.out.it; rw [e, HOb.out.blk] at h1; cases h1
                    have hOz : Opn Wz w.heap.size b g cap (rows.take (rst.length + 1)) f ((rst.map (·.1)).reverse ++ [t1]) := by
                      rw [hWz]
                      have := HOb.out.pop
                      rw [hrv] at this
                      exact this
                    have hRz : k30.R 30 Wz w.heap.size (fun k => f k = rst.length + 1) (slv (Ap, st1.top.length, cp)) st1.top := by
                      rw [hWz]
                      exact Kd.R_set HRb.out HOb.out.blk (by decide) 0 _
                    have hnz : Wz.heap[nb]? = some (.cells #[Value.bool true, Value.string { data := #[] }, Value.slice Ap st1.top.length cp, Value.int IntKind.i64 ↑a1] 30 (0, 0)) := by
                      rw [hWz, Below.heap_setCell _ _ _ _ hnbb]
                      exact hnd
                    have hAz : (Kd.int .i64).R 3 Wz w.heap.size (fun _ => True) (.slice (some ⟨ga, 0, none⟩) rst.length c6) ((rst.map (fun p => (p.2 : Int))).reverse) := by
                      have h1 := Kd.R_take (m := rst.length) (Kd.R_set HKb.out.at_ HOb.out.blk (by decide) 0 (.slice (some ⟨g, 0, none⟩) (rst.length + 1) cap)) (by simp)
                      rw [List.take_append_of_le_length (by simp), List.take_of_length_le (by simp)] at h1
                      rw [hWz]
                      exact h1
                    have hKz : Kp s w.heap.size b it w Wz (st.pos + 1) ((rst.map (fun p => (p.2 : Int))).reverse) ((rst.map (·.1)).reverse ++ [t1]) (.slice (some ⟨ga, 0, none⟩) rst.length c6) :=
                      ⟨by rw [hWz, Below.heap_setCell _ _ _ _ hitb]; exact HKb.out.it, hAz, ⟨g, cap, _, f, hOz⟩, by rw [hWz]; exact HKb.out.below.setCell HOb.out.low _⟩
                    rw [← hWz]
                    have x0 : Wz.cell? ⟨nb, 0, none⟩ = some (Value.bool true) := (blk_cell hnz 0).trans rfl
                    have x1 : Wz.cell? ⟨nb, 1, none⟩ = some (Value.string { data := #[] }) := (blk_cell hnz 1).trans rfl
                    have x2 : Wz.cell? ⟨nb, 2, none⟩ = some (Value.slice Ap st1.top.length cp) := (blk_cell hnz 2).trans rfl
                    have x3 : Wz.cell? ⟨nb, 3, none⟩ = some (Value.int IntKind.i64 ↑a1) := (blk_cell hnz 3).trans rfl
                    have HOz := Hid1.mk hOz
                    have HRz := Hid1.mk hRz
                    have HKz := Hid1.mk hKz
                    have HRV := Hid1.mk hrv
                    have hdl2 : ((rst.map (·.1)).reverse).length ≤ 100000 := by rw [hrv]; exact Nat.le_trans (Nat.le_of_succ_le hdl) (by decide)
                    clear hWz hOz hRz hnz hAz hKz hrv
                    go_wp2_with (go_at_call 20; (refine (put_any ⟨true, ⟨#[]⟩, st1.top, (a1 : Int)⟩ (slv (Ap, st1.top.length, cp)) _ b g cap _ f ((rst.map (·.1)).reverse) t1 Wz HOz.out (by rw [HRV.out]; exact HRz.out) htl hdl2).mono ?_; rintro e w'' ⟨rfl, ⟨rows', f', hO'⟩, hfr⟩))
                    go_roundw
                    case rel =>
                      obtain ⟨e1, e3, hcr, hpc, hstep, hbad⟩ := HN.out
                      have ha := hact.out
                      rw [show partB c = partOf 41 from hpc, if_neg (by rw [hp41]; decide), if_neg (u8_ne hcr (k := 40) (by decide)), if_pos (UInt8.toNat_inj.1 (show c.toNat = (41 : UInt8).toNat from hcr)), hst1.out] at ha
                      refine ⟨_, ⟨(hstep _ ha).1⟩, rfl, by rw [← hnt], ⟨?_⟩⟩
                      have k := HKz.out
                      show Kp _ _ _ _ _ _ (st1.pos + 1) _ _ _
                      rw [e1]
                      exact ⟨fr_it hfr k.it, fr_at hfr k.at_, ⟨g, cap, rows', f', hO'⟩, k.below.trans hfr.below⟩
                    case measure =>
                      rw [posOf_eq HK.out.it, posOf_eq (fr_it hfr HKz.out.it)]
                      omega
                have g41 : ((r : Int) == 41) = false := beq_false_of_ne (by omega)
                go_wp2_with (go_at_call 21; refine (part_any r (by omega) _).mono ?_; rw [hp']; rintro e w' ⟨rfl, rfl⟩)
                go_ret3
                obtain ⟨e1, e3, hcr, hpc, hstep, hbad⟩ := HN.out
                have ha := hact.out
                rw [hpc, if_neg (by rw [hp']; decide), if_neg (u8_ne hcr (k := 40) q40), if_neg (u8_ne hcr (k := 41) q41)] at ha
                have hfin := (hbad _ _ ha).symm.trans HR.out
                injection hfin with f1 hfin
                injection hfin with f2 f3
                subst f1 f2 f3
                exact ⟨_, by rw [← e1]; rfl, Kd.R_nil _ _ _ _ _, HK2.out.below⟩
          · obtain ⟨hp', hno, hba⟩ := nxtHi HOK.out hlt hrd hr1 hrlt
            have hN := Hid1.mk (And.intro hno hba)
            clear hrd hr1 hr2 hno hba
            cases hnt : st.note with
            | true =>
              have g10 : ((r : Int) != 10) = true := bne_iff_ne.mpr (by omega)
              go_wp2
              go_roundw
              case rel =>
                obtain ⟨he, hok⟩ := hN.out.1 hnt
                rw [he] at HK2 ⊢
                exact ⟨_, ⟨hok⟩, rfl, by rw [← hnt], ⟨HK2.out.same rfl rfl rfl⟩⟩
              case measure =>
                rw [posOf_eq HK.out.it, posOf_eq HK2.out.it]
                omega
            | false =>
              have g59 : ((r : Int) == 59) = false := beq_false_of_ne (by omega)
              have g32 : ((r : Int) == 32) = false := beq_false_of_ne (by omega)
              have g9 : ((r : Int) == 9) = false := beq_false_of_ne (by omega)
              have g10 : ((r : Int) == 10) = false := beq_false_of_ne (by omega)
              have g13 : ((r : Int) == 13) = false := beq_false_of_ne (by omega)
              have g40 : ((r : Int) == 40) = false := beq_false_of_ne (by omega)
              have g41 : ((r : Int) == 41) = false := beq_false_of_ne (by omega)
              go_wp2_with (go_at_call 21; refine (part_any r (by omega) _).mono ?_; rw [hp']; rintro e w' ⟨rfl, rfl⟩)
              go_ret3
              have hfin := (hN.out.2 hnt).symm.trans HR.out
              injection hfin with f1 hfin
              injection hfin with f2 f3
              subst f1 f2 f3
              exact ⟨_, rfl, Kd.R_nil _ _ _ _ _, HK2.out.below⟩
    · obtain ⟨hpe, hfe⟩ := fin_end HOK.out hlt
      have hnx := fun ty => Go.Lib.run_next_end_at (P := Try.prog) wr it s st.pos ty HK.out.it hlt
      have HF := Hid1.mk (And.intro hpe hfe)
      clear hpe hfe
      subst h8 h9
      obtain ⟨A6, c6, hv6⟩ := Kd.R_slice HK.out.at_
      subst hv6
      go_upto_region 33 with (fail)
      clear hnx
      have HK1 := HK
      go_upto_if 116 with (fail)
      go_cut [12] (fun v12 wc' => Aside0 (Keep s w.heap.size b it w wc' st.pos { st with top := flushT st, word := none } (.slice A6 (atsOf st).length c6)))
      case first =>
        cases hw : st.word with
        | none =>
          have HW := Hid1.mk hw
          have hqb : (0 ≤ begunOf st) = False := eq_false (by unfold begunOf; rw [hw]; show ¬ (0 ≤ (-1 : Int)); decide)
          have hqn : begunOf st < 0 := by have := of_eq_false hqb; omega
          clear hw
          go_wp2
          go_meet
          rw [flush_none HW.out]
          exact HK
        | some q =>
          obtain ⟨ws, b0⟩ := q
          obtain ⟨hwt, hbl⟩ := word_text HOK.out hw
          have HT := Hid1.mk hwt
          have HW := Hid1.mk hw
          have hbg : begunOf st = (b0 : Int) := by unfold begunOf; rw [hw]
          have hln : st.top.length ≤ 100000 := Nat.le_trans (Nat.le_trans (Nat.le_add_right _ _) HOK.out.few) (by have := HF.out.1; omega)
          have hdp : ((st.stk.map (·.1)).reverse).length ≤ 100000 := by rw [opns_len]; exact Nat.le_trans HOK.out.deep (by decide)
          have hbl2 : b0 ≤ s.size := by have := HF.out.1; omega
          have hqb : (0 ≤ begunOf st) = True := eq_true (by omega)
          have hqn : 0 ≤ begunOf st := by omega
          have hqj : (begunOf st ≤ (s.size : Int)) = True := eq_true (by omega)
          have HG := Hid1.mk hbg
          clear hw hwt hbg
          go_wp2_with (go_at_call 20; (refine (putW (s.extract (begunOf st).toNat s.size) (begunOf st) _ b ((st.stk.map (·.1)).reverse) st.top _ HK.out.opn hln hdp).mono ?_; rintro e w' ⟨rfl, ho, hfr⟩))
          go_meet
          refine ⟨HK.out.put hfr ?_ rfl⟩
          have hft : flushT st = st.top ++ [⟨false, ⟨ws.toArray⟩, [], (b0 : Int)⟩] := by unfold flushT; rw [HW.out]; rfl
          show Opn' _ _ _ ((st.stk.map (·.1)).reverse ++ [flushT st])
          rw [hft, HT.out, HF.out.1]
          rw [HG.out, Int.toNat_natCast] at ho
          exact ho
      case rest =>
        have HK2 := hcut
        by_cases hd : st.stk = []
        · have hal : (atsOf st).length = 0 := by rw [atsOf_len, hd]; rfl
          have hq0 : ((0 : Int) < ((atsOf st).length : Int)) = False := eq_false (by omega)
          have hq0n : (0 < (atsOf st).length) = False := eq_false (by omega)
          have HD := Hid1.mk hd
          obtain ⟨g, cap, rows, f, hO⟩ := HK2.out.opn
          have hrl : rows.length = 1 := by rw [hO.rows.1]; unfold opns; simp [hd]
          have hoe : opns { st with top := flushT st, word := none } = [] ++ [flushT st] := by unfold opns; simp [hd]
          have hO' := hO
          rw [hoe] at hO'
          obtain ⟨p, hp, hR⟩ := hO'.row
          have hoc := Kd.R_celln (d := ((none, 0, 0) : Sl)) hO.out (0 : Int) (by omega) (by omega)
          have hrd : rdOf ((none, 0, 0) : Sl) rows (0 : Int) = p := by unfold rdOf; rw [List.getD_eq_getElem?_getD]; show (rows[0]?).getD _ = _; rw [show rows[0]? = some p from hp]; rfl
          rw [hrd] at hoc
          have ko := hoc.1
          rw [show (0 : Int).toNat = 0 from rfl] at ko
          have kb := (blk_cell hO.blk 0).trans rfl
          have hq1 : ((0 : Int) < (rows.length : Int)) = True := eq_true (by omega)
          have hq1n : (0 < rows.length) = True := eq_true (by omega)
          have HX := Hid1.mk (And.intro hrl (And.intro hoe hp))
          clear hd hal hrl hoe hp hrd hoc
          go_wp2
          go_ret3
          have hfin := HF.out.2.symm.trans HR.out
          rw [if_pos HD.out] at hfin
          injection hfin with f1 hfin
          injection hfin with f2 f3
          subst f1 f2 f3
          exact ⟨_, rfl, Kd.R_mono hR (fun _ _ => trivial), HK2.out.below⟩
        · have hal : 0 < (atsOf st).length := by rw [atsOf_len]; exact List.length_pos_iff.2 hd
          have hq0 : ((0 : Int) < ((atsOf st).length : Int)) = True := eq_true (by omega)
          have hq0n : (0 < (atsOf st).length) = True := eq_true (by omega)
          have HD := Hid1.mk hd
          clear hd
          go_wp2
          go_ret3
          have hfin := HF.out.2.symm.trans HR.out
          rw [if_neg HD.out] at hfin
          injection hfin with f1 hfin
          injection hfin with f2 f3
          subst f1 f2 f3
          exact ⟨_, rfl, Kd.R_nil _ _ _ _ _, HK2.out.below⟩
theorem parse_long (s : ByteArray) (w : World) (hsz : ¬ s.size ≤ 16384) (hs : s.size ≤ 140737488355328) :
    Calls Try.prog 10 #[.string s] w fun e w' => e = .returned (.tuple #[.slice none 0 0, .int .i64 5, .int .i64 0]) ∧ Below w.heap.size w w' := by
  have hgs : (16384 : Int) < s.size := by omega
  have hgn : 16384 < s.size := by omega
  have hgd : decide ((16384 : Int) < s.size) = true := decide_eq_true hgs
  go_enter Try.func10, Try.ntmps10
  go_wp2
  go_ret3
  exact ⟨rfl, Below.refl _ _⟩
def sexp_Parse.f (a0 : ByteArray) : Option (List S30 × Int × Int) := if a0.size ≤ 140737488355328 then some (parseM a0) else none
theorem sexp_Parse.calls (a0 : ByteArray) (r1 : List S30) (r2 r3 : Int) (w : World) (h : sexp_Parse.f a0 = some (r1, r2, r3)) :
    Calls Try.prog 10 #[.string a0] w fun e w' => ∃ v0_, e = .returned (.tuple #[v0_, .int .i64 r2, .int .i64 r3]) ∧ k30.R 30 w' w.heap.size (fun _ => True) v0_ r1 ∧ Below w.heap.size w w' := by
  unfold sexp_Parse.f at h
  by_cases hs : a0.size ≤ 140737488355328
  · rw [if_pos hs] at h
    injection h with h
    by_cases hsz : a0.size ≤ 16384
    · unfold parseM at h
      rw [if_neg (by omega)] at h
      exact parse_any a0 w hsz r1 r2 r3 h
    · unfold parseM at h
      rw [if_pos (by omega)] at h
      injection h with f1 h
      injection h with f2 f3
      subst f1 f2 f3
      refine (parse_long a0 w hsz hs).mono ?_
      rintro e w' ⟨rfl, hb⟩
      exact ⟨_, rfl, Kd.R_nil _ _ _ _ _, hb⟩
  · rw [if_neg hs] at h; cases h
end Go.Proofs.Ytciojbdkoojlhaa.P
