/- sexp.Print: what it writes, the closure lay, the contract. Conditions: as each states. -/
import Derived.Test.YtciojbdkoojlhaaG2
import Derived.Test.YtciojbdkoojlhaaG7
namespace Go.Proofs.Ytciojbdkoojlhaa.P
set_option linter.unusedVariables false
set_option linter.unusedSimpArgs false
open Go.RowKit Go.Proofs.YtciojbdkoojlhaaW.PrintWords Go.Proofs.YtciojbdkoojlhaaW.PrintLast Go.Proofs.YtciojbdkoojlhaaW.PrintMore
/-! ### what is written -/
def layTo (nt : S30 → Option (List UInt8)) (sep : List UInt8) (l : List S30) : Nat → Option (List UInt8)
  | 0 => some []
  | i + 1 => (layTo nt sep l i).bind fun t => (nt (rd_T30 l (i : Int))).map fun a => t ++ ((if i = 0 then [] else sep) ++ a)
def ntOf (r : Nat) (sub : List S30 → Option (List UInt8)) (n : S30) : Option (List UInt8) :=
  if n.f0 = true then (if r = 0 ∨ n.f1.size ≠ 0 then none else (sub n.f2).map fun t => 40 :: (t ++ [41]))
  else if 0 < n.f2.length ∨ wordOf n.f1 = false then none else some (bytesL n.f1)
/-- nodes as a text, within 24 - r brackets -/
def layR : Nat → List UInt8 → List S30 → Option (List UInt8)
  | 0, sep, l => layTo (ntOf 0 (fun _ => none)) sep l l.length
  | r + 1, sep, l => layTo (ntOf (r + 1) (layR r [32])) sep l l.length
def subR : Nat → List S30 → Option (List UInt8)
  | 0 => fun _ => none
  | r + 1 => layR r [32]
theorem layR_eq (r : Nat) (sep : List UInt8) (l : List S30) : layR r sep l = layTo (ntOf r (subR r)) sep l l.length := by
  cases r <;> rfl
def wtTo (wn : S30 → Nat) (l : List S30) : Nat → Nat
  | 0 => 0
  | i + 1 => wtTo wn l i + wn (rd_T30 l (i : Int))
/-- no more bytes than that are written -/
def wtR : Nat → List S30 → Nat
  | 0, l => wtTo (fun n => n.f1.size + 3) l l.length
  | r + 1, l => wtTo (fun n => n.f1.size + 3 + wtR r n.f2) l l.length
def wnR : Nat → S30 → Nat
  | 0, n => n.f1.size + 3
  | r + 1, n => n.f1.size + 3 + wtR r n.f2
theorem wtR_eq (r : Nat) (l : List S30) : wtR r l = wtTo (wnR r) l l.length := by
  cases r <;> rfl
theorem wtTo_mono (wn : S30 → Nat) (l : List S30) (i : Nat) : ∀ j, i ≤ j → wtTo wn l i ≤ wtTo wn l j
  | 0, h => by
    obtain rfl : i = 0 := by omega
    exact Nat.le_refl _
  | j + 1, h => by
    by_cases e : i = j + 1
    · subst e; exact Nat.le_refl _
    · exact Nat.le_trans (wtTo_mono wn l i j (by omega)) (Nat.le_add_right _ _)
theorem wtTo_at (wn : S30 → Nat) (l : List S30) {i n : Nat} (h : i < n) : wtTo wn l i + wn (rd_T30 l (i : Int)) ≤ wtTo wn l n := wtTo_mono wn l (i + 1) n h
theorem layTo_none {nt : S30 → Option (List UInt8)} {sep : List UInt8} {l : List S30} {i : Nat} (h : layTo nt sep l i = none) : ∀ j, i ≤ j → layTo nt sep l j = none
  | 0, hj => by
    obtain rfl : i = 0 := by omega
    exact h
  | j + 1, hj => by
    by_cases e : i = j + 1
    · subst e; exact h
    · show (layTo nt sep l j).bind _ = none
      rw [layTo_none h j (by omega)]
      rfl
theorem layTo_len {nt : S30 → Option (List UInt8)} {wn : S30 → Nat} {sep : List UInt8} {l : List S30} (hs : sep.length ≤ 1) (hn : ∀ n a, nt n = some a → a.length + 1 ≤ wn n) : ∀ i t, layTo nt sep l i = some t → t.length ≤ wtTo wn l i
  | 0, t, h => by cases h; exact Nat.le_refl _
  | i + 1, t, h => by
    simp only [layTo] at h
    obtain ⟨t', h1, h2⟩ := Option.bind_eq_some_iff.1 h
    obtain ⟨a, h3, h4⟩ := Option.map_eq_some_iff.1 h2
    have := layTo_len hs hn i t' h1
    have := hn _ _ h3
    subst h4
    simp only [wtTo, List.length_append]
    split
    · rw [List.length_nil]; omega
    · omega
theorem nt_len : ∀ r n a, ntOf r (subR r) n = some a → a.length + 1 ≤ wnR r n
  | 0, n, a, h => by
    simp only [ntOf, subR] at h
    split at h
    · rename_i h0
      split at h
      · cases h
      · cases h
    · split at h
      · cases h
      · cases h; simp only [wnR]; rw [bytesL_len]; omega
  | r + 1, n, a, h => by
    simp only [ntOf, subR] at h
    split at h
    · split at h
      · cases h
      · obtain ⟨t, h1, h2⟩ := Option.map_eq_some_iff.1 h
        subst h2
        rw [layR_eq] at h1
        have := layTo_len (l := n.f2) (by decide : ([32] : List UInt8).length ≤ 1) (nt_len r) _ _ h1
        simp only [wnR, List.length_cons, List.length_append, List.length_nil]
        rw [wtR_eq]
        omega
    · split at h
      · cases h
      · cases h; simp only [wnR]; rw [bytesL_len]; omega
theorem layR_len {r : Nat} {sep : List UInt8} {l : List S30} {t : List UInt8} (hs : sep.length ≤ 1) (h : layR r sep l = some t) : t.length ≤ wtR r l := by
  rw [layR_eq] at h
  rw [wtR_eq]
  exact layTo_len hs (nt_len r) _ _ h
/-! ### the builder -/
def layV (bb lb : Nat) : Value := .func (Fn.func 23) #[] #[.pointer (some ⟨bb, 0, none⟩), .pointer (some ⟨lb, 0, none⟩)]
structure Wr (w0 : World) (bb lb : Nat) (acc : List UInt8) (w : World) : Prop where
  bld : Lib.IsBuilderF 46 5 w0.heap.size bb (Lib.byteCells acc) w
  fn : w.heap[lb]? = some (.cells #[layV bb lb] 47 (0, 0))
  below : Below w0.heap.size w0 w
theorem bld_below {T e : TypeId} {B b : Nat} {bs : List Value} {w w1 : World} (h : Lib.IsBuilderF T e B b bs w) (hb : Below w.heap.size w w1) : Lib.IsBuilderF T e B b bs w1 := by
  have one : ∀ p, Lib.BuilderAtF T e B b p bs w → Lib.BuilderAtF T e B b p bs w1 := by
    rintro p ⟨hB, v, hbk, hown, hne⟩
    exact ⟨hB, v, blk_below hbk hb, World.ownsRowF.kept hown (grown_of_below hb none) (by cases v.ownBlock <;> simp), hne⟩
  exact h.elim (fun h => .inl (one _ h)) (fun h => .inr (one _ h))
theorem bld_lt {T e : TypeId} {B b : Nat} {bs : List Value} {w : World} (h : Lib.IsBuilderF T e B b bs w) : b < w.heap.size ∧ ∃ cs, w.heap[b]? = some (.cells cs T (0, 0)) := by
  rcases h with h | h
  · exact ⟨h.lt, _, h.2.choose_spec.1⟩
  · exact ⟨h.lt, _, h.2.choose_spec.1⟩
theorem Wr.belowW {w0 w w1 : World} {bb lb : Nat} {acc : List UInt8} (h : Wr w0 bb lb acc w) (hb : Below w.heap.size w w1) : Wr w0 bb lb acc w1 := ⟨bld_below h.bld hb, blk_below h.fn hb, h.below.trans (hb.mono h.below.size)⟩
theorem Wr.alloc {w0 w : World} {bb lb : Nat} {acc : List UInt8} (h : Wr w0 bb lb acc w) (o : Obj) : Wr w0 bb lb acc (w.alloc o) := h.belowW (below_alloc (Below.refl _ _) o)
/-- Some bytes are written; a block of nodes stays. -/
theorem Wr.step {w0 w w1 : World} {bb lb : Nat} {acc x : List UInt8} (h : Wr w0 bb lb acc w) (h1 : Lib.BuilderAtF 46 5 w0.heap.size bb (.pointer (some ⟨bb, 0, none⟩)) (Lib.byteCells acc ++ Lib.byteCells x) w1) (h2 : Below w0.heap.size w w1) (h3 : Lib.OthersKept 5 (some bb) w w1) :
    Wr w0 bb lb (acc ++ x) w1 ∧ ∀ (k : Nat) (c : Array Value), w.heap[k]? = some (.cells c 30 (0, 0)) → w1.heap[k]? = some (.cells c 30 (0, 0)) := by
  obtain ⟨_, cs, hcs⟩ := bld_lt h.bld
  refine ⟨⟨.inr (by rw [Lib.byteCells_append]; exact h1), h3 lb _ h.fn (fun e => ?_) (fun c fz e => ?_), h.below.trans h2⟩, fun k c hk => h3 k _ hk (fun e => ?_) (fun c fz e => ?_)⟩
  · injection e with e; have hf := h.fn; rw [e, hcs] at hf; injection hf with hf; injection hf with _ hf; exact absurd hf (by decide)
  · injection e with _ e; exact absurd e (by decide)
  · injection e with e; rw [e, hcs] at hk; injection hk with hk; injection hk with _ hk; exact absurd hk (by decide)
  · injection e with _ e; exact absurd e (by decide)
theorem wr_string (w0 : World) (bb lb : Nat) (acc : List UInt8) (x : ByteArray) (w : World) (h : Wr w0 bb lb acc w) (hl : acc.length + x.size ≤ 140737488355328) :
    Calls Try.prog 24 #[.pointer (some ⟨bb, 0, none⟩), .string x] w fun e w' => e = .returned (.tuple #[.int .i64 x.size, .nilIface]) ∧ Wr w0 bb lb (acc ++ bytesL x) w' ∧ ∀ (k : Nat) (c : Array Value), w.heap[k]? = some (.cells c 30 (0, 0)) → w'.heap[k]? = some (.cells c 30 (0, 0)) := by
  refine (Any.Builder_WriteString_k lays166 extraB w0.heap.size bb (Lib.byteCells acc) x w h.bld (by rw [Lib.byteCells_length]; exact hl) h.below.size).mono ?_
  rintro e w' ⟨h1, h2, h3, h4⟩
  exact ⟨h1, h.step h2 h3 h4⟩
theorem wr_byte (w0 : World) (bb lb : Nat) (acc : List UInt8) (c : UInt8) (w : World) (h : Wr w0 bb lb acc w) (hl : acc.length + 1 ≤ 140737488355328) :
    Calls Try.prog 25 #[.pointer (some ⟨bb, 0, none⟩), .int .u8 (c.toNat : Int)] w fun e w' => e = .returned .nilIface ∧ Wr w0 bb lb (acc ++ [c]) w' ∧ ∀ (k : Nat) (c : Array Value), w.heap[k]? = some (.cells c 30 (0, 0)) → w'.heap[k]? = some (.cells c 30 (0, 0)) := by
  refine (Any.Builder_WriteByte_k lays167 extraB w0.heap.size bb (Lib.byteCells acc) (c.toNat : Int) w h.bld (by rw [Lib.byteCells_length]; exact hl) h.below.size).mono ?_
  rintro e w' ⟨h1, h2, h3, h4⟩
  exact ⟨h1, h.step (x := [c]) h2 h3 h4⟩
/-- What lay answers. -/
def LayPost (w0 : World) (bb lb : Nat) (acc : List UInt8) (res : Option (List UInt8)) (e : Ending) (w' : World) : Prop := match res with
  | none => e = .returned (.bool false) ∧ Below w0.heap.size w0 w'
  | some t => e = .returned (.bool true) ∧ Wr w0 bb lb (acc ++ t) w'
theorem emptyL_true {s : ByteArray} (h : s.size = 0) : s.toList.isEmpty = true := by
  have := toList_empty s
  rw [decide_eq_false (by omega)] at this
  simpa using this
theorem emptyL_false {s : ByteArray} (h : s.size ≠ 0) : s.toList.isEmpty = false := by
  have := toList_empty s
  rw [decide_eq_true h] at this
  simpa using this
theorem wri {i n : Nat} (h : i < n) (hn : n ≤ 70368744177664) : wrap64 ((i : Int) + 1) = (i : Int) + 1 := by unfold wrap64; omega
theorem wnR_pos (r : Nat) (n : S30) : 1 ≤ wnR r n := by cases r <;> simp only [wnR] <;> omega
theorem wtTo_ge (r : Nat) (l : List S30) : ∀ i, i ≤ wtTo (wnR r) l i
  | 0 => Nat.zero_le _
  | i + 1 => Nat.add_le_add (wtTo_ge r l i) (wnR_pos r _)
set_option maxRecDepth 100000 in
set_option maxHeartbeats 8000000 in
theorem lay_step (r d : Nat) (hdr : d + r = 24) (w0 : World) (bb lb : Nat)
    (IH : ∀ (r' : Nat), r = r' + 1 → ∀ (l : List S30) (A : Option Addr) (c : Nat) (acc : List UInt8) (w : World), k30.C w0 A l.length l → l.length ≤ c → Wr w0 bb lb acc w → acc.length + wtR r' l ≤ 70368744177664 →
      Calls Try.prog 23 #[.slice A l.length c, .string ⟨#[32]⟩, .int .i64 ((d : Int) + 1), .pointer (some ⟨bb, 0, none⟩), .pointer (some ⟨lb, 0, none⟩)] w (LayPost w0 bb lb acc (layR r' [32] l)))
    (l : List S30) (A : Option Addr) (c : Nat) (sep : ByteArray) (hsep : sep.size ≤ 1) (acc : List UInt8) (w : World) (hC : k30.C w0 A l.length l) (hc : l.length ≤ c) (hW : Wr w0 bb lb acc w) (hb : acc.length + wtR r l ≤ 70368744177664) :
    Calls Try.prog 23 #[.slice A l.length c, .string sep, .int .i64 (d : Int), .pointer (some ⟨bb, 0, none⟩), .pointer (some ⟨lb, 0, none⟩)] w (LayPost w0 bb lb acc (layR r (bytesL sep) l)) := by
  have HC := Aside0.mk hC
  have HW := Aside0.mk hW
  have HI := Hid1.mk IH
  have hll : l.length ≤ 70368744177664 := by
    have := wtTo_ge r l l.length
    rw [← wtR_eq] at this
    omega
  clear hC hW IH
  go_enter Try.func23, Try.ntmps23
  go_wp2
  go_loopw [13] (fun v13 w' => ∃ (i : Nat) (t : List UInt8), i ≤ l.length ∧ v13 = .int .i64 i ∧ Hid1 (layTo (ntOf r (subR r)) (bytesL sep) l i = some t) ∧ Aside0 (Wr w0 bb lb (acc ++ t) w')) (fun v13 _ => l.length - (intOf v13).toNat)
  case atStart => exact ⟨0, [], Nat.zero_le _, rfl, ⟨rfl⟩, ⟨by rw [List.append_nil]; exact HW.out⟩⟩
  case round =>
    obtain ⟨i, t, hi, rfl, HT, HW1⟩ := hrel
    by_cases hlt : i < l.length
    · obtain ⟨n, hn⟩ : ∃ n, n = rd_T30 l (i : Int) := ⟨_, rfl⟩
      obtain ⟨ad, A2, c2, e175, x0, x1, x2, x3, hl2, hC2⟩ := at_T30 HC.out (i : Int) (by omega) (by omega)
      subst e175
      rw [← hn] at x0 x1 x2 x3 hl2 hC2
      rw [Int.toNat_natCast] at x0 x1 x2 x3
      replace x0 := (HW1.out.below.cell (World.block_lt_of_cell? w0 _ x0)).trans x0
      replace x1 := (HW1.out.below.cell (World.block_lt_of_cell? w0 _ x1)).trans x1
      replace x2 := (HW1.out.below.cell (World.block_lt_of_cell? w0 _ x2)).trans x2
      replace x3 := (HW1.out.below.cell (World.block_lt_of_cell? w0 _ x3)).trans x3
      have HN := Hid1.mk hn
      have HC2 := Hid1.mk (And.intro hl2 hC2)
      clear hn hl2 hC2
      go_upto_if 19 with (fail)
      obtain ⟨W2, hW2⟩ : ∃ W2, W2 = wr.alloc (Obj.cells #[Value.bool n.f0, Value.string n.f1, Value.slice A2 n.f2.length c2, Value.int IntKind.i64 n.f3] 30) := ⟨_, rfl⟩
      obtain ⟨nb, hnb⟩ : ∃ nb, nb = wr.heap.size := ⟨_, rfl⟩
      have HB2 : Aside0 (W2.heap[nb]? = some (.cells #[Value.bool n.f0, Value.string n.f1, Value.slice A2 n.f2.length c2, Value.int IntKind.i64 n.f3] 30 (0, 0))) := ⟨by rw [hW2, hnb]; exact blk_new wr _⟩
      have HW2 : Aside0 (Wr w0 bb lb (acc ++ t) W2) := ⟨by rw [hW2]; exact HW1.out.alloc _⟩
      rw [← hnb, ← hW2]
      have HTB : Hid1 (acc.length + (t.length + wnR r n) ≤ 70368744177664) := ⟨by
        have h1 := layTo_len (wn := wnR r) (by rw [bytesL_len]; exact hsep) (nt_len r) i t HT.out
        have h2 := wtTo_at (wnR r) l hlt
        rw [← HN.out] at h2
        rw [wtR_eq] at hb
        omega⟩
      have HWN : Hid1 (n.f1.size + 3 ≤ wnR r n) := ⟨by cases r <;> simp only [wnR] <;> omega⟩
      have hwi := wri hlt hll
      clear hW2 hnb x0 x1 x2 x3
      go_cut [20] (fun v20 wc => Aside0 (Wr w0 bb lb (acc ++ (t ++ (if i = 0 then [] else bytesL sep))) wc) ∧ Aside0 (wc.heap[nb]? = some (.cells #[Value.bool n.f0, Value.string n.f1, Value.slice A2 n.f2.length c2, Value.int IntKind.i64 n.f3] 30 (0, 0))))
      case first =>
        by_cases hi0 : i = 0
        · have hq : ¬ 0 < i := by omega
          have HE := Hid1.mk hi0
          clear hi0
          go_wp2
          go_meet
          rw [if_pos HE.out, List.append_nil]
          exact ⟨HW2, HB2⟩
        · have hq : 0 < i := by omega
          have HE := Hid1.mk hi0
          clear hi0
          go_wp2_with (go_at_call 24; (refine (wr_string w0 bb lb (acc ++ t) sep _ HW2.out (by have := HTB.out; rw [List.length_append]; omega)).mono ?_; rintro e w' ⟨rfl, hw3, hk3⟩))
          go_meet
          rw [if_neg HE.out, ← List.append_assoc]
          exact ⟨⟨hw3⟩, ⟨hk3 _ _ HB2.out⟩⟩
      case rest =>
        obtain ⟨HW3, HB3⟩ := hcut
        obtain ⟨t1, ht1⟩ : ∃ t1, t1 = t ++ (if i = 0 then [] else bytesL sep) := ⟨_, rfl⟩
        rw [← ht1] at HW3
        have HT1 : Hid1 (t1.length ≤ t.length + 1 ∧ ∀ a, ntOf r (subR r) n = some a → layTo (ntOf r (subR r)) (bytesL sep) l (i + 1) = some (t1 ++ a)) := ⟨by
          refine ⟨?_, fun a ha => ?_⟩
          · rw [ht1, List.length_append]
            split
            · simp
            · rw [bytesL_len]; omega
          · simp only [layTo]
            rw [HT.out, ← HN.out, ha, ht1]
            simp⟩
        have HTN : Hid1 (ntOf r (subR r) n = none → layR r (bytesL sep) l = none) := ⟨fun hh => by
          rw [layR_eq]
          refine layTo_none (i := i + 1) ?_ _ hlt
          simp only [layTo]
          rw [HT.out, ← HN.out, hh]
          rfl⟩
        clear ht1
        have y0 : wc.cell? ⟨nb, 0, none⟩ = some (Value.bool n.f0) := (blk_cell HB3.out 0).trans rfl
        have y1 : wc.cell? ⟨nb, 1, none⟩ = some (Value.string n.f1) := (blk_cell HB3.out 1).trans rfl
        have y2 : wc.cell? ⟨nb, 2, none⟩ = some (Value.slice A2 n.f2.length c2) := (blk_cell HB3.out 2).trans rfl
        cases hf0 : n.f0 with
        | false =>
          rw [hf0] at y0
          have HF := Hid1.mk hf0
          clear hf0
          by_cases hL : 0 < n.f2.length
          · have HZ : Hid1 (ntOf r (subR r) n = none) := ⟨by unfold ntOf; rw [if_neg (by rw [HF.out]; decide), if_pos (.inl hL)]⟩
            go_wp2
            go_ret
            rw [HTN.out HZ.out]
            exact ⟨rfl, HW3.out.below⟩
          · have hsz : n.f1.size ≤ 140737488355328 := by have := HTB.out; have := HWN.out; omega
            cases hwd : wordOf n.f1 with
            | false =>
              have HZ : Hid1 (ntOf r (subR r) n = none) := ⟨by unfold ntOf; rw [if_neg (by rw [HF.out]; decide), if_pos (.inr hwd)]⟩
              go_wp2_with (go_at_call 12; (refine (word_any n.f1 _ hsz).mono ?_; rw [hwd]; rintro e w' ⟨rfl, hbl⟩))
              go_ret
              rw [HTN.out HZ.out]
              exact ⟨rfl, (HW3.out.belowW hbl).below⟩
            | true =>
              have HZ : Hid1 (ntOf r (subR r) n = some (bytesL n.f1)) := ⟨by unfold ntOf; rw [if_neg (by rw [HF.out]; decide), if_neg (by rw [hwd]; intro hh; rcases hh with hh | hh; exact hL hh; cases hh)]⟩
              have hbd : (acc ++ t1).length + n.f1.size ≤ 140737488355328 := by have := HTB.out; have := HWN.out; have := HT1.out.1; rw [List.length_append]; omega
              go_wp2_with (first
                | (go_at_call 12; (refine (word_any n.f1 _ hsz).mono ?_; rw [hwd]; rintro e w' ⟨rfl, hbl⟩; have z1 := pw_cell_below hbl y1; have HW4 := Aside0.mk (HW3.out.belowW hbl)))
                | (go_at_call 24; (refine (wr_string w0 bb lb (acc ++ t1) n.f1 _ HW4.out hbd).mono ?_; rintro e w' ⟨rfl, hw5, _⟩)))
              go_roundw
              case rel => exact ⟨i + 1, t1 ++ bytesL n.f1, hlt, by go_num, ⟨HT1.out.2 _ HZ.out⟩, ⟨by rw [← List.append_assoc]; exact hw5⟩⟩
              case measure => simp [intOf]; omega
        | true =>
          rw [hf0] at y0
          have HF := Hid1.mk hf0
          clear hf0
          cases r with
          | zero =>
            have hq24 : ((d : Int) == 24) = true := beq_iff_eq.mpr (by omega)
            have HZ : Hid1 (ntOf 0 (subR 0) n = none) := ⟨by unfold ntOf; rw [if_pos HF.out, if_pos (.inl rfl)]⟩
            go_wp2
            go_ret
            rw [HTN.out HZ.out]
            exact ⟨rfl, HW3.out.below⟩
          | succ r' =>
            have hq24 : ((d : Int) == 24) = false := beq_false_of_ne (by omega)
            by_cases hs : n.f1.size = 0
            · have hte := emptyL_true hs
              have hw1 : wrap64 ((d : Int) + 1) = (d : Int) + 1 := by unfold wrap64; omega
              have hbd : (acc ++ t1).length + 1 ≤ 140737488355328 := by have := HTB.out; have := HWN.out; have := HT1.out.1; rw [List.length_append]; omega
              have hbd2 : ((acc ++ t1) ++ [40]).length + wtR r' n.f2 ≤ 70368744177664 := by have h1 := HTB.out; have h2 := HT1.out.1; rw [show wnR (r' + 1) n = n.f1.size + 3 + wtR r' n.f2 from rfl] at h1; rw [List.length_append, List.length_append, List.length_singleton]; omega
              have HS := Hid1.mk hs
              clear hs
              cases hsub : layR r' [32] n.f2 with
              | none =>
                have HZ : Hid1 (ntOf (r' + 1) (subR (r' + 1)) n = none) := ⟨by unfold ntOf; rw [if_pos HF.out, if_neg (by have := HS.out; omega)]; show (layR r' [32] n.f2).map _ = none; rw [hsub]; rfl⟩
                have HSU := Hid1.mk hsub
                clear hsub
                go_wp2_with (first
                  | (go_at_call 25; (refine (wr_byte w0 bb lb (acc ++ t1) 40 _ HW3.out hbd).mono ?_; rintro e w4 ⟨rfl, hw4, hk4⟩; have z2 : w4.cell? ⟨nb, 2, none⟩ = some (Value.slice A2 n.f2.length c2) := (blk_cell (hk4 _ _ HB3.out) 2).trans rfl; have zf := (blk_cell hw4.fn 0).trans (show _ = some (Value.func (Fn.func 23) #[] #[.pointer (some ⟨bb, 0, none⟩), .pointer (some ⟨lb, 0, none⟩)]) from rfl)))
                  | (go_at_call 23; (refine (HI.out r' rfl n.f2 A2 c2 ((acc ++ t1) ++ [40]) _ HC2.out.2 HC2.out.1 hw4 hbd2).mono ?_; intro e w5 hP; rw [HSU.out] at hP; obtain ⟨rfl, hb5⟩ := hP)))
                go_ret
                rw [HTN.out HZ.out]
                exact ⟨rfl, hb5⟩
              | some t' =>
                have HZ : Hid1 (ntOf (r' + 1) (subR (r' + 1)) n = some (40 :: (t' ++ [41]))) := ⟨by unfold ntOf; rw [if_pos HF.out, if_neg (by have := HS.out; omega)]; show (layR r' [32] n.f2).map _ = _; rw [hsub]; rfl⟩
                have hbd3 : (((acc ++ t1) ++ [40]) ++ t').length + 1 ≤ 140737488355328 := by
                  have h1 := layR_len (by decide : ([32] : List UInt8).length ≤ 1) hsub
                  rw [List.length_append]; omega
                have HSU := Hid1.mk hsub
                clear hsub
                go_upto_region 15 with (first
                  | (go_at_call 25; (refine (wr_byte w0 bb lb (acc ++ t1) 40 _ HW3.out hbd).mono ?_; rintro e w4 ⟨rfl, hw4, hk4⟩; have z2 : w4.cell? ⟨nb, 2, none⟩ = some (Value.slice A2 n.f2.length c2) := (blk_cell (hk4 _ _ HB3.out) 2).trans rfl; have zf := (blk_cell hw4.fn 0).trans (show _ = some (Value.func (Fn.func 23) #[] #[.pointer (some ⟨bb, 0, none⟩), .pointer (some ⟨lb, 0, none⟩)]) from rfl)))
                  | (go_at_call 23; (refine (HI.out r' rfl n.f2 A2 c2 ((acc ++ t1) ++ [40]) _ HC2.out.2 HC2.out.1 hw4 hbd2).mono ?_; intro e w5 hP; rw [HSU.out] at hP; obtain ⟨rfl, hw5⟩ := hP)))
                go_wp2_with (go_at_call 25; (refine (wr_byte w0 bb lb (((acc ++ t1) ++ [40]) ++ t') 41 _ hw5 hbd3).mono ?_; rintro e w6 ⟨rfl, hw6, hk6⟩))
                go_roundw
                case rel =>
                  have e : acc ++ (t1 ++ (40 :: (t' ++ [41]))) = (((acc ++ t1) ++ [40]) ++ t') ++ [41] := by simp
                  exact ⟨i + 1, t1 ++ (40 :: (t' ++ [41])), hlt, by go_num, ⟨HT1.out.2 _ HZ.out⟩, ⟨by rw [e]; exact hw6⟩⟩
                case measure => simp [intOf]; omega
            · have hte := emptyL_false hs
              have HZ : Hid1 (ntOf (r' + 1) (subR (r' + 1)) n = none) := ⟨by unfold ntOf; rw [if_pos HF.out, if_pos (.inr hs)]⟩
              clear hs
              go_wp2
              go_ret
              rw [HTN.out HZ.out]
              exact ⟨rfl, HW3.out.below⟩
    · obtain rfl : i = l.length := by omega
      go_wp2
      go_ret
      rw [layR_eq, HT.out]
      exact ⟨rfl, HW1.out⟩
theorem lay_any (w0 : World) (bb lb : Nat) : ∀ (r d : Nat), d + r = 24 → ∀ (l : List S30) (A : Option Addr) (c : Nat) (sep : ByteArray) (hsep : sep.size ≤ 1) (acc : List UInt8) (w : World) (hC : k30.C w0 A l.length l) (hc : l.length ≤ c) (hW : Wr w0 bb lb acc w) (hb : acc.length + wtR r l ≤ 70368744177664),
    Calls Try.prog 23 #[.slice A l.length c, .string sep, .int .i64 (d : Int), .pointer (some ⟨bb, 0, none⟩), .pointer (some ⟨lb, 0, none⟩)] w (LayPost w0 bb lb acc (layR r (bytesL sep) l))
  | 0, d, hdr => lay_step 0 d hdr w0 bb lb (fun r' e => by cases e)
  | r + 1, d, hdr => lay_step (r + 1) d hdr w0 bb lb (fun r' e l A c acc w h1 h2 h3 h4 => by
      obtain rfl : r = r' := by omega
      exact lay_any w0 bb lb r (d + 1) (by omega) l A c ⟨#[32]⟩ (by decide) acc w h1 h2 h3 h4)
open Go.RowKit in
theorem run_store_fn {P : Program} {w : World} {a : Addr} {f : Fn} {ts vs : Array Value} {m : Mode} : (store a (.func f ts vs) m).run P w = stored P w a (.func f ts vs) m := run_store P w a _ m rfl
attribute [local go_sem] run_store_fn
def layW (w : World) : World := (w.alloc (.cells #[.pointer none, .slice none 0 0] 46)).alloc (.cells #[.func (Fn.func 23) #[] #[.pointer (some ⟨w.heap.size, 0, none⟩), .pointer (some ⟨w.heap.size + 1, 0, none⟩)]] 47)
theorem layW_wr (w : World) : Wr w w.heap.size (w.heap.size + 1) [] (layW w) := by
  have hs1 : (w.alloc (.cells #[.pointer none, .slice none 0 0] 46)).heap.size = w.heap.size + 1 := by simp
  have b1 := blk_new w (.cells #[.pointer none, .slice none 0 0] 46)
  have b2 := blk_new (w.alloc (.cells #[.pointer none, .slice none 0 0] 46)) (.cells #[.func (Fn.func 23) #[] #[.pointer (some ⟨w.heap.size, 0, none⟩), .pointer (some ⟨w.heap.size + 1, 0, none⟩)]] 47)
  rw [hs1] at b2
  have hb12 : Below (w.alloc (.cells #[.pointer none, .slice none 0 0] 46)).heap.size (w.alloc (.cells #[.pointer none, .slice none 0 0] 46)) (layW w) := below_alloc (Below.refl _ _) _
  exact ⟨.inl ⟨Nat.le_refl _, .slice none 0 0, blk_below b1 hb12, World.ownsRowF_nil _ _ _ _, by simp [Value.ownBlock]⟩, b2, below_alloc (below_alloc (Below.refl _ _) _) _⟩
theorem lay_call (A0 : Option Addr) (c0 : Nat) (l0 : List S30) (w : World) (hC : k30.C w A0 l0.length l0) (hc : l0.length ≤ c0) (hb : wtR 24 l0 ≤ 70368744177664) :
    Calls Try.prog 23 #[.slice A0 l0.length c0, .string ⟨#[10]⟩, .int .i64 0, .pointer (some ⟨w.heap.size, 0, none⟩), .pointer (some ⟨w.heap.size + 1, 0, none⟩)] (layW w) (LayPost w w.heap.size (w.heap.size + 1) [] (layR 24 [10] l0)) :=
  lay_any w w.heap.size (w.heap.size + 1) 24 0 rfl l0 A0 c0 ⟨#[10]⟩ (by decide) [] (layW w) hC hc (layW_wr w) (by simpa using hb)
set_option maxRecDepth 100000 in
set_option maxHeartbeats 8000000 in
theorem print_any (A0 : Option Addr) (c0 : Nat) (l0 : List S30) (w : World) (hC : k30.C w A0 l0.length l0) (hc : l0.length ≤ c0) (hb : wtR 24 l0 ≤ 70368744177664) :
    Calls Try.prog 16 #[.slice A0 l0.length c0] w fun e w' => (match layR 24 [10] l0 with
      | none => e = .returned (.tuple #[.string ⟨#[]⟩, .int .i64 6])
      | some t => e = .returned (.tuple #[.string ⟨t.toArray⟩, .int .i64 0])) ∧ Below w.heap.size w w' := by
  have HC := Aside0.mk hC
  clear hC
  cases hs : layR 24 [10] l0 with
  | none =>
    have HS := Hid1.mk hs
    clear hs
    go_enter Try.func16, Try.ntmps16
    go_wp2_with (go_at_call 23; (refine (lay_call A0 c0 l0 w HC.out hc hb).mono ?_; intro e w5 hP; rw [HS.out] at hP; obtain ⟨rfl, hb5⟩ := hP))
    go_ret2
    exact ⟨rfl, hb5⟩
  | some t =>
    have HS := Hid1.mk hs
    clear hs
    go_enter Try.func16, Try.ntmps16
    go_wp2_with (first
      | (go_at_call 23; (refine (lay_call A0 c0 l0 w HC.out hc hb).mono ?_; intro e w5 hP; rw [HS.out] at hP; obtain ⟨rfl, hw5⟩ := hP))
      | (go_at_call 26; (refine (Any.Builder_String_any_k lays169 extraB w.heap.size w.heap.size t _ (by have := hw5.bld; rwa [List.nil_append] at this) hw5.below.size).mono ?_; rintro e w6 ⟨rfl, _, hb6, _⟩)))
    go_ret2
    exact ⟨rfl, hw5.below.trans hb6⟩
def sexp_Print.f (l0 : List S30) : Option (ByteArray × Int) := if wtR 24 l0 ≤ 70368744177664 then some (match layR 24 [10] l0 with
  | none => (⟨#[]⟩, 6)
  | some t => (⟨t.toArray⟩, 0)) else none
theorem sexp_Print.calls (A0 : Option Addr) (c0 : Nat) (l0 : List S30) (r1 : ByteArray) (r2 : Int) (w : World) (hr0 : Kd.C k30 w A0 l0.length l0) (hc0 : l0.length ≤ c0) (h : sexp_Print.f l0 = some (r1, r2)) :
    Calls Try.prog 16 #[.slice A0 l0.length c0] w fun e w' => e = .returned (.tuple #[.string r1, .int .i64 r2]) ∧ Below w.heap.size w w' := by
  unfold sexp_Print.f at h
  by_cases hb : wtR 24 l0 ≤ 70368744177664
  · rw [if_pos hb] at h
    injection h with h
    refine (print_any A0 c0 l0 w hr0 hc0 hb).mono ?_
    rintro e w' ⟨h1, h2⟩
    cases hs : layR 24 [10] l0 with
    | none =>
      rw [hs] at h h1
      injection h with f1 f2
      subst f1 f2
      exact ⟨h1, h2⟩
    | some t =>
      rw [hs] at h h1
      injection h with f1 f2
      subst f1 f2
      exact ⟨h1, h2⟩
  · rw [if_neg hb] at h; cases h
end Go.Proofs.Ytciojbdkoojlhaa.P
