/- The contracts of sexp's part and Word. Conditions: as each states. -/
import Derived.Test.YtciojbdkoojlhaaPx0
import Derived.Laws.Externs
import Derived.Laws.RangeAny
import Derived.Lib.OthersKept
namespace Go.Proofs.Ytciojbdkoojlhaa.P
set_option linter.unusedVariables false
set_option linter.unusedSimpArgs false
open Go.RowKit Go.Proofs.YtciojbdkoojlhaaW.PrintWords Go.Proofs.YtciojbdkoojlhaaW.PrintLast Go.Proofs.YtciojbdkoojlhaaW.PrintMore

set_option maxHeartbeats 1600000 in
theorem index_any (s : ByteArray) (c : Int) (w : World) : Calls Try.prog 29 #[.string s, .int .u8 c] w fun e w' => e = .returned (.int .i64 (firstIdx s c.toNat.toUInt8)) ∧ w' = w := by
  have hx : (callFunc 34 #[.string s, .int .u8 c]).run Try.prog w = .ok (.value (.int .i64 (firstIdx s c.toNat.toUInt8))) w := by
    rw [run_callFunc_extern (fn := Try.f34) (e := Extern.BytealgIndexByte.indexByte) rfl (by kernel_rfl) (by kernel_rfl) (by rfl) (by rfl), run_indexByte_string]
    rfl
  go_enter Try.func29, Try.ntmps29
  go_wp2
  go_ret
  exact ⟨rfl, rfl⟩
def signs : ByteArray := ⟨#[95, 46, 43, 45, 42, 38, 124, 94, 60, 62, 61]⟩
/-- may a rune stand in a word? -/
def partOf (c : Int) : Bool := (decide (97 ≤ c) && decide (c ≤ 122)) || (decide (48 ≤ c) && decide (c ≤ 57)) || (decide (c < 128) && decide (0 ≤ firstIdx signs c.toNat.toUInt8))
theorem ret_bool {a b : Bool} (h : a = b) : Ending.returned (.bool a) = Ending.returned (.bool b) := by rw [h]
structure Hid1 (p : Prop) : Prop where mk :: (out : p)
set_option maxHeartbeats 1600000 in
theorem part_any (c : Int) (h0 : 0 ≤ c) (w : World) : Calls Try.prog 21 #[.int .i32 c] w fun e w' => e = .returned (.bool (partOf c)) ∧ w' = w := by
  have hc : (c < 48) ∨ (48 ≤ c ∧ c ≤ 57) ∨ (58 ≤ c ∧ c < 97) ∨ (97 ≤ c ∧ c ≤ 122) ∨ (123 ≤ c ∧ c < 128) ∨ (128 ≤ c) := by omega
  rcases hc with hc | hc | hc | hc | hc | hc
  · have ha : decide (97 ≤ c) = false := decide_eq_false (by omega)
    have hd0 : decide (48 ≤ c) = false := decide_eq_false (by omega)
    have hlt : decide (c < 128) = true := decide_eq_true (by omega)
    have hw8 : c % 256 = c := by omega
    have hu : IntKind.u8.wrap c = c := by show c % 256 = c; omega
    have hp : partOf c = decide (0 ≤ firstIdx signs c.toNat.toUInt8) := by unfold partOf; rw [ha, hd0, hlt]; rfl
    rw [hp]
    go_enter Try.func21, Try.ntmps21
    go_wp2_with (go_at_call 29; refine (index_any signs _ _).mono ?_; rintro e w' ⟨rfl, rfl⟩)
    go_ret
    exact ⟨ret_bool (by first | rfl | rw [hw8] | (rw [hu])), rfl⟩
  · have ha : decide (97 ≤ c) = false := decide_eq_false (by omega)
    have hd0 : decide (48 ≤ c) = true := decide_eq_true (by omega)
    have hd1 : decide (c ≤ 57) = true := decide_eq_true (by omega)
    have hp : partOf c = true := by unfold partOf; rw [ha, hd0, hd1]; rfl
    rw [hp]
    go_enter Try.func21, Try.ntmps21
    go_wp2
    go_ret
    exact ⟨rfl, rfl⟩
  · have ha : decide (97 ≤ c) = false := decide_eq_false (by omega)
    have hd0 : decide (48 ≤ c) = true := decide_eq_true (by omega)
    have hd1 : decide (c ≤ 57) = false := decide_eq_false (by omega)
    have hlt : decide (c < 128) = true := decide_eq_true (by omega)
    have hw8 : c % 256 = c := by omega
    have hu : IntKind.u8.wrap c = c := by show c % 256 = c; omega
    have hp : partOf c = decide (0 ≤ firstIdx signs c.toNat.toUInt8) := by unfold partOf; rw [ha, hd0, hd1, hlt]; rfl
    rw [hp]
    go_enter Try.func21, Try.ntmps21
    go_wp2_with (go_at_call 29; refine (index_any signs _ _).mono ?_; rintro e w' ⟨rfl, rfl⟩)
    go_ret
    exact ⟨ret_bool (by first | rfl | rw [hw8] | (rw [hu])), rfl⟩
  · have ha : decide (97 ≤ c) = true := decide_eq_true (by omega)
    have hb : decide (c ≤ 122) = true := decide_eq_true (by omega)
    have hp : partOf c = true := by unfold partOf; rw [ha, hb]; rfl
    rw [hp]
    go_enter Try.func21, Try.ntmps21
    go_wp2
    go_ret
    exact ⟨rfl, rfl⟩
  · have ha : decide (97 ≤ c) = true := decide_eq_true (by omega)
    have hb : decide (c ≤ 122) = false := decide_eq_false (by omega)
    have hd0 : decide (48 ≤ c) = true := decide_eq_true (by omega)
    have hd1 : decide (c ≤ 57) = false := decide_eq_false (by omega)
    have hlt : decide (c < 128) = true := decide_eq_true (by omega)
    have hw8 : c % 256 = c := by omega
    have hu : IntKind.u8.wrap c = c := by show c % 256 = c; omega
    have hp : partOf c = decide (0 ≤ firstIdx signs c.toNat.toUInt8) := by unfold partOf; rw [ha, hb, hd0, hd1, hlt]; rfl
    rw [hp]
    go_enter Try.func21, Try.ntmps21
    go_wp2_with (go_at_call 29; refine (index_any signs _ _).mono ?_; rintro e w' ⟨rfl, rfl⟩)
    go_ret
    exact ⟨ret_bool (by first | rfl | rw [hw8] | (rw [hu])), rfl⟩
  · have ha : decide (97 ≤ c) = true := decide_eq_true (by omega)
    have hb : decide (c ≤ 122) = false := decide_eq_false (by omega)
    have hd0 : decide (48 ≤ c) = true := decide_eq_true (by omega)
    have hd1 : decide (c ≤ 57) = false := decide_eq_false (by omega)
    have hlt : decide (c < 128) = false := decide_eq_false (by omega)
    have hp : partOf c = false := by unfold partOf; rw [ha, hb, hd0, hd1, hlt]; rfl
    rw [hp]
    go_enter Try.func21, Try.ntmps21
    go_wp2
    go_ret
    exact ⟨rfl, rfl⟩
def byteAt (s : ByteArray) (i : Nat) : Nat := (s.data.getD i 0).toNat
theorem byteAt_eq (s : ByteArray) (i : Nat) (h : i < s.size) : (s[i]'h).toNat = byteAt s i := by
  unfold byteAt
  have h2 : i < s.data.size := h
  have : s.data.getD i 0 = s.data[i] := by unfold Array.getD; exact dif_pos h2
  rw [this]; rfl
def allTo (s : ByteArray) : Nat → Bool
  | 0 => true
  | n + 1 => allTo s n && partOf (byteAt s n)
theorem allTo_false {s : ByteArray} {i : Nat} (h : partOf (byteAt s i) = false) : ∀ n, i < n → allTo s n = false
  | 0, hn => absurd hn (Nat.not_lt_zero _)
  | n + 1, hn => by
    unfold allTo
    by_cases e : i = n
    · subst e; rw [h, Bool.and_false]
    · rw [allTo_false h n (by omega), Bool.false_and]
theorem part_high {c : Int} (h : 128 ≤ c) : partOf c = false := by
  unfold partOf
  rw [decide_eq_false (show ¬ c ≤ 122 by omega), decide_eq_false (show ¬ c ≤ 57 by omega), decide_eq_false (show ¬ c < 128 by omega)]
  simp
/-- may a text be a node's word? -/
def wordOf (s : ByteArray) : Bool := allTo s s.size && decide (s.size ≠ 0)
theorem wordOf_zero {s : ByteArray} (h : s.size = 0) : s = ⟨#[]⟩ := by
  apply ByteArray.ext
  exact Array.eq_empty_of_size_eq_zero h
def posOf (w : World) (k : Nat) : Nat := match w.heap[k]? with
  | some (.stringIter _ p) => p
  | _ => 0
theorem posOf_eq {w : World} {k : Nat} {s : ByteArray} {p : Nat} (h : w.heap[k]? = some (.stringIter s p)) : posOf w k = p := by
  unfold posOf; rw [h]
theorem byte_dec (s : ByteArray) (pos : Nat) (h : pos < s.size) : ∃ r d : Nat, Utf8.decode s pos = (r, d) ∧ (byteAt s pos < 128 → r = byteAt s pos ∧ d = 1) ∧ (128 ≤ byteAt s pos → 128 ≤ r) ∧ 1 ≤ d := by
  refine ⟨(Utf8.decode s pos).1, (Utf8.decode s pos).2, rfl, ?_, ?_, ?_⟩
  · intro hb
    rw [← byteAt_eq s pos h] at hb ⊢
    rw [decode_ascii s pos h hb]
    exact ⟨rfl, rfl⟩
  · intro hb
    rw [← byteAt_eq s pos h] at hb
    exact (decode_high s pos h hb).1
  · by_cases hb : (s[pos]'h).toNat < 128
    · rw [decode_ascii s pos h hb]; exact Nat.le_refl _
    · exact (decode_high s pos h (by omega)).2
theorem part_byte {s : ByteArray} {pos r d : Nat} (h1 : byteAt s pos < 128 → r = byteAt s pos ∧ d = 1) (h2 : 128 ≤ byteAt s pos → 128 ≤ r) : partOf r = partOf (byteAt s pos) ∧ (partOf r = true → d = 1) := by
  by_cases hb : byteAt s pos < 128
  · obtain ⟨rfl, rfl⟩ := h1 hb
    exact ⟨rfl, fun _ => rfl⟩
  · have := h2 (by omega)
    rw [part_high (c := r) (by omega), part_high (c := byteAt s pos) (by omega)]
    exact ⟨rfl, fun h => Bool.noConfusion h⟩
theorem toList_empty (s : ByteArray) : (!s.toList.isEmpty) = decide (s.size ≠ 0) := by
  rw [ByteArray.toList_eq]
  by_cases h : s.size = 0
  · rw [wordOf_zero h]; rfl
  · rw [decide_eq_true h]
    cases hl : s.data.toList with
    | nil => exact absurd (by show s.data.size = 0; rw [← Array.length_toList, hl]; rfl) h
    | cons _ _ => rfl
set_option maxHeartbeats 4000000 in
theorem word_any (s : ByteArray) (w : World) (hs : s.size ≤ 140737488355328) : Calls Try.prog 12 #[.string s] w fun e w' => e = .returned (.bool (wordOf s)) ∧ Below w.heap.size w w' := by
  go_enter Try.func12, Try.ntmps12
  go_wp2
  go_loopw [7] (fun v7 w' => ∃ pos : Nat, pos ≤ s.size ∧ Aside0 (w'.heap[w.heap.size]? = some (.stringIter s pos)) ∧ Hid1 (allTo s pos = true) ∧ Aside0 (Below w.heap.size w w')) (fun _ w' => s.size - posOf w' w.heap.size)
  case atStart => exact ⟨0, Nat.zero_le _, ⟨World.iter_heap w s 0⟩, ⟨rfl⟩, ⟨(Below.refl _ w).alloc (Nat.le_refl _) _⟩⟩
  case round =>
    obtain ⟨pos, hpos, HK, HA, HB⟩ := hrel
    by_cases hlt : pos < s.size
    · obtain ⟨r, d, hrd, h1, h2, h3⟩ := byte_dec s pos hlt
      have hP := part_byte h1 h2
      have hnx := fun ty => Go.Lib.run_next_any_at (P := Try.prog) wr w.heap.size s pos ty HK.out hlt
      rw [hrd] at hnx
      cases hp : partOf (r : Int) with
      | true =>
        rw [hp] at hP
        have hd := hP.2 rfl
        have hq := Hid1.mk hP.1.symm
        clear hrd h1 h2 hP
        subst hd
        go_wp2_with (go_at_call 21; refine (part_any _ (by omega) _).mono ?_; rw [hp]; rintro e w' ⟨rfl, rfl⟩)
        go_roundw
        case rel => exact ⟨pos + 1, by omega, ⟨Go.Lib.iterAt_heap _ _ _ _ _ HK.out⟩, ⟨by unfold allTo; rw [HA.out, hq.out]; rfl⟩, ⟨Go.Lib.below_iterAt HB.out (Nat.le_refl _) _ _⟩⟩
        case measure =>
          rw [posOf_eq HK.out, posOf_eq (Go.Lib.iterAt_heap _ _ _ _ _ HK.out)]
          omega
      | false =>
        rw [hp] at hP
        have hq := Hid1.mk hP.1.symm
        clear hrd h1 h2 hP
        go_wp2_with (go_at_call 21; refine (part_any _ (by omega) _).mono ?_; rw [hp]; rintro e w' ⟨rfl, rfl⟩)
        go_ret
        exact ⟨ret_bool (by unfold wordOf; rw [allTo_false hq.out _ hlt]; rfl), Go.Lib.below_iterAt HB.out (Nat.le_refl _) _ _⟩
    · obtain rfl : pos = s.size := by omega
      have hnx := fun ty => Go.Lib.run_next_end_at (P := Try.prog) wr w.heap.size s s.size ty HK.out hlt
      go_wp2
      go_ret
      exact ⟨ret_bool (by unfold wordOf; rw [HA.out, Bool.true_and]; show (!(s.toList.isEmpty)) = _; rw [toList_empty]), HB.out⟩
def sexp_Word.f (a0 : ByteArray) : Option Bool := if a0.size ≤ 140737488355328 then some (wordOf a0) else none
theorem sexp_Word.calls (a0 : ByteArray) (r : Bool) (w : World) (h : sexp_Word.f a0 = some r) : Calls Try.prog 12 #[.string a0] w fun e w' => e = .returned (.bool r) ∧ Below w.heap.size w w' := by
  unfold sexp_Word.f at h
  by_cases hs : a0.size ≤ 140737488355328
  · rw [if_pos hs] at h
    cases h
    exact word_any a0 w hs
  · rw [if_neg hs] at h; cases h
end Go.Proofs.Ytciojbdkoojlhaa.P
