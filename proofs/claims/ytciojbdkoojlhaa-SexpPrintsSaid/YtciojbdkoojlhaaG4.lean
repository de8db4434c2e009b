/- sexp.Parse: the closure put, the machine, the contract. Conditions: as each states. -/
import Derived.Test.YtciojbdkoojlhaaG1
namespace Go.Proofs.Ytciojbdkoojlhaa.P
set_option linter.unusedVariables false
set_option linter.unusedSimpArgs false
open Go.RowKit Go.Proofs.YtciojbdkoojlhaaW.PrintWords Go.Proofs.YtciojbdkoojlhaaW.PrintLast Go.Proofs.YtciojbdkoojlhaaW.PrintMore
/-! ### the open rows -/
theorem alloc_cell' {w1 : World} {a : Addr} {v : Value} (hc : w1.cell? a = some v) (Y : Obj) : (w1.alloc Y).cell? a = some v := pw_cell_below (below_alloc (Below.refl _ _) Y) hc
abbrev Sl := Option Addr × Nat × Nat
def slv (p : Sl) : Value := .slice p.1 p.2.1 p.2.2
def kSl : Kd Sl := Kd.scalar slv (fun _ => rfl)
def RowsAt (w : World) (base : Nat) (f : Nat → Nat) (rows : List Sl) (opn : List (List S30)) : Prop :=
  rows.length = opn.length ∧ ∀ (j : Nat) (p : Sl) (xs : List S30), rows[j]? = some p → opn[j]? = some xs → k30.R 30 w base (fun k => f k = j) (slv p) xs
structure Opn (w : World) (base b g cap : Nat) (rows : List Sl) (f : Nat → Nat) (opn : List (List S30)) : Prop where
  blk : w.heap[b]? = some (.cells #[.slice (some ⟨g, 0, none⟩) rows.length cap] 38 (0, 0))
  low : base ≤ b
  out : kSl.R 23 w base (fun _ => True) (.slice (some ⟨g, 0, none⟩) rows.length cap) rows
  rows : RowsAt w base f rows opn
/-- What a call that turns open rows leaves as it was. -/
structure Fr (base : Nat) (w w' : World) : Prop where
  below : Below base w w'
  keep : ∀ (k : Nat) (o : Obj), w.heap[k]? = some o → (∀ c fz, o ≠ .cells c 23 fz) → (∀ c fz, o ≠ .cells c 30 fz) → w'.heap[k]? = some o
section
variable {w w1 W : World} {base b g cap : Nat} {rows : List Sl} {f f' : Nat → Nat} {opn o : List (List S30)} {t t1 : List S30} {p p1 : Sl}
theorem Opn.step (h : Opn w base b g cap rows f opn) (hm : ∀ k c q, k < w.heap.size → w.heap[k]? = some (.cells c q (0, 0)) → q = 38 ∨ q = 23 ∨ q = 30 → w1.heap[k]? = w.heap[k]?) : Opn w1 base b g cap rows f opn := by
  refine ⟨(hm b _ 38 (blk_lt h.blk) h.blk (.inl rfl)).trans h.blk, h.low, ?_, h.rows.1, fun j p xs hp hx => ?_⟩
  · refine Kd.R_mono (Kd.R_move (Kd.R_bound h.out) (fun k hk => ?_)) (fun _ _ => trivial)
    obtain ⟨_, _, hlt, q, hq, c, hc⟩ := hk
    have : q = 23 := by simpa using (List.mem_cons.1 hq).resolve_right (by intro hh; cases hh)
    exact hm k c q hlt hc (.inr (.inl this))
  · refine Kd.R_mono (Kd.R_move (Kd.R_bound (h.rows.2 j p xs hp hx)) (fun k hk => ?_)) (fun _ hk => hk.1)
    obtain ⟨_, _, hlt, q, hq, c, hc⟩ := hk
    have : q = 30 := by
      rcases List.mem_cons.1 hq with e | e
      · exact e
      · exact List.mem_singleton.1 e
    exact hm k c q hlt hc (.inr (.inr this))
theorem Opn.below (h : Opn w base b g cap rows f opn) (hb : Below w.heap.size w w1) : Opn w1 base b g cap rows f opn := h.step (fun k _ _ hlt _ _ => hb.block k hlt)
/-- The last row turned. -/
theorem Opn.last (h : Opn W base b g cap rows f (o ++ [t])) (h1 : w1.heap[b]? = W.heap[b]?) (h2 : kSl.R 23 w1 base (fun _ => True) (.slice (some ⟨g, 0, none⟩) rows.length cap) (rows.set o.length p1))
    (h3 : ∀ k c, k < W.heap.size → f k ≠ o.length → W.heap[k]? = some (.cells c 30 (0, 0)) → w1.heap[k]? = W.heap[k]?) (h4 : k30.R 30 w1 base (fun k => f' k = o.length) (slv p1) t1) (h5 : ∀ k, k < W.heap.size → f k < o.length → f' k = f k) :
    Opn w1 base b g cap (rows.set o.length p1) f' (o ++ [t1]) := by
  have hl : rows.length = o.length + 1 := by rw [h.rows.1]; simp
  refine ⟨by rw [h1, List.length_set]; exact h.blk, h.low, by rw [List.length_set]; exact h2, by rw [List.length_set, hl]; simp, fun j p xs hp hx => ?_⟩
  rcases Nat.lt_trichotomy j o.length with hj | rfl | hj
  · rw [List.getElem?_set_ne (by omega)] at hp
    rw [List.getElem?_append_left hj] at hx
    have hold := h.rows.2 j p xs hp (by rw [List.getElem?_append_left hj]; exact hx)
    refine Kd.R_mono (Kd.R_move (Kd.R_bound hold) (fun k hk => ?_)) (fun k hk => ?_)
    · obtain ⟨hf, _, hlt, q, hq, c, hc⟩ := hk
      have : q = 30 := by
        rcases List.mem_cons.1 hq with e | e
        · exact e
        · exact List.mem_singleton.1 e
      subst this
      exact h3 k c hlt (by omega) hc
    · have hf := hk.1
      have := h5 k hk.2.2.1 (by omega)
      omega
  · rw [List.getElem?_set_self (by omega)] at hp
    rw [List.getElem?_append_right (Nat.le_refl _), Nat.sub_self] at hx
    cases hp
    cases hx
    exact h4
  · rw [List.getElem?_eq_none (by rw [List.length_set]; omega)] at hp
    cases hp
theorem Opn.row (h : Opn W base b g cap rows f (o ++ [t])) : ∃ p, rows[o.length]? = some p ∧ k30.R 30 W base (fun k => f k = o.length) (slv p) t := by
  have hl : rows.length = o.length + 1 := by rw [h.rows.1]; simp
  exact ⟨rows[o.length]'(by omega), List.getElem?_eq_getElem _, h.rows.2 o.length _ t (List.getElem?_eq_getElem _) (by simp)⟩
end

set_option maxHeartbeats 8000000 in
theorem put_any (n : S30) (v2 : Value) (base b g cap : Nat) (rows : List Sl) (f : Nat → Nat) (o : List (List S30)) (t : List S30) (w : World) (h : Opn w base b g cap rows f (o ++ [t])) (hn : k30.R 30 w base (fun k => f k = o.length + 1) v2 n.f2) (hl : t.length ≤ 100000) (ho : o.length ≤ 100000) :
    Calls Try.prog 20 #[.agg #[.bool n.f0, .string n.f1, v2, .int .i64 n.f3], .pointer (some ⟨b, 0, none⟩)] w fun e w' => e = .returned (.tuple #[]) ∧ (∃ rows' f', Opn w' base b g cap rows' f' (o ++ [t ++ [n]])) ∧ Fr base w w' := by
  have hrl : rows.length = o.length + 1 := by rw [h.rows.1]; simp
  obtain ⟨⟨Ap, np, cp⟩, hp, hR⟩ := h.row
  obtain rfl : np = t.length := (Kd.R_reads' hR).1
  have hrd : rdOf ((none, 0, 0) : Sl) rows (o.length : Int) = (Ap, t.length, cp) := by unfold rdOf; rw [Int.toNat_natCast, List.getD_eq_getElem?_getD, hp]; rfl
  have kb0 : w.cell? ⟨b, 0, none⟩ = some (.slice (some ⟨g, 0, none⟩) (o.length + 1) cap) := by rw [← hrl]; exact (blk_cell h.blk 0).trans rfl
  have hbw0 : base ≤ w.heap.size := Nat.le_of_lt (Nat.lt_of_le_of_lt h.low (blk_lt h.blk))
  have hgb : base ≤ g := Kd.R_base h.out g rfl
  obtain ⟨A2, c2, rfl⟩ := Kd.R_slice hn
  have H := Hid1.mk h
  have HN := Hid1.mk hn
  have kb1 := fun o => alloc_cell' kb0 o
  clear h hn
  go_enter Try.func20, Try.ntmps20
  go_wp2
  go_region
  all_goals go_wp2
  · obtain ⟨W, hW⟩ : ∃ W, W = ((w.alloc (.cells #[.bool n.f0, .string n.f1, .slice A2 n.f2.length c2, .int .i64 n.f3] 30)).alloc (.cells #[.bool false] 4)).drew := ⟨_, rfl⟩
    have hBW : Below w.heap.size w W := by rw [hW]; exact (below_alloc (below_alloc (Below.refl _ _) _) _).drew
    have hnd : W.drew.heap[w.heap.size]? = some (.cells #[.bool n.f0, .string n.f1, .slice A2 n.f2.length c2, .int .i64 n.f3] 30 (0, 0)) := by rw [hW]; exact blk_below (blk_new w _) ((below_alloc (Below.refl _ _) _).drew.drew)
    rw [← hW]
    clear hW
    have hBd := hBW.drew
    have HOd := H.out.below hBd
    have HRd := Kd.R_below hR hBd
    have HNd := Kd.R_below HN.out hBd
    have HBd : Below base w W.drew := hBd.mono hbw0
    have hbsz : base ≤ W.drew.heap.size := Nat.le_trans hbw0 hBd.size
    obtain ⟨cg, hgd0⟩ := Kd.R_typed H.out.out g rfl
    have hgd := blk_below hgd0 hBd
    have hoc := Kd.R_celln (d := ((none, 0, 0) : Sl)) HOd.out (o.length : Int) (by omega) (by omega)
    rw [Int.toNat_natCast, hrd] at hoc
    have ko := hoc.1
    clear hoc
    have kb : W.drew.cell? ⟨b, 0, none⟩ = some (.slice (some ⟨g, 0, none⟩) (o.length + 1) cap) := by rw [← hrl]; exact (blk_cell HOd.blk 0).trans rfl
    obtain ⟨nb, hnb⟩ : ∃ nb, nb = w.heap.size := ⟨_, rfl⟩
    rw [← hnb] at hnd ⊢
    have hnn : some nb ≠ (Value.slice Ap t.length cp).ownBlock := fun he => by have := Kd.R_lt hR nb he.symm; omega
    have HNB := Hid1.mk hnb
    clear hnb kb1 kb0
    have hq1 : ((o.length : Int) < (o.length : Int) + 1) = True := eq_true (by omega)
    refine start_ (n := 11) (S := fun w' => w'.cell? ⟨b, 0, none⟩ = some (.slice (some ⟨g, 0, none⟩) (o.length + 1) cap) ∧ w'.cell? ⟨nb, 0, none⟩ = some (.bool n.f0) ∧ w'.cell? ⟨nb, 1, none⟩ = some (.string n.f1) ∧ w'.cell? ⟨nb, 2, none⟩ = some (.slice A2 n.f2.length c2) ∧ w'.cell? ⟨nb, 3, none⟩ = some (.int .i64 n.f3) ∧ w'.cell? ⟨g, o.length, none⟩ = some (.slice Ap t.length cp)) (ds := [10]) #[false, false, false, false, false, false, false, false, false, false, false] (by kernel_rfl) rfl rfl ⟨kb, (blk_cell hnd 0).trans rfl, (blk_cell hnd 1).trans rfl, (blk_cell hnd 2).trans rfl, (blk_cell hnd 3).trans rfl, ko⟩ (fun hHeld => ?_)
    generalize W.drew = Wd at hBd HOd HRd HNd HBd hbsz hgd ko kb hnd hHeld ⊢
    have hnr : ∀ k c q, Wd.heap[k]? = some (.cells c q (0, 0)) → q ≠ 30 → some k ≠ (Value.slice Ap t.length cp).ownBlock := fun k c q hk hq he => by obtain ⟨c', hc'⟩ := Kd.R_typed HRd k he.symm; rw [hk] at hc'; injection hc' with hc'; injection hc' with _ hc'; exact hq hc'
    refine take_ (i := 0) (N := some 19) (v := ?_) (a' := ?_) #[true, false, false, false, false, false, false, false, false, false, false] rfl rfl (by kernel_rfl) (fun _ _ _ h => h) (Or.inl ⟨by rfl, ?_⟩) hHeld ?_ ?_
    rotate_left
    · intro w' s0
      obtain ⟨s1_, s2_, s3_, s4_, s5_, s6_⟩ := s0
      go_simp
      first | done | with_reducible rfl
    rotate_left
    · simp only [Act.put, List.setIfInBounds_toArray, List.set_cons_zero, List.set_cons_succ, i64_w, i32_w]
      rfl
    refine pure_ (i := 1) (N := some 20) (v := ?_) (a' := ?_) #[true, true, false, false, false, false, false, false, false, false, false] rfl rfl (by kernel_rfl) (fun _ _ _ h => h) (Or.inl ⟨by rfl, ?_⟩) ?_ ?_
    rotate_left
    · intro w'
      go_simp
      first | done | with_reducible rfl
    rotate_left
    · simp only [Act.put, List.setIfInBounds_toArray, List.set_cons_zero, List.set_cons_succ, i64_w, i32_w]
      rfl
    refine take_ (i := 2) (N := some 21) (v := ?_) (a' := ?_) #[true, true, true, false, false, false, false, false, false, false, false] rfl rfl (by kernel_rfl) (fun _ _ _ h => h) (Or.inl ⟨by rfl, ?_⟩) hHeld ?_ ?_
    rotate_left
    · intro w' s0
      obtain ⟨s1_, s2_, s3_, s4_, s5_, s6_⟩ := s0
      go_simp
      first | done | with_reducible rfl
    rotate_left
    · simp only [Act.put, List.setIfInBounds_toArray, List.set_cons_zero, List.set_cons_succ, i64_w, i32_w]
      rfl
    refine pure_ (i := 3) (N := some 22) (v := ?_) (a' := ?_) #[true, true, true, true, false, false, false, false, false, false, false] rfl rfl (by kernel_rfl) (fun _ _ _ h => h) (Or.inl ⟨by rfl, ?_⟩) ?_ ?_
    rotate_left
    · intro w'
      go_simp
      first | done | with_reducible rfl
    rotate_left
    · simp only [Act.put, List.setIfInBounds_toArray, List.set_cons_zero, List.set_cons_succ, i64_w, i32_w]
      rfl
    refine pure_ (i := 4) (N := some 23) (v := ?_) (a' := ?_) #[true, true, true, true, true, false, false, false, false, false, false] rfl rfl (by kernel_rfl) (fun _ _ _ h => h) (Or.inl ⟨by rfl, ?_⟩) ?_ ?_
    rotate_left
    · intro w'
      go_simp
      first | done | with_reducible rfl
    rotate_left
    · simp only [Act.put, List.setIfInBounds_toArray, List.set_cons_zero, List.set_cons_succ, i64_w, i32_w]
      rfl
    refine take_ (i := 5) (N := some 24) (v := ?_) (a' := ?_) #[true, true, true, true, true, true, false, false, false, false, false] rfl rfl (by kernel_rfl) (fun _ _ _ h => h) (Or.inl ⟨by rfl, ?_⟩) hHeld ?_ ?_
    rotate_left
    · intro w' s0
      obtain ⟨s1_, s2_, s3_, s4_, s5_, s6_⟩ := s0
      go_simp
      first | done | with_reducible rfl
    rotate_left
    · simp only [Act.put, List.setIfInBounds_toArray, List.set_cons_zero, List.set_cons_succ, i64_w, i32_w]
      rfl
    refine take_ (i := 6) (N := some 25) (v := ?_) (a' := ?_) #[true, true, true, true, true, true, true, false, false, false, false] rfl rfl (by kernel_rfl) (fun _ _ _ h => h) (Or.inl ⟨by rfl, ?_⟩) hHeld ?_ ?_
    rotate_left
    · intro w' s0
      obtain ⟨s1_, s2_, s3_, s4_, s5_, s6_⟩ := s0
      go_simp
      first | done | with_reducible rfl
    rotate_left
    · simp only [Act.put, List.setIfInBounds_toArray, List.set_cons_zero, List.set_cons_succ, i64_w, i32_w]
      rfl
    refine one_ (i := 7) (N := some 26) #[true, true, true, true, true, true, true, true, false, false, false] rfl rfl (by kernel_rfl) (by decide) (fun K hK => ?_)
    refine value_ (w1 := ?_) (v := ?_) (by rfl) rfl ?_ ?_
    rotate_left 2
    · go_simp
      first | done | rfl | (constructor <;> rfl)
    refine hK.out _ _ ⟨alloc_cell' hHeld.1 _, alloc_cell' hHeld.2.1 _, alloc_cell' hHeld.2.2.1 _, alloc_cell' hHeld.2.2.2.1 _, alloc_cell' hHeld.2.2.2.2.1 _, alloc_cell' hHeld.2.2.2.2.2 _⟩ (fun hHeld => ?_)
    clear hK K
    refine norm_ (a' := ?_) ?_ ?_
    rotate_left
    · simp only [Act.put, List.setIfInBounds_toArray, List.set_cons_zero, List.set_cons_succ]
      rfl
    refine one_ (i := 8) (N := some 27) #[true, true, true, true, true, true, true, true, true, false, false] rfl rfl (by kernel_rfl) (by decide) (fun K hK => ?_)
    refine Kd.R_append_step k30 (w0 := w) base (by rfl) (.tmp 24) (.tmp 26) 23 30 (.agg #[.bool false, .string ⟨#[]⟩, .slice none 0 0, .int .i64 0]) 56 rfl Try.underlying23 info30 rfl (by decide) (by omega) _ t n [.bool n.f0, .string n.f1, .slice A2 n.f2.length c2, .int .i64 n.f3] (fun k => f k = o.length ∨ f k = o.length + 1 ∨ Wd.heap.size ≤ k) (fun k => f k = o.length + 1) rfl rfl (k30_mkM _ _ _ n HNd) ?aK (fun k hk => .inr (.inr hk)) (Kd.R_mono HRd (fun k hk => .inl hk)) HBd hbsz (by omega) ?_
    case aK => exact fun k hk => ⟨.inr (.inl hk), fun he => by have hk' : f k = o.length + 1 := hk; have := HRd.1 k he.symm; omega⟩
    intro v1 wa hoa hba hga hata
    obtain ⟨g1, c1, ev, hg1b, hg1l, cg1, hg1⟩ := Kd.R_form hoa (by simp)
    rw [List.length_append, List.length_singleton] at ev
    subst ev
    have hbw := blk_grown HOd.blk hga (hnr b _ 38 HOd.blk (by decide))
    have hgw := blk_grown hgd hga (hnr g _ 23 hgd (by decide))
    have hnw := blk_grown hnd hga hnn
    have kb : wa.cell? ⟨b, 0, none⟩ = some (.slice (some ⟨g, 0, none⟩) (o.length + 1) cap) := by rw [← hrl]; exact (blk_cell hbw 0).trans rfl
    have ho2 : kSl.R 23 wa base (fun _ => True) (.slice (some ⟨g, 0, none⟩) rows.length cap) rows := Kd.R_over' HOd.out (Kd.R_typed HRd) (by decide) hga
    have hoc := Kd.R_celln (d := ((none, 0, 0) : Sl)) ho2 (o.length : Int) (by omega) (by omega)
    rw [Int.toNat_natCast, hrd] at hoc
    have fo := hoc.2
    refine hK.out _ _ ⟨kb, (blk_cell hnw 0).trans rfl, (blk_cell hnw 1).trans rfl, (blk_cell hnw 2).trans rfl, (blk_cell hnw 3).trans rfl, hoc.1⟩ (fun hHeld => ?_)
    clear hK K
    refine norm_ (a' := ?_) ?_ ?_
    rotate_left
    · show Act.put _ (some 27) _ = _
      simp only [Act.put, List.setIfInBounds_toArray, List.set_cons_zero, List.set_cons_succ]
      rfl
    refine pure_ (i := 9) (N := some 28) (v := ?_) (a' := ?_) #[true, true, true, true, true, true, true, true, true, true, false] rfl rfl (by kernel_rfl) (fun _ _ _ h => h) (Or.inl ⟨by rfl, ?_⟩) ?_ ?_
    rotate_left
    · intro w'
      go_simp
      first | done | with_reducible rfl
    rotate_left
    · simp only [Act.put, List.setIfInBounds_toArray, List.set_cons_zero, List.set_cons_succ, i64_w, i32_w]
      rfl
    refine last_ (i := 10) (N := none) #[true, true, true, true, true, true, true, true, true, true, true] rfl rfl (by kernel_rfl) (by decide) (fun K hK => ?_)
    refine skip_ (w1 := ?_) (by rfl) rfl ?_ ?_
    rotate_left
    · go_simp
      first | done | rfl
    refine hK.out _ _ ?_
    clear hK K
    refine done_ (by kernel_rfl) ?_

    go_wp2
    go_end0
    refine ⟨by first | rfl | trivial, ⟨_, fun k => if f k = o.length + 1 ∨ Wd.heap.size ≤ k then o.length else f k, Opn.last HOd (p1 := (some ⟨g1, 0, none⟩, t.length + 1, c1)) ?_ ?_ ?_ ?_ ?_⟩, ?_, ?_⟩
    · rw [Below.heap_setCell _ _ _ _ (blk_ne hbw hgw (by decide))]; exact hga.block b (blk_lt HOd.blk) (hnr b _ 38 HOd.blk (by decide))
    · have := Kd.R_putn ho2 (o.length : Int) ((some ⟨g1, 0, none⟩, t.length + 1, c1) : Sl)
      rw [Int.toNat_natCast] at this
      exact this
    · intro k c hk hf hc
      rw [Below.heap_setCell _ _ _ _ (fun e => by have hkg : k = g := e; rw [hkg, hgd] at hc; injection hc with hc; injection hc with _ hc; cases hc)]
      exact hga.block k hk (fun he => hf (HRd.1 k he.symm))
    · refine Kd.R_mono (Kd.R_set hoa hgw (by decide) o.length (.slice (some ⟨g1, 0, none⟩) (t.length + 1) c1)) (fun k hk => ?_)
      show (if f k = o.length + 1 ∨ Wd.heap.size ≤ k then o.length else f k) = o.length
      by_cases hq : f k = o.length + 1 ∨ Wd.heap.size ≤ k
      · rw [if_pos hq]
      · rw [if_neg hq]; exact hk.resolve_right hq
    · intro k hk hf
      exact if_neg (by omega)
    · exact hba.setCell (p := ⟨g, o.length, none⟩) hgb _
    · intro k o' hk h23 h30
      have h1 : Wd.heap[k]? = some o' := blk_below hk hBd
      have h2 : wa.heap[k]? = some o' := blk_grown h1 hga (fun he => by obtain ⟨c', hc'⟩ := Kd.R_typed HRd k he.symm; rw [h1] at hc'; exact h30 _ _ (Option.some.inj hc'))
      rw [Below.heap_setCell _ _ _ _ (fun e => by have hkg : k = g := e; rw [hkg, hgw] at h2; exact h23 _ _ (Option.some.inj h2).symm)]
      exact h2
  · obtain ⟨W, hW⟩ : ∃ W, W = ((w.alloc (.cells #[.bool n.f0, .string n.f1, .slice A2 n.f2.length c2, .int .i64 n.f3] 30)).alloc (.cells #[.bool true] 4)).drew := ⟨_, rfl⟩
    have hBW : Below w.heap.size w W := by rw [hW]; exact (below_alloc (below_alloc (Below.refl _ _) _) _).drew
    have hnd : W.drew.heap[w.heap.size]? = some (.cells #[.bool n.f0, .string n.f1, .slice A2 n.f2.length c2, .int .i64 n.f3] 30 (0, 0)) := by rw [hW]; exact blk_below (blk_new w _) ((below_alloc (Below.refl _ _) _).drew.drew)
    rw [← hW]
    clear hW
    have hBd := hBW.drew
    have HOd := H.out.below hBd
    have HRd := Kd.R_below hR hBd
    have HNd := Kd.R_below HN.out hBd
    have HBd : Below base w W.drew := hBd.mono hbw0
    have hbsz : base ≤ W.drew.heap.size := Nat.le_trans hbw0 hBd.size
    obtain ⟨cg, hgd0⟩ := Kd.R_typed H.out.out g rfl
    have hgd := blk_below hgd0 hBd
    have hoc := Kd.R_celln (d := ((none, 0, 0) : Sl)) HOd.out (o.length : Int) (by omega) (by omega)
    rw [Int.toNat_natCast, hrd] at hoc
    have ko := hoc.1
    clear hoc
    have kb : W.drew.cell? ⟨b, 0, none⟩ = some (.slice (some ⟨g, 0, none⟩) (o.length + 1) cap) := by rw [← hrl]; exact (blk_cell HOd.blk 0).trans rfl
    obtain ⟨nb, hnb⟩ : ∃ nb, nb = w.heap.size := ⟨_, rfl⟩
    rw [← hnb] at hnd ⊢
    have hnn : some nb ≠ (Value.slice Ap t.length cp).ownBlock := fun he => by have := Kd.R_lt hR nb he.symm; omega
    have HNB := Hid1.mk hnb
    clear hnb kb1 kb0
    have hq1 : ((o.length : Int) < (o.length : Int) + 1) = True := eq_true (by omega)
    refine start_ (n := 10) (S := fun w' => w'.cell? ⟨b, 0, none⟩ = some (.slice (some ⟨g, 0, none⟩) (o.length + 1) cap) ∧ w'.cell? ⟨nb, 0, none⟩ = some (.bool n.f0) ∧ w'.cell? ⟨nb, 1, none⟩ = some (.string n.f1) ∧ w'.cell? ⟨nb, 2, none⟩ = some (.slice A2 n.f2.length c2) ∧ w'.cell? ⟨nb, 3, none⟩ = some (.int .i64 n.f3) ∧ w'.cell? ⟨g, o.length, none⟩ = some (.slice Ap t.length cp)) (ds := [9]) #[false, false, false, false, false, false, false, false, false, false] (by kernel_rfl) rfl rfl ⟨kb, (blk_cell hnd 0).trans rfl, (blk_cell hnd 1).trans rfl, (blk_cell hnd 2).trans rfl, (blk_cell hnd 3).trans rfl, ko⟩ (fun hHeld => ?_)
    generalize W.drew = Wd at hBd HOd HRd HNd HBd hbsz hgd ko kb hnd hHeld ⊢
    have hnr : ∀ k c q, Wd.heap[k]? = some (.cells c q (0, 0)) → q ≠ 30 → some k ≠ (Value.slice Ap t.length cp).ownBlock := fun k c q hk hq he => by obtain ⟨c', hc'⟩ := Kd.R_typed HRd k he.symm; rw [hk] at hc'; injection hc' with hc'; injection hc' with _ hc'; exact hq hc'
    refine take_ (i := 0) (N := some 9) (v := ?_) (a' := ?_) #[true, false, false, false, false, false, false, false, false, false] rfl rfl (by kernel_rfl) (fun _ _ _ h => h) (Or.inl ⟨by rfl, ?_⟩) hHeld ?_ ?_
    rotate_left
    · intro w' s0
      obtain ⟨s1_, s2_, s3_, s4_, s5_, s6_⟩ := s0
      go_simp
      first | done | with_reducible rfl
    rotate_left
    · simp only [Act.put, List.setIfInBounds_toArray, List.set_cons_zero, List.set_cons_succ, i64_w, i32_w]
      rfl
    refine pure_ (i := 1) (N := some 10) (v := ?_) (a' := ?_) #[true, true, false, false, false, false, false, false, false, false] rfl rfl (by kernel_rfl) (fun _ _ _ h => h) (Or.inl ⟨by rfl, ?_⟩) ?_ ?_
    rotate_left
    · intro w'
      go_simp
      first | done | with_reducible rfl
    rotate_left
    · simp only [Act.put, List.setIfInBounds_toArray, List.set_cons_zero, List.set_cons_succ, i64_w, i32_w]
      rfl
    refine pure_ (i := 2) (N := some 11) (v := ?_) (a' := ?_) #[true, true, true, false, false, false, false, false, false, false] rfl rfl (by kernel_rfl) (fun _ _ _ h => h) (Or.inl ⟨by rfl, ?_⟩) ?_ ?_
    rotate_left
    · intro w'
      go_simp
      first | done | with_reducible rfl
    rotate_left
    · simp only [Act.put, List.setIfInBounds_toArray, List.set_cons_zero, List.set_cons_succ, i64_w, i32_w]
      rfl
    refine take_ (i := 3) (N := some 12) (v := ?_) (a' := ?_) #[true, true, true, true, false, false, false, false, false, false] rfl rfl (by kernel_rfl) (fun _ _ _ h => h) (Or.inl ⟨by rfl, ?_⟩) hHeld ?_ ?_
    rotate_left
    · intro w' s0
      obtain ⟨s1_, s2_, s3_, s4_, s5_, s6_⟩ := s0
      go_simp
      first | done | with_reducible rfl
    rotate_left
    · simp only [Act.put, List.setIfInBounds_toArray, List.set_cons_zero, List.set_cons_succ, i64_w, i32_w]
      rfl
    refine take_ (i := 4) (N := some 13) (v := ?_) (a' := ?_) #[true, true, true, true, true, false, false, false, false, false] rfl rfl (by kernel_rfl) (fun _ _ _ h => h) (Or.inl ⟨by rfl, ?_⟩) hHeld ?_ ?_
    rotate_left
    · intro w' s0
      obtain ⟨s1_, s2_, s3_, s4_, s5_, s6_⟩ := s0
      go_simp
      first | done | with_reducible rfl
    rotate_left
    · simp only [Act.put, List.setIfInBounds_toArray, List.set_cons_zero, List.set_cons_succ, i64_w, i32_w]
      rfl
    refine pure_ (i := 5) (N := some 14) (v := ?_) (a' := ?_) #[true, true, true, true, true, true, false, false, false, false] rfl rfl (by kernel_rfl) (fun _ _ _ h => h) (Or.inl ⟨by rfl, ?_⟩) ?_ ?_
    rotate_left
    · intro w'
      go_simp
      first | done | with_reducible rfl
    rotate_left
    · simp only [Act.put, List.setIfInBounds_toArray, List.set_cons_zero, List.set_cons_succ, i64_w, i32_w]
      rfl
    refine one_ (i := 6) (N := some 15) #[true, true, true, true, true, true, true, false, false, false] rfl rfl (by kernel_rfl) (by decide) (fun K hK => ?_)
    refine value_ (w1 := ?_) (v := ?_) (by rfl) rfl ?_ ?_
    rotate_left 2
    · go_simp
      first | done | rfl | (constructor <;> rfl)
    refine hK.out _ _ ⟨alloc_cell' hHeld.1 _, alloc_cell' hHeld.2.1 _, alloc_cell' hHeld.2.2.1 _, alloc_cell' hHeld.2.2.2.1 _, alloc_cell' hHeld.2.2.2.2.1 _, alloc_cell' hHeld.2.2.2.2.2 _⟩ (fun hHeld => ?_)
    clear hK K
    refine norm_ (a' := ?_) ?_ ?_
    rotate_left
    · simp only [Act.put, List.setIfInBounds_toArray, List.set_cons_zero, List.set_cons_succ]
      rfl
    refine one_ (i := 7) (N := some 16) #[true, true, true, true, true, true, true, true, false, false] rfl rfl (by kernel_rfl) (by decide) (fun K hK => ?_)
    refine Kd.R_append_step k30 (w0 := w) base (by rfl) (.tmp 12) (.tmp 15) 23 30 (.agg #[.bool false, .string ⟨#[]⟩, .slice none 0 0, .int .i64 0]) 56 rfl Try.underlying23 info30 rfl (by decide) (by omega) _ t z30 [.bool false, .string ⟨#[]⟩, .slice none 0 0, .int .i64 0] (fun k => f k = o.length ∨ f k = o.length + 1 ∨ Wd.heap.size ≤ k) (fun _ => False) rfl rfl (k30_mkM _ _ _ z30 (Kd.R_nil _ _ _ _ _)) ?aK (fun k hk => .inr (.inr hk)) (Kd.R_mono HRd (fun k hk => .inl hk)) HBd hbsz (by omega) ?_
    case aK => exact fun _ hk => hk.elim
    intro v1 wa hoa hba hga hata
    obtain ⟨g1, c1, ev, hg1b, hg1l, cg1, hg1⟩ := Kd.R_form hoa (by simp)
    rw [List.length_append, List.length_singleton] at ev
    subst ev
    have hbw := blk_grown HOd.blk hga (hnr b _ 38 HOd.blk (by decide))
    have hgw := blk_grown hgd hga (hnr g _ 23 hgd (by decide))
    have hnw := blk_grown hnd hga hnn
    have kb : wa.cell? ⟨b, 0, none⟩ = some (.slice (some ⟨g, 0, none⟩) (o.length + 1) cap) := by rw [← hrl]; exact (blk_cell hbw 0).trans rfl
    have ho2 : kSl.R 23 wa base (fun _ => True) (.slice (some ⟨g, 0, none⟩) rows.length cap) rows := Kd.R_over' HOd.out (Kd.R_typed HRd) (by decide) hga
    have hoc := Kd.R_celln (d := ((none, 0, 0) : Sl)) ho2 (o.length : Int) (by omega) (by omega)
    rw [Int.toNat_natCast, hrd] at hoc
    have fo := hoc.2
    refine hK.out _ _ ⟨kb, (blk_cell hnw 0).trans rfl, (blk_cell hnw 1).trans rfl, (blk_cell hnw 2).trans rfl, (blk_cell hnw 3).trans rfl, hoc.1⟩ (fun hHeld => ?_)
    clear hK K
    refine norm_ (a' := ?_) ?_ ?_
    rotate_left
    · show Act.put _ (some 16) _ = _
      simp only [Act.put, List.setIfInBounds_toArray, List.set_cons_zero, List.set_cons_succ]
      rfl
    refine pure_ (i := 8) (N := some 17) (v := ?_) (a' := ?_) #[true, true, true, true, true, true, true, true, true, false] rfl rfl (by kernel_rfl) (fun _ _ _ h => h) (Or.inl ⟨by rfl, ?_⟩) ?_ ?_
    rotate_left
    · intro w'
      go_simp
      first | done | with_reducible rfl
    rotate_left
    · simp only [Act.put, List.setIfInBounds_toArray, List.set_cons_zero, List.set_cons_succ, i64_w, i32_w]
      rfl
    refine last_ (i := 9) (N := none) #[true, true, true, true, true, true, true, true, true, true] rfl rfl (by kernel_rfl) (by decide) (fun K hK => ?_)
    refine skip_ (w1 := ?_) (by rfl) rfl ?_ ?_
    rotate_left
    · go_simp
      first | done | rfl
    refine hK.out _ _ ?_
    clear hK K
    refine done_ (by kernel_rfl) ?_

    clear hHeld kb ko
    have hoz : k30.R 30 (wa.setCell ⟨g, o.length, none⟩ (.slice (some ⟨g1, 0, none⟩) (t.length + 1) c1)) base (fun k => f k = o.length ∨ f k = o.length + 1 ∨ Wd.heap.size ≤ k) (.slice (some ⟨g1, 0, none⟩) (t.length + 1) c1) (t ++ [z30]) := Kd.R_set hoa hgw (by decide) o.length _
    obtain ⟨W2, hW2⟩ : ∃ W2, W2 = (wa.setCell ⟨g, o.length, none⟩ (.slice (some ⟨g1, 0, none⟩) (t.length + 1) c1)) := ⟨_, rfl⟩
    rw [← hW2] at hoz ⊢
    obtain ⟨cz, hczl, hczM, hczc, hczf⟩ := Kd.R_elem hoz z30 (t.length : Int) (by omega) (by omega)
    obtain ⟨vz, hcz, _⟩ := k30_openM hczM
    have hcz' := hcz
    rw [Int.toNat_natCast] at hczc hczf
    subst hcz
    have e0 : W2.cell? ⟨g1, t.length * 4, none⟩ = some _ := hczc 0 _ rfl
    have e1 : W2.cell? ⟨g1, t.length * 4 + 1, none⟩ = some _ := hczc 1 _ rfl
    have e2 : W2.cell? ⟨g1, t.length * 4 + 2, none⟩ = some _ := hczc 2 _ rfl
    have e3 : W2.cell? ⟨g1, t.length * 4 + 3, none⟩ = some _ := hczc 3 _ rfl
    have z0 : W2.frozen? ⟨g1, t.length * 4, none⟩ = false := hczf 0
    have z1 : W2.frozen? ⟨g1, t.length * 4 + 1, none⟩ = false := hczf 1
    have z2 : W2.frozen? ⟨g1, t.length * 4 + 2, none⟩ = false := hczf 2
    have z3 : W2.frozen? ⟨g1, t.length * 4 + 3, none⟩ = false := hczf 3
    have hq2 : ((t.length : Int) < (t.length : Int) + 1) = True := eq_true (by omega)
    have HW2 := Hid1.mk hW2
    have HCZ := Hid1.mk hczc
    clear hW2 hczc
    go_wp2
    go_end0
    have hW2 := HW2.out
    have hczc := HCZ.out
    obtain ⟨cg2, hgw2⟩ : ∃ c, W2.heap[g]? = some (.cells c 23 (0, 0)) := ⟨_, by rw [hW2]; exact blk_set hgw o.length _⟩
    have hbw2 : W2.heap[b]? = Wd.heap[b]? := by rw [hW2, Below.heap_setCell _ _ _ _ (blk_ne hbw hgw (by decide))]; exact hga.block b (blk_lt HOd.blk) (hnr b _ 38 HOd.blk (by decide))
    have ho3 : kSl.R 23 W2 base (fun _ => True) (.slice (some ⟨g, 0, none⟩) rows.length cap) (rows.set o.length ((some ⟨g1, 0, none⟩, t.length + 1, c1) : Sl)) := by
      have := Kd.R_putn ho2 (o.length : Int) ((some ⟨g1, 0, none⟩, t.length + 1, c1) : Sl)
      rw [Int.toNat_natCast] at this
      rw [hW2]
      exact this
    have hfar2 : ∀ k, k ≠ g → W2.heap[k]? = wa.heap[k]? := fun k hk => by rw [hW2]; exact Below.heap_setCell _ _ _ _ hk
    have HN2 : k30.R 30 W2 base (fun k => f k = o.length + 1 ∧ k < Wd.heap.size) (.slice A2 n.f2.length c2) n.f2 := by
      rw [hW2]
      exact Kd.R_set (Kd.R_grown (Kd.R_mono (Kd.R_bound HNd) (fun k hk => ⟨hk.1, hk.2.2.1⟩)) hga (fun k hk he => by have := HRd.1 k he.symm; omega)) hgw (by decide) o.length _
    have hn1 : ∀ k, k < Wd.heap.size → f k ≠ o.length → k ≠ g1 := by
      intro k hk hf he
      rcases hata with hat | ⟨bb, hbb, hle⟩
      · exact hf (HRd.1 k (hat.symm.trans (by show some g1 = some k; rw [he])))
      · have : some g1 = some bb := hbb
        injection this with this
        omega
    have hsg := Kd.R_seg hoz (t.length : Int) (by omega) (by omega) (seg := [.bool n.f0, .string n.f1, .slice A2 n.f2.length c2, .int .i64 n.f3]) (j := 0) (x' := n) (okp := fun k => f k = o.length + 1 ∧ k < Wd.heap.size) hczl (by rw [Int.toNat_natCast]; exact hczc) (Nat.le_refl 4) (k30_mkM _ _ _ n HN2) (fun k hk => ⟨.inr (.inl hk.1), hn1 k hk.2 (by omega)⟩)
    have hset : (t ++ [z30]).set t.length n = t ++ [n] := by rw [List.set_append_right _ _ (Nat.le_refl _), Nat.sub_self]; rfl
    rw [Int.toNat_natCast, hset] at hsg
    have hBD2 : Below base w W2 := by rw [hW2]; exact hba.setCell (p := ⟨g, o.length, none⟩) hgb _
    have hcg2 : W2.heap[g1]? = some (.cells cg1 30 (0, 0)) := (hfar2 g1 (fun e => by rw [e, hgw] at hg1; injection hg1 with hg1; injection hg1 with _ hg1; cases hg1)).trans hg1
    obtain ⟨W3, hW3⟩ : ∃ W3, W3 = ((((W2.setCell ⟨g1, t.length * 4, none⟩ (.bool n.f0)).setCell ⟨g1, t.length * 4 + 1, none⟩ (.string n.f1)).setCell ⟨g1, t.length * 4 + 2, none⟩ (.slice A2 n.f2.length c2)).setCell ⟨g1, t.length * 4 + 3, none⟩ (.int .i64 n.f3)) := ⟨_, rfl⟩
    rw [← hW3]
    obtain ⟨hs1, hs2⟩ : k30.R 30 W3 base (fun k => f k = o.length ∨ f k = o.length + 1 ∨ Wd.heap.size ≤ k) (.slice (some ⟨g1, 0, none⟩) (t.length + 1) c1) (t ++ [n]) ∧ W2.grownBy W3 (some g1) := by rw [hW3]; exact hsg
    clear hsg hW3
    refine ⟨by first | rfl | trivial, ⟨_, fun k => if f k = o.length + 1 ∨ Wd.heap.size ≤ k then o.length else f k, Opn.last HOd (p1 := (some ⟨g1, 0, none⟩, t.length + 1, c1)) ?_ ?_ ?_ ?_ ?_⟩, ?_, ?_⟩
    · rw [hs2.block b (blk_lt (hbw2.trans HOd.blk)) (fun e => by injection e with e; rw [← e, hbw2, HOd.blk] at hcg2; injection hcg2 with hcg2; injection hcg2 with _ hcg2; cases hcg2)]
      exact hbw2
    · exact Kd.R_over' (v := .slice (some ⟨g1, 0, none⟩) (t.length + 1) c1) (e' := 30) ho3 (fun k hk => by have hk' : some g1 = some k := hk; injection hk' with hk'; exact ⟨_, hk' ▸ hcg2⟩) (by decide) hs2
    · intro k c hk hf hc
      have hkg : k ≠ g := fun e => by rw [e, hgd] at hc; injection hc with hc; injection hc with _ hc; cases hc
      have h1 : W2.heap[k]? = Wd.heap[k]? := (hfar2 k hkg).trans (hga.block k hk (fun he => hf (HRd.1 k he.symm)))
      rw [hs2.block k (blk_lt (h1.trans hc)) (fun e => hn1 k hk hf (by injection e))]
      exact h1
    · refine Kd.R_mono hs1 (fun k hk => ?_)
      show (if f k = o.length + 1 ∨ Wd.heap.size ≤ k then o.length else f k) = o.length
      by_cases hq : f k = o.length + 1 ∨ Wd.heap.size ≤ k
      · rw [if_pos hq]
      · rw [if_neg hq]; exact hk.resolve_right hq
    · intro k hk hf
      exact if_neg (by omega)
    · exact hBD2.grown hs2 (Nat.le_trans hbw0 hBD2.size) (fun k hk => by injection hk with hk; omega)
    · intro k o' hk h23 h30
      have h1 : Wd.heap[k]? = some o' := blk_below hk hBd
      have h2 : wa.heap[k]? = some o' := blk_grown h1 hga (fun he => by obtain ⟨c', hc'⟩ := Kd.R_typed HRd k he.symm; rw [h1] at hc'; exact h30 _ _ (Option.some.inj hc'))
      have h3 : W2.heap[k]? = some o' := (hfar2 k (fun e => by rw [e, hgw] at h2; exact h23 _ _ (Option.some.inj h2).symm)).trans h2
      exact blk_grown h3 hs2 (fun e => by injection e with e; rw [← e, h3] at hcg2; exact h30 _ _ (Option.some.inj hcg2))
end Go.Proofs.Ytciojbdkoojlhaa.P
