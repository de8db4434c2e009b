/- Plain facts on a scheduler's steps, and the contract of carlinglaw22's awake. No condition. -/
import Derived.Test.YtgjlgdohlmpnbaaG8
namespace Go.Proofs.Ytgjlgdohlmpnbaa.P
set_option linter.unusedVariables false
set_option linter.unusedSimpArgs false
open Go.RowKit Go.Proofs.YtgjlgdohlmpnbaaW.PrintWords Go.Proofs.YtgjlgdohlmpnbaaW.PrintLast Go.Proofs.YtgjlgdohlmpnbaaW.PrintMore

theorem copied_len (n : Nat) (d : List Bool) : (copied n d).length = n := by simp [copied]; omega
theorem good_new {l : List S31} (hf : fewJ l) {x : Int} (hx : x ≤ 16) (d : List Bool) : Good (newSt l x d) where
  few := hf.1
  needs i := few_need hf i
  taken := by simp [newSt, freshSt]
  done := copied_len _ _
  many := hx
  work i _ := .inl ⟨rfl, rfl⟩
theorem nextOf_rng {p : Int} (h0 : 0 ≤ p) (h2 : p ≤ 2) : 1 ≤ nextOf p ∧ nextOf p ≤ 3 := by
  have h : p = 0 ∨ p = 1 ∨ p = 2 := by omega
  rcases h with rfl | rfl | rfl <;> decide
theorem goOn_good {s : St} {i : Nat} {j p : Int} (hg : Good s) (hj0 : 0 ≤ j) (hj1 : j < s.l.length) (h0 : 0 ≤ p) (h2 : p ≤ 2) : Good (s.goOn i j p) := by
  have hn := nextOf_rng h0 h2
  unfold St.goOn
  by_cases h : nextOf p = 3
  · rw [if_pos h]
    exact { few := hg.few, needs := hg.needs, taken := hg.taken, done := by show (s.done.set _ _).length = _; rw [List.length_set]; exact hg.done, many := hg.many
            work := fun k hk => by
              show (if k = i then (0 : Int) else s.jb k) = 0 ∧ (if k = i then (0 : Int) else s.ph k) = 0 ∨ _
              by_cases e : k = i
              · rw [if_pos e, if_pos e]; exact .inl ⟨rfl, rfl⟩
              · have := hg.work k hk
                simpa [e] using this }
  · rw [if_neg h]
    exact { few := hg.few, needs := hg.needs, taken := hg.taken, done := hg.done, many := hg.many
            work := fun k hk => by
              by_cases e : k = i
              · right
                show 0 ≤ (if k = i then j else s.jb k) ∧ (if k = i then j else s.jb k) < s.l.length ∧ 1 ≤ (if k = i then nextOf p else s.ph k) ∧ (if k = i then nextOf p else s.ph k) ≤ 2
                rw [if_pos e, if_pos e]
                omega
              · have := hg.work k hk
                simpa [e] using this }
theorem pick_good {s : St} (hg : Good s) (x : Int) : Good (pickOf s x).1 := by
  unfold pickOf
  by_cases h1 : x < 0 ∨ s.many ≤ x
  · rw [if_pos h1]; exact hg
  · rw [if_neg h1]
    have hm := hg.many
    have hw := hg.work x.toNat (by omega)
    by_cases h2 : s.jb x.toNat = 0 ∧ s.ph x.toNat = 0
    · rw [if_pos h2]
      by_cases h3 : leastOf s < 0
      · rw [if_pos h3]; exact hg
      · rw [if_neg h3]
        have hl := least_in hg h3
        refine goOn_good (s := ({ s with taken := s.taken.set (leastOf s).toNat true } : St)) (p := 0) ?_ hl.1 hl.2 (by omega) (by omega)
        exact { few := hg.few, needs := hg.needs, taken := by show (s.taken.set _ _).length = _; rw [List.length_set]; exact hg.taken, done := hg.done, many := hg.many, work := hg.work }
    · rw [if_neg h2]
      have := hw.resolve_left h2
      exact goOn_good hg this.1 this.2.1 (by omega) (by omega)
theorem goOn_l (s : St) (i : Nat) (j p : Int) : (s.goOn i j p).l = s.l ∧ (s.goOn i j p).many = s.many ∧ (s.goOn i j p).made.length ≤ s.made.length + 1 := by
  unfold St.goOn
  split
  · exact ⟨rfl, rfl, by simp⟩
  · exact ⟨rfl, rfl, Nat.le_succ _⟩
theorem pick_l (s : St) (x : Int) : (pickOf s x).1.l = s.l ∧ (pickOf s x).1.many = s.many ∧ (pickOf s x).1.made.length ≤ s.made.length + 1 := by
  unfold pickOf
  split
  · exact ⟨rfl, rfl, Nat.le_succ _⟩
  · split
    · split
      · exact ⟨rfl, rfl, Nat.le_succ _⟩
      · exact goOn_l _ _ _ _
    · exact goOn_l _ _ _ _

theorem new_ok {A0 : Option Addr} {c0 : Nat} {l0 : List S31} {x : Int} {A1 : Option Addr} {c1 : Nat} {d0 : List Bool} {w : World} (hr0 : Kd.C k31 w A0 l0.length l0) (hc0 : l0.length ≤ c0) (hr1 : Kd.C Kd.bool w A1 d0.length d0) (hf : fewJ l0) (hz : newErr l0 x = 0) :
    Calls Try.prog 25 #[.slice A0 l0.length c0, .int .i64 x, .slice A1 d0.length c1] w fun e w' => ∃ b, e = .returned (.tuple #[.pointer (some ⟨b, 0, none⟩), .int .i64 0]) ∧ SchedAt w' w.heap.size b (newSt l0 x d0) (fun _ => False) ∧ Below w.heap.size w w' := by
  refine (new_any A0 c0 l0 x A1 c1 d0 w hr0 hc0 hr1 hf.1 (few_need hf) (few_name hf)).mono ?_
  rintro e w' ⟨hb, (⟨hne, he⟩ | ⟨_, b, he, hs⟩)⟩
  · exact absurd hz hne
  · exact ⟨b, he, hs, hb⟩
theorem new_bad {A0 : Option Addr} {c0 : Nat} {l0 : List S31} {x : Int} {A1 : Option Addr} {c1 : Nat} {d0 : List Bool} {w : World} (hr0 : Kd.C k31 w A0 l0.length l0) (hc0 : l0.length ≤ c0) (hr1 : Kd.C Kd.bool w A1 d0.length d0) (hf : fewJ l0) (hz : ¬ newErr l0 x = 0) :
    Calls Try.prog 25 #[.slice A0 l0.length c0, .int .i64 x, .slice A1 d0.length c1] w fun e w' => e = .returned (.tuple #[.pointer none, .int .i64 (newErr l0 x)]) ∧ Below w.heap.size w w' := by
  refine (new_any A0 c0 l0 x A1 c1 d0 w hr0 hc0 hr1 hf.1 (few_need hf) (few_name hf)).mono ?_
  rintro e w' ⟨hb, (⟨hne, he⟩ | ⟨h0, b, he, hs⟩)⟩
  · exact ⟨he, hb⟩
  · exact absurd h0 hz
/-! one job -/
def oneJ : List S31 := [⟨⟨#[97]⟩, []⟩]
theorem one_new : newErr oneJ 2 = 0 := by decide +kernel
theorem one_few : fewJ oneJ := by decide +kernel
def one0 : St := newSt oneJ 2 []
theorem one_pick1 : (pickOf one0 1).2 = (0, 1) := by decide +kernel
theorem one_pick2 : (pickOf (pickOf one0 1).1 0).2 = (-1, 0) := by decide +kernel
theorem one_over : overOf (pickOf (pickOf one0 1).1 0).1.done = false := by decide +kernel
theorem one_steps : (pickOf (pickOf one0 1).1 0).1.steps = 1 := by decide +kernel
set_option maxHeartbeats 4000000 in
set_option maxRecDepth 100000 in
theorem awake_any (w : World) : Calls Try.prog 24 #[] w fun e w' => e = .returned (.bool true) ∧ Below w.heap.size w w' := by
  have hg0 : Good one0 := good_new one_few (by omega) []
  have hm0 : one0.made.length ≤ 1000000 := Nat.zero_le _
  have hg1 := pick_good hg0 1
  have hl0 := pick_l one0 1
  have hl1 := pick_l (pickOf one0 1).1 0
  have hm1 : (pickOf one0 1).1.made.length ≤ 1 := hl0.2.2
  have hm2 : (pickOf (pickOf one0 1).1 0).1.made.length ≤ 2 := by omega
  have hd2 : (pickOf (pickOf one0 1).1 0).1.done.length ≤ 1000000 := by rw [(pick_good hg1 0).done]; exact (pick_good hg1 0).few
  have HN := Hid1.mk (one_new)
  obtain ⟨s1, h1⟩ : ∃ s1, s1 = (pickOf one0 1).1 := ⟨_, rfl⟩
  have e1 := one_pick1
  have e2 := one_pick2
  have e3 := one_over
  have e4 := one_steps
  rw [← h1] at hg1 hm1 hm2 hd2 e2 e3 e4
  obtain ⟨s2, h2⟩ : ∃ s2, s2 = (pickOf s1 0).1 := ⟨_, rfl⟩
  rw [← h2] at hm2 hd2 e3 e4
  have HP1 := Hid1.mk (And.intro h1 e1)
  have HP2 := Hid1.mk (And.intro h2 e2)
  clear h1 e1 h2 e2 hl0 hl1
  go_enter Try.func24, Try.ntmps24
  go_wp2_with (first
    | ((with_reducible refine gate_dst (N := 9) rfl ?_); (try (refine gate_guard (by rfl) ?_; dsimp only)); (refine Kd.R_lit k31 (w0 := w) w.heap.size 31 ?hg (N := 9) ?hd (xs := oneJ) (inner := [.string ⟨#[97]⟩, .slice none 0 0]) (ok := fun _ => True) (okp := fun _ => True) ?hr ?hp (fun _ hk => hk) trivial (Below.refl _ _) (Nat.le_refl _) (by simp [oneJ]) ?_; (case hd => rfl); (case hg => rfl); (case hr => first | (go_simp; done) | (go_simp; rfl)); (case hp => exact (Reps.c2 (k31_mkM _ _ _ (⟨⟨#[97]⟩, []⟩ : S31) (Kd.R_nil _ _ _ _ _)) (Reps.none _ _))); intro v9 w9 ho9 hb9 hg9 hn9; clear hg9 hn9; obtain ⟨A9, c9, e9, hc9, hC9⟩ := Kd.R_reads ho9; subst e9; have HC9 := Aside0.mk hC9; have HB9 := Aside0.mk hb9; clear ho9 hC9 hb9))
    | (go_at_call 25; (refine (new_ok (x := 2) (c1 := 0) (d0 := []) HC9.out hc9 (Kd.C_nil _ _) one_few HN.out).mono ?_); rintro e w1 ⟨b, he, hs, hb⟩; subst he; have HS1 := Aside0.mk hs; have HB1 := Aside0.mk (below_step HB9.out hb); have hsz := below_size hb; have hsz1 := below_size HB9.out; clear hs hb HC9)
    | (go_at_call 26; refine (pick_any b one0 w9.heap.size 1 w1 w1 HS1.out hg0 hm0 (Below.refl _ _) hsz (fun _ h => h.elim)).mono ?_; (rintro e w2 ⟨he, hs, hb, hsz2⟩; rw [← HP1.out.1] at hs; rw [HP1.out.2] at he; subst he; have HS2 := Aside0.mk hs; have HB2 := Aside0.mk hb.below; clear hs hb HS1))
    | (go_at_call 26; (refine (pick_any b s1 w9.heap.size 0 w1 w2 HS2.out hg1 (by omega) HB2.out hsz2 (fun _ h => h.elim)).mono ?_; rintro e w3 ⟨he, hs, hb, hsz3⟩; rw [← HP2.out.1] at hs; rw [HP2.out.2] at he; subst he; have HS3 := Aside0.mk hs; have HB3 := Aside0.mk hb.below; clear hs hb HS2))
    | (go_at_call 30; refine (over_any b s2 w9.heap.size w3 HS3.out hd2).mono ?_; rintro e w4 ⟨he, rfl⟩; rw [e3] at he; subst he)
    | (go_at_call 32; refine (steps_any b s2 w9.heap.size _ HS3.out).mono ?_; rintro e w4 ⟨he, rfl⟩; rw [e4] at he; subst he))
  go_ret
  exact ⟨rfl, HB1.out.trans (HB3.out.mono hsz1)⟩
end Go.Proofs.Ytgjlgdohlmpnbaa.P
