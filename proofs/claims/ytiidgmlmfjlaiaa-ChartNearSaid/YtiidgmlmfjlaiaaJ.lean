/-
  Walks: Spiral of the chart.
-/
import Derived.Test.YtiidgmlmfjlaiaaI
import Derived.Test.YtiidgmlmfjlaiaaSpiral
import Derived.ScopeJumps
import Derived.WalkMore
namespace Go.Proofs.Ytiidgmlmfjlaiaa
open Go.RowKit Fl Rg Sp

/-- what holds at the label: k steps are done -/
def SpSt (n k : Nat) (z st : Value) (m L f leg : Nat) : Prop :=
  m + k = n ∧ L = (sp k).leg / 2 + 1 ∧ f = L - (sp k).i ∧ leg = (sp k).leg ∧ CplxV (sp k).x (sp k).y z ∧ CplxV (dx (sp k).leg) (dy (sp k).leg) st

theorem sp_go {n k m L f leg : Nat} {z st z' : Value} (h : SpSt n k z st m L f leg) (hm : 0 < m) (hf : 2 ≤ f) (hz : CplxV ((sp k).x + dx (sp k).leg) ((sp k).y + dy (sp k).leg) z') :
    SpSt n (k + 1) z' st (m - 1) L (f - 1) leg := by
  obtain ⟨h1, h2, h3, h4, h5, h6⟩ := h
  have e : sp (k + 1) = ⟨(sp k).x + dx (sp k).leg, (sp k).y + dy (sp k).leg, (sp k).leg, (sp k).i + 1⟩ := by
    rw [sp_next]; unfold St.next; rw [if_neg (by omega)]
  unfold SpSt
  rw [e]
  exact ⟨by omega, h2, by show f - 1 = L - ((sp k).i + 1); omega, h4, hz, h6⟩

theorem sp_turned {n k m L leg : Nat} {z st : Value} (h : SpSt n k z st m L 1 leg) :
    sp (k + 1) = ⟨(sp k).x + dx (sp k).leg, (sp k).y + dy (sp k).leg, (sp k).leg + 1, 0⟩ := by
  obtain ⟨h1, h2, h3, h4, h5, h6⟩ := h
  have h7 := sp_i k
  rw [sp_next]; unfold St.next; rw [if_pos (by omega)]

theorem turn_C {leg : Nat} {v : Value} (h : CplxV (dx leg * 0 - dy leg * 1) (dx leg * 1 + dy leg * 0) v) : CplxV (dx (leg + 1)) (dy (leg + 1)) v := by
  rw [Sp.turn_x, Sp.turn_y]
  have e1 : dx leg * 0 - dy leg * 1 = - dy leg := by omega
  have e2 : dx leg * 1 + dy leg * 0 = dx leg := by omega
  rw [e1, e2] at h
  exact h

theorem sp_turn_even {n k m L leg : Nat} {z st z' st' : Value} (h : SpSt n k z st m L 1 leg) (hm : 0 < m) (hp : (leg + 1) % 2 = 0) (hz : CplxV ((sp k).x + dx (sp k).leg) ((sp k).y + dy (sp k).leg) z')
    (ht : CplxV (dx (sp k).leg * 0 - dy (sp k).leg * 1) (dx (sp k).leg * 1 + dy (sp k).leg * 0) st') : SpSt n (k + 1) z' st' (m - 1) (L + 1) (L + 1) (leg + 1) := by
  have e := sp_turned h
  obtain ⟨h1, h2, h3, h4, h5, h6⟩ := h
  unfold SpSt
  rw [e]
  exact ⟨by omega, by show L + 1 = ((sp k).leg + 1) / 2 + 1; omega, by show L + 1 = L + 1 - 0; omega, by show leg + 1 = (sp k).leg + 1; omega, hz, turn_C ht⟩
theorem sp_turn_odd {n k m L leg : Nat} {z st z' st' : Value} (h : SpSt n k z st m L 1 leg) (hm : 0 < m) (hp : ¬ (leg + 1) % 2 = 0) (hz : CplxV ((sp k).x + dx (sp k).leg) ((sp k).y + dy (sp k).leg) z')
    (ht : CplxV (dx (sp k).leg * 0 - dy (sp k).leg * 1) (dx (sp k).leg * 1 + dy (sp k).leg * 0) st') : SpSt n (k + 1) z' st' (m - 1) L L (leg + 1) := by
  have e := sp_turned h
  obtain ⟨h1, h2, h3, h4, h5, h6⟩ := h
  unfold SpSt
  rw [e]
  exact ⟨by omega, by show L = ((sp k).leg + 1) / 2 + 1; omega, by show L = L - 0; omega, by show leg + 1 = (sp k).leg + 1; omega, hz, turn_C ht⟩

theorem sp_start (n : Nat) : SpSt n 0 (.complex .f64 0 0) (.complex .f64 4607182418800017408 0) n 1 1 0 :=
  ⟨rfl, rfl, rfl, rfl, ⟨_, _, rep_zero, rep_zero, rfl⟩, ⟨_, _, rep_one, rep_zero, rfl⟩⟩

set_option maxHeartbeats 4000000 in
set_option maxRecDepth 100000 in
theorem spiral_in (n : Nat) (hn : n < 10000) (w : World) :
    Calls Try.prog 9 #[.int .i64 (n : Int)] w fun e w' => RetS ((sp n).x, (sp n).y, 0) e ∧ Gr w w' := by
  go_enter Try.func9, Try.ntmps9
  go_wp2
  refine wp_scope_jumps 0 (fun a' w' => w' = w.alloc (.cells #[.int .i64 0, .int .i64 0] 23) ∧ ∃ (k : Nat) (z st : Value) (m L f leg : Nat), SpSt n k z st m L f leg ∧ ∃ (u9 u10 u11 u12 u13 u14 u15 u16 u17 u18 u19 u20 u21 u22 u23 u24 u25 u26 u27 u28 u29 u30 u31 u32 u33 u34 u35 u36 u37 u38 : Value), a' = { tmps := #[.int .i64 m, undef, .pointer (some ⟨w.heap.size, 0, none⟩), .int .i64 0, z, st, .int .i64 L, .int .i64 f, .int .i64 leg, u9, u10, u11, u12, u13, u14, u15, u16, u17, u18, u19, u20, u21, u22, u23, u24, u25, u26, u27, u28, u29, u30, u31, u32, u33, u34, u35, u36, u37, u38], defers := [] })
    (fun a' _ => (intOf (a'.tmps.getD 0 undef)).toNat) rfl ?_ ?_
  · go_wp2
    go_step3
    by_cases hm0 : n = 0
    · obtain rfl := hm0
      go_wp2_with fail
      refine (spot_any _ _ _ _ rep_zero rep_zero (by decide) (by decide) _).mono ?_
      rintro e w1 ⟨rfl, hb1⟩
      have hg1 : Gr w w1 := Gr.trans ((Gr.refl w).alloc _) hb1
      have B : Blk w1 w.heap.size 23 #[.int .i64 0, .int .i64 0] := Blk.made (by simp) hb1
      obtain ⟨c0, c1, f0, f1, _⟩ := B.two
      go_wp2
      simp only [Exit.jump]
      refine bodyPost_ret (v := .tuple #[.agg #[.int .i64 0, .int .i64 0], .int .i64 0]) (by simp [results, Try.results9, go_sem, c0, c1]) rfl ⟨⟨_, _, _, rfl, rfl⟩, ?_⟩
      exact (hg1.set (Nat.le_refl _) _).set (Nat.le_refl _) _
    · have hmp : 0 < n := by omega
      have hmt : (((n : Int)) == 0) = false := by rw [beq_eq_false_iff_ne]; omega
      clear hm0
      obtain ⟨re3, im3, hc, g5, g6⟩ := rep_csum rep_zero rep_zero rep_one rep_zero (by decide) (by decide)
      have hrun := run_csum .add (.inl rfl) hc
      have Hz := Lib.hid (show CplxV _ _ _ from ⟨re3, im3, g5, g6, rfl⟩)
      obtain ⟨re4, im4, hc2, g7, g8⟩ := rep_cmul rep_one rep_zero rep_zero rep_one (by decide) (by decide) (by decide) (by decide)
      have hrun2 := run_cmul hc2
      have Ht := Lib.hid (show CplxV _ _ _ from ⟨re4, im4, g7, g8, rfl⟩)
      clear hc g5 g6 hc2 g7 g8
      go_wp2
      go_step3
      rw [show ((n : Int) - 1) = ((n - 1 : Nat) : Int) from by omega]
      exact ⟨rfl, rfl, 1, .complex .f64 re3 im3, .complex .f64 re4 im4, n - 1, 1, 1, 1, sp_turn_odd (sp_start n) hmp (by decide) Hz.out Ht.out, _, _, _, _, _, _, _, _, _, _, _, _, _, _, _, _, _, _, _, _, _, _, _, _, _, _, _, _, _, _, rfl⟩
  · rintro a' w' ⟨rfl, k, z, st, m, L, f, leg, hs, u9, u10, u11, u12, u13, u14, u15, u16, u17, u18, u19, u20, u21, u22, u23, u24, u25, u26, u27, u28, u29, u30, u31, u32, u33, u34, u35, u36, u37, u38, rfl⟩
    obtain ⟨re, im, r1, r2, rfl⟩ := hs.2.2.2.2.1
    obtain ⟨re2, im2, r3, r4, rfl⟩ := hs.2.2.2.2.2
    have hb : (sp k).x.natAbs ≤ 10000 ∧ (sp k).y.natAbs ≤ 10000 := by
      have h1 := sp_bound k
      have h2 := hs.1
      omega
    have Hb := Lib.hid hb
    clear hb
    have R1 := Lib.hid r1
    have R2 := Lib.hid r2
    have R3 := Lib.hid r3
    have R4 := Lib.hid r4
    clear r1 r2 r3 r4
    have bm : m ≤ 10000 := by have h2 := hs.1; omega
    have bl : leg ≤ 10000 := by have h1 := sp_bound k; have h2 := hs.1; have h3 := hs.2.2.2.1; omega
    have bL : L ≤ 10001 := by have h1 := hs.2.1; have h3 := hs.2.2.2.1; omega
    have bf : f ≤ L := by have h1 := hs.2.2.1; omega
    have Hs := Lib.hid hs
    clear hs
    by_cases hm0 : m = 0
    · obtain rfl := hm0
      go_wp2_with fail
      refine (spot_any _ _ _ _ R1.out R2.out (by have := Hb.out; omega) (by have := Hb.out; omega) _).mono ?_
      rintro e w1 ⟨rfl, hb1⟩
      have hg1 : Gr w w1 := Gr.trans ((Gr.refl w).alloc _) hb1
      have B : Blk w1 w.heap.size 23 #[.int .i64 0, .int .i64 0] := Blk.made (by simp) hb1
      obtain ⟨c0, c1, f0, f1, _⟩ := B.two
      go_wp2
      simp only [Exit.jump]
      have ek : k = n := by have := Hs.out.1; omega
      refine bodyPost_ret (v := .tuple #[.agg #[.int .i64 (sp k).x, .int .i64 (sp k).y], .int .i64 0]) (by simp [results, Try.results9, go_sem, c0, c1]) rfl ⟨⟨_, _, _, by rw [← ek], rfl⟩, ?_⟩
      exact (hg1.set (Nat.le_refl _) _).set (Nat.le_refl _) _
    · have hmp : 0 < m := by omega
      have hmt : (((m : Int)) == 0) = false := by rw [beq_eq_false_iff_ne]; omega
      clear hm0
      obtain ⟨re3, im3, hc, g5, g6⟩ := rep_csum R1.out R2.out R3.out R4.out (by have := Hb.out; have := dx_cases (sp k).leg; omega) (by have := Hb.out; have := dy_cases (sp k).leg; omega)
      have hrun := run_csum .add (.inl rfl) hc
      have Hz := Lib.hid (show CplxV _ _ _ from ⟨re3, im3, g5, g6, rfl⟩)
      clear hc g5 g6
      by_cases hf1 : f = 1
      · obtain rfl := hf1
        obtain ⟨re4, im4, hc2, g7, g8⟩ := rep_cmul R3.out R4.out rep_zero rep_one (by have := dx_cases (sp k).leg; omega) (by have := dy_cases (sp k).leg; omega) (by decide) (by decide)
        have hrun2 := run_cmul hc2
        have Ht := Lib.hid (show CplxV _ _ _ from ⟨re4, im4, g7, g8, rfl⟩)
        clear hc2 g7 g8
        by_cases hpar : (leg + 1) % 2 = 0
        · have hp2 : ((((leg : Int) + 1) % 2) == 0) = true := by rw [beq_iff_eq]; omega
          have Hp := Lib.hid hpar
          clear hpar
          go_wp2
          go_step3
          rw [show ((m : Int) - 1) = ((m - 1 : Nat) : Int) from by omega]
          refine ⟨rfl, ⟨rfl, k + 1, .complex .f64 re3 im3, .complex .f64 re4 im4, m - 1, L + 1, L + 1, leg + 1, sp_turn_even Hs.out hmp Hp.out Hz.out Ht.out, _, _, _, _, _, _, _, _, _, _, _, _, _, _, _, _, _, _, _, _, _, _, _, _, _, _, _, _, _, _, rfl⟩, ?_⟩
          simp [intOf]; omega
        · have hp2 : ((((leg : Int) + 1) % 2) == 0) = false := by rw [beq_eq_false_iff_ne]; omega
          have Hp := Lib.hid hpar
          clear hpar
          go_wp2
          go_step3
          rw [show ((m : Int) - 1) = ((m - 1 : Nat) : Int) from by omega]
          refine ⟨rfl, ⟨rfl, k + 1, .complex .f64 re3 im3, .complex .f64 re4 im4, m - 1, L, L, leg + 1, sp_turn_odd Hs.out hmp Hp.out Hz.out Ht.out, _, _, _, _, _, _, _, _, _, _, _, _, _, _, _, _, _, _, _, _, _, _, _, _, _, _, _, _, _, _, rfl⟩, ?_⟩
          simp [intOf]; omega
      · have hf2 : 2 ≤ f := by have := Hs.out.2.2.1; have := sp_i k; have := Hs.out.2.1; omega
        clear hf1
        go_wp2
        go_step3
        rw [show ((m : Int) - 1) = ((m - 1 : Nat) : Int) from by omega, show ((f : Int) - 1) = ((f - 1 : Nat) : Int) from by omega]
        refine ⟨rfl, ⟨rfl, k + 1, .complex .f64 re3 im3, .complex .f64 re2 im2, m - 1, L, f - 1, leg, sp_go Hs.out hmp hf2 Hz.out, _, _, _, _, _, _, _, _, _, _, _, _, _, _, _, _, _, _, _, _, _, _, _, _, _, _, _, _, _, _, rfl⟩, ?_⟩
        simp [intOf]; omega

end Go.Proofs.Ytiidgmlmfjlaiaa
