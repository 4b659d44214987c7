/-
  Walks: awake.
-/
import Derived.Test.YtiidgmlmfjlaiaaK
namespace Go.Proofs.Ytiidgmlmfjlaiaa
open Go.RowKit Fl Rg Sp

theorem sp_three : (sp 3).x = 0 ∧ (sp 3).y = 1 := by decide
theorem times_ex : timesP 1 2 3 4 = (-5, 10, 0) := by decide

set_option maxHeartbeats 1000000 in
theorem awake_any (w : World) :
    Calls Try.prog 10 #[] w fun e w' => e = .returned (.bool true) ∧ Gr w w' := by
  go_enter Try.func10, Try.ntmps10
  go_wp2_with fail
  refine (times_any _ _ _ _ _).mono ?_
  rintro e w1 ⟨⟨a, b, c, hp, rfl⟩, hg1⟩
  rw [times_ex] at hp
  injection hp with e1 e2
  injection e2 with e2 e3
  subst e1 e2 e3
  go_wp2_with fail
  refine (spiral_in 3 (by omega) _).mono ?_
  rintro e w2 ⟨⟨a, b, c, hp, rfl⟩, hg2⟩
  rw [sp_three.1, sp_three.2] at hp
  injection hp with e1 e2
  injection e2 with e2 e3
  subst e1 e2 e3
  have B : Blk w2 w1.heap.size 23 #[.int .i64 (-5), .int .i64 10] := Blk.made rfl hg2
  obtain ⟨c0, c1, _, _, hlt⟩ := B.two
  go_wp2
  go_ret
  exact ⟨rfl, (hg1.trans (((Gr.refl _).alloc _).trans hg2)).alloc _⟩

def spiralP (n : Int) : Int × Int × Int := if 0 ≤ n ∧ n < 10000 then ((sp n.toNat).x, (sp n.toNat).y, 0) else (0, 0, 1)

theorem spiral_any (n : Int) (w : World) :
    Calls Try.prog 9 #[.int .i64 n] w fun e w' => RetS (spiralP n) e ∧ Gr w w' := by
  by_cases h : 0 ≤ n ∧ n < 10000
  · obtain ⟨k, rfl⟩ := Int.eq_ofNat_of_zero_le h.1
    have := spiral_in k (by omega) w
    unfold spiralP
    rw [if_pos h]
    simpa using this
  · refine (spiral_out n (by omega) w).mono ?_
    rintro e w' ⟨rfl, hg⟩
    exact ⟨⟨0, 0, 1, by unfold spiralP; rw [if_neg h], rfl⟩, hg⟩

theorem spiralP_inj {n m : Int} (hn : 0 ≤ n ∧ n < 10000) (hm : 0 ≤ m ∧ m < 10000) {a b c p q r : Int} (h1 : spiralP n = (a, b, c)) (h2 : spiralP m = (p, q, r)) (hne : n ≠ m) : ¬ (a = p ∧ b = q) := by
  unfold spiralP at h1 h2
  rw [if_pos hn] at h1
  rw [if_pos hm] at h2
  injection h1 with e1 e2
  injection e2 with e2 e3
  injection h2 with f1 f2
  injection f2 with f2 f3
  rintro ⟨g1, g2⟩
  have := sp_inj (n := n.toNat) (m := m.toNat) (by rw [e1, f1, g1]) (by rw [e2, f2, g2])
  omega

theorem spiralP_in {n : Int} (hn : 0 ≤ n ∧ n < 10000) {a b c : Int} (h : spiralP n = (a, b, c)) : c = 0 ∧ a = (sp n.toNat).x ∧ b = (sp n.toNat).y := by
  unfold spiralP at h
  rw [if_pos hn] at h
  injection h with e1 e2
  injection e2 with e2 e3
  exact ⟨e3.symm, e1.symm, e2.symm⟩
theorem spiralP_nat {k : Nat} (hk : k < 10000) {a b c : Int} (h : spiralP (k : Int) = (a, b, c)) : c = 0 ∧ a = (sp k).x ∧ b = (sp k).y := spiralP_in (by omega) h
theorem spiralP_out {n : Int} (hn : ¬ (0 ≤ n ∧ n < 10000)) {a b c : Int} (h : spiralP n = (a, b, c)) : a = 0 ∧ b = 0 ∧ c = 1 := by
  unfold spiralP at h
  rw [if_neg hn] at h
  injection h with e1 e2
  injection e2 with e2 e3
  exact ⟨e1.symm, e2.symm, e3.symm⟩

set_option maxHeartbeats 2000000 in
set_option maxRecDepth 100000 in
theorem chartSpirals_walk (n m : Int) (w : World) :
    Calls Try.prog 3 #[.int .i64 n, .int .i64 m] w fun e w' => e = .returned (.bool true) ∧ Gr w w' := by
  go_enter Try.func3, Try.ntmps3
  go_wp2_with fail
  refine (spiral_any _ _).mono ?_
  rintro e w1 ⟨⟨a, b, c, hp, rfl⟩, hg1⟩
  have Hp := Lib.hid hp
  clear hp
  go_wp2_with fail
  refine (spiral_any _ _).mono ?_
  rintro e w2 ⟨⟨p, q, r, hq, rfl⟩, hg2⟩
  have Hq := Lib.hid hq
  clear hq
  have B : Blk w2 w1.heap.size 23 #[.int .i64 a, .int .i64 b] := Blk.made rfl hg2
  have hg : Gr w w2 := hg1.trans (((Gr.refl _).alloc _).trans hg2)
  by_cases hn : 0 ≤ n ∧ n < 10000
  · obtain ⟨k, rfl⟩ := Int.eq_ofNat_of_zero_le hn.1
    obtain ⟨rfl, rfl, rfl⟩ := spiralP_nat (by omega) Hp.out
    have k0 : ¬ ((k : Int) < 0) := by omega
    go_wp2
    obtain ⟨w3, hw3⟩ : ∃ w3, w3 = w2.alloc (.cells #[.int .i64 p, .int .i64 q] 23) := ⟨_, rfl⟩
    rw [← hw3]
    have hg3 : Gr w2 w3 := by rw [hw3]; exact (Gr.refl _).alloc _
    have C : Blk w3 w2.heap.size 23 #[.int .i64 p, .int .i64 q] := by rw [hw3]; exact Blk.new _ _ _
    clear hw3
    obtain ⟨a0, a1, _, _, _⟩ := (B.gr hg3).two
    obtain ⟨c0, c1, _, _, _⟩ := C.two
    go_region_held3 (fun u => u.cell? ⟨w1.heap.size, 0, none⟩ = some (.int .i64 (sp k).x) ∧ u.cell? ⟨w1.heap.size, 1, none⟩ = some (.int .i64 (sp k).y))
      (first | (go_keep; done) | (go_split_ands; refine ⟨Gr.cell hb1 ?_, Gr.cell hb1 ?_⟩ <;> assumption))
      (first
        | (go_at_call 12; refine (rspiral_any _ (by omega) _).mono ?_; rintro e w4 ⟨rfl, hb1⟩; have hg4 : Gr w3 w4 := Gr.trans ((Gr.refl _).drawn _) hb1)
        | (go_at_call 11; refine (to_any _ _ _).mono ?_; rintro e w5 ⟨rfl, hb1⟩; have hg5 : Gr w3 w5 := Gr.trans hg4 hb1))
    have a0' := hg5.cell a0
    have a1' := hg5.cell a1
    have c0' := hg5.cell c0
    have c1' := hg5.cell c1
    clear a0 a1 c0 c1
    go_wp2_with fail
    refine (awake_any _).mono ?_
    rintro e w6 ⟨rfl, hg6⟩
    have hgg : Gr w w6 := hg.trans (hg3.trans (hg5.trans hg6))
    have a0 := hg6.cell a0'
    have a1 := hg6.cell a1'
    have c0 := hg6.cell c0'
    have c1 := hg6.cell c1'
    clear a0' a1' c0' c1'
    by_cases hm : 0 ≤ m ∧ m < 10000
    · obtain ⟨j, rfl⟩ := Int.eq_ofNat_of_zero_le hm.1
      obtain ⟨rfl, rfl, rfl⟩ := spiralP_nat (by omega) Hq.out
      by_cases hkj : k = j
      · obtain rfl := hkj
        go_wp2
        go_ret
        exact ⟨ret_eq (by simp), hgg⟩
      · have hne := spiralP_inj hn hm Hp.out Hq.out (by omega)
        have hb1' : ((k : Int) == (j : Int)) = false := by rw [beq_eq_false_iff_ne]; omega
        have hb2' : ((sp k).x == (sp j).x && (sp k).y == (sp j).y) = false := by
          rw [Bool.and_eq_false_iff, beq_eq_false_iff_ne, beq_eq_false_iff_ne]
          by_cases h1 : (sp k).x = (sp j).x
          · exact .inr (fun h2 => hne ⟨h1, h2⟩)
          · exact .inl h1
        clear hne
        go_wp2
        all_goals
          go_ret
          exact ⟨ret_eq (by first | (simp; done) | (exfalso; simp_all)), hgg⟩
    · obtain ⟨rfl, rfl, rfl⟩ := spiralP_out hm Hq.out
      go_wp2
      go_ret
      exact ⟨ret_eq (by simp), hgg⟩
  · obtain ⟨rfl, rfl, rfl⟩ := spiralP_out hn Hp.out
    obtain ⟨a0, a1, _, _, _⟩ := B.two
    have hgo : (decide (n < 0) || decide (10000 ≤ n)) = true := by simp; omega
    rcases (by omega : n < 0 ∨ (¬ n < 0 ∧ 10000 ≤ n)) with h1 | ⟨h1, h2⟩
    all_goals
      go_wp2_with fail
      refine (awake_any _).mono ?_
      rintro e w6 ⟨rfl, hg6⟩
      have hgg : Gr w w6 := hg.trans (((Gr.refl _).alloc _).trans hg6)
      have a0' := hg6.cell (((Gr.refl w2).alloc (.cells #[.int .i64 p, .int .i64 q] 23)).cell a0)
      have a1' := hg6.cell (((Gr.refl w2).alloc (.cells #[.int .i64 p, .int .i64 q] 23)).cell a1)
      clear a0 a1
      go_wp2
      go_ret
      exact ⟨ret_eq (by simp), hgg⟩

end Go.Proofs.Ytiidgmlmfjlaiaa
