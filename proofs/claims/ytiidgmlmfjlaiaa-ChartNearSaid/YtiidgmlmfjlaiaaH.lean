/-
  Walks: the document's Turn.
-/
import Derived.Test.YtiidgmlmfjlaiaaG
namespace Go.Proofs.Ytiidgmlmfjlaiaa
open Go.RowKit Fl Rg

theorem rot_next (k : Nat) (hk : k < 3) (x y : Int) : rotx (k + 1) x y = - roty k x y ∧ roty (k + 1) x y = rotx k x y := by
  match k, hk with
  | 0, _ => simp [rotx, roty]
  | 1, _ => simp [rotx, roty]
  | 2, _ => simp [rotx, roty]

theorem quad_neg (n : Int) (h : n.tmod 4 < 0) : n.tmod 4 + 4 = (quad n : Int) := by
  have h1 := quad_go n
  have h2 : -4 < n.tmod 4 := Int.lt_tmod_of_pos n (by omega)
  rw [Int.tmod_eq_of_lt (by omega) (by omega)] at h1
  exact h1
theorem quad_pos (n : Int) (h : ¬ n.tmod 4 < 0) : n.tmod 4 = (quad n : Int) := by
  have h1 := quad_go n
  have h2 : n.tmod 4 < 4 := Int.tmod_lt_of_pos n (by omega)
  have h3 : (n.tmod 4 + 4).tmod 4 = n.tmod 4 := by
    rw [Int.tmod_eq_emod_of_nonneg (by omega)]; omega
  rw [h3] at h1
  exact h1

set_option maxHeartbeats 1000000 in
theorem rturn_any (ax ay bx by' n : Int) (w : World) :
    Calls Try.prog 18 #[.agg #[.int .i64 ax, .int .i64 ay], .agg #[.int .i64 bx, .int .i64 by'], .int .i64 n] w fun e w' => RetS (turnP ax ay bx by' (quad n)) e ∧ Gr w w' := by
  go_enter Try.func18, Try.ntmps18
  go_wp2_with fail
  refine (On_any _ _ _).mono ?_
  rintro e w1 ⟨rfl, hb1⟩
  have hg : Gr w w1 := Gr.trans ((((Gr.refl w).alloc _).alloc _).alloc _) hb1
  have k3 : Gr _ w1 := Gr.trans ((Gr.refl _).alloc _) hb1
  have k2 : Gr _ w1 := Gr.trans ((Gr.refl _).alloc _) k3
  have B1 : Blk w1 w.heap.size 29 #[.int .i64 ax, .int .i64 ay] := Blk.made (by simp) k2
  have B2 : Blk w1 (w.heap.size + 1) 29 #[.int .i64 bx, .int .i64 by'] := Blk.made (by simp) k3
  have B3 : Blk w1 (w.heap.size + 1 + 1) 29 #[.int .i64 0, .int .i64 0] := Blk.made (by simp) hb1
  clear hb1 k2 k3
  obtain ⟨a0, a1, _, _, _⟩ := B1.two
  obtain ⟨b0, b1, _, _, _⟩ := B2.two
  obtain ⟨c0, c1, f0, f1, _⟩ := B3.two
  by_cases h1 : inB ax ay = true
  · have H1 := Lib.hid h1
    simp only [h1]
    clear h1
    go_wp2_with fail
    refine (On_any _ _ _).mono ?_
    rintro e w2 ⟨rfl, hb2⟩
    have a0' := hb2.cell a0
    have a1' := hb2.cell a1
    have b0' := hb2.cell b0
    have b1' := hb2.cell b1
    have c0' := hb2.cell c0
    have c1' := hb2.cell c1
    have f0' := (hb2.frozen c0).trans f0
    have f1' := (hb2.frozen c1).trans f1
    clear a0 a1 b0 b1 c0 c1 f0 f1
    by_cases h2 : inB bx by' = true
    · have H2 := Lib.hid h2
      simp only [h2]
      clear h2
      have p1 := inB_bounds H1.out
      have p2 := inB_bounds H2.out
      have dxb : (ax - bx).natAbs ≤ 2000 := by omega
      have dyb : (ay - by').natAbs ≤ 2000 := by omega
      go_wp2
      go_quiet (fail)
      have hq := quad_lt n
      have ht1 : -4 < n.tmod 4 := Int.lt_tmod_of_pos n (by omega)
      have ht2 : n.tmod 4 < 4 := Int.tmod_lt_of_pos n (by omega)
      go_wp2
      all_goals
        first
          | rw [quad_pos n (by omega)]
          | rw [quad_neg n (by omega)]
        obtain ⟨q, hqq, hq4⟩ : ∃ q, q = quad n ∧ q < 4 := ⟨_, rfl, hq⟩
        rw [← hqq]
        have Hqq := Lib.hid hqq
        clear hqq
        go_loopw [8, 9, 10] (fun x y i wr => ∃ k : Nat, k ≤ q ∧ i = .int .i64 k ∧ x = .int .i64 (rotx k (ax - bx) (ay - by')) ∧ y = .int .i64 (roty k (ax - bx) (ay - by')) ∧ wr = w2.drewN nq) (fun _ _ i _ => q - (intOf i).toNat)
        case atStart => exact ⟨0, Nat.zero_le _, rfl, rfl, rfl, rfl⟩
        case round =>
          obtain ⟨k, hk, rfl, rfl, rfl, rfl⟩ := hrel
          have rb := rot_bound k (ax - bx) (ay - by') 2000 dxb dyb
          by_cases hlt : k < q
          · have rn := rot_next k (by omega) (ax - bx) (ay - by')
            have Rn := Lib.hid rn
            clear rn
            generalize hX : rotx k (ax - bx) (ay - by') = X at *
            generalize hY : roty k (ax - bx) (ay - by') = Y at *
            clear hX hY
            go_wp2
            go_roundw
            case rel => exact ⟨k + 1, by omega, by go_num, by rw [Rn.out.1], by rw [Rn.out.2], by first | trivial | rfl⟩
            case measure => simp [intOf]; omega
          · obtain rfl : k = q := by omega
            generalize hX : rotx k (ax - bx) (ay - by') = X at *
            generalize hY : roty k (ax - bx) (ay - by') = Y at *
            have HX := Lib.hid hX
            have HY := Lib.hid hY
            clear hX hY
            go_wp2_with fail
            refine (rheld_any _ _ _).mono ?_
            rintro e w3 ⟨⟨p, q, r, Hp, rfl⟩, hb3⟩
            have Hq := Lib.hid Hp
            clear Hp
            have hb3' : Gr w2 w3 := Gr.trans ((Gr.refl _).drewN _) hb3
            have k0 := hb3'.cell c0'
            have k1 := hb3'.cell c1'
            have k2 := (hb3'.frozen c0').trans f0'
            have k3 := (hb3'.frozen c1').trans f1'
            go_wp2
            refine bodyPost_ret (v := .tuple #[.agg #[.int .i64 p, .int .i64 q], .int .i64 r]) (by simp [results, Try.results18, go_sem, k0, k1]) rfl ⟨⟨p, q, r, by unfold turnP; rw [if_pos (onV_yes H1.out H2.out), ← Hqq.out, HX.out, HY.out]; exact Hq.out, rfl⟩, ?_⟩
            exact (((hg.trans hb2).trans hb3').set (by simp; omega) _).set (by simp; omega) _
    · have hf : inB bx by' = false := by simpa using h2
      have Hf := Lib.hid hf
      simp only [hf]
      clear h2 hf
      go_wp2
      refine bodyPost_ret (v := .tuple #[.agg #[.int .i64 0, .int .i64 0], .int .i64 1]) (by simp [results, Try.results18, go_sem, c0', c1']) rfl ⟨⟨0, 0, 1, by unfold turnP; rw [if_neg (onV_no2 Hf.out)], rfl⟩, ?_⟩
      exact ((hg.trans hb2).set (by simp; omega) _).set (by simp; omega) _
  · have hf : inB ax ay = false := by simpa using h1
    have Hf := Lib.hid hf
    simp only [hf]
    clear h1 hf
    go_wp2
    refine bodyPost_ret (v := .tuple #[.agg #[.int .i64 0, .int .i64 0], .int .i64 1]) (by simp [results, Try.results18, go_sem, c0, c1]) rfl ⟨⟨0, 0, 1, by unfold turnP; rw [if_neg (onV_no1 Hf.out)], rfl⟩, ?_⟩
    exact (hg.set (by simp; omega) _).set (by simp; omega) _

end Go.Proofs.Ytiidgmlmfjlaiaa
