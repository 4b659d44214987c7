/-
  Walks: the document's functions without a loop.
-/
import Derived.Test.YtiidgmlmfjlaiaaE
namespace Go.Proofs.Ytiidgmlmfjlaiaa
open Go.RowKit Fl Rg

set_option maxHeartbeats 400000 in
theorem On_any (x y : Int) (w : World) :
    Calls Try.prog 20 #[.agg #[.int .i64 x, .int .i64 y]] w fun e w' => e = .returned (.bool (inB x y)) ∧ Gr w w' := by
  go_enter Try.func20, Try.ntmps20
  go_wp2
  all_goals go_ret
  all_goals refine ⟨ret_eq ?_, (Below.refl _ _).alloc (Nat.le_refl _) _⟩
  all_goals simp [inB, *]
  all_goals omega

set_option maxHeartbeats 400000 in
theorem rheld_any (x y : Int) (w : World) :
    Calls Try.prog 32 #[.agg #[.int .i64 x, .int .i64 y]] w fun e w' => RetS (heldP x y) e ∧ Gr w w' := by
  go_enter Try.func32, Try.ntmps32
  go_wp2_with fail
  refine (On_any _ _ _).mono ?_
  rintro e w1 ⟨rfl, hb1⟩
  have hg : Gr w w1 := Gr.trans (((Gr.refl w).alloc _).alloc _) hb1
  have k2 : Gr _ w1 := Gr.trans ((Gr.refl _).alloc _) hb1
  have B1 : Blk w1 w.heap.size 29 #[.int .i64 x, .int .i64 y] := Blk.made (by simp) k2
  have B2 : Blk w1 (w.heap.size + 1) 29 #[.int .i64 0, .int .i64 0] := Blk.made (by simp) hb1
  clear hb1 k2
  obtain ⟨a0, a1, _, _, _⟩ := B1.two
  obtain ⟨b0, b1, f0, f1, _⟩ := B2.two
  by_cases h1 : inB x y = true
  · have H1 := Lib.hid h1
    simp only [h1]
    clear h1
    go_wp2
    refine bodyPost_ret (v := .tuple #[.agg #[.int .i64 x, .int .i64 y], .int .i64 0]) (by simp [results, Try.results32, go_sem, b0, b1]) rfl ⟨⟨x, y, 0, by unfold heldP; rw [if_pos H1.out], rfl⟩, ?_⟩
    exact (hg.set (by simp) _).set (by simp) _
  · have hf : inB x y = false := by simpa using h1
    have H1 := Lib.hid h1
    simp only [hf]
    clear h1 hf
    go_wp2
    refine bodyPost_ret (v := .tuple #[.agg #[.int .i64 0, .int .i64 0], .int .i64 11]) (by simp [results, Try.results32, go_sem, b0, b1]) rfl ⟨⟨0, 0, 11, by unfold heldP; rw [if_neg H1.out], rfl⟩, ?_⟩
    exact (hg.set (by simp) _).set (by simp) _

theorem onV_no1 {ax ay bx by' : Int} (h : inB ax ay = false) : ¬ onV ax ay bx by' = true := by simp [onV, h]
theorem onV_no2 {ax ay bx by' : Int} (h : inB bx by' = false) : ¬ onV ax ay bx by' = true := by simp [onV, h]
theorem onV_yes {ax ay bx by' : Int} (h1 : inB ax ay = true) (h2 : inB bx by' = true) : onV ax ay bx by' = true := by simp [onV, h1, h2]
theorem w64 {x : Int} (h : -9223372036854775808 ≤ x ∧ x ≤ 9223372036854775807) : wrap64 x = x := by unfold wrap64; omega

set_option maxHeartbeats 1000000 in
theorem rmove_any (ax ay bx by' : Int) (w : World) :
    Calls Try.prog 14 #[.agg #[.int .i64 ax, .int .i64 ay], .agg #[.int .i64 bx, .int .i64 by']] w fun e w' => RetS (moveP ax ay bx by') e ∧ Gr w w' := by
  go_enter Try.func14, Try.ntmps14
  go_wp2_with fail
  refine (On_any _ _ _).mono ?_
  rintro e w1 ⟨rfl, hb1⟩
  have hg : Gr w w1 := Gr.trans ((((Gr.refl w).alloc _).alloc _).alloc _) hb1
  have k3 : Gr _ w1 := Gr.trans ((Gr.refl _).alloc _) hb1
  have k2 : Gr _ w1 := Gr.trans ((Gr.refl _).alloc _) k3
  have B1 : Blk w1 w.heap.size 29 #[.int .i64 ax, .int .i64 ay] := Blk.made (by simp) k2
  have B2 : Blk w1 (w.heap.size + 1) 29 #[.int .i64 bx, .int .i64 by'] := Blk.made (by simp) k3
  have B3 : Blk w1 (w.heap.size + 1 + 1) 29 #[.int .i64 0, .int .i64 0] := Blk.made (by simp) hb1
  clear hb1 k2 k3
  obtain ⟨a0, a1, _, _, _⟩ := B1.two
  obtain ⟨b0, b1, _, _, _⟩ := B2.two
  obtain ⟨c0, c1, f0, f1, _⟩ := B3.two
  by_cases h1 : inB ax ay = true
  · have H1 := Lib.hid h1
    simp only [h1]
    clear h1
    go_wp2_with fail
    refine (On_any _ _ _).mono ?_
    rintro e w2 ⟨rfl, hb2⟩
    have a0' := hb2.cell a0
    have a1' := hb2.cell a1
    have b0' := hb2.cell b0
    have b1' := hb2.cell b1
    have c0' := hb2.cell c0
    have c1' := hb2.cell c1
    have f0' := (hb2.frozen c0).trans f0
    have f1' := (hb2.frozen c1).trans f1
    clear a0 a1 b0 b1 c0 c1 f0 f1
    by_cases h2 : inB bx by' = true
    · have H2 := Lib.hid h2
      simp only [h2]
      clear h2
      have p1 := inB_bounds H1.out
      have p2 := inB_bounds H2.out
      skip
      go_wp2_with fail
      refine (rheld_any _ _ _).mono ?_
      rintro e w3 ⟨⟨p, q, r, Hp, rfl⟩, hb3⟩
      have Hq := Lib.hid Hp
      clear Hp
      have k0 := hb3.cell c0'
      have k1 := hb3.cell c1'
      have k2 := (hb3.frozen c0').trans f0'
      have k3 := (hb3.frozen c1').trans f1'
      go_wp2
      refine bodyPost_ret (v := .tuple #[.agg #[.int .i64 p, .int .i64 q], .int .i64 r]) (by simp [results, Try.results14, go_sem, k0, k1]) rfl ⟨⟨p, q, r, by unfold moveP; rw [if_pos (onV_yes H1.out H2.out)]; exact Hq.out, rfl⟩, ?_⟩
      exact (((hg.trans hb2).trans hb3).set (by simp; omega) _).set (by simp; omega) _
    · have hf : inB bx by' = false := by simpa using h2
      have Hf := Lib.hid hf
      simp only [hf]
      clear h2 hf
      go_wp2
      refine bodyPost_ret (v := .tuple #[.agg #[.int .i64 0, .int .i64 0], .int .i64 1]) (by simp [results, Try.results14, go_sem, c0', c1']) rfl ⟨⟨0, 0, 1, by unfold moveP; rw [if_neg (onV_no2 Hf.out)], rfl⟩, ?_⟩
      exact ((hg.trans hb2).set (by simp; omega) _).set (by simp; omega) _
  · have hf : inB ax ay = false := by simpa using h1
    have Hf := Lib.hid hf
    simp only [hf]
    clear h1 hf
    go_wp2
    refine bodyPost_ret (v := .tuple #[.agg #[.int .i64 0, .int .i64 0], .int .i64 1]) (by simp [results, Try.results14, go_sem, c0, c1]) rfl ⟨⟨0, 0, 1, by unfold moveP; rw [if_neg (onV_no1 Hf.out)], rfl⟩, ?_⟩
    exact (hg.set (by simp; omega) _).set (by simp; omega) _

set_option maxHeartbeats 1000000 in
theorem rtimes_any (ax ay bx by' : Int) (w : World) :
    Calls Try.prog 16 #[.agg #[.int .i64 ax, .int .i64 ay], .agg #[.int .i64 bx, .int .i64 by']] w fun e w' => RetS (timesP ax ay bx by') e ∧ Gr w w' := by
  go_enter Try.func16, Try.ntmps16
  go_wp2_with fail
  refine (On_any _ _ _).mono ?_
  rintro e w1 ⟨rfl, hb1⟩
  have hg : Gr w w1 := Gr.trans ((((Gr.refl w).alloc _).alloc _).alloc _) hb1
  have k3 : Gr _ w1 := Gr.trans ((Gr.refl _).alloc _) hb1
  have k2 : Gr _ w1 := Gr.trans ((Gr.refl _).alloc _) k3
  have B1 : Blk w1 w.heap.size 29 #[.int .i64 ax, .int .i64 ay] := Blk.made (by simp) k2
  have B2 : Blk w1 (w.heap.size + 1) 29 #[.int .i64 bx, .int .i64 by'] := Blk.made (by simp) k3
  have B3 : Blk w1 (w.heap.size + 1 + 1) 29 #[.int .i64 0, .int .i64 0] := Blk.made (by simp) hb1
  clear hb1 k2 k3
  obtain ⟨a0, a1, _, _, _⟩ := B1.two
  obtain ⟨b0, b1, _, _, _⟩ := B2.two
  obtain ⟨c0, c1, f0, f1, _⟩ := B3.two
  by_cases h1 : inB ax ay = true
  · have H1 := Lib.hid h1
    simp only [h1]
    clear h1
    go_wp2_with fail
    refine (On_any _ _ _).mono ?_
    rintro e w2 ⟨rfl, hb2⟩
    have a0' := hb2.cell a0
    have a1' := hb2.cell a1
    have b0' := hb2.cell b0
    have b1' := hb2.cell b1
    have c0' := hb2.cell c0
    have c1' := hb2.cell c1
    have f0' := (hb2.frozen c0).trans f0
    have f1' := (hb2.frozen c1).trans f1
    clear a0 a1 b0 b1 c0 c1 f0 f1
    by_cases h2 : inB bx by' = true
    · have H2 := Lib.hid h2
      simp only [h2]
      clear h2
      have p1 := inB_bounds H1.out
      have p2 := inB_bounds H2.out
      have m0 := abs_mul_le (x := ax) (y := bx) (m := 1000) (n := 1000) (by omega) (by omega)
      have m1 := abs_mul_le (x := ay) (y := by') (m := 1000) (n := 1000) (by omega) (by omega)
      have m2 := abs_mul_le (x := ax) (y := by') (m := 1000) (n := 1000) (by omega) (by omega)
      have m3 := abs_mul_le (x := ay) (y := bx) (m := 1000) (n := 1000) (by omega) (by omega)
      have e0 : wrap64 (ax * bx) = ax * bx := w64 (by omega)
      have e1 : wrap64 (ay * by') = ay * by' := w64 (by omega)
      have e2 : wrap64 (ax * by') = ax * by' := w64 (by omega)
      have e3 : wrap64 (ay * bx) = ay * bx := w64 (by omega)
      have e4 : wrap64 (ax * bx - ay * by') = ax * bx - ay * by' := w64 (by omega)
      have e5 : wrap64 (ax * by' + ay * bx) = ax * by' + ay * bx := w64 (by omega)
      clear m0 m1 m2 m3
      go_wp2_with fail
      refine (rheld_any _ _ _).mono ?_
      rintro e w3 ⟨⟨p, q, r, Hp, rfl⟩, hb3⟩
      have Hq := Lib.hid Hp
      clear Hp
      have k0 := hb3.cell c0'
      have k1 := hb3.cell c1'
      have k2 := (hb3.frozen c0').trans f0'
      have k3 := (hb3.frozen c1').trans f1'
      go_wp2
      refine bodyPost_ret (v := .tuple #[.agg #[.int .i64 p, .int .i64 q], .int .i64 r]) (by simp [results, Try.results16, go_sem, k0, k1]) rfl ⟨⟨p, q, r, by unfold timesP; rw [if_pos (onV_yes H1.out H2.out)]; exact Hq.out, rfl⟩, ?_⟩
      exact (((hg.trans hb2).trans hb3).set (by simp; omega) _).set (by simp; omega) _
    · have hf : inB bx by' = false := by simpa using h2
      have Hf := Lib.hid hf
      simp only [hf]
      clear h2 hf
      go_wp2
      refine bodyPost_ret (v := .tuple #[.agg #[.int .i64 0, .int .i64 0], .int .i64 1]) (by simp [results, Try.results16, go_sem, c0', c1']) rfl ⟨⟨0, 0, 1, by unfold timesP; rw [if_neg (onV_no2 Hf.out)], rfl⟩, ?_⟩
      exact ((hg.trans hb2).set (by simp; omega) _).set (by simp; omega) _
  · have hf : inB ax ay = false := by simpa using h1
    have Hf := Lib.hid hf
    simp only [hf]
    clear h1 hf
    go_wp2
    refine bodyPost_ret (v := .tuple #[.agg #[.int .i64 0, .int .i64 0], .int .i64 1]) (by simp [results, Try.results16, go_sem, c0, c1]) rfl ⟨⟨0, 0, 1, by unfold timesP; rw [if_neg (onV_no1 Hf.out)], rfl⟩, ?_⟩
    exact (hg.set (by simp; omega) _).set (by simp; omega) _

end Go.Proofs.Ytiidgmlmfjlaiaa
