/-
  Walks: the document's Far, Side, Turn.
-/
import Derived.Test.YtiidgmlmfjlaiaaF
import Derived.BigQuiet
namespace Go.Proofs.Ytiidgmlmfjlaiaa
open Go.RowKit Fl Rg

set_option maxHeartbeats 1000000 in
theorem rfar_any (ax ay bx by' : Int) (w : World) :
    Calls Try.prog 23 #[.agg #[.int .i64 ax, .int .i64 ay], .agg #[.int .i64 bx, .int .i64 by']] w fun e w' => e = .returned (.int .i64 (farP ax ay bx by')) ∧ Gr w w' := by
  go_enter Try.func23, Try.ntmps23
  go_wp2_with fail
  refine (On_any _ _ _).mono ?_
  rintro e w1 ⟨rfl, hb1⟩
  have hg : Gr w w1 := Gr.trans (((Gr.refl w).alloc _).alloc _) hb1
  have k2 : Gr _ w1 := Gr.trans ((Gr.refl _).alloc _) hb1
  have B1 : Blk w1 w.heap.size 29 #[.int .i64 ax, .int .i64 ay] := Blk.made (by simp) k2
  have B2 : Blk w1 (w.heap.size + 1) 29 #[.int .i64 bx, .int .i64 by'] := Blk.made (by simp) hb1
  clear hb1 k2
  obtain ⟨a0, a1, _, _, _⟩ := B1.two
  obtain ⟨b0, b1, _, _, _⟩ := B2.two
  by_cases h1 : inB ax ay = true
  · have H1 := Lib.hid h1
    simp only [h1]
    clear h1
    go_wp2_with fail
    refine (On_any _ _ _).mono ?_
    rintro e w2 ⟨rfl, hb2⟩
    have a0' := hb2.cell a0
    have a1' := hb2.cell a1
    have b0' := hb2.cell b0
    have b1' := hb2.cell b1
    clear a0 a1 b0 b1
    by_cases h2 : inB bx by' = true
    · have H2 := Lib.hid h2
      simp only [h2]
      clear h2
      have p1 := inB_bounds H1.out
      have p2 := inB_bounds H2.out
      have m0 := abs_mul_le (x := ax - bx) (y := ax - bx) (m := 2000) (n := 2000) (by omega) (by omega)
      have m1 := abs_mul_le (x := ay - by') (y := ay - by') (m := 2000) (n := 2000) (by omega) (by omega)
      have e0 : IntKind.i64.wrap ((ax - bx) * (ax - bx)) = (ax - bx) * (ax - bx) := IntWalk.i64_in _ (by omega)
      have e1 : IntKind.i64.wrap ((ay - by') * (ay - by')) = (ay - by') * (ay - by') := IntWalk.i64_in _ (by omega)
      have e2 : IntKind.i64.wrap ((ax - bx) * (ax - bx) + (ay - by') * (ay - by')) = (ax - bx) * (ax - bx) + (ay - by') * (ay - by') := IntWalk.i64_in _ (by omega)
      clear m0 m1
      go_wp2
      go_ret
      exact ⟨ret_eq (by unfold farP; rw [if_pos (onV_yes H1.out H2.out)]; rfl), hg.trans hb2⟩
    · have hf : inB bx by' = false := by simpa using h2
      have Hf := Lib.hid hf
      simp only [hf]
      clear h2 hf
      go_wp2
      go_ret
      exact ⟨ret_eq (by unfold farP; rw [if_neg (onV_no2 Hf.out)]; rfl), hg.trans hb2⟩
  · have hf : inB ax ay = false := by simpa using h1
    have Hf := Lib.hid hf
    simp only [hf]
    clear h1 hf
    go_wp2
    go_ret
    exact ⟨ret_eq (by unfold farP; rw [if_neg (onV_no1 Hf.out)]; rfl), hg⟩

theorem onW_no1 {ax ay bx by' cx cy : Int} (h : inB ax ay = false) : ¬ onW ax ay bx by' cx cy = true := by simp [onW, h]
theorem onW_no2 {ax ay bx by' cx cy : Int} (h : inB bx by' = false) : ¬ onW ax ay bx by' cx cy = true := by simp [onW, h]
theorem onW_no3 {ax ay bx by' cx cy : Int} (h : inB cx cy = false) : ¬ onW ax ay bx by' cx cy = true := by simp [onW, h]
theorem onW_yes {ax ay bx by' cx cy : Int} (h1 : inB ax ay = true) (h2 : inB bx by' = true) (h3 : inB cx cy = true) : onW ax ay bx by' cx cy = true := by simp [onW, h1, h2, h3]

set_option maxHeartbeats 2000000 in
theorem rside_any (ax ay bx by' cx cy : Int) (w : World) :
    Calls Try.prog 27 #[.agg #[.int .i64 ax, .int .i64 ay], .agg #[.int .i64 bx, .int .i64 by'], .agg #[.int .i64 cx, .int .i64 cy]] w fun e w' => e = .returned (.int .i64 (sideP ax ay bx by' cx cy)) ∧ Gr w w' := by
  go_enter Try.func27, Try.ntmps27
  go_wp2_with fail
  refine (On_any _ _ _).mono ?_
  rintro e w1 ⟨rfl, hb1⟩
  have hg : Gr w w1 := Gr.trans ((((Gr.refl w).alloc _).alloc _).alloc _) hb1
  have k3 : Gr _ w1 := Gr.trans ((Gr.refl _).alloc _) hb1
  have k2 : Gr _ w1 := Gr.trans ((Gr.refl _).alloc _) k3
  have B1 : Blk w1 w.heap.size 29 #[.int .i64 ax, .int .i64 ay] := Blk.made (by simp) k2
  have B2 : Blk w1 (w.heap.size + 1) 29 #[.int .i64 bx, .int .i64 by'] := Blk.made (by simp) k3
  have B3 : Blk w1 (w.heap.size + 1 + 1) 29 #[.int .i64 cx, .int .i64 cy] := Blk.made (by simp) hb1
  clear hb1 k2 k3
  obtain ⟨a0, a1, _, _, _⟩ := B1.two
  obtain ⟨b0, b1, _, _, _⟩ := B2.two
  obtain ⟨c0, c1, _, _, _⟩ := B3.two
  by_cases h1 : inB ax ay = true
  · have H1 := Lib.hid h1
    simp only [h1]
    clear h1
    go_wp2_with fail
    refine (On_any _ _ _).mono ?_
    rintro e w2 ⟨rfl, hb2⟩
    have a0' := hb2.cell a0
    have a1' := hb2.cell a1
    have b0' := hb2.cell b0
    have b1' := hb2.cell b1
    have c0' := hb2.cell c0
    have c1' := hb2.cell c1
    clear a0 a1 b0 b1 c0 c1
    by_cases h2 : inB bx by' = true
    · have H2 := Lib.hid h2
      simp only [h2]
      clear h2
      go_wp2_with fail
      refine (On_any _ _ _).mono ?_
      rintro e w3 ⟨rfl, hb3⟩
      have a0 := hb3.cell a0'
      have a1 := hb3.cell a1'
      have b0 := hb3.cell b0'
      have b1 := hb3.cell b1'
      have c0 := hb3.cell c0'
      have c1 := hb3.cell c1'
      clear a0' a1' b0' b1' c0' c1'
      have hg3 := (hg.trans hb2).trans hb3
      by_cases h3 : inB cx cy = true
      · have H3 := Lib.hid h3
        simp only [h3]
        clear h3
        have p1 := inB_bounds H1.out
        have p2 := inB_bounds H2.out
        have p3 := inB_bounds H3.out
        have m0 := abs_mul_le (x := bx - ax) (y := cy - ay) (m := 2000) (n := 2000) (by omega) (by omega)
        have m1 := abs_mul_le (x := by' - ay) (y := cx - ax) (m := 2000) (n := 2000) (by omega) (by omega)
        have e0 : IntKind.i64.wrap ((bx - ax) * (cy - ay)) = (bx - ax) * (cy - ay) := IntWalk.i64_in _ (by omega)
        have e1 : IntKind.i64.wrap ((by' - ay) * (cx - ax)) = (by' - ay) * (cx - ax) := IntWalk.i64_in _ (by omega)
        have e2 : IntKind.i64.wrap ((bx - ax) * (cy - ay) - (by' - ay) * (cx - ax)) = (bx - ax) * (cy - ay) - (by' - ay) * (cx - ax) := IntWalk.i64_in _ (by omega)
        clear m0 m1
        have hs : sideP ax ay bx by' cx cy = (if 0 < crossP ax ay bx by' cx cy then 1 else if crossP ax ay bx by' cx cy < 0 then -1 else 0) := by
          unfold sideP; rw [if_pos (onW_yes H1.out H2.out H3.out)]
        have Hs := Lib.hid hs
        clear hs
        unfold crossP at Hs
        go_wp2
        all_goals go_ret
        all_goals refine ⟨ret_eq ?_, hg3⟩
        all_goals rw [Hs.out]
        · rw [if_pos (by omega)]; rfl
        · rw [if_neg (by omega), if_pos (by omega)]; rfl
        · rw [if_neg (by omega), if_neg (by omega)]; rfl
      · have hf : inB cx cy = false := by simpa using h3
        have Hf := Lib.hid hf
        simp only [hf]
        clear h3 hf
        go_wp2
        go_ret
        exact ⟨ret_eq (by unfold sideP; rw [if_neg (onW_no3 Hf.out)]; rfl), hg3⟩
    · have hf : inB bx by' = false := by simpa using h2
      have Hf := Lib.hid hf
      simp only [hf]
      clear h2 hf
      go_wp2
      go_ret
      exact ⟨ret_eq (by unfold sideP; rw [if_neg (onW_no2 Hf.out)]; rfl), hg.trans hb2⟩
  · have hf : inB ax ay = false := by simpa using h1
    have Hf := Lib.hid hf
    simp only [hf]
    clear h1 hf
    go_wp2
    go_ret
    exact ⟨ret_eq (by unfold sideP; rw [if_neg (onW_no1 Hf.out)]; rfl), hg⟩

end Go.Proofs.Ytiidgmlmfjlaiaa
