/-
  Walks: Move and its like.
-/
import Derived.Test.YtiidgmlmfjlaiaaA
import Derived.Deep.RegionHeld3
import Derived.Deep.RegionWith
namespace Go.Proofs.Ytiidgmlmfjlaiaa
open Go.RowKit Fl Rg

def heldP (x y : Int) : Int × Int × Int := if inB x y = true then (x, y, 0) else (0, 0, 11)

set_option maxHeartbeats 400000 in
theorem held_any (re im : Nat) (x y : Int) (hre : Rep re x) (him : Rep im y) (hx : x.natAbs < 9007199254740992) (hy : y.natAbs < 9007199254740992) (w : World) :
    Calls Try.prog 30 #[.complex .f64 re im] w fun e w' => (∃ a b c, heldP x y = (a, b, c) ∧ e = .returned (.tuple #[.agg #[.int .i64 a, .int .i64 b], .int .i64 c])) ∧ Gr w w' := by
  have H1 := Lib.hid hre
  have H2 := Lib.hid him
  have H3 := Lib.hid hx
  have H4 := Lib.hid hy
  clear hre him hx hy
  go_enter Try.func30, Try.ntmps30
  go_wp2_with fail
  refine (spot_any _ _ _ _ H1.out H2.out H3.out H4.out _).mono ?_
  rintro e w1 ⟨rfl, hb1⟩
  have hg : Gr w w1 := Gr.trans ((Gr.refl w).alloc _) hb1
  have hB : Blk w1 w.heap.size 23 #[.int .i64 0, .int .i64 0] := (Blk.new w _ _).gr hb1
  obtain ⟨c0, c1, f0, f1, hlt⟩ := hB.two
  clear hb1
  go_wp2_with fail
  refine (in_any _ _ _).mono ?_
  rintro e w2 ⟨rfl, hb2⟩
  have hg2 : Gr w w2 := Gr.trans (hg.alloc _) hb2
  have hB2 := (hB.alloc (.cells #[.int .i64 x, .int .i64 y] 23)).gr hb2
  have hC2 := (Blk.new w1 23 #[.int .i64 x, .int .i64 y]).gr hb2
  clear c0 c1 f0 f1
  obtain ⟨c0, c1, f0, f1, hlt2⟩ := hB2.two
  obtain ⟨d0, d1, _, _, hlt3⟩ := hC2.two
  have HB := Lib.hid hB2
  clear hb2 hB2 hC2 hB hg
  by_cases hin : inB x y = true
  · have Hin := Lib.hid hin
    simp only [hin]
    clear hin
    go_wp2
    refine bodyPost_ret (v := .tuple #[.agg #[.int .i64 x, .int .i64 y], .int .i64 0]) (by simp [results, Try.results30, go_sem, c0, c1]) rfl ⟨⟨x, y, 0, by unfold heldP; rw [if_pos Hin.out], rfl⟩, ?_⟩
    exact (hg2.set (Nat.le_refl _) _).set (Nat.le_refl _) _
  · have hf : inB x y = false := by simpa using hin
    have Hin := Lib.hid hin
    simp only [hf]
    clear hin hf
    go_wp2
    refine bodyPost_ret (v := .tuple #[.agg #[.int .i64 0, .int .i64 0], .int .i64 11]) (by simp [results, Try.results30, go_sem, c0, c1]) rfl ⟨⟨0, 0, 11, by unfold heldP; rw [if_neg Hin.out], rfl⟩, ?_⟩
    exact (hg2.set (Nat.le_refl _) _).set (Nat.le_refl _) _

theorem run_csum (op : BinOp) (hop : op = .add ∨ op = .sub) {a b c d re im : Nat} (h : cSumBits op .f64 a b c d = some (re, im)) (t : TypeId) (w : World) :
    (binOp op t (.complex .f64 a b) (.complex .f64 c d)).run Try.prog w = .ok (.complex .f64 re im) w := run_complex_sum w op hop t .f64 a b c d re im h

theorem run_cmul {a b c d re im : Nat} (h : cMulBits a b c d = some (re, im)) (t : TypeId) (w : World) :
    (binOp .mul t (.complex .f64 a b) (.complex .f64 c d)).run Try.prog w = .ok (.complex .f64 re im) w := run_complex_mul w t a b c d re im h

def onV (ax ay bx by' : Int) : Bool := inB ax ay && inB bx by'

theorem inB2_bounds {ax ay bx by' : Int} (h : onV ax ay bx by' = true) : (-1000 ≤ ax ∧ ax ≤ 1000 ∧ -1000 ≤ ay ∧ ay ≤ 1000) ∧ (-1000 ≤ bx ∧ bx ≤ 1000 ∧ -1000 ≤ by' ∧ by' ≤ 1000) := by
  unfold onV at h
  rw [Bool.and_eq_true] at h
  exact ⟨inB_bounds h.1, inB_bounds h.2⟩

def moveP (ax ay bx by' : Int) : Int × Int × Int := if onV ax ay bx by' = true then heldP (ax + bx) (ay + by') else (0, 0, 1)
def timesP (ax ay bx by' : Int) : Int × Int × Int := if onV ax ay bx by' = true then heldP (ax * bx - ay * by') (ax * by' + ay * bx) else (0, 0, 1)

theorem abs_mul_le {x y : Int} {m n : Nat} (hx : x.natAbs ≤ m) (hy : y.natAbs ≤ n) : (x * y).natAbs ≤ m * n := natAbs_mul_le hx hy

set_option maxHeartbeats 1000000 in
theorem move_any (ax ay bx by' : Int) (w : World) :
    Calls Try.prog 13 #[.agg #[.int .i64 ax, .int .i64 ay], .agg #[.int .i64 bx, .int .i64 by']] w fun e w' =>
      (∃ a b c, moveP ax ay bx by' = (a, b, c) ∧ e = .returned (.tuple #[.agg #[.int .i64 a, .int .i64 b], .int .i64 c])) ∧ Gr w w' := by
  go_enter Try.func13, Try.ntmps13
  go_wp2_with fail
  refine (on_any [(ax, ay), (bx, by')] 2 _ _ rfl (by omega) ?_ ?_).mono ?_
  · intro i hi
    match i, hi with
    | 0, _ => go_simp
    | 1, _ => go_simp
  · intro i hi
    match i, hi with
    | 0, _ => go_simp
    | 1, _ => go_simp
  rintro e w1 ⟨rfl, hb1⟩
  have hg : Gr w w1 := Gr.trans ((((Gr.refl w).alloc _).alloc _).alloc _ |>.alloc _) hb1
  have k3 : Gr _ w1 := Gr.trans ((Gr.refl _).alloc _) hb1
  have k2 : Gr _ w1 := Gr.trans ((Gr.refl _).alloc _) k3
  have k1 : Gr _ w1 := Gr.trans ((Gr.refl _).alloc _) k2
  have B1 : Blk w1 w.heap.size 23 #[.int .i64 ax, .int .i64 ay] := Blk.made rfl k1
  have B2 : Blk w1 (w.heap.size + 1) 23 #[.int .i64 bx, .int .i64 by'] := Blk.made (by simp) k2
  have B3 : Blk w1 (w.heap.size + 1 + 1) 23 #[.int .i64 0, .int .i64 0] := Blk.made (by simp) k3
  clear hb1 k1 k2 k3
  have hall : ([(ax, ay), (bx, by')].all fun p => inB p.1 p.2) = onV ax ay bx by' := by simp [onV]
  rw [hall]
  clear hall
  obtain ⟨c0, c1, f0, f1, _⟩ := B3.two
  by_cases hin : onV ax ay bx by' = true
  · have Hin := Lib.hid hin
    simp only [hin]
    clear hin
    go_wp2
    obtain ⟨a0, a1, _, _, _⟩ := B1.two
    obtain ⟨b0, b1, _, _, _⟩ := B2.two
    have bd := inB2_bounds Hin.out
    go_region_held3 (fun u => u.cell? ⟨w.heap.size, 0, none⟩ = some (.int .i64 ax) ∧ u.cell? ⟨w.heap.size, 1, none⟩ = some (.int .i64 ay) ∧ u.cell? ⟨w.heap.size + 1, 0, none⟩ = some (.int .i64 bx) ∧ u.cell? ⟨w.heap.size + 1, 1, none⟩ = some (.int .i64 by'))
      (first | (go_keep; done) | (go_split_ands; refine ⟨Gr.cell hb1 ?_, Gr.cell hb1 ?_, Gr.cell hb1 ?_, Gr.cell hb1 ?_⟩ <;> assumption) | (go_split_ands; refine ⟨?_, ?_, ?_, ?_⟩ <;> (refine set_keep (by simp; try omega) (set_keep (by simp; try omega) ?_); assumption)))
      (first
        | (go_at_call_of 31 (Value.int .i64 ax); refine (at_any _ _ ?_ ?_ _).mono ?_; omega; omega; rintro e w2 ⟨⟨re1, im1, g1, g2, rfl⟩, hb1⟩; have hg2 : Gr w1 w2 := Gr.trans ((Gr.refl _).drawn _) hb1)
        | (go_at_call_of 31 (Value.int .i64 bx); refine (at_any _ _ ?_ ?_ _).mono ?_; omega; omega; rintro e w3 ⟨⟨re2, im2, g3, g4, rfl⟩, hb1⟩
           obtain ⟨re, im, hc, g5, g6⟩ := rep_csum g1 g2 g3 g4 (by omega) (by omega)
           have hrun := run_csum .add (.inl rfl) hc
           have hg3 : Gr w1 w3 := Gr.trans hg2 hb1)
        | (go_at_call 30; refine (held_any _ _ _ _ g5 g6 ?_ ?_ _).mono ?_; omega; omega; rintro e w4 ⟨⟨p, q, r, Hp, rfl⟩, hb1⟩
           have Hq := Lib.hid Hp
           clear Hp
           have hg4 : Gr w1 w4 := Gr.trans hg3 hb1
           have k0 := hg4.cell c0
           have k1 := hg4.cell c1
           have k2 := (hg4.frozen c0).trans f0
           have k3 := (hg4.frozen c1).trans f1))
    go_wp2
    refine bodyPost_ret (v := .tuple #[.agg #[.int .i64 p, .int .i64 q], .int .i64 r]) (by simp [results, Try.results13, go_sem, k0, k1]) rfl ⟨⟨p, q, r, by unfold moveP; rw [if_pos Hin.out]; exact Hq.out, rfl⟩, ?_⟩
    exact ((hg.trans hg4).set (by simp; omega) _).set (by simp; omega) _
  · have hf : onV ax ay bx by' = false := by simpa using hin
    have Hin := Lib.hid hin
    simp only [hf]
    clear hin hf
    go_wp2
    refine bodyPost_ret (v := .tuple #[.agg #[.int .i64 0, .int .i64 0], .int .i64 1]) (by simp [results, Try.results13, go_sem, c0, c1]) rfl ⟨⟨0, 0, 1, by unfold moveP; rw [if_neg Hin.out], rfl⟩, ?_⟩
    exact (hg.set (by simp; omega) _).set (by simp; omega) _

set_option maxHeartbeats 1000000 in
theorem times_any (ax ay bx by' : Int) (w : World) :
    Calls Try.prog 15 #[.agg #[.int .i64 ax, .int .i64 ay], .agg #[.int .i64 bx, .int .i64 by']] w fun e w' =>
      (∃ a b c, timesP ax ay bx by' = (a, b, c) ∧ e = .returned (.tuple #[.agg #[.int .i64 a, .int .i64 b], .int .i64 c])) ∧ Gr w w' := by
  go_enter Try.func15, Try.ntmps15
  go_wp2_with fail
  refine (on_any [(ax, ay), (bx, by')] 2 _ _ rfl (by omega) ?_ ?_).mono ?_
  · intro i hi
    match i, hi with
    | 0, _ => go_simp
    | 1, _ => go_simp
  · intro i hi
    match i, hi with
    | 0, _ => go_simp
    | 1, _ => go_simp
  rintro e w1 ⟨rfl, hb1⟩
  have hg : Gr w w1 := Gr.trans ((((Gr.refl w).alloc _).alloc _).alloc _ |>.alloc _) hb1
  have k3 : Gr _ w1 := Gr.trans ((Gr.refl _).alloc _) hb1
  have k2 : Gr _ w1 := Gr.trans ((Gr.refl _).alloc _) k3
  have k1 : Gr _ w1 := Gr.trans ((Gr.refl _).alloc _) k2
  have B1 : Blk w1 w.heap.size 23 #[.int .i64 ax, .int .i64 ay] := Blk.made rfl k1
  have B2 : Blk w1 (w.heap.size + 1) 23 #[.int .i64 bx, .int .i64 by'] := Blk.made (by simp) k2
  have B3 : Blk w1 (w.heap.size + 1 + 1) 23 #[.int .i64 0, .int .i64 0] := Blk.made (by simp) k3
  clear hb1 k1 k2 k3
  have hall : ([(ax, ay), (bx, by')].all fun p => inB p.1 p.2) = onV ax ay bx by' := by simp [onV]
  rw [hall]
  clear hall
  obtain ⟨c0, c1, f0, f1, _⟩ := B3.two
  by_cases hin : onV ax ay bx by' = true
  · have Hin := Lib.hid hin
    simp only [hin]
    clear hin
    go_wp2
    obtain ⟨a0, a1, _, _, _⟩ := B1.two
    obtain ⟨b0, b1, _, _, _⟩ := B2.two
    have bd := inB2_bounds Hin.out
    go_region_held3 (fun u => u.cell? ⟨w.heap.size, 0, none⟩ = some (.int .i64 ax) ∧ u.cell? ⟨w.heap.size, 1, none⟩ = some (.int .i64 ay) ∧ u.cell? ⟨w.heap.size + 1, 0, none⟩ = some (.int .i64 bx) ∧ u.cell? ⟨w.heap.size + 1, 1, none⟩ = some (.int .i64 by'))
      (first | (go_keep; done) | (go_split_ands; refine ⟨Gr.cell hb1 ?_, Gr.cell hb1 ?_, Gr.cell hb1 ?_, Gr.cell hb1 ?_⟩ <;> assumption) | (go_split_ands; refine ⟨?_, ?_, ?_, ?_⟩ <;> (refine set_keep (by simp; try omega) (set_keep (by simp; try omega) ?_); assumption)))
      (first
        | (go_at_call_of 31 (Value.int .i64 ax); refine (at_any _ _ ?_ ?_ _).mono ?_; omega; omega; rintro e w2 ⟨⟨re1, im1, g1, g2, rfl⟩, hb1⟩; have hg2 : Gr w1 w2 := Gr.trans ((Gr.refl _).drawn _) hb1)
        | (go_at_call_of 31 (Value.int .i64 bx); refine (at_any _ _ ?_ ?_ _).mono ?_; omega; omega; rintro e w3 ⟨⟨re2, im2, g3, g4, rfl⟩, hb1⟩
           obtain ⟨re, im, hc, g5, g6⟩ := rep_cmul g1 g2 g3 g4 (by omega) (by omega) (by omega) (by omega)
           have hrun := run_cmul hc
           have hg3 : Gr w1 w3 := Gr.trans hg2 hb1)
        | (go_at_call 30; refine (held_any _ _ _ _ g5 g6 ?_ ?_ _).mono ?_; (have m1 := abs_mul_le (x := ax) (y := bx) (m := 1000) (n := 1000) (by omega) (by omega); have m2 := abs_mul_le (x := ay) (y := by') (m := 1000) (n := 1000) (by omega) (by omega); have m3 := abs_mul_le (x := ax) (y := by') (m := 1000) (n := 1000) (by omega) (by omega); have m4 := abs_mul_le (x := ay) (y := bx) (m := 1000) (n := 1000) (by omega) (by omega); omega); (have m1 := abs_mul_le (x := ax) (y := bx) (m := 1000) (n := 1000) (by omega) (by omega); have m2 := abs_mul_le (x := ay) (y := by') (m := 1000) (n := 1000) (by omega) (by omega); have m3 := abs_mul_le (x := ax) (y := by') (m := 1000) (n := 1000) (by omega) (by omega); have m4 := abs_mul_le (x := ay) (y := bx) (m := 1000) (n := 1000) (by omega) (by omega); omega); rintro e w4 ⟨⟨p, q, r, Hp, rfl⟩, hb1⟩
           have Hq := Lib.hid Hp
           clear Hp
           have hg4 : Gr w1 w4 := Gr.trans hg3 hb1
           have k0 := hg4.cell c0
           have k1 := hg4.cell c1
           have k2 := (hg4.frozen c0).trans f0
           have k3 := (hg4.frozen c1).trans f1))
    go_wp2
    refine bodyPost_ret (v := .tuple #[.agg #[.int .i64 p, .int .i64 q], .int .i64 r]) (by simp [results, Try.results15, go_sem, k0, k1]) rfl ⟨⟨p, q, r, by unfold timesP; rw [if_pos Hin.out]; exact Hq.out, rfl⟩, ?_⟩
    exact ((hg.trans hg4).set (by simp; omega) _).set (by simp; omega) _
  · have hf : onV ax ay bx by' = false := by simpa using hin
    have Hin := Lib.hid hin
    simp only [hf]
    clear hin hf
    go_wp2
    refine bodyPost_ret (v := .tuple #[.agg #[.int .i64 0, .int .i64 0], .int .i64 1]) (by simp [results, Try.results15, go_sem, c0, c1]) rfl ⟨⟨0, 0, 1, by unfold timesP; rw [if_neg Hin.out], rfl⟩, ?_⟩
    exact (hg.set (by simp; omega) _).set (by simp; omega) _

end Go.Proofs.Ytiidgmlmfjlaiaa
