/-
  Walks: Turn, Mirror, Far, Side.
-/
import Derived.Test.YtiidgmlmfjlaiaaC
namespace Go.Proofs.Ytiidgmlmfjlaiaa
open Go.RowKit Fl Rg

/-- a struct and an error come -/
def RetS (p : Int × Int × Int) (e : Ending) : Prop := ∃ a b c, p = (a, b, c) ∧ e = .returned (.tuple #[.agg #[.int .i64 a, .int .i64 b], .int .i64 c])

def turnP (ax ay bx by' : Int) (k : Nat) : Int × Int × Int := if onV ax ay bx by' = true then heldP (bx + rotx k (ax - bx) (ay - by')) (by' + roty k (ax - bx) (ay - by')) else (0, 0, 1)
def mirrorP (x y : Int) : Int × Int × Int := if inB x y = true then (x, -y, 0) else (0, 0, 1)
def farP (ax ay bx by' : Int) : Int := if onV ax ay bx by' = true then (ax - bx) * (ax - bx) + (ay - by') * (ay - by') else -1

theorem rot_mul (k : Nat) (x y : Int) : x * rotx k 1 0 - y * roty k 1 0 = rotx k x y ∧ x * roty k 1 0 + y * rotx k 1 0 = roty k x y := by
  unfold rotx roty
  refine ⟨?_, ?_⟩ <;> (split; simp; split; simp; split <;> simp)

theorem rot_bound (k : Nat) (x y : Int) (m : Nat) (hx : x.natAbs ≤ m) (hy : y.natAbs ≤ m) : (rotx k x y).natAbs ≤ m ∧ (roty k x y).natAbs ≤ m := by
  unfold rotx roty
  refine ⟨?_, ?_⟩ <;> (split; omega; split; omega; split <;> omega)

theorem run_negf (b : Nat) (w : World) : (Op.unary .neg (.float .f64 b)).run Try.prog w = .ok (.float .f64 (Op.negFloat .f64 b)) w := rfl

set_option maxHeartbeats 2000000 in
theorem turn_any (ax ay bx by' n : Int) (w : World) :
    Calls Try.prog 17 #[.agg #[.int .i64 ax, .int .i64 ay], .agg #[.int .i64 bx, .int .i64 by'], .int .i64 n] w fun e w' => RetS (turnP ax ay bx by' (quad n)) e ∧ Gr w w' := by
  go_enter Try.func17, Try.ntmps17
  go_wp2_with fail
  refine (on_any [(ax, ay), (bx, by')] 2 _ _ rfl (by omega) ?_ ?_).mono ?_
  · intro i hi
    match i, hi with
    | 0, _ => go_simp
    | 1, _ => go_simp
  · intro i hi
    match i, hi with
    | 0, _ => go_simp
    | 1, _ => go_simp
  rintro e w1 ⟨rfl, hb1⟩
  have hg : Gr w w1 := Gr.trans (((((Gr.refl w).alloc _).alloc _).alloc _).alloc _) hb1
  have k3 : Gr _ w1 := Gr.trans ((Gr.refl _).alloc _) hb1
  have k2 : Gr _ w1 := Gr.trans ((Gr.refl _).alloc _) k3
  have k1 : Gr _ w1 := Gr.trans ((Gr.refl _).alloc _) k2
  have B1 : Blk w1 (w.heap.size) 23 #[.int .i64 ax, .int .i64 ay] := Blk.made (by simp) k1
  have B2 : Blk w1 (w.heap.size + 1) 23 #[.int .i64 bx, .int .i64 by'] := Blk.made (by simp) k2
  have B3 : Blk w1 (w.heap.size + 1 + 1) 23 #[.int .i64 0, .int .i64 0] := Blk.made (by simp) k3
  clear hb1 k1 k2 k3
  have hall : ([(ax, ay), (bx, by')].all fun p => inB p.1 p.2) = onV ax ay bx by' := by simp [onV]
  rw [hall]
  clear hall
  obtain ⟨c0, c1, f0, f1, _⟩ := B3.two
  by_cases hin : onV ax ay bx by' = true
  · have Hin := Lib.hid hin
    simp only [hin]
    clear hin
    go_wp2
    obtain ⟨a0, a1, _, _, _⟩ := B1.two
    obtain ⟨b0, b1, _, _, _⟩ := B2.two
    have bd := inB2_bounds Hin.out
    have tok1 : True := trivial
    go_region_held3 (fun u => u.cell? ⟨w.heap.size, 0, none⟩ = some (.int .i64 ax) ∧ u.cell? ⟨w.heap.size, 1, none⟩ = some (.int .i64 ay) ∧ u.cell? ⟨w.heap.size + 1, 0, none⟩ = some (.int .i64 bx) ∧ u.cell? ⟨w.heap.size + 1, 1, none⟩ = some (.int .i64 by'))
      (first | (go_keep; done) | (go_split_ands; refine ⟨Gr.cell hb1 ?_, Gr.cell hb1 ?_, Gr.cell hb1 ?_, Gr.cell hb1 ?_⟩ <;> assumption) | (go_split_ands; refine ⟨?_, ?_, ?_, ?_⟩ <;> (refine set_keep (by simp; try omega) (set_keep (by simp; try omega) ?_); assumption)))
      (first
        | (go_at_call_of 31 (Value.int .i64 ax); refine (at_any _ _ ?_ ?_ _).mono ?_; omega; omega; rintro e w3 ⟨⟨re2, im2, g3, g4, rfl⟩, hb1⟩; have hg3 : Gr w1 w3 := Gr.trans hg2 hb1)
        | (go_at_call_of 31 (Value.int .i64 bx); have _t := tok1; refine (at_any _ _ ?_ ?_ _).mono ?_; omega; omega; rintro e w2 ⟨⟨re1, im1, g1, g2, rfl⟩, hb1⟩; have hg2 : Gr w1 w2 := Gr.trans ((Gr.refl _).drawn _) hb1; clear tok1 _t)
        | (go_at_call_of 31 (Value.int .i64 bx); refine (at_any _ _ ?_ ?_ _).mono ?_; omega; omega; rintro e w4 ⟨⟨re3, im3, g5, g6, rfl⟩, hb1⟩
           obtain ⟨re4, im4, hc, g7, g8⟩ := rep_cdiff g3 g4 g5 g6 (by omega) (by omega)
           have hrun := run_csum .sub (.inr rfl) hc
           have hg4 : Gr w1 w4 := Gr.trans hg3 hb1)
        | (go_at_call 33; refine (quarters_any _ _).mono ?_; rintro e w5 ⟨⟨re5, im5, g9, g10, rfl⟩, hb1⟩
           have rb := rot_abs (quad n)
           obtain ⟨re6, im6, hc2, g11, g12⟩ := rep_cmul g7 g8 g9 g10 (by omega) (by omega) (by omega) (by omega)
           have hrun2 := run_cmul hc2
           obtain ⟨q1, q2⟩ := rot_mul (quad n) (ax - bx) (ay - by')
           rw [q1] at g11
           rw [q2] at g12
           obtain ⟨q3, q4⟩ := rot_bound (quad n) (ax - bx) (ay - by') 2000 (by omega) (by omega)
           obtain ⟨re7, im7, hc3, g13, g14⟩ := rep_csum g1 g2 g11 g12 (by omega) (by omega)
           have hrun3 := run_csum .add (.inl rfl) hc3
           clear q1 q2
           have hg5 : Gr w1 w5 := Gr.trans hg4 hb1)
        | (go_at_call 30; refine (held_any _ _ _ _ g13 g14 ?_ ?_ _).mono ?_; omega; omega; rintro e w6 ⟨⟨p, q, r, Hp, rfl⟩, hb1⟩
           have Hq := Lib.hid Hp
           clear Hp
           have hg6 : Gr w1 w6 := Gr.trans hg5 hb1
           have k0 := hg6.cell c0
           have k1 := hg6.cell c1
           have k2 := (hg6.frozen c0).trans f0
           have k3 := (hg6.frozen c1).trans f1))
    go_wp2
    refine bodyPost_ret (v := .tuple #[.agg #[.int .i64 p, .int .i64 q], .int .i64 r]) (by simp [results, Try.results17, go_sem, k0, k1]) rfl ⟨⟨p, q, r, by unfold turnP; rw [if_pos Hin.out]; exact Hq.out, rfl⟩, ?_⟩
    exact ((hg.trans hg6).set (by simp; omega) _).set (by simp; omega) _
  · have hf : onV ax ay bx by' = false := by simpa using hin
    have Hin := Lib.hid hin
    simp only [hf]
    clear hin hf
    go_wp2
    refine bodyPost_ret (v := .tuple #[.agg #[.int .i64 0, .int .i64 0], .int .i64 1]) (by simp [results, Try.results17, go_sem, c0, c1]) rfl ⟨⟨0, 0, 1, by unfold turnP; rw [if_neg Hin.out], rfl⟩, ?_⟩
    exact (hg.set (by simp; omega) _).set (by simp; omega) _

set_option maxHeartbeats 1000000 in
theorem mirror_any (x y : Int) (w : World) :
    Calls Try.prog 19 #[.agg #[.int .i64 x, .int .i64 y]] w fun e w' => RetS (mirrorP x y) e ∧ Gr w w' := by
  go_enter Try.func19, Try.ntmps19
  go_wp2_with fail
  refine (on_any [(x, y)] 1 _ _ rfl (by omega) ?_ ?_).mono ?_
  · intro i hi
    match i, hi with
    | 0, _ => go_simp
  · intro i hi
    match i, hi with
    | 0, _ => go_simp
  rintro e w1 ⟨rfl, hb1⟩
  have hg : Gr w w1 := Gr.trans ((((Gr.refl w).alloc _).alloc _).alloc _) hb1
  have k2 : Gr _ w1 := Gr.trans ((Gr.refl _).alloc _) hb1
  have k1 : Gr _ w1 := Gr.trans ((Gr.refl _).alloc _) k2
  have B1 : Blk w1 (w.heap.size) 23 #[.int .i64 x, .int .i64 y] := Blk.made (by simp) k1
  have B2 : Blk w1 (w.heap.size + 1) 23 #[.int .i64 0, .int .i64 0] := Blk.made (by simp) k2
  clear hb1 k1 k2
  have hall : ([(x, y)].all fun p => inB p.1 p.2) = inB x y := by simp
  rw [hall]
  clear hall
  obtain ⟨c0, c1, f0, f1, _⟩ := B2.two
  obtain ⟨a0, a1, _, _, _⟩ := B1.two
  by_cases hin : inB x y = true
  · have Hin := Lib.hid hin
    simp only [hin]
    clear hin
    have bd := inB_bounds Hin.out
    go_wp2_with fail
    refine (at_any _ _ (by omega) (by omega) _).mono ?_
    rintro e w2 ⟨⟨re1, im1, g1, g2, rfl⟩, hb1⟩
    have hg2 : Gr w1 w2 := hb1
    have hneg := run_negf im1
    go_wp2_with fail
    refine (spot_any _ _ x (-y) g1 (rep_neg g2) (by omega) (by omega) _).mono ?_
    rintro e w3 ⟨rfl, hb3⟩
    have hg3 : Gr w1 w3 := Gr.trans hg2 hb3
    have k0 := hg3.cell c0
    have k1 := hg3.cell c1
    have k2 := (hg3.frozen c0).trans f0
    have k3 := (hg3.frozen c1).trans f1
    clear g1 g2 bd
    go_wp2
    refine bodyPost_ret (v := .tuple #[.agg #[.int .i64 x, .int .i64 (-y)], .int .i64 0]) (by simp [results, Try.results19, go_sem, k0, k1]) rfl ⟨⟨x, -y, 0, by unfold mirrorP; rw [if_pos Hin.out], rfl⟩, ?_⟩
    exact ((hg.trans hg3).set (by simp) _).set (by simp) _
  · have hf : inB x y = false := by simpa using hin
    have Hin := Lib.hid hin
    simp only [hf]
    clear hin hf
    go_wp2
    refine bodyPost_ret (v := .tuple #[.agg #[.int .i64 0, .int .i64 0], .int .i64 1]) (by simp [results, Try.results19, go_sem, c0, c1]) rfl ⟨⟨0, 0, 1, by unfold mirrorP; rw [if_neg Hin.out], rfl⟩, ?_⟩
    exact (hg.set (by simp) _).set (by simp) _

set_option maxHeartbeats 2000000 in
theorem far_any (ax ay bx by' : Int) (w : World) :
    Calls Try.prog 22 #[.agg #[.int .i64 ax, .int .i64 ay], .agg #[.int .i64 bx, .int .i64 by']] w fun e w' => e = .returned (.int .i64 (farP ax ay bx by')) ∧ Gr w w' := by
  go_enter Try.func22, Try.ntmps22
  go_wp2_with fail
  refine (on_any [(ax, ay), (bx, by')] 2 _ _ rfl (by omega) ?_ ?_).mono ?_
  · intro i hi
    match i, hi with
    | 0, _ => go_simp
    | 1, _ => go_simp
  · intro i hi
    match i, hi with
    | 0, _ => go_simp
    | 1, _ => go_simp
  rintro e w1 ⟨rfl, hb1⟩
  have hg : Gr w w1 := Gr.trans ((((Gr.refl w).alloc _).alloc _).alloc _) hb1
  have k2 : Gr _ w1 := Gr.trans ((Gr.refl _).alloc _) hb1
  have k1 : Gr _ w1 := Gr.trans ((Gr.refl _).alloc _) k2
  have B1 : Blk w1 (w.heap.size) 23 #[.int .i64 ax, .int .i64 ay] := Blk.made (by simp) k1
  have B2 : Blk w1 (w.heap.size + 1) 23 #[.int .i64 bx, .int .i64 by'] := Blk.made (by simp) k2
  clear hb1 k1 k2
  have hall : ([(ax, ay), (bx, by')].all fun p => inB p.1 p.2) = onV ax ay bx by' := by simp [onV]
  rw [hall]
  clear hall
  by_cases hin : onV ax ay bx by' = true
  · have Hin := Lib.hid hin
    simp only [hin]
    clear hin
    go_wp2
    obtain ⟨a0, a1, _, _, _⟩ := B1.two
    obtain ⟨b0, b1, _, _, _⟩ := B2.two
    have bd := inB2_bounds Hin.out
    go_region_held3 (fun u => u.cell? ⟨w.heap.size, 0, none⟩ = some (.int .i64 ax) ∧ u.cell? ⟨w.heap.size, 1, none⟩ = some (.int .i64 ay) ∧ u.cell? ⟨w.heap.size + 1, 0, none⟩ = some (.int .i64 bx) ∧ u.cell? ⟨w.heap.size + 1, 1, none⟩ = some (.int .i64 by'))
      (first | (go_keep; done) | (go_split_ands; refine ⟨Gr.cell hb1 ?_, Gr.cell hb1 ?_, Gr.cell hb1 ?_, Gr.cell hb1 ?_⟩ <;> assumption))
      (first
        | (go_at_call_of 31 (Value.int .i64 ax); refine (at_any _ _ ?_ ?_ _).mono ?_; omega; omega; rintro e w2 ⟨⟨re1, im1, g1, g2, rfl⟩, hb1⟩; have hg2 : Gr w1 w2 := Gr.trans ((Gr.refl _).drawn _) hb1)
        | (go_at_call_of 31 (Value.int .i64 bx); refine (at_any _ _ ?_ ?_ _).mono ?_; omega; omega; rintro e w3 ⟨⟨re2, im2, g3, g4, rfl⟩, hb1⟩
           obtain ⟨re, im, hc, g5, g6⟩ := rep_cdiff g1 g2 g3 g4 (by omega) (by omega)
           have hrun := run_csum .sub (.inr rfl) hc
           have hg3 : Gr w1 w3 := Gr.trans hg2 hb1))
    obtain ⟨re7, im7, hc2, g7, g8⟩ := rep_cmul g5 g6 g5 (rep_neg g6) (by omega) (by omega) (by omega) (by omega)
    have hrun2 := run_cmul hc2
    have m1 := abs_mul_le (x := ax - bx) (y := ax - bx) (m := 2000) (n := 2000) (by omega) (by omega)
    have m2 := abs_mul_le (x := ay - by') (y := -(ay - by')) (m := 2000) (n := 2000) (by omega) (by omega)
    have cb := conv_back g7 (by omega)
    have e : (ax - bx) * (ax - bx) - (ay - by') * -(ay - by') = farP ax ay bx by' := by
      unfold farP; rw [if_pos Hin.out, Int.mul_neg, Int.sub_neg]
    rw [e] at cb
    clear g1 g2 g3 g4 g5 g6 g7 g8 m1 m2 bd e hc hc2
    have hneg := run_negf im
    go_wp2
    go_ret
    exact ⟨rfl, hg.trans hg3⟩
  · have hf : onV ax ay bx by' = false := by simpa using hin
    have Hin := Lib.hid hin
    simp only [hf]
    clear hin hf
    go_wp2
    go_ret
    exact ⟨ret_eq (by unfold farP; rw [if_neg Hin.out]; rfl), hg⟩

end Go.Proofs.Ytiidgmlmfjlaiaa
