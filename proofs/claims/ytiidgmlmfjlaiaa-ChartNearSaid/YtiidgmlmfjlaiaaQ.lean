/-
  Walks: ChartTurns.
-/
import Derived.Test.YtiidgmlmfjlaiaaP
namespace Go.Proofs.Ytiidgmlmfjlaiaa
open Go.RowKit Fl Rg Sp

theorem turnP_ok {ax ay cx cy p q r : Int} {k : Nat} (h : turnP ax ay cx cy k = (p, q, r)) (hr : r = 0) :
    onV ax ay cx cy = true ∧ inB (cx + rotx k (ax - cx) (ay - cy)) (cy + roty k (ax - cx) (ay - cy)) = true ∧ cx + rotx k (ax - cx) (ay - cy) = p ∧ cy + roty k (ax - cx) (ay - cy) = q := by
  unfold turnP at h
  by_cases h1 : onV ax ay cx cy = true
  · rw [if_pos h1] at h
    unfold heldP at h
    by_cases h2 : inB (cx + rotx k (ax - cx) (ay - cy)) (cy + roty k (ax - cx) (ay - cy)) = true
    · rw [if_pos h2] at h
      obtain ⟨e1, e2, e3⟩ := tuple3 rfl h
      exact ⟨h1, h2, e1.symm, e2.symm⟩
    · rw [if_neg h2] at h
      obtain ⟨e1, e2, e3⟩ := tuple3 rfl h
      omega
  · rw [if_neg h1] at h
    obtain ⟨e1, e2, e3⟩ := tuple3 rfl h
    omega

theorem sq_neg (x y : Int) : (-x + y) * (-x + y) = (x - y) * (x - y) := by
  have : -x + y = -(x - y) := by omega
  rw [this, Int.neg_mul_neg]

theorem rot_far (k : Nat) (hk : k < 4) (u v u' v' : Int) :
    (rotx k u v - rotx k u' v') * (rotx k u v - rotx k u' v') + (roty k u v - roty k u' v') * (roty k u v - roty k u' v') = (u - u') * (u - u') + (v - v') * (v - v') := by
  match k, hk with
  | 0, _ => simp [rotx, roty]
  | 1, _ => simp only [rotx, roty]; simp; rw [sq_neg]; omega
  | 2, _ => simp only [rotx, roty]; simp; rw [sq_neg, sq_neg]
  | 3, _ => simp only [rotx, roty]; simp; rw [sq_neg]; omega

theorem farP_turn {ax ay bx by' cx cy p q r p' q' r' : Int} {k : Nat} (hk : k < 4) (h : turnP ax ay cx cy k = (p, q, r)) (h' : turnP bx by' cx cy k = (p', q', r')) (hr : r = 0) (hr' : r' = 0) :
    farP p q p' q' = farP ax ay bx by' := by
  obtain ⟨h1, h2, e1, e2⟩ := turnP_ok h hr
  obtain ⟨g1, g2, f1, f2⟩ := turnP_ok h' hr'
  rw [e1, e2] at h2
  rw [f1, f2] at g2
  have ha : inB ax ay = true := inB_mk (inB2_bounds h1).1
  have hb : inB bx by' = true := inB_mk (inB2_bounds g1).1
  unfold farP
  rw [if_pos (onV_yes h2 g2), if_pos (onV_yes ha hb)]
  have x1 : p - p' = rotx k (ax - cx) (ay - cy) - rotx k (bx - cx) (by' - cy) := by omega
  have x2 : q - q' = roty k (ax - cx) (ay - cy) - roty k (bx - cx) (by' - cy) := by omega
  rw [x1, x2, rot_far k hk]
  have x3 : ax - cx - (bx - cx) = ax - bx := by omega
  have x4 : ay - cy - (by' - cy) = ay - by' := by omega
  rw [x3, x4]

theorem rot_back (k k' : Nat) (hk : k < 4) (hk' : k' = (4 - k) % 4) (u v : Int) : rotx k' (rotx k u v) (roty k u v) = u ∧ roty k' (rotx k u v) (roty k u v) = v := by
  match k, hk with
  | 0, _ => subst hk'; simp [rotx, roty]
  | 1, _ => subst hk'; simp [rotx, roty]
  | 2, _ => subst hk'; simp [rotx, roty]
  | 3, _ => subst hk'; simp [rotx, roty]

theorem turnP_back {ax ay cx cy p q r : Int} {k k' : Nat} (hk : k < 4) (hk' : k' = (4 - k) % 4) (h : turnP ax ay cx cy k = (p, q, r)) (hr : r = 0) : turnP p q cx cy k' = (ax, ay, 0) := by
  obtain ⟨h1, h2, e1, e2⟩ := turnP_ok h hr
  rw [e1, e2] at h2
  have b := inB2_bounds h1
  have hc : inB cx cy = true := inB_mk b.2
  have ha : inB ax ay = true := inB_mk b.1
  unfold turnP
  rw [if_pos (onV_yes h2 hc)]
  have x1 : p - cx = rotx k (ax - cx) (ay - cy) := by omega
  have x2 : q - cy = roty k (ax - cx) (ay - cy) := by omega
  rw [x1, x2, (rot_back k k' hk hk' _ _).1, (rot_back k k' hk hk' _ _).2]
  have x3 : cx + (ax - cx) = ax := by omega
  have x4 : cy + (ay - cy) = ay := by omega
  rw [x3, x4]
  unfold heldP
  rw [if_pos ha]

theorem quad_back (n : Int) : quad (-n.tmod 4 % 4) = (4 - quad n) % 4 := by
  have h4 : n.tmod 4 % 4 = n % 4 := by
    rcases Int.le_total 0 n with h | h
    · rw [Int.tmod_eq_emod_of_nonneg h]; omega
    · have e : n.tmod 4 = -((-n) % 4) := by
        rw [← Int.tmod_eq_emod_of_nonneg (a := -n) (b := 4) (by omega), Int.neg_tmod, Int.neg_neg]
      omega
  unfold quad
  omega

theorem mirrorP_r {x y p q r : Int} (h : mirrorP x y = (p, q, r)) : (inB x y = true ∧ x = p ∧ -y = q ∧ 0 = r) ∨ 1 = r := by
  unfold mirrorP at h
  by_cases h1 : inB x y = true
  · rw [if_pos h1] at h
    obtain ⟨e1, e2, e3⟩ := tuple3 rfl h
    exact .inl ⟨h1, e1.symm, e2.symm, e3.symm⟩
  · rw [if_neg h1] at h
    obtain ⟨e1, e2, e3⟩ := tuple3 rfl h
    exact .inr e3.symm

theorem farP_mirror {ax ay bx by' : Int} (h1 : inB ax ay = true) (h2 : inB bx by' = true) : farP ax (-ay) bx (-by') = farP ax ay bx by' := by
  have b1 := inB_bounds h1
  have b2 := inB_bounds h2
  unfold farP
  rw [if_pos (onV_yes h1 h2), if_pos (onV_yes (inB_mk (by omega)) (inB_mk (by omega)))]
  have e : -ay - -by' = -ay + by' := by omega
  rw [e, sq_neg]

set_option maxHeartbeats 16000000 in
set_option maxRecDepth 100000 in
theorem chartTurns_walk (ax ay bx by' cx cy n : Int) (w : World) :
    Calls Try.prog 6 #[.agg #[.int .i64 ax, .int .i64 ay], .agg #[.int .i64 bx, .int .i64 by'], .agg #[.int .i64 cx, .int .i64 cy], .int .i64 n] w fun e w' => e = .returned (.bool true) ∧ Gr w w' := by
  have ht1 : -4 < n.tmod 4 := Int.lt_tmod_of_pos n (by omega)
  have ht2 : n.tmod 4 < 4 := Int.tmod_lt_of_pos n (by omega)
  go_enter Try.func6, Try.ntmps6
  go_wp2
  obtain ⟨w0, hw0⟩ : ∃ w0, w0 = ((w.alloc (.cells #[.int .i64 ax, .int .i64 ay] 29)).alloc (.cells #[.int .i64 bx, .int .i64 by'] 29)).alloc (.cells #[.int .i64 cx, .int .i64 cy] 29) := ⟨_, rfl⟩
  rw [← hw0]
  have hg0 : Gr w w0 := by rw [hw0]; exact (((Gr.refl _).alloc _).alloc _).alloc _
  have A1 : Blk w0 w.heap.size 29 #[.int .i64 ax, .int .i64 ay] := by rw [hw0]; exact ((Blk.new _ _ _).alloc _).alloc _
  have A2 : Blk w0 (w.heap.size + 1) 29 #[.int .i64 bx, .int .i64 by'] := by rw [hw0]; exact Blk.made (by simp) ((Gr.refl _).alloc _)
  have A3 : Blk w0 (w.heap.size + 1 + 1) 29 #[.int .i64 cx, .int .i64 cy] := by rw [hw0]; exact Blk.made (by simp) (Gr.refl _)
  clear hw0
  refine wp_region_D [23, 24, 25, 26, 27, 28, 9, 10, 11] [[0], [1, 0], [2], [3, 2], [4], [5, 4], [6], [7], [8], [9, 6, 1, 0], [10, 7, 3, 2], [11, 8, 5, 4]]
    (fun x u => Gr w0 u ∧ Pend w0.heap.size u (x 9) ∧ Pend w0.heap.size u (x 10) ∧ Pend w0.heap.size u (x 11) ∧ Apart (x 9) (x 10) ∧ Apart (x 9) (x 11) ∧ Apart (x 10) (x 11))
    (fun i x a b => match i with
      | 9 => PutAt (x 9) a b
      | 10 => PutAt (x 10) a b
      | 11 => PutAt (x 11) a b
      | _ => Gr a b)
    (fun i x u => match i with
      | 0 => x 23 = .agg #[.int .i64 ax, .int .i64 ay]
      | 1 => x 24 = .agg #[.int .i64 ax, .int .i64 ay]
      | 2 => x 25 = .agg #[.int .i64 bx, .int .i64 by']
      | 3 => x 26 = .agg #[.int .i64 bx, .int .i64 by']
      | 4 => x 27 = .agg #[.int .i64 cx, .int .i64 cy]
      | 5 => x 28 = .agg #[.int .i64 cx, .int .i64 cy]
      | 6 => PtrTo 23 u (x 9)
      | 7 => PtrTo 23 u (x 10)
      | 8 => PtrTo 23 u (x 11)
      | 9 => HasSpot 23 u (x 9) ax ay
      | 10 => HasSpot 23 u (x 10) bx by'
      | 11 => HasSpot 23 u (x 11) cx cy
      | _ => True)
    (by kernel_rfl) (by kernel_rfl) (by kernel_rfl) ?_ ?_ ?_ ?_ ?_
  · exact ⟨(Gr.refl _).drew, .inl rfl, .inl rfl, .inl rfl, Apart.undef_left _, Apart.undef_left _, Apart.undef_left _⟩
  · intro i x x' u hk hv
    match i, hk, hv with
    | 0, hk, hv => simp [val] at hk; simp [hk] at hv ⊢; exact hv
    | 1, hk, hv => simp [val] at hk; simp [hk] at hv ⊢; exact hv
    | 2, hk, hv => simp [val] at hk; simp [hk] at hv ⊢; exact hv
    | 3, hk, hv => simp [val] at hk; simp [hk] at hv ⊢; exact hv
    | 4, hk, hv => simp [val] at hk; simp [hk] at hv ⊢; exact hv
    | 5, hk, hv => simp [val] at hk; simp [hk] at hv ⊢; exact hv
    | 6, hk, hv => simp [val] at hk; simp [hk] at hv ⊢; exact hv
    | 7, hk, hv => simp [val] at hk; simp [hk] at hv ⊢; exact hv
    | 8, hk, hv => simp [val] at hk; simp [hk] at hv ⊢; exact hv
    | 9, hk, hv => simp [val] at hk; simp [hk] at hv ⊢; exact hv
    | 10, hk, hv => simp [val] at hk; simp [hk] at hv ⊢; exact hv
    | 11, hk, hv => simp [val] at hk; simp [hk] at hv ⊢; exact hv
    | m + 12, _, _ => trivial
  · intro i j x u u' hne hJ hv hE
    obtain ⟨hg, e0, e1, e2, ap0, ap1, ap2⟩ := hJ
    match i, hv, hne with
    | 0, hv, _ => exact hv
    | 1, hv, _ => exact hv
    | 2, hv, _ => exact hv
    | 3, hv, _ => exact hv
    | 4, hv, _ => exact hv
    | 5, hv, _ => exact hv
    | 6, hv, _ =>
      match j, hE with
      | 0, hE => exact PtrTo.gr hv hE
      | 1, hE => exact PtrTo.gr hv hE
      | 2, hE => exact PtrTo.gr hv hE
      | 3, hE => exact PtrTo.gr hv hE
      | 4, hE => exact PtrTo.gr hv hE
      | 5, hE => exact PtrTo.gr hv hE
      | 6, hE => exact PtrTo.gr hv hE
      | 7, hE => exact PtrTo.gr hv hE
      | 8, hE => exact PtrTo.gr hv hE
      | 9, hE => exact PtrTo.put hv hE
      | 10, hE => exact PtrTo.put hv hE
      | 11, hE => exact PtrTo.put hv hE
      | m + 12, hE => exact PtrTo.gr hv hE
    | 7, hv, _ =>
      match j, hE with
      | 0, hE => exact PtrTo.gr hv hE
      | 1, hE => exact PtrTo.gr hv hE
      | 2, hE => exact PtrTo.gr hv hE
      | 3, hE => exact PtrTo.gr hv hE
      | 4, hE => exact PtrTo.gr hv hE
      | 5, hE => exact PtrTo.gr hv hE
      | 6, hE => exact PtrTo.gr hv hE
      | 7, hE => exact PtrTo.gr hv hE
      | 8, hE => exact PtrTo.gr hv hE
      | 9, hE => exact PtrTo.put hv hE
      | 10, hE => exact PtrTo.put hv hE
      | 11, hE => exact PtrTo.put hv hE
      | m + 12, hE => exact PtrTo.gr hv hE
    | 8, hv, _ =>
      match j, hE with
      | 0, hE => exact PtrTo.gr hv hE
      | 1, hE => exact PtrTo.gr hv hE
      | 2, hE => exact PtrTo.gr hv hE
      | 3, hE => exact PtrTo.gr hv hE
      | 4, hE => exact PtrTo.gr hv hE
      | 5, hE => exact PtrTo.gr hv hE
      | 6, hE => exact PtrTo.gr hv hE
      | 7, hE => exact PtrTo.gr hv hE
      | 8, hE => exact PtrTo.gr hv hE
      | 9, hE => exact PtrTo.put hv hE
      | 10, hE => exact PtrTo.put hv hE
      | 11, hE => exact PtrTo.put hv hE
      | m + 12, hE => exact PtrTo.gr hv hE
    | 9, hv, hne =>
      match j, hE, hne with
      | 0, hE, _ => exact HasSpot.gr hv hE
      | 1, hE, _ => exact HasSpot.gr hv hE
      | 2, hE, _ => exact HasSpot.gr hv hE
      | 3, hE, _ => exact HasSpot.gr hv hE
      | 4, hE, _ => exact HasSpot.gr hv hE
      | 5, hE, _ => exact HasSpot.gr hv hE
      | 6, hE, _ => exact HasSpot.gr hv hE
      | 7, hE, _ => exact HasSpot.gr hv hE
      | 8, hE, _ => exact HasSpot.gr hv hE
      | 9, _, hne => exact absurd rfl hne
      | 10, hE, _ => exact HasSpot.put hv ap0 hE
      | 11, hE, _ => exact HasSpot.put hv ap1 hE
      | m + 12, hE, _ => exact HasSpot.gr hv hE
    | 10, hv, hne =>
      match j, hE, hne with
      | 0, hE, _ => exact HasSpot.gr hv hE
      | 1, hE, _ => exact HasSpot.gr hv hE
      | 2, hE, _ => exact HasSpot.gr hv hE
      | 3, hE, _ => exact HasSpot.gr hv hE
      | 4, hE, _ => exact HasSpot.gr hv hE
      | 5, hE, _ => exact HasSpot.gr hv hE
      | 6, hE, _ => exact HasSpot.gr hv hE
      | 7, hE, _ => exact HasSpot.gr hv hE
      | 8, hE, _ => exact HasSpot.gr hv hE
      | 9, hE, _ => exact HasSpot.put hv ap0.symm hE
      | 10, _, hne => exact absurd rfl hne
      | 11, hE, _ => exact HasSpot.put hv ap2 hE
      | m + 12, hE, _ => exact HasSpot.gr hv hE
    | 11, hv, hne =>
      match j, hE, hne with
      | 0, hE, _ => exact HasSpot.gr hv hE
      | 1, hE, _ => exact HasSpot.gr hv hE
      | 2, hE, _ => exact HasSpot.gr hv hE
      | 3, hE, _ => exact HasSpot.gr hv hE
      | 4, hE, _ => exact HasSpot.gr hv hE
      | 5, hE, _ => exact HasSpot.gr hv hE
      | 6, hE, _ => exact HasSpot.gr hv hE
      | 7, hE, _ => exact HasSpot.gr hv hE
      | 8, hE, _ => exact HasSpot.gr hv hE
      | 9, hE, _ => exact HasSpot.put hv ap1.symm hE
      | 10, hE, _ => exact HasSpot.put hv ap2.symm hE
      | 11, _, hne => exact absurd rfl hne
      | m + 12, hE, _ => exact HasSpot.gr hv hE
    | m + 12, _, _ => trivial
  · intro i
    match i with
    | 0 =>
      intro o ho x u hJ hd K hK
      simp at ho; subst ho
      refine wpOp_of rfl rfl ?_
      obtain ⟨hg, e0, e1, e2, ap0, ap1, ap2⟩ := hJ
      have k0 := hg.cell (A1).two.1
      have k1 := hg.cell (A1).two.2.1
      clear hd
      simp [frame, fill, Act.put, updO, upd] at hK ⊢
      go_simp
      exact hK _ _ (Gr.refl _) hg e0 e1 e2 ap0 ap1 ap2 rfl
    | 1 =>
      intro o ho x u hJ hd K hK
      simp at ho; subst ho
      refine wpOp_of rfl rfl ?_
      obtain ⟨hg, e0, e1, e2, ap0, ap1, ap2⟩ := hJ
      have hx : x 23 = _ := hd 0 (by simp) (by decide)
      clear hd
      simp [frame, fill, Act.put, updO, upd, hx] at hK ⊢
      clear hx
      go_simp
      refine (to_any _ _ _).mono ?_
      rintro e w4 ⟨rfl, hb1⟩
      exact hK _ _ hb1 (hg.trans hb1) (e0.gr hb1.size) (e1.gr hb1.size) (e2.gr hb1.size) ap0 ap1 ap2 rfl
    | 2 =>
      intro o ho x u hJ hd K hK
      simp at ho; subst ho
      refine wpOp_of rfl rfl ?_
      obtain ⟨hg, e0, e1, e2, ap0, ap1, ap2⟩ := hJ
      have k0 := hg.cell (A2).two.1
      have k1 := hg.cell (A2).two.2.1
      clear hd
      simp [frame, fill, Act.put, updO, upd] at hK ⊢
      go_simp
      exact hK _ _ (Gr.refl _) hg e0 e1 e2 ap0 ap1 ap2 rfl
    | 3 =>
      intro o ho x u hJ hd K hK
      simp at ho; subst ho
      refine wpOp_of rfl rfl ?_
      obtain ⟨hg, e0, e1, e2, ap0, ap1, ap2⟩ := hJ
      have hx : x 25 = _ := hd 2 (by simp) (by decide)
      clear hd
      simp [frame, fill, Act.put, updO, upd, hx] at hK ⊢
      clear hx
      go_simp
      refine (to_any _ _ _).mono ?_
      rintro e w4 ⟨rfl, hb1⟩
      exact hK _ _ hb1 (hg.trans hb1) (e0.gr hb1.size) (e1.gr hb1.size) (e2.gr hb1.size) ap0 ap1 ap2 rfl
    | 4 =>
      intro o ho x u hJ hd K hK
      simp at ho; subst ho
      refine wpOp_of rfl rfl ?_
      obtain ⟨hg, e0, e1, e2, ap0, ap1, ap2⟩ := hJ
      have k0 := hg.cell (A3).two.1
      have k1 := hg.cell (A3).two.2.1
      clear hd
      simp [frame, fill, Act.put, updO, upd] at hK ⊢
      go_simp
      exact hK _ _ (Gr.refl _) hg e0 e1 e2 ap0 ap1 ap2 rfl
    | 5 =>
      intro o ho x u hJ hd K hK
      simp at ho; subst ho
      refine wpOp_of rfl rfl ?_
      obtain ⟨hg, e0, e1, e2, ap0, ap1, ap2⟩ := hJ
      have hx : x 27 = _ := hd 4 (by simp) (by decide)
      clear hd
      simp [frame, fill, Act.put, updO, upd, hx] at hK ⊢
      clear hx
      go_simp
      refine (to_any _ _ _).mono ?_
      rintro e w4 ⟨rfl, hb1⟩
      exact hK _ _ hb1 (hg.trans hb1) (e0.gr hb1.size) (e1.gr hb1.size) (e2.gr hb1.size) ap0 ap1 ap2 rfl
    | 6 =>
      intro o ho x u hJ hd K hK
      simp at ho; subst ho
      refine wpOp_of rfl rfl ?_
      obtain ⟨hg, e0, e1, e2, ap0, ap1, ap2⟩ := hJ
      clear hd
      simp [frame, fill, Act.put, updO, upd] at hK ⊢
      go_simp
      exact hK _ _ ((Gr.refl _).alloc _) (hg.alloc _) (Pend.new hg.size _) (e1.gr (by simp)) (e2.gr (by simp)) (Apart.new e1) (Apart.new e2) ap2 ⟨_, rfl, _, _, Blk.new _ _ _⟩
    | 7 =>
      intro o ho x u hJ hd K hK
      simp at ho; subst ho
      refine wpOp_of rfl rfl ?_
      obtain ⟨hg, e0, e1, e2, ap0, ap1, ap2⟩ := hJ
      clear hd
      simp [frame, fill, Act.put, updO, upd] at hK ⊢
      go_simp
      exact hK _ _ ((Gr.refl _).alloc _) (hg.alloc _) (e0.gr (by simp)) (Pend.new hg.size _) (e2.gr (by simp)) (Apart.new e0).symm ap1 (Apart.new e2) ⟨_, rfl, _, _, Blk.new _ _ _⟩
    | 8 =>
      intro o ho x u hJ hd K hK
      simp at ho; subst ho
      refine wpOp_of rfl rfl ?_
      obtain ⟨hg, e0, e1, e2, ap0, ap1, ap2⟩ := hJ
      clear hd
      simp [frame, fill, Act.put, updO, upd] at hK ⊢
      go_simp
      exact hK _ _ ((Gr.refl _).alloc _) (hg.alloc _) (e0.gr (by simp)) (e1.gr (by simp)) (Pend.new hg.size _) ap0 (Apart.new e0).symm (Apart.new e1).symm ⟨_, rfl, _, _, Blk.new _ _ _⟩
    | 9 =>
      intro o ho x u hJ hd K hK
      simp at ho; subst ho
      refine wpOp_of rfl rfl ?_
      obtain ⟨hg, e0, e1, e2, ap0, ap1, ap2⟩ := hJ
      obtain ⟨g, hp, p, q, hB⟩ : PtrTo _ _ _ := hd 6 (by simp) (by decide)
      have hx : x 24 = _ := hd 1 (by simp) (by decide)
      clear hd
      obtain ⟨c0, c1, f0, f1, _⟩ := hB.two
      have hput : PutAt (x 9) u ((u.setCell ⟨g, 0, none⟩ (.int .i64 ax)).setCell ⟨g, 1, none⟩ (.int .i64 ay)) := ⟨g, _, _, hp, rfl⟩
      have hgp := gr_put hg e0 hput
      have hsp : HasSpot 23 ((u.setCell ⟨g, 0, none⟩ (.int .i64 ax)).setCell ⟨g, 1, none⟩ (.int .i64 ay)) (x 9) ax ay := ⟨g, hp, (hB.set 0 _).set 1 _⟩
      have hK2 := hK undef _ hput ⟨hgp, (e0.gr (Nat.le_of_eq (size_put hput).symm)), (e1.gr (Nat.le_of_eq (size_put hput).symm)), (e2.gr (Nat.le_of_eq (size_put hput).symm)), ap0, ap1, ap2⟩ hsp
      clear hK hput hgp hsp
      simp [frame, fill, Act.put, hp, hx] at hK2 ⊢
      clear hx hp
      go_simp
      exact hK2
    | 10 =>
      intro o ho x u hJ hd K hK
      simp at ho; subst ho
      refine wpOp_of rfl rfl ?_
      obtain ⟨hg, e0, e1, e2, ap0, ap1, ap2⟩ := hJ
      obtain ⟨g, hp, p, q, hB⟩ : PtrTo _ _ _ := hd 7 (by simp) (by decide)
      have hx : x 26 = _ := hd 3 (by simp) (by decide)
      clear hd
      obtain ⟨c0, c1, f0, f1, _⟩ := hB.two
      have hput : PutAt (x 10) u ((u.setCell ⟨g, 0, none⟩ (.int .i64 bx)).setCell ⟨g, 1, none⟩ (.int .i64 by')) := ⟨g, _, _, hp, rfl⟩
      have hgp := gr_put hg e1 hput
      have hsp : HasSpot 23 ((u.setCell ⟨g, 0, none⟩ (.int .i64 bx)).setCell ⟨g, 1, none⟩ (.int .i64 by')) (x 10) bx by' := ⟨g, hp, (hB.set 0 _).set 1 _⟩
      have hK2 := hK undef _ hput ⟨hgp, (e0.gr (Nat.le_of_eq (size_put hput).symm)), (e1.gr (Nat.le_of_eq (size_put hput).symm)), (e2.gr (Nat.le_of_eq (size_put hput).symm)), ap0, ap1, ap2⟩ hsp
      clear hK hput hgp hsp
      simp [frame, fill, Act.put, hp, hx] at hK2 ⊢
      clear hx hp
      go_simp
      exact hK2
    | 11 =>
      intro o ho x u hJ hd K hK
      simp at ho; subst ho
      refine wpOp_of rfl rfl ?_
      obtain ⟨hg, e0, e1, e2, ap0, ap1, ap2⟩ := hJ
      obtain ⟨g, hp, p, q, hB⟩ : PtrTo _ _ _ := hd 8 (by simp) (by decide)
      have hx : x 28 = _ := hd 5 (by simp) (by decide)
      clear hd
      obtain ⟨c0, c1, f0, f1, _⟩ := hB.two
      have hput : PutAt (x 11) u ((u.setCell ⟨g, 0, none⟩ (.int .i64 cx)).setCell ⟨g, 1, none⟩ (.int .i64 cy)) := ⟨g, _, _, hp, rfl⟩
      have hgp := gr_put hg e2 hput
      have hsp : HasSpot 23 ((u.setCell ⟨g, 0, none⟩ (.int .i64 cx)).setCell ⟨g, 1, none⟩ (.int .i64 cy)) (x 11) cx cy := ⟨g, hp, (hB.set 0 _).set 1 _⟩
      have hK2 := hK undef _ hput ⟨hgp, (e0.gr (Nat.le_of_eq (size_put hput).symm)), (e1.gr (Nat.le_of_eq (size_put hput).symm)), (e2.gr (Nat.le_of_eq (size_put hput).symm)), ap0, ap1, ap2⟩ hsp
      clear hK hput hgp hsp
      simp [frame, fill, Act.put, hp, hx] at hK2 ⊢
      clear hx hp
      go_simp
      exact hK2
    | m + 12 => intro o ho; simp at ho
  · intro x u hJ hall
    have hgu := hJ.1
    have hl0 : x 23 = _ := hall 0 (by simp)
    have hc0 : x 24 = _ := hall 1 (by simp)
    obtain ⟨g0, hp0, G0⟩ : HasSpot _ _ _ _ _ := hall 9 (by simp)
    have hl1 : x 25 = _ := hall 2 (by simp)
    have hc1 : x 26 = _ := hall 3 (by simp)
    obtain ⟨g1, hp1, G1⟩ : HasSpot _ _ _ _ _ := hall 10 (by simp)
    have hl2 : x 27 = _ := hall 4 (by simp)
    have hc2 : x 28 = _ := hall 5 (by simp)
    obtain ⟨g2, hp2, G2⟩ : HasSpot _ _ _ _ _ := hall 11 (by simp)
    clear hall hJ
    simp [frame, fill, hl0, hc0, hp0, hl1, hc1, hp1, hl2, hc2, hp2]
    clear hl0 hc0 hp0 hl1 hc1 hp1 hl2 hc2 hp2
    have hgw : Gr w u := hg0.trans hgu
    clear A1 A2 A3 hgu hg0
    obtain ⟨G0a, G0b, G0f, G0g, _⟩ := G0.two
    obtain ⟨G1a, G1b, G1f, G1g, _⟩ := G1.two
    obtain ⟨G2a, G2b, G2f, G2g, _⟩ := G2.two
    go_wp2_with fail
    refine (far_any _ _ _ _ _).mono ?_
    rintro e v0 ⟨rfl, hg0⟩
    clear G0a G0b G0f G0g G1a G1b G1f G1g G2a G2b G2f G2g
    replace G0 := G0.gr hg0
    replace G1 := G1.gr hg0
    replace G2 := G2.gr hg0
    replace hgw : Gr w v0 := Gr.trans hgw hg0
    clear hg0
    obtain ⟨G0a, G0b, G0f, G0g, _⟩ := G0.two
    obtain ⟨G1a, G1b, G1f, G1g, _⟩ := G1.two
    obtain ⟨G2a, G2b, G2f, G2g, _⟩ := G2.two
    obtain ⟨far, hfar⟩ : ∃ f, f = farP ax ay bx by' := ⟨_, rfl⟩
    rw [← hfar]
    have Hfar := Lib.hid hfar
    clear hfar
    go_wp2_with fail
    refine (turn_any _ _ _ _ _ _).mono ?_
    rintro e v1 ⟨⟨p1, q1, r1, hh1, rfl⟩, hg1⟩
    have H1 := Lib.hid hh1
    clear hh1
    clear G0a G0b G0f G0g G1a G1b G1f G1g G2a G2b G2f G2g
    replace G0 := G0.gr hg1
    replace G1 := G1.gr hg1
    replace G2 := G2.gr hg1
    replace hgw : Gr w v1 := Gr.trans hgw hg1
    clear hg1
    obtain ⟨G0a, G0b, G0f, G0g, _⟩ := G0.two
    obtain ⟨G1a, G1b, G1f, G1g, _⟩ := G1.two
    obtain ⟨G2a, G2b, G2f, G2g, _⟩ := G2.two
    go_wp2_with fail
    refine (turn_any _ _ _ _ _ _).mono ?_
    rintro e v2 ⟨⟨p2, q2, r2, hh2, rfl⟩, hg2⟩
    have H2 := Lib.hid hh2
    clear hh2
    clear G0a G0b G0f G0g G1a G1b G1f G1g G2a G2b G2f G2g
    replace G0 := (G0.alloc (.cells #[.int .i64 p1, .int .i64 q1] 23)).gr hg2
    replace G1 := (G1.alloc (.cells #[.int .i64 p1, .int .i64 q1] 23)).gr hg2
    replace G2 := (G2.alloc (.cells #[.int .i64 p1, .int .i64 q1] 23)).gr hg2
    have R1 : Blk v2 v1.heap.size 23 #[.int .i64 p1, .int .i64 q1] := Blk.made (by simp) hg2
    replace hgw : Gr w v2 := Gr.trans (hgw.alloc _) hg2
    clear hg2
    obtain ⟨G0a, G0b, G0f, G0g, _⟩ := G0.two
    obtain ⟨G1a, G1b, G1f, G1g, _⟩ := G1.two
    obtain ⟨G2a, G2b, G2f, G2g, _⟩ := G2.two
    obtain ⟨R1a, R1b, R1f, R1g, _⟩ := R1.two
    by_cases hr1 : r1 = 0
    · subst hr1
      by_cases hr2 : r2 = 0
      · subst hr2
        go_wp2_with fail
        refine (far_any _ _ _ _ _).mono ?_
        rintro e v3 ⟨rfl, hg3⟩
        clear G0a G0b G0f G0g G1a G1b G1f G1g G2a G2b G2f G2g R1a R1b R1f R1g
        replace G0 := (G0.alloc (.cells #[.int .i64 p2, .int .i64 q2] 23)).gr hg3
        replace G1 := (G1.alloc (.cells #[.int .i64 p2, .int .i64 q2] 23)).gr hg3
        replace G2 := (G2.alloc (.cells #[.int .i64 p2, .int .i64 q2] 23)).gr hg3
        replace R1 := (R1.alloc (.cells #[.int .i64 p2, .int .i64 q2] 23)).gr hg3
        have R2 : Blk v3 v2.heap.size 23 #[.int .i64 p2, .int .i64 q2] := Blk.made (by simp) hg3
        replace hgw : Gr w v3 := Gr.trans (hgw.alloc _) hg3
        clear hg3
        obtain ⟨G0a, G0b, G0f, G0g, _⟩ := G0.two
        obtain ⟨G1a, G1b, G1f, G1g, _⟩ := G1.two
        obtain ⟨G2a, G2b, G2f, G2g, _⟩ := G2.two
        obtain ⟨R1a, R1b, R1f, R1g, _⟩ := R1.two
        obtain ⟨R2a, R2b, R2f, R2g, _⟩ := R2.two
        rw [farP_turn (quad_lt n) H1.out H2.out rfl rfl, ← Hfar.out]
        go_wp2_with fail
        refine (turn_any _ _ _ _ _ _).mono ?_
        rintro e v4 ⟨⟨p3, q3, r3, hh3, rfl⟩, hg4⟩
        have H3 := Lib.hid hh3
        clear hh3
        clear G0a G0b G0f G0g G1a G1b G1f G1g G2a G2b G2f G2g R1a R1b R1f R1g R2a R2b R2f R2g
        replace G0 := G0.gr hg4
        replace G1 := G1.gr hg4
        replace G2 := G2.gr hg4
        replace R1 := R1.gr hg4
        replace R2 := R2.gr hg4
        replace hgw : Gr w v4 := Gr.trans hgw hg4
        clear hg4
        obtain ⟨G0a, G0b, G0f, G0g, _⟩ := G0.two
        obtain ⟨G1a, G1b, G1f, G1g, _⟩ := G1.two
        obtain ⟨G2a, G2b, G2f, G2g, _⟩ := G2.two
        obtain ⟨R1a, R1b, R1f, R1g, _⟩ := R1.two
        obtain ⟨R2a, R2b, R2f, R2g, _⟩ := R2.two
        obtain ⟨rfl, rfl, rfl⟩ := tuple3r (turnP_back (quad_lt n) (quad_back n) H1.out rfl) H3.out
        go_wp2_with fail
        refine (mirror_any _ _ _).mono ?_
        rintro e v5 ⟨⟨p4, q4, r4, hh4, rfl⟩, hg5⟩
        have H4 := Lib.hid hh4
        clear hh4
        clear G0a G0b G0f G0g G1a G1b G1f G1g G2a G2b G2f G2g R1a R1b R1f R1g R2a R2b R2f R2g
        replace G0 := (G0.alloc (.cells #[.int .i64 ax, .int .i64 ay] 23)).gr hg5
        replace G1 := (G1.alloc (.cells #[.int .i64 ax, .int .i64 ay] 23)).gr hg5
        replace G2 := (G2.alloc (.cells #[.int .i64 ax, .int .i64 ay] 23)).gr hg5
        replace R1 := (R1.alloc (.cells #[.int .i64 ax, .int .i64 ay] 23)).gr hg5
        replace R2 := (R2.alloc (.cells #[.int .i64 ax, .int .i64 ay] 23)).gr hg5
        have R3 : Blk v5 v4.heap.size 23 #[.int .i64 ax, .int .i64 ay] := Blk.made (by simp) hg5
        replace hgw : Gr w v5 := Gr.trans (hgw.alloc _) hg5
        clear hg5
        obtain ⟨G0a, G0b, G0f, G0g, _⟩ := G0.two
        obtain ⟨G1a, G1b, G1f, G1g, _⟩ := G1.two
        obtain ⟨G2a, G2b, G2f, G2g, _⟩ := G2.two
        obtain ⟨R1a, R1b, R1f, R1g, _⟩ := R1.two
        obtain ⟨R2a, R2b, R2f, R2g, _⟩ := R2.two
        obtain ⟨R3a, R3b, R3f, R3g, _⟩ := R3.two
        go_wp2_with fail
        refine (mirror_any _ _ _).mono ?_
        rintro e v6 ⟨⟨p5, q5, r5, hh5, rfl⟩, hg6⟩
        have H5 := Lib.hid hh5
        clear hh5
        clear G0a G0b G0f G0g G1a G1b G1f G1g G2a G2b G2f G2g R1a R1b R1f R1g R2a R2b R2f R2g R3a R3b R3f R3g
        replace G0 := (G0.alloc (.cells #[.int .i64 p4, .int .i64 q4] 23)).gr hg6
        replace G1 := (G1.alloc (.cells #[.int .i64 p4, .int .i64 q4] 23)).gr hg6
        replace G2 := (G2.alloc (.cells #[.int .i64 p4, .int .i64 q4] 23)).gr hg6
        replace R1 := (R1.alloc (.cells #[.int .i64 p4, .int .i64 q4] 23)).gr hg6
        replace R2 := (R2.alloc (.cells #[.int .i64 p4, .int .i64 q4] 23)).gr hg6
        replace R3 := (R3.alloc (.cells #[.int .i64 p4, .int .i64 q4] 23)).gr hg6
        have R4 : Blk v6 v5.heap.size 23 #[.int .i64 p4, .int .i64 q4] := Blk.made (by simp) hg6
        replace hgw : Gr w v6 := Gr.trans (hgw.alloc _) hg6
        clear hg6
        obtain ⟨G0a, G0b, G0f, G0g, _⟩ := G0.two
        obtain ⟨G1a, G1b, G1f, G1g, _⟩ := G1.two
        obtain ⟨G2a, G2b, G2f, G2g, _⟩ := G2.two
        obtain ⟨R1a, R1b, R1f, R1g, _⟩ := R1.two
        obtain ⟨R2a, R2b, R2f, R2g, _⟩ := R2.two
        obtain ⟨R3a, R3b, R3f, R3g, _⟩ := R3.two
        obtain ⟨R4a, R4b, R4f, R4g, _⟩ := R4.two
        go_wp2_with fail
        refine (awake_any _).mono ?_
        rintro e v7 ⟨rfl, hg7⟩
        clear G0a G0b G0f G0g G1a G1b G1f G1g G2a G2b G2f G2g R1a R1b R1f R1g R2a R2b R2f R2g R3a R3b R3f R3g R4a R4b R4f R4g
        replace G0 := (G0.alloc (.cells #[.int .i64 p5, .int .i64 q5] 23)).gr hg7
        replace G1 := (G1.alloc (.cells #[.int .i64 p5, .int .i64 q5] 23)).gr hg7
        replace G2 := (G2.alloc (.cells #[.int .i64 p5, .int .i64 q5] 23)).gr hg7
        replace R1 := (R1.alloc (.cells #[.int .i64 p5, .int .i64 q5] 23)).gr hg7
        replace R2 := (R2.alloc (.cells #[.int .i64 p5, .int .i64 q5] 23)).gr hg7
        replace R3 := (R3.alloc (.cells #[.int .i64 p5, .int .i64 q5] 23)).gr hg7
        replace R4 := (R4.alloc (.cells #[.int .i64 p5, .int .i64 q5] 23)).gr hg7
        have R5 : Blk v7 v6.heap.size 23 #[.int .i64 p5, .int .i64 q5] := Blk.made (by simp) hg7
        replace hgw : Gr w v7 := Gr.trans (hgw.alloc _) hg7
        clear hg7
        obtain ⟨G0a, G0b, G0f, G0g, _⟩ := G0.two
        obtain ⟨G1a, G1b, G1f, G1g, _⟩ := G1.two
        obtain ⟨G2a, G2b, G2f, G2g, _⟩ := G2.two
        obtain ⟨R1a, R1b, R1f, R1g, _⟩ := R1.two
        obtain ⟨R2a, R2b, R2f, R2g, _⟩ := R2.two
        obtain ⟨R3a, R3b, R3f, R3g, _⟩ := R3.two
        obtain ⟨R4a, R4b, R4f, R4g, _⟩ := R4.two
        obtain ⟨R5a, R5b, R5f, R5g, _⟩ := R5.two
        rcases mirrorP_r H4.out with ⟨m1, rfl, rfl, rfl⟩ | rfl
        · rcases mirrorP_r H5.out with ⟨m2, rfl, rfl, rfl⟩ | rfl
          · have hm := Lib.hid (farP_mirror m1 m2)
            clear m1 m2
            go_wp2_with fail
            refine (far_any _ _ _ _ _).mono ?_
            rintro e v8 ⟨rfl, hg8⟩
            clear G0a G0b G0f G0g G1a G1b G1f G1g G2a G2b G2f G2g R1a R1b R1f R1g R2a R2b R2f R2g R3a R3b R3f R3g R4a R4b R4f R4g R5a R5b R5f R5g
            replace G0 := G0.gr hg8
            replace G1 := G1.gr hg8
            replace G2 := G2.gr hg8
            replace R1 := R1.gr hg8
            replace R2 := R2.gr hg8
            replace R3 := R3.gr hg8
            replace R4 := R4.gr hg8
            replace R5 := R5.gr hg8
            replace hgw : Gr w v8 := Gr.trans hgw hg8
            clear hg8
            obtain ⟨G0a, G0b, G0f, G0g, _⟩ := G0.two
            obtain ⟨G1a, G1b, G1f, G1g, _⟩ := G1.two
            obtain ⟨G2a, G2b, G2f, G2g, _⟩ := G2.two
            obtain ⟨R1a, R1b, R1f, R1g, _⟩ := R1.two
            obtain ⟨R2a, R2b, R2f, R2g, _⟩ := R2.two
            obtain ⟨R3a, R3b, R3f, R3g, _⟩ := R3.two
            obtain ⟨R4a, R4b, R4f, R4g, _⟩ := R4.two
            obtain ⟨R5a, R5b, R5f, R5g, _⟩ := R5.two
            rw [hm.out, ← Hfar.out]
            go_wp2
            go_ret
            exact ⟨ret_eq (by simp), hgw⟩
          · clear m1
            go_wp2
            go_ret
            exact ⟨ret_eq (by simp), hgw⟩
        · go_wp2
          go_ret
          exact ⟨ret_eq (by simp), hgw⟩
      · have hb2 : ((r2 : Int) == 0) = false := by rw [beq_eq_false_iff_ne]; exact hr2
        clear hr2
        go_wp2_with fail
        refine (turn_any _ _ _ _ _ _).mono ?_
        rintro e v3 ⟨⟨p3, q3, r3, hh3, rfl⟩, hg3⟩
        have H3 := Lib.hid hh3
        clear hh3
        clear G0a G0b G0f G0g G1a G1b G1f G1g G2a G2b G2f G2g R1a R1b R1f R1g
        replace G0 := (G0.alloc (.cells #[.int .i64 p2, .int .i64 q2] 23)).gr hg3
        replace G1 := (G1.alloc (.cells #[.int .i64 p2, .int .i64 q2] 23)).gr hg3
        replace G2 := (G2.alloc (.cells #[.int .i64 p2, .int .i64 q2] 23)).gr hg3
        replace R1 := (R1.alloc (.cells #[.int .i64 p2, .int .i64 q2] 23)).gr hg3
        have R2 : Blk v3 v2.heap.size 23 #[.int .i64 p2, .int .i64 q2] := Blk.made (by simp) hg3
        replace hgw : Gr w v3 := Gr.trans (hgw.alloc _) hg3
        clear hg3
        obtain ⟨G0a, G0b, G0f, G0g, _⟩ := G0.two
        obtain ⟨G1a, G1b, G1f, G1g, _⟩ := G1.two
        obtain ⟨G2a, G2b, G2f, G2g, _⟩ := G2.two
        obtain ⟨R1a, R1b, R1f, R1g, _⟩ := R1.two
        obtain ⟨R2a, R2b, R2f, R2g, _⟩ := R2.two
        obtain ⟨rfl, rfl, rfl⟩ := tuple3r (turnP_back (quad_lt n) (quad_back n) H1.out rfl) H3.out
        go_wp2_with fail
        refine (mirror_any _ _ _).mono ?_
        rintro e v4 ⟨⟨p4, q4, r4, hh4, rfl⟩, hg4⟩
        have H4 := Lib.hid hh4
        clear hh4
        clear G0a G0b G0f G0g G1a G1b G1f G1g G2a G2b G2f G2g R1a R1b R1f R1g R2a R2b R2f R2g
        replace G0 := (G0.alloc (.cells #[.int .i64 ax, .int .i64 ay] 23)).gr hg4
        replace G1 := (G1.alloc (.cells #[.int .i64 ax, .int .i64 ay] 23)).gr hg4
        replace G2 := (G2.alloc (.cells #[.int .i64 ax, .int .i64 ay] 23)).gr hg4
        replace R1 := (R1.alloc (.cells #[.int .i64 ax, .int .i64 ay] 23)).gr hg4
        replace R2 := (R2.alloc (.cells #[.int .i64 ax, .int .i64 ay] 23)).gr hg4
        have R3 : Blk v4 v3.heap.size 23 #[.int .i64 ax, .int .i64 ay] := Blk.made (by simp) hg4
        replace hgw : Gr w v4 := Gr.trans (hgw.alloc _) hg4
        clear hg4
        obtain ⟨G0a, G0b, G0f, G0g, _⟩ := G0.two
        obtain ⟨G1a, G1b, G1f, G1g, _⟩ := G1.two
        obtain ⟨G2a, G2b, G2f, G2g, _⟩ := G2.two
        obtain ⟨R1a, R1b, R1f, R1g, _⟩ := R1.two
        obtain ⟨R2a, R2b, R2f, R2g, _⟩ := R2.two
        obtain ⟨R3a, R3b, R3f, R3g, _⟩ := R3.two
        go_wp2_with fail
        refine (mirror_any _ _ _).mono ?_
        rintro e v5 ⟨⟨p5, q5, r5, hh5, rfl⟩, hg5⟩
        have H5 := Lib.hid hh5
        clear hh5
        clear G0a G0b G0f G0g G1a G1b G1f G1g G2a G2b G2f G2g R1a R1b R1f R1g R2a R2b R2f R2g R3a R3b R3f R3g
        replace G0 := (G0.alloc (.cells #[.int .i64 p4, .int .i64 q4] 23)).gr hg5
        replace G1 := (G1.alloc (.cells #[.int .i64 p4, .int .i64 q4] 23)).gr hg5
        replace G2 := (G2.alloc (.cells #[.int .i64 p4, .int .i64 q4] 23)).gr hg5
        replace R1 := (R1.alloc (.cells #[.int .i64 p4, .int .i64 q4] 23)).gr hg5
        replace R2 := (R2.alloc (.cells #[.int .i64 p4, .int .i64 q4] 23)).gr hg5
        replace R3 := (R3.alloc (.cells #[.int .i64 p4, .int .i64 q4] 23)).gr hg5
        have R4 : Blk v5 v4.heap.size 23 #[.int .i64 p4, .int .i64 q4] := Blk.made (by simp) hg5
        replace hgw : Gr w v5 := Gr.trans (hgw.alloc _) hg5
        clear hg5
        obtain ⟨G0a, G0b, G0f, G0g, _⟩ := G0.two
        obtain ⟨G1a, G1b, G1f, G1g, _⟩ := G1.two
        obtain ⟨G2a, G2b, G2f, G2g, _⟩ := G2.two
        obtain ⟨R1a, R1b, R1f, R1g, _⟩ := R1.two
        obtain ⟨R2a, R2b, R2f, R2g, _⟩ := R2.two
        obtain ⟨R3a, R3b, R3f, R3g, _⟩ := R3.two
        obtain ⟨R4a, R4b, R4f, R4g, _⟩ := R4.two
        go_wp2_with fail
        refine (awake_any _).mono ?_
        rintro e v6 ⟨rfl, hg6⟩
        clear G0a G0b G0f G0g G1a G1b G1f G1g G2a G2b G2f G2g R1a R1b R1f R1g R2a R2b R2f R2g R3a R3b R3f R3g R4a R4b R4f R4g
        replace G0 := (G0.alloc (.cells #[.int .i64 p5, .int .i64 q5] 23)).gr hg6
        replace G1 := (G1.alloc (.cells #[.int .i64 p5, .int .i64 q5] 23)).gr hg6
        replace G2 := (G2.alloc (.cells #[.int .i64 p5, .int .i64 q5] 23)).gr hg6
        replace R1 := (R1.alloc (.cells #[.int .i64 p5, .int .i64 q5] 23)).gr hg6
        replace R2 := (R2.alloc (.cells #[.int .i64 p5, .int .i64 q5] 23)).gr hg6
        replace R3 := (R3.alloc (.cells #[.int .i64 p5, .int .i64 q5] 23)).gr hg6
        replace R4 := (R4.alloc (.cells #[.int .i64 p5, .int .i64 q5] 23)).gr hg6
        have R5 : Blk v6 v5.heap.size 23 #[.int .i64 p5, .int .i64 q5] := Blk.made (by simp) hg6
        replace hgw : Gr w v6 := Gr.trans (hgw.alloc _) hg6
        clear hg6
        obtain ⟨G0a, G0b, G0f, G0g, _⟩ := G0.two
        obtain ⟨G1a, G1b, G1f, G1g, _⟩ := G1.two
        obtain ⟨G2a, G2b, G2f, G2g, _⟩ := G2.two
        obtain ⟨R1a, R1b, R1f, R1g, _⟩ := R1.two
        obtain ⟨R2a, R2b, R2f, R2g, _⟩ := R2.two
        obtain ⟨R3a, R3b, R3f, R3g, _⟩ := R3.two
        obtain ⟨R4a, R4b, R4f, R4g, _⟩ := R4.two
        obtain ⟨R5a, R5b, R5f, R5g, _⟩ := R5.two
        rcases mirrorP_r H4.out with ⟨m1, rfl, rfl, rfl⟩ | rfl
        · rcases mirrorP_r H5.out with ⟨m2, rfl, rfl, rfl⟩ | rfl
          · have hm := Lib.hid (farP_mirror m1 m2)
            clear m1 m2
            go_wp2_with fail
            refine (far_any _ _ _ _ _).mono ?_
            rintro e v7 ⟨rfl, hg7⟩
            clear G0a G0b G0f G0g G1a G1b G1f G1g G2a G2b G2f G2g R1a R1b R1f R1g R2a R2b R2f R2g R3a R3b R3f R3g R4a R4b R4f R4g R5a R5b R5f R5g
            replace G0 := G0.gr hg7
            replace G1 := G1.gr hg7
            replace G2 := G2.gr hg7
            replace R1 := R1.gr hg7
            replace R2 := R2.gr hg7
            replace R3 := R3.gr hg7
            replace R4 := R4.gr hg7
            replace R5 := R5.gr hg7
            replace hgw : Gr w v7 := Gr.trans hgw hg7
            clear hg7
            obtain ⟨G0a, G0b, G0f, G0g, _⟩ := G0.two
            obtain ⟨G1a, G1b, G1f, G1g, _⟩ := G1.two
            obtain ⟨G2a, G2b, G2f, G2g, _⟩ := G2.two
            obtain ⟨R1a, R1b, R1f, R1g, _⟩ := R1.two
            obtain ⟨R2a, R2b, R2f, R2g, _⟩ := R2.two
            obtain ⟨R3a, R3b, R3f, R3g, _⟩ := R3.two
            obtain ⟨R4a, R4b, R4f, R4g, _⟩ := R4.two
            obtain ⟨R5a, R5b, R5f, R5g, _⟩ := R5.two
            rw [hm.out, ← Hfar.out]
            go_wp2
            go_ret
            exact ⟨ret_eq (by simp), hgw⟩
          · clear m1
            go_wp2
            go_ret
            exact ⟨ret_eq (by simp), hgw⟩
        · go_wp2
          go_ret
          exact ⟨ret_eq (by simp), hgw⟩
    · have hb1 : ((r1 : Int) == 0) = false := by rw [beq_eq_false_iff_ne]; exact hr1
      clear hr1
      go_wp2_with fail
      refine (turn_any _ _ _ _ _ _).mono ?_
      rintro e v3 ⟨⟨p3, q3, r3, hh3, rfl⟩, hg3⟩
      have H3 := Lib.hid hh3
      clear hh3
      clear G0a G0b G0f G0g G1a G1b G1f G1g G2a G2b G2f G2g R1a R1b R1f R1g
      replace G0 := (G0.alloc (.cells #[.int .i64 p2, .int .i64 q2] 23)).gr hg3
      replace G1 := (G1.alloc (.cells #[.int .i64 p2, .int .i64 q2] 23)).gr hg3
      replace G2 := (G2.alloc (.cells #[.int .i64 p2, .int .i64 q2] 23)).gr hg3
      replace R1 := (R1.alloc (.cells #[.int .i64 p2, .int .i64 q2] 23)).gr hg3
      have R2 : Blk v3 v2.heap.size 23 #[.int .i64 p2, .int .i64 q2] := Blk.made (by simp) hg3
      replace hgw : Gr w v3 := Gr.trans (hgw.alloc _) hg3
      clear hg3
      obtain ⟨G0a, G0b, G0f, G0g, _⟩ := G0.two
      obtain ⟨G1a, G1b, G1f, G1g, _⟩ := G1.two
      obtain ⟨G2a, G2b, G2f, G2g, _⟩ := G2.two
      obtain ⟨R1a, R1b, R1f, R1g, _⟩ := R1.two
      obtain ⟨R2a, R2b, R2f, R2g, _⟩ := R2.two
      go_wp2_with fail
      refine (mirror_any _ _ _).mono ?_
      rintro e v4 ⟨⟨p4, q4, r4, hh4, rfl⟩, hg4⟩
      have H4 := Lib.hid hh4
      clear hh4
      clear G0a G0b G0f G0g G1a G1b G1f G1g G2a G2b G2f G2g R1a R1b R1f R1g R2a R2b R2f R2g
      replace G0 := (G0.alloc (.cells #[.int .i64 p3, .int .i64 q3] 23)).gr hg4
      replace G1 := (G1.alloc (.cells #[.int .i64 p3, .int .i64 q3] 23)).gr hg4
      replace G2 := (G2.alloc (.cells #[.int .i64 p3, .int .i64 q3] 23)).gr hg4
      replace R1 := (R1.alloc (.cells #[.int .i64 p3, .int .i64 q3] 23)).gr hg4
      replace R2 := (R2.alloc (.cells #[.int .i64 p3, .int .i64 q3] 23)).gr hg4
      have R3 : Blk v4 v3.heap.size 23 #[.int .i64 p3, .int .i64 q3] := Blk.made (by simp) hg4
      replace hgw : Gr w v4 := Gr.trans (hgw.alloc _) hg4
      clear hg4
      obtain ⟨G0a, G0b, G0f, G0g, _⟩ := G0.two
      obtain ⟨G1a, G1b, G1f, G1g, _⟩ := G1.two
      obtain ⟨G2a, G2b, G2f, G2g, _⟩ := G2.two
      obtain ⟨R1a, R1b, R1f, R1g, _⟩ := R1.two
      obtain ⟨R2a, R2b, R2f, R2g, _⟩ := R2.two
      obtain ⟨R3a, R3b, R3f, R3g, _⟩ := R3.two
      go_wp2_with fail
      refine (mirror_any _ _ _).mono ?_
      rintro e v5 ⟨⟨p5, q5, r5, hh5, rfl⟩, hg5⟩
      have H5 := Lib.hid hh5
      clear hh5
      clear G0a G0b G0f G0g G1a G1b G1f G1g G2a G2b G2f G2g R1a R1b R1f R1g R2a R2b R2f R2g R3a R3b R3f R3g
      replace G0 := (G0.alloc (.cells #[.int .i64 p4, .int .i64 q4] 23)).gr hg5
      replace G1 := (G1.alloc (.cells #[.int .i64 p4, .int .i64 q4] 23)).gr hg5
      replace G2 := (G2.alloc (.cells #[.int .i64 p4, .int .i64 q4] 23)).gr hg5
      replace R1 := (R1.alloc (.cells #[.int .i64 p4, .int .i64 q4] 23)).gr hg5
      replace R2 := (R2.alloc (.cells #[.int .i64 p4, .int .i64 q4] 23)).gr hg5
      replace R3 := (R3.alloc (.cells #[.int .i64 p4, .int .i64 q4] 23)).gr hg5
      have R4 : Blk v5 v4.heap.size 23 #[.int .i64 p4, .int .i64 q4] := Blk.made (by simp) hg5
      replace hgw : Gr w v5 := Gr.trans (hgw.alloc _) hg5
      clear hg5
      obtain ⟨G0a, G0b, G0f, G0g, _⟩ := G0.two
      obtain ⟨G1a, G1b, G1f, G1g, _⟩ := G1.two
      obtain ⟨G2a, G2b, G2f, G2g, _⟩ := G2.two
      obtain ⟨R1a, R1b, R1f, R1g, _⟩ := R1.two
      obtain ⟨R2a, R2b, R2f, R2g, _⟩ := R2.two
      obtain ⟨R3a, R3b, R3f, R3g, _⟩ := R3.two
      obtain ⟨R4a, R4b, R4f, R4g, _⟩ := R4.two
      go_wp2_with fail
      refine (awake_any _).mono ?_
      rintro e v6 ⟨rfl, hg6⟩
      clear G0a G0b G0f G0g G1a G1b G1f G1g G2a G2b G2f G2g R1a R1b R1f R1g R2a R2b R2f R2g R3a R3b R3f R3g R4a R4b R4f R4g
      replace G0 := (G0.alloc (.cells #[.int .i64 p5, .int .i64 q5] 23)).gr hg6
      replace G1 := (G1.alloc (.cells #[.int .i64 p5, .int .i64 q5] 23)).gr hg6
      replace G2 := (G2.alloc (.cells #[.int .i64 p5, .int .i64 q5] 23)).gr hg6
      replace R1 := (R1.alloc (.cells #[.int .i64 p5, .int .i64 q5] 23)).gr hg6
      replace R2 := (R2.alloc (.cells #[.int .i64 p5, .int .i64 q5] 23)).gr hg6
      replace R3 := (R3.alloc (.cells #[.int .i64 p5, .int .i64 q5] 23)).gr hg6
      replace R4 := (R4.alloc (.cells #[.int .i64 p5, .int .i64 q5] 23)).gr hg6
      have R5 : Blk v6 v5.heap.size 23 #[.int .i64 p5, .int .i64 q5] := Blk.made (by simp) hg6
      replace hgw : Gr w v6 := Gr.trans (hgw.alloc _) hg6
      clear hg6
      obtain ⟨G0a, G0b, G0f, G0g, _⟩ := G0.two
      obtain ⟨G1a, G1b, G1f, G1g, _⟩ := G1.two
      obtain ⟨G2a, G2b, G2f, G2g, _⟩ := G2.two
      obtain ⟨R1a, R1b, R1f, R1g, _⟩ := R1.two
      obtain ⟨R2a, R2b, R2f, R2g, _⟩ := R2.two
      obtain ⟨R3a, R3b, R3f, R3g, _⟩ := R3.two
      obtain ⟨R4a, R4b, R4f, R4g, _⟩ := R4.two
      obtain ⟨R5a, R5b, R5f, R5g, _⟩ := R5.two
      rcases mirrorP_r H4.out with ⟨m1, rfl, rfl, rfl⟩ | rfl
      · rcases mirrorP_r H5.out with ⟨m2, rfl, rfl, rfl⟩ | rfl
        · have hm := Lib.hid (farP_mirror m1 m2)
          clear m1 m2
          go_wp2_with fail
          refine (far_any _ _ _ _ _).mono ?_
          rintro e v7 ⟨rfl, hg7⟩
          clear G0a G0b G0f G0g G1a G1b G1f G1g G2a G2b G2f G2g R1a R1b R1f R1g R2a R2b R2f R2g R3a R3b R3f R3g R4a R4b R4f R4g R5a R5b R5f R5g
          replace G0 := G0.gr hg7
          replace G1 := G1.gr hg7
          replace G2 := G2.gr hg7
          replace R1 := R1.gr hg7
          replace R2 := R2.gr hg7
          replace R3 := R3.gr hg7
          replace R4 := R4.gr hg7
          replace R5 := R5.gr hg7
          replace hgw : Gr w v7 := Gr.trans hgw hg7
          clear hg7
          obtain ⟨G0a, G0b, G0f, G0g, _⟩ := G0.two
          obtain ⟨G1a, G1b, G1f, G1g, _⟩ := G1.two
          obtain ⟨G2a, G2b, G2f, G2g, _⟩ := G2.two
          obtain ⟨R1a, R1b, R1f, R1g, _⟩ := R1.two
          obtain ⟨R2a, R2b, R2f, R2g, _⟩ := R2.two
          obtain ⟨R3a, R3b, R3f, R3g, _⟩ := R3.two
          obtain ⟨R4a, R4b, R4f, R4g, _⟩ := R4.two
          obtain ⟨R5a, R5b, R5f, R5g, _⟩ := R5.two
          rw [hm.out, ← Hfar.out]
          go_wp2
          go_ret
          exact ⟨ret_eq (by simp), hgw⟩
        · clear m1
          go_wp2
          go_ret
          exact ⟨ret_eq (by simp), hgw⟩
      · go_wp2
        go_ret
        exact ⟨ret_eq (by simp), hgw⟩

end Go.Proofs.Ytiidgmlmfjlaiaa
