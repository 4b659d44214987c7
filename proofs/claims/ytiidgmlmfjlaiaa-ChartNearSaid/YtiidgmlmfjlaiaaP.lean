/-
  Walks: ChartBack.
-/
import Derived.Test.YtiidgmlmfjlaiaaM
namespace Go.Proofs.Ytiidgmlmfjlaiaa
open Go.RowKit Fl Rg Sp

theorem tuple3 {a b c p q r : Int} {x : Int × Int × Int} (h : x = (a, b, c)) (k : x = (p, q, r)) : p = a ∧ q = b ∧ r = c := by
  rw [h] at k
  injection k with h1 h2
  injection h2 with h2 h3
  exact ⟨h1.symm, h2.symm, h3.symm⟩

theorem tuple3r {a b c p q r : Int} {x : Int × Int × Int} (h : x = (a, b, c)) (k : x = (p, q, r)) : a = p ∧ b = q ∧ c = r := by
  obtain ⟨h1, h2, h3⟩ := tuple3 h k
  exact ⟨h1.symm, h2.symm, h3.symm⟩

theorem inB_mk {x y : Int} (h : -1000 ≤ x ∧ x ≤ 1000 ∧ -1000 ≤ y ∧ y ≤ 1000) : inB x y = true := by
  unfold inB; simp; omega

theorem moveP_ok {ax ay bx by' p q r : Int} (h : moveP ax ay bx by' = (p, q, r)) : r = 0 → onV ax ay bx by' = true ∧ inB (ax + bx) (ay + by') = true ∧ p = ax + bx ∧ q = ay + by' := by
  intro hr
  unfold moveP at h
  by_cases h1 : onV ax ay bx by' = true
  · rw [if_pos h1] at h
    unfold heldP at h
    by_cases h2 : inB (ax + bx) (ay + by') = true
    · rw [if_pos h2] at h
      obtain ⟨e1, e2, e3⟩ := tuple3 rfl h
      exact ⟨h1, h2, e1, e2⟩
    · rw [if_neg h2] at h
      obtain ⟨e1, e2, e3⟩ := tuple3 rfl h
      omega
  · rw [if_neg h1] at h
    obtain ⟨e1, e2, e3⟩ := tuple3 rfl h
    omega

theorem moveP_back {ax ay bx by' : Int} (h1 : onV ax ay bx by' = true) (h2 : inB (ax + bx) (ay + by') = true) : moveP (ax + bx) (ay + by') (-bx) (-by') = (ax, ay, 0) := by
  have b := inB2_bounds h1
  have ha : inB ax ay = true := inB_mk b.1
  have hb : inB (-bx) (-by') = true := inB_mk (by omega)
  unfold moveP
  rw [if_pos (by unfold onV; rw [h2, hb]; rfl)]
  have e1 : ax + bx + -bx = ax := by omega
  have e2 : ay + by' + -by' = ay := by omega
  rw [e1, e2]
  unfold heldP
  rw [if_pos ha]

theorem times_turn (ax ay : Int) : timesP ax ay 0 1 = turnP ax ay 0 0 (quad 1) := by
  unfold timesP turnP
  have e : onV ax ay 0 1 = onV ax ay 0 0 := by unfold onV; congr 1
  rw [e]
  have e1 : ax * 0 - ay * 1 = 0 + rotx (quad 1) (ax - 0) (ay - 0) := by
    have : quad 1 = 1 := by decide
    rw [this]; simp [rotx]
  have e2 : ax * 1 + ay * 0 = 0 + roty (quad 1) (ax - 0) (ay - 0) := by
    have : quad 1 = 1 := by decide
    rw [this]; simp [roty]
  rw [e1, e2]

theorem mirror_back {ax ay p q r p' q' r' : Int} (h : mirrorP ax ay = (p, q, r)) (k : mirrorP p q = (p', q', r')) : 0 = r ∧ 0 = r' ∧ ax = p' ∧ ay = q' ∨ 1 = r := by
  unfold mirrorP at h
  by_cases h1 : inB ax ay = true
  · rw [if_pos h1] at h
    obtain ⟨rfl, rfl, rfl⟩ := tuple3 rfl h
    have b := inB_bounds h1
    unfold mirrorP at k
    rw [if_pos (inB_mk (by omega))] at k
    obtain ⟨e1, e2, e3⟩ := tuple3 rfl k
    exact .inl ⟨rfl, e3.symm, e1.symm, by omega⟩
  · rw [if_neg h1] at h
    obtain ⟨e1, e2, e3⟩ := tuple3 rfl h
    exact .inr e3.symm

set_option maxHeartbeats 8000000 in
set_option maxRecDepth 100000 in
theorem chartBack_walk (ax ay bx by' : Int) (w : World) :
    Calls Try.prog 5 #[.agg #[.int .i64 ax, .int .i64 ay], .agg #[.int .i64 bx, .int .i64 by']] w fun e w' => e = .returned (.bool true) ∧ Gr w w' := by
  go_enter Try.func5, Try.ntmps5
  go_wp2
  obtain ⟨w0, hw0⟩ : ∃ w0, w0 = (w.alloc (.cells #[.int .i64 ax, .int .i64 ay] 29)).alloc (.cells #[.int .i64 bx, .int .i64 by'] 29) := ⟨_, rfl⟩
  rw [← hw0]
  have hg0 : Gr w w0 := by rw [hw0]; exact ((Gr.refl _).alloc _).alloc _
  have A1 : Blk w0 w.heap.size 29 #[.int .i64 ax, .int .i64 ay] := by rw [hw0]; exact (Blk.new _ _ _).alloc _
  have A2 : Blk w0 (w.heap.size + 1) 29 #[.int .i64 bx, .int .i64 by'] := by rw [hw0]; exact Blk.made (by simp) (Gr.refl _)
  clear hw0
  refine wp_region_D [19, 20, 21, 22, 5, 6] [[0], [1, 0], [2], [3, 2], [4], [5], [6, 4, 1, 0], [7, 5, 3, 2]]
    (fun x u => Gr w0 u ∧ Pend w0.heap.size u (x 5) ∧ Pend w0.heap.size u (x 6) ∧ Apart (x 5) (x 6))
    (fun i x a b => match i with
      | 6 => PutAt (x 5) a b
      | 7 => PutAt (x 6) a b
      | _ => Gr a b)
    (fun i x u => match i with
      | 0 => x 19 = .agg #[.int .i64 ax, .int .i64 ay]
      | 1 => x 20 = .agg #[.int .i64 ax, .int .i64 ay]
      | 2 => x 21 = .agg #[.int .i64 bx, .int .i64 by']
      | 3 => x 22 = .agg #[.int .i64 bx, .int .i64 by']
      | 4 => PtrTo 23 u (x 5)
      | 5 => PtrTo 23 u (x 6)
      | 6 => HasSpot 23 u (x 5) ax ay
      | 7 => HasSpot 23 u (x 6) bx by'
      | _ => True)
    (by kernel_rfl) (by kernel_rfl) (by kernel_rfl) ?_ ?_ ?_ ?_ ?_
  · exact ⟨(Gr.refl _).drew, .inl rfl, .inl rfl, Apart.undef_left _⟩
  · intro i x x' u hk hv
    match i, hk, hv with
    | 0, hk, hv => simp [val] at hk; simp [hk] at hv ⊢; exact hv
    | 1, hk, hv => simp [val] at hk; simp [hk] at hv ⊢; exact hv
    | 2, hk, hv => simp [val] at hk; simp [hk] at hv ⊢; exact hv
    | 3, hk, hv => simp [val] at hk; simp [hk] at hv ⊢; exact hv
    | 4, hk, hv => simp [val] at hk; simp [hk] at hv ⊢; exact hv
    | 5, hk, hv => simp [val] at hk; simp [hk] at hv ⊢; exact hv
    | 6, hk, hv => simp [val] at hk; simp [hk] at hv ⊢; exact hv
    | 7, hk, hv => simp [val] at hk; simp [hk] at hv ⊢; exact hv
    | m + 8, _, _ => trivial
  · intro i j x u u' hne hJ hv hE
    obtain ⟨hg, e0, e1, ap0⟩ := hJ
    match i, hv, hne with
    | 0, hv, _ => exact hv
    | 1, hv, _ => exact hv
    | 2, hv, _ => exact hv
    | 3, hv, _ => exact hv
    | 4, hv, _ =>
      match j, hE with
      | 0, hE => exact PtrTo.gr hv hE
      | 1, hE => exact PtrTo.gr hv hE
      | 2, hE => exact PtrTo.gr hv hE
      | 3, hE => exact PtrTo.gr hv hE
      | 4, hE => exact PtrTo.gr hv hE
      | 5, hE => exact PtrTo.gr hv hE
      | 6, hE => exact PtrTo.put hv hE
      | 7, hE => exact PtrTo.put hv hE
      | m + 8, hE => exact PtrTo.gr hv hE
    | 5, hv, _ =>
      match j, hE with
      | 0, hE => exact PtrTo.gr hv hE
      | 1, hE => exact PtrTo.gr hv hE
      | 2, hE => exact PtrTo.gr hv hE
      | 3, hE => exact PtrTo.gr hv hE
      | 4, hE => exact PtrTo.gr hv hE
      | 5, hE => exact PtrTo.gr hv hE
      | 6, hE => exact PtrTo.put hv hE
      | 7, hE => exact PtrTo.put hv hE
      | m + 8, hE => exact PtrTo.gr hv hE
    | 6, hv, hne =>
      match j, hE, hne with
      | 0, hE, _ => exact HasSpot.gr hv hE
      | 1, hE, _ => exact HasSpot.gr hv hE
      | 2, hE, _ => exact HasSpot.gr hv hE
      | 3, hE, _ => exact HasSpot.gr hv hE
      | 4, hE, _ => exact HasSpot.gr hv hE
      | 5, hE, _ => exact HasSpot.gr hv hE
      | 6, _, hne => exact absurd rfl hne
      | 7, hE, _ => exact HasSpot.put hv ap0 hE
      | m + 8, hE, _ => exact HasSpot.gr hv hE
    | 7, hv, hne =>
      match j, hE, hne with
      | 0, hE, _ => exact HasSpot.gr hv hE
      | 1, hE, _ => exact HasSpot.gr hv hE
      | 2, hE, _ => exact HasSpot.gr hv hE
      | 3, hE, _ => exact HasSpot.gr hv hE
      | 4, hE, _ => exact HasSpot.gr hv hE
      | 5, hE, _ => exact HasSpot.gr hv hE
      | 6, hE, _ => exact HasSpot.put hv ap0.symm hE
      | 7, _, hne => exact absurd rfl hne
      | m + 8, hE, _ => exact HasSpot.gr hv hE
    | m + 8, _, _ => trivial
  · intro i
    match i with
    | 0 =>
      intro o ho x u hJ hd K hK
      simp at ho; subst ho
      refine wpOp_of rfl rfl ?_
      obtain ⟨hg, e0, e1, ap0⟩ := hJ
      have k0 := hg.cell (A1).two.1
      have k1 := hg.cell (A1).two.2.1
      clear hd
      simp [frame, fill, Act.put, updO, upd] at hK ⊢
      go_simp
      exact hK _ _ (Gr.refl _) hg e0 e1 ap0 rfl
    | 1 =>
      intro o ho x u hJ hd K hK
      simp at ho; subst ho
      refine wpOp_of rfl rfl ?_
      obtain ⟨hg, e0, e1, ap0⟩ := hJ
      have hx : x 19 = _ := hd 0 (by simp) (by decide)
      clear hd
      simp [frame, fill, Act.put, updO, upd, hx] at hK ⊢
      clear hx
      go_simp
      refine (to_any _ _ _).mono ?_
      rintro e w4 ⟨rfl, hb1⟩
      exact hK _ _ hb1 (hg.trans hb1) (e0.gr hb1.size) (e1.gr hb1.size) ap0 rfl
    | 2 =>
      intro o ho x u hJ hd K hK
      simp at ho; subst ho
      refine wpOp_of rfl rfl ?_
      obtain ⟨hg, e0, e1, ap0⟩ := hJ
      have k0 := hg.cell (A2).two.1
      have k1 := hg.cell (A2).two.2.1
      clear hd
      simp [frame, fill, Act.put, updO, upd] at hK ⊢
      go_simp
      exact hK _ _ (Gr.refl _) hg e0 e1 ap0 rfl
    | 3 =>
      intro o ho x u hJ hd K hK
      simp at ho; subst ho
      refine wpOp_of rfl rfl ?_
      obtain ⟨hg, e0, e1, ap0⟩ := hJ
      have hx : x 21 = _ := hd 2 (by simp) (by decide)
      clear hd
      simp [frame, fill, Act.put, updO, upd, hx] at hK ⊢
      clear hx
      go_simp
      refine (to_any _ _ _).mono ?_
      rintro e w4 ⟨rfl, hb1⟩
      exact hK _ _ hb1 (hg.trans hb1) (e0.gr hb1.size) (e1.gr hb1.size) ap0 rfl
    | 4 =>
      intro o ho x u hJ hd K hK
      simp at ho; subst ho
      refine wpOp_of rfl rfl ?_
      obtain ⟨hg, e0, e1, ap0⟩ := hJ
      clear hd
      simp [frame, fill, Act.put, updO, upd] at hK ⊢
      go_simp
      exact hK _ _ ((Gr.refl _).alloc _) (hg.alloc _) (Pend.new hg.size _) (e1.gr (by simp)) (Apart.new e1) ⟨_, rfl, _, _, Blk.new _ _ _⟩
    | 5 =>
      intro o ho x u hJ hd K hK
      simp at ho; subst ho
      refine wpOp_of rfl rfl ?_
      obtain ⟨hg, e0, e1, ap0⟩ := hJ
      clear hd
      simp [frame, fill, Act.put, updO, upd] at hK ⊢
      go_simp
      exact hK _ _ ((Gr.refl _).alloc _) (hg.alloc _) (e0.gr (by simp)) (Pend.new hg.size _) (Apart.new e0).symm ⟨_, rfl, _, _, Blk.new _ _ _⟩
    | 6 =>
      intro o ho x u hJ hd K hK
      simp at ho; subst ho
      refine wpOp_of rfl rfl ?_
      obtain ⟨hg, e0, e1, ap0⟩ := hJ
      obtain ⟨g, hp, p, q, hB⟩ : PtrTo _ _ _ := hd 4 (by simp) (by decide)
      have hx : x 20 = _ := hd 1 (by simp) (by decide)
      clear hd
      obtain ⟨c0, c1, f0, f1, _⟩ := hB.two
      have hput : PutAt (x 5) u ((u.setCell ⟨g, 0, none⟩ (.int .i64 ax)).setCell ⟨g, 1, none⟩ (.int .i64 ay)) := ⟨g, _, _, hp, rfl⟩
      have hgp := gr_put hg e0 hput
      have hsp : HasSpot 23 ((u.setCell ⟨g, 0, none⟩ (.int .i64 ax)).setCell ⟨g, 1, none⟩ (.int .i64 ay)) (x 5) ax ay := ⟨g, hp, (hB.set 0 _).set 1 _⟩
      have hK2 := hK undef _ hput ⟨hgp, (e0.gr (Nat.le_of_eq (size_put hput).symm)), (e1.gr (Nat.le_of_eq (size_put hput).symm)), ap0⟩ hsp
      clear hK hput hgp hsp
      simp [frame, fill, Act.put, hp, hx] at hK2 ⊢
      clear hx hp
      go_simp
      exact hK2
    | 7 =>
      intro o ho x u hJ hd K hK
      simp at ho; subst ho
      refine wpOp_of rfl rfl ?_
      obtain ⟨hg, e0, e1, ap0⟩ := hJ
      obtain ⟨g, hp, p, q, hB⟩ : PtrTo _ _ _ := hd 5 (by simp) (by decide)
      have hx : x 22 = _ := hd 3 (by simp) (by decide)
      clear hd
      obtain ⟨c0, c1, f0, f1, _⟩ := hB.two
      have hput : PutAt (x 6) u ((u.setCell ⟨g, 0, none⟩ (.int .i64 bx)).setCell ⟨g, 1, none⟩ (.int .i64 by')) := ⟨g, _, _, hp, rfl⟩
      have hgp := gr_put hg e1 hput
      have hsp : HasSpot 23 ((u.setCell ⟨g, 0, none⟩ (.int .i64 bx)).setCell ⟨g, 1, none⟩ (.int .i64 by')) (x 6) bx by' := ⟨g, hp, (hB.set 0 _).set 1 _⟩
      have hK2 := hK undef _ hput ⟨hgp, (e0.gr (Nat.le_of_eq (size_put hput).symm)), (e1.gr (Nat.le_of_eq (size_put hput).symm)), ap0⟩ hsp
      clear hK hput hgp hsp
      simp [frame, fill, Act.put, hp, hx] at hK2 ⊢
      clear hx hp
      go_simp
      exact hK2
    | m + 8 => intro o ho; simp at ho
  · intro x u hJ hall
    have hgu := hJ.1
    have hl0 : x 19 = _ := hall 0 (by simp)
    have hc0 : x 20 = _ := hall 1 (by simp)
    obtain ⟨g0, hp0, G0⟩ : HasSpot _ _ _ _ _ := hall 6 (by simp)
    have hl1 : x 21 = _ := hall 2 (by simp)
    have hc1 : x 22 = _ := hall 3 (by simp)
    obtain ⟨g1, hp1, G1⟩ : HasSpot _ _ _ _ _ := hall 7 (by simp)
    clear hall hJ
    simp [frame, fill, hl0, hc0, hp0, hl1, hc1, hp1]
    clear hl0 hc0 hp0 hl1 hc1 hp1
    have P2 := A2.gr hgu
    have hgw : Gr w u := hg0.trans hgu
    clear A1 A2 hgu hg0
    obtain ⟨P2a, P2b, P2f, P2g, _⟩ := P2.two
    obtain ⟨G0a, G0b, G0f, G0g, _⟩ := G0.two
    obtain ⟨G1a, G1b, G1f, G1g, _⟩ := G1.two
    go_wp2_with fail
    refine (move_any _ _ _ _ _).mono ?_
    rintro e v0 ⟨⟨p0, q0, r0, hh0, rfl⟩, hg0⟩
    have H0 := Lib.hid hh0
    clear hh0
    clear P2a P2b P2f P2g G0a G0b G0f G0g G1a G1b G1f G1g
    replace P2 := P2.gr hg0
    replace G0 := G0.gr hg0
    replace G1 := G1.gr hg0
    replace hgw : Gr w v0 := Gr.trans hgw hg0
    clear hg0
    obtain ⟨P2a, P2b, P2f, P2g, _⟩ := P2.two
    obtain ⟨G0a, G0b, G0f, G0g, _⟩ := G0.two
    obtain ⟨G1a, G1b, G1f, G1g, _⟩ := G1.two
    by_cases hr0 : r0 = 0
    · subst hr0
      obtain ⟨hon, hin, rfl, rfl⟩ := moveP_ok H0.out rfl
      have hbd := inB2_bounds hon
      have Hon := Lib.hid hon
      have Hin := Lib.hid hin
      clear hon hin
      go_wp2_with fail
      refine (move_any _ _ _ _ _).mono ?_
      rintro e v1 ⟨⟨p1, q1, r1, hh1, rfl⟩, hg1⟩
      have H1 := Lib.hid hh1
      clear hh1
      clear P2a P2b P2f P2g G0a G0b G0f G0g G1a G1b G1f G1g
      replace P2 := (P2.alloc (.cells #[.int .i64 (ax + bx), .int .i64 (ay + by')] 23)).gr hg1
      replace G0 := (G0.alloc (.cells #[.int .i64 (ax + bx), .int .i64 (ay + by')] 23)).gr hg1
      replace G1 := (G1.alloc (.cells #[.int .i64 (ax + bx), .int .i64 (ay + by')] 23)).gr hg1
      have R0 : Blk v1 v0.heap.size 23 #[.int .i64 (ax + bx), .int .i64 (ay + by')] := Blk.made (by simp) hg1
      replace hgw : Gr w v1 := Gr.trans (hgw.alloc _) hg1
      clear hg1
      obtain ⟨P2a, P2b, P2f, P2g, _⟩ := P2.two
      obtain ⟨G0a, G0b, G0f, G0g, _⟩ := G0.two
      obtain ⟨G1a, G1b, G1f, G1g, _⟩ := G1.two
      obtain ⟨R0a, R0b, R0f, R0g, _⟩ := R0.two
      obtain ⟨rfl, rfl, rfl⟩ := tuple3r (moveP_back Hon.out Hin.out) H1.out
      clear hbd
      go_wp2_with fail
      refine (times_any _ _ _ _ _).mono ?_
      rintro e v2 ⟨⟨p5, q5, r5, hh5, rfl⟩, hg2⟩
      have H5 := Lib.hid hh5
      clear hh5
      clear P2a P2b P2f P2g G0a G0b G0f G0g G1a G1b G1f G1g R0a R0b R0f R0g
      replace P2 := (P2.alloc (.cells #[.int .i64 ax, .int .i64 ay] 23)).gr hg2
      replace G0 := (G0.alloc (.cells #[.int .i64 ax, .int .i64 ay] 23)).gr hg2
      replace G1 := (G1.alloc (.cells #[.int .i64 ax, .int .i64 ay] 23)).gr hg2
      replace R0 := (R0.alloc (.cells #[.int .i64 ax, .int .i64 ay] 23)).gr hg2
      have R1 : Blk v2 v1.heap.size 23 #[.int .i64 ax, .int .i64 ay] := Blk.made (by simp) hg2
      replace hgw : Gr w v2 := Gr.trans (hgw.alloc _) hg2
      clear hg2
      obtain ⟨P2a, P2b, P2f, P2g, _⟩ := P2.two
      obtain ⟨G0a, G0b, G0f, G0g, _⟩ := G0.two
      obtain ⟨G1a, G1b, G1f, G1g, _⟩ := G1.two
      obtain ⟨R0a, R0b, R0f, R0g, _⟩ := R0.two
      obtain ⟨R1a, R1b, R1f, R1g, _⟩ := R1.two
      go_wp2_with fail
      refine (turn_any _ _ _ _ _ _).mono ?_
      rintro e v3 ⟨⟨p6, q6, r6, hh6, rfl⟩, hg3⟩
      have H6 := Lib.hid hh6
      clear hh6
      clear P2a P2b P2f P2g G0a G0b G0f G0g G1a G1b G1f G1g R0a R0b R0f R0g R1a R1b R1f R1g
      replace P2 := (P2.alloc (.cells #[.int .i64 p5, .int .i64 q5] 23)).gr hg3
      replace G0 := (G0.alloc (.cells #[.int .i64 p5, .int .i64 q5] 23)).gr hg3
      replace G1 := (G1.alloc (.cells #[.int .i64 p5, .int .i64 q5] 23)).gr hg3
      replace R0 := (R0.alloc (.cells #[.int .i64 p5, .int .i64 q5] 23)).gr hg3
      replace R1 := (R1.alloc (.cells #[.int .i64 p5, .int .i64 q5] 23)).gr hg3
      have R5 : Blk v3 v2.heap.size 23 #[.int .i64 p5, .int .i64 q5] := Blk.made (by simp) hg3
      replace hgw : Gr w v3 := Gr.trans (hgw.alloc _) hg3
      clear hg3
      obtain ⟨P2a, P2b, P2f, P2g, _⟩ := P2.two
      obtain ⟨G0a, G0b, G0f, G0g, _⟩ := G0.two
      obtain ⟨G1a, G1b, G1f, G1g, _⟩ := G1.two
      obtain ⟨R0a, R0b, R0f, R0g, _⟩ := R0.two
      obtain ⟨R1a, R1b, R1f, R1g, _⟩ := R1.two
      obtain ⟨R5a, R5b, R5f, R5g, _⟩ := R5.two
      obtain ⟨rfl, rfl, rfl⟩ := tuple3r H5.out ((times_turn ax ay).trans H6.out)
      go_wp2_with fail
      refine (mirror_any _ _ _).mono ?_
      rintro e v4 ⟨⟨p7, q7, r7, hh7, rfl⟩, hg4⟩
      have H7 := Lib.hid hh7
      clear hh7
      clear P2a P2b P2f P2g G0a G0b G0f G0g G1a G1b G1f G1g R0a R0b R0f R0g R1a R1b R1f R1g R5a R5b R5f R5g
      replace P2 := (P2.alloc (.cells #[.int .i64 p5, .int .i64 q5] 23)).gr hg4
      replace G0 := (G0.alloc (.cells #[.int .i64 p5, .int .i64 q5] 23)).gr hg4
      replace G1 := (G1.alloc (.cells #[.int .i64 p5, .int .i64 q5] 23)).gr hg4
      replace R0 := (R0.alloc (.cells #[.int .i64 p5, .int .i64 q5] 23)).gr hg4
      replace R1 := (R1.alloc (.cells #[.int .i64 p5, .int .i64 q5] 23)).gr hg4
      replace R5 := (R5.alloc (.cells #[.int .i64 p5, .int .i64 q5] 23)).gr hg4
      have R6 : Blk v4 v3.heap.size 23 #[.int .i64 p5, .int .i64 q5] := Blk.made (by simp) hg4
      replace hgw : Gr w v4 := Gr.trans (hgw.alloc _) hg4
      clear hg4
      obtain ⟨P2a, P2b, P2f, P2g, _⟩ := P2.two
      obtain ⟨G0a, G0b, G0f, G0g, _⟩ := G0.two
      obtain ⟨G1a, G1b, G1f, G1g, _⟩ := G1.two
      obtain ⟨R0a, R0b, R0f, R0g, _⟩ := R0.two
      obtain ⟨R1a, R1b, R1f, R1g, _⟩ := R1.two
      obtain ⟨R5a, R5b, R5f, R5g, _⟩ := R5.two
      obtain ⟨R6a, R6b, R6f, R6g, _⟩ := R6.two
      go_wp2_with fail
      refine (mirror_any _ _ _).mono ?_
      rintro e v5 ⟨⟨p8, q8, r8, hh8, rfl⟩, hg5⟩
      have H8 := Lib.hid hh8
      clear hh8
      clear P2a P2b P2f P2g G0a G0b G0f G0g G1a G1b G1f G1g R0a R0b R0f R0g R1a R1b R1f R1g R5a R5b R5f R5g R6a R6b R6f R6g
      replace P2 := (P2.alloc (.cells #[.int .i64 p7, .int .i64 q7] 23)).gr hg5
      replace G0 := (G0.alloc (.cells #[.int .i64 p7, .int .i64 q7] 23)).gr hg5
      replace G1 := (G1.alloc (.cells #[.int .i64 p7, .int .i64 q7] 23)).gr hg5
      replace R0 := (R0.alloc (.cells #[.int .i64 p7, .int .i64 q7] 23)).gr hg5
      replace R1 := (R1.alloc (.cells #[.int .i64 p7, .int .i64 q7] 23)).gr hg5
      replace R5 := (R5.alloc (.cells #[.int .i64 p7, .int .i64 q7] 23)).gr hg5
      replace R6 := (R6.alloc (.cells #[.int .i64 p7, .int .i64 q7] 23)).gr hg5
      have R7 : Blk v5 v4.heap.size 23 #[.int .i64 p7, .int .i64 q7] := Blk.made (by simp) hg5
      replace hgw : Gr w v5 := Gr.trans (hgw.alloc _) hg5
      clear hg5
      obtain ⟨P2a, P2b, P2f, P2g, _⟩ := P2.two
      obtain ⟨G0a, G0b, G0f, G0g, _⟩ := G0.two
      obtain ⟨G1a, G1b, G1f, G1g, _⟩ := G1.two
      obtain ⟨R0a, R0b, R0f, R0g, _⟩ := R0.two
      obtain ⟨R1a, R1b, R1f, R1g, _⟩ := R1.two
      obtain ⟨R5a, R5b, R5f, R5g, _⟩ := R5.two
      obtain ⟨R6a, R6b, R6f, R6g, _⟩ := R6.two
      obtain ⟨R7a, R7b, R7f, R7g, _⟩ := R7.two
      go_wp2_with fail
      refine (awake_any _).mono ?_
      rintro e v6 ⟨rfl, hg6⟩
      clear P2a P2b P2f P2g G0a G0b G0f G0g G1a G1b G1f G1g R0a R0b R0f R0g R1a R1b R1f R1g R5a R5b R5f R5g R6a R6b R6f R6g R7a R7b R7f R7g
      replace P2 := (P2.alloc (.cells #[.int .i64 p8, .int .i64 q8] 23)).gr hg6
      replace G0 := (G0.alloc (.cells #[.int .i64 p8, .int .i64 q8] 23)).gr hg6
      replace G1 := (G1.alloc (.cells #[.int .i64 p8, .int .i64 q8] 23)).gr hg6
      replace R0 := (R0.alloc (.cells #[.int .i64 p8, .int .i64 q8] 23)).gr hg6
      replace R1 := (R1.alloc (.cells #[.int .i64 p8, .int .i64 q8] 23)).gr hg6
      replace R5 := (R5.alloc (.cells #[.int .i64 p8, .int .i64 q8] 23)).gr hg6
      replace R6 := (R6.alloc (.cells #[.int .i64 p8, .int .i64 q8] 23)).gr hg6
      replace R7 := (R7.alloc (.cells #[.int .i64 p8, .int .i64 q8] 23)).gr hg6
      have R8 : Blk v6 v5.heap.size 23 #[.int .i64 p8, .int .i64 q8] := Blk.made (by simp) hg6
      replace hgw : Gr w v6 := Gr.trans (hgw.alloc _) hg6
      clear hg6
      obtain ⟨P2a, P2b, P2f, P2g, _⟩ := P2.two
      obtain ⟨G0a, G0b, G0f, G0g, _⟩ := G0.two
      obtain ⟨G1a, G1b, G1f, G1g, _⟩ := G1.two
      obtain ⟨R0a, R0b, R0f, R0g, _⟩ := R0.two
      obtain ⟨R1a, R1b, R1f, R1g, _⟩ := R1.two
      obtain ⟨R5a, R5b, R5f, R5g, _⟩ := R5.two
      obtain ⟨R6a, R6b, R6f, R6g, _⟩ := R6.two
      obtain ⟨R7a, R7b, R7f, R7g, _⟩ := R7.two
      obtain ⟨R8a, R8b, R8f, R8g, _⟩ := R8.two
      rcases mirror_back H7.out H8.out with ⟨rfl, rfl, rfl, rfl⟩ | rfl
      · go_wp2
        go_ret
        exact ⟨ret_eq (by simp), hgw⟩
      · go_wp2
        go_ret
        exact ⟨ret_eq (by simp), hgw⟩
    · have hr1 : ((r0 : Int) == 0) = false := by rw [beq_eq_false_iff_ne]; exact hr0
      clear hr0
      go_wp2_with fail
      refine (times_any _ _ _ _ _).mono ?_
      rintro e v1 ⟨⟨p5, q5, r5, hh5, rfl⟩, hg1⟩
      have H5 := Lib.hid hh5
      clear hh5
      clear P2a P2b P2f P2g G0a G0b G0f G0g G1a G1b G1f G1g
      replace P2 := (P2.alloc (.cells #[.int .i64 p0, .int .i64 q0] 23)).gr hg1
      replace G0 := (G0.alloc (.cells #[.int .i64 p0, .int .i64 q0] 23)).gr hg1
      replace G1 := (G1.alloc (.cells #[.int .i64 p0, .int .i64 q0] 23)).gr hg1
      have R0 : Blk v1 v0.heap.size 23 #[.int .i64 p0, .int .i64 q0] := Blk.made (by simp) hg1
      replace hgw : Gr w v1 := Gr.trans (hgw.alloc _) hg1
      clear hg1
      obtain ⟨P2a, P2b, P2f, P2g, _⟩ := P2.two
      obtain ⟨G0a, G0b, G0f, G0g, _⟩ := G0.two
      obtain ⟨G1a, G1b, G1f, G1g, _⟩ := G1.two
      obtain ⟨R0a, R0b, R0f, R0g, _⟩ := R0.two
      go_wp2_with fail
      refine (turn_any _ _ _ _ _ _).mono ?_
      rintro e v2 ⟨⟨p6, q6, r6, hh6, rfl⟩, hg2⟩
      have H6 := Lib.hid hh6
      clear hh6
      clear P2a P2b P2f P2g G0a G0b G0f G0g G1a G1b G1f G1g R0a R0b R0f R0g
      replace P2 := (P2.alloc (.cells #[.int .i64 p5, .int .i64 q5] 23)).gr hg2
      replace G0 := (G0.alloc (.cells #[.int .i64 p5, .int .i64 q5] 23)).gr hg2
      replace G1 := (G1.alloc (.cells #[.int .i64 p5, .int .i64 q5] 23)).gr hg2
      replace R0 := (R0.alloc (.cells #[.int .i64 p5, .int .i64 q5] 23)).gr hg2
      have R5 : Blk v2 v1.heap.size 23 #[.int .i64 p5, .int .i64 q5] := Blk.made (by simp) hg2
      replace hgw : Gr w v2 := Gr.trans (hgw.alloc _) hg2
      clear hg2
      obtain ⟨P2a, P2b, P2f, P2g, _⟩ := P2.two
      obtain ⟨G0a, G0b, G0f, G0g, _⟩ := G0.two
      obtain ⟨G1a, G1b, G1f, G1g, _⟩ := G1.two
      obtain ⟨R0a, R0b, R0f, R0g, _⟩ := R0.two
      obtain ⟨R5a, R5b, R5f, R5g, _⟩ := R5.two
      obtain ⟨rfl, rfl, rfl⟩ := tuple3r H5.out ((times_turn ax ay).trans H6.out)
      go_wp2_with fail
      refine (mirror_any _ _ _).mono ?_
      rintro e v3 ⟨⟨p7, q7, r7, hh7, rfl⟩, hg3⟩
      have H7 := Lib.hid hh7
      clear hh7
      clear P2a P2b P2f P2g G0a G0b G0f G0g G1a G1b G1f G1g R0a R0b R0f R0g R5a R5b R5f R5g
      replace P2 := (P2.alloc (.cells #[.int .i64 p5, .int .i64 q5] 23)).gr hg3
      replace G0 := (G0.alloc (.cells #[.int .i64 p5, .int .i64 q5] 23)).gr hg3
      replace G1 := (G1.alloc (.cells #[.int .i64 p5, .int .i64 q5] 23)).gr hg3
      replace R0 := (R0.alloc (.cells #[.int .i64 p5, .int .i64 q5] 23)).gr hg3
      replace R5 := (R5.alloc (.cells #[.int .i64 p5, .int .i64 q5] 23)).gr hg3
      have R6 : Blk v3 v2.heap.size 23 #[.int .i64 p5, .int .i64 q5] := Blk.made (by simp) hg3
      replace hgw : Gr w v3 := Gr.trans (hgw.alloc _) hg3
      clear hg3
      obtain ⟨P2a, P2b, P2f, P2g, _⟩ := P2.two
      obtain ⟨G0a, G0b, G0f, G0g, _⟩ := G0.two
      obtain ⟨G1a, G1b, G1f, G1g, _⟩ := G1.two
      obtain ⟨R0a, R0b, R0f, R0g, _⟩ := R0.two
      obtain ⟨R5a, R5b, R5f, R5g, _⟩ := R5.two
      obtain ⟨R6a, R6b, R6f, R6g, _⟩ := R6.two
      go_wp2_with fail
      refine (mirror_any _ _ _).mono ?_
      rintro e v4 ⟨⟨p8, q8, r8, hh8, rfl⟩, hg4⟩
      have H8 := Lib.hid hh8
      clear hh8
      clear P2a P2b P2f P2g G0a G0b G0f G0g G1a G1b G1f G1g R0a R0b R0f R0g R5a R5b R5f R5g R6a R6b R6f R6g
      replace P2 := (P2.alloc (.cells #[.int .i64 p7, .int .i64 q7] 23)).gr hg4
      replace G0 := (G0.alloc (.cells #[.int .i64 p7, .int .i64 q7] 23)).gr hg4
      replace G1 := (G1.alloc (.cells #[.int .i64 p7, .int .i64 q7] 23)).gr hg4
      replace R0 := (R0.alloc (.cells #[.int .i64 p7, .int .i64 q7] 23)).gr hg4
      replace R5 := (R5.alloc (.cells #[.int .i64 p7, .int .i64 q7] 23)).gr hg4
      replace R6 := (R6.alloc (.cells #[.int .i64 p7, .int .i64 q7] 23)).gr hg4
      have R7 : Blk v4 v3.heap.size 23 #[.int .i64 p7, .int .i64 q7] := Blk.made (by simp) hg4
      replace hgw : Gr w v4 := Gr.trans (hgw.alloc _) hg4
      clear hg4
      obtain ⟨P2a, P2b, P2f, P2g, _⟩ := P2.two
      obtain ⟨G0a, G0b, G0f, G0g, _⟩ := G0.two
      obtain ⟨G1a, G1b, G1f, G1g, _⟩ := G1.two
      obtain ⟨R0a, R0b, R0f, R0g, _⟩ := R0.two
      obtain ⟨R5a, R5b, R5f, R5g, _⟩ := R5.two
      obtain ⟨R6a, R6b, R6f, R6g, _⟩ := R6.two
      obtain ⟨R7a, R7b, R7f, R7g, _⟩ := R7.two
      go_wp2_with fail
      refine (awake_any _).mono ?_
      rintro e v5 ⟨rfl, hg5⟩
      clear P2a P2b P2f P2g G0a G0b G0f G0g G1a G1b G1f G1g R0a R0b R0f R0g R5a R5b R5f R5g R6a R6b R6f R6g R7a R7b R7f R7g
      replace P2 := (P2.alloc (.cells #[.int .i64 p8, .int .i64 q8] 23)).gr hg5
      replace G0 := (G0.alloc (.cells #[.int .i64 p8, .int .i64 q8] 23)).gr hg5
      replace G1 := (G1.alloc (.cells #[.int .i64 p8, .int .i64 q8] 23)).gr hg5
      replace R0 := (R0.alloc (.cells #[.int .i64 p8, .int .i64 q8] 23)).gr hg5
      replace R5 := (R5.alloc (.cells #[.int .i64 p8, .int .i64 q8] 23)).gr hg5
      replace R6 := (R6.alloc (.cells #[.int .i64 p8, .int .i64 q8] 23)).gr hg5
      replace R7 := (R7.alloc (.cells #[.int .i64 p8, .int .i64 q8] 23)).gr hg5
      have R8 : Blk v5 v4.heap.size 23 #[.int .i64 p8, .int .i64 q8] := Blk.made (by simp) hg5
      replace hgw : Gr w v5 := Gr.trans (hgw.alloc _) hg5
      clear hg5
      obtain ⟨P2a, P2b, P2f, P2g, _⟩ := P2.two
      obtain ⟨G0a, G0b, G0f, G0g, _⟩ := G0.two
      obtain ⟨G1a, G1b, G1f, G1g, _⟩ := G1.two
      obtain ⟨R0a, R0b, R0f, R0g, _⟩ := R0.two
      obtain ⟨R5a, R5b, R5f, R5g, _⟩ := R5.two
      obtain ⟨R6a, R6b, R6f, R6g, _⟩ := R6.two
      obtain ⟨R7a, R7b, R7f, R7g, _⟩ := R7.two
      obtain ⟨R8a, R8b, R8f, R8g, _⟩ := R8.two
      rcases mirror_back H7.out H8.out with ⟨rfl, rfl, rfl, rfl⟩ | rfl
      · go_wp2
        go_ret
        exact ⟨ret_eq (by simp), hgw⟩
      · go_wp2
        go_ret
        exact ⟨ret_eq (by simp), hgw⟩

end Go.Proofs.Ytiidgmlmfjlaiaa
