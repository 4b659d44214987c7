/-
  Walks: ChartReckons.
-/
import Derived.Test.YtiidgmlmfjlaiaaM
namespace Go.Proofs.Ytiidgmlmfjlaiaa
open Go.RowKit Fl Rg Sp

theorem mirrorP_ref (x y : Int) : mirrorP x y = (if inB x y = true then x else 0, if inB x y = true then -y else 0, if inB x y = true then 0 else 1) := by
  unfold mirrorP; split <;> rfl

set_option maxHeartbeats 4000000 in
set_option maxRecDepth 100000 in
theorem chartReckons_walk (ax ay bx by' n : Int) (w : World) :
    Calls Try.prog 4 #[.agg #[.int .i64 ax, .int .i64 ay], .agg #[.int .i64 bx, .int .i64 by'], .int .i64 n] w fun e w' => e = .returned (.bool true) ∧ Gr w w' := by
  go_enter Try.func4, Try.ntmps4
  go_wp2
  obtain ⟨w0, hw0⟩ : ∃ w0, w0 = (w.alloc (.cells #[.int .i64 ax, .int .i64 ay] 29)).alloc (.cells #[.int .i64 bx, .int .i64 by'] 29) := ⟨_, rfl⟩
  rw [← hw0]
  have hg0 : Gr w w0 := by rw [hw0]; exact ((Gr.refl _).alloc _).alloc _
  have A1 : Blk w0 w.heap.size 29 #[.int .i64 ax, .int .i64 ay] := by rw [hw0]; exact (Blk.new _ _ _).alloc _
  have A2 : Blk w0 (w.heap.size + 1) 29 #[.int .i64 bx, .int .i64 by'] := by rw [hw0]; exact Blk.made (by simp) (Gr.refl _)
  clear hw0
  refine wp_region_D [25, 26, 27, 28, 7, 8] [[0], [1, 0], [2], [3, 2], [4], [5], [6, 4, 1, 0], [7, 5, 3, 2]]
    (fun x u => Gr w0 u ∧ Pend w0.heap.size u (x 7) ∧ Pend w0.heap.size u (x 8) ∧ Apart (x 7) (x 8))
    (fun i x a b => match i with
      | 6 => PutAt (x 7) a b
      | 7 => PutAt (x 8) a b
      | _ => Gr a b)
    (fun i x u => match i with
      | 0 => x 25 = .agg #[.int .i64 ax, .int .i64 ay]
      | 1 => x 26 = .agg #[.int .i64 ax, .int .i64 ay]
      | 2 => x 27 = .agg #[.int .i64 bx, .int .i64 by']
      | 3 => x 28 = .agg #[.int .i64 bx, .int .i64 by']
      | 4 => PtrTo 23 u (x 7)
      | 5 => PtrTo 23 u (x 8)
      | 6 => HasSpot 23 u (x 7) ax ay
      | 7 => HasSpot 23 u (x 8) bx by'
      | _ => True)
    (by kernel_rfl) (by kernel_rfl) (by kernel_rfl) ?_ ?_ ?_ ?_ ?_
  · exact ⟨(Gr.refl _).drew, .inl rfl, .inl rfl, Apart.undef_left _⟩
  · intro i x x' u hk hv
    match i, hk, hv with
    | 0, hk, hv => simp [val] at hk; simp [hk] at hv ⊢; exact hv
    | 1, hk, hv => simp [val] at hk; simp [hk] at hv ⊢; exact hv
    | 2, hk, hv => simp [val] at hk; simp [hk] at hv ⊢; exact hv
    | 3, hk, hv => simp [val] at hk; simp [hk] at hv ⊢; exact hv
    | 4, hk, hv => simp [val] at hk; simp [hk] at hv ⊢; exact hv
    | 5, hk, hv => simp [val] at hk; simp [hk] at hv ⊢; exact hv
    | 6, hk, hv => simp [val] at hk; simp [hk] at hv ⊢; exact hv
    | 7, hk, hv => simp [val] at hk; simp [hk] at hv ⊢; exact hv
    | m + 8, _, _ => trivial
  · intro i j x u u' hne hJ hv hE
    obtain ⟨hg, e0, e1, ap0⟩ := hJ
    match i, hv, hne with
    | 0, hv, _ => exact hv
    | 1, hv, _ => exact hv
    | 2, hv, _ => exact hv
    | 3, hv, _ => exact hv
    | 4, hv, _ =>
      match j, hE with
      | 0, hE => exact PtrTo.gr hv hE
      | 1, hE => exact PtrTo.gr hv hE
      | 2, hE => exact PtrTo.gr hv hE
      | 3, hE => exact PtrTo.gr hv hE
      | 4, hE => exact PtrTo.gr hv hE
      | 5, hE => exact PtrTo.gr hv hE
      | 6, hE => exact PtrTo.put hv hE
      | 7, hE => exact PtrTo.put hv hE
      | m + 8, hE => exact PtrTo.gr hv hE
    | 5, hv, _ =>
      match j, hE with
      | 0, hE => exact PtrTo.gr hv hE
      | 1, hE => exact PtrTo.gr hv hE
      | 2, hE => exact PtrTo.gr hv hE
      | 3, hE => exact PtrTo.gr hv hE
      | 4, hE => exact PtrTo.gr hv hE
      | 5, hE => exact PtrTo.gr hv hE
      | 6, hE => exact PtrTo.put hv hE
      | 7, hE => exact PtrTo.put hv hE
      | m + 8, hE => exact PtrTo.gr hv hE
    | 6, hv, hne =>
      match j, hE, hne with
      | 0, hE, _ => exact HasSpot.gr hv hE
      | 1, hE, _ => exact HasSpot.gr hv hE
      | 2, hE, _ => exact HasSpot.gr hv hE
      | 3, hE, _ => exact HasSpot.gr hv hE
      | 4, hE, _ => exact HasSpot.gr hv hE
      | 5, hE, _ => exact HasSpot.gr hv hE
      | 6, _, hne => exact absurd rfl hne
      | 7, hE, _ => exact HasSpot.put hv ap0 hE
      | m + 8, hE, _ => exact HasSpot.gr hv hE
    | 7, hv, hne =>
      match j, hE, hne with
      | 0, hE, _ => exact HasSpot.gr hv hE
      | 1, hE, _ => exact HasSpot.gr hv hE
      | 2, hE, _ => exact HasSpot.gr hv hE
      | 3, hE, _ => exact HasSpot.gr hv hE
      | 4, hE, _ => exact HasSpot.gr hv hE
      | 5, hE, _ => exact HasSpot.gr hv hE
      | 6, hE, _ => exact HasSpot.put hv ap0.symm hE
      | 7, _, hne => exact absurd rfl hne
      | m + 8, hE, _ => exact HasSpot.gr hv hE
    | m + 8, _, _ => trivial
  · intro i
    match i with
    | 0 =>
      intro o ho x u hJ hd K hK
      simp at ho; subst ho
      refine wpOp_of rfl rfl ?_
      obtain ⟨hg, e0, e1, ap0⟩ := hJ
      have k0 := hg.cell (A1).two.1
      have k1 := hg.cell (A1).two.2.1
      clear hd
      simp [frame, fill, Act.put, updO, upd] at hK ⊢
      go_simp
      exact hK _ _ (Gr.refl _) hg e0 e1 ap0 rfl
    | 1 =>
      intro o ho x u hJ hd K hK
      simp at ho; subst ho
      refine wpOp_of rfl rfl ?_
      obtain ⟨hg, e0, e1, ap0⟩ := hJ
      have hx : x 25 = _ := hd 0 (by simp) (by decide)
      clear hd
      simp [frame, fill, Act.put, updO, upd, hx] at hK ⊢
      clear hx
      go_simp
      refine (to_any _ _ _).mono ?_
      rintro e w4 ⟨rfl, hb1⟩
      exact hK _ _ hb1 (hg.trans hb1) (e0.gr hb1.size) (e1.gr hb1.size) ap0 rfl
    | 2 =>
      intro o ho x u hJ hd K hK
      simp at ho; subst ho
      refine wpOp_of rfl rfl ?_
      obtain ⟨hg, e0, e1, ap0⟩ := hJ
      have k0 := hg.cell (A2).two.1
      have k1 := hg.cell (A2).two.2.1
      clear hd
      simp [frame, fill, Act.put, updO, upd] at hK ⊢
      go_simp
      exact hK _ _ (Gr.refl _) hg e0 e1 ap0 rfl
    | 3 =>
      intro o ho x u hJ hd K hK
      simp at ho; subst ho
      refine wpOp_of rfl rfl ?_
      obtain ⟨hg, e0, e1, ap0⟩ := hJ
      have hx : x 27 = _ := hd 2 (by simp) (by decide)
      clear hd
      simp [frame, fill, Act.put, updO, upd, hx] at hK ⊢
      clear hx
      go_simp
      refine (to_any _ _ _).mono ?_
      rintro e w4 ⟨rfl, hb1⟩
      exact hK _ _ hb1 (hg.trans hb1) (e0.gr hb1.size) (e1.gr hb1.size) ap0 rfl
    | 4 =>
      intro o ho x u hJ hd K hK
      simp at ho; subst ho
      refine wpOp_of rfl rfl ?_
      obtain ⟨hg, e0, e1, ap0⟩ := hJ
      clear hd
      simp [frame, fill, Act.put, updO, upd] at hK ⊢
      go_simp
      exact hK _ _ ((Gr.refl _).alloc _) (hg.alloc _) (Pend.new hg.size _) (e1.gr (by simp)) (Apart.new e1) ⟨_, rfl, _, _, Blk.new _ _ _⟩
    | 5 =>
      intro o ho x u hJ hd K hK
      simp at ho; subst ho
      refine wpOp_of rfl rfl ?_
      obtain ⟨hg, e0, e1, ap0⟩ := hJ
      clear hd
      simp [frame, fill, Act.put, updO, upd] at hK ⊢
      go_simp
      exact hK _ _ ((Gr.refl _).alloc _) (hg.alloc _) (e0.gr (by simp)) (Pend.new hg.size _) (Apart.new e0).symm ⟨_, rfl, _, _, Blk.new _ _ _⟩
    | 6 =>
      intro o ho x u hJ hd K hK
      simp at ho; subst ho
      refine wpOp_of rfl rfl ?_
      obtain ⟨hg, e0, e1, ap0⟩ := hJ
      obtain ⟨g, hp, p, q, hB⟩ : PtrTo _ _ _ := hd 4 (by simp) (by decide)
      have hx : x 26 = _ := hd 1 (by simp) (by decide)
      clear hd
      obtain ⟨c0, c1, f0, f1, _⟩ := hB.two
      have hput : PutAt (x 7) u ((u.setCell ⟨g, 0, none⟩ (.int .i64 ax)).setCell ⟨g, 1, none⟩ (.int .i64 ay)) := ⟨g, _, _, hp, rfl⟩
      have hgp := gr_put hg e0 hput
      have hsp : HasSpot 23 ((u.setCell ⟨g, 0, none⟩ (.int .i64 ax)).setCell ⟨g, 1, none⟩ (.int .i64 ay)) (x 7) ax ay := ⟨g, hp, (hB.set 0 _).set 1 _⟩
      have hK2 := hK undef _ hput ⟨hgp, (e0.gr (Nat.le_of_eq (size_put hput).symm)), (e1.gr (Nat.le_of_eq (size_put hput).symm)), ap0⟩ hsp
      clear hK hput hgp hsp
      simp [frame, fill, Act.put, hp, hx] at hK2 ⊢
      clear hx hp
      go_simp
      exact hK2
    | 7 =>
      intro o ho x u hJ hd K hK
      simp at ho; subst ho
      refine wpOp_of rfl rfl ?_
      obtain ⟨hg, e0, e1, ap0⟩ := hJ
      obtain ⟨g, hp, p, q, hB⟩ : PtrTo _ _ _ := hd 5 (by simp) (by decide)
      have hx : x 28 = _ := hd 3 (by simp) (by decide)
      clear hd
      obtain ⟨c0, c1, f0, f1, _⟩ := hB.two
      have hput : PutAt (x 8) u ((u.setCell ⟨g, 0, none⟩ (.int .i64 bx)).setCell ⟨g, 1, none⟩ (.int .i64 by')) := ⟨g, _, _, hp, rfl⟩
      have hgp := gr_put hg e1 hput
      have hsp : HasSpot 23 ((u.setCell ⟨g, 0, none⟩ (.int .i64 bx)).setCell ⟨g, 1, none⟩ (.int .i64 by')) (x 8) bx by' := ⟨g, hp, (hB.set 0 _).set 1 _⟩
      have hK2 := hK undef _ hput ⟨hgp, (e0.gr (Nat.le_of_eq (size_put hput).symm)), (e1.gr (Nat.le_of_eq (size_put hput).symm)), ap0⟩ hsp
      clear hK hput hgp hsp
      simp [frame, fill, Act.put, hp, hx] at hK2 ⊢
      clear hx hp
      go_simp
      exact hK2
    | m + 8 => intro o ho; simp at ho
  · intro x u hJ hall
    have hgu := hJ.1
    have hl0 : x 25 = _ := hall 0 (by simp)
    have hc0 : x 26 = _ := hall 1 (by simp)
    obtain ⟨g0, hp0, G0⟩ : HasSpot _ _ _ _ _ := hall 6 (by simp)
    have hl1 : x 27 = _ := hall 2 (by simp)
    have hc1 : x 28 = _ := hall 3 (by simp)
    obtain ⟨g1, hp1, G1⟩ : HasSpot _ _ _ _ _ := hall 7 (by simp)
    clear hall hJ
    simp [frame, fill, hl0, hc0, hp0, hl1, hc1, hp1]
    clear hl0 hc0 hp0 hl1 hc1 hp1
    have P1 := A1.gr hgu
    have P2 := A2.gr hgu
    have hgw : Gr w u := hg0.trans hgu
    clear A1 A2 hgu hg0
    obtain ⟨P1a, P1b, P1f, P1g, _⟩ := P1.two
    obtain ⟨P2a, P2b, P2f, P2g, _⟩ := P2.two
    obtain ⟨G0a, G0b, G0f, G0g, _⟩ := G0.two
    obtain ⟨G1a, G1b, G1f, G1g, _⟩ := G1.two
    go_wp2_with fail
    refine (move_any _ _ _ _ _).mono ?_
    rintro e v0 ⟨⟨p0, q0, r0, hh0, rfl⟩, hg0⟩
    have H0 := Lib.hid hh0
    clear hh0
    clear P1a P1b P1f P1g P2a P2b P2f P2g G0a G0b G0f G0g G1a G1b G1f G1g
    replace P1 := P1.gr hg0
    replace P2 := P2.gr hg0
    replace G0 := G0.gr hg0
    replace G1 := G1.gr hg0
    replace hgw : Gr w v0 := hgw.trans hg0
    clear hg0
    obtain ⟨P1a, P1b, P1f, P1g, _⟩ := P1.two
    obtain ⟨P2a, P2b, P2f, P2g, _⟩ := P2.two
    obtain ⟨G0a, G0b, G0f, G0g, _⟩ := G0.two
    obtain ⟨G1a, G1b, G1f, G1g, _⟩ := G1.two
    go_wp2_with fail
    refine (rmove_any _ _ _ _ _).mono ?_
    rintro e v1 ⟨⟨p1, q1, r1, hh1, rfl⟩, hg1⟩
    have H1 := Lib.hid hh1
    clear hh1
    clear P1a P1b P1f P1g P2a P2b P2f P2g G0a G0b G0f G0g G1a G1b G1f G1g
    replace P1 := (P1.alloc (.cells #[.int .i64 p0, .int .i64 q0] 23)).gr hg1
    replace P2 := (P2.alloc (.cells #[.int .i64 p0, .int .i64 q0] 23)).gr hg1
    replace G0 := (G0.alloc (.cells #[.int .i64 p0, .int .i64 q0] 23)).gr hg1
    replace G1 := (G1.alloc (.cells #[.int .i64 p0, .int .i64 q0] 23)).gr hg1
    have R0 : Blk v1 v0.heap.size 23 #[.int .i64 p0, .int .i64 q0] := Blk.made rfl hg1
    replace hgw : Gr w v1 := (hgw.alloc _).trans hg1
    clear hg1
    obtain ⟨P1a, P1b, P1f, P1g, _⟩ := P1.two
    obtain ⟨P2a, P2b, P2f, P2g, _⟩ := P2.two
    obtain ⟨G0a, G0b, G0f, G0g, _⟩ := G0.two
    obtain ⟨G1a, G1b, G1f, G1g, _⟩ := G1.two
    obtain ⟨R0a, R0b, R0f, R0g, _⟩ := R0.two
    obtain ⟨e1, e2, e3⟩ : p1 = p0 ∧ q1 = q0 ∧ r1 = r0 := by
      have h := H0.out.symm.trans H1.out
      injection h with h1 h2
      injection h2 with h2 h3
      exact ⟨h1.symm, h2.symm, h3.symm⟩
    subst e1 e2 e3
    go_wp2_with fail
    refine (times_any _ _ _ _ _).mono ?_
    rintro e v2 ⟨⟨p2, q2, r2, hh2, rfl⟩, hg2⟩
    have H2 := Lib.hid hh2
    clear hh2
    clear P1a P1b P1f P1g P2a P2b P2f P2g G0a G0b G0f G0g G1a G1b G1f G1g R0a R0b R0f R0g
    replace P1 := (P1.alloc (.cells #[.int .i64 p1, .int .i64 q1] 29)).gr hg2
    replace P2 := (P2.alloc (.cells #[.int .i64 p1, .int .i64 q1] 29)).gr hg2
    replace G0 := (G0.alloc (.cells #[.int .i64 p1, .int .i64 q1] 29)).gr hg2
    replace G1 := (G1.alloc (.cells #[.int .i64 p1, .int .i64 q1] 29)).gr hg2
    replace R0 := (R0.alloc (.cells #[.int .i64 p1, .int .i64 q1] 29)).gr hg2
    have R1 : Blk v2 v1.heap.size 29 #[.int .i64 p1, .int .i64 q1] := Blk.made rfl hg2
    replace hgw : Gr w v2 := (hgw.alloc _).trans hg2
    clear hg2
    obtain ⟨P1a, P1b, P1f, P1g, _⟩ := P1.two
    obtain ⟨P2a, P2b, P2f, P2g, _⟩ := P2.two
    obtain ⟨G0a, G0b, G0f, G0g, _⟩ := G0.two
    obtain ⟨G1a, G1b, G1f, G1g, _⟩ := G1.two
    obtain ⟨R0a, R0b, R0f, R0g, _⟩ := R0.two
    obtain ⟨R1a, R1b, R1f, R1g, _⟩ := R1.two
    go_wp2_with fail
    refine (rtimes_any _ _ _ _ _).mono ?_
    rintro e v3 ⟨⟨p3, q3, r3, hh3, rfl⟩, hg3⟩
    have H3 := Lib.hid hh3
    clear hh3
    clear P1a P1b P1f P1g P2a P2b P2f P2g G0a G0b G0f G0g G1a G1b G1f G1g R0a R0b R0f R0g R1a R1b R1f R1g
    replace P1 := (P1.alloc (.cells #[.int .i64 p2, .int .i64 q2] 23)).gr hg3
    replace P2 := (P2.alloc (.cells #[.int .i64 p2, .int .i64 q2] 23)).gr hg3
    replace G0 := (G0.alloc (.cells #[.int .i64 p2, .int .i64 q2] 23)).gr hg3
    replace G1 := (G1.alloc (.cells #[.int .i64 p2, .int .i64 q2] 23)).gr hg3
    replace R0 := (R0.alloc (.cells #[.int .i64 p2, .int .i64 q2] 23)).gr hg3
    replace R1 := (R1.alloc (.cells #[.int .i64 p2, .int .i64 q2] 23)).gr hg3
    have R2 : Blk v3 v2.heap.size 23 #[.int .i64 p2, .int .i64 q2] := Blk.made rfl hg3
    replace hgw : Gr w v3 := (hgw.alloc _).trans hg3
    clear hg3
    obtain ⟨P1a, P1b, P1f, P1g, _⟩ := P1.two
    obtain ⟨P2a, P2b, P2f, P2g, _⟩ := P2.two
    obtain ⟨G0a, G0b, G0f, G0g, _⟩ := G0.two
    obtain ⟨G1a, G1b, G1f, G1g, _⟩ := G1.two
    obtain ⟨R0a, R0b, R0f, R0g, _⟩ := R0.two
    obtain ⟨R1a, R1b, R1f, R1g, _⟩ := R1.two
    obtain ⟨R2a, R2b, R2f, R2g, _⟩ := R2.two
    obtain ⟨e1, e2, e3⟩ : p3 = p2 ∧ q3 = q2 ∧ r3 = r2 := by
      have h := H2.out.symm.trans H3.out
      injection h with h1 h2
      injection h2 with h2 h3
      exact ⟨h1.symm, h2.symm, h3.symm⟩
    subst e1 e2 e3
    go_wp2_with fail
    refine (turn_any _ _ _ _ _ _).mono ?_
    rintro e v4 ⟨⟨p4, q4, r4, hh4, rfl⟩, hg4⟩
    have H4 := Lib.hid hh4
    clear hh4
    clear P1a P1b P1f P1g P2a P2b P2f P2g G0a G0b G0f G0g G1a G1b G1f G1g R0a R0b R0f R0g R1a R1b R1f R1g R2a R2b R2f R2g
    replace P1 := (P1.alloc (.cells #[.int .i64 p3, .int .i64 q3] 29)).gr hg4
    replace P2 := (P2.alloc (.cells #[.int .i64 p3, .int .i64 q3] 29)).gr hg4
    replace G0 := (G0.alloc (.cells #[.int .i64 p3, .int .i64 q3] 29)).gr hg4
    replace G1 := (G1.alloc (.cells #[.int .i64 p3, .int .i64 q3] 29)).gr hg4
    replace R0 := (R0.alloc (.cells #[.int .i64 p3, .int .i64 q3] 29)).gr hg4
    replace R1 := (R1.alloc (.cells #[.int .i64 p3, .int .i64 q3] 29)).gr hg4
    replace R2 := (R2.alloc (.cells #[.int .i64 p3, .int .i64 q3] 29)).gr hg4
    have R3 : Blk v4 v3.heap.size 29 #[.int .i64 p3, .int .i64 q3] := Blk.made rfl hg4
    replace hgw : Gr w v4 := (hgw.alloc _).trans hg4
    clear hg4
    obtain ⟨P1a, P1b, P1f, P1g, _⟩ := P1.two
    obtain ⟨P2a, P2b, P2f, P2g, _⟩ := P2.two
    obtain ⟨G0a, G0b, G0f, G0g, _⟩ := G0.two
    obtain ⟨G1a, G1b, G1f, G1g, _⟩ := G1.two
    obtain ⟨R0a, R0b, R0f, R0g, _⟩ := R0.two
    obtain ⟨R1a, R1b, R1f, R1g, _⟩ := R1.two
    obtain ⟨R2a, R2b, R2f, R2g, _⟩ := R2.two
    obtain ⟨R3a, R3b, R3f, R3g, _⟩ := R3.two
    go_wp2_with fail
    refine (rturn_any _ _ _ _ _ _).mono ?_
    rintro e v5 ⟨⟨p5, q5, r5, hh5, rfl⟩, hg5⟩
    have H5 := Lib.hid hh5
    clear hh5
    clear P1a P1b P1f P1g P2a P2b P2f P2g G0a G0b G0f G0g G1a G1b G1f G1g R0a R0b R0f R0g R1a R1b R1f R1g R2a R2b R2f R2g R3a R3b R3f R3g
    replace P1 := (P1.alloc (.cells #[.int .i64 p4, .int .i64 q4] 23)).gr hg5
    replace P2 := (P2.alloc (.cells #[.int .i64 p4, .int .i64 q4] 23)).gr hg5
    replace G0 := (G0.alloc (.cells #[.int .i64 p4, .int .i64 q4] 23)).gr hg5
    replace G1 := (G1.alloc (.cells #[.int .i64 p4, .int .i64 q4] 23)).gr hg5
    replace R0 := (R0.alloc (.cells #[.int .i64 p4, .int .i64 q4] 23)).gr hg5
    replace R1 := (R1.alloc (.cells #[.int .i64 p4, .int .i64 q4] 23)).gr hg5
    replace R2 := (R2.alloc (.cells #[.int .i64 p4, .int .i64 q4] 23)).gr hg5
    replace R3 := (R3.alloc (.cells #[.int .i64 p4, .int .i64 q4] 23)).gr hg5
    have R4 : Blk v5 v4.heap.size 23 #[.int .i64 p4, .int .i64 q4] := Blk.made rfl hg5
    replace hgw : Gr w v5 := (hgw.alloc _).trans hg5
    clear hg5
    obtain ⟨P1a, P1b, P1f, P1g, _⟩ := P1.two
    obtain ⟨P2a, P2b, P2f, P2g, _⟩ := P2.two
    obtain ⟨G0a, G0b, G0f, G0g, _⟩ := G0.two
    obtain ⟨G1a, G1b, G1f, G1g, _⟩ := G1.two
    obtain ⟨R0a, R0b, R0f, R0g, _⟩ := R0.two
    obtain ⟨R1a, R1b, R1f, R1g, _⟩ := R1.two
    obtain ⟨R2a, R2b, R2f, R2g, _⟩ := R2.two
    obtain ⟨R3a, R3b, R3f, R3g, _⟩ := R3.two
    obtain ⟨R4a, R4b, R4f, R4g, _⟩ := R4.two
    obtain ⟨e1, e2, e3⟩ : p5 = p4 ∧ q5 = q4 ∧ r5 = r4 := by
      have h := H4.out.symm.trans H5.out
      injection h with h1 h2
      injection h2 with h2 h3
      exact ⟨h1.symm, h2.symm, h3.symm⟩
    subst e1 e2 e3
    go_wp2_with fail
    refine (mirror_any _ _ _).mono ?_
    rintro e v6 ⟨⟨p6, q6, r6, hh6, rfl⟩, hg6⟩
    have H6 := Lib.hid hh6
    clear hh6
    clear P1a P1b P1f P1g P2a P2b P2f P2g G0a G0b G0f G0g G1a G1b G1f G1g R0a R0b R0f R0g R1a R1b R1f R1g R2a R2b R2f R2g R3a R3b R3f R3g R4a R4b R4f R4g
    replace P1 := (P1.alloc (.cells #[.int .i64 p5, .int .i64 q5] 29)).gr hg6
    replace P2 := (P2.alloc (.cells #[.int .i64 p5, .int .i64 q5] 29)).gr hg6
    replace G0 := (G0.alloc (.cells #[.int .i64 p5, .int .i64 q5] 29)).gr hg6
    replace G1 := (G1.alloc (.cells #[.int .i64 p5, .int .i64 q5] 29)).gr hg6
    replace R0 := (R0.alloc (.cells #[.int .i64 p5, .int .i64 q5] 29)).gr hg6
    replace R1 := (R1.alloc (.cells #[.int .i64 p5, .int .i64 q5] 29)).gr hg6
    replace R2 := (R2.alloc (.cells #[.int .i64 p5, .int .i64 q5] 29)).gr hg6
    replace R3 := (R3.alloc (.cells #[.int .i64 p5, .int .i64 q5] 29)).gr hg6
    replace R4 := (R4.alloc (.cells #[.int .i64 p5, .int .i64 q5] 29)).gr hg6
    have R5 : Blk v6 v5.heap.size 29 #[.int .i64 p5, .int .i64 q5] := Blk.made rfl hg6
    replace hgw : Gr w v6 := (hgw.alloc _).trans hg6
    clear hg6
    obtain ⟨P1a, P1b, P1f, P1g, _⟩ := P1.two
    obtain ⟨P2a, P2b, P2f, P2g, _⟩ := P2.two
    obtain ⟨G0a, G0b, G0f, G0g, _⟩ := G0.two
    obtain ⟨G1a, G1b, G1f, G1g, _⟩ := G1.two
    obtain ⟨R0a, R0b, R0f, R0g, _⟩ := R0.two
    obtain ⟨R1a, R1b, R1f, R1g, _⟩ := R1.two
    obtain ⟨R2a, R2b, R2f, R2g, _⟩ := R2.two
    obtain ⟨R3a, R3b, R3f, R3g, _⟩ := R3.two
    obtain ⟨R4a, R4b, R4f, R4g, _⟩ := R4.two
    obtain ⟨R5a, R5b, R5f, R5g, _⟩ := R5.two
    have w0x : w.heap.size < v6.heap.size := P1.lt
    have nxP1 : w.heap.size ≠ v6.heap.size + 1 := by have := P1.lt; omega
    have nxP2 : (w.heap.size + 1) ≠ v6.heap.size + 1 := by have := P2.lt; omega
    have nxG0 : g0 ≠ v6.heap.size + 1 := by have := G0.lt; omega
    have nxG1 : g1 ≠ v6.heap.size + 1 := by have := G1.lt; omega
    have nxR0 : v0.heap.size ≠ v6.heap.size + 1 := by have := R0.lt; omega
    have nxR1 : v1.heap.size ≠ v6.heap.size + 1 := by have := R1.lt; omega
    have nxR2 : v2.heap.size ≠ v6.heap.size + 1 := by have := R2.lt; omega
    have nxR3 : v3.heap.size ≠ v6.heap.size + 1 := by have := R3.lt; omega
    have nxR4 : v4.heap.size ≠ v6.heap.size + 1 := by have := R4.lt; omega
    have nxR5 : v5.heap.size ≠ v6.heap.size + 1 := by have := R5.lt; omega
    have nxR6 : v6.heap.size ≠ v6.heap.size + 1 := by omega
    have neP1 := Lib.hid nxP1
    have neP2 := Lib.hid nxP2
    have neG0 := Lib.hid nxG0
    have neG1 := Lib.hid nxG1
    have neR0 := Lib.hid nxR0
    have neR1 := Lib.hid nxR1
    have neR2 := Lib.hid nxR2
    have neR3 := Lib.hid nxR3
    have neR4 := Lib.hid nxR4
    have neR5 := Lib.hid nxR5
    have neR6 := Lib.hid nxR6
    have w0lt := w0x
    clear nxP1 nxP2 nxG0 nxG1 nxR0 nxR1 nxR2 nxR3 nxR4 nxR5 nxR6 w0x
    go_wp2_with fail
    refine (On_any _ _ _).mono ?_
    rintro e v7 ⟨rfl, hg7⟩
    clear P1a P1b P1f P1g P2a P2b P2f P2g G0a G0b G0f G0g G1a G1b G1f G1g R0a R0b R0f R0g R1a R1b R1f R1g R2a R2b R2f R2g R3a R3b R3f R3g R4a R4b R4f R4g R5a R5b R5f R5g
    replace P1 := ((P1.alloc (.cells #[.int .i64 p6, .int .i64 q6] 23)).alloc (.cells #[.int .i64 0, .int .i64 0] 29)).gr hg7
    replace P2 := ((P2.alloc (.cells #[.int .i64 p6, .int .i64 q6] 23)).alloc (.cells #[.int .i64 0, .int .i64 0] 29)).gr hg7
    replace G0 := ((G0.alloc (.cells #[.int .i64 p6, .int .i64 q6] 23)).alloc (.cells #[.int .i64 0, .int .i64 0] 29)).gr hg7
    replace G1 := ((G1.alloc (.cells #[.int .i64 p6, .int .i64 q6] 23)).alloc (.cells #[.int .i64 0, .int .i64 0] 29)).gr hg7
    replace R0 := ((R0.alloc (.cells #[.int .i64 p6, .int .i64 q6] 23)).alloc (.cells #[.int .i64 0, .int .i64 0] 29)).gr hg7
    replace R1 := ((R1.alloc (.cells #[.int .i64 p6, .int .i64 q6] 23)).alloc (.cells #[.int .i64 0, .int .i64 0] 29)).gr hg7
    replace R2 := ((R2.alloc (.cells #[.int .i64 p6, .int .i64 q6] 23)).alloc (.cells #[.int .i64 0, .int .i64 0] 29)).gr hg7
    replace R3 := ((R3.alloc (.cells #[.int .i64 p6, .int .i64 q6] 23)).alloc (.cells #[.int .i64 0, .int .i64 0] 29)).gr hg7
    replace R4 := ((R4.alloc (.cells #[.int .i64 p6, .int .i64 q6] 23)).alloc (.cells #[.int .i64 0, .int .i64 0] 29)).gr hg7
    replace R5 := ((R5.alloc (.cells #[.int .i64 p6, .int .i64 q6] 23)).alloc (.cells #[.int .i64 0, .int .i64 0] 29)).gr hg7
    have R6 : Blk v7 v6.heap.size 23 #[.int .i64 p6, .int .i64 q6] := Blk.made rfl (Gr.trans ((Gr.refl _).alloc _) hg7)
    have W0 : Blk v7 (v6.heap.size + 1) 29 #[.int .i64 0, .int .i64 0] := Blk.made (by simp) hg7
    replace hgw : Gr w v7 := ((hgw.alloc _).alloc _).trans hg7
    clear hg7
    have lt6 : v6.heap.size + 1 < v7.heap.size := W0.lt
    by_cases hin : inB ax ay = true
    · obtain ⟨e1, e2, e3⟩ : p6 = ax ∧ q6 = -ay ∧ r6 = 0 := by
        have h := H6.out
        unfold mirrorP at h
        rw [if_pos hin] at h
        injection h with h1 h2
        injection h2 with h2 h3
        exact ⟨h1.symm, h2.symm, h3.symm⟩
      subst e1 e2 e3
      have hb := inB_bounds hin
      have Hin := Lib.hid hin
      simp only [hin]
      clear hin
      obtain ⟨P1a, P1b, P1f, P1g, _⟩ := P1.two
      obtain ⟨P2a, P2b, P2f, P2g, _⟩ := P2.two
      obtain ⟨G0a, G0b, G0f, G0g, _⟩ := G0.two
      obtain ⟨G1a, G1b, G1f, G1g, _⟩ := G1.two
      obtain ⟨R0a, R0b, R0f, R0g, _⟩ := R0.two
      obtain ⟨R1a, R1b, R1f, R1g, _⟩ := R1.two
      obtain ⟨R2a, R2b, R2f, R2g, _⟩ := R2.two
      obtain ⟨R3a, R3b, R3f, R3g, _⟩ := R3.two
      obtain ⟨R4a, R4b, R4f, R4g, _⟩ := R4.two
      obtain ⟨R5a, R5b, R5f, R5g, _⟩ := R5.two
      obtain ⟨R6a, R6b, R6f, R6g, _⟩ := R6.two
      obtain ⟨W0a, W0b, W0f, W0g, _⟩ := W0.two
      go_wp2_with fail
      refine (awake_any _).mono ?_
      rintro e v8 ⟨rfl, hg8⟩
      replace hgw : Gr w v8 := ((hgw.set (by simp; have := w0lt; omega) _).set (by simp; have := w0lt; omega) _).trans hg8
      clear P1a P1b P1f P1g P2a P2b P2f P2g G0a G0b G0f G0g G1a G1b G1f G1g R0a R0b R0f R0g R1a R1b R1f R1g R2a R2b R2f R2g R3a R3b R3f R3g R4a R4b R4f R4g R5a R5b R5f R5g R6a R6b R6f R6g W0a W0b W0f W0g
      replace P1 := ((P1.far (p := ⟨v6.heap.size + 1, 0, none⟩) neP1.out _).far (p := ⟨v6.heap.size + 1, 1, none⟩) neP1.out _).gr hg8
      replace P2 := ((P2.far (p := ⟨v6.heap.size + 1, 0, none⟩) neP2.out _).far (p := ⟨v6.heap.size + 1, 1, none⟩) neP2.out _).gr hg8
      replace G0 := ((G0.far (p := ⟨v6.heap.size + 1, 0, none⟩) neG0.out _).far (p := ⟨v6.heap.size + 1, 1, none⟩) neG0.out _).gr hg8
      replace G1 := ((G1.far (p := ⟨v6.heap.size + 1, 0, none⟩) neG1.out _).far (p := ⟨v6.heap.size + 1, 1, none⟩) neG1.out _).gr hg8
      replace R0 := ((R0.far (p := ⟨v6.heap.size + 1, 0, none⟩) neR0.out _).far (p := ⟨v6.heap.size + 1, 1, none⟩) neR0.out _).gr hg8
      replace R1 := ((R1.far (p := ⟨v6.heap.size + 1, 0, none⟩) neR1.out _).far (p := ⟨v6.heap.size + 1, 1, none⟩) neR1.out _).gr hg8
      replace R2 := ((R2.far (p := ⟨v6.heap.size + 1, 0, none⟩) neR2.out _).far (p := ⟨v6.heap.size + 1, 1, none⟩) neR2.out _).gr hg8
      replace R3 := ((R3.far (p := ⟨v6.heap.size + 1, 0, none⟩) neR3.out _).far (p := ⟨v6.heap.size + 1, 1, none⟩) neR3.out _).gr hg8
      replace R4 := ((R4.far (p := ⟨v6.heap.size + 1, 0, none⟩) neR4.out _).far (p := ⟨v6.heap.size + 1, 1, none⟩) neR4.out _).gr hg8
      replace R5 := ((R5.far (p := ⟨v6.heap.size + 1, 0, none⟩) neR5.out _).far (p := ⟨v6.heap.size + 1, 1, none⟩) neR5.out _).gr hg8
      replace R6 := ((R6.far (p := ⟨v6.heap.size + 1, 0, none⟩) neR6.out _).far (p := ⟨v6.heap.size + 1, 1, none⟩) neR6.out _).gr hg8
      replace W0 := ((W0.set 0 _).set 1 _).gr hg8
      simp at W0
      clear hg8
      obtain ⟨P1a, P1b, P1f, P1g, _⟩ := P1.two
      obtain ⟨P2a, P2b, P2f, P2g, _⟩ := P2.two
      obtain ⟨G0a, G0b, G0f, G0g, _⟩ := G0.two
      obtain ⟨G1a, G1b, G1f, G1g, _⟩ := G1.two
      obtain ⟨R0a, R0b, R0f, R0g, _⟩ := R0.two
      obtain ⟨R1a, R1b, R1f, R1g, _⟩ := R1.two
      obtain ⟨R2a, R2b, R2f, R2g, _⟩ := R2.two
      obtain ⟨R3a, R3b, R3f, R3g, _⟩ := R3.two
      obtain ⟨R4a, R4b, R4f, R4g, _⟩ := R4.two
      obtain ⟨R5a, R5b, R5f, R5g, _⟩ := R5.two
      obtain ⟨R6a, R6b, R6f, R6g, _⟩ := R6.two
      obtain ⟨W0a, W0b, W0f, W0g, _⟩ := W0.two
      go_wp2_with fail
      refine (is_same _ _ _ _).mono ?_
      rintro e v8i0 ⟨rfl, hgi⟩
      replace hgw : Gr w v8i0 := hgw.trans hgi
      clear P1a P1b P1f P1g P2a P2b P2f P2g G0a G0b G0f G0g G1a G1b G1f G1g R0a R0b R0f R0g R1a R1b R1f R1g R2a R2b R2f R2g R3a R3b R3f R3g R4a R4b R4f R4g R5a R5b R5f R5g R6a R6b R6f R6g W0a W0b W0f W0g
      replace P1 := P1.gr hgi
      replace P2 := P2.gr hgi
      replace G0 := G0.gr hgi
      replace G1 := G1.gr hgi
      replace R0 := R0.gr hgi
      replace R1 := R1.gr hgi
      replace R2 := R2.gr hgi
      replace R3 := R3.gr hgi
      replace R4 := R4.gr hgi
      replace R5 := R5.gr hgi
      replace R6 := R6.gr hgi
      replace W0 := W0.gr hgi
      clear hgi
      obtain ⟨P1a, P1b, P1f, P1g, _⟩ := P1.two
      obtain ⟨P2a, P2b, P2f, P2g, _⟩ := P2.two
      obtain ⟨G0a, G0b, G0f, G0g, _⟩ := G0.two
      obtain ⟨G1a, G1b, G1f, G1g, _⟩ := G1.two
      obtain ⟨R0a, R0b, R0f, R0g, _⟩ := R0.two
      obtain ⟨R1a, R1b, R1f, R1g, _⟩ := R1.two
      obtain ⟨R2a, R2b, R2f, R2g, _⟩ := R2.two
      obtain ⟨R3a, R3b, R3f, R3g, _⟩ := R3.two
      obtain ⟨R4a, R4b, R4f, R4g, _⟩ := R4.two
      obtain ⟨R5a, R5b, R5f, R5g, _⟩ := R5.two
      obtain ⟨R6a, R6b, R6f, R6g, _⟩ := R6.two
      obtain ⟨W0a, W0b, W0f, W0g, _⟩ := W0.two
      go_wp2_with fail
      refine (is_same _ _ _ _).mono ?_
      rintro e v8i1 ⟨rfl, hgi⟩
      replace hgw : Gr w v8i1 := hgw.trans hgi
      clear P1a P1b P1f P1g P2a P2b P2f P2g G0a G0b G0f G0g G1a G1b G1f G1g R0a R0b R0f R0g R1a R1b R1f R1g R2a R2b R2f R2g R3a R3b R3f R3g R4a R4b R4f R4g R5a R5b R5f R5g R6a R6b R6f R6g W0a W0b W0f W0g
      replace P1 := P1.gr hgi
      replace P2 := P2.gr hgi
      replace G0 := G0.gr hgi
      replace G1 := G1.gr hgi
      replace R0 := R0.gr hgi
      replace R1 := R1.gr hgi
      replace R2 := R2.gr hgi
      replace R3 := R3.gr hgi
      replace R4 := R4.gr hgi
      replace R5 := R5.gr hgi
      replace R6 := R6.gr hgi
      replace W0 := W0.gr hgi
      clear hgi
      obtain ⟨P1a, P1b, P1f, P1g, _⟩ := P1.two
      obtain ⟨P2a, P2b, P2f, P2g, _⟩ := P2.two
      obtain ⟨G0a, G0b, G0f, G0g, _⟩ := G0.two
      obtain ⟨G1a, G1b, G1f, G1g, _⟩ := G1.two
      obtain ⟨R0a, R0b, R0f, R0g, _⟩ := R0.two
      obtain ⟨R1a, R1b, R1f, R1g, _⟩ := R1.two
      obtain ⟨R2a, R2b, R2f, R2g, _⟩ := R2.two
      obtain ⟨R3a, R3b, R3f, R3g, _⟩ := R3.two
      obtain ⟨R4a, R4b, R4f, R4g, _⟩ := R4.two
      obtain ⟨R5a, R5b, R5f, R5g, _⟩ := R5.two
      obtain ⟨R6a, R6b, R6f, R6g, _⟩ := R6.two
      obtain ⟨W0a, W0b, W0f, W0g, _⟩ := W0.two
      go_wp2_with fail
      refine (is_same _ _ _ _).mono ?_
      rintro e v8i2 ⟨rfl, hgi⟩
      replace hgw : Gr w v8i2 := hgw.trans hgi
      clear P1a P1b P1f P1g P2a P2b P2f P2g G0a G0b G0f G0g G1a G1b G1f G1g R0a R0b R0f R0g R1a R1b R1f R1g R2a R2b R2f R2g R3a R3b R3f R3g R4a R4b R4f R4g R5a R5b R5f R5g R6a R6b R6f R6g W0a W0b W0f W0g
      replace P1 := P1.gr hgi
      replace P2 := P2.gr hgi
      replace G0 := G0.gr hgi
      replace G1 := G1.gr hgi
      replace R0 := R0.gr hgi
      replace R1 := R1.gr hgi
      replace R2 := R2.gr hgi
      replace R3 := R3.gr hgi
      replace R4 := R4.gr hgi
      replace R5 := R5.gr hgi
      replace R6 := R6.gr hgi
      replace W0 := W0.gr hgi
      clear hgi
      obtain ⟨P1a, P1b, P1f, P1g, _⟩ := P1.two
      obtain ⟨P2a, P2b, P2f, P2g, _⟩ := P2.two
      obtain ⟨G0a, G0b, G0f, G0g, _⟩ := G0.two
      obtain ⟨G1a, G1b, G1f, G1g, _⟩ := G1.two
      obtain ⟨R0a, R0b, R0f, R0g, _⟩ := R0.two
      obtain ⟨R1a, R1b, R1f, R1g, _⟩ := R1.two
      obtain ⟨R2a, R2b, R2f, R2g, _⟩ := R2.two
      obtain ⟨R3a, R3b, R3f, R3g, _⟩ := R3.two
      obtain ⟨R4a, R4b, R4f, R4g, _⟩ := R4.two
      obtain ⟨R5a, R5b, R5f, R5g, _⟩ := R5.two
      obtain ⟨R6a, R6b, R6f, R6g, _⟩ := R6.two
      obtain ⟨W0a, W0b, W0f, W0g, _⟩ := W0.two
      go_wp2_with fail
      refine (is_same _ _ _ _).mono ?_
      rintro e v8i3 ⟨rfl, hgi⟩
      replace hgw : Gr w v8i3 := hgw.trans hgi
      clear P1a P1b P1f P1g P2a P2b P2f P2g G0a G0b G0f G0g G1a G1b G1f G1g R0a R0b R0f R0g R1a R1b R1f R1g R2a R2b R2f R2g R3a R3b R3f R3g R4a R4b R4f R4g R5a R5b R5f R5g R6a R6b R6f R6g W0a W0b W0f W0g
      replace P1 := P1.gr hgi
      replace P2 := P2.gr hgi
      replace G0 := G0.gr hgi
      replace G1 := G1.gr hgi
      replace R0 := R0.gr hgi
      replace R1 := R1.gr hgi
      replace R2 := R2.gr hgi
      replace R3 := R3.gr hgi
      replace R4 := R4.gr hgi
      replace R5 := R5.gr hgi
      replace R6 := R6.gr hgi
      replace W0 := W0.gr hgi
      clear hgi
      obtain ⟨P1a, P1b, P1f, P1g, _⟩ := P1.two
      obtain ⟨P2a, P2b, P2f, P2g, _⟩ := P2.two
      obtain ⟨G0a, G0b, G0f, G0g, _⟩ := G0.two
      obtain ⟨G1a, G1b, G1f, G1g, _⟩ := G1.two
      obtain ⟨R0a, R0b, R0f, R0g, _⟩ := R0.two
      obtain ⟨R1a, R1b, R1f, R1g, _⟩ := R1.two
      obtain ⟨R2a, R2b, R2f, R2g, _⟩ := R2.two
      obtain ⟨R3a, R3b, R3f, R3g, _⟩ := R3.two
      obtain ⟨R4a, R4b, R4f, R4g, _⟩ := R4.two
      obtain ⟨R5a, R5b, R5f, R5g, _⟩ := R5.two
      obtain ⟨R6a, R6b, R6f, R6g, _⟩ := R6.two
      obtain ⟨W0a, W0b, W0f, W0g, _⟩ := W0.two
      go_wp2
      go_ret
      exact ⟨ret_eq (by simp), hgw⟩
    · obtain ⟨e1, e2, e3⟩ : p6 = 0 ∧ q6 = 0 ∧ r6 = 1 := by
        have h := H6.out
        unfold mirrorP at h
        rw [if_neg hin] at h
        injection h with h1 h2
        injection h2 with h2 h3
        exact ⟨h1.symm, h2.symm, h3.symm⟩
      subst e1 e2 e3
      have hf : inB ax ay = false := by simpa using hin
      have Hin := Lib.hid hin
      simp only [hf]
      clear hin hf
      obtain ⟨P1a, P1b, P1f, P1g, _⟩ := P1.two
      obtain ⟨P2a, P2b, P2f, P2g, _⟩ := P2.two
      obtain ⟨G0a, G0b, G0f, G0g, _⟩ := G0.two
      obtain ⟨G1a, G1b, G1f, G1g, _⟩ := G1.two
      obtain ⟨R0a, R0b, R0f, R0g, _⟩ := R0.two
      obtain ⟨R1a, R1b, R1f, R1g, _⟩ := R1.two
      obtain ⟨R2a, R2b, R2f, R2g, _⟩ := R2.two
      obtain ⟨R3a, R3b, R3f, R3g, _⟩ := R3.two
      obtain ⟨R4a, R4b, R4f, R4g, _⟩ := R4.two
      obtain ⟨R5a, R5b, R5f, R5g, _⟩ := R5.two
      obtain ⟨R6a, R6b, R6f, R6g, _⟩ := R6.two
      obtain ⟨W0a, W0b, W0f, W0g, _⟩ := W0.two
      go_wp2_with fail
      refine (awake_any _).mono ?_
      rintro e v8 ⟨rfl, hg8⟩
      replace hgw : Gr w v8 := hgw.trans hg8
      clear P1a P1b P1f P1g P2a P2b P2f P2g G0a G0b G0f G0g G1a G1b G1f G1g R0a R0b R0f R0g R1a R1b R1f R1g R2a R2b R2f R2g R3a R3b R3f R3g R4a R4b R4f R4g R5a R5b R5f R5g R6a R6b R6f R6g W0a W0b W0f W0g
      replace P1 := P1.gr hg8
      replace P2 := P2.gr hg8
      replace G0 := G0.gr hg8
      replace G1 := G1.gr hg8
      replace R0 := R0.gr hg8
      replace R1 := R1.gr hg8
      replace R2 := R2.gr hg8
      replace R3 := R3.gr hg8
      replace R4 := R4.gr hg8
      replace R5 := R5.gr hg8
      replace R6 := R6.gr hg8
      replace W0 := W0.gr hg8
      clear hg8
      obtain ⟨P1a, P1b, P1f, P1g, _⟩ := P1.two
      obtain ⟨P2a, P2b, P2f, P2g, _⟩ := P2.two
      obtain ⟨G0a, G0b, G0f, G0g, _⟩ := G0.two
      obtain ⟨G1a, G1b, G1f, G1g, _⟩ := G1.two
      obtain ⟨R0a, R0b, R0f, R0g, _⟩ := R0.two
      obtain ⟨R1a, R1b, R1f, R1g, _⟩ := R1.two
      obtain ⟨R2a, R2b, R2f, R2g, _⟩ := R2.two
      obtain ⟨R3a, R3b, R3f, R3g, _⟩ := R3.two
      obtain ⟨R4a, R4b, R4f, R4g, _⟩ := R4.two
      obtain ⟨R5a, R5b, R5f, R5g, _⟩ := R5.two
      obtain ⟨R6a, R6b, R6f, R6g, _⟩ := R6.two
      obtain ⟨W0a, W0b, W0f, W0g, _⟩ := W0.two
      go_wp2_with fail
      refine (is_same _ _ _ _).mono ?_
      rintro e v8i0 ⟨rfl, hgi⟩
      replace hgw : Gr w v8i0 := hgw.trans hgi
      clear P1a P1b P1f P1g P2a P2b P2f P2g G0a G0b G0f G0g G1a G1b G1f G1g R0a R0b R0f R0g R1a R1b R1f R1g R2a R2b R2f R2g R3a R3b R3f R3g R4a R4b R4f R4g R5a R5b R5f R5g R6a R6b R6f R6g W0a W0b W0f W0g
      replace P1 := P1.gr hgi
      replace P2 := P2.gr hgi
      replace G0 := G0.gr hgi
      replace G1 := G1.gr hgi
      replace R0 := R0.gr hgi
      replace R1 := R1.gr hgi
      replace R2 := R2.gr hgi
      replace R3 := R3.gr hgi
      replace R4 := R4.gr hgi
      replace R5 := R5.gr hgi
      replace R6 := R6.gr hgi
      replace W0 := W0.gr hgi
      clear hgi
      obtain ⟨P1a, P1b, P1f, P1g, _⟩ := P1.two
      obtain ⟨P2a, P2b, P2f, P2g, _⟩ := P2.two
      obtain ⟨G0a, G0b, G0f, G0g, _⟩ := G0.two
      obtain ⟨G1a, G1b, G1f, G1g, _⟩ := G1.two
      obtain ⟨R0a, R0b, R0f, R0g, _⟩ := R0.two
      obtain ⟨R1a, R1b, R1f, R1g, _⟩ := R1.two
      obtain ⟨R2a, R2b, R2f, R2g, _⟩ := R2.two
      obtain ⟨R3a, R3b, R3f, R3g, _⟩ := R3.two
      obtain ⟨R4a, R4b, R4f, R4g, _⟩ := R4.two
      obtain ⟨R5a, R5b, R5f, R5g, _⟩ := R5.two
      obtain ⟨R6a, R6b, R6f, R6g, _⟩ := R6.two
      obtain ⟨W0a, W0b, W0f, W0g, _⟩ := W0.two
      go_wp2_with fail
      refine (is_same _ _ _ _).mono ?_
      rintro e v8i1 ⟨rfl, hgi⟩
      replace hgw : Gr w v8i1 := hgw.trans hgi
      clear P1a P1b P1f P1g P2a P2b P2f P2g G0a G0b G0f G0g G1a G1b G1f G1g R0a R0b R0f R0g R1a R1b R1f R1g R2a R2b R2f R2g R3a R3b R3f R3g R4a R4b R4f R4g R5a R5b R5f R5g R6a R6b R6f R6g W0a W0b W0f W0g
      replace P1 := P1.gr hgi
      replace P2 := P2.gr hgi
      replace G0 := G0.gr hgi
      replace G1 := G1.gr hgi
      replace R0 := R0.gr hgi
      replace R1 := R1.gr hgi
      replace R2 := R2.gr hgi
      replace R3 := R3.gr hgi
      replace R4 := R4.gr hgi
      replace R5 := R5.gr hgi
      replace R6 := R6.gr hgi
      replace W0 := W0.gr hgi
      clear hgi
      obtain ⟨P1a, P1b, P1f, P1g, _⟩ := P1.two
      obtain ⟨P2a, P2b, P2f, P2g, _⟩ := P2.two
      obtain ⟨G0a, G0b, G0f, G0g, _⟩ := G0.two
      obtain ⟨G1a, G1b, G1f, G1g, _⟩ := G1.two
      obtain ⟨R0a, R0b, R0f, R0g, _⟩ := R0.two
      obtain ⟨R1a, R1b, R1f, R1g, _⟩ := R1.two
      obtain ⟨R2a, R2b, R2f, R2g, _⟩ := R2.two
      obtain ⟨R3a, R3b, R3f, R3g, _⟩ := R3.two
      obtain ⟨R4a, R4b, R4f, R4g, _⟩ := R4.two
      obtain ⟨R5a, R5b, R5f, R5g, _⟩ := R5.two
      obtain ⟨R6a, R6b, R6f, R6g, _⟩ := R6.two
      obtain ⟨W0a, W0b, W0f, W0g, _⟩ := W0.two
      go_wp2_with fail
      refine (is_same _ _ _ _).mono ?_
      rintro e v8i2 ⟨rfl, hgi⟩
      replace hgw : Gr w v8i2 := hgw.trans hgi
      clear P1a P1b P1f P1g P2a P2b P2f P2g G0a G0b G0f G0g G1a G1b G1f G1g R0a R0b R0f R0g R1a R1b R1f R1g R2a R2b R2f R2g R3a R3b R3f R3g R4a R4b R4f R4g R5a R5b R5f R5g R6a R6b R6f R6g W0a W0b W0f W0g
      replace P1 := P1.gr hgi
      replace P2 := P2.gr hgi
      replace G0 := G0.gr hgi
      replace G1 := G1.gr hgi
      replace R0 := R0.gr hgi
      replace R1 := R1.gr hgi
      replace R2 := R2.gr hgi
      replace R3 := R3.gr hgi
      replace R4 := R4.gr hgi
      replace R5 := R5.gr hgi
      replace R6 := R6.gr hgi
      replace W0 := W0.gr hgi
      clear hgi
      obtain ⟨P1a, P1b, P1f, P1g, _⟩ := P1.two
      obtain ⟨P2a, P2b, P2f, P2g, _⟩ := P2.two
      obtain ⟨G0a, G0b, G0f, G0g, _⟩ := G0.two
      obtain ⟨G1a, G1b, G1f, G1g, _⟩ := G1.two
      obtain ⟨R0a, R0b, R0f, R0g, _⟩ := R0.two
      obtain ⟨R1a, R1b, R1f, R1g, _⟩ := R1.two
      obtain ⟨R2a, R2b, R2f, R2g, _⟩ := R2.two
      obtain ⟨R3a, R3b, R3f, R3g, _⟩ := R3.two
      obtain ⟨R4a, R4b, R4f, R4g, _⟩ := R4.two
      obtain ⟨R5a, R5b, R5f, R5g, _⟩ := R5.two
      obtain ⟨R6a, R6b, R6f, R6g, _⟩ := R6.two
      obtain ⟨W0a, W0b, W0f, W0g, _⟩ := W0.two
      go_wp2_with fail
      refine (is_same _ _ _ _).mono ?_
      rintro e v8i3 ⟨rfl, hgi⟩
      replace hgw : Gr w v8i3 := hgw.trans hgi
      clear P1a P1b P1f P1g P2a P2b P2f P2g G0a G0b G0f G0g G1a G1b G1f G1g R0a R0b R0f R0g R1a R1b R1f R1g R2a R2b R2f R2g R3a R3b R3f R3g R4a R4b R4f R4g R5a R5b R5f R5g R6a R6b R6f R6g W0a W0b W0f W0g
      replace P1 := P1.gr hgi
      replace P2 := P2.gr hgi
      replace G0 := G0.gr hgi
      replace G1 := G1.gr hgi
      replace R0 := R0.gr hgi
      replace R1 := R1.gr hgi
      replace R2 := R2.gr hgi
      replace R3 := R3.gr hgi
      replace R4 := R4.gr hgi
      replace R5 := R5.gr hgi
      replace R6 := R6.gr hgi
      replace W0 := W0.gr hgi
      clear hgi
      obtain ⟨P1a, P1b, P1f, P1g, _⟩ := P1.two
      obtain ⟨P2a, P2b, P2f, P2g, _⟩ := P2.two
      obtain ⟨G0a, G0b, G0f, G0g, _⟩ := G0.two
      obtain ⟨G1a, G1b, G1f, G1g, _⟩ := G1.two
      obtain ⟨R0a, R0b, R0f, R0g, _⟩ := R0.two
      obtain ⟨R1a, R1b, R1f, R1g, _⟩ := R1.two
      obtain ⟨R2a, R2b, R2f, R2g, _⟩ := R2.two
      obtain ⟨R3a, R3b, R3f, R3g, _⟩ := R3.two
      obtain ⟨R4a, R4b, R4f, R4g, _⟩ := R4.two
      obtain ⟨R5a, R5b, R5f, R5g, _⟩ := R5.two
      obtain ⟨R6a, R6b, R6f, R6g, _⟩ := R6.two
      obtain ⟨W0a, W0b, W0f, W0g, _⟩ := W0.two
      go_wp2
      go_ret
      exact ⟨ret_eq (by simp), hgw⟩

end Go.Proofs.Ytiidgmlmfjlaiaa
