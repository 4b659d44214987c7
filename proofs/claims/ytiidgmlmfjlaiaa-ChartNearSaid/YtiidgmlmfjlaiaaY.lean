/-
  Walks: the law ChartNear.
-/
import Derived.Test.YtiidgmlmfjlaiaaS
import Derived.Test.YtiidgmlmfjlaiaaU
import Derived.Test.YtiidgmlmfjlaiaaRegF
import Derived.Test.YtiidgmlmfjlaiaaL
import Derived.Test.YtiidgmlmfjlaiaaW
namespace Go.Proofs.Ytiidgmlmfjlaiaa
open Go.RowKit Fl Rg

theorem side_neg (ax ay bx by' cx cy : Int) (w : World) :
    Calls Try.prog 26 #[.agg #[.int .i64 ax, .int .i64 ay], .agg #[.int .i64 bx, .int .i64 by'], .agg #[.int .i64 cx, .int .i64 cy]] w fun e w' => e = .returned (.int .i64 (-sideP bx by' ax ay cx cy)) ∧ Gr w w' := by
  rw [← side_anti]
  exact side_any _ _ _ _ _ _ _

def near13 (x0 y0 px py : Int) (i : Nat) (x : Nat → Value) : Prop :=
  match i with
  | 0 => x 42 = .agg #[.int .i64 x0, .int .i64 y0]
  | 1 => x 43 = .agg #[.int .i64 x0, .int .i64 y0]
  | 2 => x 44 = .agg #[.int .i64 px, .int .i64 py]
  | 3 => x 45 = .int .i64 (farP x0 y0 px py)
  | 4 => x 15 = .int .i64 (farP x0 y0 px py)
  | _ => True

def near14a (x0 y0 px py : Int) (i : Nat) (x : Nat → Value) : Prop :=
  match i with
  | 0 => x 46 = .int .i64 (farP x0 y0 px py)
  | 1 => x 47 = .bool false
  | 2 => x 48 = .bool false
  | 3 => x 49 = undef
  | 4 => x 50 = undef
  | 5 => x 51 = undef
  | 6 => x 52 = undef
  | 7 => x 53 = undef
  | 8 => x 54 = undef
  | 9 => x 55 = undef
  | 10 => x 56 = undef
  | 11 => x 57 = undef
  | 12 => x 58 = undef
  | 13 => x 59 = undef
  | 14 => x 60 = undef
  | 15 => x 61 = undef
  | 16 => x 62 = undef
  | 17 => x 63 = undef
  | 18 => x 64 = undef
  | 19 => x 65 = undef
  | 20 => x 66 = undef
  | 21 => x 67 = undef
  | 22 => x 68 = .bool false
  | _ => True

def near14b (x0 y0 px py mx my : Int) (b o n c' m : Nat) (i : Nat) (x : Nat → Value) : Prop :=
  match i with
  | 0 => x 46 = .int .i64 (farP x0 y0 px py)
  | 1 => x 47 = .bool true
  | 2 => x 48 = .bool true
  | 3 => x 49 = .int .i64 (m : Int)
  | 4 => x 50 = .bool false
  | 5 => x 51 = .bool false
  | 6 => x 52 = .int .i64 (m : Int)
  | 7 => x 53 = (.slice (some ⟨b, o, none⟩) n c')
  | 8 => x 54 = .int .i64 (n : Int)
  | 9 => x 55 = .bool false
  | 10 => x 56 = .bool false
  | 11 => x 57 = .bool false
  | 12 => x 58 = .agg #[.int .i64 x0, .int .i64 y0]
  | 13 => x 59 = .agg #[.int .i64 x0, .int .i64 y0]
  | 14 => x 60 = (.slice (some ⟨b, o, none⟩) n c')
  | 15 => x 61 = .int .i64 (m : Int)
  | 16 => x 62 = .pointer (some ⟨b, o + m * 2, none⟩)
  | 17 => x 63 = .agg #[.int .i64 mx, .int .i64 my]
  | 18 => x 64 = .int .i64 (farP x0 y0 mx my)
  | 19 => x 65 = .int .i64 (farP x0 y0 px py)
  | 20 => x 66 = .bool false
  | 21 => x 67 = .bool false
  | 22 => x 68 = .bool false
  | _ => True

def near16 (x1 y1 x2 y2 px py : Int) (i : Nat) (x : Nat → Value) : Prop :=
  match i with
  | 0 => x 69 = .agg #[.int .i64 x1, .int .i64 y1]
  | 1 => x 70 = .agg #[.int .i64 x1, .int .i64 y1]
  | 2 => x 71 = .agg #[.int .i64 x2, .int .i64 y2]
  | 3 => x 72 = .agg #[.int .i64 x2, .int .i64 y2]
  | 4 => x 73 = .agg #[.int .i64 px, .int .i64 py]
  | 5 => x 74 = .int .i64 (sideP x1 y1 x2 y2 px py)
  | 6 => x 75 = .agg #[.int .i64 x2, .int .i64 y2]
  | 7 => x 76 = .agg #[.int .i64 x2, .int .i64 y2]
  | 8 => x 77 = .agg #[.int .i64 x1, .int .i64 y1]
  | 9 => x 78 = .agg #[.int .i64 x1, .int .i64 y1]
  | 10 => x 79 = .agg #[.int .i64 px, .int .i64 py]
  | 11 => x 80 = .int .i64 (-sideP x1 y1 x2 y2 px py)
  | 12 => x 81 = .int .i64 (sideP x1 y1 x2 y2 px py)
  | 13 => x 82 = .bool false
  | _ => True

set_option maxHeartbeats 64000000 in
set_option maxRecDepth 100000 in
theorem chartNear_walk (x0 y0 x1 y1 x2 y2 : Int) (l : List (Int × Int)) (n c : Nat) (A : Option Addr) (w : World) (hn : l.length = n) (hmax : n ≤ maxLen) (h16 : n * 16 ≤ 140737488355328) (hr : Rd w A (pairCells l)) :
    Calls Try.prog 8 #[.agg #[.int .i64 x0, .int .i64 y0], .agg #[.int .i64 x1, .int .i64 y1], .agg #[.int .i64 x2, .int .i64 y2], .slice A n c] w fun e w' => e = .returned (.bool true) ∧ Gr w w' := by
  have Hn := Lib.hid hn
  have Hmax := Lib.hid (show n ≤ 9223372036854775807 by unfold maxLen at hmax; omega)
  have H16 := Lib.hid h16
  obtain ⟨W3, hW⟩ : ∃ W3, W3 = ((w.alloc (.cells #[.int .i64 x0, .int .i64 y0] 29)).alloc (.cells #[.int .i64 x1, .int .i64 y1] 29)).alloc (.cells #[.int .i64 x2, .int .i64 y2] 29) := ⟨_, rfl⟩
  have hW3 : Gr w W3 := by rw [hW]; exact (((Gr.refl w).alloc _).alloc _).alloc _
  have Hr := Lib.hid (hr.gr hW3)
  have hs : W3.heap.size = w.heap.size + 3 := by rw [hW]; simp
  have B0 : Blk W3 w.heap.size 29 #[.int .i64 x0, .int .i64 y0] := by rw [hW]; exact ((Blk.new w _ _).alloc _).alloc _
  have B1 : Blk W3 (w.heap.size + 1) 29 #[.int .i64 x1, .int .i64 y1] := by
    have h := (Blk.new (w.alloc (.cells #[.int .i64 x0, .int .i64 y0] 29)) 29 #[.int .i64 x1, .int .i64 y1]).alloc (.cells #[.int .i64 x2, .int .i64 y2] 29)
    rw [hW]; simpa using h
  have B2 : Blk W3 (w.heap.size + 2) 29 #[.int .i64 x2, .int .i64 y2] := by
    have h := Blk.new ((w.alloc (.cells #[.int .i64 x0, .int .i64 y0] 29)).alloc (.cells #[.int .i64 x1, .int .i64 y1] 29)) 29 #[.int .i64 x2, .int .i64 y2]
    rw [hW]; simpa using h
  have HB0 := Lib.hid B0
  have HB1 := Lib.hid B1
  have HB2 := Lib.hid B2
  have Hs := Lib.hid hs
  clear hn hr hmax h16 B0 B1 B2 hs
  obtain ⟨i0, hi, hz, hsz, hby⟩ := spot_info
  have Hi := Lib.hid hi
  have Hz := Lib.hid hz
  have Hsz := Lib.hid hsz
  have Hby := Lib.hid hby
  clear hi hz hsz hby
  have HW3 := Lib.hid hW3
  clear hW3
  by_cases h200 : n ≤ 200
  rotate_left
  · have hlt : (200 : Int) < n := by omega
    go_enter Try.func8, Try.ntmps8
    go_wp2_with fail
    rw [← hW]
    clear hW
    refine (awake_any _).mono ?_
    rintro e w1 ⟨rfl, hg1⟩
    go_wp2
    go_ret
    exact ⟨rfl, HW3.out.trans hg1⟩
  have h200f : decide ((200 : Int) < n) = false := decide_eq_false (by omega)
  have hn64 : (n : Int) ≤ 9223372036854775807 := by omega
  go_enter Try.func8, Try.ntmps8
  go_wp2
  rw [← hW]
  clear hW
  go_loopw [9, 22] (fun v i wr => ∃ k : Nat, k ≤ n ∧ i = .int .i64 k ∧ Hid (wr.ownsRow W3.heap.size 23 2 v k (pairCells (l.take k))) ∧ Gr W3 wr) (fun _ i _ => n - (intOf i).toNat)
  case atStart => exact ⟨0, Nat.zero_le _, rfl, World.ownsRow_nil _ _ _ _, Gr.refl _⟩
  case round =>
    obtain ⟨k, hk, rfl, hown, hg⟩ := hrel
    by_cases hlt : k < n
    · obtain ⟨b, o, rfl, c0, c1⟩ := (Hr.out.gr hg).pair (k := k) (by rw [Hn.out]; exact hlt)
      obtain ⟨px, hpx⟩ : ∃ z, z = (l.getD k (0, 0)).1 := ⟨_, rfl⟩
      obtain ⟨py, hpy⟩ : ∃ z, z = (l.getD k (0, 0)).2 := ⟨_, rfl⟩
      rw [← hpx] at c0
      rw [← hpy] at c1
      have Hpx := Lib.hid hpx
      have Hpy := Lib.hid hpy
      clear hpx hpy
      go_wp2_with fail
      refine (to_any _ _ _).mono ?_
      rintro e w1 ⟨rfl, hg1⟩
      have hown1 := Lib.hid (own_gr hown.out (((Gr.refl wr).alloc _).trans hg1))
      have hg2 := (hg.alloc _).trans hg1
      clear hg1 c0 c1 hg hown
      go_wp2_with (at_builtin; refine wpList_append_own _ rfl _ _ 45 rfl W3.heap.size 23 i0 (.agg #[.int .i64 0, .int .i64 0]) 2 16 Try.underlying45 Hi.out Hz.out Hsz.out Hby.out rfl (by decide) _ _ _ rfl (hown1.out.alloc _) ⟨w1.heap.size, 0, none⟩ 1 1 [.int .i64 px, .int .i64 py] rfl rfl ?c1 ?c2 ?c3 ?c4 ?c5 ?_)
      case c1 =>
        intro j u hj
        match j, hj with
        | 0, hj => simp at hj; subst hj; simp [Addr.add]
        | 1, hj => simp at hj; subst hj; simp [Addr.add]
      case c2 => intro u hu; simp at hu; rcases hu with rfl | rfl <;> rfl
      case c3 => have := Hmax.out; unfold maxLen; omega
      case c4 => have := H16.out; omega
      case c5 => have := hg2.size; simp; omega
      intro v' w2 hown2 hgrow _
      rw [Hpx.out, Hpy.out] at hown2
      have hnx := looks_next (k := k) (by rw [Hn.out]; exact hlt) (hg2.alloc _) (hown1.out.alloc _) hgrow hown2
      have hnx := Lib.hid hnx
      have hkm : (k : Int) + 1 ≤ 9223372036854775807 := by have := Hmax.out; omega
      clear hown2 hgrow
      go_wp2
      go_roundw
      case rel => exact ⟨k + 1, by omega, by go_num, Lib.hid hnx.out.1, hnx.out.2⟩
      case measure => simp [intOf]; omega
    · obtain rfl : n = k := by omega
      have ho := hown.out
      rw [List.take_of_length_le (by rw [Hn.out]; exact Nat.le_refl _)] at ho
      obtain ⟨A', c', rfl, hrd⟩ := own_read ho
      have Hrd := Lib.hid hrd
      clear hrd ho hown
      obtain ⟨a0, a1, _, _, _⟩ := (HB0.out.gr hg).two
      go_wp2_with fail
      refine (to_any _ _ _).mono ?_
      rintro e w1 ⟨rfl, hg1⟩
      go_wp2_with fail
      refine (nearest_any _ _ l _ _ _ _ Hn.out Hmax.out (Hrd.out.gr hg1)).mono ?_
      rintro e w2 ⟨rfl, hg2⟩
      have HG := Lib.hid (hg.trans (hg1.trans hg2))
      have Hrd2 := Lib.hid ((Hrd.out.gr hg1).gr hg2)
      clear a0 a1 hg hg1 hg2 Hrd
      go_wp2
      go_loopw [38] (fun i wr => ∃ k : Nat, k ≤ n ∧ i = .int .i64 k ∧ Gr w2 wr) (fun i _ => n - (intOf i).toNat)
      case atStart => exact ⟨0, Nat.zero_le _, rfl, Gr.refl _⟩
      case round =>
        obtain ⟨k, hk, rfl, hg⟩ := hrel
        by_cases hlt : k < n
        · have Hrd3 := Hrd2
          obtain ⟨b, o, rfl, c0, c1⟩ := (Hrd2.out.gr hg).pair (k := k) (by rw [Hn.out]; exact hlt)
          obtain ⟨px, hpx⟩ : ∃ z, z = (l.getD k (0, 0)).1 := ⟨_, rfl⟩
          obtain ⟨py, hpy⟩ : ∃ z, z = (l.getD k (0, 0)).2 := ⟨_, rfl⟩
          rw [← hpx] at c0
          rw [← hpy] at c1
          have Hpx := Lib.hid hpx
          have Hpy := Lib.hid hpy
          clear hpx hpy
          have hb := Blk.new wr 23 #[.int .i64 px, .int .i64 py]
          obtain ⟨w5, h5⟩ : ∃ w5, w5 = wr.alloc (.cells #[.int .i64 px, .int .i64 py] 23) := ⟨_, rfl⟩
          rw [← h5] at hb
          have Hw5 := Lib.hid (show Gr w2 w5 by rw [h5]; exact hg.alloc _)
          have hg5 : Gr W3 w5 := by rw [h5]; exact (HG.out.trans hg).alloc _
          obtain ⟨p0, p1, _, _, _⟩ := hb.two
          obtain ⟨a0, a1, _, _, _⟩ := (HB0.out.gr hg5).two
          obtain ⟨b0, b1, _, _, _⟩ := (HB1.out.gr hg5).two
          obtain ⟨d0, d1, _, _, _⟩ := (HB2.out.gr hg5).two
          have Hnz := Lib.hid hg5
          clear hg5
          go_wp2
          rw [← h5]
          refine wp_region_F [42, 43, 44, 45, 15] [[0], [1, 0], [2], [3, 2, 1, 0], [4, 3, 2, 1, 0]] (fun _ uu => Gr w5 uu) (fun _ _ a b => Gr a b) (fun i x _ => near13 x0 y0 px py i x) (by kernel_rfl) (by kernel_rfl) (by kernel_rfl) ((Gr.refl _).drew) ?_ (fun _ _ _ _ _ _ _ h _ => h) ?_ ?_
          · intro i x x' u hk hv
            match i, hk, hv with
            | 0, hk, hv => exact (show x' 42 = x 42 from (hk 0 (by decide)).symm).trans hv
            | 1, hk, hv => exact (show x' 43 = x 43 from (hk 1 (by decide)).symm).trans hv
            | 2, hk, hv => exact (show x' 44 = x 44 from (hk 2 (by decide)).symm).trans hv
            | 3, hk, hv => exact (show x' 45 = x 45 from (hk 3 (by decide)).symm).trans hv
            | 4, hk, hv => exact (show x' 15 = x 15 from (hk 4 (by decide)).symm).trans hv
            | m + 5, _, _ => trivial
          · intro i
            match i with
            | 0 =>
              intro o ho x u hJ hd a hev K hK
              simp at ho; subst ho
              refine wpOp_of rfl rfl ?_
              have e4 := hev.out 4 _ rfl rfl
              clear hd hev
              have k0 := hJ.cell a0
              have k1 := hJ.cell a1
              go_simp
              exact hK (.agg #[.int .i64 x0, .int .i64 y0]) u (Gr.refl _) hJ rfl
            | 1 =>
              intro o ho x u hJ hd a hev K hK
              simp at ho; subst ho
              refine wpOp_of rfl rfl ?_
              have e42 := (hev.inn 42 rfl rfl).trans (show x 42 = _ from hd 0 (by decide) (by decide))
              clear hd hev
              go_simp
              refine (to_any _ _ _).mono ?_
              rintro e w4 ⟨rfl, hb1⟩
              exact hK (.agg #[.int .i64 x0, .int .i64 y0]) w4 hb1 (hJ.trans hb1) rfl
            | 2 =>
              intro o ho x u hJ hd a hev K hK
              simp at ho; subst ho
              refine wpOp_of rfl rfl ?_
              have e14 := hev.out 14 _ rfl rfl
              clear hd hev
              have k0 := hJ.cell p0
              have k1 := hJ.cell p1
              go_simp
              exact hK (.agg #[.int .i64 px, .int .i64 py]) u (Gr.refl _) hJ rfl
            | 3 =>
              intro o ho x u hJ hd a hev K hK
              simp at ho; subst ho
              refine wpOp_of rfl rfl ?_
              have e43 := (hev.inn 43 rfl rfl).trans (show x 43 = _ from hd 1 (by decide) (by decide))
              have e44 := (hev.inn 44 rfl rfl).trans (show x 44 = _ from hd 2 (by decide) (by decide))
              clear hd hev
              go_simp
              refine (far_any _ _ _ _ _).mono ?_
              rintro e w4 ⟨rfl, hb1⟩
              exact hK (.int .i64 (farP x0 y0 px py)) w4 hb1 (hJ.trans hb1) rfl
            | 4 =>
              intro o ho x u hJ hd a hev K hK
              simp at ho; subst ho
              refine wpOp_of rfl rfl ?_
              have e45 := (hev.inn 45 rfl rfl).trans (show x 45 = _ from hd 3 (by decide) (by decide))
              clear hd hev
              go_simp
              exact hK (.int .i64 (farP x0 y0 px py)) u (Gr.refl _) hJ rfl
            | m + 5 => intro o ho; simp at ho
          · intro x u hgu hall
            have hy42 : x 42 = _ := hall 0 (by decide)
            have hy43 : x 43 = _ := hall 1 (by decide)
            have hy44 : x 44 = _ := hall 2 (by decide)
            have hy45 : x 45 = _ := hall 3 (by decide)
            have hy15 : x 15 = _ := hall 4 (by decide)
            clear hall
            simp [frame, fill, hy42, hy43, hy44, hy45, hy15]
            clear hy42 hy43 hy44 hy45 hy15
            go_wp2
            replace a0 := hgu.cell a0
            replace a1 := hgu.cell a1
            replace b0 := hgu.cell b0
            replace b1 := hgu.cell b1
            replace d0 := hgu.cell d0
            replace d1 := hgu.cell d1
            replace p0 := hgu.cell p0
            replace p1 := hgu.cell p1
            by_cases h0 : 0 ≤ farP x0 y0 px py
            · obtain ⟨m, hm, hnm, hle⟩ := near_law x0 y0 l k (by rw [Hn.out]; exact hlt) (by rw [← Hpx.out, ← Hpy.out]; exact h0)
              rw [Hn.out] at hm
              rw [← Hpx.out, ← Hpy.out] at hle
              obtain ⟨b', o', e', m0, m1⟩ := Hrd3.out.pair (k := m) (by rw [Hn.out]; exact hm)
              injection e' with e'
              injection e' with e1 e2
              subst e1 e2
              replace m0 := (Hw5.out.trans hgu).cell m0
              replace m1 := (Hw5.out.trans hgu).cell m1
              obtain ⟨mx, hmx⟩ : ∃ z, z = (l.getD m (0, 0)).1 := ⟨_, rfl⟩
              obtain ⟨my, hmy⟩ : ∃ z, z = (l.getD m (0, 0)).2 := ⟨_, rfl⟩
              rw [← hmx] at m0 hle
              rw [← hmy] at m1 hle
              clear hmx hmy
              rw [hnm]
              have hm0 : decide ((m : Int) < 0) = false := decide_eq_false (by omega)
              have hm1n : decide (n ≤ m) = false := decide_eq_false (by omega)
              have hm1 : decide ((n : Int) ≤ (m : Int)) = false := decide_eq_false (by omega)
              have hm2 : decide (farP x0 y0 px py < farP x0 y0 mx my) = false := decide_eq_false (by omega)
              clear hle
              go_wp2
              refine wp_region_F [46, 47, 48, 49, 50, 51, 52, 53, 54, 55, 56, 57, 58, 59, 60, 61, 62, 63, 64, 65, 66, 67, 68] [[0], [1, 0], [2, 1, 0], [3, 2, 1, 0], [4, 3, 2, 1, 0], [5, 4, 3, 2, 1, 0], [6, 5, 4, 3, 2, 1, 0], [7, 5, 4, 3, 2, 1, 0], [8, 7, 5, 4, 3, 2, 1, 0], [9, 8, 7, 6, 5, 4, 3, 2, 1, 0], [10, 9, 8, 7, 6, 5, 4, 3, 2, 1, 0], [11, 10, 9, 8, 7, 6, 5, 4, 3, 2, 1, 0], [12, 11, 10, 9, 8, 7, 6, 5, 4, 3, 2, 1, 0], [13, 12, 11, 10, 9, 8, 7, 6, 5, 4, 3, 2, 1, 0], [14, 11, 10, 9, 8, 7, 6, 5, 4, 3, 2, 1, 0], [15, 11, 10, 9, 8, 7, 6, 5, 4, 3, 2, 1, 0], [16, 15, 14, 11, 10, 9, 8, 7, 6, 5, 4, 3, 2, 1, 0], [17, 16, 15, 14, 11, 10, 9, 8, 7, 6, 5, 4, 3, 2, 1, 0], [18, 17, 16, 15, 14, 13, 12, 11, 10, 9, 8, 7, 6, 5, 4, 3, 2, 1, 0], [19, 11, 10, 9, 8, 7, 6, 5, 4, 3, 2, 1, 0], [20, 19, 18, 17, 16, 15, 14, 13, 12, 11, 10, 9, 8, 7, 6, 5, 4, 3, 2, 1, 0], [21, 20, 19, 18, 17, 16, 15, 14, 13, 12, 11, 10, 9, 8, 7, 6, 5, 4, 3, 2, 1, 0], [22, 21, 20, 19, 18, 17, 16, 15, 14, 13, 12, 11, 10, 9, 8, 7, 6, 5, 4, 3, 2, 1, 0]] (fun _ uu => Gr u uu) (fun _ _ a b => Gr a b) (fun i x _ => near14b x0 y0 px py mx my b o n c' m i x) (by kernel_rfl) (by kernel_rfl) (by kernel_rfl) ((Gr.refl _).drew) ?_ (fun _ _ _ _ _ _ _ h _ => h) ?_ ?_
              · intro i x x' u hk hv
                match i, hk, hv with
                | 0, hk, hv => exact (show x' 46 = x 46 from (hk 0 (by decide)).symm).trans hv
                | 1, hk, hv => exact (show x' 47 = x 47 from (hk 1 (by decide)).symm).trans hv
                | 2, hk, hv => exact (show x' 48 = x 48 from (hk 2 (by decide)).symm).trans hv
                | 3, hk, hv => exact (show x' 49 = x 49 from (hk 3 (by decide)).symm).trans hv
                | 4, hk, hv => exact (show x' 50 = x 50 from (hk 4 (by decide)).symm).trans hv
                | 5, hk, hv => exact (show x' 51 = x 51 from (hk 5 (by decide)).symm).trans hv
                | 6, hk, hv => exact (show x' 52 = x 52 from (hk 6 (by decide)).symm).trans hv
                | 7, hk, hv => exact (show x' 53 = x 53 from (hk 7 (by decide)).symm).trans hv
                | 8, hk, hv => exact (show x' 54 = x 54 from (hk 8 (by decide)).symm).trans hv
                | 9, hk, hv => exact (show x' 55 = x 55 from (hk 9 (by decide)).symm).trans hv
                | 10, hk, hv => exact (show x' 56 = x 56 from (hk 10 (by decide)).symm).trans hv
                | 11, hk, hv => exact (show x' 57 = x 57 from (hk 11 (by decide)).symm).trans hv
                | 12, hk, hv => exact (show x' 58 = x 58 from (hk 12 (by decide)).symm).trans hv
                | 13, hk, hv => exact (show x' 59 = x 59 from (hk 13 (by decide)).symm).trans hv
                | 14, hk, hv => exact (show x' 60 = x 60 from (hk 14 (by decide)).symm).trans hv
                | 15, hk, hv => exact (show x' 61 = x 61 from (hk 15 (by decide)).symm).trans hv
                | 16, hk, hv => exact (show x' 62 = x 62 from (hk 16 (by decide)).symm).trans hv
                | 17, hk, hv => exact (show x' 63 = x 63 from (hk 17 (by decide)).symm).trans hv
                | 18, hk, hv => exact (show x' 64 = x 64 from (hk 18 (by decide)).symm).trans hv
                | 19, hk, hv => exact (show x' 65 = x 65 from (hk 19 (by decide)).symm).trans hv
                | 20, hk, hv => exact (show x' 66 = x 66 from (hk 20 (by decide)).symm).trans hv
                | 21, hk, hv => exact (show x' 67 = x 67 from (hk 21 (by decide)).symm).trans hv
                | 22, hk, hv => exact (show x' 68 = x 68 from (hk 22 (by decide)).symm).trans hv
                | m + 23, _, _ => trivial
              · intro i
                match i with
                | 0 =>
                  intro o ho x u hJ hd a hev K hK
                  simp at ho; subst ho
                  refine wpOp_of rfl rfl ?_
                  have e15 := hev.out 15 _ rfl rfl
                  clear hd hev
                  go_simp
                  exact hK (.int .i64 (farP x0 y0 px py)) u (Gr.refl _) hJ rfl
                | 1 =>
                  intro o ho x u hJ hd a hev K hK
                  simp at ho; subst ho
                  refine wpOp_of rfl rfl ?_
                  have e46 := (hev.inn 46 rfl rfl).trans (show x 46 = _ from hd 0 (by decide) (by decide))
                  clear hd hev
                  go_simp
                  exact hK (.bool true) u (Gr.refl _) hJ rfl
                | 2 =>
                  intro o ho x u hJ hd a hev K hK
                  simp at ho; subst ho
                  refine wpOp_of rfl rfl ?_
                  have e47 := (hev.inn 47 rfl rfl).trans (show x 47 = _ from hd 1 (by decide) (by decide))
                  clear hd hev
                  go_simp
                  exact hK (.bool true) u (Gr.refl _) hJ rfl
                | 3 =>
                  intro o ho x u hJ hd a hev K hK
                  simp at ho; subst ho
                  have hgd := (hev.inn 48 rfl rfl).trans (show x 48 = _ from hd 2 (by decide) (by decide))
                  refine wpF_want rfl rfl (yield_bool rfl hgd) ?_
                  clear hgd
                  have e12 := hev.out 12 _ rfl rfl
                  clear hd hev
                  go_simp
                  exact hK (.int .i64 (m : Int)) u (Gr.refl _) hJ rfl
                | 4 =>
                  intro o ho x u hJ hd a hev K hK
                  simp at ho; subst ho
                  have hgd := (hev.inn 48 rfl rfl).trans (show x 48 = _ from hd 2 (by decide) (by decide))
                  refine wpF_want rfl rfl (yield_bool rfl hgd) ?_
                  clear hgd
                  have e49 := (hev.inn 49 rfl rfl).trans (show x 49 = _ from hd 3 (by decide) (by decide))
                  clear hd hev
                  go_simp
                  exact hK (.bool false) u (Gr.refl _) hJ rfl
                | 5 =>
                  intro o ho x u hJ hd a hev K hK
                  simp at ho; subst ho
                  have hgd := (hev.inn 48 rfl rfl).trans (show x 48 = _ from hd 2 (by decide) (by decide))
                  refine wpF_want rfl rfl (yield_bool rfl hgd) ?_
                  clear hgd
                  have e50 := (hev.inn 50 rfl rfl).trans (show x 50 = _ from hd 4 (by decide) (by decide))
                  clear hd hev
                  go_simp
                  exact hK (.bool false) u (Gr.refl _) hJ rfl
                | 6 =>
                  intro o ho x u hJ hd a hev K hK
                  simp at ho; subst ho
                  have hgd := (hev.inn 51 rfl rfl).trans (show x 51 = _ from hd 5 (by decide) (by decide))
                  refine wpF_want rfl rfl (yield_bool rfl hgd) ?_
                  clear hgd
                  have e12 := hev.out 12 _ rfl rfl
                  clear hd hev
                  go_simp
                  exact hK (.int .i64 (m : Int)) u (Gr.refl _) hJ rfl
                | 7 =>
                  intro o ho x u hJ hd a hev K hK
                  simp at ho; subst ho
                  have hgd := (hev.inn 51 rfl rfl).trans (show x 51 = _ from hd 5 (by decide) (by decide))
                  refine wpF_want rfl rfl (yield_bool rfl hgd) ?_
                  clear hgd
                  have e9 := hev.out 9 _ rfl rfl
                  clear hd hev
                  go_simp
                  exact hK ((.slice (some ⟨b, o, none⟩) n c')) u (Gr.refl _) hJ rfl
                | 8 =>
                  intro o ho x u hJ hd a hev K hK
                  simp at ho; subst ho
                  have hgd := (hev.inn 51 rfl rfl).trans (show x 51 = _ from hd 5 (by decide) (by decide))
                  refine wpF_want rfl rfl (yield_bool rfl hgd) ?_
                  clear hgd
                  have e53 := (hev.inn 53 rfl rfl).trans (show x 53 = _ from hd 7 (by decide) (by decide))
                  clear hd hev
                  go_simp
                  exact hK (.int .i64 (n : Int)) u (Gr.refl _) hJ rfl
                | 9 =>
                  intro o ho x u hJ hd a hev K hK
                  simp at ho; subst ho
                  have hgd := (hev.inn 51 rfl rfl).trans (show x 51 = _ from hd 5 (by decide) (by decide))
                  refine wpF_want rfl rfl (yield_bool rfl hgd) ?_
                  clear hgd
                  have e52 := (hev.inn 52 rfl rfl).trans (show x 52 = _ from hd 6 (by decide) (by decide))
                  have e54 := (hev.inn 54 rfl rfl).trans (show x 54 = _ from hd 8 (by decide) (by decide))
                  clear hd hev
                  go_simp
                  exact hK (.bool false) u (Gr.refl _) hJ rfl
                | 10 =>
                  intro o ho x u hJ hd a hev K hK
                  simp at ho; subst ho
                  have hgd := (hev.inn 48 rfl rfl).trans (show x 48 = _ from hd 2 (by decide) (by decide))
                  refine wpF_want rfl rfl (yield_bool rfl hgd) ?_
                  clear hgd
                  have e51 := (hev.inn 51 rfl rfl).trans (show x 51 = _ from hd 5 (by decide) (by decide))
                  have e55 := (hev.inn 55 rfl rfl).trans (show x 55 = _ from hd 9 (by decide) (by decide))
                  clear hd hev
                  go_simp
                  exact hK (.bool false) u (Gr.refl _) hJ rfl
                | 11 =>
                  intro o ho x u hJ hd a hev K hK
                  simp at ho; subst ho
                  have hgd := (hev.inn 48 rfl rfl).trans (show x 48 = _ from hd 2 (by decide) (by decide))
                  refine wpF_want rfl rfl (yield_bool rfl hgd) ?_
                  clear hgd
                  have e56 := (hev.inn 56 rfl rfl).trans (show x 56 = _ from hd 10 (by decide) (by decide))
                  clear hd hev
                  go_simp
                  exact hK (.bool false) u (Gr.refl _) hJ rfl
                | 12 =>
                  intro o ho x u hJ hd a hev K hK
                  simp at ho; subst ho
                  have hgd := (hev.inn 57 rfl rfl).trans (show x 57 = _ from hd 11 (by decide) (by decide))
                  refine wpF_want rfl rfl (yield_bool rfl hgd) ?_
                  clear hgd
                  have e4 := hev.out 4 _ rfl rfl
                  clear hd hev
                  have k0 := hJ.cell a0
                  have k1 := hJ.cell a1
                  go_simp
                  exact hK (.agg #[.int .i64 x0, .int .i64 y0]) u (Gr.refl _) hJ rfl
                | 13 =>
                  intro o ho x u hJ hd a hev K hK
                  simp at ho; subst ho
                  have hgd := (hev.inn 57 rfl rfl).trans (show x 57 = _ from hd 11 (by decide) (by decide))
                  refine wpF_want rfl rfl (yield_bool rfl hgd) ?_
                  clear hgd
                  have e58 := (hev.inn 58 rfl rfl).trans (show x 58 = _ from hd 12 (by decide) (by decide))
                  clear hd hev
                  go_simp
                  refine (to_any _ _ _).mono ?_
                  rintro e w4 ⟨rfl, hb1⟩
                  exact hK (.agg #[.int .i64 x0, .int .i64 y0]) w4 hb1 (hJ.trans hb1) rfl
                | 14 =>
                  intro o ho x u hJ hd a hev K hK
                  simp at ho; subst ho
                  have hgd := (hev.inn 57 rfl rfl).trans (show x 57 = _ from hd 11 (by decide) (by decide))
                  refine wpF_want rfl rfl (yield_bool rfl hgd) ?_
                  clear hgd
                  have e9 := hev.out 9 _ rfl rfl
                  clear hd hev
                  go_simp
                  exact hK ((.slice (some ⟨b, o, none⟩) n c')) u (Gr.refl _) hJ rfl
                | 15 =>
                  intro o ho x u hJ hd a hev K hK
                  simp at ho; subst ho
                  have hgd := (hev.inn 57 rfl rfl).trans (show x 57 = _ from hd 11 (by decide) (by decide))
                  refine wpF_want rfl rfl (yield_bool rfl hgd) ?_
                  clear hgd
                  have e12 := hev.out 12 _ rfl rfl
                  clear hd hev
                  go_simp
                  exact hK (.int .i64 (m : Int)) u (Gr.refl _) hJ rfl
                | 16 =>
                  intro o ho x u hJ hd a hev K hK
                  simp at ho; subst ho
                  have hgd := (hev.inn 57 rfl rfl).trans (show x 57 = _ from hd 11 (by decide) (by decide))
                  refine wpF_want rfl rfl (yield_bool rfl hgd) ?_
                  clear hgd
                  have e60 := (hev.inn 60 rfl rfl).trans (show x 60 = _ from hd 14 (by decide) (by decide))
                  have e61 := (hev.inn 61 rfl rfl).trans (show x 61 = _ from hd 15 (by decide) (by decide))
                  clear hd hev
                  go_simp
                  exact hK (.pointer (some ⟨b, o + m * 2, none⟩)) u (Gr.refl _) hJ rfl
                | 17 =>
                  intro o ho x u hJ hd a hev K hK
                  simp at ho; subst ho
                  have hgd := (hev.inn 57 rfl rfl).trans (show x 57 = _ from hd 11 (by decide) (by decide))
                  refine wpF_want rfl rfl (yield_bool rfl hgd) ?_
                  clear hgd
                  have e62 := (hev.inn 62 rfl rfl).trans (show x 62 = _ from hd 16 (by decide) (by decide))
                  clear hd hev
                  have k0 := hJ.cell m0
                  have k1 := hJ.cell m1
                  go_simp
                  exact hK (.agg #[.int .i64 mx, .int .i64 my]) u (Gr.refl _) hJ rfl
                | 18 =>
                  intro o ho x u hJ hd a hev K hK
                  simp at ho; subst ho
                  have hgd := (hev.inn 57 rfl rfl).trans (show x 57 = _ from hd 11 (by decide) (by decide))
                  refine wpF_want rfl rfl (yield_bool rfl hgd) ?_
                  clear hgd
                  have e59 := (hev.inn 59 rfl rfl).trans (show x 59 = _ from hd 13 (by decide) (by decide))
                  have e63 := (hev.inn 63 rfl rfl).trans (show x 63 = _ from hd 17 (by decide) (by decide))
                  clear hd hev
                  go_simp
                  refine (far_any _ _ _ _ _).mono ?_
                  rintro e w4 ⟨rfl, hb1⟩
                  exact hK (.int .i64 (farP x0 y0 mx my)) w4 hb1 (hJ.trans hb1) rfl
                | 19 =>
                  intro o ho x u hJ hd a hev K hK
                  simp at ho; subst ho
                  have hgd := (hev.inn 57 rfl rfl).trans (show x 57 = _ from hd 11 (by decide) (by decide))
                  refine wpF_want rfl rfl (yield_bool rfl hgd) ?_
                  clear hgd
                  have e15 := hev.out 15 _ rfl rfl
                  clear hd hev
                  go_simp
                  exact hK (.int .i64 (farP x0 y0 px py)) u (Gr.refl _) hJ rfl
                | 20 =>
                  intro o ho x u hJ hd a hev K hK
                  simp at ho; subst ho
                  have hgd := (hev.inn 57 rfl rfl).trans (show x 57 = _ from hd 11 (by decide) (by decide))
                  refine wpF_want rfl rfl (yield_bool rfl hgd) ?_
                  clear hgd
                  have e64 := (hev.inn 64 rfl rfl).trans (show x 64 = _ from hd 18 (by decide) (by decide))
                  have e65 := (hev.inn 65 rfl rfl).trans (show x 65 = _ from hd 19 (by decide) (by decide))
                  clear hd hev
                  go_simp
                  exact hK (.bool false) u (Gr.refl _) hJ rfl
                | 21 =>
                  intro o ho x u hJ hd a hev K hK
                  simp at ho; subst ho
                  have hgd := (hev.inn 48 rfl rfl).trans (show x 48 = _ from hd 2 (by decide) (by decide))
                  refine wpF_want rfl rfl (yield_bool rfl hgd) ?_
                  clear hgd
                  have e57 := (hev.inn 57 rfl rfl).trans (show x 57 = _ from hd 11 (by decide) (by decide))
                  have e66 := (hev.inn 66 rfl rfl).trans (show x 66 = _ from hd 20 (by decide) (by decide))
                  clear hd hev
                  go_simp
                  exact hK (.bool false) u (Gr.refl _) hJ rfl
                | 22 =>
                  intro o ho x u hJ hd a hev K hK
                  simp at ho; subst ho
                  refine wpOp_of rfl rfl ?_
                  have e48 := (hev.inn 48 rfl rfl).trans (show x 48 = _ from hd 2 (by decide) (by decide))
                  have e67 := (hev.inn 67 rfl rfl).trans (show x 67 = _ from hd 21 (by decide) (by decide))
                  clear hd hev
                  go_simp
                  exact hK (.bool false) u (Gr.refl _) hJ rfl
                | m + 23 => intro o ho; simp at ho
              · intro x u1 hgu1 hall
                have hy46 : x 46 = _ := hall 0 (by decide)
                have hy47 : x 47 = _ := hall 1 (by decide)
                have hy48 : x 48 = _ := hall 2 (by decide)
                have hy49 : x 49 = _ := hall 3 (by decide)
                have hy50 : x 50 = _ := hall 4 (by decide)
                have hy51 : x 51 = _ := hall 5 (by decide)
                have hy52 : x 52 = _ := hall 6 (by decide)
                have hy53 : x 53 = _ := hall 7 (by decide)
                have hy54 : x 54 = _ := hall 8 (by decide)
                have hy55 : x 55 = _ := hall 9 (by decide)
                have hy56 : x 56 = _ := hall 10 (by decide)
                have hy57 : x 57 = _ := hall 11 (by decide)
                have hy58 : x 58 = _ := hall 12 (by decide)
                have hy59 : x 59 = _ := hall 13 (by decide)
                have hy60 : x 60 = _ := hall 14 (by decide)
                have hy61 : x 61 = _ := hall 15 (by decide)
                have hy62 : x 62 = _ := hall 16 (by decide)
                have hy63 : x 63 = _ := hall 17 (by decide)
                have hy64 : x 64 = _ := hall 18 (by decide)
                have hy65 : x 65 = _ := hall 19 (by decide)
                have hy66 : x 66 = _ := hall 20 (by decide)
                have hy67 : x 67 = _ := hall 21 (by decide)
                have hy68 : x 68 = _ := hall 22 (by decide)
                clear hall
                simp [frame, fill, hy46, hy47, hy48, hy49, hy50, hy51, hy52, hy53, hy54, hy55, hy56, hy57, hy58, hy59, hy60, hy61, hy62, hy63, hy64, hy65, hy66, hy67, hy68]
                clear hy46 hy47 hy48 hy49 hy50 hy51 hy52 hy53 hy54 hy55 hy56 hy57 hy58 hy59 hy60 hy61 hy62 hy63 hy64 hy65 hy66 hy67 hy68
                go_wp2
                replace a0 := hgu1.cell a0
                replace a1 := hgu1.cell a1
                replace b0 := hgu1.cell b0
                replace b1 := hgu1.cell b1
                replace d0 := hgu1.cell d0
                replace d1 := hgu1.cell d1
                replace p0 := hgu1.cell p0
                replace p1 := hgu1.cell p1
                refine wp_region_F [69, 70, 71, 72, 73, 74, 75, 76, 77, 78, 79, 80, 81, 82] [[0], [1, 0], [2], [3, 2, 1, 0], [4], [5, 4, 3, 2, 1, 0], [6], [7, 6, 5, 4, 3, 2, 1, 0], [8], [9, 8, 7, 6, 5, 4, 3, 2, 1, 0], [10], [11, 10, 9, 8, 7, 6, 5, 4, 3, 2, 1, 0], [12, 11, 10, 9, 8, 7, 6, 5, 4, 3, 2, 1, 0], [13, 12, 11, 10, 9, 8, 7, 6, 5, 4, 3, 2, 1, 0]] (fun _ uu => Gr u1 uu) (fun _ _ a b => Gr a b) (fun i x _ => near16 x1 y1 x2 y2 px py i x) (by kernel_rfl) (by kernel_rfl) (by kernel_rfl) ((Gr.refl _).drew) ?_ (fun _ _ _ _ _ _ _ h _ => h) ?_ ?_
                · intro i x x' u hk hv
                  match i, hk, hv with
                  | 0, hk, hv => exact (show x' 69 = x 69 from (hk 0 (by decide)).symm).trans hv
                  | 1, hk, hv => exact (show x' 70 = x 70 from (hk 1 (by decide)).symm).trans hv
                  | 2, hk, hv => exact (show x' 71 = x 71 from (hk 2 (by decide)).symm).trans hv
                  | 3, hk, hv => exact (show x' 72 = x 72 from (hk 3 (by decide)).symm).trans hv
                  | 4, hk, hv => exact (show x' 73 = x 73 from (hk 4 (by decide)).symm).trans hv
                  | 5, hk, hv => exact (show x' 74 = x 74 from (hk 5 (by decide)).symm).trans hv
                  | 6, hk, hv => exact (show x' 75 = x 75 from (hk 6 (by decide)).symm).trans hv
                  | 7, hk, hv => exact (show x' 76 = x 76 from (hk 7 (by decide)).symm).trans hv
                  | 8, hk, hv => exact (show x' 77 = x 77 from (hk 8 (by decide)).symm).trans hv
                  | 9, hk, hv => exact (show x' 78 = x 78 from (hk 9 (by decide)).symm).trans hv
                  | 10, hk, hv => exact (show x' 79 = x 79 from (hk 10 (by decide)).symm).trans hv
                  | 11, hk, hv => exact (show x' 80 = x 80 from (hk 11 (by decide)).symm).trans hv
                  | 12, hk, hv => exact (show x' 81 = x 81 from (hk 12 (by decide)).symm).trans hv
                  | 13, hk, hv => exact (show x' 82 = x 82 from (hk 13 (by decide)).symm).trans hv
                  | m + 14, _, _ => trivial
                · intro i
                  match i with
                  | 0 =>
                    intro o ho x u hJ hd a hev K hK
                    simp at ho; subst ho
                    refine wpOp_of rfl rfl ?_
                    have e5 := hev.out 5 _ rfl rfl
                    clear hd hev
                    have k0 := hJ.cell b0
                    have k1 := hJ.cell b1
                    go_simp
                    exact hK (.agg #[.int .i64 x1, .int .i64 y1]) u (Gr.refl _) hJ rfl
                  | 1 =>
                    intro o ho x u hJ hd a hev K hK
                    simp at ho; subst ho
                    refine wpOp_of rfl rfl ?_
                    have e69 := (hev.inn 69 rfl rfl).trans (show x 69 = _ from hd 0 (by decide) (by decide))
                    clear hd hev
                    go_simp
                    refine (to_any _ _ _).mono ?_
                    rintro e w4 ⟨rfl, hb1⟩
                    exact hK (.agg #[.int .i64 x1, .int .i64 y1]) w4 hb1 (hJ.trans hb1) rfl
                  | 2 =>
                    intro o ho x u hJ hd a hev K hK
                    simp at ho; subst ho
                    refine wpOp_of rfl rfl ?_
                    have e6 := hev.out 6 _ rfl rfl
                    clear hd hev
                    have k0 := hJ.cell d0
                    have k1 := hJ.cell d1
                    go_simp
                    exact hK (.agg #[.int .i64 x2, .int .i64 y2]) u (Gr.refl _) hJ rfl
                  | 3 =>
                    intro o ho x u hJ hd a hev K hK
                    simp at ho; subst ho
                    refine wpOp_of rfl rfl ?_
                    have e71 := (hev.inn 71 rfl rfl).trans (show x 71 = _ from hd 2 (by decide) (by decide))
                    clear hd hev
                    go_simp
                    refine (to_any _ _ _).mono ?_
                    rintro e w4 ⟨rfl, hb1⟩
                    exact hK (.agg #[.int .i64 x2, .int .i64 y2]) w4 hb1 (hJ.trans hb1) rfl
                  | 4 =>
                    intro o ho x u hJ hd a hev K hK
                    simp at ho; subst ho
                    refine wpOp_of rfl rfl ?_
                    have e14 := hev.out 14 _ rfl rfl
                    clear hd hev
                    have k0 := hJ.cell p0
                    have k1 := hJ.cell p1
                    go_simp
                    exact hK (.agg #[.int .i64 px, .int .i64 py]) u (Gr.refl _) hJ rfl
                  | 5 =>
                    intro o ho x u hJ hd a hev K hK
                    simp at ho; subst ho
                    refine wpOp_of rfl rfl ?_
                    have e70 := (hev.inn 70 rfl rfl).trans (show x 70 = _ from hd 1 (by decide) (by decide))
                    have e72 := (hev.inn 72 rfl rfl).trans (show x 72 = _ from hd 3 (by decide) (by decide))
                    have e73 := (hev.inn 73 rfl rfl).trans (show x 73 = _ from hd 4 (by decide) (by decide))
                    clear hd hev
                    go_simp
                    refine (side_any _ _ _ _ _ _ _).mono ?_
                    rintro e w4 ⟨rfl, hb1⟩
                    exact hK (.int .i64 (sideP x1 y1 x2 y2 px py)) w4 hb1 (hJ.trans hb1) rfl
                  | 6 =>
                    intro o ho x u hJ hd a hev K hK
                    simp at ho; subst ho
                    refine wpOp_of rfl rfl ?_
                    have e6 := hev.out 6 _ rfl rfl
                    clear hd hev
                    have k0 := hJ.cell d0
                    have k1 := hJ.cell d1
                    go_simp
                    exact hK (.agg #[.int .i64 x2, .int .i64 y2]) u (Gr.refl _) hJ rfl
                  | 7 =>
                    intro o ho x u hJ hd a hev K hK
                    simp at ho; subst ho
                    refine wpOp_of rfl rfl ?_
                    have e75 := (hev.inn 75 rfl rfl).trans (show x 75 = _ from hd 6 (by decide) (by decide))
                    clear hd hev
                    go_simp
                    refine (to_any _ _ _).mono ?_
                    rintro e w4 ⟨rfl, hb1⟩
                    exact hK (.agg #[.int .i64 x2, .int .i64 y2]) w4 hb1 (hJ.trans hb1) rfl
                  | 8 =>
                    intro o ho x u hJ hd a hev K hK
                    simp at ho; subst ho
                    refine wpOp_of rfl rfl ?_
                    have e5 := hev.out 5 _ rfl rfl
                    clear hd hev
                    have k0 := hJ.cell b0
                    have k1 := hJ.cell b1
                    go_simp
                    exact hK (.agg #[.int .i64 x1, .int .i64 y1]) u (Gr.refl _) hJ rfl
                  | 9 =>
                    intro o ho x u hJ hd a hev K hK
                    simp at ho; subst ho
                    refine wpOp_of rfl rfl ?_
                    have e77 := (hev.inn 77 rfl rfl).trans (show x 77 = _ from hd 8 (by decide) (by decide))
                    clear hd hev
                    go_simp
                    refine (to_any _ _ _).mono ?_
                    rintro e w4 ⟨rfl, hb1⟩
                    exact hK (.agg #[.int .i64 x1, .int .i64 y1]) w4 hb1 (hJ.trans hb1) rfl
                  | 10 =>
                    intro o ho x u hJ hd a hev K hK
                    simp at ho; subst ho
                    refine wpOp_of rfl rfl ?_
                    have e14 := hev.out 14 _ rfl rfl
                    clear hd hev
                    have k0 := hJ.cell p0
                    have k1 := hJ.cell p1
                    go_simp
                    exact hK (.agg #[.int .i64 px, .int .i64 py]) u (Gr.refl _) hJ rfl
                  | 11 =>
                    intro o ho x u hJ hd a hev K hK
                    simp at ho; subst ho
                    refine wpOp_of rfl rfl ?_
                    have e76 := (hev.inn 76 rfl rfl).trans (show x 76 = _ from hd 7 (by decide) (by decide))
                    have e78 := (hev.inn 78 rfl rfl).trans (show x 78 = _ from hd 9 (by decide) (by decide))
                    have e79 := (hev.inn 79 rfl rfl).trans (show x 79 = _ from hd 10 (by decide) (by decide))
                    clear hd hev
                    go_simp
                    refine (side_neg _ _ _ _ _ _ _).mono ?_
                    rintro e w4 ⟨rfl, hb1⟩
                    exact hK (.int .i64 (-sideP x1 y1 x2 y2 px py)) w4 hb1 (hJ.trans hb1) rfl
                  | 12 =>
                    intro o ho x u hJ hd a hev K hK
                    simp at ho; subst ho
                    refine wpOp_of rfl rfl ?_
                    have e80 := (hev.inn 80 rfl rfl).trans (show x 80 = _ from hd 11 (by decide) (by decide))
                    clear hd hev
                    obtain ⟨z1, z2⟩ := side_small x1 y1 x2 y2 px py
                    have hwr : IntKind.i64.wrap (sideP x1 y1 x2 y2 px py) = sideP x1 y1 x2 y2 px py := IntWalk.i64_in _ (by omega)
                    go_simp
                    exact hK (.int .i64 (sideP x1 y1 x2 y2 px py)) u (Gr.refl _) hJ rfl
                  | 13 =>
                    intro o ho x u hJ hd a hev K hK
                    simp at ho; subst ho
                    refine wpOp_of rfl rfl ?_
                    have e74 := (hev.inn 74 rfl rfl).trans (show x 74 = _ from hd 5 (by decide) (by decide))
                    have e81 := (hev.inn 81 rfl rfl).trans (show x 81 = _ from hd 12 (by decide) (by decide))
                    clear hd hev
                    go_simp
                    exact hK (.bool false) u (Gr.refl _) hJ rfl
                  | m + 14 => intro o ho; simp at ho
                · intro x u2 hgu2 hall
                  have hy69 : x 69 = _ := hall 0 (by decide)
                  have hy70 : x 70 = _ := hall 1 (by decide)
                  have hy71 : x 71 = _ := hall 2 (by decide)
                  have hy72 : x 72 = _ := hall 3 (by decide)
                  have hy73 : x 73 = _ := hall 4 (by decide)
                  have hy74 : x 74 = _ := hall 5 (by decide)
                  have hy75 : x 75 = _ := hall 6 (by decide)
                  have hy76 : x 76 = _ := hall 7 (by decide)
                  have hy77 : x 77 = _ := hall 8 (by decide)
                  have hy78 : x 78 = _ := hall 9 (by decide)
                  have hy79 : x 79 = _ := hall 10 (by decide)
                  have hy80 : x 80 = _ := hall 11 (by decide)
                  have hy81 : x 81 = _ := hall 12 (by decide)
                  have hy82 : x 82 = _ := hall 13 (by decide)
                  clear hall
                  simp [frame, fill, hy69, hy70, hy71, hy72, hy73, hy74, hy75, hy76, hy77, hy78, hy79, hy80, hy81, hy82]
                  clear hy69 hy70 hy71 hy72 hy73 hy74 hy75 hy76 hy77 hy78 hy79 hy80 hy81 hy82
                  go_wp2
                  rw [← hnm]
                  go_roundw
                  case rel => exact ⟨k + 1, by omega, by go_num, Hw5.out.trans (hgu.trans (hgu1.trans hgu2))⟩
                  case measure => simp [intOf]; omega
            · have h0f : decide (0 ≤ farP x0 y0 px py) = false := decide_eq_false h0
              go_wp2
              refine wp_region_F [46, 47, 48, 49, 50, 51, 52, 53, 54, 55, 56, 57, 58, 59, 60, 61, 62, 63, 64, 65, 66, 67, 68] [[0], [1, 0], [2, 1, 0], [3, 2, 1, 0], [4, 3, 2, 1, 0], [5, 4, 3, 2, 1, 0], [6, 5, 4, 3, 2, 1, 0], [7, 5, 4, 3, 2, 1, 0], [8, 7, 5, 4, 3, 2, 1, 0], [9, 8, 7, 6, 5, 4, 3, 2, 1, 0], [10, 9, 8, 7, 6, 5, 4, 3, 2, 1, 0], [11, 10, 9, 8, 7, 6, 5, 4, 3, 2, 1, 0], [12, 11, 10, 9, 8, 7, 6, 5, 4, 3, 2, 1, 0], [13, 12, 11, 10, 9, 8, 7, 6, 5, 4, 3, 2, 1, 0], [14, 11, 10, 9, 8, 7, 6, 5, 4, 3, 2, 1, 0], [15, 11, 10, 9, 8, 7, 6, 5, 4, 3, 2, 1, 0], [16, 15, 14, 11, 10, 9, 8, 7, 6, 5, 4, 3, 2, 1, 0], [17, 16, 15, 14, 11, 10, 9, 8, 7, 6, 5, 4, 3, 2, 1, 0], [18, 17, 16, 15, 14, 13, 12, 11, 10, 9, 8, 7, 6, 5, 4, 3, 2, 1, 0], [19, 11, 10, 9, 8, 7, 6, 5, 4, 3, 2, 1, 0], [20, 19, 18, 17, 16, 15, 14, 13, 12, 11, 10, 9, 8, 7, 6, 5, 4, 3, 2, 1, 0], [21, 20, 19, 18, 17, 16, 15, 14, 13, 12, 11, 10, 9, 8, 7, 6, 5, 4, 3, 2, 1, 0], [22, 21, 20, 19, 18, 17, 16, 15, 14, 13, 12, 11, 10, 9, 8, 7, 6, 5, 4, 3, 2, 1, 0]] (fun _ uu => Gr u uu) (fun _ _ a b => Gr a b) (fun i x _ => near14a x0 y0 px py i x) (by kernel_rfl) (by kernel_rfl) (by kernel_rfl) ((Gr.refl _).drew) ?_ (fun _ _ _ _ _ _ _ h _ => h) ?_ ?_
              · intro i x x' u hk hv
                match i, hk, hv with
                | 0, hk, hv => exact (show x' 46 = x 46 from (hk 0 (by decide)).symm).trans hv
                | 1, hk, hv => exact (show x' 47 = x 47 from (hk 1 (by decide)).symm).trans hv
                | 2, hk, hv => exact (show x' 48 = x 48 from (hk 2 (by decide)).symm).trans hv
                | 3, hk, hv => exact (show x' 49 = x 49 from (hk 3 (by decide)).symm).trans hv
                | 4, hk, hv => exact (show x' 50 = x 50 from (hk 4 (by decide)).symm).trans hv
                | 5, hk, hv => exact (show x' 51 = x 51 from (hk 5 (by decide)).symm).trans hv
                | 6, hk, hv => exact (show x' 52 = x 52 from (hk 6 (by decide)).symm).trans hv
                | 7, hk, hv => exact (show x' 53 = x 53 from (hk 7 (by decide)).symm).trans hv
                | 8, hk, hv => exact (show x' 54 = x 54 from (hk 8 (by decide)).symm).trans hv
                | 9, hk, hv => exact (show x' 55 = x 55 from (hk 9 (by decide)).symm).trans hv
                | 10, hk, hv => exact (show x' 56 = x 56 from (hk 10 (by decide)).symm).trans hv
                | 11, hk, hv => exact (show x' 57 = x 57 from (hk 11 (by decide)).symm).trans hv
                | 12, hk, hv => exact (show x' 58 = x 58 from (hk 12 (by decide)).symm).trans hv
                | 13, hk, hv => exact (show x' 59 = x 59 from (hk 13 (by decide)).symm).trans hv
                | 14, hk, hv => exact (show x' 60 = x 60 from (hk 14 (by decide)).symm).trans hv
                | 15, hk, hv => exact (show x' 61 = x 61 from (hk 15 (by decide)).symm).trans hv
                | 16, hk, hv => exact (show x' 62 = x 62 from (hk 16 (by decide)).symm).trans hv
                | 17, hk, hv => exact (show x' 63 = x 63 from (hk 17 (by decide)).symm).trans hv
                | 18, hk, hv => exact (show x' 64 = x 64 from (hk 18 (by decide)).symm).trans hv
                | 19, hk, hv => exact (show x' 65 = x 65 from (hk 19 (by decide)).symm).trans hv
                | 20, hk, hv => exact (show x' 66 = x 66 from (hk 20 (by decide)).symm).trans hv
                | 21, hk, hv => exact (show x' 67 = x 67 from (hk 21 (by decide)).symm).trans hv
                | 22, hk, hv => exact (show x' 68 = x 68 from (hk 22 (by decide)).symm).trans hv
                | m + 23, _, _ => trivial
              · intro i
                match i with
                | 0 =>
                  intro o ho x u hJ hd a hev K hK
                  simp at ho; subst ho
                  refine wpOp_of rfl rfl ?_
                  have e15 := hev.out 15 _ rfl rfl
                  clear hd hev
                  go_simp
                  exact hK (.int .i64 (farP x0 y0 px py)) u (Gr.refl _) hJ rfl
                | 1 =>
                  intro o ho x u hJ hd a hev K hK
                  simp at ho; subst ho
                  refine wpOp_of rfl rfl ?_
                  have e46 := (hev.inn 46 rfl rfl).trans (show x 46 = _ from hd 0 (by decide) (by decide))
                  clear hd hev
                  go_simp
                  exact hK (.bool false) u (Gr.refl _) hJ rfl
                | 2 =>
                  intro o ho x u hJ hd a hev K hK
                  simp at ho; subst ho
                  refine wpOp_of rfl rfl ?_
                  have e47 := (hev.inn 47 rfl rfl).trans (show x 47 = _ from hd 1 (by decide) (by decide))
                  clear hd hev
                  go_simp
                  exact hK (.bool false) u (Gr.refl _) hJ rfl
                | 3 =>
                  intro o ho x u hJ hd a hev K hK
                  simp at ho; subst ho
                  have hgd := (hev.inn 48 rfl rfl).trans (show x 48 = _ from hd 2 (by decide) (by decide))
                  exact wpF_skip rfl rfl (yield_bool rfl hgd) (hK undef u (Gr.refl _) hJ rfl)
                | 4 =>
                  intro o ho x u hJ hd a hev K hK
                  simp at ho; subst ho
                  have hgd := (hev.inn 48 rfl rfl).trans (show x 48 = _ from hd 2 (by decide) (by decide))
                  exact wpF_skip rfl rfl (yield_bool rfl hgd) (hK undef u (Gr.refl _) hJ rfl)
                | 5 =>
                  intro o ho x u hJ hd a hev K hK
                  simp at ho; subst ho
                  have hgd := (hev.inn 48 rfl rfl).trans (show x 48 = _ from hd 2 (by decide) (by decide))
                  exact wpF_skip rfl rfl (yield_bool rfl hgd) (hK undef u (Gr.refl _) hJ rfl)
                | 6 =>
                  intro o ho x u hJ hd a hev K hK
                  simp at ho; subst ho
                  have hgd := (hev.inn 51 rfl rfl).trans (show x 51 = _ from hd 5 (by decide) (by decide))
                  exact wpF_skip0 rfl rfl (yield_none rfl hgd) (hK undef u (Gr.refl _) hJ rfl)
                | 7 =>
                  intro o ho x u hJ hd a hev K hK
                  simp at ho; subst ho
                  have hgd := (hev.inn 51 rfl rfl).trans (show x 51 = _ from hd 5 (by decide) (by decide))
                  exact wpF_skip0 rfl rfl (yield_none rfl hgd) (hK undef u (Gr.refl _) hJ rfl)
                | 8 =>
                  intro o ho x u hJ hd a hev K hK
                  simp at ho; subst ho
                  have hgd := (hev.inn 51 rfl rfl).trans (show x 51 = _ from hd 5 (by decide) (by decide))
                  exact wpF_skip0 rfl rfl (yield_none rfl hgd) (hK undef u (Gr.refl _) hJ rfl)
                | 9 =>
                  intro o ho x u hJ hd a hev K hK
                  simp at ho; subst ho
                  have hgd := (hev.inn 51 rfl rfl).trans (show x 51 = _ from hd 5 (by decide) (by decide))
                  exact wpF_skip0 rfl rfl (yield_none rfl hgd) (hK undef u (Gr.refl _) hJ rfl)
                | 10 =>
                  intro o ho x u hJ hd a hev K hK
                  simp at ho; subst ho
                  have hgd := (hev.inn 48 rfl rfl).trans (show x 48 = _ from hd 2 (by decide) (by decide))
                  exact wpF_skip rfl rfl (yield_bool rfl hgd) (hK undef u (Gr.refl _) hJ rfl)
                | 11 =>
                  intro o ho x u hJ hd a hev K hK
                  simp at ho; subst ho
                  have hgd := (hev.inn 48 rfl rfl).trans (show x 48 = _ from hd 2 (by decide) (by decide))
                  exact wpF_skip rfl rfl (yield_bool rfl hgd) (hK undef u (Gr.refl _) hJ rfl)
                | 12 =>
                  intro o ho x u hJ hd a hev K hK
                  simp at ho; subst ho
                  have hgd := (hev.inn 57 rfl rfl).trans (show x 57 = _ from hd 11 (by decide) (by decide))
                  exact wpF_skip0 rfl rfl (yield_none rfl hgd) (hK undef u (Gr.refl _) hJ rfl)
                | 13 =>
                  intro o ho x u hJ hd a hev K hK
                  simp at ho; subst ho
                  have hgd := (hev.inn 57 rfl rfl).trans (show x 57 = _ from hd 11 (by decide) (by decide))
                  exact wpF_skip0 rfl rfl (yield_none rfl hgd) (hK undef u (Gr.refl _) hJ rfl)
                | 14 =>
                  intro o ho x u hJ hd a hev K hK
                  simp at ho; subst ho
                  have hgd := (hev.inn 57 rfl rfl).trans (show x 57 = _ from hd 11 (by decide) (by decide))
                  exact wpF_skip0 rfl rfl (yield_none rfl hgd) (hK undef u (Gr.refl _) hJ rfl)
                | 15 =>
                  intro o ho x u hJ hd a hev K hK
                  simp at ho; subst ho
                  have hgd := (hev.inn 57 rfl rfl).trans (show x 57 = _ from hd 11 (by decide) (by decide))
                  exact wpF_skip0 rfl rfl (yield_none rfl hgd) (hK undef u (Gr.refl _) hJ rfl)
                | 16 =>
                  intro o ho x u hJ hd a hev K hK
                  simp at ho; subst ho
                  have hgd := (hev.inn 57 rfl rfl).trans (show x 57 = _ from hd 11 (by decide) (by decide))
                  exact wpF_skip0 rfl rfl (yield_none rfl hgd) (hK undef u (Gr.refl _) hJ rfl)
                | 17 =>
                  intro o ho x u hJ hd a hev K hK
                  simp at ho; subst ho
                  have hgd := (hev.inn 57 rfl rfl).trans (show x 57 = _ from hd 11 (by decide) (by decide))
                  exact wpF_skip0 rfl rfl (yield_none rfl hgd) (hK undef u (Gr.refl _) hJ rfl)
                | 18 =>
                  intro o ho x u hJ hd a hev K hK
                  simp at ho; subst ho
                  have hgd := (hev.inn 57 rfl rfl).trans (show x 57 = _ from hd 11 (by decide) (by decide))
                  exact wpF_skip0 rfl rfl (yield_none rfl hgd) (hK undef u (Gr.refl _) hJ rfl)
                | 19 =>
                  intro o ho x u hJ hd a hev K hK
                  simp at ho; subst ho
                  have hgd := (hev.inn 57 rfl rfl).trans (show x 57 = _ from hd 11 (by decide) (by decide))
                  exact wpF_skip0 rfl rfl (yield_none rfl hgd) (hK undef u (Gr.refl _) hJ rfl)
                | 20 =>
                  intro o ho x u hJ hd a hev K hK
                  simp at ho; subst ho
                  have hgd := (hev.inn 57 rfl rfl).trans (show x 57 = _ from hd 11 (by decide) (by decide))
                  exact wpF_skip0 rfl rfl (yield_none rfl hgd) (hK undef u (Gr.refl _) hJ rfl)
                | 21 =>
                  intro o ho x u hJ hd a hev K hK
                  simp at ho; subst ho
                  have hgd := (hev.inn 48 rfl rfl).trans (show x 48 = _ from hd 2 (by decide) (by decide))
                  exact wpF_skip rfl rfl (yield_bool rfl hgd) (hK undef u (Gr.refl _) hJ rfl)
                | 22 =>
                  intro o ho x u hJ hd a hev K hK
                  simp at ho; subst ho
                  refine wpOp_of rfl rfl ?_
                  have e48 := (hev.inn 48 rfl rfl).trans (show x 48 = _ from hd 2 (by decide) (by decide))
                  have e67 := (hev.inn 67 rfl rfl).trans (show x 67 = _ from hd 21 (by decide) (by decide))
                  clear hd hev
                  go_simp
                  exact hK (.bool false) u (Gr.refl _) hJ rfl
                | m + 23 => intro o ho; simp at ho
              · intro x u1 hgu1 hall
                have hy46 : x 46 = _ := hall 0 (by decide)
                have hy47 : x 47 = _ := hall 1 (by decide)
                have hy48 : x 48 = _ := hall 2 (by decide)
                have hy49 : x 49 = _ := hall 3 (by decide)
                have hy50 : x 50 = _ := hall 4 (by decide)
                have hy51 : x 51 = _ := hall 5 (by decide)
                have hy52 : x 52 = _ := hall 6 (by decide)
                have hy53 : x 53 = _ := hall 7 (by decide)
                have hy54 : x 54 = _ := hall 8 (by decide)
                have hy55 : x 55 = _ := hall 9 (by decide)
                have hy56 : x 56 = _ := hall 10 (by decide)
                have hy57 : x 57 = _ := hall 11 (by decide)
                have hy58 : x 58 = _ := hall 12 (by decide)
                have hy59 : x 59 = _ := hall 13 (by decide)
                have hy60 : x 60 = _ := hall 14 (by decide)
                have hy61 : x 61 = _ := hall 15 (by decide)
                have hy62 : x 62 = _ := hall 16 (by decide)
                have hy63 : x 63 = _ := hall 17 (by decide)
                have hy64 : x 64 = _ := hall 18 (by decide)
                have hy65 : x 65 = _ := hall 19 (by decide)
                have hy66 : x 66 = _ := hall 20 (by decide)
                have hy67 : x 67 = _ := hall 21 (by decide)
                have hy68 : x 68 = _ := hall 22 (by decide)
                clear hall
                simp [frame, fill, hy46, hy47, hy48, hy49, hy50, hy51, hy52, hy53, hy54, hy55, hy56, hy57, hy58, hy59, hy60, hy61, hy62, hy63, hy64, hy65, hy66, hy67, hy68]
                clear hy46 hy47 hy48 hy49 hy50 hy51 hy52 hy53 hy54 hy55 hy56 hy57 hy58 hy59 hy60 hy61 hy62 hy63 hy64 hy65 hy66 hy67 hy68
                go_wp2
                replace a0 := hgu1.cell a0
                replace a1 := hgu1.cell a1
                replace b0 := hgu1.cell b0
                replace b1 := hgu1.cell b1
                replace d0 := hgu1.cell d0
                replace d1 := hgu1.cell d1
                replace p0 := hgu1.cell p0
                replace p1 := hgu1.cell p1
                refine wp_region_F [69, 70, 71, 72, 73, 74, 75, 76, 77, 78, 79, 80, 81, 82] [[0], [1, 0], [2], [3, 2, 1, 0], [4], [5, 4, 3, 2, 1, 0], [6], [7, 6, 5, 4, 3, 2, 1, 0], [8], [9, 8, 7, 6, 5, 4, 3, 2, 1, 0], [10], [11, 10, 9, 8, 7, 6, 5, 4, 3, 2, 1, 0], [12, 11, 10, 9, 8, 7, 6, 5, 4, 3, 2, 1, 0], [13, 12, 11, 10, 9, 8, 7, 6, 5, 4, 3, 2, 1, 0]] (fun _ uu => Gr u1 uu) (fun _ _ a b => Gr a b) (fun i x _ => near16 x1 y1 x2 y2 px py i x) (by kernel_rfl) (by kernel_rfl) (by kernel_rfl) ((Gr.refl _).drew) ?_ (fun _ _ _ _ _ _ _ h _ => h) ?_ ?_
                · intro i x x' u hk hv
                  match i, hk, hv with
                  | 0, hk, hv => exact (show x' 69 = x 69 from (hk 0 (by decide)).symm).trans hv
                  | 1, hk, hv => exact (show x' 70 = x 70 from (hk 1 (by decide)).symm).trans hv
                  | 2, hk, hv => exact (show x' 71 = x 71 from (hk 2 (by decide)).symm).trans hv
                  | 3, hk, hv => exact (show x' 72 = x 72 from (hk 3 (by decide)).symm).trans hv
                  | 4, hk, hv => exact (show x' 73 = x 73 from (hk 4 (by decide)).symm).trans hv
                  | 5, hk, hv => exact (show x' 74 = x 74 from (hk 5 (by decide)).symm).trans hv
                  | 6, hk, hv => exact (show x' 75 = x 75 from (hk 6 (by decide)).symm).trans hv
                  | 7, hk, hv => exact (show x' 76 = x 76 from (hk 7 (by decide)).symm).trans hv
                  | 8, hk, hv => exact (show x' 77 = x 77 from (hk 8 (by decide)).symm).trans hv
                  | 9, hk, hv => exact (show x' 78 = x 78 from (hk 9 (by decide)).symm).trans hv
                  | 10, hk, hv => exact (show x' 79 = x 79 from (hk 10 (by decide)).symm).trans hv
                  | 11, hk, hv => exact (show x' 80 = x 80 from (hk 11 (by decide)).symm).trans hv
                  | 12, hk, hv => exact (show x' 81 = x 81 from (hk 12 (by decide)).symm).trans hv
                  | 13, hk, hv => exact (show x' 82 = x 82 from (hk 13 (by decide)).symm).trans hv
                  | m + 14, _, _ => trivial
                · intro i
                  match i with
                  | 0 =>
                    intro o ho x u hJ hd a hev K hK
                    simp at ho; subst ho
                    refine wpOp_of rfl rfl ?_
                    have e5 := hev.out 5 _ rfl rfl
                    clear hd hev
                    have k0 := hJ.cell b0
                    have k1 := hJ.cell b1
                    go_simp
                    exact hK (.agg #[.int .i64 x1, .int .i64 y1]) u (Gr.refl _) hJ rfl
                  | 1 =>
                    intro o ho x u hJ hd a hev K hK
                    simp at ho; subst ho
                    refine wpOp_of rfl rfl ?_
                    have e69 := (hev.inn 69 rfl rfl).trans (show x 69 = _ from hd 0 (by decide) (by decide))
                    clear hd hev
                    go_simp
                    refine (to_any _ _ _).mono ?_
                    rintro e w4 ⟨rfl, hb1⟩
                    exact hK (.agg #[.int .i64 x1, .int .i64 y1]) w4 hb1 (hJ.trans hb1) rfl
                  | 2 =>
                    intro o ho x u hJ hd a hev K hK
                    simp at ho; subst ho
                    refine wpOp_of rfl rfl ?_
                    have e6 := hev.out 6 _ rfl rfl
                    clear hd hev
                    have k0 := hJ.cell d0
                    have k1 := hJ.cell d1
                    go_simp
                    exact hK (.agg #[.int .i64 x2, .int .i64 y2]) u (Gr.refl _) hJ rfl
                  | 3 =>
                    intro o ho x u hJ hd a hev K hK
                    simp at ho; subst ho
                    refine wpOp_of rfl rfl ?_
                    have e71 := (hev.inn 71 rfl rfl).trans (show x 71 = _ from hd 2 (by decide) (by decide))
                    clear hd hev
                    go_simp
                    refine (to_any _ _ _).mono ?_
                    rintro e w4 ⟨rfl, hb1⟩
                    exact hK (.agg #[.int .i64 x2, .int .i64 y2]) w4 hb1 (hJ.trans hb1) rfl
                  | 4 =>
                    intro o ho x u hJ hd a hev K hK
                    simp at ho; subst ho
                    refine wpOp_of rfl rfl ?_
                    have e14 := hev.out 14 _ rfl rfl
                    clear hd hev
                    have k0 := hJ.cell p0
                    have k1 := hJ.cell p1
                    go_simp
                    exact hK (.agg #[.int .i64 px, .int .i64 py]) u (Gr.refl _) hJ rfl
                  | 5 =>
                    intro o ho x u hJ hd a hev K hK
                    simp at ho; subst ho
                    refine wpOp_of rfl rfl ?_
                    have e70 := (hev.inn 70 rfl rfl).trans (show x 70 = _ from hd 1 (by decide) (by decide))
                    have e72 := (hev.inn 72 rfl rfl).trans (show x 72 = _ from hd 3 (by decide) (by decide))
                    have e73 := (hev.inn 73 rfl rfl).trans (show x 73 = _ from hd 4 (by decide) (by decide))
                    clear hd hev
                    go_simp
                    refine (side_any _ _ _ _ _ _ _).mono ?_
                    rintro e w4 ⟨rfl, hb1⟩
                    exact hK (.int .i64 (sideP x1 y1 x2 y2 px py)) w4 hb1 (hJ.trans hb1) rfl
                  | 6 =>
                    intro o ho x u hJ hd a hev K hK
                    simp at ho; subst ho
                    refine wpOp_of rfl rfl ?_
                    have e6 := hev.out 6 _ rfl rfl
                    clear hd hev
                    have k0 := hJ.cell d0
                    have k1 := hJ.cell d1
                    go_simp
                    exact hK (.agg #[.int .i64 x2, .int .i64 y2]) u (Gr.refl _) hJ rfl
                  | 7 =>
                    intro o ho x u hJ hd a hev K hK
                    simp at ho; subst ho
                    refine wpOp_of rfl rfl ?_
                    have e75 := (hev.inn 75 rfl rfl).trans (show x 75 = _ from hd 6 (by decide) (by decide))
                    clear hd hev
                    go_simp
                    refine (to_any _ _ _).mono ?_
                    rintro e w4 ⟨rfl, hb1⟩
                    exact hK (.agg #[.int .i64 x2, .int .i64 y2]) w4 hb1 (hJ.trans hb1) rfl
                  | 8 =>
                    intro o ho x u hJ hd a hev K hK
                    simp at ho; subst ho
                    refine wpOp_of rfl rfl ?_
                    have e5 := hev.out 5 _ rfl rfl
                    clear hd hev
                    have k0 := hJ.cell b0
                    have k1 := hJ.cell b1
                    go_simp
                    exact hK (.agg #[.int .i64 x1, .int .i64 y1]) u (Gr.refl _) hJ rfl
                  | 9 =>
                    intro o ho x u hJ hd a hev K hK
                    simp at ho; subst ho
                    refine wpOp_of rfl rfl ?_
                    have e77 := (hev.inn 77 rfl rfl).trans (show x 77 = _ from hd 8 (by decide) (by decide))
                    clear hd hev
                    go_simp
                    refine (to_any _ _ _).mono ?_
                    rintro e w4 ⟨rfl, hb1⟩
                    exact hK (.agg #[.int .i64 x1, .int .i64 y1]) w4 hb1 (hJ.trans hb1) rfl
                  | 10 =>
                    intro o ho x u hJ hd a hev K hK
                    simp at ho; subst ho
                    refine wpOp_of rfl rfl ?_
                    have e14 := hev.out 14 _ rfl rfl
                    clear hd hev
                    have k0 := hJ.cell p0
                    have k1 := hJ.cell p1
                    go_simp
                    exact hK (.agg #[.int .i64 px, .int .i64 py]) u (Gr.refl _) hJ rfl
                  | 11 =>
                    intro o ho x u hJ hd a hev K hK
                    simp at ho; subst ho
                    refine wpOp_of rfl rfl ?_
                    have e76 := (hev.inn 76 rfl rfl).trans (show x 76 = _ from hd 7 (by decide) (by decide))
                    have e78 := (hev.inn 78 rfl rfl).trans (show x 78 = _ from hd 9 (by decide) (by decide))
                    have e79 := (hev.inn 79 rfl rfl).trans (show x 79 = _ from hd 10 (by decide) (by decide))
                    clear hd hev
                    go_simp
                    refine (side_neg _ _ _ _ _ _ _).mono ?_
                    rintro e w4 ⟨rfl, hb1⟩
                    exact hK (.int .i64 (-sideP x1 y1 x2 y2 px py)) w4 hb1 (hJ.trans hb1) rfl
                  | 12 =>
                    intro o ho x u hJ hd a hev K hK
                    simp at ho; subst ho
                    refine wpOp_of rfl rfl ?_
                    have e80 := (hev.inn 80 rfl rfl).trans (show x 80 = _ from hd 11 (by decide) (by decide))
                    clear hd hev
                    obtain ⟨z1, z2⟩ := side_small x1 y1 x2 y2 px py
                    have hwr : IntKind.i64.wrap (sideP x1 y1 x2 y2 px py) = sideP x1 y1 x2 y2 px py := IntWalk.i64_in _ (by omega)
                    go_simp
                    exact hK (.int .i64 (sideP x1 y1 x2 y2 px py)) u (Gr.refl _) hJ rfl
                  | 13 =>
                    intro o ho x u hJ hd a hev K hK
                    simp at ho; subst ho
                    refine wpOp_of rfl rfl ?_
                    have e74 := (hev.inn 74 rfl rfl).trans (show x 74 = _ from hd 5 (by decide) (by decide))
                    have e81 := (hev.inn 81 rfl rfl).trans (show x 81 = _ from hd 12 (by decide) (by decide))
                    clear hd hev
                    go_simp
                    exact hK (.bool false) u (Gr.refl _) hJ rfl
                  | m + 14 => intro o ho; simp at ho
                · intro x u2 hgu2 hall
                  have hy69 : x 69 = _ := hall 0 (by decide)
                  have hy70 : x 70 = _ := hall 1 (by decide)
                  have hy71 : x 71 = _ := hall 2 (by decide)
                  have hy72 : x 72 = _ := hall 3 (by decide)
                  have hy73 : x 73 = _ := hall 4 (by decide)
                  have hy74 : x 74 = _ := hall 5 (by decide)
                  have hy75 : x 75 = _ := hall 6 (by decide)
                  have hy76 : x 76 = _ := hall 7 (by decide)
                  have hy77 : x 77 = _ := hall 8 (by decide)
                  have hy78 : x 78 = _ := hall 9 (by decide)
                  have hy79 : x 79 = _ := hall 10 (by decide)
                  have hy80 : x 80 = _ := hall 11 (by decide)
                  have hy81 : x 81 = _ := hall 12 (by decide)
                  have hy82 : x 82 = _ := hall 13 (by decide)
                  clear hall
                  simp [frame, fill, hy69, hy70, hy71, hy72, hy73, hy74, hy75, hy76, hy77, hy78, hy79, hy80, hy81, hy82]
                  clear hy69 hy70 hy71 hy72 hy73 hy74 hy75 hy76 hy77 hy78 hy79 hy80 hy81 hy82
                  go_wp2
                  go_roundw
                  case rel => exact ⟨k + 1, by omega, by go_num, Hw5.out.trans (hgu.trans (hgu1.trans hgu2))⟩
                  case measure => simp [intOf]; omega
        · obtain rfl : n = k := by omega
          go_wp2_with fail
          refine (awake_any _).mono ?_
          rintro e w3 ⟨rfl, hg3⟩
          go_wp2
          go_ret
          exact ⟨rfl, HW3.out.trans (HG.out.trans (hg.trans hg3))⟩

end Go.Proofs.Ytiidgmlmfjlaiaa
