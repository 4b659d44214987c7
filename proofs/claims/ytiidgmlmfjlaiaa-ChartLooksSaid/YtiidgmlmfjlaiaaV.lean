/-
  Walks: the law ChartLooks.
-/
import Derived.Test.YtiidgmlmfjlaiaaS
import Derived.Test.YtiidgmlmfjlaiaaU
import Derived.Test.YtiidgmlmfjlaiaaRegF
import Derived.Test.YtiidgmlmfjlaiaaT
import Derived.Test.YtiidgmlmfjlaiaaL
import Derived.Test.YtiidgmlmfjlaiaaE
import Derived.Test.YtiidgmlmfjlaiaaG
namespace Go.Proofs.Ytiidgmlmfjlaiaa
open Go.RowKit Fl Rg

def looks7 (x0 y0 x1 y1 x2 y2 : Int) (A A' : Option Addr) (n c c' : Nat) (l : List (Int × Int)) (i : Nat) (x : Nat → Value) : Prop :=
  match i with
  | 0 => x 24 = .bool true
  | 1 => x 25 = .bool true
  | 2 => x 26 = .agg #[.int .i64 x0, .int .i64 y0]
  | 3 => x 27 = .agg #[.int .i64 x0, .int .i64 y0]
  | 4 => x 28 = .agg #[.int .i64 x1, .int .i64 y1]
  | 5 => x 29 = .agg #[.int .i64 x1, .int .i64 y1]
  | 6 => x 30 = .int .i64 (farP x0 y0 x1 y1)
  | 7 => x 31 = .agg #[.int .i64 x0, .int .i64 y0]
  | 8 => x 32 = .agg #[.int .i64 x1, .int .i64 y1]
  | 9 => x 33 = .int .i64 (farP x0 y0 x1 y1)
  | 10 => x 34 = .bool true
  | 11 => x 35 = .bool true
  | 12 => x 36 = .bool true
  | 13 => x 37 = .agg #[.int .i64 x0, .int .i64 y0]
  | 14 => x 38 = .agg #[.int .i64 x0, .int .i64 y0]
  | 15 => x 39 = (.slice A' n c')
  | 16 => x 40 = .int .i64 (nearP x0 y0 l)
  | 17 => x 41 = .agg #[.int .i64 x0, .int .i64 y0]
  | 18 => x 42 = (.slice A n c)
  | 19 => x 43 = .int .i64 (nearP x0 y0 l)
  | 20 => x 44 = .bool true
  | 21 => x 45 = .bool true
  | 22 => x 46 = .bool true
  | 23 => x 47 = .agg #[.int .i64 x0, .int .i64 y0]
  | 24 => x 48 = .agg #[.int .i64 x0, .int .i64 y0]
  | 25 => x 49 = .agg #[.int .i64 x1, .int .i64 y1]
  | 26 => x 50 = .agg #[.int .i64 x1, .int .i64 y1]
  | 27 => x 51 = .agg #[.int .i64 x2, .int .i64 y2]
  | 28 => x 52 = .agg #[.int .i64 x2, .int .i64 y2]
  | 29 => x 53 = .int .i64 (sideP x0 y0 x1 y1 x2 y2)
  | 30 => x 54 = .agg #[.int .i64 x0, .int .i64 y0]
  | 31 => x 55 = .agg #[.int .i64 x1, .int .i64 y1]
  | 32 => x 56 = .agg #[.int .i64 x2, .int .i64 y2]
  | 33 => x 57 = .int .i64 (sideP x0 y0 x1 y1 x2 y2)
  | 34 => x 58 = .bool true
  | 35 => x 59 = .bool true
  | 36 => x 8 = .bool true
  | _ => True

set_option maxHeartbeats 32000000 in
set_option maxRecDepth 100000 in
theorem chartLooks_walk (x0 y0 x1 y1 x2 y2 : Int) (l : List (Int × Int)) (n c : Nat) (A : Option Addr) (w : World) (hn : l.length = n) (hmax : n ≤ maxLen) (h16 : n * 16 ≤ 140737488355328) (hr : Rd w A (pairCells l)) :
    Calls Try.prog 7 #[.agg #[.int .i64 x0, .int .i64 y0], .agg #[.int .i64 x1, .int .i64 y1], .agg #[.int .i64 x2, .int .i64 y2], .slice A n c] w fun e w' => e = .returned (.bool true) ∧ Gr w w' := by
  have Hn := Lib.hid hn
  have Hmax := Lib.hid (show n ≤ 9223372036854775807 by unfold maxLen at hmax; omega)
  have H16 := Lib.hid h16
  obtain ⟨W3, hW⟩ : ∃ W3, W3 = ((w.alloc (.cells #[.int .i64 x0, .int .i64 y0] 29)).alloc (.cells #[.int .i64 x1, .int .i64 y1] 29)).alloc (.cells #[.int .i64 x2, .int .i64 y2] 29) := ⟨_, rfl⟩
  have hW3 : Gr w W3 := by rw [hW]; exact (((Gr.refl w).alloc _).alloc _).alloc _
  have Hr := Lib.hid (hr.gr hW3)
  have hs : W3.heap.size = w.heap.size + 3 := by rw [hW]; simp
  have B0 : Blk W3 w.heap.size 29 #[.int .i64 x0, .int .i64 y0] := by rw [hW]; exact ((Blk.new w _ _).alloc _).alloc _
  have B1 : Blk W3 (w.heap.size + 1) 29 #[.int .i64 x1, .int .i64 y1] := by
    have h := (Blk.new (w.alloc (.cells #[.int .i64 x0, .int .i64 y0] 29)) 29 #[.int .i64 x1, .int .i64 y1]).alloc (.cells #[.int .i64 x2, .int .i64 y2] 29)
    rw [hW]; simpa using h
  have B2 : Blk W3 (w.heap.size + 2) 29 #[.int .i64 x2, .int .i64 y2] := by
    have h := Blk.new ((w.alloc (.cells #[.int .i64 x0, .int .i64 y0] 29)).alloc (.cells #[.int .i64 x1, .int .i64 y1] 29)) 29 #[.int .i64 x2, .int .i64 y2]
    rw [hW]; simpa using h
  have HB0 := Lib.hid B0
  have HB1 := Lib.hid B1
  have HB2 := Lib.hid B2
  have Hs := Lib.hid hs
  clear hn hr hmax h16 B0 B1 B2 hs
  obtain ⟨i0, hi, hz, hsz, hby⟩ := spot_info
  have Hi := Lib.hid hi
  have Hz := Lib.hid hz
  have Hsz := Lib.hid hsz
  have Hby := Lib.hid hby
  clear hi hz hsz hby
  have HW3 := Lib.hid hW3
  clear hW3
  go_enter Try.func7, Try.ntmps7
  go_wp2
  rw [← hW]
  clear hW
  go_loopw [9, 14] (fun v i wr => ∃ k : Nat, k ≤ n ∧ i = .int .i64 k ∧ Hid (wr.ownsRow W3.heap.size 23 2 v k (pairCells (l.take k))) ∧ Gr W3 wr) (fun _ i _ => n - (intOf i).toNat)
  case atStart => exact ⟨0, Nat.zero_le _, rfl, World.ownsRow_nil _ _ _ _, Gr.refl _⟩
  case round =>
    obtain ⟨k, hk, rfl, hown, hg⟩ := hrel
    by_cases hlt : k < n
    · obtain ⟨b, o, rfl, c0, c1⟩ := (Hr.out.gr hg).pair (k := k) (by rw [Hn.out]; exact hlt)
      obtain ⟨px, hpx⟩ : ∃ z, z = (l.getD k (0, 0)).1 := ⟨_, rfl⟩
      obtain ⟨py, hpy⟩ : ∃ z, z = (l.getD k (0, 0)).2 := ⟨_, rfl⟩
      rw [← hpx] at c0
      rw [← hpy] at c1
      have Hpx := Lib.hid hpx
      have Hpy := Lib.hid hpy
      clear hpx hpy
      go_wp2_with fail
      refine (to_any _ _ _).mono ?_
      rintro e w1 ⟨rfl, hg1⟩
      have hown1 := Lib.hid (own_gr hown.out (((Gr.refl wr).alloc _).trans hg1))
      have hg2 := (hg.alloc _).trans hg1
      clear hg1 c0 c1 hg hown
      go_wp2_with (at_builtin; refine wpList_append_own _ rfl _ _ 45 rfl W3.heap.size 23 i0 (.agg #[.int .i64 0, .int .i64 0]) 2 16 Try.underlying45 Hi.out Hz.out Hsz.out Hby.out rfl (by decide) _ _ _ rfl (hown1.out.alloc _) ⟨w1.heap.size, 0, none⟩ 1 1 [.int .i64 px, .int .i64 py] rfl rfl ?c1 ?c2 ?c3 ?c4 ?c5 ?_)
      case c1 =>
        intro j u hj
        match j, hj with
        | 0, hj => simp at hj; subst hj; simp [Addr.add]
        | 1, hj => simp at hj; subst hj; simp [Addr.add]
      case c2 => intro u hu; simp at hu; rcases hu with rfl | rfl <;> rfl
      case c3 => have := Hmax.out; unfold maxLen; omega
      case c4 => have := H16.out; omega
      case c5 => have := hg2.size; simp; omega
      intro v' w2 hown2 hgrow _
      rw [Hpx.out, Hpy.out] at hown2
      have hnx := looks_next (k := k) (by rw [Hn.out]; exact hlt) (hg2.alloc _) (hown1.out.alloc _) hgrow hown2
      have hnx := Lib.hid hnx
      have hkm : (k : Int) + 1 ≤ 9223372036854775807 := by have := Hmax.out; omega
      clear hown2 hgrow
      go_wp2
      go_roundw
      case rel => exact ⟨k + 1, by omega, by go_num, Lib.hid hnx.out.1, hnx.out.2⟩
      case measure => simp [intOf]; omega
    · obtain rfl : n = k := by omega
      have ho := hown.out
      rw [List.take_of_length_le (by rw [Hn.out]; exact Nat.le_refl _)] at ho
      obtain ⟨A', c', rfl, hrd⟩ := own_read ho
      have Hrd := Lib.hid hrd
      clear hrd ho hown
      obtain ⟨a0, a1, _, _, _⟩ := (HB0.out.gr hg).two
      obtain ⟨b0, b1, _, _, _⟩ := (HB1.out.gr hg).two
      obtain ⟨d0, d1, _, _, _⟩ := (HB2.out.gr hg).two
      have Hr := Lib.hid (Hr.out.gr hg)
      go_wp2
      refine wp_region_F [24, 25, 26, 27, 28, 29, 30, 31, 32, 33, 34, 35, 36, 37, 38, 39, 40, 41, 42, 43, 44, 45, 46, 47, 48, 49, 50, 51, 52, 53, 54, 55, 56, 57, 58, 59, 8] [[0], [1, 0], [2, 1, 0], [3, 2, 1, 0], [4, 1, 0], [5, 4, 3, 2, 1, 0], [6, 5, 4, 3, 2, 1, 0], [7, 1, 0], [8, 1, 0], [9, 8, 7, 6, 5, 4, 3, 2, 1, 0], [10, 9, 8, 7, 6, 5, 4, 3, 2, 1, 0], [11, 10, 9, 8, 7, 6, 5, 4, 3, 2, 1, 0], [12, 11, 10, 9, 8, 7, 6, 5, 4, 3, 2, 1, 0], [13, 12, 11, 10, 9, 8, 7, 6, 5, 4, 3, 2, 1, 0], [14, 13, 12, 11, 10, 9, 8, 7, 6, 5, 4, 3, 2, 1, 0], [15, 12, 11, 10, 9, 8, 7, 6, 5, 4, 3, 2, 1, 0], [16, 15, 14, 13, 12, 11, 10, 9, 8, 7, 6, 5, 4, 3, 2, 1, 0], [17, 12, 11, 10, 9, 8, 7, 6, 5, 4, 3, 2, 1, 0], [18, 12, 11, 10, 9, 8, 7, 6, 5, 4, 3, 2, 1, 0], [19, 18, 17, 16, 15, 14, 13, 12, 11, 10, 9, 8, 7, 6, 5, 4, 3, 2, 1, 0], [20, 19, 18, 17, 16, 15, 14, 13, 12, 11, 10, 9, 8, 7, 6, 5, 4, 3, 2, 1, 0], [21, 20, 19, 18, 17, 16, 15, 14, 13, 12, 11, 10, 9, 8, 7, 6, 5, 4, 3, 2, 1, 0], [22, 21, 20, 19, 18, 17, 16, 15, 14, 13, 12, 11, 10, 9, 8, 7, 6, 5, 4, 3, 2, 1, 0], [23, 22, 21, 20, 19, 18, 17, 16, 15, 14, 13, 12, 11, 10, 9, 8, 7, 6, 5, 4, 3, 2, 1, 0], [24, 23, 22, 21, 20, 19, 18, 17, 16, 15, 14, 13, 12, 11, 10, 9, 8, 7, 6, 5, 4, 3, 2, 1, 0], [25, 22, 21, 20, 19, 18, 17, 16, 15, 14, 13, 12, 11, 10, 9, 8, 7, 6, 5, 4, 3, 2, 1, 0], [26, 25, 24, 23, 22, 21, 20, 19, 18, 17, 16, 15, 14, 13, 12, 11, 10, 9, 8, 7, 6, 5, 4, 3, 2, 1, 0], [27, 22, 21, 20, 19, 18, 17, 16, 15, 14, 13, 12, 11, 10, 9, 8, 7, 6, 5, 4, 3, 2, 1, 0], [28, 27, 26, 25, 24, 23, 22, 21, 20, 19, 18, 17, 16, 15, 14, 13, 12, 11, 10, 9, 8, 7, 6, 5, 4, 3, 2, 1, 0], [29, 28, 27, 26, 25, 24, 23, 22, 21, 20, 19, 18, 17, 16, 15, 14, 13, 12, 11, 10, 9, 8, 7, 6, 5, 4, 3, 2, 1, 0], [30, 22, 21, 20, 19, 18, 17, 16, 15, 14, 13, 12, 11, 10, 9, 8, 7, 6, 5, 4, 3, 2, 1, 0], [31, 22, 21, 20, 19, 18, 17, 16, 15, 14, 13, 12, 11, 10, 9, 8, 7, 6, 5, 4, 3, 2, 1, 0], [32, 22, 21, 20, 19, 18, 17, 16, 15, 14, 13, 12, 11, 10, 9, 8, 7, 6, 5, 4, 3, 2, 1, 0], [33, 32, 31, 30, 29, 28, 27, 26, 25, 24, 23, 22, 21, 20, 19, 18, 17, 16, 15, 14, 13, 12, 11, 10, 9, 8, 7, 6, 5, 4, 3, 2, 1, 0], [34, 33, 32, 31, 30, 29, 28, 27, 26, 25, 24, 23, 22, 21, 20, 19, 18, 17, 16, 15, 14, 13, 12, 11, 10, 9, 8, 7, 6, 5, 4, 3, 2, 1, 0], [35, 34, 33, 32, 31, 30, 29, 28, 27, 26, 25, 24, 23, 22, 21, 20, 19, 18, 17, 16, 15, 14, 13, 12, 11, 10, 9, 8, 7, 6, 5, 4, 3, 2, 1, 0], [36, 35, 34, 33, 32, 31, 30, 29, 28, 27, 26, 25, 24, 23, 22, 21, 20, 19, 18, 17, 16, 15, 14, 13, 12, 11, 10, 9, 8, 7, 6, 5, 4, 3, 2, 1, 0]] (fun _ uu => Gr wr uu) (fun _ _ a b => Gr a b) (fun i x _ => looks7 x0 y0 x1 y1 x2 y2 A A' n c c' l i x) (by kernel_rfl) (by kernel_rfl) (by kernel_rfl) ((Gr.refl _).drew) ?_ (fun _ _ _ _ _ _ _ h _ => h) ?_ ?_
      · intro i x x' u hk hv
        match i, hk, hv with
        | 0, hk, hv => exact (show x' 24 = x 24 from (hk 0 (by decide)).symm).trans hv
        | 1, hk, hv => exact (show x' 25 = x 25 from (hk 1 (by decide)).symm).trans hv
        | 2, hk, hv => exact (show x' 26 = x 26 from (hk 2 (by decide)).symm).trans hv
        | 3, hk, hv => exact (show x' 27 = x 27 from (hk 3 (by decide)).symm).trans hv
        | 4, hk, hv => exact (show x' 28 = x 28 from (hk 4 (by decide)).symm).trans hv
        | 5, hk, hv => exact (show x' 29 = x 29 from (hk 5 (by decide)).symm).trans hv
        | 6, hk, hv => exact (show x' 30 = x 30 from (hk 6 (by decide)).symm).trans hv
        | 7, hk, hv => exact (show x' 31 = x 31 from (hk 7 (by decide)).symm).trans hv
        | 8, hk, hv => exact (show x' 32 = x 32 from (hk 8 (by decide)).symm).trans hv
        | 9, hk, hv => exact (show x' 33 = x 33 from (hk 9 (by decide)).symm).trans hv
        | 10, hk, hv => exact (show x' 34 = x 34 from (hk 10 (by decide)).symm).trans hv
        | 11, hk, hv => exact (show x' 35 = x 35 from (hk 11 (by decide)).symm).trans hv
        | 12, hk, hv => exact (show x' 36 = x 36 from (hk 12 (by decide)).symm).trans hv
        | 13, hk, hv => exact (show x' 37 = x 37 from (hk 13 (by decide)).symm).trans hv
        | 14, hk, hv => exact (show x' 38 = x 38 from (hk 14 (by decide)).symm).trans hv
        | 15, hk, hv => exact (show x' 39 = x 39 from (hk 15 (by decide)).symm).trans hv
        | 16, hk, hv => exact (show x' 40 = x 40 from (hk 16 (by decide)).symm).trans hv
        | 17, hk, hv => exact (show x' 41 = x 41 from (hk 17 (by decide)).symm).trans hv
        | 18, hk, hv => exact (show x' 42 = x 42 from (hk 18 (by decide)).symm).trans hv
        | 19, hk, hv => exact (show x' 43 = x 43 from (hk 19 (by decide)).symm).trans hv
        | 20, hk, hv => exact (show x' 44 = x 44 from (hk 20 (by decide)).symm).trans hv
        | 21, hk, hv => exact (show x' 45 = x 45 from (hk 21 (by decide)).symm).trans hv
        | 22, hk, hv => exact (show x' 46 = x 46 from (hk 22 (by decide)).symm).trans hv
        | 23, hk, hv => exact (show x' 47 = x 47 from (hk 23 (by decide)).symm).trans hv
        | 24, hk, hv => exact (show x' 48 = x 48 from (hk 24 (by decide)).symm).trans hv
        | 25, hk, hv => exact (show x' 49 = x 49 from (hk 25 (by decide)).symm).trans hv
        | 26, hk, hv => exact (show x' 50 = x 50 from (hk 26 (by decide)).symm).trans hv
        | 27, hk, hv => exact (show x' 51 = x 51 from (hk 27 (by decide)).symm).trans hv
        | 28, hk, hv => exact (show x' 52 = x 52 from (hk 28 (by decide)).symm).trans hv
        | 29, hk, hv => exact (show x' 53 = x 53 from (hk 29 (by decide)).symm).trans hv
        | 30, hk, hv => exact (show x' 54 = x 54 from (hk 30 (by decide)).symm).trans hv
        | 31, hk, hv => exact (show x' 55 = x 55 from (hk 31 (by decide)).symm).trans hv
        | 32, hk, hv => exact (show x' 56 = x 56 from (hk 32 (by decide)).symm).trans hv
        | 33, hk, hv => exact (show x' 57 = x 57 from (hk 33 (by decide)).symm).trans hv
        | 34, hk, hv => exact (show x' 58 = x 58 from (hk 34 (by decide)).symm).trans hv
        | 35, hk, hv => exact (show x' 59 = x 59 from (hk 35 (by decide)).symm).trans hv
        | 36, hk, hv => exact (show x' 8 = x 8 from (hk 36 (by decide)).symm).trans hv
        | m + 37, _, _ => trivial
      · intro i
        match i with
        | 0 =>
          intro o ho x u hJ hd a hev K hK
          simp at ho; subst ho
          refine wpOp_of rfl rfl ?_
          clear hd hev
          go_simp
          refine (awake_any _).mono ?_
          rintro e w4 ⟨rfl, hb1⟩
          exact hK (.bool true) w4 hb1 (hJ.trans hb1) rfl
        | 1 =>
          intro o ho x u hJ hd a hev K hK
          simp at ho; subst ho
          refine wpOp_of rfl rfl ?_
          have e24 := (hev.inn 24 rfl rfl).trans (show x 24 = _ from hd 0 (by decide) (by decide))
          clear hd hev
          go_simp
          exact hK (.bool true) u (Gr.refl _) hJ rfl
        | 2 =>
          intro o ho x u hJ hd a hev K hK
          simp at ho; subst ho
          have hgd := (hev.inn 25 rfl rfl).trans (show x 25 = _ from hd 1 (by decide) (by decide))
          refine wpF_want rfl rfl (yield_bool rfl hgd) ?_
          clear hgd
          have e4 := hev.out 4 _ rfl rfl
          clear hd hev
          have k0 := hJ.cell a0
          have k1 := hJ.cell a1
          go_simp
          exact hK (.agg #[.int .i64 x0, .int .i64 y0]) u (Gr.refl _) hJ rfl
        | 3 =>
          intro o ho x u hJ hd a hev K hK
          simp at ho; subst ho
          have hgd := (hev.inn 25 rfl rfl).trans (show x 25 = _ from hd 1 (by decide) (by decide))
          refine wpF_want rfl rfl (yield_bool rfl hgd) ?_
          clear hgd
          have e26 := (hev.inn 26 rfl rfl).trans (show x 26 = _ from hd 2 (by decide) (by decide))
          clear hd hev
          go_simp
          refine (to_any _ _ _).mono ?_
          rintro e w4 ⟨rfl, hb1⟩
          exact hK (.agg #[.int .i64 x0, .int .i64 y0]) w4 hb1 (hJ.trans hb1) rfl
        | 4 =>
          intro o ho x u hJ hd a hev K hK
          simp at ho; subst ho
          have hgd := (hev.inn 25 rfl rfl).trans (show x 25 = _ from hd 1 (by decide) (by decide))
          refine wpF_want rfl rfl (yield_bool rfl hgd) ?_
          clear hgd
          have e5 := hev.out 5 _ rfl rfl
          clear hd hev
          have k0 := hJ.cell b0
          have k1 := hJ.cell b1
          go_simp
          exact hK (.agg #[.int .i64 x1, .int .i64 y1]) u (Gr.refl _) hJ rfl
        | 5 =>
          intro o ho x u hJ hd a hev K hK
          simp at ho; subst ho
          have hgd := (hev.inn 25 rfl rfl).trans (show x 25 = _ from hd 1 (by decide) (by decide))
          refine wpF_want rfl rfl (yield_bool rfl hgd) ?_
          clear hgd
          have e28 := (hev.inn 28 rfl rfl).trans (show x 28 = _ from hd 4 (by decide) (by decide))
          clear hd hev
          go_simp
          refine (to_any _ _ _).mono ?_
          rintro e w4 ⟨rfl, hb1⟩
          exact hK (.agg #[.int .i64 x1, .int .i64 y1]) w4 hb1 (hJ.trans hb1) rfl
        | 6 =>
          intro o ho x u hJ hd a hev K hK
          simp at ho; subst ho
          have hgd := (hev.inn 25 rfl rfl).trans (show x 25 = _ from hd 1 (by decide) (by decide))
          refine wpF_want rfl rfl (yield_bool rfl hgd) ?_
          clear hgd
          have e27 := (hev.inn 27 rfl rfl).trans (show x 27 = _ from hd 3 (by decide) (by decide))
          have e29 := (hev.inn 29 rfl rfl).trans (show x 29 = _ from hd 5 (by decide) (by decide))
          clear hd hev
          go_simp
          refine (far_any _ _ _ _ _).mono ?_
          rintro e w4 ⟨rfl, hb1⟩
          exact hK (.int .i64 (farP x0 y0 x1 y1)) w4 hb1 (hJ.trans hb1) rfl
        | 7 =>
          intro o ho x u hJ hd a hev K hK
          simp at ho; subst ho
          have hgd := (hev.inn 25 rfl rfl).trans (show x 25 = _ from hd 1 (by decide) (by decide))
          refine wpF_want rfl rfl (yield_bool rfl hgd) ?_
          clear hgd
          have e4 := hev.out 4 _ rfl rfl
          clear hd hev
          have k0 := hJ.cell a0
          have k1 := hJ.cell a1
          go_simp
          exact hK (.agg #[.int .i64 x0, .int .i64 y0]) u (Gr.refl _) hJ rfl
        | 8 =>
          intro o ho x u hJ hd a hev K hK
          simp at ho; subst ho
          have hgd := (hev.inn 25 rfl rfl).trans (show x 25 = _ from hd 1 (by decide) (by decide))
          refine wpF_want rfl rfl (yield_bool rfl hgd) ?_
          clear hgd
          have e5 := hev.out 5 _ rfl rfl
          clear hd hev
          have k0 := hJ.cell b0
          have k1 := hJ.cell b1
          go_simp
          exact hK (.agg #[.int .i64 x1, .int .i64 y1]) u (Gr.refl _) hJ rfl
        | 9 =>
          intro o ho x u hJ hd a hev K hK
          simp at ho; subst ho
          have hgd := (hev.inn 25 rfl rfl).trans (show x 25 = _ from hd 1 (by decide) (by decide))
          refine wpF_want rfl rfl (yield_bool rfl hgd) ?_
          clear hgd
          have e31 := (hev.inn 31 rfl rfl).trans (show x 31 = _ from hd 7 (by decide) (by decide))
          have e32 := (hev.inn 32 rfl rfl).trans (show x 32 = _ from hd 8 (by decide) (by decide))
          clear hd hev
          go_simp
          refine (rfar_any _ _ _ _ _).mono ?_
          rintro e w4 ⟨rfl, hb1⟩
          exact hK (.int .i64 (farP x0 y0 x1 y1)) w4 hb1 (hJ.trans hb1) rfl
        | 10 =>
          intro o ho x u hJ hd a hev K hK
          simp at ho; subst ho
          have hgd := (hev.inn 25 rfl rfl).trans (show x 25 = _ from hd 1 (by decide) (by decide))
          refine wpF_want rfl rfl (yield_bool rfl hgd) ?_
          clear hgd
          have e30 := (hev.inn 30 rfl rfl).trans (show x 30 = _ from hd 6 (by decide) (by decide))
          have e33 := (hev.inn 33 rfl rfl).trans (show x 33 = _ from hd 9 (by decide) (by decide))
          clear hd hev
          go_simp
          exact hK (.bool true) u (Gr.refl _) hJ rfl
        | 11 =>
          intro o ho x u hJ hd a hev K hK
          simp at ho; subst ho
          refine wpOp_of rfl rfl ?_
          have e25 := (hev.inn 25 rfl rfl).trans (show x 25 = _ from hd 1 (by decide) (by decide))
          have e34 := (hev.inn 34 rfl rfl).trans (show x 34 = _ from hd 10 (by decide) (by decide))
          clear hd hev
          go_simp
          exact hK (.bool true) u (Gr.refl _) hJ rfl
        | 12 =>
          intro o ho x u hJ hd a hev K hK
          simp at ho; subst ho
          refine wpOp_of rfl rfl ?_
          have e35 := (hev.inn 35 rfl rfl).trans (show x 35 = _ from hd 11 (by decide) (by decide))
          clear hd hev
          go_simp
          exact hK (.bool true) u (Gr.refl _) hJ rfl
        | 13 =>
          intro o ho x u hJ hd a hev K hK
          simp at ho; subst ho
          have hgd := (hev.inn 36 rfl rfl).trans (show x 36 = _ from hd 12 (by decide) (by decide))
          refine wpF_want rfl rfl (yield_bool rfl hgd) ?_
          clear hgd
          have e4 := hev.out 4 _ rfl rfl
          clear hd hev
          have k0 := hJ.cell a0
          have k1 := hJ.cell a1
          go_simp
          exact hK (.agg #[.int .i64 x0, .int .i64 y0]) u (Gr.refl _) hJ rfl
        | 14 =>
          intro o ho x u hJ hd a hev K hK
          simp at ho; subst ho
          have hgd := (hev.inn 36 rfl rfl).trans (show x 36 = _ from hd 12 (by decide) (by decide))
          refine wpF_want rfl rfl (yield_bool rfl hgd) ?_
          clear hgd
          have e37 := (hev.inn 37 rfl rfl).trans (show x 37 = _ from hd 13 (by decide) (by decide))
          clear hd hev
          go_simp
          refine (to_any _ _ _).mono ?_
          rintro e w4 ⟨rfl, hb1⟩
          exact hK (.agg #[.int .i64 x0, .int .i64 y0]) w4 hb1 (hJ.trans hb1) rfl
        | 15 =>
          intro o ho x u hJ hd a hev K hK
          simp at ho; subst ho
          have hgd := (hev.inn 36 rfl rfl).trans (show x 36 = _ from hd 12 (by decide) (by decide))
          refine wpF_want rfl rfl (yield_bool rfl hgd) ?_
          clear hgd
          have e9 := hev.out 9 _ rfl rfl
          clear hd hev
          go_simp
          exact hK ((.slice A' n c')) u (Gr.refl _) hJ rfl
        | 16 =>
          intro o ho x u hJ hd a hev K hK
          simp at ho; subst ho
          have hgd := (hev.inn 36 rfl rfl).trans (show x 36 = _ from hd 12 (by decide) (by decide))
          refine wpF_want rfl rfl (yield_bool rfl hgd) ?_
          clear hgd
          have e38 := (hev.inn 38 rfl rfl).trans (show x 38 = _ from hd 14 (by decide) (by decide))
          have e39 := (hev.inn 39 rfl rfl).trans (show x 39 = _ from hd 15 (by decide) (by decide))
          clear hd hev
          go_simp
          refine (nearest_any _ _ l _ _ _ _ Hn.out Hmax.out (Hrd.out.gr hJ)).mono ?_
          rintro e w4 ⟨rfl, hb1⟩
          exact hK (.int .i64 (nearP x0 y0 l)) w4 hb1 (hJ.trans hb1) rfl
        | 17 =>
          intro o ho x u hJ hd a hev K hK
          simp at ho; subst ho
          have hgd := (hev.inn 36 rfl rfl).trans (show x 36 = _ from hd 12 (by decide) (by decide))
          refine wpF_want rfl rfl (yield_bool rfl hgd) ?_
          clear hgd
          have e4 := hev.out 4 _ rfl rfl
          clear hd hev
          have k0 := hJ.cell a0
          have k1 := hJ.cell a1
          go_simp
          exact hK (.agg #[.int .i64 x0, .int .i64 y0]) u (Gr.refl _) hJ rfl
        | 18 =>
          intro o ho x u hJ hd a hev K hK
          simp at ho; subst ho
          have hgd := (hev.inn 36 rfl rfl).trans (show x 36 = _ from hd 12 (by decide) (by decide))
          refine wpF_want rfl rfl (yield_bool rfl hgd) ?_
          clear hgd
          have e3 := hev.out 3 _ rfl rfl
          clear hd hev
          go_simp
          exact hK ((.slice A n c)) u (Gr.refl _) hJ rfl
        | 19 =>
          intro o ho x u hJ hd a hev K hK
          simp at ho; subst ho
          have hgd := (hev.inn 36 rfl rfl).trans (show x 36 = _ from hd 12 (by decide) (by decide))
          refine wpF_want rfl rfl (yield_bool rfl hgd) ?_
          clear hgd
          have e41 := (hev.inn 41 rfl rfl).trans (show x 41 = _ from hd 17 (by decide) (by decide))
          have e42 := (hev.inn 42 rfl rfl).trans (show x 42 = _ from hd 18 (by decide) (by decide))
          clear hd hev
          go_simp
          refine (rnearest_any _ _ l _ _ _ _ Hn.out Hmax.out (Hr.out.gr hJ)).mono ?_
          rintro e w4 ⟨rfl, hb1⟩
          exact hK (.int .i64 (nearP x0 y0 l)) w4 hb1 (hJ.trans hb1) rfl
        | 20 =>
          intro o ho x u hJ hd a hev K hK
          simp at ho; subst ho
          have hgd := (hev.inn 36 rfl rfl).trans (show x 36 = _ from hd 12 (by decide) (by decide))
          refine wpF_want rfl rfl (yield_bool rfl hgd) ?_
          clear hgd
          have e40 := (hev.inn 40 rfl rfl).trans (show x 40 = _ from hd 16 (by decide) (by decide))
          have e43 := (hev.inn 43 rfl rfl).trans (show x 43 = _ from hd 19 (by decide) (by decide))
          clear hd hev
          go_simp
          exact hK (.bool true) u (Gr.refl _) hJ rfl
        | 21 =>
          intro o ho x u hJ hd a hev K hK
          simp at ho; subst ho
          refine wpOp_of rfl rfl ?_
          have e36 := (hev.inn 36 rfl rfl).trans (show x 36 = _ from hd 12 (by decide) (by decide))
          have e44 := (hev.inn 44 rfl rfl).trans (show x 44 = _ from hd 20 (by decide) (by decide))
          clear hd hev
          go_simp
          exact hK (.bool true) u (Gr.refl _) hJ rfl
        | 22 =>
          intro o ho x u hJ hd a hev K hK
          simp at ho; subst ho
          refine wpOp_of rfl rfl ?_
          have e45 := (hev.inn 45 rfl rfl).trans (show x 45 = _ from hd 21 (by decide) (by decide))
          clear hd hev
          go_simp
          exact hK (.bool true) u (Gr.refl _) hJ rfl
        | 23 =>
          intro o ho x u hJ hd a hev K hK
          simp at ho; subst ho
          have hgd := (hev.inn 46 rfl rfl).trans (show x 46 = _ from hd 22 (by decide) (by decide))
          refine wpF_want rfl rfl (yield_bool rfl hgd) ?_
          clear hgd
          have e4 := hev.out 4 _ rfl rfl
          clear hd hev
          have k0 := hJ.cell a0
          have k1 := hJ.cell a1
          go_simp
          exact hK (.agg #[.int .i64 x0, .int .i64 y0]) u (Gr.refl _) hJ rfl
        | 24 =>
          intro o ho x u hJ hd a hev K hK
          simp at ho; subst ho
          have hgd := (hev.inn 46 rfl rfl).trans (show x 46 = _ from hd 22 (by decide) (by decide))
          refine wpF_want rfl rfl (yield_bool rfl hgd) ?_
          clear hgd
          have e47 := (hev.inn 47 rfl rfl).trans (show x 47 = _ from hd 23 (by decide) (by decide))
          clear hd hev
          go_simp
          refine (to_any _ _ _).mono ?_
          rintro e w4 ⟨rfl, hb1⟩
          exact hK (.agg #[.int .i64 x0, .int .i64 y0]) w4 hb1 (hJ.trans hb1) rfl
        | 25 =>
          intro o ho x u hJ hd a hev K hK
          simp at ho; subst ho
          have hgd := (hev.inn 46 rfl rfl).trans (show x 46 = _ from hd 22 (by decide) (by decide))
          refine wpF_want rfl rfl (yield_bool rfl hgd) ?_
          clear hgd
          have e5 := hev.out 5 _ rfl rfl
          clear hd hev
          have k0 := hJ.cell b0
          have k1 := hJ.cell b1
          go_simp
          exact hK (.agg #[.int .i64 x1, .int .i64 y1]) u (Gr.refl _) hJ rfl
        | 26 =>
          intro o ho x u hJ hd a hev K hK
          simp at ho; subst ho
          have hgd := (hev.inn 46 rfl rfl).trans (show x 46 = _ from hd 22 (by decide) (by decide))
          refine wpF_want rfl rfl (yield_bool rfl hgd) ?_
          clear hgd
          have e49 := (hev.inn 49 rfl rfl).trans (show x 49 = _ from hd 25 (by decide) (by decide))
          clear hd hev
          go_simp
          refine (to_any _ _ _).mono ?_
          rintro e w4 ⟨rfl, hb1⟩
          exact hK (.agg #[.int .i64 x1, .int .i64 y1]) w4 hb1 (hJ.trans hb1) rfl
        | 27 =>
          intro o ho x u hJ hd a hev K hK
          simp at ho; subst ho
          have hgd := (hev.inn 46 rfl rfl).trans (show x 46 = _ from hd 22 (by decide) (by decide))
          refine wpF_want rfl rfl (yield_bool rfl hgd) ?_
          clear hgd
          have e6 := hev.out 6 _ rfl rfl
          clear hd hev
          have k0 := hJ.cell d0
          have k1 := hJ.cell d1
          go_simp
          exact hK (.agg #[.int .i64 x2, .int .i64 y2]) u (Gr.refl _) hJ rfl
        | 28 =>
          intro o ho x u hJ hd a hev K hK
          simp at ho; subst ho
          have hgd := (hev.inn 46 rfl rfl).trans (show x 46 = _ from hd 22 (by decide) (by decide))
          refine wpF_want rfl rfl (yield_bool rfl hgd) ?_
          clear hgd
          have e51 := (hev.inn 51 rfl rfl).trans (show x 51 = _ from hd 27 (by decide) (by decide))
          clear hd hev
          go_simp
          refine (to_any _ _ _).mono ?_
          rintro e w4 ⟨rfl, hb1⟩
          exact hK (.agg #[.int .i64 x2, .int .i64 y2]) w4 hb1 (hJ.trans hb1) rfl
        | 29 =>
          intro o ho x u hJ hd a hev K hK
          simp at ho; subst ho
          have hgd := (hev.inn 46 rfl rfl).trans (show x 46 = _ from hd 22 (by decide) (by decide))
          refine wpF_want rfl rfl (yield_bool rfl hgd) ?_
          clear hgd
          have e48 := (hev.inn 48 rfl rfl).trans (show x 48 = _ from hd 24 (by decide) (by decide))
          have e50 := (hev.inn 50 rfl rfl).trans (show x 50 = _ from hd 26 (by decide) (by decide))
          have e52 := (hev.inn 52 rfl rfl).trans (show x 52 = _ from hd 28 (by decide) (by decide))
          clear hd hev
          go_simp
          refine (side_any _ _ _ _ _ _ _).mono ?_
          rintro e w4 ⟨rfl, hb1⟩
          exact hK (.int .i64 (sideP x0 y0 x1 y1 x2 y2)) w4 hb1 (hJ.trans hb1) rfl
        | 30 =>
          intro o ho x u hJ hd a hev K hK
          simp at ho; subst ho
          have hgd := (hev.inn 46 rfl rfl).trans (show x 46 = _ from hd 22 (by decide) (by decide))
          refine wpF_want rfl rfl (yield_bool rfl hgd) ?_
          clear hgd
          have e4 := hev.out 4 _ rfl rfl
          clear hd hev
          have k0 := hJ.cell a0
          have k1 := hJ.cell a1
          go_simp
          exact hK (.agg #[.int .i64 x0, .int .i64 y0]) u (Gr.refl _) hJ rfl
        | 31 =>
          intro o ho x u hJ hd a hev K hK
          simp at ho; subst ho
          have hgd := (hev.inn 46 rfl rfl).trans (show x 46 = _ from hd 22 (by decide) (by decide))
          refine wpF_want rfl rfl (yield_bool rfl hgd) ?_
          clear hgd
          have e5 := hev.out 5 _ rfl rfl
          clear hd hev
          have k0 := hJ.cell b0
          have k1 := hJ.cell b1
          go_simp
          exact hK (.agg #[.int .i64 x1, .int .i64 y1]) u (Gr.refl _) hJ rfl
        | 32 =>
          intro o ho x u hJ hd a hev K hK
          simp at ho; subst ho
          have hgd := (hev.inn 46 rfl rfl).trans (show x 46 = _ from hd 22 (by decide) (by decide))
          refine wpF_want rfl rfl (yield_bool rfl hgd) ?_
          clear hgd
          have e6 := hev.out 6 _ rfl rfl
          clear hd hev
          have k0 := hJ.cell d0
          have k1 := hJ.cell d1
          go_simp
          exact hK (.agg #[.int .i64 x2, .int .i64 y2]) u (Gr.refl _) hJ rfl
        | 33 =>
          intro o ho x u hJ hd a hev K hK
          simp at ho; subst ho
          have hgd := (hev.inn 46 rfl rfl).trans (show x 46 = _ from hd 22 (by decide) (by decide))
          refine wpF_want rfl rfl (yield_bool rfl hgd) ?_
          clear hgd
          have e54 := (hev.inn 54 rfl rfl).trans (show x 54 = _ from hd 30 (by decide) (by decide))
          have e55 := (hev.inn 55 rfl rfl).trans (show x 55 = _ from hd 31 (by decide) (by decide))
          have e56 := (hev.inn 56 rfl rfl).trans (show x 56 = _ from hd 32 (by decide) (by decide))
          clear hd hev
          go_simp
          refine (rside_any _ _ _ _ _ _ _).mono ?_
          rintro e w4 ⟨rfl, hb1⟩
          exact hK (.int .i64 (sideP x0 y0 x1 y1 x2 y2)) w4 hb1 (hJ.trans hb1) rfl
        | 34 =>
          intro o ho x u hJ hd a hev K hK
          simp at ho; subst ho
          have hgd := (hev.inn 46 rfl rfl).trans (show x 46 = _ from hd 22 (by decide) (by decide))
          refine wpF_want rfl rfl (yield_bool rfl hgd) ?_
          clear hgd
          have e53 := (hev.inn 53 rfl rfl).trans (show x 53 = _ from hd 29 (by decide) (by decide))
          have e57 := (hev.inn 57 rfl rfl).trans (show x 57 = _ from hd 33 (by decide) (by decide))
          clear hd hev
          go_simp
          exact hK (.bool true) u (Gr.refl _) hJ rfl
        | 35 =>
          intro o ho x u hJ hd a hev K hK
          simp at ho; subst ho
          refine wpOp_of rfl rfl ?_
          have e46 := (hev.inn 46 rfl rfl).trans (show x 46 = _ from hd 22 (by decide) (by decide))
          have e58 := (hev.inn 58 rfl rfl).trans (show x 58 = _ from hd 34 (by decide) (by decide))
          clear hd hev
          go_simp
          exact hK (.bool true) u (Gr.refl _) hJ rfl
        | 36 =>
          intro o ho x u hJ hd a hev K hK
          simp at ho; subst ho
          refine wpOp_of rfl rfl ?_
          have e59 := (hev.inn 59 rfl rfl).trans (show x 59 = _ from hd 35 (by decide) (by decide))
          clear hd hev
          go_simp
          exact hK (.bool true) u (Gr.refl _) hJ rfl
        | m + 37 => intro o ho; simp at ho
      · intro x u hgu hall
        have hy24 : x 24 = _ := hall 0 (by decide)
        have hy25 : x 25 = _ := hall 1 (by decide)
        have hy26 : x 26 = _ := hall 2 (by decide)
        have hy27 : x 27 = _ := hall 3 (by decide)
        have hy28 : x 28 = _ := hall 4 (by decide)
        have hy29 : x 29 = _ := hall 5 (by decide)
        have hy30 : x 30 = _ := hall 6 (by decide)
        have hy31 : x 31 = _ := hall 7 (by decide)
        have hy32 : x 32 = _ := hall 8 (by decide)
        have hy33 : x 33 = _ := hall 9 (by decide)
        have hy34 : x 34 = _ := hall 10 (by decide)
        have hy35 : x 35 = _ := hall 11 (by decide)
        have hy36 : x 36 = _ := hall 12 (by decide)
        have hy37 : x 37 = _ := hall 13 (by decide)
        have hy38 : x 38 = _ := hall 14 (by decide)
        have hy39 : x 39 = _ := hall 15 (by decide)
        have hy40 : x 40 = _ := hall 16 (by decide)
        have hy41 : x 41 = _ := hall 17 (by decide)
        have hy42 : x 42 = _ := hall 18 (by decide)
        have hy43 : x 43 = _ := hall 19 (by decide)
        have hy44 : x 44 = _ := hall 20 (by decide)
        have hy45 : x 45 = _ := hall 21 (by decide)
        have hy46 : x 46 = _ := hall 22 (by decide)
        have hy47 : x 47 = _ := hall 23 (by decide)
        have hy48 : x 48 = _ := hall 24 (by decide)
        have hy49 : x 49 = _ := hall 25 (by decide)
        have hy50 : x 50 = _ := hall 26 (by decide)
        have hy51 : x 51 = _ := hall 27 (by decide)
        have hy52 : x 52 = _ := hall 28 (by decide)
        have hy53 : x 53 = _ := hall 29 (by decide)
        have hy54 : x 54 = _ := hall 30 (by decide)
        have hy55 : x 55 = _ := hall 31 (by decide)
        have hy56 : x 56 = _ := hall 32 (by decide)
        have hy57 : x 57 = _ := hall 33 (by decide)
        have hy58 : x 58 = _ := hall 34 (by decide)
        have hy59 : x 59 = _ := hall 35 (by decide)
        have hy8 : x 8 = _ := hall 36 (by decide)
        clear hall
        simp [frame, fill, hy24, hy25, hy26, hy27, hy28, hy29, hy30, hy31, hy32, hy33, hy34, hy35, hy36, hy37, hy38, hy39, hy40, hy41, hy42, hy43, hy44, hy45, hy46, hy47, hy48, hy49, hy50, hy51, hy52, hy53, hy54, hy55, hy56, hy57, hy58, hy59, hy8]
        clear hy24 hy25 hy26 hy27 hy28 hy29 hy30 hy31 hy32 hy33 hy34 hy35 hy36 hy37 hy38 hy39 hy40 hy41 hy42 hy43 hy44 hy45 hy46 hy47 hy48 hy49 hy50 hy51 hy52 hy53 hy54 hy55 hy56 hy57 hy58 hy59 hy8
        go_wp2
        go_ret
        exact ⟨rfl, (HW3.out.trans hg).trans hgu⟩

end Go.Proofs.Ytiidgmlmfjlaiaa
