/-
  Walks: Nearest of the document.
-/
import Derived.Test.YtiidgmlmfjlaiaaS
namespace Go.Proofs.Ytiidgmlmfjlaiaa
open Go.RowKit Fl Rg

theorem near_inv (tx ty : Int) (l : List (Int × Int)) (k : Nat) : (nearTo tx ty l k).1 = -1 ∨ ∃ m : Nat, (nearTo tx ty l k).1 = (m : Int) ∧ m < k ∧ (nearTo tx ty l k).2 = farP tx ty (l.getD m (0, 0)).1 (l.getD m (0, 0)).2 := by
  induction k with
  | zero => exact .inl rfl
  | succ k ih =>
    simp only [nearTo]
    by_cases h : 0 ≤ farP tx ty (l.getD k (0, 0)).1 (l.getD k (0, 0)).2 ∧ ((nearTo tx ty l k).1 < 0 ∨ farP tx ty (l.getD k (0, 0)).1 (l.getD k (0, 0)).2 < (nearTo tx ty l k).2)
    · unfold nearStep
      rw [if_pos h]
      exact .inr ⟨k, rfl, by omega, rfl⟩
    · unfold nearStep
      rw [if_neg h]
      rcases ih with ih | ⟨m, h1, h2, h3⟩
      · exact .inl ih
      · exact .inr ⟨m, h1, by omega, h3⟩

def rnear1 (tx ty px py : Int) (b o n c k : Nat) (i : Nat) (x : Nat → Value) : Prop :=
  match i with
  | 0 => x 13 = .agg #[.int .i64 tx, .int .i64 ty]
  | 1 => x 14 = .slice (some ⟨b, o, none⟩) n c
  | 2 => x 15 = .int .i64 (k : Int)
  | 3 => x 16 = .pointer (some ⟨b, o + k * 2, none⟩)
  | 4 => x 17 = .agg #[.int .i64 px, .int .i64 py]
  | 5 => x 18 = .int .i64 (farP tx ty px py)
  | 6 => x 19 = .bool false
  | 7 => x 20 = .bool false
  | 8 => x 21 = undef
  | 9 => x 22 = undef
  | 10 => x 23 = undef
  | 11 => x 24 = undef
  | 12 => x 25 = undef
  | 13 => x 26 = undef
  | 14 => x 27 = undef
  | 15 => x 28 = undef
  | 16 => x 29 = undef
  | 17 => x 30 = undef
  | 18 => x 31 = undef
  | 19 => x 32 = undef
  | 20 => x 33 = undef
  | 21 => x 34 = undef
  | 22 => x 35 = undef
  | 23 => x 36 = undef
  | 24 => x 37 = undef
  | 25 => x 38 = .bool false
  | _ => True

def rnear2 (tx ty px py : Int) (b o n c k : Nat) (i : Nat) (x : Nat → Value) : Prop :=
  match i with
  | 0 => x 13 = .agg #[.int .i64 tx, .int .i64 ty]
  | 1 => x 14 = .slice (some ⟨b, o, none⟩) n c
  | 2 => x 15 = .int .i64 (k : Int)
  | 3 => x 16 = .pointer (some ⟨b, o + k * 2, none⟩)
  | 4 => x 17 = .agg #[.int .i64 px, .int .i64 py]
  | 5 => x 18 = .int .i64 (farP tx ty px py)
  | 6 => x 19 = .bool true
  | 7 => x 20 = .bool true
  | 8 => x 21 = .int .i64 (-1)
  | 9 => x 22 = .bool true
  | 10 => x 23 = .bool true
  | 11 => x 24 = undef
  | 12 => x 25 = undef
  | 13 => x 26 = undef
  | 14 => x 27 = undef
  | 15 => x 28 = undef
  | 16 => x 29 = undef
  | 17 => x 30 = undef
  | 18 => x 31 = undef
  | 19 => x 32 = undef
  | 20 => x 33 = undef
  | 21 => x 34 = undef
  | 22 => x 35 = undef
  | 23 => x 36 = undef
  | 24 => x 37 = .bool true
  | 25 => x 38 = .bool true
  | _ => True

def rnear3 (tx ty px py mx my : Int) (b o n c k m : Nat) (i : Nat) (x : Nat → Value) : Prop :=
  match i with
  | 0 => x 13 = .agg #[.int .i64 tx, .int .i64 ty]
  | 1 => x 14 = .slice (some ⟨b, o, none⟩) n c
  | 2 => x 15 = .int .i64 (k : Int)
  | 3 => x 16 = .pointer (some ⟨b, o + k * 2, none⟩)
  | 4 => x 17 = .agg #[.int .i64 px, .int .i64 py]
  | 5 => x 18 = .int .i64 (farP tx ty px py)
  | 6 => x 19 = .bool true
  | 7 => x 20 = .bool true
  | 8 => x 21 = .int .i64 (m : Int)
  | 9 => x 22 = .bool false
  | 10 => x 23 = .bool false
  | 11 => x 24 = .agg #[.int .i64 tx, .int .i64 ty]
  | 12 => x 25 = .slice (some ⟨b, o, none⟩) n c
  | 13 => x 26 = .int .i64 (k : Int)
  | 14 => x 27 = .pointer (some ⟨b, o + k * 2, none⟩)
  | 15 => x 28 = .agg #[.int .i64 px, .int .i64 py]
  | 16 => x 29 = .int .i64 (farP tx ty px py)
  | 17 => x 30 = .agg #[.int .i64 tx, .int .i64 ty]
  | 18 => x 31 = .slice (some ⟨b, o, none⟩) n c
  | 19 => x 32 = .int .i64 (m : Int)
  | 20 => x 33 = .pointer (some ⟨b, o + m * 2, none⟩)
  | 21 => x 34 = .agg #[.int .i64 mx, .int .i64 my]
  | 22 => x 35 = .int .i64 (farP tx ty mx my)
  | 23 => x 36 = .bool true
  | 24 => x 37 = .bool true
  | 25 => x 38 = .bool true
  | _ => True

def rnear4 (tx ty px py mx my : Int) (b o n c k m : Nat) (i : Nat) (x : Nat → Value) : Prop :=
  match i with
  | 0 => x 13 = .agg #[.int .i64 tx, .int .i64 ty]
  | 1 => x 14 = .slice (some ⟨b, o, none⟩) n c
  | 2 => x 15 = .int .i64 (k : Int)
  | 3 => x 16 = .pointer (some ⟨b, o + k * 2, none⟩)
  | 4 => x 17 = .agg #[.int .i64 px, .int .i64 py]
  | 5 => x 18 = .int .i64 (farP tx ty px py)
  | 6 => x 19 = .bool true
  | 7 => x 20 = .bool true
  | 8 => x 21 = .int .i64 (m : Int)
  | 9 => x 22 = .bool false
  | 10 => x 23 = .bool false
  | 11 => x 24 = .agg #[.int .i64 tx, .int .i64 ty]
  | 12 => x 25 = .slice (some ⟨b, o, none⟩) n c
  | 13 => x 26 = .int .i64 (k : Int)
  | 14 => x 27 = .pointer (some ⟨b, o + k * 2, none⟩)
  | 15 => x 28 = .agg #[.int .i64 px, .int .i64 py]
  | 16 => x 29 = .int .i64 (farP tx ty px py)
  | 17 => x 30 = .agg #[.int .i64 tx, .int .i64 ty]
  | 18 => x 31 = .slice (some ⟨b, o, none⟩) n c
  | 19 => x 32 = .int .i64 (m : Int)
  | 20 => x 33 = .pointer (some ⟨b, o + m * 2, none⟩)
  | 21 => x 34 = .agg #[.int .i64 mx, .int .i64 my]
  | 22 => x 35 = .int .i64 (farP tx ty mx my)
  | 23 => x 36 = .bool false
  | 24 => x 37 = .bool false
  | 25 => x 38 = .bool false
  | _ => True

set_option maxHeartbeats 16000000 in
set_option maxRecDepth 100000 in
theorem rnearest_any (tx ty : Int) (l : List (Int × Int)) (n c : Nat) (A : Option Addr) (w : World) (hn : l.length = n) (hmax : n ≤ 9223372036854775807) (hr : Rd w A (pairCells l)) :
    Calls Try.prog 25 #[.agg #[.int .i64 tx, .int .i64 ty], .slice A n c] w fun e w' => e = .returned (.int .i64 (nearP tx ty l)) ∧ Gr w w' := by
  have Hn := Lib.hid hn
  have Hr := Lib.hid hr
  clear hn hr
  go_enter Try.func25, Try.ntmps25
  go_wp2
  go_loopw [5, 6] (fun a i wr => ∃ (k : Nat) (B L : Int), k ≤ n ∧ Hid (nearTo tx ty l k = (B, L)) ∧ i = .int .i64 k ∧ a = .int .i64 B ∧ Gr (w.alloc (.cells #[.int .i64 tx, .int .i64 ty] 29)) wr) (fun _ i _ => n - (intOf i).toNat)
  case atStart => exact ⟨0, -1, 0, Nat.zero_le _, rfl, rfl, rfl, Gr.refl _⟩
  case round =>
    obtain ⟨k, B, L, hk, hst, rfl, rfl, hg⟩ := hrel
    by_cases hlt : k < n
    · have hb : Blk wr w.heap.size 29 #[.int .i64 tx, .int .i64 ty] := Blk.made rfl hg
      obtain ⟨a0, a1, _, _, _⟩ := hb.two
      have hrd := (Hr.out.gr ((Gr.refl w).alloc (.cells #[.int .i64 tx, .int .i64 ty] 29))).gr hg
      obtain ⟨b, o, rfl, c0, c1⟩ := hrd.pair (k := k) (by rw [Hn.out]; exact hlt)
      obtain ⟨px, hpx⟩ : ∃ z, z = (l.getD k (0, 0)).1 := ⟨_, rfl⟩
      obtain ⟨py, hpy⟩ : ∃ z, z = (l.getD k (0, 0)).2 := ⟨_, rfl⟩
      rw [← hpx] at c0
      rw [← hpy] at c1
      have hnext := Lib.hid (show nearTo tx ty l (k + 1) = nearStep (farP tx ty px py) k (nearTo tx ty l k) by rw [hpx, hpy]; rfl)
      have hinv := Lib.hid (near_inv tx ty l k)
      have Hrd := Lib.hid hrd
      clear hpx hpy hrd
      by_cases h1 : 0 ≤ farP tx ty px py
      · rcases (by have h := hinv.out; rw [hst.out] at h; exact h : B = -1 ∨ ∃ m : Nat, B = (m : Int) ∧ m < k ∧ L = farP tx ty (l.getD m (0, 0)).1 (l.getD m (0, 0)).2) with rfl | ⟨m, rfl, hm, hL⟩
        · have hs := Lib.hid (near_yes (k := k) (L := L) h1 (.inl (by decide : (-1 : Int) < 0)))
          go_wp2
          refine wp_region_D [13, 14, 15, 16, 17, 18, 19, 20, 21, 22, 23, 24, 25, 26, 27, 28, 29, 30, 31, 32, 33, 34, 35, 36, 37, 38] [[0], [1], [2], [3, 2, 1], [4, 3, 2, 1], [5, 4, 3, 2, 1, 0], [6, 5, 4, 3, 2, 1, 0], [7, 6, 5, 4, 3, 2, 1, 0], [8, 7, 6, 5, 4, 3, 2, 1, 0], [9, 8, 7, 6, 5, 4, 3, 2, 1, 0], [10, 9, 8, 7, 6, 5, 4, 3, 2, 1, 0], [11, 10, 9, 8, 7, 6, 5, 4, 3, 2, 1, 0], [12, 10, 9, 8, 7, 6, 5, 4, 3, 2, 1, 0], [13, 10, 9, 8, 7, 6, 5, 4, 3, 2, 1, 0], [14, 13, 12, 10, 9, 8, 7, 6, 5, 4, 3, 2, 1, 0], [15, 14, 13, 12, 10, 9, 8, 7, 6, 5, 4, 3, 2, 1, 0], [16, 15, 14, 13, 12, 11, 10, 9, 8, 7, 6, 5, 4, 3, 2, 1, 0], [17, 10, 9, 8, 7, 6, 5, 4, 3, 2, 1, 0], [18, 10, 9, 8, 7, 6, 5, 4, 3, 2, 1, 0], [19, 10, 9, 8, 7, 6, 5, 4, 3, 2, 1, 0], [20, 19, 18, 10, 9, 8, 7, 6, 5, 4, 3, 2, 1, 0], [21, 20, 19, 18, 10, 9, 8, 7, 6, 5, 4, 3, 2, 1, 0], [22, 21, 20, 19, 18, 17, 16, 15, 14, 13, 12, 11, 10, 9, 8, 7, 6, 5, 4, 3, 2, 1, 0], [23, 22, 21, 20, 19, 18, 17, 16, 15, 14, 13, 12, 11, 10, 9, 8, 7, 6, 5, 4, 3, 2, 1, 0], [24, 23, 22, 21, 20, 19, 18, 17, 16, 15, 14, 13, 12, 11, 10, 9, 8, 7, 6, 5, 4, 3, 2, 1, 0], [25, 24, 23, 22, 21, 20, 19, 18, 17, 16, 15, 14, 13, 12, 11, 10, 9, 8, 7, 6, 5, 4, 3, 2, 1, 0]] (fun _ u => Gr wr u) (fun _ _ a b => Gr a b) (fun i x _ => rnear2 tx ty px py b o n c k i x) (by kernel_rfl) (by kernel_rfl) (by kernel_rfl) ((Gr.refl _).drew) ?_ (fun _ _ _ _ _ _ _ h _ => h) ?_ ?_
          · intro i x x' u hk hv
            match i, hk, hv with
            | 0, hk, hv =>
              have e : x 13 = x' 13 := hk 0 (by simp)
              exact e.symm.trans hv
            | 1, hk, hv =>
              have e : x 14 = x' 14 := hk 1 (by simp)
              exact e.symm.trans hv
            | 2, hk, hv =>
              have e : x 15 = x' 15 := hk 2 (by simp)
              exact e.symm.trans hv
            | 3, hk, hv =>
              have e : x 16 = x' 16 := hk 3 (by simp)
              exact e.symm.trans hv
            | 4, hk, hv =>
              have e : x 17 = x' 17 := hk 4 (by simp)
              exact e.symm.trans hv
            | 5, hk, hv =>
              have e : x 18 = x' 18 := hk 5 (by simp)
              exact e.symm.trans hv
            | 6, hk, hv =>
              have e : x 19 = x' 19 := hk 6 (by simp)
              exact e.symm.trans hv
            | 7, hk, hv =>
              have e : x 20 = x' 20 := hk 7 (by simp)
              exact e.symm.trans hv
            | 8, hk, hv =>
              have e : x 21 = x' 21 := hk 8 (by simp)
              exact e.symm.trans hv
            | 9, hk, hv =>
              have e : x 22 = x' 22 := hk 9 (by simp)
              exact e.symm.trans hv
            | 10, hk, hv =>
              have e : x 23 = x' 23 := hk 10 (by simp)
              exact e.symm.trans hv
            | 11, hk, hv =>
              have e : x 24 = x' 24 := hk 11 (by simp)
              exact e.symm.trans hv
            | 12, hk, hv =>
              have e : x 25 = x' 25 := hk 12 (by simp)
              exact e.symm.trans hv
            | 13, hk, hv =>
              have e : x 26 = x' 26 := hk 13 (by simp)
              exact e.symm.trans hv
            | 14, hk, hv =>
              have e : x 27 = x' 27 := hk 14 (by simp)
              exact e.symm.trans hv
            | 15, hk, hv =>
              have e : x 28 = x' 28 := hk 15 (by simp)
              exact e.symm.trans hv
            | 16, hk, hv =>
              have e : x 29 = x' 29 := hk 16 (by simp)
              exact e.symm.trans hv
            | 17, hk, hv =>
              have e : x 30 = x' 30 := hk 17 (by simp)
              exact e.symm.trans hv
            | 18, hk, hv =>
              have e : x 31 = x' 31 := hk 18 (by simp)
              exact e.symm.trans hv
            | 19, hk, hv =>
              have e : x 32 = x' 32 := hk 19 (by simp)
              exact e.symm.trans hv
            | 20, hk, hv =>
              have e : x 33 = x' 33 := hk 20 (by simp)
              exact e.symm.trans hv
            | 21, hk, hv =>
              have e : x 34 = x' 34 := hk 21 (by simp)
              exact e.symm.trans hv
            | 22, hk, hv =>
              have e : x 35 = x' 35 := hk 22 (by simp)
              exact e.symm.trans hv
            | 23, hk, hv =>
              have e : x 36 = x' 36 := hk 23 (by simp)
              exact e.symm.trans hv
            | 24, hk, hv =>
              have e : x 37 = x' 37 := hk 24 (by simp)
              exact e.symm.trans hv
            | 25, hk, hv =>
              have e : x 38 = x' 38 := hk 25 (by simp)
              exact e.symm.trans hv
            | m + 26, _, _ => trivial
          · intro i
            match i with
            | 0 =>
              intro o ho x u hJ hd K hK
              simp at ho; subst ho
              refine wpOp_of rfl rfl ?_
              clear hd
              have k0 := hJ.cell a0
              have k1 := hJ.cell a1
              have hK2 := hK (.agg #[.int .i64 tx, .int .i64 ty]) u (Gr.refl _) hJ rfl
              clear hK
              simp [frame, fill, Act.put] at hK2 ⊢
              go_simp
              exact hK2
            | 1 =>
              intro o ho x u hJ hd K hK
              simp at ho; subst ho
              refine wpOp_of rfl rfl ?_
              clear hd
              have hK2 := hK (.slice (some ⟨b, o, none⟩) n c) u (Gr.refl _) hJ rfl
              clear hK
              simp [frame, fill, Act.put] at hK2 ⊢
              go_simp
              exact hK2
            | 2 =>
              intro o ho x u hJ hd K hK
              simp at ho; subst ho
              refine wpOp_of rfl rfl ?_
              clear hd
              have hK2 := hK (.int .i64 (k : Int)) u (Gr.refl _) hJ rfl
              clear hK
              simp [frame, fill, Act.put] at hK2 ⊢
              go_simp
              exact hK2
            | 3 =>
              intro o ho x u hJ hd K hK
              simp at ho; subst ho
              refine wpOp_of rfl rfl ?_
              have hx14 : x 14 = _ := hd 1 (by simp) (by decide)
              have hx15 : x 15 = _ := hd 2 (by simp) (by decide)
              clear hd
              have hK2 := hK (.pointer (some ⟨b, o + k * 2, none⟩)) u (Gr.refl _) hJ rfl
              clear hK
              simp [frame, fill, Act.put, hx14, hx15] at hK2 ⊢
              clear hx14 hx15
              go_simp
              exact hK2
            | 4 =>
              intro o ho x u hJ hd K hK
              simp at ho; subst ho
              refine wpOp_of rfl rfl ?_
              have hx16 : x 16 = _ := hd 3 (by simp) (by decide)
              clear hd
              have k0 := hJ.cell c0
              have k1 := hJ.cell c1
              have hK2 := hK (.agg #[.int .i64 px, .int .i64 py]) u (Gr.refl _) hJ rfl
              clear hK
              simp [frame, fill, Act.put, hx16] at hK2 ⊢
              clear hx16
              go_simp
              exact hK2
            | 5 =>
              intro o ho x u hJ hd K hK
              simp at ho; subst ho
              refine wpOp_of rfl rfl ?_
              have hx13 : x 13 = _ := hd 0 (by simp) (by decide)
              have hx17 : x 17 = _ := hd 4 (by simp) (by decide)
              clear hd
              simp [frame, fill, hx13, hx17]
              go_simp
              refine (rfar_any _ _ _ _ _).mono ?_
              rintro e w4 ⟨rfl, hb1⟩
              have hK2 := hK (.int .i64 (farP tx ty px py)) w4 hb1 (hJ.trans hb1) rfl
              clear hK
              simp [frame, fill, Act.put, hx13, hx17] at hK2
              exact hK2
            | 6 =>
              intro o ho x u hJ hd K hK
              simp at ho; subst ho
              refine wpOp_of rfl rfl ?_
              have hx18 : x 18 = _ := hd 5 (by simp) (by decide)
              clear hd
              have hK2 := hK (.bool true) u (Gr.refl _) hJ rfl
              clear hK
              simp [frame, fill, Act.put, hx18] at hK2 ⊢
              clear hx18
              go_simp
              exact hK2
            | 7 =>
              intro o ho x u hJ hd K hK
              simp at ho; subst ho
              refine wpOp_of rfl rfl ?_
              have hx19 : x 19 = _ := hd 6 (by simp) (by decide)
              clear hd
              have hK2 := hK (.bool true) u (Gr.refl _) hJ rfl
              clear hK
              simp [frame, fill, Act.put, hx19] at hK2 ⊢
              clear hx19
              go_simp
              exact hK2
            | 8 =>
              intro o ho x u hJ hd K hK
              simp at ho; subst ho
              have hgd : x 20 = _ := hd 7 (by simp) (by decide)
              refine wpOp_want rfl ?_ ?_
              · simp [Region.wanted, yielded, frame, fill, hgd]
              clear hgd
              clear hd
              have hK2 := hK (.int .i64 (-1)) u (Gr.refl _) hJ rfl
              clear hK
              simp [frame, fill, Act.put] at hK2 ⊢
              go_simp
              exact hK2
            | 9 =>
              intro o ho x u hJ hd K hK
              simp at ho; subst ho
              have hgd : x 20 = _ := hd 7 (by simp) (by decide)
              refine wpOp_want rfl ?_ ?_
              · simp [Region.wanted, yielded, frame, fill, hgd]
              clear hgd
              have hx21 : x 21 = _ := hd 8 (by simp) (by decide)
              clear hd
              have hK2 := hK (.bool true) u (Gr.refl _) hJ rfl
              clear hK
              simp [frame, fill, Act.put, hx21] at hK2 ⊢
              clear hx21
              go_simp
              exact hK2
            | 10 =>
              intro o ho x u hJ hd K hK
              simp at ho; subst ho
              have hgd : x 20 = _ := hd 7 (by simp) (by decide)
              refine wpOp_want rfl ?_ ?_
              · simp [Region.wanted, yielded, frame, fill, hgd]
              clear hgd
              have hx22 : x 22 = _ := hd 9 (by simp) (by decide)
              clear hd
              have hK2 := hK (.bool true) u (Gr.refl _) hJ rfl
              clear hK
              simp [frame, fill, Act.put, hx22] at hK2 ⊢
              clear hx22
              go_simp
              exact hK2
            | 11 =>
              intro o ho x u hJ hd K hK
              simp at ho; subst ho
              have hgd : x 23 = _ := hd 10 (by simp) (by decide)
              refine wpOp_skip rfl ?_ ?_
              · first | (simp [Region.wanted, yielded, frame, fill, hgd]; done) | (simp [Region.wanted, yielded, frame, fill, hgd]; decide) | (simp [Region.wanted, yielded, frame, fill, hgd]; intro h; exact Option.noConfusion h)
              · exact hK undef u (Gr.refl _) hJ rfl
            | 12 =>
              intro o ho x u hJ hd K hK
              simp at ho; subst ho
              have hgd : x 23 = _ := hd 10 (by simp) (by decide)
              refine wpOp_skip rfl ?_ ?_
              · first | (simp [Region.wanted, yielded, frame, fill, hgd]; done) | (simp [Region.wanted, yielded, frame, fill, hgd]; decide) | (simp [Region.wanted, yielded, frame, fill, hgd]; intro h; exact Option.noConfusion h)
              · exact hK undef u (Gr.refl _) hJ rfl
            | 13 =>
              intro o ho x u hJ hd K hK
              simp at ho; subst ho
              have hgd : x 23 = _ := hd 10 (by simp) (by decide)
              refine wpOp_skip rfl ?_ ?_
              · first | (simp [Region.wanted, yielded, frame, fill, hgd]; done) | (simp [Region.wanted, yielded, frame, fill, hgd]; decide) | (simp [Region.wanted, yielded, frame, fill, hgd]; intro h; exact Option.noConfusion h)
              · exact hK undef u (Gr.refl _) hJ rfl
            | 14 =>
              intro o ho x u hJ hd K hK
              simp at ho; subst ho
              have hgd : x 23 = _ := hd 10 (by simp) (by decide)
              refine wpOp_skip rfl ?_ ?_
              · first | (simp [Region.wanted, yielded, frame, fill, hgd]; done) | (simp [Region.wanted, yielded, frame, fill, hgd]; decide) | (simp [Region.wanted, yielded, frame, fill, hgd]; intro h; exact Option.noConfusion h)
              · exact hK undef u (Gr.refl _) hJ rfl
            | 15 =>
              intro o ho x u hJ hd K hK
              simp at ho; subst ho
              have hgd : x 23 = _ := hd 10 (by simp) (by decide)
              refine wpOp_skip rfl ?_ ?_
              · first | (simp [Region.wanted, yielded, frame, fill, hgd]; done) | (simp [Region.wanted, yielded, frame, fill, hgd]; decide) | (simp [Region.wanted, yielded, frame, fill, hgd]; intro h; exact Option.noConfusion h)
              · exact hK undef u (Gr.refl _) hJ rfl
            | 16 =>
              intro o ho x u hJ hd K hK
              simp at ho; subst ho
              have hgd : x 23 = _ := hd 10 (by simp) (by decide)
              refine wpOp_skip rfl ?_ ?_
              · first | (simp [Region.wanted, yielded, frame, fill, hgd]; done) | (simp [Region.wanted, yielded, frame, fill, hgd]; decide) | (simp [Region.wanted, yielded, frame, fill, hgd]; intro h; exact Option.noConfusion h)
              · exact hK undef u (Gr.refl _) hJ rfl
            | 17 =>
              intro o ho x u hJ hd K hK
              simp at ho; subst ho
              have hgd : x 23 = _ := hd 10 (by simp) (by decide)
              refine wpOp_skip rfl ?_ ?_
              · first | (simp [Region.wanted, yielded, frame, fill, hgd]; done) | (simp [Region.wanted, yielded, frame, fill, hgd]; decide) | (simp [Region.wanted, yielded, frame, fill, hgd]; intro h; exact Option.noConfusion h)
              · exact hK undef u (Gr.refl _) hJ rfl
            | 18 =>
              intro o ho x u hJ hd K hK
              simp at ho; subst ho
              have hgd : x 23 = _ := hd 10 (by simp) (by decide)
              refine wpOp_skip rfl ?_ ?_
              · first | (simp [Region.wanted, yielded, frame, fill, hgd]; done) | (simp [Region.wanted, yielded, frame, fill, hgd]; decide) | (simp [Region.wanted, yielded, frame, fill, hgd]; intro h; exact Option.noConfusion h)
              · exact hK undef u (Gr.refl _) hJ rfl
            | 19 =>
              intro o ho x u hJ hd K hK
              simp at ho; subst ho
              have hgd : x 23 = _ := hd 10 (by simp) (by decide)
              refine wpOp_skip rfl ?_ ?_
              · first | (simp [Region.wanted, yielded, frame, fill, hgd]; done) | (simp [Region.wanted, yielded, frame, fill, hgd]; decide) | (simp [Region.wanted, yielded, frame, fill, hgd]; intro h; exact Option.noConfusion h)
              · exact hK undef u (Gr.refl _) hJ rfl
            | 20 =>
              intro o ho x u hJ hd K hK
              simp at ho; subst ho
              have hgd : x 23 = _ := hd 10 (by simp) (by decide)
              refine wpOp_skip rfl ?_ ?_
              · first | (simp [Region.wanted, yielded, frame, fill, hgd]; done) | (simp [Region.wanted, yielded, frame, fill, hgd]; decide) | (simp [Region.wanted, yielded, frame, fill, hgd]; intro h; exact Option.noConfusion h)
              · exact hK undef u (Gr.refl _) hJ rfl
            | 21 =>
              intro o ho x u hJ hd K hK
              simp at ho; subst ho
              have hgd : x 23 = _ := hd 10 (by simp) (by decide)
              refine wpOp_skip rfl ?_ ?_
              · first | (simp [Region.wanted, yielded, frame, fill, hgd]; done) | (simp [Region.wanted, yielded, frame, fill, hgd]; decide) | (simp [Region.wanted, yielded, frame, fill, hgd]; intro h; exact Option.noConfusion h)
              · exact hK undef u (Gr.refl _) hJ rfl
            | 22 =>
              intro o ho x u hJ hd K hK
              simp at ho; subst ho
              have hgd : x 23 = _ := hd 10 (by simp) (by decide)
              refine wpOp_skip rfl ?_ ?_
              · first | (simp [Region.wanted, yielded, frame, fill, hgd]; done) | (simp [Region.wanted, yielded, frame, fill, hgd]; decide) | (simp [Region.wanted, yielded, frame, fill, hgd]; intro h; exact Option.noConfusion h)
              · exact hK undef u (Gr.refl _) hJ rfl
            | 23 =>
              intro o ho x u hJ hd K hK
              simp at ho; subst ho
              have hgd : x 23 = _ := hd 10 (by simp) (by decide)
              refine wpOp_skip rfl ?_ ?_
              · first | (simp [Region.wanted, yielded, frame, fill, hgd]; done) | (simp [Region.wanted, yielded, frame, fill, hgd]; decide) | (simp [Region.wanted, yielded, frame, fill, hgd]; intro h; exact Option.noConfusion h)
              · exact hK undef u (Gr.refl _) hJ rfl
            | 24 =>
              intro o ho x u hJ hd K hK
              simp at ho; subst ho
              have hgd : x 20 = _ := hd 7 (by simp) (by decide)
              refine wpOp_want rfl ?_ ?_
              · simp [Region.wanted, yielded, frame, fill, hgd]
              clear hgd
              have hx23 : x 23 = _ := hd 10 (by simp) (by decide)
              have hx36 : x 36 = _ := hd 23 (by simp) (by decide)
              clear hd
              have hK2 := hK (.bool true) u (Gr.refl _) hJ rfl
              clear hK
              simp [frame, fill, Act.put, hx23, hx36] at hK2 ⊢
              clear hx23 hx36
              go_simp
              exact hK2
            | 25 =>
              intro o ho x u hJ hd K hK
              simp at ho; subst ho
              refine wpOp_of rfl rfl ?_
              have hx20 : x 20 = _ := hd 7 (by simp) (by decide)
              have hx37 : x 37 = _ := hd 24 (by simp) (by decide)
              clear hd
              have hK2 := hK (.bool true) u (Gr.refl _) hJ rfl
              clear hK
              simp [frame, fill, Act.put, hx20, hx37] at hK2 ⊢
              clear hx20 hx37
              go_simp
              exact hK2
            | m + 26 => intro o ho; simp at ho
          · intro x u hgu hall
            have hy13 : x 13 = _ := hall 0 (by simp)
            have hy14 : x 14 = _ := hall 1 (by simp)
            have hy15 : x 15 = _ := hall 2 (by simp)
            have hy16 : x 16 = _ := hall 3 (by simp)
            have hy17 : x 17 = _ := hall 4 (by simp)
            have hy18 : x 18 = _ := hall 5 (by simp)
            have hy19 : x 19 = _ := hall 6 (by simp)
            have hy20 : x 20 = _ := hall 7 (by simp)
            have hy21 : x 21 = _ := hall 8 (by simp)
            have hy22 : x 22 = _ := hall 9 (by simp)
            have hy23 : x 23 = _ := hall 10 (by simp)
            have hy24 : x 24 = _ := hall 11 (by simp)
            have hy25 : x 25 = _ := hall 12 (by simp)
            have hy26 : x 26 = _ := hall 13 (by simp)
            have hy27 : x 27 = _ := hall 14 (by simp)
            have hy28 : x 28 = _ := hall 15 (by simp)
            have hy29 : x 29 = _ := hall 16 (by simp)
            have hy30 : x 30 = _ := hall 17 (by simp)
            have hy31 : x 31 = _ := hall 18 (by simp)
            have hy32 : x 32 = _ := hall 19 (by simp)
            have hy33 : x 33 = _ := hall 20 (by simp)
            have hy34 : x 34 = _ := hall 21 (by simp)
            have hy35 : x 35 = _ := hall 22 (by simp)
            have hy36 : x 36 = _ := hall 23 (by simp)
            have hy37 : x 37 = _ := hall 24 (by simp)
            have hy38 : x 38 = _ := hall 25 (by simp)
            clear hall
            simp [frame, fill, hy13, hy14, hy15, hy16, hy17, hy18, hy19, hy20, hy21, hy22, hy23, hy24, hy25, hy26, hy27, hy28, hy29, hy30, hy31, hy32, hy33, hy34, hy35, hy36, hy37, hy38]
            clear hy13 hy14 hy15 hy16 hy17 hy18 hy19 hy20 hy21 hy22 hy23 hy24 hy25 hy26 hy27 hy28 hy29 hy30 hy31 hy32 hy33 hy34 hy35 hy36 hy37 hy38
            go_wp2
            go_roundw
            case rel => exact ⟨k + 1, k, farP tx ty px py, by omega, by (show _ = _); rw [hnext.out, hst.out, hs.out], by go_num, rfl, hg.trans hgu⟩
            case measure => simp [intOf]; omega
        · obtain ⟨b', o', e', m0, m1⟩ := Hrd.out.pair (k := m) (by rw [Hn.out]; omega)
          injection e' with e'
          injection e' with e1 e2
          subst e1 e2
          obtain ⟨mx, hmx⟩ : ∃ z, z = (l.getD m (0, 0)).1 := ⟨_, rfl⟩
          obtain ⟨my, hmy⟩ : ∃ z, z = (l.getD m (0, 0)).2 := ⟨_, rfl⟩
          rw [← hmx] at m0 hL
          rw [← hmy] at m1 hL
          subst hL
          clear hmx hmy
          have hmn : m < n := by omega
          have hm0 : ¬ ((m : Int) < 0) := by omega
          by_cases h3 : farP tx ty px py < farP tx ty mx my
          · have hs := Lib.hid (near_yes (k := k) (B := (m : Int)) h1 (.inr h3))
            go_wp2
            refine wp_region_D [13, 14, 15, 16, 17, 18, 19, 20, 21, 22, 23, 24, 25, 26, 27, 28, 29, 30, 31, 32, 33, 34, 35, 36, 37, 38] [[0], [1], [2], [3, 2, 1], [4, 3, 2, 1], [5, 4, 3, 2, 1, 0], [6, 5, 4, 3, 2, 1, 0], [7, 6, 5, 4, 3, 2, 1, 0], [8, 7, 6, 5, 4, 3, 2, 1, 0], [9, 8, 7, 6, 5, 4, 3, 2, 1, 0], [10, 9, 8, 7, 6, 5, 4, 3, 2, 1, 0], [11, 10, 9, 8, 7, 6, 5, 4, 3, 2, 1, 0], [12, 10, 9, 8, 7, 6, 5, 4, 3, 2, 1, 0], [13, 10, 9, 8, 7, 6, 5, 4, 3, 2, 1, 0], [14, 13, 12, 10, 9, 8, 7, 6, 5, 4, 3, 2, 1, 0], [15, 14, 13, 12, 10, 9, 8, 7, 6, 5, 4, 3, 2, 1, 0], [16, 15, 14, 13, 12, 11, 10, 9, 8, 7, 6, 5, 4, 3, 2, 1, 0], [17, 10, 9, 8, 7, 6, 5, 4, 3, 2, 1, 0], [18, 10, 9, 8, 7, 6, 5, 4, 3, 2, 1, 0], [19, 10, 9, 8, 7, 6, 5, 4, 3, 2, 1, 0], [20, 19, 18, 10, 9, 8, 7, 6, 5, 4, 3, 2, 1, 0], [21, 20, 19, 18, 10, 9, 8, 7, 6, 5, 4, 3, 2, 1, 0], [22, 21, 20, 19, 18, 17, 16, 15, 14, 13, 12, 11, 10, 9, 8, 7, 6, 5, 4, 3, 2, 1, 0], [23, 22, 21, 20, 19, 18, 17, 16, 15, 14, 13, 12, 11, 10, 9, 8, 7, 6, 5, 4, 3, 2, 1, 0], [24, 23, 22, 21, 20, 19, 18, 17, 16, 15, 14, 13, 12, 11, 10, 9, 8, 7, 6, 5, 4, 3, 2, 1, 0], [25, 24, 23, 22, 21, 20, 19, 18, 17, 16, 15, 14, 13, 12, 11, 10, 9, 8, 7, 6, 5, 4, 3, 2, 1, 0]] (fun _ u => Gr wr u) (fun _ _ a b => Gr a b) (fun i x _ => rnear3 tx ty px py mx my b o n c k m i x) (by kernel_rfl) (by kernel_rfl) (by kernel_rfl) ((Gr.refl _).drew) ?_ (fun _ _ _ _ _ _ _ h _ => h) ?_ ?_
            · intro i x x' u hk hv
              match i, hk, hv with
              | 0, hk, hv =>
                have e : x 13 = x' 13 := hk 0 (by simp)
                exact e.symm.trans hv
              | 1, hk, hv =>
                have e : x 14 = x' 14 := hk 1 (by simp)
                exact e.symm.trans hv
              | 2, hk, hv =>
                have e : x 15 = x' 15 := hk 2 (by simp)
                exact e.symm.trans hv
              | 3, hk, hv =>
                have e : x 16 = x' 16 := hk 3 (by simp)
                exact e.symm.trans hv
              | 4, hk, hv =>
                have e : x 17 = x' 17 := hk 4 (by simp)
                exact e.symm.trans hv
              | 5, hk, hv =>
                have e : x 18 = x' 18 := hk 5 (by simp)
                exact e.symm.trans hv
              | 6, hk, hv =>
                have e : x 19 = x' 19 := hk 6 (by simp)
                exact e.symm.trans hv
              | 7, hk, hv =>
                have e : x 20 = x' 20 := hk 7 (by simp)
                exact e.symm.trans hv
              | 8, hk, hv =>
                have e : x 21 = x' 21 := hk 8 (by simp)
                exact e.symm.trans hv
              | 9, hk, hv =>
                have e : x 22 = x' 22 := hk 9 (by simp)
                exact e.symm.trans hv
              | 10, hk, hv =>
                have e : x 23 = x' 23 := hk 10 (by simp)
                exact e.symm.trans hv
              | 11, hk, hv =>
                have e : x 24 = x' 24 := hk 11 (by simp)
                exact e.symm.trans hv
              | 12, hk, hv =>
                have e : x 25 = x' 25 := hk 12 (by simp)
                exact e.symm.trans hv
              | 13, hk, hv =>
                have e : x 26 = x' 26 := hk 13 (by simp)
                exact e.symm.trans hv
              | 14, hk, hv =>
                have e : x 27 = x' 27 := hk 14 (by simp)
                exact e.symm.trans hv
              | 15, hk, hv =>
                have e : x 28 = x' 28 := hk 15 (by simp)
                exact e.symm.trans hv
              | 16, hk, hv =>
                have e : x 29 = x' 29 := hk 16 (by simp)
                exact e.symm.trans hv
              | 17, hk, hv =>
                have e : x 30 = x' 30 := hk 17 (by simp)
                exact e.symm.trans hv
              | 18, hk, hv =>
                have e : x 31 = x' 31 := hk 18 (by simp)
                exact e.symm.trans hv
              | 19, hk, hv =>
                have e : x 32 = x' 32 := hk 19 (by simp)
                exact e.symm.trans hv
              | 20, hk, hv =>
                have e : x 33 = x' 33 := hk 20 (by simp)
                exact e.symm.trans hv
              | 21, hk, hv =>
                have e : x 34 = x' 34 := hk 21 (by simp)
                exact e.symm.trans hv
              | 22, hk, hv =>
                have e : x 35 = x' 35 := hk 22 (by simp)
                exact e.symm.trans hv
              | 23, hk, hv =>
                have e : x 36 = x' 36 := hk 23 (by simp)
                exact e.symm.trans hv
              | 24, hk, hv =>
                have e : x 37 = x' 37 := hk 24 (by simp)
                exact e.symm.trans hv
              | 25, hk, hv =>
                have e : x 38 = x' 38 := hk 25 (by simp)
                exact e.symm.trans hv
              | m + 26, _, _ => trivial
            · intro i
              match i with
              | 0 =>
                intro o ho x u hJ hd K hK
                simp at ho; subst ho
                refine wpOp_of rfl rfl ?_
                clear hd
                have k0 := hJ.cell a0
                have k1 := hJ.cell a1
                have hK2 := hK (.agg #[.int .i64 tx, .int .i64 ty]) u (Gr.refl _) hJ rfl
                clear hK
                simp [frame, fill, Act.put] at hK2 ⊢
                go_simp
                exact hK2
              | 1 =>
                intro o ho x u hJ hd K hK
                simp at ho; subst ho
                refine wpOp_of rfl rfl ?_
                clear hd
                have hK2 := hK (.slice (some ⟨b, o, none⟩) n c) u (Gr.refl _) hJ rfl
                clear hK
                simp [frame, fill, Act.put] at hK2 ⊢
                go_simp
                exact hK2
              | 2 =>
                intro o ho x u hJ hd K hK
                simp at ho; subst ho
                refine wpOp_of rfl rfl ?_
                clear hd
                have hK2 := hK (.int .i64 (k : Int)) u (Gr.refl _) hJ rfl
                clear hK
                simp [frame, fill, Act.put] at hK2 ⊢
                go_simp
                exact hK2
              | 3 =>
                intro o ho x u hJ hd K hK
                simp at ho; subst ho
                refine wpOp_of rfl rfl ?_
                have hx14 : x 14 = _ := hd 1 (by simp) (by decide)
                have hx15 : x 15 = _ := hd 2 (by simp) (by decide)
                clear hd
                have hK2 := hK (.pointer (some ⟨b, o + k * 2, none⟩)) u (Gr.refl _) hJ rfl
                clear hK
                simp [frame, fill, Act.put, hx14, hx15] at hK2 ⊢
                clear hx14 hx15
                go_simp
                exact hK2
              | 4 =>
                intro o ho x u hJ hd K hK
                simp at ho; subst ho
                refine wpOp_of rfl rfl ?_
                have hx16 : x 16 = _ := hd 3 (by simp) (by decide)
                clear hd
                have k0 := hJ.cell c0
                have k1 := hJ.cell c1
                have hK2 := hK (.agg #[.int .i64 px, .int .i64 py]) u (Gr.refl _) hJ rfl
                clear hK
                simp [frame, fill, Act.put, hx16] at hK2 ⊢
                clear hx16
                go_simp
                exact hK2
              | 5 =>
                intro o ho x u hJ hd K hK
                simp at ho; subst ho
                refine wpOp_of rfl rfl ?_
                have hx13 : x 13 = _ := hd 0 (by simp) (by decide)
                have hx17 : x 17 = _ := hd 4 (by simp) (by decide)
                clear hd
                simp [frame, fill, hx13, hx17]
                go_simp
                refine (rfar_any _ _ _ _ _).mono ?_
                rintro e w4 ⟨rfl, hb1⟩
                have hK2 := hK (.int .i64 (farP tx ty px py)) w4 hb1 (hJ.trans hb1) rfl
                clear hK
                simp [frame, fill, Act.put, hx13, hx17] at hK2
                exact hK2
              | 6 =>
                intro o ho x u hJ hd K hK
                simp at ho; subst ho
                refine wpOp_of rfl rfl ?_
                have hx18 : x 18 = _ := hd 5 (by simp) (by decide)
                clear hd
                have hK2 := hK (.bool true) u (Gr.refl _) hJ rfl
                clear hK
                simp [frame, fill, Act.put, hx18] at hK2 ⊢
                clear hx18
                go_simp
                exact hK2
              | 7 =>
                intro o ho x u hJ hd K hK
                simp at ho; subst ho
                refine wpOp_of rfl rfl ?_
                have hx19 : x 19 = _ := hd 6 (by simp) (by decide)
                clear hd
                have hK2 := hK (.bool true) u (Gr.refl _) hJ rfl
                clear hK
                simp [frame, fill, Act.put, hx19] at hK2 ⊢
                clear hx19
                go_simp
                exact hK2
              | 8 =>
                intro o ho x u hJ hd K hK
                simp at ho; subst ho
                have hgd : x 20 = _ := hd 7 (by simp) (by decide)
                refine wpOp_want rfl ?_ ?_
                · simp [Region.wanted, yielded, frame, fill, hgd]
                clear hgd
                clear hd
                have hK2 := hK (.int .i64 (m : Int)) u (Gr.refl _) hJ rfl
                clear hK
                simp [frame, fill, Act.put] at hK2 ⊢
                go_simp
                exact hK2
              | 9 =>
                intro o ho x u hJ hd K hK
                simp at ho; subst ho
                have hgd : x 20 = _ := hd 7 (by simp) (by decide)
                refine wpOp_want rfl ?_ ?_
                · simp [Region.wanted, yielded, frame, fill, hgd]
                clear hgd
                have hx21 : x 21 = _ := hd 8 (by simp) (by decide)
                clear hd
                have hK2 := hK (.bool false) u (Gr.refl _) hJ rfl
                clear hK
                simp [frame, fill, Act.put, hx21] at hK2 ⊢
                clear hx21
                go_simp
                exact hK2
              | 10 =>
                intro o ho x u hJ hd K hK
                simp at ho; subst ho
                have hgd : x 20 = _ := hd 7 (by simp) (by decide)
                refine wpOp_want rfl ?_ ?_
                · simp [Region.wanted, yielded, frame, fill, hgd]
                clear hgd
                have hx22 : x 22 = _ := hd 9 (by simp) (by decide)
                clear hd
                have hK2 := hK (.bool false) u (Gr.refl _) hJ rfl
                clear hK
                simp [frame, fill, Act.put, hx22] at hK2 ⊢
                clear hx22
                go_simp
                exact hK2
              | 11 =>
                intro o ho x u hJ hd K hK
                simp at ho; subst ho
                have hgd : x 23 = _ := hd 10 (by simp) (by decide)
                refine wpOp_want rfl ?_ ?_
                · simp [Region.wanted, yielded, frame, fill, hgd]
                clear hgd
                clear hd
                have k0 := hJ.cell a0
                have k1 := hJ.cell a1
                have hK2 := hK (.agg #[.int .i64 tx, .int .i64 ty]) u (Gr.refl _) hJ rfl
                clear hK
                simp [frame, fill, Act.put] at hK2 ⊢
                go_simp
                exact hK2
              | 12 =>
                intro o ho x u hJ hd K hK
                simp at ho; subst ho
                have hgd : x 23 = _ := hd 10 (by simp) (by decide)
                refine wpOp_want rfl ?_ ?_
                · simp [Region.wanted, yielded, frame, fill, hgd]
                clear hgd
                clear hd
                have hK2 := hK (.slice (some ⟨b, o, none⟩) n c) u (Gr.refl _) hJ rfl
                clear hK
                simp [frame, fill, Act.put] at hK2 ⊢
                go_simp
                exact hK2
              | 13 =>
                intro o ho x u hJ hd K hK
                simp at ho; subst ho
                have hgd : x 23 = _ := hd 10 (by simp) (by decide)
                refine wpOp_want rfl ?_ ?_
                · simp [Region.wanted, yielded, frame, fill, hgd]
                clear hgd
                clear hd
                have hK2 := hK (.int .i64 (k : Int)) u (Gr.refl _) hJ rfl
                clear hK
                simp [frame, fill, Act.put] at hK2 ⊢
                go_simp
                exact hK2
              | 14 =>
                intro o ho x u hJ hd K hK
                simp at ho; subst ho
                have hgd : x 23 = _ := hd 10 (by simp) (by decide)
                refine wpOp_want rfl ?_ ?_
                · simp [Region.wanted, yielded, frame, fill, hgd]
                clear hgd
                have hx25 : x 25 = _ := hd 12 (by simp) (by decide)
                have hx26 : x 26 = _ := hd 13 (by simp) (by decide)
                clear hd
                have hK2 := hK (.pointer (some ⟨b, o + k * 2, none⟩)) u (Gr.refl _) hJ rfl
                clear hK
                simp [frame, fill, Act.put, hx25, hx26] at hK2 ⊢
                clear hx25 hx26
                go_simp
                exact hK2
              | 15 =>
                intro o ho x u hJ hd K hK
                simp at ho; subst ho
                have hgd : x 23 = _ := hd 10 (by simp) (by decide)
                refine wpOp_want rfl ?_ ?_
                · simp [Region.wanted, yielded, frame, fill, hgd]
                clear hgd
                have hx27 : x 27 = _ := hd 14 (by simp) (by decide)
                clear hd
                have k0 := hJ.cell c0
                have k1 := hJ.cell c1
                have hK2 := hK (.agg #[.int .i64 px, .int .i64 py]) u (Gr.refl _) hJ rfl
                clear hK
                simp [frame, fill, Act.put, hx27] at hK2 ⊢
                clear hx27
                go_simp
                exact hK2
              | 16 =>
                intro o ho x u hJ hd K hK
                simp at ho; subst ho
                have hgd : x 23 = _ := hd 10 (by simp) (by decide)
                refine wpOp_want rfl ?_ ?_
                · simp [Region.wanted, yielded, frame, fill, hgd]
                clear hgd
                have hx24 : x 24 = _ := hd 11 (by simp) (by decide)
                have hx28 : x 28 = _ := hd 15 (by simp) (by decide)
                clear hd
                simp [frame, fill, hx24, hx28]
                go_simp
                refine (rfar_any _ _ _ _ _).mono ?_
                rintro e w4 ⟨rfl, hb1⟩
                have hK2 := hK (.int .i64 (farP tx ty px py)) w4 hb1 (hJ.trans hb1) rfl
                clear hK
                simp [frame, fill, Act.put, hx24, hx28] at hK2
                exact hK2
              | 17 =>
                intro o ho x u hJ hd K hK
                simp at ho; subst ho
                have hgd : x 23 = _ := hd 10 (by simp) (by decide)
                refine wpOp_want rfl ?_ ?_
                · simp [Region.wanted, yielded, frame, fill, hgd]
                clear hgd
                clear hd
                have k0 := hJ.cell a0
                have k1 := hJ.cell a1
                have hK2 := hK (.agg #[.int .i64 tx, .int .i64 ty]) u (Gr.refl _) hJ rfl
                clear hK
                simp [frame, fill, Act.put] at hK2 ⊢
                go_simp
                exact hK2
              | 18 =>
                intro o ho x u hJ hd K hK
                simp at ho; subst ho
                have hgd : x 23 = _ := hd 10 (by simp) (by decide)
                refine wpOp_want rfl ?_ ?_
                · simp [Region.wanted, yielded, frame, fill, hgd]
                clear hgd
                clear hd
                have hK2 := hK (.slice (some ⟨b, o, none⟩) n c) u (Gr.refl _) hJ rfl
                clear hK
                simp [frame, fill, Act.put] at hK2 ⊢
                go_simp
                exact hK2
              | 19 =>
                intro o ho x u hJ hd K hK
                simp at ho; subst ho
                have hgd : x 23 = _ := hd 10 (by simp) (by decide)
                refine wpOp_want rfl ?_ ?_
                · simp [Region.wanted, yielded, frame, fill, hgd]
                clear hgd
                clear hd
                have hK2 := hK (.int .i64 (m : Int)) u (Gr.refl _) hJ rfl
                clear hK
                simp [frame, fill, Act.put] at hK2 ⊢
                go_simp
                exact hK2
              | 20 =>
                intro o ho x u hJ hd K hK
                simp at ho; subst ho
                have hgd : x 23 = _ := hd 10 (by simp) (by decide)
                refine wpOp_want rfl ?_ ?_
                · simp [Region.wanted, yielded, frame, fill, hgd]
                clear hgd
                have hx31 : x 31 = _ := hd 18 (by simp) (by decide)
                have hx32 : x 32 = _ := hd 19 (by simp) (by decide)
                clear hd
                have hK2 := hK (.pointer (some ⟨b, o + m * 2, none⟩)) u (Gr.refl _) hJ rfl
                clear hK
                simp [frame, fill, Act.put, hx31, hx32] at hK2 ⊢
                clear hx31 hx32
                go_simp
                exact hK2
              | 21 =>
                intro o ho x u hJ hd K hK
                simp at ho; subst ho
                have hgd : x 23 = _ := hd 10 (by simp) (by decide)
                refine wpOp_want rfl ?_ ?_
                · simp [Region.wanted, yielded, frame, fill, hgd]
                clear hgd
                have hx33 : x 33 = _ := hd 20 (by simp) (by decide)
                clear hd
                have k0 := hJ.cell m0
                have k1 := hJ.cell m1
                have hK2 := hK (.agg #[.int .i64 mx, .int .i64 my]) u (Gr.refl _) hJ rfl
                clear hK
                simp [frame, fill, Act.put, hx33] at hK2 ⊢
                clear hx33
                go_simp
                exact hK2
              | 22 =>
                intro o ho x u hJ hd K hK
                simp at ho; subst ho
                have hgd : x 23 = _ := hd 10 (by simp) (by decide)
                refine wpOp_want rfl ?_ ?_
                · simp [Region.wanted, yielded, frame, fill, hgd]
                clear hgd
                have hx30 : x 30 = _ := hd 17 (by simp) (by decide)
                have hx34 : x 34 = _ := hd 21 (by simp) (by decide)
                clear hd
                simp [frame, fill, hx30, hx34]
                go_simp
                refine (rfar_any _ _ _ _ _).mono ?_
                rintro e w4 ⟨rfl, hb1⟩
                have hK2 := hK (.int .i64 (farP tx ty mx my)) w4 hb1 (hJ.trans hb1) rfl
                clear hK
                simp [frame, fill, Act.put, hx30, hx34] at hK2
                exact hK2
              | 23 =>
                intro o ho x u hJ hd K hK
                simp at ho; subst ho
                have hgd : x 23 = _ := hd 10 (by simp) (by decide)
                refine wpOp_want rfl ?_ ?_
                · simp [Region.wanted, yielded, frame, fill, hgd]
                clear hgd
                have hx29 : x 29 = _ := hd 16 (by simp) (by decide)
                have hx35 : x 35 = _ := hd 22 (by simp) (by decide)
                clear hd
                have hK2 := hK (.bool true) u (Gr.refl _) hJ rfl
                clear hK
                simp [frame, fill, Act.put, hx29, hx35] at hK2 ⊢
                clear hx29 hx35
                go_simp
                exact hK2
              | 24 =>
                intro o ho x u hJ hd K hK
                simp at ho; subst ho
                have hgd : x 20 = _ := hd 7 (by simp) (by decide)
                refine wpOp_want rfl ?_ ?_
                · simp [Region.wanted, yielded, frame, fill, hgd]
                clear hgd
                have hx23 : x 23 = _ := hd 10 (by simp) (by decide)
                have hx36 : x 36 = _ := hd 23 (by simp) (by decide)
                clear hd
                have hK2 := hK (.bool true) u (Gr.refl _) hJ rfl
                clear hK
                simp [frame, fill, Act.put, hx23, hx36] at hK2 ⊢
                clear hx23 hx36
                go_simp
                exact hK2
              | 25 =>
                intro o ho x u hJ hd K hK
                simp at ho; subst ho
                refine wpOp_of rfl rfl ?_
                have hx20 : x 20 = _ := hd 7 (by simp) (by decide)
                have hx37 : x 37 = _ := hd 24 (by simp) (by decide)
                clear hd
                have hK2 := hK (.bool true) u (Gr.refl _) hJ rfl
                clear hK
                simp [frame, fill, Act.put, hx20, hx37] at hK2 ⊢
                clear hx20 hx37
                go_simp
                exact hK2
              | m + 26 => intro o ho; simp at ho
            · intro x u hgu hall
              have hy13 : x 13 = _ := hall 0 (by simp)
              have hy14 : x 14 = _ := hall 1 (by simp)
              have hy15 : x 15 = _ := hall 2 (by simp)
              have hy16 : x 16 = _ := hall 3 (by simp)
              have hy17 : x 17 = _ := hall 4 (by simp)
              have hy18 : x 18 = _ := hall 5 (by simp)
              have hy19 : x 19 = _ := hall 6 (by simp)
              have hy20 : x 20 = _ := hall 7 (by simp)
              have hy21 : x 21 = _ := hall 8 (by simp)
              have hy22 : x 22 = _ := hall 9 (by simp)
              have hy23 : x 23 = _ := hall 10 (by simp)
              have hy24 : x 24 = _ := hall 11 (by simp)
              have hy25 : x 25 = _ := hall 12 (by simp)
              have hy26 : x 26 = _ := hall 13 (by simp)
              have hy27 : x 27 = _ := hall 14 (by simp)
              have hy28 : x 28 = _ := hall 15 (by simp)
              have hy29 : x 29 = _ := hall 16 (by simp)
              have hy30 : x 30 = _ := hall 17 (by simp)
              have hy31 : x 31 = _ := hall 18 (by simp)
              have hy32 : x 32 = _ := hall 19 (by simp)
              have hy33 : x 33 = _ := hall 20 (by simp)
              have hy34 : x 34 = _ := hall 21 (by simp)
              have hy35 : x 35 = _ := hall 22 (by simp)
              have hy36 : x 36 = _ := hall 23 (by simp)
              have hy37 : x 37 = _ := hall 24 (by simp)
              have hy38 : x 38 = _ := hall 25 (by simp)
              clear hall
              simp [frame, fill, hy13, hy14, hy15, hy16, hy17, hy18, hy19, hy20, hy21, hy22, hy23, hy24, hy25, hy26, hy27, hy28, hy29, hy30, hy31, hy32, hy33, hy34, hy35, hy36, hy37, hy38]
              clear hy13 hy14 hy15 hy16 hy17 hy18 hy19 hy20 hy21 hy22 hy23 hy24 hy25 hy26 hy27 hy28 hy29 hy30 hy31 hy32 hy33 hy34 hy35 hy36 hy37 hy38
              go_wp2
              go_roundw
              case rel => exact ⟨k + 1, k, farP tx ty px py, by omega, by (show _ = _); rw [hnext.out, hst.out, hs.out], by go_num, rfl, hg.trans hgu⟩
              case measure => simp [intOf]; omega
          · have hs := Lib.hid (near_no (d := farP tx ty px py) (k := k) (B := (m : Int)) (L := farP tx ty mx my) (by omega))
            have h3f : decide (farP tx ty px py < farP tx ty mx my) = false := decide_eq_false h3
            go_wp2
            refine wp_region_D [13, 14, 15, 16, 17, 18, 19, 20, 21, 22, 23, 24, 25, 26, 27, 28, 29, 30, 31, 32, 33, 34, 35, 36, 37, 38] [[0], [1], [2], [3, 2, 1], [4, 3, 2, 1], [5, 4, 3, 2, 1, 0], [6, 5, 4, 3, 2, 1, 0], [7, 6, 5, 4, 3, 2, 1, 0], [8, 7, 6, 5, 4, 3, 2, 1, 0], [9, 8, 7, 6, 5, 4, 3, 2, 1, 0], [10, 9, 8, 7, 6, 5, 4, 3, 2, 1, 0], [11, 10, 9, 8, 7, 6, 5, 4, 3, 2, 1, 0], [12, 10, 9, 8, 7, 6, 5, 4, 3, 2, 1, 0], [13, 10, 9, 8, 7, 6, 5, 4, 3, 2, 1, 0], [14, 13, 12, 10, 9, 8, 7, 6, 5, 4, 3, 2, 1, 0], [15, 14, 13, 12, 10, 9, 8, 7, 6, 5, 4, 3, 2, 1, 0], [16, 15, 14, 13, 12, 11, 10, 9, 8, 7, 6, 5, 4, 3, 2, 1, 0], [17, 10, 9, 8, 7, 6, 5, 4, 3, 2, 1, 0], [18, 10, 9, 8, 7, 6, 5, 4, 3, 2, 1, 0], [19, 10, 9, 8, 7, 6, 5, 4, 3, 2, 1, 0], [20, 19, 18, 10, 9, 8, 7, 6, 5, 4, 3, 2, 1, 0], [21, 20, 19, 18, 10, 9, 8, 7, 6, 5, 4, 3, 2, 1, 0], [22, 21, 20, 19, 18, 17, 16, 15, 14, 13, 12, 11, 10, 9, 8, 7, 6, 5, 4, 3, 2, 1, 0], [23, 22, 21, 20, 19, 18, 17, 16, 15, 14, 13, 12, 11, 10, 9, 8, 7, 6, 5, 4, 3, 2, 1, 0], [24, 23, 22, 21, 20, 19, 18, 17, 16, 15, 14, 13, 12, 11, 10, 9, 8, 7, 6, 5, 4, 3, 2, 1, 0], [25, 24, 23, 22, 21, 20, 19, 18, 17, 16, 15, 14, 13, 12, 11, 10, 9, 8, 7, 6, 5, 4, 3, 2, 1, 0]] (fun _ u => Gr wr u) (fun _ _ a b => Gr a b) (fun i x _ => rnear4 tx ty px py mx my b o n c k m i x) (by kernel_rfl) (by kernel_rfl) (by kernel_rfl) ((Gr.refl _).drew) ?_ (fun _ _ _ _ _ _ _ h _ => h) ?_ ?_
            · intro i x x' u hk hv
              match i, hk, hv with
              | 0, hk, hv =>
                have e : x 13 = x' 13 := hk 0 (by simp)
                exact e.symm.trans hv
              | 1, hk, hv =>
                have e : x 14 = x' 14 := hk 1 (by simp)
                exact e.symm.trans hv
              | 2, hk, hv =>
                have e : x 15 = x' 15 := hk 2 (by simp)
                exact e.symm.trans hv
              | 3, hk, hv =>
                have e : x 16 = x' 16 := hk 3 (by simp)
                exact e.symm.trans hv
              | 4, hk, hv =>
                have e : x 17 = x' 17 := hk 4 (by simp)
                exact e.symm.trans hv
              | 5, hk, hv =>
                have e : x 18 = x' 18 := hk 5 (by simp)
                exact e.symm.trans hv
              | 6, hk, hv =>
                have e : x 19 = x' 19 := hk 6 (by simp)
                exact e.symm.trans hv
              | 7, hk, hv =>
                have e : x 20 = x' 20 := hk 7 (by simp)
                exact e.symm.trans hv
              | 8, hk, hv =>
                have e : x 21 = x' 21 := hk 8 (by simp)
                exact e.symm.trans hv
              | 9, hk, hv =>
                have e : x 22 = x' 22 := hk 9 (by simp)
                exact e.symm.trans hv
              | 10, hk, hv =>
                have e : x 23 = x' 23 := hk 10 (by simp)
                exact e.symm.trans hv
              | 11, hk, hv =>
                have e : x 24 = x' 24 := hk 11 (by simp)
                exact e.symm.trans hv
              | 12, hk, hv =>
                have e : x 25 = x' 25 := hk 12 (by simp)
                exact e.symm.trans hv
              | 13, hk, hv =>
                have e : x 26 = x' 26 := hk 13 (by simp)
                exact e.symm.trans hv
              | 14, hk, hv =>
                have e : x 27 = x' 27 := hk 14 (by simp)
                exact e.symm.trans hv
              | 15, hk, hv =>
                have e : x 28 = x' 28 := hk 15 (by simp)
                exact e.symm.trans hv
              | 16, hk, hv =>
                have e : x 29 = x' 29 := hk 16 (by simp)
                exact e.symm.trans hv
              | 17, hk, hv =>
                have e : x 30 = x' 30 := hk 17 (by simp)
                exact e.symm.trans hv
              | 18, hk, hv =>
                have e : x 31 = x' 31 := hk 18 (by simp)
                exact e.symm.trans hv
              | 19, hk, hv =>
                have e : x 32 = x' 32 := hk 19 (by simp)
                exact e.symm.trans hv
              | 20, hk, hv =>
                have e : x 33 = x' 33 := hk 20 (by simp)
                exact e.symm.trans hv
              | 21, hk, hv =>
                have e : x 34 = x' 34 := hk 21 (by simp)
                exact e.symm.trans hv
              | 22, hk, hv =>
                have e : x 35 = x' 35 := hk 22 (by simp)
                exact e.symm.trans hv
              | 23, hk, hv =>
                have e : x 36 = x' 36 := hk 23 (by simp)
                exact e.symm.trans hv
              | 24, hk, hv =>
                have e : x 37 = x' 37 := hk 24 (by simp)
                exact e.symm.trans hv
              | 25, hk, hv =>
                have e : x 38 = x' 38 := hk 25 (by simp)
                exact e.symm.trans hv
              | m + 26, _, _ => trivial
            · intro i
              match i with
              | 0 =>
                intro o ho x u hJ hd K hK
                simp at ho; subst ho
                refine wpOp_of rfl rfl ?_
                clear hd
                have k0 := hJ.cell a0
                have k1 := hJ.cell a1
                have hK2 := hK (.agg #[.int .i64 tx, .int .i64 ty]) u (Gr.refl _) hJ rfl
                clear hK
                simp [frame, fill, Act.put] at hK2 ⊢
                go_simp
                exact hK2
              | 1 =>
                intro o ho x u hJ hd K hK
                simp at ho; subst ho
                refine wpOp_of rfl rfl ?_
                clear hd
                have hK2 := hK (.slice (some ⟨b, o, none⟩) n c) u (Gr.refl _) hJ rfl
                clear hK
                simp [frame, fill, Act.put] at hK2 ⊢
                go_simp
                exact hK2
              | 2 =>
                intro o ho x u hJ hd K hK
                simp at ho; subst ho
                refine wpOp_of rfl rfl ?_
                clear hd
                have hK2 := hK (.int .i64 (k : Int)) u (Gr.refl _) hJ rfl
                clear hK
                simp [frame, fill, Act.put] at hK2 ⊢
                go_simp
                exact hK2
              | 3 =>
                intro o ho x u hJ hd K hK
                simp at ho; subst ho
                refine wpOp_of rfl rfl ?_
                have hx14 : x 14 = _ := hd 1 (by simp) (by decide)
                have hx15 : x 15 = _ := hd 2 (by simp) (by decide)
                clear hd
                have hK2 := hK (.pointer (some ⟨b, o + k * 2, none⟩)) u (Gr.refl _) hJ rfl
                clear hK
                simp [frame, fill, Act.put, hx14, hx15] at hK2 ⊢
                clear hx14 hx15
                go_simp
                exact hK2
              | 4 =>
                intro o ho x u hJ hd K hK
                simp at ho; subst ho
                refine wpOp_of rfl rfl ?_
                have hx16 : x 16 = _ := hd 3 (by simp) (by decide)
                clear hd
                have k0 := hJ.cell c0
                have k1 := hJ.cell c1
                have hK2 := hK (.agg #[.int .i64 px, .int .i64 py]) u (Gr.refl _) hJ rfl
                clear hK
                simp [frame, fill, Act.put, hx16] at hK2 ⊢
                clear hx16
                go_simp
                exact hK2
              | 5 =>
                intro o ho x u hJ hd K hK
                simp at ho; subst ho
                refine wpOp_of rfl rfl ?_
                have hx13 : x 13 = _ := hd 0 (by simp) (by decide)
                have hx17 : x 17 = _ := hd 4 (by simp) (by decide)
                clear hd
                simp [frame, fill, hx13, hx17]
                go_simp
                refine (rfar_any _ _ _ _ _).mono ?_
                rintro e w4 ⟨rfl, hb1⟩
                have hK2 := hK (.int .i64 (farP tx ty px py)) w4 hb1 (hJ.trans hb1) rfl
                clear hK
                simp [frame, fill, Act.put, hx13, hx17] at hK2
                exact hK2
              | 6 =>
                intro o ho x u hJ hd K hK
                simp at ho; subst ho
                refine wpOp_of rfl rfl ?_
                have hx18 : x 18 = _ := hd 5 (by simp) (by decide)
                clear hd
                have hK2 := hK (.bool true) u (Gr.refl _) hJ rfl
                clear hK
                simp [frame, fill, Act.put, hx18] at hK2 ⊢
                clear hx18
                go_simp
                exact hK2
              | 7 =>
                intro o ho x u hJ hd K hK
                simp at ho; subst ho
                refine wpOp_of rfl rfl ?_
                have hx19 : x 19 = _ := hd 6 (by simp) (by decide)
                clear hd
                have hK2 := hK (.bool true) u (Gr.refl _) hJ rfl
                clear hK
                simp [frame, fill, Act.put, hx19] at hK2 ⊢
                clear hx19
                go_simp
                exact hK2
              | 8 =>
                intro o ho x u hJ hd K hK
                simp at ho; subst ho
                have hgd : x 20 = _ := hd 7 (by simp) (by decide)
                refine wpOp_want rfl ?_ ?_
                · simp [Region.wanted, yielded, frame, fill, hgd]
                clear hgd
                clear hd
                have hK2 := hK (.int .i64 (m : Int)) u (Gr.refl _) hJ rfl
                clear hK
                simp [frame, fill, Act.put] at hK2 ⊢
                go_simp
                exact hK2
              | 9 =>
                intro o ho x u hJ hd K hK
                simp at ho; subst ho
                have hgd : x 20 = _ := hd 7 (by simp) (by decide)
                refine wpOp_want rfl ?_ ?_
                · simp [Region.wanted, yielded, frame, fill, hgd]
                clear hgd
                have hx21 : x 21 = _ := hd 8 (by simp) (by decide)
                clear hd
                have hK2 := hK (.bool false) u (Gr.refl _) hJ rfl
                clear hK
                simp [frame, fill, Act.put, hx21] at hK2 ⊢
                clear hx21
                go_simp
                exact hK2
              | 10 =>
                intro o ho x u hJ hd K hK
                simp at ho; subst ho
                have hgd : x 20 = _ := hd 7 (by simp) (by decide)
                refine wpOp_want rfl ?_ ?_
                · simp [Region.wanted, yielded, frame, fill, hgd]
                clear hgd
                have hx22 : x 22 = _ := hd 9 (by simp) (by decide)
                clear hd
                have hK2 := hK (.bool false) u (Gr.refl _) hJ rfl
                clear hK
                simp [frame, fill, Act.put, hx22] at hK2 ⊢
                clear hx22
                go_simp
                exact hK2
              | 11 =>
                intro o ho x u hJ hd K hK
                simp at ho; subst ho
                have hgd : x 23 = _ := hd 10 (by simp) (by decide)
                refine wpOp_want rfl ?_ ?_
                · simp [Region.wanted, yielded, frame, fill, hgd]
                clear hgd
                clear hd
                have k0 := hJ.cell a0
                have k1 := hJ.cell a1
                have hK2 := hK (.agg #[.int .i64 tx, .int .i64 ty]) u (Gr.refl _) hJ rfl
                clear hK
                simp [frame, fill, Act.put] at hK2 ⊢
                go_simp
                exact hK2
              | 12 =>
                intro o ho x u hJ hd K hK
                simp at ho; subst ho
                have hgd : x 23 = _ := hd 10 (by simp) (by decide)
                refine wpOp_want rfl ?_ ?_
                · simp [Region.wanted, yielded, frame, fill, hgd]
                clear hgd
                clear hd
                have hK2 := hK (.slice (some ⟨b, o, none⟩) n c) u (Gr.refl _) hJ rfl
                clear hK
                simp [frame, fill, Act.put] at hK2 ⊢
                go_simp
                exact hK2
              | 13 =>
                intro o ho x u hJ hd K hK
                simp at ho; subst ho
                have hgd : x 23 = _ := hd 10 (by simp) (by decide)
                refine wpOp_want rfl ?_ ?_
                · simp [Region.wanted, yielded, frame, fill, hgd]
                clear hgd
                clear hd
                have hK2 := hK (.int .i64 (k : Int)) u (Gr.refl _) hJ rfl
                clear hK
                simp [frame, fill, Act.put] at hK2 ⊢
                go_simp
                exact hK2
              | 14 =>
                intro o ho x u hJ hd K hK
                simp at ho; subst ho
                have hgd : x 23 = _ := hd 10 (by simp) (by decide)
                refine wpOp_want rfl ?_ ?_
                · simp [Region.wanted, yielded, frame, fill, hgd]
                clear hgd
                have hx25 : x 25 = _ := hd 12 (by simp) (by decide)
                have hx26 : x 26 = _ := hd 13 (by simp) (by decide)
                clear hd
                have hK2 := hK (.pointer (some ⟨b, o + k * 2, none⟩)) u (Gr.refl _) hJ rfl
                clear hK
                simp [frame, fill, Act.put, hx25, hx26] at hK2 ⊢
                clear hx25 hx26
                go_simp
                exact hK2
              | 15 =>
                intro o ho x u hJ hd K hK
                simp at ho; subst ho
                have hgd : x 23 = _ := hd 10 (by simp) (by decide)
                refine wpOp_want rfl ?_ ?_
                · simp [Region.wanted, yielded, frame, fill, hgd]
                clear hgd
                have hx27 : x 27 = _ := hd 14 (by simp) (by decide)
                clear hd
                have k0 := hJ.cell c0
                have k1 := hJ.cell c1
                have hK2 := hK (.agg #[.int .i64 px, .int .i64 py]) u (Gr.refl _) hJ rfl
                clear hK
                simp [frame, fill, Act.put, hx27] at hK2 ⊢
                clear hx27
                go_simp
                exact hK2
              | 16 =>
                intro o ho x u hJ hd K hK
                simp at ho; subst ho
                have hgd : x 23 = _ := hd 10 (by simp) (by decide)
                refine wpOp_want rfl ?_ ?_
                · simp [Region.wanted, yielded, frame, fill, hgd]
                clear hgd
                have hx24 : x 24 = _ := hd 11 (by simp) (by decide)
                have hx28 : x 28 = _ := hd 15 (by simp) (by decide)
                clear hd
                simp [frame, fill, hx24, hx28]
                go_simp
                refine (rfar_any _ _ _ _ _).mono ?_
                rintro e w4 ⟨rfl, hb1⟩
                have hK2 := hK (.int .i64 (farP tx ty px py)) w4 hb1 (hJ.trans hb1) rfl
                clear hK
                simp [frame, fill, Act.put, hx24, hx28] at hK2
                exact hK2
              | 17 =>
                intro o ho x u hJ hd K hK
                simp at ho; subst ho
                have hgd : x 23 = _ := hd 10 (by simp) (by decide)
                refine wpOp_want rfl ?_ ?_
                · simp [Region.wanted, yielded, frame, fill, hgd]
                clear hgd
                clear hd
                have k0 := hJ.cell a0
                have k1 := hJ.cell a1
                have hK2 := hK (.agg #[.int .i64 tx, .int .i64 ty]) u (Gr.refl _) hJ rfl
                clear hK
                simp [frame, fill, Act.put] at hK2 ⊢
                go_simp
                exact hK2
              | 18 =>
                intro o ho x u hJ hd K hK
                simp at ho; subst ho
                have hgd : x 23 = _ := hd 10 (by simp) (by decide)
                refine wpOp_want rfl ?_ ?_
                · simp [Region.wanted, yielded, frame, fill, hgd]
                clear hgd
                clear hd
                have hK2 := hK (.slice (some ⟨b, o, none⟩) n c) u (Gr.refl _) hJ rfl
                clear hK
                simp [frame, fill, Act.put] at hK2 ⊢
                go_simp
                exact hK2
              | 19 =>
                intro o ho x u hJ hd K hK
                simp at ho; subst ho
                have hgd : x 23 = _ := hd 10 (by simp) (by decide)
                refine wpOp_want rfl ?_ ?_
                · simp [Region.wanted, yielded, frame, fill, hgd]
                clear hgd
                clear hd
                have hK2 := hK (.int .i64 (m : Int)) u (Gr.refl _) hJ rfl
                clear hK
                simp [frame, fill, Act.put] at hK2 ⊢
                go_simp
                exact hK2
              | 20 =>
                intro o ho x u hJ hd K hK
                simp at ho; subst ho
                have hgd : x 23 = _ := hd 10 (by simp) (by decide)
                refine wpOp_want rfl ?_ ?_
                · simp [Region.wanted, yielded, frame, fill, hgd]
                clear hgd
                have hx31 : x 31 = _ := hd 18 (by simp) (by decide)
                have hx32 : x 32 = _ := hd 19 (by simp) (by decide)
                clear hd
                have hK2 := hK (.pointer (some ⟨b, o + m * 2, none⟩)) u (Gr.refl _) hJ rfl
                clear hK
                simp [frame, fill, Act.put, hx31, hx32] at hK2 ⊢
                clear hx31 hx32
                go_simp
                exact hK2
              | 21 =>
                intro o ho x u hJ hd K hK
                simp at ho; subst ho
                have hgd : x 23 = _ := hd 10 (by simp) (by decide)
                refine wpOp_want rfl ?_ ?_
                · simp [Region.wanted, yielded, frame, fill, hgd]
                clear hgd
                have hx33 : x 33 = _ := hd 20 (by simp) (by decide)
                clear hd
                have k0 := hJ.cell m0
                have k1 := hJ.cell m1
                have hK2 := hK (.agg #[.int .i64 mx, .int .i64 my]) u (Gr.refl _) hJ rfl
                clear hK
                simp [frame, fill, Act.put, hx33] at hK2 ⊢
                clear hx33
                go_simp
                exact hK2
              | 22 =>
                intro o ho x u hJ hd K hK
                simp at ho; subst ho
                have hgd : x 23 = _ := hd 10 (by simp) (by decide)
                refine wpOp_want rfl ?_ ?_
                · simp [Region.wanted, yielded, frame, fill, hgd]
                clear hgd
                have hx30 : x 30 = _ := hd 17 (by simp) (by decide)
                have hx34 : x 34 = _ := hd 21 (by simp) (by decide)
                clear hd
                simp [frame, fill, hx30, hx34]
                go_simp
                refine (rfar_any _ _ _ _ _).mono ?_
                rintro e w4 ⟨rfl, hb1⟩
                have hK2 := hK (.int .i64 (farP tx ty mx my)) w4 hb1 (hJ.trans hb1) rfl
                clear hK
                simp [frame, fill, Act.put, hx30, hx34] at hK2
                exact hK2
              | 23 =>
                intro o ho x u hJ hd K hK
                simp at ho; subst ho
                have hgd : x 23 = _ := hd 10 (by simp) (by decide)
                refine wpOp_want rfl ?_ ?_
                · simp [Region.wanted, yielded, frame, fill, hgd]
                clear hgd
                have hx29 : x 29 = _ := hd 16 (by simp) (by decide)
                have hx35 : x 35 = _ := hd 22 (by simp) (by decide)
                clear hd
                have hK2 := hK (.bool false) u (Gr.refl _) hJ rfl
                clear hK
                simp [frame, fill, Act.put, hx29, hx35] at hK2 ⊢
                clear hx29 hx35
                go_simp
                exact hK2
              | 24 =>
                intro o ho x u hJ hd K hK
                simp at ho; subst ho
                have hgd : x 20 = _ := hd 7 (by simp) (by decide)
                refine wpOp_want rfl ?_ ?_
                · simp [Region.wanted, yielded, frame, fill, hgd]
                clear hgd
                have hx23 : x 23 = _ := hd 10 (by simp) (by decide)
                have hx36 : x 36 = _ := hd 23 (by simp) (by decide)
                clear hd
                have hK2 := hK (.bool false) u (Gr.refl _) hJ rfl
                clear hK
                simp [frame, fill, Act.put, hx23, hx36] at hK2 ⊢
                clear hx23 hx36
                go_simp
                exact hK2
              | 25 =>
                intro o ho x u hJ hd K hK
                simp at ho; subst ho
                refine wpOp_of rfl rfl ?_
                have hx20 : x 20 = _ := hd 7 (by simp) (by decide)
                have hx37 : x 37 = _ := hd 24 (by simp) (by decide)
                clear hd
                have hK2 := hK (.bool false) u (Gr.refl _) hJ rfl
                clear hK
                simp [frame, fill, Act.put, hx20, hx37] at hK2 ⊢
                clear hx20 hx37
                go_simp
                exact hK2
              | m + 26 => intro o ho; simp at ho
            · intro x u hgu hall
              have hy13 : x 13 = _ := hall 0 (by simp)
              have hy14 : x 14 = _ := hall 1 (by simp)
              have hy15 : x 15 = _ := hall 2 (by simp)
              have hy16 : x 16 = _ := hall 3 (by simp)
              have hy17 : x 17 = _ := hall 4 (by simp)
              have hy18 : x 18 = _ := hall 5 (by simp)
              have hy19 : x 19 = _ := hall 6 (by simp)
              have hy20 : x 20 = _ := hall 7 (by simp)
              have hy21 : x 21 = _ := hall 8 (by simp)
              have hy22 : x 22 = _ := hall 9 (by simp)
              have hy23 : x 23 = _ := hall 10 (by simp)
              have hy24 : x 24 = _ := hall 11 (by simp)
              have hy25 : x 25 = _ := hall 12 (by simp)
              have hy26 : x 26 = _ := hall 13 (by simp)
              have hy27 : x 27 = _ := hall 14 (by simp)
              have hy28 : x 28 = _ := hall 15 (by simp)
              have hy29 : x 29 = _ := hall 16 (by simp)
              have hy30 : x 30 = _ := hall 17 (by simp)
              have hy31 : x 31 = _ := hall 18 (by simp)
              have hy32 : x 32 = _ := hall 19 (by simp)
              have hy33 : x 33 = _ := hall 20 (by simp)
              have hy34 : x 34 = _ := hall 21 (by simp)
              have hy35 : x 35 = _ := hall 22 (by simp)
              have hy36 : x 36 = _ := hall 23 (by simp)
              have hy37 : x 37 = _ := hall 24 (by simp)
              have hy38 : x 38 = _ := hall 25 (by simp)
              clear hall
              simp [frame, fill, hy13, hy14, hy15, hy16, hy17, hy18, hy19, hy20, hy21, hy22, hy23, hy24, hy25, hy26, hy27, hy28, hy29, hy30, hy31, hy32, hy33, hy34, hy35, hy36, hy37, hy38]
              clear hy13 hy14 hy15 hy16 hy17 hy18 hy19 hy20 hy21 hy22 hy23 hy24 hy25 hy26 hy27 hy28 hy29 hy30 hy31 hy32 hy33 hy34 hy35 hy36 hy37 hy38
              go_wp2
              go_roundw
              case rel => exact ⟨k + 1, m, farP tx ty mx my, by omega, by (show _ = _); rw [hnext.out, hst.out, hs.out], by go_num, rfl, hg.trans hgu⟩
              case measure => simp [intOf]; omega
      · have hs := Lib.hid (near_no (d := farP tx ty px py) (k := k) (B := B) (L := L) (by omega))
        have h1f : decide (0 ≤ farP tx ty px py) = false := decide_eq_false h1
        go_wp2
        refine wp_region_D [13, 14, 15, 16, 17, 18, 19, 20, 21, 22, 23, 24, 25, 26, 27, 28, 29, 30, 31, 32, 33, 34, 35, 36, 37, 38] [[0], [1], [2], [3, 2, 1], [4, 3, 2, 1], [5, 4, 3, 2, 1, 0], [6, 5, 4, 3, 2, 1, 0], [7, 6, 5, 4, 3, 2, 1, 0], [8, 7, 6, 5, 4, 3, 2, 1, 0], [9, 8, 7, 6, 5, 4, 3, 2, 1, 0], [10, 9, 8, 7, 6, 5, 4, 3, 2, 1, 0], [11, 10, 9, 8, 7, 6, 5, 4, 3, 2, 1, 0], [12, 10, 9, 8, 7, 6, 5, 4, 3, 2, 1, 0], [13, 10, 9, 8, 7, 6, 5, 4, 3, 2, 1, 0], [14, 13, 12, 10, 9, 8, 7, 6, 5, 4, 3, 2, 1, 0], [15, 14, 13, 12, 10, 9, 8, 7, 6, 5, 4, 3, 2, 1, 0], [16, 15, 14, 13, 12, 11, 10, 9, 8, 7, 6, 5, 4, 3, 2, 1, 0], [17, 10, 9, 8, 7, 6, 5, 4, 3, 2, 1, 0], [18, 10, 9, 8, 7, 6, 5, 4, 3, 2, 1, 0], [19, 10, 9, 8, 7, 6, 5, 4, 3, 2, 1, 0], [20, 19, 18, 10, 9, 8, 7, 6, 5, 4, 3, 2, 1, 0], [21, 20, 19, 18, 10, 9, 8, 7, 6, 5, 4, 3, 2, 1, 0], [22, 21, 20, 19, 18, 17, 16, 15, 14, 13, 12, 11, 10, 9, 8, 7, 6, 5, 4, 3, 2, 1, 0], [23, 22, 21, 20, 19, 18, 17, 16, 15, 14, 13, 12, 11, 10, 9, 8, 7, 6, 5, 4, 3, 2, 1, 0], [24, 23, 22, 21, 20, 19, 18, 17, 16, 15, 14, 13, 12, 11, 10, 9, 8, 7, 6, 5, 4, 3, 2, 1, 0], [25, 24, 23, 22, 21, 20, 19, 18, 17, 16, 15, 14, 13, 12, 11, 10, 9, 8, 7, 6, 5, 4, 3, 2, 1, 0]] (fun _ u => Gr wr u) (fun _ _ a b => Gr a b) (fun i x _ => rnear1 tx ty px py b o n c k i x) (by kernel_rfl) (by kernel_rfl) (by kernel_rfl) ((Gr.refl _).drew) ?_ (fun _ _ _ _ _ _ _ h _ => h) ?_ ?_
        · intro i x x' u hk hv
          match i, hk, hv with
          | 0, hk, hv =>
            have e : x 13 = x' 13 := hk 0 (by simp)
            exact e.symm.trans hv
          | 1, hk, hv =>
            have e : x 14 = x' 14 := hk 1 (by simp)
            exact e.symm.trans hv
          | 2, hk, hv =>
            have e : x 15 = x' 15 := hk 2 (by simp)
            exact e.symm.trans hv
          | 3, hk, hv =>
            have e : x 16 = x' 16 := hk 3 (by simp)
            exact e.symm.trans hv
          | 4, hk, hv =>
            have e : x 17 = x' 17 := hk 4 (by simp)
            exact e.symm.trans hv
          | 5, hk, hv =>
            have e : x 18 = x' 18 := hk 5 (by simp)
            exact e.symm.trans hv
          | 6, hk, hv =>
            have e : x 19 = x' 19 := hk 6 (by simp)
            exact e.symm.trans hv
          | 7, hk, hv =>
            have e : x 20 = x' 20 := hk 7 (by simp)
            exact e.symm.trans hv
          | 8, hk, hv =>
            have e : x 21 = x' 21 := hk 8 (by simp)
            exact e.symm.trans hv
          | 9, hk, hv =>
            have e : x 22 = x' 22 := hk 9 (by simp)
            exact e.symm.trans hv
          | 10, hk, hv =>
            have e : x 23 = x' 23 := hk 10 (by simp)
            exact e.symm.trans hv
          | 11, hk, hv =>
            have e : x 24 = x' 24 := hk 11 (by simp)
            exact e.symm.trans hv
          | 12, hk, hv =>
            have e : x 25 = x' 25 := hk 12 (by simp)
            exact e.symm.trans hv
          | 13, hk, hv =>
            have e : x 26 = x' 26 := hk 13 (by simp)
            exact e.symm.trans hv
          | 14, hk, hv =>
            have e : x 27 = x' 27 := hk 14 (by simp)
            exact e.symm.trans hv
          | 15, hk, hv =>
            have e : x 28 = x' 28 := hk 15 (by simp)
            exact e.symm.trans hv
          | 16, hk, hv =>
            have e : x 29 = x' 29 := hk 16 (by simp)
            exact e.symm.trans hv
          | 17, hk, hv =>
            have e : x 30 = x' 30 := hk 17 (by simp)
            exact e.symm.trans hv
          | 18, hk, hv =>
            have e : x 31 = x' 31 := hk 18 (by simp)
            exact e.symm.trans hv
          | 19, hk, hv =>
            have e : x 32 = x' 32 := hk 19 (by simp)
            exact e.symm.trans hv
          | 20, hk, hv =>
            have e : x 33 = x' 33 := hk 20 (by simp)
            exact e.symm.trans hv
          | 21, hk, hv =>
            have e : x 34 = x' 34 := hk 21 (by simp)
            exact e.symm.trans hv
          | 22, hk, hv =>
            have e : x 35 = x' 35 := hk 22 (by simp)
            exact e.symm.trans hv
          | 23, hk, hv =>
            have e : x 36 = x' 36 := hk 23 (by simp)
            exact e.symm.trans hv
          | 24, hk, hv =>
            have e : x 37 = x' 37 := hk 24 (by simp)
            exact e.symm.trans hv
          | 25, hk, hv =>
            have e : x 38 = x' 38 := hk 25 (by simp)
            exact e.symm.trans hv
          | m + 26, _, _ => trivial
        · intro i
          match i with
          | 0 =>
            intro o ho x u hJ hd K hK
            simp at ho; subst ho
            refine wpOp_of rfl rfl ?_
            clear hd
            have k0 := hJ.cell a0
            have k1 := hJ.cell a1
            have hK2 := hK (.agg #[.int .i64 tx, .int .i64 ty]) u (Gr.refl _) hJ rfl
            clear hK
            simp [frame, fill, Act.put] at hK2 ⊢
            go_simp
            exact hK2
          | 1 =>
            intro o ho x u hJ hd K hK
            simp at ho; subst ho
            refine wpOp_of rfl rfl ?_
            clear hd
            have hK2 := hK (.slice (some ⟨b, o, none⟩) n c) u (Gr.refl _) hJ rfl
            clear hK
            simp [frame, fill, Act.put] at hK2 ⊢
            go_simp
            exact hK2
          | 2 =>
            intro o ho x u hJ hd K hK
            simp at ho; subst ho
            refine wpOp_of rfl rfl ?_
            clear hd
            have hK2 := hK (.int .i64 (k : Int)) u (Gr.refl _) hJ rfl
            clear hK
            simp [frame, fill, Act.put] at hK2 ⊢
            go_simp
            exact hK2
          | 3 =>
            intro o ho x u hJ hd K hK
            simp at ho; subst ho
            refine wpOp_of rfl rfl ?_
            have hx14 : x 14 = _ := hd 1 (by simp) (by decide)
            have hx15 : x 15 = _ := hd 2 (by simp) (by decide)
            clear hd
            have hK2 := hK (.pointer (some ⟨b, o + k * 2, none⟩)) u (Gr.refl _) hJ rfl
            clear hK
            simp [frame, fill, Act.put, hx14, hx15] at hK2 ⊢
            clear hx14 hx15
            go_simp
            exact hK2
          | 4 =>
            intro o ho x u hJ hd K hK
            simp at ho; subst ho
            refine wpOp_of rfl rfl ?_
            have hx16 : x 16 = _ := hd 3 (by simp) (by decide)
            clear hd
            have k0 := hJ.cell c0
            have k1 := hJ.cell c1
            have hK2 := hK (.agg #[.int .i64 px, .int .i64 py]) u (Gr.refl _) hJ rfl
            clear hK
            simp [frame, fill, Act.put, hx16] at hK2 ⊢
            clear hx16
            go_simp
            exact hK2
          | 5 =>
            intro o ho x u hJ hd K hK
            simp at ho; subst ho
            refine wpOp_of rfl rfl ?_
            have hx13 : x 13 = _ := hd 0 (by simp) (by decide)
            have hx17 : x 17 = _ := hd 4 (by simp) (by decide)
            clear hd
            simp [frame, fill, hx13, hx17]
            go_simp
            refine (rfar_any _ _ _ _ _).mono ?_
            rintro e w4 ⟨rfl, hb1⟩
            have hK2 := hK (.int .i64 (farP tx ty px py)) w4 hb1 (hJ.trans hb1) rfl
            clear hK
            simp [frame, fill, Act.put, hx13, hx17] at hK2
            exact hK2
          | 6 =>
            intro o ho x u hJ hd K hK
            simp at ho; subst ho
            refine wpOp_of rfl rfl ?_
            have hx18 : x 18 = _ := hd 5 (by simp) (by decide)
            clear hd
            have hK2 := hK (.bool false) u (Gr.refl _) hJ rfl
            clear hK
            simp [frame, fill, Act.put, hx18] at hK2 ⊢
            clear hx18
            go_simp
            exact hK2
          | 7 =>
            intro o ho x u hJ hd K hK
            simp at ho; subst ho
            refine wpOp_of rfl rfl ?_
            have hx19 : x 19 = _ := hd 6 (by simp) (by decide)
            clear hd
            have hK2 := hK (.bool false) u (Gr.refl _) hJ rfl
            clear hK
            simp [frame, fill, Act.put, hx19] at hK2 ⊢
            clear hx19
            go_simp
            exact hK2
          | 8 =>
            intro o ho x u hJ hd K hK
            simp at ho; subst ho
            have hgd : x 20 = _ := hd 7 (by simp) (by decide)
            refine wpOp_skip rfl ?_ ?_
            · first | (simp [Region.wanted, yielded, frame, fill, hgd]; done) | (simp [Region.wanted, yielded, frame, fill, hgd]; decide) | (simp [Region.wanted, yielded, frame, fill, hgd]; intro h; exact Option.noConfusion h)
            · exact hK undef u (Gr.refl _) hJ rfl
          | 9 =>
            intro o ho x u hJ hd K hK
            simp at ho; subst ho
            have hgd : x 20 = _ := hd 7 (by simp) (by decide)
            refine wpOp_skip rfl ?_ ?_
            · first | (simp [Region.wanted, yielded, frame, fill, hgd]; done) | (simp [Region.wanted, yielded, frame, fill, hgd]; decide) | (simp [Region.wanted, yielded, frame, fill, hgd]; intro h; exact Option.noConfusion h)
            · exact hK undef u (Gr.refl _) hJ rfl
          | 10 =>
            intro o ho x u hJ hd K hK
            simp at ho; subst ho
            have hgd : x 20 = _ := hd 7 (by simp) (by decide)
            refine wpOp_skip rfl ?_ ?_
            · first | (simp [Region.wanted, yielded, frame, fill, hgd]; done) | (simp [Region.wanted, yielded, frame, fill, hgd]; decide) | (simp [Region.wanted, yielded, frame, fill, hgd]; intro h; exact Option.noConfusion h)
            · exact hK undef u (Gr.refl _) hJ rfl
          | 11 =>
            intro o ho x u hJ hd K hK
            simp at ho; subst ho
            have hgd : x 23 = _ := hd 10 (by simp) (by decide)
            refine wpOp_skip rfl ?_ ?_
            · first | (simp [Region.wanted, yielded, frame, fill, hgd]; done) | (simp [Region.wanted, yielded, frame, fill, hgd]; decide) | (simp [Region.wanted, yielded, frame, fill, hgd]; intro h; exact Option.noConfusion h)
            · exact hK undef u (Gr.refl _) hJ rfl
          | 12 =>
            intro o ho x u hJ hd K hK
            simp at ho; subst ho
            have hgd : x 23 = _ := hd 10 (by simp) (by decide)
            refine wpOp_skip rfl ?_ ?_
            · first | (simp [Region.wanted, yielded, frame, fill, hgd]; done) | (simp [Region.wanted, yielded, frame, fill, hgd]; decide) | (simp [Region.wanted, yielded, frame, fill, hgd]; intro h; exact Option.noConfusion h)
            · exact hK undef u (Gr.refl _) hJ rfl
          | 13 =>
            intro o ho x u hJ hd K hK
            simp at ho; subst ho
            have hgd : x 23 = _ := hd 10 (by simp) (by decide)
            refine wpOp_skip rfl ?_ ?_
            · first | (simp [Region.wanted, yielded, frame, fill, hgd]; done) | (simp [Region.wanted, yielded, frame, fill, hgd]; decide) | (simp [Region.wanted, yielded, frame, fill, hgd]; intro h; exact Option.noConfusion h)
            · exact hK undef u (Gr.refl _) hJ rfl
          | 14 =>
            intro o ho x u hJ hd K hK
            simp at ho; subst ho
            have hgd : x 23 = _ := hd 10 (by simp) (by decide)
            refine wpOp_skip rfl ?_ ?_
            · first | (simp [Region.wanted, yielded, frame, fill, hgd]; done) | (simp [Region.wanted, yielded, frame, fill, hgd]; decide) | (simp [Region.wanted, yielded, frame, fill, hgd]; intro h; exact Option.noConfusion h)
            · exact hK undef u (Gr.refl _) hJ rfl
          | 15 =>
            intro o ho x u hJ hd K hK
            simp at ho; subst ho
            have hgd : x 23 = _ := hd 10 (by simp) (by decide)
            refine wpOp_skip rfl ?_ ?_
            · first | (simp [Region.wanted, yielded, frame, fill, hgd]; done) | (simp [Region.wanted, yielded, frame, fill, hgd]; decide) | (simp [Region.wanted, yielded, frame, fill, hgd]; intro h; exact Option.noConfusion h)
            · exact hK undef u (Gr.refl _) hJ rfl
          | 16 =>
            intro o ho x u hJ hd K hK
            simp at ho; subst ho
            have hgd : x 23 = _ := hd 10 (by simp) (by decide)
            refine wpOp_skip rfl ?_ ?_
            · first | (simp [Region.wanted, yielded, frame, fill, hgd]; done) | (simp [Region.wanted, yielded, frame, fill, hgd]; decide) | (simp [Region.wanted, yielded, frame, fill, hgd]; intro h; exact Option.noConfusion h)
            · exact hK undef u (Gr.refl _) hJ rfl
          | 17 =>
            intro o ho x u hJ hd K hK
            simp at ho; subst ho
            have hgd : x 23 = _ := hd 10 (by simp) (by decide)
            refine wpOp_skip rfl ?_ ?_
            · first | (simp [Region.wanted, yielded, frame, fill, hgd]; done) | (simp [Region.wanted, yielded, frame, fill, hgd]; decide) | (simp [Region.wanted, yielded, frame, fill, hgd]; intro h; exact Option.noConfusion h)
            · exact hK undef u (Gr.refl _) hJ rfl
          | 18 =>
            intro o ho x u hJ hd K hK
            simp at ho; subst ho
            have hgd : x 23 = _ := hd 10 (by simp) (by decide)
            refine wpOp_skip rfl ?_ ?_
            · first | (simp [Region.wanted, yielded, frame, fill, hgd]; done) | (simp [Region.wanted, yielded, frame, fill, hgd]; decide) | (simp [Region.wanted, yielded, frame, fill, hgd]; intro h; exact Option.noConfusion h)
            · exact hK undef u (Gr.refl _) hJ rfl
          | 19 =>
            intro o ho x u hJ hd K hK
            simp at ho; subst ho
            have hgd : x 23 = _ := hd 10 (by simp) (by decide)
            refine wpOp_skip rfl ?_ ?_
            · first | (simp [Region.wanted, yielded, frame, fill, hgd]; done) | (simp [Region.wanted, yielded, frame, fill, hgd]; decide) | (simp [Region.wanted, yielded, frame, fill, hgd]; intro h; exact Option.noConfusion h)
            · exact hK undef u (Gr.refl _) hJ rfl
          | 20 =>
            intro o ho x u hJ hd K hK
            simp at ho; subst ho
            have hgd : x 23 = _ := hd 10 (by simp) (by decide)
            refine wpOp_skip rfl ?_ ?_
            · first | (simp [Region.wanted, yielded, frame, fill, hgd]; done) | (simp [Region.wanted, yielded, frame, fill, hgd]; decide) | (simp [Region.wanted, yielded, frame, fill, hgd]; intro h; exact Option.noConfusion h)
            · exact hK undef u (Gr.refl _) hJ rfl
          | 21 =>
            intro o ho x u hJ hd K hK
            simp at ho; subst ho
            have hgd : x 23 = _ := hd 10 (by simp) (by decide)
            refine wpOp_skip rfl ?_ ?_
            · first | (simp [Region.wanted, yielded, frame, fill, hgd]; done) | (simp [Region.wanted, yielded, frame, fill, hgd]; decide) | (simp [Region.wanted, yielded, frame, fill, hgd]; intro h; exact Option.noConfusion h)
            · exact hK undef u (Gr.refl _) hJ rfl
          | 22 =>
            intro o ho x u hJ hd K hK
            simp at ho; subst ho
            have hgd : x 23 = _ := hd 10 (by simp) (by decide)
            refine wpOp_skip rfl ?_ ?_
            · first | (simp [Region.wanted, yielded, frame, fill, hgd]; done) | (simp [Region.wanted, yielded, frame, fill, hgd]; decide) | (simp [Region.wanted, yielded, frame, fill, hgd]; intro h; exact Option.noConfusion h)
            · exact hK undef u (Gr.refl _) hJ rfl
          | 23 =>
            intro o ho x u hJ hd K hK
            simp at ho; subst ho
            have hgd : x 23 = _ := hd 10 (by simp) (by decide)
            refine wpOp_skip rfl ?_ ?_
            · first | (simp [Region.wanted, yielded, frame, fill, hgd]; done) | (simp [Region.wanted, yielded, frame, fill, hgd]; decide) | (simp [Region.wanted, yielded, frame, fill, hgd]; intro h; exact Option.noConfusion h)
            · exact hK undef u (Gr.refl _) hJ rfl
          | 24 =>
            intro o ho x u hJ hd K hK
            simp at ho; subst ho
            have hgd : x 20 = _ := hd 7 (by simp) (by decide)
            refine wpOp_skip rfl ?_ ?_
            · first | (simp [Region.wanted, yielded, frame, fill, hgd]; done) | (simp [Region.wanted, yielded, frame, fill, hgd]; decide) | (simp [Region.wanted, yielded, frame, fill, hgd]; intro h; exact Option.noConfusion h)
            · exact hK undef u (Gr.refl _) hJ rfl
          | 25 =>
            intro o ho x u hJ hd K hK
            simp at ho; subst ho
            refine wpOp_of rfl rfl ?_
            have hx20 : x 20 = _ := hd 7 (by simp) (by decide)
            have hx37 : x 37 = _ := hd 24 (by simp) (by decide)
            clear hd
            have hK2 := hK (.bool false) u (Gr.refl _) hJ rfl
            clear hK
            simp [frame, fill, Act.put, hx20, hx37] at hK2 ⊢
            clear hx20 hx37
            go_simp
            exact hK2
          | m + 26 => intro o ho; simp at ho
        · intro x u hgu hall
          have hy13 : x 13 = _ := hall 0 (by simp)
          have hy14 : x 14 = _ := hall 1 (by simp)
          have hy15 : x 15 = _ := hall 2 (by simp)
          have hy16 : x 16 = _ := hall 3 (by simp)
          have hy17 : x 17 = _ := hall 4 (by simp)
          have hy18 : x 18 = _ := hall 5 (by simp)
          have hy19 : x 19 = _ := hall 6 (by simp)
          have hy20 : x 20 = _ := hall 7 (by simp)
          have hy21 : x 21 = _ := hall 8 (by simp)
          have hy22 : x 22 = _ := hall 9 (by simp)
          have hy23 : x 23 = _ := hall 10 (by simp)
          have hy24 : x 24 = _ := hall 11 (by simp)
          have hy25 : x 25 = _ := hall 12 (by simp)
          have hy26 : x 26 = _ := hall 13 (by simp)
          have hy27 : x 27 = _ := hall 14 (by simp)
          have hy28 : x 28 = _ := hall 15 (by simp)
          have hy29 : x 29 = _ := hall 16 (by simp)
          have hy30 : x 30 = _ := hall 17 (by simp)
          have hy31 : x 31 = _ := hall 18 (by simp)
          have hy32 : x 32 = _ := hall 19 (by simp)
          have hy33 : x 33 = _ := hall 20 (by simp)
          have hy34 : x 34 = _ := hall 21 (by simp)
          have hy35 : x 35 = _ := hall 22 (by simp)
          have hy36 : x 36 = _ := hall 23 (by simp)
          have hy37 : x 37 = _ := hall 24 (by simp)
          have hy38 : x 38 = _ := hall 25 (by simp)
          clear hall
          simp [frame, fill, hy13, hy14, hy15, hy16, hy17, hy18, hy19, hy20, hy21, hy22, hy23, hy24, hy25, hy26, hy27, hy28, hy29, hy30, hy31, hy32, hy33, hy34, hy35, hy36, hy37, hy38]
          clear hy13 hy14 hy15 hy16 hy17 hy18 hy19 hy20 hy21 hy22 hy23 hy24 hy25 hy26 hy27 hy28 hy29 hy30 hy31 hy32 hy33 hy34 hy35 hy36 hy37 hy38
          go_wp2
          go_roundw
          case rel => exact ⟨k + 1, B, L, by omega, by (show _ = _); rw [hnext.out, hst.out, hs.out], by go_num, rfl, hg.trans hgu⟩
          case measure => simp [intOf]; omega
    · obtain rfl : k = n := by omega
      go_wp2
      go_ret
      refine ⟨ret_eq ?_, ((Gr.refl w).alloc _).trans hg⟩
      have : nearP tx ty l = B := by unfold nearP; rw [Hn.out, hst.out]
      rw [this]
      rfl

end Go.Proofs.Ytiidgmlmfjlaiaa
