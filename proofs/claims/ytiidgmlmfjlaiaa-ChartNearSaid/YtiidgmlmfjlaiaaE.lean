/-
  Walks: Side; the document's functions without a loop.
-/
import Derived.Test.YtiidgmlmfjlaiaaD
namespace Go.Proofs.Ytiidgmlmfjlaiaa
open Go.RowKit Fl Rg

def onW (ax ay bx by' cx cy : Int) : Bool := inB ax ay && (inB bx by' && inB cx cy)
def crossP (ax ay bx by' cx cy : Int) : Int := (bx - ax) * (cy - ay) - (by' - ay) * (cx - ax)
def sideP (ax ay bx by' cx cy : Int) : Int := if onW ax ay bx by' cx cy = true then (if 0 < crossP ax ay bx by' cx cy then 1 else if crossP ax ay bx by' cx cy < 0 then -1 else 0) else 0

theorem onW_bounds {ax ay bx by' cx cy : Int} (h : onW ax ay bx by' cx cy = true) : (-1000 ≤ ax ∧ ax ≤ 1000 ∧ -1000 ≤ ay ∧ ay ≤ 1000) ∧ (-1000 ≤ bx ∧ bx ≤ 1000 ∧ -1000 ≤ by' ∧ by' ≤ 1000) ∧ (-1000 ≤ cx ∧ cx ≤ 1000 ∧ -1000 ≤ cy ∧ cy ≤ 1000) := by
  unfold onW at h
  rw [Bool.and_eq_true, Bool.and_eq_true] at h
  exact ⟨inB_bounds h.1, inB_bounds h.2.1, inB_bounds h.2.2⟩

theorem compare_gt (a b : Int) : (compare a b == Ordering.gt) = decide (b < a) := by
  simp only [compare, compareOfLessAndEq]
  by_cases h1 : a < b
  · rw [if_pos h1, decide_eq_false (by omega)]; rfl
  · rw [if_neg h1]
    by_cases h2 : a = b
    · rw [if_pos h2, decide_eq_false (by omega)]; rfl
    · rw [if_neg h2, decide_eq_true (by omega)]; rfl
theorem compare_lt (a b : Int) : (compare a b == Ordering.lt) = decide (a < b) := by
  simp only [compare, compareOfLessAndEq]
  by_cases h1 : a < b
  · rw [if_pos h1, decide_eq_true h1]; rfl
  · rw [if_neg h1, decide_eq_false h1]
    by_cases h2 : a = b
    · rw [if_pos h2]; rfl
    · rw [if_neg h2]; rfl

theorem ord_gt {b : Nat} {a : Int} (h : Rep b a) (c : Bool) (hc : decide (0 < a) = c) : (FloatKind.f64.format.order b 0 == some Ordering.gt) = c := by
  subst hc
  rw [rep_order h rep_zero, Option.some_beq_some, compare_gt]
theorem ord_lt {b : Nat} {a : Int} (h : Rep b a) (c : Bool) (hc : decide (a < 0) = c) : (FloatKind.f64.format.order b 0 == some Ordering.lt) = c := by
  subst hc
  rw [rep_order h rep_zero, Option.some_beq_some, compare_lt]

def CplxV (x y : Int) (v : Value) : Prop := ∃ p q, Rep p x ∧ Rep q y ∧ v = .complex .f64 p q
def ImagV (y : Int) (v : Value) : Prop := ∃ p q, Rep q y ∧ v = .complex .f64 p q
def FltV (y : Int) (v : Value) : Prop := ∃ q, Rep q y ∧ v = .float .f64 q
def sideV (re im : Nat) (ax ay cx cy cr : Int) (i : Nat) (v : Value) : Prop :=
  match i with
  | 0 => v = .complex .f64 re im
  | 1 => v = .float .f64 re
  | 2 => v = .complex .f64 re im
  | 3 => v = .float .f64 im
  | 4 => v = .float .f64 (Op.negFloat .f64 im)
  | 5 => v = .complex .f64 re (Op.negFloat .f64 im)
  | 6 => v = .agg #[.int .i64 cx, .int .i64 cy]
  | 7 => CplxV cx cy v
  | 8 => v = .agg #[.int .i64 ax, .int .i64 ay]
  | 9 => CplxV ax ay v
  | 10 => CplxV (cx - ax) (cy - ay) v
  | 11 => ImagV cr v
  | 12 => FltV cr v
  | 13 => FltV cr v
  | _ => True

set_option maxHeartbeats 4000000 in
theorem side_any (ax ay bx by' cx cy : Int) (w : World) :
    Calls Try.prog 26 #[.agg #[.int .i64 ax, .int .i64 ay], .agg #[.int .i64 bx, .int .i64 by'], .agg #[.int .i64 cx, .int .i64 cy]] w fun e w' => e = .returned (.int .i64 (sideP ax ay bx by' cx cy)) ∧ Gr w w' := by
  go_enter Try.func26, Try.ntmps26
  go_wp2_with fail
  refine (on_any [(ax, ay), (bx, by'), (cx, cy)] 3 _ _ rfl (by omega) ?_ ?_).mono ?_
  · intro i hi
    match i, hi with
    | 0, _ => go_simp
    | 1, _ => go_simp
    | 2, _ => go_simp
  · intro i hi
    match i, hi with
    | 0, _ => go_simp
    | 1, _ => go_simp
    | 2, _ => go_simp
  rintro e w1 ⟨rfl, hb1⟩
  have hg : Gr w w1 := Gr.trans (((((Gr.refl w).alloc _).alloc _).alloc _).alloc _) hb1
  have k3 : Gr _ w1 := Gr.trans ((Gr.refl _).alloc _) hb1
  have k2 : Gr _ w1 := Gr.trans ((Gr.refl _).alloc _) k3
  have k1 : Gr _ w1 := Gr.trans ((Gr.refl _).alloc _) k2
  have B1 : Blk w1 (w.heap.size) 23 #[.int .i64 ax, .int .i64 ay] := Blk.made (by simp) k1
  have B2 : Blk w1 (w.heap.size + 1) 23 #[.int .i64 bx, .int .i64 by'] := Blk.made (by simp) k2
  have B3 : Blk w1 (w.heap.size + 1 + 1) 23 #[.int .i64 cx, .int .i64 cy] := Blk.made (by simp) k3
  clear hb1 k1 k2 k3
  have hall : ([(ax, ay), (bx, by'), (cx, cy)].all fun p => inB p.1 p.2) = onW ax ay bx by' cx cy := by simp [onW]
  rw [hall]
  clear hall
  by_cases hin : onW ax ay bx by' cx cy = true
  · have Hin := Lib.hid hin
    simp only [hin]
    clear hin
    go_wp2
    obtain ⟨a0, a1, _, _, _⟩ := B1.two
    obtain ⟨b0, b1, _, _, _⟩ := B2.two
    obtain ⟨c0, c1, _, _, _⟩ := B3.two
    have bd := onW_bounds Hin.out
    go_region_held3 (fun u => u.cell? ⟨w.heap.size, 0, none⟩ = some (.int .i64 ax) ∧ u.cell? ⟨w.heap.size, 1, none⟩ = some (.int .i64 ay) ∧ u.cell? ⟨w.heap.size + 1, 0, none⟩ = some (.int .i64 bx) ∧ u.cell? ⟨w.heap.size + 1, 1, none⟩ = some (.int .i64 by'))
      (first | (go_keep; done) | (go_split_ands; refine ⟨Gr.cell hb1 ?_, Gr.cell hb1 ?_, Gr.cell hb1 ?_, Gr.cell hb1 ?_⟩ <;> assumption))
      (first
        | (go_at_call_of 31 (Value.int .i64 bx); refine (at_any _ _ ?_ ?_ _).mono ?_; omega; omega; rintro e w2 ⟨⟨re2, im2, g1, g2, rfl⟩, hb1⟩; have hg2 : Gr w1 w2 := Gr.trans ((Gr.refl _).drawn _) hb1)
        | (go_at_call_of 31 (Value.int .i64 ax); refine (at_any _ _ ?_ ?_ _).mono ?_; omega; omega; rintro e w3 ⟨⟨re3, im3, g3, g4, rfl⟩, hb1⟩; have hg3 : Gr w1 w3 := Gr.trans hg2 hb1
           obtain ⟨re, im, hc, g5, g6⟩ := rep_cdiff g1 g2 g3 g4 (by omega) (by omega)
           have hrun := run_csum .sub (.inr rfl) hc))
    have a0' := hg3.cell a0
    have a1' := hg3.cell a1
    have c0' := hg3.cell c0
    have c1' := hg3.cell c1
    have hneg := run_negf im
    clear a0 a1 b0 b1 c0 c1
    go_wp2
    have crossE : (bx - ax) * (cy - ay) + -(by' - ay) * (cx - ax) = crossP ax ay bx by' cx cy := by
      unfold crossP; rw [Int.neg_mul]; rfl
    refine wp_region_K [20, 21, 22, 23, 24, 25, 26, 27, 28, 29, 30, 31, 32, 8] (fun u => Gr w3 u) (fun _ a b => Gr a b) (fun i v _ => sideV re im ax ay cx cy (crossP ax ay bx by' cx cy) i v)
      (by kernel_rfl) (by kernel_rfl) ((Gr.refl _).drew) (fun _ _ _ h k => h.trans k) (fun _ _ _ _ _ _ _ h _ => h) ?_ ?_
    · intro i
      match i with
      | 0 =>
        intro o ho x u hJ hd K hK
        simp at ho; subst ho
        refine wpOp_of rfl rfl ?_
        clear hd
        simp [frame, fill, Act.put, sideV] at hK ⊢
        go_simp
        exact hK _ _ (Gr.refl _) rfl
      | 1 =>
        intro o ho x u hJ hd K hK
        simp at ho; subst ho
        refine wpOp_of rfl rfl ?_
        simp [val, Region.binds, sideV] at hd
        simp [frame, fill, Act.put, sideV, hd] at hK ⊢
        go_simp
        exact hK _ _ (Gr.refl _) rfl
      | 2 =>
        intro o ho x u hJ hd K hK
        simp at ho; subst ho
        refine wpOp_of rfl rfl ?_
        clear hd
        simp [frame, fill, Act.put, sideV] at hK ⊢
        go_simp
        exact hK _ _ (Gr.refl _) rfl
      | 3 =>
        intro o ho x u hJ hd K hK
        simp at ho; subst ho
        refine wpOp_of rfl rfl ?_
        simp [val, Region.binds, sideV] at hd
        simp [frame, fill, Act.put, sideV, hd] at hK ⊢
        go_simp
        exact hK _ _ (Gr.refl _) rfl
      | 4 =>
        intro o ho x u hJ hd K hK
        simp at ho; subst ho
        refine wpOp_of rfl rfl ?_
        simp [val, Region.binds, sideV] at hd
        simp [frame, fill, Act.put, sideV, hd] at hK ⊢
        go_simp
        exact hK _ _ (Gr.refl _) rfl
      | 5 =>
        intro o ho x u hJ hd K hK
        simp at ho; subst ho
        refine wpOp_of rfl rfl ?_
        simp [val, Region.binds, sideV] at hd
        obtain ⟨h1, h2⟩ := hd
        simp [frame, fill, Act.put, sideV, h1, h2] at hK ⊢
        go_simp
        exact hK _ _ (Gr.refl _) rfl
      | 6 =>
        intro o ho x u hJ hd K hK
        simp at ho; subst ho
        refine wpOp_of rfl rfl ?_
        clear hd
        have k0 := hJ.cell c0'
        have k1 := hJ.cell c1'
        simp [frame, fill, Act.put, sideV] at hK ⊢
        go_simp
        exact hK _ _ (Gr.refl _) rfl
      | 7 =>
        intro o ho x u hJ hd K hK
        simp at ho; subst ho
        refine wpOp_of rfl rfl ?_
        simp [val, Region.binds, sideV] at hd
        simp [frame, fill, Act.put, sideV, hd] at hK ⊢
        go_simp
        refine (at_any _ _ (by omega) (by omega) _).mono ?_
        rintro e w4 ⟨⟨re4, im4, g7, g8, rfl⟩, hb1⟩
        exact hK _ _ hb1 ⟨_, _, g7, g8, rfl⟩
      | 8 =>
        intro o ho x u hJ hd K hK
        simp at ho; subst ho
        refine wpOp_of rfl rfl ?_
        clear hd
        have k0 := hJ.cell a0'
        have k1 := hJ.cell a1'
        simp [frame, fill, Act.put, sideV] at hK ⊢
        go_simp
        exact hK _ _ (Gr.refl _) rfl
      | 9 =>
        intro o ho x u hJ hd K hK
        simp at ho; subst ho
        refine wpOp_of rfl rfl ?_
        simp [val, Region.binds, sideV] at hd
        obtain ⟨hd, hrest⟩ := hd
        clear hrest
        simp [frame, fill, Act.put, sideV, hd] at hK ⊢
        go_simp
        refine (at_any _ _ (by omega) (by omega) _).mono ?_
        rintro e w4 ⟨⟨re4, im4, g7, g8, rfl⟩, hb1⟩
        exact hK _ _ hb1 ⟨_, _, g7, g8, rfl⟩
      | 10 =>
        intro o ho x u hJ hd K hK
        simp at ho; subst ho
        refine wpOp_of rfl rfl ?_
        simp [val, Region.binds, sideV] at hd
        obtain ⟨⟨p1, q1, g7, g8, h1⟩, ⟨p2, q2, g9, g10, h2⟩⟩ := hd
        obtain ⟨p3, q3, hc2, g11, g12⟩ := rep_cdiff g7 g8 g9 g10 (by omega) (by omega)
        have hrun2 := run_csum .sub (.inr rfl) hc2
        simp [frame, fill, Act.put, sideV, h1, h2] at hK ⊢
        clear h1 h2
        go_simp
        exact hK _ _ (Gr.refl _) ⟨_, _, g11, g12, rfl⟩
      | 11 =>
        intro o ho x u hJ hd K hK
        simp at ho; subst ho
        refine wpOp_of rfl rfl ?_
        simp [val, Region.binds, sideV] at hd
        obtain ⟨h1, ⟨p2, q2, g11, g12, h2⟩⟩ := hd
        obtain ⟨p3, q3, hc2, g13, g14⟩ := rep_cmul g5 (rep_neg g6) g11 g12 (by omega) (by omega) (by omega) (by omega)
        have hrun2 := run_cmul hc2
        simp [frame, fill, Act.put, sideV, h1, h2] at hK ⊢
        clear h1 h2
        go_simp
        exact hK _ _ (Gr.refl _) ⟨_, _, by rw [← crossE]; exact g14, rfl⟩
      | 12 =>
        intro o ho x u hJ hd K hK
        simp at ho; subst ho
        refine wpOp_of rfl rfl ?_
        simp [val, Region.binds, sideV] at hd
        obtain ⟨p2, q2, g11, h2⟩ := hd
        simp [frame, fill, Act.put, sideV, h2] at hK ⊢
        clear h2
        go_simp
        exact hK _ _ (Gr.refl _) ⟨_, g11, rfl⟩
      | 13 =>
        intro o ho x u hJ hd K hK
        simp at ho; subst ho
        refine wpOp_of rfl rfl ?_
        simp [val, Region.binds, sideV] at hd
        obtain ⟨⟨q2, g11, h2⟩, hrest⟩ := hd
        clear hrest
        simp [frame, fill, Act.put, sideV, h2] at hK ⊢
        clear h2
        go_simp
        exact hK _ _ (Gr.refl _) ⟨_, g11, rfl⟩
      | n + 14 =>
        intro o ho
        simp at ho
    · intro x w5 hJ5 hall
      have hfin := hall 13 (by simp)
      simp [val, sideV] at hfin
      obtain ⟨im6, g14, h6⟩ := hfin
      simp [frame, fill, h6]
      clear hall h6
      have hgg : Gr w w5 := (hg.trans hg3).trans hJ5
      have hs : sideP ax ay bx by' cx cy = (if 0 < crossP ax ay bx by' cx cy then 1 else if crossP ax ay bx by' cx cy < 0 then -1 else 0) := by
        unfold sideP; rw [if_pos Hin.out]
      have Hs := Lib.hid hs
      clear hs crossE
      generalize crossP ax ay bx by' cx cy = c at *
      by_cases hp : 0 < c
      · have t1 := ord_gt g14 true (by simpa using hp)
        have Hp := Lib.hid hp
        clear hp g1 g2 g3 g4 g5 g6 g14 bd hc
        go_wp2
        go_ret
        exact ⟨ret_eq (by rw [Hs.out, if_pos Hp.out]; rfl), hgg⟩
      · by_cases hn : c < 0
        · have t1 := ord_gt g14 false (by simpa using hp)
          have t2 := ord_lt g14 true (by simpa using hn)
          have Hp := Lib.hid hp
          have Hn := Lib.hid hn
          clear hp hn g1 g2 g3 g4 g5 g6 g14 bd hc
          go_wp2
          go_ret
          exact ⟨ret_eq (by rw [Hs.out, if_neg (by have := Hp.out; omega), if_pos Hn.out]; rfl), hgg⟩
        · have t1 := ord_gt g14 false (by simpa using hp)
          have t2 := ord_lt g14 false (by simpa using hn)
          have Hp := Lib.hid hp
          have Hn := Lib.hid hn
          clear hp hn g1 g2 g3 g4 g5 g6 g14 bd hc
          go_wp2
          go_ret
          exact ⟨ret_eq (by rw [Hs.out, if_neg (by have := Hp.out; omega), if_neg (by have := Hn.out; omega)]; rfl), hgg⟩
  · have hf : onW ax ay bx by' cx cy = false := by simpa using hin
    have Hin := Lib.hid hin
    simp only [hf]
    clear hin hf
    go_wp2
    go_ret
    exact ⟨ret_eq (by unfold sideP; rw [if_neg Hin.out]; rfl), hg⟩

end Go.Proofs.Ytiidgmlmfjlaiaa
