/-
  Walks: Spiral out of range; the document's Spiral.
-/
import Derived.Test.YtiidgmlmfjlaiaaJ
namespace Go.Proofs.Ytiidgmlmfjlaiaa
open Go.RowKit Fl Rg Sp

set_option maxHeartbeats 1000000 in
theorem spiral_out (n : Int) (hn : n < 0 ∨ 10000 ≤ n) (w : World) :
    Calls Try.prog 9 #[.int .i64 n] w fun e w' => e = .returned (.tuple #[.agg #[.int .i64 0, .int .i64 0], .int .i64 1]) ∧ Gr w w' := by
  rcases hn with hn | hn
  · go_enter Try.func9, Try.ntmps9
    go_wp2
    go_step3
    go_wp2
    rw [Exit.noGoto_ret]
    refine bodyPost_ret (v := .tuple #[.agg #[.int .i64 0, .int .i64 0], .int .i64 1]) (by simp [results, Try.results9, go_sem]) rfl ⟨rfl, ?_⟩
    exact (Gr.refl w).alloc _
  · have h0 : ¬ n < 0 := by omega
    go_enter Try.func9, Try.ntmps9
    go_wp2
    go_step3
    go_wp2
    rw [Exit.noGoto_ret]
    refine bodyPost_ret (v := .tuple #[.agg #[.int .i64 0, .int .i64 0], .int .i64 1]) (by simp [results, Try.results9, go_sem]) rfl ⟨rfl, ?_⟩
    exact (Gr.refl w).alloc _

/-- the document's state at a leg's begin -/
def LegSt (n k m leg : Nat) (x y : Int) : Prop := m + k = n ∧ x = (sp k).x ∧ y = (sp k).y ∧ (m = 0 ∨ (leg = (sp k).leg ∧ (sp k).i = 0)) ∧ leg ≤ k + 1

/-- on a leg, i steps of it done -/
def StepSt (n k m leg i : Nat) (x y : Int) : Prop := m + k = n ∧ x = (sp k).x ∧ y = (sp k).y ∧ ((i < leg / 2 + 1 ∧ leg = (sp k).leg ∧ i = (sp k).i) ∨ (i = leg / 2 + 1 ∧ leg + 1 = (sp k).leg ∧ (sp k).i = 0)) ∧ leg ≤ k

theorem leg_in {n k m leg : Nat} {x y : Int} (h : LegSt n k m leg x y) (hm : 0 < m) : StepSt n k m leg 0 x y := by
  obtain ⟨h1, h2, h3, h4, h5⟩ := h
  have := sp_bound k
  rcases h4 with h4 | ⟨h4, h6⟩
  · omega
  · exact ⟨h1, h2, h3, .inl ⟨by omega, h4, h6.symm⟩, by omega⟩

theorem step_on {n k m leg i : Nat} {x y : Int} (h : StepSt n k m leg i x y) (hi : i < leg / 2 + 1) (hm : 0 < m) : StepSt n (k + 1) (m - 1) leg (i + 1) (x + dx leg) (y + dy leg) := by
  obtain ⟨h1, h2, h3, h4, h5⟩ := h
  rcases h4 with ⟨h4, h6, h7⟩ | ⟨h4, h6, h7⟩
  · have e : sp (k + 1) = (sp k).next := rfl
    unfold St.next at e
    by_cases hc : (sp k).i + 1 = (sp k).leg / 2 + 1
    · rw [if_pos hc] at e
      refine ⟨by omega, by rw [e, h2, h6], by rw [e, h3, h6], .inr ⟨by omega, by rw [e]; show leg + 1 = (sp k).leg + 1; omega, by rw [e]⟩, by omega⟩
    · rw [if_neg hc] at e
      refine ⟨by omega, by rw [e, h2, h6], by rw [e, h3, h6], .inl ⟨by omega, by rw [e]; exact h6, by rw [e]; show i + 1 = (sp k).i + 1; omega⟩, by omega⟩
  · omega

theorem leg_out {n k m leg i : Nat} {x y : Int} (h : StepSt n k m leg i x y) (hi : ¬ i < leg / 2 + 1 ∨ m = 0) : LegSt n k m (leg + 1) x y := by
  obtain ⟨h1, h2, h3, h4, h5⟩ := h
  refine ⟨h1, h2, h3, ?_, by omega⟩
  rcases h4 with ⟨h4, h6, h7⟩ | ⟨h4, h6, h7⟩
  · exact .inl (by omega)
  · exact .inr ⟨h6, h7⟩

theorem leg_start (n : Nat) : LegSt n 0 n 0 0 0 := ⟨rfl, rfl, rfl, .inr ⟨rfl, rfl⟩, by omega⟩

theorem leg_end {n k leg : Nat} {x y : Int} (h : LegSt n k 0 leg x y) : x = (sp n).x ∧ y = (sp n).y := by
  obtain ⟨h1, h2, h3, h4, h5⟩ := h
  have : k = n := by omega
  subst this
  exact ⟨h2, h3⟩

set_option maxHeartbeats 4000000 in
theorem rspiral_any (n : Nat) (hn : n < 10000) (w : World) :
    Calls Try.prog 12 #[.int .i64 (n : Int)] w fun e w' => e = .returned (.agg #[.int .i64 (sp n).x, .int .i64 (sp n).y]) ∧ Gr w w' := by
  go_enter Try.func12, Try.ntmps12
  go_wp2
  go_loopw [0, 4] (fun a b wr => ∃ (k m leg : Nat) (x y : Int), Hid (LegSt n k m leg x y) ∧ a = .int .i64 m ∧ b = .int .i64 leg ∧ wr = (w.alloc (.cells #[.int .i64 0, .int .i64 0] 29)).alloc (.cells #[.int .i64 x, .int .i64 y] 29)) (fun a _ _ => (intOf a).toNat)
  case atStart => exact ⟨0, n, 0, 0, 0, leg_start n, rfl, rfl, rfl⟩
  case round =>
    obtain ⟨k, m, leg, x, y, hs, rfl, rfl, rfl⟩ := hrel
    have b1 : m ≤ 10000 := by have := hs.out.1; omega
    have b2 : leg ≤ 10001 := by have := hs.out.1; have := hs.out.2.2.2.2; omega
    by_cases hm : 0 < m
    · have hin := Lib.hid (leg_in hs.out hm)
      go_wp2
      have bL : leg / 2 + 1 ≤ 10000 := by omega
      rw [show ((leg : Int) / 2 + 1) = ((leg / 2 + 1 : Nat) : Int) from by omega]
      obtain ⟨L, hL⟩ : ∃ L, L = leg / 2 + 1 := ⟨_, rfl⟩
      rw [← hL] at bL ⊢
      have HL := Lib.hid hL
      have hLp : 0 < L := by omega
      clear hL
      go_loopw [0, 6] (fun a c wr => ∃ (k' m' i : Nat) (x' y' : Int), Hid (StepSt n k' m' leg i x' y') ∧ Hid (m' + i = m) ∧ i ≤ L ∧ a = .int .i64 m' ∧ c = .int .i64 i ∧ wr = (w.alloc (.cells #[.int .i64 0, .int .i64 0] 29)).alloc (.cells #[.int .i64 x', .int .i64 y'] 29)) (fun _ c _ => L - (intOf c).toNat)
      case atStart => exact ⟨k, m, 0, x, y, hin.out, rfl, Nat.zero_le _, rfl, rfl, rfl⟩
      case round =>
        obtain ⟨k', m', i, x', y', hst, hmi, hiL, rfl, rfl, rfl⟩ := hrel
        have c1 : m' ≤ 10000 := by have := hmi.out; omega
        have c2 : -10000 ≤ x' ∧ x' ≤ 10000 ∧ -10000 ≤ y' ∧ y' ≤ 10000 := by
          have h1 := hst.out.1
          have h2 := hst.out.2.1
          have h3 := hst.out.2.2.1
          have h4 := sp_bound k'
          omega
        by_cases hi : i < L
        · by_cases hm' : 0 < m'
          · have hnext := Lib.hid (step_on hst.out (by have := HL.out; omega) hm')
            rcases (by omega : leg % 4 = 0 ∨ leg % 4 = 1 ∨ leg % 4 = 2 ∨ leg % 4 = 3) with hq | hq | hq | hq
            · have q0 : (((leg : Int) % 4) == 0) = true := by rw [beq_iff_eq]; omega
              have hd : dx leg = 1 ∧ dy leg = 0 := by unfold dx dy; rw [hq]; decide
              have Hd := Lib.hid hd
              clear hd hq
              go_wp2
              go_roundw
              case rel => exact ⟨k' + 1, m' - 1, i + 1, x' + 1, y', by (show StepSt _ _ _ _ _ _ _); have := hnext.out; rw [Hd.out.1, Hd.out.2, Int.add_zero] at this; exact this, by (show _ = _); have := hmi.out; omega, by omega, by go_num, by go_num, rfl⟩
              case measure => simp [intOf]; omega
            · have q0 : (((leg : Int) % 4) == 0) = false := by rw [beq_eq_false_iff_ne]; omega
              have q1 : (((leg : Int) % 4) == 1) = true := by rw [beq_iff_eq]; omega
              have hd : dx leg = 0 ∧ dy leg = 1 := by unfold dx dy; rw [hq]; decide
              have Hd := Lib.hid hd
              clear hd hq
              go_wp2
              go_roundw
              case rel => exact ⟨k' + 1, m' - 1, i + 1, x', y' + 1, by (show StepSt _ _ _ _ _ _ _); have := hnext.out; rw [Hd.out.1, Hd.out.2, Int.add_zero] at this; exact this, by (show _ = _); have := hmi.out; omega, by omega, by go_num, by go_num, rfl⟩
              case measure => simp [intOf]; omega
            · have q0 : (((leg : Int) % 4) == 0) = false := by rw [beq_eq_false_iff_ne]; omega
              have q1 : (((leg : Int) % 4) == 1) = false := by rw [beq_eq_false_iff_ne]; omega
              have q2 : (((leg : Int) % 4) == 2) = true := by rw [beq_iff_eq]; omega
              have hd : dx leg = -1 ∧ dy leg = 0 := by unfold dx dy; rw [hq]; decide
              have Hd := Lib.hid hd
              clear hd hq
              go_wp2
              go_roundw
              case rel => exact ⟨k' + 1, m' - 1, i + 1, x' - 1, y', by (show StepSt _ _ _ _ _ _ _); have := hnext.out; rw [Hd.out.1, Hd.out.2, Int.add_zero] at this; exact this, by (show _ = _); have := hmi.out; omega, by omega, by go_num, by go_num, rfl⟩
              case measure => simp [intOf]; omega
            · have q0 : (((leg : Int) % 4) == 0) = false := by rw [beq_eq_false_iff_ne]; omega
              have q1 : (((leg : Int) % 4) == 1) = false := by rw [beq_eq_false_iff_ne]; omega
              have q2 : (((leg : Int) % 4) == 2) = false := by rw [beq_eq_false_iff_ne]; omega
              have hd : dx leg = 0 ∧ dy leg = -1 := by unfold dx dy; rw [hq]; decide
              have Hd := Lib.hid hd
              clear hd hq
              go_wp2
              go_roundw
              case rel => exact ⟨k' + 1, m' - 1, i + 1, x', y' - 1, by (show StepSt _ _ _ _ _ _ _); have := hnext.out; rw [Hd.out.1, Hd.out.2, Int.add_zero] at this; exact this, by (show _ = _); have := hmi.out; omega, by omega, by go_num, by go_num, rfl⟩
              case measure => simp [intOf]; omega
          · have hz : m' = 0 := by omega
            have hout := Lib.hid (leg_out hst.out (.inr hz))
            go_wp2
            go_roundw
            case rel => exact ⟨k', m', leg + 1, x', y', hout.out, rfl, by go_num, rfl⟩
            case measure => simp [intOf]; omega
        · have hout := Lib.hid (leg_out hst.out (.inl (by have := HL.out; omega)))
          have hmm : m' < m := by have := hmi.out; omega
          go_wp2
          go_roundw
          case rel => exact ⟨k', m', leg + 1, x', y', hout.out, rfl, by go_num, rfl⟩
          case measure => simp [intOf]; omega
    · obtain rfl : m = 0 := by omega
      have he := Lib.hid (leg_end hs.out)
      go_wp2
      refine bodyPost_ret (v := .agg #[.int .i64 x, .int .i64 y]) (by simp [results, Try.results12, go_sem]) rfl ⟨?_, ?_⟩
      · rw [he.out.1, he.out.2]
      · exact ((Gr.refl w).alloc _).alloc _

end Go.Proofs.Ytiidgmlmfjlaiaa
