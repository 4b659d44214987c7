/-
  Walks: Nearest of the chart.
-/
import Derived.Test.YtiidgmlmfjlaiaaQ
import Derived.Test.YtiidgmlmfjlaiaaRd
namespace Go.Proofs.Ytiidgmlmfjlaiaa
open Go.RowKit Fl Rg

/-- one more spot looked at: d how far it is, k its place; the best place so far, how far that is -/
def nearStep (d : Int) (k : Nat) (st : Int × Int) : Int × Int := if 0 ≤ d ∧ (st.1 < 0 ∨ d < st.2) then ((k : Int), d) else st
def nearTo (tx ty : Int) (l : List (Int × Int)) : Nat → Int × Int
  | 0 => (-1, 0)
  | k + 1 => nearStep (farP tx ty (l.getD k (0, 0)).1 (l.getD k (0, 0)).2) k (nearTo tx ty l k)
def nearP (tx ty : Int) (l : List (Int × Int)) : Int := (nearTo tx ty l l.length).1

theorem near_yes {d : Int} {k : Nat} {B L : Int} (h1 : 0 ≤ d) (h2 : B < 0 ∨ d < L) : nearStep d k (B, L) = ((k : Int), d) := by
  unfold nearStep; rw [if_pos ⟨h1, h2⟩]
theorem near_no {d : Int} {k : Nat} {B L : Int} (h : ¬ (0 ≤ d ∧ (B < 0 ∨ d < L))) : nearStep d k (B, L) = (B, L) := by
  unfold nearStep; rw [if_neg h]

set_option maxHeartbeats 4000000 in
theorem nearest_any (tx ty : Int) (l : List (Int × Int)) (n c : Nat) (A : Option Addr) (w : World) (hn : l.length = n) (hmax : n ≤ 9223372036854775807) (hr : Rd w A (pairCells l)) :
    Calls Try.prog 24 #[.agg #[.int .i64 tx, .int .i64 ty], .slice A n c] w fun e w' => e = .returned (.int .i64 (nearP tx ty l)) ∧ Gr w w' := by
  have Hn := Lib.hid hn
  have Hr := Lib.hid hr
  clear hn hr
  go_enter Try.func24, Try.ntmps24
  go_wp2
  go_loopw [5, 6, 12] (fun a b i wr => ∃ (k : Nat) (B L : Int), k ≤ n ∧ Hid (nearTo tx ty l k = (B, L)) ∧ i = .int .i64 k ∧ a = .int .i64 B ∧ b = .int .i64 L ∧ Gr (w.alloc (.cells #[.int .i64 tx, .int .i64 ty] 23)) wr) (fun _ _ i _ => n - (intOf i).toNat)
  case atStart => exact ⟨0, -1, 0, Nat.zero_le _, rfl, rfl, rfl, rfl, Gr.refl _⟩
  case round =>
    obtain ⟨k, B, L, hk, hst, rfl, rfl, rfl, hg⟩ := hrel
    by_cases hlt : k < n
    · have hb : Blk wr w.heap.size 23 #[.int .i64 tx, .int .i64 ty] := Blk.made rfl hg
      obtain ⟨a0, a1, _, _, _⟩ := hb.two
      obtain ⟨b, o, rfl, c0, c1⟩ := ((Hr.out.gr ((Gr.refl w).alloc (.cells #[.int .i64 tx, .int .i64 ty] 23))).gr hg).pair (k := k) (by rw [Hn.out]; exact hlt)
      generalize hp : l.getD k (0, 0) = p at c0 c1
      have Hp := Lib.hid hp
      clear hp
      go_wp2_with fail
      refine (far_any _ _ _ _ _).mono ?_
      rintro e w1 ⟨rfl, hg1⟩
      have hg2 := (hg.alloc _).trans hg1
      have hnext := Lib.hid (show nearTo tx ty l (k + 1) = nearStep (farP tx ty p.1 p.2) k (nearTo tx ty l k) by rw [← Hp.out]; rfl)
      clear hg1 a0 a1 c0 c1 hg
      generalize farP tx ty p.1 p.2 = d at *
      by_cases h1 : 0 ≤ d
      · by_cases h2 : B < 0
        · have hs := Lib.hid (near_yes (k := k) (L := L) h1 (.inl h2))
          go_wp2
          go_roundw
          case rel => exact ⟨k + 1, k, d, by omega, by (show _ = _); rw [hnext.out, hst.out, hs.out], by go_num, rfl, rfl, hg2⟩
          case measure => simp [intOf]; omega
        · by_cases h3 : d < L
          · have hs := Lib.hid (near_yes (k := k) (B := B) h1 (.inr h3))
            go_wp2
            go_roundw
            case rel => exact ⟨k + 1, k, d, by omega, by (show _ = _); rw [hnext.out, hst.out, hs.out], by go_num, rfl, rfl, hg2⟩
            case measure => simp [intOf]; omega
          · have hs := Lib.hid (near_no (d := d) (k := k) (B := B) (L := L) (by omega))
            go_wp2
            go_roundw
            case rel => exact ⟨k + 1, B, L, by omega, by (show _ = _); rw [hnext.out, hst.out, hs.out], by go_num, rfl, rfl, hg2⟩
            case measure => simp [intOf]; omega
      · have hs := Lib.hid (near_no (d := d) (k := k) (B := B) (L := L) (by omega))
        go_wp2
        go_roundw
        case rel => exact ⟨k + 1, B, L, by omega, by (show _ = _); rw [hnext.out, hst.out, hs.out], by go_num, rfl, rfl, hg2⟩
        case measure => simp [intOf]; omega
    · obtain rfl : k = n := by omega
      go_wp2
      go_ret
      refine ⟨ret_eq ?_, ((Gr.refl w).alloc _).trans hg⟩
      have : nearP tx ty l = B := by unfold nearP; rw [Hn.out, hst.out]
      rw [this]
      rfl

end Go.Proofs.Ytiidgmlmfjlaiaa
