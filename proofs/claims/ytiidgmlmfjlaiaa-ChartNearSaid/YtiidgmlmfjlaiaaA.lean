/-
  Walks: the leaves of chart.
-/
import Derived.Test.YtiidgmlmfjlaiaaRows
import Derived.Test.YtiidgmlmfjlaiaaFl
import Derived.Test.YtiidgmlmfjlaiaaMem
import Derived.Test.YtiidgmlmfjlaiaaReg
import Derived.Laws.Cover3
namespace Go.Proofs.Ytiidgmlmfjlaiaa
open Go.RowKit Fl

def inB (x y : Int) : Bool := decide (-1000 ≤ x) && (decide (x ≤ 1000) && (decide (-1000 ≤ y) && decide (y ≤ 1000)))

theorem inB_bounds {x y : Int} (h : inB x y = true) : -1000 ≤ x ∧ x ≤ 1000 ∧ -1000 ≤ y ∧ y ≤ 1000 := by
  unfold inB at h
  simp only [Bool.and_eq_true, decide_eq_true_eq] at h
  exact ⟨h.1, h.2.1, h.2.2.1, h.2.2.2⟩

set_option maxHeartbeats 400000 in
theorem in_any (x y : Int) (w : World) :
    Calls Try.prog 34 #[.agg #[.int .i64 x, .int .i64 y]] w fun e w' => e = .returned (.bool (inB x y)) ∧ Below w.heap.size w w' := by
  go_enter Try.func34, Try.ntmps34
  go_wp2
  all_goals go_ret
  all_goals refine ⟨ret_eq ?_, (Below.refl _ _).alloc (Nat.le_refl _) _⟩
  all_goals simp [inB, *]
  all_goals omega

theorem conv_rep (x : Int) (h : x.natAbs < 9007199254740992) : ∃ b, Rep b x ∧ ∀ (w : World), (convert 3 59 (.int .i64 x)).run Try.prog w = .ok (.float .f64 b) w :=
  ⟨_, rep_of_int x h, fun w => by
    simp [convert, run_underlying Try.underlying3, run_underlying Try.underlying59, Conv.intToFloat]⟩

set_option maxHeartbeats 400000 in
theorem at_any (x y : Int) (hx : x.natAbs < 9007199254740992) (hy : y.natAbs < 9007199254740992) (w : World) :
    Calls Try.prog 31 #[.agg #[.int .i64 x, .int .i64 y]] w fun e w' => (∃ re im, Rep re x ∧ Rep im y ∧ e = .returned (.complex .f64 re im)) ∧ Below w.heap.size w w' := by
  obtain ⟨bx, hbx, cx⟩ := conv_rep x hx
  obtain ⟨by', hby, cy⟩ := conv_rep y hy
  have Hx := Lib.hid hbx
  have Hy := Lib.hid hby
  clear hbx hby hx hy
  go_enter Try.func31, Try.ntmps31
  go_wp2
  go_ret
  exact ⟨⟨bx, by', Hx.out, Hy.out, rfl⟩, (Below.refl _ _).alloc (Nat.le_refl _) _⟩

theorem conv_back {b : Nat} {x : Int} (hb : Rep b x) (h : x.natAbs < 9007199254740992) : ∀ (w : World), (convert 59 3 (.float .f64 b)).run Try.prog w = .ok (.int .i64 x) w :=
  fun w => run_convert_float_int w _ _ _ _ b x (by rw [Try.underlying59]; rfl) Try.underlying3 (rep_floatToInt hb h)

set_option maxHeartbeats 400000 in
theorem spot_any (re im : Nat) (x y : Int) (hre : Rep re x) (him : Rep im y) (hx : x.natAbs < 9007199254740992) (hy : y.natAbs < 9007199254740992) (w : World) :
    Calls Try.prog 28 #[.complex .f64 re im] w fun e w' => e = .returned (.agg #[.int .i64 x, .int .i64 y]) ∧ Below w.heap.size w w' := by
  have cx := conv_back hre hx
  have cy := conv_back him hy
  clear hre him hx hy
  go_enter Try.func28, Try.ntmps28
  go_wp2
  exact bodyPost_ret (v := .agg #[.int .i64 x, .int .i64 y]) (by simp [results, Try.results28, go_sem]) rfl ⟨rfl, (Gr.refl _).alloc _⟩

/-- a struct result, out of memory -/
theorem in_len (l : List (Int × Int)) (i : Nat) (h : i < l.length) : l.take (i + 1) = l.take i ++ [l.getD i (0, 0)] := by
  rw [List.take_succ_eq_append_getElem h, List.getD_eq_getElem?_getD, List.getElem?_eq_getElem h]; rfl

set_option maxHeartbeats 400000 in
theorem on_any (l : List (Int × Int)) (n b : Nat) (w : World) (hn : l.length = n) (hn3 : n ≤ 3)
    (hx : ∀ i, i < n → w.cell? ⟨b, i * 2, none⟩ = some (.int .i64 (l.getD i (0, 0)).1)) (hy : ∀ i, i < n → w.cell? ⟨b, i * 2 + 1, none⟩ = some (.int .i64 (l.getD i (0, 0)).2)) :
    Calls Try.prog 29 #[.slice (some ⟨b, 0, none⟩) n n] w fun e w' => e = .returned (.bool (l.all fun p => inB p.1 p.2)) ∧ Below w.heap.size w w' := by
  have Hx := Lib.hid hx
  have Hy := Lib.hid hy
  have Hn := Lib.hid hn
  clear hx hy hn
  go_enter Try.func29, Try.ntmps29
  go_wp2
  go_loopw [7] (fun i wr => ∃ k : Nat, k ≤ n ∧ i = .int .i64 k ∧ Hid (((l.take k).all fun p => inB p.1 p.2) = true) ∧ Below w.heap.size w wr) (fun i _ => n - (intOf i).toNat)
  case atStart => exact ⟨0, Nat.zero_le _, rfl, rfl, Below.refl _ _⟩
  case round =>
    obtain ⟨k, hk, rfl, hall, hb⟩ := hrel
    by_cases hlt : k < n
    · have hcx := Hx.out k hlt
      have hcy := Hy.out k hlt
      have hbl : b < w.heap.size := World.block_lt_of_cell? w _ hcx
      have hcx' : wr.cell? ⟨b, k * 2, none⟩ = some (.int .i64 (l.getD k (0, 0)).1) := (hb.cell hbl).trans hcx
      have hcy' : wr.cell? ⟨b, k * 2 + 1, none⟩ = some (.int .i64 (l.getD k (0, 0)).2) := (hb.cell hbl).trans hcy
      clear hcx hcy
      generalize hp : l.getD k (0, 0) = p at hcx' hcy'
      have Hp := Lib.hid hp
      clear hp
      have Htake := Lib.hid (in_len l k (by rw [Hn.out]; exact hlt))
      go_wp2_with fail
      refine (in_any _ _ _).mono ?_
      rintro e w1 ⟨rfl, hb1⟩
      have hg : Gr w w1 := Gr.trans (Gr.alloc hb _) hb1
      clear hb1 hcx' hcy' hb
      by_cases hin : inB p.1 p.2 = true
      · have Hin := Lib.hid hin
        simp only [hin]
        clear hin
        go_wp2
        go_roundw
        case rel => exact ⟨k + 1, by omega, by go_num, (by show _ = true; rw [Htake.out, List.all_append, hall.out, Hp.out]; simpa using Hin.out), hg⟩
        case measure => simp [intOf]; omega
      · have hf : inB p.1 p.2 = false := by simpa using hin
        have Hin := Lib.hid hf
        simp only [hf]
        clear hin hf
        go_wp2
        go_ret
        refine ⟨ret_eq ?_, hg⟩
        have : (l.all fun p => inB p.1 p.2) = false := by
          rw [List.all_eq_false]
          refine ⟨p, ?_, by simpa using Hin.out⟩
          have h1 := Hp.out
          have h2 : k < l.length := by rw [Hn.out]; exact hlt
          rw [List.getD_eq_getElem?_getD, List.getElem?_eq_getElem h2] at h1
          rw [← h1]; exact List.getElem_mem h2
        rw [this]
        rfl
    · obtain rfl : k = n := by omega
      go_wp2
      go_ret
      refine ⟨ret_eq ?_, hb⟩
      have := hall.out
      rw [List.take_of_length_le (by rw [Hn.out]; omega)] at this
      rw [this]
      rfl

end Go.Proofs.Ytiidgmlmfjlaiaa
