/-
  Walks: up, step, New, Loose, Steps, Down, Fuse, Erase of the slab.
-/
import Derived.Test.YtjpmepjafkodeaaA
import Derived.Test.YtjpmepjafkodeaaRow
namespace Go.Proofs.Ytjpmepjafkodeaa
open Go.RowKit

theorem Tur.set (w : World) (g i : Nat) (v : Value) : Tur (· = g) w (w.setCell ⟨g, i, none⟩ v) :=
  ⟨rfl, rfl, rfl, by simp, fun k _ hk => heap_setCell_other w ⟨g, i, none⟩ k v hk⟩
theorem Tur.trans' {F : Nat → Prop} {a b c : World} (h : Tur F a b) (k : Tur F b c) : Tur F a c := h.trans k (fun _ hx => .inl hx)
theorem Tur.weak {F G : Nat → Prop} {a b : World} (h : Tur F a b) (hF : ∀ x, F x → G x) : Tur G a b := ⟨h.os, h.tape, h.output, h.size, fun k hk hn => h.block k hk (fun hf => hn (hF k hf))⟩

/-- one step: the answer, how many steps, the fuse, is the power gone -/
def stepP (st fu : Int) (dn : Bool) : Int × Int × Int × Bool := if fu = 0 then (5, st, fu, true) else if 0 < fu then (0, st + 1, fu - 1, dn) else (0, st + 1, fu, dn)

/-- what step leaves -/
def StepPost (g : Nat) (vs vl : Value) (st fu : Int) (dn : Bool) (w : World) (e : Ending) (w' : World) : Prop :=
  ∃ er st' fu' dn', stepP st fu dn = (er, st', fu', dn') ∧ e = .returned (.int .i64 er) ∧ Blk w' g 74 #[vs, vl, .int .i64 st', .int .i64 fu', .bool dn'] ∧ Tur (· = g) w w'
theorem StepPost.mk {g : Nat} {vs vl : Value} {st fu : Int} {dn : Bool} {w : World} {e : Ending} {w' : World} (er st' fu' : Int) (dn' : Bool) (h1 : stepP st fu dn = (er, st', fu', dn')) (h2 : e = .returned (.int .i64 er))
    (h3 : Blk w' g 74 #[vs, vl, .int .i64 st', .int .i64 fu', .bool dn']) (h4 : Tur (· = g) w w') : StepPost g vs vl st fu dn w e w' := ⟨er, st', fu', dn', h1, h2, h3, h4⟩

section
variable (g : Nat) (vs vl : Value) (st fu : Int) (dn : Bool) (w : World)

set_option maxHeartbeats 4000000 in
theorem up_any (hb : Blk w g 74 #[vs, vl, .int .i64 st, .int .i64 fu, .bool dn]) :
    Calls Try.prog 43 #[.pointer (some ⟨g, 0, none⟩)] w fun e w' => e = .returned (.int .i64 (if dn = true then 5 else 0)) ∧ Gr w w' := by
  obtain ⟨c0, c1, c2, c3, c4⟩ := Sl.five hb
  clear hb
  cases dn
  · go_enter Try.func43, Try.ntmps43
    go_wp2
    go_ret
    exact ⟨rfl, Gr.refl _⟩
  · go_enter Try.func43, Try.ntmps43
    go_wp2
    go_ret
    exact ⟨rfl, Gr.refl _⟩

set_option maxHeartbeats 4000000 in
theorem up_nil : Calls Try.prog 43 #[.pointer none] w fun e w' => e = .returned (.int .i64 2) ∧ Gr w w' := by
  go_enter Try.func43, Try.ntmps43
  go_wp2
  go_ret
  exact ⟨rfl, Gr.refl _⟩

set_option maxHeartbeats 8000000 in
theorem step_any (hst : 0 ≤ st) (hst2 : st < 9223372036854775807) (hfu : fu ≤ 9223372036854775807) (hb : Blk w g 74 #[vs, vl, .int .i64 st, .int .i64 fu, .bool dn]) :
    Calls Try.prog 44 #[.pointer (some ⟨g, 0, none⟩)] w (StepPost g vs vl st fu dn w) := by
  obtain ⟨c0, c1, c2, c3, c4⟩ := Sl.five hb
  have t2 := hb.thaw 2
  have t3 := hb.thaw 3
  have t4 := hb.thaw 4
  have Hb := Lib.hid hb
  clear hb
  by_cases h0 : fu = 0
  · subst h0
    go_enter Try.func44, Try.ntmps44
    go_wp2
    go_ret
    exact .mk 5 st 0 true rfl rfl (Hb.out.set 4 _) (Tur.set _ _ _ _)
  · by_cases h1 : 0 < fu
    · have h0b : ((fu : Int) == 0) = false := by simpa using h0
      have hw1 : IntKind.i64.wrap (fu - 1) = fu - 1 := IntWalk.i64_in _ (by omega)
      have hw2 : IntKind.i64.wrap (st + 1) = st + 1 := IntWalk.i64_in _ (by omega)
      go_enter Try.func44, Try.ntmps44
      go_wp2
      go_ret
      exact .mk 0 (st + 1) (fu - 1) dn (by unfold stepP; rw [if_neg h0, if_pos h1]) rfl ((Hb.out.set 3 _).set 2 _) ((Tur.set _ _ _ _).trans' (Tur.set _ _ _ _))
    · have h0b : ((fu : Int) == 0) = false := by simpa using h0
      have h1b : decide (0 < fu) = false := decide_eq_false h1
      have hw2 : IntKind.i64.wrap (st + 1) = st + 1 := IntWalk.i64_in _ (by omega)
      go_enter Try.func44, Try.ntmps44
      go_wp2
      go_ret
      exact .mk 0 (st + 1) fu dn (by unfold stepP; rw [if_neg h0, if_neg (by omega)]) rfl (Hb.out.set 2 _) (Tur.set _ _ _ _)
end

set_option maxHeartbeats 4000000 in
theorem new_any (w : World) :
    Calls Try.prog 11 #[] w fun e w' => e = .returned (.pointer (some ⟨w.heap.size, 0, none⟩)) ∧ w' = w.alloc (.cells #[.slice none 0 0, .slice none 0 0, .int .i64 0, .int .i64 (-1), .bool false] 74) := by
  go_enter Try.func11, Try.ntmps11
  go_wp2
  go_ret
  exact ⟨rfl, rfl⟩

section
variable (g : Nat) (vs vl : Value) (st fu : Int) (dn : Bool) (w : World)
set_option maxHeartbeats 4000000 in
theorem steps_any (hb : Blk w g 74 #[vs, vl, .int .i64 st, .int .i64 fu, .bool dn]) :
    Calls Try.prog 23 #[.pointer (some ⟨g, 0, none⟩)] w fun e w' => e = .returned (.int .i64 st) ∧ Gr w w' := by
  obtain ⟨c0, c1, c2, c3, c4⟩ := Sl.five hb
  clear hb
  go_enter Try.func23, Try.ntmps23
  go_wp2
  go_ret
  exact ⟨rfl, Gr.refl _⟩
set_option maxHeartbeats 4000000 in
theorem steps_nil : Calls Try.prog 23 #[.pointer none] w fun e w' => e = .returned (.int .i64 0) ∧ Gr w w' := by
  go_enter Try.func23, Try.ntmps23
  go_wp2
  go_ret
  exact ⟨rfl, Gr.refl _⟩
set_option maxHeartbeats 4000000 in
theorem loose_any (A : Option Addr) (n c : Nat) (hb : Blk w g 74 #[vs, .slice A n c, .int .i64 st, .int .i64 fu, .bool dn]) :
    Calls Try.prog 18 #[.pointer (some ⟨g, 0, none⟩)] w fun e w' => e = .returned (.int .i64 n) ∧ Gr w w' := by
  obtain ⟨c0, c1, c2, c3, c4⟩ := Sl.five hb
  clear hb
  go_enter Try.func18, Try.ntmps18
  go_wp2
  go_ret
  exact ⟨rfl, Gr.refl _⟩
set_option maxHeartbeats 4000000 in
theorem loose_nil : Calls Try.prog 18 #[.pointer none] w fun e w' => e = .returned (.int .i64 0) ∧ Gr w w' := by
  go_enter Try.func18, Try.ntmps18
  go_wp2
  go_ret
  exact ⟨rfl, Gr.refl _⟩
set_option maxHeartbeats 4000000 in
theorem down_any (hb : Blk w g 74 #[vs, vl, .int .i64 st, .int .i64 fu, .bool dn]) :
    Calls Try.prog 24 #[.pointer (some ⟨g, 0, none⟩)] w fun e w' => e = .returned (.bool dn) ∧ Gr w w' := by
  obtain ⟨c0, c1, c2, c3, c4⟩ := Sl.five hb
  clear hb
  go_enter Try.func24, Try.ntmps24
  go_wp2
  go_ret
  exact ⟨rfl, Gr.refl _⟩
set_option maxHeartbeats 4000000 in
theorem down_nil : Calls Try.prog 24 #[.pointer none] w fun e w' => e = .returned (.bool false) ∧ Gr w w' := by
  go_enter Try.func24, Try.ntmps24
  go_wp2
  go_ret
  exact ⟨rfl, Gr.refl _⟩
end

end Go.Proofs.Ytjpmepjafkodeaa
