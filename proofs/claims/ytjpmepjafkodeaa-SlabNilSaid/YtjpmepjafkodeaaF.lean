/-
  Walks: Fuse of the slab; Clone; Read.
-/
import Derived.Test.YtjpmepjafkodeaaE
import Derived.Lib.SliceRun
namespace Go.Proofs.Ytjpmepjafkodeaa
open Go.RowKit

theorem gr_own {a w w' : World} {row : Option Nat} (h : Gr a w) (hg : w.grownBy w' row) (hrow : ∀ k, row = some k → a.heap.size ≤ k) : Gr a w' :=
  ⟨hg.os.trans h.os, hg.tape.trans h.tape, hg.output.trans h.output, Nat.le_trans h.size hg.size,
    fun i hi => (hg.block i (Nat.lt_of_lt_of_le hi h.size) (fun e => by have := hrow i e.symm; omega)).trans (h.block i hi)⟩

theorem SlR.fresh {w w' : World} {base n : Nat} {e : TypeId} {v : Value} {xs : List Value} (h : w.ownsRow base e 1 v n xs) (k : Gr w w') : w'.ownsRow base e 1 v n xs :=
  own_tur h (Tur.gr (F := fun _ => False) k) (fun _ _ h => h)

set_option maxHeartbeats 8000000 in
theorem fuse_any (F : Nat → Prop) (g : Nat) (m : SM) (n : Int) (w : World) (h : SlM 74 w F g m) :
    Calls Try.prog 16 #[.pointer (some ⟨g, 0, none⟩), .int .i64 n] w (OpPost 74 F g (m.fuse n) w) := by
  obtain ⟨r, hrr⟩ : ∃ r, r = m.fuse n := ⟨_, rfl⟩
  rw [← hrr]
  have H := Lib.hid h
  obtain ⟨vs, vl, hb, hR⟩ := h.open_
  have Hb := Lib.hid hb
  have HR := Lib.hid hR
  have Hr := Lib.hid hrr
  clear hb hR hrr h
  by_cases hd : m.dn = true
  · have e1 : r = (5, m) := by rw [Hr.out]; unfold SM.fuse; rw [if_pos hd]
    subst e1
    go_enter Try.func16, Try.ntmps16
    go_wp2_with fail
    refine (up_any g _ _ _ _ _ _ Hb.out).mono ?_
    rintro e w1 ⟨rfl, hg1⟩
    rw [if_pos hd]
    go_wp2
    go_ret
    exact .mk rfl F (H.out.gr hg1) (Tur.gr hg1) (fun _ hx => .inl hx)
  · have hdf : m.dn = false := by simpa using hd
    by_cases hn : n < -1
    · have e1 : r = (0, { m with fu := -1 }) := by rw [Hr.out]; unfold SM.fuse; rw [if_neg hd, if_pos hn]
      subst e1
      go_enter Try.func16, Try.ntmps16
      go_wp2_with fail
      refine (up_any g _ _ _ _ _ _ Hb.out).mono ?_
      rintro e w1 ⟨rfl, hg1⟩
      rw [hdf, if_neg (by decide)]
      have hb1 := Hb.out.gr hg1
      obtain ⟨_, _, _, d3, _⟩ := Sl.five hb1
      have t3 := hb1.thaw 3
      have Hb1 := Lib.hid hb1
      clear hb1
      go_wp2
      go_ret
      exact .mk rfl F (SlR.shut ((HR.out.gr hg1).head (Tur.set _ g 3 _)) (Hb1.out.set 3 _)) ((Tur.gr hg1).trans' ((Tur.set _ _ _ _).weak (fun x hx => by rw [hx]; exact HR.out.f1))) (fun _ hx => .inl hx)
    · have e1 : r = (0, { m with fu := n }) := by rw [Hr.out]; unfold SM.fuse; rw [if_neg hd, if_neg hn]
      subst e1
      go_enter Try.func16, Try.ntmps16
      go_wp2_with fail
      refine (up_any g _ _ _ _ _ _ Hb.out).mono ?_
      rintro e w1 ⟨rfl, hg1⟩
      rw [hdf, if_neg (by decide)]
      have hb1 := Hb.out.gr hg1
      obtain ⟨_, _, _, d3, _⟩ := Sl.five hb1
      have t3 := hb1.thaw 3
      have Hb1 := Lib.hid hb1
      clear hb1
      go_wp2
      go_ret
      exact .mk rfl F (SlR.shut ((HR.out.gr hg1).head (Tur.set _ g 3 _)) (Hb1.out.set 3 _)) ((Tur.gr hg1).trans' ((Tur.set _ _ _ _).weak (fun x hx => by rw [hx]; exact HR.out.f1))) (fun _ hx => .inl hx)

set_option maxHeartbeats 8000000 in
set_option maxRecDepth 100000 in
theorem clone_any (A : Option Addr) (n c : Nat) (p : List UInt8) (w : World) (hn : p.length = n) (hn2 : n ≤ 140737488355328) (hr : Rd w A (bv p)) (hnil : A = none → c = 0) :
    Calls Try.prog 45 #[.slice A n c] w fun e w' => ∃ A' c', e = .returned (.slice A' n c') ∧ w'.ownsRow w.heap.size 5 1 (.slice A' n c') n (bv p) ∧ Gr w w' := by
  have Hr := Lib.hid hr
  have Hn := Lib.hid hn
  clear hr hn
  cases A with
  | none =>
    obtain rfl := hnil rfl
    have h0 : n = 0 := by
      rcases Hr.out with h | ⟨_, _, h, _⟩
      · have := bv_length p; rw [h] at this; rw [← Hn.out, ← this]; rfl
      · cases h
    subst h0
    have hq : ∀ w : World, Sem.run Try.prog (binOp BinOp.eql 25 (.slice none 0 0) (.slice none 0 0)) w = .ok (.bool true) w := fun w => Go.Lib.run_eql_slice_nil w _ _ none 0 0 0 0 Try.underlying25
    go_enter Try.func45, Try.ntmps45
    go_wp2
    go_ret
    have hp : p = [] := List.eq_nil_of_length_eq_zero Hn.out
    subst hp
    exact ⟨none, 0, rfl, World.ownsRow_nil _ _ _ _, Gr.refl _⟩
  | some ad =>
    obtain ⟨i0, he⟩ := byte_elem
    have He := Lib.hid he
    clear he
    have hq : ∀ w : World, Sem.run Try.prog (binOp BinOp.eql 25 (.slice (some ad) n c) (.slice none 0 0)) w = .ok (.bool false) w := fun w => Go.Lib.run_eql_slice_nil w _ _ (some ad) n c 0 0 Try.underlying25
    have hc3 : 0 + n ≤ maxLen := by unfold maxLen; omega
    go_enter Try.func45, Try.ntmps45
    go_wp2_with (at_builtin; refine wpList_app (base := w.heap.size) rfl _ _ rfl He.out _ _ _ rfl (World.ownsRow_lit w #[] 0 (Nat.le_refl _) (Nat.zero_le _) rfl) _ _ _ _ rfl (Hr.out.gr ((Gr.refl w).alloc _)) (by rw [bv_length, Hn.out, Nat.mul_one]) (bv_one _) hc3 (by omega) (by simp) ?_)
    intro v' w3 ho hg hv
    obtain ⟨A3, c3, rfl, _⟩ := own_slice ho
    have Ho := Lib.hid ho
    have Hg := Lib.hid hg
    have Hv := Lib.hid hv
    clear ho hg hv
    go_wp2
    go_ret
    refine ⟨A3, c3, ?_, ?_, ?_⟩
    · simp
    · have := Ho.out; simpa using this
    · exact gr_own ((Gr.refl w).alloc _) Hg.out (fun k hk => by simp [Value.ownBlock] at hk; omega)

end Go.Proofs.Ytjpmepjafkodeaa
