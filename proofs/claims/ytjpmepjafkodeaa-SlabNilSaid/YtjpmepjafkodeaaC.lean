/-
  Walks: Append, Erase, Sync, Fuse of the slab, over one plain state.
-/
import Derived.Test.YtjpmepjafkodeaaB
import Derived.Test.YtjpmepjafkodeaaRegF
namespace Go.Proofs.Ytjpmepjafkodeaa
open Go.RowKit

/-- a slab's plain state -/
structure SM where
  s : List UInt8
  l : List UInt8
  st : Int
  fu : Int
  dn : Bool

def SM.step (m : SM) : Int × SM := if m.fu = 0 then (5, { m with dn := true }) else (0, { m with st := m.st + 1, fu := if 0 < m.fu then m.fu - 1 else m.fu })
def SM.append (m : SM) (p : List UInt8) : Int × SM :=
  if m.dn = true then (5, m) else if 262144 < m.s.length + m.l.length + p.length then (4, m) else if m.step.1 = 0 then (0, { m.step.2 with l := m.l ++ p }) else (m.step.1, m.step.2)
def SM.sync (m : SM) : Int × SM := if m.dn = true then (5, m) else if m.step.1 = 0 then (0, { m.step.2 with s := m.s ++ m.l, l := [] }) else (m.step.1, m.step.2)
def SM.erase (m : SM) : Int × SM := if m.dn = true then (5, m) else if m.step.1 = 0 then (0, { m.step.2 with s := [], l := [] }) else (m.step.1, m.step.2)
def SM.fuse (m : SM) (n : Int) : Int × SM := if m.dn = true then (5, m) else (0, { m with fu := if n < -1 then -1 else n })

/-- what is true of every state a law comes to -/
structure SM.Ok (m : SM) : Prop where
  len : m.s.length + m.l.length ≤ 262144
  st0 : 0 ≤ m.st
  st1 : m.st < 9223372036854775807
  fu1 : m.fu ≤ 9223372036854775807

def SlM (T : TypeId) (w : World) (F : Nat → Prop) (g : Nat) (m : SM) : Prop := Sl T w F g m.s m.l m.st m.fu m.dn

def OpPost (T : TypeId) (F : Nat → Prop) (g : Nat) (r : Int × SM) (w : World) (e : Ending) (w' : World) : Prop :=
  e = .returned (.int .i64 r.1) ∧ ∃ F', SlM T w' F' g r.2 ∧ Tur F w w' ∧ (∀ x, F' x → F x ∨ w.heap.size ≤ x)
theorem OpPost.mk {T : TypeId} {F : Nat → Prop} {g : Nat} {r : Int × SM} {w : World} {e : Ending} {w' : World} (h : e = .returned (.int .i64 r.1)) (F' : Nat → Prop) (h1 : SlM T w' F' g r.2) (h2 : Tur F w w') (h3 : ∀ x, F' x → F x ∨ w.heap.size ≤ x) :
    OpPost T F g r w e w' := ⟨h, F', h1, h2, h3⟩

theorem own_slice {w : World} {base n size : Nat} {e : TypeId} {v : Value} {xs : List Value} (h : w.ownsRow base e size v n xs) : ∃ A c, v = .slice A n c ∧ Rd w A xs := by
  rcases h.2 with ⟨rfl, rfl⟩ | ⟨g, cap, cur, rfl, _⟩
  · exact ⟨none, 0, rfl, Rd.own h⟩
  · exact ⟨_, cap, rfl, Rd.own h⟩

theorem step_eq (m : SM) : stepP m.st m.fu m.dn = (m.step.1, m.step.2.st, m.step.2.fu, m.step.2.dn) := by
  unfold stepP SM.step
  by_cases h : m.fu = 0
  · simp [h]
  · by_cases h2 : 0 < m.fu <;> simp [h, h2]
theorem step_rows (m : SM) : m.step.2.s = m.s ∧ m.step.2.l = m.l := by
  unfold SM.step; split <;> exact ⟨rfl, rfl⟩

theorem step_err (m : SM) : m.step.1 = 0 ∨ m.step.1 = 5 := by
  unfold SM.step; split
  · exact .inr rfl
  · exact .inl rfl

theorem step_m (g : Nat) (vs vl : Value) (m : SM) (w : World) (ok : m.Ok) (hb : Blk w g 74 #[vs, vl, .int .i64 m.st, .int .i64 m.fu, .bool m.dn]) :
    Calls Try.prog 44 #[.pointer (some ⟨g, 0, none⟩)] w fun e w' => e = .returned (.int .i64 m.step.1) ∧
      Blk w' g 74 #[vs, vl, .int .i64 m.step.2.st, .int .i64 m.step.2.fu, .bool m.step.2.dn] ∧ Tur (· = g) w w' := by
  refine (step_any g vs vl m.st m.fu m.dn w ok.st0 ok.st1 ok.fu1 hb).mono ?_
  rintro e w' ⟨er, st', fu', dn', hq, he, hb2, ht⟩
  rw [step_eq] at hq
  injection hq with q1 q2
  injection q2 with q2 q3
  injection q3 with q3 q4
  subst q1 q2 q3 q4
  exact ⟨he, hb2, ht⟩

/-- only the slab's own block has turned: the rows stand -/
theorem SlM.stepped {F : Nat → Prop} {g : Nat} {m : SM} {w w' : World} (h : SlM 74 w F g m) (ht : Tur (· = g) w w') {vs vl : Value}
    (hb : Blk w' g 74 #[vs, vl, .int .i64 m.step.2.st, .int .i64 m.step.2.fu, .bool m.step.2.dn]) (hw : ∃ a b c, Blk w g 74 #[vs, vl, a, b, c]) : SlM 74 w' F g m.step.2 := by
  obtain ⟨vs', vl', hb', os, ol, n1, n2, n3, f1, f2, f3⟩ := h
  obtain ⟨a, b, c, hw⟩ := hw
  unfold Blk at hw hb'
  rw [hw] at hb'
  injection hb' with hb'
  injection hb' with hb'
  simp only [Array.mk.injEq, List.cons.injEq] at hb'
  obtain ⟨rfl, rfl, _⟩ := hb'
  refine ⟨vs, vl, hb, ?_, ?_, n1, n2, n3, f1, f2, f3⟩
  · rw [(step_rows m).1]; exact own_tur os ht (fun x hx e => n1 (by rw [hx, e]))
  · rw [(step_rows m).2]; exact own_tur ol ht (fun x hx e => n2 (by rw [hx, e]))

theorem nil_own (k : Nat) : (Value.slice none 0 0).ownBlock ≠ some k := by simp [Value.ownBlock]

set_option maxHeartbeats 8000000 in
theorem erase_any (F : Nat → Prop) (g : Nat) (m : SM) (w : World) (ok : m.Ok) (h : SlM 74 w F g m) :
    Calls Try.prog 15 #[.pointer (some ⟨g, 0, none⟩)] w (OpPost 74 F g m.erase w) := by
  obtain ⟨r, hr⟩ : ∃ r, r = m.erase := ⟨_, rfl⟩
  rw [← hr]
  have H := Lib.hid h
  obtain ⟨vs, vl, hb, os, ol, n1, n2, n3, f1, f2, f3⟩ := h
  have Hb := Lib.hid hb
  have Hok := Lib.hid ok
  have Hf := Lib.hid f1
  have Hr := Lib.hid hr
  clear hb os ol n1 n2 n3 f1 f2 f3 ok hr
  by_cases hd : m.dn = true
  · have e1 : r = (5, m) := by rw [Hr.out]; unfold SM.erase; rw [if_pos hd]
    subst e1
    go_enter Try.func15, Try.ntmps15
    go_wp2_with fail
    refine (up_any g vs vl _ _ _ _ Hb.out).mono ?_
    rintro e w1 ⟨rfl, hg1⟩
    rw [if_pos hd]
    go_wp2
    go_ret
    exact .mk rfl F (H.out.gr hg1) (Tur.gr hg1) (fun _ hx => .inl hx)
  · have hdf : m.dn = false := by simpa using hd
    rcases step_err m with hz | hz
    · have e1 : r = (0, { m.step.2 with s := [], l := [] }) := by rw [Hr.out]; unfold SM.erase; rw [if_neg hd, if_pos hz]
      subst e1
      go_enter Try.func15, Try.ntmps15
      go_wp2_with fail
      refine (up_any g vs vl _ _ _ _ Hb.out).mono ?_
      rintro e w1 ⟨rfl, hg1⟩
      rw [hdf, if_neg (by decide)]
      go_wp2_with fail
      refine (step_m g vs vl m _ Hok.out (Hb.out.gr hg1)).mono ?_
      rintro e w2 ⟨rfl, hb2, ht2⟩
      rw [hz]
      obtain ⟨c0, c1, _, _, _⟩ := Sl.five hb2
      have t0 := hb2.thaw 0
      have t1 := hb2.thaw 1
      have Hb2 := Lib.hid hb2
      clear hb2
      go_wp2
      go_ret
      refine .mk rfl F ⟨.slice none 0 0, .slice none 0 0, (Hb2.out.set 0 _).set 1 _, World.ownsRow_nil _ _ _ _, World.ownsRow_nil _ _ _ _, nil_own _, nil_own _, fun _ _ => nil_own _, Hf.out, fun k hk => absurd hk (nil_own k), fun k hk => absurd hk (nil_own k)⟩ ?_ (fun _ hx => .inl hx)
      exact (Tur.gr hg1).trans' ((ht2.trans' ((Tur.set _ _ _ _).trans' (Tur.set _ _ _ _))).weak (fun x hx => by rw [hx]; exact Hf.out))
    · have e1 : r = (5, m.step.2) := by rw [Hr.out]; unfold SM.erase; rw [if_neg hd, if_neg (by omega), hz]
      subst e1
      go_enter Try.func15, Try.ntmps15
      go_wp2_with fail
      refine (up_any g vs vl _ _ _ _ Hb.out).mono ?_
      rintro e w1 ⟨rfl, hg1⟩
      rw [hdf, if_neg (by decide)]
      go_wp2_with fail
      refine (step_m g vs vl m _ Hok.out (Hb.out.gr hg1)).mono ?_
      rintro e w2 ⟨rfl, hb2, ht2⟩
      rw [hz]
      have Hb2 := Lib.hid hb2
      clear hb2
      go_wp2
      go_ret
      exact .mk rfl F (SlM.stepped (H.out.gr hg1) ht2 Hb2.out ⟨_, _, _, Hb.out.gr hg1⟩) ((Tur.gr hg1).trans' (ht2.weak (fun x hx => by rw [hx]; exact Hf.out))) (fun _ hx => .inl hx)

end Go.Proofs.Ytjpmepjafkodeaa
