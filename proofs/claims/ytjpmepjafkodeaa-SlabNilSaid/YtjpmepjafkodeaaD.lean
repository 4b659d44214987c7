/-
  Walk: Append of the slab.
-/
import Derived.Test.YtjpmepjafkodeaaC
namespace Go.Proofs.Ytjpmepjafkodeaa
open Go.RowKit

theorem Tur.grown {w w' : World} {v : Value} (hg : w.grownBy w' v.ownBlock) : Tur (fun x => v.ownBlock = some x) w w' :=
  ⟨hg.os, hg.tape, hg.output, hg.size, fun k hk hn => hg.block k hk (fun e => hn e.symm)⟩

theorem byte_elem : ∃ i0, ElemOf Try.prog 25 5 i0 (.int .u8 0) 1 1 :=
  ⟨(Try.prog.info? 5).get (by kernel_rfl), Try.underlying25, by kernel_rfl, by kernel_rfl, by kernel_rfl, by kernel_rfl, rfl, by decide⟩

/-- the rows of a slab whose block is known -/
structure SlR (w : World) (F : Nat → Prop) (g : Nat) (vs vl : Value) (s l : List UInt8) : Prop where
  os : w.ownsRow 0 5 1 vs s.length (bv s)
  ol : w.ownsRow 0 5 1 vl l.length (bv l)
  n1 : vs.ownBlock ≠ some g
  n2 : vl.ownBlock ≠ some g
  n3 : ∀ k, vs.ownBlock = some k → vl.ownBlock ≠ some k
  f1 : F g
  f2 : ∀ k, vs.ownBlock = some k → F k
  f3 : ∀ k, vl.ownBlock = some k → F k

theorem SlM.open_ {F : Nat → Prop} {g : Nat} {m : SM} {w : World} {T : TypeId} (h : SlM T w F g m) : ∃ vs vl, Blk w g T #[vs, vl, .int .i64 m.st, .int .i64 m.fu, .bool m.dn] ∧ SlR w F g vs vl m.s m.l := by
  obtain ⟨vs, vl, hb, os, ol, n1, n2, n3, f1, f2, f3⟩ := h
  exact ⟨vs, vl, hb, os, ol, n1, n2, n3, f1, f2, f3⟩
theorem SlR.shut {F : Nat → Prop} {g : Nat} {m : SM} {w : World} {T : TypeId} {vs vl : Value} (h : SlR w F g vs vl m.s m.l) (hb : Blk w g T #[vs, vl, .int .i64 m.st, .int .i64 m.fu, .bool m.dn]) : SlM T w F g m :=
  ⟨vs, vl, hb, h.os, h.ol, h.n1, h.n2, h.n3, h.f1, h.f2, h.f3⟩
theorem SlR.gr {F : Nat → Prop} {g : Nat} {w w' : World} {vs vl : Value} {s l : List UInt8} (h : SlR w F g vs vl s l) (k : Gr w w') : SlR w' F g vs vl s l :=
  ⟨own_tur h.os (Tur.gr (F := fun _ => False) k) (fun _ _ h => h), own_tur h.ol (Tur.gr (F := fun _ => False) k) (fun _ _ h => h), h.n1, h.n2, h.n3, h.f1, h.f2, h.f3⟩
theorem SlR.head {F : Nat → Prop} {g : Nat} {w w' : World} {vs vl : Value} {s l : List UInt8} (h : SlR w F g vs vl s l) (k : Tur (· = g) w w') : SlR w' F g vs vl s l :=
  ⟨own_tur h.os k (fun x hx e => h.n1 (by rw [hx, e])), own_tur h.ol k (fun x hx e => h.n2 (by rw [hx, e])), h.n1, h.n2, h.n3, h.f1, h.f2, h.f3⟩

/-- the loose row has grown -/
theorem SlR.loose {F : Nat → Prop} {g : Nat} {w w' : World} {vs vl v' : Value} {s l l' : List UInt8} {T : TypeId} {cs : Array Value} (h : SlR w F g vs vl s l) (hb : Blk w g T cs) (ho : w'.ownsRow 0 5 1 v' l'.length (bv l')) (hg : w.grownBy w' vl.ownBlock)
    (hv : v'.ownBlock = vl.ownBlock ∨ v'.ownBlock = some w.heap.size) : SlR w' (fun x => F x ∨ v'.ownBlock = some x) g vs v' s l' ∧ Blk w' g T cs ∧ Tur F w w' ∧ (∀ x, v'.ownBlock = some x → F x ∨ w.heap.size ≤ x) := by
  have ht := Tur.grown hg
  refine ⟨⟨own_tur h.os ht (fun x hx e => h.n3 x hx e), ho, h.n1, ?_, ?_, .inl h.f1, fun k hk => .inl (h.f2 k hk), fun k hk => .inr hk⟩, hb.tur ht (fun e => h.n2 e), ht.weak (fun x hx => h.f3 x hx), ?_⟩
  · rcases hv with e | e
    · rw [e]; exact h.n2
    · rw [e]; intro he; injection he with he; have := hb.lt; omega
  · intro k hk
    rcases hv with e | e
    · rw [e]; exact h.n3 k hk
    · rw [e]; intro he; injection he with he; have := (h.os.lt k hk).2; omega
  · intro x hx
    rcases hv with e | e
    · rw [e] at hx; exact .inl (h.f3 x hx)
    · rw [e] at hx; injection hx with hx; exact .inr (by omega)

theorem SlR.shutS {F : Nat → Prop} {g : Nat} {m : SM} {w : World} {T : TypeId} {vs vl : Value} (h : SlR w F g vs vl m.s m.l) (hb : Blk w g T #[vs, vl, .int .i64 m.step.2.st, .int .i64 m.step.2.fu, .bool m.step.2.dn]) : SlM T w F g m.step.2 := by
  refine SlR.shut (m := m.step.2) ?_ hb
  rw [(step_rows m).1, (step_rows m).2]
  exact h

theorem Rd.tur {F : Nat → Prop} {w w' : World} {A : Option Addr} {xs : List Value} (h : Rd w A xs) (k : Tur F w w') (hn : ∀ b o, A = some ⟨b, o, none⟩ → xs ≠ [] → ¬ F b) : Rd w' A xs := by
  rcases h with h | ⟨b, o, rfl, hc⟩
  · exact .inl h
  · by_cases hx : xs = []
    · exact .inl hx
    · refine .inr ⟨b, o, rfl, fun j u hu => ?_⟩
      have h := hc j u hu
      exact (World.cell?_of_block (k.block b (World.block_lt_of_cell? w _ h) (hn b o rfl hx))).trans h

/-- bytes do not lie in a slab's block -/
theorem bytes_off {w : World} {g : Nat} {T : TypeId} {A As Al : Option Addr} {ns cs nl cl : Nat} {st fu : Int} {dn : Bool} {p : List UInt8} (h : Rd w A (bv p)) (hb : Blk w g T #[.slice As ns cs, .slice Al nl cl, .int .i64 st, .int .i64 fu, .bool dn]) :
    ∀ b o, A = some ⟨b, o, none⟩ → bv p ≠ [] → ¬ b = g := by
  rintro b o rfl hne rfl
  obtain ⟨b', o', e, hc⟩ := h.at_ hne
  injection e with e
  injection e with e1 e2
  subst e1 e2
  cases p with
  | nil => exact hne rfl
  | cons q p =>
    have h0 := hc 0 (.int .u8 (q.toNat : Int)) rfl
    rw [Nat.add_zero, hb.cell o] at h0
    match o, h0 with
    | 0, h0 => simp at h0
    | 1, h0 => simp at h0
    | 2, h0 => simp at h0
    | 3, h0 => simp at h0
    | 4, h0 => simp at h0
    | k + 5, h0 => simp at h0

set_option maxHeartbeats 16000000 in
theorem append_any (F : Nat → Prop) (g : Nat) (m : SM) (p : List UInt8) (A : Option Addr) (n c : Nat) (w : World) (ok : m.Ok) (h : SlM 74 w F g m) (hn : p.length = n) (hn2 : n ≤ maxLen) (hr : Rd w A (bv p)) :
    Calls Try.prog 12 #[.pointer (some ⟨g, 0, none⟩), .slice A n c] w (OpPost 74 F g (m.append p) w) := by
  obtain ⟨r, hrr⟩ : ∃ r, r = m.append p := ⟨_, rfl⟩
  rw [← hrr]
  have H := Lib.hid h
  obtain ⟨vs, vl, hb, hR⟩ := h.open_
  obtain ⟨As, cs, rfl, hrs⟩ := own_slice hR.os
  obtain ⟨Al, cl, rfl, hrl⟩ := own_slice hR.ol
  have Hb := Lib.hid hb
  have HR := Lib.hid hR
  have Hok := Lib.hid ok
  have Hr := Lib.hid hrr
  have Hn := Lib.hid hn
  have Hrd := Lib.hid hr
  have Hmax := Lib.hid hn2
  have hlen := ok.len
  have hn64 : n ≤ 9223372036854775807 := by unfold maxLen at hn2; omega
  clear hb hR ok hrr hn hr hrs hrl h hn2
  by_cases hd : m.dn = true
  · have e1 : r = (5, m) := by rw [Hr.out]; unfold SM.append; rw [if_pos hd]
    subst e1
    go_enter Try.func12, Try.ntmps12
    go_wp2_with fail
    refine (up_any g _ _ _ _ _ _ Hb.out).mono ?_
    rintro e w1 ⟨rfl, hg1⟩
    rw [if_pos hd]
    go_wp2
    go_ret
    exact .mk rfl F (H.out.gr hg1) (Tur.gr hg1) (fun _ hx => .inl hx)
  · have hdf : m.dn = false := by simpa using hd
    have hw1 : IntKind.i64.wrap (262144 - (m.s.length : Int)) = 262144 - (m.s.length : Int) := IntWalk.i64_in _ (by omega)
    have hw2 : IntKind.i64.wrap (262144 - (m.s.length : Int) - (m.l.length : Int)) = 262144 - (m.s.length : Int) - (m.l.length : Int) := IntWalk.i64_in _ (by omega)
    go_enter Try.func12, Try.ntmps12
    go_wp2_with fail
    refine (up_any g _ _ _ _ _ _ Hb.out).mono ?_
    rintro e w1 ⟨rfl, hg1⟩
    rw [hdf, if_neg (by decide)]
    have hb1 := Hb.out.gr hg1
    obtain ⟨c0, c1, _, _, _⟩ := Sl.five hb1
    have Hb1 := Lib.hid hb1
    clear hb1
    by_cases hf : 262144 < m.s.length + m.l.length + n
    · have e1 : r = (4, m) := by rw [Hr.out]; unfold SM.append; rw [if_neg hd, Hn.out, if_pos hf]
      subst e1
      have hlt : 262144 - (m.s.length : Int) - (m.l.length : Int) < (n : Int) := by omega
      go_wp2_with fail
      go_region
      go_wp2
      go_ret
      exact .mk rfl F (H.out.gr hg1.drew) (Tur.gr hg1.drew) (fun _ hx => .inl hx)
    · have hlt : decide (262144 - (m.s.length : Int) - (m.l.length : Int) < (n : Int)) = false := decide_eq_false (by omega)
      go_wp2_with fail
      go_region
      go_wp2_with fail
      refine (step_m g _ _ m _ Hok.out (Hb.out.gr hg1.drew)).mono ?_
      rintro e w2 ⟨rfl, hb2, ht2⟩
      have HR2 := Lib.hid ((HR.out.gr hg1.drew).head ht2)
      have HT2 := Lib.hid (((Tur.gr hg1.drew : Tur (· = g) w _).trans' ht2).weak (G := F) (fun x hx => by rw [hx]; exact HR.out.f1))
      have Hrd2 := Lib.hid ((Hrd.out.gr hg1.drew).tur ht2 (bytes_off (Hrd.out.gr hg1.drew) (Hb.out.gr hg1.drew)))
      rcases step_err m with hz | hz
      · have e1 : r = (0, { m.step.2 with l := m.l ++ p }) := by rw [Hr.out]; unfold SM.append; rw [if_neg hd, Hn.out, if_neg hf, if_pos hz]
        subst e1
        rw [hz]
        obtain ⟨d0, d1, _, _, _⟩ := Sl.five hb2
        have t1 := hb2.thaw 1
        have Hb2 := Lib.hid hb2
        clear hb2 c0 c1
        obtain ⟨i0, he⟩ := byte_elem
        have He := Lib.hid he
        clear he
        go_wp2_with (at_builtin; refine wpList_app rfl _ _ rfl He.out _ _ _ rfl HR2.out.ol _ _ _ _ rfl Hrd2.out ?c1 (bv_one _) ?c3 ?c4 (Nat.zero_le _) ?_)
        case c1 => rw [bv_length, Hn.out, Nat.mul_one]
        case c3 => have := Hmax.out; unfold maxLen at *; omega
        case c4 => omega
        intro v' w3 ho hg hv
        obtain ⟨A3, c3, rfl, _⟩ := own_slice ho
        rw [← bv_append] at ho
        have hall := HR2.out.loose (l' := m.l ++ p) Hb2.out (by rw [List.length_append, Hn.out]; exact ho) hg hv
        obtain ⟨hR3, hb3, ht3, hF3⟩ := hall
        clear d0 d1 t1
        obtain ⟨_, d1, _, _, _⟩ := Sl.five hb3
        have t3 := hb3.thaw 1
        have HR3 := Lib.hid hR3
        have Hb3 := Lib.hid hb3
        have HT3 := Lib.hid ht3
        have HF3 := Lib.hid hF3
        have Hsz := Lib.hid HT2.out.size
        clear ho hg hv hR3 hb3 ht3 hF3
        go_wp2
        go_ret
        refine .mk rfl (fun x => F x ∨ (Value.slice A3 (m.l.length + n) c3).ownBlock = some x) ?_ ((HT2.out.trans' HT3.out).trans' ((Tur.set _ _ _ _).weak (fun x hx => by rw [hx]; exact HR2.out.f1))) (fun x hx => hx.elim .inl fun h => (HF3.out x h).imp id fun h => Nat.le_trans Hsz.out h)
        refine SlR.shut ?_ (Hb3.out.set 1 _)
        have := HR3.out.head (Tur.set w3 g 1 (.slice A3 (m.l.length + n) c3))
        rw [(step_rows m).1]
        exact this
      · have e1 : r = (5, m.step.2) := by rw [Hr.out]; unfold SM.append; rw [if_neg hd, Hn.out, if_neg hf, if_neg (by omega), hz]
        subst e1
        rw [hz]
        have Hb2 := Lib.hid hb2
        clear hb2
        go_wp2
        go_ret
        exact .mk rfl F (HR2.out.shutS Hb2.out) HT2.out (fun _ hx => .inl hx)

end Go.Proofs.Ytjpmepjafkodeaa
