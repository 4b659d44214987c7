/-
  Walks: Sync and Fuse of the slab.
-/
import Derived.Test.YtjpmepjafkodeaaD
import Derived.Deep.RegionLaw
namespace Go.Proofs.Ytjpmepjafkodeaa
open Go.RowKit

/-- the sure row has taken the loose one -/
theorem SlR.sure {F : Nat → Prop} {g : Nat} {w w' : World} {vs vl v' : Value} {s l s' : List UInt8} {T : TypeId} {cs : Array Value} (h : SlR w F g vs vl s l) (hb : Blk w g T cs) (ho : w'.ownsRow 0 5 1 v' s'.length (bv s')) (hg : w.grownBy w' vs.ownBlock)
    (hv : v'.ownBlock = vs.ownBlock ∨ v'.ownBlock = some w.heap.size) : SlR w' (fun x => F x ∨ v'.ownBlock = some x) g v' (.slice none 0 0) s' [] ∧ Blk w' g T cs ∧ Tur F w w' ∧ (∀ x, v'.ownBlock = some x → F x ∨ w.heap.size ≤ x) := by
  have ht := Tur.grown hg
  refine ⟨⟨ho, World.ownsRow_nil _ _ _ _, ?_, nil_own _, fun _ _ => nil_own _, .inl h.f1, fun k hk => .inr hk, fun k hk => absurd hk (nil_own k)⟩, hb.tur ht (fun e => h.n1 e), ht.weak (fun x hx => h.f2 x hx), ?_⟩
  · rcases hv with e | e
    · rw [e]; exact h.n1
    · rw [e]; intro he; injection he with he; have := hb.lt; omega
  · intro x hx
    rcases hv with e | e
    · rw [e] at hx; exact .inl (h.f2 x hx)
    · rw [e] at hx; injection hx with hx; exact .inr (by omega)

set_option maxHeartbeats 16000000 in
theorem sync_any (F : Nat → Prop) (g : Nat) (m : SM) (w : World) (ok : m.Ok) (h : SlM 74 w F g m) :
    Calls Try.prog 13 #[.pointer (some ⟨g, 0, none⟩)] w (OpPost 74 F g m.sync w) := by
  obtain ⟨r, hrr⟩ : ∃ r, r = m.sync := ⟨_, rfl⟩
  rw [← hrr]
  have H := Lib.hid h
  obtain ⟨vs, vl, hb, hR⟩ := h.open_
  obtain ⟨As, cs, rfl, hrs⟩ := own_slice hR.os
  obtain ⟨Al, cl, rfl, hrl⟩ := own_slice hR.ol
  have Hb := Lib.hid hb
  have HR := Lib.hid hR
  have Hok := Lib.hid ok
  have Hr := Lib.hid hrr
  have hlen := ok.len
  clear hb hR ok hrr hrs hrl h
  by_cases hd : m.dn = true
  · have e1 : r = (5, m) := by rw [Hr.out]; unfold SM.sync; rw [if_pos hd]
    subst e1
    go_enter Try.func13, Try.ntmps13
    go_wp2_with fail
    refine (up_any g _ _ _ _ _ _ Hb.out).mono ?_
    rintro e w1 ⟨rfl, hg1⟩
    rw [if_pos hd]
    go_wp2
    go_ret
    exact .mk rfl F (H.out.gr hg1) (Tur.gr hg1) (fun _ hx => .inl hx)
  · have hdf : m.dn = false := by simpa using hd
    go_enter Try.func13, Try.ntmps13
    go_wp2_with fail
    refine (up_any g _ _ _ _ _ _ Hb.out).mono ?_
    rintro e w1 ⟨rfl, hg1⟩
    rw [hdf, if_neg (by decide)]
    go_wp2_with fail
    refine (step_m g _ _ m _ Hok.out (Hb.out.gr hg1)).mono ?_
    rintro e w2 ⟨rfl, hb2, ht2⟩
    have HR2 := Lib.hid ((HR.out.gr hg1).head ht2)
    have HT2 := Lib.hid (((Tur.gr hg1 : Tur (· = g) w _).trans' ht2).weak (G := F) (fun x hx => by rw [hx]; exact HR.out.f1))
    rcases step_err m with hz | hz
    · have e1 : r = (0, { m.step.2 with s := m.s ++ m.l, l := [] }) := by rw [Hr.out]; unfold SM.sync; rw [if_neg hd, if_pos hz]
      subst e1
      rw [hz]
      obtain ⟨Al', cl', ee, hrl⟩ := own_slice HR2.out.ol
      injection ee with e1 _ e2
      subst e1 e2
      have Hrl := Lib.hid hrl
      obtain ⟨d0, d1, _, _, _⟩ := Sl.five hb2
      have Hb2 := Lib.hid hb2
      clear hb2 hrl
      obtain ⟨i0, he⟩ := byte_elem
      have He := Lib.hid he
      clear he
      have hc3 : m.s.length + m.l.length ≤ maxLen := by unfold maxLen; omega
      go_wp2_with fail
      go_region_law (refine step_app rfl (.tmp 20) (.tmp 24) rfl He.out (.slice As m.s.length cs) m.s.length (bv m.s) rfl HR2.out.os Al m.l.length cl (bv m.l) rfl Hrl.out (by rw [bv_length, Nat.mul_one]) (bv_one _) hc3 (by omega) (Nat.zero_le _) ?_
                     intro v' w3 ho hg hv
                     obtain ⟨A3, c3, rfl, _⟩ := own_slice ho
                     rw [← bv_append] at ho
                     obtain ⟨hR3, hb3, ht3, hF3⟩ := (HR2.out.gr (Gr.refl w2).drew).sure (s' := m.s ++ m.l) (Hb2.out.gr (Gr.refl w2).drew) (by rw [List.length_append]; exact ho) hg hv
                     clear d0 d1
                     obtain ⟨d0, d1, _, _, _⟩ := Sl.five hb3
                     have t0 := hb3.thaw 0
                     have t1 := hb3.thaw 1
                     have HR3 := Lib.hid hR3
                     have Hb3 := Lib.hid hb3
                     have HT3 := Lib.hid ht3
                     have HF3 := Lib.hid hF3
                     clear ho hg hv hR3 hb3 ht3 hF3)
      all_goals
        go_wp2
        go_ret
        refine .mk rfl (fun x => F x ∨ (Value.slice A3 (m.s.length + m.l.length) c3).ownBlock = some x) ?_ ((HT2.out.trans' (((Tur.gr (Gr.refl w2).drew).trans' HT3.out))).trans' (((Tur.set _ _ _ _).trans' (Tur.set _ _ _ _)).weak (fun x hx => by rw [hx]; exact HR2.out.f1))) (fun x hx => hx.elim .inl fun h => (HF3.out x h).imp id fun h => Nat.le_trans HT2.out.size h)
        exact SlR.shut ((HR3.out.head (Tur.set w3 g 0 _)).head (Tur.set _ g 1 _)) ((Hb3.out.set 0 _).set 1 _)
    · have e1 : r = (5, m.step.2) := by rw [Hr.out]; unfold SM.sync; rw [if_neg hd, if_neg (by omega), hz]
      subst e1
      rw [hz]
      have Hb2 := Lib.hid hb2
      clear hb2
      go_wp2
      go_ret
      exact .mk rfl F (HR2.out.shutS Hb2.out) HT2.out (fun _ hx => .inl hx)

end Go.Proofs.Ytjpmepjafkodeaa
