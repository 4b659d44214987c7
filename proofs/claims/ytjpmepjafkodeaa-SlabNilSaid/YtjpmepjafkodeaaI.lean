/-
  Walk: Crash of the slab.
-/
import Derived.Test.YtjpmepjafkodeaaG
import Derived.Test.YtjpmepjafkodeaaH
import Derived.Deep.Cut
import Derived.Deep.CutRange
import Derived.Deep.CutBlock
namespace Go.Proofs.Ytjpmepjafkodeaa
open Go.RowKit

def SM.keep (m : SM) (keep : Int) : Nat := (max 0 (min keep (m.l.length : Int))).toNat
def SM.zeros (m : SM) (keep zeros : Int) : Nat := (max 0 (min zeros ((m.l.length : Int) - (m.keep keep : Int)))).toNat
def SM.crash (m : SM) (keep zeros : Int) : SM :=
  { m with s := m.s ++ m.l.take (m.keep keep) ++ List.replicate (m.zeros keep zeros) 0, l := [], fu := -1, dn := false }

theorem keep_le (m : SM) (keep : Int) : m.keep keep ≤ m.l.length := by unfold SM.keep; omega
theorem zeros_le (m : SM) (keep zeros : Int) : m.keep keep + m.zeros keep zeros ≤ m.l.length := by
  have := keep_le m keep
  unfold SM.zeros; omega

theorem Rd.take {w : World} {A : Option Addr} {xs : List UInt8} (h : Rd w A (bv xs)) (k : Nat) : Rd w A (bv (xs.take k)) := by
  rcases h with h | ⟨b, o, e, hc⟩
  · left
    have : xs = [] := by cases xs with
      | nil => rfl
      | cons a l => simp [bv] at h
    subst this
    simp [bv]
  · refine .inr ⟨b, o, e, fun j u hu => hc j u ?_⟩
    rw [bv_take, List.getElem?_take] at hu
    split at hu
    · exact hu
    · cases hu
theorem zeros_bv (k : Nat) : List.replicate k (Value.int .u8 0) = bv (List.replicate k 0) := by simp [bv]

set_option maxHeartbeats 16000000 in
set_option maxRecDepth 100000 in
theorem crash_any (F : Nat → Prop) (g : Nat) (m : SM) (keep zeros : Int) (w : World) (ok : m.Ok) (h : SlM 74 w F g m) :
    Calls Try.prog 17 #[.pointer (some ⟨g, 0, none⟩), .int .i64 keep, .int .i64 zeros] w (OpPost 74 F g (0, m.crash keep zeros) w) := by
  obtain ⟨r, hrr⟩ : ∃ r, r = m.crash keep zeros := ⟨_, rfl⟩
  rw [← hrr]
  obtain ⟨vs, vl, hb, hR⟩ := h.open_
  obtain ⟨As, cs, rfl, hrs⟩ := own_slice hR.os
  obtain ⟨Al, cl, rfl, hrl⟩ := own_slice hR.ol
  obtain ⟨c0, c1, _, _, _⟩ := Sl.five hb
  have Hb := Lib.hid hb
  have HR := Lib.hid hR
  have Hrl := Lib.hid hrl
  have Hr := Lib.hid hrr
  have hlen := ok.len
  clear hb hR ok hrs hrl h hrr
  go_enter Try.func17, Try.ntmps17
  have hk0 := keep_le m keep
  go_upto_region 3 with fail
  go_cut [1] from 9 to 16 (fun a wx => a = .int .i64 (m.keep keep) ∧ wx = w)
  case first =>
    go_wp2_with fail
    all_goals
      go_meet
      case rel =>
        refine ⟨?_, rfl⟩
        congr 1
        unfold SM.keep
        omega
  case rest =>
    obtain ⟨rfl, rfl⟩ := hcut
    have hz0 := zeros_le m keep zeros
    have hcl : m.l.length ≤ cl := by
      rcases HR.out.ol.2 with ⟨e, e2⟩ | ⟨_, _, _, e, _, _, h, _⟩
      · omega
      · injection e with _ _ e3; omega
    have hzw : IntKind.i64.wrap ((m.l.length : Int) - (m.keep keep : Int)) = (m.l.length : Int) - (m.keep keep : Int) := IntWalk.i64_in _ (by omega)
    go_upto_region 4 with fail
    go_cut [2] from 17 to 26 (fun a wx => a = .int .i64 (m.zeros keep zeros) ∧ wx = wc)
    case first =>
      go_wp2_with fail
      all_goals
        go_meet
        case rel =>
          refine ⟨?_, rfl⟩
          congr 1
          unfold SM.zeros
          omega
    case rest =>
      obtain ⟨rfl, rfl⟩ := hcut
      obtain ⟨i0, he⟩ := byte_elem
      have He := Lib.hid he
      clear he
      have hlim : m.keep keep ≤ cl := by omega
      have hc3 : m.s.length + m.keep keep ≤ maxLen := by unfold maxLen; omega
      have hc4 : m.s.length + m.keep keep + m.zeros keep zeros ≤ maxLen := by unfold maxLen; omega
      have hkt : (bv (m.l.take (m.keep keep))).length = m.keep keep * 1 := by rw [bv_length, List.length_take]; omega
      go_upto_region 5 with fail
      cases Al with
      | none =>
        go_region_law (first
          | (refine step_app rfl (.tmp 31) (.tmp 37) rfl He.out (.slice As m.s.length cs) m.s.length (bv m.s) rfl HR.out.os none (m.keep keep) cl (bv (m.l.take (m.keep keep))) rfl (Rd.take Hrl.out _) hkt (bv_one _) hc3 (by omega) (Nat.zero_le _) ?_
             intro v1 w3 ho hg hv
             obtain ⟨A1, c1', rfl, _⟩ := own_slice ho
             rw [← bv_append] at ho
             obtain ⟨hR3, hb3, ht3, hF3⟩ := (HR.out.gr (Gr.refl wc).drew).sure (s' := m.s ++ m.l.take (m.keep keep)) (Hb.out.gr (Gr.refl wc).drew) (by rw [List.length_append, List.length_take, Nat.min_eq_left hk0]; exact ho) hg hv
             have HR3 := Lib.hid hR3
             have Hb3 := Lib.hid hb3
             have HT3 := Lib.hid ht3
             have HF3 := Lib.hid hF3
             have Ho := Lib.hid ho
             clear ho hg hv hR3 hb3 ht3 hF3)
          | (refine step_zeros rfl (.tmp 38) (.tmp 39) rfl He.out Try.underlying3 rfl rfl (.slice A1 (m.s.length + m.keep keep) c1') (m.s.length + m.keep keep) (bv (m.s ++ m.l.take (m.keep keep))) rfl Ho.out (m.zeros keep zeros) rfl hc4 (by omega) (Nat.zero_le _) ?_
             intro v2 w4 ho hg hv
             obtain ⟨A2, c2', rfl, _⟩ := own_slice ho
             rw [zeros_bv, ← bv_append] at ho
             obtain ⟨hR4, hb4, ht4, hF4⟩ := HR3.out.sure (s' := m.s ++ m.l.take (m.keep keep) ++ List.replicate (m.zeros keep zeros) 0) Hb3.out (by rw [List.length_append, List.length_append, List.length_take, List.length_replicate, Nat.min_eq_left hk0]; exact ho) hg hv
             clear c0 c1
             obtain ⟨c0, c1, _, c3, c4⟩ := Sl.five hb4
             have t0 := hb4.thaw 0
             have t1 := hb4.thaw 1
             have t3 := hb4.thaw 3
             have t4 := hb4.thaw 4
             have HR4 := Lib.hid hR4
             have Hb4 := Lib.hid hb4
             have HT4 := Lib.hid ht4
             have HF4 := Lib.hid hF4
             clear ho hg hv hR4 hb4 ht4 hF4))
        all_goals
          go_wp2
          go_ret
          rw [Hr.out]
          have hF : ∀ x, ((F x ∨ (Value.slice A1 (m.s.length + m.keep keep) c1').ownBlock = some x) ∨ (Value.slice A2 (m.s.length + m.keep keep + m.zeros keep zeros) c2').ownBlock = some x) → F x ∨ wc.heap.size ≤ x := by
            intro x hx
            rcases hx with (hx | hx) | hx
            · exact .inl hx
            · exact HF3.out x hx
            · rcases HF4.out x hx with (h | h) | h
              · exact .inl h
              · exact HF3.out x h
              · exact .inr (Nat.le_trans HT3.out.size h)
          refine .mk rfl (fun x => (F x ∨ (Value.slice A1 (m.s.length + m.keep keep) c1').ownBlock = some x) ∨ (Value.slice A2 (m.s.length + m.keep keep + m.zeros keep zeros) c2').ownBlock = some x) ?_ ?_ hF
          · exact SlR.shut (m := m.crash keep zeros) ((((HR4.out.head (Tur.set _ g 0 _)).head (Tur.set _ g 1 _)).head (Tur.set _ g 3 _)).head (Tur.set _ g 4 _)) ((((Hb4.out.set 0 _).set 1 _).set 3 _).set 4 _)
          · exact ((((Tur.gr (Gr.refl wc).drew).trans' HT3.out).trans HT4.out (fun x hx => hF x (.inl hx))).trans' (((((Tur.set _ _ _ _).trans' (Tur.set _ _ _ _)).trans' (Tur.set _ _ _ _)).trans' (Tur.set _ _ _ _)).weak (fun x hx => by rw [hx]; exact HR.out.f1)))
      | some al =>
        go_region_law (first
          | (refine step_app rfl (.tmp 31) (.tmp 37) rfl He.out (.slice As m.s.length cs) m.s.length (bv m.s) rfl HR.out.os (some al) (m.keep keep) cl (bv (m.l.take (m.keep keep))) rfl (Rd.take Hrl.out _) hkt (bv_one _) hc3 (by omega) (Nat.zero_le _) ?_
             intro v1 w3 ho hg hv
             obtain ⟨A1, c1', rfl, _⟩ := own_slice ho
             rw [← bv_append] at ho
             obtain ⟨hR3, hb3, ht3, hF3⟩ := (HR.out.gr (Gr.refl wc).drew).sure (s' := m.s ++ m.l.take (m.keep keep)) (Hb.out.gr (Gr.refl wc).drew) (by rw [List.length_append, List.length_take, Nat.min_eq_left hk0]; exact ho) hg hv
             have HR3 := Lib.hid hR3
             have Hb3 := Lib.hid hb3
             have HT3 := Lib.hid ht3
             have HF3 := Lib.hid hF3
             have Ho := Lib.hid ho
             clear ho hg hv hR3 hb3 ht3 hF3)
          | (refine step_zeros rfl (.tmp 38) (.tmp 39) rfl He.out Try.underlying3 rfl rfl (.slice A1 (m.s.length + m.keep keep) c1') (m.s.length + m.keep keep) (bv (m.s ++ m.l.take (m.keep keep))) rfl Ho.out (m.zeros keep zeros) rfl hc4 (by omega) (Nat.zero_le _) ?_
             intro v2 w4 ho hg hv
             obtain ⟨A2, c2', rfl, _⟩ := own_slice ho
             rw [zeros_bv, ← bv_append] at ho
             obtain ⟨hR4, hb4, ht4, hF4⟩ := HR3.out.sure (s' := m.s ++ m.l.take (m.keep keep) ++ List.replicate (m.zeros keep zeros) 0) Hb3.out (by rw [List.length_append, List.length_append, List.length_take, List.length_replicate, Nat.min_eq_left hk0]; exact ho) hg hv
             clear c0 c1
             obtain ⟨c0, c1, _, c3, c4⟩ := Sl.five hb4
             have t0 := hb4.thaw 0
             have t1 := hb4.thaw 1
             have t3 := hb4.thaw 3
             have t4 := hb4.thaw 4
             have HR4 := Lib.hid hR4
             have Hb4 := Lib.hid hb4
             have HT4 := Lib.hid ht4
             have HF4 := Lib.hid hF4
             clear ho hg hv hR4 hb4 ht4 hF4))
        all_goals
          go_wp2
          go_ret
          rw [Hr.out]
          have hF : ∀ x, ((F x ∨ (Value.slice A1 (m.s.length + m.keep keep) c1').ownBlock = some x) ∨ (Value.slice A2 (m.s.length + m.keep keep + m.zeros keep zeros) c2').ownBlock = some x) → F x ∨ wc.heap.size ≤ x := by
            intro x hx
            rcases hx with (hx | hx) | hx
            · exact .inl hx
            · exact HF3.out x hx
            · rcases HF4.out x hx with (h | h) | h
              · exact .inl h
              · exact HF3.out x h
              · exact .inr (Nat.le_trans HT3.out.size h)
          refine .mk rfl (fun x => (F x ∨ (Value.slice A1 (m.s.length + m.keep keep) c1').ownBlock = some x) ∨ (Value.slice A2 (m.s.length + m.keep keep + m.zeros keep zeros) c2').ownBlock = some x) ?_ ?_ hF
          · exact SlR.shut (m := m.crash keep zeros) ((((HR4.out.head (Tur.set _ g 0 _)).head (Tur.set _ g 1 _)).head (Tur.set _ g 3 _)).head (Tur.set _ g 4 _)) ((((Hb4.out.set 0 _).set 1 _).set 3 _).set 4 _)
          · exact ((((Tur.gr (Gr.refl wc).drew).trans' HT3.out).trans HT4.out (fun x hx => hF x (.inl hx))).trans' (((((Tur.set _ _ _ _).trans' (Tur.set _ _ _ _)).trans' (Tur.set _ _ _ _)).trans' (Tur.set _ _ _ _)).weak (fun x hx => by rw [hx]; exact HR.out.f1)))

end Go.Proofs.Ytjpmepjafkodeaa
