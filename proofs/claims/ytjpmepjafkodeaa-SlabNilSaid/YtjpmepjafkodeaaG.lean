/-
  Walk: Read of the slab.
-/
import Derived.Test.YtjpmepjafkodeaaF
namespace Go.Proofs.Ytjpmepjafkodeaa
open Go.RowKit

theorem own_nil {w : World} {base n n' c size : Nat} {e : TypeId} {A : Option Addr} {xs : List Value} (h : w.ownsRow base e size (.slice A n c) n' xs) : A = none → c = 0 := by
  rintro rfl
  rcases h.2 with ⟨e, _⟩ | ⟨g, cap, cur, e, _⟩
  · injection e
  · cases e

theorem step_call {P : Program} {ops : Array Oper} {o : Oper} {a : Act} {w : World} {K : Act → World → Prop} {Q : Exit → Act → World → Prop} {E : Prop} (hgd : o.guard = none) (f : FuncId) (args : Array Value)
    (hr : (execOp a.eval o).run P w = .ok (.enter f args) w) {post : Ending → World → Prop} (hc : Calls P f args w post) (hk : ∀ e w', post e w' → ∃ v, e = .returned v ∧ K (a.put o.dst v) w') :
    if Region.wanted o (yielded ops a.tmps) = true then Oper.wp P o a w K Q else E := by
  rw [if_pos (by simp [Region.wanted, hgd])]
  unfold Oper.wp
  rw [hr, Oper.upon_enter]
  refine hc.mono fun e w' h => ?_
  obtain ⟨v, rfl, hK⟩ := hk e w' h
  exact hK

/-- what Read hands out -/
def ReadPost (m : SM) (w : World) (e : Ending) (w' : World) : Prop :=
  Gr w w' ∧ ((m.dn = true ∧ e = .returned (.tuple #[.slice none 0 0, .int .i64 5])) ∨
    (m.dn = false ∧ ∃ A c, e = .returned (.tuple #[.slice A (m.s ++ m.l).length c, .int .i64 0]) ∧ w'.ownsRow w.heap.size 5 1 (.slice A (m.s ++ m.l).length c) (m.s ++ m.l).length (bv (m.s ++ m.l))))
theorem ReadPost.down {m : SM} {w : World} {e : Ending} {w' : World} (h : Gr w w') (hd : m.dn = true) (he : e = .returned (.tuple #[.slice none 0 0, .int .i64 5])) : ReadPost m w e w' := ⟨h, .inl ⟨hd, he⟩⟩
theorem ReadPost.good {m : SM} {w : World} {e : Ending} {w' : World} (h : Gr w w') (hd : m.dn = false) (A : Option Addr) (c : Nat) (he : e = .returned (.tuple #[.slice A (m.s ++ m.l).length c, .int .i64 0]))
    (ho : w'.ownsRow w.heap.size 5 1 (.slice A (m.s ++ m.l).length c) (m.s ++ m.l).length (bv (m.s ++ m.l))) : ReadPost m w e w' := ⟨h, .inr ⟨hd, A, c, he, ho⟩⟩

theorem own_base {w : World} {base base' n size : Nat} {e : TypeId} {v : Value} {xs : List Value} (h : w.ownsRow base e size v n xs) (hb : base' ≤ base) : w.ownsRow base' e size v n xs := by
  refine ⟨h.1, ?_⟩
  rcases h.2 with h0 | ⟨g, cap, cur, rfl, hbg, rest⟩
  · exact .inl h0
  · exact .inr ⟨g, cap, cur, rfl, Nat.le_trans hb hbg, rest⟩

set_option maxHeartbeats 16000000 in
set_option maxRecDepth 100000 in
theorem read_any (F : Nat → Prop) (g : Nat) (m : SM) (w : World) (ok : m.Ok) (h : SlM 74 w F g m) :
    Calls Try.prog 14 #[.pointer (some ⟨g, 0, none⟩)] w (ReadPost m w) := by
  obtain ⟨vs, vl, hb, hR⟩ := h.open_
  obtain ⟨As, cs, rfl, hrs⟩ := own_slice hR.os
  obtain ⟨Al, cl, rfl, hrl⟩ := own_slice hR.ol
  have Hnil := Lib.hid (own_nil hR.os)
  have Hb := Lib.hid hb
  have Hrs := Lib.hid hrs
  have Hrl := Lib.hid hrl
  have hlen := ok.len
  clear hb hR ok hrs hrl h
  by_cases hd : m.dn = true
  · go_enter Try.func14, Try.ntmps14
    go_wp2_with fail
    refine (up_any g _ _ _ _ _ _ Hb.out).mono ?_
    rintro e w1 ⟨rfl, hg1⟩
    rw [if_pos hd]
    go_wp2
    refine bodyPost_ret (v := .tuple #[.slice none 0 0, .int .i64 5]) (by simp [results, Try.results14, go_sem]) rfl ?_
    exact .down hg1 hd rfl
  · have hdf : m.dn = false := by simpa using hd
    go_enter Try.func14, Try.ntmps14
    go_wp2_with fail
    refine (up_any g _ _ _ _ _ _ Hb.out).mono ?_
    rintro e w1 ⟨rfl, hg1⟩
    rw [hdf, if_neg (by decide)]
    obtain ⟨c0, c1, _, _, _⟩ := Sl.five (Hb.out.gr hg1.drew)
    obtain ⟨i0, he⟩ := byte_elem
    have He := Lib.hid he
    clear he
    have hc3 : m.s.length + m.l.length ≤ maxLen := by unfold maxLen; omega
    go_wp2_with fail
    go_region_law (first
      | (refine step_call rfl 45 #[.slice As m.s.length cs] (by go_simp) (clone_any As m.s.length cs m.s _ rfl (by omega) (Hrs.out.gr hg1.drew) Hnil.out) ?_
         rintro e w2 ⟨A2, c2, rfl, ho2, hg2⟩
         refine ⟨_, rfl, ?_⟩
         clear c0 c1
         obtain ⟨c0, c1, _, _, _⟩ := Sl.five (Hb.out.gr (hg1.drew.trans hg2))
         have Ho2 := Lib.hid ho2
         have Hg2 := Lib.hid hg2
         clear ho2 hg2)
      | (refine step_app rfl (.tmp 14) (.tmp 18) rfl He.out (.slice A2 m.s.length c2) m.s.length (bv m.s) rfl Ho2.out Al m.l.length cl (bv m.l) rfl (Hrl.out.gr (hg1.drew.trans Hg2.out)) (by rw [bv_length, Nat.mul_one]) (bv_one _) hc3 (by omega) Hg2.out.size ?_
         intro v' w3 ho hg hv
         obtain ⟨A3, c3, rfl, _⟩ := own_slice ho
         have Ho := Lib.hid ho
         have Hg := Lib.hid hg
         clear ho hg hv c0 c1))
    all_goals
      go_wp2
      refine bodyPost_ret (v := .tuple #[.slice A3 (m.s.length + m.l.length) c3, .int .i64 0]) (by simp [results, Try.results14, go_sem]) rfl ?_
      refine .good (gr_own (hg1.drew.trans Hg2.out) Hg.out (fun k hk => Nat.le_trans hg1.drew.size (Ho2.out.lt k hk).1)) hdf A3 c3 (by rw [List.length_append]) ?_
      rw [List.length_append, bv_append]
      exact own_base Ho.out hg1.drew.size

end Go.Proofs.Ytjpmepjafkodeaa
