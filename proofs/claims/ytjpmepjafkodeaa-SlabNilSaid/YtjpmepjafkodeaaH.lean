/-
  append(x, make([]byte, k)...) onto an own row.
-/
import Derived.Test.YtjpmepjafkodeaaApp
import Derived.Lib.AppendZerosOnto
namespace Go.Proofs.Ytjpmepjafkodeaa
open Go.RowKit

theorem zeroCells_one (z : Value) (k : Nat) : (Builtin.zeroCells #[z] k).toList = List.replicate k z := by
  apply List.ext_getElem?
  intro j
  by_cases hj : j < k
  · simp [Builtin.zeroCells, hj, Nat.mod_one]
  · simp [Builtin.zeroCells, hj]

theorem run_app_zeros {P : Program} {w : World} {base : Nat} {t tn e : TypeId} {i : TypeInfo} {z : Value} {bytes : Nat} (ty : TypeId) (he : ElemOf P t e i z 1 bytes) (htn : P.underlying tn = some (.int .i64)) (hz1 : z.cells = #[z]) (h1 : z.oneCell' = true)
    (v : Value) (n : Nat) (xs : List Value) (hown : w.ownsRow base e 1 v n xs) (k : Nat) (h63 : n + k ≤ maxLen) (hb : (n + k) * bytes ≤ 140737488355328) (hbase : base ≤ w.heap.size) :
    ∃ v' w', (Builtin.append_ #[t, tn] ty #[v, .int .i64 k]).run P w = .ok v' w' ∧ w'.ownsRow base e 1 v' (n + k) (xs ++ List.replicate k z) ∧ w.grownBy w' v.ownBlock ∧ (v'.ownBlock = v.ownBlock ∨ v'.ownBlock = some w.heap.size) := by
  have hk63 : (k : Int) ≤ 9223372036854775807 := by simp only [maxLen] at h63; omega
  have hw : IntKind.i64.wrap (k : Int) = k := by rw [IntKind.wrap_i64]; omega
  have hneg : ¬ ((k : Int) < 0) := by omega
  have hkb : k * i.bytes ≤ 140737488355328 := by
    rw [he.bytes_]
    exact Nat.le_trans (Nat.mul_le_mul_right _ (by omega)) hb
  have h48i : ¬ (281474976710656 < (k : Int) * (i.bytes : Int)) := by
    rw [← Int.natCast_mul]
    omega
  have hlen : (xs ++ List.replicate k z).length = (n + k) * 1 := by rw [List.length_append, hown.1, List.length_replicate]; omega
  have hsz := he.cells
  rcases hown.2 with ⟨rfl, rfl⟩ | ⟨g, cap, cur, rfl, hbg, hg, hnc, hcm, hcs, htake⟩
  · have hx : xs = [] := List.eq_nil_of_length_eq_zero (by simpa using hown.1)
    subst hx
    by_cases hk : k = 0
    · subst hk
      refine ⟨.slice none 0 0, w, ?_, by simpa using World.ownsRow_nil w base e 1, ⟨rfl, rfl, rfl, Nat.le_refl _, fun _ _ _ => rfl⟩, .inl rfl⟩
      simp [Builtin.append_, run_underlying he.under, run_underlying htn, sizeOf, typeInfo, he.info, asInt, asIntOf, (by decide : IntKind.i64.wrap 0 = 0)]
    · have hr := Go.Lib.run_append_grow_zeros (P := P) w t tn ty e i z .i64 .i64 he.under htn he.info he.zero none 0 0 [] (by simp [Builtin.firstCells]) k (by omega) (by omega) (by omega) (by omega) (by omega) (growslice_fits (by omega) (by rw [he.bytes_]; exact hb))
      refine ⟨_, _, hr, ⟨hlen, .inr ⟨w.heap.size, _, _, rfl, hbase, heap_alloc_new w.drew _, grownCap_ge w (0 + k) 0 e, grownCap_le_maxLen w (0 + k) 0 e h63, ?_, ?_⟩⟩, ⟨rfl, rfl, rfl, by simp, fun k' hk' _ => heap_alloc_old w.drew _ hk'⟩, .inr rfl⟩
      · have hge := grownCap_ge w (0 + k) 0 e
        simp only [Array.size_append, List.size_toArray, size_zeroCells, hz1, List.length_nil, List.size_toArray, List.length_cons, Nat.mul_one]
        omega
      · simp [hz1, zeroCells_one]
  · by_cases hroom : n + k ≤ cap
    · have hfit : n * 1 + (List.replicate k z).length ≤ cur.size := by rw [List.length_replicate, hcs]; omega
      have hst := run_storeCells_at P g (n * 1) e (List.replicate k z) 0 cur w hg (by simpa using hfit) (fun u hu => by rw [List.eq_of_mem_replicate hu]; exact h1)
      simp only [Nat.add_zero] at hst
      have hr : (Builtin.append_ #[t, tn] ty #[.slice (some ⟨g, 0, none⟩) n cap, .int .i64 k]).run P w = .ok (.slice (some ⟨g, 0, none⟩) (n + k) cap) (w.setRow g (cur.toList.take (n * 1) ++ List.replicate k z ++ cur.toList.drop (n * 1 + (List.replicate k z).length)).toArray) := by
        by_cases hk : k = 0
        · subst hk
          have hst0 := hst
          simp only [List.replicate_zero] at hst0 ⊢
          simp [Builtin.append_, run_underlying he.under, run_underlying htn, sizeOf, typeInfo, he.info, asInt, asIntOf, (by decide : IntKind.i64.wrap 0 = 0), hnc, hsz, Addr.add_lit]
          rw [Nat.mul_one] at hst0
          rw [hst0]
          simp
        · simp [Builtin.append_, run_underlying he.under, run_underlying htn, sizeOf, typeInfo, zeroValue, he.info, he.zero, hz1, zeroCells_one, asInt, asIntOf, hw, hneg, h48i, hroom, hsz, hk, Addr.add_lit]
          rw [Nat.mul_one] at hst
          rw [hst]
          simp
      refine ⟨_, _, hr, ⟨hlen, .inr ⟨g, cap, _, rfl, hbg, setRow_heap w g cur _ e _ hg, hroom, hcm, ?_, ?_⟩⟩, ⟨rfl, rfl, rfl, by simp, fun j _ hj => setRow_other w g j _ (fun e => hj (by simp [Value.ownBlock, e]))⟩, .inl rfl⟩
      · simp only [List.size_toArray, List.length_append, List.length_take, List.length_drop, Array.length_toList]
        omega
      · rw [htake, ← hlen]
        exact List.take_left
    · have holds : ∀ j u, xs[j]? = some u → w.drew.cell? ((⟨g, 0, none⟩ : Addr).add j) = some u := hown.cells (g := g) rfl
      have hf := run_firstCells_some (P := P) w.drew i.size n ⟨g, 0, none⟩ n cap xs (by rw [hsz]; exact hown.1) holds
      have hk : 0 < k := by omega
      have hr := Go.Lib.run_append_grow_zeros (P := P) w t tn ty e i z .i64 .i64 he.under htn he.info he.zero (some ⟨g, 0, none⟩) n cap xs hf k hk (by omega) (by omega) (by simp only [maxLen] at h63; omega) (by omega) (growslice_fits (by omega) (by rw [he.bytes_]; exact hb))
      refine ⟨_, _, hr, ⟨hlen, .inr ⟨w.heap.size, _, _, rfl, hbase, heap_alloc_new w.drew _, grownCap_ge w (n + k) cap e, grownCap_le_maxLen w (n + k) cap e h63, ?_, ?_⟩⟩, ⟨rfl, rfl, rfl, by simp, fun k' hk' _ => heap_alloc_old w.drew _ hk'⟩, .inr rfl⟩
      · have := grownCap_ge w (n + k) cap e
        have h0 := hown.1
        simp only [Array.size_append, List.size_toArray, size_zeroCells, hz1]
        simp; omega
      · rw [← hlen]
        simp only [Array.toList_append, hz1, zeroCells_one]
        exact List.take_left

theorem step_zeros {P : Program} {w : World} {base : Nat} {t tn e : TypeId} {i : TypeInfo} {z : Value} {bytes : Nat} {ops : Array Oper} {o : Oper} {a : Act} {K : Act → World → Prop} {Q : Exit → Act → World → Prop} {E : Prop} (hgd : o.guard = none) (s x : Operand)
    (ho : o.op = .call { callee := .builtin .append, args := #[s, x], argTypes := #[t, tn] }) (he : ElemOf P t e i z 1 bytes) (htn : P.underlying tn = some (.int .i64)) (hz1 : z.cells = #[z]) (h1 : z.oneCell' = true)
    (v : Value) (n : Nat) (xs : List Value) (hs : a.eval s = v) (hown : w.ownsRow base e 1 v n xs) (k : Nat) (hx : a.eval x = .int .i64 k) (h63 : n + k ≤ maxLen) (hb : (n + k) * bytes ≤ 140737488355328) (hbase : base ≤ w.heap.size)
    (h : ∀ v' w', w'.ownsRow base e 1 v' (n + k) (xs ++ List.replicate k z) → w.grownBy w' v.ownBlock → (v'.ownBlock = v.ownBlock ∨ v'.ownBlock = some w.heap.size) → K (a.put o.dst v') w') :
    if Region.wanted o (yielded ops a.tmps) = true then Oper.wp P o a w K Q else E := by
  rw [if_pos (by simp [Region.wanted, hgd])]
  obtain ⟨v', w', hrun, h2, h3, h4⟩ := run_app_zeros (w := w) o.type he htn hz1 h1 v n xs hown k h63 hb hbase
  unfold Oper.wp execOp
  simp only [ho, resolve, invoke, builtin, Sem.run_bind, Sem.run_pure, Result.andThen_ok, List.map_toArray, List.map_cons, List.map_nil, hs, hx, hrun]
  exact h v' w' h2 h3 h4

end Go.Proofs.Ytjpmepjafkodeaa
