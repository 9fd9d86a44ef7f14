/-
  slices.Delete of one file of files.
-/
import Derived.Test.YtdikkknjdbchbaaWoIns
namespace Go.Proofs.Ytdikkknjdbchbaa
open Go.RowKit Go.Shelf Go.Lib
set_option linter.unusedVariables false
set_option linter.unusedSimpArgs false

/-- An append whose run is known, as one step of a region that draws. -/
theorem Wo.step_append_runI {P : Program} {ops : Array Oper} {o : Oper} {a : Act} {w : World} {K : Act → World → Prop} {Q : Exit → Act → World → Prop} {E : Prop}
    (hg : o.guard = none) (d x : Operand) (dT sT : TypeId) (hop : o.op = Op.call { callee := Callee.builtin Builtin.append, args := #[d, x], argTypes := #[dT, sT] })
    (v u : Value) (hd : a.eval d = v) (hx : a.eval x = u) {v' : Value} {w' : World} (hr : (Builtin.append_ #[dT, sT] o.type #[v, u]).run P w = .ok v' w') (hK : K (a.put o.dst v') w') :
    if Region.wanted o (yielded ops a.tmps) = true then Oper.wp P o a w K Q else E := by
  have hw : Region.wanted o (yielded ops a.tmps) = true := by simp [Region.wanted, hg]
  rw [if_pos hw]
  unfold Oper.wp
  simp [execOp, hop, resolve, invoke, builtin, hd, hx, hr, Result.andThen]
  exact hK

theorem Wo.del_eq (l : List Value) (i m : Nat) (zs : List Value) (hz : zs.length = 2) (hn : (i + 1 + m) * 2 ≤ l.length) :
    (Wo.over (Wo.over l (i * 2) ((l.take ((i + 1 + m) * 2)).drop ((i + 1) * 2))) ((i + m) * 2) zs).take ((i + m) * 2) = (l.take ((i + 1 + m) * 2)).take (i * 2) ++ (l.take ((i + 1 + m) * 2)).drop ((i + 1) * 2) := by
  have hd : ((l.take ((i + 1 + m) * 2)).drop ((i + 1) * 2)).length = m * 2 := by simp only [List.length_drop, List.length_take]; omega
  have hl : (Wo.over l (i * 2) ((l.take ((i + 1 + m) * 2)).drop ((i + 1) * 2))).length = l.length := Wo.over_len _ _ _ (by omega)
  have e1 : (Wo.over l (i * 2) ((l.take ((i + 1 + m) * 2)).drop ((i + 1) * 2))).take ((i + m) * 2) = (l.take ((i + 1 + m) * 2)).take (i * 2) ++ (l.take ((i + 1 + m) * 2)).drop ((i + 1) * 2) := by
    have ht : (l.take ((i + 1 + m) * 2)).take (i * 2) = l.take (i * 2) := by rw [List.take_take]; congr 1; omega
    unfold Wo.over
    rw [ht, List.take_append_of_le_length (by simp only [List.length_append, hd, List.length_take]; omega)]
    exact List.take_of_length_le (by simp only [List.length_append, hd, List.length_take]; omega)
  rw [show Wo.over (Wo.over l (i * 2) ((l.take ((i + 1 + m) * 2)).drop ((i + 1) * 2))) ((i + m) * 2) zs = (Wo.over l (i * 2) ((l.take ((i + 1 + m) * 2)).drop ((i + 1) * 2))).take ((i + m) * 2) ++ zs ++ (Wo.over l (i * 2) ((l.take ((i + 1 + m) * 2)).drop ((i + 1) * 2))).drop ((i + m) * 2 + zs.length) from rfl]
  rw [List.append_assoc, List.take_append_of_le_length (by rw [List.length_take, hl]; omega), List.take_take, Nat.min_self, e1]

set_option maxHeartbeats 4000000 in
set_option maxRecDepth 100000 in
theorem Wo.delete_row (B b cap i m : Nat) (cur : Array Value) (w : World) (hB : B ≤ b) (hcap : i + 1 + m ≤ cap) (hc63 : cap ≤ maxLen)
    (hb : w.heap[b]? = some (.cells cur 53 (0, 0))) (hcur : cur.size = cap * 2) (h1c : ∀ v ∈ cur.toList.take ((i + 1 + m) * 2), v.oneCell' = true) :
    Calls Try.prog 28 #[.slice (some ⟨b, 0, none⟩) (i + 1 + m) cap, .int .i64 i, .int .i64 ((i : Int) + 1)] w fun e w' =>
      ∃ v', e = .returned v' ∧ w'.ownsRow B 53 2 v' (i + m) ((cur.toList.take ((i + 1 + m) * 2)).take (i * 2) ++ (cur.toList.take ((i + 1 + m) * 2)).drop ((i + 1) * 2)) ∧ w.grownBy w' (some b) := by
  obtain ⟨i0, hi0, hz0, hz1, hz2⟩ := info_parts Wo.infoFile
  have hl : cur.toList.length = cap * 2 := by simpa using hcur
  obtain ⟨ds, hds⟩ : ∃ ds, ds = (cur.toList.take ((i + 1 + m) * 2)).drop ((i + 1) * 2) := ⟨_, rfl⟩
  have hdl : ds.length = m * 2 := by rw [hds]; simp only [List.length_drop, List.length_take, hl]; omega
  have hdc : ∀ j v, ds[j]? = some v → w.cell? ⟨b, (i + 1) * 2 + j, none⟩ = some v := fun j v hj => by
    rw [Dt.cell_of hb]
    rw [hds, List.getElem?_drop, List.getElem?_take] at hj
    split at hj
    · simpa using hj
    · cases hj
  obtain ⟨A, hA, hsrc⟩ : ∃ A : Addr, (if cap = i + 1 then some (⟨b, 0, none⟩ : Addr) else some ⟨b, (i + 1) * 2, none⟩) = some A ∧ Hid (∀ t u, ds[t]? = some u → w.drew.cell? (A.add t) = some u) := by
    by_cases h : cap = i + 1
    · refine ⟨⟨b, 0, none⟩, by simp [h], fun t u hu => ?_⟩
      have h0 : ds.length = 0 := by rw [hdl]; omega
      rw [List.length_eq_zero_iff.1 h0] at hu
      simp at hu
    · refine ⟨⟨b, (i + 1) * 2, none⟩, by simp [h], fun t u hu => ?_⟩
      rw [Addr.add_lit]
      exact hdc t u hu
  have h1d : ∀ v ∈ ds, v.oneCell' = true := fun v hv => h1c v (by rw [hds] at hv; exact List.mem_of_mem_drop hv)
  obtain ⟨cur1, hcur1⟩ : ∃ cur1 : Array Value, cur1 = (Wo.over cur.toList (i * 2) ds).toArray := ⟨_, rfl⟩
  have hcl1 : cur1.size = cap * 2 := by rw [hcur1, List.size_toArray, Wo.over_len _ _ _ (by rw [hdl, hl]; omega), hl]
  have hap : ∀ ty dc, (Builtin.append_ #[24, 24] ty #[.slice (some ⟨b, 0, none⟩) i cap, .slice (some A) m dc]).run Try.prog w.drew = .ok (.slice (some ⟨b, 0, none⟩) (i + m) cap) (w.drew.setRow b cur1) := fun ty dc => by
    have := run_append_room (P := Try.prog) w.drew 24 ty 53 i0 Try.underlying24 hi0 b i cap cur hb A m dc ds (by rw [hz1, hdl]) hsrc.out h1d (by omega) (by rw [hz1, hdl, hcur]; omega)
    rw [this, hcur1, hz1]
    simp only [Wo.over]
  obtain ⟨W1, hW1⟩ : ∃ W1, W1 = w.drew.setRow b cur1 := ⟨_, rfl⟩
  have hb1 : W1.heap[b]? = some (.cells cur1 53 (0, 0)) := by rw [hW1]; exact setRow_heap w.drew b cur cur1 _ _ hb
  obtain ⟨cur2, hcur2⟩ : ∃ cur2 : Array Value, cur2 = (Wo.over cur1.toList ((i + m) * 2) [.string ⟨#[]⟩, .slice none 0 0]).toArray := ⟨_, rfl⟩
  have hcl2 : cur2.size = cap * 2 := by rw [hcur2, List.size_toArray, Wo.over_len _ _ _ (by simp [hcl1]; omega)]; simpa using hcl1
  have hclr : ∀ ty dc, (Builtin.clear_ #[24] ty #[.slice (some ⟨b, (i + m) * 2, none⟩) 1 dc]).run Try.prog W1 = .ok (.tuple #[]) (W1.setRow b cur2) := fun ty dc => by
    have hst := run_storeCells_at Try.prog b ((i + m) * 2) 53 [.string ⟨#[]⟩, .slice none 0 0] 0 cur1 W1 hb1 (by simp [hcl1]; omega) (by intro v hv; simp only [List.mem_cons, List.not_mem_nil, or_false] at hv; rcases hv with rfl | rfl <;> rfl)
    simp only [Nat.add_zero] at hst
    have hz : (Builtin.zeroCells (Value.agg #[.string ⟨#[]⟩, .slice none 0 0]).cells 1).toList = [.string ⟨#[]⟩, .slice none 0 0] := by simp [Builtin.zeroCells, Value.cells, List.range_succ]
    rw [hcur2]
    simp [Builtin.clear_, run_underlying Try.underlying24, Try.zeroValue53, hz, hst, Wo.over]
  have hb2 : (W1.setRow b cur2).heap[b]? = some (.cells cur2 53 (0, 0)) := setRow_heap W1 b cur1 cur2 _ _ hb1
  have hfin : cur2.toList.take ((i + m) * 2) = (cur.toList.take ((i + 1 + m) * 2)).take (i * 2) ++ (cur.toList.take ((i + 1 + m) * 2)).drop ((i + 1) * 2) := by
    rw [hcur2, hcur1, hds]
    exact Wo.del_eq cur.toList i m _ rfl (by rw [hl]; omega)
  rw [← hW1] at hap
  obtain ⟨W2, hW2⟩ : ∃ W2, W2 = W1.setRow b cur2 := ⟨_, rfl⟩
  rw [← hW2] at hclr hb2
  have H1 : Hid (W2.ownsRow B 53 2 (.slice (some ⟨b, 0, none⟩) (i + m) cap) (i + m) ((cur.toList.take ((i + 1 + m) * 2)).take (i * 2) ++ (cur.toList.take ((i + 1 + m) * 2)).drop ((i + 1) * 2))) := Lib.hid ⟨by rw [← hds]; simp only [List.length_append, List.length_take, hdl, hl]; omega, .inr ⟨b, cap, cur2, rfl, hB, hb2, by omega, hc63, hcl2, hfin⟩⟩
  have H2 : Hid (w.grownBy W2 (some b)) := Lib.hid (by
    rw [hW2, hW1]
    refine ⟨rfl, rfl, rfl, by simp, fun k hk hne => ?_⟩
    have hkb : k ≠ b := fun e => hne (by rw [e])
    rw [setRow_other _ b k _ hkb, setRow_other _ b k _ hkb]
    rfl)
  have hc63' : cap ≤ 9223372036854775807 := by unfold maxLen at hc63; omega
  have hne1 : ¬ ((i : Int) = (i : Int) + 1) := by omega
  have hw1 : IntKind.i64.wrap ((i : Int) + (1 : Int)) = (i : Int) + (1 : Int) := by rw [IntKind.wrap_i64]; omega
  have hic : ¬ (cap = i) := by omega
  have hcim : ¬ (cap = i + m) := by omega
  have hle1 : (i : Int) ≤ (cap : Int) := by omega
  have hle2 : (0 : Int) ≤ (i : Int) + 1 := by omega
  have hle3 : (i : Int) + 1 ≤ (i : Int) + 1 + (m : Int) := by omega
  have hle4 : (i : Int) ≤ (i : Int) + 1 := by omega
  have hle5 : (i : Int) + 1 + (m : Int) ≤ (cap : Int) := by omega
  have hle6 : (i : Int) + (m : Int) ≤ (i : Int) + 1 + (m : Int) := by omega
  have hsub : i + 1 + m - (i + m) = 1 := by omega
  clear hW1 hW2 hcur1 hcur2 hfin hb1 hb2 hcl1 hcl2 hb hcur hl hdl hdc hsrc h1d h1c hds
  go_enter Try.func28, Try.ntmps28
  go_wp2_with fail
  go_region_law (refine Wo.step_append_runI (by rfl) (.tmp 22) (.tmp 25) 24 24 (by rfl) (.slice (some ⟨b, 0, none⟩) i cap) (.slice (some A) m (cap - (i + 1))) (by simp [Act.eval, Act.put]) (by simp [Act.eval, Act.put]) (hap _ _) ?_)
  go_wp2_with fail
  go_ret
  exact ⟨_, rfl, H1.out, H2.out⟩
end Go.Proofs.Ytdikkknjdbchbaa
