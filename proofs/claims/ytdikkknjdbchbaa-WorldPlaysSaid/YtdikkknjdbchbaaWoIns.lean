/-
  slices.Insert of one file into files.
-/
import Derived.Test.YtdikkknjdbchbaaWoStore
import Derived.Deep.RegionLaw
import Derived.BigRegion
import Derived.Lib.Overlaps
import Derived.Lib.AppendZerosOnto
import Derived.Laws.Externs
import Derived.Shelf.Spec.SlicesInsert
import Derived.Laws.NewBlocks
namespace Go.Proofs.Ytdikkknjdbchbaa
open Go.RowKit Go.Shelf Go.Lib
set_option linter.unusedVariables false
set_option linter.unusedSimpArgs false

/-- copy, at elements of k cells, into a row. -/
theorem Wo.run_copyK {P : Program} (w : World) (dT sT ty elem : TypeId) (k : Nat) (g o dLen dCap : Nat) (a : Addr) (sLen sCap : Nat) (cur : Array Value) (t : TypeId) (cs : List Value)
    (hu : P.underlying dT = some (.slice elem)) (hs : (P.info? elem).map (·.size) = some k)
    (hg : w.heap[g]? = some (.cells cur t (0, 0))) (n : Nat) (hn : Nat.min sLen dLen = n) (hl : cs.length = n * k)
    (hsrc : ∀ j v, cs[j]? = some v → w.cell? (a.add j) = some v) (hfit : o + cs.length ≤ cur.size) (h1 : ∀ v ∈ cs, v.oneCell' = true) :
    (Builtin.copy_ #[dT, sT] ty #[.slice (some ⟨g, o, none⟩) dLen dCap, .slice (some a) sLen sCap]).run P w =
      .ok (goInt n) (w.setRow g (cur.toList.take o ++ cs ++ cur.toList.drop (o + cs.length)).toArray) := by
  have hst := run_storeCells_at P g o t cs 0 cur w hg (by simpa using hfit) h1
  have hf := run_firstCells_some (P := P) w k n a sLen sCap cs hl hsrc
  cases hq : P.info? elem with
  | none => simp [hq] at hs
  | some i =>
    have hi : i.size = k := by simpa [hq] using hs
    subst hi
    simp [Builtin.copy_, run_underlying hu, Builtin.lenOf, sizeOf, typeInfo, hq, hn, hf, hst]

/-- A list with a piece put in the place of what stood there. -/
def Wo.over (l : List Value) (o : Nat) (cs : List Value) : List Value := l.take o ++ cs ++ l.drop (o + cs.length)
theorem Wo.over_len (l : List Value) (o : Nat) (cs : List Value) (h : o + cs.length ≤ l.length) : (Wo.over l o cs).length = l.length := by
  unfold Wo.over
  simp only [List.length_append, List.length_take, List.length_drop]
  omega
theorem Wo.shift_eq (l : List Value) (n i : Nat) (vs : List Value) (hv : vs.length = 2) (hi : i ≤ n) (hn : n * 2 + 2 ≤ l.length) :
    (Wo.over (Wo.over l ((i + 1) * 2) ((l.take (n * 2)).drop (i * 2))) (i * 2) vs).take ((n + 1) * 2) = (l.take (n * 2)).take (i * 2) ++ vs ++ (l.take (n * 2)).drop (i * 2) := by
  have hd : ((l.take (n * 2)).drop (i * 2)).length = n * 2 - i * 2 := by simp only [List.length_drop, List.length_take]; omega
  have e1 : (Wo.over l ((i + 1) * 2) ((l.take (n * 2)).drop (i * 2))).take (i * 2) = l.take (i * 2) := by
    unfold Wo.over
    rw [List.append_assoc, List.take_append_of_le_length (by rw [List.length_take]; omega), List.take_take]
    congr 1
    omega
  have e2 : (Wo.over l ((i + 1) * 2) ((l.take (n * 2)).drop (i * 2))).drop (i * 2 + 2) = (l.take (n * 2)).drop (i * 2) ++ l.drop (n * 2 + 2) := by
    unfold Wo.over
    rw [List.append_assoc, List.drop_append_of_le_length (by rw [List.length_take]; omega), hd]
    have : (l.take ((i + 1) * 2)).drop (i * 2 + 2) = [] := by apply List.drop_eq_nil_of_le; rw [List.length_take]; omega
    rw [this, List.nil_append]
    congr 2
    omega
  rw [show Wo.over (Wo.over l ((i + 1) * 2) ((l.take (n * 2)).drop (i * 2))) (i * 2) vs = (Wo.over l ((i + 1) * 2) ((l.take (n * 2)).drop (i * 2))).take (i * 2) ++ vs ++ (Wo.over l ((i + 1) * 2) ((l.take (n * 2)).drop (i * 2))).drop (i * 2 + vs.length) from rfl]
  rw [hv, e1, e2]
  have hl : (l.take (i * 2)).length = i * 2 := by rw [List.length_take]; omega
  rw [← List.append_assoc, List.take_append_of_le_length (by simp only [List.length_append, hl, hv, hd]; omega), List.take_of_length_le (by simp only [List.length_append, hl, hv, hd]; omega), List.take_take]
  congr 3
  omega

theorem Wo.infoFileSz : (Try.prog.info? 53).map (·.size) = some 2 := by
  obtain ⟨i0, hi, hz0, hz1, hz2⟩ := info_parts Wo.infoFile
  rw [hi]; simp [hz1]

set_option maxHeartbeats 4000000 in
set_option maxRecDepth 100000 in
/-- There is room, and it is not the last place: in place. -/
theorem Wo.insert_shift (b n c i vb : Nat) (cur : Array Value) (u0 u1 : Value) (w : World) (hi : i < n) (hroom : n + 1 ≤ c) (hc63 : c ≤ maxLen)
    (hb : w.heap[b]? = some (.cells cur 53 (0, 0))) (hcur : cur.size = c * 2) (hvb : w.heap[vb]? = some (.cells #[u0, u1] 53 (0, 0))) (hne : vb ≠ b)
    (h1c : ∀ v ∈ cur.toList.take (n * 2), v.oneCell' = true) (h1v : ∀ v ∈ [u0, u1], v.oneCell' = true) :
    Calls Try.prog 27 #[.slice (some ⟨b, 0, none⟩) n c, .int .i64 i, .slice (some ⟨vb, 0, none⟩) 1 1] w fun e w' =>
      e = .returned (.slice (some ⟨b, 0, none⟩) (n + 1) c) ∧ w' = w.drew.setRow b (Wo.over (Wo.over cur.toList ((i + 1) * 2) ((cur.toList.take (n * 2)).drop (i * 2))) (i * 2) [u0, u1]).toArray := by
  have hc63 : c ≤ 9223372036854775807 := by unfold maxLen at hc63; omega
  have hz2 : ¬ ((i : Int) = (n : Int)) := by omega
  have hov : ∀ lb cb, (callFunc 35 #[.slice (some ⟨vb, 0, none⟩) 1 1, .slice (some ⟨b, (i + 1) * 2, none⟩) lb cb]).run Try.prog w = .ok (.value (.bool false)) w := fun lb cb => by
    rw [run_callFunc_extern Try.func35 (by kernel_rfl) (by kernel_rfl) (by kernel_rfl) (e := Extern.SlicesOverlaps.overlaps #[24, 24] #[4]) (by kernel_rfl),
      Lib.run_overlaps_apart w 24 4 53 Try.underlying24 2 Try.sizeOf53 ⟨vb, 0, none⟩ ⟨b, (i + 1) * 2, none⟩ 1 1 lb cb hne 53 53 2 cur.size (by simp [World.shape?, hvb]) (by simp [World.shape?, hb]) (by omega) (by simp [World.frozen?, hvb]) (by simp [World.frozen?, hvb])]
    rfl
  have hl : cur.toList.length = c * 2 := by simpa using hcur
  obtain ⟨ds, hds⟩ : ∃ ds, ds = (cur.toList.take (n * 2)).drop (i * 2) := ⟨_, rfl⟩
  have hdl : ds.length = (n - i) * 2 := by rw [hds]; simp only [List.length_drop, List.length_take, hl]; omega
  have hdc : ∀ j v, ds[j]? = some v → w.cell? ⟨b, i * 2 + j, none⟩ = some v := fun j v hj => by
    rw [Dt.cell_of hb]
    rw [hds, List.getElem?_drop, List.getElem?_take] at hj
    split at hj
    · simpa using hj
    · cases hj
  obtain ⟨cur1, hcur1⟩ : ∃ cur1 : Array Value, cur1 = (Wo.over cur.toList ((i + 1) * 2) ds).toArray := ⟨_, rfl⟩
  have hcl1 : cur1.size = c * 2 := by rw [hcur1, List.size_toArray, Wo.over_len _ _ _ (by rw [hdl, hl]; omega), hl]
  have hcp1 : ∀ ty dc sc, (Builtin.copy_ #[24, 24] ty #[.slice (some ⟨b, (i + 1) * 2, none⟩) (n - i) dc, .slice (some ⟨b, i * 2, none⟩) (n + 1 - i) sc]).run Try.prog w.drew = .ok (goInt (n - i : Nat)) (w.drew.setRow b cur1) := fun ty dc sc => by
    rw [hcur1]
    have := Wo.run_copyK (P := Try.prog) w.drew 24 24 ty 53 2 b ((i + 1) * 2) (n - i) dc ⟨b, i * 2, none⟩ (n + 1 - i) sc cur 53 ds Try.underlying24 Wo.infoFileSz hb (n - i) (by simp only [Nat.min_def]; split <;> omega) hdl (fun j v hj => by rw [Addr.add_lit]; exact hdc j v hj) (by rw [hdl]; omega) (fun v hv => h1c v (by rw [hds] at hv; exact List.mem_of_mem_drop hv))
    rw [this]
    simp only [Wo.over]
  have hb1 : (w.drew.setRow b cur1).heap[b]? = some (.cells cur1 53 (0, 0)) := setRow_heap w.drew b cur cur1 _ _ hb
  have hv1 : (w.drew.setRow b cur1).heap[vb]? = some (.cells #[u0, u1] 53 (0, 0)) := (setRow_other w.drew b vb cur1 hne).trans hvb
  have hcp2 : ∀ ty dc, (Builtin.copy_ #[24, 24] ty #[.slice (some ⟨b, i * 2, none⟩) (n + 1 - i) dc, .slice (some ⟨vb, 0, none⟩) 1 1]).run Try.prog (w.drew.setRow b cur1) = .ok (goInt (1 : Nat)) ((w.drew.setRow b cur1).setRow b (Wo.over cur1.toList (i * 2) [u0, u1]).toArray) := fun ty dc => by
    have := Wo.run_copyK (P := Try.prog) (w.drew.setRow b cur1) 24 24 ty 53 2 b (i * 2) (n + 1 - i) dc ⟨vb, 0, none⟩ 1 1 cur1 53 [u0, u1] Try.underlying24 Wo.infoFileSz hb1 1 (by simp only [Nat.min_def]; split <;> omega) rfl (Dt.row_at hv1) (by simp; omega) h1v
    rw [this]
    simp only [Wo.over]
  have hw1 : IntKind.i64.wrap ((i : Int) + (1 : Int)) = (i : Int) + (1 : Int) := by rw [IntKind.wrap_i64]; omega
  have hin : i ≤ n := by omega
  have hin1 : (i : Int) ≤ (n : Int) + 1 := by omega
  have hb1i : (0 : Int) ≤ (i : Int) + 1 := by omega
  have hb2 : ¬ (c = i + 1) := by omega
  have hb4 : ¬ (c = i) := by omega
  obtain ⟨W1, hW1⟩ : ∃ W1, W1 = w.drew.setRow b cur1 := ⟨_, rfl⟩
  rw [← hW1] at hcp1 hcp2
  have HW1 := Lib.hid hW1
  have HC := Lib.hid hcur1
  have HD := Lib.hid hds
  clear hW1 hcur1 hds hb hvb hb1 hv1 hcl1 hdc hdl hl
  go_enter Try.func27, Try.ntmps27
  go_wp2_with (simp only [hov])
  go_region_law (refine step_copy_runI rfl _ _ 24 24 rfl _ _ (by simp [Act.eval, Act.put]) (by simp [Act.eval, Act.put]) (hcp1 _ _ _) ?_)
  go_wp2_with (at_builtin; refine wpList_copy_runI _ rfl _ _ 24 24 rfl _ _ rfl rfl (hcp2 _ _) ?_)
  go_ret
  exact ⟨rfl, by rw [HW1.out, setRow_setRow, HC.out, HD.out]⟩

set_option maxHeartbeats 4000000 in
set_option maxRecDepth 100000 in
/-- At the end. -/
theorem Wo.insert_end (B n vb : Nat) (v : Value) (xs : List Value) (u0 u1 : Value) (w : World) (hown : w.ownsRow B 53 2 v n xs) (hn : n ≤ 64) (hB : B ≤ w.heap.size)
    (hvb : w.heap[vb]? = some (.cells #[u0, u1] 53 (0, 0))) (h1v : ∀ v ∈ [u0, u1], v.oneCell' = true) :
    Calls Try.prog 27 #[v, .int .i64 n, .slice (some ⟨vb, 0, none⟩) 1 1] w fun e w' =>
      ∃ v', e = .returned v' ∧ w'.ownsRow B 53 2 v' (n + 1) (xs ++ [u0, u1]) ∧ w.grownBy w' v.ownBlock := by
  obtain ⟨i0, hi0, hz0, hz1, hz2⟩ := info_parts Wo.infoFile
  obtain ⟨v', w', hr, h1, h2, _⟩ := run_append_own (P := Try.prog) w B 24 24 53 i0 (.agg #[.string ⟨#[]⟩, .slice none 0 0]) 2 40 Try.underlying24 hi0 hz0 hz1 hz2 rfl (by decide) v n xs hown ⟨vb, 0, none⟩ 1 1 [u0, u1] rfl (Dt.row_at hvb) h1v (by unfold maxLen; omega) (by omega) hB
  generalize v.ownBlock = ob at h2 ⊢
  obtain ⟨ad, cap, rfl, hcap⟩ : ∃ ad cap, v = .slice ad n cap ∧ n ≤ cap := by
    rcases hown.2 with ⟨rfl, rfl⟩ | ⟨g, cap, cur, rfl, _, _, h, _⟩
    · exact ⟨none, 0, rfl, Nat.le_refl _⟩
    · exact ⟨_, cap, rfl, h⟩
  have H1 := Lib.hid h1
  have H2 := Lib.hid h2
  clear h1 h2 hown
  go_enter Try.func27, Try.ntmps27
  go_wp2_with (at_builtin; refine Lib.wpList_append_run _ rfl _ _ _ _ rfl _ _ rfl rfl _ _ hr ?_)
  all_goals
    go_ret
    exact ⟨_, rfl, H1.out, H2.out⟩

theorem Wo.over_two (l : List Value) (n i : Nat) (cs vs : List Value) (hv : vs.length = 2) (hi : i ≤ n) (hn : n * 2 + 2 ≤ l.length) (hc : cs.length = n * 2) (ht : l.take (i * 2) = cs.take (i * 2)) :
    (Wo.over (Wo.over l (i * 2) vs) ((i + 1) * 2) (cs.drop (i * 2))).take ((n + 1) * 2) = cs.take (i * 2) ++ vs ++ cs.drop (i * 2) := by
  have hd : (cs.drop (i * 2)).length = n * 2 - i * 2 := by simp only [List.length_drop]; omega
  have e1 : (Wo.over l (i * 2) vs).take ((i + 1) * 2) = cs.take (i * 2) ++ vs := by
    unfold Wo.over
    rw [ht, List.take_append_of_le_length (by simp only [List.length_append, List.length_take]; omega)]
    exact List.take_of_length_le (by simp only [List.length_append, List.length_take]; omega)
  rw [show Wo.over (Wo.over l (i * 2) vs) ((i + 1) * 2) (cs.drop (i * 2)) = (Wo.over l (i * 2) vs).take ((i + 1) * 2) ++ cs.drop (i * 2) ++ (Wo.over l (i * 2) vs).drop ((i + 1) * 2 + (cs.drop (i * 2)).length) from rfl, e1]
  rw [List.take_append_of_le_length (by simp only [List.length_append, List.length_take]; omega)]
  exact List.take_of_length_le (by simp only [List.length_append, List.length_take]; omega)

set_option maxHeartbeats 4000000 in
set_option maxRecDepth 100000 in
/-- There is no room, and it is not the last place: a new row. -/
theorem Wo.insert_grow (b n i vb B : Nat) (cs : List Value) (u0 u1 : Value) (w : World) (hi : i < n) (hn : n ≤ 64) (hB : B ≤ w.heap.size) (hcl : cs.length = n * 2)
    (hcs : ∀ j v, cs[j]? = some v → w.cell? ⟨b, j, none⟩ = some v) (hvb : w.heap[vb]? = some (.cells #[u0, u1] 53 (0, 0)))
    (h1c : ∀ v ∈ cs, v.oneCell' = true) (h1v : ∀ v ∈ [u0, u1], v.oneCell' = true) :
    Calls Try.prog 27 #[.slice (some ⟨b, 0, none⟩) n n, .int .i64 i, .slice (some ⟨vb, 0, none⟩) 1 1] w fun e w' =>
      ∃ v', e = .returned v' ∧ w'.ownsRow B 53 2 v' (n + 1) (cs.take (i * 2) ++ [u0, u1] ++ cs.drop (i * 2)) ∧ w.grownBy w' (some b) := by
  obtain ⟨i0, hi0, hz0, hz1, hz2⟩ := info_parts Wo.infoFile
  have hz2' : ¬ ((i : Int) = (n : Int)) := by omega
  have hbw : b < w.heap.size := block_lt_of_cell (hcs 0 _ (List.getElem?_eq_getElem (by omega)))
  have hvw : vb < w.heap.size := (Array.getElem?_eq_some_iff.1 hvb).1
  have hkk : (n : Int) + 1 - (i : Int) = ((n + 1 - i : Nat) : Int) := by omega
  have hik : i + (n + 1 - i) = n + 1 := by omega
  have hold : (Builtin.firstCells i0.size i (.slice (some ⟨b, 0, none⟩) i n)).run Try.prog w.drew = .ok (cs.take (i * 2)).toArray w.drew := by
    rw [hz1]
    exact run_firstCells_some w.drew 2 i ⟨b, 0, none⟩ i n (cs.take (i * 2)) (by rw [List.length_take]; omega) (fun j v hj => by
      rw [Addr.add_lit, Nat.zero_add]
      rw [List.getElem?_take] at hj
      split at hj
      · exact hcs j v hj
      · cases hj)
  obtain ⟨G, hG⟩ : ∃ G, G = grownCap w (n + 1) n 53 := ⟨_, rfl⟩
  obtain ⟨R0, hR0⟩ : ∃ R : Array Value, R = (cs.take (i * 2)).toArray ++ Builtin.zeroCells (Value.agg #[.string ⟨#[]⟩, .slice none 0 0]).cells (n + 1 - i) ++ Builtin.zeroCells (Value.agg #[.string ⟨#[]⟩, .slice none 0 0]).cells (G - (n + 1)) := ⟨_, rfl⟩
  have hG1 : n + 1 ≤ G := hG ▸ grownCap_ge w _ _ _
  have hG2 : G ≤ maxLen := hG ▸ grownCap_le_maxLen w _ _ _ (by unfold maxLen; omega)
  have hrz : ∀ ty, (Builtin.append_ #[24, 3] ty #[.slice (some ⟨b, 0, none⟩) i n, .int .i64 ((n : Int) + 1 - (i : Int))]).run Try.prog w =
      .ok (.slice (some ⟨w.heap.size, 0, none⟩) (n + 1) G) (w.drew.alloc (.cells R0 53)) := fun ty => by
    have h := Lib.run_append_grow_zeros (P := Try.prog) w 24 3 ty 53 i0 _ .i64 .i64 Try.underlying24 Try.underlying3 hi0 hz0 (some ⟨b, 0, none⟩) i n (cs.take (i * 2)) hold (n + 1 - i) (by omega) (by omega) (by omega) (by omega) (by rw [hz2]; omega) (by rw [hz2, hik]; exact growslice_fits (by omega) (by omega))
    rw [hik, ← hG, ← hR0] at h
    rw [hkk]
    exact h
  have hRs : R0.size = G * 2 := by
    rw [hR0]
    simp only [Array.size_append, List.size_toArray, List.length_take, size_zeroCells, hcl]
    show min (i * 2) (n * 2) + (n + 1 - i) * 2 + (G - (n + 1)) * 2 = G * 2
    omega
  have hRt : R0.toList.take (i * 2) = cs.take (i * 2) := by
    rw [hR0]
    simp only [Array.toList_append]
    rw [List.append_assoc, List.take_append_of_le_length (by simp only [List.length_take]; omega)]
    exact List.take_of_length_le (by simp only [List.length_take]; omega)
  clear hR0 hold hkk hik
  obtain ⟨h, hh⟩ : ∃ h, w.heap.size = h := ⟨_, rfl⟩
  rw [hh] at hrz
  obtain ⟨W1, hW1⟩ : ∃ W1, W1 = w.drew.alloc (.cells R0 53) := ⟨_, rfl⟩
  have q1 : W1.heap[h]? = some (.cells R0 53 (0, 0)) := by rw [hW1, ← hh]; exact heap_alloc_new w.drew _
  have o1 : ∀ k, k < h → W1.heap[k]? = w.heap[k]? := fun k hk => by rw [hW1]; exact Lib.alloc_old w.drew _ k (by rw [← hh] at hk; exact hk)
  have g1 : w.grownBy W1 (some b) := by
    rw [hW1]
    exact ⟨rfl, rfl, rfl, by simp, fun k hk _ => Lib.alloc_old w.drew _ k hk⟩
  rw [← hW1] at hrz
  obtain ⟨R1, hR1⟩ : ∃ R : Array Value, R = (Wo.over R0.toList (i * 2) [u0, u1]).toArray := ⟨_, rfl⟩
  have hR1s : R1.size = G * 2 := by rw [hR1, List.size_toArray, Wo.over_len _ _ _ (by simp [hRs]; omega)]; simpa using hRs
  obtain ⟨R2, hR2⟩ : ∃ R : Array Value, R = (Wo.over R1.toList ((i + 1) * 2) (cs.drop (i * 2))).toArray := ⟨_, rfl⟩
  have hdl : (cs.drop (i * 2)).length = (n - i) * 2 := by simp only [List.length_drop]; omega
  have hR2s : R2.size = G * 2 := by rw [hR2, List.size_toArray, Wo.over_len _ _ _ (by rw [hdl]; simp [hR1s]; omega)]; simpa using hR1s
  have hfin : R2.toList.take ((n + 1) * 2) = cs.take (i * 2) ++ [u0, u1] ++ cs.drop (i * 2) := by
    rw [hR2, hR1]
    exact Wo.over_two R0.toList n i cs [u0, u1] rfl (by omega) (by simp [hRs]; omega) hcl hRt
  have hcp1 : ∀ ty dc, (Builtin.copy_ #[24, 24] ty #[.slice (some ⟨h, i * 2, none⟩) (n + 1 - i) dc, .slice (some ⟨vb, 0, none⟩) 1 1]).run Try.prog W1 = .ok (goInt (1 : Nat)) (W1.setRow h R1) := fun ty dc => by
    have := Wo.run_copyK (P := Try.prog) W1 24 24 ty 53 2 h (i * 2) (n + 1 - i) dc ⟨vb, 0, none⟩ 1 1 R0 53 [u0, u1] Try.underlying24 Wo.infoFileSz q1 1 (by simp only [Nat.min_def]; split <;> omega) rfl (Dt.row_at ((o1 vb (by omega)).trans hvb)) (by simp [hRs]; omega) h1v
    rw [this, hR1]
    simp only [Wo.over]
  have q2 : (W1.setRow h R1).heap[h]? = some (.cells R1 53 (0, 0)) := setRow_heap W1 h R0 R1 _ _ q1
  have hcp2 : ∀ ty dc, (Builtin.copy_ #[24, 24] ty #[.slice (some ⟨h, (i + 1) * 2, none⟩) (n - i) dc, .slice (some ⟨b, i * 2, none⟩) (n - i) (n - i)]).run Try.prog (W1.setRow h R1).drew = .ok (goInt (n - i : Nat)) ((W1.setRow h R1).drew.setRow h R2) := fun ty dc => by
    have := Wo.run_copyK (P := Try.prog) (W1.setRow h R1).drew 24 24 ty 53 2 h ((i + 1) * 2) (n - i) dc ⟨b, i * 2, none⟩ (n - i) (n - i) R1 53 (cs.drop (i * 2)) Try.underlying24 Wo.infoFileSz q2 (n - i) (by simp) hdl (fun j v hj => by
      rw [Addr.add_lit]
      have e : (W1.setRow h R1).heap[b]? = w.heap[b]? := (setRow_other W1 h b R1 (by omega)).trans (o1 b (by omega))
      have := hcs (i * 2 + j) v (by rwa [List.getElem?_drop] at hj)
      simp only [World.cell?] at this ⊢
      rw [show (W1.setRow h R1).drew.heap = (W1.setRow h R1).heap from rfl, e]
      exact this) (by rw [hdl, hR1s]; omega) (fun v hv => h1c v (List.mem_of_mem_drop hv))
    rw [this, hR2]
    simp only [Wo.over]
  have q3 : ((W1.setRow h R1).drew.setRow h R2).heap[h]? = some (.cells R2 53 (0, 0)) := setRow_heap (W1.setRow h R1).drew h R1 R2 _ _ q2
  have H1 : Hid (((W1.setRow h R1).drew.setRow h R2).ownsRow B 53 2 (.slice (some ⟨h, 0, none⟩) (n + 1) G) (n + 1) (cs.take (i * 2) ++ [u0, u1] ++ cs.drop (i * 2))) := Lib.hid ⟨by simp only [List.length_append, List.length_take, hdl, hcl, List.length_cons, List.length_nil]; omega, .inr ⟨h, G, R2, rfl, by omega, q3, hG1, hG2, hR2s, hfin⟩⟩
  have H2 : Hid (w.grownBy ((W1.setRow h R1).drew.setRow h R2) (some b)) := Lib.hid ⟨g1.os, g1.tape, g1.output, by have := g1.size; simpa using this, fun k hk hne => by
    rw [setRow_other _ h k R2 (by omega)]
    show (W1.setRow h R1).heap[k]? = _
    rw [setRow_other _ h k R1 (by omega)]
    exact g1.block k hk hne⟩
  obtain ⟨W2, hW2⟩ : ∃ W2, W2 = W1.setRow h R1 := ⟨_, rfl⟩
  rw [← hW2] at hcp1 hcp2 H1 H2
  obtain ⟨W3, hW3⟩ : ∃ W3, W3 = W2.drew.setRow h R2 := ⟨_, rfl⟩
  rw [← hW3] at hcp2 H1 H2
  have hGi : ¬ (G = i) := by omega
  have hGi1 : ¬ (G = i + 1) := by omega
  have hni : ¬ (n = i) := by omega
  have hG63 : G ≤ 9223372036854775807 := by unfold maxLen at hG2; omega
  have hin : i ≤ n := by omega
  have hin1 : (i : Int) ≤ (n : Int) + 1 := by omega
  have hin2 : (i : Int) ≤ (n : Int) := by omega
  have hb1i : (0 : Int) ≤ (i : Int) + 1 := by omega
  have hin3 : (i : Int) + 1 ≤ (n : Int) + 1 := by omega
  have hw1 : IntKind.i64.wrap ((i : Int) + (1 : Int)) = (i : Int) + (1 : Int) := by rw [IntKind.wrap_i64]; unfold maxLen at hG2; omega
  have hnn : (n : Int) < (n : Int) + 1 := by omega
  clear hW2 hW3 hW1 q1 q2 q3 o1 g1 hR1 hR2 hR1s hR2s hRs hRt hfin hdl hG hcs hvb hh
  go_enter Try.func27, Try.ntmps27
  go_wp2_with (first
    | (at_builtin; refine Lib.wpList_append_run _ rfl _ _ _ _ rfl _ _ rfl rfl _ _ (hrz _) ?_)
    | (at_builtin; refine wpList_copy_runI _ rfl _ _ 24 24 rfl _ _ rfl rfl (hcp1 _ _) ?_))
  go_region_law (refine step_copy_runI rfl _ _ 24 24 rfl _ _ (by simp [Act.eval, Act.put]) (by simp [Act.eval, Act.put]) (hcp2 _ _) ?_)
  go_wp2
  go_ret
  exact ⟨_, rfl, H1.out, H2.out⟩
end Go.Proofs.Ytdikkknjdbchbaa
