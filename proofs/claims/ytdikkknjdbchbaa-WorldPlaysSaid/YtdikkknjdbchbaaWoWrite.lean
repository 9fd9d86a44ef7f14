/-
  world.Write of any world.
-/
import Derived.Test.YtdikkknjdbchbaaWoSay
namespace Go.Proofs.Ytdikkknjdbchbaa
open Go.RowKit
set_option linter.unusedVariables false

/-- Bytes that may be appended to: all that their slice has room for, or in a row of their own. -/
def Wo.App (B : Nat) (w : World) (v : Value) (s : ByteArray) : Prop := (∃ ad, v = .slice ad s.size s.size ∧ By.In w v s) ∨ w.ownsRow B 5 1 v s.size (By.vals s)
theorem Wo.App.in {B : Nat} {w : World} {v : Value} {s : ByteArray} (h : Wo.App B w v s) : By.In w v s := by
  rcases h with ⟨_, _, h⟩ | h
  · exact h
  · exact By.In.of_own h
theorem Wo.bytesOf_app (s d : ByteArray) : By.vals s ++ By.vals d = By.vals (Wo.bytesOf (s.data.toList ++ d.data.toList)) ∧ (Wo.bytesOf (s.data.toList ++ d.data.toList)).size = s.size + d.size := by
  refine ⟨?_, by rw [Wo.bytesOf_size, List.length_append, Wo.len_list, Wo.len_list]⟩
  rw [Wo.bv_data, Wo.bv_data, Wo.bv_data, Wo.bytesOf_data, By.bv_append]
theorem Wo.bytesOf_nil (s d : ByteArray) (h : d.size = 0) : Wo.bytesOf (s.data.toList ++ d.data.toList) = s := by
  have : d.data.toList = [] := List.length_eq_zero_iff.1 (by rw [Wo.len_list, h])
  rw [this, List.append_nil]
  rfl
theorem Wo.run_append_cut {P : Program} (w : World) (t ty : TypeId) (i : TypeInfo) (z : Value) (ht : P.underlying t = some (.slice 5)) (hi : P.info? 5 = some i) (hz : i.zero = some z)
    (hsize : i.size = 1) (hby : i.bytes = 1) (hzs : z.cells.size = 1) (B : Nat) (ad : Option Addr) (s : ByteArray) (h : By.In w (.slice ad s.size s.size) s) (xv : Value) (d : ByteArray) (hin : By.In w xv d)
    (hbytes : s.size + d.size ≤ 140737488351232) (hbase : B ≤ w.heap.size) :
    ∃ v' w', (Builtin.append_ #[t, t] ty #[.slice ad s.size s.size, xv]).run P w = .ok v' w' ∧ Wo.App B w' v' (Wo.bytesOf (s.data.toList ++ d.data.toList)) ∧ Below B w w' := by
  rcases Nat.eq_zero_or_pos d.size with hd | hd
  · rw [Wo.bytesOf_nil s d hd]
    refine ⟨.slice ad s.size s.size, w, ?_, .inl ⟨ad, rfl, h⟩, Below.refl _ _⟩
    rcases hin with ⟨rfl, _⟩ | ⟨xa, xc, rfl, _⟩ | ⟨h0, _⟩
    · cases ad with
      | none =>
        have : s.size = 0 := by
          rcases h with ⟨_, h⟩ | ⟨a, c, h1, h0⟩ | ⟨h0, b, off, c, h1, _⟩
          · exact h
          · exact h0
          · simp at h1
        rw [this]
        simp [Builtin.append_, run_underlying ht, sizeOf, typeInfo, hi, Builtin.lenOf, Builtin.firstCells]
      | some b => simp [Builtin.append_, run_underlying ht, sizeOf, typeInfo, hi, Builtin.lenOf, Builtin.firstCells, storeCells]
    · cases ad with
      | none =>
        have : s.size = 0 := by
          rcases h with ⟨_, h⟩ | ⟨a, c, h1, h0⟩ | ⟨h0, b, off, c, h1, _⟩
          · exact h
          · exact h0
          · simp at h1
        rw [this]
        simp [Builtin.append_, run_underlying ht, sizeOf, typeInfo, hi, Builtin.lenOf, Builtin.firstCells, loadCells, loadCellsFrom]
      | some b => simp [Builtin.append_, run_underlying ht, sizeOf, typeInfo, hi, Builtin.lenOf, Builtin.firstCells, loadCells, loadCellsFrom, storeCells]
    · omega
  · obtain ⟨hv, hsz⟩ := Wo.bytesOf_app s d
    have grown : ∀ (old : Nat), old < s.size + d.size → 
        (w.drew.alloc (.cells ((By.vals s).toArray ++ (By.vals d).toArray ++ Builtin.zeroCells z.cells (grownCap w (s.size + d.size) old 5 - (s.size + d.size))) 5)).ownsRow B 5 1
          (.slice (some ⟨w.heap.size, 0, none⟩) (s.size + d.size) (grownCap w (s.size + d.size) old 5)) (s.size + d.size) (By.vals s ++ By.vals d) ∧
        Below B w (w.drew.alloc (.cells ((By.vals s).toArray ++ (By.vals d).toArray ++ Builtin.zeroCells z.cells (grownCap w (s.size + d.size) old 5 - (s.size + d.size))) 5)) := by
      intro old ho
      have hge := grownCap_ge w (s.size + d.size) old 5
      have hcm : grownCap w (s.size + d.size) old 5 ≤ maxLen := grownCap_le_maxLen w (s.size + d.size) old 5 (by unfold maxLen; omega)
      have hlen : (By.vals s ++ By.vals d).length = (s.size + d.size) * 1 := by rw [List.length_append, By.vals_len, By.vals_len, Nat.mul_one]
      refine ⟨⟨hlen, .inr ⟨w.heap.size, _, _, rfl, hbase, heap_alloc_new w.drew _, hge, hcm, ?_, ?_⟩⟩, ((Below.refl _ _).drew).alloc hbase _⟩
      · simp only [Array.size_append, List.size_toArray, size_zeroCells, hzs, By.vals_len]
        omega
      · simp only [Array.toList_append, List.append_assoc]
        rw [← List.append_assoc, ← hlen]
        exact List.take_left
    obtain ⟨xa, xc, rfl⟩ := hin.slice
    have hxa : ∃ a, xa = some a ∧ ∀ j u, (By.vals d)[j]? = some u → w.cell? (a.add j) = some u := by
      rcases hin with ⟨_, h⟩ | ⟨_, _, _, h⟩ | ⟨h0, b, off, c, h1, h2, h3, hc⟩
      · omega
      · omega
      · simp only [Value.slice.injEq] at h1
        refine ⟨_, h1.1, fun j u hj => ?_⟩
        have hj2 : j < d.size := by have := (List.getElem?_eq_some_iff.1 hj).1; rw [By.vals_len] at this; exact this
        rw [By.vals_at d j hj2] at hj
        cases hj
        rw [Sl.addr_add]
        exact hc j hj2
    obtain ⟨a, rfl, hnews⟩ := hxa
    cases ad with
    | none =>
      have h0 : s.size = 0 := by
        rcases h with ⟨_, h⟩ | ⟨a, c, h1, h0⟩ | ⟨h0, b, off, c, h1, _⟩
        · exact h
        · exact h0
        · simp at h1
      have hv0 : By.vals s = [] := List.length_eq_zero_iff.1 (by rw [By.vals_len, h0])
      have hr := run_append_nil (P := P) w t ty 5 i z ht hi hz a d.size xc (By.vals d) (by rw [By.vals_len, hsize, Nat.mul_one]) hnews hd (by omega) (by rw [hby]; omega)
      obtain ⟨g1, g2⟩ := grown 0 (by omega)
      rw [hv, ← hsz] at g1
      rw [h0]
      rw [hv0] at g1 g2
      simp only [h0, Nat.zero_add, Array.empty_append] at hr g1 g2 hsz
      refine ⟨_, _, hr, .inr ?_, g2⟩
      rw [hsz] at g1 ⊢
      exact g1
    | some b =>
      have holds : ∀ j u, (By.vals s)[j]? = some u → w.cell? (b.add j) = some u := by
        intro j u hj
        have hj2 : j < s.size := by have := (List.getElem?_eq_some_iff.1 hj).1; rw [By.vals_len] at this; exact this
        rcases h with ⟨h1, h⟩ | ⟨_, _, _, h⟩ | ⟨h0, b', off, c, h1, h2, h3, hc⟩
        · omega
        · omega
        · simp only [Value.slice.injEq, Option.some.injEq] at h1
          rw [h1.1, Sl.addr_add]
          rw [By.vals_at s j hj2] at hj
          cases hj
          exact hc j hj2
      have hr := run_append_grow (P := P) w t ty 5 i z ht hi hz b s.size s.size (By.vals s) (by rw [By.vals_len, hsize, Nat.mul_one]) holds a d.size xc (By.vals d) (by rw [By.vals_len, hsize, Nat.mul_one]) hnews (by omega) (by omega) (by rw [hby]; exact growslice_fits (by omega) (by omega))
      obtain ⟨g1, g2⟩ := grown s.size (by omega)
      refine ⟨_, _, hr, .inr ?_, g2⟩
      rw [hv] at g1
      rw [hsz]
      exact g1
theorem Wo.run_append_app {P : Program} (w : World) (t ty : TypeId) (i : TypeInfo) (z : Value) (ht : P.underlying t = some (.slice 5)) (hi : P.info? 5 = some i) (hz : i.zero = some z)
    (hsize : i.size = 1) (hby : i.bytes = 1) (hzs : z.cells.size = 1) (B : Nat) (v : Value) (s : ByteArray) (h : Wo.App B w v s) (xv : Value) (d : ByteArray) (hin : By.In w xv d)
    (hbytes : s.size + d.size ≤ 140737488351232) (hbase : B ≤ w.heap.size) :
    ∃ v' w', (Builtin.append_ #[t, t] ty #[v, xv]).run P w = .ok v' w' ∧ Wo.App B w' v' (Wo.bytesOf (s.data.toList ++ d.data.toList)) ∧ Below B w w' := by
  rcases h with ⟨ad, rfl, h⟩ | h
  · exact Wo.run_append_cut w t ty i z ht hi hz hsize hby hzs B ad s h xv d hin hbytes hbase
  · obtain ⟨v', w', hr, h2, h3, h4⟩ := By.run_append_bytes (P := P) w t ty B 5 i z ht hi hz hsize hby hzs v s.size (By.vals s) h xv d hin (by unfold maxLen; omega) (by omega) hbase
    obtain ⟨hv, hsz⟩ := Wo.bytesOf_app s d
    refine ⟨v', w', hr, .inr ?_, (Below.refl _ _).grown h3 hbase (fun k hk => (h.lt k hk).1)⟩
    rw [hsz, ← hv]
    exact h2
section
variable {P : Program} {w : World} {ops : Array Oper} {rest : List Oper} {o : Oper} {a : Act} {Q : Exit → Act → World → Prop}
theorem Wo.wp_append_app {K : Act → World → Prop} (s x : Operand) (t : TypeId)
    (ho : o.op = .call { callee := .builtin .append, args := #[s, x], argTypes := #[t, t] })
    (i : TypeInfo) (z : Value) (ht : P.underlying t = some (.slice 5)) (hi : P.info? 5 = some i) (hz : i.zero = some z)
    (hsize : i.size = 1) (hby : i.bytes = 1) (hzs : z.cells.size = 1)
    (B : Nat) (v : Value) (S : ByteArray) (hs : a.eval s = v) (hown : Wo.App B w v S) (xv : Value) (d : ByteArray) (hx : a.eval x = xv) (hin : By.In w xv d)
    (hbytes : S.size + d.size ≤ 140737488351232) (hbase : B ≤ w.heap.size)
    (h : ∀ v' w', Wo.App B w' v' (Wo.bytesOf (S.data.toList ++ d.data.toList)) → Below B w w' → K (a.put o.dst v') w') : o.wp P a w K Q := by
  obtain ⟨v', w', hr, h2, h3⟩ := Wo.run_append_app (P := P) w t o.type i z ht hi hz hsize hby hzs B v S hown xv d hin hbytes hbase
  unfold Oper.wp execOp
  simp only [ho, resolve, invoke, builtin, Sem.run_bind, Sem.run_pure, Result.andThen_ok, List.map_toArray, List.map_cons, List.map_nil, hs, hx, hr]
  exact h v' w' h2 h3
theorem Wo.wpList_append_app (hgd : o.guard = none) (s x : Operand) (t : TypeId)
    (ho : o.op = .call { callee := .builtin .append, args := #[s, x], argTypes := #[t, t] })
    (i : TypeInfo) (z : Value) (ht : P.underlying t = some (.slice 5)) (hi : P.info? 5 = some i) (hz : i.zero = some z)
    (hsize : i.size = 1) (hby : i.bytes = 1) (hzs : z.cells.size = 1)
    (B : Nat) (v : Value) (S : ByteArray) (hs : a.eval s = v) (hown : Wo.App B w v S) (xv : Value) (d : ByteArray) (hx : a.eval x = xv) (hin : By.In w xv d)
    (hbytes : S.size + d.size ≤ 140737488351232) (hbase : B ≤ w.heap.size)
    (h : ∀ v' w', Wo.App B w' v' (Wo.bytesOf (S.data.toList ++ d.data.toList)) → Below B w w' → wpList P ops Q rest (a.put o.dst v') w') : wpList P ops Q (o :: rest) a w :=
  wpList_plain hgd fun _ hK => Wo.wp_append_app s x t ho i z ht hi hz hsize hby hzs B v S hs hown xv d hx hin hbytes hbase fun v' w' h2 h3 => hK _ _ (h v' w' h2 h3)
end

theorem By.In.cutA {w : World} {ad : Option Addr} {cap : Nat} {s : ByteArray} (h : By.In w (.slice ad s.size cap) s) (n : Nat) (hn : n ≤ s.size) : By.In w (.slice (if n = 0 then ad else ad.map (·.add (0 * 1))) n n) (Wo.bytesOf (s.data.toList.take n)) := by
  have hl : (Wo.bytesOf (s.data.toList.take n)).size = n := by rw [Wo.bytesOf_size, List.length_take, Wo.len_list]; omega
  by_cases h0 : n = 0
  · subst h0
    rw [if_pos rfl]
    cases ad with
    | none => exact .inl ⟨rfl, hl⟩
    | some a => exact .inr (.inl ⟨a, 0, rfl, hl⟩)
  · rw [if_neg h0]
    have h2 := h.takeN n hn
    rcases h2 with ⟨_, h1⟩ | ⟨_, _, _, h1⟩ | ⟨h1, b, off, c, hv, hc, hlt, hcell⟩
    · omega
    · omega
    · simp only [Value.slice.injEq] at hv
      obtain ⟨rfl, _, rfl⟩ := hv
      exact .inr (.inr ⟨h1, b, off, n, by simp [Sl.addr_add, hl], by omega, hlt, hcell⟩)
theorem By.In.other {w w' : World} {v : Value} {s : ByteArray} {r : Nat} {C : Array Value} {t : TypeId} (h : By.In w v s) (hr : w.heap[r]? = some (.cells C t (0, 0))) (hC : ∀ (k : Nat) (u : Value), C[k]? = some u → ∃ a n c, u = Value.slice a n c) (hk : ∀ q, q ≠ r → w'.heap[q]? = w.heap[q]?) (hs : w.heap.size ≤ w'.heap.size) : By.In w' v s := by
  rcases h with h | h | ⟨h0, b, off, c, h1, h2, h3, hc⟩
  · exact .inl h
  · exact .inr (.inl h)
  · refine .inr (.inr ⟨h0, b, off, c, h1, h2, by omega, fun j hj => ?_⟩)
    rw [← hc j hj]
    refine World.cell?_of_block (hk b ?_)
    rintro rfl
    have := hc 0 h0
    rw [Dt.cell_of hr] at this
    obtain ⟨_, _, _, hh⟩ := hC _ _ this
    cases hh
theorem Wo.In.other {w w' : World} {v : Value} {W : Wo.W} {r : Nat} {C : Array Value} {t : TypeId} (h : Wo.In w v W) (hr : w.heap[r]? = some (.cells C t (0, 0))) (hC : ∀ (k : Nat) (u : Value), C[k]? = some u → ∃ a n c, u = Value.slice a n c) (hk : ∀ q, q ≠ r → w'.heap[q]? = w.heap[q]?) (hs : w.heap.size ≤ w'.heap.size) : Wo.In w' v W := by
  obtain ⟨fv, iv, ov, hv, hf, hi, ho⟩ := h
  refine ⟨fv, iv, ov, hv, ?_, hi.other hr hC hk hs, ho.other hr hC hk hs⟩
  rcases hf with h | h | ⟨h0, b, off, c, h1, h2, h3, hc⟩
  · exact .inl h
  · exact .inr (.inl h)
  · have hb : b ≠ r := by
      rintro rfl
      have := (hc 0 h0).1
      rw [Dt.cell_of hr] at this
      obtain ⟨_, _, _, hh⟩ := hC _ _ this
      cases hh
    refine .inr (.inr ⟨h0, b, off, c, h1, h2, by omega, fun k hk2 => ?_⟩)
    obtain ⟨c0, dv, c1, hd⟩ := hc k hk2
    exact ⟨(World.cell?_of_block (hk b hb)).trans c0, dv, (World.cell?_of_block (hk b hb)).trans c1, hd.other hr hC hk hs⟩
/-- The result's box takes a world that another function has answered. -/
theorem Wo.put_other {wz w0 : World} {r B0 : Nat} {W : Wo.W} {v : Value} (hr : wz.heap[r]? = some (.cells #[.slice none 0 0, .slice none 0 0, .slice none 0 0] 26 (0, 0)))
    (h : Wo.In wz v W) (hb : Below B0 w0 wz) (hB0 : B0 ≤ r) :
    ∃ (fv iv ov : Value) (X1 X2 X3 : World), v = .agg #[fv, iv, ov] ∧ (∃ a n c, fv = .slice a n c) ∧ (∃ a n c, iv = .slice a n c) ∧ (∃ a n c, ov = .slice a n c) ∧
    (wz.cell? ⟨r, 0, none⟩ = some (.slice none 0 0) ∧ wz.frozen? ⟨r, 0, none⟩ = false ∧ wz.setCell ⟨r, 0, none⟩ fv = X1) ∧
    (X1.cell? ⟨r, 1, none⟩ = some (.slice none 0 0) ∧ X1.frozen? ⟨r, 1, none⟩ = false ∧ X1.setCell ⟨r, 1, none⟩ iv = X2) ∧
    (X2.cell? ⟨r, 2, none⟩ = some (.slice none 0 0) ∧ X2.frozen? ⟨r, 2, none⟩ = false ∧ X2.setCell ⟨r, 2, none⟩ ov = X3) ∧
    (X3.cell? ⟨r, 0, none⟩ = some fv ∧ X3.cell? ⟨r, 1, none⟩ = some iv ∧ X3.cell? ⟨r, 2, none⟩ = some ov) ∧ Hid (Wo.In X3 v W ∧ Below B0 w0 X3) := by
  obtain ⟨fv, iv, ov, rfl, hf, hi, ho⟩ := id h
  obtain ⟨X1, X2, X3, ⟨f0, z0, e0, s0⟩, ⟨f1, z1, e1, s1⟩, ⟨f2, z2, e2, s2⟩, hR, hXs, hXo, hXb⟩ := Dt.put3 hr fv iv ov
  obtain ⟨a0, c0, rfl⟩ := hf.slice
  obtain ⟨a1, c1, rfl⟩ := hi.slice
  obtain ⟨a2, c2, rfl⟩ := ho.slice
  refine ⟨_, _, _, X1, X2, X3, rfl, ⟨_, _, _, rfl⟩, ⟨_, _, _, rfl⟩, ⟨_, _, _, rfl⟩, ⟨f0, z0, e0⟩, ⟨f1, z1, e1⟩, ⟨f2, z2, e2⟩, ⟨Dt.cell_of hR 0, Dt.cell_of hR 1, Dt.cell_of hR 2⟩, Lib.hid ⟨h.other hr (fun k u hu => ?_) (fun q hq => hXo q hq) (Nat.le_of_eq hXs.symm), hXb _ _ hb hB0⟩⟩
  have : u ∈ #[Value.slice none 0 0, .slice none 0 0, .slice none 0 0] := Array.mem_of_getElem? hu
  simp at this
  exact ⟨_, _, _, this⟩
theorem Wo.splice_one (old : ByteArray) (m : Nat) (d : ByteArray) (hm : m ≤ old.size) : ∃ pre suf : ByteArray, Wo.bytesOf (old.data.toList.take m) = pre ∧ Wo.bytesOf (old.data.toList.drop (m + d.size)) = suf ∧ pre.size = m ∧
    Wo.splice old m d = Wo.bytesOf ((Wo.bytesOf (pre.data.toList ++ d.data.toList)).data.toList ++ suf.data.toList) ∧ (old.size ≤ m + d.size → Wo.splice old m d = Wo.bytesOf (pre.data.toList ++ d.data.toList)) ∧ suf.size = old.size - (m + d.size) := by
  refine ⟨_, _, rfl, rfl, ?_, ?_, fun h => ?_, ?_⟩
  · rw [Wo.bytesOf_size, List.length_take, Wo.len_list]; omega
  · simp [Wo.splice, Wo.bytesOf]
  · rw [Wo.splice, List.drop_eq_nil_of_le (by rw [Wo.len_list]; omega)]
    simp [Wo.bytesOf]
  · rw [Wo.bytesOf_size, List.length_drop, Wo.len_list]

set_option maxHeartbeats 8000000 in
set_option maxRecDepth 1000000 in
theorem Wo.Write_any (W : Wo.W) (v : Value) (name : ByteArray) (at_ : Int) (hat : (Lit.int .i64 at_).wf = true) (d : ByteArray) (dv : Value) (w : World) (h : Wo.In w v W) (hd : By.In w dv d) (hd47 : d.size ≤ 140737488355328) : Calls Try.prog 8 #[v, .string name, .int .i64 at_, dv] w fun e w' => ∃ v', e = .returned (.tuple #[v', .int .i64 (Wo.writeS W name at_ d).2]) ∧ Wo.In w' v' (Wo.writeS W name at_ d).1 ∧ Below w.heap.size w w' := by
  have KG := fun w h => Wo.Get_any W v name w h
  have KP := fun d dv w h => Wo.Put_any W v name d dv w h
  obtain ⟨add, capd, rfl⟩ := hd.slice
  obtain ⟨fv, iv, ov, rfl, hf, hi, ho⟩ := id h
  have H := Lib.hid h
  have HD := Lib.hid hd
  clear h hd
  obtain ⟨ad, cap, rfl⟩ := hf.slice
  obtain ⟨ad1, cap1, rfl⟩ := hi.slice
  obtain ⟨ad2, cap2, rfl⟩ := ho.slice
  clear hf hi ho
  obtain ⟨i0, hi0, hz0, hz1, hz2⟩ := info_parts Wo.infoByte
  obtain ⟨W2, hW2, q0, q1, hsz, hb0⟩ := Wo.two w (.cells #[.slice ad W.1.length cap, .slice ad1 W.2.1.size cap1, .slice ad2 W.2.2.size cap2] 26) (.cells #[.slice none 0 0, .slice none 0 0, .slice none 0 0] 26)
  have HIN := Lib.hid (fun (w' : World) (hb : Below W2.heap.size W2 w') => (H.out.below hb0 (Nat.le_refl _)).below hb (Nat.le_refl _))
  have HDN := Lib.hid (fun (w' : World) (hb : Below W2.heap.size W2 w') => (HD.out.below hb0 (Nat.le_refl _)).below hb (Nat.le_refl _))
  have HQ := Lib.hid (fun (w' : World) (hb : Below W2.heap.size W2 w') => Wo.row3 q0 hb (Nat.le_refl _))
  have HR := Lib.hid (fun (w' : World) (hb : Below W2.heap.size W2 w') => (Wo.row3 q1 hb (Nat.le_refl _)).1)
  have HB := Lib.hid (fun (w' : World) (hb : Below W2.heap.size W2 w') => hb0.trans (hb.mono (by omega : w.heap.size ≤ W2.heap.size)))
  obtain ⟨_, e0, e1, e2⟩ := HQ.out W2 (Below.refl _ _)
  clear q0 q1 hb0
  by_cases hok : (Wo.getS W name).2 = 0
  case neg =>
    have hg : Wo.writeS W name at_ d = (Wo.w0, (Wo.getS W name).2) := by simp [Wo.writeS, hok]
    rw [hg]
    have hne : ((Wo.getS W name).2 != 0) = true := by simp [hok]
    clear hg hok
    generalize (Wo.getS W name).2 = ge at *
    go_enter Try.func8, Try.ntmps8
    go_wp2_with fail
    refine (KG _ (HIN.out _ (Below.refl _ _))).mono ?_
    rintro x w1 ⟨v1, rfl, hu1, hb1, hge1⟩
    obtain ⟨X1, X2, X3, ⟨f0, z0, s0⟩, ⟨f1, z1, s1⟩, ⟨f2, z2, s2⟩, ⟨r0, r1, r2⟩, HOUT⟩ := Wo.put_none (HR.out _ hb1) (HB.out _ hb1) (by omega)
    clear hb1 hu1 hge1
    go_wp2_with fail
    refine bodyPost_ret (v := .tuple #[.agg #[.slice none 0 0, .slice none 0 0, .slice none 0 0], .int .i64 ge]) (by simp [results, Try.results8, go_sem, r0, r1, r2]) rfl ⟨_, rfl, HOUT.out.1, HOUT.out.2⟩
  case pos =>
    obtain ⟨old, hold⟩ : ∃ old, (Wo.getS W name).1 = old := ⟨_, rfl⟩
    have hol : old.size ≤ 65536 := by
      rw [← hold]
      unfold Wo.getS
      split
      · rename_i hs
        split
        · rename_i hh
          unfold Wo.has Wo.hit at hh
          simp only [Bool.and_eq_true, decide_eq_true_eq] at hh
          exact (Wo.sound_bd hs).2.2.2 _ hh.1
        · exact Nat.zero_le _
      · exact Nat.zero_le _
    simp only [hok, hold] at KG
    by_cases hat0 : 0 ≤ at_ ∧ at_ ≤ old.size
    case neg =>
      have hg : Wo.writeS W name at_ d = (Wo.w0, 1) := by simp only [Wo.writeS, hok, hold, if_true]; rw [if_neg hat0]
      rw [hg]
      clear hg hok hold
      have hcase : at_ < 0 ∨ (0 ≤ at_ ∧ at_ > (old.size : Int)) := by omega
      clear hat0
      rcases hcase with hc | ⟨hc0, hc⟩
      all_goals
        go_enter Try.func8, Try.ntmps8
        go_wp2_with fail
        refine (KG _ (HIN.out _ (Below.refl _ _))).mono ?_
        rintro x w1 ⟨v1, rfl, hu1, hb1, hge1⟩
        obtain ⟨a1, c1, rfl⟩ := hu1.1.slice
        obtain ⟨X1, X2, X3, ⟨f0, z0, s0⟩, ⟨f1, z1, s1⟩, ⟨f2, z2, s2⟩, ⟨r0, r1, r2⟩, HOUT⟩ := Wo.put_none (HR.out _ hb1) (HB.out _ hb1) (by omega)
        clear hb1 hu1 hge1
        go_wp2_with fail
        refine bodyPost_ret (v := .tuple #[.agg #[.slice none 0 0, .slice none 0 0, .slice none 0 0], .int .i64 1]) (by simp [results, Try.results8, go_sem, r0, r1, r2]) rfl ⟨_, rfl, HOUT.out.1, HOUT.out.2⟩
    case pos =>
      obtain ⟨m, rfl⟩ := Int.eq_ofNat_of_zero_le hat0.1
      have hm : m ≤ old.size := by omega
      by_cases hl : (d.size : Int) ≤ 65536 - (m : Int)
      case neg =>
        have hg : Wo.writeS W name m d = (Wo.w0, 4) := by simp only [Wo.writeS, hok, hold, if_true]; rw [if_pos hat0, if_neg hl]
        rw [hg]
        clear hg hok hold hat0
        have h1 : ¬ (m : Int) < 0 := by omega
        have h2 : ¬ (m : Int) > (old.size : Int) := by omega
        have h3 : (d.size : Int) > 65536 - (m : Int) := by omega
        have h4 : (m : Int) ≤ 65536 := by omega
        go_enter Try.func8, Try.ntmps8
        go_wp2_with fail
        refine (KG _ (HIN.out _ (Below.refl _ _))).mono ?_
        rintro x w1 ⟨v1, rfl, hu1, hb1, hge1⟩
        obtain ⟨a1, c1, rfl⟩ := hu1.1.slice
        obtain ⟨X1, X2, X3, ⟨f0, z0, s0⟩, ⟨f1, z1, s1⟩, ⟨f2, z2, s2⟩, ⟨r0, r1, r2⟩, HOUT⟩ := Wo.put_none (HR.out _ hb1) (HB.out _ hb1) (by omega)
        clear hb1 hu1 hge1
        go_wp2_with fail
        refine bodyPost_ret (v := .tuple #[.agg #[.slice none 0 0, .slice none 0 0, .slice none 0 0], .int .i64 4]) (by simp [results, Try.results8, go_sem, r0, r1, r2]) rfl ⟨_, rfl, HOUT.out.1, HOUT.out.2⟩
      case pos =>
        have hg : Wo.writeS W name m d = Wo.putS W name (Wo.splice old m d) := by simp only [Wo.writeS, hok, hold, if_true]; rw [if_pos hat0, if_pos hl]; rfl
        rw [hg]
        obtain ⟨pre, suf, hpre, hsuf, hprel, hsp1, hsp2, hsufl⟩ := Wo.splice_one old m d hm
        obtain ⟨sp, hspn⟩ : ∃ sp, Wo.splice old m d = sp := ⟨_, rfl⟩
        rw [hspn] at hsp1 hsp2 ⊢
        have HSP := Lib.hid (And.intro hsp1 hsp2)
        clear hspn
        clear hg hok hold hat0 hsp1 hsp2
        have h1 : ¬ (m : Int) < 0 := by omega
        have h2 : ¬ (m : Int) > (old.size : Int) := by omega
        have h3 : ¬ (d.size : Int) > 65536 - (m : Int) := by omega
        have h4 : (m : Int) ≤ 65536 := by omega
        have h5 : (0 : Int) ≤ (m : Int) := by omega
        have h6 : (m : Int) ≤ (old.size : Int) := by omega
        go_enter Try.func8, Try.ntmps8
        go_wp2_with fail
        refine (KG _ (HIN.out _ (Below.refl _ _))).mono ?_
        rintro x w1 ⟨v1, rfl, hu1, hb1, hge1⟩
        obtain ⟨a1, c1, rfl⟩ := hu1.1.slice
        have hcap1 : old.size ≤ c1 := by
          rcases hu1.1 with ⟨h1, h0⟩ | ⟨a, c, h1, h0⟩ | ⟨h0, b, off, c, h1, h2, _⟩
          · omega
          · omega
          · simp only [Value.slice.injEq] at h1
            omega
        have h7 : (m : Int) ≤ (c1 : Int) := by omega
        obtain ⟨A1, hA1⟩ : ∃ A, (if m = 0 then a1 else a1.map (·.add (0 * 1))) = A := ⟨_, rfl⟩
        have hsl1 : ∀ W' : World, (Instr.slice 22 (.slice a1 old.size c1) none (some (.int .i64 (m : Int))) (some (.int .i64 (m : Int)))).run Try.prog W' = .ok (.slice A1 m m) W' := by
          intro W'
          rw [run_slice_hm (P := Try.prog) W' 22 a1 old.size c1 Try.underlying22 .i64 .i64 m m (by omega) (by omega) (by omega), ← hA1]
          simp [sizeOf, sliced, go_sem]
          try (show (if m = 0 then a1 else Option.map (fun x => x.add (0 * 1)) a1) = _; simp)
        obtain ⟨n, hn⟩ : ∃ n, m + d.size = n := ⟨_, rfl⟩
        rw [hn] at hsuf hsufl
        have HN := Lib.hid hn
        obtain ⟨A2, hA2⟩ : ∃ A, (if c1 = n then a1 else a1.map (·.add (n * 1))) = A := ⟨_, rfl⟩
        have hsl2 : n ≤ old.size → ∀ W' : World, (Instr.slice 22 (.slice a1 old.size c1) (some (.int .i64 (n : Int))) none none).run Try.prog W' = .ok (.slice A2 (old.size - n) (c1 - n)) W' := by
          intro hle W'
          rw [run_slice_l (P := Try.prog) W' 22 a1 old.size c1 Try.underlying22 .i64 n (by omega) (by omega), ← hA2]
          simp [sizeOf, sliced, go_sem]
          try (show (if c1 = n then a1 else Option.map (fun x => x.add (n * 1)) a1) = _; simp)
        have happ1 : Wo.App w1.heap.size w1 (.slice A1 m m) pre := .inl ⟨A1, by rw [hprel], by rw [← hA1, ← hpre]; exact hu1.1.cutA m hm⟩
        have HIO := Lib.hid (fun (hle : n ≤ old.size) (w' : World) (hb : Below w1.heap.size w1 w') => (show By.In w' (.slice A2 (old.size - n) (c1 - n)) suf from by rw [← hA2, ← hsuf]; exact (hu1.1.below hb (Nat.le_refl _)).dropA n hle))
        have HS2 := Lib.hid hsl2
        have HB1 := Lib.hid hb1
        have HPL := Lib.hid hprel
        have HSL := Lib.hid hsufl
        have hinD := HDN.out _ hb1
        have hbz := hb1.size
        clear hA1 hA2 hu1 hge1 hpre hsuf hsl2 hb1 hprel hsufl hn
        go_wp2_with (at_builtin; refine Wo.wpList_append_app rfl _ _ 22 rfl i0 (.int .u8 0) Try.underlying22 hi0 hz0 hz1 hz2 rfl w1.heap.size _ pre rfl happ1 _ d rfl hinD ?c4 (Nat.le_refl _) ?_)
        case c4 => rw [HPL.out]; omega
        intro v5 w5 happ5 hb5
        obtain ⟨a5, c5, rfl⟩ := happ5.in.slice
        have hs5 : (Wo.bytesOf (pre.data.toList ++ d.data.toList)).size = n := by rw [(Wo.bytesOf_app pre d).2, HPL.out, HN.out]
        obtain ⟨S5, hS5⟩ : ∃ S, Wo.bytesOf (pre.data.toList ++ d.data.toList) = S := ⟨_, rfl⟩
        have hsp := HSP.out
        rw [hS5] at hs5 happ5 hsp ⊢
        rw [hs5] at happ5 ⊢
        have HB15 := Lib.hid hb5
        have HS5 := Lib.hid hs5
        have HSP := Lib.hid hsp
        have hb5 := HB1.out.trans (hb5.mono HB1.out.size)
        have HA5 := Lib.hid happ5
        have HB5 := Lib.hid hb5
        have HW5 := Lib.hid (hb5 : Below W2.heap.size W2 w5)
        obtain ⟨_, g0, g1, g2⟩ := HQ.out _ hb5
        have hn64 : n ≤ 65536 := by have := HN.out; omega
        clear hsl1 hS5 hs5 hsp happ5 hinD
        by_cases hlt : n < old.size
        case neg =>
          have hge : ¬ (n : Int) < (old.size : Int) := by omega
          have hsp := HSP.out.2 (by have := HN.out; omega)
          have HI5 := Lib.hid (show By.In w5 (.slice a5 n c5) sp from hsp ▸ HA5.out.in)
          have HSS := Lib.hid (show sp.size ≤ 65536 by rw [hsp, HS5.out]; exact hn64)
          clear hsp
          clear hb5
          go_wp2_with fail
          refine (KP sp _ _ (HIN.out _ HB5.out) HI5.out (by have := HSS.out; omega)).mono ?_
          rintro x w6 ⟨v6, rfl, hin6, hb6⟩
          obtain ⟨fx, ix, ox, X1, X2, X3, rfl, ⟨_, _, _, rfl⟩, ⟨_, _, _, rfl⟩, ⟨_, _, _, rfl⟩, ⟨f0, z0, s0⟩, ⟨f1, z1, s1⟩, ⟨f2, z2, s2⟩, ⟨r0, r1, r2⟩, HOUT⟩ := Wo.put_other (HR.out _ (HB5.out.trans (hb6.mono HB5.out.size))) hin6 (HB.out _ (HB5.out.trans (hb6.mono HB5.out.size))) (by omega)
          clear hin6 hb6
          go_wp2_with fail
          refine bodyPost_ret (v := .tuple #[.agg #[.slice _ _ _, .slice _ _ _, .slice _ _ _], .int .i64 (Wo.putS W name sp).2]) (by simp [results, Try.results8, go_sem, r0, r1, r2]) rfl ⟨_, rfl, HOUT.out.1, HOUT.out.2⟩
        case pos =>
          have hltI : (n : Int) < (old.size : Int) := by omega
          have hsl2 := HS2.out (Nat.le_of_lt hlt)
          have hio := HIO.out (Nat.le_of_lt hlt)
          have hinO : By.In w5 (.slice A2 (old.size - n) (c1 - n)) suf := hio _ HB15.out
          have happ5 := HA5.out
          clear hb5
          go_wp2_with (at_builtin; refine Wo.wpList_append_app rfl _ _ 22 rfl i0 (.int .u8 0) Try.underlying22 hi0 hz0 hz1 hz2 rfl w1.heap.size _ S5 rfl happ5 _ suf rfl hinO ?c4 HB15.out.size ?_)
          case c4 => rw [HS5.out, HSL.out]; omega
          intro v7 w7 happ7 hb7
          have hsp := HSP.out.1
          have hsl : sp.size = old.size := by
            rw [hsp, (Wo.bytesOf_app S5 suf).2, HS5.out, HSL.out]; omega
          rw [← hsp] at happ7
          obtain ⟨a7, c7, rfl⟩ := happ7.in.slice
          have HI7 := Lib.hid happ7.in
          have HB7 := Lib.hid (HB1.out.trans ((HB15.out.trans hb7).mono HB1.out.size))
          have HSS := Lib.hid (show sp.size ≤ 65536 by rw [hsl]; exact hol)
          obtain ⟨_, g0, g1, g2⟩ := HQ.out _ HB7.out
          clear hsp hsl happ7 hb7 happ5 hinO hio hsl2
          go_wp2_with fail
          refine (KP sp _ _ (HIN.out _ HB7.out) HI7.out (by have := HSS.out; omega)).mono ?_
          rintro x w6 ⟨v6, rfl, hin6, hb6⟩
          obtain ⟨fx, ix, ox, X1, X2, X3, rfl, ⟨_, _, _, rfl⟩, ⟨_, _, _, rfl⟩, ⟨_, _, _, rfl⟩, ⟨f0, z0, s0⟩, ⟨f1, z1, s1⟩, ⟨f2, z2, s2⟩, ⟨r0, r1, r2⟩, HOUT⟩ := Wo.put_other (HR.out _ (HB7.out.trans (hb6.mono HB7.out.size))) hin6 (HB.out _ (HB7.out.trans (hb6.mono HB7.out.size))) (by omega)
          clear hin6 hb6
          go_wp2_with fail
          refine bodyPost_ret (v := .tuple #[.agg #[.slice _ _ _, .slice _ _ _, .slice _ _ _], .int .i64 (Wo.putS W name sp).2]) (by simp [results, Try.results8, go_sem, r0, r1, r2]) rfl ⟨_, rfl, HOUT.out.1, HOUT.out.2⟩
end Go.Proofs.Ytdikkknjdbchbaa
