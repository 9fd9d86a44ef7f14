/-
  The walk of sextantref06.Encode.
-/
import Derived.Test.YtdpbpkggbgfkgaaDoorCdEncRefSmall
import Derived.Test.YtdpbpkggbgfkgaaDoorCdEncode
import Derived.Test.YtdpbpkggbgfkgaaDoorCdRefDecode
import Derived.Test.YtdpbpkggbgfkgaaDoorByStr
import Derived.Deep.RegionHeld3
import Derived.Outline
namespace Go.Proofs.YtdpbpkggbgfkgaaDoor
open Go.RowKit
set_option linter.unusedVariables false

theorem Cd.BytesAt.ofIn {w : World} {v : Value} {s : ByteArray} (h : By.In w v s) : Cd.BytesAt w w.heap.size v s := by
  rcases h with ⟨h, h0⟩ | ⟨a, cap, h, h0⟩ | ⟨h0, b, off, cap, hv, h1, h2, hc⟩
  · exact .inl ⟨h0, _, _, h⟩
  · exact .inl ⟨h0, _, _, h⟩
  · exact .inr ⟨h0, b, off, cap, hv, h1, h2, hc⟩

theorem Cd.utf8U_mem (s : ByteArray) : ∀ n k, s.size - k ≤ n → ∀ u ∈ Cd.utf8U s k, Ru.okR u.1 ∧ (u.2.1 = false → u.1 = 65533) := by
  intro n
  induction n with
  | zero => intro k h u hu; rw [Cd.utf8U_end s k (by omega)] at hu; cases hu
  | succ n ih =>
    intro k h u hu
    by_cases hk : k < s.size
    · have hw := Lib.decode_width_pos s k hk
      rw [Cd.utf8U_one s k hk] at hu
      rcases List.mem_cons.1 hu with rfl | hu
      · refine ⟨Cd.decode_okR s k hk, fun hf => ?_⟩
        have := of_decide_eq_false hf
        show ((Utf8.decode s k).1 : Int) = 65533
        omega
      · exact ih _ (by omega) u hu
    · rw [Cd.utf8U_end s k hk] at hu; cases hu
theorem Cd.own_base {w : World} {B B2 k : Nat} {t : TypeId} {v : Value} {n : Nat} {xs : List Value} (h : w.ownsRow B t k v n xs) (hB : B2 ≤ B) : w.ownsRow B2 t k v n xs := by
  refine ⟨h.1, ?_⟩
  rcases h.2 with hv | ⟨g, cap, cur, hv, hB', rest⟩
  · exact .inl hv
  · exact .inr ⟨g, cap, cur, hv, by omega, rest⟩
theorem Cd.charsU_ok (l r : Int) (h : Ru.okR r) : ∀ x ∈ Cd.charsU l r, Ru.okR x := by
  intro x hx
  unfold Cd.charsU at hx
  split at hx
  · unfold Cd.eolL at hx
    repeat' split at hx
    all_goals
      simp only [List.mem_cons, List.not_mem_nil, or_false] at hx
      first | (subst hx; unfold Ru.okR; omega) | (rcases hx with rfl | rfl <;> (unfold Ru.okR; omega))
  · simp only [List.mem_cons, List.not_mem_nil, or_false] at hx
    subst hx
    exact h
theorem Cd.stepsB_zero (c l m : Int) (acc : List UInt8) : Cd.stepsB c m true (Cd.charsU l 65533) acc = Cd.stepsB c m true [0] acc := by
  have h : ∀ x, Cd.stepB c m true acc x = if m = 0 then none else if m = 1 then some (acc ++ (if c = 2 then [63] else Cd.putL c 65533)) else some acc := by
    intro x
    unfold Cd.stepB
    rw [if_neg (by simp)]
  have e : Cd.charsU l 65533 = [65533] := by unfold Cd.charsU; rw [if_neg (by decide)]
  rw [e]
  unfold Cd.stepsB
  rw [h 65533, h 0]
theorem Cd.putR_good (c x : Int) (h : c ≠ 2 ∨ x < 256) : Cd.putR c x = Cd.putL c x := by
  unfold Cd.putR
  rw [if_neg (by omega)]
theorem Cd.size_mk (l : List UInt8) : (ByteArray.mk l.toArray).size = l.length := by show l.toArray.size = _; simp
theorem Cd.list_cells {w : World} {B : Nat} {t : TypeId} {v : Value} {xs : List Int} {k : IntKind} (h : w.ownsRow B t 1 v xs.length (xs.map (Value.int k))) (h0 : 0 < xs.length) :
    ∃ g cap cur, v = .slice (some ⟨g, 0, none⟩) xs.length cap ∧ B ≤ g ∧ g < w.heap.size ∧ w.heap[g]? = some (.cells cur t (0, 0)) ∧ ∀ (w' : World), w'.heap[g]? = some (.cells cur t (0, 0)) → ∀ j, j < xs.length → w'.cell? ⟨g, j, none⟩ = some (.int k (xs.getD j 0)) := by
  have hh := h
  rcases h.2 with ⟨hv, h1⟩ | ⟨g, cap, cur, hv, hB, hg, rest⟩
  · omega
  · refine ⟨g, cap, cur, hv, hB, (Array.getElem?_eq_some_iff.1 hg).1, hg, fun w' hw' j hj => ?_⟩
    have h2 := hh.cells (g := g) (by rw [hv]; rfl) j (.int k (xs.getD j 0)) (by simp [hj])
    rw [Sl.addr_add, Nat.zero_add] at h2
    rw [← h2]
    simp only [World.cell?, hw', hg]
theorem Cd.keep2 {w w5 : World} {B g j : Nat} {u v : Value} (hb : Below w.drew.heap.size w.drew w5) (h0 : w.cell? ⟨B, 0, none⟩ = some u) (h1 : w.cell? ⟨g, j, none⟩ = some v) (hB : B < w.heap.size) (hg : g < w.heap.size) :
    w5.cell? ⟨B, 0, none⟩ = some u ∧ w5.cell? ⟨g, j, none⟩ = some v :=
  ⟨(hb.cell (p := ⟨B, 0, none⟩) hB).trans h0, (hb.cell (p := ⟨g, j, none⟩) hg).trans h1⟩
theorem Cd.drop_at (xs : List Int) (j : Nat) (h : j < xs.length) : xs.drop j = xs.getD j 0 :: xs.drop (j + 1) := by
  rw [List.drop_eq_getElem_cons h]
  simp [h]
theorem Cd.getD_mem (xs : List Int) (j : Nat) (h : j < xs.length) : xs.getD j 0 ∈ xs := by
  rw [List.getD_eq_getElem?_getD, List.getElem?_eq_getElem h]
  exact List.getElem_mem h

set_option maxHeartbeats 8000000 in
set_option maxRecDepth 1000000 in
theorem Cd.encodeRef_good (s : ByteArray) (w : World) (c l m : Int) (hg : Cd.good c l m) (hs : s.size ≤ 65536) (G : List UInt8 × Int × Int) (hG : Cd.encF c l m (Cd.utf8U s 0) [] = G) :
    Calls Tryd.prog 21 #[Cd.coder c l m, .string s] w fun x w' => ∃ v, x = .returned (.tuple #[v, .int .i64 G.2.1, .int .i64 G.2.2]) ∧ By.In w' v ⟨G.1.toArray⟩ ∧ Below w.heap.size w w' := by
  have KC := Lib.hid (fun w => Cd.checkR_any c l m w)
  have hk : Cd.chk c l m = 0 := by unfold Cd.chk; rw [if_pos hg]
  rw [hk] at KC
  have HG := Lib.hid hG; clear hG hk
  obtain ⟨i0, hi, hz0, hz1, hz2⟩ := info_parts Cd.infoB8
  have cv := fun (w : World) => run_bytes_of_string (P := Tryd.prog) w 9 24 5 s Tryd.underlying9 Tryd.underlying24 Tryd.underlying5
  unfold Cd.coder at *
  go_enter Tryd.func21, Tryd.ntmps21
  go_wp2_with fail
  refine (KC.out _).mono ?_; rintro x w1 ⟨rfl, hb⟩
  have hs1 := hb.size
  rw [show (w.alloc (Obj.cells #[.int .i64 c, .int .i64 l, .int .i64 m] 23)).heap.size = w.heap.size + 1 by simp] at hs1
  have hb0 : Below w.heap.size w w1 := ((Below.refl w.heap.size w).alloc (Nat.le_refl _) _).trans (hb.mono (by simp))
  have q1 : w1.heap[w.heap.size]? = some (.cells #[.int .i64 c, .int .i64 l, .int .i64 m] 23 (0, 0)) := by
    rw [hb.block _ (by simp)]
    exact heap_alloc_new _ _
  have Q1 := Lib.hid q1; clear q1
  have HB0 := Lib.hid hb0; clear hb0 hb KC
  go_wp2_with fail
  have hin := (By.In.of_string (w1.alloc (Obj.cells #[] 5)) 5 s (grownCap (w1.alloc (Obj.cells #[] 5)) s.size 0 5) ((bytesRow s (grownCap (w1.alloc (Obj.cells #[] 5)) s.size 0 5)).size, (bytesRow s (grownCap (w1.alloc (Obj.cells #[] 5)) s.size 0 5)).size + 1) (grownCap_ge _ _ _ _)).drew
  have hbx : Below (w1.heap.size + 1) (w1.alloc (Obj.cells #[] 5)) (((w1.alloc (Obj.cells #[] 5)).alloc (Obj.cells (bytesRow s (grownCap (w1.alloc (Obj.cells #[] 5)) s.size 0 5)) 5 ((bytesRow s (grownCap (w1.alloc (Obj.cells #[] 5)) s.size 0 5)).size, (bytesRow s (grownCap (w1.alloc (Obj.cells #[] 5)) s.size 0 5)).size + 1))).drew) := ((Below.refl _ _).alloc (by simp) _).drew
  rw [show (w1.alloc (Obj.cells #[] 5)).heap.size = w1.heap.size + 1 by simp] at hin
  have HIN := Lib.hid hin; clear hin
  generalize bytesRow s (grownCap (w1.alloc (Obj.cells #[] 5)) s.size 0 5) = BR at *
  generalize grownCap (w1.alloc (Obj.cells #[] 5)) s.size 0 5 = GC at *
  refine (Cd.refUtf8_any s _ _ (by omega) (Cd.BytesAt.ofIn HIN.out)).mono ?_
  rintro x w2 ⟨v2, rfl, ho, hb2⟩
  have hb3 := hbx.trans (hb2.mono (by show w1.heap.size + 1 ≤ ((w1.alloc _).alloc _).heap.size; simp))
  have hs2 := hb3.size
  rw [show (w1.alloc (Obj.cells #[] 5)).heap.size = w1.heap.size + 1 by simp] at hs2
  have hown0 : w2.ownsRow w1.heap.size 5 1 (.slice (some ⟨w1.heap.size, 0, none⟩) 0 0) ([] : List UInt8).length (By.bv []) := Sl.own_below (Sl.own_empty w1 5) hb3 (by simp)
  have hbw0 : Below w1.heap.size w1 w2 := ((Below.refl _ _).alloc (Nat.le_refl _) _).trans (hb3.mono (by omega))
  clear hb2 hb3 hbx cv HIN
  obtain ⟨ad2, cap2, rfl, hcell⟩ := ho.open
  rw [List.length_map] at *
  have hlen : (Cd.utf8U s 0).length ≤ 65536 := by
    have := Cd.unitsU_len 1 s
    unfold Cd.unitsU at this
    rw [if_pos rfl] at this
    omega
  have HMEM := Lib.hid (Cd.utf8U_mem s _ 0 (Nat.le_refl _))
  have HCELL := Lib.hid hcell; clear hcell ho
  generalize Cd.utf8U s 0 = US at *

  go_wp2_with fail
  go_loopw [7, 9] (fun v i wr => ∃ (k : Nat) (acc : List UInt8), i = .int .i64 k ∧ k ≤ US.length ∧ acc.length ≤ 16 * k ∧ wr.ownsRow w1.heap.size 5 1 v acc.length (By.bv acc) ∧ Below w1.heap.size w1 wr ∧ Cd.encF c l m (US.drop k) acc = G ∧ (∀ g : Nat, ad2 = some ⟨g, 0, none⟩ → wr.heap[g]? = w2.heap[g]?)) (fun _ i _ => US.length - (intOf i).toNat)
  case atStart => exact ⟨0, [], rfl, Nat.zero_le _, Nat.zero_le _, hown0, hbw0, HG.out, fun _ _ => rfl⟩
  case round =>
    obtain ⟨k, acc, rfl, hk, hal, hown, hbw, hacc, hsame⟩ := hrel
    have hsw := hbw.size
    by_cases hlt : k < US.length
    · obtain ⟨r, ok, p, hdrop, hat⟩ := Cd.unit_at US k hlt
      have hmem := HMEM.out (r, ok, p) (List.mem_of_mem_drop (by rw [hdrop]; exact List.mem_cons_self))
      rw [hdrop] at hacc
      have HACC := Lib.hid hacc; clear hacc hdrop
      obtain ⟨g, cur, had, hg2, c0, c1, c2⟩ := HCELL.out k _ _ _ (hat.trans (by cases ok <;> rfl : _ = some (if ok then r else 0, !ok, p)))
      subst had
      have hgb := (hsame g rfl).trans hg2
      have HG2 := Lib.hid hg2; clear hg2 hat hsame
      have hucells : ∀ (w' : World), w'.heap[g]? = some (.cells cur 54 (0, 0)) → w'.cell? ⟨g, k * 3, none⟩ = some (.int .i32 (if ok then r else 0)) ∧ w'.cell? ⟨g, k * 3 + 1, none⟩ = some (.bool (!ok)) ∧ w'.cell? ⟨g, k * 3 + 2, none⟩ = some (.int .i64 p) := fun w' hw' =>
        ⟨(Cd.cell_block (hw'.trans HG2.out.symm)).trans c0, (Cd.cell_block (hw'.trans HG2.out.symm)).trans c1, (Cd.cell_block (hw'.trans HG2.out.symm)).trans c2⟩
      have HU := Lib.hid hucells; clear hucells c0 c1 c2
      have HOKR := Lib.hid hmem.1
      have HBAD := Lib.hid hmem.2
      clear hmem
      have hgl := lt_of_block hgb
      have HOWN := Lib.hid hown; clear hown
      have HBW := Lib.hid hbw; clear hbw
      have HGB := Lib.hid hgb; clear hgb
      obtain ⟨u0, u1, u2⟩ := HU.out wr HGB.out
      cases ok with
      | true =>
        simp only [if_true, Bool.not_true] at u0 u1
        have hown1 := HOWN.out.alloc (.cells #[.int .i32 r] 21)
        have hbw1 := HBW.out.alloc (by omega) (.cells #[.int .i32 r] 21)
        have hgb1 := (Lib.alloc_old wr (.cells #[.int .i32 r] 21) _ hgl).trans HGB.out
        have hls := Sl.own_new wr 21 [r] .i32 (by show 1 ≤ maxLen; decide)
        obtain ⟨v0, v1, v2⟩ := HU.out _ hgb1
        simp only [if_true, Bool.not_true] at v0 v1
        go_upto_if 48 with (fail)
        have HOWN1 := Lib.hid hown1
        have HBW1 := Lib.hid hbw1
        have HGB1 := Lib.hid hgb1
        have HLS := Lib.hid (show (wr.alloc (.cells #[.int .i32 r] 21)).ownsRow wr.heap.size 21 1 (.slice (some ⟨wr.heap.size, 0, none⟩) 1 1) [r].length ([r].map (Value.int .i32)) from hls)
        have hcf := Cd.coder_cells Q1.out hbw1 (by omega)
        have HCF := Lib.hid hcf
        have hsz1 : (wr.alloc (.cells #[.int .i32 r] 21)).heap.size = wr.heap.size + 1 := by simp
        have hszL : wr.heap.size < (wr.alloc (.cells #[.int .i32 r] 21)).heap.size := by omega
        clear hown1 hbw1 hgb1 hls u0 u1 u2 v0 v1 v2 hcf hsz1 HOWN HBW HGB
        generalize wr.alloc (.cells #[.int .i32 r] 21) = wa at *
        go_cut [10] (fun lv wx => wx.ownsRow wr.heap.size 21 1 lv (Cd.charsU l r).length ((Cd.charsU l r).map (Value.int .i32)) ∧ Below wa.heap.size wa wx)
        case first =>
          by_cases h10 : r = 10
          · have hb10 : (r == 10) = true := by simp [h10]
            have f1 := HCF.out.2.1
            have ET : Hid (Cd.charsU l r = Cd.eolL l) := by unfold Cd.charsU; rw [if_pos h10]; exact Lib.hid rfl
            clear h10
            go_wp2_with fail
            refine (Cd.eolsR_any l wa).mono ?_; rintro x w3 ⟨vl, rfl, hol, hbl⟩
            have HOL := Lib.hid (Cd.own_base hol (show wr.heap.size ≤ wa.heap.size by omega))
            have HBL := Lib.hid hbl
            clear hol hbl
            go_wp2_with fail
            go_meet
            rw [ET.out]
            exact ⟨HOL.out, HBL.out⟩
          · have ET : Hid (Cd.charsU l r = [r]) := by unfold Cd.charsU; rw [if_neg h10]; exact Lib.hid rfl
            have hb10 : (r == 10) = false := by simp [h10]
            clear h10
            go_wp2_with fail
            go_meet
            rw [ET.out]
            exact ⟨HLS.out, Below.refl _ _⟩
        case rest =>
        obtain ⟨hlo, hbx⟩ := hcut
        have hxl := Cd.charsU_len l r
        have hxok := Cd.charsU_ok l r HOKR.out
        obtain ⟨RES, hres⟩ : ∃ RES, Cd.stepsB c m false (Cd.charsU l r) acc = RES := ⟨_, rfl⟩
        have HRES := Lib.hid (show Cd.stepsB c m (!true) (Cd.charsU l r) acc = RES from hres)
        have HRES2 := Lib.hid hres; clear hres
        have HXOK := Lib.hid hxok; clear hxok
        generalize hXS : Cd.charsU l r = XS at *
        have HRESF := Lib.hid (show Cd.stepsB c m (!true) (Cd.charsU l r) acc = RES by rw [hXS]; exact HRES.out)
        clear hXS HRES
        have HOWN := Lib.hid (Sl.own_below HOWN1.out hbx (Nat.le_refl _))
        have HBW := Lib.hid (HBW1.out.trans (hbx.mono (by omega)))
        have HGB := Lib.hid ((hbx.block _ (lt_of_block HGB1.out)).trans HGB1.out)
        clear HOWN1 HBW1 HGB1 HLS HCF hbx
        obtain ⟨gl, capl, curL, hlv, hgB, hglt, hgblk, hcells⟩ := Cd.list_cells hlo (by omega)
        subst hlv
        have HGL := Lib.hid hgblk
        have HLC := Lib.hid hcells
        clear hgblk hcells hlo
        go_wp2_with fail
        go_loopw [7, 11] (fun v i wr => ∃ (j : Nat) (ac : List UInt8), i = .int .i64 j ∧ j ≤ XS.length ∧ ac.length ≤ acc.length + 4 * j ∧ wr.ownsRow w1.heap.size 5 1 v ac.length (By.bv ac) ∧ Below w1.heap.size w1 wr ∧ Cd.stepsB c m false (XS.drop j) ac = RES ∧ wr.heap[gl]? = some (.cells curL 21 (0, 0)) ∧ wr.heap[g]? = some (.cells cur 54 (0, 0))) (fun _ i _ => XS.length - (intOf i).toNat)
        case atStart => exact ⟨0, acc, rfl, Nat.zero_le _, Nat.le_refl _, HOWN.out, HBW.out, HRES2.out, HGL.out, HGB.out⟩
        case round =>
          obtain ⟨j, ac, rfl, hj, hacl, hown, hbw, hrun, hgl2, hgb2⟩ := hrel
          have hsz := hbw.size
          by_cases hlt2 : j < XS.length
          · have hxk := HXOK.out _ (Cd.getD_mem XS j hlt2)
            have cx := HLC.out wr hgl2 j hlt2
            rw [Cd.drop_at XS j hlt2] at hrun
            obtain ⟨f0, _, f2⟩ := Cd.coder_cells Q1.out hbw (by omega)
            generalize XS.getD j 0 = x at *
            have HRUN := Lib.hid hrun; clear hrun
            have HXK := Lib.hid hxk; clear hxk
            have hglb := lt_of_block hgl2
            have hgbb := lt_of_block hgb2
            have HOWNR := Lib.hid (show wr.drew.ownsRow w1.heap.size 5 1 u7 ac.length (By.bv ac) from hown)
            have HBWR := Lib.hid hbw.drew
            have HGL2 := Lib.hid (show wr.drew.heap[gl]? = _ from hgl2)
            have HGB2 := Lib.hid (show wr.drew.heap[g]? = _ from hgb2)
            have hszd : wr.drew.heap.size = wr.heap.size := rfl
            have HSZD := Lib.hid hszd
            clear hown hbw hgl2 hgb2 f2 hszd
            have hji : (j : Int) < (XS.length : Int) := by omega
            go_wp2_with fail
            go_region_held3 (fun w' => w'.cell? ⟨w.heap.size, 0, none⟩ = some (.int .i64 c) ∧ w'.cell? ⟨gl, j, none⟩ = some (.int .i32 x))
              (first | go_keep | exact hkeep)
              (first
                | (go_at_call 37
                   refine (Cd.putR_any c x wr.drew ⟨hg.1, hg.2.1⟩ HXK.out).mono ?_
                   rintro y w5 ⟨vb, rfl, hin, hb5⟩
                   have hkeep := Cd.keep2 hb5 f0 cx (by omega) hglb))
            have HOWN5 := Lib.hid (Sl.own_below HOWNR.out hb5 (Nat.le_refl _))
            have HBW5 := Lib.hid (HBWR.out.trans (hb5.mono hsz))
            have HGL5 := Lib.hid ((hb5.block _ hglb).trans HGL2.out)
            have HGB5 := Lib.hid ((hb5.block _ hgbb).trans HGB2.out)
            have hs5 : w1.heap.size ≤ w5.heap.size := Nat.le_trans hsz hb5.size
            clear hkeep hb5 f0 cx HOWNR HBWR HGL2 HGB2
            obtain ⟨f0, _, f2⟩ := Cd.coder_cells Q1.out HBW5.out (by omega)
            obtain ⟨u0, u1, u2⟩ := HU.out w5 HGB5.out
            simp only [if_true, Bool.not_true] at u0 u1
            obtain ⟨adb, capb, hvb⟩ := hin.slice
            rw [Cd.size_mk] at hvb
            subst hvb
            have HINB := Lib.hid hin; clear hin
            have hki : (k : Int) < (US.length : Int) := by omega
            by_cases hgood : c ≠ 2 ∨ x < 256
            · have hpr := Cd.putR_good c x hgood
              have hst := Cd.stepB_good c m ac x (decide_eq_true hgood)
              have HSTEP := Lib.hid (Cd.stepsB_step HRUN.out hst)
              have hpl := Cd.putL_len c x
              have hpn : (0 : Int) < (((Cd.putR c x).length : Nat) : Int) := by rw [hpr]; omega
              have hpb : (Cd.putR c x).length ≤ 4 := by rw [hpr]; omega
              have HPR := Lib.hid hpr
              clear hst hpr hgood f0 f2 u0 u2
              go_wp2_with (at_builtin; refine By.wpList_append_bytes rfl _ _ 24 rfl w1.heap.size 5 i0 (.int .u8 0) Tryd.underlying24 hi hz0 hz1 hz2 rfl _ ac.length (By.bv ac) rfl HOWN5.out _ ⟨(Cd.putR c x).toArray⟩ rfl HINB.out ?c3 ?c4 ?c5 ?_)
              case c3 => rw [Cd.size_mk]; unfold maxLen; omega
              case c4 => rw [Cd.size_mk]; omega
              case c5 => omega
              intro v6 w6 ho6 hgr6 _
              rw [By.vals_bv, ← By.bv_append, ← List.length_append, HPR.out] at ho6
              have G1 := Lib.hid (Sl.below_own HBW5.out HOWN5.out hgr6 (Nat.le_refl _) (by omega))
              have G2 := Lib.hid (Cd.block_grown HOWN5.out hgr6 HGL5.out (by decide))
              have G3 := Lib.hid (Cd.block_grown HOWN5.out hgr6 HGB5.out (by decide))
              have HO6 := Lib.hid ho6
              clear ho6 hgr6
              go_wp2
              go_roundw
              case rel => exact ⟨j + 1, ac ++ Cd.putL c x, by first | rfl | go_num | (simp; try omega), by omega, by (rw [List.length_append]; omega), HO6.out, G1.out, HSTEP.out, G2.out, G3.out⟩
              case measure => simp [intOf]; omega
            · obtain rfl : c = 2 := by omega
              have hpr : Cd.putR 2 x = [] := by unfold Cd.putR; rw [if_pos ⟨rfl, by omega⟩]
              have HBB : Hid ((Cd.okP 2 x && !false) = false) := by unfold Cd.okP; rw [decide_eq_false hgood]; exact Lib.hid rfl
              have hpn : ¬ (0 : Int) < (((Cd.putR 2 x).length : Nat) : Int) := by rw [hpr]; simp
              have hpn2 : (Cd.putR 2 x).length ≤ 0 := by rw [hpr]; simp
              clear hpr hgood
              rcases (show m = 0 ∨ m = 1 ∨ m = 2 by have := hg.2.2.2.2; omega) with rfl | rfl | rfl
              · have hst : Cd.stepB 2 0 false ac x = none := Cd.stepB_bad0 2 ac x HBB.out
                have hrn := Cd.stepsB_stop HRUN.out hst
                have hGe := Lib.hid (Cd.encF_stop HACC.out (HRESF.out.trans hrn))
                clear hst hrn
                go_wp2
                go_quiet (fail)
                go_wp2
                go_ret3
                refine ⟨.slice none 0 0, by rw [hGe.out]; rfl, by rw [hGe.out]; exact .inl ⟨rfl, rfl⟩, below_drewN (HB0.out.trans (HBW5.out.mono (by omega))) _⟩
              · have hst : Cd.stepB 2 1 false ac x = some (ac ++ [63]) := Cd.stepB_bad1 ac x HBB.out
                have HSTEP := Lib.hid (Cd.stepsB_step HRUN.out hst)
                clear hst u0 u2
                have ho := HOWN5.out
                go_wp2_with (at_builtin; refine By.wpList_append_keep rfl _ _ 24 rfl w1.heap.size 5 i0 (.int .u8 0) Tryd.underlying24 hi hz0 hz1 hz2 rfl _ ac.length (By.bv ac) rfl (ho.alloc _) ⟨w5.heap.size, 0, none⟩ 1 1 [.int .u8 63] rfl rfl (Sl.one_new _ _ _) ?c2 ?c3 ?c4 ?c5 ?_)
                case c2 => first | rfl | (intro u hu; simp at hu; subst hu; rfl)
                case c3 => unfold maxLen; omega
                case c4 => omega
                case c5 => first | omega | (simp; omega)
                intro v6 w6 ho6 hgr6 _
                have hgr7 := Cd.grown_new hgr6
                have G1 := Lib.hid (Sl.below_own HBW5.out ho hgr7 (Nat.le_refl _) (by omega))
                have G2 := Lib.hid (Cd.block_grown ho hgr7 HGL5.out (by decide))
                have G3 := Lib.hid (Cd.block_grown ho hgr7 HGB5.out (by decide))
                rw [show ([Value.int .u8 63] : List Value) = By.bv [63] from rfl, ← By.bv_append, show ac.length + 1 = (ac ++ [63]).length by simp] at ho6
                have HO6 := Lib.hid ho6
                clear ho ho6 hgr6 hgr7
                go_wp2
                go_roundw
                case rel => exact ⟨j + 1, ac ++ [63], by first | rfl | go_num | (simp; try omega), by omega, by (rw [List.length_append]; show ac.length + 1 ≤ _; omega), HO6.out, G1.out, HSTEP.out, G2.out, G3.out⟩
                case measure => simp [intOf]; omega
              · have hst : Cd.stepB 2 2 false ac x = some ac := Cd.stepB_bad3 2 ac x HBB.out
                have HSTEP := Lib.hid (Cd.stepsB_step HRUN.out hst)
                clear hst u0 u2
                go_wp2
                go_roundw
                case rel => exact ⟨j + 1, ac, by first | rfl | go_num | (simp; try omega), by omega, by omega, HOWN5.out, HBW5.out, HSTEP.out, HGL5.out, HGB5.out⟩
                case measure => simp [intOf]; omega
          · rw [List.drop_eq_nil_of_le (by first | omega | (show 1 ≤ j; omega))] at hrun
            have hrun2 : some ac = RES := hrun
            have HSTEP := Lib.hid (Cd.encF_step HACC.out (HRESF.out.trans hrun2.symm))
            have HOWNR := Lib.hid hown
            have HBWR := Lib.hid hbw
            have HGB2 := Lib.hid hgb2
            clear hrun hrun2 hown hbw hgl2 hgb2
            go_wp2
            go_roundw
            case rel => exact ⟨k + 1, ac, by first | rfl | go_num | (simp; try omega), by omega, by omega, HOWNR.out, HBWR.out, HSTEP.out, fun g' h => by cases h; exact HGB2.out.trans HG2.out.symm⟩
            case measure => simp [intOf]; omega
      | false =>
        obtain rfl := HBAD.out rfl
        simp only [Bool.not_false, Bool.false_eq_true, if_false] at u0 u1
        have hown1 := HOWN.out.alloc (.cells #[.int .i32 0] 21)
        have hbw1 := HBW.out.alloc (by omega) (.cells #[.int .i32 0] 21)
        have hgb1 := (Lib.alloc_old wr (.cells #[.int .i32 0] 21) _ hgl).trans HGB.out
        have hls := Sl.own_new wr 21 [0] .i32 (by show 1 ≤ maxLen; decide)
        obtain ⟨v0, v1, v2⟩ := HU.out _ hgb1
        simp only [Bool.not_false, Bool.false_eq_true, if_false] at v0 v1
        obtain ⟨RES, hres⟩ : ∃ RES, Cd.stepsB c m true [0] acc = RES := ⟨_, rfl⟩
        have HRESF := Lib.hid (show Cd.stepsB c m (!false) (Cd.charsU l 65533) acc = RES from (Cd.stepsB_zero c l m acc).trans hres)
        have HRES2 := Lib.hid hres; clear hres
        have cx : (wr.alloc (.cells #[.int .i32 0] 21)).cell? ⟨wr.heap.size, 0, none⟩ = some (.int .i32 0) := by simp
        go_wp2_with fail
        have HOWN1 := Lib.hid hown1
        have HBW1 := Lib.hid hbw1
        have HGB1 := Lib.hid hgb1
        have hsza : (wr.alloc (.cells #[.int .i32 0] 21)).heap.size = wr.heap.size + 1 := by simp
        have hszL : wr.heap.size < (wr.alloc (.cells #[.int .i32 0] 21)).heap.size := by omega
        have hsz : w1.heap.size ≤ (wr.alloc (.cells #[.int .i32 0] 21)).heap.size := by omega
        obtain ⟨f0, _, f2⟩ := Cd.coder_cells Q1.out hbw1 (by omega)
        clear hown1 hbw1 hgb1 hls u0 u1 u2 v0 v1 v2 HOWN HBW HGB hsza
        generalize wr.alloc (.cells #[.int .i32 0] 21) = wa at *
        have HRUN := Lib.hid (show Cd.stepsB c m true (0 :: []) acc = RES from HRES2.out)
        have hglb := hszL
        have hgbb := lt_of_block HGB1.out
        have HOWNR := Lib.hid (show wa.drew.ownsRow w1.heap.size 5 1 u7 acc.length (By.bv acc) from HOWN1.out)
        have HBWR := Lib.hid HBW1.out.drew
        have HGB2 := Lib.hid (show wa.drew.heap[g]? = _ from HGB1.out)
        clear f2
        refine wp_loop_rounds 3 ?_
        rw [rounds_succ]
        go_wp2_with fail
        go_region_held3 (fun w' => w'.cell? ⟨w.heap.size, 0, none⟩ = some (.int .i64 c) ∧ w'.cell? ⟨wr.heap.size, 0, none⟩ = some (.int .i32 0))
          (first | go_keep | exact hkeep)
          (first
            | (go_at_call 37
               refine (Cd.putR_any c 0 wa.drew ⟨hg.1, hg.2.1⟩ (by omega)).mono ?_
               rintro y w5 ⟨vb, rfl, hin, hb5⟩
               have hkeep := Cd.keep2 hb5 f0 cx (by omega) hglb))
        have HOWN5 := Lib.hid (Sl.own_below HOWNR.out hb5 (Nat.le_refl _))
        have HBW5 := Lib.hid (HBWR.out.trans (hb5.mono hsz))
        have HGB5 := Lib.hid ((hb5.block _ hgbb).trans HGB2.out)
        have hs5 : w1.heap.size ≤ w5.heap.size := Nat.le_trans hsz hb5.size
        clear hkeep hb5 f0 cx HOWNR HBWR HGB2
        obtain ⟨f0, _, f2⟩ := Cd.coder_cells Q1.out HBW5.out (by omega)
        obtain ⟨u0, u1, u2⟩ := HU.out w5 HGB5.out
        simp only [Bool.not_false, Bool.false_eq_true, if_false] at u0 u1
        obtain ⟨adb, capb, hvb⟩ := hin.slice
        rw [Cd.size_mk] at hvb
        subst hvb
        clear hin
        have hki : (k : Int) < (US.length : Int) := by omega
        by_cases hc2 : c = 2
        · subst hc2
          have HBB : Hid ((Cd.okP 2 0 && !true) = false) := Lib.hid (by simp)
          rcases (show m = 0 ∨ m = 1 ∨ m = 2 by have := hg.2.2.2.2; omega) with rfl | rfl | rfl
          · have hst : Cd.stepB 2 0 true acc 0 = none := Cd.stepB_bad0 2 acc 0 HBB.out
            have hrn := Cd.stepsB_stop HRUN.out hst
            have hGe := Lib.hid (Cd.encF_stop HACC.out (HRESF.out.trans hrn))
            clear hst hrn
            go_wp2
            go_quiet (fail)
            go_wp2
            go_ret3
            refine ⟨.slice none 0 0, by rw [hGe.out]; rfl, by rw [hGe.out]; exact .inl ⟨rfl, rfl⟩, below_drewN (HB0.out.trans (HBW5.out.mono (by omega))) _⟩
          · have hst : Cd.stepB 2 1 true acc 0 = some (acc ++ [63]) := Cd.stepB_bad1 acc 0 HBB.out
            have hrun2 : some (acc ++ [63]) = RES := Cd.stepsB_step HRUN.out hst
            have HSTEP := Lib.hid (Cd.encF_step HACC.out (HRESF.out.trans hrun2.symm))
            clear hst hrun2
            clear u0 u2
            have ho := HOWN5.out
            go_wp2_with (at_builtin; refine By.wpList_append_keep rfl _ _ 24 rfl w1.heap.size 5 i0 (.int .u8 0) Tryd.underlying24 hi hz0 hz1 hz2 rfl _ acc.length (By.bv acc) rfl (ho.alloc _) ⟨w5.heap.size, 0, none⟩ 1 1 [.int .u8 63] rfl rfl (Sl.one_new _ _ _) ?c2 ?c3 ?c4 ?c5 ?_)
            case c2 => first | rfl | (intro u hu; simp at hu; subst hu; rfl)
            case c3 => unfold maxLen; omega
            case c4 => omega
            case c5 => first | omega | (simp; omega)
            intro v6 w6 ho6 hgr6 _
            have hgr7 := Cd.grown_new hgr6
            have G1 := Lib.hid (Sl.below_own HBW5.out ho hgr7 (Nat.le_refl _) (by omega))
            have G3 := Lib.hid (Cd.block_grown ho hgr7 HGB5.out (by decide))
            rw [show ([Value.int .u8 63] : List Value) = By.bv [63] from rfl, ← By.bv_append, show acc.length + 1 = (acc ++ [63]).length by simp] at ho6
            have HO6 := Lib.hid ho6
            clear ho ho6 hgr6 hgr7
            go_wp2
            rw [rounds_succ]
            go_wp2
            go_roundw
            case rel => exact ⟨k + 1, acc ++ [63], by first | rfl | go_num | (simp; try omega), by omega, by (rw [List.length_append]; show acc.length + 1 ≤ _; omega), HO6.out, G1.out, HSTEP.out, fun g' h => by cases h; exact G3.out.trans HG2.out.symm⟩
            case measure => simp [intOf]; omega
          · have hst : Cd.stepB 2 2 true acc 0 = some acc := Cd.stepB_bad3 2 acc 0 HBB.out
            have hrun2 : some (acc) = RES := Cd.stepsB_step HRUN.out hst
            have HSTEP := Lib.hid (Cd.encF_step HACC.out (HRESF.out.trans hrun2.symm))
            clear hst hrun2
            clear u0 u2
            go_wp2
            rw [rounds_succ]
            go_wp2
            go_roundw
            case rel => exact ⟨k + 1, acc, by first | rfl | go_num | (simp; try omega), by omega, by omega, HOWN5.out, HBW5.out, HSTEP.out, fun g' h => by cases h; exact HGB5.out.trans HG2.out.symm⟩
            case measure => simp [intOf]; omega
        · have HBB : Hid ((Cd.okP c 0 && !true) = false) := Lib.hid (by simp)
          have HCN : Hid (c ≠ 2) := Lib.hid hc2
          clear hc2
          rcases (show m = 0 ∨ m = 1 ∨ m = 2 by have := hg.2.2.2.2; omega) with rfl | rfl | rfl
          · have hst : Cd.stepB c 0 true acc 0 = none := Cd.stepB_bad0 c acc 0 HBB.out
            have hrn := Cd.stepsB_stop HRUN.out hst
            have hGe := Lib.hid (Cd.encF_stop HACC.out (HRESF.out.trans hrn))
            clear hst hrn
            go_wp2
            go_quiet (fail)
            go_wp2
            go_ret3
            refine ⟨.slice none 0 0, by rw [hGe.out]; rfl, by rw [hGe.out]; exact .inl ⟨rfl, rfl⟩, below_drewN (HB0.out.trans (HBW5.out.mono (by omega))) _⟩
          · have hst : Cd.stepB c 1 true acc 0 = some (acc ++ Cd.putL c 65533) := Cd.stepB_bad2 c acc 0 HBB.out HCN.out
            have hrun2 : some (acc ++ Cd.putL c 65533) = RES := Cd.stepsB_step HRUN.out hst
            have HSTEP := Lib.hid (Cd.encF_step HACC.out (HRESF.out.trans hrun2.symm))
            clear hst hrun2
            have hpl := Cd.putL_len c 65533
            have hcn2 : (c == 2) = false := by simp; exact HCN.out
            clear u0 u2
            go_wp2_with fail
            refine (Cd.putR_any c 65533 w5 ⟨hg.1, hg.2.1⟩ (by omega)).mono ?_
            rintro y w7 ⟨vc, rfl, hin7, hb7⟩
            rw [Cd.putR_good c 65533 (.inl HCN.out)] at hin7
            have HIN7 := Lib.hid hin7
            have ho7 := Sl.own_below HOWN5.out hb7 (Nat.le_refl _)
            have hbw7 := HBW5.out.trans (hb7.mono hs5)
            have HGB7 := Lib.hid ((hb7.block _ (lt_of_block HGB5.out)).trans HGB5.out)
            have hs7 : w1.heap.size ≤ w7.heap.size := Nat.le_trans hs5 hb7.size
            clear hin7 hb7 f0 f2 u1
            go_wp2_with (at_builtin; refine By.wpList_append_bytes rfl _ _ 24 rfl w1.heap.size 5 i0 (.int .u8 0) Tryd.underlying24 hi hz0 hz1 hz2 rfl _ acc.length (By.bv acc) rfl ho7 _ ⟨(Cd.putL c 65533).toArray⟩ rfl HIN7.out ?c3 ?c4 ?c5 ?_)
            case c3 => rw [Cd.size_mk]; unfold maxLen; omega
            case c4 => rw [Cd.size_mk]; omega
            case c5 => omega
            intro v6 w6 ho6 hgr6 _
            rw [By.vals_bv, ← By.bv_append, ← List.length_append] at ho6
            have G1 := Lib.hid (Sl.below_own hbw7 ho7 hgr6 (Nat.le_refl _) (by omega))
            have G3 := Lib.hid (Cd.block_grown ho7 hgr6 HGB7.out (by decide))
            have HO6 := Lib.hid ho6
            clear ho6 hgr6 ho7 hbw7
            go_wp2
            rw [rounds_succ]
            go_wp2
            go_roundw
            case rel => exact ⟨k + 1, acc ++ Cd.putL c 65533, by first | rfl | go_num | (simp; try omega), by omega, by (rw [List.length_append]; omega), HO6.out, G1.out, HSTEP.out, fun g' h => by cases h; exact G3.out.trans HG2.out.symm⟩
            case measure => simp [intOf]; omega
          · have hst : Cd.stepB c 2 true acc 0 = some acc := Cd.stepB_bad3 c acc 0 HBB.out
            have hrun2 : some (acc) = RES := Cd.stepsB_step HRUN.out hst
            have HSTEP := Lib.hid (Cd.encF_step HACC.out (HRESF.out.trans hrun2.symm))
            clear hst hrun2
            clear u0 u2
            go_wp2
            rw [rounds_succ]
            go_wp2
            go_roundw
            case rel => exact ⟨k + 1, acc, by first | rfl | go_num | (simp; try omega), by omega, by omega, HOWN5.out, HBW5.out, HSTEP.out, fun g' h => by cases h; exact HGB5.out.trans HG2.out.symm⟩
            case measure => simp [intOf]; omega
    · rw [List.drop_eq_nil_of_le (by omega)] at hacc
      have hacc2 : (acc, 0, 0) = G := hacc
      have HA := Lib.hid hacc2; clear hacc hacc2
      have HOWN := Lib.hid hown; clear hown
      have HBW := Lib.hid hbw; clear hbw
      clear hsame
      go_wp2
      go_ret3
      rw [← HA.out]
      exact ⟨_, rfl, By.In.of_bv HOWN.out, HB0.out.trans (HBW.out.mono (by omega))⟩
end Go.Proofs.YtdpbpkggbgfkgaaDoor
