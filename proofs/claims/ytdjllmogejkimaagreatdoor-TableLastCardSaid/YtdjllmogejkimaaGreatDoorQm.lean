/-
  The writer's datum of bytes. The writer's pair of a quotation; the writer's datum of any. The writer's datum of any; write's tell, Write and Display.
-/
import Derived.WalkKit
import Derived.WalkSpells
import Derived.WalkLawsBesides
import Derived.Handy
import Derived.BigCall
import Derived.Lib.Hide
import Derived.Lib.RuneCount
import Derived.Deep.LoopGhost
import Derived.Deep.DeepCutAuto
import Derived.Deep.RegionHeld3
import Derived.Test.YtdjllmogejkimaaGreatDoorQl
import Derived.Test.YtdjllmogejkimaaGreatDoorQf
import Derived.Test.YtdjllmogejkimaaGreatDoorQh
import Derived.Test.YtdjllmogejkimaaGreatDoorQi
import Derived.Test.YtdjllmogejkimaaGreatDoorShelfQ
import Derived.Test.YtdjllmogejkimaaGreatDoorQk
import Derived.Test.YtdjllmogejkimaaGreatDoorQd
set_option linter.unusedVariables false
set_option linter.unusedSimpArgs false
namespace Go.Proofs.YtdjllmogejkimaaGreatDoor
open Go.RowKit

/-- What holds at each round of the bytes' loop. -/
structure Wt.BytRel (B b : Nat) (m : Bool) (bs : List Value) (raw : ByteArray) (W0 : World) (k : Nat) (acc : List UInt8) (wr : World) : Prop where
  at_ : Wr.At B b (.pointer (some ⟨b, 0, none⟩)) m (bs ++ Lib.byteCells acc) wr
  kept : Wt.Kept B b W0 wr
  le : k ≤ raw.size
  says : acc ++ (Wt.raws (k == 0) (raw.data.toList.drop k) ++ [41]) = [35, 118, 117, 56, 40] ++ (Wt.raws true raw.data.toList ++ [41])
  len : acc.length ≤ 5 + 10 * k
theorem Wt.BytRel.next {B b : Nat} {m : Bool} {bs : List Value} {raw : ByteArray} {W0 : World} {k : Nat} {acc : List UInt8} {wr w1 : World} (h : Wt.BytRel B b m bs raw W0 k acc wr) (hk : k < raw.size) {x : UInt8} (hx : raw.data.toList[k]? = some x)
    (h1 : Wr.At B b (.pointer (some ⟨b, 0, none⟩)) m (bs ++ Lib.byteCells (acc ++ ((if k = 0 then [] else [32]) ++ Tx.dec x.toNat))) w1) (k1 : Wt.Kept B b wr w1) :
    Wt.BytRel B b m bs raw W0 (k + 1) (acc ++ ((if k = 0 then [] else [32]) ++ Tx.dec x.toNat)) w1 := by
  refine ⟨h1, h.kept.trans k1, hk, ?_, ?_⟩
  · rw [← h.says]
    have hd : raw.data.toList.drop k = x :: raw.data.toList.drop (k + 1) := by
      obtain ⟨h2, h3⟩ := List.getElem?_eq_some_iff.1 hx
      rw [List.drop_eq_getElem_cons h2, h3]
    rw [hd, Wt.raws]
    by_cases h0 : k = 0 <;> simp [h0]
  · have := h.len
    have := Wt.dec_byte x
    have : (if k = 0 then ([] : List UInt8) else [32]).length ≤ 1 := by split <;> simp
    simp only [List.length_append]
    omega
set_option maxHeartbeats 4000000 in
set_option maxRecDepth 1000000 in
theorem Wt.datum_bytes (m : Bool) (h : Tr.Hd) (l : List Tr) (h7 : h.k = 7) : Wt.Says m (.mk h l) := by
  intro B b bs C w hW hI hE hg hf hlen
  obtain ⟨⟨hx, hr⟩, hfl⟩ := Wt.fit_mk.1 hf
  rw [Wt.tell_atom (by omega)]
  have hlen2 : bs.length + 16777216 ≤ 140737488355328 := by
    have := Tr.size_pos (.mk h l)
    omega
  obtain ⟨hBb, hblt⟩ := hW.blk
  rw [Tr.In_mk] at hI
  obtain ⟨v3, v4, v6, v7, v9, v10, e, hH, hL⟩ := hI
  cases e
  obtain ⟨W0, hW0⟩ : ∃ z, w.alloc (.cells (Tr.cells h v3 v4 v6 v7 v9 v10) 37) = z := ⟨_, rfl⟩
  have hb0 : Below w.heap.size w W0 := by rw [← hW0]; exact (Below.refl _ _).alloc (Nat.le_refl _) _
  obtain ⟨hIs, hEn, hKe⟩ := Wt.boxed hW hE (Tr.cells h v3 v4 v6 v7 v9 v10)
  rw [hW0] at hIs hEn hKe
  have hz0 := hb0.size
  obtain ⟨a9, c9, hv9⟩ := hH.i9.slice
  have hI9 := hH.i9
  have hO9 := hH.o9
  rw [hv9] at hI9 hO9
  have hdata : ∀ k, k < h.raw.size → ∃ (bb off : Nat) (x : UInt8), a9 = some ⟨bb, off, none⟩ ∧ h.raw.data.toList[k]? = some x ∧ ∀ wr, Wt.Kept B b W0 wr → wr.cell? ⟨bb, off + k, none⟩ = some (.int .u8 x.toNat) := by
    intro k hk
    obtain ⟨bb, off, e, hlt, _, hc⟩ := By.In.at hI9 (by omega)
    have hS := hO9 (by omega) bb off _ _ (by rw [e])
    have hk2 : k < h.raw.data.size := hk
    refine ⟨bb, off, h.raw.data[k], e, by simp [hk2], fun wr hkw => ?_⟩
    have h1 := hc k hk
    rw [By.byt_data h.raw k hk2] at h1
    rw [hkw.1.cell (p := ⟨bb, off + k, none⟩) hS, hb0.cell (p := ⟨bb, off + k, none⟩) hlt]
    exact h1
  have hcap : h.raw.size ≤ c9 ∨ True := .inr trivial
  have K5 := Lib.hid (Wt.writeString B b m bs ⟨#[35, 118, 117, 56, 40]⟩ W0 hIs (by show _ + 5 ≤ _; omega) (by omega))
  obtain ⟨dd, _⟩ := hKe W0 (Wt.Kept.refl _ _ _)
  have q0 := dd 0
  have HDATA := Lib.hid hdata
  have HKE := Lib.hid hKe
  have HEN := Lib.hid hEn
  subst hv9
  obtain ⟨k, n, s1, t1, b1, s2, t2, b2, x, raw⟩ := h
  simp only at h7
  subst h7
  simp only at hr hx HDATA
  unfold Tr.cells at q0 HKE hW0 ⊢
  obtain ⟨L, hL⟩ : ∃ z, z = raw.size := ⟨_, rfl⟩
  rw [← hL] at q0 HKE hW0 HDATA hr ⊢
  have HLL := Lib.hid hL
  clear dd hdata hKe hIs hEn hH hL hW hE hg hf hlen hfl hb0 hI9 hO9 hcap
  go_enter Tryz.func131, Tryz.ntmps131
  go_wp2_with fail
  refine K5.out.mono ?_
  rintro e w1 ⟨rfl, h1, k1⟩
  obtain ⟨dd1, kw1⟩ := HKE.out _ k1
  have q9 := dd1 9
  have H0 : Wt.BytRel B b m bs raw W0 0 [35, 118, 117, 56, 40] w1 := ⟨h1, k1, Nat.zero_le _, rfl, by simp⟩
  clear h1 dd1 q0
  go_wp2_with fail
  go_loopw [78] (fun i wr => ∃ (k : Nat) (acc : List UInt8), i = .int .i64 k ∧ Wt.BytRel B b m bs raw W0 k acc wr) (fun i _ => L - (intOf i).toNat)
  case atStart => exact ⟨0, _, rfl, H0⟩
  case round =>
    obtain ⟨k, acc, rfl, hR⟩ := hrel
    clear H0 q9
    have hle := hR.le
    rw [← HLL.out] at hle
    have hal := hR.len
    have hbW := Wr.At.is hR.at_ |>.blk
    by_cases hk : k < L
    · obtain ⟨bb, off, x, rfl, hxk, hcell⟩ := HDATA.out k hk
      have c := hcell wr hR.kept
      have hxb := x.toNat_lt
      have hwx : IntKind.i64.wrap (x.toNat : Int) = x.toNat := by rw [IntKind.wrap_i64]; omega
      have HI := Lib.hid (fun W (hkW : Wt.Kept B b W0 W) => Wt.itoa_any x W (HEN.out.kept hkW).tab)
      have HS : Hid (∀ (W : World) (ac : List UInt8), Wr.At B b (.pointer (some ⟨b, 0, none⟩)) m (bs ++ Lib.byteCells ac) W → ac.length ≤ 10485800 → ∀ W2, Below W.heap.size W W2 → Calls Tryz.prog 43 #[.pointer (some ⟨b, 0, none⟩), .string ⟨(Tx.dec x.toNat).toArray⟩] W2 fun e w' => e = .returned (.tuple #[.int .i64 (⟨(Tx.dec x.toNat).toArray⟩ : ByteArray).size, .nilIface]) ∧ (Wr.At B b (.pointer (some ⟨b, 0, none⟩)) m (bs ++ Lib.byteCells (ac ++ Tx.dec x.toNat)) w' ∧ Wt.Kept B b W w')) := Lib.hid (fun W ac hAt hac W2 hb2 => by
        have hd := Wt.dec_byte x
        have hz := hb2.size
        have hbl := (Wr.At.is hAt).blk
        refine (Wt.writeString B b m _ _ W2 (hAt.keptBelow hb2).is (by rw [List.length_append, Lib.byteCells_length]; show _ + (List.toArray _).size ≤ _; simp; omega) (by omega)).mono ?_
        rintro e w2 ⟨rfl, h2, k2⟩
        rw [Wt.strCells_str, Wt.cells_app] at h2
        exact ⟨rfl, h2, (Wt.Kept.below hb2 (by omega)).trans k2⟩)
      have HN := Lib.hid (fun w2 => hR.next (w1 := w2) (by have := HLL.out; omega) hxk)
      have HAT := Lib.hid hR.at_
      have HKW := Lib.hid hR.kept
      by_cases hk0 : k = 0
      · subst hk0
        have HS2 := Lib.hid (HS.out wr acc HAT.out (by omega))
        clear hR hcell hxk hle hal
        rw [Nat.add_zero] at c
        go_wp2_with fail
        go_region_held3 (fun w' => wr.heap.size ≤ w'.heap.size)
          (first | exact Nat.le_refl _ | exact hkeep)
          (first
            | (go_at_call 150
               refine (HI.out wr.drew HKW.out.drew).mono ?_
               rintro z1 w2 ⟨rfl, hb2⟩
               have hbe : Below wr.heap.size wr w2 := (Below.drew (Below.refl _ _)).trans hb2
               have hkeep : wr.heap.size ≤ w2.heap.size := hb2.size)
            | (go_at_call 43
               refine (HS2.out w2 hbe).mono ?_
               rintro z2 w3 ⟨rfl, h3, k3⟩
               have hkeep : wr.heap.size ≤ w3.heap.size := k3.size))
        go_wp2_with fail
        go_roundw
        case rel => exact ⟨1, _, by first | rfl | go_num | (simp; try omega), HN.out w3 h3 k3⟩
        case measure => simp [intOf]; omega
      · have HB := Lib.hid (Wt.writeByte B b m (bs ++ Lib.byteCells acc) 32 wr HAT.out.is (by rw [List.length_append, Lib.byteCells_length]; omega) (by omega))
        have hk0I : (0 : Int) < (k : Int) := by omega
        clear hR hcell hxk hle
        go_wp2_with fail
        refine HB.out.mono ?_
        rintro e w5 ⟨rfl, h5, k5⟩
        have h5 : Wr.At B b (.pointer (some ⟨b, 0, none⟩)) m (bs ++ Lib.byteCells (acc ++ [32])) w5 := by rw [← Wt.cells_snoc]; exact h5
        have HS2 := Lib.hid (HS.out w5 (acc ++ [32]) h5 (by simp; omega))
        have HK5 := Lib.hid (HKW.out.trans k5)
        have HKK := Lib.hid k5
        clear h5 k5 hal
        go_wp2_with fail
        go_region_held3 (fun w' => w5.heap.size ≤ w'.heap.size)
          (first | exact Nat.le_refl _ | exact hkeep)
          (first
            | (go_at_call 150
               refine (HI.out w5.drew HK5.out.drew).mono ?_
               rintro z1 w2 ⟨rfl, hb2⟩
               have hbe : Below w5.heap.size w5 w2 := (Below.drew (Below.refl _ _)).trans hb2
               have hkeep : w5.heap.size ≤ w2.heap.size := hb2.size)
            | (go_at_call 43
               refine (HS2.out w2 hbe).mono ?_
               rintro z2 w3 ⟨rfl, h3, k3⟩
               have hkeep : w5.heap.size ≤ w3.heap.size := k3.size))
        go_wp2_with fail
        go_roundw
        case rel =>
          refine ⟨k + 1, _, by first | rfl | go_num | (simp; try omega), HN.out w3 ?_ (HKK.out.trans k3)⟩
          rw [if_neg hk0, ← List.append_assoc]
          exact h3
        case measure => simp [intOf]; omega
    · have hkL : k = L := by omega
      have HB := Lib.hid (Wt.writeByte B b m (bs ++ Lib.byteCells acc) 41 wr hR.at_.is (by rw [List.length_append, Lib.byteCells_length]; omega) (by omega))
      have hsay : Hid (acc ++ [41] = [35, 118, 117, 56, 40] ++ (Wt.raws true raw.data.toList ++ [41])) := Lib.hid (by
        rw [← hR.says, List.drop_eq_nil_of_le (by rw [Array.length_toList]; have := HLL.out; show raw.size ≤ k; omega)]
        simp [Wt.raws])
      have HKW := Lib.hid (HKE.out _ hR.kept).2
      clear hR hal hle
      go_wp2_with fail
      refine HB.out.mono ?_
      rintro e w2 ⟨rfl, h2, k2⟩
      go_wp2_with fail
      go_end0
      refine ⟨rfl, ?_, HKW.out.trans k2⟩
      have h3 := Wt.cells_snoc bs acc 41
      rw [hsay.out] at h3
      show Wr.At B b _ m (bs ++ Lib.byteCells ([35, 118, 117, 56, 40] ++ (Wt.raws true raw.data.toList ++ [41]))) w2
      rw [← h3]
      exact h2

set_option maxHeartbeats 8000000 in
set_option maxRecDepth 1000000 in
theorem Wt.pair_quote (m : Bool) (h : Tr.Hd) (a r : Tr) (h8 : h.k = 8) (hq : (Wt.isQ a && Wt.isOne r) = true) (IH : ∀ u, Tr.size u < Tr.size (.mk h [a, r]) → Wt.Says m u) : Wt.PSays m (.mk h [a, r]) := by
  intro B b bs C w hW hI hE hg hf hlen
  obtain ⟨a', r', bL, oL, cap, v3, v4, v6, v7, v9, Ca, Cr, e1, eC, hbB, hcap, hIa, hMa, hIr, hMr⟩ := Wt.two hI hg h8
  simp only [List.cons.injEq, and_true] at e1
  obtain ⟨rfl, rfl⟩ := e1
  obtain ⟨hBb, hblt⟩ := hW.blk
  have g1 := Tr.goodL_cons.1 (Tr.good_mk.1 hg).2
  have g2 := (Tr.goodL_cons.1 g1.2).1
  have f1 := Wt.fitL_cons.1 (Wt.fit_mk.1 hf).2
  have f2 := (Wt.fitL_cons.1 f1.2).1
  have hsz : Tr.size (.mk h [a, r]) = 1 + (Tr.size a + Tr.size r) := by rw [Tr.size_mk, Tr.sizeL_cons, Tr.sizeL_cons, Tr.sizeL_nil]; omega
  obtain ⟨ha, la, aa3, aa4, aa6, aa7, aa9, aa10, na3, na4, na6, na7, na9, na10, ca3, ca4, ca6, ca7, ca9, ca10, eCa, eat, _, _⟩ := Tr.In.form2 hIa
  subst eCa
  obtain ⟨hr, lr, ar3, ar4, ar6, ar7, ar9, ar10, nr3, nr4, nr6, nr7, nr9, nr10, cr3, cr4, cr6, cr7, cr9, cr10, eCr, ert, _, _⟩ := Tr.In.form2 hIr
  subst eCr
  subst eat ert
  subst eC
  obtain ⟨hqa, hqr⟩ := Bool.and_eq_true_iff.1 hq
  obtain ⟨hr', b', hc, lc, e5, hrk, hck⟩ := Wt.isOne_form hqr
  simp only [Tr.mk.injEq] at e5
  obtain ⟨rfl, rfl⟩ := e5
  rw [Wt.tell_quo h8 hq]
  unfold Wt.isQ at hqa
  simp only [Bool.and_eq_true, decide_eq_true_eq] at hqa
  rw [hsz] at hlen
  obtain ⟨P, hP⟩ : ∃ z, w.heap.size = z := ⟨_, rfl⟩
  obtain ⟨hIs, hEn, hKe⟩ := Wt.boxed hW hE (Tr.cells h v3 v4 v6 v7 v9 (.slice (some ⟨bL, oL, none⟩) 2 cap))
  obtain ⟨W0, hW0⟩ : ∃ z, w.alloc (.cells (Tr.cells h v3 v4 v6 v7 v9 (.slice (some ⟨bL, oL, none⟩) 2 cap)) 37) = z := ⟨_, rfl⟩
  have hz0 : W0.heap.size = w.heap.size + 1 := by rw [← hW0]; simp
  rw [hW0] at hIs hEn hKe
  obtain ⟨hIs1, hEn1, hKe1⟩ := Wt.boxed hIs hEn (Tr.cells hr (.slice ar3 nr3 cr3) (.slice ar4 nr4 cr4) (.slice ar6 nr6 cr6) (.slice ar7 nr7 cr7) (.slice ar9 nr9 cr9) (.slice ar10 nr10 cr10))
  obtain ⟨W1, hW1⟩ : ∃ z, W0.alloc (.cells (Tr.cells hr (.slice ar3 nr3 cr3) (.slice ar4 nr4 cr4) (.slice ar6 nr6 cr6) (.slice ar7 nr7 cr7) (.slice ar9 nr9 cr9) (.slice ar10 nr10 cr10)) 37) = z := ⟨_, rfl⟩
  have hq1 : W1.heap[W0.heap.size]? = some (.cells (Tr.cells hr (.slice ar3 nr3 cr3) (.slice ar4 nr4 cr4) (.slice ar6 nr6 cr6) (.slice ar7 nr7 cr7) (.slice ar9 nr9 cr9) (.slice ar10 nr10 cr10)) 37 (0, 0)) := by rw [← hW1]; exact heap_alloc_new W0 _
  rw [hW1] at hIs1 hEn1 hKe1
  have k00 := (hKe W0 (Wt.Kept.refl _ _ _)).2
  have k11 := (hKe1 W1 (Wt.Kept.refl _ _ _)).2
  have hz1 := k11.size
  have KALL : ∀ w', Wt.Kept B b W1 w' → (∀ j, w'.cell? ⟨w.heap.size, j, none⟩ = (Tr.cells h v3 v4 v6 v7 v9 (.slice (some ⟨bL, oL, none⟩) 2 cap))[j]?) ∧ w'.heap[W0.heap.size]? = some (.cells (Tr.cells hr (.slice ar3 nr3 cr3) (.slice ar4 nr4 cr4) (.slice ar6 nr6 cr6) (.slice ar7 nr7 cr7) (.slice ar9 nr9 cr9) (.slice ar10 nr10 cr10)) 37 (0, 0)) ∧ Wt.Kept B b w w' := fun w' hk =>
    ⟨(hKe w' (k11.trans hk)).1, hk.box hq1 (by omega) (by decide), (hKe w' (k11.trans hk)).2⟩
  have KA : ∀ w', Wt.Kept B b W1 w' → Tr.Mem w' bL oL (Tr.cells ha (.slice aa3 na3 ca3) (.slice aa4 na4 ca4) (.slice aa6 na6 ca6) (.slice aa7 na7 ca7) (.slice aa9 na9 ca9) (.slice aa10 na10 ca10)) := fun w' hk => Wt.mem_kept hMa hbB (KALL w' hk).2.2
  obtain ⟨r0, r1, r2, r3, r4, r5, r6, r7, r8, r9, r10⟩ := Tr.Mem.cells (Wt.mem_kept hMr hbB k00)
  have KB := Lib.hid (Wt.writeByte B b m bs 39 W1 hIs1 (by omega) (by omega))
  obtain ⟨x, y, bR, oR, capR, _, _, _, _, _, Cx, Cy, e1, e2, hbR, hcR, hIx, hMx, hIy, hMy⟩ := Wt.two hIr g2 hrk
  simp only [List.cons.injEq, and_true] at e1
  obtain ⟨rfl, rfl⟩ := e1
  have e3 := congrArg (fun (A : Array Value) => A[10]?) e2
  simp only [Tr.cells] at e3
  simp at e3
  obtain ⟨rfl, rfl, rfl⟩ := e3
  clear e2
  obtain ⟨y3, y4, y6, y7, y9, y10, eCy⟩ := Wt.own_hd hIy
  subst eCy
  obtain ⟨c0, _⟩ := Tr.Mem.cells (Wt.mem_kept hMy hbR (k00.trans k11))
  have gx := (Tr.goodL_cons.1 (Tr.good_mk.1 g2).2).1
  have fx := (Wt.fitL_cons.1 (Wt.fit_mk.1 f2).2).1
  have hsx : Tr.size b' < Tr.size (.mk hr [b', .mk hc lc]) := Tr.size_lt (t := .mk hr [b', .mk hc lc]) (k := 0) rfl
  have KREC : ∀ w2, Wt.Kept B b W1 w2 → Wr.At B b (.pointer (some ⟨b, 0, none⟩)) m (bs ++ Lib.byteCells [39]) w2 → _ := fun w2 hk hAt => IH b' (by omega) B b (bs ++ Lib.byteCells [39]) _ w2 hAt.is (Wt.in_kept hIx (KALL w2 hk).2.2) (hE.kept (KALL w2 hk).2.2) gx fx (by rw [List.length_append, Lib.byteCells_length]; simp only [List.length_cons, List.length_nil]; omega)
  have KX : ∀ w', Wt.Kept B b W1 w' → Tr.Mem w' bR oR Cx := fun w' hk => Wt.mem_kept hMx hbR (KALL w' hk).2.2
  obtain ⟨hx2, lx, ax3, ax4, ax6, ax7, ax9, ax10, nx3, nx4, nx6, nx7, nx9, nx10, cx3, cx4, cx6, cx7, cx9, cx10, eCx, ext, _, _⟩ := Tr.In.form2 hIx
  subst eCx
  obtain ⟨pc, hpc, _⟩ := KALL W1 (Wt.Kept.refl _ _ _)
  have p10 := pc 10
  have p10a := (hKe W0 (Wt.Kept.refl _ _ _)).1 10
  have hbc := Lib.cell_of_heap hpc
  have d0 := hbc 0
  have d10 := hbc 10
  have ma := KA W1 (Wt.Kept.refl _ _ _)
  obtain ⟨e0, e1, e2, e3, e4, e5, e6, e7, e8, e9, e10⟩ := Tr.Mem.cells ma
  obtain ⟨q, hq0⟩ : ∃ z, W0.heap.size = z := ⟨_, rfl⟩
  rw [hq0] at KALL d0 d10
  have HALL := Lib.hid KALL
  have HX := Lib.hid KX
  have HREC := Lib.hid KREC
  have h6 : (ha.k == 6) = true := by rw [hqa.1]; rfl
  have hx : (ha.x.toList == [113, 117, 111, 116, 101]) = true := by rw [ByteArray.toList_eq, hqa.2]; rfl
  have hk8 : (hr.k == 8) = true := by rw [hrk]; rfl
  have hkc : (hc.k == 1) = true := by rw [hck]; rfl
  have hcapI : (2 : Int) ≤ cap := by omega
  have hcRI : (2 : Int) ≤ cr10 := by omega
  clear h8 hKe hKe1 hIs hIs1 hEn hEn1 hq1 k00 k11 KALL KA KREC KX hIa hIr hMa hMr hI hq hg hf g1 f1 g2 f2 IH hsz hlen hW hE hz0 hpc hbc ma pc hP hqa hqr hrk hck hIx hMx hIy hMy hsx gx fx ext
  unfold Tr.cells at p10 p10a hW0 hW1 d0 d10 HX HALL HREC ⊢
  go_enter Tryz.func151, Tryz.ntmps151
  go_wp2_with fail
  refine KB.out.mono ?_
  rintro e w2 ⟨rfl, h2, k2⟩
  clear e0 e1 e2 e3 e4 e5 e6 e7 e8 e9 e10 d0 d10 p10 p10a r0 r1 r2 r3 r4 r5 r6 r7 r8 r9 r10 c0
  obtain ⟨_, hbx, _⟩ := HALL.out w2 k2
  have d10 := Lib.cell_of_heap hbx 10
  obtain ⟨e0, e1, e2, e3, e4, e5, e6, e7, e8, e9, e10⟩ := Tr.Mem.cells (HX.out w2 k2)
  have HR2 := Lib.hid (HREC.out w2 k2 h2)
  have HK2 := Lib.hid (HALL.out w2 k2).2.2
  clear h2 k2 hbx
  go_wp2_with fail
  refine HR2.out.mono ?_
  rintro e w3 ⟨rfl, h3, k3⟩
  rw [Wt.cells_app] at h3
  go_wp2_with fail
  refine bodyPost_ret (results_none rfl _ _ _) rfl ?_
  exact ⟨rfl, h3, HK2.out.trans k3⟩
theorem Wt.pair_step (m : Bool) (h : Tr.Hd) (l : List Tr) (h8 : h.k = 8) (IH : ∀ u, Tr.size u < Tr.size (.mk h l) → Wt.Says m u) : Wt.PSays m (.mk h l) := by
  intro B b bs C w hW hI hE hg hf hlen
  have hl := Tr.Hd.shape_pair (Tr.good_mk.1 hg).1 h8
  match l, hl, IH, hI, hg, hf, hlen with
  | [a, r], _, IH, hI, hg, hf, hlen =>
    cases hq : Wt.isQ a && Wt.isOne r
    · exact Wt.pair_list m h a r h8 hq IH B b bs C w hW hI hE hg hf hlen
    · exact Wt.pair_quote m h a r h8 hq IH B b bs C w hW hI hE hg hf hlen

set_option maxHeartbeats 4000000 in
set_option maxRecDepth 1000000 in
theorem Wt.datum_pair (m : Bool) (h : Tr.Hd) (l : List Tr) (h8 : h.k = 8) (IH : ∀ u, Tr.size u < Tr.size (.mk h l) → Wt.Says m u) : Wt.Says m (.mk h l) := by
  intro B b bs C w hW hI hE hg hf hlen
  have hI2 := hI
  rw [Tr.In_mk] at hI2
  obtain ⟨v3, v4, v6, v7, v9, v10, e, hH, hL⟩ := hI2
  cases e
  obtain ⟨hBb, hblt⟩ := hW.blk
  obtain ⟨W0, hW0⟩ : ∃ z, w.alloc (.cells (Tr.cells h v3 v4 v6 v7 v9 v10) 37) = z := ⟨_, rfl⟩
  obtain ⟨hIs, hEn, hKe⟩ := Wt.boxed hW hE (Tr.cells h v3 v4 v6 v7 v9 v10)
  rw [hW0] at hIs hEn hKe
  obtain ⟨dd, k0⟩ := hKe W0 (Wt.Kept.refl _ _ _)
  have KP := Lib.hid (Wt.pair_step m h l h8 IH B b bs _ W0 hIs (Wt.in_kept hI k0) hEn hg hf hlen)
  have HKE := Lib.hid (fun w' hk => (hKe w' hk).2)
  obtain ⟨k, n, s1, t1, b1, s2, t2, b2, x, raw⟩ := h
  simp only at h8
  subst h8
  unfold Tr.cells at dd hW0 KP ⊢
  have q0 := dd 0
  have q1 := dd 1
  have q2 := dd 2
  have q3 := dd 3
  have q4 := dd 4
  have q5 := dd 5
  have q6 := dd 6
  have q7 := dd 7
  have q8 := dd 8
  have q9 := dd 9
  have q10 := dd 10
  clear dd hKe hIs hEn hW hI hE hg hf hlen hH hL IH
  go_enter Tryz.func131, Tryz.ntmps131
  go_wp2_with fail
  refine KP.out.mono ?_
  rintro e w2 ⟨rfl, h2, k2⟩
  go_wp2_with fail
  go_end0
  exact ⟨rfl, h2, HKE.out _ k2⟩
theorem Wt.says_step (m : Bool) (t : Tr) (IH : ∀ u, Tr.size u < Tr.size t → Wt.Says m u) : Wt.Says m t := by
  obtain ⟨h, l⟩ := t
  by_cases h7 : h.k = 7
  · exact Wt.datum_bytes m h l h7
  by_cases h8 : h.k = 8
  · exact Wt.datum_pair m h l h8 IH
  by_cases h9 : h.k = 9
  · exact Wt.datum_vec m h l h9 IH
  exact Wt.datum_leaf m h l h7 h8 h9
/-- THE WRITER'S DATUM, OF ANY. -/
theorem Wt.says (m : Bool) (t : Tr) : Wt.Says m t := Wt.says_step m t (fun u _ => Wt.says m u)
termination_by Tr.size t
decreasing_by assumption
/-- What tell asks of the world. -/
structure Wt.Tabs (w : World) : Prop where
  utf : Tr.Tabs w
  bits : Wt.Bits w
  tab : Lib.TabIs Tryz.prog w "internal/strconv.uint64pow10" .u64 Lib.pow10Tab
theorem Wt.Tabs.lt {w : World} (h : Wt.Tabs w) : 5 < w.heap.size ∧ 2 < w.heap.size := by
  refine ⟨World.block_lt_of_cell? w _ h.bits, ?_⟩
  have h1 := h.tab
  unfold Lib.TabIs World.var? at h1
  rw [Wt.named] at h1
  simp only [Option.bind_some] at h1
  cases e : w.heap[2]? with
  | none => rw [e] at h1; cases h1
  | some o => exact (Array.getElem?_eq_some_iff.1 e).1
theorem Wt.Tabs.below {w w' : World} (h : Wt.Tabs w) (hb : Below w.heap.size w w') : Wt.Tabs w' :=
  ⟨h.utf.below hb, h.bits.below hb, Wt.tabIs_block h.tab (hb.block _ h.lt.2)⟩
/-- What tell answers. -/
def Wt.answer (m : Bool) (t : Tr) : Value := if Tr.sound t = true then .tuple #[.string (Tx.str (Wt.tell m t)), .int .i64 0] else .tuple #[.string ⟨#[]⟩, .int .i64 2]
set_option maxHeartbeats 4000000 in
set_option maxRecDepth 1000000 in
theorem Wt.tell_any (m : Bool) (t : Tr) (S : Nat → Prop) (v : Value) (w : World) (hI : Tr.In w S t v) (hT : Wt.Tabs w) (hf : Wt.fit t) :
    Calls Tryz.prog 93 #[v, .bool m] w fun e w' => e = .returned (Wt.answer m t) ∧ Below w.heap.size w w' := by
  obtain ⟨C, rfl⟩ := hI.agg
  obtain ⟨h, l⟩ := t
  have hI2 := hI
  rw [Tr.In_mk] at hI2
  obtain ⟨v3, v4, v6, v7, v9, v10, e, hH, hL⟩ := hI2
  cases e
  have HB0 : Hid (∀ o, Below w.heap.size w (w.alloc o)) := Lib.hid (fun o => (Below.refl _ _).alloc (Nat.le_refl _) o)
  have hq0 : (w.alloc (.cells (Tr.cells h v3 v4 v6 v7 v9 v10) 37)).heap[w.heap.size]? = some (.cells (Tr.cells h v3 v4 v6 v7 v9 v10) 37 (0, 0)) := heap_alloc_new w _
  obtain ⟨W0, hW0⟩ : ∃ z, w.alloc (.cells (Tr.cells h v3 v4 v6 v7 v9 v10) 37) = z := ⟨_, rfl⟩
  have hz0 : W0.heap.size = w.heap.size + 1 := by rw [← hW0]; simp
  have hb0 : Below w.heap.size w W0 := by rw [← hW0]; exact HB0.out _
  rw [hW0] at hq0
  have KS := Lib.hid (Tr.Sound_any (.mk h l) S _ W0 (hI.below hb0 (Nat.le_refl _)) (hT.utf.below hb0))
  have hdd := Lib.cell_of_heap hq0
  obtain ⟨sd, hsd⟩ : ∃ z, Tr.sound (.mk h l) = z := ⟨_, rfl⟩
  have HANS : Hid (Wt.answer m (.mk h l) = if sd = true then .tuple #[.string (Tx.str (Wt.tell m (.mk h l))), .int .i64 0] else .tuple #[.string ⟨#[]⟩, .int .i64 2]) := Lib.hid (by unfold Wt.answer; rw [hsd])
  have HTOP := Lib.hid (Tr.In.top _ _ hI)
  have HT := Lib.hid hT
  have HF := Lib.hid hf
  have HSD := Lib.hid hsd
  have HBB := Lib.hid hb0
  have HQ := Lib.hid hq0
  rw [hsd] at KS
  unfold Tr.cells at hdd hW0 KS ⊢
  have q0 := hdd 0
  have q1 := hdd 1
  have q2 := hdd 2
  have q3 := hdd 3
  have q4 := hdd 4
  have q5 := hdd 5
  have q6 := hdd 6
  have q7 := hdd 7
  have q8 := hdd 8
  have q9 := hdd 9
  have q10 := hdd 10
  clear hdd hI hT hf hH hL hsd hb0 hq0
  go_enter Tryz.func93, Tryz.ntmps93
  go_wp2_with fail
  refine KS.out.mono ?_
  rintro e w1 ⟨rfl, hb1⟩
  have HB1 := Lib.hid hb1
  clear q0 q1 q2 q3 q4 q5 q6 q7 q8 q9 q10 hb1
  cases sd
  · go_wp2_with fail
    go_ret2
    refine ⟨?_, HBB.out.trans (HB1.out.mono HBB.out.size)⟩
    rw [HANS.out]
    rfl
  · have hz1 := HB1.out.size
    have hbw : Below w.heap.size w w1 := HBB.out.trans (HB1.out.mono HBB.out.size)
    obtain ⟨W2, hW2⟩ : ∃ z, w1.alloc (.cells #[.pointer none, .slice none 0 0, .bool m] 163) = z := ⟨_, rfl⟩
    have hnew : W2.heap[w1.heap.size]? = some (.cells #[.pointer none, .slice none 0 0, .bool m] 163 (0, 0)) := by rw [← hW2]; exact heap_alloc_new w1 _
    have hb2 : Below w1.heap.size w1 W2 := by rw [← hW2]; exact (Below.refl _ _).alloc (Nat.le_refl _) _
    have hz2 : w1.heap.size < W2.heap.size := (Array.getElem?_eq_some_iff.1 hnew).1
    have hq2 : W2.heap[w.heap.size]? = some (.cells (Tr.cells h v3 v4 v6 v7 v9 v10) 37 (0, 0)) := by
      rw [hb2.block _ (by omega), HB1.out.block _ (by omega)]
      exact HQ.out
    have hbW2 : Below w.heap.size w W2 := hbw.trans (hb2.mono hbw.size)
    have hIs : Wr.Is w1.heap.size w1.heap.size m [] W2 := .inl ⟨Nat.le_refl _, .slice none 0 0, hnew, World.ownsRowF_nil _ _ _ _, by simp [Value.ownBlock]⟩
    have hTT := HT.out.below hbW2
    have hEn : Wt.Env w1.heap.size W2 := ⟨hTT.bits, hTT.tab, by have := HT.out.lt; have := hbw.size; omega⟩
    have hIn : Tr.In W2 (fun q => q < w1.heap.size) (.mk h l) (.agg (Tr.cells h v3 v4 v6 v7 v9 v10)) :=
      Tr.In.below (Tr.In.mono (fun q hq => by have := hbw.size; omega) _ _ HTOP.out) hbW2 (Nat.le_refl _)
    have hsz := Tr.sound_size HSD.out
    have KD := Lib.hid (Wt.says m (.mk h l) w1.heap.size w1.heap.size [] _ W2 hIs hIn hEn (Tr.sound_good HSD.out) HF.out (by simp only [List.length_nil]; omega))
    have hdd := Lib.cell_of_heap hq2
    have HBW2 := Lib.hid hbW2
    unfold Tr.cells at hdd KD
    have q0 := hdd 0
    have q1 := hdd 1
    have q2 := hdd 2
    have q3 := hdd 3
    have q4 := hdd 4
    have q5 := hdd 5
    have q6 := hdd 6
    have q7 := hdd 7
    have q8 := hdd 8
    have q9 := hdd 9
    have q10 := hdd 10
    have hwz := hbw.size
    clear hdd hq2 hnew hb2 hbW2 hIs hTT hEn hIn hbw
    go_wp2_with fail
    refine KD.out.mono ?_
    rintro e w3 ⟨rfl, h3, k3⟩
    rw [List.nil_append] at h3
    have KST := Lib.hid (Wt.string w1.heap.size w1.heap.size m (Wt.tell m (.mk h l)) _ w3 h3 (by have := k3.size; omega))
    have HK3 := Lib.hid (HBW2.out.trans (k3.1.mono hwz))
    clear h3 k3 q0 q1 q2 q3 q4 q5 q6 q7 q8 q9 q10
    go_wp2_with fail
    refine KST.out.mono ?_
    rintro e w4 ⟨rfl, hb4⟩
    go_wp2_with fail
    go_ret2
    refine ⟨?_, HK3.out.trans (hb4.mono hwz)⟩
    rw [HANS.out]
    rfl
theorem Wt.answer_form (m : Bool) (t : Tr) : ∃ (x : ByteArray) (e : Int), Wt.answer m t = .tuple #[.string x, .int .i64 e] := by
  unfold Wt.answer
  split
  · exact ⟨_, _, rfl⟩
  · exact ⟨_, _, rfl⟩
set_option maxHeartbeats 1000000 in
theorem Wt.Write_any (t : Tr) (S : Nat → Prop) (v : Value) (w : World) (hI : Tr.In w S t v) (hT : Wt.Tabs w) (hf : Wt.fit t) :
    Calls Tryz.prog 59 #[v] w fun e w' => e = .returned (Wt.answer true t) ∧ Below w.heap.size w w' := by
  obtain ⟨C, rfl⟩ := hI.agg
  obtain ⟨h, l⟩ := t
  have hI2 := hI
  rw [Tr.In_mk] at hI2
  obtain ⟨v3, v4, v6, v7, v9, v10, e, hH, hL⟩ := hI2
  cases e
  obtain ⟨x, en, hans⟩ := Wt.answer_form true (.mk h l)
  obtain ⟨W0, hW0⟩ : ∃ z, w.alloc (.cells (Tr.cells h v3 v4 v6 v7 v9 v10) 37) = z := ⟨_, rfl⟩
  have hb0 : Below w.heap.size w W0 := by rw [← hW0]; exact (Below.refl _ _).alloc (Nat.le_refl _) _
  have hq0 : W0.heap[w.heap.size]? = some (.cells (Tr.cells h v3 v4 v6 v7 v9 v10) 37 (0, 0)) := by rw [← hW0]; exact heap_alloc_new w _
  have KT := Lib.hid (Wt.tell_any true (.mk h l) S _ W0 (hI.below hb0 (Nat.le_refl _)) (hT.below hb0) hf)
  rw [hans] at KT
  have hdd := Lib.cell_of_heap hq0
  have HB := Lib.hid hb0
  have HA := Lib.hid hans
  unfold Tr.cells at hdd hW0 KT ⊢
  have q0 := hdd 0
  have q1 := hdd 1
  have q2 := hdd 2
  have q3 := hdd 3
  have q4 := hdd 4
  have q5 := hdd 5
  have q6 := hdd 6
  have q7 := hdd 7
  have q8 := hdd 8
  have q9 := hdd 9
  have q10 := hdd 10
  clear hdd hq0 hb0 hans hI hT hf hH hL
  go_enter Tryz.func59, Tryz.ntmps59
  go_wp2_with fail
  refine KT.out.mono ?_
  rintro e w1 ⟨rfl, hb1⟩
  go_wp2_with fail
  go_ret2
  exact ⟨by rw [HA.out]; rfl, HB.out.trans (hb1.mono HB.out.size)⟩

/-- One of a table's entries: its entry in the map, its key and value, and when it came. -/
structure Tm.Row where
  e : Tm.E
  key : Tr
  val : Tr
  came : Nat
/-- What is none of a table's own blocks, nor of those that its data are to stay out of. -/
def Tm.free (D : Nat → Prop) (p r : Nat) (L : List Tm.Row) (q : Nat) : Prop := (q ≠ p ∧ q ≠ r ∧ ∀ row ∈ L, q ≠ row.e.x) ∧ D q
/-- An entry's block. -/
def Tm.Ent (w : World) (S : Nat → Prop) (row : Tm.Row) : Prop := ∃ CK CV : Array Value, w.heap[row.e.x]? = some (.cells (CK ++ CV ++ #[.int .i64 row.came]) 68 (0, 0)) ∧ Tr.In w S row.key (.agg CK) ∧ Tr.In w S row.val (.agg CV)
/-- The table in block p, with its map in block r, holds these entries; all its blocks are B or above. -/
structure Tm.St (D : Nat → Prop) (K : Int) (p r last B : Nat) (w : World) (L : List Tm.Row) : Prop where
  tab : w.heap[p]? = some (.cells #[.int .i64 K, .int .i64 last, .map (some r)] 61 (0, 0))
  mp : ∃ es clock, w.heap[r]? = some (.map es clock) ∧ es.toList = Tm.ents (L.map (·.e)) ∧ ∀ row ∈ L, row.e.born < clock
  ents : ∀ row ∈ L, Tm.Ent w (Tm.free D p r L) row
  nms : L.Pairwise (fun a b => a.e.nm ≠ b.e.nm)
  xs : L.Pairwise (fun a b => a.e.x ≠ b.e.x)
  borns : L.Pairwise (fun a b => a.e.born ≠ b.e.born)
  cames : L.Pairwise (fun a b => a.came < b.came)
  lasts : ∀ row ∈ L, row.came ≤ last
  snd : ∀ row ∈ L, Tr.sound row.key = true ∧ Tr.sound row.val = true
  base : B ≤ p ∧ B ≤ r ∧ ∀ row ∈ L, B ≤ row.e.x
theorem Tm.St.p_lt {D : Nat → Prop} {K : Int} {p r last B : Nat} {w : World} {L : List Tm.Row} (h : Tm.St D K p r last B w L) : p < w.heap.size := (Array.getElem?_eq_some_iff.1 h.tab).1
theorem Tm.St.r_lt {D : Nat → Prop} {K : Int} {p r last B : Nat} {w : World} {L : List Tm.Row} (h : Tm.St D K p r last B w L) : r < w.heap.size := by
  obtain ⟨es, c, h1, _, _⟩ := h.mp
  exact (Array.getElem?_eq_some_iff.1 h1).1
theorem Tm.St.x_lt {D : Nat → Prop} {K : Int} {p r last B : Nat} {w : World} {L : List Tm.Row} (h : Tm.St D K p r last B w L) {row : Tm.Row} (hr : row ∈ L) : row.e.x < w.heap.size := by
  obtain ⟨CK, CV, h1, _, _⟩ := h.ents row hr
  exact (Array.getElem?_eq_some_iff.1 h1).1
theorem Tm.St.pr {D : Nat → Prop} {K : Int} {p r last B : Nat} {w : World} {L : List Tm.Row} (h : Tm.St D K p r last B w L) : p ≠ r := by
  rintro rfl
  obtain ⟨es, c, h1, _, _⟩ := h.mp
  have := h.tab
  rw [h1] at this
  cases this
theorem Tm.St.x_ne {D : Nat → Prop} {K : Int} {p r last B : Nat} {w : World} {L : List Tm.Row} (h : Tm.St D K p r last B w L) {row : Tm.Row} (hr : row ∈ L) : row.e.x ≠ p ∧ row.e.x ≠ r := by
  obtain ⟨CK, CV, h1, _, _⟩ := h.ents row hr
  obtain ⟨es, c, h2, _, _⟩ := h.mp
  refine ⟨fun e => ?_, fun e => ?_⟩
  · rw [e, h.tab] at h1
    have h3 : (61 : TypeId) = 68 := congrArg (fun o : Option Obj => match o with | some (.cells _ t _) => t | _ => 0) h1
    exact absurd h3 (by decide)
  · rw [e, h2] at h1; cases h1
theorem Tm.Ent.kept {w w' : World} {S : Nat → Prop} {row : Tm.Row} (h : Tm.Ent w S row) (hk : Tr.Kept S w w') (hx : w'.heap[row.e.x]? = w.heap[row.e.x]?) : Tm.Ent w' S row := by
  obtain ⟨CK, CV, h1, h2, h3⟩ := h
  exact ⟨CK, CV, hx.trans h1, Tr.In.kept hk _ _ h2, Tr.In.kept hk _ _ h3⟩
theorem Tm.Ent.mono {w : World} {S S' : Nat → Prop} {row : Tm.Row} (h : Tm.Ent w S row) (k : ∀ q, S q → S' q) : Tm.Ent w S' row := by
  obtain ⟨CK, CV, h1, h2, h3⟩ := h
  exact ⟨CK, CV, h1, Tr.In.mono k _ _ h2, Tr.In.mono k _ _ h3⟩
/-- The table stays where nothing of it is touched. -/
theorem Tm.St.kept {D : Nat → Prop} {K : Int} {p r last B : Nat} {w w' : World} {L : List Tm.Row} (h : Tm.St D K p r last B w L) (hs : w.heap.size ≤ w'.heap.size) (hk : ∀ q, q < w.heap.size → w'.heap[q]? = w.heap[q]?) : Tm.St D K p r last B w' L := by
  obtain ⟨es, c, h1, h2, h3⟩ := h.mp
  exact ⟨(hk p h.p_lt).trans h.tab, ⟨es, c, (hk r h.r_lt).trans h1, h2, h3⟩, fun row hr => (h.ents row hr).kept ⟨hs, fun q _ hl => hk q hl⟩ (hk _ (h.x_lt hr)), h.nms, h.xs, h.borns, h.cames, h.lasts, h.snd, h.base⟩
theorem Tm.St.below {D : Nat → Prop} {K : Int} {p r last B : Nat} {w w' : World} {L : List Tm.Row} (h : Tm.St D K p r last B w L) (hb : Below w.heap.size w w') : Tm.St D K p r last B w' L := h.kept hb.size (fun q hq => hb.block q hq)
theorem Tm.pos_rows {L : List Tm.Row} {s : ByteArray} {j x : Nat} (h : Tm.pos (L.map (·.e)) s = some (j, x)) : ∃ row, L[j]? = some row ∧ row.e.nm = s ∧ row.e.x = x := by
  obtain ⟨b, hb⟩ := Tm.pos_some h
  rw [List.getElem?_map, Option.map_eq_some_iff] at hb
  obtain ⟨row, h1, h2⟩ := hb
  exact ⟨row, h1, by rw [h2], by rw [h2]⟩
theorem Tm.pos_rows_none {L : List Tm.Row} {s : ByteArray} : Tm.pos (L.map (·.e)) s = none ↔ ∀ row ∈ L, row.e.nm ≠ s := by
  rw [Tm.pos_none]
  exact ⟨fun h row hr => h _ (List.mem_map.2 ⟨row, hr, rfl⟩), fun h e he => by obtain ⟨row, hr, rfl⟩ := List.mem_map.1 he; exact h row hr⟩
/-- No word, no byte, no datum lies in a block that is not there. -/
theorem Tb.NoData.new {w : World} {q : Nat} (h : w.heap.size ≤ q) : Tb.NoData w q := by
  have e : ∀ off, w.cell? ⟨q, off, none⟩ = none := fun off => by
    have : w.heap[q]? = none := Array.getElem?_eq_none h
    simp [World.cell?, this]
  intro off
  rw [e, e]
  exact ⟨fun n k => (by cases k), fun n k => (by cases k), .inl rfl⟩
/-- What the name of a key is asked of. -/
def Tm.Names (K : Int) (p : Nat) (last mp : Value) (key : Tr) (more : List Tr) (nm : ByteArray) (er : Int) : Prop := ∀ (w : World) (vk vm : Value), Tr.In w (fun _ => True) key vk → Tb.More w vm more → w.heap[p]? = some (.cells #[.int .i64 K, last, mp] 61 (0, 0)) → Wt.Tabs w →
  Calls Tryz.prog 20 #[.pointer (some ⟨p, 0, none⟩), vk, vm] w fun e w' => e = .returned (.tuple #[.string nm, .int .i64 er]) ∧ Below w.heap.size w w'
/-- A further entry. -/
theorem Tm.St.push {D : Nat → Prop} {K : Int} {p r last B x clock : Nat} {w w' : World} {L : List Tm.Row} {nm : ByteArray} {key val : Tr} {CK CV : Array Value} {es : Array MapEntry}
    (h : Tm.St D K p r last B w L) (hm : w.heap[r]? = some (.map es clock)) (hs : w.heap.size ≤ w'.heap.size) (hk : ∀ q, q < w.heap.size → q ≠ p → q ≠ r → w'.heap[q]? = w.heap[q]?) (hn : ∀ row ∈ L, row.e.nm ≠ nm)
    (ht : w'.heap[p]? = some (.cells #[.int .i64 K, .int .i64 (last + 1 : Nat), .map (some r)] 61 (0, 0)))
    (hr : w'.heap[r]? = some (.map (es.push { key := .string nm, val := .pointer (some ⟨x, 0, none⟩), born := clock }) (clock + 1)))
    (hx : w.heap.size ≤ x) (hxc : w'.heap[x]? = some (.cells (CK ++ CV ++ #[.int .i64 (last + 1 : Nat)]) 68 (0, 0)))
    (hik : Tr.In w' (fun q => w.heap.size ≤ q ∧ q ≠ x) key (.agg CK)) (hiv : Tr.In w' (fun q => w.heap.size ≤ q ∧ q ≠ x) val (.agg CV)) (hsk : Tr.sound key = true) (hsv : Tr.sound val = true) (hD : ∀ q, w.heap.size ≤ q → D q) :
    Tm.St D K p r (last + 1) B w' (L ++ [⟨⟨nm, x, clock⟩, key, val, last + 1⟩]) := by
  obtain ⟨es', clock', h1, h2, h3⟩ := h.mp
  rw [hm] at h1
  cases h1
  have hp := h.p_lt
  have hrl := h.r_lt
  have hfree : ∀ q, Tm.free D p r L q ∧ q ≠ x → Tm.free D p r (L ++ [⟨⟨nm, x, clock⟩, key, val, last + 1⟩]) q := fun q hq => ⟨⟨hq.1.1.1, hq.1.1.2.1, fun row hr => by
    rcases List.mem_append.1 hr with hr | hr
    · exact hq.1.1.2.2 row hr
    · rw [List.mem_singleton.1 hr]; exact hq.2⟩, hq.1.2⟩
  have hnew : ∀ q, w.heap.size ≤ q ∧ q ≠ x → Tm.free D p r (L ++ [⟨⟨nm, x, clock⟩, key, val, last + 1⟩]) q := fun q hq => hfree q ⟨⟨⟨by omega, by omega, fun row hr => by have := h.x_lt hr; omega⟩, hD q hq.1⟩, hq.2⟩
  refine ⟨ht, ⟨_, _, hr, ?_, ?_⟩, ?_, ?_, ?_, ?_, ?_, ?_, ?_, ?_⟩
  · rw [List.map_append]; exact Tm.push h2 nm x clock
  · intro row hr
    rcases List.mem_append.1 hr with hr | hr
    · have := h3 row hr; omega
    · rw [List.mem_singleton.1 hr]; exact Nat.lt_succ_self _
  · intro row hr
    rcases List.mem_append.1 hr with hr | hr
    · have hE := h.ents row hr
      obtain ⟨CK', CV', e1, e2, e3⟩ := hE
      have hne := h.x_ne hr
      have e2' := Tr.In.away (Tb.NoData.new hx) _ _ e2
      have e3' := Tr.In.away (Tb.NoData.new hx) _ _ e3
      have hkk : Tr.Kept (fun q => Tm.free D p r L q ∧ q ≠ x) w w' := ⟨hs, fun q hq hl => hk q hl hq.1.1.1 hq.1.1.2.1⟩
      exact ⟨CK', CV', (hk _ (h.x_lt hr) hne.1 hne.2).trans e1, Tr.In.mono hfree _ _ (Tr.In.kept hkk _ _ e2'), Tr.In.mono hfree _ _ (Tr.In.kept hkk _ _ e3')⟩
    · rw [List.mem_singleton.1 hr]
      exact ⟨CK, CV, hxc, Tr.In.mono hnew _ _ hik, Tr.In.mono hnew _ _ hiv⟩
  · rw [List.pairwise_append]
    exact ⟨h.nms, List.pairwise_singleton _ _, fun a ha b hb => by rw [List.mem_singleton.1 hb]; exact hn a ha⟩
  · rw [List.pairwise_append]
    exact ⟨h.xs, List.pairwise_singleton _ _, fun a ha b hb => by rw [List.mem_singleton.1 hb]; have := h.x_lt ha; show a.e.x ≠ x; omega⟩
  · rw [List.pairwise_append]
    exact ⟨h.borns, List.pairwise_singleton _ _, fun a ha b hb => by rw [List.mem_singleton.1 hb]; have := h3 a ha; show a.e.born ≠ clock; omega⟩
  · rw [List.pairwise_append]
    exact ⟨h.cames, List.pairwise_singleton _ _, fun a ha b hb => by rw [List.mem_singleton.1 hb]; have := h.lasts a ha; show a.came < last + 1; omega⟩
  · intro row hr
    rcases List.mem_append.1 hr with hr | hr
    · have := h.lasts row hr; omega
    · rw [List.mem_singleton.1 hr]; exact Nat.le_refl _
  · intro row hr
    rcases List.mem_append.1 hr with hr | hr
    · exact h.snd row hr
    · rw [List.mem_singleton.1 hr]; exact ⟨hsk, hsv⟩
  · refine ⟨h.base.1, h.base.2.1, fun row hr => ?_⟩
    rcases List.mem_append.1 hr with hr | hr
    · exact h.base.2.2 row hr
    · rw [List.mem_singleton.1 hr]
      have := h.base.1
      show B ≤ x
      omega
theorem Tm.mem_set {L : List Tm.Row} {j : Nat} {row : Tm.Row} {r' : Tm.Row} (h : r' ∈ L.set j row) : r' = row ∨ ∃ i, i ≠ j ∧ L[i]? = some r' := by
  obtain ⟨i, hi⟩ := List.mem_iff_getElem?.1 h
  rw [List.getElem?_set] at hi
  split at hi
  · split at hi
    · cases hi; exact .inl rfl
    · cases hi
  · rename_i hne; exact .inr ⟨i, fun e => hne e.symm, hi⟩
/-- A value turns. -/
theorem Tm.St.turn {D : Nat → Prop} {K : Int} {p r last B j : Nat} {w w' : World} {L : List Tm.Row} {row : Tm.Row} {val : Tr} {CK CV CV' : Array Value}
    (h : Tm.St D K p r last B w L) (hj : L[j]? = some row) (hs : w.heap.size ≤ w'.heap.size) (hk : ∀ q, q < w.heap.size → q ≠ row.e.x → w'.heap[q]? = w.heap[q]?)
    (hx : w.heap[row.e.x]? = some (.cells (CK ++ CV ++ #[.int .i64 row.came]) 68 (0, 0))) (hik : Tr.In w (Tm.free D p r L) row.key (.agg CK))
    (hxc : w'.heap[row.e.x]? = some (.cells (CK ++ CV' ++ #[.int .i64 row.came]) 68 (0, 0)))
    (hiv : Tr.In w' (fun q => w.heap.size ≤ q) val (.agg CV')) (hsv : Tr.sound val = true) (hD : ∀ q, w.heap.size ≤ q → D q) :
    Tm.St D K p r last B w' (L.set j { row with val := val }) := by
  have hjl : j < L.length := (List.getElem?_eq_some_iff.1 hj).1
  have hmem : row ∈ L := List.mem_of_getElem? hj
  have hne := h.x_ne hmem
  obtain ⟨es, c, h1, h2, h3⟩ := h.mp
  have hme : (L.set j { row with val := val }).map (·.e) = L.map (·.e) := by
    apply List.ext_getElem?
    intro i
    rw [List.getElem?_map, List.getElem?_map, List.getElem?_set]
    split
    · rename_i e; subst e; first | (rw [if_pos hjl, hj]; rfl) | (rw [hj]; rfl)
    · rfl
  have hsame : ∀ r' ∈ L.set j { row with val := val }, ∃ r0 ∈ L, r'.e = r0.e ∧ r'.key = r0.key ∧ r'.came = r0.came := fun r' hr' => by
    rcases Tm.mem_set hr' with rfl | ⟨i, _, hi⟩
    · exact ⟨row, hmem, rfl, rfl, rfl⟩
    · exact ⟨r', List.mem_of_getElem? hi, rfl, rfl, rfl⟩
  have hfree : ∀ q, Tm.free D p r L q → Tm.free D p r (L.set j { row with val := val }) q := fun q hq => ⟨⟨hq.1.1, hq.1.2.1, fun r' hr' => by
    obtain ⟨r0, h0, e, _, _⟩ := hsame r' hr'
    rw [e]; exact hq.1.2.2 r0 h0⟩, hq.2⟩
  have hnew : ∀ q, w.heap.size ≤ q → Tm.free D p r L q := fun q hq => ⟨⟨by have := h.p_lt; omega, by have := h.r_lt; omega, fun r0 h0 => by have := h.x_lt h0; omega⟩, hD q hq⟩
  have hkk : Tr.Kept (Tm.free D p r L) w w' := ⟨hs, fun q hq hl => hk q hl (hq.1.2.2 row hmem)⟩
  have hpw : ∀ (R : Tm.Row → Tm.Row → Prop), (∀ a b a' b' : Tm.Row, a.e = a'.e → a.came = a'.came → b.e = b'.e → b.came = b'.came → R a' b' → R a b) → L.Pairwise R → (L.set j { row with val := val }).Pairwise R := fun R hR hp => by
    rw [List.pairwise_iff_getElem] at hp ⊢
    intro a b ha hb hab
    rw [List.length_set] at ha hb
    have hg : ∀ i (hi : i < L.length), ((L.set j { row with val := val })[i]'(by rw [List.length_set]; exact hi)).e = L[i].e ∧ ((L.set j { row with val := val })[i]'(by rw [List.length_set]; exact hi)).came = L[i].came := fun i hi => by
      rw [List.getElem_set]
      split
      · rename_i e
        subst e
        have : L[j] = row := (List.getElem?_eq_some_iff.1 hj).2
        rw [this]
        exact ⟨rfl, rfl⟩
      · exact ⟨rfl, rfl⟩
    exact hR _ _ _ _ (hg a ha).1 (hg a ha).2 (hg b hb).1 (hg b hb).2 (hp a b ha hb hab)
  refine ⟨(hk p h.p_lt (fun e => hne.1 e.symm)).trans h.tab, ⟨es, c, (hk r h.r_lt (fun e => hne.2 e.symm)).trans h1, by rw [hme]; exact h2, fun r' hr' => ?_⟩, fun r' hr' => ?_, ?_, ?_, ?_, ?_, fun r' hr' => ?_, fun r' hr' => ?_, h.base.1, h.base.2.1, fun r' hr' => ?_⟩
  · obtain ⟨r0, h0, e, _, _⟩ := hsame r' hr'
    rw [e]; exact h3 r0 h0
  · rcases Tm.mem_set hr' with rfl | ⟨i, hi, hg⟩
    · exact ⟨CK, CV', hxc, Tr.In.mono hfree _ _ (Tr.In.kept hkk _ _ hik), Tr.In.mono (fun q hq => hfree q (hnew q hq)) _ _ hiv⟩
    · have hm' := List.mem_of_getElem? hg
      have hxx : r'.e.x ≠ row.e.x := by
        have hp := List.pairwise_iff_getElem.1 h.xs
        obtain ⟨hil, hie⟩ := List.getElem?_eq_some_iff.1 hg
        obtain ⟨hjl', hje⟩ := List.getElem?_eq_some_iff.1 hj
        rcases Nat.lt_or_gt_of_ne hi with hlt | hlt
        · have := hp i j hil hjl' hlt; rw [hie, hje] at this; exact this
        · have := hp j i hjl' hil hlt; rw [hie, hje] at this; exact fun e => this e.symm
      exact ((h.ents r' hm').kept hkk (hk _ (h.x_lt hm') hxx)).mono hfree
  · exact hpw _ (fun a b a' b' e1 _ e2 _ k => by rw [e1, e2]; exact k) h.nms
  · exact hpw _ (fun a b a' b' e1 _ e2 _ k => by rw [e1, e2]; exact k) h.xs
  · exact hpw _ (fun a b a' b' e1 _ e2 _ k => by rw [e1, e2]; exact k) h.borns
  · exact hpw _ (fun a b a' b' _ e1 _ e2 k => by rw [e1, e2]; exact k) h.cames
  · obtain ⟨r0, h0, _, _, e⟩ := hsame r' hr'
    rw [e]; exact h.lasts r0 h0
  · rcases Tm.mem_set hr' with rfl | ⟨i, hi, hg⟩
    · exact ⟨(h.snd row hmem).1, hsv⟩
    · exact h.snd r' (List.mem_of_getElem? hg)
  · obtain ⟨r0, h0, e, _, _⟩ := hsame r' hr'
    rw [e]; exact h.base.2.2 r0 h0
/-- An entry goes. -/
theorem Tm.St.drop {D : Nat → Prop} {K : Int} {p r last B j clock : Nat} {w w' : World} {L : List Tm.Row} {es : Array MapEntry}
    (h : Tm.St D K p r last B w L) (hm : w.heap[r]? = some (.map es clock)) (hj : j < L.length) (hs : w.heap.size ≤ w'.heap.size) (hk : ∀ q, q < w.heap.size → q ≠ r → w'.heap[q]? = w.heap[q]?)
    (hr : w'.heap[r]? = some (.map (es.eraseIdxIfInBounds j) clock)) : Tm.St D K p r last B w' (L.eraseIdx j) := by
  obtain ⟨es', clock', h1, h2, h3⟩ := h.mp
  rw [hm] at h1
  cases h1
  have hsub : (L.eraseIdx j).Sublist L := List.eraseIdx_sublist _ _
  have hmem : ∀ row ∈ L.eraseIdx j, row ∈ L := fun row hr => hsub.subset hr
  have hfree : ∀ q, Tm.free D p r L q → Tm.free D p r (L.eraseIdx j) q := fun q hq => ⟨⟨hq.1.1, hq.1.2.1, fun row hr => hq.1.2.2 row (hmem row hr)⟩, hq.2⟩
  refine ⟨(hk p h.p_lt h.pr).trans h.tab, ⟨_, _, hr, ?_, fun row hr => h3 row (hmem row hr)⟩, fun row hr => ?_, h.nms.sublist hsub, h.xs.sublist hsub, h.borns.sublist hsub, h.cames.sublist hsub, fun row hr => h.lasts row (hmem row hr), fun row hr => h.snd row (hmem row hr), h.base.1, h.base.2.1, fun row hr => h.base.2.2 row (hmem row hr)⟩
  · have := Tm.erase h2 (j := j) (by simpa using hj)
    rw [this, Tm.map_erase]
  · have hm' := hmem row hr
    exact ((h.ents row hm').kept ⟨hs, fun q hq hl => hk q hl hq.1.2.1⟩ (hk _ (h.x_lt hm') (h.x_ne hm').2)).mono hfree
/-- What the data stay out of may be another block. -/
theorem Tm.St.other {D D' : Nat → Prop} {K : Int} {p r last B : Nat} {w : World} {L : List Tm.Row} (h : Tm.St D K p r last B w L) (hD : ∀ q, D q → q < w.heap.size → D' q) : Tm.St D' K p r last B w L :=
  ⟨h.tab, h.mp, fun row hr => by
    obtain ⟨CK, CV, h1, h2, h3⟩ := h.ents row hr
    exact ⟨CK, CV, h1, Tr.In.mono (fun q hq => ⟨hq.1.1, hD q hq.1.2 hq.2⟩) _ _ (Tr.In.top _ _ h2), Tr.In.mono (fun q hq => ⟨hq.1.1, hD q hq.1.2 hq.2⟩) _ _ (Tr.In.top _ _ h3)⟩, h.nms, h.xs, h.borns, h.cames, h.lasts, h.snd, h.base⟩
/-- A block that is none of the table's, and that its data stay out of, may turn. -/
theorem Tm.St.aside {D : Nat → Prop} {K : Int} {p r last B q0 : Nat} {w w' : World} {L : List Tm.Row} (h : Tm.St D K p r last B w L) (hD : ¬ D q0) (hp : p ≠ q0) (hr : r ≠ q0) (hx : ∀ row ∈ L, row.e.x ≠ q0) (hs : w.heap.size ≤ w'.heap.size) (hk : ∀ q, q < w.heap.size → q ≠ q0 → w'.heap[q]? = w.heap[q]?) : Tm.St D K p r last B w' L := by
  obtain ⟨es, c, h1, h2, h3⟩ := h.mp
  exact ⟨(hk p h.p_lt hp).trans h.tab, ⟨es, c, (hk r h.r_lt hr).trans h1, h2, h3⟩, fun row hrow => (h.ents row hrow).kept ⟨hs, fun q hq hl => hk q hl (fun e => hD (e ▸ hq.2))⟩ (hk _ (h.x_lt hrow) (hx row hrow)), h.nms, h.xs, h.borns, h.cames, h.lasts, h.snd, h.base⟩
/-- A table without entries. -/
theorem Tm.St.empty {D : Nat → Prop} {K : Int} {p r last B clock : Nat} {w : World} (hp : w.heap[p]? = some (.cells #[.int .i64 K, .int .i64 last, .map (some r)] 61 (0, 0))) (hr : w.heap[r]? = some (.map #[] clock)) (hB : B ≤ p ∧ B ≤ r) : Tm.St D K p r last B w [] :=
  ⟨hp, ⟨#[], clock, hr, rfl, fun row hrow => by simp at hrow⟩, fun row hrow => by simp at hrow, List.Pairwise.nil, List.Pairwise.nil, List.Pairwise.nil, List.Pairwise.nil, fun row hrow => by simp at hrow, fun row hrow => by simp at hrow, hB.1, hB.2, fun row hrow => by simp at hrow⟩

/-- A datum that is no pair and no vector. -/
def Tm.leaf (h : Tr.Hd) : List UInt8 := if h.k = 6 ∨ h.k = 11 then Lib.encodeRune (65 + h.k) ++ Wt.str h.x.data.toList else 32 :: Wt.atom true h []
mutual
/-- The text that is a datum's alone. -/
def Tm.told : Tr → List UInt8
  | .mk h l =>
    if h.k = 8 then
      match l with
      | [a, r] => 40 :: (Tm.told a ++ Tm.tolds r)
      | _ => []
    else if h.k = 9 then 91 :: (Tm.toldL l ++ [93]) else Tm.leaf h
/-- What stands behind a list's first datum. -/
def Tm.tolds : Tr → List UInt8
  | .mk h l =>
    if h.k = 8 then
      match l with
      | [a, r] => Tm.told a ++ Tm.tolds r
      | _ => []
    else 46 :: ((if h.k = 9 then 91 :: (Tm.toldL l ++ [93]) else Tm.leaf h) ++ [41])
def Tm.toldL : List Tr → List UInt8
  | [] => []
  | t :: ts => Tm.told t ++ Tm.toldL ts
end
theorem Tm.told_pair {h : Tr.Hd} {a r : Tr} (hk : h.k = 8) : Tm.told (.mk h [a, r]) = 40 :: (Tm.told a ++ Tm.tolds r) := by rw [Tm.told, if_pos hk]
theorem Tm.told_vec {h : Tr.Hd} {l : List Tr} (hk : h.k = 9) : Tm.told (.mk h l) = 91 :: (Tm.toldL l ++ [93]) := by
  have h8 : ¬ h.k = 8 := by omega
  rw [Tm.told.eq_def]
  simp only [hk, h8, if_true, if_false]
  simp
theorem Tm.told_leaf {h : Tr.Hd} {l : List Tr} (h8 : h.k ≠ 8) (h9 : h.k ≠ 9) : Tm.told (.mk h l) = Tm.leaf h := by
  rw [Tm.told.eq_def]
  simp only [h8, h9, if_false]
theorem Tm.tolds_pair {h : Tr.Hd} {a r : Tr} (hk : h.k = 8) : Tm.tolds (.mk h [a, r]) = Tm.told a ++ Tm.tolds r := by rw [Tm.tolds, if_pos hk]
theorem Tm.tolds_end {h : Tr.Hd} {l : List Tr} (hk : h.k ≠ 8) : Tm.tolds (.mk h l) = 46 :: (Tm.told (.mk h l) ++ [41]) := by
  rw [Tm.tolds.eq_def, Tm.told.eq_def]
  simp only [hk, if_false]
theorem Tm.toldL_nil : Tm.toldL [] = [] := by rw [Tm.toldL]
theorem Tm.toldL_cons {t : Tr} {ts : List Tr} : Tm.toldL (t :: ts) = Tm.told t ++ Tm.toldL ts := by rw [Tm.toldL]
theorem Tm.leaf_len {h : Tr.Hd} {l : Nat} (hs : h.shape l = true) (hx : h.x.size ≤ 1048576) (hr : h.raw.size ≤ 1048576) : (Tm.leaf h).length ≤ 16777004 := by
  unfold Tm.leaf
  split
  · have h1 := Wt.str_len h.x.data.toList
    have h2 : h.x.data.toList.length = h.x.size := by simp
    have h3 := (Ru.encode_length (65 + h.k)).2
    simp only [List.length_append]
    omega
  · have := Wt.atom_len true ([] : List UInt8) hs hx hr
    simp only [List.length_cons, List.length_nil] at *
    omega
def Tm.Small (t : Tr) : Prop := Tr.good t → Wt.fit t → (Tm.told t).length + 100 ≤ 16777216 * Tr.size t ∧ (Tm.tolds t).length + 50 ≤ 16777216 * Tr.size t
theorem Tm.row_small : ∀ (l : List Tr), (∀ (k : Nat) (t : Tr), l[k]? = some t → Tm.Small t) → Tr.goodL l → Wt.fitL l → (Tm.toldL l).length ≤ 16777216 * Tr.sizeL l
  | [], _, _, _ => by rw [Tm.toldL_nil]; simp
  | t :: ts, h, hg, hf => by
    rw [Tr.goodL_cons] at hg
    rw [Wt.fitL_cons] at hf
    rw [Tm.toldL_cons, Tr.sizeL_cons, List.length_append]
    have h1 := (h 0 t rfl hg.1 hf.1).1
    have h2 := Tm.row_small ts (fun k u e => h (k + 1) u (by simpa using e)) hg.2 hf.2
    omega
theorem Tm.small_step (t : Tr) (IH : ∀ u, Tr.size u < Tr.size t → Tm.Small u) : Tm.Small t := by
  obtain ⟨h, l⟩ := t
  intro hg hf
  have hg0 := hg
  rw [Tr.good_mk] at hg
  rw [Wt.fit_mk] at hf
  have hz : Tr.size (.mk h l) = 1 + Tr.sizeL l := Tr.size_mk ..
  by_cases h8 : h.k = 8
  · have h2 := Tr.Hd.shape_pair hg.1 h8
    match l, h2, hg, hf, hz, IH with
    | [a, r], _, hg, hf, hz, IH =>
      rw [Tr.goodL_cons, Tr.goodL_cons] at hg
      rw [Wt.fitL_cons, Wt.fitL_cons] at hf
      rw [Tr.sizeL_cons, Tr.sizeL_cons] at hz
      have ha := (IH a (by omega) hg.2.1 hf.2.1).1
      have hr := (IH r (by omega) hg.2.2.1 hf.2.2.1).2
      rw [Tm.told_pair h8, Tm.tolds_pair h8, hz]
      simp only [List.length_cons, List.length_append]
      omega
  · have ht : (Tm.told (.mk h l)).length + 100 ≤ 16777216 * Tr.size (.mk h l) - 10 := by
      by_cases h9 : h.k = 9
      · have h1 := Tm.row_small l (fun k u e => IH u (Tr.size_lt (t := .mk h l) (k := k) e)) hg.2 hf.2
        rw [Tm.told_vec h9, hz]
        simp only [List.length_cons, List.length_append, List.length_nil]
        omega
      · rw [Tm.told_leaf h8 h9, hz]
        have := Tm.leaf_len hg.1 hf.1.1 hf.1.2
        omega
    refine ⟨by omega, ?_⟩
    rw [Tm.tolds_end h8]
    simp only [List.length_cons, List.length_append, List.length_nil]
    omega
theorem Tm.small (t : Tr) : Tm.Small t := Tm.small_step t (fun u _ => Tm.small u)
termination_by Tr.size t
decreasing_by assumption

/-- A character as a datum. -/
def Tm.chT (k : Nat) : Tr := .mk ⟨4, k, false, [], [], false, [], [], ⟨#[]⟩, ⟨#[]⟩⟩ []
/-- A vector of one character. -/
def Tm.keyT (k : Nat) : Tr := .mk ⟨9, 0, false, [], [], false, [], [], ⟨#[]⟩, ⟨#[]⟩⟩ [Tm.chT k]
theorem Tm.key_told (k : Nat) : Tm.told (Tm.keyT k) = 91 :: (32 :: Wt.chr true k ++ [93]) := by
  unfold Tm.keyT
  rw [Tm.told_vec rfl, Tm.toldL_cons, Tm.toldL_nil]
  unfold Tm.chT
  rw [Tm.told_leaf (by show (4 : Int) ≠ 8; decide) (by show (4 : Int) ≠ 9; decide)]
  have e : Tm.leaf ⟨4, k, false, [], [], false, [], [], ⟨#[]⟩, ⟨#[]⟩⟩ = 32 :: Wt.chr true k := by
    unfold Tm.leaf
    rw [if_neg (by show ¬ ((4 : Int) = 6 ∨ (4 : Int) = 11); decide)]
    rfl
  rw [e]
  simp
/-- A character less than 256, without a recursion. -/
def Tm.chrF (k : Nat) : List UInt8 :=
  if Wt.name k ≠ [] then [35, 92] ++ Wt.name k else if (Wt.odd k || Ch.blankB k) = true then [35, 92, 120] ++ (if k < 16 then [Wt.hx k] else [Wt.hx (k / 16), Wt.hx (k % 16)]) else [35, 92] ++ Lib.encodeRune k
theorem Tm.chr_eq {k : Nat} (h : k < 256) : Wt.chr true k = Tm.chrF k := by
  have hh : Wt.hex (k : Int).toNat = if k < 16 then [Wt.hx k] else [Wt.hx (k / 16), Wt.hx (k % 16)] := by
    rw [Int.toNat_natCast]
    by_cases h16 : k < 16
    · rw [if_pos h16, Wt.hex_small h16]
    · rw [if_neg h16, Wt.hex_big h16, Wt.hex_small (by omega)]
      rfl
  unfold Wt.chr Tm.chrF
  rw [if_neg (by decide), hh]
def Tm.named : List (Nat × List UInt8) := [0, 7, 8, 9, 10, 11, 12, 13, 27, 32, 127].map fun n => (n, Wt.name (n : Nat))
/-- Which character it is. -/
def Tm.unch (l : List UInt8) : Nat :=
  match l.drop 2 with
  | [c] => c.toNat
  | c :: d :: t => if c = 120 then (d :: t).foldl (fun n x => n * 16 + (if x.toNat < 58 then x.toNat - 48 else x.toNat - 87)) 0 else if 194 ≤ c.toNat then (c.toNat - 192) * 64 + (d.toNat - 128) else ((Tm.named.find? (fun q => q.2 == c :: d :: t)).map (·.1)).getD 0
  | [] => 0
theorem Tm.unch_all : ∀ k : Fin 256, Tm.unch (Tm.chrF k.val) = k.val := by decide +kernel
theorem Tm.key_inj {a b : Nat} (ha : a < 256) (hb : b < 256) (h : Tm.told (Tm.keyT a) = Tm.told (Tm.keyT b)) : a = b := by
  rw [Tm.key_told, Tm.key_told] at h
  simp only [List.cons.injEq, List.cons_append, true_and, List.append_cancel_right_eq] at h
  rw [Tm.chr_eq ha, Tm.chr_eq hb] at h
  have h1 := Tm.unch_all ⟨a, ha⟩
  have h2 := Tm.unch_all ⟨b, hb⟩
  exact h1.symm.trans ((congrArg Tm.unch h).trans h2)
theorem Tm.ch_snd {k : Nat} (h : k < 1000) {d : Nat} {left : Int} (hd : d ≤ 200) (hl : 1 ≤ left) : Tr.snd (Tm.chT k) d left = (true, left - 1) := by
  unfold Tm.chT
  have hsh : Tr.Hd.shape ⟨4, k, false, [], [], false, [], [], ⟨#[]⟩, ⟨#[]⟩⟩ 0 = true := by
    have hc : Tr.isChar (k : Int) = true := by
      unfold Tr.isChar
      simp only [Bool.and_eq_true, Bool.or_eq_true, decide_eq_true_eq]
      omega
    have e : (⟨#[]⟩ : ByteArray).size = 0 := rfl
    have ev : Lib.validD (⟨#[]⟩ : ByteArray).data.toList = true := by decide +kernel
    unfold Tr.Hd.shape Tr.Hd.num Rt.noRat Tr.isText Tr.own
    simp only [e, ev, hc]
    simp
  rw [Tr.snd_list (by rw [List.length_nil, hsh]; simp; omega) (by show (4 : Int) ≠ 8; decide), Tr.sndL_nil]
theorem Tm.ch_sound {k : Nat} (h : k < 1000) : Tr.sound (Tm.chT k) = true := by
  unfold Tr.sound
  rw [Tm.ch_snd h (by decide) (by decide)]
theorem Tm.key_sound {k : Nat} (h : k < 1000) : Tr.sound (Tm.keyT k) = true := by
  unfold Tr.sound Tm.keyT
  have hsh : Tr.Hd.shape ⟨9, 0, false, [], [], false, [], [], ⟨#[]⟩, ⟨#[]⟩⟩ 1 = true := by decide +kernel
  rw [Tr.snd_list (by rw [List.length_cons, List.length_nil, hsh]; decide) (by decide), Tr.sndL_cons, Tm.ch_snd h (by decide) (by decide), Tr.sndL_nil]
  rfl

/-- A key's name. -/
def Tm.nmK (k : Nat) : ByteArray := Tx.str (Tm.told (Tm.keyT k))
theorem Tm.nmK_inj {a b : Nat} (ha : a < 256) (hb : b < 256) (h : Tm.nmK a = Tm.nmK b) : a = b := by
  refine Tm.key_inj ha hb ?_
  unfold Tm.nmK Tx.str at h
  have := congrArg (fun x : ByteArray => x.data.toList) h
  simpa using this
/-- The keys in their order, each with what it holds; the table's rows. -/
structure Tm.Rel (M : List (Nat × Nat)) (L : List Tm.Row) : Prop where
  rows : L.map (fun r => (r.e.nm, r.key, r.val)) = M.map (fun q => (Tm.nmK q.1, Tm.keyT q.1, Tm.chT q.2))
  nd : (M.map (·.1)).Nodup
  lt : ∀ q ∈ M, q.1 < 256 ∧ q.2 < 300
theorem Tm.Rel.len {M : List (Nat × Nat)} {L : List Tm.Row} (h : Tm.Rel M L) : L.length = M.length := by
  have := congrArg List.length h.rows
  simpa using this
theorem Tm.Rel.at {M : List (Nat × Nat)} {L : List Tm.Row} (h : Tm.Rel M L) {j : Nat} {row : Tm.Row} (hj : L[j]? = some row) : ∃ k i, M[j]? = some (k, i) ∧ row.e.nm = Tm.nmK k ∧ row.key = Tm.keyT k ∧ row.val = Tm.chT i ∧ k < 256 ∧ i < 300 := by
  have h1 := congrArg (fun l => l[j]?) h.rows
  simp only [List.getElem?_map, hj, Option.map_some] at h1
  cases hm : M[j]? with
  | none => rw [hm] at h1; cases h1
  | some q =>
    rw [hm] at h1
    simp only [Option.map_some, Option.some.injEq, Prod.mk.injEq] at h1
    have := h.lt q (List.mem_of_getElem? hm)
    exact ⟨q.1, q.2, rfl, h1.1, h1.2.1, h1.2.2, this.1, this.2⟩
theorem Tm.Rel.miss {M : List (Nat × Nat)} {L : List Tm.Row} (h : Tm.Rel M L) {k : Nat} (hk : k < 256) : Tm.pos (L.map (·.e)) (Tm.nmK k) = none ↔ k ∉ M.map (·.1) := by
  rw [Tm.pos_rows_none]
  constructor
  · intro hn hm
    obtain ⟨q, hq, rfl⟩ := List.mem_map.1 hm
    obtain ⟨j, hj⟩ := List.mem_iff_getElem?.1 hq
    have hl : j < L.length := by rw [h.len]; exact (List.getElem?_eq_some_iff.1 hj).1
    obtain ⟨k', i', e1, e2, _⟩ := h.at (List.getElem?_eq_getElem hl)
    rw [hj] at e1
    cases e1
    exact hn _ (List.getElem_mem hl) e2
  · intro hn row hr e
    obtain ⟨j, hj⟩ := List.mem_iff_getElem?.1 hr
    obtain ⟨k', i', e1, e2, _, _, h256, _⟩ := h.at hj
    rw [e2] at e
    have := Tm.nmK_inj h256 hk e
    subst this
    exact hn (List.mem_map.2 ⟨_, List.mem_of_getElem? e1, rfl⟩)
theorem Tm.Rel.hit {M : List (Nat × Nat)} {L : List Tm.Row} (h : Tm.Rel M L) {k j x : Nat} (hk : k < 256) (hp : Tm.pos (L.map (·.e)) (Tm.nmK k) = some (j, x)) : ∃ i row, M[j]? = some (k, i) ∧ L[j]? = some row ∧ row.e.x = x ∧ row.e.nm = Tm.nmK k ∧ row.key = Tm.keyT k ∧ row.val = Tm.chT i := by
  obtain ⟨row, h1, h2, h3⟩ := Tm.pos_rows hp
  obtain ⟨k', i, e1, e2, e3, e4, h256, _⟩ := h.at h1
  rw [h2] at e2
  have := Tm.nmK_inj hk h256 e2
  subst this
  exact ⟨i, row, e1, h1, h3, h2, e3, e4⟩
theorem Tm.Rel.push {M : List (Nat × Nat)} {L : List Tm.Row} (h : Tm.Rel M L) {k i : Nat} (hk : k < 256) (hi : i < 300) (hn : k ∉ M.map (·.1)) (x b c : Nat) : Tm.Rel (M ++ [(k, i)]) (L ++ [⟨⟨Tm.nmK k, x, b⟩, Tm.keyT k, Tm.chT i, c⟩]) := by
  refine ⟨?_, ?_, ?_⟩
  · rw [List.map_append, List.map_append, h.rows]; rfl
  · rw [List.map_append, List.nodup_append]
    refine ⟨h.nd, by simp, fun a ha b hb e => ?_⟩
    simp only [List.map_cons, List.map_nil, List.mem_singleton] at hb
    subst hb
    subst e
    exact hn ha
  · intro q hq
    rcases List.mem_append.1 hq with hq | hq
    · exact h.lt q hq
    · rw [List.mem_singleton.1 hq]; exact ⟨hk, hi⟩
theorem Tm.Rel.turn {M : List (Nat × Nat)} {L : List Tm.Row} (h : Tm.Rel M L) {k i i' j : Nat} {row : Tm.Row} (hm : M[j]? = some (k, i')) (hl : L[j]? = some row) (hi : i < 300) : Tm.Rel (M.set j (k, i)) (L.set j { row with val := Tm.chT i }) := by
  obtain ⟨k', i'', e1, e2, e3, e4, h256, _⟩ := h.at hl
  rw [hm] at e1
  cases e1
  refine ⟨?_, ?_, ?_⟩
  · rw [List.map_set, List.map_set, h.rows, e2, e3]
  · rw [List.map_set]
    have : (M.map (·.1)).set j k = M.map (·.1) := by
      apply List.ext_getElem?
      intro n
      rw [List.getElem?_set]
      split
      · rename_i e
        subst e
        have hjl := (List.getElem?_eq_some_iff.1 hm).1
        rw [if_pos (by rw [List.length_map]; exact hjl), List.getElem?_map, hm]
        rfl
      · rfl
    show ((M.map (·.1)).set j k).Nodup
    rw [this]
    exact h.nd
  · intro q hq
    rcases List.mem_or_eq_of_mem_set hq with hq | rfl
    · exact h.lt q hq
    · exact ⟨h256, hi⟩
theorem Tm.Rel.drop {M : List (Nat × Nat)} {L : List Tm.Row} (h : Tm.Rel M L) (j : Nat) : Tm.Rel (M.eraseIdx j) (L.eraseIdx j) := by
  refine ⟨?_, ?_, fun q hq => h.lt q ((List.eraseIdx_sublist _ _).subset hq)⟩
  · rw [Tm.map_erase, Tm.map_erase, h.rows]
  · exact h.nd.sublist ((List.eraseIdx_sublist _ _).map _)
/-- What a key holds, and 1; 0: nothing. -/
def Tm.held (M : List (Nat × Nat)) (k : Nat) : Nat := match M.find? (fun q => q.1 == k) with | some q => q.2 + 1 | none => 0
theorem Tm.held_none {M : List (Nat × Nat)} {k : Nat} (h : k ∉ M.map (·.1)) : Tm.held M k = 0 := by
  have : M.find? (fun q => q.1 == k) = none := by
    rw [List.find?_eq_none]
    intro q hq e
    exact h (List.mem_map.2 ⟨q, hq, by simpa using e⟩)
  unfold Tm.held
  rw [this]
theorem Tm.find_at {M : List (Nat × Nat)} (hd : (M.map (·.1)).Nodup) {j k i : Nat} (h : M[j]? = some (k, i)) : M.find? (fun q => q.1 == k) = some (k, i) := by
  induction M generalizing j with
  | nil => simp at h
  | cons q M ih =>
    rw [List.map_cons, List.nodup_cons] at hd
    rw [List.find?_cons]
    cases j with
    | zero =>
      simp only [List.getElem?_cons_zero, Option.some.injEq] at h
      subst h
      simp
    | succ j =>
      simp only [List.getElem?_cons_succ] at h
      have hne : (q.1 == k) = false := by
        cases e : (q.1 == k) with
        | false => rfl
        | true => exact absurd (List.mem_map.2 ⟨_, List.mem_of_getElem? h, (by simpa using e : q.1 = k).symm⟩) hd.1
      rw [hne]
      exact ih hd.2 h
theorem Tm.held_at {M : List (Nat × Nat)} (hd : (M.map (·.1)).Nodup) {j k i : Nat} (h : M[j]? = some (k, i)) : Tm.held M k = i + 1 := by
  unfold Tm.held
  rw [Tm.find_at hd h]
theorem Tm.held_push {M : List (Nat × Nat)} {k i : Nat} (h : k ∉ M.map (·.1)) (q : Nat) : Tm.held (M ++ [(k, i)]) q = if q = k then i + 1 else Tm.held M q := by
  unfold Tm.held
  rw [List.find?_append]
  by_cases e : q = k
  · subst e
    rw [if_pos rfl]
    have : M.find? (fun x => x.1 == q) = none := by
      rw [List.find?_eq_none]
      intro x hx e
      exact h (List.mem_map.2 ⟨x, hx, by simpa using e⟩)
    rw [this]
    simp
  · rw [if_neg e]
    have : List.find? (fun x : Nat × Nat => x.1 == q) [(k, i)] = none := by
      have : (k == q) = false := by simpa using fun h => e h.symm
      simp [this]
    rw [this, Option.or_none]
theorem Tm.held_turn {M : List (Nat × Nat)} (hd : (M.map (·.1)).Nodup) {j k i i' : Nat} (h : M[j]? = some (k, i')) (q : Nat) : Tm.held (M.set j (k, i)) q = if q = k then i + 1 else Tm.held M q := by
  induction M generalizing j with
  | nil => simp at h
  | cons a M ih =>
    rw [List.map_cons, List.nodup_cons] at hd
    cases j with
    | zero =>
      simp only [List.getElem?_cons_zero, Option.some.injEq] at h
      subst h
      rw [List.set_cons_zero]
      unfold Tm.held
      rw [List.find?_cons, List.find?_cons]
      by_cases e : q = k
      · subst e; simp
      · have : (k == q) = false := by simpa using fun h => e h.symm
        simp only [this, if_neg e]
    | succ j =>
      simp only [List.getElem?_cons_succ] at h
      rw [List.set_cons_succ]
      have ih' := ih hd.2 h
      unfold Tm.held at ih' ⊢
      rw [List.find?_cons, List.find?_cons]
      cases e : (a.1 == q) with
      | false => exact ih'
      | true =>
        have ha : a.1 = q := by simpa using e
        have hk : q ≠ k := by
          rintro rfl
          exact hd.1 (List.mem_map.2 ⟨_, List.mem_of_getElem? h, ha.symm⟩)
        rw [if_neg hk]
theorem Tm.held_drop {M : List (Nat × Nat)} (hd : (M.map (·.1)).Nodup) {j k i : Nat} (h : M[j]? = some (k, i)) (q : Nat) : Tm.held (M.eraseIdx j) q = if q = k then 0 else Tm.held M q := by
  induction M generalizing j with
  | nil => simp at h
  | cons a M ih =>
    rw [List.map_cons, List.nodup_cons] at hd
    cases j with
    | zero =>
      simp only [List.getElem?_cons_zero, Option.some.injEq] at h
      subst h
      rw [List.eraseIdx_cons_zero]
      by_cases e : q = k
      · subst e
        rw [if_pos rfl]
        exact Tm.held_none hd.1
      · rw [if_neg e]
        unfold Tm.held
        rw [List.find?_cons]
        have : (k == q) = false := by simpa using fun h => e h.symm
        simp only [this]
    | succ j =>
      simp only [List.getElem?_cons_succ] at h
      rw [List.eraseIdx_cons_succ]
      have ih' := ih hd.2 h
      unfold Tm.held at ih' ⊢
      rw [List.find?_cons, List.find?_cons]
      cases e : (a.1 == q) with
      | false => exact ih'
      | true =>
        have ha : a.1 = q := by simpa using e
        have hk : q ≠ k := by
          rintro rfl
          exact hd.1 (List.mem_map.2 ⟨_, List.mem_of_getElem? h, ha.symm⟩)
        rw [if_neg hk]
/-- The order without a key. -/
theorem Tm.order_drop {M : List (Nat × Nat)} (hd : (M.map (·.1)).Nodup) {j k i : Nat} (h : M[j]? = some (k, i)) : (M.map (·.1)).filter (fun q => q != k) = (M.eraseIdx j).map (·.1) := by
  induction M generalizing j with
  | nil => simp at h
  | cons a M ih =>
    rw [List.map_cons, List.nodup_cons] at hd
    cases j with
    | zero =>
      simp only [List.getElem?_cons_zero, Option.some.injEq] at h
      subst h
      rw [List.eraseIdx_cons_zero, List.map_cons, List.filter_cons]
      simp only [bne_self_eq_false, Bool.false_eq_true, if_false]
      rw [List.filter_eq_self]
      intro x hx
      have : x ≠ k := by rintro rfl; exact hd.1 hx
      simpa using this
    | succ j =>
      simp only [List.getElem?_cons_succ] at h
      rw [List.eraseIdx_cons_succ, List.map_cons, List.filter_cons, List.map_cons, ih hd.2 h]
      have : a.1 ≠ k := by
        intro e
        exact hd.1 (List.mem_map.2 ⟨_, List.mem_of_getElem? h, e.symm⟩)
      have hb : (a.1 != k) = true := by simpa using this
      rw [if_pos hb]

theorem Bl.infoByte : (Tryz.prog.info? 5).map (fun i => (i.zero, i.size, i.bytes)) = some (some (.int .u8 0), 1, 1) := by kernel_rfl
theorem Bl.sizeBuilder : (Tryz.prog.info? 96).map (·.size) = some 2 := by kernel_rfl
theorem Bl.lies : liesAt Tryz.prog Tryz.prog.depth 96 (2 / Tryz.prog.cellsOf 96) 0 96 1 = true := by kernel_rfl

set_option maxHeartbeats 1000000 in
set_option maxRecDepth 100000 in
theorem Bl.copyCheck_used (b : Nat) (w : World) (h0 : w.cell? ⟨b, 0, none⟩ = some (.pointer (some ⟨b, 0, none⟩))) :
    Calls Tryz.prog 80 #[.pointer (some ⟨b, 0, none⟩)] w fun e w' => e = .returned (.tuple #[]) ∧ w' = w := by
  obtain ⟨j, hj, _⟩ := Option.map_eq_some_iff.1 Bl.sizeBuilder
  go_enter Tryz.func80, Tryz.ntmps80
  go_wp2
  rw [Lib.run_neq_ptr_same w _ Tryz.underlying94 hj]
  go_wp2
  go_end0
  exact ⟨rfl, rfl⟩

set_option maxHeartbeats 1000000 in
set_option maxRecDepth 100000 in
theorem Bl.copyCheck_fresh (b : Nat) (w : World) (h0 : w.cell? ⟨b, 0, none⟩ = some (.pointer none)) (hsh : w.shape? b = some (96, 2)) (hfz : w.frozen? ⟨b, 0, none⟩ = false) :
    Calls Tryz.prog 80 #[.pointer (some ⟨b, 0, none⟩)] w fun e w' => e = .returned (.tuple #[]) ∧ w' = w.setCell ⟨b, 0, none⟩ (.pointer (some ⟨b, 0, none⟩)) := by
  obtain ⟨j, hj, hjs⟩ := Option.map_eq_some_iff.1 Bl.sizeBuilder
  go_enter Tryz.func80, Tryz.ntmps80
  go_wp2
  rw [Lib.run_to_unsafe w ⟨b, 0, none⟩ Tryz.underlying94 Tryz.underlying150 hj (by rw [hjs]; decide) hsh (Nat.zero_lt_succ 1)]
  simp only [Result.andThen]
  rw [Oper.upon_value]
  go_wp2
  rw [run_callFunc_extern Tryz.func116 (by kernel_rfl) (by kernel_rfl) (by kernel_rfl) (e := Extern.AbiNoEscape.same) (by kernel_rfl)]
  rw [Lib.run_noEscape]
  simp only [Result.andThen]
  rw [Oper.upon_value]
  go_wp2
  rw [Lib.run_from_unsafe w ⟨b, 0, none⟩ Tryz.underlying150 Tryz.underlying94 hj hsh Bl.lies]
  simp only [Result.andThen]
  rw [Oper.upon_value]
  go_wp2
  go_end0
  exact ⟨rfl, rfl⟩

theorem Bl.copyCheck (B b : Nat) (bs : List Value) (w : World) (h : Lib.IsBuilderF 96 5 B b bs w) :
    Calls Tryz.prog 80 #[.pointer (some ⟨b, 0, none⟩)] w fun e w' => e = .returned (.tuple #[]) ∧ (Lib.BuilderAtF 96 5 B b (.pointer (some ⟨b, 0, none⟩)) bs w' ∧ Below B w w' ∧ Lib.OthersKept 5 (some b) w w') := by
  rcases h with h | h
  · refine (Bl.copyCheck_fresh b w h.cell0 h.shape h.frozen0).mono ?_
    rintro e w' ⟨rfl, rfl⟩
    exact ⟨rfl, h.used _, (Below.refl B w).setCell (p := ⟨b, 0, none⟩) h.1 _, (Lib.OthersKept.refl _ _ w).setCell ⟨b, 0, none⟩ rfl _⟩
  · refine (Bl.copyCheck_used b w h.cell0).mono ?_
    rintro e w' ⟨rfl, rfl⟩
    exact ⟨rfl, h, Below.refl B _, Lib.OthersKept.refl _ _ _⟩

set_option maxHeartbeats 2000000 in
set_option maxRecDepth 100000 in
theorem Bl.writeString (B b : Nat) (bs : List Value) (s : ByteArray) (w : World) (h : Lib.IsBuilderF 96 5 B b bs w) (hlen : bs.length + s.size ≤ 140737488355328) (hBw : B ≤ w.heap.size) :
    Calls Tryz.prog 43 #[.pointer (some ⟨b, 0, none⟩), .string s] w fun e w' => e = .returned (.tuple #[.int .i64 s.size, .nilIface]) ∧ (Lib.BuilderAtF 96 5 B b (.pointer (some ⟨b, 0, none⟩)) (bs ++ Lib.strCells s) w' ∧ Below B w w' ∧ Lib.OthersKept 5 (some b) w w') := by
  obtain ⟨i0, hi, hz0, hz1, hz2⟩ := info_parts Bl.infoByte
  go_enter Tryz.func43, Tryz.ntmps43
  go_wp2_with (go_at_call 80; refine (Bl.copyCheck B b bs _ h).mono ?_)
  rintro e w1 ⟨rfl, h1, hb1, hk1⟩
  obtain ⟨hB, v, hbk, hown, hne⟩ := h1
  have c0 : w1.cell? ⟨b, 0, none⟩ = some (.pointer (some ⟨b, 0, none⟩)) := by rw [Lib.cell_of_heap hbk]; rfl
  have c1 : w1.cell? ⟨b, 1, none⟩ = some v := by rw [Lib.cell_of_heap hbk]; rfl
  go_wp2_with (at_builtin; refine Lib.wpList_append_own_stringF _ rfl _ _ 22 9 rfl B 5 i0 Tryz.underlying22 Tryz.underlying9 hi hz0 hz1 hz2 _ _ _ rfl hown s rfl ?c3 ?c4 ?c5 ?_)
  case c3 => unfold maxLen; omega
  case c4 => omega
  case c5 => have := hb1.size; omega
  intro v' w2 hown' hgrow _
  have hlt : b < w1.heap.size := by
    rcases Nat.lt_or_ge b w1.heap.size with h' | h'
    · exact h'
    · simp [Array.getElem?_eq_none h'] at hbk
  have hb2 : w2.heap[b]? = some (.cells #[.pointer (some ⟨b, 0, none⟩), v] 96 (0, 0)) := by
    rw [hgrow.block b hlt (fun e => hne e.symm)]
    exact hbk
  have d0 : w2.cell? ⟨b, 0, none⟩ = some (.pointer (some ⟨b, 0, none⟩)) := by rw [Lib.cell_of_heap hb2]; rfl
  have d1 : w2.cell? ⟨b, 1, none⟩ = some v := by rw [Lib.cell_of_heap hb2]; rfl
  have f1 : w2.frozen? ⟨b, 1, none⟩ = false := Lib.frozen_of_heap hb2 1
  obtain ⟨ao, n', cap, rfl⟩ : ∃ ao n' cap, v' = .slice ao n' cap := by
    rcases hown'.2 with ⟨hv, _⟩ | ⟨g, cap, cur, fz, hv, _⟩
    · exact ⟨_, _, _, hv⟩
    · exact ⟨_, _, _, hv⟩
  go_wp2
  go_ret2
  refine ⟨rfl, ?_, ?_, (hk1.grown hgrow (Lib.ownsRowF_kind hown)).setCell ⟨b, 1, none⟩ rfl _⟩
  · exact Lib.BuilderAtF.put (T := 96) (e := 5) hB hb2 (bs' := bs ++ Lib.strCells s) (by simpa [Lib.strCells_length] using hown') (by decide)
  · exact (hb1.grown hgrow (by have := hb1.size; omega) (fun k hk => (hown.lt k hk).1)).setCell (p := ⟨b, 1, none⟩) hB _

set_option maxHeartbeats 4000000 in
set_option maxRecDepth 100000 in
theorem Bl.writeRune (B b : Nat) (bs : List Value) (r : Int) (hr0 : -2147483648 ≤ r) (hr1 : r ≤ 2147483647) (w : World) (h : Lib.IsBuilderF 96 5 B b bs w) (hlen : bs.length + 4 ≤ 140737488355328) (hBw : B ≤ w.heap.size) :
    Calls Tryz.prog 44 #[.pointer (some ⟨b, 0, none⟩), .int .i32 r] w fun e w' => e = .returned (.tuple #[.int .i64 (Lib.runeCells r).length, .nilIface]) ∧ (Lib.BuilderAtF 96 5 B b (.pointer (some ⟨b, 0, none⟩)) (bs ++ Lib.runeCells r) w' ∧ Below B w w' ∧ Lib.OthersKept 5 (some b) w w') := by
  have hk4 := Lib.runeCells_le r
  go_enter Tryz.func44, Tryz.ntmps44
  go_wp2_with (go_at_call 80; refine (Bl.copyCheck B b bs _ h).mono ?_)
  rintro e w1 ⟨rfl, h1, hb1, hk1⟩
  obtain ⟨hB, v, hbk, hown, hne⟩ := h1
  obtain ⟨ao, cap, rfl⟩ : ∃ ao cap, v = .slice ao bs.length cap := by
    rcases hown.2 with ⟨hv, h0⟩ | ⟨g, cap, cur, fz, hv, _⟩
    · exact ⟨none, 0, by rw [hv, h0]⟩
    · exact ⟨_, _, hv⟩
  have c0 : w1.cell? ⟨b, 0, none⟩ = some (.pointer (some ⟨b, 0, none⟩)) := by rw [Lib.cell_of_heap hbk]; rfl
  have c1 : w1.cell? ⟨b, 1, none⟩ = some (.slice ao bs.length cap) := by rw [Lib.cell_of_heap hbk]; rfl
  go_wp2_with (go_at_call 81; refine (Tryz.utf8_AppendRune_row B _ bs.length bs r hr0 hr1 _ hown hlen (by have := hb1.size; omega)).mono ?_)
  rintro e w2 ⟨v', rfl, hown', o, hgrow⟩
  have hlt : b < w1.heap.size := by
    rcases Nat.lt_or_ge b w1.heap.size with h' | h'
    · exact h'
    · simp [Array.getElem?_eq_none h'] at hbk
  have hb2 : w2.heap[b]? = some (.cells #[.pointer (some ⟨b, 0, none⟩), .slice ao bs.length cap] 96 (0, 0)) := by
    rw [hgrow.block b (by simp; omega) (fun e => hne e.symm), Lib.alloc_old w1 _ b hlt]
    exact hbk
  have d0 : w2.cell? ⟨b, 0, none⟩ = some (.pointer (some ⟨b, 0, none⟩)) := by rw [Lib.cell_of_heap hb2]; rfl
  have d1 : w2.cell? ⟨b, 1, none⟩ = some (.slice ao bs.length cap) := by rw [Lib.cell_of_heap hb2]; rfl
  have f1 : w2.frozen? ⟨b, 1, none⟩ = false := Lib.frozen_of_heap hb2 1
  obtain ⟨g, cap', rfl⟩ : ∃ g cap', v' = .slice (some ⟨g, 0, none⟩) (bs.length + (Lib.runeCells r).length) cap' := by
    rcases hown'.2 with ⟨_, h0⟩ | ⟨g, cap', cur, fz, hv, _⟩
    · omega
    · exact ⟨g, cap', hv⟩
  go_wp2
  go_ret2
  refine ⟨?_, ?_, ?_, ((hk1.alloc _).grown hgrow (Lib.ownsRowF_kind (hown.alloc _))).setCell ⟨b, 1, none⟩ rfl _⟩
  · have e : ((bs.length : Int) + ((Lib.runeCells r).length : Int) - (bs.length : Int)) = ((Lib.runeCells r).length : Int) := by omega
    simp [e]
  · exact Lib.BuilderAtF.put (T := 96) (e := 5) hB hb2 (bs' := bs ++ Lib.runeCells r) (by simpa using hown') (by decide)
  · exact ((hb1.alloc (by have := hb1.size; omega) _).grown hgrow (by have := hb1.size; simp; omega) (fun k hk => (hown.lt k hk).1)).setCell (p := ⟨b, 1, none⟩) hB _

theorem Ch.strCells_two (a b : UInt8) : Lib.strCells ⟨#[a, b]⟩ = Lib.byteCells [a, b] := by simp [Lib.strCells, Lib.byteCells]
theorem Ch.encs_one (r : Int) : Ru.encs [r] = Lib.encodeRune r := by simp [Ru.encs]

theorem Ch.upZ_bd (r : Int) (h0 : -2147483648 ≤ r) (h1 : r ≤ 2147483647) : -2147483648 ≤ Ch.upZ r ∧ Ch.upZ r ≤ 2147483647 := by
  have := Ch.pairZ_bound r h0 h1
  unfold Ch.upZ
  repeat' split
  all_goals omega
theorem Ch.downZ_bd (r : Int) (h0 : -2147483648 ≤ r) (h1 : r ≤ 2147483647) : -2147483648 ≤ Ch.downZ r ∧ Ch.downZ r ≤ 2147483647 := by
  have := Ch.pairZ_bound r h0 h1
  unfold Ch.downZ
  split
  all_goals omega

set_option maxHeartbeats 4000000 in
set_option maxRecDepth 1000000 in
theorem Ch.fold_any (s : ByteArray) (w : World) (hs : s.size ≤ 8796093022208) :
    Calls Tryz.prog 29 #[.string s] w fun e w' => e = .returned (.string ⟨(Ch.foldL s.data.toList).toArray⟩) ∧ Below w.heap.size w w' := by
  go_enter Tryz.func29, Tryz.ntmps29
  go_wp2
  go_loopw [] (fun wr => ∃ (pos : Nat) (acc : List UInt8), Lib.IsBuilderF 96 5 w.heap.size w.heap.size (Lib.byteCells acc) wr ∧ wr.heap[w.heap.size + 1]? = some (.stringIter s pos) ∧ Below w.heap.size w wr ∧ acc ++ Ru.mapT Ch.foldF (s.data.toList.drop pos) = Ch.foldL s.data.toList ∧ acc.length ≤ 8 * pos) (fun wr => s.size - wr.iterPos (w.heap.size + 1))
  case atStart =>
    refine ⟨0, [], (Lib.IsBuilderF.of (Lib.fresh_isBuilder 96 5 w)).alloc _, ?_, ((Below.refl _ w).alloc (Nat.le_refl _) _).alloc (by simp) _, rfl, by simp⟩
    have := World.iter_heap (w.alloc (.cells #[.pointer none, .slice none 0 0] 96)) s 0
    simpa using this
  case round =>
    obtain ⟨pos, acc, hI, hit, hbw, hacc, hal⟩ := hrel
    have hsz : w.heap.size + 1 < wr.heap.size := (Array.getElem?_eq_some_iff.1 hit).1
    have hacc := Lib.hid hacc
    by_cases hp : pos < s.size
    · have hnx : ∀ ty, (Instr.next (.pointer (some ⟨w.heap.size + 1, 0, none⟩)) true ty).run Tryz.prog wr = _ := fun ty => Lib.run_next_any_at wr (w.heap.size + 1) s pos ty hit hp
      have hwd := Lib.decode_width_pos s pos hp
      have hd1 := decode_le s pos
      have hI2 := hI.iterAt hit (pos + (Utf8.decode s pos).2)
      have hit2 := Lib.iterAt_heap wr (w.heap.size + 1) s pos (pos + (Utf8.decode s pos).2) hit
      have hbw2 := Lib.below_iterAt hbw (k := w.heap.size + 1) (by omega) s (pos + (Utf8.decode s pos).2)
      have hsz2 : w.heap.size ≤ (wr.iterAt (w.heap.size + 1) s (pos + (Utf8.decode s pos).2)).heap.size := by rw [Lib.iterAt_size]; omega
      have hst := Lib.hid (Ru.mapT_at Ch.foldF s pos hp)
      by_cases h32 : (Utf8.decode s pos).1 = 223
      · go_wp2_with (go_at_call 43; refine (Bl.writeString w.heap.size w.heap.size _ ⟨#[115, 115]⟩ _ hI2 (by rw [Lib.byteCells_length]; show acc.length + 2 ≤ _; omega) hsz2).mono ?_)
        rintro e W1 ⟨rfl, h1, b1, k1⟩
        go_wp2
        go_roundw
        case rel =>
          refine ⟨pos + (Utf8.decode s pos).2, acc ++ [115, 115], ?_, k1.iter hit2 (by omega), hbw2.trans b1, ?_, by simp; omega⟩
          · rw [Lib.byteCells_append, ← Ch.strCells_two]; exact Or.inr h1
          · rw [← hacc.out, hst.out, h32]; simp [Ch.foldF, Ru.encs, Lib.encodeRune, Lib.encodeRuneZ]
        case measure =>
          simp only [World.iterPos, k1.iter hit2 (by omega), hit]
          omega
      · have hub := Ch.upZ_bd (Utf8.decode s pos).1 (by omega) (by omega)
        have hub2 := Ch.downZ_bd _ hub.1 hub.2
        go_wp2_with (first | (go_at_call 46; refine (Ch.up_any _ _).mono ?_; rintro e w' ⟨rfl, rfl⟩) | (go_at_call 45; refine (Ch.down_any _ _).mono ?_; rintro e w' ⟨rfl, rfl⟩) | (go_at_call 44; refine (Bl.writeRune w.heap.size w.heap.size _ _ (by omega) (by omega) _ hI2 (by rw [Lib.byteCells_length]; omega) hsz2).mono ?_))
        rintro e W1 ⟨rfl, h1, b1, k1⟩
        go_wp2
        go_roundw
        case rel =>
          have hl4 := Lib.runeCells_le (Ch.downZ (Ch.upZ ((Utf8.decode s pos).1 : Int)))
          rw [Lib.runeCells_length] at hl4
          refine ⟨pos + (Utf8.decode s pos).2, acc ++ Lib.encodeRune (Ch.downZ (Ch.upZ (Utf8.decode s pos).1)), ?_, k1.iter hit2 (by omega), hbw2.trans b1, ?_, by simp; omega⟩
          · rw [Lib.byteCells_append, Lib.byteCells_encodeRune]; exact Or.inr h1
          · rw [← hacc.out, hst.out]; unfold Ch.foldF; rw [if_neg (by omega), Ch.encs_one, List.append_assoc]
        case measure =>
          simp only [World.iterPos, k1.iter hit2 (by omega), hit]
          omega
    · have hnx : ∀ ty, (Instr.next (.pointer (some ⟨w.heap.size + 1, 0, none⟩)) true ty).run Tryz.prog wr = _ := fun ty => Lib.run_next_end_at wr (w.heap.size + 1) s pos ty hit hp
      go_wp2_with (go_at_call 47; refine (Tryz.Builder_String_any_k w.heap.size w.heap.size acc _ hI (by omega)).mono ?_)
      rintro e W1 ⟨rfl, _, b1, _⟩
      go_wp2
      go_ret
      have hacc2 := hacc.out
      rw [Ru.mapT_end _ s pos hp, List.append_nil] at hacc2
      rw [← hacc2]
      exact ⟨rfl, hbw.trans b1⟩

/-- The name of a key in a table of kind 2, or why it has none. -/
def Tb.nm2 (ts : List Tr) (key : Tr) : ByteArray × Int := if ts.all Tr.sound = false then (⟨#[]⟩, 2) else if key.hd.k = 5 then (⟨(Ch.foldL key.hd.x.data.toList).toArray⟩, 0) else (⟨#[]⟩, 10)
set_option maxHeartbeats 2000000 in
set_option maxRecDepth 1000000 in
theorem Tb.name2_any (key : Tr) (more : List Tr) (p : Nat) (last mp vk vm : Value) (w : World) (hk : Tr.In w (fun _ => True) key vk) (hm : Tb.More w vm more) (hp : w.heap[p]? = some (.cells #[.int .i64 2, last, mp] 61 (0, 0))) (hT : Tr.Tabs w) (hx : key.hd.x.size ≤ 8796093022208) :
    Calls Tryz.prog 20 #[.pointer (some ⟨p, 0, none⟩), vk, vm] w fun e w' => e = .returned (.tuple #[.string (Tb.nm2 (more ++ [key]) key).1, .int .i64 (Tb.nm2 (more ++ [key]) key).2]) ∧ Below w.heap.size w w' := by
  obtain ⟨CK, rfl⟩ := hk.agg
  obtain ⟨ao, m, olds, rfl, hnone, hml, hm1, hol, hold, hbl, hin⟩ := hm
  have h11 := hk.size11
  have hone := Tb.one_cells hk
  obtain ⟨he, le, ab3, ab4, ab6, ab7, ab9, ab10, nb3, nb4, nb6, nb7, nb9, nb10, cb3, cb4, cb6, cb7, cb9, cb10, eCb, etk, hbH, hbL⟩ := Tr.In.form2 hk
  obtain ⟨R, hR⟩ : ∃ z, z = Tb.nm2 (more ++ [key]) key := ⟨_, rfl⟩
  rw [← hR]
  have HR := Lib.hid hR
  have HK := Lib.hid hk
  have HHD := Lib.hid hbH
  have HTK := Lib.hid etk
  have HT := Lib.hid hT
  have HIN := Lib.hid hin
  have HML := Lib.hid (And.intro hml hol)
  obtain ⟨i0, hi, hz0, hz1, hz2⟩ := info_parts Tb.infoD
  have hpl : p < w.heap.size := (Array.getElem?_eq_some_iff.1 hp).1
  subst eCb
  unfold Tr.cells at *
  obtain ⟨n0, n1, n2, n3⟩ := Sm.two w (.cells #[.int .i64 he.k, .int .i64 he.n, .bool he.s1, .slice ab3 nb3 cb3, .slice ab4 nb4 cb4, .bool he.s2, .slice ab6 nb6 cb6, .slice ab7 nb7 cb7, .string he.x, .slice ab9 nb9 cb9, .slice ab10 nb10 cb10] 37) (.cells #[.int .i64 he.k, .int .i64 he.n, .bool he.s1, .slice ab3 nb3 cb3, .slice ab4 nb4 cb4, .bool he.s2, .slice ab6 nb6 cb6, .slice ab7 nb7 cb7, .string he.x, .slice ab9 nb9 cb9, .slice ab10 nb10 cb10] 37)
  have hb0 : Below w.heap.size w (w.alloc (.cells #[.int .i64 he.k, .int .i64 he.n, .bool he.s1, .slice ab3 nb3 cb3, .slice ab4 nb4 cb4, .bool he.s2, .slice ab6 nb6 cb6, .slice ab7 nb7 cb7, .string he.x, .slice ab9 nb9 cb9, .slice ab10 nb10 cb10] 37)) := (Below.refl _ _).alloc (Nat.le_refl _) _
  have HB2 := Lib.hid n3
  have HN := Lib.hid (And.intro n0 (And.intro n1 n2))
  have HP := Lib.hid hp
  have hm1n : m + 1 ≤ 2 := by omega
  have holds : ∀ b, ao = some b → ∀ (j : Nat) u, olds[j]? = some u → ((w.alloc (.cells #[.int .i64 he.k, .int .i64 he.n, .bool he.s1, .slice ab3 nb3 cb3, .slice ab4 nb4 cb4, .bool he.s2, .slice ab6 nb6 cb6, .slice ab7 nb7 cb7, .string he.x, .slice ab9 nb9 cb9, .slice ab10 nb10 cb10] 37)).alloc (.cells #[.int .i64 he.k, .int .i64 he.n, .bool he.s1, .slice ab3 nb3 cb3, .slice ab4 nb4 cb4, .bool he.s2, .slice ab6 nb6 cb6, .slice ab7 nb7 cb7, .string he.x, .slice ab9 nb9 cb9, .slice ab10 nb10 cb10] 37)).cell? (b.add j) = some u := fun b hbb j u hu => (n3.cell (p := b.add j) (by
    have : (b.add j).block = b.block := by unfold Addr.add; split <;> rfl
    rw [this]; exact hbl b hbb)).trans (hold b hbb j u hu)
  clear hp hR hk hbH hbL etk hT hin hml hold hbl n0 n1 n2 n3 hb0
  go_enter Tryz.func20, Tryz.ntmps20
  go_wp2_with (at_builtin; refine wpList_append_grows _ rfl _ _ 35 rfl 37 i0 (.agg #[.int .i64 0, .int .i64 0, .bool false, .slice none 0 0, .slice none 0 0, .bool false, .slice none 0 0, .slice none 0 0, .string ⟨#[]⟩, .slice none 0 0, .slice none 0 0]) 11 192 Tryz.underlying35 hi hz0 hz1 hz2 rfl (by decide) ao m m olds rfl hnone hol holds ⟨w.heap.size + 1, 0, none⟩ 1 1 (#[.int .i64 he.k, .int .i64 he.n, .bool he.s1, .slice ab3 nb3 cb3, .slice ab4 nb4 cb4, .bool he.s2, .slice ab6 nb6 cb6, .slice ab7 nb7 cb7, .string he.x, .slice ab9 nb9 cb9, .slice ab10 nb10 cb10] : Array Value).toList rfl rfl (Tb.row_at HN.out.2.1) hone (by omega) (by simp only [maxLen]; omega) (by omega) ?_)
  intro v' w1 hown hg
  have hb1 : Below w.heap.size w w1 := HB2.out.grown hg HB2.out.size (fun k hk => by cases hk)
  have HB1 := Lib.hid hb1
  have hlin := Tb.row_lin hb1 (by rw [← HML.out.1]; exact HML.out.2) HIN.out HK.out (by rw [← HML.out.1]; exact hown)
  have q0 := (hg.block w.heap.size (by have := HN.out.2.2; omega) (by simp)).trans HN.out.1
  have qp := (hb1.block p hpl).trans HP.out
  obtain ⟨TS, hTS⟩ : ∃ z, z = more ++ [key] := ⟨_, rfl⟩
  rw [← hTS] at hlin HR
  obtain ⟨ra, rc, hv, _, _⟩ := Tr.Sl.slice hlin
  obtain ⟨NL, hNL⟩ : ∃ z, z = TS.length := ⟨_, rfl⟩
  rw [← hNL] at hv
  subst hv
  have hNL2 : NL ≤ 2 := by rw [hNL, hTS, List.length_append, ← HML.out.1]; simpa using hm1n
  have HLIN := Lib.hid hlin
  have HNL := Lib.hid hNL
  have HTS := Lib.hid hTS
  have HFR : Hid (∀ w', Below w1.heap.size w1 w' → (w'.heap[w.heap.size]? = some (.cells #[.int .i64 he.k, .int .i64 he.n, .bool he.s1, .slice ab3 nb3 cb3, .slice ab4 nb4 cb4, .bool he.s2, .slice ab6 nb6 cb6, .slice ab7 nb7 cb7, .string he.x, .slice ab9 nb9 cb9, .slice ab10 nb10 cb10] 37 (0, 0)) ∧ w'.heap[p]? = some (.cells #[.int .i64 2, last, mp] 61 (0, 0))) ∧ Below w.heap.size w w') := Lib.hid (fun w' hb => ⟨⟨(hb.block _ (Array.getElem?_eq_some_iff.1 q0).1).trans q0, (hb.block p (Array.getElem?_eq_some_iff.1 qp).1).trans qp⟩, HB1.out.trans (hb.mono HB1.out.size)⟩)
  clear hlin hown hg hb1 q0 qp hTS holds hone hNL hnone hol hm1n
  go_wp2_with fail
  go_loopg [22] NL (fun g i wr => ∃ k : Nat, k + g = NL ∧ i = .int .i64 k ∧ (∀ t ∈ TS.take k, Tr.sound t = true) ∧ Below w1.heap.size w1 wr)
  case atStart => exact ⟨0, by omega, rfl, fun t h => by simp at h, Below.refl _ _⟩
  case round =>
    obtain ⟨k, hkg, rfl, hall, hbw⟩ := hrel
    obtain ⟨wo, hwo⟩ : ∃ z, z = wr := ⟨_, rfl⟩
    subst hwo
    have HALL := Lib.hid hall
    have HBW := Lib.hid hbw
    have HFW := Lib.hid (HFR.out _ hbw)
    clear hall hbw
    by_cases hlt : k < NL
    · obtain ⟨tk, htk⟩ : ∃ t, TS[k]? = some t := ⟨_, List.getElem?_eq_getElem (by rw [← HNL.out]; exact hlt)⟩
      obtain ⟨b2, off2, rfl, hx1, hx2, hx3, hb2lt, hS2, hall2⟩ := Tr.Sl.at HLIN.out (by rw [← HNL.out]; omega)
      clear hx1 hx2 hx3
      obtain ⟨Ck, hIk, hMk⟩ := Tr.All.at _ _ _ hall2 k tk htk
      rw [Nat.mul_comm 11 k] at hMk
      have hMk4 := hMk.kept (S := fun _ => True) (Tr.Kept.all HBW.out (Nat.le_refl _)) trivial hb2lt
      have KS := fun o => Tr.Sound_any tk _ (.agg Ck) (wo.alloc o) (Tr.In.below (Tr.In.below hIk HBW.out (Nat.le_refl _)) ((Below.refl _ _).alloc (Nat.le_refl _) o) (Nat.le_refl _)) (HT.out.below ((HFW.out.2).trans (((Below.refl _ _).alloc (Nat.le_refl _) o).mono HFW.out.2.size)))
      obtain ⟨hf, lf, ar3, ar4, ar6, ar7, ar9, ar10, nr3, nr4, nr6, nr7, nr9, nr10, cr3, cr4, cr6, cr7, cr9, cr10, eCr, ert, hrH, hrL⟩ := Tr.In.form2 hIk
      subst eCr
      unfold Tr.cells at KS hMk4
      obtain ⟨e0, e1, e2, e3, e4, e5, e6, e7, e8, e9, e10⟩ := Tr.Mem.cells hMk4
      have HTK2 := Lib.hid htk
      have hbA : ∀ o, Below w1.heap.size w1 (wo.alloc o) := fun o => HBW.out.alloc HBW.out.size o
      have HBA := Lib.hid hbA
      clear hIk hMk hMk4 hall2 htk ert hrH hrL hb2lt hS2 hbA
      cases hsd : Tr.sound tk
      · rw [hsd] at KS
        have hans : R = (⟨#[]⟩, 2) := by
          rw [HR.out]
          unfold Tb.nm2
          rw [if_pos]
          cases hx : TS.all Tr.sound
          · rfl
          · have := List.all_eq_true.1 hx tk (List.mem_of_getElem? HTK2.out)
            rw [hsd] at this
            exact absurd this (by decide)
        subst hans
        go_wp2_with fail
        refine (KS _).mono ?_
        rintro x w5 ⟨rfl, hb5⟩
        have HB5 := Lib.hid (HFR.out _ ((HBA.out _).trans (hb5.mono (HBA.out _).size))).2
        clear hb5 KS e0 e1 e2 e3 e4 e5 e6 e7 e8 e9 e10
        go_wp2_with fail
        go_ret2
        exact ⟨rfl, HB5.out⟩
      · rw [hsd] at KS
        go_wp2_with fail
        refine (KS _).mono ?_
        rintro x w5 ⟨rfl, hb5⟩
        have HB5 := Lib.hid ((HBA.out _).trans (hb5.mono (HBA.out _).size))
        clear hb5 KS e0 e1 e2 e3 e4 e5 e6 e7 e8 e9 e10
        go_wp2_with fail
        go_roundg (gk - 1)
        case measure => omega
        case rel =>
          refine ⟨k + 1, by omega, by first | rfl | go_num | (simp; try omega), fun t ht => ?_, HB5.out⟩
          rw [List.take_add_one, HTK2.out] at ht
          rcases List.mem_append.1 ht with ht | ht
          · exact HALL.out t ht
          · simp at ht
            subst ht
            exact hsd
    · have hk2 : k = NL := by omega
      subst hk2
      have hallT : TS.all Tr.sound = true := List.all_eq_true.2 (fun t ht => HALL.out t (by rw [HNL.out, List.take_length]; exact ht))
      have HSND := Lib.hid hallT
      obtain ⟨⟨qb, qp⟩, hbw⟩ := HFW.out
      have p0 : wo.cell? ⟨p, 0, none⟩ = some (.int .i64 2) := Rt.cell_of qp 0
      obtain ⟨e0, e1, e2, e3, e4, e5, e6, e7, e8, e9, e10⟩ := Dt.cells11 qb
      have HBN := Lib.hid hbw
      clear hallT qb qp hbw
      have hnm : ∀ (he2 : he.k = 5), R = (⟨(Ch.foldL he.x.data.toList).toArray⟩, 0) := fun he2 => by
        rw [HR.out]; unfold Tb.nm2
        rw [if_neg (by rw [HSND.out]; decide), HTK.out]
        rw [if_pos (by exact he2)]
        rfl
      have hno : ∀ (he2 : he.k ≠ 5), R = (⟨#[]⟩, 10) := fun he2 => by
        rw [HR.out]; unfold Tb.nm2
        rw [if_neg (by rw [HSND.out]; decide), HTK.out]
        rw [if_neg (by exact he2)]
      by_cases h5 : he.k = 5
      · have hans := hnm h5
        subst hans
        have KF := Ch.fold_any he.x wo (by have := hx; rw [HTK.out] at this; exact this)
        have h52 : (he.k != 5) = false := by rw [h5]; rfl
        clear hnm hno hx
        go_wp2_with fail
        refine KF.mono ?_
        rintro x w6 ⟨rfl, hb6⟩
        have HB6 := Lib.hid (HBN.out.trans (hb6.mono HBN.out.size))
        clear hb6 KF e0 e1 e2 e3 e4 e5 e6 e7 e8 e9 e10
        go_wp2_with fail
        go_ret2
        exact ⟨rfl, HB6.out⟩
      · have hans := hno h5
        subst hans
        have h52 : (he.k != 5) = true := by simpa using h5
        clear hnm hno hx
        go_wp2_with fail
        go_ret2
        exact ⟨rfl, HBN.out⟩






end Go.Proofs.YtdjllmogejkimaaGreatDoor
