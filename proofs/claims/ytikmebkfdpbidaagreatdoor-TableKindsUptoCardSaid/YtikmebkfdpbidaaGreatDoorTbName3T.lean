/-
  The name of a key in a table of kind 3, whatever the key.
-/
import Derived.Deep.LoopGhost
import Derived.Deep.DeepCutAuto
import Derived.Deep.RegionHeld3
import Derived.Test.YtikmebkfdpbidaaGreatDoorTg
import Derived.Test.YtikmebkfdpbidaaGreatDoorTi
import Derived.Test.YtikmebkfdpbidaaGreatDoorTh
import Derived.Test.YtikmebkfdpbidaaGreatDoorDtLeafT
namespace Go.Proofs.YtikmebkfdpbidaaGreatDoor
open Go.RowKit
set_option linter.unusedVariables false
set_option linter.unusedSimpArgs false

/-- Two numbers are stored into two blocks. -/
theorem Tb.pack2 {W : World} {g g' : Nat} (hg : W.heap[g]? = some (.cells #[.bool false, .slice none 0 0, .slice none 0 0, .bool false, .slice none 0 0, .slice none 0 0] 26 (0, 0))) (hg' : W.heap[g']? = some (.cells #[.bool false, .slice none 0 0, .slice none 0 0, .bool false, .slice none 0 0, .slice none 0 0] 26 (0, 0))) (hne : g ≠ g') (u0 u1 u2 u3 u4 u5 v0 v1 v2 v3 v4 v5 : Value) : ∃ A0 A1 A2 A3 A4 A5 B0 B1 B2 B3 B4 B5 : World,
    (W.cell? ⟨g, 0, none⟩ = some (.bool false) ∧ W.frozen? ⟨g, 0, none⟩ = false ∧ W.setCell ⟨g, 0, none⟩ u0 = A0) ∧
    (A0.cell? ⟨g, 1, none⟩ = some (.slice none 0 0) ∧ A0.frozen? ⟨g, 1, none⟩ = false ∧ A0.setCell ⟨g, 1, none⟩ u1 = A1) ∧
    (A1.cell? ⟨g, 2, none⟩ = some (.slice none 0 0) ∧ A1.frozen? ⟨g, 2, none⟩ = false ∧ A1.setCell ⟨g, 2, none⟩ u2 = A2) ∧
    (A2.cell? ⟨g, 3, none⟩ = some (.bool false) ∧ A2.frozen? ⟨g, 3, none⟩ = false ∧ A2.setCell ⟨g, 3, none⟩ u3 = A3) ∧
    (A3.cell? ⟨g, 4, none⟩ = some (.slice none 0 0) ∧ A3.frozen? ⟨g, 4, none⟩ = false ∧ A3.setCell ⟨g, 4, none⟩ u4 = A4) ∧
    (A4.cell? ⟨g, 5, none⟩ = some (.slice none 0 0) ∧ A4.frozen? ⟨g, 5, none⟩ = false ∧ A4.setCell ⟨g, 5, none⟩ u5 = A5) ∧
    (A5.cell? ⟨g', 0, none⟩ = some (.bool false) ∧ A5.frozen? ⟨g', 0, none⟩ = false ∧ A5.setCell ⟨g', 0, none⟩ v0 = B0) ∧
    (B0.cell? ⟨g', 1, none⟩ = some (.slice none 0 0) ∧ B0.frozen? ⟨g', 1, none⟩ = false ∧ B0.setCell ⟨g', 1, none⟩ v1 = B1) ∧
    (B1.cell? ⟨g', 2, none⟩ = some (.slice none 0 0) ∧ B1.frozen? ⟨g', 2, none⟩ = false ∧ B1.setCell ⟨g', 2, none⟩ v2 = B2) ∧
    (B2.cell? ⟨g', 3, none⟩ = some (.bool false) ∧ B2.frozen? ⟨g', 3, none⟩ = false ∧ B2.setCell ⟨g', 3, none⟩ v3 = B3) ∧
    (B3.cell? ⟨g', 4, none⟩ = some (.slice none 0 0) ∧ B3.frozen? ⟨g', 4, none⟩ = false ∧ B3.setCell ⟨g', 4, none⟩ v4 = B4) ∧
    (B4.cell? ⟨g', 5, none⟩ = some (.slice none 0 0) ∧ B4.frozen? ⟨g', 5, none⟩ = false ∧ B4.setCell ⟨g', 5, none⟩ v5 = B5) ∧
    (B5.cell? ⟨g', 0, none⟩ = some v0 ∧ B5.cell? ⟨g', 1, none⟩ = some v1 ∧ B5.cell? ⟨g', 2, none⟩ = some v2 ∧ B5.cell? ⟨g', 3, none⟩ = some v3 ∧ B5.cell? ⟨g', 4, none⟩ = some v4 ∧ B5.cell? ⟨g', 5, none⟩ = some v5) ∧
    (B5.cell? ⟨g, 0, none⟩ = some u0 ∧ B5.cell? ⟨g, 1, none⟩ = some u1 ∧ B5.cell? ⟨g, 2, none⟩ = some u2 ∧ B5.cell? ⟨g, 3, none⟩ = some u3 ∧ B5.cell? ⟨g, 4, none⟩ = some u4 ∧ B5.cell? ⟨g, 5, none⟩ = some u5) ∧
    Hid ((∀ v n, Nt.N W v n → Nt.N B5 v n) ∧ (∀ (B : Nat) (w0 : World), Below B w0 W → B ≤ g → B ≤ g' → Below B w0 B5) ∧ (∀ q, q ≠ g → A5.heap[q]? = W.heap[q]?) ∧ (∀ q, q ≠ g → q ≠ g' → B5.heap[q]? = W.heap[q]?)) := by
  obtain ⟨A0, A1, A2, A3, A4, A5, a0, a1, a2, a3, a4, a5, ra, HA⟩ := Rt.put6 hg u0 u1 u2 u3 u4 u5
  have hg2 := (HA.out.2.2.1 g' (Ne.symm hne)).trans hg'
  obtain ⟨B0, B1, B2, B3, B4, B5, b0, b1, b2, b3, b4, b5, rb, HB⟩ := Rt.put6 hg2 v0 v1 v2 v3 v4 v5
  have hgB := (HB.out.2.2.1 g hne).trans HA.out.1
  exact ⟨A0, A1, A2, A3, A4, A5, B0, B1, B2, B3, B4, B5, a0, a1, a2, a3, a4, a5, b0, b1, b2, b3, b4, b5, rb, Rt.cells6 hgB, Lib.hid ⟨fun v n h => Nt.In.othr (Nt.In.othr h hg Rt.noWords6 HA.out.2.2.1 HA.out.2.1) hg2 Rt.noWords6 HB.out.2.2.1 HB.out.2.1, fun B w0 hb h1 h2 => HB.out.2.2.2 _ _ (HA.out.2.2.2 _ _ hb h1) h2, HA.out.2.2.1, fun q h1 h2 => (HB.out.2.2.1 q h2).trans (HA.out.2.2.1 q h1)⟩⟩
theorem Tb.num_of {h : Tr.Hd} {l : List Tr} (hs : Tr.sound (.mk h l) = true) (h3 : h.k = 3) : Rt.sound h.s1 h.t1 h.b1 = true ∧ Rt.sound h.s2 h.t2 h.b2 = true := by
  have hsh : h.shape l.length = true := by
    cases e : h.shape l.length with
    | true => rfl
    | false =>
      unfold Tr.sound at hs
      rw [Tr.snd_bad (.inr (.inr e))] at hs
      cases hs
  unfold Tr.Hd.shape at hsh
  simp only [Bool.and_eq_true] at hsh
  have hn := hsh.1.1.1.1
  unfold Tr.Hd.num at hn
  rw [if_pos h3] at hn
  simp only [Bool.and_eq_true] at hn
  exact hn
/-- The name of a key in a table of kind 3, or why it has none. -/
def Tb.nm3 (ts : List Tr) (key : Tr) : ByteArray × Int := if ts.all Tr.sound = false then (⟨#[]⟩, 2) else if key.hd.k = 3 ∧ Nt.val key.hd.t2 = 0 ∧ Nt.val key.hd.b1 = 1 then (Tx.str (Tx.dec (Tx.rem key.hd.s1 (Nt.val key.hd.t1) 10)), 0) else (⟨#[]⟩, 10)
set_option maxHeartbeats 2000000 in
set_option maxRecDepth 1000000 in
theorem Tb.name3_any (key : Tr) (more : List Tr) (p : Nat) (last mp vk vm : Value) (w : World) (hk : Tr.In w (fun _ => True) key vk) (hm : Tb.More w vm more) (hp : w.heap[p]? = some (.cells #[.int .i64 3, last, mp] 84 (0, 0))) (hT : Tr.Tabs w) :
    Calls Tryz.prog 43 #[.pointer (some ⟨p, 0, none⟩), vk, vm] w fun e w' => e = .returned (.tuple #[.string (Tb.nm3 (more ++ [key]) key).1, .int .i64 (Tb.nm3 (more ++ [key]) key).2]) ∧ Below w.heap.size w w' := by
  obtain ⟨CK, rfl⟩ := hk.agg
  obtain ⟨ao, m, olds, rfl, hnone, hml, hm1, hol, hold, hbl, hin⟩ := hm
  have h11 := hk.size11
  have hone := Tb.one_cells hk
  obtain ⟨he, le, ab3, ab4, ab6, ab7, ab9, ab10, nb3, nb4, nb6, nb7, nb9, nb10, cb3, cb4, cb6, cb7, cb9, cb10, eCb, etk, hbH, hbL⟩ := Tr.In.form2 hk
  obtain ⟨R, hR⟩ : ∃ z, z = Tb.nm3 (more ++ [key]) key := ⟨_, rfl⟩
  rw [← hR]
  have HR := Lib.hid hR
  have HK := Lib.hid hk
  have HHD := Lib.hid hbH
  have HTK := Lib.hid etk
  have HT := Lib.hid hT
  have HIN := Lib.hid hin
  have HML := Lib.hid (And.intro hml hol)
  obtain ⟨i0, hi, hz0, hz1, hz2⟩ := info_parts Tb.infoD
  have hpl : p < w.heap.size := (Array.getElem?_eq_some_iff.1 hp).1
  subst eCb
  unfold Tr.cells at *
  obtain ⟨n0, n1, n2, n3⟩ := Sm.two w (.cells #[.int .i64 he.k, .int .i64 he.n, .bool he.s1, .slice ab3 nb3 cb3, .slice ab4 nb4 cb4, .bool he.s2, .slice ab6 nb6 cb6, .slice ab7 nb7 cb7, .string he.x, .slice ab9 nb9 cb9, .slice ab10 nb10 cb10] 30) (.cells #[.int .i64 he.k, .int .i64 he.n, .bool he.s1, .slice ab3 nb3 cb3, .slice ab4 nb4 cb4, .bool he.s2, .slice ab6 nb6 cb6, .slice ab7 nb7 cb7, .string he.x, .slice ab9 nb9 cb9, .slice ab10 nb10 cb10] 30)
  have hb0 : Below w.heap.size w (w.alloc (.cells #[.int .i64 he.k, .int .i64 he.n, .bool he.s1, .slice ab3 nb3 cb3, .slice ab4 nb4 cb4, .bool he.s2, .slice ab6 nb6 cb6, .slice ab7 nb7 cb7, .string he.x, .slice ab9 nb9 cb9, .slice ab10 nb10 cb10] 30)) := (Below.refl _ _).alloc (Nat.le_refl _) _
  have HB2 := Lib.hid n3
  have HN := Lib.hid (And.intro n0 (And.intro n1 n2))
  have HP := Lib.hid hp
  have hm1n : m + 1 ≤ 2 := by omega
  have holds : ∀ b, ao = some b → ∀ (j : Nat) u, olds[j]? = some u → ((w.alloc (.cells #[.int .i64 he.k, .int .i64 he.n, .bool he.s1, .slice ab3 nb3 cb3, .slice ab4 nb4 cb4, .bool he.s2, .slice ab6 nb6 cb6, .slice ab7 nb7 cb7, .string he.x, .slice ab9 nb9 cb9, .slice ab10 nb10 cb10] 30)).alloc (.cells #[.int .i64 he.k, .int .i64 he.n, .bool he.s1, .slice ab3 nb3 cb3, .slice ab4 nb4 cb4, .bool he.s2, .slice ab6 nb6 cb6, .slice ab7 nb7 cb7, .string he.x, .slice ab9 nb9 cb9, .slice ab10 nb10 cb10] 30)).cell? (b.add j) = some u := fun b hbb j u hu => (n3.cell (p := b.add j) (by
    have : (b.add j).block = b.block := by unfold Addr.add; split <;> rfl
    rw [this]; exact hbl b hbb)).trans (hold b hbb j u hu)
  clear hp hR hk hbH hbL etk hT hin hml hold hbl n0 n1 n2 n3 hb0
  go_enter Tryz.func43, Tryz.ntmps43
  go_wp2_with (at_builtin; refine wpList_append_grows _ rfl _ _ 28 rfl 30 i0 (.agg #[.int .i64 0, .int .i64 0, .bool false, .slice none 0 0, .slice none 0 0, .bool false, .slice none 0 0, .slice none 0 0, .string ⟨#[]⟩, .slice none 0 0, .slice none 0 0]) 11 192 Tryz.underlying28 hi hz0 hz1 hz2 rfl (by decide) ao m m olds rfl hnone hol holds ⟨w.heap.size + 1, 0, none⟩ 1 1 (#[.int .i64 he.k, .int .i64 he.n, .bool he.s1, .slice ab3 nb3 cb3, .slice ab4 nb4 cb4, .bool he.s2, .slice ab6 nb6 cb6, .slice ab7 nb7 cb7, .string he.x, .slice ab9 nb9 cb9, .slice ab10 nb10 cb10] : Array Value).toList rfl rfl (Tb.row_at HN.out.2.1) hone (by omega) (by simp only [maxLen]; omega) (by omega) ?_)
  intro v' w1 hown hg
  have hb1 : Below w.heap.size w w1 := HB2.out.grown hg HB2.out.size (fun k hk => by cases hk)
  have HB1 := Lib.hid hb1
  have hlin := Tb.row_lin hb1 (by rw [← HML.out.1]; exact HML.out.2) HIN.out HK.out (by rw [← HML.out.1]; exact hown)
  have q0 := (hg.block w.heap.size (by have := HN.out.2.2; omega) (by simp)).trans HN.out.1
  have qp := (hb1.block p hpl).trans HP.out
  obtain ⟨TS, hTS⟩ : ∃ z, z = more ++ [key] := ⟨_, rfl⟩
  rw [← hTS] at hlin HR
  obtain ⟨ra, rc, hv, _, _⟩ := Tr.Sl.slice hlin
  obtain ⟨NL, hNL⟩ : ∃ z, z = TS.length := ⟨_, rfl⟩
  rw [← hNL] at hv
  subst hv
  have hNL2 : NL ≤ 2 := by rw [hNL, hTS, List.length_append, ← HML.out.1]; simpa using hm1n
  have HLIN := Lib.hid hlin
  have HNL := Lib.hid hNL
  have HTS := Lib.hid hTS
  have HFR : Hid (∀ w', Below w1.heap.size w1 w' → (w'.heap[w.heap.size]? = some (.cells #[.int .i64 he.k, .int .i64 he.n, .bool he.s1, .slice ab3 nb3 cb3, .slice ab4 nb4 cb4, .bool he.s2, .slice ab6 nb6 cb6, .slice ab7 nb7 cb7, .string he.x, .slice ab9 nb9 cb9, .slice ab10 nb10 cb10] 30 (0, 0)) ∧ w'.heap[p]? = some (.cells #[.int .i64 3, last, mp] 84 (0, 0))) ∧ Below w.heap.size w w') := Lib.hid (fun w' hb => ⟨⟨(hb.block _ (Array.getElem?_eq_some_iff.1 q0).1).trans q0, (hb.block p (Array.getElem?_eq_some_iff.1 qp).1).trans qp⟩, HB1.out.trans (hb.mono HB1.out.size)⟩)
  clear hlin hown hg hb1 q0 qp hTS holds hone hNL hnone hol hm1n
  go_wp2_with fail
  go_loopg [22] NL (fun g i wr => ∃ k : Nat, k + g = NL ∧ i = .int .i64 k ∧ (∀ t ∈ TS.take k, Tr.sound t = true) ∧ Below w1.heap.size w1 wr)
  case atStart => exact ⟨0, by omega, rfl, fun t h => by simp at h, Below.refl _ _⟩
  case round =>
    obtain ⟨k, hkg, rfl, hall, hbw⟩ := hrel
    obtain ⟨wo, hwo⟩ : ∃ z, z = wr := ⟨_, rfl⟩
    subst hwo
    have HALL := Lib.hid hall
    have HBW := Lib.hid hbw
    have HFW := Lib.hid (HFR.out _ hbw)
    clear hall hbw
    by_cases hlt : k < NL
    · obtain ⟨tk, htk⟩ : ∃ t, TS[k]? = some t := ⟨_, List.getElem?_eq_getElem (by rw [← HNL.out]; exact hlt)⟩
      obtain ⟨b2, off2, rfl, hx1, hx2, hx3, hb2lt, hS2, hall2⟩ := Tr.Sl.at HLIN.out (by rw [← HNL.out]; omega)
      clear hx1 hx2 hx3
      obtain ⟨Ck, hIk, hMk⟩ := Tr.All.at _ _ _ hall2 k tk htk
      rw [Nat.mul_comm 11 k] at hMk
      have hMk4 := hMk.kept (S := fun _ => True) (Tr.Kept.all HBW.out (Nat.le_refl _)) trivial hb2lt
      have KS := fun o => Tr.Sound_any tk _ (.agg Ck) (wo.alloc o) (Tr.In.below (Tr.In.below hIk HBW.out (Nat.le_refl _)) ((Below.refl _ _).alloc (Nat.le_refl _) o) (Nat.le_refl _)) (HT.out.below ((HFW.out.2).trans (((Below.refl _ _).alloc (Nat.le_refl _) o).mono HFW.out.2.size)))
      obtain ⟨hf, lf, ar3, ar4, ar6, ar7, ar9, ar10, nr3, nr4, nr6, nr7, nr9, nr10, cr3, cr4, cr6, cr7, cr9, cr10, eCr, ert, hrH, hrL⟩ := Tr.In.form2 hIk
      subst eCr
      unfold Tr.cells at KS hMk4
      obtain ⟨e0, e1, e2, e3, e4, e5, e6, e7, e8, e9, e10⟩ := Tr.Mem.cells hMk4
      have HTK2 := Lib.hid htk
      have hbA : ∀ o, Below w1.heap.size w1 (wo.alloc o) := fun o => HBW.out.alloc HBW.out.size o
      have HBA := Lib.hid hbA
      clear hIk hMk hMk4 hall2 htk ert hrH hrL hb2lt hS2 hbA
      cases hsd : Tr.sound tk
      · rw [hsd] at KS
        have hans : R = (⟨#[]⟩, 2) := by
          rw [HR.out]
          unfold Tb.nm3
          rw [if_pos]
          cases hx : TS.all Tr.sound
          · rfl
          · have := List.all_eq_true.1 hx tk (List.mem_of_getElem? HTK2.out)
            rw [hsd] at this
            exact absurd this (by decide)
        subst hans
        go_wp2_with fail
        refine (KS _).mono ?_
        rintro x w5 ⟨rfl, hb5⟩
        have HB5 := Lib.hid (HFR.out _ ((HBA.out _).trans (hb5.mono (HBA.out _).size))).2
        clear hb5 KS e0 e1 e2 e3 e4 e5 e6 e7 e8 e9 e10
        go_wp2_with fail
        go_ret2
        exact ⟨rfl, HB5.out⟩
      · rw [hsd] at KS
        go_wp2_with fail
        refine (KS _).mono ?_
        rintro x w5 ⟨rfl, hb5⟩
        have HB5 := Lib.hid ((HBA.out _).trans (hb5.mono (HBA.out _).size))
        clear hb5 KS e0 e1 e2 e3 e4 e5 e6 e7 e8 e9 e10
        go_wp2_with fail
        go_roundg (gk - 1)
        case measure => omega
        case rel =>
          refine ⟨k + 1, by omega, by first | rfl | go_num | (simp; try omega), fun t ht => ?_, HB5.out⟩
          rw [List.take_add_one, HTK2.out] at ht
          rcases List.mem_append.1 ht with ht | ht
          · exact HALL.out t ht
          · simp at ht
            subst ht
            exact hsd
    · have hk2 : k = NL := by omega
      subst hk2
      have hallT : TS.all Tr.sound = true := List.all_eq_true.2 (fun t ht => HALL.out t (by rw [HNL.out, List.take_length]; exact ht))
      have HSND := Lib.hid hallT
      obtain ⟨⟨qb, qp⟩, hbw⟩ := HFW.out
      have p0 : wo.cell? ⟨p, 0, none⟩ = some (.int .i64 3) := Rt.cell_of qp 0
      obtain ⟨e0, e1, e2, e3, e4, e5, e6, e7, e8, e9, e10⟩ := Dt.cells11 qb
      have HBN := Lib.hid hbw
      clear hallT qb qp hbw
      have hsk : Tr.sound key = true := List.all_eq_true.1 HSND.out key (by rw [HTS.out]; simp)
      have hnm : ∀ (h3 : he.k = 3) (h4 : Nt.val he.t2 = 0) (h5 : Nt.val he.b1 = 1), R = (Tx.str (Tx.dec (Tx.rem he.s1 (Nt.val he.t1) 10)), 0) := fun h3 h4 h5 => by
        rw [HR.out]; unfold Tb.nm3
        rw [if_neg (by rw [HSND.out]; decide), HTK.out]
        rw [if_pos (by exact ⟨h3, h4, h5⟩)]
        rfl
      have hno : ∀ (hn : ¬ (he.k = 3 ∧ Nt.val he.t2 = 0 ∧ Nt.val he.b1 = 1)), R = (⟨#[]⟩, 10) := fun hn => by
        rw [HR.out]; unfold Tb.nm3
        rw [if_neg (by rw [HSND.out]; decide), HTK.out]
        rw [if_neg (by exact hn)]
      by_cases h3 : he.k = 3
      · have h32 : (he.k != 3) = false := by rw [h3]; rfl
        rw [HTK.out] at hsk
        obtain ⟨g1, g2⟩ := Tb.num_of hsk h3
        obtain ⟨et1, eb1, sn1⟩ := Rt.Snd.of HHD.out.ok.w1 HHD.out.ok.w2 g1
        obtain ⟨et2, eb2, sn2⟩ := Rt.Snd.of HHD.out.ok.w3 HHD.out.ok.w4 g2
        have hQ : ∀ w', Below w.heap.size w w' → Rt.Q w' (.agg #[.bool he.s1, .slice ab3 nb3 cb3, .slice ab4 nb4 cb4, .bool he.s2, .slice ab6 nb6 cb6, .slice ab7 nb7 cb7]) he.s1 (Nt.val he.t1) (Nt.val he.b1) he.s2 (Nt.val he.t2) (Nt.val he.b2) := fun w' hb => ⟨_, _, _, _, rfl, by unfold Nt.N; rw [← et1]; exact HHD.out.i3.below hb (Nat.le_refl _), by unfold Nt.N; rw [← eb1]; exact HHD.out.i4.below hb (Nat.le_refl _), by unfold Nt.N; rw [← et2]; exact HHD.out.i6.below hb (Nat.le_refl _), by unfold Nt.N; rw [← eb2]; exact HHD.out.i7.below hb (Nat.le_refl _)⟩
        have HQ := Lib.hid hQ
        have HSN := Lib.hid (And.intro sn1 sn2)
        have KW := Tx.Whole_snd _ _ _ _ _ _ _ wo (hQ _ HBN.out) (Rt.SoundAt.of_Q (hQ _ HBN.out) sn1 sn2) sn1.pos
        have HNM := Lib.hid (And.intro hnm hno)
        have HH3 := Lib.hid h3
        clear hsk g1 g2 et1 eb1 sn1 et2 eb2 sn2 hQ hnm hno h3
        obtain ⟨WB, hWB⟩ : ∃ z, z = (decide (Nt.val he.t2 = 0) && decide (Nt.val he.b1 = 1)) := ⟨_, rfl⟩
        rw [← hWB] at KW
        have HWB := Lib.hid hWB
        clear hWB
        cases WB
        · have hans : R = (⟨#[]⟩, 10) := HNM.out.2 (fun hn => by
            have := HWB.out
            rw [decide_eq_true hn.2.1, decide_eq_true hn.2.2] at this
            exact absurd this (by decide))
          subst hans
          go_wp2_with fail
          refine KW.mono ?_
          rintro x w6 ⟨rfl, hb6⟩
          have HB6 := Lib.hid (HBN.out.trans (hb6.mono HBN.out.size))
          clear hb6 KW e0 e1 e2 e3 e4 e5 e6 e7 e8 e9 e10
          go_wp2_with fail
          go_ret2
          exact ⟨rfl, HB6.out⟩
        · have hv : Nt.val he.t2 = 0 ∧ Nt.val he.b1 = 1 := by
            have := HWB.out
            have h2 := (Bool.and_eq_true _ _).mp this.symm
            exact ⟨of_decide_eq_true h2.1, of_decide_eq_true h2.2⟩
          have hans := HNM.out.1 HH3.out hv.1 hv.2
          subst hans
          have HV := Lib.hid hv
          clear hv
          go_wp2_with fail
          refine KW.mono ?_
          rintro x w6 ⟨rfl, hb6⟩
          have HBO := Lib.hid hb6
          have HB6 := Lib.hid (HBN.out.trans (hb6.mono HBN.out.size))
          clear hb6 KW e0 e1 e2 e3 e4 e5 e6 e7 e8 e9 e10
          have HB16 := Lib.hid (HBW.out.trans (HBO.out.mono HBW.out.size))
          have HS : Hid (∀ w' : World, (∀ q, q < w6.heap.size → w'.heap[q]? = w6.heap[q]?) → (w'.cell? ⟨w.heap.size, 2, none⟩ = some (.bool he.s1) ∧ w'.cell? ⟨w.heap.size, 3, none⟩ = some (.slice ab3 nb3 cb3) ∧ w'.cell? ⟨w.heap.size, 4, none⟩ = some (.slice ab4 nb4 cb4) ∧ w'.cell? ⟨w.heap.size, 5, none⟩ = some (.bool he.s2) ∧ w'.cell? ⟨w.heap.size, 6, none⟩ = some (.slice ab6 nb6 cb6) ∧ w'.cell? ⟨w.heap.size, 7, none⟩ = some (.slice ab7 nb7 cb7))) := Lib.hid (fun w' hb => by
            have q6 := (HFR.out w6 HB16.out).1.1
            obtain ⟨_, _, k2, k3, k4, k5, k6, k7, _⟩ := Dt.cells11 ((hb w.heap.size (Array.getElem?_eq_some_iff.1 q6).1).trans q6)
            exact ⟨k2, k3, k4, k5, k6, k7⟩)
          have KD : Hid (∀ (w' : World) (u : Value), Below w6.heap.size w6 w' → Rt.Q w' u false 10 1 false 0 1 → Calls Tryz.prog 77 #[.agg #[.bool he.s1, .slice ab3 nb3 cb3, .slice ab4 nb4 cb4, .bool he.s2, .slice ab6 nb6 cb6, .slice ab7 nb7 cb7], u] w' fun e w'' => ∃ q r sq, e = .returned (.tuple #[q, r, .int .i64 0]) ∧ Rt.Q w'' q sq (Tx.quo he.s1 (Nt.val he.t1) 10) 1 false 0 1 ∧ Rt.Q w'' r false (Tx.rem he.s1 (Nt.val he.t1) 10) 1 false 0 1 ∧ Below w'.heap.size w' w'') := Lib.hid (fun w' u hb hu => by
            have hq := HQ.out w' (HB6.out.trans (hb.mono HB6.out.size))
            have hs := HSN.out
            rw [HV.out.1, HV.out.2] at hq hs
            exact Tx.DivMod_whole _ _ _ _ _ _ _ _ _ w' hq hu (Rt.SoundAt.of_Q hq hs.1 hs.2) (Rt.SoundAt.of_Q hu (Rt.Snd.int (by decide) (fun h => by cases h)) Rt.Snd.nought) (by decide) (by decide) hs.1.sgn hs.1.l1)
          have KT : Hid (∀ (w' : World) (u : Value), Rt.Q w' u false (Tx.rem he.s1 (Nt.val he.t1) 10) 1 false 0 1 ∧ Below w.heap.size w w' → Calls Tryz.prog 78 #[u, .int .i64 10] w' fun e w'' => e = .returned (.tuple #[.string (Tx.str (Tx.dec (Tx.rem he.s1 (Nt.val he.t1) 10))), .int .i64 0]) ∧ Below w.heap.size w w'') := Lib.hid (fun w' u hu => by
            have hlt := Tx.rem_lt (s := he.s1) (t := Nt.val he.t1) (by decide : 0 < 10)
            refine (Tx.Text_real _ _ _ _ _ u w' hu.1 (Rt.SoundAt.of_Q hu.1 (Rt.Snd.int (by omega) (fun _ => rfl)) Rt.Snd.nought) (by decide) ⟨Nat.le_trans (Nt.dig_len_le (by omega)) (by decide), Nat.le_trans (Nt.dig_len_le (by decide)) (by decide)⟩).mono ?_
            rintro e w'' ⟨rfl, hb⟩
            refine ⟨?_, hu.2.trans (hb.mono hu.2.size)⟩
            unfold Tx.rat
            simp)
          have KI := fun w' => Rt.Int_any 10 w' (by decide) (by decide)
          rw [show decide ((10 : Int) < 0) = false from rfl, show (10 : Int).natAbs = 10 from rfl] at KI
          have KI2 := Lib.hid KI
          clear KI
          go_upto_region 17 with fail
          have hacc : Below w6.heap.size w6 w6.drew := (Below.refl _ _).drew
          have haccA : ∀ o, Below w6.heap.size w6 (w6.alloc o).drew := fun o => ((Below.refl _ _).alloc (Nat.le_refl _) o).drew
          have haccB : ∀ o o2, Below w6.heap.size w6 ((w6.alloc o).alloc o2).drew := fun o o2 => (((Below.refl _ _).alloc (Nat.le_refl _) o).alloc (by simp) o2).drew
          have hkeep := HS.out _ hacc.block
          have hkeepA := fun o => HS.out _ (haccA o).block
          have hkeepB := fun o o2 => HS.out _ (haccB o o2).block
          go_region_held3 (fun w' => (w'.cell? ⟨w.heap.size, 2, none⟩ = some (.bool he.s1) ∧ w'.cell? ⟨w.heap.size, 3, none⟩ = some (.slice ab3 nb3 cb3) ∧ w'.cell? ⟨w.heap.size, 4, none⟩ = some (.slice ab4 nb4 cb4) ∧ w'.cell? ⟨w.heap.size, 5, none⟩ = some (.bool he.s2) ∧ w'.cell? ⟨w.heap.size, 6, none⟩ = some (.slice ab6 nb6 cb6) ∧ w'.cell? ⟨w.heap.size, 7, none⟩ = some (.slice ab7 nb7 cb7)))
            (first | exact hkeep | exact hkeepA _ | exact hkeepB _ _ | exact hkeepW | exact hkeepX | exact pK5 | exact pK11 | exact lK5 | exact lK11)
            (first
            | (go_at_call 19
               refine (KI2.out _).mono ?_
               rintro x y1 ⟨u1, rfl, hu1, hby⟩
               first
               | (have hB := (hby.block (w6.heap.size + 1) (by simp)).trans (Sm.two w6 (.cells #[.bool false, .slice none 0 0, .slice none 0 0, .bool false, .slice none 0 0, .slice none 0 0] 26) (.cells #[.bool false, .slice none 0 0, .slice none 0 0, .bool false, .slice none 0 0, .slice none 0 0] 26)).2.1
                  have hA := (hby.block w6.heap.size (by simp <;> omega)).trans (Sm.two w6 (.cells #[.bool false, .slice none 0 0, .slice none 0 0, .bool false, .slice none 0 0, .slice none 0 0] 26) (.cells #[.bool false, .slice none 0 0, .slice none 0 0, .bool false, .slice none 0 0, .slice none 0 0] 26)).1
                  have HNE : Hid (w6.heap.size ≠ w6.heap.size + 1 ∧ w6.heap.size ≤ w6.heap.size ∧ w6.heap.size ≤ w6.heap.size + 1) := Lib.hid ⟨by omega, Nat.le_refl _, by omega⟩)
               | (have hA := (hby.block w6.heap.size (by simp)).trans (heap_alloc_new w6 (.cells #[.bool false, .slice none 0 0, .slice none 0 0, .bool false, .slice none 0 0, .slice none 0 0] 26))
                  have HGA : Hid (w6.heap.size ≤ w6.heap.size) := Lib.hid (Nat.le_refl _))
               | skip
               have hacc : Below w6.heap.size w6 y1 := by first | exact hacc.trans (hby.mono hacc.size) | exact (haccA _).trans (hby.mono (haccA _).size) | exact (haccB _ _).trans (hby.mono (haccB _ _).size)
               have haccA : ∀ o, Below w6.heap.size w6 (y1.alloc o) := fun o => hacc.alloc hacc.size o
               have haccB : ∀ o o2, Below w6.heap.size w6 ((y1.alloc o).alloc o2) := fun o o2 => (hacc.alloc hacc.size o).alloc (haccA o).size o2
               clear hby
               have hkeep := HS.out _ hacc.block
               have hkeepA := fun o => HS.out _ (haccA o).block
               have hkeepB := fun o o2 => HS.out _ (haccB o o2).block)
            | (go_at_call 77
               refine (KD.out _ _ (by first | exact hacc | exact haccA _ | exact haccB _ _) (by first | exact hu1 | exact Rt.Q.below hu1 ((Below.refl _ _).alloc (Nat.le_refl _) _) (Nat.le_refl _) | exact Rt.Q.below hu1 (((Below.refl _ _).alloc (Nat.le_refl _) _).alloc (by simp) _) (Nat.le_refl _))).mono ?_
               rintro x y2 ⟨q, r, sq, rfl, ⟨tv1, bv1, tv2, bv2, rfl, i1, i2, i3, i4⟩, ⟨tv3, bv3, tv4, bv4, rfl, i5, i6, i7, i8⟩, hby⟩
               obtain ⟨S1, x1, z1, rfl, hS1⟩ := Tx.N_slice i1
               obtain ⟨S2, x2, z2, rfl, hS2⟩ := Tx.N_slice i2
               obtain ⟨S3, x3, z3, rfl, hS3⟩ := Tx.N_slice i3
               obtain ⟨S4, x4, z4, rfl, hS4⟩ := Tx.N_slice i4
               obtain ⟨S5, x5, z5, rfl, hS5⟩ := Tx.N_slice i5
               obtain ⟨S6, x6, z6, rfl, hS6⟩ := Tx.N_slice i6
               obtain ⟨S7, x7, z7, rfl, hS7⟩ := Tx.N_slice i7
               obtain ⟨S8, x8, z8, rfl, hS8⟩ := Tx.N_slice i8
               clear hS1 hS2 hS3 hS4 hS5 hS6 hS7 hS8
               have hy1 : w6.heap.size ≤ y1.heap.size := hacc.size
               first
               | (have hB := (hby.block _ (Array.getElem?_eq_some_iff.1 hB).1).trans hB
                  have hA := (hby.block _ (Array.getElem?_eq_some_iff.1 hA).1).trans hA)
               | (have hB := (hby.block y1.heap.size (by simp)).trans (heap_alloc_new y1 (.cells #[.bool false, .slice none 0 0, .slice none 0 0, .bool false, .slice none 0 0, .slice none 0 0] 26))
                  have HNE : Hid (_ ≠ y1.heap.size ∧ w6.heap.size ≤ _ ∧ w6.heap.size ≤ y1.heap.size) := Lib.hid ⟨Nat.ne_of_lt (Array.getElem?_eq_some_iff.1 hA).1, HGA.out, hy1⟩
                  have hA := (hby.block _ (Nat.lt_of_lt_of_le (Array.getElem?_eq_some_iff.1 hA).1 (by simp))).trans ((Lib.alloc_old y1 (.cells #[.bool false, .slice none 0 0, .slice none 0 0, .bool false, .slice none 0 0, .slice none 0 0] 26) _ (Array.getElem?_eq_some_iff.1 hA).1).trans hA))
               | (have hA := (hby.block _ (Array.getElem?_eq_some_iff.1 hA).1).trans hA)
               | (have hB := (hby.block (y1.heap.size + 1) (by simp)).trans (Sm.two y1 (.cells #[.bool false, .slice none 0 0, .slice none 0 0, .bool false, .slice none 0 0, .slice none 0 0] 26) (.cells #[.bool false, .slice none 0 0, .slice none 0 0, .bool false, .slice none 0 0, .slice none 0 0] 26)).2.1
                  have hA := (hby.block y1.heap.size (by simp <;> omega)).trans (Sm.two y1 (.cells #[.bool false, .slice none 0 0, .slice none 0 0, .bool false, .slice none 0 0, .slice none 0 0] 26) (.cells #[.bool false, .slice none 0 0, .slice none 0 0, .bool false, .slice none 0 0, .slice none 0 0] 26)).1
                  have HNE : Hid (y1.heap.size ≠ y1.heap.size + 1 ∧ w6.heap.size ≤ y1.heap.size ∧ w6.heap.size ≤ y1.heap.size + 1) := Lib.hid ⟨by omega, hy1, by omega⟩)
               | (have hA := (hby.block y1.heap.size (by simp)).trans (heap_alloc_new y1 (.cells #[.bool false, .slice none 0 0, .slice none 0 0, .bool false, .slice none 0 0, .slice none 0 0] 26))
                  have HGA : Hid (w6.heap.size ≤ y1.heap.size) := Lib.hid hy1)
               | skip
               have hacc : Below w6.heap.size w6 y2 := by first | exact hacc.trans (hby.mono hacc.size) | exact (haccA _).trans (hby.mono (haccA _).size) | exact (haccB _ _).trans (hby.mono (haccB _ _).size)
               have haccA : ∀ o, Below w6.heap.size w6 (y2.alloc o) := fun o => hacc.alloc hacc.size o
               have haccB : ∀ o o2, Below w6.heap.size w6 ((y2.alloc o).alloc o2) := fun o o2 => (hacc.alloc hacc.size o).alloc (haccA o).size o2
               clear hby
               have hkeep := HS.out _ hacc.block
               have hkeepA := fun o => HS.out _ (haccA o).block
               have hkeepB := fun o o2 => HS.out _ (haccB o o2).block
               first
               | (have hPK := Tb.pack2 hA hB HNE.out.1 (.bool sq) (.slice x1 S1 z1) (.slice x2 S2 z2) (.bool false) (.slice x3 S3 z3) (.slice x4 S4 z4) (.bool false) (.slice x5 S5 z5) (.slice x6 S6 z6) (.bool false) (.slice x7 S7 z7) (.slice x8 S8 z8)
                  obtain ⟨pW0, pW1, pW2, pW3, pW4, pW5, pW6, pW7, pW8, pW9, pW10, pW11, ⟨p0, pz0, ps0⟩, ⟨p1, pz1, ps1⟩, ⟨p2, pz2, ps2⟩, ⟨p3, pz3, ps3⟩, ⟨p4, pz4, ps4⟩, ⟨p5, pz5, ps5⟩, ⟨p6, pz6, ps6⟩, ⟨p7, pz7, ps7⟩, ⟨p8, pz8, ps8⟩, ⟨p9, pz9, ps9⟩, ⟨p10, pz10, ps10⟩, ⟨p11, pz11, ps11⟩, ⟨pr0, pr1, pr2, pr3, pr4, pr5⟩, ⟨pt0, pt1, pt2, pt3, pt4, pt5⟩, pH⟩ := hPK
                  have pG : Hid (Rt.Q pW11 (.agg #[.bool false, .slice x5 S5 z5, .slice x6 S6 z6, .bool false, .slice x7 S7 z7, .slice x8 S8 z8]) false (Tx.rem he.s1 (Nt.val he.t1) 10) 1 false 0 1 ∧ Below w.heap.size w pW11) := Lib.hid ⟨⟨_, _, _, _, rfl, pH.out.1 _ _ i5, pH.out.1 _ _ i6, pH.out.1 _ _ i7, pH.out.1 _ _ i8⟩, HB6.out.trans ((pH.out.2.1 w6.heap.size w6 hacc HNE.out.2.1 HNE.out.2.2).mono HB6.out.size)⟩
                  have pK5 := HS.out pW5 (fun q hq => (pH.out.2.2.1 q (by have := HNE.out.2.1; omega)).trans (hacc.block q hq))
                  have pK11 := HS.out pW11 (fun q hq => (pH.out.2.2.2 q (by have := HNE.out.2.1; omega) (by have := HNE.out.2.2; omega)).trans (hacc.block q hq))
                  have hPL := Tb.pack2 hB hA (Ne.symm HNE.out.1) (.bool sq) (.slice x1 S1 z1) (.slice x2 S2 z2) (.bool false) (.slice x3 S3 z3) (.slice x4 S4 z4) (.bool false) (.slice x5 S5 z5) (.slice x6 S6 z6) (.bool false) (.slice x7 S7 z7) (.slice x8 S8 z8)
                  obtain ⟨lW0, lW1, lW2, lW3, lW4, lW5, lW6, lW7, lW8, lW9, lW10, lW11, ⟨l0, lz0, ls0⟩, ⟨l1, lz1, ls1⟩, ⟨l2, lz2, ls2⟩, ⟨l3, lz3, ls3⟩, ⟨l4, lz4, ls4⟩, ⟨l5, lz5, ls5⟩, ⟨l6, lz6, ls6⟩, ⟨l7, lz7, ls7⟩, ⟨l8, lz8, ls8⟩, ⟨l9, lz9, ls9⟩, ⟨l10, lz10, ls10⟩, ⟨l11, lz11, ls11⟩, ⟨lr0, lr1, lr2, lr3, lr4, lr5⟩, ⟨lt0, lt1, lt2, lt3, lt4, lt5⟩, lH⟩ := hPL
                  have lG : Hid (Rt.Q lW11 (.agg #[.bool false, .slice x5 S5 z5, .slice x6 S6 z6, .bool false, .slice x7 S7 z7, .slice x8 S8 z8]) false (Tx.rem he.s1 (Nt.val he.t1) 10) 1 false 0 1 ∧ Below w.heap.size w lW11) := Lib.hid ⟨⟨_, _, _, _, rfl, lH.out.1 _ _ i5, lH.out.1 _ _ i6, lH.out.1 _ _ i7, lH.out.1 _ _ i8⟩, HB6.out.trans ((lH.out.2.1 w6.heap.size w6 hacc HNE.out.2.2 HNE.out.2.1).mono HB6.out.size)⟩
                  have lK5 := HS.out lW5 (fun q hq => (lH.out.2.2.1 q (by have := HNE.out.2.2; omega)).trans (hacc.block q hq))
                  have lK11 := HS.out lW11 (fun q hq => (lH.out.2.2.2 q (by have := HNE.out.2.2; omega) (by have := HNE.out.2.1; omega)).trans (hacc.block q hq)))
               | (obtain ⟨Wa, hWa⟩ : ∃ z, y2.alloc (.cells #[.bool false, .slice none 0 0, .slice none 0 0, .bool false, .slice none 0 0, .slice none 0 0] 26) = z := ⟨_, rfl⟩
                  have hqn : Wa.heap[y2.heap.size]? = some (.cells #[.bool false, .slice none 0 0, .slice none 0 0, .bool false, .slice none 0 0, .slice none 0 0] 26 (0, 0)) := by rw [← hWa]; exact heap_alloc_new y2 _
                  have hqo := (show Wa.heap[_]? = _ by rw [← hWa]; exact (Lib.alloc_old y2 _ _ (Array.getElem?_eq_some_iff.1 hA).1)).trans hA
                  have hab : Below y2.heap.size y2 Wa := by rw [← hWa]; exact (Below.refl _ _).alloc (Nat.le_refl _) _
                  have hneA := Nat.ne_of_lt (Array.getElem?_eq_some_iff.1 hA).1
                  have hkeepW := HS.out Wa (hacc.trans (hab.mono hacc.size)).block
                  have hPK := Tb.pack2 hqo hqn hneA (.bool sq) (.slice x1 S1 z1) (.slice x2 S2 z2) (.bool false) (.slice x3 S3 z3) (.slice x4 S4 z4) (.bool false) (.slice x5 S5 z5) (.slice x6 S6 z6) (.bool false) (.slice x7 S7 z7) (.slice x8 S8 z8)
                  obtain ⟨pW0, pW1, pW2, pW3, pW4, pW5, pW6, pW7, pW8, pW9, pW10, pW11, ⟨p0, pz0, ps0⟩, ⟨p1, pz1, ps1⟩, ⟨p2, pz2, ps2⟩, ⟨p3, pz3, ps3⟩, ⟨p4, pz4, ps4⟩, ⟨p5, pz5, ps5⟩, ⟨p6, pz6, ps6⟩, ⟨p7, pz7, ps7⟩, ⟨p8, pz8, ps8⟩, ⟨p9, pz9, ps9⟩, ⟨p10, pz10, ps10⟩, ⟨p11, pz11, ps11⟩, ⟨pr0, pr1, pr2, pr3, pr4, pr5⟩, ⟨pt0, pt1, pt2, pt3, pt4, pt5⟩, pH⟩ := hPK
                  have pG : Hid (Rt.Q pW11 (.agg #[.bool false, .slice x5 S5 z5, .slice x6 S6 z6, .bool false, .slice x7 S7 z7, .slice x8 S8 z8]) false (Tx.rem he.s1 (Nt.val he.t1) 10) 1 false 0 1 ∧ Below w.heap.size w pW11) := Lib.hid ⟨⟨_, _, _, _, rfl, pH.out.1 _ _ (Nt.In.below i5 hab (Nat.le_refl _)), pH.out.1 _ _ (Nt.In.below i6 hab (Nat.le_refl _)), pH.out.1 _ _ (Nt.In.below i7 hab (Nat.le_refl _)), pH.out.1 _ _ (Nt.In.below i8 hab (Nat.le_refl _))⟩, HB6.out.trans ((pH.out.2.1 w6.heap.size w6 (hacc.trans (hab.mono hacc.size)) HGA.out hacc.size).mono HB6.out.size)⟩
                  have pK5 := HS.out pW5 (fun q hq => (pH.out.2.2.1 q (by have := HGA.out; omega)).trans ((hacc.trans (hab.mono hacc.size)).block q hq))
                  have pK11 := HS.out pW11 (fun q hq => (pH.out.2.2.2 q (by have := HGA.out; omega) (by have := hacc.size; omega)).trans ((hacc.trans (hab.mono hacc.size)).block q hq))
                  have hPL := Tb.pack2 hqn hqo (Ne.symm hneA) (.bool sq) (.slice x1 S1 z1) (.slice x2 S2 z2) (.bool false) (.slice x3 S3 z3) (.slice x4 S4 z4) (.bool false) (.slice x5 S5 z5) (.slice x6 S6 z6) (.bool false) (.slice x7 S7 z7) (.slice x8 S8 z8)
                  obtain ⟨lW0, lW1, lW2, lW3, lW4, lW5, lW6, lW7, lW8, lW9, lW10, lW11, ⟨l0, lz0, ls0⟩, ⟨l1, lz1, ls1⟩, ⟨l2, lz2, ls2⟩, ⟨l3, lz3, ls3⟩, ⟨l4, lz4, ls4⟩, ⟨l5, lz5, ls5⟩, ⟨l6, lz6, ls6⟩, ⟨l7, lz7, ls7⟩, ⟨l8, lz8, ls8⟩, ⟨l9, lz9, ls9⟩, ⟨l10, lz10, ls10⟩, ⟨l11, lz11, ls11⟩, ⟨lr0, lr1, lr2, lr3, lr4, lr5⟩, ⟨lt0, lt1, lt2, lt3, lt4, lt5⟩, lH⟩ := hPL
                  have lG : Hid (Rt.Q lW11 (.agg #[.bool false, .slice x5 S5 z5, .slice x6 S6 z6, .bool false, .slice x7 S7 z7, .slice x8 S8 z8]) false (Tx.rem he.s1 (Nt.val he.t1) 10) 1 false 0 1 ∧ Below w.heap.size w lW11) := Lib.hid ⟨⟨_, _, _, _, rfl, lH.out.1 _ _ (Nt.In.below i5 hab (Nat.le_refl _)), lH.out.1 _ _ (Nt.In.below i6 hab (Nat.le_refl _)), lH.out.1 _ _ (Nt.In.below i7 hab (Nat.le_refl _)), lH.out.1 _ _ (Nt.In.below i8 hab (Nat.le_refl _))⟩, HB6.out.trans ((lH.out.2.1 w6.heap.size w6 (hacc.trans (hab.mono hacc.size)) hacc.size HGA.out).mono HB6.out.size)⟩
                  have lK5 := HS.out lW5 (fun q hq => (lH.out.2.2.1 q (by have := hacc.size; omega)).trans ((hacc.trans (hab.mono hacc.size)).block q hq))
                  have lK11 := HS.out lW11 (fun q hq => (lH.out.2.2.2 q (by have := hacc.size; omega) (by have := HGA.out; omega)).trans ((hacc.trans (hab.mono hacc.size)).block q hq)))
               | (obtain ⟨Wa, hWa⟩ : ∃ z, y2.alloc (.cells #[.bool false, .slice none 0 0, .slice none 0 0, .bool false, .slice none 0 0, .slice none 0 0] 26) = z := ⟨_, rfl⟩
                  obtain ⟨Wb, hWb⟩ : ∃ z, Wa.alloc (.cells #[.bool false, .slice none 0 0, .slice none 0 0, .bool false, .slice none 0 0, .slice none 0 0] 26) = z := ⟨_, rfl⟩
                  have hwas : Wa.heap.size = y2.heap.size + 1 := by rw [← hWa]; simp
                  have hq2' := Sm.two y2 (.cells #[.bool false, .slice none 0 0, .slice none 0 0, .bool false, .slice none 0 0, .slice none 0 0] 26) (.cells #[.bool false, .slice none 0 0, .slice none 0 0, .bool false, .slice none 0 0, .slice none 0 0] 26)
                  rw [hWa, hWb] at hq2'
                  have hneA : y2.heap.size ≠ y2.heap.size + 1 := by omega
                  have hab : Below y2.heap.size y2 Wa := by rw [← hWa]; exact (Below.refl _ _).alloc (Nat.le_refl _) _
                  have hkeepW := HS.out Wa (hacc.trans (hab.mono hacc.size)).block
                  have hkeepX := HS.out Wb (hacc.trans (hq2'.2.2.2.mono hacc.size)).block
                  have hPK := Tb.pack2 hq2'.1 hq2'.2.1 hneA (.bool sq) (.slice x1 S1 z1) (.slice x2 S2 z2) (.bool false) (.slice x3 S3 z3) (.slice x4 S4 z4) (.bool false) (.slice x5 S5 z5) (.slice x6 S6 z6) (.bool false) (.slice x7 S7 z7) (.slice x8 S8 z8)
                  obtain ⟨pW0, pW1, pW2, pW3, pW4, pW5, pW6, pW7, pW8, pW9, pW10, pW11, ⟨p0, pz0, ps0⟩, ⟨p1, pz1, ps1⟩, ⟨p2, pz2, ps2⟩, ⟨p3, pz3, ps3⟩, ⟨p4, pz4, ps4⟩, ⟨p5, pz5, ps5⟩, ⟨p6, pz6, ps6⟩, ⟨p7, pz7, ps7⟩, ⟨p8, pz8, ps8⟩, ⟨p9, pz9, ps9⟩, ⟨p10, pz10, ps10⟩, ⟨p11, pz11, ps11⟩, ⟨pr0, pr1, pr2, pr3, pr4, pr5⟩, ⟨pt0, pt1, pt2, pt3, pt4, pt5⟩, pH⟩ := hPK
                  have pG : Hid (Rt.Q pW11 (.agg #[.bool false, .slice x5 S5 z5, .slice x6 S6 z6, .bool false, .slice x7 S7 z7, .slice x8 S8 z8]) false (Tx.rem he.s1 (Nt.val he.t1) 10) 1 false 0 1 ∧ Below w.heap.size w pW11) := Lib.hid ⟨⟨_, _, _, _, rfl, pH.out.1 _ _ (Nt.In.below i5 hq2'.2.2.2 (Nat.le_refl _)), pH.out.1 _ _ (Nt.In.below i6 hq2'.2.2.2 (Nat.le_refl _)), pH.out.1 _ _ (Nt.In.below i7 hq2'.2.2.2 (Nat.le_refl _)), pH.out.1 _ _ (Nt.In.below i8 hq2'.2.2.2 (Nat.le_refl _))⟩, HB6.out.trans ((pH.out.2.1 w6.heap.size w6 (hacc.trans (hq2'.2.2.2.mono hacc.size)) hacc.size (Nat.le_succ_of_le hacc.size)).mono HB6.out.size)⟩
                  have pK5 := HS.out pW5 (fun q hq => (pH.out.2.2.1 q (by have := hacc.size; omega)).trans ((hacc.trans (hq2'.2.2.2.mono hacc.size)).block q hq))
                  have pK11 := HS.out pW11 (fun q hq => (pH.out.2.2.2 q (by have := hacc.size; omega) (by have := (Nat.le_succ_of_le hacc.size); omega)).trans ((hacc.trans (hq2'.2.2.2.mono hacc.size)).block q hq))
                  have hPL := Tb.pack2 hq2'.2.1 hq2'.1 (Ne.symm hneA) (.bool sq) (.slice x1 S1 z1) (.slice x2 S2 z2) (.bool false) (.slice x3 S3 z3) (.slice x4 S4 z4) (.bool false) (.slice x5 S5 z5) (.slice x6 S6 z6) (.bool false) (.slice x7 S7 z7) (.slice x8 S8 z8)
                  obtain ⟨lW0, lW1, lW2, lW3, lW4, lW5, lW6, lW7, lW8, lW9, lW10, lW11, ⟨l0, lz0, ls0⟩, ⟨l1, lz1, ls1⟩, ⟨l2, lz2, ls2⟩, ⟨l3, lz3, ls3⟩, ⟨l4, lz4, ls4⟩, ⟨l5, lz5, ls5⟩, ⟨l6, lz6, ls6⟩, ⟨l7, lz7, ls7⟩, ⟨l8, lz8, ls8⟩, ⟨l9, lz9, ls9⟩, ⟨l10, lz10, ls10⟩, ⟨l11, lz11, ls11⟩, ⟨lr0, lr1, lr2, lr3, lr4, lr5⟩, ⟨lt0, lt1, lt2, lt3, lt4, lt5⟩, lH⟩ := hPL
                  have lG : Hid (Rt.Q lW11 (.agg #[.bool false, .slice x5 S5 z5, .slice x6 S6 z6, .bool false, .slice x7 S7 z7, .slice x8 S8 z8]) false (Tx.rem he.s1 (Nt.val he.t1) 10) 1 false 0 1 ∧ Below w.heap.size w lW11) := Lib.hid ⟨⟨_, _, _, _, rfl, lH.out.1 _ _ (Nt.In.below i5 hq2'.2.2.2 (Nat.le_refl _)), lH.out.1 _ _ (Nt.In.below i6 hq2'.2.2.2 (Nat.le_refl _)), lH.out.1 _ _ (Nt.In.below i7 hq2'.2.2.2 (Nat.le_refl _)), lH.out.1 _ _ (Nt.In.below i8 hq2'.2.2.2 (Nat.le_refl _))⟩, HB6.out.trans ((lH.out.2.1 w6.heap.size w6 (hacc.trans (hq2'.2.2.2.mono hacc.size)) (Nat.le_succ_of_le hacc.size) hacc.size).mono HB6.out.size)⟩
                  have lK5 := HS.out lW5 (fun q hq => (lH.out.2.2.1 q (by have := (Nat.le_succ_of_le hacc.size); omega)).trans ((hacc.trans (hq2'.2.2.2.mono hacc.size)).block q hq))
                  have lK11 := HS.out lW11 (fun q hq => (lH.out.2.2.2 q (by have := (Nat.le_succ_of_le hacc.size); omega) (by have := hacc.size; omega)).trans ((hacc.trans (hq2'.2.2.2.mono hacc.size)).block q hq)))
               clear i1 i2 i3 i4 i5 i6 i7 i8))
          all_goals
            clear hkeep hkeepA hkeepB hacc haccA haccB
            go_wp2_with fail
            first
            | (with_reducible refine (KT.out _ _ pG.out).mono ?_)
            | (with_reducible refine (KT.out _ _ lG.out).mono ?_)
            rintro x w9 ⟨rfl, hb9⟩
            have HB9 := Lib.hid hb9
            clear hb9
            go_wp2_with fail
            go_ret2
            exact ⟨rfl, HB9.out⟩
      · have hans := hno (fun hn => h3 hn.1)
        subst hans
        have h32 : (he.k != 3) = true := by simpa using h3
        clear hnm hno hsk
        go_wp2_with fail
        go_ret2
        exact ⟨rfl, HBN.out⟩
end Go.Proofs.YtikmebkfdpbidaaGreatDoor
