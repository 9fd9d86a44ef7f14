/-
  PROVED HERE: PortsLinesCardSaid: whatever the text, the call of sextantlaw20.PortsLines returns true, and the argument reads as it did. Conditions: none of ours; package utf8's two tables hold what their initialisers lay (tied by the card).
-/
import Derived.Test.YtdpbpkggbgfkgaaDoorCards
import Derived.Test.YtdpbpkggbgfkgaaDoorTie
import Derived.WalkKit
import Derived.ProofKit
import Derived.OpenShut
import Derived.ShutString
import Derived.JoinedCond
import Derived.Lib.Hide
import Derived.Deep.DeepHandedRow
import Derived.PinnedBridge
import Derived.Lib.LaidU8T
import Derived.Lay
import Derived.LaidOnce
import Derived.SevenTiedAt
import Derived.SizedLaws
import Derived.Carry
import Derived.Lib.SmallJoins
import Derived.Test.YtdpbpkggbgfkgaaDoorPoLine
import Derived.Test.YtdpbpkggbgfkgaaDoorPoText
import Derived.Test.YtdpbpkggbgfkgaaDoorByStr
import Derived.Outline
namespace Go.Proofs.YtdpbpkggbgfkgaaDoor
open Go.RowKit
set_option linter.unusedVariables false

theorem Po.lines_size (s : ByteArray) (h : (Cd.decG 1 0 0 s).2.2 = 0) : s.size ≤ 65536 := by
  by_cases hc : Cd.chkN 1 0 0 s.size = 0
  · have := (Cd.chkN_good 1 0 0 _ hc).2
    omega
  · exfalso
    have e : Cd.decG 1 0 0 s = ([], 0, Cd.chkN 1 0 0 s.size) := by unfold Cd.decG; rw [if_pos hc]
    rw [e] at h
    exact hc h
theorem Po.str_app (a b : List UInt8) : (⟨a.toArray⟩ : ByteArray) ++ ⟨b.toArray⟩ = ⟨(a ++ b).toArray⟩ := by
  apply ByteArray.ext
  simp [ByteArray.data_append]
theorem Po.open_gen (c l m : Int) (v : Value) (b : ByteArray) (w : World) (hbs : b.size ≤ 140737488351232) (hv : By.In w v b) (hT : Lib.Utf8Tabs 0 1 w) (hTB : 0 < w.heap.size ∧ 1 < w.heap.size) :
    Calls Tryd.prog 16 #[v, Cd.coder c l m] w fun e w' => ∃ pv ev, e = .returned (.tuple #[pv, ev]) ∧ Below w.heap.size w w' := by
  by_cases hz : (Cd.decG c l m b).2.2 = 0
  · obtain ⟨ys, ho, hy, hl0⟩ := Po.dec_text c l m b
    exact (Po.open_ok c l m v b ys w hz hy hbs hv hT hTB).mono fun e w' ⟨p, he, _, _, hb⟩ => ⟨_, _, he, hb⟩
  by_cases hz6 : (Cd.decG c l m b).2.2 = 6
  · obtain ⟨q, hq, hqs⟩ := Po.dec_six c l m b hz6
    obtain ⟨ys, ho, hy, hl0⟩ := Po.dec_text c l m (b.extract 0 q)
    exact (Po.open_fault c l m v b q ys w hz6 hq hqs hy hbs hv hT hTB).mono fun e w' ⟨p, he, _, _, hb⟩ => ⟨_, _, he, hb⟩
  · exact (Po.open_bad c l m v b w hz hz6 hbs hv hT hTB).mono fun e w' ⟨he, hb⟩ => ⟨_, _, he, hb⟩
theorem Po.byt_at (s : ByteArray) (i : Nat) (h : i < s.size) : Cd.byt s i = ((s[i]'h).toNat : Int) := By.byt_data s i h
theorem Po.eqb {acc : List UInt8} {T : ByteArray} (h : (⟨acc.toArray⟩ : ByteArray) = T) : (acc == T.toList) = true := by
  rw [Lib.toList_data, ← h]
  simp
/-- The text with a line feed at its end, in the three ways that the law takes. -/
theorem Po.canon_ends (s : ByteArray) : (s.size = 0 ∧ (⟨(Po.canon s.data.toList).toArray⟩ : ByteArray) = s) ∨ (0 < s.size ∧ Cd.byt s (s.size - 1) = 10 ∧ (⟨(Po.canon s.data.toList).toArray⟩ : ByteArray) = s) ∨ (0 < s.size ∧ Cd.byt s (s.size - 1) ≠ 10 ∧ (⟨(Po.canon s.data.toList).toArray⟩ : ByteArray) = s ++ ⟨#[10]⟩) := by
  have hsl : s.data.toList.length = s.size := by simp
  have hid : (⟨s.data.toList.toArray⟩ : ByteArray) = s := by simp
  rcases Nat.eq_zero_or_pos s.size with h0 | h0
  · left
    have : s.data.toList = [] := List.eq_nil_of_length_eq_zero (by omega)
    refine ⟨h0, ?_⟩
    rw [← hid]
    simp [this, Po.canon]
  · right
    have hne : s.data.toList ≠ [] := by intro h; rw [h] at hsl; simp at hsl; omega
    have hb : Cd.byt s (s.size - 1) = ((s.data.toList.getD (s.size - 1) 0).toNat : Int) := Cd.byt_list s _
    have hgl : s.data.toList.getLast? = some (s.data.toList.getD (s.size - 1) 0) := by
      rw [List.getLast?_eq_getElem?, hsl, List.getD_eq_getElem?_getD, List.getElem?_eq_getElem (by omega)]
      rfl
    by_cases h : s.data.toList.getD (s.size - 1) 0 = 10
    · left
      refine ⟨h0, by rw [hb, h]; rfl, ?_⟩
      unfold Po.canon
      rw [if_pos (.inr (by rw [hgl, h])), hid]
    · right
      refine ⟨h0, fun h2 => h ?_, ?_⟩
      · rw [hb] at h2
        apply UInt8.toNat_inj.1
        show _ = 10
        omega
      · unfold Po.canon
        rw [if_neg (by rintro (h1 | h1); exact hne h1; rw [hgl] at h1; exact h (Option.some.inj h1)), ← Po.str_app, hid]

set_option maxHeartbeats 4000000 in
set_option maxRecDepth 1000000 in
theorem portsLines.walk (s : ByteArray) (w : World) (hs : s.size ≤ 140737488351232) (hT : Lib.Utf8Tabs 0 1 w) (hTB : 0 < w.heap.size ∧ 1 < w.heap.size) (hSh : w.ShapedOpen Tryd.prog) :
    Calls Tryd.prog 10 #[.string s] w fun e w' => e = .returned (.bool true) ∧ Below w.heap.size w w' := by
  have HT := Lib.hid hT; clear hT
  obtain ⟨mx, hmx⟩ := Tryd.laysM145.s1_3 w hSh
  have hmx : w.cell? ⟨2, 0, none⟩ = some (.int .i64 mx) := hmx
  have hml : 2 < w.heap.size := by
    rcases Nat.lt_or_ge 2 w.heap.size with h | h
    · exact h
    · simp [World.cell?, Array.getElem?_eq_none h] at hmx
  have HMX := Lib.hid hmx
  clear hmx hSh
  have KA := fun w h1 h2 => Po.awake_any w h1 h2
  have KU := fun w => Po.utf8_any w
  have KD := fun v w h1 h2 h3 h4 h5 => Cd.decode_any s v w 1 0 0 h1 h2 h3 h4 h5
  have cv := fun (w : World) => run_bytes_of_string (P := Tryd.prog) w 9 24 5 s Tryd.underlying9 Tryd.underlying24 Tryd.underlying5
  unfold Cd.coder at *
  by_cases hz : (Cd.decG 1 0 0 s).2.2 = 0
  · obtain ⟨ys, ho, hy, hl0⟩ := Po.dec_text 1 0 0 s
    have hld := Po.lines_dec s hz
    have hss := Po.lines_size s hz
    have KO := fun v w h3 h4 h5 => Po.open_ok 1 0 0 v s ys w hz hy (by omega) h3 h4 h5
    unfold Cd.coder at KO
    rw [hld] at KD hy
    rw [hz] at KD
    have hyt : Po.txt ys = ⟨s.data.toList.toArray⟩ := by rw [Po.txt, hy]
    have hid : (⟨s.data.toList.toArray⟩ : ByteArray) = s := by simp
    rw [hid] at KD
    generalize (Cd.decG 1 0 0 s).2.1 = a0 at *
    have hsl : s.data.toList.length = s.size := by simp
    have HLS := Lib.hid hsl
    clear ho hy hl0 hld hz hsl
    go_enter Tryd.func10, Tryd.ntmps10
    go_wp2_with fail
    refine (KU _).mono ?_
    rintro x w1 ⟨rfl, hb1⟩
    have HB1 := Lib.hid hb1
    have hz1 := hb1.size
    clear hb1
    go_wp2_with fail
    have hin2 := (By.In.of_string w1 5 s (grownCap w1 s.size 0 5) ((bytesRow s (grownCap w1 s.size 0 5)).size, (bytesRow s (grownCap w1 s.size 0 5)).size + 1) (grownCap_ge _ _ _ _)).drew
    have hbx2 := (HB1.out.alloc hz1 (Obj.cells (bytesRow s (grownCap w1 s.size 0 5)) 5 ((bytesRow s (grownCap w1 s.size 0 5)).size, (bytesRow s (grownCap w1 s.size 0 5)).size + 1))).drew
    generalize (bytesRow s (grownCap w1 s.size 0 5)) = BR2 at *
    generalize grownCap w1 s.size 0 5 = GC2 at *
    have HI2 := Lib.hid hin2
    have HB2 := Lib.hid hbx2
    have hz2 := hbx2.size
    clear hin2 hbx2
    refine (KD _ _ (Cd.tabs_below HT.out HB2.out hTB.1 hTB.2) (by omega) (by omega) (Cd.BytesAt.ofIn HI2.out) HI2.out.slice).mono ?_
    rintro x w3 ⟨rfl, hb3⟩
    have HB3 := Lib.hid (HB2.out.trans (hb3.mono hz2))
    have hz3 := HB3.out.size
    clear hb3 KD HI2
    go_wp2_with fail
    have hin4 := (By.In.of_string w3 5 s (grownCap w3 s.size 0 5) ((bytesRow s (grownCap w3 s.size 0 5)).size, (bytesRow s (grownCap w3 s.size 0 5)).size + 1) (grownCap_ge _ _ _ _)).drew
    have hbx4 := (HB3.out.alloc hz3 (Obj.cells (bytesRow s (grownCap w3 s.size 0 5)) 5 ((bytesRow s (grownCap w3 s.size 0 5)).size, (bytesRow s (grownCap w3 s.size 0 5)).size + 1))).drew
    generalize (bytesRow s (grownCap w3 s.size 0 5)) = BR4 at *
    generalize grownCap w3 s.size 0 5 = GC4 at *
    have HI4 := Lib.hid hin4
    have HB4 := Lib.hid hbx4
    have hz4 := hbx4.size
    clear hin4 hbx4
    refine (KU _).mono ?_
    rintro x w5 ⟨rfl, hb5⟩
    have HB5 := Lib.hid (HB4.out.trans (hb5.mono hz4))
    have hz5 := HB5.out.size
    have HI5 := Lib.hid (HI4.out.below hb5 (Nat.le_refl _))
    clear hb5 KU cv HI4
    go_wp2_with fail
    refine (KO _ w5 HI5.out (Cd.tabs_below HT.out HB5.out hTB.1 hTB.2) (by omega)).mono ?_
    rintro x w6 ⟨p, rfl, hp0, hA, hb6⟩
    have HB6 := Lib.hid (HB5.out.trans (hb6.mono hz5))
    have hz6 := HB6.out.size
    have hp : w.heap.size ≤ p := by omega
    have HA := Lib.hid (show Po.AtB w6 p s.data.toList false by have h := hA; unfold Po.At at h; rw [hyt] at h; exact h)
    clear hb6 KO hA hp0 hyt
    go_wp2_with fail
    refine (KA _ (Cd.tabs_below HT.out HB6.out hTB.1 hTB.2) (by omega)).mono ?_
    rintro x w7 ⟨rfl, hb7⟩
    have HB7 := Lib.hid (HB6.out.trans (hb7.mono hz6))
    have hz7 := HB7.out.size
    have HA7 := Lib.hid (HA.out.below hb7 HA.out.lt)
    clear hb7 KA HI5
    go_wp2_with fail
    go_loopw [8, 9] (fun bk i wr => ∃ (n : Nat) (acc left : List UInt8), bk = .string ⟨acc.toArray⟩ ∧ i = .int .i64 n ∧ n + left.length ≤ s.size ∧ acc ++ Po.canon left = Po.canon s.data.toList ∧ Po.AtB wr p left false ∧ Below w.heap.size w wr) (fun _ i _ => s.size + 1 - (intOf i).toNat)
    case atStart => exact ⟨0, [], s.data.toList, rfl, rfl, by have := HLS.out; omega, rfl, HA7.out, HB7.out⟩
    case round =>
      obtain ⟨n, acc, left, rfl, rfl, hn, hcan, hA, hb⟩ := hrel
      have HB := Lib.hid hb
      have hni : (n : Int) ≤ (s.size : Int) := by omega
      have HA := Lib.hid hA
      clear hb hA
      cases left with
      | nil =>
        have KL := Lib.hid (Po.line_end wr p HA.out)
        have hacc : acc = Po.canon s.data.toList := by rw [← hcan]; simp [Po.canon]
        clear hcan
        go_wp2_with fail
        refine KL.out.mono ?_
        rintro x wx ⟨rfl, hbx⟩
        have HB2 := Lib.hid (HB.out.trans (hbx.mono HB.out.size))
        clear hbx KL
        have HACC := Lib.hid hacc
        clear hacc hid
        rcases Po.canon_ends s with ⟨h0, hc⟩ | ⟨h0, hl, hc⟩ | ⟨h0, hl, hc⟩
        · have hse := Lib.hid (Po.eqb (show (⟨acc.toArray⟩ : ByteArray) = s by rw [HACC.out, hc]))
          have hs0 : s = ByteArray.empty := ByteArray.size_eq_zero_iff.1 h0
          clear hc h0 HACC
          subst hs0
          go_wp2_with fail
          go_ret
          refine ⟨?_, HB2.out⟩
          have := hse.out
          simp at this
          simp [this]
        · have hse := Lib.hid (Po.eqb (show (⟨acc.toArray⟩ : ByteArray) = s by rw [HACC.out, hc]))
          have hs0 : ¬ s = ByteArray.empty := by rintro rfl; simp at h0
          have hs1 : ((s.size : Int) == 0) = false := by simp; omega
          have hs2 : (((s[s.size - 1]'(by omega)).toNat : Int) != 10) = false := by rw [← Po.byt_at s _ (by omega), hl]; rfl
          have h0i : (0 : Int) < (s.size : Int) := by omega
          clear hc HACC hl
          go_wp2_with fail
          go_ret
          exact ⟨by rw [hse.out]; rfl, HB2.out⟩
        · have hse := Lib.hid (Po.eqb (show (⟨acc.toArray⟩ : ByteArray) = s ++ ⟨#[10]⟩ by rw [HACC.out, hc]))
          have hs0 : ¬ s = ByteArray.empty := by rintro rfl; simp at h0
          have hs1 : ((s.size : Int) == 0) = false := by simp; omega
          have hs2 : (((s[s.size - 1]'(by omega)).toNat : Int) != 10) = true := by rw [← Po.byt_at s _ (by omega)]; simp [hl]
          have h0i : (0 : Int) < (s.size : Int) := by omega
          clear hc HACC hl
          go_wp2_with fail
          go_ret
          exact ⟨by rw [hse.out]; rfl, HB2.out⟩
      | cons a t =>
        have hst := Po.canon_step (a :: t) (by simp)
        have hlc := Po.canon_len s.data.toList
        have hlen := congrArg List.length hcan
        rw [List.length_append] at hlen
        have hls := HLS.out
        have KL := Lib.hid (Po.line_some wr p a t mx (by omega) HA.out ((HB.out.cell (p := ⟨2, 0, none⟩) hml).trans HMX.out) (by have := HB.out.size; omega) (Cd.tabs_below HT.out HB.out hTB.1 hTB.2))
        generalize Lib.cut (a :: t) [10] = C at *
        obtain ⟨x1, x2, fd⟩ := C
        simp only at hst
        have hk1 : acc.length ≤ 65537 := by omega
        have hk2 : x1.length ≤ 65536 := by have := hst.2.2; omega
        have hk3 : n + 1 + x2.length ≤ s.size := by have := hst.2.1; omega
        have hst1 := hst.1
        rw [hst1, ← List.append_assoc] at hcan
        have HC := Lib.hid hcan
        clear hst hst1 hlen hlc hls hcan hn
        go_wp2_with fail
        refine KL.out.mono ?_
        rintro x wx ⟨rfl, hA3, hbx⟩
        have HB2 := Lib.hid (HB.out.trans (hbx.mono hp))
        have HA3 := Lib.hid hA3
        clear hbx KL hA3
        go_wp2
        go_roundw
        case rel => exact ⟨n + 1, acc ++ (x1 ++ [10]), x2, by rw [← Po.str_app, ← Po.str_app], rfl, hk3, HC.out, HA3.out, HB2.out⟩
        case measure => simp [intOf]; omega
  · have KO := fun v w h3 h4 h5 => Po.open_gen 1 0 0 v s w (by omega) h3 h4 h5
    unfold Cd.coder at KO
    have hd1 : ((Cd.decG 1 0 0 s).2.2 != 0) = true := by simp [hz]
    generalize Cd.decG 1 0 0 s = D at *
    obtain ⟨x0, a0, z0⟩ := D
    simp only at KD hd1
    clear hz
    go_enter Tryd.func10, Tryd.ntmps10
    go_wp2_with fail
    refine (KU _).mono ?_
    rintro x w1 ⟨rfl, hb1⟩
    have HB1 := Lib.hid hb1
    have hz1 := hb1.size
    clear hb1
    go_wp2_with fail
    have hin2 := (By.In.of_string w1 5 s (grownCap w1 s.size 0 5) ((bytesRow s (grownCap w1 s.size 0 5)).size, (bytesRow s (grownCap w1 s.size 0 5)).size + 1) (grownCap_ge _ _ _ _)).drew
    have hbx2 := (HB1.out.alloc hz1 (Obj.cells (bytesRow s (grownCap w1 s.size 0 5)) 5 ((bytesRow s (grownCap w1 s.size 0 5)).size, (bytesRow s (grownCap w1 s.size 0 5)).size + 1))).drew
    generalize (bytesRow s (grownCap w1 s.size 0 5)) = BR2 at *
    generalize grownCap w1 s.size 0 5 = GC2 at *
    have HI2 := Lib.hid hin2
    have HB2 := Lib.hid hbx2
    have hz2 := hbx2.size
    clear hin2 hbx2
    refine (KD _ _ (Cd.tabs_below HT.out HB2.out hTB.1 hTB.2) (by omega) (by omega) (Cd.BytesAt.ofIn HI2.out) HI2.out.slice).mono ?_
    rintro x w3 ⟨rfl, hb3⟩
    have HB3 := Lib.hid (HB2.out.trans (hb3.mono hz2))
    have hz3 := HB3.out.size
    clear hb3 KD HI2
    go_wp2_with fail
    have hin4 := (By.In.of_string w3 5 s (grownCap w3 s.size 0 5) ((bytesRow s (grownCap w3 s.size 0 5)).size, (bytesRow s (grownCap w3 s.size 0 5)).size + 1) (grownCap_ge _ _ _ _)).drew
    have hbx4 := (HB3.out.alloc hz3 (Obj.cells (bytesRow s (grownCap w3 s.size 0 5)) 5 ((bytesRow s (grownCap w3 s.size 0 5)).size, (bytesRow s (grownCap w3 s.size 0 5)).size + 1))).drew
    generalize (bytesRow s (grownCap w3 s.size 0 5)) = BR4 at *
    generalize grownCap w3 s.size 0 5 = GC4 at *
    have HI4 := Lib.hid hin4
    have HB4 := Lib.hid hbx4
    have hz4 := hbx4.size
    clear hin4 hbx4
    refine (KU _).mono ?_
    rintro x w5 ⟨rfl, hb5⟩
    have HB5 := Lib.hid (HB4.out.trans (hb5.mono hz4))
    have hz5 := HB5.out.size
    have HI5 := Lib.hid (HI4.out.below hb5 (Nat.le_refl _))
    clear hb5 KU cv HI4
    go_wp2_with fail
    refine (KO _ w5 HI5.out (Cd.tabs_below HT.out HB5.out hTB.1 hTB.2) (by omega)).mono ?_
    rintro x w6 ⟨pv, ev, rfl, hb6⟩
    have HB6 := Lib.hid (HB5.out.trans (hb6.mono hz5))
    have hz6 := HB6.out.size
    clear hb6 KO HI5
    go_wp2_with fail
    refine (KA _ (Cd.tabs_below HT.out HB6.out hTB.1 hTB.2) (by omega)).mono ?_
    rintro x w7 ⟨rfl, hb7⟩
    have HB7 := Lib.hid (HB6.out.trans (hb7.mono hz6))
    have hz7 := HB7.out.size
    clear hb7
    go_wp2_with fail
    refine (KA _ (Cd.tabs_below HT.out HB7.out hTB.1 hTB.2) (by omega)).mono ?_
    rintro x w8 ⟨rfl, hb8⟩
    have HB8 := Lib.hid (HB7.out.trans (hb8.mono hz7))
    have hz8 := HB8.out.size
    clear hb8
    go_wp2
    go_ret
    exact ⟨rfl, HB8.out⟩
end Go.Proofs.YtdpbpkggbgfkgaaDoor
namespace Go.Proofs.YtdpbpkggbgfkgaaDoor.portsLines
open Go.ChangeShapes Go.WideShapes Go.ChangeAt Go.RowKit Go.Joins
open Go.ChangeMaps (open_string shut_string)
set_option linter.unusedVariables false
set_option linter.unusedSimpArgs false

theorem own : ownKnob Tryd.prog.godebug = none := by kernel_rfl
theorem laidOut : laidOutB Tryd.prog = true := by kernel_rfl
def args0 : Array Value := #[.string .empty]
theorem laid_met (os : Os) : laidMetH Tryd.prog Rows.portsLinesRow.laid ((World.laidAll Tryd.prog os Rows.portsLinesRow.laid).forCall (fun _ _ => 0) ⟨#[], args0, []⟩).memory := by
  rw [MakeChecks.laidMetH_plain _ _ _ (by kernel_rfl)]
  exact laidMet_laidAll _ (by kernel_rfl) (by kernel_rfl)
theorem reads (os : Os) {H : Type} (enc : TypeId × Value → H) : ∃ places, DataW.whole enc Tryd.prog ((World.laidAll Tryd.prog os Rows.portsLinesRow.laid).forCall (fun _ _ => 0) ⟨#[], args0, []⟩).memory Tryd.f10.params.toList Rows.portsLinesSpec.vars false args0.toList 8 = some ([.lit (.string [])], [], places) :=
  ⟨[], by kernel_rfl⟩
theorem xU8 : U8Extra Tryd.prog Tryd.lays260_ren := ⟨by kernel_rfl, by kernel_rfl, by kernel_rfl, by kernel_rfl, by kernel_rfl, by kernel_rfl, by kernel_rfl⟩
theorem accEq : (Rows.laid_unicode_utf8_acceptRanges : DataW Unit) = Lib.acceptData := by kernel_rfl
theorem tabs {W : World} (hL : laidMetH Tryd.prog Rows.portsLinesRow.laid W) : Lib.Utf8Tabs 0 1 W := by
  rw [MakeChecks.laidMetH_plain _ _ _ (by kernel_rfl)] at hL
  exact utf8Tabs_of_readsT (U8Types.of260 Tryd.lays260) xU8 (Pinned.utf8First_eq ▸ Lib.laidMet.reads hL (.tail _ (.head _))) (accEq ▸ Lib.laidMet.reads hL (.head _))
theorem tabsLt {W : World} (h : Lib.Utf8Tabs 0 1 W) : 0 < W.heap.size ∧ 1 < W.heap.size :=
  ⟨World.block_lt_of_cell? W _ (h.1 0 (by decide)), World.block_lt_of_cell? W _ (h.2 0 (by decide)).1⟩

set_option maxRecDepth 100000 in
theorem lifted (os : Os) (started : os.Started) (H : Type) (enc : TypeId × Value → H) (F : Stop.Interp) :
    ReturnsInHanded {} Tryd.checked os 10 .any ((OpenSpec.ofChange Rows.portsLinesSpec).preRow enc Tryd.prog Tryd.f10 Rows.portsLinesRow.domain false Rows.portsLinesRow.laid) (((OpenSpec.ofChange Rows.portsLinesSpec).at F).post enc Tryd.prog Tryd.f10 false true false false) := by
  obtain ⟨places, hx⟩ := reads os enc
  refine returnsInHanded_of_row (C := Tryd.checked) (s := OpenSpec.ofChange Rows.portsLinesSpec) own started (by kernel_rfl) Tryd.func10
    (witness_row_at (enc := enc) (C := Tryd.checked) false (World.laidAll Tryd.prog os Rows.portsLinesRow.laid) args0 (World.laidAll_os _ _ _) (by kernel_rfl) (by kernel_rfl) (by kernel_rfl)
      (OpenSpec.preRow_of_cond 8 hx (by kernel_rfl) (fun k hk => by cases hk) (by kernel_rfl) (laid_met os))) ?_
  intro W base args ds gs before hval hW _ hcond hsz hL hshaped _
  have hW' := hW
  obtain ⟨p, q, hA0, hV, rfl, hfz, hnd⟩ := hW
  have hA : DataW.TrodAll enc Tryd.prog W 0 (fun _ => true) true Tryd.f10.params.toList args.toList ds p := hA0
  rw [Tryd.params10] at hA hval
  obtain ⟨v0, vs0, d0, ds0, p0, q0, hargs, rfl, rfl, h0, r0⟩ := trodAll_cons hA
  obtain ⟨rfl, rfl, rfl⟩ := trodAll_nil r0
  obtain rfl : args = #[v0] := by cases args; simp_all
  obtain ⟨rfl, rfl⟩ := trodVars_none hV
  clear hA0
  simp only [List.append_nil] at hW'
  have k0 := h0
  have lt0 : ∀ x ∈ p0, x.block < W.heap.size := fun x hx => by simpa using hW'.lt x (by simp [hx])
  have hsz2 : (DataW.weightsEach Tryd.prog [9] [d0]).all (· ≤ reachBytes) = true := by
    have := hsz
    rw [Tryd.params10] at this
    exact this
  obtain ⟨s0, rfl, rfl, rfl, hmax0⟩ := open_string Tryd.underlying9 (hval 0 9 v0 rfl rfl) h0
  have hs0 : s0.size ≤ 140737488351232 := by
    have := sized_string hsz2 (j := 0) (t := 9) rfl rfl
    simp only [reachBytes] at this
    simpa using this
  have hT := tabs hL
  refine (walk s0 W hs0 hT (tabsLt hT) hshaped).mono fun e W' ⟨he, bel⟩ => ?_
  subst he
  exact ⟨_, rfl, _, _, _, [], _, [], hW', trodAll_mk1 (shut_bool Tryd.underlying4 _), (trodAll_cons_mk (Below.trod laidOut (by kernel_rfl) (of_decide_eq_true (by kernel_rfl)) k0 bel lt0) trodAll_mk0), rfl, bel.frame _, fun h => by cases h⟩

theorem said : Rows.PortsLinesSaid :=
  OpenClaim.holds_of_cond 10 Tryd.f10 rfl rfl rfl rfl rfl rfl rfl ⟨rfl, rfl, rfl, rfl, rfl⟩ rfl rfl rfl rfl rfl (by kernel_rfl) Tryd.func10 (by kernel_rfl)
    (of_decide_eq_true (by kernel_rfl)) (by unfold Func.isWrapper; first | (rw [if_pos (by decide +kernel)]; kernel_rfl) | (rw [if_neg (by decide +kernel)]; exact ⟨rfl, rfl⟩))
    (fun os started H enc _ F => by rw [OpenClaim.pre_eq_preRow]; exact lifted os started H enc F)

theorem plain (f : FuncId) (fn : Func) (hf : Tryd.pinned.checked.prog.funcNamed "sextant/sextantlaw20.PortsLines" = some f) (hfn : Tryd.pinned.checked.prog.funcs[f]? = some fn) :
    false = Tryd.pinned.checked.prog.looks [] ∧ ∀ (j : Nat) t, fn.params[j]? = some t → Tryd.pinned.checked.prog.wantsStandIn t = false := by
  obtain rfl : f = 10 := Option.some.inj ((show Tryd.prog.funcNamed "sextant/sextantlaw20.PortsLines" = some 10 by kernel_rfl).symm.trans hf) |>.symm
  obtain rfl : fn = Tryd.f10 := (Option.some.inj (Tryd.func10.symm.trans hfn)).symm
  refine ⟨by kernel_rfl, fun j t ht => ?_⟩
  rw [Tryd.params10] at ht
  have hm : t ∈ [9] := by simpa using Array.mem_of_getElem? ht
  have hall : ([9].all fun u => !Tryd.prog.wantsStandIn u) = true := by kernel_rfl
  exact (show Tryd.prog.wantsStandIn t = false by simpa using List.all_eq_true.1 hall t hm)

theorem card : Rows.PortsLinesCardSaid :=
  Claim7.holds_tied_plain_at .later [] _ _ _ _ said (fun _ h => by cases h) (by kernel_rfl) (fun _ h => by cases h) portsLines_row_tie rfl ⟨rfl, rfl⟩ (by kernel_rfl) rfl plain (by kernel_rfl)
end Go.Proofs.YtdpbpkggbgfkgaaDoor.portsLines
