/-
  Conditions as lists of parts: a type and fields.
  cond.Check of any parts.
  Arguments that are data, opened: a datum in memory is a tree.
  Stores of a part: two cells of memory.
  A row of data that the call owns, and an append to it.
-/
import Derived.Deep.LoopGhost
import Derived.Test.YtikmebkfdpbidaaGreatDoorRows
import Derived.OpenShut
import Derived.WideShapes
import Derived.ChangeArms
import Derived.ChangeSlices
import Derived.Lib.SmallJoins
import Derived.Test.YtikmebkfdpbidaaGreatDoorPi
import Derived.Test.YtikmebkfdpbidaaGreatDoorPe
import Derived.Test.YtikmebkfdpbidaaGreatDoorPa
import Derived.Test.YtikmebkfdpbidaaGreatDoorPg
import Derived.Test.YtikmebkfdpbidaaGreatDoorPb
namespace Go.Proofs.YtikmebkfdpbidaaGreatDoor
open Go.RowKit
set_option linter.unusedVariables false

structure Sp where
  t : Int
  f : List Tr
/-- Parts, one behind the other in memory. -/
def Sp.At (w : World) (S : Nat → Prop) (l : List Sp) (b off : Nat) : Prop := ∀ k s, l[k]? = some s → ∃ fv, w.cell? ⟨b, off + k * 2, none⟩ = some (.int .i64 s.t) ∧ w.cell? ⟨b, off + k * 2 + 1, none⟩ = some fv ∧ Tr.LIn w S s.f fv
/-- The value reads as the parts l; all that they lie in is of S. -/
def Sp.LIn (w : World) (S : Nat → Prop) (l : List Sp) (v : Value) : Prop := Tr.Sl w S v l.length (fun b off => Sp.At w S l b off)
theorem Sp.LIn.slice {w : World} {S : Nat → Prop} {l : List Sp} {v : Value} (h : Sp.LIn w S l v) : ∃ ad cap, v = .slice ad l.length cap ∧ l.length ≤ cap ∧ (l.length = 0 ∨ cap ≤ 9223372036854775807) := Tr.Sl.slice h
theorem Sp.LIn.at {w : World} {S : Nat → Prop} {l : List Sp} {ad : Option Addr} {n cap : Nat} (h : Sp.LIn w S l (.slice ad n cap)) {k : Nat} {s : Sp} (hk : l[k]? = some s) : ∃ b off fv, ad = some ⟨b, off, none⟩ ∧ b < w.heap.size ∧ S b ∧ w.cell? ⟨b, off + k * 2, none⟩ = some (.int .i64 s.t) ∧ w.cell? ⟨b, off + k * 2 + 1, none⟩ = some fv ∧ Tr.LIn w S s.f fv := by
  have hlt := (List.getElem?_eq_some_iff.1 hk).1
  obtain ⟨b, off, e, _, _, _, hb, hS, hA⟩ := Tr.Sl.at h (by omega)
  obtain ⟨fv, h1, h2, h3⟩ := hA k s hk
  exact ⟨b, off, fv, e, hb, hS, h1, h2, h3⟩
theorem Sp.LIn.kept {w w' : World} {S : Nat → Prop} {l : List Sp} {v : Value} (h : Sp.LIn w S l v) (hk : Tr.Kept S w w') : Sp.LIn w' S l v :=
  Tr.Sl.imp h hk.size (fun _ h => h) (fun b off hb hS hA k s hs => by
    obtain ⟨fv, h1, h2, h3⟩ := hA k s hs
    exact ⟨fv, (hk.cell hS hb).trans h1, (hk.cell hS hb).trans h2, h3.kept hk⟩)
theorem Sp.LIn.mono {w : World} {S S' : Nat → Prop} {l : List Sp} {v : Value} (h : Sp.LIn w S l v) (hk : ∀ q, S q → S' q) : Sp.LIn w S' l v :=
  Tr.Sl.imp h (Nat.le_refl _) hk (fun b off hb hS hA k s hs => by
    obtain ⟨fv, h1, h2, h3⟩ := hA k s hs
    exact ⟨fv, h1, h2, h3.mono hk⟩)
theorem Sp.LIn.below {w w' : World} {S : Nat → Prop} {B : Nat} {l : List Sp} {v : Value} (h : Sp.LIn w S l v) (hb : Below B w w') (hB : w.heap.size ≤ B) : Sp.LIn w' S l v := h.kept (Tr.Kept.all hb hB)
theorem Sp.LIn.nil (w : World) (S : Nat → Prop) : Sp.LIn w S [] (.slice none 0 0) := .inl ⟨rfl, rfl⟩

/-- Check's answer for one part. -/
def Sp.one (s : Sp) : Int := if Co.thr s.t = false then 7 else if Co.nf s.t.toNat ≠ s.f.length then 1 else if s.f.all Tr.sound then 0 else 2
def Sp.chkL : List Sp → Int
  | [] => 0
  | s :: r => if Sp.one s = 0 then Sp.chkL r else Sp.one s
/-- Check's answer. -/
def Sp.chk (l : List Sp) : Int := if 16 < l.length then 4 else Sp.chkL l
theorem Sp.chkL_at {l : List Sp} {k : Nat} {s : Sp} (hk : l[k]? = some s) : Sp.chkL (l.drop k) = if Sp.one s = 0 then Sp.chkL (l.drop (k + 1)) else Sp.one s := by
  obtain ⟨hlt, he⟩ := List.getElem?_eq_some_iff.1 hk
  rw [List.drop_eq_getElem_cons hlt, he]; rfl
theorem Sp.one_none {s : Sp} (h : Co.thr s.t = false) : Sp.one s = 7 := by unfold Sp.one; rw [if_pos h]
theorem Sp.one_arg {s : Sp} (h : Co.thr s.t = true) (h2 : Co.nf s.t.toNat ≠ s.f.length) : Sp.one s = 1 := by unfold Sp.one; rw [if_neg (by rw [h]; decide), if_pos h2]
theorem Sp.one_sound {s : Sp} (h : Co.thr s.t = true) (h2 : Co.nf s.t.toNat = s.f.length) (h3 : s.f.all Tr.sound = true) : Sp.one s = 0 := by unfold Sp.one; rw [if_neg (by rw [h]; decide), if_neg (by rw [h2]; exact fun h => h rfl), if_pos h3]
theorem Sp.one_form {s : Sp} (h : Co.thr s.t = true) (h2 : Co.nf s.t.toNat = s.f.length) (h3 : s.f.all Tr.sound = false) : Sp.one s = 2 := by unfold Sp.one; rw [if_neg (by rw [h]; decide), if_neg (by rw [h2]; exact fun h => h rfl), if_neg (by rw [h3]; decide)]
theorem Sp.one_range (s : Sp) : 0 ≤ Sp.one s ∧ Sp.one s ≤ 7 := by unfold Sp.one; repeat' split <;> omega
/-- A list that Check takes. -/
theorem Sp.chk_zero {l : List Sp} (h : Sp.chk l = 0) : l.length ≤ 16 ∧ Sp.chkL l = 0 := by
  unfold Sp.chk at h
  split at h
  · omega
  · exact ⟨by omega, h⟩
theorem Sp.one_zero {s : Sp} (h : Sp.one s = 0) : Co.thr s.t = true ∧ Co.nf s.t.toNat = s.f.length ∧ ∀ t ∈ s.f, Tr.sound t = true := by
  unfold Sp.one at h
  split at h
  · omega
  · rename_i h1
    split at h
    · omega
    · rename_i h2
      split at h
      · rename_i h3
        exact ⟨by cases e : Co.thr s.t with | true => rfl | false => exact absurd e h1, Classical.byContradiction h2, List.all_eq_true.1 h3⟩
      · omega
theorem Sp.chkL_zero : ∀ {l : List Sp}, Sp.chkL l = 0 ↔ ∀ s ∈ l, Sp.one s = 0
  | [] => ⟨fun _ s h => by simp at h, fun _ => rfl⟩
  | a :: r => by
    constructor
    · intro h s hs
      unfold Sp.chkL at h
      split at h
      · rename_i h1
        rcases List.mem_cons.1 hs with rfl | hs
        · exact h1
        · exact Sp.chkL_zero.1 h s hs
      · rename_i h1
        exact absurd h h1
    · intro h
      unfold Sp.chkL
      rw [if_pos (h a (List.mem_cons_self ..)), Sp.chkL_zero.2 (fun s hs => h s (List.mem_cons_of_mem _ hs))]
end Go.Proofs.YtikmebkfdpbidaaGreatDoor
namespace Go.Proofs.YtikmebkfdpbidaaGreatDoor
open Go.RowKit
set_option linter.unusedVariables false
set_option linter.unusedSimpArgs false

/-- A world that has grown since. -/
theorem Tr.Tabs.since {w w' : World} {B : Nat} (h : Tr.Tabs w) (hb : Below B w w') (hB : w.heap.size ≤ B) : Tr.Tabs w' := h.below (hb.mono hB)
theorem Co.nf_range : ∀ k, k < 20 → 0 ≤ Co.nf k ∧ Co.nf k ≤ 4 := by decide +kernel
set_option maxHeartbeats 8000000 in
set_option maxRecDepth 1000000 in
theorem Sp.Check_any (l : List Sp) (S : Nat → Prop) (v : Value) (w : World) (h : Sp.LIn w S l v) (hT : Tr.Tabs w) :
    Calls Tryz.prog 26 #[v] w fun e w' => e = .returned (.int .i64 (Sp.chk l)) ∧ Below w.heap.size w w' := by
  obtain ⟨ad, cap, rfl, hcap, _⟩ := h.slice
  have HH := Lib.hid h
  have HT := Lib.hid hT
  clear h hT
  rcases Nat.lt_or_ge 16 l.length with h16 | h16
  · have hgt : (l.length : Int) > 16 := by omega
    have hans : Sp.chk l = 4 := by unfold Sp.chk; rw [if_pos h16]
    rw [hans]
    go_enter Tryz.func26, Tryz.ntmps26
    go_wp2_with fail
    go_ret
    exact ⟨rfl, Below.refl _ _⟩
  have hans : Sp.chk l = Sp.chkL l := by unfold Sp.chk; rw [if_neg (by omega)]
  rw [hans]
  have hgt : ¬ ((l.length : Int) > 16) := by omega
  go_enter Tryz.func26, Tryz.ntmps26
  go_wp2_with fail
  refine (Co.kinds_any _).mono ?_
  rintro x w1 ⟨rfl, hg, hb1⟩
  have HB1 := Lib.hid hb1
  have HG := Lib.hid hg
  have hz1 : w.heap.size < w1.heap.size := (Array.getElem?_eq_some_iff.1 hg).1
  clear hb1 hg hans
  go_wp2_with fail
  go_loopg [18] l.length (fun g i wr => ∃ k : Nat, k + g = l.length ∧ i = .int .i64 k ∧ Sp.chkL l = Sp.chkL (l.drop k) ∧ Below w1.heap.size w1 wr)
  case atStart => exact ⟨0, by omega, rfl, rfl, Below.refl _ _⟩
  case round =>
    obtain ⟨k, hkg, rfl, hans, hbw⟩ := hrel
    obtain ⟨wo, hwo⟩ : ∃ z, z = wr := ⟨_, rfl⟩
    subst hwo
    have HBW := Lib.hid hbw
    have hzw := hbw.size
    have HWR := Lib.hid (HB1.out.trans (hbw.mono (Nat.le_of_lt hz1)))
    clear hbw
    by_cases hlt : k < l.length
    · obtain ⟨s, hs⟩ : ∃ s, l[k]? = some s := ⟨_, List.getElem?_eq_getElem hlt⟩
      rw [Sp.chkL_at hs] at hans
      have HANS := Lib.hid hans
      obtain ⟨b, off, fv, rfl, hblt, _, c0, c1, hf⟩ := HH.out.at hs
      obtain ⟨fa, fc, rfl, hfc, _⟩ := Tr.Sl.slice hf
      have HFX := Lib.hid hf
      replace c0 := (HWR.out.cell (p := ⟨b, off + k * 2, none⟩) hblt).trans c0
      replace c1 := (HWR.out.cell (p := ⟨b, off + k * 2 + 1, none⟩) hblt).trans c1
      have HS := Lib.hid hs
      have KF := fun w => Co.find_any s.t w
      have hq0 : ∀ o, (wo.alloc o).heap[wo.heap.size]? = some o := fun o => heap_alloc_new wo o
      have hb0 : ∀ o, Below wo.heap.size wo (wo.alloc o) := fun o => (Below.refl _ _).alloc (Nat.le_refl _) _
      have hsz : ∀ o, (wo.alloc o).heap.size = wo.heap.size + 1 := by intro o; simp
      clear hf hs hans hfc hblt
      cases hthr : Co.thr s.t
      · have hone := Sp.one_none hthr
        rw [hthr] at KF
        simp only [if_true, if_false, Bool.false_eq_true] at KF
        go_wp2_with fail
        refine (KF _).mono ?_
        rintro x w2 ⟨rfl, hb2⟩
        have HB2 := Lib.hid (HWR.out.trans (((hb0 _).trans (hb2.mono (by rw [hsz]; omega))).mono (Nat.le_trans (Nat.le_of_lt hz1) hzw)))
        have hbA : ∀ o, Below w.heap.size w (w2.alloc o) := fun o => HB2.out.alloc HB2.out.size o
        have HBA := Lib.hid hbA
        clear hb2 hq0 hb0 hsz KF c0 c1 hbA
        go_wp2_with fail
        go_ret
        exact ⟨by rw [HANS.out, hone, if_neg (by decide)]; rfl, HBA.out _⟩
      · have hth2 := of_decide_eq_true hthr
        rw [hthr] at KF
        simp only [if_true] at KF
        obtain ⟨tk, htk, htk2⟩ : ∃ z : Nat, s.t = z ∧ z < 20 := ⟨s.t.toNat, by omega, by omega⟩
        have hnf0 := Co.nf_range tk htk2
        have HEQ : Hid (Co.nf s.t.toNat = Co.nf tk) := Lib.hid (by rw [htk]; rfl)
        rw [htk] at c0 KF
        rw [Int.toNat_natCast] at KF
        go_wp2_with fail
        refine (KF _).mono ?_
        rintro x w2 ⟨rfl, hb2⟩
        have q2 := (hb2.block wo.heap.size (by rw [hsz]; omega)).trans (hq0 _)
        have HB2 := Lib.hid ((hb0 _).trans (hb2.mono (by rw [hsz]; omega)))
        have hz2 : wo.heap.size < w2.heap.size := (Array.getElem?_eq_some_iff.1 q2).1
        have d0 := Co.cell_of q2 0
        have d1 := Co.cell_of q2 1
        clear hb2 hq0 hb0 hsz KF c0 c1
        go_wp2_with fail
        have HGW : Hid (w2.heap[w.heap.size]? = some (.cells Co.cells 109 (0, 0))) := Lib.hid ((HB2.out.block _ (by omega)).trans ((HBW.out.block _ hz1).trans HG.out))
        have Q2 := Lib.hid q2
        have hb0 : ∀ o, Below w2.heap.size w2 (w2.alloc o) := fun o => (Below.refl _ _).alloc (Nat.le_refl _) _
        have hnf := (rfl : Co.nf tk = Co.nfu 20 tk)
        have HNF := Lib.hid hnf
        clear hnf d0 d1 q2
        go_loopw [8, 9] (fun a i wq => ∃ (q : Nat) (s u : Int), a = .int .i64 s ∧ i = .int .i64 u ∧ -1 ≤ u ∧ u < q ∧ q ≤ 20 ∧ s + Co.nfu q u = Co.nf tk ∧ 0 ≤ s ∧ s ≤ 2 * (20 - q) ∧ Below w2.heap.size w2 wq) (fun _ i _ => (intOf i + 1).toNat)
        case atStart => exact ⟨20, 0, tk, rfl, rfl, by omega, by omega, Nat.le_refl _, (Int.zero_add _).trans HNF.out.symm, Int.le_refl _, by omega, hb0 _⟩
        case round =>
          obtain ⟨q, c, u, rfl, rfl, hu1, huq, hq, hcs, hc0, hc1, hbq⟩ := hrel
          have HBQ := Lib.hid hbq
          clear hbq
          by_cases hu : u < 0
          · have hu2 : ¬ (u ≥ 0) := by omega
            rw [Co.nfu_stop _ _ hu, Int.add_zero] at hcs
            have q3 := (HBQ.out.block wo.heap.size hz2).trans Q2.out
            have e0 := Co.cell_of q3 0
            have e1 := Co.cell_of q3 1
            clear hc1 huq
            have hzq := HBQ.out.size
            have HWQ := Lib.hid (HWR.out.trans ((HB2.out.trans (HBQ.out.mono (Nat.le_of_lt hz2))).mono (Nat.le_trans (Nat.le_of_lt hz1) hzw)))
            clear q3
            by_cases hne : c = (s.f.length : Int)
            · subst hne
              obtain ⟨wp, hwp⟩ : ∃ z, z = wr := ⟨_, rfl⟩
              subst hwp
              have hm4 : s.f.length ≤ 4 := by omega
              go_wp2_with fail
              clear e0 e1
              go_loopg [54] s.f.length (fun g i wz => ∃ j : Nat, j + g = s.f.length ∧ i = .int .i64 j ∧ (∀ t ∈ s.f.take j, Tr.sound t = true) ∧ Below wp.heap.size wp wz)
              case atStart => exact ⟨0, by omega, rfl, fun t h => by simp at h, Below.refl _ _⟩
              case round =>
                obtain ⟨j, hj, rfl, hall, hbz⟩ := hrel
                have HBZ := Lib.hid (HWQ.out.trans (hbz.mono HWQ.out.size))
                have HBZ2 := Lib.hid hbz
                have HALL := Lib.hid hall
                obtain ⟨wy, hwy⟩ : ∃ z, z = wr := ⟨_, rfl⟩
                subst hwy
                clear hbz hall
                by_cases hjm : j < s.f.length
                · obtain ⟨tj, htj⟩ : ∃ t, s.f[j]? = some t := ⟨_, List.getElem?_eq_getElem hjm⟩
                  obtain ⟨b2, off2, rfl, _, _, _, hb2lt, hS2, hall2⟩ := Tr.Sl.at HFX.out (by omega)
                  obtain ⟨Cj, hIj, hMj⟩ := Tr.All.at _ _ _ hall2 j tj htj
                  rw [Nat.mul_comm 11 j] at hMj
                  have hMj4 := hMj.kept (Tr.Kept.all HBZ.out (Nat.le_refl _)) hS2 hb2lt
                  have KS := fun o => Tr.Sound_any tj S (.agg Cj) (wy.alloc o) (Tr.In.below (Tr.In.below hIj HBZ.out (Nat.le_refl _)) ((Below.refl _ _).alloc (Nat.le_refl _) o) (Nat.le_refl _)) ((HT.out.since HBZ.out (Nat.le_refl _)).since ((Below.refl _ _).alloc (Nat.le_refl _) o) (Nat.le_refl _))
                  obtain ⟨he, le, ab3, ab4, ab6, ab7, ab9, ab10, nb3, nb4, nb6, nb7, nb9, nb10, cb3, cb4, cb6, cb7, cb9, cb10, eCb, ebt, hbH, hbL⟩ := Tr.In.form2 hIj
                  subst eCb
                  unfold Tr.cells at KS hMj4
                  obtain ⟨e0, e1, e2, e3, e4, e5, e6, e7, e8, e9, e10⟩ := Tr.Mem.cells hMj4
                  have hbb : ∀ o w', Below (wy.alloc o).heap.size (wy.alloc o) w' → Below wp.heap.size wp w' ∧ Below w.heap.size w w' := fun o w' hb => by
                    have b1 : Below wy.heap.size wy w' := ((Below.refl _ _).alloc (Nat.le_refl _) o).trans (hb.mono (by simp))
                    exact ⟨HBZ2.out.trans (b1.mono HBZ2.out.size), HBZ.out.trans (b1.mono HBZ.out.size)⟩
                  have HBB := Lib.hid hbb
                  have HTJ := Lib.hid htj
                  clear hIj hMj hMj4 hall2 htj ebt hbH hbL hb2lt hS2 hbb
                  cases hsd : Tr.sound tj
                  · rw [hsd] at KS
                    go_wp2_with fail
                    refine (KS _).mono ?_
                    rintro x w5 ⟨rfl, hb5⟩
                    have HB5 := Lib.hid (HBB.out _ _ hb5).2
                    clear hb5 KS e0 e1 e2 e3 e4 e5 e6 e7 e8 e9 e10
                    go_wp2_with fail
                    go_ret
                    refine ⟨?_, HB5.out⟩
                    have hall3 : s.f.all Tr.sound = false := by
                      cases hx : s.f.all Tr.sound
                      · rfl
                      · have := List.all_eq_true.1 hx tj (List.mem_of_getElem? HTJ.out)
                        rw [hsd] at this
                        exact absurd this (by decide)
                    rw [HANS.out, Sp.one_form hthr (by rw [HEQ.out, ← hcs]) hall3, if_neg (by decide)]
                    rfl
                  · rw [hsd] at KS
                    go_wp2_with fail
                    refine (KS _).mono ?_
                    rintro x w5 ⟨rfl, hb5⟩
                    have HB5 := Lib.hid (HBB.out _ _ hb5).1
                    clear hb5 KS e0 e1 e2 e3 e4 e5 e6 e7 e8 e9 e10
                    go_wp2_with fail
                    go_roundg (gk - 1)
                    case measure => omega
                    case rel =>
                      refine ⟨j + 1, by omega, by first | rfl | go_num | (simp; try omega), fun t ht => ?_, HB5.out⟩
                      rw [List.take_add_one, HTJ.out] at ht
                      rcases List.mem_append.1 ht with ht | ht
                      · exact HALL.out t ht
                      · simp at ht
                        subst ht
                        exact hsd
                · have hj2 : j = s.f.length := by omega
                  have hone : Sp.one s = 0 := Sp.one_sound hthr (by rw [HEQ.out, ← hcs]) (List.all_eq_true.2 (fun t ht => HALL.out t (by rw [hj2, List.take_length]; exact ht)))
                  have HONE := Lib.hid hone
                  have HEND := Lib.hid (show Below w1.heap.size w1 wy from HBW.out.trans ((HB2.out.trans ((HBQ.out.trans (HBZ2.out.mono hzq)).mono (Nat.le_of_lt hz2))).mono hzw))
                  clear hone
                  go_wp2_with fail
                  go_roundg (l.length - (k + 1))
                  case measure => omega
                  case rel => exact ⟨k + 1, by omega, by first | rfl | go_num | (simp; try omega), by rw [HANS.out, if_pos HONE.out], HEND.out⟩
            · have hne2 : (c != (s.f.length : Int)) = true := by simpa using hne
              have hone : Sp.one s = 1 := Sp.one_arg hthr (by rw [HEQ.out, ← hcs]; exact hne)
              go_wp2_with fail
              go_ret
              exact ⟨by rw [HANS.out, hone, if_neg (by decide)]; rfl, HWQ.out⟩
          · obtain ⟨v, rfl⟩ : ∃ v : Nat, u = v := ⟨u.toNat, by omega⟩
            obtain ⟨q, rfl⟩ : ∃ z : Nat, q = z + 1 := ⟨q - 1, by omega⟩
            rw [Co.nfu_step _ _ (by omega), Int.toNat_natCast] at hcs
            obtain ⟨p1, p2⟩ := Co.par_lt v (by omega)
            obtain ⟨l1, l2⟩ := Co.fld_le v (by omega)
            obtain ⟨c0, c1, c2⟩ := Co.kind_cells ((HBQ.out.block _ (by omega)).trans HGW.out) v (by omega)
            have h3 : (v : Int) ≥ 0 := by omega
            have h4 : v < 20 := by omega
            have h5 : c + Co.fld v ≤ 40 := by omega
            have HA := Lib.hid (And.intro huq (And.intro hq (And.intro hcs (And.intro hc0 hc1))))
            clear huq hq hcs hc1 hu1 hu
            go_wp2_with fail
            go_roundw
            case rel =>
              obtain ⟨a1, a2, a3, a4, a5⟩ := HA.out
              exact ⟨q, c + Co.fld v, Co.par v, rfl, rfl, p1, by omega, by omega, by rw [← a3]; omega, by omega, by omega, HBQ.out⟩
            case measure => simp [intOf]; omega
    · go_wp2_with fail
      go_ret
      have hk : k = l.length := by omega
      exact ⟨by rw [hans, hk, List.drop_length]; rfl, HWR.out⟩
end Go.Proofs.YtikmebkfdpbidaaGreatDoor
namespace Go.Proofs.YtikmebkfdpbidaaGreatDoor
open Go.RowKit
set_option linter.unusedVariables false
set_option linter.unusedSimpArgs false

theorem Up.pos {H : Type} (d : DataW H) : 1 ≤ Rows.uptoBulk d := by
  cases d with
  | lit l => cases l <;> simp [Rows.uptoBulk]
  | _ => simp [Rows.uptoBulk]
theorem Up.len {H : Type} : ∀ (l : List (DataW H)), l.length ≤ Rows.uptoBulkAll l
  | [] => Nat.zero_le _
  | d :: r => by
    have h1 := Up.pos d
    have h2 := Up.len r
    simp only [List.length_cons, Rows.uptoBulkAll]
    omega
theorem Up.mem {H : Type} : ∀ {l : List (DataW H)} {d : DataW H}, d ∈ l → Rows.uptoBulk d ≤ Rows.uptoBulkAll l
  | a :: r, d, h => by
    simp only [Rows.uptoBulkAll]
    rcases List.mem_cons.1 h with rfl | h
    · omega
    · have := Up.mem h
      omega
theorem Up.slc {H : Type} (l r : List (DataW H)) : Rows.uptoBulk (.slice l r) = Rows.uptoBulkAll l + Rows.uptoBulkAll r + 1 := by rw [Rows.uptoBulk]
theorem Up.agg {H : Type} (l : List (DataW H)) : Rows.uptoBulk (.agg l) = Rows.uptoBulkAll l + 1 := by rw [Rows.uptoBulk]
/-- So many things that there are, in a list. -/
theorem Up.choose {α : Type} {P : Nat → α → Prop} : ∀ n, (∀ i, i < n → ∃ x, P i x) → ∃ l : List α, l.length = n ∧ ∀ i x, l[i]? = some x → P i x
  | 0, _ => ⟨[], rfl, fun i x h => by simp at h⟩
  | n + 1, h => by
    obtain ⟨l, h1, h2⟩ := Up.choose n (fun i hi => h i (by omega))
    obtain ⟨x, hx⟩ := h n (by omega)
    refine ⟨l ++ [x], by simp [h1], fun i y hy => ?_⟩
    rcases Nat.lt_or_ge i n with hi | hi
    · rw [List.getElem?_append_left (by omega)] at hy
      exact h2 i y hy
    · have hlt := (List.getElem?_eq_some_iff.1 hy).1
      rw [List.length_append, h1] at hlt
      have hin : i = n := by simp at hlt; omega
      subst hin
      rw [List.getElem?_append_right (by omega), h1, Nat.sub_self] at hy
      simp only [List.getElem?_cons_zero, Option.some.injEq] at hy
      subst hy
      exact hx
theorem Up.cells {w : World} {base n : Nat} {a : Addr} {cs : List Value} (h : w.cells? base a n = some cs) : cs.length = n ∧ ∀ j, j < n → ∃ u, cs[j]? = some u ∧ w.cell? (a.add j) = some u := by
  unfold World.cells? at h
  split at h
  · have hl := mapM_some_length h
    rw [List.length_range] at hl
    refine ⟨hl, fun j hj => ?_⟩
    have hg := mapM_some_get h j j (by simp [hj])
    exact ⟨cs[j], List.getElem?_eq_getElem (by omega), hg.trans (List.getElem?_eq_getElem (by omega))⟩
  · cases h
theorem Up.spot {w : World} {a : Addr} {i : Nat} {u : Value} (h : w.cell? ((a.add i).add 0) = some u) (hi : i = 0) : a = ⟨a.block, a.off, none⟩ := by
  subst hi
  have := World.cell?_spot h
  obtain ⟨b, off, s⟩ := a
  simp [Addr.add] at this
  subst this
  rfl
theorem Up.blk {w : World} {b off : Nat} {u : Value} (h : w.cell? ⟨b, off, none⟩ = some u) : b < w.heap.size := by
  rcases Nat.lt_or_ge b w.heap.size with h1 | h1
  · exact h1
  · simp [World.cell?, Array.getElem?_eq_none h1] at h
theorem Up.add (b off j : Nat) : (⟨b, off, none⟩ : Addr).add j = ⟨b, off + j, none⟩ := by unfold Addr.add; split <;> simp_all
/-- A slice among the arguments: nothing, or elements that can be read. -/
theorem Up.slice {H : Type} {enc : TypeId × Value → H} {P : Program} {w : World} {base : Nat} {spare : Nat → Bool} {held : Bool} {fuel : Nat} {t e : TypeId} {cs : List Value} {x : DataW H × List MemPlace} {sz N : Nat} (ht : P.underlying t = some (.slice e)) (hc : P.cellsOf e = sz) (hsz : 0 < sz)
    (h : DataW.trod enc P w base spare held fuel t cs = some x) (hN : Rows.uptoBulk x.1 ≤ N) :
    cs = [.slice none 0 0] ∨ ∃ len cap n, fuel = n + 1 ∧ len ≤ cap ∧ cap ≤ maxLen ∧ len ≤ N ∧ ((len = 0 ∧ ∃ a, cs = [.slice (some a) 0 cap]) ∨ (0 < len ∧ ∃ b off, cs = [.slice (some ⟨b, off, none⟩) len cap] ∧ b < w.heap.size ∧
      ∀ i, i < len → ∃ (y : DataW H × List MemPlace) (es : List Value), Rows.uptoBulk y.1 ≤ N ∧ DataW.trod enc P w base spare held n e es = some y ∧ es.length = sz ∧ ∀ j, j < sz → ∃ u, es[j]? = some u ∧ w.cell? ⟨b, off + i * sz + j, none⟩ = some u)) := by
  rcases DataW.trod_slice ht h with ⟨hcs, _⟩ | ⟨a, len, cap, elems, rest, n, hf, hcs, hx, _, hl, hm, hlen, hel, _, _⟩
  · exact .inl hcs
  · have hNx : Rows.uptoBulk (DataW.slice (elems.map (·.1)) (rest.map (·.1))) ≤ N := by have := hN; rw [hx] at this; exact this
    rw [Up.slc] at hNx
    have hl1 := Up.len (elems.map (·.1))
    rw [List.length_map, hlen] at hl1
    refine .inr ⟨len, cap, n, hf, hl, hm, by omega, ?_⟩
    have each : ∀ i, i < len → ∃ (y : DataW H × List MemPlace) (es : List Value), Rows.uptoBulk y.1 ≤ N ∧ DataW.trod enc P w base spare held n e es = some y ∧ es.length = sz ∧ ∀ j, j < sz → ∃ u, es[j]? = some u ∧ w.cell? ((a.add (i * sz)).add j) = some u := by
      intro i hi
      have h1 := hel i hi
      have hy : elems[i]? = some elems[i] := List.getElem?_eq_getElem (by omega)
      rw [hy, hc, Option.bind_eq_some_iff] at h1
      obtain ⟨es, he1, he2⟩ := h1
      obtain ⟨h3, h4⟩ := Up.cells he1
      refine ⟨elems[i], es, ?_, he2, h3, h4⟩
      have := Up.mem (l := elems.map (·.1)) (d := elems[i].1) (List.mem_map.2 ⟨elems[i], List.getElem_mem _, rfl⟩)
      omega
    rcases Nat.eq_zero_or_pos len with h0 | h0
    · subst h0
      exact .inl ⟨rfl, a, hcs⟩
    · obtain ⟨_, _, _, _, _, hc0⟩ := each 0 h0
      obtain ⟨u, _, hu⟩ := hc0 0 hsz
      have ha := Up.spot hu (by omega)
      refine .inr ⟨h0, a.block, a.off, by rw [hcs]; rw [ha], ?_, fun i hi => ?_⟩
      · rw [ha, Up.add, Up.add] at hu
        exact Up.blk hu
      · obtain ⟨y, es, h1, h2, h3, h4⟩ := each i hi
        refine ⟨y, es, h1, h2, h3, fun j hj => ?_⟩
        obtain ⟨u, h5, h6⟩ := h4 j hj
        refine ⟨u, h5, ?_⟩
        rw [ha, Up.add, Up.add] at h6
        exact h6
theorem Up.one {l : List Value} (h : l.length = 1) : ∃ u, l = [u] := by
  match l, h with
  | [u], _ => exact ⟨u, rfl⟩
theorem Up.cellsU : Tryz.prog.cellsOf 144 = 1 := by kernel_rfl
/-- Words. -/
theorem Up.words {H : Type} {enc : TypeId × Value → H} {w : World} {base : Nat} {spare : Nat → Bool} {held : Bool} {fuel : Nat} {cs : List Value} {x : DataW H × List MemPlace} {N : Nat} (h : DataW.trod enc Tryz.prog w base spare held fuel 22 cs = some x) (hN : Rows.uptoBulk x.1 ≤ N) :
    ∃ v ws, cs = [v] ∧ Nt.In w v ws ∧ Nt.Wd ws ∧ ws.length ≤ N := by
  rcases Up.slice Tryz.underlying22 Up.cellsU (by decide) h hN with rfl | ⟨len, cap, n, _, hl, hm, hle, h1⟩
  · exact ⟨_, [], rfl, .inl ⟨rfl, rfl⟩, fun y hy => by simp at hy, Nat.zero_le _⟩
  · rcases h1 with ⟨_, a, rfl⟩ | ⟨h0, b, off, rfl, hb, hel⟩
    · exact ⟨_, [], rfl, .inr (.inl ⟨a, cap, rfl, rfl⟩), fun y hy => by simp at hy, Nat.zero_le _⟩
    · obtain ⟨ws, hw1, hw2⟩ := Up.choose (P := fun i z => z < 4294967296 ∧ w.cell? ⟨b, off + i, none⟩ = some (.int .u32 (z : Nat))) len (fun i hi => by
        obtain ⟨y, es, _, hd, hes, hcell⟩ := hel i hi
        obtain ⟨u, rfl⟩ := Up.one hes
        obtain ⟨k, e, _, hwf⟩ := DataW.trod_int Tryz.underlying144 hd
        simp only [List.cons.injEq, and_true] at e
        subst e
        obtain ⟨u, hu1, hu2⟩ := hcell 0 (by decide)
        simp only [List.getElem?_cons_zero, Option.some.injEq] at hu1
        subst hu1
        have hk : 0 ≤ k ∧ k < 4294967296 := by
          simp only [Lit.wf, Bool.and_eq_true, decide_eq_true_eq] at hwf
          have e1 : IntKind.min .u32 = 0 := rfl
          have e2 : IntKind.max .u32 = 4294967295 := rfl
          omega
        refine ⟨k.toNat, by omega, ?_⟩
        rw [Nat.mul_one, Nat.add_zero] at hu2
        rw [hu2, show ((k.toNat : Nat) : Int) = k by omega])
      refine ⟨_, ws, rfl, .inr (.inr ⟨by omega, b, off, cap, by rw [hw1], by omega, hb, fun j hj => ?_⟩), fun y hy => ?_, by omega⟩
      · have hg : ws[j]? = some ws[j] := List.getElem?_eq_getElem hj
        have := (hw2 j _ hg).2
        rw [this, List.getD_eq_getElem?_getD, hg]
        rfl
      · obtain ⟨j, hj, rfl⟩ := List.getElem_of_mem hy
        exact (hw2 j _ (List.getElem?_eq_getElem hj)).1
theorem Up.cellsB : Tryz.prog.cellsOf 5 = 1 := by kernel_rfl
theorem Up.bytes {H : Type} {enc : TypeId × Value → H} {w : World} {base : Nat} {spare : Nat → Bool} {held : Bool} {fuel : Nat} {cs : List Value} {x : DataW H × List MemPlace} {N : Nat} (h : DataW.trod enc Tryz.prog w base spare held fuel 27 cs = some x) (hN : Rows.uptoBulk x.1 ≤ N) :
    ∃ v s, cs = [v] ∧ By.In w v s ∧ s.size ≤ N := by
  obtain ⟨a, l, c, rfl⟩ := Go.Joins.slice_form Tryz.underlying27 h
  obtain ⟨s, h1, h2⟩ := By.In.open (v := .slice a l c) Tryz.underlying27 Tryz.underlying5 Up.cellsB ⟨_, _, _, rfl⟩ ⟨fuel, h⟩
  refine ⟨_, s, rfl, h1, ?_⟩
  rcases h2 with ⟨_, h2⟩ | ⟨elems, spare, he, h2⟩
  · omega
  · rw [he, Up.slc] at hN
    have := Up.len elems
    omega
theorem Up.list2 {α : Type} {l : List α} (h : l.length = 2) : ∃ a b, l = [a, b] := by
  match l, h with
  | [a, b], _ => exact ⟨a, b, rfl⟩
theorem Up.list3 {α : Type} {l : List α} (h : l.length = 3) : ∃ a b c, l = [a, b, c] := by
  match l, h with
  | [a, b, c], _ => exact ⟨a, b, c, rfl⟩
theorem Up.list6 {α : Type} {l : List α} (h : l.length = 6) : ∃ a b c d e f, l = [a, b, c, d, e, f] := by
  match l, h with
  | [a, b, c, d, e, f], _ => exact ⟨a, b, c, d, e, f, rfl⟩
theorem Up.list11 {α : Type} {l : List α} (h : l.length = 11) : ∃ c0 c1 c2 c3 c4 c5 c6 c7 c8 c9 c10, l = [c0, c1, c2, c3, c4, c5, c6, c7, c8, c9, c10] := by
  match l, h with
  | [c0, c1, c2, c3, c4, c5, c6, c7, c8, c9, c10], _ => exact ⟨c0, c1, c2, c3, c4, c5, c6, c7, c8, c9, c10, rfl⟩
theorem Up.cellsD : Tryz.prog.cellsOf 30 = 11 := by kernel_rfl
theorem Up.cellsN : Tryz.prog.cellsOf 26 = 6 := by kernel_rfl
theorem Up.cellsR : Tryz.prog.cellsOf 24 = 3 := by kernel_rfl
theorem Up.cellsI : Tryz.prog.cellsOf 3 = 1 := by kernel_rfl
theorem Up.cellsO : Tryz.prog.cellsOf 4 = 1 := by kernel_rfl
theorem Up.cellsS : Tryz.prog.cellsOf 9 = 1 := by kernel_rfl
theorem Up.cells32 : Tryz.prog.cellsOf 22 = 1 := by kernel_rfl
theorem Up.cells8 : Tryz.prog.cellsOf 27 = 1 := by kernel_rfl
theorem Up.cellsL : Tryz.prog.cellsOf 28 = 1 := by kernel_rfl
set_option maxRecDepth 100000 in
theorem Up.rat {H : Type} {enc : TypeId × Value → H} {w : World} {base : Nat} {spare : Nat → Bool} {held : Bool} {fuel : Nat} {c0 c1 c2 : Value} {x : DataW H × List MemPlace} {N : Nat} (h : DataW.trod enc Tryz.prog w base spare held fuel 24 [c0, c1, c2] = some x) (hN : Rows.uptoBulk x.1 ≤ N) :
    ∃ (b : Bool) (t1 t2 : List Nat), c0 = .bool b ∧ Nt.In w c1 t1 ∧ Nt.In w c2 t2 ∧ Nt.Wd t1 ∧ Nt.Wd t2 ∧ t1.length ≤ N ∧ t2.length ≤ N := by
  obtain ⟨xs, n, _, hx, _, hlen, hf⟩ := DataW.trod_struct Tryz.underlying24 h
  obtain ⟨y0, y1, y2, rfl⟩ := Up.list3 hlen
  have hN2 : Rows.uptoBulkAll [y0.1, y1.1, y2.1] + 1 ≤ N := by rw [← Up.agg]; rw [hx] at hN; exact hN
  have m1 := Up.mem (l := [y0.1, y1.1, y2.1]) (d := y1.1) (by simp)
  have m2 := Up.mem (l := [y0.1, y1.1, y2.1]) (d := y2.1) (by simp)
  have h0 : DataW.trod enc Tryz.prog w base spare held n 4 (([c0, c1, c2].drop 0).take (Tryz.prog.cellsOf 4)) = some y0 := hf 0 _ rfl
  have h1 : DataW.trod enc Tryz.prog w base spare held n 22 (([c0, c1, c2].drop 1).take (Tryz.prog.cellsOf 22)) = some y1 := hf 1 _ rfl
  have h2 : DataW.trod enc Tryz.prog w base spare held n 22 (([c0, c1, c2].drop 2).take (Tryz.prog.cellsOf 22)) = some y2 := hf 2 _ rfl
  rw [Up.cellsO] at h0
  rw [Up.cells32] at h1 h2
  obtain ⟨b, e0, _⟩ := DataW.trod_bool Tryz.underlying4 h0
  obtain ⟨v1, w1, e1, i1, d1, l1⟩ := Up.words (N := N) h1 (by omega)
  obtain ⟨v2, w2, e2, i2, d2, l2⟩ := Up.words (N := N) h2 (by omega)
  simp only [List.drop_zero, List.take_succ_cons, List.take_zero, List.drop_succ_cons, List.cons.injEq, and_true] at e0 e1 e2
  subst e0 e1 e2
  exact ⟨b, w1, w2, rfl, i1, i2, d1, d2, l1, l2⟩
/-- A row of values, each of so many cells. -/
def Up.Row (w : World) (P : Nat → List Value → Prop) (sz : Nat) (b off len : Nat) : Prop := ∀ i, i < len → ∃ es : List Value, P i es ∧ es.length = sz ∧ ∀ j, j < sz → ∃ u, es[j]? = some u ∧ w.cell? ⟨b, off + i * sz + j, none⟩ = some u
set_option maxRecDepth 100000 in
theorem Up.datum {H : Type} {enc : TypeId × Value → H} {w : World} {base : Nat} {spare : Nat → Bool} {held : Bool} {N : Nat} (hN0 : N ≤ 1048576) : ∀ (fuel : Nat) (cs : List Value) (x : DataW H × List MemPlace), DataW.trod enc Tryz.prog w base spare held fuel 30 cs = some x → Rows.uptoBulk x.1 ≤ N →
    ∃ t C, cs = C.toList ∧ Tr.In w (fun _ => True) t (.agg C) ∧ Tr.txt t := by
  intro fuel
  induction fuel using Nat.strongRecOn with
  | ind fuel IH =>
    intro cs x h hN
    obtain ⟨xs, n, hfu, hx, hcl, hlen, hf⟩ := DataW.trod_struct Tryz.underlying30 h
    obtain ⟨y0, y1, y2, y3, y4, y5, rfl⟩ := Up.list6 hlen
    obtain ⟨c0, c1, c2, c3, c4, c5, c6, c7, c8, c9, c10, rfl⟩ := Up.list11 (hcl.trans Up.cellsD)
    have hN2 : Rows.uptoBulkAll [y0.1, y1.1, y2.1, y3.1, y4.1, y5.1] + 1 ≤ N := by rw [← Up.agg]; rw [hx] at hN; exact hN
    have m2 := Up.mem (l := [y0.1, y1.1, y2.1, y3.1, y4.1, y5.1]) (d := y2.1) (by simp)
    have m3 := Up.mem (l := [y0.1, y1.1, y2.1, y3.1, y4.1, y5.1]) (d := y3.1) (by simp)
    have m4 := Up.mem (l := [y0.1, y1.1, y2.1, y3.1, y4.1, y5.1]) (d := y4.1) (by simp)
    have m5 := Up.mem (l := [y0.1, y1.1, y2.1, y3.1, y4.1, y5.1]) (d := y5.1) (by simp)
    have h0 : DataW.trod enc Tryz.prog w base spare held n 3 (([c0, c1, c2, c3, c4, c5, c6, c7, c8, c9, c10].drop 0).take (Tryz.prog.cellsOf 3)) = some y0 := hf 0 _ rfl
    have h1 : DataW.trod enc Tryz.prog w base spare held n 3 (([c0, c1, c2, c3, c4, c5, c6, c7, c8, c9, c10].drop 1).take (Tryz.prog.cellsOf 3)) = some y1 := hf 1 _ rfl
    have h2 : DataW.trod enc Tryz.prog w base spare held n 26 (([c0, c1, c2, c3, c4, c5, c6, c7, c8, c9, c10].drop 2).take (Tryz.prog.cellsOf 26)) = some y2 := hf 2 _ rfl
    have h3 : DataW.trod enc Tryz.prog w base spare held n 9 (([c0, c1, c2, c3, c4, c5, c6, c7, c8, c9, c10].drop 8).take (Tryz.prog.cellsOf 9)) = some y3 := hf 3 _ rfl
    have h4 : DataW.trod enc Tryz.prog w base spare held n 27 (([c0, c1, c2, c3, c4, c5, c6, c7, c8, c9, c10].drop 9).take (Tryz.prog.cellsOf 27)) = some y4 := hf 4 _ rfl
    have h5 : DataW.trod enc Tryz.prog w base spare held n 28 (([c0, c1, c2, c3, c4, c5, c6, c7, c8, c9, c10].drop 10).take (Tryz.prog.cellsOf 28)) = some y5 := hf 5 _ rfl
    clear hf h
    rw [Up.cellsI] at h0 h1
    rw [Up.cellsN] at h2
    rw [Up.cellsS] at h3
    rw [Up.cells8] at h4
    rw [Up.cellsL] at h5
    obtain ⟨k, e0, _, wk⟩ := DataW.trod_int Tryz.underlying3 h0
    obtain ⟨m, e1, _, wm⟩ := DataW.trod_int Tryz.underlying3 h1
    obtain ⟨s, e3, hx3, hs⟩ := DataW.trod_string Tryz.underlying9 h3
    have hxs : s.size ≤ 1048576 := by
      have e8 : s.data.toList.length ≤ Rows.uptoBulk y3.1 := by rw [hx3]; simp only [Rows.uptoBulk]; omega
      have e9 : s.data.toList.length = s.size := Array.length_toList
      omega
    obtain ⟨v9, raw, e4, i9, l9⟩ := Up.bytes (N := N) h4 (by omega)
    have h2b : DataW.trod enc Tryz.prog w base spare held n 26 [c2, c3, c4, c5, c6, c7] = some y2 := h2
    obtain ⟨ys, n2, _, hx2, _, hlen2, hg⟩ := DataW.trod_struct Tryz.underlying26 h2b
    obtain ⟨z0, z1, rfl⟩ := Up.list2 hlen2
    have m2' : Rows.uptoBulk y2.1 ≤ N := by omega
    rw [hx2] at m2'
    have hN3 : Rows.uptoBulkAll [z0.1, z1.1] + 1 ≤ N := by
      rw [← Up.agg]
      exact m2'
    have p0 := Up.mem (l := [z0.1, z1.1]) (d := z0.1) (by simp)
    have p1 := Up.mem (l := [z0.1, z1.1]) (d := z1.1) (by simp)
    have g0 : DataW.trod enc Tryz.prog w base spare held n2 24 (([c2, c3, c4, c5, c6, c7].drop 0).take (Tryz.prog.cellsOf 24)) = some z0 := hg 0 _ rfl
    have g1 : DataW.trod enc Tryz.prog w base spare held n2 24 (([c2, c3, c4, c5, c6, c7].drop 3).take (Tryz.prog.cellsOf 24)) = some z1 := hg 1 _ rfl
    rw [Up.cellsR] at g0 g1
    obtain ⟨b1, t1, t2, rfl, j3, j4, w1, w2, l1, l2⟩ := Up.rat (N := N) (show DataW.trod enc Tryz.prog w base spare held n2 24 [c2, c3, c4] = some z0 from g0) (by omega)
    obtain ⟨b2, t3, t4, rfl, j6, j7, w3, w4, l3, l4⟩ := Up.rat (N := N) (show DataW.trod enc Tryz.prog w base spare held n2 24 [c5, c6, c7] = some z1 from g1) (by omega)
    simp only [List.drop_zero, List.take_succ_cons, List.take_zero, List.drop_succ_cons, List.cons.injEq, and_true] at e0 e1 e3 e4
    subst e0 e1 e3 e4
    have hlist : ∃ l, Tr.LIn w (fun _ => True) l c10 ∧ Tr.txtL l := by
      rcases Up.slice (N := N) Tryz.underlying28 Up.cellsD (by decide) h5 (by omega) with e | ⟨len, cap, n', hn', hl, hm, hle, hh⟩
      · simp only [List.drop_zero, List.take_succ_cons, List.take_zero, List.drop_succ_cons, List.cons.injEq, and_true] at e
        subst e
        exact ⟨[], .inl ⟨rfl, rfl⟩, Tr.txtL_nil⟩
      · rcases hh with ⟨_, a, e⟩ | ⟨hp, b, off, e, hb, hel⟩
        · simp only [List.drop_zero, List.take_succ_cons, List.take_zero, List.drop_succ_cons, List.cons.injEq, and_true] at e
          subst e
          exact ⟨[], .inr (.inl ⟨_, _, rfl, rfl⟩), Tr.txtL_nil⟩
        · simp only [List.drop_zero, List.take_succ_cons, List.take_zero, List.drop_succ_cons, List.cons.injEq, and_true] at e
          subst e
          obtain ⟨l, hl1, hl2⟩ := Up.choose (P := fun i t => ∃ C : Array Value, Tr.In w (fun _ => True) t (.agg C) ∧ Tr.Mem w b (off + i * 11) C ∧ Tr.txt t) len (fun i hi => by
            obtain ⟨y, es, hby, hd, hes, hcell⟩ := hel i hi
            obtain ⟨t, C, rfl, hI, hX⟩ := IH n' (by omega) es y hd hby
            exact ⟨t, C, hI, fun j hj => by
              obtain ⟨u, q1, q2⟩ := hcell j hj
              exact ⟨u, by rw [← Array.getElem?_toList]; exact q1, q2⟩, hX⟩)
          refine ⟨l, .inr (.inr ⟨by omega, b, off, cap, by rw [hl1], by omega, by simp only [maxLen] at hm; omega, hb, trivial, Tr.All.of l b off (fun k t hk => ?_)⟩), Tr.txtL_of (fun k t hk => by obtain ⟨C, _, _, q3⟩ := hl2 k t hk; exact q3)⟩
          obtain ⟨C, q1, q2, _⟩ := hl2 k t hk
          exact ⟨C, q1, by rw [Nat.mul_comm 11 k]; exact q2⟩
    obtain ⟨l, hL, hX⟩ := hlist
    simp only [Lit.wf, Bool.and_eq_true, decide_eq_true_eq] at wk wm
    have q1 : IntKind.min .i64 = -9223372036854775808 := rfl
    have q2 : IntKind.max .i64 = 9223372036854775807 := rfl
    refine ⟨.mk ⟨k, m, b1, t1, t2, b2, t3, t4, s, raw⟩ l, _, rfl, ?_, Tr.txt_mk.2 ⟨hxs, hX⟩⟩
    rw [Tr.In_mk]
    refine ⟨c3, c4, c6, c7, c9, c10, rfl, ⟨⟨by show (_ : Int) ≤ k; omega, by show k ≤ _; omega, by show (_ : Int) ≤ m; omega, by show m ≤ _; omega, w1, w2, w3, w4, by show t1.length ≤ _; omega, by show t2.length ≤ _; omega, by show t3.length ≤ _; omega, by show t4.length ≤ _; omega, hs, by show raw.size ≤ _; omega⟩, j3, j4, j6, j7, i9, fun _ _ _ _ _ _ => trivial, fun _ _ _ _ _ _ => trivial, fun _ _ _ _ _ _ => trivial, fun _ _ _ _ _ _ => trivial, fun _ _ _ _ _ _ => trivial⟩, hL⟩
end Go.Proofs.YtikmebkfdpbidaaGreatDoor
namespace Go.Proofs.YtikmebkfdpbidaaGreatDoor
open Go.RowKit
set_option linter.unusedVariables false

/-- Two cells stored, one after the other. -/
theorem Tr.Blk.put2 {w : World} {b : Nat} {cur : Array Value} (h : Tr.Blk w b cur) (o : Nat) (ho : o + 1 < cur.size) (u0 u1 : Value) : ∃ x0 x1 X1 X2 cur',
    (w.cell? ⟨b, o, none⟩ = some x0 ∧ w.frozen? ⟨b, o, none⟩ = false ∧ w.setCell ⟨b, o, none⟩ u0 = X1) ∧
    (X1.cell? ⟨b, o + 1, none⟩ = some x1 ∧ X1.frozen? ⟨b, o + 1, none⟩ = false ∧ X1.setCell ⟨b, o + 1, none⟩ u1 = X2) ∧
    Hid (Tr.Blk X2 b cur' ∧ cur'.size = cur.size ∧ X2.heap.size = w.heap.size ∧ (∀ q, q ≠ b → X2.heap[q]? = w.heap[q]?) ∧ cur'[o]? = some u0 ∧ cur'[o + 1]? = some u1 ∧ (∀ j, j < o ∨ o + 2 ≤ j → cur'[j]? = cur[j]?) ∧ (X2.os = w.os ∧ X2.tape = w.tape ∧ X2.output = w.output)) := by
  obtain ⟨x0, X1, g0, z0, s0, hB1, hz1, ho1, hos1⟩ := h.put o (by omega) u0
  obtain ⟨x1, X2, g1, z1, s1, hB2, hz2, ho2, hos2⟩ := hB1.put (o + 1) (by rw [Tr.set_size]; exact ho) u1
  refine ⟨x0, x1, X1, X2, _, ⟨g0, z0, s0⟩, ⟨g1, z1, s1⟩, Lib.hid ⟨hB2, by rw [Tr.set_size, Tr.set_size], hz2.trans hz1, fun q hq => (ho2 q hq).trans (ho1 q hq), ?_, ?_, ?_, hos2.1.trans hos1.1, hos2.2.1.trans hos1.2.1, hos2.2.2.trans hos1.2.2⟩⟩
  · rw [Tr.set_get _ _ _ _ (by rw [Tr.set_size]; omega), if_neg (by omega), Tr.set_get _ _ _ _ (by omega), if_pos rfl]
  · rw [Tr.set_get _ _ _ _ (by rw [Tr.set_size]; omega), if_pos rfl]
  · intro j hj
    rw [Tr.set_get _ _ _ _ (by rw [Tr.set_size]; omega), if_neg (by omega), Tr.set_get _ _ _ _ (by omega), if_neg (by omega)]
/-- A result of two cells is stored and read. -/
theorem Sp.ret2 {w wx : World} {b : Nat} {cur : Array Value} (hb : Below w.heap.size w wx) (h : Tr.Blk wx b cur) (hs : cur.size = 2) (hl : w.heap.size ≤ b) (u0 u1 : Value) : ∃ x0 x1 X1 X2,
    (wx.cell? ⟨b, 0, none⟩ = some x0 ∧ wx.frozen? ⟨b, 0, none⟩ = false ∧ wx.setCell ⟨b, 0, none⟩ u0 = X1) ∧
    (X1.cell? ⟨b, 1, none⟩ = some x1 ∧ X1.frozen? ⟨b, 1, none⟩ = false ∧ X1.setCell ⟨b, 1, none⟩ u1 = X2) ∧
    X2.cell? ⟨b, 0, none⟩ = some u0 ∧ X2.cell? ⟨b, 1, none⟩ = some u1 ∧ Hid (Below w.heap.size w X2 ∧ X2.heap.size = wx.heap.size ∧ ∀ q, q ≠ b → X2.heap[q]? = wx.heap[q]?) := by
  obtain ⟨x0, x1, X1, X2, cur', p0, p1, HX⟩ := h.put2 0 (by omega) u0 u1
  obtain ⟨hBX, hsX, hzX, hoX, hc0, hc1, _, hosX⟩ := HX.out
  refine ⟨x0, x1, X1, X2, p0, p1, (hBX.cell 0).trans hc0, (hBX.cell 1).trans hc1, Lib.hid ⟨⟨hosX.1.trans hb.os, hosX.2.1.trans hb.tape, hosX.2.2.trans hb.output, by have := hb.size; omega, fun q hq => (hoX q (by omega)).trans (hb.block q hq)⟩, hzX, hoX⟩⟩
end Go.Proofs.YtikmebkfdpbidaaGreatDoor
namespace Go.Proofs.YtikmebkfdpbidaaGreatDoor
open Go.RowKit
set_option linter.unusedVariables false

/-- The row of the data l, its cells xs; no datum lies in the row's own block. -/
def Tr.Row (B : Nat) (w : World) (v : Value) (l : List Tr) (xs : List Value) : Prop :=
  w.ownsRow B 30 11 v l.length xs ∧ ∀ k t, l[k]? = some t → ∃ C : Array Value, Tr.In w (fun q => B ≤ q ∧ v.ownBlock ≠ some q) t (.agg C) ∧ ∀ j, j < 11 → xs[11 * k + j]? = C[j]?
theorem Tr.Row.nil (B : Nat) (w : World) : Tr.Row B w (.slice none 0 0) [] [] := ⟨World.ownsRow_nil w B _ _, fun k t h => by simp at h⟩
theorem Tr.In.size11 {w : World} {S : Nat → Prop} {t : Tr} {C : Array Value} (h : Tr.In w S t (.agg C)) : C.size = 11 := by
  obtain ⟨_, _, _, _, _, _, _, _, e⟩ := Tr.In.form h
  rw [e]; rfl
theorem Tr.Row.push {B : Nat} {w w1 w2 : World} {v v' : Value} {l : List Tr} {xs : List Value} {t : Tr} {C : Array Value} (h : Tr.Row B w v l xs) (hb : Below w.heap.size w w1) (hB : B ≤ w.heap.size)
    (hI : Tr.In w1 (fun q => w.heap.size ≤ q) t (.agg C)) (ho : w2.ownsRow B 30 11 v' (l.length + 1) (xs ++ C.toList)) (hg : w1.grownBy w2 v.ownBlock) (hf : Ls.Fresh w1 v v') : Tr.Row B w2 v' (l ++ [t]) (xs ++ C.toList) := by
  refine ⟨by rw [List.length_append]; exact ho, fun k u hk => ?_⟩
  have hz := hb.size
  have hlt := h.1.lt
  rcases Nat.lt_or_ge k l.length with h1 | h1
  · rw [List.getElem?_append_left h1] at hk
    obtain ⟨C', hI', hx⟩ := h.2 k u hk
    have h5 := Tr.In.kept (S := fun q => (B ≤ q ∧ v.ownBlock ≠ some q) ∧ q < w.heap.size) (w' := w2) ⟨Nat.le_trans hz hg.size, fun q hq hl => (hg.block q (Nat.lt_of_lt_of_le hl hz) (fun e => hq.1.2 e.symm)).trans (hb.block q hl)⟩ _ _ (Tr.In.top _ _ hI')
    have h6 : ∀ q, ((B ≤ q ∧ v.ownBlock ≠ some q) ∧ q < w.heap.size) → (B ≤ q ∧ v'.ownBlock ≠ some q) := by
      intro q hq
      refine ⟨hq.1.1, fun he => ?_⟩
      rcases hf q he with h2 | h2
      · exact hq.1.2 h2
      · have := hq.2
        omega
    refine ⟨C', Tr.In.mono h6 _ _ h5, fun j hj => ?_⟩
    rw [List.getElem?_append_left (by rw [h.1.1]; omega)]
    exact hx j hj
  · have hkl : k = l.length := by
      have := (List.getElem?_eq_some_iff.1 hk).1
      simp at this
      omega
    subst hkl
    rw [List.getElem?_append_right (Nat.le_refl _), Nat.sub_self] at hk
    simp only [List.getElem?_cons_zero, Option.some.injEq] at hk
    subst hk
    have h5 := Tr.In.kept (S := fun q => w.heap.size ≤ q ∧ q < w1.heap.size) (w' := w2) ⟨hg.size, fun q hq hl => hg.block q hl (fun e => by have := (hlt q e.symm).2; have := hq.1; omega)⟩ _ _ (Tr.In.top _ _ hI)
    have h6 : ∀ q, (w.heap.size ≤ q ∧ q < w1.heap.size) → (B ≤ q ∧ v'.ownBlock ≠ some q) := by
      intro q hq
      refine ⟨Nat.le_trans hB hq.1, fun he => ?_⟩
      rcases hf q he with h2 | h2
      · have := (hlt q h2).2
        have := hq.1
        omega
      · have := hq.2
        omega
    refine ⟨C, Tr.In.mono h6 _ _ h5, fun j hj => ?_⟩
    rw [List.getElem?_append_right (by rw [h.1.1]; omega), show 11 * l.length + j - xs.length = j by rw [h.1.1]; omega, Array.getElem?_toList]
/-- The row, read as a list. -/
theorem Tr.Row.lin {B : Nat} {w : World} {v : Value} {l : List Tr} {xs : List Value} (h : Tr.Row B w v l xs) : Tr.LIn w (fun q => B ≤ q) l v := by
  obtain ⟨ho, hall⟩ := h
  have hcell := @World.ownsRow.cells w B _ 11 v l.length xs ho
  rcases ho.2 with ⟨rfl, h0⟩ | ⟨g, cap, cur, rfl, hbg, hgc, hnc, hcm, hcs, htake⟩
  · exact .inl ⟨rfl, h0⟩
  · rcases Nat.eq_zero_or_pos l.length with h0 | h0
    · exact .inr (.inl ⟨_, _, by rw [h0], h0⟩)
    · refine .inr (.inr ⟨h0, g, 0, cap, rfl, hnc, by simp only [maxLen] at hcm; omega, (Array.getElem?_eq_some_iff.1 hgc).1, hbg, Tr.All.of l g 0 (fun k t hk => ?_)⟩)
      obtain ⟨C, hI, hx⟩ := hall k t hk
      refine ⟨C, Tr.In.mono (fun q hq => hq.1) _ _ hI, fun j hj => ?_⟩
      have hs := hI.size11
      have hu : C[j]? = some C[j] := Array.getElem?_eq_getElem (by omega)
      refine ⟨C[j], hu, ?_⟩
      have := hcell (g := g) rfl (11 * k + j) C[j] ((hx j hj).trans hu)
      have hadd : (⟨g, 0, none⟩ : Addr).add (11 * k + j) = ⟨g, 11 * k + j, none⟩ := by unfold Addr.add; split <;> simp_all
      rw [hadd] at this
      rw [Nat.zero_add]
      exact this
end Go.Proofs.YtikmebkfdpbidaaGreatDoor
