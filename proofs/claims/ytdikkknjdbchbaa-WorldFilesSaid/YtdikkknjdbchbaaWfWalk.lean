/-
  The law WorldFiles: a file holds what was put last, or written over it; the others stay as they are. For every input.
-/
import Derived.Test.YtdikkknjdbchbaaWoAwake
import Derived.Test.YtdikkknjdbchbaaWoWrite
import Derived.Test.YtdikkknjdbchbaaWfSt
import Derived.Test.YtdikkknjdbchbaaSame
import Derived.Test.YtdikkknjdbchbaaWfOpen
import Derived.Deep.DeepCutAuto
namespace Go.Proofs.Ytdikkknjdbchbaa
open Go.RowKit
set_option linter.unusedVariables false

theorem Wf.infoRow : (Try.prog.info? 22).map (fun i => (i.zero, i.size, i.bytes)) = some (some (.slice none 0 0), 1, 24) := by kernel_rfl
theorem Wf.infoBool : (Try.prog.info? 4).map (fun i => (i.zero, i.size, i.bytes)) = some (some (.bool false), 1, 1) := by kernel_rfl
def Wf.C8 : Array Value := #[.slice none 0 0, .slice none 0 0, .slice none 0 0, .slice none 0 0, .slice none 0 0, .slice none 0 0, .slice none 0 0, .slice none 0 0]
def Wf.D8 : Array Value := #[.bool false, .bool false, .bool false, .bool false, .bool false, .bool false, .bool false, .bool false]
theorem Wf.mk1 (w : World) : (Instr.makeSlice 23 (.int .i64 8) (.int .i64 8)).run Try.prog w = .ok (.slice (some ⟨w.heap.size, 0, none⟩) 8 8) (w.alloc (.cells Wf.C8 22)) := by
  obtain ⟨i0, hi, hz0, hz1, hz2⟩ := info_parts Wf.infoRow
  have := run_makeSlice (P := Try.prog) w 23 22 i0 (.slice none 0 0) Try.underlying23 hi hz0 .i64 .i64 8 8 (by decide) (by decide) (by rw [hz1]; decide) (by rw [hz2]; decide) (by decide)
  have e : madeCells (Value.slice none 0 0).cells (Int.toNat 8 * 1) = Wf.C8 := by kernel_rfl
  rw [this, hz1, e]
  rfl
theorem Wf.mk2 (w : World) : (Instr.makeSlice 27 (.int .i64 8) (.int .i64 8)).run Try.prog w = .ok (.slice (some ⟨w.heap.size, 0, none⟩) 8 8) (w.alloc (.cells Wf.D8 4)) := by
  obtain ⟨i0, hi, hz0, hz1, hz2⟩ := info_parts Wf.infoBool
  have := run_makeSlice (P := Try.prog) w 27 4 i0 (.bool false) Try.underlying27 hi hz0 .i64 .i64 8 8 (by decide) (by decide) (by rw [hz1]; decide) (by rw [hz2]; decide) (by decide)
  have e : madeCells (Value.bool false).cells (Int.toNat 8 * 1) = Wf.D8 := by kernel_rfl
  rw [this, hz1, e]
  rfl
/-- The three blocks are laid. -/
theorem Wf.start (w : World) : ∃ W3, ((w.alloc (.cells #[.slice none 0 0, .slice none 0 0, .slice none 0 0] 26)).alloc (.cells Wf.C8 22)).alloc (.cells Wf.D8 4) = W3 ∧ Wf.St w.heap.size W3 (Wf.W (fun _ => ⟨#[]⟩) (fun _ => false)) (fun _ => ⟨#[]⟩) (fun _ => false) ∧ W3.heap.size = w.heap.size + 3 ∧ Below w.heap.size w W3 := by
  have s1 : ∀ o, (w.alloc o).heap.size = w.heap.size + 1 := fun o => by simp
  have s2 : ∀ o o2, ((w.alloc o).alloc o2).heap.size = w.heap.size + 2 := fun o o2 => by simp
  refine ⟨_, rfl, ⟨⟨.slice none 0 0, .slice none 0 0, .slice none 0 0, ?_, ?_⟩, ⟨Wf.C8, ?_, rfl, fun k hk => ?_⟩, ⟨Wf.D8, ?_, rfl, fun k hk => ?_⟩⟩, by simp, ?_⟩
  · rw [Lib.alloc_old _ _ _ (by rw [s2]; omega), Lib.alloc_old _ _ _ (by rw [s1]; omega)]
    exact heap_alloc_new w _
  · exact Wo.In.w0 _
  · rw [Lib.alloc_old _ _ _ (by rw [s2]; omega)]
    have := heap_alloc_new (w.alloc (.cells #[.slice none 0 0, .slice none 0 0, .slice none 0 0] 26)) (.cells Wf.C8 22)
    rw [s1] at this
    exact this
  · refine ⟨.slice none 0 0, ?_, .inl ⟨rfl, rfl⟩⟩
    match k, hk with
    | 0, _ => rfl
    | 1, _ => rfl
    | 2, _ => rfl
    | 3, _ => rfl
    | 4, _ => rfl
    | 5, _ => rfl
    | 6, _ => rfl
    | 7, _ => rfl
  · have := heap_alloc_new ((w.alloc (.cells #[.slice none 0 0, .slice none 0 0, .slice none 0 0] 26)).alloc (.cells Wf.C8 22)) (.cells Wf.D8 4)
    rw [s2] at this
    exact this
  · match k, hk with
    | 0, _ => rfl
    | 1, _ => rfl
    | 2, _ => rfl
    | 3, _ => rfl
    | 4, _ => rfl
    | 5, _ => rfl
    | 6, _ => rfl
    | 7, _ => rfl
  · exact (((Below.refl _ _).alloc (Nat.le_refl _) _).alloc (by rw [s1]; omega) _).alloc (by rw [s2]; omega) _

/-- A box for a world is laid; nothing is stored into it. -/
theorem Wf.zbox (w : World) : ∃ W6 X1 X2 X3, w.alloc (.cells #[.slice none 0 0, .slice none 0 0, .slice none 0 0] 26) = W6 ∧
    (W6.cell? ⟨w.heap.size, 0, none⟩ = some (.slice none 0 0) ∧ W6.frozen? ⟨w.heap.size, 0, none⟩ = false ∧ W6.setCell ⟨w.heap.size, 0, none⟩ (.slice none 0 0) = X1) ∧
    (X1.cell? ⟨w.heap.size, 1, none⟩ = some (.slice none 0 0) ∧ X1.frozen? ⟨w.heap.size, 1, none⟩ = false ∧ X1.setCell ⟨w.heap.size, 1, none⟩ (.slice none 0 0) = X2) ∧
    (X2.cell? ⟨w.heap.size, 2, none⟩ = some (.slice none 0 0) ∧ X2.frozen? ⟨w.heap.size, 2, none⟩ = false ∧ X2.setCell ⟨w.heap.size, 2, none⟩ (.slice none 0 0) = X3) ∧
    X3.heap[w.heap.size]? = some (.cells #[.slice none 0 0, .slice none 0 0, .slice none 0 0] 26 (0, 0)) ∧ X3.heap.size = w.heap.size + 1 ∧ Below w.heap.size w X3 := by
  obtain ⟨W6, hW6, q6, hsz6, hb6⟩ := Wo.one w (.cells #[.slice none 0 0, .slice none 0 0, .slice none 0 0] 26)
  obtain ⟨p0, n0, k0, p1, n1, k1, p2, n2, k2, X1, X2, X3, hv, h0, h1, h2, HX⟩ := Wf.box (r := w.heap.size) q6 (Wf.oth3 (Wo.In.w0 w)) (Wo.In.w0 W6)
  simp only [Value.agg.injEq, Array.mk.injEq, List.cons.injEq, Value.slice.injEq, and_true] at hv
  obtain ⟨⟨rfl, rfl, rfl⟩, ⟨rfl, rfl, rfl⟩, rfl, rfl, rfl⟩ := hv
  exact ⟨W6, X1, X2, X3, hW6, h0, h1, h2, HX.out.2.1, HX.out.2.2.1.trans hsz6, HX.out.2.2.2.2 _ _ hb6 (Nat.le_refl _)⟩
set_option maxHeartbeats 8000000 in
set_option maxRecDepth 1000000 in
theorem Wf.walk (nv : Value) (names : ByteArray) (dv : Value) (ds : List ByteArray) (a : Int) (w : World) (hnames : By.In w nv names) (hds : Wf.Rows w dv ds) (ha : (Lit.int .u8 a).wf = true) :
    Calls Try.prog 3 #[nv, dv, .int .u8 a] w fun e w' => e = .returned (.bool true) ∧ Below w.heap.size w w' := by
  obtain ⟨ad0, cap0, rfl⟩ := hnames.slice
  obtain ⟨ad1, cap1, rfl, _⟩ := id hds
  have HN := Lib.hid hnames
  have HD := Lib.hid hds
  clear hnames hds
  obtain ⟨W3, hW3, hst0, hsz3, hb3⟩ := Wf.start w
  have HST0 := Lib.hid hst0
  have HB3 := Lib.hid hb3
  have HZ3 := Lib.hid hsz3
  have mk1 := Wf.mk1
  have mk2 := Wf.mk2
  have HA := Lib.hid ha
  have CS := Lib.hid (fun (w : World) (v : Value) (s : ByteArray) (h : By.In w v s) => Wo.conv_in (P := Try.prog) h 22 9 5 Try.underlying22 Try.underlying5 Try.underlying9)
  clear hst0 hb3 hsz3 ha
  go_enter Try.func3, Try.ntmps3
  go_wp2_with fail
  refine (Wo.awake_any _).mono ?_
  rintro y w1 ⟨rfl, hb1⟩
  have hst1 := HST0.out.below hb1 (Nat.le_refl _)
  have HST1 := Lib.hid hst1
  have HB1 := Lib.hid (HB3.out.trans (hb1.mono (by rw [HZ3.out]; omega)))
  have HZ1 : Hid (w.heap.size + 3 ≤ w1.heap.size) := Lib.hid (by have := hb1.size; rw [HZ3.out] at this; exact this)
  clear hst1 hb1 mk1 mk2
  go_wp2_with fail
  clear hW3
  go_loopw [10] (fun i wr => ∃ (k : Nat) (h : Nat → ByteArray) (t : Nat → Bool), i = .int .i64 k ∧ k ≤ 50 ∧ Wf.St w.heap.size wr (Wf.W h t) h t ∧ (∀ k, k < 8 → (h k).size ≤ 1000) ∧ Below w.heap.size w wr ∧ w.heap.size + 3 ≤ wr.heap.size) (fun i _ => 50 - (intOf i).toNat)
  case atStart => exact ⟨0, _, _, rfl, by decide, HST1.out, fun k hk => (by show (0 : Nat) ≤ 1000; decide), HB1.out, HZ1.out⟩
  case round =>
    obtain ⟨k, h, t, rfl, hk, hst, hh, hbw, hzw⟩ := hrel
    have HST := Lib.hid hst
    have HH := Lib.hid hh
    have HBW := Lib.hid hbw
    clear hst hh hbw
    go_upto_region 7 with fail
    go_cut [40] (fun s wx => wx = wr ∧ ∃ b : Bool, s = .bool b ∧ (b = true → k < names.size ∧ k < ds.length ∧ k < 50))
    case first =>
      by_cases h1 : (k : Int) < names.size
      · by_cases h2 : (k : Int) < ds.length
        · go_wp2_with fail
          go_meet
          exact ⟨rfl, _, rfl, fun hb => ⟨by omega, by omega, by have := of_decide_eq_true hb; omega⟩⟩
        · go_wp2_with fail
          go_meet
          exact ⟨rfl, _, rfl, fun hb => by cases hb⟩
      · go_wp2_with fail
        go_meet
        exact ⟨rfl, _, rfl, fun hb => by cases hb⟩
    case rest =>
    obtain ⟨hwc, bt, rfl, hbt⟩ := hcut
    have hwc2 := hwc.symm
    clear hwc
    subst hwc2
    rcases bt with _ | _
    rotate_left
    · obtain ⟨hl1, hl2, hl3⟩ := hbt rfl
      clear hbt
      obtain ⟨b0, off0, rfl, hb0l, _, hc0⟩ := (HN.out.below HBW.out (Nat.le_refl _)).at (by omega)
      have c0 := hc0 k hl1
      have hx : 0 ≤ Cd.byt names k ∧ Cd.byt names k < 256 := by
        unfold Cd.byt
        have := (names.get! k).toNat_lt
        omega
      generalize Cd.byt names k = x at *
      clear hc0
      obtain ⟨m, hm8, hm⟩ : ∃ m : Nat, m < 8 ∧ x % 8 = (m : Int) := ⟨(x % 8).toNat, by omega, by omega⟩
      obtain ⟨W5, hW5, hnm, hsz5, hb5⟩ := Wf.name_at wr m hm8
      have cs := CS.out W5 _ _ hnm
      obtain ⟨ad', cap', he, hrow⟩ := HD.out.below (HBW.out.trans (hb5.mono HBW.out.size)) (Nat.le_refl _)
      simp only [Value.slice.injEq, true_and] at he
      obtain ⟨rfl, rfl⟩ := he
      obtain ⟨b1, off1, rfl, hcap1, hb1l, hc1⟩ := hrow (by omega)
      obtain ⟨dv1, c1, hin1⟩ := hc1 k hl2
      clear hc1 hrow
      obtain ⟨d, hd⟩ : ∃ d, ds.getD k ⟨#[]⟩ = d := ⟨_, rfl⟩
      rw [hd] at hin1
      obtain ⟨ad3, cap3, rfl⟩ := hin1.slice
      have HIN1 := Lib.hid hin1
      have HST5 := Lib.hid (HST.out.below hb5 (Nat.le_refl _))
      have HB5 := Lib.hid (HBW.out.trans (hb5.mono HBW.out.size))
      have c05 := (hb5.cell (p := ⟨b0, off0 + k, none⟩) hb0l).trans c0
      have C05 := Lib.hid c05
      clear hnm hin1 hd hb5 c05
      go_upto_if 60 with (fail)
      go_cut [13] (fun v wx => wx = W5 ∧ ∃ ad e cap, v = .slice ad e.size cap ∧ By.In W5 (.slice ad e.size cap) e ∧ e.size ≤ 500)
      case first =>
        by_cases hbig : d.size > 500
        · have hbig1 : (d.size : Int) > 500 := by omega
          have ht := Lib.hid (HIN1.out.takeN 500 (by omega))
          obtain ⟨b3, off3, rfl, _, hcap3, _⟩ := HIN1.out.at (by omega)
          have hc500 : (500 : Int) ≤ (cap3 : Int) := by omega
          have hz5 : (Wo.bytesOf (d.data.toList.take 500)).size = 500 := by rw [Wo.bytesOf_size, List.length_take, Wo.len_list]; omega
          have HZ5 := Lib.hid hz5
          clear hz5
          go_wp2_with fail
          go_meet
          refine ⟨rfl, some ⟨b3, off3, none⟩, Wo.bytesOf (d.data.toList.take 500), cap3, ?_, ?_, ?_⟩
          · rw [HZ5.out]
          · rw [HZ5.out]; exact ht.out
          · rw [HZ5.out]; decide
        · have hbig1 : ¬ (d.size : Int) > 500 := by omega
          go_wp2_with fail
          go_meet
          exact ⟨rfl, _, _, _, rfl, HIN1.out, by omega⟩
      case rest =>
      obtain ⟨rfl, ade, e, cape, rfl, hine, he500⟩ := hcut
      clear HIN1 c1 cs
      obtain ⟨W6a, W6b, W6c, W6, hW6, ⟨z00, z01, z02⟩, ⟨z10, z11, z12⟩, ⟨z20, z21, z22⟩, q6, hsz6, hb6⟩ := Wf.zbox wc
      have HINE := Lib.hid (hine.below hb6 (Nat.le_refl _))
      have hst6 := HST5.out.below hb6 (Nat.le_refl _)
      have HST6 := Lib.hid hst6
      have HB6 := Lib.hid (HB5.out.trans (hb6.mono HB5.out.size))
      have c06 : W6.cell? ⟨b0, off0 + k, none⟩ = some (.int .u8 x) := (hb6.cell (p := ⟨b0, off0 + k, none⟩) (by show b0 < wc.heap.size; omega)).trans C05.out
      have Q6 := Lib.hid q6
      have HL6 : Hid (w.heap.size + 1 + 1 < wc.heap.size ∧ W6.heap.size = wc.heap.size + 1) := Lib.hid ⟨by omega, hsz6⟩
      obtain ⟨fa, fn, fc, ia, inn, ic, oa, on, oc, r0, r1, r2, hinW, hfn⟩ := hst6.world
      clear hfn
      obtain ⟨ha, hcp, rh, hinh, rt⟩ := hst6.reads hm8
      have HINH := Lib.hid hinh
      have HIW := Lib.hid hinW
      obtain ⟨r, hr3, hr⟩ : ∃ r : Nat, r < 3 ∧ x / 8 % 3 = (r : Int) := ⟨(x / 8 % 3).toNat, by omega, by omega⟩
      clear hine hst6 hb6 q6 hsz6 hinh hinW hsz5 c0
      have hr' : r = 0 ∨ r = 1 ∨ r = 2 := by omega
      rcases hr' with rfl | rfl | rfl
      · have KP := Wo.Put_any (Wf.W h t) _ (Wf.nm m) e _ W6 HIW.out HINE.out (by omega)
        rw [Wf.put h t m hm8 e (by omega) (fun j hj => by have := HH.out j hj; omega)] at KP
        have KP := Lib.hid KP
        go_wp2_with fail
        refine KP.out.mono ?_
        rintro y w7 ⟨vp, rfl, hinp, hb7⟩
        clear KP r0 r1 r2 rh rt c06
        have q7 := (hb7.block wc.heap.size (by rw [HL6.out.2]; omega)).trans Q6.out
        obtain ⟨p0, n0, k0, p1, n1, k1, p2, n2, k2, X1, X2, X3, rfl, ⟨f0, g0, e0⟩, ⟨f1, g1, e1⟩, ⟨f2, g2, e2⟩, HX⟩ := Wf.box (r := wc.heap.size) q7 (Wf.oth3 (Wo.In.w0 w)) hinp
        have HST7 := Lib.hid ((HST6.out.below hb7 (Nat.le_refl _)).othr q7 (Wf.oth3 (Wo.In.w0 w)) HX.out.2.2.2.1 (Nat.le_of_eq HX.out.2.2.1.symm) HL6.out.1)
        have HINE7 := Lib.hid ((HINE.out.below hb7 (Nat.le_refl _)).othr q7 (Wf.oth3 (Wo.In.w0 w)) HX.out.2.2.2.1 (Nat.le_of_eq HX.out.2.2.1.symm))
        have HB7 := Lib.hid (HX.out.2.2.2.2 _ _ (HB6.out.trans (hb7.mono HB6.out.size)) (by have := HL6.out.1; omega))
        have hx7 : w.heap.size + 1 + 1 < X3.heap.size ∧ wc.heap.size < X3.heap.size ∧ X3.heap[wc.heap.size]? = _ := ⟨by rw [HX.out.2.2.1]; have := hb7.size; have := HL6.out; omega, (Array.getElem?_eq_some_iff.1 HX.out.2.1).1, HX.out.2.1⟩
        have HX7 := Lib.hid hx7
        have HINP := Lib.hid HX.out.1
        clear hinp hb7 hx7 HX q7
        obtain ⟨i0, hi0, hz0, hz1, hz2⟩ := info_parts Wo.infoByte
        have ha8 : ∀ o, Below X3.heap.size X3 (X3.alloc o) := fun o => (Below.refl _ _).alloc (Nat.le_refl _) _
        have HA8 := Lib.hid ha8
        clear ha8
        go_wp2_with (at_builtin; refine Wo.wpList_append_fresh rfl _ _ 22 rfl i0 (.int .u8 0) Try.underlying22 hi0 hz0 hz1 hz2 rfl X3.heap.size rfl (Wo.new_at X3 _ _ rfl) _ e rfl (HINE7.out.below (HA8.out _) (Nat.le_refl _)) (by omega) ?_)
        intro v8 w8 hu8 hb8 _
        obtain ⟨a8, c8, rfl⟩ := hu8.1.slice
        have hk8 : Below X3.heap.size X3 w8 := (HA8.out (.cells #[] 5)).trans (hb8.mono (by first | (simp; done) | (simp; omega)))
        obtain ⟨Y1, Y2, ⟨y1, ⟨y1u, y1c⟩, y1f⟩, ⟨y2, ⟨y2u, y2c⟩, y2f⟩, HY⟩ := (HST7.out.below hk8 (Nat.le_refl _)).both hm8 hu8.1 true (HB7.out.trans (hk8.mono HB7.out.size)) (Nat.le_refl _)
        have q8 := (HY.out.2.2.2.2 _ (by have := HL6.out.1; omega) (by have := HL6.out.1; omega)).trans ((hk8.block _ HX7.out.2.1).trans HX7.out.2.2)
        have u0 := Dt.cell_of q8 0
        have u1 := Dt.cell_of q8 1
        have u2 := Dt.cell_of q8 2
        obtain ⟨z0, z1, z2, Z1, Z2, Z3, ⟨v0, v0f, v0s⟩, ⟨v1, v1f, v1s⟩, ⟨v2, v2f, v2s⟩, HZ⟩ := HY.out.1.put (HY.out.2.2.2.1 (HINP.out.below hk8 (Nat.le_refl _))) HY.out.2.1 (Nat.le_refl _)
        have HZS : Hid (w.heap.size + 3 ≤ Z3.heap.size) := Lib.hid (by rw [HZ.out.2.2, HY.out.2.2.1]; have := hk8.size; have := HX7.out.1; omega)
        clear hu8 hb8 hk8 q8 HY
        go_wp2_with fail
        go_roundw
        case rel => exact ⟨k + 1, _, _, by first | rfl | go_num | (simp; try omega), by omega, HZ.out.1, Wf.upd_le HH.out (by omega), HZ.out.2.1, HZS.out⟩
        case measure => simp [intOf]; omega
      · have KP := Wo.Delete_any (Wf.W h t) _ (Wf.nm m) W6 HIW.out
        rw [Wf.del h t m hm8 (fun j hj => by have := HH.out j hj; omega)] at KP
        have KP := Lib.hid KP
        have HTM : Hid (∃ b, t m = b) := Lib.hid ⟨_, rfl⟩
        go_wp2_with fail
        refine KP.out.mono ?_
        rintro y w7 ⟨vp, rfl, hinp, hb7⟩
        clear KP r0 r1 r2 rh rt c06
        have q7 := (hb7.block wc.heap.size (by rw [HL6.out.2]; omega)).trans Q6.out
        obtain ⟨p0, n0, k0, p1, n1, k1, p2, n2, k2, X1, X2, X3, rfl, ⟨f0, g0, e0⟩, ⟨f1, g1, e1⟩, ⟨f2, g2, e2⟩, HX⟩ := Wf.box (r := wc.heap.size) q7 (Wf.oth3 (Wo.In.w0 w)) hinp
        have hst7 := (HST6.out.below hb7 (Nat.le_refl _)).othr q7 (Wf.oth3 (Wo.In.w0 w)) HX.out.2.2.2.1 (Nat.le_of_eq HX.out.2.2.1.symm) HL6.out.1
        have HB7 := Lib.hid (HX.out.2.2.2.2 _ _ (HB6.out.trans (hb7.mono HB6.out.size)) (by have := HL6.out.1; omega))
        have HX7 : Hid (w.heap.size + 1 + 1 < X3.heap.size ∧ wc.heap.size < X3.heap.size ∧ X3.heap[wc.heap.size]? = _) := Lib.hid ⟨by rw [HX.out.2.2.1]; have := hb7.size; have := HL6.out; omega, (Array.getElem?_eq_some_iff.1 HX.out.2.1).1, HX.out.2.1⟩
        have HINP := Lib.hid HX.out.1
        obtain ⟨hq, hcq, _, _, rt⟩ := hst7.reads hm8
        have HST7 := Lib.hid hst7
        clear hinp hb7 HX q7 hst7 HTM
        cases ht : t m with
        | false =>
          rw [ht] at rt
          simp only [ht, if_false, Bool.false_eq_true] at HINP ⊢
          have HT := Lib.hid ht
          clear ht
          go_wp2_with fail
          go_roundw
          case rel => exact ⟨k + 1, _, _, by first | rfl | go_num | (simp; try omega), by omega, HST7.out, HH.out, HB7.out, by have := HX7.out.1; omega⟩
          case measure => simp [intOf]; omega
        | true =>
          rw [ht] at rt
          simp only [ht, if_true] at HINP ⊢
          have HT := Lib.hid ht
          clear ht
          obtain ⟨Y2, y2, ⟨y2u, y2c⟩, y2f, st2, by2, ys2, _, hiW, yo2⟩ := HST7.out.setT hm8 false HB7.out (Nat.le_refl _)
          have q8 := (yo2 _ (by have := HL6.out.1; omega)).trans HX7.out.2.2
          have u0 := Dt.cell_of q8 0
          have u1 := Dt.cell_of q8 1
          have u2 := Dt.cell_of q8 2
          obtain ⟨z0, z1, z2, Z1, Z2, Z3, ⟨v0, v0f, v0s⟩, ⟨v1, v1f, v1s⟩, ⟨v2, v2f, v2s⟩, HZ⟩ := st2.put (hiW HINP.out) by2 (Nat.le_refl _)
          have HZS : Hid (w.heap.size + 3 ≤ Z3.heap.size) := Lib.hid (by rw [HZ.out.2.2, ys2]; have := HX7.out.1; omega)
          clear st2 by2 ys2 hiW yo2 q8
          go_wp2_with fail
          go_roundw
          case rel => exact ⟨k + 1, _, _, by first | rfl | go_num | (simp; try omega), by omega, HZ.out.1, HH.out, HZ.out.2.1, HZS.out⟩
          case measure => simp [intOf]; omega
      · cases ht : t m with
        | false =>
          rw [ht] at rt
          have HT := Lib.hid ht
          clear ht r0 r1 r2 rh
          go_wp2_with fail
          go_roundw
          case rel => exact ⟨k + 1, _, _, by first | rfl | go_num | (simp; try omega), by omega, HST6.out, HH.out, HB6.out, by have := HL6.out; omega⟩
          case measure => simp [intOf]; omega
        | true =>
          rw [ht] at rt
          have HT := Lib.hid ht
          clear ht
          have hhm := HH.out m hm8
          have hab := bounds_u8 HA.out
          obtain ⟨n, hn⟩ : ∃ n : Nat, (wrap64 a).tmod (((h m).size : Int) + 1) = (n : Int) := ⟨((wrap64 a).tmod (((h m).size : Int) + 1)).toNat, by
            have := Int.tmod_nonneg (((h m).size : Int) + 1) (show 0 ≤ wrap64 a by rw [IntWalk.wrap64_in a (by omega)]; omega)
            omega⟩
          have hnb : n ≤ (h m).size ∧ n ≤ 255 := by
            rw [IntWalk.wrap64_in a (by omega), Int.tmod_eq_emod_of_nonneg (by omega)] at hn
            have h1 := Int.emod_lt_of_pos a (show (0 : Int) < ((h m).size : Int) + 1 by omega)
            have h2 : a % (((h m).size : Int) + 1) ≤ a := by
              have e1 := Int.emod_add_mul_ediv a (((h m).size : Int) + 1)
              have e2 := Int.mul_nonneg (show (0 : Int) ≤ ((h m).size : Int) + 1 by omega) (Int.ediv_nonneg hab.1 (show (0 : Int) ≤ ((h m).size : Int) + 1 by omega))
              omega
            omega
          have HNB := Lib.hid hnb
          have hnwf : (Lit.int .i64 (n : Int)).wf = true := by
            have := wrap64_wf (n : Int)
            rwa [IntWalk.wrap64_in (n : Int) (by omega)] at this
          have KP := Wo.Write_any (Wf.W h t) _ (Wf.nm m) n hnwf e _ W6 HIW.out HINE.out (by omega)
          rw [Wf.write h t m hm8 n e he500 hnb.1 hnb.2 (fun j hj => by have := HH.out j hj; omega) HT.out] at KP
          have KP := Lib.hid KP
          have HHM := Lib.hid hhm
          clear hab hnb
          go_wp2_with fail
          refine KP.out.mono ?_
          rintro y w7 ⟨vp, rfl, hinp, hb7⟩
          clear KP r0 r1 r2 rh rt c06 hhm
          have q7 := (hb7.block wc.heap.size (by rw [HL6.out.2]; omega)).trans Q6.out
          obtain ⟨p0, n0, k0, p1, n1, k1, p2, n2, k2, X1, X2, X3, rfl, ⟨f0, g0, e0⟩, ⟨f1, g1, e1⟩, ⟨f2, g2, e2⟩, HX⟩ := Wf.box (r := wc.heap.size) q7 (Wf.oth3 (Wo.In.w0 w)) hinp
          have hst7 := (HST6.out.below hb7 (Nat.le_refl _)).othr q7 (Wf.oth3 (Wo.In.w0 w)) HX.out.2.2.2.1 (Nat.le_of_eq HX.out.2.2.1.symm) HL6.out.1
          have HINE7 := Lib.hid ((HINE.out.below hb7 (Nat.le_refl _)).othr q7 (Wf.oth3 (Wo.In.w0 w)) HX.out.2.2.2.1 (Nat.le_of_eq HX.out.2.2.1.symm))
          have HB7 := Lib.hid (HX.out.2.2.2.2 _ _ (HB6.out.trans (hb7.mono HB6.out.size)) (by have := HL6.out.1; omega))
          have HX7 : Hid (w.heap.size + 1 + 1 < X3.heap.size ∧ wc.heap.size < X3.heap.size ∧ X3.heap[wc.heap.size]? = _) := Lib.hid ⟨by rw [HX.out.2.2.1]; have := hb7.size; have := HL6.out; omega, (Array.getElem?_eq_some_iff.1 HX.out.2.1).1, HX.out.2.1⟩
          have HINP := Lib.hid HX.out.1
          obtain ⟨hq, hcq, rh, hinq, rt⟩ := hst7.reads hm8
          have HINQ := Lib.hid hinq
          have HST7 := Lib.hid hst7
          clear hinp hb7 HX q7 hst7 hinq rt
          have hnm1 := HNB.out.1
          have hcpq : (n : Int) ≤ (hcq : Int) := by
            rcases HINQ.out with ⟨hv, h0⟩ | ⟨aa, cc, hv, h0⟩ | ⟨h0, b, off, cc, hv, h1, _⟩
            · simp only [Value.slice.injEq] at hv; omega
            · omega
            · simp only [Value.slice.injEq] at hv; omega
          obtain ⟨i0, hi0, hz0, hz1, hz2⟩ := info_parts Wo.infoByte
          have hbA : Below X3.heap.size X3 (X3.alloc (.cells #[] 5)) := (Below.refl _ _).alloc (Nat.le_refl _) _
          have HBA := Lib.hid hbA
          have rhA := (hbA.cell (p := ⟨w.heap.size + 1, m, none⟩) (by show w.heap.size + 1 < X3.heap.size; have := HX7.out.1; omega)).trans rh
          clear hbA rh
          go_wp2_with (at_builtin; refine Wo.wpList_append_fresh rfl _ _ 22 rfl i0 (.int .u8 0) Try.underlying22 hi0 hz0 hz1 hz2 rfl X3.heap.size rfl (Wo.new_at X3 _ _ rfl) _ (Wo.bytesOf ((h m).data.toList.take n)) rfl ?c3 ?c4 ?_)
          case c3 => exact (HINQ.out.below HBA.out (Nat.le_refl _)).takeN n hnm1
          case c4 => rw [Wo.bytesOf_size, List.length_take, Wo.len_list]; have := HNB.out.2; omega
          intro v8 w8 hu8 hb8 hl8
          have hs8 : (Wo.bytesOf ((h m).data.toList.take n)).size = n := by rw [Wo.bytesOf_size, List.length_take, Wo.len_list]; omega
          obtain ⟨P8, hP8⟩ : ∃ P, Wo.bytesOf ((h m).data.toList.take n) = P := ⟨_, rfl⟩
          rw [hP8] at hu8 hs8
          have hk8 : Below X3.heap.size X3 w8 := HBA.out.trans (hb8.mono (by first | (simp; done) | (simp; omega)))
          have hge8 : Wo.Ge X3.heap.size v8 := fun q hq => by
            rcases hl8 with hl | ⟨hl, _⟩
            · rw [hl] at hq; cases hq; exact Nat.le_refl _
            · rw [hl] at hq; cases hq; exact Nat.le_of_lt (by simp)
          have hown8 := hu8.own hge8
          obtain ⟨a8, c8, rfl⟩ := hu8.1.slice
          have HK8 := Lib.hid hk8
          have HP8 := Lib.hid hP8
          have HS8 := Lib.hid hs8
          have HINE8 := Lib.hid (HINE7.out.below hk8 (Nat.le_refl _))
          have HGE8 := Lib.hid hge8
          have hz8 := hk8.size
          clear hu8 hb8 hl8 hk8 hP8 hs8 hge8 rhA
          go_wp2_with (at_builtin; refine By.wpList_append_bytes rfl _ _ 22 rfl X3.heap.size 5 i0 (.int .u8 0) Try.underlying22 hi0 hz0 hz1 hz2 rfl _ P8.size _ rfl hown8 _ e rfl HINE8.out ?c3 ?c4 hz8 ?_)
          case c3 => rw [HS8.out]; unfold maxLen; have := HNB.out.2; omega
          case c4 => rw [HS8.out]; have := HNB.out.2; omega
          intro v9 w9 hown9 hgr9 _
          have hb9 : Below X3.heap.size X3 w9 := HK8.out.grown hgr9 hz8 (fun q hq => HGE8.out q hq)
          obtain ⟨P9, hP9⟩ : ∃ P, Wo.bytesOf (P8.data.toList ++ e.data.toList) = P := ⟨_, rfl⟩
          have hap := Wo.bytesOf_app P8 e
          rw [hap.1, ← hap.2, hP9] at hown9
          have hs9 : P9.size = n + e.size := by rw [← hP9, hap.2, HS8.out]
          have hin9 : By.In w9 v9 P9 := By.In.of_own hown9
          obtain ⟨a9, c9, rfl⟩ := hin9.slice
          obtain ⟨hq9, hcq9, rh9, hinh9, _⟩ := ((HST7.out.below hb9 (Nat.le_refl _)).reads hm8)
          obtain ⟨pre, suf, hpre, hsuf, -, hsp1, hsp2, -⟩ := Wo.splice_one (h m) n e HNB.out.1
          rw [HP8.out] at hpre
          subst hpre
          rw [hP9] at hsp1 hsp2
          have HB9 := Lib.hid hb9
          have HP9 := Lib.hid hP9
          have HS9 := Lib.hid hs9
          have HSP1 := Lib.hid hsp1
          have HSP2 := Lib.hid hsp2
          have HSUF := Lib.hid hsuf
          have HZ9 : Hid (X3.heap.size ≤ w9.heap.size) := Lib.hid hb9.size
          by_cases hlt9 : P9.size < (h m).size
          · have hlt9i : (P9.size : Int) < ((h m).size : Int) := by omega
            obtain ⟨bq, oq, rfl, _, hcap9, _⟩ := hinh9.at (by omega)
            have hne9 : ¬ hcq9 = P9.size := by omega
            have hdr := hinh9.dropN P9.size hlt9
            rw [hs9, hsuf, ← hs9] at hdr
            have hsz9 : suf.size = (h m).size - P9.size := by rw [← hsuf, Wo.bytesOf_size, List.length_drop, Wo.len_list, hs9]
            have HDR := Lib.hid hdr
            clear hap hown8 hgr9 hb9 hP9 hs9 hsp1 hsp2 hsuf hin9 hinh9 hdr
            have hz9 := HZ9.out
            have HGE9 := Lib.hid (fun q hq => (hown9.lt q hq).1 : ∀ q, (Value.slice a9 P9.size c9).ownBlock = some q → X3.heap.size ≤ q)
            have HSZ := Lib.hid hsz9
            clear hsz9
            go_wp2_with (at_builtin; refine By.wpList_append_bytes rfl _ _ 22 rfl X3.heap.size 5 i0 (.int .u8 0) Try.underlying22 hi0 hz0 hz1 hz2 rfl _ P9.size _ rfl hown9 _ suf rfl HDR.out ?c3 ?c4 hz9 ?_)
            case c3 => rw [HSZ.out]; unfold maxLen; have := HHM.out; omega
            case c4 => rw [HSZ.out]; have := HHM.out; omega
            intro v10 w10 hown10 hgr10 _
            have hb10 : Below X3.heap.size X3 w10 := HB9.out.grown hgr10 hz9 (fun q hq => HGE9.out q hq)
            obtain ⟨P10, hP10⟩ : ∃ P, Wo.bytesOf (P9.data.toList ++ suf.data.toList) = P := ⟨_, rfl⟩
            have hap := Wo.bytesOf_app P9 suf
            rw [hap.1, ← hap.2, hP10] at hown10
            have hs10 : P10.size ≤ 1000 := by rw [← hP10, hap.2, HSZ.out]; have := HHM.out; omega
            have hin10 : By.In w10 v10 P10 := By.In.of_own hown10
            obtain ⟨a10, c10, rfl⟩ := hin10.slice
            obtain ⟨Y1, y1, ⟨y1u, y1c⟩, y1f, st1, by1, ys1, _, iW, yo1⟩ := (HST7.out.below hb10 (Nat.le_refl _)).setH hm8 hin10 (HB7.out.trans (hb10.mono HB7.out.size)) (Nat.le_refl _)
            have q8 := (yo1 _ (by have := HL6.out.1; omega)).trans ((hb10.block _ HX7.out.2.1).trans HX7.out.2.2)
            have u0 := Dt.cell_of q8 0
            have u1 := Dt.cell_of q8 1
            have u2 := Dt.cell_of q8 2
            rw [HSP1.out, hP10] at HINP
            obtain ⟨z0, z1, z2, Z1, Z2, Z3, ⟨v0, v0f, v0s⟩, ⟨v1, v1f, v1s⟩, ⟨v2, v2f, v2s⟩, HZ⟩ := st1.put (iW (HINP.out.below hb10 (Nat.le_refl _))) by1 (Nat.le_refl _)
            have HZS : Hid (w.heap.size + 3 ≤ Z3.heap.size) := Lib.hid (by rw [HZ.out.2.2, ys1]; have := hb10.size; have := HX7.out.1; omega)
            have HS10 := Lib.hid hs10
            clear hap hown9 hown10 hgr10 hb10 hP10 hs10 hin10 st1 by1 ys1 iW yo1 q8
            go_wp2_with fail
            go_roundw
            case rel => exact ⟨k + 1, _, _, by first | rfl | go_num | (simp; try omega), by omega, HZ.out.1, Wf.upd_le HH.out HS10.out, HZ.out.2.1, HZS.out⟩
            case measure => simp [intOf]; omega
          · have hlt9i : ¬ (P9.size : Int) < ((h m).size : Int) := by omega
            obtain ⟨Y1, y1, ⟨y1u, y1c⟩, y1f, st1, by1, ys1, _, iW, yo1⟩ := (HST7.out.below hb9 (Nat.le_refl _)).setH hm8 hin9 (HB7.out.trans (hb9.mono HB7.out.size)) (Nat.le_refl _)
            have q8 := (yo1 _ (by have := HL6.out.1; omega)).trans ((hb9.block _ HX7.out.2.1).trans HX7.out.2.2)
            have u0 := Dt.cell_of q8 0
            have u1 := Dt.cell_of q8 1
            have u2 := Dt.cell_of q8 2
            rw [HSP2.out (by omega)] at HINP
            obtain ⟨z0, z1, z2, Z1, Z2, Z3, ⟨v0, v0f, v0s⟩, ⟨v1, v1f, v1s⟩, ⟨v2, v2f, v2s⟩, HZ⟩ := st1.put (iW (HINP.out.below hb9 (Nat.le_refl _))) by1 (Nat.le_refl _)
            have HZS : Hid (w.heap.size + 3 ≤ Z3.heap.size) := Lib.hid (by rw [HZ.out.2.2, ys1]; have := hb9.size; have := HX7.out.1; omega)
            clear hap hown8 hown9 hgr9 hb9 hP9 hs9 hsp1 hsp2 hsuf hin9 hinh9 st1 by1 ys1 iW yo1 q8
            go_wp2_with fail
            go_roundw
            case rel => exact ⟨k + 1, _, _, by first | rfl | go_num | (simp; try omega), by omega, HZ.out.1, Wf.upd_le HH.out (by have := HS9.out; have := HNB.out.2; omega), HZ.out.2.1, HZS.out⟩
            case measure => simp [intOf]; omega
    · clear hbt
      go_wp2_with fail
      go_loopw [18, 19] (fun c i wx => ∃ j : Nat, i = .int .i64 j ∧ c = .int .i64 (((List.range j).filter t).length : Nat) ∧ j ≤ 8 ∧ Wf.St w.heap.size wx (Wf.W h t) h t ∧ Below w.heap.size w wx ∧ w.heap.size + 3 ≤ wx.heap.size) (fun _ i _ => 8 - (intOf i).toNat)
      case atStart => exact ⟨0, rfl, rfl, by decide, HST.out, HBW.out, hzw⟩
      case round =>
        obtain ⟨j, rfl, rfl, hj8, hst, hbx, hzx⟩ := hrel
        obtain ⟨cnt, hcnt⟩ : ∃ cnt, ((List.range j).filter t).length = cnt := ⟨_, rfl⟩
        rw [hcnt]
        have hcj : cnt ≤ j := by
          have := List.length_filter_le t (List.range j)
          rw [List.length_range, hcnt] at this
          exact this
        have HCNT := Lib.hid hcnt
        have HST := Lib.hid hst
        have HBX := Lib.hid hbx
        clear hcnt hst hbx
        obtain ⟨fa, fn, fc, ia, inn, ic, oa, on, oc, r0, r1, r2, hinW, hfn⟩ := HST.out.world
        by_cases hjl : j < 8
        · clear r0 r1 r2 hinW hfn
          obtain ⟨W5, hW5, hnm, hsz5, hb5⟩ := Wf.name_at wr j hjl
          have cs := CS.out W5 _ _ hnm
          have hst5 := HST.out.below hb5 (Nat.le_refl _)
          have HST5 := Lib.hid hst5
          have HB5 := Lib.hid (HBX.out.trans (hb5.mono HBX.out.size))
          obtain ⟨fa, fn, fc, ia, inn, ic, oa, on, oc, r0, r1, r2, hinW, hfn⟩ := hst5.world
          obtain ⟨_, _, _, _, _, _, _, _, _, e0, e1, e2, _, _⟩ := id HST.out.world
          have KG := Wo.Get_any (Wf.W h t) _ (Wf.nm j) W5 hinW
          rw [Wf.get h t j hjl (fun i hi => by have := HH.out i hi; omega)] at KG
          have KG := Lib.hid KG
          have r0' : wr.cell? ⟨w.heap.size, 0, none⟩ = some (.slice fa fn fc) := (hb5.cell (p := ⟨w.heap.size, 0, none⟩) (by show w.heap.size < wr.heap.size; omega)).symm.trans r0
          have r1' : wr.cell? ⟨w.heap.size, 1, none⟩ = some (.slice ia inn ic) := (hb5.cell (p := ⟨w.heap.size, 1, none⟩) (by show w.heap.size < wr.heap.size; omega)).symm.trans r1
          have r2' : wr.cell? ⟨w.heap.size, 2, none⟩ = some (.slice oa on oc) := (hb5.cell (p := ⟨w.heap.size, 2, none⟩) (by show w.heap.size < wr.heap.size; omega)).symm.trans r2
          have HZ5 : Hid (w.heap.size + 3 ≤ W5.heap.size) := Lib.hid (by omega)
          clear hnm hst5 hinW hfn e0 e1 e2 r0 r1 r2 hb5
          go_wp2_with fail
          refine KG.out.mono ?_
          rintro y w6 ⟨v6, rfl, hu6, hb6, _⟩
          obtain ⟨hq, hcq, rh, hinq, rt⟩ := (HST5.out.below hb6 (Nat.le_refl _)).reads hjl
          have HST6 := Lib.hid (HST5.out.below hb6 (Nat.le_refl _))
          have HB6 := Lib.hid (HB5.out.trans (hb6.mono HB5.out.size))
          have HZ6 : Hid (w.heap.size + 3 ≤ w6.heap.size) := Lib.hid (by have := hb6.size; have := HZ5.out; omega)
          have hfil : ((List.range (j + 1)).filter t).length = cnt + (if t j = true then 1 else 0) := by
            rw [List.range_succ, List.filter_append, List.length_append, HCNT.out]
            cases h0 : t j <;> simp [h0]
          have HFIL := Lib.hid hfil
          clear KG r0' r1' r2' cs hW5 hfil hb6
          cases ht : t j with
          | false =>
            simp only [ht, if_false, Bool.false_eq_true] at hu6 rt HFIL ⊢
            have HT := Lib.hid ht
            obtain ⟨a6, c6, rfl⟩ := hu6.1.slice
            clear ht hu6 hinq
            go_wp2_with fail
            go_roundw
            case rel => exact ⟨j + 1, by first | rfl | go_num | (simp; try omega), by rw [HFIL.out]; rfl, by omega, HST6.out, HB6.out, HZ6.out⟩
            case measure => simp [intOf]; omega
          | true =>
            simp only [ht, if_true] at hu6 rt HFIL ⊢
            have HT := Lib.hid ht
            obtain ⟨a6, c6, rfl⟩ := hu6.1.slice
            have KS := Lib.hid (fun w' (h6 : Below w6.heap.size w6 w') => By.same_any (h j) (.slice a6 (h j).size c6) (.slice hq (h j).size hcq) w' (by have := HH.out j hjl; omega) (hu6.1.below h6 (Nat.le_refl _)) (hinq.below h6 (Nat.le_refl _)))
            clear ht hu6 hinq
            go_wp2_with fail
            refine (KS.out _ (Below.refl _ _)).mono ?_
            rintro y w7 ⟨rfl, hb7⟩
            obtain ⟨hq7, hcq7, rh7, _, rt7⟩ := (HST6.out.below hb7 (Nat.le_refl _)).reads hjl
            have rt := rt7
            rw [HT.out] at rt
            have HST7 := Lib.hid (HST6.out.below hb7 (Nat.le_refl _))
            have HB7 := Lib.hid (HB6.out.trans (hb7.mono HB6.out.size))
            have HZ7 : Hid (w.heap.size + 3 ≤ w7.heap.size) := Lib.hid (by have := hb7.size; have := HZ6.out; omega)
            clear hb7 rt7 KS rh rh7
            go_wp2_with fail
            go_roundw
            case rel => exact ⟨j + 1, by first | rfl | go_num | (simp; try omega), by rw [HFIL.out]; first | rfl | (congr 1; simp), by omega, HST7.out, HB7.out, HZ7.out⟩
            case measure => simp [intOf]; omega
        · obtain rfl : j = 8 := by omega
          have hc := Wf.count h t 8
          rw [HCNT.out] at hc
          have hfn2 : fn = cnt := hfn.trans hc
          subst hfn2
          have KS := Wo.Sound_any (Wf.W h t) _ wr hinW
          rw [Wf.sound h t (fun i hi => by have := HH.out i hi; omega)] at KS
          have KS := Lib.hid KS
          clear hfn hc hinW
          go_wp2_with fail
          refine KS.out.mono ?_
          rintro y w7 ⟨rfl, hb7⟩
          have HB7 := Lib.hid (HBX.out.trans (hb7.mono HBX.out.size))
          clear hb7 KS r0 r1 r2
          go_wp2_with fail
          go_ret
          exact ⟨rfl, HB7.out⟩
theorem worldFiles.walk (nv : Value) (names : ByteArray) (dv : Value) (ds : List ByteArray) (a : Int) (w : World) (hs : names.size ≤ 140737488351232) (hnames : By.In w nv names) (hds : Wf.Rows w dv ds) (ha : (Lit.int .u8 a).wf = true) :
    Calls Try.prog 3 #[nv, dv, .int .u8 a] w fun e w' => e = .returned (.bool true) ∧ Below w.heap.size w w' := Wf.walk nv names dv ds a w hnames hds ha
end Go.Proofs.Ytdikkknjdbchbaa
