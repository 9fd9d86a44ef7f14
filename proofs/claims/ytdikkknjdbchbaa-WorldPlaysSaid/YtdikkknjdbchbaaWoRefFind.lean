/-
  sextantref07.find and without.
-/
import Derived.Test.YtdikkknjdbchbaaWoRefSound
namespace Go.Proofs.Ytdikkknjdbchbaa
open Go.RowKit
set_option linter.unusedVariables false

def Wo.is (name : ByteArray) (f : Wo.F) : Bool := f.1.toList == name.toList
def Wo.pos (fs : List Wo.F) (name : ByteArray) : Nat := fs.findIdx (Wo.is name)
def Wo.posI (fs : List Wo.F) (name : ByteArray) : Int := if Wo.pos fs name < fs.length then (Wo.pos fs name : Int) else -1
theorem Wo.posI_at {fs : List Wo.F} {name : ByteArray} {k : Nat} (hk : k < fs.length) (h : ∀ j, j < k → Wo.is name (fs.getD j Wo.e0) = false) (h1 : Wo.is name (fs.getD k Wo.e0) = true) : Wo.posI fs name = (k : Int) := by
  have e : Wo.pos fs name = k := by
    unfold Wo.pos
    rw [List.findIdx_eq hk]
    refine ⟨?_, fun j hj => ?_⟩
    · simpa [List.getD_eq_getElem?_getD, hk] using h1
    · have := h j hj
      have hj2 : j < fs.length := by omega
      simpa [List.getD_eq_getElem?_getD, hj2] using this
  unfold Wo.posI
  rw [e, if_pos hk]
theorem Wo.posI_no {fs : List Wo.F} {name : ByteArray} (h : ∀ j, j < fs.length → Wo.is name (fs.getD j Wo.e0) = false) : Wo.posI fs name = -1 := by
  have e : ¬ Wo.pos fs name < fs.length := by
    unfold Wo.pos
    rw [List.findIdx_lt_length]
    rintro ⟨x, hx, hp⟩
    obtain ⟨j, hj, rfl⟩ := List.getElem_of_mem hx
    have := h j hj
    simp [List.getD_eq_getElem?_getD, hj] at this
    rw [this] at hp
    cases hp
  unfold Wo.posI
  rw [if_neg e]

set_option maxHeartbeats 4000000 in
set_option maxRecDepth 1000000 in
theorem Wo.findR_any (W : Wo.W) (v : Value) (name : ByteArray) (w : World) (h : Wo.In w v W) (hl : W.1.length ≤ 4611686018427387904) : Calls Try.prog 30 #[v, .string name] w fun e w' => e = .returned (.int .i64 (Wo.posI W.1 name)) ∧ Below w.heap.size w w' := by
  obtain ⟨fv, iv, ov, rfl, hf, hi, ho⟩ := h
  obtain ⟨fs, inp, out⟩ := W
  simp only at hf hi ho hl ⊢
  obtain ⟨ad, cap, rfl⟩ := hf.slice
  have HF := Lib.hid hf
  have hb0 : ∀ o, Below w.heap.size w (w.alloc o) := fun o => (Below.refl _ _).alloc (Nat.le_refl _) _
  obtain ⟨ad1, cap1, rfl⟩ := hi.slice
  obtain ⟨ad2, cap2, rfl⟩ := ho.slice
  clear hf hi ho
  obtain ⟨z, hz⟩ : ∃ z, Wo.posI fs name = z := ⟨_, rfl⟩
  rw [hz]
  have HZ := Lib.hid hz
  clear hz
  go_enter Try.func30, Try.ntmps30
  go_wp2_with fail
  go_loopw [5] (fun i wr => ∃ k : Nat, i = .int .i64 k ∧ k ≤ fs.length ∧ (∀ j, j < k → Wo.is name (fs.getD j Wo.e0) = false) ∧ Below (w.heap.size + 1) (w.alloc (.cells #[.slice ad fs.length cap, .slice ad1 inp.size cap1, .slice ad2 out.size cap2] 26)) wr) (fun i _ => fs.length - (intOf i).toNat)
  case atStart => exact ⟨0, rfl, Nat.zero_le _, fun j h => by omega, Below.refl _ _⟩
  case round =>
    obtain ⟨k, rfl, hk, hall, hbw⟩ := hrel
    have HALL := Lib.hid hall
    have HBW := Lib.hid ((hb0 _).trans (hbw.mono (by omega)))
    have HBV := Lib.hid hbw
    have q0 := (hbw.block w.heap.size (by omega)).trans (heap_alloc_new w _)
    have d0 := Wo.cell_of q0 0
    clear hall hbw q0
    by_cases hlt : k < fs.length
    · obtain ⟨b, off, rfl, _, hcap, hbl, hcell⟩ := (HF.out.below HBW.out (Nat.le_refl _)).at (by omega)
      obtain ⟨c0, da, dc, c1, _⟩ := hcell k hlt
      have his : Wo.is name (fs.getD k Wo.e0) = ((fs.getD k Wo.e0).1.toList == name.toList) := rfl
      have HIS := Lib.hid his
      clear hcell his
      generalize hd : fs.getD k Wo.e0 = d at *
      have HD := Lib.hid hd
      clear hd
      cases he : (d.1.toList == name.toList) with
      | true =>
        have hr := Wo.posI_at hlt HALL.out (by rw [HD.out, HIS.out]; exact he)
        rw [HZ.out] at hr
        subst hr
        go_wp2_with fail
        go_ret
        exact ⟨rfl, HBW.out⟩
      | false =>
        have HE := Lib.hid (HIS.out.trans he)
        go_wp2_with fail
        go_roundw
        case rel =>
          refine ⟨k + 1, by first | rfl | go_num | (simp; try omega), by omega, fun i hi => ?_, HBV.out⟩
          rcases Nat.lt_or_ge i k with h | h
          · exact HALL.out i h
          · obtain rfl : i = k := by omega
            rw [HD.out]
            exact HE.out
        case measure => simp [intOf]; omega
    · have hr : z = -1 := by
        rw [← HZ.out]
        exact Wo.posI_no (fun j hj => HALL.out j (by omega))
      subst hr
      go_wp2_with fail
      go_ret
      exact ⟨rfl, HBW.out⟩

/-- Files in memory, with where the data of each lie. -/
def Wo.Row (w : World) (v : Value) (g : List (Wo.F × Value)) : Prop := ∃ ad cap, v = .slice ad g.length cap ∧ (0 < g.length → ∃ b off, ad = some ⟨b, off, none⟩ ∧ g.length ≤ cap ∧ b < w.heap.size ∧ ∀ (k : Nat) (x : Wo.F × Value), g[k]? = some x → w.cell? ⟨b, off + k * 2, none⟩ = some (.string x.1.1) ∧ w.cell? ⟨b, off + k * 2 + 1, none⟩ = some x.2) ∧ ∀ x ∈ g, Wo.InU w x.2 x.1.2
theorem Wo.Row.below {w w' : World} {v : Value} {g : List (Wo.F × Value)} {B : Nat} (h : Wo.Row w v g) (hb : Below B w w') (hB : w.heap.size ≤ B) : Wo.Row w' v g := by
  obtain ⟨ad, cap, hv, h1, h2⟩ := h
  refine ⟨ad, cap, hv, fun h0 => ?_, fun x hx => (h2 x hx).below hb hB⟩
  obtain ⟨b, off, h3, h4, h5, hc⟩ := h1 h0
  refine ⟨b, off, h3, h4, by have := hb.size; omega, fun k x hk => ?_⟩
  obtain ⟨c0, c1⟩ := hc k x hk
  exact ⟨(hb.cell (p := ⟨b, off + k * 2, none⟩) (by show b < B; omega)).trans c0, (hb.cell (p := ⟨b, off + k * 2 + 1, none⟩) (by show b < B; omega)).trans c1⟩
theorem Wo.Own.row {w : World} {B : Nat} {v : Value} {g : List (Wo.F × Value)} (h : Wo.Own w B v g) : Wo.Row w v g := by
  rcases h.1.2 with ⟨hv, h0⟩ | ⟨b, cap, cur, rfl, hB, hg, hn, _⟩
  · exact ⟨none, 0, by rw [hv, h0], fun h1 => by omega, h.2⟩
  · refine ⟨_, cap, rfl, fun h0 => ⟨b, 0, rfl, hn, (Array.getElem?_eq_some_iff.1 hg).1, fun k x hx => ?_⟩, h.2⟩
    obtain ⟨c0, c1⟩ := Wo.cellsG_at g k _ hx
    have e := fun j u hj => h.1.cells (g := b) rfl j u hj
    simp only [Sl.addr_add, Nat.zero_add] at e
    rw [Nat.zero_add]
    exact ⟨e _ _ c0, e _ _ c1⟩
theorem Wo.take_filter (g : List (Wo.F × Value)) (p : Wo.F × Value → Bool) (k : Nat) (x : Wo.F × Value) (hx : g[k]? = some x) : (g.take (k + 1)).filter p = (g.take k).filter p ++ (if p x = true then [x] else []) := by
  rw [List.take_add_one, hx, List.filter_append]
  congr 1
  cases h : p x <;> simp [h]

set_option maxHeartbeats 4000000 in
set_option maxRecDepth 1000000 in
theorem Wo.without_any (g : List (Wo.F × Value)) (v : Value) (name : ByteArray) (w : World) (h : Wo.Row w v g) (hl : g.length ≤ 1048576) : Calls Try.prog 31 #[v, .string name] w fun e w' => ∃ v', e = .returned v' ∧ Wo.Own w' w.heap.size v' (g.filter fun x => !Wo.is name x.1) ∧ Below w.heap.size w w' := by
  obtain ⟨ad, cap, rfl, _⟩ := id h
  have HR := Lib.hid h
  obtain ⟨i0, hi0, hz0, hz1, hz2⟩ := info_parts Wo.infoFile
  clear h
  go_enter Try.func31, Try.ntmps31
  go_wp2_with fail
  have hown0 : Wo.Own (w.alloc (.cells #[] 53)) w.heap.size (.slice (some ⟨w.heap.size, 0, none⟩) 0 0) [] := ⟨⟨rfl, .inr ⟨w.heap.size, 0, #[], rfl, Nat.le_refl _, heap_alloc_new w _, Nat.le_refl _, Nat.zero_le _, rfl, rfl⟩⟩, fun x hx => by cases hx⟩
  have hb0 : ∀ o, Below w.heap.size w (w.alloc o) := fun o => (Below.refl _ _).alloc (Nat.le_refl _) _
  go_loopw [5, 6] (fun o i wr => ∃ k : Nat, i = .int .i64 k ∧ k ≤ g.length ∧ Wo.Own wr w.heap.size o ((g.take k).filter fun x => !Wo.is name x.1) ∧ Below w.heap.size w wr) (fun _ i _ => g.length - (intOf i).toNat)
  case atStart => exact ⟨0, rfl, Nat.zero_le _, hown0, hb0 _⟩
  case round =>
    obtain ⟨k, rfl, hk, hown, hbw⟩ := hrel
    obtain ⟨wo, hwo⟩ : ∃ z, z = wr := ⟨_, rfl⟩
    subst hwo
    obtain ⟨G, hG⟩ : ∃ G, ((g.take k).filter fun x => !Wo.is name x.1) = G := ⟨_, rfl⟩
    rw [hG] at hown
    have hGl : G.length ≤ k := by
      rw [← hG]
      exact Nat.le_trans (List.length_filter_le _ _) (by rw [List.length_take]; omega)
    obtain ⟨ao, co, rfl⟩ := hown.slice
    have HG := Lib.hid hG
    have HOWN := Lib.hid hown
    have HBW := Lib.hid hbw
    have hzw := hbw.size
    clear hown0 hG hown hbw
    by_cases hlt : k < g.length
    · obtain ⟨ad', cap', he, hrow, hinu⟩ := HR.out.below HBW.out (Nat.le_refl _)
      simp only [Value.slice.injEq, true_and] at he
      obtain ⟨rfl, rfl⟩ := he
      obtain ⟨b, off, rfl, hcap, hbl, hcell⟩ := hrow (by omega)
      have hx := List.getElem?_eq_getElem hlt
      obtain ⟨c0, c1⟩ := hcell k _ hx
      have hix := hinu _ (List.getElem_mem hlt)
      have HT := Lib.hid (Wo.take_filter g (fun x => !Wo.is name x.1) k _ hx)
      clear hcell hrow hinu hx
      generalize g[k] = x at *
      obtain ⟨⟨nm, dt⟩, vd⟩ := x
      simp only at c0 c1 hix
      obtain ⟨xa, xc, rfl⟩ := hix.1.slice
      have HIX := Lib.hid hix
      have his : Wo.is name (nm, dt) = (nm.toList == name.toList) := rfl
      have HIS := Lib.hid his
      clear his hix
      cases he : (nm.toList == name.toList) with
      | true =>
        have hne : (nm.toList != name.toList) = false := by simp [bne, he]
        have HE := Lib.hid (HIS.out.trans he)
        go_wp2_with fail
        go_roundw
        case rel =>
          refine ⟨k + 1, by first | rfl | go_num | (simp; try omega), by omega, ?_, HBW.out⟩
          rw [HT.out, HG.out, HE.out]
          simpa using HOWN.out
        case measure => simp [intOf]; omega
      | false =>
        have hne : (nm.toList != name.toList) = true := by simp [bne, he]
        have HE := Lib.hid (HIS.out.trans he)
        have hx1 : Below wo.heap.size wo (wo.alloc (.cells #[.string nm, .slice xa dt.size xc] 53)) := (Below.refl _ _).alloc (Nat.le_refl _) _
        have ho1 := HOWN.out.below hx1 (Nat.le_refl _)
        have hown1 := ho1.1
        have HO1 := Lib.hid ho1
        have HX1 := Lib.hid (HIX.out.below hx1 (Nat.le_refl _))
        have HB1 := Lib.hid (HBW.out.trans (hx1.mono hzw))
        clear ho1 hx1
        go_wp2_with (at_builtin; refine wpList_append_own _ rfl _ _ 24 rfl w.heap.size 53 i0 (.agg #[.string ⟨#[]⟩, .slice none 0 0]) 2 40 Try.underlying24 hi0 hz0 hz1 hz2 rfl (by decide) _ G.length _ rfl hown1 ⟨wo.heap.size, 0, none⟩ 1 1 [.string nm, .slice xa dt.size xc] rfl rfl (Dt.row_at (heap_alloc_new wo _)) ?c1 ?c2 ?c3 ?c4 ?_)
        case c1 => exact ⟨rfl, rfl⟩
        case c2 => unfold maxLen; omega
        case c3 => omega
        case c4 => omega
        intro v9 w9 hown9 hgrow9 _
        have hgr := Wo.Own.grow (f := (nm, dt)) HO1.out HX1.out hown9 hgrow9
        have HG9 := Lib.hid hgr.1
        have HB9 := Lib.hid (HB1.out.grown hgrow9 HB1.out.size (fun q hq => HO1.out.row_ge q hq))
        clear hgr hown9 hgrow9 hown1
        go_wp2_with fail
        go_roundw
        case rel =>
          refine ⟨k + 1, by first | rfl | go_num | (simp; try omega), by omega, ?_, HB9.out⟩
          rw [HT.out, HG.out]
          simp only [HE.out, Bool.not_false, if_true]
          exact HG9.out
        case measure => simp [intOf]; omega
    · obtain rfl : k = g.length := by omega
      have HE := HG.out
      rw [List.take_length] at HE
      have hnlt : decide ((g.length : Int) < (g.length : Int)) = false := decide_eq_false (by omega)
      have HE := Lib.hid HE
      go_wp2_with fail
      go_ret
      exact ⟨_, rfl, HE.out ▸ HOWN.out, HBW.out⟩
end Go.Proofs.Ytdikkknjdbchbaa
