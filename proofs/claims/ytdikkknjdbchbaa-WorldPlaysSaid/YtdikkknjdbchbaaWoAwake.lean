/-
  The fixed fact of layer 7's laws: it is true.
-/
import Derived.Test.YtdikkknjdbchbaaWfSt
import Derived.Test.YtdikkknjdbchbaaWoFresh
import Derived.Laws.IdiomStrings
namespace Go.Proofs.Ytdikkknjdbchbaa
open Go.RowKit
set_option linter.unusedVariables false

def Wo.sA : ByteArray := ⟨#[97]⟩
def Wo.sXY : ByteArray := ⟨#[120, 121]⟩
def Wo.WA : Wo.W := ([(Wo.sA, Wo.sXY)], ⟨#[]⟩, ⟨#[]⟩)
theorem Wo.lt_self (a : ByteArray) : Wo.lt a a = false := Wo.lt_irrefl _
theorem Wo.cutA : Wo.cut [(Wo.sA, Wo.sXY)] Wo.sA = 0 := by
  unfold Wo.cut
  have h := Wo.lt_self Wo.sA
  simp [h]
theorem Wo.awPut : Wo.putS Wo.w0 Wo.sA Wo.sXY = (Wo.WA, 0) := by
  have h1 : Wo.sound Wo.w0 = true := by decide
  have h2 : Wo.named Wo.sA = true := by decide
  have h3 : Wo.sXY.size ≤ 65536 := by decide
  have h4 : Wo.w0.1.length < 64 := by decide
  unfold Wo.putS
  rw [if_pos h1, if_pos h2, if_pos h3, if_pos (.inr h4)]
  rfl
theorem Wo.awGet : Wo.getS Wo.WA Wo.sA = (Wo.sXY, 0) := by
  have h1 : Wo.sound Wo.WA = true := by decide
  have h2 : Wo.has Wo.WA Wo.sA = true := by
    unfold Wo.has Wo.hit Wo.WA
    rw [Wo.cutA]
    simp
  unfold Wo.getS
  rw [if_pos h1, if_pos h2]
  show (((Wo.WA.1).getD (Wo.cut [(Wo.sA, Wo.sXY)] Wo.sA) Wo.e0).2, _) = _
  rw [Wo.cutA]
  rfl

/-- 'string(v)'. -/
theorem Wo.conv_in {P : Program} {w : World} {v : Value} {s : ByteArray} (h : By.In w v s) (src dst e : TypeId) (hs : P.underlying src = some (.slice e)) (he : P.underlying e = some (.int .u8)) (hd : P.underlying dst = some .string) :
    (convert src dst v).run P w = .ok (.string s) w := by
  rcases h with ⟨rfl, h0⟩ | ⟨a, c, rfl, h0⟩ | ⟨h0, b, off, c, rfl, h1, h2, hc⟩
  · rw [run_convert_bytes_string w src dst e none 0 0 hs he hd]
    have : s = ByteArray.empty := by
      cases s with
      | mk d =>
        have : d = #[] := by simpa [ByteArray.size] using h0
        rw [this]
        rfl
    rw [this]
    rfl
  · have : s = ⟨#[]⟩ := by
      cases s with | mk d => simpa [ByteArray.size] using h0
    rw [this]
    exact run_convert_bytes_back (P := P) w src dst e a c [] hs he hd (fun j hj => by simp at hj)
  · have e1 : s.size = s.data.toList.length := by simp
    have := run_convert_bytes_back (P := P) w src dst e ⟨b, off, none⟩ c s.data.toList hs he hd (fun j hj => by
      rw [Sl.addr_add, hc j (by omega), Wo.byt_list s j hj])
    rw [← e1] at this
    rw [this]

set_option maxHeartbeats 1000000 in
set_option maxRecDepth 1000000 in
theorem Wo.awake_any (w : World) : Calls Try.prog 5 #[] w fun e w' => e = .returned (.bool true) ∧ Below w.heap.size w w' := by
  have cv := fun (w : World) (C : Array Value) (n c : Nat) => Lib.run_convert_bytes_const (P := Try.prog) w 22 5 C n c Try.underlying22 Try.underlying5
  have cs := fun (w : World) (v : Value) (s : ByteArray) (h : By.In w v s) => Wo.conv_in (P := Try.prog) h 22 9 5 Try.underlying22 Try.underlying5 Try.underlying9
  have CS := Lib.hid cs
  clear cs
  go_enter Try.func5, Try.ntmps5
  go_wp2_with fail
  have hb0 : Below w.heap.size w (w.alloc (Obj.cells #[Value.int .u8 120, Value.int .u8 121] 5 (2, 3))) := (Below.refl _ _).alloc (Nat.le_refl _) _
  have hB : By.In (w.alloc (Obj.cells #[Value.int .u8 120, Value.int .u8 121] 5 (2, 3))) (.slice (some ⟨w.heap.size, 0, none⟩) 2 2) Wo.sXY := by
    refine .inr (.inr ⟨by decide, w.heap.size, 0, 2, rfl, by decide, by simp, fun j hj => ?_⟩)
    match j, hj with
    | 0, _ => simp only [World.cell?]; rw [heap_alloc_new]; rfl
    | 1, _ => simp only [World.cell?]; rw [heap_alloc_new]; rfl
  have HB0 := Lib.hid hb0
  have hz0 := hb0.size
  have KP := Wo.Put_any Wo.w0 _ Wo.sA Wo.sXY _ _ (Wo.In.w0 _) hB (by decide)
  rw [Wo.awPut] at KP
  clear hb0 hB
  refine KP.mono ?_
  rintro y w1 ⟨v1, rfl, hin, hb1⟩
  have HB1 := Lib.hid (HB0.out.trans (hb1.mono hz0))
  clear KP hb1 hz0
  obtain ⟨W2, hW2, q2, hsz2, hb2⟩ := Wo.one w1 (.cells #[.slice none 0 0, .slice none 0 0, .slice none 0 0] 26)
  obtain ⟨a0, n0, c0, a1, n1, c1, a2, n2, c2, X1, X2, X3, rfl, ⟨f0, g0, e0⟩, ⟨f1, g1, e1⟩, ⟨f2, g2, e2⟩, HX⟩ := Wf.box (r := w1.heap.size) q2 (Wf.oth3 (Wo.In.w0 w)) (hin.below hb2 (Nat.le_refl _))
  have HW := Lib.hid (hW2)
  have HB3 := Lib.hid (HX.out.2.2.2.2 _ _ (HB1.out.trans (hb2.mono HB1.out.size)) HB1.out.size)
  have H3 := Lib.hid HX.out.1
  have r0 := Dt.cell_of HX.out.2.1 0
  have r1 := Dt.cell_of HX.out.2.1 1
  have r2 := Dt.cell_of HX.out.2.1 2
  clear HX hin hb2 hsz2 q2
  go_wp2_with fail
  have KG := Wo.Get_any Wo.WA _ Wo.sA _ H3.out
  rw [Wo.awGet] at KG
  refine KG.mono ?_
  rintro y w4 ⟨v4, rfl, hin4, hb4, _⟩
  have cs := CS.out w4 v4 _ hin4.1
  obtain ⟨ad4, cp4, rfl⟩ := hin4.1.slice
  have HB4 := Lib.hid (HB3.out.trans (hb4.mono HB3.out.size))
  clear KG hin4 hb4
  have hxy : (Wo.sXY.toList == [120, 121]) = true := by
    rw [← Wo.toList_eq]
    decide
  go_wp2_with fail
  go_ret
  exact ⟨rfl, HB4.out⟩
end Go.Proofs.Ytdikkknjdbchbaa
