/-
  The walk of sextantref05.SameBytes at equal bytes.
-/
import Derived.Test.YtdikkknjdbchbaaProg
import Derived.Test.YtdikkknjdbchbaaBy
import Derived.WalkKit
import Derived.WalkSpells
import Derived.WalkLawsBesides
import Derived.Handy
import Derived.BigCall
import Derived.BigQuiet
import Derived.Lib.Hide
import Derived.WalkSmall
namespace Go.Proofs.Ytdikkknjdbchbaa
open Go.RowKit
set_option linter.unusedVariables false

set_option maxHeartbeats 1000000 in
set_option maxRecDepth 100000 in
theorem By.same_any (s : ByteArray) (v v2 : Value) (w : World) (hs : s.size ≤ 9223372036854775806) (h : By.In w v s) (h2 : By.In w v2 s) :
    Calls Try.prog 10 #[v, v2] w fun e w' => e = .returned (.bool true) ∧ Below w.heap.size w w' := by
  obtain ⟨ad, cap, rfl⟩ := h.slice
  obtain ⟨ad2, cap2, rfl⟩ := h2.slice
  have H := Lib.hid h; clear h
  have H2 := Lib.hid h2; clear h2
  go_enter Try.func10, Try.ntmps10
  go_wp2
  go_loopw [5] (fun i wr => ∃ k : Nat, i = .int .i64 k ∧ k ≤ s.size ∧ Below w.heap.size w wr) (fun i _ => s.size - (intOf i).toNat)
  case atStart => exact ⟨0, rfl, Nat.zero_le _, Below.refl _ _⟩
  case round =>
    obtain ⟨k, rfl, hk, hb⟩ := hrel
    by_cases hlt : k < s.size
    · obtain ⟨b, off, had, hbl, _, hc⟩ := H.out.at (by omega)
      obtain ⟨b2, off2, had2, hbl2, _, hc2⟩ := H2.out.at (by omega)
      subst had
      subst had2
      have c0 := (hb.cell (p := ⟨b, off + k, none⟩) hbl).trans (hc k hlt)
      have c1 := (hb.cell (p := ⟨b2, off2 + k, none⟩) hbl2).trans (hc2 k hlt)
      clear hc hc2
      generalize Cd.byt s k = x at *
      have HB := Lib.hid hb; clear hb
      go_wp2
      go_quiet (fail)
      have HB2 := Lib.hid (below_drewN HB.out nq)
      go_wp2
      go_roundw
      case rel => exact ⟨k + 1, by first | rfl | go_num | (simp; try omega), by omega, HB2.out⟩
      case measure => simp [intOf]; omega
    · have HB := Lib.hid hb; clear hb
      go_wp2
      go_ret
      exact ⟨rfl, HB.out⟩
end Go.Proofs.Ytdikkknjdbchbaa
