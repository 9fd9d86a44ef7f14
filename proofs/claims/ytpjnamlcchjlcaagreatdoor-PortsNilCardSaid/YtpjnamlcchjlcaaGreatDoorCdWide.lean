/-
  The walks of codec.wide and its closure.
-/
import Derived.Test.YtpjnamlcchjlcaaGreatDoorCdClosure
import Derived.Deep.DeepCutAuto
import Derived.Deep.RegionWith
import Derived.BigQuiet
import Derived.WalkSmall
import Derived.Laws.BitsLemmas
namespace Go.Proofs.YtpjnamlcchjlcaaGreatDoor
open Go.RowKit

theorem Cd.or8 (x y : Int) (h0 : 0 ≤ x) (h1 : x < 256) (k0 : 0 ≤ y) (k1 : y < 256) : bits .or .i32 (x * 256) y = x * 256 + y :=
  bits_join .i32 31 (by decide) wraps_i32 8 (x * 256) y (by omega) (by omega) (by omega) k0 k1 (by omega)

set_option maxHeartbeats 4000000 in
set_option maxRecDepth 1000000 in
theorem Cd.wide1_any (s : ByteArray) (low i : Nat) (w : World) (bb lb b off cap : Nat) (hlow : low ≤ 1) (hi : i ≤ 1099511627776) (_hs : s.size ≤ 1099511627776)
    (hbb : w.heap[bb]? = some (.cells #[.slice (some ⟨b, off, none⟩) s.size cap] 34 (0, 0))) (hlb : w.heap[lb]? = some (.cells #[.int .i64 low] 3 (0, 0)))
    (hc : ∀ j, j < s.size → w.cell? ⟨b, off + j, none⟩ = some (.int .u8 (Cd.byt s j))) :
    Calls Tryz.prog 76 #[.int .i64 i, .pointer (some ⟨bb, 0, none⟩), .pointer (some ⟨lb, 0, none⟩)] w fun x w' => x = .returned (.int .i32 (Cd.num s low i)) ∧ Below w.heap.size w w' := by
  have f1 := cell_of_one hbb
  have f2 := cell_of_one hlb
  clear hbb hlb
  by_cases h2 : i + 2 > s.size
  · have hn : Cd.num s low i = -1 := by unfold Cd.num; rw [if_pos h2]
    rw [hn]
    have HC := Lib.hid hc; clear hc
    go_enter Tryz.func76, Tryz.ntmps76
    go_wp2
    go_ret
    exact ⟨rfl, Below.refl _ _⟩
  · have hn : Cd.num s low i = Cd.byt s (i + low) * 256 + Cd.byt s (i + 1 - low) := by unfold Cd.num; rw [if_neg h2]
    rw [hn]
    clear hn
    have c1 := hc (i + low) (by omega)
    have c2 := hc (i + 1 - low) (by omega)
    have b1 := Cd.byt_bd s (i + low)
    have b2 := Cd.byt_bd s (i + 1 - low)
    have HC := Lib.hid hc; clear hc
    generalize Cd.byt s (i + low) = x at *
    generalize Cd.byt s (i + 1 - low) = y at *
    have hlow2 : low = 0 ∨ low = 1 := by omega
    rcases hlow2 with rfl | rfl
    · have f3 : w.cell? ⟨lb, 0, none⟩ = some (.int .i64 0) := f2
      have c3 : w.cell? ⟨b, off + i, none⟩ = some (.int .u8 x) := c1
      have c4 : w.cell? ⟨b, off + (i + 1), none⟩ = some (.int .u8 y) := c2
      clear f2 c1 c2
      go_enter Tryz.func76, Tryz.ntmps76
      go_wp2
      go_quiet (fail)
      go_wp2
      go_ret
      exact ⟨by rw [Cd.or8 x y b1.1 b1.2 b2.1 b2.2]; rfl, below_drewN (Below.refl _ _) _⟩
    · have f3 : w.cell? ⟨lb, 0, none⟩ = some (.int .i64 1) := f2
      have c3 : w.cell? ⟨b, off + (i + 1), none⟩ = some (.int .u8 x) := c1
      have c4 : w.cell? ⟨b, off + i, none⟩ = some (.int .u8 y) := by simpa using c2
      clear f2 c1 c2
      go_enter Tryz.func76, Tryz.ntmps76
      go_wp2
      go_quiet (fail)
      go_wp2
      go_ret
      exact ⟨by rw [Cd.or8 x y b1.1 b1.2 b2.1 b2.2]; rfl, below_drewN (Below.refl _ _) _⟩
/-- The closure's value. -/
def Cd.fv (ob cb ab eb : Nat) : Value := .func (.func 32) #[] #[.pointer (some ⟨ob, 0, none⟩), .pointer (some ⟨cb, 0, none⟩), .pointer (some ⟨ab, 0, none⟩), .pointer (some ⟨eb, 0, none⟩)]

structure Cd.WR (w wr : World) (B ob cb ab eb bb lb : Nat) (v : Value) (c l m : Int) (U : Nat → List Cd.U) (low : Nat) (F : List Int × Int × Int) (at_ : Nat) (xs : List Int) (a e : Int) : Prop where
  st : Cd.St wr B ob cb ab eb c l m xs a e
  kept : Cd.Kept B ob ab eb w wr
  bbox : wr.heap[bb]? = some (.cells #[v] 34 (0, 0))
  lbox : wr.heap[lb]? = some (.cells #[.int .i64 low] 3 (0, 0))
  left : Cd.feed m (U at_) xs a e = F
  len : xs.length ≤ at_

theorem Cd.WR.of_below {w wr w2 : World} {B ob cb ab eb bb lb : Nat} {v : Value} {c l m : Int} {U : Nat → List Cd.U} {low : Nat} {F : List Int × Int × Int} {at_ : Nat} {xs : List Int} {a e : Int} (h : Cd.WR w wr B ob cb ab eb bb lb v c l m U low F at_ xs a e) (hBa : B ≤ ab) (hb : Below wr.heap.size wr w2) : Cd.WR w w2 B ob cb ab eb bb lb v c l m U low F at_ xs a e :=
  ⟨h.st.of_below hb, h.kept.trans (.of_below hb (by have := lt_of_block h.st.place; omega)), (hb.block _ (lt_of_block h.bbox)).trans h.bbox, (hb.block _ (lt_of_block h.lbox)).trans h.lbox, h.left, h.len⟩

theorem Cd.WR.step {w w2 w3 : World} {B ob cb ab eb bb lb : Nat} {v : Value} {c l m : Int} {U : Nat → List Cd.U} {low : Nat} {F : List Int × Int × Int} {k k' : Nat} {xs : List Int} {a e R : Int} {ok : Bool} (h : Cd.WR w w2 B ob cb ab eb bb lb v c l m U low F k xs a e) (hu : U k = (R, ok, (k : Int)) :: U k') (hk : k < k') (hg : Cd.goS m ok = true)
    (h1 : bb ≠ ob ∧ bb ≠ ab ∧ bb ≠ eb) (h2 : lb ≠ ob ∧ lb ≠ ab ∧ lb ≠ eb) (hst : Cd.St w3 B ob cb ab eb c l m (Cd.xsS m R ok xs) (Cd.atS m k ok a) (Cd.erS m ok e)) (hkept : Cd.Kept B ob ab eb w2 w3) :
    Cd.WR w w3 B ob cb ab eb bb lb v c l m U low F k' (Cd.xsS m R ok xs) (Cd.atS m k ok a) (Cd.erS m ok e) := by
  refine ⟨hst, h.kept.trans hkept, hkept.other _ _ h.bbox h1.1 h1.2.1 h1.2.2 (by intro c fz h; cases h), hkept.other _ _ h.lbox h2.1 h2.2.1 h2.2.2 (by intro c fz h; cases h), ?_, ?_⟩
  · rw [← h.left, hu, Cd.feed, if_pos hg]
  · have := Cd.xsS_len m R ok xs
    have := h.len
    omega
theorem Cd.WR.stop {w w2 w3 : World} {B ob cb ab eb bb lb : Nat} {v : Value} {c l m : Int} {U : Nat → List Cd.U} {low : Nat} {XS : List Int} {A E : Int} {k : Nat} {us : List Cd.U} {xs : List Int} {a e R : Int} {ok : Bool} (h : Cd.WR w w2 B ob cb ab eb bb lb v c l m U low (XS, A, E) k xs a e) (hu : U k = (R, ok, (k : Int)) :: us) (hg : Cd.goS m ok = false)
    (hst : Cd.St w3 B ob cb ab eb c l m (Cd.xsS m R ok xs) (Cd.atS m k ok a) (Cd.erS m ok e)) (hkept : Cd.Kept B ob ab eb w2 w3) :
    Cd.St w3 B ob cb ab eb c l m XS A E ∧ Cd.Kept B ob ab eb w w3 := by
  have := h.left
  rw [hu, Cd.feed, if_neg (by rw [hg]; decide)] at this
  simp only [Prod.mk.injEq] at this
  obtain ⟨rfl, rfl, rfl⟩ := this
  exact ⟨hst, h.kept.trans hkept⟩
theorem Cd.WR.done {w w2 : World} {B ob cb ab eb bb lb : Nat} {v : Value} {c l m : Int} {U : Nat → List Cd.U} {low : Nat} {XS : List Int} {A E : Int} {k : Nat} {xs : List Int} {a e : Int} (h : Cd.WR w w2 B ob cb ab eb bb lb v c l m U low (XS, A, E) k xs a e) (hu : U k = []) :
    Cd.St w2 B ob cb ab eb c l m XS A E ∧ Cd.Kept B ob ab eb w w2 := by
  have := h.left
  rw [hu, Cd.feed] at this
  simp only [Prod.mk.injEq] at this
  obtain ⟨rfl, rfl, rfl⟩ := this
  exact ⟨h.st, h.kept⟩

end Go.Proofs.YtpjnamlcchjlcaaGreatDoor
