/-
  The walk of codec.units: it feeds the closure with the units of the bytes. Conditions: as the closure's; package utf8's tables.
-/
import Derived.Test.YtpjnamlcchjlcaaGreatDoorCdUnitsA
import Derived.Test.YtpjnamlcchjlcaaGreatDoorCdWideA
import Derived.Test.YtpjnamlcchjlcaaGreatDoorCdWideB
import Derived.Test.YtpjnamlcchjlcaaGreatDoorCdWideC
namespace Go.Proofs.YtpjnamlcchjlcaaGreatDoor
open Go.RowKit
set_option linter.unusedVariables false

theorem Cd.wide_any (s : ByteArray) (w : World) (B ob cb ab eb b off cap : Nat) (c l m a0 e0 : Int) (xs0 : List Int) (hs0 : 0 < s.size) (hs : s.size ≤ 1099511627000) (hl : xs0.length = 0) (hBo : B ≤ ob) (hBa : B ≤ ab) (hBe : B ≤ eb) (hbB : b < B)
    (h : Cd.St w B ob cb ab eb c l m xs0 a0 e0) (hc : ∀ j, j < s.size → w.cell? ⟨b, off + j, none⟩ = some (.int .u8 (Cd.byt s j))) (XS : List Int) (A E : Int) (hF : Cd.feed m (Cd.wideU s (Cd.bom s).2 (Cd.bom s).1) xs0 a0 e0 = (XS, A, E)) :
    Calls Tryz.prog 56 #[.slice (some ⟨b, off, none⟩) s.size cap, Cd.fv ob cb ab eb] w fun x w' => x = .returned (.tuple #[]) ∧ Cd.St w' B ob cb ab eb c l m XS A E ∧ Cd.Kept B ob ab eb w w' := by
  rcases Cd.bom_split s with hb | hb | hb
  · exact Cd.wide_A s w B ob cb ab eb b off cap c l m a0 e0 xs0 hs0 hb hs hl hBo hBa hBe hbB h hc XS A E hF
  · exact Cd.wide_B s w B ob cb ab eb b off cap c l m a0 e0 xs0 hs0 hb hs hl hBo hBa hBe hbB h hc XS A E hF
  · exact Cd.wide_C s w B ob cb ab eb b off cap c l m a0 e0 xs0 hs0 hb hs hl hBo hBa hBe hbB h hc XS A E hF

/-- Nothing to read. -/
theorem Cd.wide_none (ad : Option Addr) (cap : Nat) (fv : Value) (w : World) :
    Calls Tryz.prog 56 #[.slice ad 0 cap, fv] w fun x w' => x = .returned (.tuple #[]) ∧ Below w.heap.size w w' := by
  have hmf : ∀ (fn : Fn) (first cap : Array Value) (w : World), (Instr.makeFunc fn first cap).run Tryz.prog w = .ok (.func fn first cap) w := fun _ _ _ _ => rfl
  go_enter Tryz.func56, Tryz.ntmps56
  go_wp2
  refine wp_loop_rounds 1 ?_
  rw [rounds_succ]
  go_wp2
  first | go_end0 | refine bodyPost_ret (results_none rfl _ _ _) rfl ?_
  exact ⟨rfl, ((Below.refl _ _).alloc (Nat.le_refl _) _).alloc (by simp) _⟩

theorem Cd.units_none (ad : Option Addr) (cap : Nat) (c : Int) (fv : Value) (w : World) :
    Calls Tryz.prog 31 #[.int .i64 c, .slice ad 0 cap, fv] w fun x w' => x = .returned (.tuple #[]) ∧ Below w.heap.size w w' := by
  by_cases h1 : c = 1
  · subst h1
    go_enter Tryz.func31, Tryz.ntmps31
    go_wp2
    refine wp_loop_rounds 1 ?_
    rw [rounds_succ]
    go_wp2
    first | go_end0 | refine bodyPost_ret (results_none rfl _ _ _) rfl ?_
    exact ⟨rfl, Below.refl _ _⟩
  by_cases h2 : c = 2
  · subst h2
    go_enter Tryz.func31, Tryz.ntmps31
    go_wp2
    refine wp_loop_rounds 1 ?_
    rw [rounds_succ]
    go_wp2
    first | go_end0 | refine bodyPost_ret (results_none rfl _ _ _) rfl ?_
    exact ⟨rfl, Below.refl _ _⟩
  go_enter Tryz.func31, Tryz.ntmps31
  go_wp2_with fail
  refine (Cd.wide_none ad cap fv w).mono ?_; rintro x w1 ⟨rfl, hb⟩
  go_wp2
  first | go_end0 | refine bodyPost_ret (results_none rfl _ _ _) rfl ?_
  exact ⟨rfl, hb⟩


theorem Cd.feed_nil (m a e : Int) (xs : List Int) : Cd.feed m [] xs a e = (xs, a, e) := rfl
theorem Cd.unitsU_nil (c : Int) (s : ByteArray) (h : s.size = 0) : Cd.unitsU c s = [] := by
  unfold Cd.unitsU
  have hb : Cd.bom s = (0, 0) := by
    unfold Cd.bom
    rw [if_neg (by omega), if_neg (by omega)]
  rw [hb]
  split
  · exact Cd.utf8U_end s 0 (by omega)
  split
  · exact Cd.latinU_end s 0 (by omega)
  · exact Cd.wideU_end s 0 0 (by omega)

/-- A slice of bytes that can be read. -/
def Cd.BytesAt (w : World) (B : Nat) (v : Value) (s : ByteArray) : Prop :=
  (s.size = 0 ∧ ∃ ad cap, v = .slice ad 0 cap) ∨ (0 < s.size ∧ ∃ b off cap, v = .slice (some ⟨b, off, none⟩) s.size cap ∧ s.size ≤ cap ∧ b < B ∧ ∀ j, j < s.size → w.cell? ⟨b, off + j, none⟩ = some (.int .u8 (Cd.byt s j)))

theorem Cd.BytesAt.below {w w' : World} {B B2 : Nat} {v : Value} {s : ByteArray} (h : Cd.BytesAt w B v s) (hb : Below B2 w w') (hB : B ≤ B2) : Cd.BytesAt w' B v s := by
  rcases h with h | ⟨h0, b, off, cap, hv, h1, h2, hc⟩
  · exact .inl h
  · exact .inr ⟨h0, b, off, cap, hv, h1, h2, fun j hj => (hb.cell (p := ⟨b, off + j, none⟩) (by show b < B2; omega)).trans (hc j hj)⟩

theorem Cd.units_any (s : ByteArray) (v : Value) (w : World) (B ob cb ab eb : Nat) (c l m a0 e0 : Int) (xs0 : List Int) (hc0 : 1 ≤ c ∧ c ≤ 3) (hs : s.size ≤ 1099511627000) (hl : xs0.length = 0) (hBo : B ≤ ob) (hBa : B ≤ ab) (hBe : B ≤ eb) (hT : Lib.Utf8Tabs 0 1 w) (hTB : 0 < B ∧ 1 < B)
    (h : Cd.St w B ob cb ab eb c l m xs0 a0 e0) (hv : Cd.BytesAt w B v s) (XS : List Int) (A E : Int) (hF : Cd.feed m (Cd.unitsU c s) xs0 a0 e0 = (XS, A, E)) :
    Calls Tryz.prog 31 #[.int .i64 c, v, Cd.fv ob cb ab eb] w fun x w' => x = .returned (.tuple #[]) ∧ Cd.St w' B ob cb ab eb c l m XS A E ∧ Cd.Kept B ob ab eb w w' := by
  rcases hv with ⟨h0, ad, cap, rfl⟩ | ⟨h0, b, off, cap, rfl, hcap, hbB, hcell⟩
  · rw [Cd.unitsU_nil c s h0, Cd.feed_nil] at hF
    simp only [Prod.mk.injEq] at hF
    obtain ⟨rfl, rfl, rfl⟩ := hF
    refine (Cd.units_none ad cap c _ w).mono fun x w' ⟨hx, hb⟩ => ?_
    have := lt_of_block h.place
    exact ⟨hx, h.of_below hb, Cd.Kept.of_below hb (by omega)⟩
  unfold Cd.unitsU at hF
  by_cases h1 : c = 1
  · subst h1
    rw [if_pos rfl] at hF
    exact Cd.units_utf8 s w B ob cb ab eb b off cap 1 l m a0 e0 xs0 h0 hcap hs hl hBo hBa hBe hbB hT hTB h hcell XS A E hF
  rw [if_neg h1] at hF
  by_cases h2 : c = 2
  · subst h2
    rw [if_pos rfl] at hF
    exact Cd.units_latin s w B ob cb ab eb b off cap 2 l m a0 e0 xs0 h0 hs hl hBo hBa hBe hbB h hcell XS A E hF
  rw [if_neg h2] at hF
  have K := Lib.hid (Cd.wide_any s w B ob cb ab eb b off cap c l m a0 e0 xs0 h0 hs hl hBo hBa hBe hbB h hcell XS A E hF)
  clear hF h hcell hT
  unfold Cd.fv at *
  go_enter Tryz.func31, Tryz.ntmps31
  go_wp2_with fail
  refine K.out.mono ?_; rintro x w1 ⟨rfl, h1, h2⟩
  have H1 := Lib.hid h1; clear h1
  have H2 := Lib.hid h2; clear h2
  go_wp2
  first | go_end0 | refine bodyPost_ret (results_none rfl _ _ _) rfl ?_
  exact ⟨rfl, H1.out, H2.out⟩
end Go.Proofs.YtpjnamlcchjlcaaGreatDoor
