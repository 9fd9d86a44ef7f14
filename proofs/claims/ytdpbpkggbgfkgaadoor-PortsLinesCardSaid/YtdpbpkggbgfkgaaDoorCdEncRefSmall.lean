/-
  The walks of sextantref06.eols and sextantref06.Put.
-/
import Derived.Test.YtdpbpkggbgfkgaaDoorCdEncPlain
import Derived.Test.YtdpbpkggbgfkgaaDoorCdSmall
import Derived.Laws.BitsLemmas
import Derived.BigQuiet
namespace Go.Proofs.YtdpbpkggbgfkgaaDoor
open Go.RowKit
set_option linter.unusedVariables false

theorem By.In.new (w : World) (t : TypeId) (l : List UInt8) (cs : Array Value) (n : Nat) (hcs : cs = (By.bv l).toArray) (hn : n = l.length) : By.In (w.alloc (.cells cs t)) (.slice (some ⟨w.heap.size, 0, none⟩) n n) ⟨l.toArray⟩ := by
  subst hn
  subst hcs
  have hz : (ByteArray.mk l.toArray).size = l.length := by show l.toArray.size = _; simp
  rcases Nat.eq_zero_or_pos l.length with h0 | h0
  · exact .inr (.inl ⟨_, _, by rw [h0], by rw [hz, h0]⟩)
  · refine .inr (.inr ⟨by omega, w.heap.size, 0, l.length, by rw [hz], by omega, by simp, fun j hj => ?_⟩)
    have h1 := By.vals_at ⟨l.toArray⟩ j hj
    rw [By.vals_bv] at h1
    simp only [World.cell?, Nat.zero_add]
    rw [heap_alloc_new]
    simpa using h1

theorem Sl.own_new (w : World) (t : TypeId) (xs : List Int) (k : IntKind) (h : xs.length ≤ maxLen := by decide) : (w.alloc (.cells (xs.map (Value.int k)).toArray t)).ownsRow w.heap.size t 1 (.slice (some ⟨w.heap.size, 0, none⟩) xs.length xs.length) xs.length (xs.map (Value.int k)) :=
  ⟨by simp, .inr ⟨w.heap.size, xs.length, _, rfl, Nat.le_refl _, heap_alloc_new w _, Nat.le_refl _, h, by simp, by rw [Nat.mul_one]; exact List.take_of_length_le (by simp)⟩⟩

theorem Cd.eolsR_any (l : Int) (w : World) :
    Calls Tryd.prog 36 #[.int .i64 l] w fun e w' => ∃ v, e = .returned v ∧ w'.ownsRow w.heap.size 21 1 v (Cd.eolL l).length ((Cd.eolL l).map (Value.int .i32)) ∧ Below w.heap.size w w' := by
  rcases (show l = 2 ∨ l = 3 ∨ l = 4 ∨ l = 5 ∨ (l ≠ 2 ∧ l ≠ 3 ∧ l ≠ 4 ∧ l ≠ 5) by omega) with rfl | rfl | rfl | rfl | ⟨h2, h3, h4, h5⟩
  · go_enter Tryd.func36, Tryd.ntmps36
    go_wp2
    go_ret
    exact ⟨_, rfl, Sl.own_new w _ [13] .i32, (Below.refl _ _).alloc (Nat.le_refl _) _⟩
  · go_enter Tryd.func36, Tryd.ntmps36
    go_wp2
    go_ret
    exact ⟨_, rfl, Sl.own_new w _ [13, 10] .i32, (Below.refl _ _).alloc (Nat.le_refl _) _⟩
  · go_enter Tryd.func36, Tryd.ntmps36
    go_wp2
    go_ret
    exact ⟨_, rfl, Sl.own_new w _ [133] .i32, (Below.refl _ _).alloc (Nat.le_refl _) _⟩
  · go_enter Tryd.func36, Tryd.ntmps36
    go_wp2
    go_ret
    exact ⟨_, rfl, Sl.own_new w _ [8232] .i32, (Below.refl _ _).alloc (Nat.le_refl _) _⟩
  · have e : Cd.eolL l = [10] := by unfold Cd.eolL; rw [if_neg h2, if_neg h3, if_neg h4, if_neg h5]
    rw [e]
    have b2 : (l == 2) = false := by simp [h2]
    have b3 : (l == 3) = false := by simp [h3]
    have b4 : (l == 4) = false := by simp [h4]
    have b5 : (l == 5) = false := by simp [h5]
    clear e h2 h3 h4 h5
    go_enter Tryd.func36, Tryd.ntmps36
    go_wp2
    go_ret
    exact ⟨_, rfl, Sl.own_new w _ [10] .i32, (Below.refl _ _).alloc (Nat.le_refl _) _⟩

def Cd.putR (c x : Int) : List UInt8 := if c = 2 ∧ 255 < x then [] else Cd.putL c x
theorem Cd.bv_rune (r : Int) : By.bv (Lib.encodeRune r) = (Lib.encodeRuneZ r).map (Value.int .u8) := by
  have : By.bv (Lib.encodeRune r) = Lib.runeCells r := by rw [← Lib.byteCells_encodeRune]; rfl
  rw [this]
  rfl
theorem Cd.rune_len (r : Int) : (Lib.encodeRune r).length = (Lib.encodeRuneZ r).length := by simp [Lib.encodeRune]
theorem Cd.and63i (x : Int) (h0 : 0 ≤ x) (h1 : x < 2147483648) : bits .and .i32 x 63 = x % 64 := bits_mask .i32 31 (by decide) wraps_i32 6 (by decide) x h0 h1
theorem Cd.or224 (y : Int) (h0 : 0 ≤ y) (h1 : y < 16) : bits .or .i32 224 y = 224 + y := bits_join .i32 31 (by decide) wraps_i32 4 224 y (by omega) (by omega) (by omega) h0 (by omega) (by omega)
theorem Cd.or240 (y : Int) (h0 : 0 ≤ y) (h1 : y < 8) : bits .or .i32 240 y = 240 + y := bits_join .i32 31 (by decide) wraps_i32 3 240 y (by omega) (by omega) (by omega) h0 (by omega) (by omega)

set_option maxHeartbeats 2000000 in
set_option maxRecDepth 100000 in
theorem Cd.putR_any (c r : Int) (w : World) (hc : 1 ≤ c ∧ c ≤ 3) (hr : (0 ≤ r ∧ r < 55296) ∨ (57344 ≤ r ∧ r ≤ 1114111)) :
    Calls Tryd.prog 37 #[.int .i64 c, .int .i32 r] w fun e w' => ∃ v, e = .returned v ∧ By.In w' v ⟨(Cd.putR c r).toArray⟩ ∧ Below w.heap.size w w' := by
  rcases (show c = 1 ∨ c = 2 ∨ c = 3 by omega) with rfl | rfl | rfl
  · have e : Cd.putR 1 r = Lib.encodeRune r := rfl
    rw [e]
    clear e
    rcases (show (0 ≤ r ∧ r ≤ 127) ∨ (128 ≤ r ∧ r ≤ 2047) ∨ ((2048 ≤ r ∧ r < 55296) ∨ (57343 < r ∧ r ≤ 65535)) ∨ (65536 ≤ r ∧ r ≤ 1114111) by omega) with ⟨h1, h2⟩ | ⟨h1, h2⟩ | h1 | ⟨h1, h2⟩
    · have E := Lib.hid (Lib.encodeRuneZ_one h1 h2)
      clear hr
      go_enter Tryd.func37, Tryd.ntmps37
      go_wp2
      go_ret
      exact ⟨_, rfl, By.In.new w _ (Lib.encodeRune r) _ _ (by rw [Cd.bv_rune, E.out]; rfl) (by rw [Cd.rune_len, E.out]; rfl), (Below.refl _ _).alloc (Nat.le_refl _) _⟩
    · have E := Lib.hid (Lib.encodeRuneZ_two h1 h2)
      clear hr
      have a1 := Cd.and63i r (by omega) (by omega)
      have o1 := i32_or6 (x := 192) (y := r / 64) (by omega) (by omega) (by omega) (by omega) (by omega)
      have o2 := i32_or6 (x := 128) (y := r % 64) (by omega) (by omega) (by omega) (by omega) (by omega)
      go_enter Tryd.func37, Tryd.ntmps37
      go_wp2
      go_ret
      exact ⟨_, rfl, By.In.new w _ (Lib.encodeRune r) _ _ (by rw [Cd.bv_rune, E.out]; rfl) (by rw [Cd.rune_len, E.out]; rfl), (Below.refl _ _).alloc (Nat.le_refl _) _⟩
    · have E := Lib.hid (Lib.encodeRuneZ_three h1)
      have b0 : 2048 ≤ r ∧ r ≤ 65535 := by omega
      clear hr h1
      obtain ⟨h1, h2⟩ := b0
      have a1 := Cd.and63i r (by omega) (by omega)
      have a2 := Cd.and63i (r / 64) (by omega) (by omega)
      have o1 := Cd.or224 (r / 4096) (by omega) (by omega)
      have o2 := i32_or6 (x := 128) (y := r % 64) (by omega) (by omega) (by omega) (by omega) (by omega)
      have o3 := i32_or6 (x := 128) (y := r / 64 % 64) (by omega) (by omega) (by omega) (by omega) (by omega)
      go_enter Tryd.func37, Tryd.ntmps37
      go_wp2
      go_ret
      exact ⟨_, rfl, By.In.new w _ (Lib.encodeRune r) _ _ (by rw [Cd.bv_rune, E.out]; rfl) (by rw [Cd.rune_len, E.out]; rfl), (Below.refl _ _).alloc (Nat.le_refl _) _⟩
    · have E := Lib.hid (Lib.encodeRuneZ_four h1 h2)
      clear hr
      have a1 := Cd.and63i r (by omega) (by omega)
      have a2 := Cd.and63i (r / 64) (by omega) (by omega)
      have a3 := Cd.and63i (r / 4096) (by omega) (by omega)
      have o1 := Cd.or240 (r / 262144) (by omega) (by omega)
      have o2 := i32_or6 (x := 128) (y := r % 64) (by omega) (by omega) (by omega) (by omega) (by omega)
      have o3 := i32_or6 (x := 128) (y := r / 64 % 64) (by omega) (by omega) (by omega) (by omega) (by omega)
      have o4 := i32_or6 (x := 128) (y := r / 4096 % 64) (by omega) (by omega) (by omega) (by omega) (by omega)
      go_enter Tryd.func37, Tryd.ntmps37
      go_wp2
      go_ret
      exact ⟨_, rfl, By.In.new w _ (Lib.encodeRune r) _ _ (by rw [Cd.bv_rune, E.out]; rfl) (by rw [Cd.rune_len, E.out]; rfl), (Below.refl _ _).alloc (Nat.le_refl _) _⟩
  · by_cases h : 255 < r
    · have e : Cd.putR 2 r = [] := by unfold Cd.putR; rw [if_pos ⟨rfl, h⟩]
      rw [e]
      clear e hr
      go_enter Tryd.func37, Tryd.ntmps37
      go_wp2
      go_ret
      exact ⟨_, rfl, .inl ⟨rfl, rfl⟩, Below.refl _ _⟩
    · have e : Cd.putR 2 r = [Cd.b8 r] := by unfold Cd.putR Cd.putL; rw [if_neg (by omega), if_neg (by decide), if_pos rfl]
      have E := Lib.hid e
      have e2 : Hid (By.bv [Cd.b8 r] = [Value.int .u8 r]) := Lib.hid (by simp only [By.bv, List.map_cons, List.map_nil, Cd.b8_val]; rw [show r % 256 = r by omega])
      have b0 : 0 ≤ r ∧ r ≤ 255 := by omega
      clear e hr h
      go_enter Tryd.func37, Tryd.ntmps37
      go_wp2
      go_ret
      rw [E.out]
      exact ⟨_, rfl, By.In.new w _ [Cd.b8 r] _ _ (by rw [e2.out]) rfl, (Below.refl _ _).alloc (Nat.le_refl _) _⟩
  · have b0 : 0 ≤ r ∧ r ≤ 1114111 := by omega
    have e : Cd.putR 3 r = Cd.putW r := rfl
    rw [e]
    clear e hr
    by_cases h : 65535 < r
    · have e : Cd.putW r = [Cd.b8 (((r - 65536) / 1024 + 55296) / 256), Cd.b8 ((r - 65536) / 1024 + 55296), Cd.b8 (((r - 65536) % 1024 + 56320) / 256), Cd.b8 ((r - 65536) % 1024 + 56320)] := by unfold Cd.putW; rw [if_pos h]
      have E := Lib.hid e; clear e
      go_enter Tryd.func37, Tryd.ntmps37
      go_wp2
      go_ret
      refine ⟨_, rfl, By.In.new w _ (Cd.putW r) _ _ ?_ (by rw [E.out]; rfl), (Below.refl _ _).alloc (Nat.le_refl _) _⟩
      rw [E.out]
      simp only [By.bv, List.map_cons, List.map_nil, Cd.b8_val]
      rw [show 55296 + (r - 65536) / 1024 = (r - 65536) / 1024 + 55296 by omega, show 56320 + (r - 65536) % 1024 = (r - 65536) % 1024 + 56320 by omega, show ((r - 65536) / 1024 + 55296) / 256 % 256 = ((r - 65536) / 1024 + 55296) / 256 by omega, show ((r - 65536) % 1024 + 56320) / 256 % 256 = ((r - 65536) % 1024 + 56320) / 256 by omega]
    · have e : Cd.putW r = [Cd.b8 (r / 256), Cd.b8 r] := by unfold Cd.putW; rw [if_neg h]
      have E := Lib.hid e; clear e
      go_enter Tryd.func37, Tryd.ntmps37
      go_wp2
      go_ret
      refine ⟨_, rfl, By.In.new w _ (Cd.putW r) _ _ ?_ (by rw [E.out]; rfl), (Below.refl _ _).alloc (Nat.le_refl _) _⟩
      rw [E.out]
      simp only [By.bv, List.map_cons, List.map_nil, Cd.b8_val]
      rw [show r / 256 % 256 = r / 256 by omega]
end Go.Proofs.YtdpbpkggbgfkgaaDoor
