/-
  The walks of codec.eols and codec.put.
-/
import Derived.Test.YtdpbpkggbgfkgaaDoorCdEncPlain
import Derived.Test.YtdpbpkggbgfkgaaDoorCdSmall
import Derived.Test.YtdpbpkggbgfkgaaDoorShelf
import Derived.BigQuiet
import Derived.WalkSmall
import Derived.Laws.BitsLemmas
namespace Go.Proofs.YtdpbpkggbgfkgaaDoor
open Go.RowKit
set_option linter.unusedVariables false

theorem Cd.eols_any (l : Int) (w : World) :
    Calls Tryd.prog 33 #[.int .i64 l] w fun e w' => e = .returned (.string ⟨(Cd.eolB l).toArray⟩) ∧ w = w' := by
  rcases (show l = 2 ∨ l = 3 ∨ l = 4 ∨ l = 5 ∨ (l ≠ 2 ∧ l ≠ 3 ∧ l ≠ 4 ∧ l ≠ 5) by omega) with rfl | rfl | rfl | rfl | ⟨h2, h3, h4, h5⟩
  · go_enter Tryd.func33, Tryd.ntmps33
    go_wp2
    go_ret
    exact ⟨rfl, rfl⟩
  · go_enter Tryd.func33, Tryd.ntmps33
    go_wp2
    go_ret
    exact ⟨rfl, rfl⟩
  · go_enter Tryd.func33, Tryd.ntmps33
    go_wp2
    go_ret
    exact ⟨rfl, rfl⟩
  · go_enter Tryd.func33, Tryd.ntmps33
    go_wp2
    go_ret
    exact ⟨rfl, rfl⟩
  · have e : Cd.eolB l = [10] := by unfold Cd.eolB; rw [if_neg h2, if_neg h3, if_neg h4, if_neg h5]
    rw [e]
    have b2 : (l == 2) = false := by simp [h2]
    have b3 : (l == 3) = false := by simp [h3]
    have b4 : (l == 4) = false := by simp [h4]
    have b5 : (l == 5) = false := by simp [h5]
    clear e h2 h3 h4 h5
    go_enter Tryd.func33, Tryd.ntmps33
    go_wp2
    go_ret
    exact ⟨rfl, rfl⟩
theorem Cd.infoB8 : (Tryd.prog.info? 5).map (fun i => (i.zero, i.size, i.bytes)) = some (some (.int .u8 0), 1, 1) := by kernel_rfl

theorem Cd.bv_b8 (x : Int) : By.bv [Cd.b8 x] = [Value.int .u8 (x % 256)] := by simp [By.bv, Cd.b8_val]
theorem Cd.grown_new {w w1 : World} {o : Obj} {row : Option Nat} (hg : (w.alloc o).grownBy w1 row) : w.grownBy w1 row :=
  ⟨hg.os, hg.tape, hg.output, by have := hg.size; simp at this; omega, fun k hk hn => by rw [hg.block k (by simp; omega) hn]; exact Lib.alloc_old _ _ _ hk⟩
theorem Cd.four_new (w : World) (a b c d : Value) (t : TypeId) : ∀ (j : Nat) (u : Value), ([a, b, c, d] : List Value)[j]? = some u → (w.alloc (.cells #[a, b, c, d] t)).cell? ((⟨w.heap.size, 0, none⟩ : Addr).add j) = some u := by
  intro j u hj
  match j, hj with
  | 0, hj => simp at hj; subst hj; simp [Addr.add]
  | 1, hj => simp at hj; subst hj; simp [Addr.add]
  | 2, hj => simp at hj; subst hj; simp [Addr.add]
  | 3, hj => simp at hj; subst hj; simp [Addr.add]

theorem Cd.three_newB (w : World) (a b c : Value) (t : TypeId) : ∀ (j : Nat) (u : Value), ([a, b, c] : List Value)[j]? = some u → (w.alloc (.cells #[a, b, c] t)).cell? ((⟨w.heap.size, 0, none⟩ : Addr).add j) = some u := by
  intro j u hj
  match j, hj with
  | 0, hj => simp at hj; subst hj; simp [Addr.add]
  | 1, hj => simp at hj; subst hj; simp [Addr.add]
  | 2, hj => simp at hj; subst hj; simp [Addr.add]

/-- What put leaves: the bytes behind what was there. -/
def Cd.PutNew (B : Nat) (v : Value) (n : Nat) (xs : List Value) (bs : List UInt8) (w : World) (e : Ending) (w' : World) : Prop :=
  ∃ v', e = .returned (.tuple #[v', .bool true]) ∧ w'.ownsRow B 5 1 v' (n + bs.length) (xs ++ By.bv bs) ∧ w.grownBy w' v.ownBlock
/-- What put leaves of what was there. -/
def Cd.PutKeep (B : Nat) (v : Value) (n : Nat) (xs : List Value) (ok : Bool) (w : World) (e : Ending) (w' : World) : Prop :=
  ∃ v', e = .returned (.tuple #[v', .bool ok]) ∧ w'.ownsRow B 5 1 v n xs ∧ w.grownBy w' v.ownBlock

set_option maxHeartbeats 1000000 in
set_option maxRecDepth 100000 in
theorem Cd.put_utf8 (B : Nat) (v : Value) (n : Nat) (xs : List Value) (r : Int) (hr0 : -2147483648 ≤ r) (hr1 : r ≤ 2147483647) (w : World) (hown : w.ownsRow B 5 1 v n xs) (hlen : n ≤ 70368744177664) (hB : B ≤ w.heap.size) :
    Calls Tryd.prog 34 #[.int .i64 1, v, .int .i32 r] w (Cd.PutNew B v n xs (Cd.putL 1 r) w) := by
  have K := Lib.hid (Tryd.utf8_AppendRune_plain B v n xs r hr0 hr1 w hown (by omega) hB)
  clear hown
  go_enter Tryd.func34, Tryd.ntmps34
  go_wp2_with fail
  refine K.out.mono ?_
  rintro e w1 ⟨v1, rfl, ho, o, hg⟩
  have hl := Lib.runeCells_length r
  have e1 : Cd.putL 1 r = Lib.encodeRune r := rfl
  have e2 : Lib.runeCells r = By.bv (Lib.encodeRune r) := by rw [← Lib.byteCells_encodeRune]; rfl
  rw [hl, e2, ← e1] at ho
  have hg2 : w.grownBy w1 v.ownBlock := Cd.grown_new hg
  have HO := Lib.hid ho; clear ho
  have HG := Lib.hid hg2; clear hg2 hg hl e1 e2 K
  go_wp2
  go_ret2
  exact ⟨_, rfl, HO.out, HG.out⟩

set_option maxHeartbeats 1000000 in
set_option maxRecDepth 100000 in
theorem Cd.put_latin (B : Nat) (v : Value) (n : Nat) (xs : List Value) (r : Int) (hr0 : 0 ≤ r) (hr1 : r ≤ 1114111) (w : World) (hown : w.ownsRow B 5 1 v n xs) (hlen : n ≤ 70368744177664) (hB : B ≤ w.heap.size) :
    Calls Tryd.prog 34 #[.int .i64 2, v, .int .i32 r] w fun e w' => ∃ v', e = .returned (.tuple #[v', .bool (decide (r < 256))]) ∧ w'.ownsRow B 5 1 v' (n + 1) (xs ++ By.bv [Cd.b8 r]) ∧ w.grownBy w' v.ownBlock ∧ w'.ownsRow B 5 1 v n xs := by
  obtain ⟨i0, hi, hz0, hz1, hz2⟩ := info_parts Cd.infoB8
  go_enter Tryd.func34, Tryd.ntmps34
  go_wp2_with (at_builtin; refine By.wpList_append_keep rfl _ _ 24 rfl B 5 i0 (.int .u8 0) Tryd.underlying24 hi hz0 hz1 hz2 rfl _ n xs rfl (hown.alloc _) ⟨w.heap.size, 0, none⟩ 1 1 [_] rfl rfl (Sl.one_new _ _ _) ?c2 ?c3 ?c4 ?c5 ?_)
  case c2 => first | rfl | (intro u hu; simp at hu; subst hu; rfl)
  case c3 => unfold maxLen; omega
  case c4 => omega
  case c5 => first | omega | (simp; omega)
  intro v' w1 hown' hgrow hkeep
  have hg2 : w.grownBy w1 v.ownBlock := Cd.grown_new hgrow
  rw [← Cd.bv_b8] at hown'
  have HO := Lib.hid hown'
  have HG := Lib.hid hg2
  have HK := Lib.hid hkeep
  clear hown' hg2 hgrow hkeep hown
  go_wp2
  go_ret2
  exact ⟨_, rfl, HO.out, HG.out, HK.out⟩

theorem Cd.and1023 (x : Int) (h0 : 0 ≤ x) (h1 : x < 2147483648) : bits .and .i32 x 1023 = x % 1024 := bits_mask .i32 31 (by decide) wraps_i32 10 (by decide) x h0 h1

set_option maxHeartbeats 1000000 in
set_option maxRecDepth 100000 in
theorem Cd.put_wide (B : Nat) (v : Value) (n : Nat) (xs : List Value) (r : Int) (hr0 : 0 ≤ r) (hr1 : r ≤ 1114111) (w : World) (hown : w.ownsRow B 5 1 v n xs) (hlen : n ≤ 70368744177664) (hB : B ≤ w.heap.size) :
    Calls Tryd.prog 34 #[.int .i64 3, v, .int .i32 r] w fun e w' => ∃ v', e = .returned (.tuple #[v', .bool true]) ∧ w'.ownsRow B 5 1 v' (n + (Cd.putW r).length) (xs ++ By.bv (Cd.putW r)) ∧ w.grownBy w' v.ownBlock ∧ w'.ownsRow B 5 1 v n xs := by
  obtain ⟨i0, hi, hz0, hz1, hz2⟩ := info_parts Cd.infoB8
  by_cases h : 65535 < r
  · have e : Cd.putW r = [Cd.b8 (((r - 65536) / 1024 + 55296) / 256), Cd.b8 ((r - 65536) / 1024 + 55296), Cd.b8 (((r - 65536) % 1024 + 56320) / 256), Cd.b8 ((r - 65536) % 1024 + 56320)] := by unfold Cd.putW; rw [if_pos h]
    have E := Lib.hid e; clear e
    have m1 := Cd.and1023 (r - 65536) (by omega) (by omega)
    go_enter Tryd.func34, Tryd.ntmps34
    go_wp2_with (at_builtin; refine By.wpList_append_keep rfl _ _ 24 rfl B 5 i0 (.int .u8 0) Tryd.underlying24 hi hz0 hz1 hz2 rfl _ n xs rfl (hown.alloc _) ⟨w.heap.size, 0, none⟩ 4 4 [_, _, _, _] rfl rfl (Cd.four_new _ _ _ _ _ _) ?c2 ?c3 ?c4 ?c5 ?_)
    case c2 => first | rfl | exact ⟨rfl, rfl, rfl, rfl⟩ | (intro u hu; simp at hu; rcases hu with rfl | rfl | rfl | rfl <;> rfl)
    case c3 => unfold maxLen; omega
    case c4 => omega
    case c5 => first | omega | (simp; omega)
    intro v' w1 hown' hgrow hkeep
    have hg2 : w.grownBy w1 v.ownBlock := Cd.grown_new hgrow
    have HO := Lib.hid hown'
    have HG := Lib.hid hg2
    have HK := Lib.hid hkeep
    clear hown' hg2 hgrow hkeep hown
    go_wp2
    go_ret2
    have e : Cd.putW r = _ := E.out
    have el : By.bv (Cd.putW r) = [Value.int .u8 (((r - 65536) / 1024 + 55296) / 256), Value.int .u8 (((r - 65536) / 1024 + 55296) % 256), Value.int .u8 (((r - 65536) % 1024 + 56320) / 256), Value.int .u8 (((r - 65536) % 1024 + 56320) % 256)] := by
      rw [e]
      simp only [By.bv, List.map_cons, List.map_nil, Cd.b8_val]
      rw [show ((r - 65536) / 1024 + 55296) / 256 % 256 = ((r - 65536) / 1024 + 55296) / 256 by omega, show ((r - 65536) % 1024 + 56320) / 256 % 256 = ((r - 65536) % 1024 + 56320) / 256 by omega]
    rw [el, e]
    exact ⟨_, rfl, HO.out, HG.out, HK.out⟩
  · have e : Cd.putW r = [Cd.b8 (r / 256), Cd.b8 r] := by unfold Cd.putW; rw [if_neg h]
    have E := Lib.hid e; clear e
    go_enter Tryd.func34, Tryd.ntmps34
    go_wp2_with (at_builtin; refine By.wpList_append_keep rfl _ _ 24 rfl B 5 i0 (.int .u8 0) Tryd.underlying24 hi hz0 hz1 hz2 rfl _ n xs rfl (hown.alloc _) ⟨w.heap.size, 0, none⟩ 2 2 [_, _] rfl rfl (Sl.two_new _ _ _ _) ?c2 ?c3 ?c4 ?c5 ?_)
    case c2 => first | rfl | exact ⟨rfl, rfl⟩ | (intro u hu; simp at hu; rcases hu with rfl | rfl <;> rfl)
    case c3 => unfold maxLen; omega
    case c4 => omega
    case c5 => first | omega | (simp; omega)
    intro v' w1 hown' hgrow hkeep
    have hg2 : w.grownBy w1 v.ownBlock := Cd.grown_new hgrow
    have HO := Lib.hid hown'
    have HG := Lib.hid hg2
    have HK := Lib.hid hkeep
    clear hown' hg2 hgrow hkeep hown
    go_wp2
    go_ret2
    have e : Cd.putW r = _ := E.out
    have el : By.bv (Cd.putW r) = [Value.int .u8 (r / 256), Value.int .u8 (r % 256)] := by
      rw [e]
      simp only [By.bv, List.map_cons, List.map_nil, Cd.b8_val]
      rw [show r / 256 % 256 = r / 256 by omega]
    rw [el, e]
    exact ⟨_, rfl, HO.out, HG.out, HK.out⟩

/-- The three bytes of the character that stands for a fault. -/
theorem Cd.bv_bad : By.bv (Lib.encodeRune 65533) = [Value.int .u8 239, .int .u8 191, .int .u8 189] := by
  rw [show Lib.encodeRune 65533 = [239, 191, 189] by decide +kernel]
  rfl

set_option maxHeartbeats 1000000 in
set_option maxRecDepth 100000 in
theorem Cd.appendBadNon (B : Nat) (v : Value) (n : Nat) (xs : List Value) (w : World) (hown : w.ownsRow B 5 1 v n xs) (hlen : n ≤ 70368744177664) (hB : B ≤ w.heap.size) :
    Calls Tryd.prog 47 #[v, .int .i32 65533] w fun e w' => ∃ v', e = .returned v' ∧ w'.ownsRow B 5 1 v' (n + 3) (xs ++ By.bv (Lib.encodeRune 65533)) ∧ w.grownBy w' v.ownBlock ∧ w'.ownsRow B 5 1 v n xs := by
  obtain ⟨i0, hi, hz0, hz1, hz2⟩ := info_parts Cd.infoB8
  go_enter Tryd.func47, Tryd.ntmps47
  go_wp2_with (at_builtin; refine By.wpList_append_keep rfl _ _ 24 rfl B 5 i0 (.int .u8 0) Tryd.underlying24 hi hz0 hz1 hz2 rfl _ n xs rfl (hown.alloc _) ⟨w.heap.size, 0, none⟩ 3 3 [_, _, _] rfl rfl (Cd.three_newB _ _ _ _ _) ?c2 ?c3 ?c4 ?c5 ?_)
  case c2 => first | rfl | exact ⟨rfl, rfl, rfl⟩ | (intro u hu; simp at hu; rcases hu with rfl | rfl | rfl <;> rfl)
  case c3 => unfold maxLen; omega
  case c4 => omega
  case c5 => first | omega | (simp; omega)
  intro v' w1 hown' hgrow hkeep
  have hg2 : w.grownBy w1 v.ownBlock := Cd.grown_new hgrow
  rw [← Cd.bv_bad] at hown'
  have HO := Lib.hid hown'
  have HG := Lib.hid hg2
  have HK := Lib.hid hkeep
  clear hown' hg2 hgrow hkeep hown
  go_wp2
  go_ret
  exact ⟨_, rfl, HO.out, HG.out, HK.out⟩

set_option maxHeartbeats 1000000 in
set_option maxRecDepth 100000 in
theorem Cd.appendBad (B : Nat) (v : Value) (n : Nat) (xs : List Value) (w : World) (hown : w.ownsRow B 5 1 v n xs) (hlen : n ≤ 70368744177664) (hB : B ≤ w.heap.size) :
    Calls Tryd.prog 43 #[v, .int .i32 65533] w fun e w' => ∃ v', e = .returned v' ∧ w'.ownsRow B 5 1 v' (n + 3) (xs ++ By.bv (Lib.encodeRune 65533)) ∧ w.grownBy w' v.ownBlock ∧ w'.ownsRow B 5 1 v n xs := by
  have K := Lib.hid (Cd.appendBadNon B v n xs w hown hlen hB)
  clear hown
  go_enter Tryd.func43, Tryd.ntmps43
  go_wp2_with fail
  refine K.out.mono ?_
  rintro e w1 ⟨v1, rfl, ho, hg, hk⟩
  have HO := Lib.hid ho
  have HG := Lib.hid hg
  have HK := Lib.hid hk
  clear ho hg hk K
  go_wp2
  go_ret
  exact ⟨_, rfl, HO.out, HG.out, HK.out⟩

set_option maxHeartbeats 1000000 in
set_option maxRecDepth 100000 in
theorem Cd.put_bad (B : Nat) (v : Value) (n : Nat) (xs : List Value) (w : World) (hown : w.ownsRow B 5 1 v n xs) (hlen : n ≤ 70368744177664) (hB : B ≤ w.heap.size) :
    Calls Tryd.prog 34 #[.int .i64 1, v, .int .i32 65533] w fun e w' => ∃ v', e = .returned (.tuple #[v', .bool true]) ∧ w'.ownsRow B 5 1 v' (n + 3) (xs ++ By.bv (Lib.encodeRune 65533)) ∧ w.grownBy w' v.ownBlock ∧ w'.ownsRow B 5 1 v n xs := by
  have K := Lib.hid (Cd.appendBad B v n xs w hown hlen hB)
  clear hown
  go_enter Tryd.func34, Tryd.ntmps34
  go_wp2_with fail
  refine K.out.mono ?_
  rintro e w1 ⟨v1, rfl, ho, hg, hk⟩
  have HO := Lib.hid ho
  have HG := Lib.hid hg
  have HK := Lib.hid hk
  clear ho hg hk K
  go_wp2
  go_ret2
  exact ⟨_, rfl, HO.out, HG.out, HK.out⟩

theorem Cd.put_new (B : Nat) (v : Value) (n : Nat) (xs : List Value) (c r : Int) (hc : 1 ≤ c ∧ c ≤ 3) (hr0 : 0 ≤ r) (hr1 : r ≤ 1114111) (h2 : c = 2 → r < 256) (w : World) (hown : w.ownsRow B 5 1 v n xs) (hlen : n ≤ 70368744177664) (hB : B ≤ w.heap.size) :
    Calls Tryd.prog 34 #[.int .i64 c, v, .int .i32 r] w (Cd.PutNew B v n xs (Cd.putL c r) w) := by
  rcases (show c = 1 ∨ c = 2 ∨ c = 3 by omega) with rfl | rfl | rfl
  · exact Cd.put_utf8 B v n xs r (by omega) (by omega) w hown hlen hB
  · refine (Cd.put_latin B v n xs r hr0 hr1 w hown hlen hB).mono ?_
    rintro e w1 ⟨v1, he, h1, hg, _⟩
    rw [decide_eq_true (h2 rfl)] at he
    exact ⟨v1, he, h1, hg⟩
  · refine (Cd.put_wide B v n xs r hr0 hr1 w hown hlen hB).mono ?_
    rintro e w1 ⟨v1, he, h1, hg, _⟩
    exact ⟨v1, he, h1, hg⟩
theorem Cd.put_keep (B : Nat) (v : Value) (n : Nat) (xs : List Value) (c r : Int) (hc : 1 ≤ c ∧ c ≤ 3) (hr0 : 0 ≤ r) (hr1 : r ≤ 1114111) (h1 : c = 1 → r = 65533) (w : World) (hown : w.ownsRow B 5 1 v n xs) (hlen : n ≤ 70368744177664) (hB : B ≤ w.heap.size) :
    Calls Tryd.prog 34 #[.int .i64 c, v, .int .i32 r] w (Cd.PutKeep B v n xs (Cd.okP c r) w) := by
  rcases (show c = 1 ∨ c = 2 ∨ c = 3 by omega) with rfl | rfl | rfl
  · obtain rfl := h1 rfl
    refine (Cd.put_bad B v n xs w hown hlen hB).mono ?_
    rintro e w1 ⟨v1, he, _, hg, hk⟩
    exact ⟨v1, he, hk, hg⟩
  · refine (Cd.put_latin B v n xs r hr0 hr1 w hown hlen hB).mono ?_
    rintro e w1 ⟨v1, he, _, hg, hk⟩
    refine ⟨v1, ?_, hk, hg⟩
    rw [he]
    unfold Cd.okP
    simp
  · refine (Cd.put_wide B v n xs r hr0 hr1 w hown hlen hB).mono ?_
    rintro e w1 ⟨v1, he, _, hg, hk⟩
    exact ⟨v1, he, hk, hg⟩
end Go.Proofs.YtdpbpkggbgfkgaaDoor
