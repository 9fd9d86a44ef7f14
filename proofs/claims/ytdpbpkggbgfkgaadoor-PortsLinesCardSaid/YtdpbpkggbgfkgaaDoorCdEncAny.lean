/-
  Encode of any text by any transcoder: the contracts of codec.Encode and sextantref06.Encode.
-/
import Derived.Test.YtdpbpkggbgfkgaaDoorCdEncode
import Derived.Test.YtdpbpkggbgfkgaaDoorCdRefEncode
namespace Go.Proofs.YtdpbpkggbgfkgaaDoor
open Go.RowKit
set_option linter.unusedVariables false

def Cd.encG (c l m : Int) (s : ByteArray) : List UInt8 × Int × Int :=
  if Cd.chkN c l m s.size ≠ 0 then ([], 0, Cd.chkN c l m s.size) else Cd.encF c l m (Cd.utf8U s 0) []
theorem Cd.encG_good (c l m : Int) (s : ByteArray) (h : Cd.chkN c l m s.size = 0) : Cd.encF c l m (Cd.utf8U s 0) [] = Cd.encG c l m s := by
  unfold Cd.encG
  rw [if_neg (by simp [h])]
theorem Cd.encG_bad (c l m : Int) (s : ByteArray) (h : Cd.chkN c l m s.size ≠ 0) : Cd.encG c l m s = ([], 0, Cd.chkN c l m s.size) := by
  unfold Cd.encG
  rw [if_pos h]
theorem Cd.encG_len (c l m : Int) (s : ByteArray) : (Cd.encG c l m s).1.length ≤ 8 * s.size := by
  unfold Cd.encG
  split
  · simp
  · have h1 := Cd.encF_len c l m (Cd.utf8U s 0) []
    have h2 := Cd.unitsU_len 1 s
    unfold Cd.unitsU at h2
    rw [if_pos rfl] at h2
    simp only [List.length_nil] at h1
    omega

set_option maxHeartbeats 1000000 in
set_option maxRecDepth 1000000 in
theorem Cd.encode_bad (s : ByteArray) (w : World) (c l m : Int) (hn : Cd.chkN c l m s.size ≠ 0) (hbig : s.size ≤ 9223372036854775807) :
    Calls Tryd.prog 20 #[Cd.coder c l m, .string s] w fun x w' => x = .returned (.tuple #[.slice none 0 0, .int .i64 0, .int .i64 (Cd.chkN c l m s.size)]) ∧ Below w.heap.size w w' := by
  have KC := Lib.hid (fun w => Cd.checkN_any c l m s.size w)
  have hb1 : (Cd.chkN c l m s.size != 0) = true := by simp [hn]
  clear hn
  generalize Cd.chkN c l m s.size = z at *
  unfold Cd.coder at *
  go_enter Tryd.func20, Tryd.ntmps20
  go_wp2_with fail
  refine (KC.out _).mono ?_; rintro x w1 ⟨rfl, hb⟩
  have hb0 := Lib.hid (((Below.refl w.heap.size w).alloc (Nat.le_refl _) _).trans (hb.mono (by simp))); clear hb
  go_wp2
  go_ret3
  exact ⟨rfl, hb0.out⟩

set_option maxHeartbeats 1000000 in
set_option maxRecDepth 1000000 in
theorem Cd.encodeRef_bad (s : ByteArray) (w : World) (c l m : Int) (hn : Cd.chkN c l m s.size ≠ 0) (hbig : s.size ≤ 9223372036854775807) :
    Calls Tryd.prog 21 #[Cd.coder c l m, .string s] w fun x w' => x = .returned (.tuple #[.slice none 0 0, .int .i64 0, .int .i64 (Cd.chkN c l m s.size)]) ∧ Below w.heap.size w w' := by
  have KC := Lib.hid (fun w => Cd.checkR_any c l m w)
  have hs := Cd.chkN_split c l m s.size
  generalize Cd.chkN c l m s.size = z at *
  unfold Cd.coder at *
  generalize Cd.chk c l m = y at *
  rcases hs with ⟨rfl, rfl⟩ | ⟨rfl, hn, rfl⟩ | ⟨rfl, h1, rfl⟩
  · clear hn
    go_enter Tryd.func21, Tryd.ntmps21
    go_wp2_with fail
    refine (KC.out _).mono ?_; rintro x w1 ⟨rfl, hb⟩
    have hb0 := Lib.hid (((Below.refl w.heap.size w).alloc (Nat.le_refl _) _).trans (hb.mono (by simp))); clear hb
    go_wp2
    go_ret3
    exact ⟨rfl, hb0.out⟩
  · go_enter Tryd.func21, Tryd.ntmps21
    go_wp2_with fail
    refine (KC.out _).mono ?_; rintro x w1 ⟨rfl, hb⟩
    have hb0 := Lib.hid (((Below.refl w.heap.size w).alloc (Nat.le_refl _) _).trans (hb.mono (by simp))); clear hb
    go_wp2
    go_ret3
    exact ⟨rfl, hb0.out⟩
  · exact absurd rfl hn

theorem Cd.encode_any (s : ByteArray) (w : World) (c l m : Int) (hbig : s.size ≤ 9223372036854775807) (hT : Lib.Utf8Tabs 0 1 w) (hTB : 0 < w.heap.size ∧ 1 < w.heap.size) :
    Calls Tryd.prog 20 #[Cd.coder c l m, .string s] w fun x w' => ∃ v, x = .returned (.tuple #[v, .int .i64 (Cd.encG c l m s).2.1, .int .i64 (Cd.encG c l m s).2.2]) ∧ By.In w' v ⟨(Cd.encG c l m s).1.toArray⟩ ∧ Below w.heap.size w w' := by
  by_cases h : Cd.chkN c l m s.size = 0
  · obtain ⟨hg, hs⟩ := Cd.chkN_good c l m _ h
    exact Cd.encode_good s w c l m hg (by omega) hT hTB _ (Cd.encG_good c l m s h)
  · rw [Cd.encG_bad c l m s h]
    exact (Cd.encode_bad s w c l m h hbig).mono fun x w' ⟨hx, hb⟩ => ⟨_, hx, .inl ⟨rfl, rfl⟩, hb⟩
theorem Cd.encodeRef_any (s : ByteArray) (w : World) (c l m : Int) (hbig : s.size ≤ 9223372036854775807) :
    Calls Tryd.prog 21 #[Cd.coder c l m, .string s] w fun x w' => ∃ v, x = .returned (.tuple #[v, .int .i64 (Cd.encG c l m s).2.1, .int .i64 (Cd.encG c l m s).2.2]) ∧ By.In w' v ⟨(Cd.encG c l m s).1.toArray⟩ ∧ Below w.heap.size w w' := by
  by_cases h : Cd.chkN c l m s.size = 0
  · obtain ⟨hg, hs⟩ := Cd.chkN_good c l m _ h
    exact Cd.encodeRef_good s w c l m hg (by omega) _ (Cd.encG_good c l m s h)
  · rw [Cd.encG_bad c l m s h]
    exact (Cd.encodeRef_bad s w c l m h hbig).mono fun x w' ⟨hx, hb⟩ => ⟨_, hx, .inl ⟨rfl, rfl⟩, hb⟩
end Go.Proofs.YtdpbpkggbgfkgaaDoor
