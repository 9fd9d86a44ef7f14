/-
  The walks of package chars' functions of one character, second text: Up, Down, Letter compute the plain functions. The only condition: the character is an int32.
  Texts in capitals and folded, in plain Lean: Upcase and Fold, and their laws: folded twice is folded once, capitals fold as the text does, capitals of capitals are those. No conditions.
  The walk of chars.Fold: it gives the text folded, of every text of at most 2^43 bytes (valid UTF-8 or not); nothing that was there is changed.
  The name of a key in a table of kind 2, whatever the key.
  nat.short once more: what is left of the number lies in new memory.
  A number's decimal digits, in plain Lean.
  slices.Reverse at bytes.
  nat.Text in tens.
  exact.ratText in tens.
  exact.check of one sound number, and of two real ones.
  exact.Text of a real number, in tens.
  exact.Whole of a sound number.
  exact.floor, exact.zero.
  exact.zero of a number that is not 0.
-/
import Derived.WalkKit
import Derived.WalkSpells
import Derived.WalkLawsBesides
import Derived.Handy
import Derived.BigCall
import Derived.Lib.Hide
import Derived.Lib.RuneCount
import Derived.Deep.LoopGhost
import Derived.Deep.DeepCutAuto
import Derived.Deep.RegionHeld3
import Derived.Test.YtikmebkfdpbidaaGreatDoorShelf
import Derived.Lib.Walk
import Derived.Sort.WalkB12
import Derived.Lib.SlicesMore
import Derived.Laws.IdiomStrings
import Derived.Test.YtikmebkfdpbidaaGreatDoorChWalksT
import Derived.Test.YtikmebkfdpbidaaGreatDoorTg
import Derived.Test.YtikmebkfdpbidaaGreatDoorTa
import Derived.Test.YtikmebkfdpbidaaGreatDoorDtLeafT
import Derived.Test.YtikmebkfdpbidaaGreatDoorTb
import Derived.Test.YtikmebkfdpbidaaGreatDoorTd
import Derived.Test.YtikmebkfdpbidaaGreatDoorTc
import Derived.Test.YtikmebkfdpbidaaGreatDoorTf
namespace Go.Proofs.YtikmebkfdpbidaaGreatDoor
open Go.RowKit

theorem Ch.retI {k : IntKind} {a b : Int} (h : a = b) : Ending.returned (.int k a) = .returned (.int k b) := by rw [h]
theorem Ch.retB {a b : Bool} (h : a = b) : Ending.returned (.bool a) = .returned (.bool b) := by rw [h]

set_option maxHeartbeats 1000000 in
theorem Ch.up_any (r : Int) (w : World) :
    Calls Tryz.prog 48 #[.int .i32 r] w fun e w' => e = .returned (.int .i32 (Ch.upZ r)) ∧ w = w' := by
  go_enter Tryz.func48, Tryz.ntmps48
  go_wp2_with (go_at_call 83; refine (Ch.pair_any _ _).mono ?_; rintro e w' ⟨rfl, rfl⟩)
  all_goals
    go_ret
    refine ⟨?_, rfl⟩
    simp_all [Ch.upZ]

set_option maxHeartbeats 1000000 in
theorem Ch.down_any (r : Int) (w : World) :
    Calls Tryz.prog 47 #[.int .i32 r] w fun e w' => e = .returned (.int .i32 (Ch.downZ r)) ∧ w = w' := by
  go_enter Tryz.func47, Tryz.ntmps47
  go_wp2_with (go_at_call 83; refine (Ch.pair_any _ _).mono ?_; rintro e w' ⟨rfl, rfl⟩)
  all_goals
    go_ret
    refine ⟨?_, rfl⟩
    simp_all [Ch.downZ]

set_option maxHeartbeats 1000000 in
theorem Ch.letter_any (r : Int) (w : World) :
    Calls Tryz.prog 199 #[.int .i32 r] w fun e w' => e = .returned (.bool (Ch.letterB r)) ∧ w = w' := by
  go_enter Tryz.func199, Tryz.ntmps199
  go_wp2_with (go_at_call 83; refine (Ch.pair_any _ _).mono ?_; rintro e w' ⟨rfl, rfl⟩)
  all_goals
    go_ret
    refine ⟨?_, rfl⟩
    simp_all [Ch.letterB, Ch.oddLetter]

end Go.Proofs.YtikmebkfdpbidaaGreatDoor
namespace Go.Proofs.YtikmebkfdpbidaaGreatDoor.Ch
open Ru

def upF (r : Int) : List Int := if r = 223 then [83, 83] else [upZ r]
def foldF (r : Int) : List Int := if r = 223 then [115, 115] else [downZ (upZ r)]
def upL (l : List UInt8) : List UInt8 := mapT upF l
def foldL (l : List UInt8) : List UInt8 := mapT foldF l

theorem foldF_out (r : Int) (h : 1300 ≤ r) : foldF r = [r] := by
  have h2 := pairZ_out (r := r) (by omega)
  have h1 : upZ r = r := by
    unfold upZ
    rw [if_neg (by omega), if_neg (by omega), if_neg (by omega), h2]
  unfold foldF
  rw [if_neg (by omega), h1]
  unfold downZ
  rw [if_neg (by omega), h2]
theorem upF_out (r : Int) (h : 1300 ≤ r) : upF r = [r] := by
  have h2 := pairZ_out (r := r) (by omega)
  unfold upF
  rw [if_neg (by omega)]
  unfold upZ
  rw [if_neg (by omega), if_neg (by omega), if_neg (by omega), h2]

theorem fold_ok_tab : ∀ n : Fin 1300, ∀ x ∈ foldF (n.val : Int), okR x ∧ foldF x = [x] := by decide +kernel
theorem up_ok_tab : ∀ n : Fin 1300, ∀ x ∈ upF (n.val : Int), okR x ∧ upF x = [x] := by decide +kernel
theorem upfold_tab : ∀ n : Fin 1300, (upF (n.val : Int)).flatMap foldF = foldF (n.val : Int) := by decide +kernel

theorem fold_ok (r : Int) (h : okR r) : ∀ x ∈ foldF r, okR x ∧ foldF x = [x] := by
  by_cases hr : 1300 ≤ r
  · intro x hx
    rw [foldF_out r hr, List.mem_singleton] at hx
    subst hx
    exact ⟨h, foldF_out x hr⟩
  · obtain ⟨n, rfl⟩ := Int.eq_ofNat_of_zero_le (a := r) (by unfold okR at h; omega)
    exact fold_ok_tab ⟨n, by omega⟩
theorem up_ok (r : Int) (h : okR r) : ∀ x ∈ upF r, okR x ∧ upF x = [x] := by
  by_cases hr : 1300 ≤ r
  · intro x hx
    rw [upF_out r hr, List.mem_singleton] at hx
    subst hx
    exact ⟨h, upF_out x hr⟩
  · obtain ⟨n, rfl⟩ := Int.eq_ofNat_of_zero_le (a := r) (by unfold okR at h; omega)
    exact up_ok_tab ⟨n, by omega⟩
theorem upfold (r : Int) (h : okR r) : (upF r).flatMap foldF = foldF r := by
  by_cases hr : 1300 ≤ r
  · rw [upF_out r hr]
    simp [foldF_out r hr]
  · obtain ⟨n, rfl⟩ := Int.eq_ofNat_of_zero_le (a := r) (by unfold okR at h; omega)
    exact upfold_tab ⟨n, by omega⟩

theorem flat_ok {F : Int → List Int} (hF : ∀ r, okR r → ∀ x ∈ F r, okR x) (rs : List Int) (h : ∀ r ∈ rs, okR r) : ∀ x ∈ rs.flatMap F, okR x := by
  intro x hx
  obtain ⟨r, hr, hx⟩ := List.mem_flatMap.1 hx
  exact hF r (h r hr) x hx
theorem flat_id {F : Int → List Int} : ∀ rs : List Int, (∀ r ∈ rs, F r = [r]) → rs.flatMap F = rs
  | [], _ => rfl
  | r :: rs, h => by rw [List.flatMap_cons, h r (by simp), flat_id rs (fun x hx => h x (by simp [hx]))]; rfl
theorem flat_congr {F G : Int → List Int} : ∀ rs : List Int, (∀ r ∈ rs, F r = G r) → rs.flatMap F = rs.flatMap G
  | [], _ => rfl
  | r :: rs, h => by rw [List.flatMap_cons, List.flatMap_cons, h r (by simp), flat_congr rs (fun x hx => h x (by simp [hx]))]

theorem mapT_mapT (F G : Int → List Int) (hF : ∀ r, okR r → ∀ x ∈ F r, okR x) (l : List UInt8) : mapT G (mapT F l) = encs ((runes l).flatMap fun r => (F r).flatMap G) := by
  unfold mapT
  rw [runes_of_encs _ (flat_ok hF _ (runes_okR l)), List.flatMap_assoc]

theorem fold_fold (l : List UInt8) : foldL (foldL l) = foldL l := by
  unfold foldL
  rw [mapT_mapT foldF foldF (fun r h x hx => (fold_ok r h x hx).1)]
  unfold mapT
  rw [flat_congr _ (fun r hr => flat_id _ (fun x hx => (fold_ok r (runes_okR l r hr) x hx).2))]
theorem fold_up (l : List UInt8) : foldL (upL l) = foldL l := by
  unfold foldL upL
  rw [mapT_mapT upF foldF (fun r h x hx => (up_ok r h x hx).1)]
  unfold mapT
  rw [flat_congr _ (fun r hr => upfold r (runes_okR l r hr))]
theorem up_up (l : List UInt8) : upL (upL l) = upL l := by
  unfold upL
  rw [mapT_mapT upF upF (fun r h x hx => (up_ok r h x hx).1)]
  unfold mapT
  rw [flat_congr _ (fun r hr => flat_id _ (fun x hx => (up_ok r (runes_okR l r hr) x hx).2))]

theorem encs_len : ∀ rs : List Int, (encs rs).length ≤ 4 * rs.length
  | [] => by simp [encs]
  | r :: rs => by
    rw [encs_cons, List.length_append, List.length_cons]
    have := encs_len rs
    have := (encode_length r).2
    omega
theorem runes_len : ∀ (f : Nat) (l : List UInt8), l.length ≤ f → (runes l).length ≤ l.length
  | 0, l, h => by
    have : l = [] := List.length_eq_zero_iff.1 (by omega)
    subst this
    simp [runes_nil]
  | f + 1, l, h => by
    by_cases hl : l = []
    · subst hl; simp [runes_nil]
    · have h1 := width_pos l hl
      have h2 := width_le l hl
      rw [runes_step l hl, List.length_cons]
      have := runes_len f (l.drop (Go.Lib.decodeL l).2) (by simp; omega)
      simp at this
      omega
theorem flat_len {F : Int → List Int} (hF : ∀ r, (F r).length ≤ 2) : ∀ rs : List Int, (rs.flatMap F).length ≤ 2 * rs.length
  | [] => by simp
  | r :: rs => by
    rw [List.flatMap_cons, List.length_append, List.length_cons]
    have := flat_len hF rs
    have := hF r
    omega
theorem mapT_len {F : Int → List Int} (hF : ∀ r, (F r).length ≤ 2) (l : List UInt8) : (mapT F l).length ≤ 8 * l.length := by
  unfold mapT
  have := encs_len ((runes l).flatMap F)
  have := flat_len hF (runes l)
  have := runes_len l.length l (Nat.le_refl _)
  omega
theorem upF_len (r : Int) : (upF r).length ≤ 2 := by unfold upF; split <;> simp
theorem foldF_len (r : Int) : (foldF r).length ≤ 2 := by unfold foldF; split <;> simp
end Go.Proofs.YtikmebkfdpbidaaGreatDoor.Ch
namespace Go.Proofs.YtikmebkfdpbidaaGreatDoor
open Go.RowKit

theorem Ch.strCells_two (a b : UInt8) : Lib.strCells ⟨#[a, b]⟩ = Lib.byteCells [a, b] := by simp [Lib.strCells, Lib.byteCells]
theorem Ch.encs_one (r : Int) : Ru.encs [r] = Lib.encodeRune r := by simp [Ru.encs]

theorem Ch.upZ_bd (r : Int) (h0 : -2147483648 ≤ r) (h1 : r ≤ 2147483647) : -2147483648 ≤ Ch.upZ r ∧ Ch.upZ r ≤ 2147483647 := by
  have := Ch.pairZ_bound r h0 h1
  unfold Ch.upZ
  repeat' split
  all_goals omega
theorem Ch.downZ_bd (r : Int) (h0 : -2147483648 ≤ r) (h1 : r ≤ 2147483647) : -2147483648 ≤ Ch.downZ r ∧ Ch.downZ r ≤ 2147483647 := by
  have := Ch.pairZ_bound r h0 h1
  unfold Ch.downZ
  split
  all_goals omega

set_option maxHeartbeats 4000000 in
set_option maxRecDepth 1000000 in
theorem Ch.fold_any (s : ByteArray) (w : World) (hs : s.size ≤ 8796093022208) :
    Calls Tryz.prog 18 #[.string s] w fun e w' => e = .returned (.string ⟨(Ch.foldL s.data.toList).toArray⟩) ∧ Below w.heap.size w w' := by
  go_enter Tryz.func18, Tryz.ntmps18
  go_wp2
  go_loopw [] (fun wr => ∃ (pos : Nat) (acc : List UInt8), Lib.IsBuilderF 94 5 w.heap.size w.heap.size (Lib.byteCells acc) wr ∧ wr.heap[w.heap.size + 1]? = some (.stringIter s pos) ∧ Below w.heap.size w wr ∧ acc ++ Ru.mapT Ch.foldF (s.data.toList.drop pos) = Ch.foldL s.data.toList ∧ acc.length ≤ 8 * pos) (fun wr => s.size - wr.iterPos (w.heap.size + 1))
  case atStart =>
    refine ⟨0, [], (Lib.IsBuilderF.of (Lib.fresh_isBuilder 94 5 w)).alloc _, ?_, ((Below.refl _ w).alloc (Nat.le_refl _) _).alloc (by simp) _, rfl, by simp⟩
    have := World.iter_heap (w.alloc (.cells #[.pointer none, .slice none 0 0] 94)) s 0
    simpa using this
  case round =>
    obtain ⟨pos, acc, hI, hit, hbw, hacc, hal⟩ := hrel
    have hsz : w.heap.size + 1 < wr.heap.size := (Array.getElem?_eq_some_iff.1 hit).1
    have hacc := Lib.hid hacc
    by_cases hp : pos < s.size
    · have hnx : ∀ ty, (Instr.next (.pointer (some ⟨w.heap.size + 1, 0, none⟩)) true ty).run Tryz.prog wr = _ := fun ty => Lib.run_next_any_at wr (w.heap.size + 1) s pos ty hit hp
      have hwd := Lib.decode_width_pos s pos hp
      have hd1 := decode_le s pos
      have hI2 := hI.iterAt hit (pos + (Utf8.decode s pos).2)
      have hit2 := Lib.iterAt_heap wr (w.heap.size + 1) s pos (pos + (Utf8.decode s pos).2) hit
      have hbw2 := Lib.below_iterAt hbw (k := w.heap.size + 1) (by omega) s (pos + (Utf8.decode s pos).2)
      have hsz2 : w.heap.size ≤ (wr.iterAt (w.heap.size + 1) s (pos + (Utf8.decode s pos).2)).heap.size := by rw [Lib.iterAt_size]; omega
      have hst := Lib.hid (Ru.mapT_at Ch.foldF s pos hp)
      by_cases h32 : (Utf8.decode s pos).1 = 223
      · go_wp2_with (go_at_call 45; refine (Bl.writeString w.heap.size w.heap.size _ ⟨#[115, 115]⟩ _ hI2 (by rw [Lib.byteCells_length]; show acc.length + 2 ≤ _; omega) hsz2).mono ?_)
        rintro e W1 ⟨rfl, h1, b1, k1⟩
        go_wp2
        go_roundw
        case rel =>
          refine ⟨pos + (Utf8.decode s pos).2, acc ++ [115, 115], ?_, k1.iter hit2 (by omega), hbw2.trans b1, ?_, by simp; omega⟩
          · rw [Lib.byteCells_append, ← Ch.strCells_two]; exact Or.inr h1
          · rw [← hacc.out, hst.out, h32]; simp [Ch.foldF, Ru.encs, Lib.encodeRune, Lib.encodeRuneZ]
        case measure =>
          simp only [World.iterPos, k1.iter hit2 (by omega), hit]
          omega
      · have hub := Ch.upZ_bd (Utf8.decode s pos).1 (by omega) (by omega)
        have hub2 := Ch.downZ_bd _ hub.1 hub.2
        go_wp2_with (first | (go_at_call 48; refine (Ch.up_any _ _).mono ?_; rintro e w' ⟨rfl, rfl⟩) | (go_at_call 47; refine (Ch.down_any _ _).mono ?_; rintro e w' ⟨rfl, rfl⟩) | (go_at_call 46; refine (Bl.writeRune w.heap.size w.heap.size _ _ (by omega) (by omega) _ hI2 (by rw [Lib.byteCells_length]; omega) hsz2).mono ?_))
        rintro e W1 ⟨rfl, h1, b1, k1⟩
        go_wp2
        go_roundw
        case rel =>
          have hl4 := Lib.runeCells_le (Ch.downZ (Ch.upZ ((Utf8.decode s pos).1 : Int)))
          rw [Lib.runeCells_length] at hl4
          refine ⟨pos + (Utf8.decode s pos).2, acc ++ Lib.encodeRune (Ch.downZ (Ch.upZ (Utf8.decode s pos).1)), ?_, k1.iter hit2 (by omega), hbw2.trans b1, ?_, by simp; omega⟩
          · rw [Lib.byteCells_append, Lib.byteCells_encodeRune]; exact Or.inr h1
          · rw [← hacc.out, hst.out]; unfold Ch.foldF; rw [if_neg (by omega), Ch.encs_one, List.append_assoc]
        case measure =>
          simp only [World.iterPos, k1.iter hit2 (by omega), hit]
          omega
    · have hnx : ∀ ty, (Instr.next (.pointer (some ⟨w.heap.size + 1, 0, none⟩)) true ty).run Tryz.prog wr = _ := fun ty => Lib.run_next_end_at wr (w.heap.size + 1) s pos ty hit hp
      go_wp2_with (go_at_call 49; refine (Tryz.Builder_String_any_k w.heap.size w.heap.size acc _ hI (by omega)).mono ?_)
      rintro e W1 ⟨rfl, _, b1, _⟩
      go_wp2
      go_ret
      have hacc2 := hacc.out
      rw [Ru.mapT_end _ s pos hp, List.append_nil] at hacc2
      rw [← hacc2]
      exact ⟨rfl, hbw.trans b1⟩
end Go.Proofs.YtikmebkfdpbidaaGreatDoor
namespace Go.Proofs.YtikmebkfdpbidaaGreatDoor
open Go.RowKit
set_option linter.unusedVariables false
set_option linter.unusedSimpArgs false

/-- The name of a key in a table of kind 2, or why it has none. -/
def Tb.nm2 (ts : List Tr) (key : Tr) : ByteArray × Int := if ts.all Tr.sound = false then (⟨#[]⟩, 2) else if key.hd.k = 5 then (⟨(Ch.foldL key.hd.x.data.toList).toArray⟩, 0) else (⟨#[]⟩, 10)
set_option maxHeartbeats 2000000 in
set_option maxRecDepth 1000000 in
theorem Tb.name2_any (key : Tr) (more : List Tr) (p : Nat) (last mp vk vm : Value) (w : World) (hk : Tr.In w (fun _ => True) key vk) (hm : Tb.More w vm more) (hp : w.heap[p]? = some (.cells #[.int .i64 2, last, mp] 84 (0, 0))) (hT : Tr.Tabs w) (hx : key.hd.x.size ≤ 8796093022208) :
    Calls Tryz.prog 43 #[.pointer (some ⟨p, 0, none⟩), vk, vm] w fun e w' => e = .returned (.tuple #[.string (Tb.nm2 (more ++ [key]) key).1, .int .i64 (Tb.nm2 (more ++ [key]) key).2]) ∧ Below w.heap.size w w' := by
  obtain ⟨CK, rfl⟩ := hk.agg
  obtain ⟨ao, m, olds, rfl, hnone, hml, hm1, hol, hold, hbl, hin⟩ := hm
  have h11 := hk.size11
  have hone := Tb.one_cells hk
  obtain ⟨he, le, ab3, ab4, ab6, ab7, ab9, ab10, nb3, nb4, nb6, nb7, nb9, nb10, cb3, cb4, cb6, cb7, cb9, cb10, eCb, etk, hbH, hbL⟩ := Tr.In.form2 hk
  obtain ⟨R, hR⟩ : ∃ z, z = Tb.nm2 (more ++ [key]) key := ⟨_, rfl⟩
  rw [← hR]
  have HR := Lib.hid hR
  have HK := Lib.hid hk
  have HHD := Lib.hid hbH
  have HTK := Lib.hid etk
  have HT := Lib.hid hT
  have HIN := Lib.hid hin
  have HML := Lib.hid (And.intro hml hol)
  obtain ⟨i0, hi, hz0, hz1, hz2⟩ := info_parts Tb.infoD
  have hpl : p < w.heap.size := (Array.getElem?_eq_some_iff.1 hp).1
  subst eCb
  unfold Tr.cells at *
  obtain ⟨n0, n1, n2, n3⟩ := Sm.two w (.cells #[.int .i64 he.k, .int .i64 he.n, .bool he.s1, .slice ab3 nb3 cb3, .slice ab4 nb4 cb4, .bool he.s2, .slice ab6 nb6 cb6, .slice ab7 nb7 cb7, .string he.x, .slice ab9 nb9 cb9, .slice ab10 nb10 cb10] 30) (.cells #[.int .i64 he.k, .int .i64 he.n, .bool he.s1, .slice ab3 nb3 cb3, .slice ab4 nb4 cb4, .bool he.s2, .slice ab6 nb6 cb6, .slice ab7 nb7 cb7, .string he.x, .slice ab9 nb9 cb9, .slice ab10 nb10 cb10] 30)
  have hb0 : Below w.heap.size w (w.alloc (.cells #[.int .i64 he.k, .int .i64 he.n, .bool he.s1, .slice ab3 nb3 cb3, .slice ab4 nb4 cb4, .bool he.s2, .slice ab6 nb6 cb6, .slice ab7 nb7 cb7, .string he.x, .slice ab9 nb9 cb9, .slice ab10 nb10 cb10] 30)) := (Below.refl _ _).alloc (Nat.le_refl _) _
  have HB2 := Lib.hid n3
  have HN := Lib.hid (And.intro n0 (And.intro n1 n2))
  have HP := Lib.hid hp
  have hm1n : m + 1 ≤ 2 := by omega
  have holds : ∀ b, ao = some b → ∀ (j : Nat) u, olds[j]? = some u → ((w.alloc (.cells #[.int .i64 he.k, .int .i64 he.n, .bool he.s1, .slice ab3 nb3 cb3, .slice ab4 nb4 cb4, .bool he.s2, .slice ab6 nb6 cb6, .slice ab7 nb7 cb7, .string he.x, .slice ab9 nb9 cb9, .slice ab10 nb10 cb10] 30)).alloc (.cells #[.int .i64 he.k, .int .i64 he.n, .bool he.s1, .slice ab3 nb3 cb3, .slice ab4 nb4 cb4, .bool he.s2, .slice ab6 nb6 cb6, .slice ab7 nb7 cb7, .string he.x, .slice ab9 nb9 cb9, .slice ab10 nb10 cb10] 30)).cell? (b.add j) = some u := fun b hbb j u hu => (n3.cell (p := b.add j) (by
    have : (b.add j).block = b.block := by unfold Addr.add; split <;> rfl
    rw [this]; exact hbl b hbb)).trans (hold b hbb j u hu)
  clear hp hR hk hbH hbL etk hT hin hml hold hbl n0 n1 n2 n3 hb0
  go_enter Tryz.func43, Tryz.ntmps43
  go_wp2_with (at_builtin; refine wpList_append_grows _ rfl _ _ 28 rfl 30 i0 (.agg #[.int .i64 0, .int .i64 0, .bool false, .slice none 0 0, .slice none 0 0, .bool false, .slice none 0 0, .slice none 0 0, .string ⟨#[]⟩, .slice none 0 0, .slice none 0 0]) 11 192 Tryz.underlying28 hi hz0 hz1 hz2 rfl (by decide) ao m m olds rfl hnone hol holds ⟨w.heap.size + 1, 0, none⟩ 1 1 (#[.int .i64 he.k, .int .i64 he.n, .bool he.s1, .slice ab3 nb3 cb3, .slice ab4 nb4 cb4, .bool he.s2, .slice ab6 nb6 cb6, .slice ab7 nb7 cb7, .string he.x, .slice ab9 nb9 cb9, .slice ab10 nb10 cb10] : Array Value).toList rfl rfl (Tb.row_at HN.out.2.1) hone (by omega) (by simp only [maxLen]; omega) (by omega) ?_)
  intro v' w1 hown hg
  have hb1 : Below w.heap.size w w1 := HB2.out.grown hg HB2.out.size (fun k hk => by cases hk)
  have HB1 := Lib.hid hb1
  have hlin := Tb.row_lin hb1 (by rw [← HML.out.1]; exact HML.out.2) HIN.out HK.out (by rw [← HML.out.1]; exact hown)
  have q0 := (hg.block w.heap.size (by have := HN.out.2.2; omega) (by simp)).trans HN.out.1
  have qp := (hb1.block p hpl).trans HP.out
  obtain ⟨TS, hTS⟩ : ∃ z, z = more ++ [key] := ⟨_, rfl⟩
  rw [← hTS] at hlin HR
  obtain ⟨ra, rc, hv, _, _⟩ := Tr.Sl.slice hlin
  obtain ⟨NL, hNL⟩ : ∃ z, z = TS.length := ⟨_, rfl⟩
  rw [← hNL] at hv
  subst hv
  have hNL2 : NL ≤ 2 := by rw [hNL, hTS, List.length_append, ← HML.out.1]; simpa using hm1n
  have HLIN := Lib.hid hlin
  have HNL := Lib.hid hNL
  have HTS := Lib.hid hTS
  have HFR : Hid (∀ w', Below w1.heap.size w1 w' → (w'.heap[w.heap.size]? = some (.cells #[.int .i64 he.k, .int .i64 he.n, .bool he.s1, .slice ab3 nb3 cb3, .slice ab4 nb4 cb4, .bool he.s2, .slice ab6 nb6 cb6, .slice ab7 nb7 cb7, .string he.x, .slice ab9 nb9 cb9, .slice ab10 nb10 cb10] 30 (0, 0)) ∧ w'.heap[p]? = some (.cells #[.int .i64 2, last, mp] 84 (0, 0))) ∧ Below w.heap.size w w') := Lib.hid (fun w' hb => ⟨⟨(hb.block _ (Array.getElem?_eq_some_iff.1 q0).1).trans q0, (hb.block p (Array.getElem?_eq_some_iff.1 qp).1).trans qp⟩, HB1.out.trans (hb.mono HB1.out.size)⟩)
  clear hlin hown hg hb1 q0 qp hTS holds hone hNL hnone hol hm1n
  go_wp2_with fail
  go_loopg [22] NL (fun g i wr => ∃ k : Nat, k + g = NL ∧ i = .int .i64 k ∧ (∀ t ∈ TS.take k, Tr.sound t = true) ∧ Below w1.heap.size w1 wr)
  case atStart => exact ⟨0, by omega, rfl, fun t h => by simp at h, Below.refl _ _⟩
  case round =>
    obtain ⟨k, hkg, rfl, hall, hbw⟩ := hrel
    obtain ⟨wo, hwo⟩ : ∃ z, z = wr := ⟨_, rfl⟩
    subst hwo
    have HALL := Lib.hid hall
    have HBW := Lib.hid hbw
    have HFW := Lib.hid (HFR.out _ hbw)
    clear hall hbw
    by_cases hlt : k < NL
    · obtain ⟨tk, htk⟩ : ∃ t, TS[k]? = some t := ⟨_, List.getElem?_eq_getElem (by rw [← HNL.out]; exact hlt)⟩
      obtain ⟨b2, off2, rfl, hx1, hx2, hx3, hb2lt, hS2, hall2⟩ := Tr.Sl.at HLIN.out (by rw [← HNL.out]; omega)
      clear hx1 hx2 hx3
      obtain ⟨Ck, hIk, hMk⟩ := Tr.All.at _ _ _ hall2 k tk htk
      rw [Nat.mul_comm 11 k] at hMk
      have hMk4 := hMk.kept (S := fun _ => True) (Tr.Kept.all HBW.out (Nat.le_refl _)) trivial hb2lt
      have KS := fun o => Tr.Sound_any tk _ (.agg Ck) (wo.alloc o) (Tr.In.below (Tr.In.below hIk HBW.out (Nat.le_refl _)) ((Below.refl _ _).alloc (Nat.le_refl _) o) (Nat.le_refl _)) (HT.out.below ((HFW.out.2).trans (((Below.refl _ _).alloc (Nat.le_refl _) o).mono HFW.out.2.size)))
      obtain ⟨hf, lf, ar3, ar4, ar6, ar7, ar9, ar10, nr3, nr4, nr6, nr7, nr9, nr10, cr3, cr4, cr6, cr7, cr9, cr10, eCr, ert, hrH, hrL⟩ := Tr.In.form2 hIk
      subst eCr
      unfold Tr.cells at KS hMk4
      obtain ⟨e0, e1, e2, e3, e4, e5, e6, e7, e8, e9, e10⟩ := Tr.Mem.cells hMk4
      have HTK2 := Lib.hid htk
      have hbA : ∀ o, Below w1.heap.size w1 (wo.alloc o) := fun o => HBW.out.alloc HBW.out.size o
      have HBA := Lib.hid hbA
      clear hIk hMk hMk4 hall2 htk ert hrH hrL hb2lt hS2 hbA
      cases hsd : Tr.sound tk
      · rw [hsd] at KS
        have hans : R = (⟨#[]⟩, 2) := by
          rw [HR.out]
          unfold Tb.nm2
          rw [if_pos]
          cases hx : TS.all Tr.sound
          · rfl
          · have := List.all_eq_true.1 hx tk (List.mem_of_getElem? HTK2.out)
            rw [hsd] at this
            exact absurd this (by decide)
        subst hans
        go_wp2_with fail
        refine (KS _).mono ?_
        rintro x w5 ⟨rfl, hb5⟩
        have HB5 := Lib.hid (HFR.out _ ((HBA.out _).trans (hb5.mono (HBA.out _).size))).2
        clear hb5 KS e0 e1 e2 e3 e4 e5 e6 e7 e8 e9 e10
        go_wp2_with fail
        go_ret2
        exact ⟨rfl, HB5.out⟩
      · rw [hsd] at KS
        go_wp2_with fail
        refine (KS _).mono ?_
        rintro x w5 ⟨rfl, hb5⟩
        have HB5 := Lib.hid ((HBA.out _).trans (hb5.mono (HBA.out _).size))
        clear hb5 KS e0 e1 e2 e3 e4 e5 e6 e7 e8 e9 e10
        go_wp2_with fail
        go_roundg (gk - 1)
        case measure => omega
        case rel =>
          refine ⟨k + 1, by omega, by first | rfl | go_num | (simp; try omega), fun t ht => ?_, HB5.out⟩
          rw [List.take_add_one, HTK2.out] at ht
          rcases List.mem_append.1 ht with ht | ht
          · exact HALL.out t ht
          · simp at ht
            subst ht
            exact hsd
    · have hk2 : k = NL := by omega
      subst hk2
      have hallT : TS.all Tr.sound = true := List.all_eq_true.2 (fun t ht => HALL.out t (by rw [HNL.out, List.take_length]; exact ht))
      have HSND := Lib.hid hallT
      obtain ⟨⟨qb, qp⟩, hbw⟩ := HFW.out
      have p0 : wo.cell? ⟨p, 0, none⟩ = some (.int .i64 2) := Rt.cell_of qp 0
      obtain ⟨e0, e1, e2, e3, e4, e5, e6, e7, e8, e9, e10⟩ := Dt.cells11 qb
      have HBN := Lib.hid hbw
      clear hallT qb qp hbw
      have hnm : ∀ (he2 : he.k = 5), R = (⟨(Ch.foldL he.x.data.toList).toArray⟩, 0) := fun he2 => by
        rw [HR.out]; unfold Tb.nm2
        rw [if_neg (by rw [HSND.out]; decide), HTK.out]
        rw [if_pos (by exact he2)]
        rfl
      have hno : ∀ (he2 : he.k ≠ 5), R = (⟨#[]⟩, 10) := fun he2 => by
        rw [HR.out]; unfold Tb.nm2
        rw [if_neg (by rw [HSND.out]; decide), HTK.out]
        rw [if_neg (by exact he2)]
      by_cases h5 : he.k = 5
      · have hans := hnm h5
        subst hans
        have KF := Ch.fold_any he.x wo (by have := hx; rw [HTK.out] at this; exact this)
        have h52 : (he.k != 5) = false := by rw [h5]; rfl
        clear hnm hno hx
        go_wp2_with fail
        refine KF.mono ?_
        rintro x w6 ⟨rfl, hb6⟩
        have HB6 := Lib.hid (HBN.out.trans (hb6.mono HBN.out.size))
        clear hb6 KF e0 e1 e2 e3 e4 e5 e6 e7 e8 e9 e10
        go_wp2_with fail
        go_ret2
        exact ⟨rfl, HB6.out⟩
      · have hans := hno h5
        subst hans
        have h52 : (he.k != 5) = true := by simpa using h5
        clear hnm hno hx
        go_wp2_with fail
        go_ret2
        exact ⟨rfl, HBN.out⟩
end Go.Proofs.YtikmebkfdpbidaaGreatDoor
namespace Go.Proofs.YtikmebkfdpbidaaGreatDoor
open Go.RowKit
set_option linter.unusedVariables false
set_option linter.unusedSimpArgs false

theorem Tx.norm_fr (ws : List Nat) (b off l cap : Nat) (w : World) (h : Nt.In w (.slice (some ⟨b, off, none⟩) l cap) ws) (hw : Nt.Wd ws) (hl : ws.length ≤ 4611686018427387904) : Calls Tryz.prog 85 #[.slice (some ⟨b, off, none⟩) l cap] w fun e w' => ∃ v', e = .returned v' ∧ Nt.N w' v' (Nt.val ws) ∧ Nt.Fr b v' ∧ Below w.heap.size w w' := by
  obtain ⟨ad, cap2, e⟩ := h.slice
  simp only [Value.slice.injEq] at e
  obtain ⟨rfl, rfl, rfl⟩ := e
  refine (Nt.norm_eq ws _ cap w h hw hl).mono fun e w' ⟨he, hb⟩ => ⟨_, he, ?_, ?_, hb⟩
  · unfold Nt.N
    have := (h.below hb (Nat.le_refl _)).takeN _ (Nt.take_dig hw).1
    rwa [(Nt.take_dig hw).2] at this
  · intro b2 off2 l2 c2 e2
    simp only [Value.slice.injEq, Option.some.injEq, Addr.mk.injEq] at e2
    omega
set_option maxHeartbeats 4000000 in
set_option maxRecDepth 1000000 in
theorem Tx.short_fr (a : List Nat) (d : Nat) (v : Value) (w : World) (h : Nt.In w v a) (ha : Nt.Wd a) (hl : a.length ≤ 500000) (hd0 : 0 < d) (hd : d < 4294967296) : Calls Tryz.prog 174 #[v, .int .u32 d] w fun e w' => ∃ v', e = .returned (.tuple #[v', .int .u32 (Nt.val a % d : Nat)]) ∧ Nt.N w' v' (Nt.val a / d) ∧ Nt.Fr w.heap.size v' ∧ Below w.heap.size w w' := by
  obtain ⟨ad, cap, rfl⟩ := h.slice
  have H := Lib.hid h
  have HA := Lib.hid ha
  have hmk := Nt.make a.length w (by omega)
  clear h ha
  obtain ⟨T, hT⟩ : ∃ T, w.heap.size = T := ⟨_, rfl⟩
  obtain ⟨w2, hw2⟩ : ∃ z, w.alloc (.cells (Nt.row (List.replicate a.length 0)) 144) = z := ⟨_, rfl⟩
  have q2 : w2.heap[T]? = some (.cells (Nt.row (List.replicate a.length 0)) 144 (0, 0)) := by rw [← hw2, ← hT]; exact heap_alloc_new w _
  have hb2 : Below w.heap.size w w2 := hw2 ▸ (Below.refl _ _).alloc (Nat.le_refl _) _
  rw [hT, hw2] at hmk
  have HT := Lib.hid hT
  have HB2 := Lib.hid hb2
  have HQ2 := Lib.hid q2
  clear hT hw2 hb2 q2
  go_enter Tryz.func174, Tryz.ntmps174
  go_wp2_with fail
  go_loopw [7, 8] (fun rv i wr => ∃ (k r : Nat) (ws : List Nat), i = .int .i64 ((k : Int) - 1) ∧ rv = .int .u64 r ∧ k ≤ a.length ∧ r < d ∧ ws.length = a.length ∧ Nt.Wd ws ∧ Nt.val (a.drop k) = d * Nt.val (ws.drop k) + r ∧ wr.heap[T]? = some (.cells (Nt.row ws) 144 (0, 0)) ∧ Below w.heap.size w wr) (fun _ i _ => (intOf i + 1).toNat)
  case atStart => exact ⟨a.length, 0, List.replicate a.length 0, by first | rfl | go_num | (simp; try omega), rfl, Nat.le_refl _, hd0, by simp, Nt.Wd.zeros _, by rw [List.drop_length, List.drop_eq_nil_of_le (by simp)]; simp [Nt.val], HQ2.out, HB2.out⟩
  case round =>
    obtain ⟨k, r, ws, rfl, rfl, hk, hr, hwl, hwd, hval, hq, hbw⟩ := hrel
    obtain ⟨wo, hwo⟩ : ∃ z, z = wr := ⟨_, rfl⟩
    subst hwo
    have HWD := Lib.hid hwd
    have HV := Lib.hid hval
    have HQ := Lib.hid hq
    have HBW := Lib.hid hbw
    have HWL := Lib.hid hwl
    clear hwd hval hq hbw hwl
    rcases k with _ | k
    · have hval := HV.out
      rw [List.drop_zero, List.drop_zero] at hval
      have hq : Nt.val ws = Nt.val a / d := by
        rw [hval, Nat.mul_add_div hd0, Nat.div_eq_of_lt hr, Nat.add_zero]
      have hm : r = Nt.val a % d := by
        rw [hval, Nat.mul_add_mod, Nat.mod_eq_of_lt hr]
      have hin : Nt.In wo (.slice (some ⟨T, 0, none⟩) a.length a.length) ws := by
        have := Nt.In.of_row HQ.out
        rw [HWL.out] at this
        exact this
      have KN := Tx.norm_fr ws T 0 _ _ wo hin HWD.out (by have := HWL.out; omega)
      rw [hq] at KN
      have HM := Lib.hid hm
      have hrw : (r : Int) % 4294967296 = (r : Int) := by omega
      clear hval hq hm hin
      go_wp2_with fail
      refine KN.mono ?_
      rintro z w8 ⟨v8, rfl, hn8, hf8, hb8⟩
      have HN8 := Lib.hid (And.intro hn8 hf8)
      have HB8 := Lib.hid (HBW.out.trans (hb8.mono HBW.out.size))
      clear hn8 hf8 hb8
      go_wp2_with fail
      go_ret2
      exact ⟨_, by rw [← HM.out]; rfl, HN8.out.1, HN8.out.2.mono (by rw [HT.out]; exact Nat.le_refl _), HB8.out⟩
    · have hk1 : (((k + 1 : Nat) : Int) - 1) = (k : Int) := by omega
      rw [hk1]
      have hkk : k < a.length := by omega
      obtain ⟨b1, o1, rfl, _, hcap1, hbl1, hcell1⟩ := (H.out.below HBW.out (Nat.le_refl _)).at (by omega)
      have c1 := hcell1 k hkk
      have hxb := HA.out.getD k
      have hstep := Nt.short_step (a := a) (ws := ws) (i := k) (r := r) (d := d) HV.out hd0 hkk (by have := HWL.out; omega)
      have hqlt := Nt.short_lt (a := a.getD k 0) (r := r) (d := d) hxb hr
      have HSTEP := Lib.hid hstep
      clear hcell1 hstep
      generalize a.getD k 0 = x at *
      have hj := Nt.join64 r x (by omega) hxb
      obtain ⟨N, hN⟩ : ∃ N, 4294967296 * r + x = N := ⟨_, rfl⟩
      rw [hN] at HSTEP hqlt hj
      have hNl : N < 18446744073709551616 := by omega
      have hsh : ((r : Int) * 4294967296) % 18446744073709551616 = (r : Int) * 4294967296 := by omega
      obtain ⟨q, hq⟩ : ∃ q, N / d = q := ⟨_, rfl⟩
      obtain ⟨m, hm⟩ : ∃ m, N % d = m := ⟨_, rfl⟩
      rw [hq] at HSTEP hqlt
      rw [hm] at HSTEP
      have hml : m < d := hm ▸ Nat.mod_lt _ hd0
      have hqI : (N : Int) / (d : Int) = (q : Int) := by rw [← hq]; rfl
      have hmI : (N : Int) % (d : Int) = (m : Int) := by rw [← hm]; rfl
      have hqw : (q : Int) % 4294967296 = (q : Int) := by omega
      obtain ⟨W, hW, e1, e2, hQ9, hB9, hS9⟩ := Nt.store HQ.out k q (by have := HWL.out; omega) HBW.out (by have := HT.out; omega)
      have hdz : ((d : Int) == 0) = false := by simp; omega
      have HQL := Lib.hid hqlt
      have HQ9 := Lib.hid hQ9
      have HB9 := Lib.hid hB9
      have HML := Lib.hid hml
      clear hN hq hm hqlt hQ9 hB9 hml hS9
      go_wp2_with fail
      go_roundw
      case rel => exact ⟨k, m, _, by first | rfl | go_num | (simp; try omega), by first | rfl | rw [hmI], by omega, HML.out, by rw [List.length_set]; exact HWL.out, HWD.out.set _ _ HQL.out, HSTEP.out, HQ9.out, HB9.out⟩
      case measure => simp [intOf]
end Go.Proofs.YtikmebkfdpbidaaGreatDoor
namespace Go.Proofs.YtikmebkfdpbidaaGreatDoor
open Go.RowKit
set_option linter.unusedVariables false

/-- The digit of d, less than 10. -/
def Tx.dg (d : Nat) : UInt8 := UInt8.ofNat (48 + d)
/-- A number's digits, the lowest first, at least one. -/
def Tx.lo (n : Nat) : List UInt8 := if h : n < 10 then [Tx.dg n] else Tx.dg (n % 10) :: Tx.lo (n / 10)
termination_by n
decreasing_by omega
def Tx.dec (n : Nat) : List UInt8 := (Tx.lo n).reverse
theorem Tx.lo_small {n : Nat} (h : n < 10) : Tx.lo n = [Tx.dg n] := by rw [Tx.lo, dif_pos h]
theorem Tx.lo_big {n : Nat} (h : ¬ n < 10) : Tx.lo n = Tx.dg (n % 10) :: Tx.lo (n / 10) := by rw [Tx.lo, dif_neg h]
theorem Tx.lo_pos (n : Nat) : 0 < (Tx.lo n).length := by
  by_cases h : n < 10
  · rw [Tx.lo_small h]; simp
  · rw [Tx.lo_big h]; simp
theorem Tx.lo_len : ∀ (k n : Nat), n < 2 ^ k → (Tx.lo n).length ≤ k + 1
  | 0, n, h => by
    rw [Tx.lo_small (by simp at h; omega)]
    simp
  | k + 1, n, h => by
    by_cases h10 : n < 10
    · rw [Tx.lo_small h10]; simp
    · rw [Tx.lo_big h10, List.length_cons]
      have := Tx.lo_len k (n / 10) (by
        rw [Nat.pow_succ] at h
        omega)
      omega
theorem Tx.lo_len_dig {n k : Nat} (h : (Nt.dig n).length ≤ k) : (Tx.lo n).length ≤ 32 * k + 1 := Tx.lo_len (32 * k) n (by
  refine Nat.lt_of_lt_of_le (Nt.dig_lt_pow n) ?_
  refine Nat.le_trans (Nat.pow_le_pow_right (by decide) h) ?_
  have e : (2 : Nat) ^ 32 = 4294967296 := by decide
  rw [Nat.pow_mul, e]
  exact Nat.le_refl _)
theorem Tx.dg_inj {a b : Nat} (ha : a < 10) (hb : b < 10) (h : Tx.dg a = Tx.dg b) : a = b := by
  have h2 : (Tx.dg a).toNat = (Tx.dg b).toNat := by rw [h]
  unfold Tx.dg at h2
  simp only [UInt8.toNat_ofNat'] at h2
  omega
theorem Tx.lo_inj : ∀ (a b : Nat), Tx.lo a = Tx.lo b → a = b := by
  intro a
  induction a using Nat.strongRecOn with
  | ind a ih =>
    intro b h
    by_cases ha : a < 10
    · by_cases hb : b < 10
      · rw [Tx.lo_small ha, Tx.lo_small hb] at h
        simp only [List.cons.injEq, and_true] at h
        exact Tx.dg_inj ha hb h
      · rw [Tx.lo_small ha, Tx.lo_big hb] at h
        simp only [List.cons.injEq] at h
        have := Tx.lo_pos (b / 10)
        rw [← h.2] at this
        simp at this
    · by_cases hb : b < 10
      · rw [Tx.lo_big ha, Tx.lo_small hb] at h
        simp only [List.cons.injEq] at h
        have := Tx.lo_pos (a / 10)
        rw [h.2] at this
        simp at this
      · rw [Tx.lo_big ha, Tx.lo_big hb] at h
        simp only [List.cons.injEq] at h
        have h1 := Tx.dg_inj (Nat.mod_lt _ (by decide)) (Nat.mod_lt _ (by decide)) h.1
        have h2 := ih (a / 10) (by omega) (b / 10) h.2
        omega
theorem Tx.dec_inj {a b : Nat} (h : Tx.dec a = Tx.dec b) : a = b := Tx.lo_inj a b (List.reverse_inj.1 h)
end Go.Proofs.YtikmebkfdpbidaaGreatDoor
namespace Go.Proofs.YtikmebkfdpbidaaGreatDoor
open Go.RowKit Go.Lib Go.Sort
set_option linter.unusedVariables false
set_option linter.unusedSimpArgs false

def Tx.enc (n : Int) : Value := .int .u8 n
set_option maxHeartbeats 2000000 in
set_option maxRecDepth 1000000 in
theorem Tx.Reverse_arr (blk off cap : Nat) (d : Array Int) (w : World) (hH : Holds Tx.enc w blk off d) (hsz : d.size ≤ 9223372036854775807) :
    Calls Tryz.prog 214 #[.slice (some ⟨blk, off, none⟩) d.size cap] w fun e w' => e = .returned (.tuple #[]) ∧ ∃ n, w' = putRow Tx.enc (Sort.ahead w n) blk off d.reverse := by
  go_enter Tryz.func214, Tryz.ntmps214
  go_wp2
  go_loopg [2, 3] d.size (fun k s2 s3 wr => ∃ (i jn : Nat) (jz : Int) (dk : Array Int) (n : Nat), s2 = .int .i64 i ∧ s3 = .int .i64 jz ∧ ((i : Int) < jz → jz = jn ∧ jn < d.size) ∧ (¬ (i : Int) < jz → ¬ i < jn) ∧ jn - i ≤ k ∧
    dk.size = d.size ∧ wr = putRow Tx.enc (Sort.ahead w n) blk off dk ∧ reverseLoop i jn dk = reverseLoop 0 (d.size - 1) d)
  case atStart => exact ⟨0, d.size - 1, (d.size : Int) - 1, d, 0, rfl, by first | rfl | go_num | (simp; try omega), fun h => ⟨by omega, by omega⟩, fun h => by omega, by omega, rfl, (putRow_self Tx.enc w blk off d hH).symm, rfl⟩
  case round =>
    obtain ⟨i, jn, jz, dk, n, rfl, rfl, h1, h2, hk, hds, hwr, heq⟩ := hrel
    by_cases hlt : (i : Int) < jz
    · obtain ⟨rfl, hjn⟩ := h1 hlt
      have hij : i < jn := by omega
      have hHk : Holds Tx.enc wr blk off dk := by rw [hwr]; exact holds_putRow Tx.enc _ blk off d dk (holds_ahead Tx.enc w n blk off d hH) hds
      obtain ⟨ci, fi⟩ := hHk i (by omega)
      obtain ⟨cj, fj⟩ := hHk jn (by omega)
      have A := Lib.hid (show wr = putRow Tx.enc (Sort.ahead w n) blk off dk from hwr)
      have q1 : ((i : Int) < (d.size : Int)) := by omega
      have q2 : ((jn : Int) < (d.size : Int)) := by omega
      clear hwr hHk hH h1 h2
      unfold Tx.enc at ci cj
      go_wp2_with fail
      go_region
      go_wp2
      go_roundg (jn - 1 - (i + 1))
      case measure => omega
      case rel =>
        rw [reverseLoop, if_pos hij] at heq
        exact ⟨i + 1, jn - 1, (jn : Int) - 1, swp dk i jn, n + 1, by first | rfl | go_num | (simp; try omega), by first | rfl | go_num | (simp; try omega), fun h => ⟨by omega, by omega⟩, fun h => by omega, Nat.le_refl _, by rw [size_swp]; exact hds,
          swap_world Tx.enc (by omega) (by omega) A.out (by first | rfl | simp [Tx.enc, getElem!_pos, show jn < dk.size by omega]) (by first | rfl | simp [Tx.enc, getElem!_pos, show i < dk.size by omega]), heq⟩
    · have hnot := h2 hlt
      go_wp2
      go_end0
      refine ⟨rfl, n, ?_⟩
      rw [reverseLoop, if_neg hnot] at heq
      rw [← Lib.reverseLoop_reverse, ← heq]
theorem Tx.Reverse_own (l : List UInt8) (v : Value) (w : World) (B : Nat) (h : w.ownsRow B 5 1 v l.length (By.bv l)) (h0 : 0 < l.length) :
    Calls Tryz.prog 214 #[v] w fun e w' => e = .returned (.tuple #[]) ∧ w'.ownsRow B 5 1 v l.length (By.bv l.reverse) ∧ w.grownBy w' v.ownBlock := by
  obtain ⟨hlen, h⟩ := h
  rcases h with ⟨_, e⟩ | ⟨g, cap, cur, rfl, hB, hg, hnc, hcm, hcs, htake⟩
  · omega
  have key : ∀ (j : Nat) (hj : j < l.length), cur[j]? = some (.int .u8 (l[j].toNat : Nat)) := by
    intro j hj
    have e1 : (cur.toList.take (l.length * 1))[j]? = (By.bv l)[j]? := by rw [htake]
    rw [List.getElem?_take, if_pos (by omega), Array.getElem?_toList] at e1
    rw [e1]
    simp [By.bv, hj]
  obtain ⟨d, hd⟩ : ∃ d : Array Int, d = (l.map (fun b => (b.toNat : Int))).toArray := ⟨_, rfl⟩
  have hds : d.size = l.length := by rw [hd]; simp
  have hda : ∀ (j : Nat) (hj : j < l.length), d[j]! = (l[j].toNat : Int) := by
    intro j hj
    rw [hd, getElem!_pos _ j (by simpa using hj)]
    simp
  have hH : Holds Tx.enc w g 0 d := by
    intro j hj
    rw [hds] at hj
    refine ⟨?_, by simp [World.frozen?, hg]⟩
    rw [hda j hj]
    have : w.cell? ⟨g, 0 + j, none⟩ = cur[0 + j]? := by simp [World.cell?, hg]
    rw [this, Nat.zero_add, key j hj]
    rfl
  have K := Tx.Reverse_arr g 0 cap d w hH (by rw [hds]; simp only [maxLen] at hcm; omega)
  rw [hds] at K
  refine K.mono ?_
  rintro e w' ⟨rfl, n, rfl⟩
  have hg' : (putRow Tx.enc (Sort.ahead w n) g 0 d.reverse).heap[g]? = some (.cells (putCells Tx.enc 0 d.reverse cur) 5 (0, 0)) := by
    show (w.heap.modify g _)[g]? = _
    rw [Array.getElem?_modify, if_pos rfl, hg]
    rfl
  refine ⟨rfl, ⟨by simp [By.bv], .inr ⟨g, cap, _, rfl, hB, hg', hnc, hcm, ?_, ?_⟩⟩, ?_⟩
  · simp [putCells, hcs]
  · apply List.ext_getElem?
    intro k
    rw [List.getElem?_take]
    by_cases hk : k < l.length
    · rw [if_pos (by omega), Array.getElem?_toList]
      have e1 : (putCells Tx.enc 0 d.reverse cur)[k]? = some (Tx.enc d.reverse[k]!) := by
        unfold putCells
        rw [Array.getElem?_mapIdx, key k hk]
        simp [hds, hk]
      rw [e1, getElem!_pos _ k (by simpa [hds] using hk)]
      have e2 : d.reverse[k]'(by simpa [hds] using hk) = (l.reverse[k]'(by simpa using hk)).toNat := by
        subst hd
        simp
      rw [e2]
      simp [By.bv, hk, Tx.enc]
    · rw [if_neg (by omega)]
      simp [By.bv]
      omega
  · refine ⟨rfl, rfl, rfl, by simp, fun k hk hne => ?_⟩
    show (w.heap.modify g _)[k]? = _
    rw [Array.getElem?_modify, if_neg]
    intro e
    subst e
    exact hne rfl
end Go.Proofs.YtikmebkfdpbidaaGreatDoor
namespace Go.Proofs.YtikmebkfdpbidaaGreatDoor
open Go.RowKit
set_option linter.unusedVariables false
set_option linter.unusedSimpArgs false

theorem Tx.infoByte : (Tryz.prog.info? 5).map (fun i => (i.zero, i.size, i.bytes)) = some (some (.int .u8 0), 1, 1) := by kernel_rfl
set_option maxHeartbeats 2000000 in
set_option maxRecDepth 1000000 in
theorem Tx.check1 (ws : List Nat) (B : Nat) (ad : Option Addr) (cap : Nat) (w : World) (h : w.heap[B]? = some (.cells #[.slice ad ws.length cap] 22 (0, 0))) (hI : Nt.In w (.slice ad ws.length cap) ws) (hw : Nt.Wd ws) (hs : Nt.sound ws = true) :
    Calls Tryz.prog 213 #[.slice (some ⟨B, 0, none⟩) 1 1] w fun e w' => e = .returned (.int .i64 0) ∧ Below w.heap.size w w' := by
  have hl := (Nt.sound_eq hw hs).2
  have c0 : w.cell? ⟨B, 0, none⟩ = some (.slice ad ws.length cap) := Rt.cell_of h 0
  have KS := Nt.Sound_same ws _ w hI hw (by omega)
  rw [hs] at KS
  clear h hI hw hs
  go_enter Tryz.func213, Tryz.ntmps213
  go_wp2_with fail
  go_loopg [7] 1 (fun g i wr => ∃ k : Nat, k + g = 1 ∧ i = .int .i64 k ∧ wr = w)
  case atStart => exact ⟨0, rfl, rfl, rfl⟩
  case round =>
    obtain ⟨k, hk, rfl, rfl⟩ := hrel
    rcases (show k = 0 ∨ k = 1 by omega) with rfl | rfl
    · go_wp2_with fail
      refine KS.mono ?_
      rintro x w1 ⟨rfl, hw1⟩
      subst hw1
      go_wp2_with fail
      go_roundg 0
      case measure => omega
      case rel => exact ⟨1, rfl, by first | rfl | go_num | (simp; try omega), rfl⟩
    · go_wp2_with fail
      go_ret
      exact ⟨rfl, Below.refl _ _⟩
theorem Tx.own_slice {w : World} {base n size : Nat} {e : TypeId} {v : Value} {xs : List Value} (h : w.ownsRow base e size v n xs) : ∃ ad cap, v = .slice ad n cap := by
  rcases h.2 with ⟨rfl, rfl⟩ | ⟨g, cap, _, rfl, _⟩
  · exact ⟨_, _, rfl⟩
  · exact ⟨_, _, rfl⟩
theorem Tx.in_grown {w w' : World} {v : Value} {ws : List Nat} {row : Option Nat} (h : Nt.In w v ws) (hg : w.grownBy w' row) (hne : ∀ b off l c, v = .slice (some ⟨b, off, none⟩) l c → some b ≠ row) : Nt.In w' v ws := by
  rcases h with h | h | ⟨h0, b, off, cap, hv, hc, hl, hcell⟩
  · exact .inl h
  · exact .inr (.inl h)
  · exact .inr (.inr ⟨h0, b, off, cap, hv, hc, Nat.lt_of_lt_of_le hl hg.size, fun j hj => hg.cell (hcell j hj) (hne b off _ _ hv)⟩)
set_option maxHeartbeats 2000000 in
set_option maxRecDepth 1000000 in
theorem Tx.Text_any (n : Nat) (v : Value) (w : World) (h : Nt.N w v n) (hl : (Nt.dig n).length ≤ 512) :
    Calls Tryz.prog 172 #[v, .int .i64 10] w fun e w' => e = .returned (.tuple #[.string ⟨(Tx.dec n).toArray⟩, .int .i64 0]) ∧ Below w.heap.size w w' := by
  obtain ⟨ad, cap, rfl⟩ := Nt.In.slice h
  have hb0 : ∀ o, Below w.heap.size w (w.alloc o) := fun o => (Below.refl _ _).alloc (Nat.le_refl _) o
  have KC := Tx.check1 (Nt.dig n) w.heap.size ad cap (w.alloc (.cells #[.slice ad (Nt.dig n).length cap] 22)) (heap_alloc_new w _) (Nt.In.below h (hb0 _) (Nat.le_refl _)) (Nt.dig_wd n) (by rw [Nt.sound_dig]; exact decide_eq_true hl)
  have HB0 := Lib.hid (hb0 (.cells #[.slice ad (Nt.dig n).length cap] 22))
  have HN := Lib.hid h
  have HLO := Lib.hid (Tx.lo_len_dig hl)
  obtain ⟨i0, hi, hz0, hz1, hz2⟩ := info_parts Tx.infoByte
  clear h hb0
  go_enter Tryz.func172, Tryz.ntmps172
  go_wp2_with fail
  refine KC.mono ?_
  rintro x w1 ⟨rfl, hb1⟩
  have HB1 := Lib.hid (HB0.out.trans (hb1.mono HB0.out.size))
  clear hb1 KC
  go_wp2_with fail
  go_loopg [0, 7] (Tx.lo n).length (fun g a o wr => ∃ (cur : Nat) (out : List UInt8), Nt.N wr a cur ∧ wr.ownsRow w.heap.size 5 1 o out.length (By.bv out) ∧ Below w.heap.size w wr ∧ cur ≤ n ∧ ((g = 0 ∧ cur = 0 ∧ out = Tx.lo n) ∨ (g = (Tx.lo cur).length ∧ out ++ Tx.lo cur = Tx.lo n ∧ (out = [] ∨ 0 < cur))))
  case atStart => exact ⟨n, [], Nt.In.below HN.out HB1.out (Nat.le_refl _), World.ownsRow_nil _ _ _ _, HB1.out, Nat.le_refl _, .inr ⟨rfl, rfl, .inl rfl⟩⟩
  case round =>
    obtain ⟨cur, out, hN, hown, hbw, hcn, hst⟩ := hrel
    obtain ⟨wo, hwo⟩ : ∃ z, z = wr := ⟨_, rfl⟩
    subst hwo
    obtain ⟨aa, ac, hv⟩ := Nt.In.slice hN
    obtain ⟨L, hL⟩ : ∃ z, z = (Nt.dig cur).length := ⟨_, rfl⟩
    rw [← hL] at hv
    subst hv
    obtain ⟨oa, oc, hv⟩ := Tx.own_slice hown
    obtain ⟨K, hK⟩ : ∃ z, z = out.length := ⟨_, rfl⟩
    rw [← hK] at hv hown
    subst hv
    have HKK := Lib.hid hK
    have HNN := Lib.hid hN
    have HOWN := Lib.hid hown
    have HBW := Lib.hid hbw
    have hlc : (Nt.dig cur).length ≤ 512 := Nat.le_trans (Nt.dig_len_mono hcn) hl
    have hol : out.length ≤ 16385 := by
      have := HLO.out
      rcases hst with ⟨_, _, e⟩ | ⟨_, e, _⟩
      · rw [e]; exact this
      · rw [← e, List.length_append] at this; omega
    clear hN hown hbw
    rcases hst with ⟨hg, hc0, hout⟩ | ⟨hg, hout, hor⟩
    · subst hc0
      have hd0 : L = 0 := by rw [hL, Nt.dig_zero]; rfl
      subst hd0
      clear hL hlc
      have hop : 0 < out.length := by rw [hout]; exact Tx.lo_pos n
      have KR := Tx.Reverse_own out _ wo w.heap.size (by rw [← hK]; exact HOWN.out) hop
      rw [← hK] at KR hop hol
      have HOUT := Lib.hid hout
      have hne : ((K : Int) == 0) = false := beq_eq_false_iff_ne.2 (by omega)
      clear hout hK
      go_wp2_with fail
      refine KR.mono ?_
      rintro x w5 ⟨rfl, hown5, hg5⟩
      have HB5 := Lib.hid (Sl.below_own HBW.out HOWN.out hg5 (Nat.le_refl _) HBW.out.size)
      have hcv : (convert 27 9 (.slice oa K oc)).run Tryz.prog w5 = .ok (.string ⟨(Tx.dec n).toArray⟩) w5 := by
        rcases hown5.2 with ⟨_, e⟩ | ⟨g, c, cu, hv, _⟩
        · omega
        · simp only [Value.slice.injEq] at hv
          obtain ⟨rfl, _, rfl⟩ := hv
          have h2 := World.ownsRow.cells hown5 (g := g) rfl
          have h3 := run_convert_bytes_back (P := Tryz.prog) w5 27 9 5 ⟨g, 0, none⟩ oc out.reverse Tryz.underlying27 Tryz.underlying5 Tryz.underlying9 (fun j hj => h2 j _ (by
            unfold By.bv
            rw [List.getElem?_map, List.getElem?_eq_getElem hj]
            rfl))
          rw [List.length_reverse, ← HKK.out] at h3
          rw [h3, HOUT.out]
          rfl
      clear hown5 hg5 KR
      go_wp2_with fail
      go_ret2
      exact ⟨rfl, HB5.out⟩
    · have KS := Tx.short_fr (Nt.dig cur) 10 _ wo HNN.out (Nt.dig_wd cur) (by omega) (by decide) (by decide)
      rw [Nt.val_dig] at KS
      have hol2 : K < 16386 := by
        rw [hK]
        have := HLO.out
        rw [← hout, List.length_append] at this
        have := Tx.lo_pos cur
        omega
      have HST := Lib.hid (And.intro hg (And.intro hout hor))
      have hgo : ((L : Int) > 0) ∨ (L = 0 ∧ K = 0) := by
        rw [hL]
        rcases Nat.eq_zero_or_pos cur with h0 | h0
        · refine .inr ⟨?_, ?_⟩
          · rw [h0, Nt.dig_zero]; rfl
          · rcases hor with h | h
            · rw [hK, h]; rfl
            · omega
        · have := Nt.dig_len_pos.2 h0
          exact .inl (by omega)
      obtain ⟨r, hr⟩ : ∃ z, z = cur % 10 := ⟨_, rfl⟩
      have hr10 : r < 10 := by rw [hr]; exact Nat.mod_lt _ (by decide)
      rw [← hr] at KS
      have HR := Lib.hid hr
      clear hg hout hor hr hL hlc hK
      have FIN : Hid (∀ (o' : Value) (vq : Value) (w9 : World) (g0 : Nat), Nt.N w9 vq (cur / 10) → w9.ownsRow w.heap.size 5 1 o' (K + 1) (By.bv out ++ [.int .u8 ((48 + r : Nat) : Int)]) → Below w.heap.size w w9 →
          ∃ g', g' < gk ∧ ∃ (cur' : Nat) (out' : List UInt8), Nt.N w9 vq cur' ∧ w9.ownsRow w.heap.size 5 1 o' out'.length (By.bv out') ∧ Below w.heap.size w w9 ∧ cur' ≤ n ∧ ((g' = 0 ∧ cur' = 0 ∧ out' = Tx.lo n) ∨ (g' = (Tx.lo cur').length ∧ out' ++ Tx.lo cur' = Tx.lo n ∧ (out' = [] ∨ 0 < cur')))) := Lib.hid (fun o' vq w9 g0 a1 a2 a3 => by
        obtain ⟨hg, hout, hor⟩ := HST.out
        have hbv : By.bv (out ++ [Tx.dg r]) = By.bv out ++ [.int .u8 ((48 + r : Nat) : Int)] := by
          rw [By.bv_append]
          congr 1
          show [Value.int .u8 ((Tx.dg r).toNat : Int)] = _
          have : (Tx.dg r).toNat = 48 + r := by unfold Tx.dg; simp only [UInt8.toNat_ofNat']; omega
          rw [this]
        by_cases hlt : cur < 10
        · refine ⟨0, by rw [hg]; exact Tx.lo_pos _, cur / 10, out ++ [Tx.dg r], a1, ?_, a3, by omega, .inl ⟨rfl, by omega, ?_⟩⟩
          · rw [hbv, List.length_append, ← HKK.out]; exact a2
          · rw [← hout, Tx.lo_small hlt, HR.out, Nat.mod_eq_of_lt hlt]
        · rw [Tx.lo_big hlt] at hout hg
          refine ⟨(Tx.lo (cur / 10)).length, by rw [hg, List.length_cons]; omega, cur / 10, out ++ [Tx.dg r], a1, ?_, a3, by omega, .inr ⟨rfl, ?_, .inr (by omega)⟩⟩
          · rw [hbv, List.length_append, ← HKK.out]; exact a2
          · rw [← hout, HR.out, List.append_assoc]; rfl)
      rcases hgo with hgo | ⟨rfl, rfl⟩
      · go_wp2_with fail
        refine KS.mono ?_
        rintro x w2 ⟨vq, rfl, hq, hf, hb2⟩
        obtain ⟨qa, qc, rfl⟩ := Nt.In.slice hq
        have HBW2 := Lib.hid (HBW.out.trans (hb2.mono HBW.out.size))
        have HQ := Lib.hid (And.intro hq hf)
        have HO2 := Lib.hid (Sl.own_below HOWN.out hb2 (Nat.le_refl _))
        have HLT := Lib.hid HOWN.out.lt
        clear hq hf hb2 KS
        rcases (show r = 0 ∨ r = 1 ∨ r = 2 ∨ r = 3 ∨ r = 4 ∨ r = 5 ∨ r = 6 ∨ r = 7 ∨ r = 8 ∨ r = 9 by omega) with rfl | rfl | rfl | rfl | rfl | rfl | rfl | rfl | rfl | rfl
        all_goals
          go_wp2_with (at_builtin; refine wpList_append_own _ rfl _ _ 27 rfl w.heap.size 5 i0 (.int .u8 0) 1 1 Tryz.underlying27 hi hz0 hz1 hz2 rfl (by decide) _ _ _ rfl (HO2.out.alloc _) ⟨w2.heap.size, 0, none⟩ 1 1 [_] rfl rfl (Sl.one_new _ _ _) ?c2 ?c3 ?c4 ?c5 ?_)
          case c2 => intro u hu; simp only [List.mem_singleton] at hu; subst hu; rfl
          case c3 => simp only [maxLen]; omega
          case c4 => omega
          case c5 => have := HBW2.out.size; simp; omega
          intro o' w3 hown3 hg3 _
          have hB3 := Sl.below_own (HBW2.out.alloc HBW2.out.size _) (HO2.out.alloc _) hg3 (Nat.le_refl _) (by have := HBW2.out.size; simp; omega)
          have hN3 := Tx.in_grown (Nt.In.below HQ.out.1 ((Below.refl _ _).alloc (Nat.le_refl _) _) (Nat.le_refl _)) hg3 (fun b off l c e => by
            intro e2
            have h1 := (HLT.out b e2.symm).2
            have h2 := HQ.out.2 b off l c e
            omega)
          obtain ⟨g', hlt', hrel'⟩ := FIN.out o' _ w3 0 hN3 hown3 hB3
          obtain ⟨oa', oc', rfl⟩ := Tx.own_slice hown3
          have HREL := Lib.hid hrel'
          clear hrel' hN3 hown3 hg3 hB3
          go_wp2_with fail
          go_roundg g'
          case measure => exact hlt'
          case rel => exact HREL.out
      · go_wp2_with fail
        refine KS.mono ?_
        rintro x w2 ⟨vq, rfl, hq, hf, hb2⟩
        obtain ⟨qa, qc, rfl⟩ := Nt.In.slice hq
        have HBW2 := Lib.hid (HBW.out.trans (hb2.mono HBW.out.size))
        have HQ := Lib.hid (And.intro hq hf)
        have HO2 := Lib.hid (Sl.own_below HOWN.out hb2 (Nat.le_refl _))
        have HLT := Lib.hid HOWN.out.lt
        clear hq hf hb2 KS
        rcases (show r = 0 ∨ r = 1 ∨ r = 2 ∨ r = 3 ∨ r = 4 ∨ r = 5 ∨ r = 6 ∨ r = 7 ∨ r = 8 ∨ r = 9 by omega) with rfl | rfl | rfl | rfl | rfl | rfl | rfl | rfl | rfl | rfl
        all_goals
          go_wp2_with (at_builtin; refine wpList_append_own _ rfl _ _ 27 rfl w.heap.size 5 i0 (.int .u8 0) 1 1 Tryz.underlying27 hi hz0 hz1 hz2 rfl (by decide) _ _ _ rfl (HO2.out.alloc _) ⟨w2.heap.size, 0, none⟩ 1 1 [_] rfl rfl (Sl.one_new _ _ _) ?c2 ?c3 ?c4 ?c5 ?_)
          case c2 => intro u hu; simp only [List.mem_singleton] at hu; subst hu; rfl
          case c3 => simp only [maxLen]; omega
          case c4 => omega
          case c5 => have := HBW2.out.size; simp; omega
          intro o' w3 hown3 hg3 _
          have hB3 := Sl.below_own (HBW2.out.alloc HBW2.out.size _) (HO2.out.alloc _) hg3 (Nat.le_refl _) (by have := HBW2.out.size; simp; omega)
          have hN3 := Tx.in_grown (Nt.In.below HQ.out.1 ((Below.refl _ _).alloc (Nat.le_refl _) _) (Nat.le_refl _)) hg3 (fun b off l c e => by
            intro e2
            have h1 := (HLT.out b e2.symm).2
            have h2 := HQ.out.2 b off l c e
            omega)
          obtain ⟨g', hlt', hrel'⟩ := FIN.out o' _ w3 0 hN3 hown3 hB3
          obtain ⟨oa', oc', rfl⟩ := Tx.own_slice hown3
          have HREL := Lib.hid hrel'
          clear hrel' hN3 hown3 hg3 hB3
          go_wp2_with fail
          go_roundg g'
          case measure => exact hlt'
          case rel => exact HREL.out
end Go.Proofs.YtikmebkfdpbidaaGreatDoor
namespace Go.Proofs.YtikmebkfdpbidaaGreatDoor
open Go.RowKit
set_option linter.unusedVariables false
set_option linter.unusedSimpArgs false

/-- Bytes as a text. -/
def Tx.str (l : List UInt8) : ByteArray := ⟨l.toArray⟩
theorem Tx.str_append (a b : List UInt8) : Tx.str a ++ Tx.str b = Tx.str (a ++ b) := by
  unfold Tx.str
  apply ByteArray.ext
  simp
/-- A fraction's text. -/
def Tx.rat (s : Bool) (t b : Nat) : List UInt8 := (if s = true then [45] else []) ++ (Tx.dec t ++ if b = 1 then [] else 47 :: Tx.dec b)
set_option maxHeartbeats 2000000 in
set_option maxRecDepth 1000000 in
theorem Tx.ratText_any (s : Bool) (t b : Nat) (v : Value) (w : World) (h : Rt.R w v s t b) (hb : 0 < b) (hl : (Nt.dig t).length ≤ 512 ∧ (Nt.dig b).length ≤ 512) :
    Calls Tryz.prog 126 #[v, .int .i64 10] w fun e w' => e = .returned (.string (Tx.str (Tx.rat s t b))) ∧ Below w.heap.size w w' := by
  obtain ⟨tv, bv, rfl, h1, h2⟩ := h
  obtain ⟨S, hS, hone⟩ := Rt.isOne h2 hb
  obtain ⟨ta, tc, hv⟩ := Nt.In.slice h1
  obtain ⟨L, hL⟩ : ∃ z, z = (Nt.dig t).length := ⟨_, rfl⟩
  rw [← hL] at hv
  subst hv
  obtain ⟨ba, bc, hv2⟩ := Nt.In.slice h2
  obtain ⟨M, hM⟩ : ∃ z, z = (Nt.dig b).length := ⟨_, rfl⟩
  rw [← hM] at hv2
  subst hv2
  have HB0 : Hid (∀ o, Below w.heap.size w (w.alloc o)) := Lib.hid (fun o => (Below.refl _ _).alloc (Nat.le_refl _) o)
  have KT := Lib.hid (fun w' (hb : Below w.heap.size w w') => Tx.Text_any t _ w' (Nt.In.below h1 hb (Nat.le_refl _)) hl.1)
  have KB := Lib.hid (fun w' (hb : Below w.heap.size w w') => Tx.Text_any b _ w' (Nt.In.below h2 hb (Nat.le_refl _)) hl.2)
  have hq : (w.alloc (.cells #[.bool s, .slice ta L tc, .slice ba M bc] 24)).heap[w.heap.size]? = some (.cells #[.bool s, .slice ta L tc, .slice ba M bc] 24 (0, 0)) := heap_alloc_new w _
  have HF : Hid (∀ w', Below (w.heap.size + 1) (w.alloc (.cells #[.bool s, .slice ta L tc, .slice ba M bc] 24)) w' → (w'.cell? ⟨w.heap.size, 0, none⟩ = some (.bool s) ∧ w'.cell? ⟨w.heap.size, 1, none⟩ = some (.slice ta L tc) ∧ w'.cell? ⟨w.heap.size, 2, none⟩ = some (.slice ba M bc)) ∧ Below w.heap.size w w') := Lib.hid (fun w' hb => by
    have a0 := (hb.block w.heap.size (Nat.lt_succ_self _)).trans hq
    exact ⟨Rt.cells3 a0, (HB0.out _).trans (hb.mono (Nat.le_succ _))⟩)
  have HONE : Hid (∀ w', Below w.heap.size w w' → (S = false ∧ ((M : Int) == 1) = false) ∨ ∃ bb off, ba = some ⟨bb, off, none⟩ ∧ M = 1 ∧ w'.cell? ⟨bb, off, none⟩ = some (.int .u32 b) ∧ ((b : Int) == 1) = S) := Lib.hid (fun w' hb => by
    rcases hone with ⟨ad, cap, e, e2, e3⟩ | ⟨bb, off, cap, e, e2, e3⟩
    · rw [← hM] at e2
      exact .inl ⟨e3, e2⟩
    · simp only [Value.slice.injEq] at e
      obtain ⟨rfl, rfl, rfl⟩ := e
      rcases h2 with ⟨e, _⟩ | ⟨a, c, e, e4⟩ | ⟨h0, b3, off3, cap3, e, hc, hlt, hcell⟩
      · cases e
      · simp only [Value.slice.injEq] at e
        omega
      · simp only [Value.slice.injEq, Option.some.injEq, Addr.mk.injEq] at e
        obtain ⟨⟨rfl, rfl, _⟩, _, _⟩ := e
        exact .inr ⟨bb, off, rfl, rfl, (hb.cell (p := ⟨bb, off, none⟩) hlt).trans e2, e3⟩)
  have HS := Lib.hid hS
  have hz : (w.alloc (.cells #[.bool s, .slice ta L tc, .slice ba M bc] 24)).heap.size = w.heap.size + 1 := by simp
  have HZ := Lib.hid hz
  have n1 : (Tx.dec t).length ≤ 16385 := by unfold Tx.dec; rw [List.length_reverse]; exact Tx.lo_len_dig hl.1
  have n2 : (Tx.dec b).length ≤ 16385 := by unfold Tx.dec; rw [List.length_reverse]; exact Tx.lo_len_dig hl.2
  have f1 : (9223372036854775807 < 1 + (Tx.dec t).length) = False := eq_false (by omega)
  have f2 : (9223372036854775807 < 1 + (Tx.dec b).length) = False := eq_false (by omega)
  have f3 : (9223372036854775807 < (Tx.dec t).length + (1 + (Tx.dec b).length)) = False := eq_false (by omega)
  have f4 : (9223372036854775807 < 1 + (Tx.dec t).length + (1 + (Tx.dec b).length)) = False := eq_false (by omega)
  clear h1 h2 hone hL hM hq hS hz hl n1 n2
  go_enter Tryz.func126, Tryz.ntmps126
  go_wp2_with fail
  refine (KT.out _ (HB0.out _)).mono ?_
  rintro x w1 ⟨rfl, hb1⟩
  rw [HZ.out] at hb1
  have HB1 := Lib.hid hb1
  obtain ⟨⟨c0, c1, c2⟩, hbw1⟩ := HF.out _ hb1
  have hcase := HONE.out _ hbw1
  have HBW1 := Lib.hid hbw1
  have HTT : Hid (∀ (R : List UInt8), (if S = true then [] else 47 :: Tx.dec b) = R → (if s = true then [45] else []) ++ (Tx.dec t ++ R) = Tx.rat s t b) := Lib.hid (fun R e => by
    unfold Tx.rat
    rw [← e, HS.out]
    by_cases hb1 : b = 1
    · simp [hb1]
    · simp [hb1])
  clear hb1 hbw1
  rcases hcase with ⟨rfl, hM1⟩ | ⟨bb, off, rfl, rfl, c3, hb1⟩
  · have hM2 : ((M : Int) != 1) = true := by rw [bne, hM1]; rfl
    cases s
    all_goals
      go_wp2_with fail
      refine (KB.out _ HBW1.out).mono ?_
      rintro x w2 ⟨rfl, hb2⟩
      have HB2 := Lib.hid (HBW1.out.trans (hb2.mono HBW1.out.size))
      clear hb2
      go_wp2_with fail
      go_ret
      refine ⟨?_, HB2.out⟩
      rw [← HTT.out _ rfl]
      first | rfl | (simp [Tx.str, Tx.str_append]; done) | (simp [Tx.str]; apply ByteArray.ext; simp)
  · have hb2 : ((b : Int) != 1) = !S := by rw [bne, hb1]
    cases S
    · have hb3 : ((b : Int) != 1) = true := hb2
      cases s
      all_goals
        go_wp2_with fail
        refine (KB.out _ HBW1.out).mono ?_
        rintro x w2 ⟨rfl, hb2⟩
        have HB2 := Lib.hid (HBW1.out.trans (hb2.mono HBW1.out.size))
        clear hb2
        go_wp2_with fail
        go_ret
        refine ⟨?_, HB2.out⟩
        rw [← HTT.out _ rfl]
        first | rfl | (simp [Tx.str, Tx.str_append]; done) | (simp [Tx.str]; apply ByteArray.ext; simp)
    · have hb3 : ((b : Int) != 1) = false := hb2
      cases s
      all_goals
        go_wp2_with fail
        go_ret
        refine ⟨?_, HBW1.out⟩
        rw [← HTT.out _ rfl]
        first | rfl | (simp [Tx.str, Tx.str_append]; done) | (simp [Tx.str]; apply ByteArray.ext; simp)
end Go.Proofs.YtikmebkfdpbidaaGreatDoor
namespace Go.Proofs.YtikmebkfdpbidaaGreatDoor
open Go.RowKit
set_option linter.unusedVariables false
set_option linter.unusedSimpArgs false

set_option maxHeartbeats 2000000 in
set_option maxRecDepth 1000000 in
theorem Tx.chk1 (s1 s2 : Bool) (a1 a2 a3 a4 : Option Addr) (l1 l2 l3 l4 c1 c2 c3 c4 B : Nat) (w : World) (h : w.heap[B]? = some (.cells #[.bool s1, .slice a1 l1 c1, .slice a2 l2 c2, .bool s2, .slice a3 l3 c3, .slice a4 l4 c4] 26 (0, 0)))
    (K1 : Rt.SoundAt w (.agg #[.bool s1, .slice a1 l1 c1, .slice a2 l2 c2, .bool s2, .slice a3 l3 c3, .slice a4 l4 c4])) :
    Calls Tryz.prog 119 #[.bool false, .slice (some ⟨B, 0, none⟩) 1 1] w fun e w' => e = .returned (.int .i64 0) ∧ Below w.heap.size w w' := by
  have hlt := (Array.getElem?_eq_some_iff.1 h).1
  have HC := Lib.hid (fun (w' : World) (hb : Below w.heap.size w w') => Rt.cells6 ((hb.block B hlt).trans h))
  have HK1 := Lib.hid K1
  clear h K1
  go_enter Tryz.func119, Tryz.ntmps119
  go_wp2_with fail
  go_loopw [11] (fun i wr => Below w.heap.size w wr ∧ ∃ k : Nat, i = .int .i64 k ∧ k ≤ 1) (fun i _ => 1 - (intOf i).toNat)
  case atStart => exact ⟨Below.refl _ _, 0, rfl, by decide⟩
  case round =>
    obtain ⟨hbw, k, rfl, hk⟩ := hrel
    obtain ⟨wo, hwo⟩ : ∃ z, z = wr := ⟨_, rfl⟩
    subst hwo
    have HBW := Lib.hid hbw
    have HA : Hid (∀ o, Below w.heap.size w (wo.alloc o)) := Lib.hid (fun o => hbw.alloc hbw.size o)
    obtain ⟨d0, d1, d2, d3, d4, d5⟩ := HC.out _ hbw
    clear hbw
    rcases (show k = 0 ∨ k = 1 by omega) with rfl | rfl
    · go_wp2_with fail
      refine (HK1.out _ (HA.out _)).mono ?_
      rintro x w1 ⟨rfl, hb1⟩
      have HB1 := Lib.hid ((HA.out _).trans (hb1.mono (HA.out _).size))
      clear hb1
      go_wp2_with fail
      go_roundw
      case rel => exact ⟨HB1.out, _, by first | rfl | go_num, by decide⟩
      case measure => simp [intOf]
    · clear HA
      go_wp2_with fail
      go_loopw [21] (fun i wr => Below w.heap.size w wr ∧ ∃ k : Nat, i = .int .i64 k ∧ k ≤ 1) (fun i _ => 1 - (intOf i).toNat)
      case atStart => exact ⟨HBW.out, 0, rfl, by decide⟩
      case round =>
        obtain ⟨hbw, k, rfl, hk⟩ := hrel
        obtain ⟨wi, hwi⟩ : ∃ z, z = wr := ⟨_, rfl⟩
        subst hwi
        have HBW := Lib.hid hbw
        have HA : Hid (∀ o, Below w.heap.size w (wi.alloc o)) := Lib.hid (fun o => hbw.alloc hbw.size o)
        clear d0 d1 d2 d3 d4 d5
        obtain ⟨d0, d1, d2, d3, d4, d5⟩ := HC.out _ hbw
        clear hbw
        rcases (show k = 0 ∨ k = 1 by omega) with rfl | rfl
        · go_wp2_with fail
          go_roundw
          case rel => exact ⟨HA.out _, _, by first | rfl | go_num, by decide⟩
          case measure => simp [intOf]
        · go_wp2_with fail
          go_ret
          exact ⟨rfl, HBW.out⟩
set_option maxHeartbeats 8000000 in
set_option maxRecDepth 1000000 in
theorem Tx.chk2 (s1 s2 s3 s4 : Bool) (a1 a2 a3 a4 a5 a6 a7 a8 : Option Addr) (l1 l2 l4 l5 l6 l8 c1 c2 c3 c4 c5 c6 c7 c8 B : Nat) (w : World) (h : w.heap[B]? = some (.cells #[.bool s1, .slice a1 l1 c1, .slice a2 l2 c2, .bool s2, .slice a3 0 c3, .slice a4 l4 c4, .bool s3, .slice a5 l5 c5, .slice a6 l6 c6, .bool s4, .slice a7 0 c7, .slice a8 l8 c8] 26 (0, 0)))
    (K1 : Rt.SoundAt w (.agg #[.bool s1, .slice a1 l1 c1, .slice a2 l2 c2, .bool s2, .slice a3 0 c3, .slice a4 l4 c4])) (K2 : Rt.SoundAt w (.agg #[.bool s3, .slice a5 l5 c5, .slice a6 l6 c6, .bool s4, .slice a7 0 c7, .slice a8 l8 c8])) :
    Calls Tryz.prog 119 #[.bool true, .slice (some ⟨B, 0, none⟩) 2 2] w fun e w' => e = .returned (.int .i64 0) ∧ Below w.heap.size w w' := by
  have hlt := (Array.getElem?_eq_some_iff.1 h).1
  have HC := Lib.hid (fun (w' : World) (hb : Below w.heap.size w w') => Rt.cells12 ((hb.block B hlt).trans h))
  have HK1 := Lib.hid K1
  have HK2 := Lib.hid K2
  clear h K1 K2
  go_enter Tryz.func119, Tryz.ntmps119
  go_wp2_with fail
  go_loopw [11] (fun i wr => Below w.heap.size w wr ∧ ∃ k : Nat, i = .int .i64 k ∧ k ≤ 2) (fun i _ => 2 - (intOf i).toNat)
  case atStart => exact ⟨Below.refl _ _, 0, rfl, by decide⟩
  case round =>
    obtain ⟨hbw, k, rfl, hk⟩ := hrel
    obtain ⟨wo, hwo⟩ : ∃ z, z = wr := ⟨_, rfl⟩
    subst hwo
    have HBW := Lib.hid hbw
    have HA : Hid (∀ o, Below w.heap.size w (wo.alloc o)) := Lib.hid (fun o => hbw.alloc hbw.size o)
    obtain ⟨⟨d0, d1, d2, d3, d4, d5⟩, d6, d7, d8, d9, d10, d11⟩ := HC.out _ hbw
    clear hbw
    rcases (show k = 0 ∨ k = 1 ∨ k = 2 by omega) with rfl | rfl | rfl
    · go_wp2_with fail
      refine (HK1.out _ (HA.out _)).mono ?_
      rintro x w1 ⟨rfl, hb1⟩
      have HB1 := Lib.hid ((HA.out _).trans (hb1.mono (HA.out _).size))
      clear hb1
      go_wp2_with fail
      go_roundw
      case rel => exact ⟨HB1.out, _, by first | rfl | go_num, by decide⟩
      case measure => simp [intOf]
    · go_wp2_with fail
      refine (HK2.out _ (HA.out _)).mono ?_
      rintro x w1 ⟨rfl, hb1⟩
      have HB1 := Lib.hid ((HA.out _).trans (hb1.mono (HA.out _).size))
      clear hb1
      go_wp2_with fail
      go_roundw
      case rel => exact ⟨HB1.out, _, by first | rfl | go_num, by decide⟩
      case measure => simp [intOf]
    · clear HA
      go_wp2_with fail
      go_loopw [21] (fun i wr => Below w.heap.size w wr ∧ ∃ k : Nat, i = .int .i64 k ∧ k ≤ 2) (fun i _ => 2 - (intOf i).toNat)
      case atStart => exact ⟨HBW.out, 0, rfl, by decide⟩
      case round =>
        obtain ⟨hbw, k, rfl, hk⟩ := hrel
        obtain ⟨wi, hwi⟩ : ∃ z, z = wr := ⟨_, rfl⟩
        subst hwi
        have HBW := Lib.hid hbw
        have HA : Hid (∀ o, Below w.heap.size w (wi.alloc o)) := Lib.hid (fun o => hbw.alloc hbw.size o)
        clear d0 d1 d2 d3 d4 d5 d6 d7 d8 d9 d10 d11
        obtain ⟨⟨d0, d1, d2, d3, d4, d5⟩, d6, d7, d8, d9, d10, d11⟩ := HC.out _ hbw
        clear hbw
        rcases (show k = 0 ∨ k = 1 ∨ k = 2 by omega) with rfl | rfl | rfl
        · go_wp2_with fail
          go_roundw
          case rel => exact ⟨HA.out _, _, by first | rfl | go_num, by decide⟩
          case measure => simp [intOf]
        · go_wp2_with fail
          go_roundw
          case rel => exact ⟨HA.out _, _, by first | rfl | go_num, by decide⟩
          case measure => simp [intOf]
        · go_wp2_with fail
          go_ret
          exact ⟨rfl, HBW.out⟩
end Go.Proofs.YtikmebkfdpbidaaGreatDoor
namespace Go.Proofs.YtikmebkfdpbidaaGreatDoor
open Go.RowKit
set_option linter.unusedVariables false
set_option linter.unusedSimpArgs false

theorem Tx.N_slice {w : World} {v : Value} {n : Nat} (h : Nt.N w v n) : ∃ L a c, v = .slice a L c ∧ L = (Nt.dig n).length := by
  obtain ⟨a, c, hv⟩ := Nt.In.slice h
  exact ⟨_, a, c, hv, rfl⟩
theorem Tx.N_zero {w : World} {v : Value} (h : Nt.N w v 0) : ∃ a c, v = .slice a 0 c := by
  obtain ⟨a, c, hv⟩ := Nt.In.slice h
  rw [Nt.dig_zero] at hv
  exact ⟨a, c, hv⟩
set_option maxHeartbeats 2000000 in
set_option maxRecDepth 1000000 in
theorem Tx.Text_real (s : Bool) (t b : Nat) (s2 : Bool) (b2 : Nat) (v : Value) (w : World) (h : Rt.Q w v s t b s2 0 b2) (K : Rt.SoundAt w v) (hb : 0 < b) (hl : (Nt.dig t).length ≤ 512 ∧ (Nt.dig b).length ≤ 512) :
    Calls Tryz.prog 78 #[v, .int .i64 10] w fun e w' => e = .returned (.tuple #[.string (Tx.str (Tx.rat s t b)), .int .i64 0]) ∧ Below w.heap.size w w' := by
  obtain ⟨tv, bv, tv2, bv2, rfl, h1, h2, h3, h4⟩ := h
  obtain ⟨a3, c3, rfl⟩ := Tx.N_zero h3
  obtain ⟨L1, a1, c1, rfl, hL1⟩ := Tx.N_slice h1
  obtain ⟨L2, a2, c2, rfl, hL2⟩ := Tx.N_slice h2
  obtain ⟨L4, a4, c4, rfl, hL4⟩ := Tx.N_slice h4
  obtain ⟨n0, n1, n2, n3⟩ := Sm.two w (.cells #[.bool s, .slice a1 L1 c1, .slice a2 L2 c2, .bool s2, .slice a3 0 c3, .slice a4 L4 c4] 26) (.cells #[.bool s, .slice a1 L1 c1, .slice a2 L2 c2, .bool s2, .slice a3 0 c3, .slice a4 L4 c4] 26)
  have KC := Tx.chk1 _ _ _ _ _ _ _ _ _ _ _ _ _ _ _ _ n1 (fun w' hb => K w' (n3.trans (hb.mono n3.size)))
  have KR := Lib.hid (fun w' (hb2 : Below w.heap.size w w') => Tx.ratText_any s t b (.agg #[.bool s, .slice a1 L1 c1, .slice a2 L2 c2]) w' ⟨_, _, rfl, Nt.In.below h1 hb2 (Nat.le_refl _), Nt.In.below h2 hb2 (Nat.le_refl _)⟩ hb hl)
  have HN := Lib.hid (And.intro n0 (And.intro n2 n3))
  clear n0 n1 n2 n3 h1 h2 h3 h4 hL1 hL2 hL4 K
  go_enter Tryz.func78, Tryz.ntmps78
  go_wp2_with fail
  refine KC.mono ?_
  rintro x w1 ⟨rfl, hb1⟩
  have HB1 := Lib.hid (HN.out.2.2.trans (hb1.mono HN.out.2.2.size))
  obtain ⟨e0, e1, e2, e3, e4, e5⟩ := Rt.cells6 ((hb1.block w.heap.size (by have := HN.out.2.1; omega)).trans HN.out.1)
  clear hb1 KC
  go_wp2_with fail
  refine (KR.out _ HB1.out).mono ?_
  rintro x w2 ⟨rfl, hb2⟩
  have HB2 := Lib.hid (HB1.out.trans (hb2.mono HB1.out.size))
  clear hb2
  go_wp2_with fail
  go_ret2
  exact ⟨rfl, HB2.out⟩
end Go.Proofs.YtikmebkfdpbidaaGreatDoor
namespace Go.Proofs.YtikmebkfdpbidaaGreatDoor
open Go.RowKit
set_option linter.unusedVariables false
set_option linter.unusedSimpArgs false

/-- Is it 1? As a test reads it. -/
theorem Tx.one_in {w : World} {a : Option Addr} {M c b : Nat} (h : Nt.N w (.slice a M c) b) (hM : M = (Nt.dig b).length) (hb : 0 < b) : ∃ S : Bool, S = decide (b = 1) ∧ ∀ w', Below w.heap.size w w' → (S = false ∧ ((M : Int) == 1) = false) ∨ ∃ bb off, a = some ⟨bb, off, none⟩ ∧ M = 1 ∧ w'.cell? ⟨bb, off, none⟩ = some (.int .u32 b) ∧ ((b : Int) == 1) = S := by
  obtain ⟨S, hS, hone⟩ := Rt.isOne h hb
  refine ⟨S, hS, fun w' hbw => ?_⟩
  rcases hone with ⟨ad, cap, e, e2, e3⟩ | ⟨bb, off, cap, e, e2, e3⟩
  · rw [← hM] at e2
    exact .inl ⟨e3, e2⟩
  · simp only [Value.slice.injEq] at e
    obtain ⟨rfl, rfl, rfl⟩ := e
    rcases h with ⟨e, _⟩ | ⟨a, c, e, e4⟩ | ⟨h0, b3, off3, cap3, e, hc, hlt, hcell⟩
    · cases e
    · simp only [Value.slice.injEq] at e
      omega
    · simp only [Value.slice.injEq, Option.some.injEq, Addr.mk.injEq] at e
      obtain ⟨⟨rfl, rfl, _⟩, _, _⟩ := e
      exact .inr ⟨bb, off, rfl, rfl, (hbw.cell (p := ⟨bb, off, none⟩) hlt).trans e2, e3⟩
set_option maxHeartbeats 2000000 in
set_option maxRecDepth 1000000 in
theorem Tx.Whole_snd (s : Bool) (t b : Nat) (s2 : Bool) (t2 b2 : Nat) (v : Value) (w : World) (h : Rt.Q w v s t b s2 t2 b2) (K : Rt.SoundAt w v) (hb : 0 < b) :
    Calls Tryz.prog 76 #[v] w fun e w' => e = .returned (.bool (decide (t2 = 0) && decide (b = 1))) ∧ Below w.heap.size w w' := by
  obtain ⟨tv, bv, tv2, bv2, rfl, h1, h2, h3, h4⟩ := h
  obtain ⟨L1, a1, c1, rfl, hL1⟩ := Tx.N_slice h1
  obtain ⟨L2, a2, c2, rfl, hL2⟩ := Tx.N_slice h2
  obtain ⟨L3, a3, c3, rfl, hL3⟩ := Tx.N_slice h3
  obtain ⟨L4, a4, c4, rfl, hL4⟩ := Tx.N_slice h4
  obtain ⟨S, hS, hone⟩ := Tx.one_in h2 hL2 hb
  have HB0 : Hid (∀ o, Below w.heap.size w (w.alloc o)) := Lib.hid (fun o => (Below.refl _ _).alloc (Nat.le_refl _) o)
  have hq : (w.alloc (.cells #[.bool s, .slice a1 L1 c1, .slice a2 L2 c2, .bool s2, .slice a3 L3 c3, .slice a4 L4 c4] 26)).heap[w.heap.size]? = some (.cells #[.bool s, .slice a1 L1 c1, .slice a2 L2 c2, .bool s2, .slice a3 L3 c3, .slice a4 L4 c4] 26 (0, 0)) := heap_alloc_new w _
  have hz : (w.alloc (.cells #[.bool s, .slice a1 L1 c1, .slice a2 L2 c2, .bool s2, .slice a3 L3 c3, .slice a4 L4 c4] 26)).heap.size = w.heap.size + 1 := by simp
  have HQ := Lib.hid (And.intro hq hz)
  have HK := Lib.hid K
  have HONE := Lib.hid hone
  have h03 : (t2 = 0 ∧ L3 = 0) ∨ (t2 ≠ 0 ∧ ((L3 : Int) == 0) = false) := by
    rcases Nat.eq_zero_or_pos t2 with h0 | h0
    · exact .inl ⟨h0, by rw [hL3, h0, Nt.dig_zero]; rfl⟩
    · have := Nt.dig_len_pos.2 h0
      exact .inr ⟨by omega, beq_eq_false_iff_ne.2 (by omega)⟩
  have hR : ∃ R : Bool, (decide (t2 = 0) && S) = R := ⟨_, rfl⟩
  rw [← hS]
  obtain ⟨R, hR⟩ := hR
  rw [hR]
  have HR := Lib.hid hR
  clear hR hS h1 h2 h3 h4 hL1 hL2 hL3 hL4 hone hq hz K
  go_enter Tryz.func76, Tryz.ntmps76
  go_wp2_with fail
  refine (HK.out _ (HB0.out _)).mono ?_
  rintro x w1 ⟨rfl, hb1⟩
  have HB1 := Lib.hid ((HB0.out _).trans (hb1.mono (HB0.out _).size))
  obtain ⟨e0, e1, e2, e3, e4, e5⟩ := Rt.cells6 ((hb1.block w.heap.size (by have := HQ.out.2; omega)).trans HQ.out.1)
  clear hb1
  rcases h03 with ⟨h0, rfl⟩ | ⟨h0, h00⟩
  · have hd : decide (t2 = 0) = true := decide_eq_true h0
    rcases HONE.out _ HB1.out with ⟨rfl, hM⟩ | ⟨bb, off, rfl, rfl, c3, hb1⟩
    · have hans : R = false := by rw [← HR.out, hd]; rfl
      subst hans
      clear hd h0
      go_wp2_with fail
      go_ret
      exact ⟨rfl, HB1.out⟩
    · have hans : R = S := by rw [← HR.out, hd]; rfl
      subst hans
      clear hd h0
      cases R
      · go_wp2_with fail
        go_ret
        exact ⟨rfl, HB1.out⟩
      · go_wp2_with fail
        go_ret
        exact ⟨rfl, HB1.out⟩
  · have hd : decide (t2 = 0) = false := decide_eq_false h0
    have hans : R = false := by rw [← HR.out, hd]; rfl
    subst hans
    clear hd h0
    go_wp2_with fail
    go_ret
    exact ⟨rfl, HB1.out⟩
end Go.Proofs.YtikmebkfdpbidaaGreatDoor
namespace Go.Proofs.YtikmebkfdpbidaaGreatDoor
open Go.RowKit
set_option linter.unusedVariables false
set_option linter.unusedSimpArgs false

/-- What is below a fraction, without its sign. -/
def Tx.fl (s : Bool) (t b : Nat) : Nat := if s = true ∧ 0 < t % b then t / b + 1 else t / b
theorem Tx.fl_len {s : Bool} {t b : Nat} (hb : 0 < b) {k : Nat} (h : (Nt.dig (t + 1)).length ≤ k) : (Nt.dig (Tx.fl s t b)).length ≤ k := by
  refine Nat.le_trans (Nt.dig_len_mono ?_) h
  have := Nat.div_le_self t b
  unfold Tx.fl
  split <;> omega
set_option maxHeartbeats 1000000 in
set_option maxRecDepth 1000000 in
theorem Tx.floor_any (s : Bool) (t b : Nat) (v : Value) (w : World) (h : Rt.R w v s t b) (hb : 0 < b) (hok : Nt.Ok t b) (hl : (Nt.dig (t + 1)).length ≤ 400000) :
    Calls Tryz.prog 122 #[v] w fun e w' => ∃ v', e = .returned v' ∧ Rt.R w' v' (s && decide (0 < Tx.fl s t b)) (Tx.fl s t b) 1 ∧ Below w.heap.size w w' := by
  obtain ⟨tv, bv, rfl, h1, h2⟩ := h
  obtain ⟨L1, a1, c1, rfl, hL1⟩ := Tx.N_slice h1
  obtain ⟨L2, a2, c2, rfl, hL2⟩ := Tx.N_slice h2
  obtain ⟨n0, n1, n2, n3⟩ := Sm.two w (.cells #[.bool s, .slice a1 L1 c1, .slice a2 L2 c2] 24) (.cells #[.bool false, .slice none 0 0, .slice none 0 0] 24)
  have KO := Nt.Over_any t b (.slice a1 L1 c1) (.slice a2 L2 c2) _ (Nt.In.below h1 n3 (Nat.le_refl _)) (Nt.In.below h2 n3 (Nat.le_refl _)) hb hok
  have HN := Lib.hid (And.intro n0 (And.intro n1 (And.intro n2 n3)))
  obtain ⟨F, hF⟩ : ∃ z, z = Tx.fl s t b := ⟨_, rfl⟩
  rw [← hF]
  have hFl : (Nt.dig F).length ≤ 400000 := by rw [hF]; exact Tx.fl_len hb hl
  have HF := Lib.hid (And.intro hF hFl)
  have hqlen : (Nt.dig (t / b)).length ≤ 400000 := Nat.le_trans (Nt.dig_len_mono (Nat.le_trans (Nat.div_le_self t b) (Nat.le_succ t))) hl
  clear n0 n1 n2 n3 h1 h2 hL1 hL2 hF hFl hl hok
  go_enter Tryz.func122, Tryz.ntmps122
  go_wp2_with fail
  refine KO.mono ?_
  rintro x w1 ⟨q, r, rfl, hq, hr, hb1⟩
  obtain ⟨L3, a3, c3, rfl, hL3⟩ := Tx.N_slice hq
  obtain ⟨L4, a4, c4, rfl, hL4⟩ := Tx.N_slice hr
  obtain ⟨n0, n1, n2, n3⟩ := HN.out
  have q0 := (hb1.block w.heap.size (by omega)).trans n0
  have q1 := (hb1.block (w.heap.size + 1) (by omega)).trans n1
  obtain ⟨e0, e1, e2⟩ := Rt.cells3 q0
  have HBW := Lib.hid (n3.trans (hb1.mono n3.size))
  have HQ := Lib.hid (And.intro hq hr)
  have HCEL : Hid (∀ w', Below w1.heap.size w1 w' → (w'.cell? ⟨w.heap.size, 0, none⟩ = some (.bool s) ∧ w'.heap[w.heap.size + 1]? = some (.cells #[.bool false, .slice none 0 0, .slice none 0 0] 24 (0, 0))) ∧ Below w.heap.size w w') := Lib.hid (fun w' hb => ⟨⟨Rt.cell_of ((hb.block w.heap.size (Array.getElem?_eq_some_iff.1 q0).1).trans q0) 0, (hb.block (w.heap.size + 1) (Array.getElem?_eq_some_iff.1 q1).1).trans q1⟩, HBW.out.trans (hb.mono HBW.out.size)⟩)
  have hrz : (t % b = 0 ∧ L4 = 0) ∨ (0 < t % b ∧ (L4 : Int) > 0) := by
    rcases Nat.eq_zero_or_pos (t % b) with h0 | h0
    · exact .inl ⟨h0, by rw [hL4, h0, Nt.dig_zero]; rfl⟩
    · have := Nt.dig_len_pos.2 h0
      exact .inr ⟨h0, by omega⟩
  clear hq hr hb1 n0 n1 n2 n3 q0 q1 hL3 hL4 KO
  have FIN : Hid (∀ (neg : Bool) (w8 : World) (hb8 : Below w1.heap.size w1 w8) (a5 : Option Addr) (L5 c5 : Nat), Nt.N w8 (.slice a5 L5 c5) F → Calls Tryz.prog 50 #[.bool neg, .slice a5 L5 c5] w8 fun e w' => ∃ v', e = .returned v' ∧ Rt.R w' v' (neg && decide (0 < F)) F 1 ∧ Below w8.heap.size w8 w') := Lib.hid (fun neg w8 hb8 a5 L5 c5 hn => Rt.whole_any neg F _ w8 hn HF.out.2)
  cases s
  · have hF : F = t / b := by rw [HF.out.1]; unfold Tx.fl; rw [if_neg (by simp)]
    have HE := Lib.hid hF
    clear hF hrz
    go_wp2_with fail
    refine (FIN.out false w1 (Below.refl w1.heap.size w1) a3 L3 c3 (by rw [HE.out]; exact HQ.out.1)).mono ?_
    rintro x w9 ⟨v9, rfl, ⟨tv, bv, rfl, hnt, hnb⟩, hb9⟩
    obtain ⟨L5, a5, c5, rfl, hL5⟩ := Tx.N_slice hnt
    obtain ⟨L6, a6, c6, rfl, hL6⟩ := Tx.N_slice hnb
    obtain ⟨⟨_, q1⟩, hbw⟩ := HCEL.out w9 ((Below.refl w1.heap.size w1).trans (hb9.mono (Below.refl w1.heap.size w1).size))
    obtain ⟨X1, X2, X3, ⟨f0, z0, s0⟩, ⟨f1, z1, s1'⟩, ⟨f2, z2, s2'⟩, ⟨r0, r1, r2'⟩, HX⟩ := Rt.put3 q1 (.bool (false && decide (0 < F))) (.slice a5 L5 c5) (.slice a6 L6 c6)
    have HOUT : Hid (Nt.N X3 (.slice a5 L5 c5) F ∧ Nt.N X3 (.slice a6 L6 c6) 1 ∧ Below w.heap.size w X3) := Lib.hid ⟨Nt.In.othr hnt q1 Rt.noWords HX.out.2.2.1 HX.out.2.1, Nt.In.othr hnb q1 Rt.noWords HX.out.2.2.1 HX.out.2.1, HX.out.2.2.2 _ _ hbw (by omega)⟩
    clear hnt hnb hb9 q1 hbw HX hL5 hL6
    generalize hss : (false && decide (0 < F)) = ss at *
    have HSS := Lib.hid hss
    clear hss
    go_wp2_with fail
    refine bodyPost_ret (v := .agg #[.bool ss, .slice a5 L5 c5, .slice a6 L6 c6]) (by simp [results, Tryz.results122, go_sem, r0, r1, r2']) rfl ⟨_, rfl, ⟨_, _, by rw [HSS.out], HOUT.out.1, HOUT.out.2.1⟩, HOUT.out.2.2⟩
  · rcases hrz with ⟨h0, rfl⟩ | ⟨h0, h00⟩
    · have hF : F = t / b := by rw [HF.out.1]; unfold Tx.fl; rw [if_neg (by omega)]
      have HE := Lib.hid hF
      clear hF h0
      go_wp2_with fail
      refine (FIN.out true w1 (Below.refl w1.heap.size w1) a3 L3 c3 (by rw [HE.out]; exact HQ.out.1)).mono ?_
      rintro x w9 ⟨v9, rfl, ⟨tv, bv, rfl, hnt, hnb⟩, hb9⟩
      obtain ⟨L5, a5, c5, rfl, hL5⟩ := Tx.N_slice hnt
      obtain ⟨L6, a6, c6, rfl, hL6⟩ := Tx.N_slice hnb
      obtain ⟨⟨_, q1⟩, hbw⟩ := HCEL.out w9 ((Below.refl w1.heap.size w1).trans (hb9.mono (Below.refl w1.heap.size w1).size))
      obtain ⟨X1, X2, X3, ⟨f0, z0, s0⟩, ⟨f1, z1, s1'⟩, ⟨f2, z2, s2'⟩, ⟨r0, r1, r2'⟩, HX⟩ := Rt.put3 q1 (.bool (true && decide (0 < F))) (.slice a5 L5 c5) (.slice a6 L6 c6)
      have HOUT : Hid (Nt.N X3 (.slice a5 L5 c5) F ∧ Nt.N X3 (.slice a6 L6 c6) 1 ∧ Below w.heap.size w X3) := Lib.hid ⟨Nt.In.othr hnt q1 Rt.noWords HX.out.2.2.1 HX.out.2.1, Nt.In.othr hnb q1 Rt.noWords HX.out.2.2.1 HX.out.2.1, HX.out.2.2.2 _ _ hbw (by omega)⟩
      clear hnt hnb hb9 q1 hbw HX hL5 hL6
      generalize hss : (true && decide (0 < F)) = ss at *
      have HSS := Lib.hid hss
      clear hss
      go_wp2_with fail
      refine bodyPost_ret (v := .agg #[.bool ss, .slice a5 L5 c5, .slice a6 L6 c6]) (by simp [results, Tryz.results122, go_sem, r0, r1, r2']) rfl ⟨_, rfl, ⟨_, _, by rw [HSS.out], HOUT.out.1, HOUT.out.2.1⟩, HOUT.out.2.2⟩
    · have hF : F = t / b + 1 := by rw [HF.out.1]; unfold Tx.fl; rw [if_pos ⟨rfl, h0⟩]
      have HE := Lib.hid hF
      have hn1 : Nt.N (w1.alloc (.cells #[.int .u32 1] 144)) (.slice (some ⟨w1.heap.size, 0, none⟩) 1 1) 1 := by
        have e : (#[.int .u32 1] : Array Value) = Nt.row [1] := rfl
        unfold Nt.N
        rw [Nt.dig_small (by decide) (by decide), e]
        exact Nt.In.of_row (heap_alloc_new w1 _)
      have HA := Lib.hid (show Below w1.heap.size w1 (w1.alloc (.cells #[.int .u32 1] 144)) from (Below.refl _ _).alloc (Nat.le_refl _) _)
      have KP := Nt.Plus_any (t / b) 1 _ _ (w1.alloc (.cells #[.int .u32 1] 144)) (Nt.In.below HQ.out.1 HA.out (Nat.le_refl _)) hn1 hqlen (by rw [Nt.dig_small (by decide) (by decide)]; decide)
      clear hF h0 hn1
      go_wp2_with fail
      refine KP.mono ?_
      rintro x w8 ⟨v8, rfl, hn8, hb8⟩
      obtain ⟨L7, a7, c7, rfl, hL7⟩ := Tx.N_slice hn8
      have HN8 := Lib.hid hn8
      have HB8 := Lib.hid (HA.out.trans (hb8.mono HA.out.size))
      obtain ⟨⟨e0', _⟩, _⟩ := HCEL.out w8 HB8.out
      clear hn8 hb8 KP e0 e1 e2 hL7
      go_wp2_with fail
      refine (FIN.out true w8 (HB8.out) a7 L7 c7 (by rw [HE.out]; exact HN8.out)).mono ?_
      rintro x w9 ⟨v9, rfl, ⟨tv, bv, rfl, hnt, hnb⟩, hb9⟩
      obtain ⟨L5, a5, c5, rfl, hL5⟩ := Tx.N_slice hnt
      obtain ⟨L6, a6, c6, rfl, hL6⟩ := Tx.N_slice hnb
      obtain ⟨⟨_, q1⟩, hbw⟩ := HCEL.out w9 ((HB8.out).trans (hb9.mono (HB8.out).size))
      obtain ⟨X1, X2, X3, ⟨f0, z0, s0⟩, ⟨f1, z1, s1'⟩, ⟨f2, z2, s2'⟩, ⟨r0, r1, r2'⟩, HX⟩ := Rt.put3 q1 (.bool (true && decide (0 < F))) (.slice a5 L5 c5) (.slice a6 L6 c6)
      have HOUT : Hid (Nt.N X3 (.slice a5 L5 c5) F ∧ Nt.N X3 (.slice a6 L6 c6) 1 ∧ Below w.heap.size w X3) := Lib.hid ⟨Nt.In.othr hnt q1 Rt.noWords HX.out.2.2.1 HX.out.2.1, Nt.In.othr hnb q1 Rt.noWords HX.out.2.2.1 HX.out.2.1, HX.out.2.2.2 _ _ hbw (by omega)⟩
      clear hnt hnb hb9 q1 hbw HX hL5 hL6
      generalize hss : (true && decide (0 < F)) = ss at *
      have HSS := Lib.hid hss
      clear hss
      go_wp2_with fail
      refine bodyPost_ret (v := .agg #[.bool ss, .slice a5 L5 c5, .slice a6 L6 c6]) (by simp [results, Tryz.results122, go_sem, r0, r1, r2']) rfl ⟨_, rfl, ⟨_, _, by rw [HSS.out], HOUT.out.1, HOUT.out.2.1⟩, HOUT.out.2.2⟩
end Go.Proofs.YtikmebkfdpbidaaGreatDoor
namespace Go.Proofs.YtikmebkfdpbidaaGreatDoor
open Go.RowKit
set_option linter.unusedVariables false
set_option linter.unusedSimpArgs false

set_option maxHeartbeats 1000000 in
set_option maxRecDepth 1000000 in
theorem Tx.zero_no (c0 c3 : Value) (a1 a2 a3 a4 : Option Addr) (L1 L2 L3 L4 c1 c2 k3 c4 : Nat) (w : World) (h0 : 0 < L1) :
    Calls Tryz.prog 120 #[.agg #[c0, .slice a1 L1 c1, .slice a2 L2 c2, c3, .slice a3 L3 k3, .slice a4 L4 c4]] w fun e w' => e = .returned (.bool false) ∧ Below w.heap.size w w' := by
  have hb : ∀ o, Below w.heap.size w (w.alloc o) := fun o => (Below.refl _ _).alloc (Nat.le_refl _) o
  have hn : ((L1 : Int) == 0) = false := beq_eq_false_iff_ne.2 (by omega)
  go_enter Tryz.func120, Tryz.ntmps120
  go_wp2_with fail
  go_ret
  exact ⟨rfl, hb _⟩
end Go.Proofs.YtikmebkfdpbidaaGreatDoor
