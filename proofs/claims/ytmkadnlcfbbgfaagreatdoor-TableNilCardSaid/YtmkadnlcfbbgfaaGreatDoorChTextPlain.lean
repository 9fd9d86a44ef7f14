/-
  Texts in capitals and folded, in plain Lean: Upcase and Fold, and their laws: folded twice is folded once, capitals fold as the text does, capitals of capitals are those. No conditions.
-/
import Derived.Test.YtmkadnlcfbbgfaaGreatDoorChPlain
import Derived.Test.YtmkadnlcfbbgfaaGreatDoorRunes
namespace Go.Proofs.YtmkadnlcfbbgfaaGreatDoor.Ch
open Ru

def upF (r : Int) : List Int := if r = 223 then [83, 83] else [upZ r]
def foldF (r : Int) : List Int := if r = 223 then [115, 115] else [downZ (upZ r)]
def upL (l : List UInt8) : List UInt8 := mapT upF l
def foldL (l : List UInt8) : List UInt8 := mapT foldF l

theorem foldF_out (r : Int) (h : 1300 ≤ r) : foldF r = [r] := by
  have h2 := pairZ_out (r := r) (by omega)
  have h1 : upZ r = r := by
    unfold upZ
    rw [if_neg (by omega), if_neg (by omega), if_neg (by omega), h2]
  unfold foldF
  rw [if_neg (by omega), h1]
  unfold downZ
  rw [if_neg (by omega), h2]
theorem upF_out (r : Int) (h : 1300 ≤ r) : upF r = [r] := by
  have h2 := pairZ_out (r := r) (by omega)
  unfold upF
  rw [if_neg (by omega)]
  unfold upZ
  rw [if_neg (by omega), if_neg (by omega), if_neg (by omega), h2]

theorem fold_ok_tab : ∀ n : Fin 1300, ∀ x ∈ foldF (n.val : Int), okR x ∧ foldF x = [x] := by decide +kernel
theorem up_ok_tab : ∀ n : Fin 1300, ∀ x ∈ upF (n.val : Int), okR x ∧ upF x = [x] := by decide +kernel
theorem upfold_tab : ∀ n : Fin 1300, (upF (n.val : Int)).flatMap foldF = foldF (n.val : Int) := by decide +kernel

theorem fold_ok (r : Int) (h : okR r) : ∀ x ∈ foldF r, okR x ∧ foldF x = [x] := by
  by_cases hr : 1300 ≤ r
  · intro x hx
    rw [foldF_out r hr, List.mem_singleton] at hx
    subst hx
    exact ⟨h, foldF_out x hr⟩
  · obtain ⟨n, rfl⟩ := Int.eq_ofNat_of_zero_le (a := r) (by unfold okR at h; omega)
    exact fold_ok_tab ⟨n, by omega⟩
theorem up_ok (r : Int) (h : okR r) : ∀ x ∈ upF r, okR x ∧ upF x = [x] := by
  by_cases hr : 1300 ≤ r
  · intro x hx
    rw [upF_out r hr, List.mem_singleton] at hx
    subst hx
    exact ⟨h, upF_out x hr⟩
  · obtain ⟨n, rfl⟩ := Int.eq_ofNat_of_zero_le (a := r) (by unfold okR at h; omega)
    exact up_ok_tab ⟨n, by omega⟩
theorem upfold (r : Int) (h : okR r) : (upF r).flatMap foldF = foldF r := by
  by_cases hr : 1300 ≤ r
  · rw [upF_out r hr]
    simp [foldF_out r hr]
  · obtain ⟨n, rfl⟩ := Int.eq_ofNat_of_zero_le (a := r) (by unfold okR at h; omega)
    exact upfold_tab ⟨n, by omega⟩

theorem flat_ok {F : Int → List Int} (hF : ∀ r, okR r → ∀ x ∈ F r, okR x) (rs : List Int) (h : ∀ r ∈ rs, okR r) : ∀ x ∈ rs.flatMap F, okR x := by
  intro x hx
  obtain ⟨r, hr, hx⟩ := List.mem_flatMap.1 hx
  exact hF r (h r hr) x hx
theorem flat_id {F : Int → List Int} : ∀ rs : List Int, (∀ r ∈ rs, F r = [r]) → rs.flatMap F = rs
  | [], _ => rfl
  | r :: rs, h => by rw [List.flatMap_cons, h r (by simp), flat_id rs (fun x hx => h x (by simp [hx]))]; rfl
theorem flat_congr {F G : Int → List Int} : ∀ rs : List Int, (∀ r ∈ rs, F r = G r) → rs.flatMap F = rs.flatMap G
  | [], _ => rfl
  | r :: rs, h => by rw [List.flatMap_cons, List.flatMap_cons, h r (by simp), flat_congr rs (fun x hx => h x (by simp [hx]))]

theorem mapT_mapT (F G : Int → List Int) (hF : ∀ r, okR r → ∀ x ∈ F r, okR x) (l : List UInt8) : mapT G (mapT F l) = encs ((runes l).flatMap fun r => (F r).flatMap G) := by
  unfold mapT
  rw [runes_of_encs _ (flat_ok hF _ (runes_okR l)), List.flatMap_assoc]

theorem fold_fold (l : List UInt8) : foldL (foldL l) = foldL l := by
  unfold foldL
  rw [mapT_mapT foldF foldF (fun r h x hx => (fold_ok r h x hx).1)]
  unfold mapT
  rw [flat_congr _ (fun r hr => flat_id _ (fun x hx => (fold_ok r (runes_okR l r hr) x hx).2))]
theorem fold_up (l : List UInt8) : foldL (upL l) = foldL l := by
  unfold foldL upL
  rw [mapT_mapT upF foldF (fun r h x hx => (up_ok r h x hx).1)]
  unfold mapT
  rw [flat_congr _ (fun r hr => upfold r (runes_okR l r hr))]
theorem up_up (l : List UInt8) : upL (upL l) = upL l := by
  unfold upL
  rw [mapT_mapT upF upF (fun r h x hx => (up_ok r h x hx).1)]
  unfold mapT
  rw [flat_congr _ (fun r hr => flat_id _ (fun x hx => (up_ok r (runes_okR l r hr) x hx).2))]

theorem encs_len : ∀ rs : List Int, (encs rs).length ≤ 4 * rs.length
  | [] => by simp [encs]
  | r :: rs => by
    rw [encs_cons, List.length_append, List.length_cons]
    have := encs_len rs
    have := (encode_length r).2
    omega
theorem runes_len : ∀ (f : Nat) (l : List UInt8), l.length ≤ f → (runes l).length ≤ l.length
  | 0, l, h => by
    have : l = [] := List.length_eq_zero_iff.1 (by omega)
    subst this
    simp [runes_nil]
  | f + 1, l, h => by
    by_cases hl : l = []
    · subst hl; simp [runes_nil]
    · have h1 := width_pos l hl
      have h2 := width_le l hl
      rw [runes_step l hl, List.length_cons]
      have := runes_len f (l.drop (Go.Lib.decodeL l).2) (by simp; omega)
      simp at this
      omega
theorem flat_len {F : Int → List Int} (hF : ∀ r, (F r).length ≤ 2) : ∀ rs : List Int, (rs.flatMap F).length ≤ 2 * rs.length
  | [] => by simp
  | r :: rs => by
    rw [List.flatMap_cons, List.length_append, List.length_cons]
    have := flat_len hF rs
    have := hF r
    omega
theorem mapT_len {F : Int → List Int} (hF : ∀ r, (F r).length ≤ 2) (l : List UInt8) : (mapT F l).length ≤ 8 * l.length := by
  unfold mapT
  have := encs_len ((runes l).flatMap F)
  have := flat_len hF (runes l)
  have := runes_len l.length l (Nat.le_refl _)
  omega
theorem upF_len (r : Int) : (upF r).length ≤ 2 := by unfold upF; split <;> simp
theorem foldF_len (r : Int) : (foldF r).length ≤ 2 := by unfold foldF; split <;> simp
end Go.Proofs.YtmkadnlcfbbgfaaGreatDoor.Ch
