/-
  Texts and their characters, in plain Lean over the model's own decoding: the characters of a text, and that a text of encoded characters is read back as they were. No conditions.
-/
import Derived.Lib.MapLaws
import Derived.Lib.RuneBytes
import Derived.Lib.SpaceU
import Derived.Lib.TrimUEq
namespace Go.Proofs.Ytdikkknjdbchbaa.Ru
open Go.Lib

/-- Is it a character's number? -/
def okR (r : Int) : Prop := (0 ≤ r ∧ r < 55296) ∨ (57344 ≤ r ∧ r ≤ 1114111)
instance (r : Int) : Decidable (okR r) := by unfold okR; infer_instance

def unitsF : Nat → List UInt8 → List (Nat × Nat)
  | 0, _ => []
  | f + 1, l => if l = [] then [] else decodeL l :: unitsF f (l.drop (decodeL l).2)
/-- The characters of a text, each with its width (a bad byte: U+FFFD, 1). -/
def units (l : List UInt8) : List (Nat × Nat) := unitsF l.length l
def runes (l : List UInt8) : List Int := (units l).map fun u => (u.1 : Int)

theorem width_pos (l : List UInt8) (_h : l ≠ []) : 1 ≤ (decodeL l).2 := decodeL_width l
theorem width_le (l : List UInt8) (h : l ≠ []) : (decodeL l).2 ≤ l.length := decodeL_le l h

theorem unitsF_enough : ∀ (f g : Nat) (l : List UInt8), l.length ≤ f → l.length ≤ g → unitsF f l = unitsF g l
  | 0, g, l, h, _ => by
    have : l = [] := List.length_eq_zero_iff.1 (by omega)
    subst this
    cases g <;> simp [unitsF]
  | f + 1, 0, l, _, h => by
    have : l = [] := List.length_eq_zero_iff.1 (by omega)
    subst this
    simp [unitsF]
  | f + 1, g + 1, l, h1, h2 => by
    unfold unitsF
    by_cases hl : l = []
    · simp [hl]
    · rw [if_neg hl, if_neg hl]
      have := width_pos l hl
      rw [unitsF_enough f g (l.drop (decodeL l).2) (by simp; omega) (by simp; omega)]

theorem units_nil : units [] = [] := rfl
theorem units_step (l : List UInt8) (h : l ≠ []) : units l = decodeL l :: units (l.drop (decodeL l).2) := by
  have hl : 0 < l.length := List.length_pos_iff.2 h
  unfold units
  obtain ⟨n, hn⟩ : ∃ n, l.length = n + 1 := ⟨l.length - 1, by omega⟩
  rw [hn]
  show (if l = [] then [] else _) = _
  rw [if_neg h]
  have := width_pos l h
  rw [unitsF_enough n (l.drop (decodeL l).2).length _ (by simp; omega) (by simp)]
theorem runes_nil : runes [] = [] := rfl
theorem runes_step (l : List UInt8) (h : l ≠ []) : runes l = ((decodeL l).1 : Int) :: runes (l.drop (decodeL l).2) := by
  unfold runes; rw [units_step l h]; rfl

theorem decode_ok (l : List UInt8) (_hne : l ≠ []) : okR ((decodeL l).1 : Int) := by
  unfold okR
  rw [decodeL_N]
  have k0 := (l.getD 0 0).toNat_lt
  have k1 := (l.getD 1 0).toNat_lt
  have k2 := (l.getD 2 0).toNat_lt
  have k3 := (l.getD 3 0).toNat_lt
  rcases decodeN_shape l.length (l.getD 0 0).toNat (l.getD 1 0).toNat (l.getD 2 0).toNat (l.getD 3 0).toNat with ⟨c, e⟩ | ⟨c1, c2, c3, cv, e⟩ | ⟨c1, c2, c3, c4, cv, cs, e⟩ | ⟨c1, c2, c3, c4, c5, cv, cw, e⟩ | e <;> rw [e] <;> simp only [] <;> omega

theorem runes_ok : ∀ (f : Nat) (l : List UInt8), l.length ≤ f → ∀ r ∈ runes l, okR r
  | 0, l, h, r, hr => by
    have : l = [] := List.length_eq_zero_iff.1 (by omega)
    subst this
    cases hr
  | f + 1, l, h, r, hr => by
    by_cases hl : l = []
    · subst hl; cases hr
    · rw [runes_step l hl] at hr
      have := width_pos l hl
      rcases List.mem_cons.1 hr with rfl | hr
      · exact decode_ok l hl
      · exact runes_ok f _ (by simp; omega) r hr
theorem runes_okR (l : List UInt8) : ∀ r ∈ runes l, okR r := runes_ok l.length l (Nat.le_refl _)

/-- A bad number is encoded as U+FFFD is. -/
theorem encode_bad {r : Int} (h : ¬ okR r) : encodeRune r = encodeRune 65533 := by
  unfold okR at h
  unfold encodeRune
  rw [encodeRuneZ_bad (by omega), encodeRuneZ_three (r := 65533) (by omega)]
  rfl

def encs (rs : List Int) : List UInt8 := rs.flatMap encodeRune
theorem encs_nil : encs [] = [] := rfl
theorem encs_cons (r : Int) (rs : List Int) : encs (r :: rs) = encodeRune r ++ encs rs := by simp [encs]
theorem encs_append (a b : List Int) : encs (a ++ b) = encs a ++ encs b := by simp [encs]
theorem encode_ne (r : Int) : encodeRune r ≠ [] := by
  have := (encodeRuneZ_length r).1
  intro h
  have h2 := congrArg List.length h
  simp [encodeRune] at h2
  rw [h2] at this
  simp at this
theorem encode_length (r : Int) : 1 ≤ (encodeRune r).length ∧ (encodeRune r).length ≤ 4 := by
  have := encodeRuneZ_length r
  simpa [encodeRune] using this

theorem byteNat (z : Int) (_h0 : 0 ≤ z) (h1 : z < 256) : (z.toNat.toUInt8).toNat = z.toNat := by
  simp
  omega

set_option maxHeartbeats 1000000 in
/-- THE ENCODING OF A CHARACTER IS READ AS THAT CHARACTER, whatever stands behind it. -/
theorem decode_encode (r : Int) (h : okR r) (t : List UInt8) : decodeL (encodeRune r ++ t) = (r.toNat, (encodeRune r).length) := by
  unfold okR at h
  rw [decodeL_N]
  unfold encodeRune
  by_cases c1 : r ≤ 127
  · rw [encodeRuneZ_one (by omega) c1]
    have e0 := byteNat r (by omega) (by omega)
    simp only [List.map_cons, List.map_nil, List.cons_append, List.nil_append, List.getD_cons_zero, e0, List.length_cons, List.length_nil]
    unfold decodeN
    rw [if_pos (by omega)]
  by_cases c2 : r ≤ 2047
  · rw [encodeRuneZ_two (by omega) c2]
    have e0 := byteNat (192 + r / 64) (by omega) (by omega)
    have e1 := byteNat (128 + r % 64) (by omega) (by omega)
    simp only [List.map_cons, List.map_nil, List.cons_append, List.nil_append, List.getD_cons_zero, List.getD_cons_succ, e0, e1, List.length_cons, List.length_nil]
    unfold decodeN
    rw [if_neg (by omega), if_pos (by omega), if_pos (by omega)]
    refine Prod.ext ?_ rfl
    simp only []
    omega
  by_cases c3 : r ≤ 65535
  · rw [encodeRuneZ_three (by omega)]
    have e0 := byteNat (224 + r / 4096) (by omega) (by omega)
    have e1 := byteNat (128 + r / 64 % 64) (by omega) (by omega)
    have e2 := byteNat (128 + r % 64) (by omega) (by omega)
    simp only [List.map_cons, List.map_nil, List.cons_append, List.nil_append, List.getD_cons_zero, List.getD_cons_succ, e0, e1, e2, List.length_cons, List.length_nil]
    unfold decodeN
    rw [if_neg (by omega), if_neg (by omega), if_pos (by omega), if_pos (by omega)]
    refine Prod.ext ?_ rfl
    simp only []
    omega
  · rw [encodeRuneZ_four (by omega) (by omega)]
    have e0 := byteNat (240 + r / 262144) (by omega) (by omega)
    have e1 := byteNat (128 + r / 4096 % 64) (by omega) (by omega)
    have e2 := byteNat (128 + r / 64 % 64) (by omega) (by omega)
    have e3 := byteNat (128 + r % 64) (by omega) (by omega)
    simp only [List.map_cons, List.map_nil, List.cons_append, List.nil_append, List.getD_cons_zero, List.getD_cons_succ, e0, e1, e2, e3, List.length_cons, List.length_nil]
    unfold decodeN
    rw [if_neg (by omega), if_neg (by omega), if_neg (by omega), if_pos (by omega), if_pos (by omega)]
    refine Prod.ext ?_ rfl
    simp only []
    omega

theorem runes_encode (r : Int) (h : okR r) (t : List UInt8) : runes (encodeRune r ++ t) = r :: runes t := by
  rw [runes_step _ (by simp [encode_ne]), decode_encode r h t]
  simp only [List.drop_left]
  have : ((r.toNat : Nat) : Int) = r := by unfold okR at h; omega
  rw [this]
/-- Encoded characters, and what stands behind, are read as those characters and what stands behind. -/
theorem runes_encs : ∀ (rs : List Int) (t : List UInt8), (∀ r ∈ rs, okR r) → runes (encs rs ++ t) = rs ++ runes t
  | [], t, _ => rfl
  | r :: rs, t, h => by
    rw [encs_cons, List.append_assoc, runes_encode r (h r (by simp)), runes_encs rs t (fun x hx => h x (by simp [hx]))]
    rfl
theorem runes_of_encs (rs : List Int) (h : ∀ r ∈ rs, okR r) : runes (encs rs) = rs := by
  have := runes_encs rs [] h
  simpa [runes_nil] using this

/-- The model's decoding at a place is the list's. -/
theorem decode_drop (s : ByteArray) (pos : Nat) : Utf8.decode s pos = decodeL (s.data.toList.drop pos) := (decodeL_drop s pos).symm

/-- A text, character for character. -/
def mapT (F : Int → List Int) (l : List UInt8) : List UInt8 := encs ((runes l).flatMap F)
theorem mapT_nil (F : Int → List Int) : mapT F [] = [] := rfl
theorem mapT_step (F : Int → List Int) (l : List UInt8) (h : l ≠ []) : mapT F l = encs (F ((decodeL l).1 : Int)) ++ mapT F (l.drop (decodeL l).2) := by
  unfold mapT
  rw [runes_step l h, List.flatMap_cons, encs_append]
theorem mapT_at (F : Int → List Int) (s : ByteArray) (pos : Nat) (h : pos < s.size) :
    mapT F (s.data.toList.drop pos) = encs (F ((Utf8.decode s pos).1 : Int)) ++ mapT F (s.data.toList.drop (pos + (Utf8.decode s pos).2)) := by
  have hs : s.data.toList.length = s.size := by simp
  rw [mapT_step F _ (by intro h2; have := congrArg List.length h2; simp at this; omega), decode_drop, List.drop_drop]
theorem mapT_end (F : Int → List Int) (s : ByteArray) (pos : Nat) (h : ¬ pos < s.size) : mapT F (s.data.toList.drop pos) = [] := by
  have hs : s.data.toList.length = s.size := by simp
  rw [List.drop_eq_nil_of_le (by omega)]
  rfl
end Go.Proofs.Ytdikkknjdbchbaa.Ru
