/-
  What Decode and Encode have to do with one another, in plain Lean: joined texts, reading back, the three modes.
-/
import Derived.Test.YtdpbpkggbgfkgaaDoorCdTheory2
namespace Go.Proofs.YtdpbpkggbgfkgaaDoor
open Go.RowKit
open Go.Lib (decodeL encodeRune)
set_option linter.unusedVariables false

/-! ### a text that can be written -/
/-- Encode with raising, where it answers well. -/
theorem Cd.enc_well (c l : Int) (s : ByteArray) (h : (Cd.encG c l 0 s).2.2 = 0) : Cd.chkN c l 0 s.size = 0 ∧ (∀ u ∈ Cd.utf8U s 0, Cd.goodU c l u) := by
  by_cases hc : Cd.chkN c l 0 s.size = 0
  · refine ⟨hc, ?_⟩
    rcases Cd.split_bad (Cd.goodU c l) (Cd.utf8U s 0) with h1 | ⟨pre, u, post, h1, hok, hbad⟩
    · exact h1
    · rw [Cd.enc_bad c l s hc u pre post h1 hok hbad] at h
      exact absurd h (show (6 : Int) ≠ 0 by decide)
  · rw [Cd.encG_bad c l 0 s hc] at h
    exact absurd h hc
def Cd.rs (s : ByteArray) : List Int := (Cd.utf8U s 0).map (·.1)
theorem Cd.rs_text (c l : Int) (s : ByteArray) (h : ∀ u ∈ Cd.utf8U s 0, Cd.goodU c l u) : s.data.toList = Ru.encs (Cd.rs s) := by
  have := Cd.utf8_text s _ 0 (Nat.le_refl _) (fun u hu => (h u hu).1)
  rw [List.drop_zero] at this
  exact this
theorem Cd.rs_ok (s : ByteArray) : ∀ r ∈ Cd.rs s, Ru.okR r := by
  intro r hr
  obtain ⟨u, hu, rfl⟩ := List.mem_map.1 hr
  exact (Cd.utf8U_mem s _ 0 (Nat.le_refl _) u hu).1
theorem Cd.rs_good (c l : Int) (s : ByteArray) (h : ∀ u ∈ Cd.utf8U s 0, Cd.goodU c l u) : ∀ r ∈ Cd.rs s, ∀ x ∈ Cd.charsU l r, Cd.okP c x = true := by
  intro r hr
  obtain ⟨u, hu, rfl⟩ := List.mem_map.1 hr
  exact (h u hu).2
theorem Cd.enc_rs (c l m : Int) (s : ByteArray) (hc : Cd.chkN c l m s.size = 0) (h : ∀ u ∈ Cd.utf8U s 0, Cd.goodU c l u) : Cd.encG c l m s = ((Cd.rs s).flatMap (Cd.bytesU c l), 0, 0) := Cd.enc_ok c l m s hc h
/-- A text of characters that the transcoder has is written well. -/
theorem Cd.good_of (c l : Int) (s : ByteArray) (rs : List Int) (hs : s.data.toList = Ru.encs rs) (hok : ∀ r ∈ rs, Ru.okR r) (hg : ∀ r ∈ rs, ∀ x ∈ Cd.charsU l r, Cd.okP c x = true) : Cd.rs s = rs ∧ ∀ u ∈ Cd.utf8U s 0, Cd.goodU c l u := by
  obtain ⟨h1, h2⟩ := Cd.utf8_back s rs 0 (by rw [List.drop_zero]; exact hs) hok
  refine ⟨h1, fun u hu => ⟨h2 u hu, ?_⟩⟩
  exact hg u.1 (by rw [← h1]; exact List.mem_map.2 ⟨u, hu, rfl⟩)

/-- Two texts are written as each of them is. -/
theorem Cd.enc_joins (c l : Int) (s t st : ByteArray) (hst : st.data.toList = s.data.toList ++ t.data.toList) (hz : st.size ≤ 65536) (hs : (Cd.encG c l 0 s).2.2 = 0) (ht : (Cd.encG c l 0 t).2.2 = 0) :
    Cd.encG c l 0 st = ((Cd.encG c l 0 s).1 ++ (Cd.encG c l 0 t).1, 0, 0) := by
  obtain ⟨c1, g1⟩ := Cd.enc_well c l s hs
  obtain ⟨c2, g2⟩ := Cd.enc_well c l t ht
  have hg := (Cd.chkN_good c l 0 _ c1).1
  have hc : Cd.chkN c l 0 st.size = 0 := by unfold Cd.chkN; rw [if_pos hg, if_neg (by omega)]
  have h1 : st.data.toList = Ru.encs (Cd.rs s ++ Cd.rs t) := by rw [hst, Cd.rs_text c l s g1, Cd.rs_text c l t g2, Ru.encs_append]
  obtain ⟨e1, e2⟩ := Cd.good_of c l st (Cd.rs s ++ Cd.rs t) h1 (fun r hr => by
    rcases List.mem_append.1 hr with h | h
    · exact Cd.rs_ok s r h
    · exact Cd.rs_ok t r h) (fun r hr => by
    rcases List.mem_append.1 hr with h | h
    · exact Cd.rs_good c l s g1 r h
    · exact Cd.rs_good c l t g2 r h)
  rw [Cd.enc_rs c l 0 st hc e2, Cd.enc_rs c l 0 s c1 g1, Cd.enc_rs c l 0 t c2 g2, e1, List.flatMap_append]

/-! ### line ends, character by character -/
def Cd.scan (l : Int) : Int → List Int → List Int
  | _, [] => []
  | p, r :: t => if l ≠ 0 ∧ p = 13 ∧ (r = 10 ∨ r = 133) then Cd.scan l r t else Cd.nl l r :: Cd.scan l r t
theorem Cd.endsR_scan (l : Int) (xs : List Int) : ∀ n k, xs.length - k ≤ n → ∀ p : Int, (0 < k → xs.getD (k - 1) 0 = p) → (k = 0 → p ≠ 13) → Cd.endsR l xs k = Cd.scan l p (xs.drop k) := by
  intro n
  induction n with
  | zero => intro k h p _ _; rw [Cd.endsR_end l xs k (by omega), List.drop_eq_nil_of_le (by omega)]; rfl
  | succ n ih =>
    intro k h p hp hp0
    by_cases hk : k < xs.length
    · rw [Cd.drop_at xs k hk]
      have hi := ih (k + 1) (by omega) (xs.getD k 0) (fun _ => by rw [Nat.add_sub_cancel]) (fun h => absurd h (by omega))
      unfold Cd.scan
      by_cases hc : l ≠ 0 ∧ p = 13 ∧ (xs.getD k 0 = 10 ∨ xs.getD k 0 = 133)
      · have hk0 : 0 < k := by
          rcases Nat.eq_zero_or_pos k with h0 | h0
          · exact absurd hc.2.1 (hp0 h0)
          · exact h0
        rw [if_pos hc, ← hi]
        exact Cd.endsR_skip l xs k hk hc.1 p _ hk0 (hp hk0) rfl hc.2.1 hc.2.2
      · rw [if_neg hc, ← hi]
        refine Cd.endsR_put l xs k hk p _ hp rfl ?_
        by_cases h0 : l = 0
        · exact .inl h0
        · by_cases hk0 : k = 0
          · exact .inr (.inl hk0)
          · by_cases h13 : p = 13
            · refine .inr (.inr (.inr ?_))
              have : ¬ (xs.getD k 0 = 10 ∨ xs.getD k 0 = 133) := fun h => hc ⟨h0, h13, h⟩
              omega
            · exact .inr (.inr (.inl h13))
    · rw [Cd.endsR_end l xs k hk, List.drop_eq_nil_of_le (by omega)]; rfl
theorem Cd.ends_scan (l : Int) (xs : List Int) : Cd.endsL l xs = Cd.scan l 0 xs := by
  rw [← Cd.ends_eq, Cd.endsR_scan l xs _ 0 (Nat.le_refl _) 0 (fun h => absurd h (by omega)) (fun _ => by decide), List.drop_zero]

/-- Line ends that were written are read as they were. -/
theorem Cd.scan_back (l : Int) (hl : 0 ≤ l ∧ l ≤ 5) : ∀ (rs : List Int) (p : Int), (l ≠ 0 → ∀ r ∈ rs, r ≠ 13 ∧ r ≠ 133 ∧ r ≠ 8232) → (l ≠ 0 → p = 13 → l = 2) → Cd.scan l p (rs.flatMap (Cd.charsU l)) = rs
  | [], p, _, _ => rfl
  | r :: rs, p, h, hp => by
    have ih := fun p hp => Cd.scan_back l hl rs p (fun h0 x hx => h h0 x (List.mem_cons_of_mem _ hx)) hp
    rw [List.flatMap_cons]
    by_cases h10 : r = 10
    · subst h10
      have e : Cd.charsU l 10 = Cd.eolL l := by unfold Cd.charsU; rw [if_pos rfl]
      rw [e]
      unfold Cd.eolL
      by_cases l2 : l = 2
      · subst l2
        rw [if_pos rfl, List.cons_append, List.nil_append, Cd.scan, if_neg (by omega), ih 13 (fun _ _ => rfl)]
        rfl
      rw [if_neg l2]
      by_cases l3 : l = 3
      · subst l3
        rw [if_pos rfl, List.cons_append, List.cons_append, List.nil_append, Cd.scan, if_neg (by omega), Cd.scan, if_pos ⟨by decide, rfl, .inl rfl⟩, ih 10 (fun _ h => absurd h (by decide))]
        rfl
      rw [if_neg l3]
      have hp13 : l ≠ 0 → p ≠ 13 := fun h0 h13 => l2 (hp h0 h13)
      by_cases l4 : l = 4
      · subst l4
        have := hp13 (by decide)
        rw [if_pos rfl, List.cons_append, List.nil_append, Cd.scan, if_neg (by omega), ih 133 (fun _ h => absurd h (by decide))]
        rfl
      rw [if_neg l4]
      by_cases l5 : l = 5
      · subst l5
        have := hp13 (by decide)
        rw [if_pos rfl, List.cons_append, List.nil_append, Cd.scan, if_neg (by omega), ih 8232 (fun _ h => absurd h (by decide))]
        rfl
      rw [if_neg l5, List.cons_append, List.nil_append, Cd.scan, if_neg (fun hh => hp13 hh.1 hh.2.1), ih 10 (fun _ h => absurd h (by decide))]
      unfold Cd.nl
      rw [if_neg (by omega)]
    · have e : Cd.charsU l r = [r] := by unfold Cd.charsU; rw [if_neg h10]
      rw [e, List.cons_append, List.nil_append, Cd.scan]
      by_cases h0 : l = 0
      · rw [if_neg (fun hh => hh.1 h0), ih r (fun hh => absurd h0 hh)]
        unfold Cd.nl
        rw [if_neg (fun hh => hh.1 h0)]
      · have hr := h h0 r List.mem_cons_self
        rw [if_neg (by omega), ih r (fun _ hh => absurd hh hr.1)]
        unfold Cd.nl
        rw [if_neg (by omega)]

/-! ### bytes that were written are read as the characters that they were -/
theorem Cd.byt_drop (s : ByteArray) (k i : Nat) (l : List UInt8) (h : s.data.toList.drop k = l) : Cd.byt s (k + i) = ((l.getD i 0).toNat : Int) := by
  rw [Cd.byt_list, ← h, Lib.getD_dropU]
theorem Cd.latin_back (s : ByteArray) : ∀ (cs : List Int) (k : Nat), s.data.toList.drop k = cs.flatMap (Cd.putL 2) → (∀ x ∈ cs, 0 ≤ x ∧ x < 256) → (Cd.latinU s k).map (·.1) = cs
  | [], k, h, _ => by
    have hk : ¬ k < s.size := fun hk => Cd.drop_ne s k hk h
    rw [Cd.latinU_end s k hk]; rfl
  | x :: cs, k, h, hx => by
    have hl : s.data.toList.length = s.size := by simp
    have e : Cd.putL 2 x = [Cd.b8 x] := by unfold Cd.putL; rw [if_neg (by decide), if_pos rfl]
    rw [List.flatMap_cons, e] at h
    have hk : k < s.size := by
      have := congrArg List.length h
      rw [List.length_drop, List.length_append, List.length_singleton] at this
      omega
    have hb := Cd.byt_drop s k 0 _ h
    have hx0 := hx x List.mem_cons_self
    have hrest : s.data.toList.drop (k + 1) = cs.flatMap (Cd.putL 2) := by rw [← List.drop_drop, h]; rfl
    have hb8 := Cd.b8_val x
    rw [Cd.latinU_one s k hk, List.map_cons, Cd.latin_back s cs _ hrest (fun y hy => hx y (List.mem_cons_of_mem _ hy))]
    have : Cd.byt s k = x := by
      rw [show k = k + 0 from rfl, hb]
      show ((Cd.b8 x).toNat : Int) = x
      omega
    rw [this]
theorem Cd.num_drop (s : ByteArray) (k : Nat) (a b : UInt8) (t : List UInt8) (h : s.data.toList.drop k = a :: b :: t) : Cd.num s 0 k = (a.toNat : Int) * 256 + (b.toNat : Int) := by
  have hl : s.data.toList.length = s.size := by simp
  have hk : k + 2 ≤ s.size := by
    have := congrArg List.length h
    simp only [List.length_drop, List.length_cons] at this
    omega
  have h0 := Cd.byt_drop s k 0 _ h
  have h1 := Cd.byt_drop s k 1 _ h
  unfold Cd.num
  rw [if_neg (by omega)]
  show Cd.byt s (k + 0) * 256 + Cd.byt s (k + 1) = _
  rw [h0, h1]
  rfl
theorem Cd.wide_back (s : ByteArray) : ∀ (cs : List Int) (k : Nat), s.data.toList.drop k = cs.flatMap Cd.putW → (∀ x ∈ cs, Ru.okR x) → (Cd.wideU s 0 k).map (·.1) = cs ∧ Cd.allOk (Cd.wideU s 0 k)
  | [], k, h, _ => by
    have hk : ¬ k < s.size := fun hk => Cd.drop_ne s k hk h
    rw [Cd.wideU_end s 0 k hk]
    exact ⟨rfl, fun u hu => by cases hu⟩
  | x :: cs, k, h, hx => by
    have hl : s.data.toList.length = s.size := by simp
    have hx0 := hx x List.mem_cons_self
    unfold Ru.okR at hx0
    rw [List.flatMap_cons] at h
    by_cases h6 : 65535 < x
    · have e : Cd.putW x = [Cd.b8 (((x - 65536) / 1024 + 55296) / 256), Cd.b8 ((x - 65536) / 1024 + 55296), Cd.b8 (((x - 65536) % 1024 + 56320) / 256), Cd.b8 ((x - 65536) % 1024 + 56320)] := by unfold Cd.putW; rw [if_pos h6]
      rw [e] at h
      simp only [List.cons_append, List.nil_append] at h
      have n0 := Cd.num_drop s k _ _ _ h
      have hr2 : s.data.toList.drop (k + 2) = Cd.b8 (((x - 65536) % 1024 + 56320) / 256) :: Cd.b8 ((x - 65536) % 1024 + 56320) :: cs.flatMap Cd.putW := by rw [← List.drop_drop, h]; rfl
      have n1 := Cd.num_drop s (k + 2) _ _ _ hr2
      have hr4 : s.data.toList.drop (k + 2 + 2) = cs.flatMap Cd.putW := by rw [← List.drop_drop, hr2]; rfl
      rw [Cd.b8_val, Cd.b8_val] at n0 n1
      have m0 : Cd.num s 0 k = (x - 65536) / 1024 + 55296 := by rw [n0]; omega
      have m1 : Cd.num s 0 (k + 2) = (x - 65536) % 1024 + 56320 := by rw [n1]; omega
      have hk : k < s.size := by
        have := congrArg List.length h
        simp only [List.length_drop, List.length_cons] at this
        omega
      obtain ⟨i1, i2⟩ := Cd.wide_back s cs _ hr4 (fun y hy => hx y (List.mem_cons_of_mem _ hy))
      rw [Cd.wideU_pair s 0 k hk (by rw [m0, m1]; unfold Cd.pair; omega), m0, m1]
      refine ⟨?_, ?_⟩
      · rw [List.map_cons, i1]
        show (((x - 65536) / 1024 + 55296 - 55296) * 1024 + ((x - 65536) % 1024 + 56320) - 56320 + 65536) :: cs = x :: cs
        congr 1
        omega
      · intro u hu
        rcases List.mem_cons.1 hu with rfl | hu
        · rfl
        · exact i2 u hu
    · have e : Cd.putW x = [Cd.b8 (x / 256), Cd.b8 x] := by unfold Cd.putW; rw [if_neg h6]
      rw [e] at h
      simp only [List.cons_append, List.nil_append] at h
      have n0 := Cd.num_drop s k _ _ _ h
      have hr2 : s.data.toList.drop (k + 2) = cs.flatMap Cd.putW := by rw [← List.drop_drop, h]; rfl
      rw [Cd.b8_val, Cd.b8_val] at n0
      have m0 : Cd.num s 0 k = x := by rw [n0]; omega
      have hk : k < s.size := by
        have := congrArg List.length h
        simp only [List.length_drop, List.length_cons] at this
        omega
      obtain ⟨i1, i2⟩ := Cd.wide_back s cs _ hr2 (fun y hy => hx y (List.mem_cons_of_mem _ hy))
      rw [Cd.wideU_one s 0 k hk (by rw [m0]; unfold Cd.pair; omega), m0]
      refine ⟨by rw [List.map_cons, i1], ?_⟩
      intro u hu
      rcases List.mem_cons.1 hu with rfl | hu
      · exact decide_eq_true (by omega)
      · exact i2 u hu
theorem Cd.bom_none (s : ByteArray) (cs : List Int) (h : s.data.toList = cs.flatMap Cd.putW) (hok : ∀ x ∈ cs, Ru.okR x) (hb : ∀ x t, cs = x :: t → x ≠ 65279 ∧ x ≠ 65534) : Cd.bom s = (0, 0) := by
  have hl : s.data.toList.length = s.size := by simp
  rcases Cd.bom_split s with ⟨h1, h2, h3, e⟩ | ⟨h1, h2, h3, e⟩ | ⟨_, e⟩
  · exfalso
    cases cs with
    | nil => rw [h] at hl; simp at hl; omega
    | cons x t =>
      obtain ⟨a1, a2⟩ := hb x t rfl
      have hx := hok x List.mem_cons_self
      unfold Ru.okR at hx
      have n0 : Cd.num s 0 0 = 65279 := by unfold Cd.num; rw [if_neg (by omega)]; show Cd.byt s 0 * 256 + Cd.byt s 1 = _; omega
      rw [List.flatMap_cons] at h
      unfold Cd.putW at h
      split at h
      · have := Cd.num_drop s 0 _ _ _ (show s.data.toList.drop 0 = _ :: _ :: _ by rw [List.drop_zero, h]; rfl)
        rw [Cd.b8_val, Cd.b8_val] at this
        omega
      · have := Cd.num_drop s 0 _ _ _ (show s.data.toList.drop 0 = _ :: _ :: _ by rw [List.drop_zero, h]; rfl)
        rw [Cd.b8_val, Cd.b8_val] at this
        omega
  · exfalso
    cases cs with
    | nil => rw [h] at hl; simp at hl; omega
    | cons x t =>
      obtain ⟨a1, a2⟩ := hb x t rfl
      have hx := hok x List.mem_cons_self
      unfold Ru.okR at hx
      have n0 : Cd.num s 0 0 = 65534 := by unfold Cd.num; rw [if_neg (by omega)]; show Cd.byt s 0 * 256 + Cd.byt s 1 = _; omega
      rw [List.flatMap_cons] at h
      unfold Cd.putW at h
      split at h
      · have := Cd.num_drop s 0 _ _ _ (show s.data.toList.drop 0 = _ :: _ :: _ by rw [List.drop_zero, h]; rfl)
        rw [Cd.b8_val, Cd.b8_val] at this
        omega
      · have := Cd.num_drop s 0 _ _ _ (show s.data.toList.drop 0 = _ :: _ :: _ by rw [List.drop_zero, h]; rfl)
        rw [Cd.b8_val, Cd.b8_val] at this
        omega
  · exact e
theorem Cd.units_back (c : Int) (hc : 1 ≤ c ∧ c ≤ 3) (s : ByteArray) (cs : List Int) (h : s.data.toList = cs.flatMap (Cd.putL c)) (hok : ∀ x ∈ cs, Ru.okR x) (hg : ∀ x ∈ cs, Cd.okP c x = true) (hb : c = 3 → ∀ x t, cs = x :: t → x ≠ 65279 ∧ x ≠ 65534) :
    (Cd.unitsU c s).map (·.1) = cs ∧ Cd.allOk (Cd.unitsU c s) := by
  unfold Cd.unitsU
  rcases (show c = 1 ∨ c = 2 ∨ c = 3 by omega) with rfl | rfl | rfl
  · rw [if_pos rfl]
    exact Cd.utf8_back s cs 0 (by rw [List.drop_zero]; exact h) hok
  · rw [if_neg (by decide), if_pos rfl]
    refine ⟨Cd.latin_back s cs 0 (by rw [List.drop_zero]; exact h) (fun x hx => ?_), Cd.latin_ok s _ 0 (Nat.le_refl _)⟩
    have h1 := hok x hx
    have h2 := of_decide_eq_true (hg x hx)
    unfold Ru.okR at h1
    omega
  · have h3 : s.data.toList = cs.flatMap Cd.putW := h
    rw [if_neg (by decide), if_neg (by decide), Cd.bom_none s cs h3 hok (hb rfl)]
    exact Cd.wide_back s cs 0 (by rw [List.drop_zero]; exact h3) hok

/-- A text that is written is read as it was. -/
theorem Cd.back (c l : Int) (s b : ByteArray) (hs : (Cd.encG c l 0 s).2.2 = 0) (hbd : b.data.toList = (Cd.encG c l 0 s).1) (hz : b.size ≤ 65536)
    (h1 : l ≠ 0 → ∀ r ∈ Cd.rs s, r ≠ 13 ∧ r ≠ 133 ∧ r ≠ 8232) (h2 : c = 3 → ∀ x t, Cd.rs s = x :: t → x ≠ 65279 ∧ x ≠ 65534) :
    Cd.decG c l 0 b = (s.data.toList, 0, 0) := by
  obtain ⟨c1, g1⟩ := Cd.enc_well c l s hs
  have hg := (Cd.chkN_good c l 0 _ c1).1
  have hc : Cd.chkN c l 0 b.size = 0 := by unfold Cd.chkN; rw [if_pos hg, if_neg (by omega)]
  have hb : b.data.toList = ((Cd.rs s).flatMap (Cd.charsU l)).flatMap (Cd.putL c) := by
    rw [hbd, Cd.enc_rs c l 0 s c1 g1, List.flatMap_assoc]
    rfl
  have hok : ∀ x ∈ (Cd.rs s).flatMap (Cd.charsU l), Ru.okR x := by
    intro x hx
    obtain ⟨r, hr, hx⟩ := List.mem_flatMap.1 hx
    exact Cd.charsU_ok l r (Cd.rs_ok s r hr) x hx
  have hgd : ∀ x ∈ (Cd.rs s).flatMap (Cd.charsU l), Cd.okP c x = true := by
    intro x hx
    obtain ⟨r, hr, hx⟩ := List.mem_flatMap.1 hx
    exact Cd.rs_good c l s g1 r hr x hx
  obtain ⟨e1, e2⟩ := Cd.units_back c ⟨hg.1, hg.2.1⟩ b _ hb hok hgd (fun h3 x t hxt => by
    cases hrs : Cd.rs s with
    | nil => rw [hrs] at hxt; cases hxt
    | cons r rest =>
      have h4 := h2 h3 r rest hrs
      rw [hrs, List.flatMap_cons] at hxt
      unfold Cd.charsU at hxt
      split at hxt
      · unfold Cd.eolL at hxt
        repeat' split at hxt
        all_goals
          simp only [List.cons_append, List.nil_append, List.cons.injEq] at hxt
          omega
      · simp only [List.cons_append, List.nil_append, List.cons.injEq] at hxt
        rw [← hxt.1]
        exact h4)
  rw [Cd.dec_ok c l 0 b hc e2, e1, Cd.ends_scan, Cd.scan_back l ⟨hg.2.2.1, hg.2.2.2.1⟩ _ 0 h1 (fun _ h => absurd h (by decide)), ← Cd.rs_text c l s g1]
end Go.Proofs.YtdpbpkggbgfkgaaDoor
