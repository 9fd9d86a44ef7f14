/-
  The walk of sextantref06.Decode.
-/
import Derived.Test.YtdpbpkggbgfkgaaDoorCdRefUnits
import Derived.Test.YtdpbpkggbgfkgaaDoorCdRefEnds
import Derived.Test.YtdpbpkggbgfkgaaDoorCdDecode
import Derived.Outline
namespace Go.Proofs.YtdpbpkggbgfkgaaDoor
open Go.RowKit
set_option linter.unusedVariables false

theorem Cd.BytesAt.up {w : World} {B B2 : Nat} {v : Value} {s : ByteArray} (h : Cd.BytesAt w B v s) (hB : B ≤ B2) : Cd.BytesAt w B2 v s := by
  rcases h with h | ⟨h0, b, off, cap, hv, h1, h2, hc⟩
  · exact .inl h
  · exact .inr ⟨h0, b, off, cap, hv, h1, by omega, hc⟩

theorem Cd.cellsU_at (us : List (Int × Bool × Int)) : ∀ (k : Nat) (r p : Int) (f : Bool), us[k]? = some (r, f, p) → (Cd.cellsU us)[3 * k]? = some (.int .i32 r) ∧ (Cd.cellsU us)[3 * k + 1]? = some (.bool f) ∧ (Cd.cellsU us)[3 * k + 2]? = some (.int .i64 p) := by
  induction us with
  | nil => intro k r p f h; simp at h
  | cons u t ih =>
    intro k r p f h
    rcases k with _ | k
    · simp only [List.getElem?_cons_zero, Option.some.injEq] at h
      subst h
      exact ⟨rfl, rfl, rfl⟩
    · obtain ⟨h1, h2, h3⟩ := ih k r p f (by simpa using h)
      have e : Cd.cellsU (u :: t) = .int .i32 u.1 :: .bool u.2.1 :: .int .i64 u.2.2 :: Cd.cellsU t := rfl
      rw [e, show 3 * (k + 1) = 3 * k + 1 + 1 + 1 by omega]
      exact ⟨by simpa using h1, by rw [show 3 * k + 1 + 1 + 1 + 1 = (3 * k + 1) + 1 + 1 + 1 by omega]; simpa using h2, by rw [show 3 * k + 1 + 1 + 1 + 2 = (3 * k + 2) + 1 + 1 + 1 by omega]; simpa using h3⟩
theorem Cd.unitsR_eq (c : Int) (s : ByteArray) (h : 1 ≤ c ∧ c ≤ 3) : Cd.unitsR c s = Cd.unitsU c s := by
  unfold Cd.unitsR Cd.unitsU
  rcases (show c = 1 ∨ c = 2 ∨ c = 3 by omega) with rfl | rfl | rfl
  · rfl
  · rw [if_neg (by decide), if_neg (by decide), if_neg (by decide), if_pos rfl]
  · rw [if_neg (by decide), if_pos rfl, if_neg (by decide), if_neg (by decide)]
theorem Cd.endsR_zero (xs : List Int) : ∀ n k, xs.length - k ≤ n → Cd.endsR 0 xs k = xs.drop k := by
  intro n
  induction n with
  | zero => intro k h; rw [Cd.endsR_end 0 xs k (by omega), List.drop_eq_nil_of_le (by omega)]
  | succ n ih =>
    intro k h
    by_cases hk : k < xs.length
    · rw [Cd.endsR_put 0 xs k hk _ _ (fun _ => rfl) rfl (.inl rfl), ih (k + 1) (by omega), List.drop_eq_getElem_cons hk]
      simp [Cd.nl, hk]
    · rw [Cd.endsR_end 0 xs k hk, List.drop_eq_nil_of_le (by omega)]
theorem Cd.endsR_I (l : Int) (hl : l ≠ 0) (xs : List Int) : ∀ n k, xs.length - k ≤ n → ¬ Cd.sec xs k → Cd.endsR l xs k = Cd.endsI xs k := by
  intro n
  induction n with
  | zero => intro k h _; rw [Cd.endsR_end l xs k (by omega), Cd.endsI_end xs k (by omega)]
  | succ n ih =>
    intro k h hns
    by_cases hk : k < xs.length
    · have hput := Cd.endsR_put l xs k hk (xs.getD (k - 1) 0) (xs.getD k 0) (fun _ => rfl) rfl (by unfold Cd.sec at hns; omega)
      rw [hput]
      have hnext : (k + 1 < xs.length ∧ xs.getD k 0 = 13 ∧ (xs.getD (k + 1) 0 = 10 ∨ xs.getD (k + 1) 0 = 133)) ∨ ¬ Cd.sec xs (k + 1) := by
        by_cases hc : Cd.sec xs (k + 1)
        · refine .inl ⟨?_, hc.2.1, hc.2.2⟩
          rcases Nat.lt_or_ge (k + 1) xs.length with h | h
          · exact h
          · have e : xs.getD (k + 1) 0 = 0 := by rw [List.getD_eq_getElem?_getD, List.getElem?_eq_none h]; rfl
            have := hc.2.2
            rw [e] at this
            omega
        · exact .inr hc
      by_cases h13 : xs.getD k 0 = 13
      · have hnl : Cd.nl l (xs.getD k 0) = 10 := by unfold Cd.nl; rw [if_pos ⟨hl, .inl h13⟩]
        rw [hnl]
        rcases hnext with ⟨a, b, c⟩ | hn
        · rw [Cd.endsI_two xs k hk _ _ rfl rfl h13 a c, Cd.endsR_skip l xs (k + 1) a hl (xs.getD k 0) _ (by omega) rfl rfl h13 c, ih (k + 1 + 1) (by omega) ?_]
          rintro ⟨_, h5, _⟩
          rw [show k + 1 + 1 - 1 = k + 1 by omega] at h5
          omega
        · have h2 : ¬ (k + 1 < xs.length ∧ (xs.getD (k + 1) 0 = 10 ∨ xs.getD (k + 1) 0 = 133)) := by
            rintro ⟨h5, h6⟩
            exact hn ⟨by omega, h13, h6⟩
          rw [Cd.endsI_cr xs k hk _ _ rfl rfl h13 h2, ih (k + 1) (by omega) hn]
      · have hn : ¬ Cd.sec xs (k + 1) := fun hc => h13 hc.2.1
        by_cases h8 : xs.getD k 0 = 133 ∨ xs.getD k 0 = 8232
        · rw [Cd.endsI_nl xs k hk _ rfl h13 h8, ih (k + 1) (by omega) hn]
          unfold Cd.nl; rw [if_pos ⟨hl, .inr h8⟩]
        · rw [Cd.endsI_id xs k hk _ rfl h13 h8, ih (k + 1) (by omega) hn]
          unfold Cd.nl; rw [if_neg (by omega)]
    · rw [Cd.endsR_end l xs k hk, Cd.endsI_end xs k hk]
/-- The two ways to say line ends. -/
theorem Cd.ends_eq (l : Int) (xs : List Int) : Cd.endsR l xs 0 = Cd.endsL l xs := by
  unfold Cd.endsL
  by_cases hl : l = 0
  · subst hl
    rw [if_pos rfl, Cd.endsR_zero xs _ 0 (Nat.le_refl _)]
    rfl
  · rw [if_neg hl, Cd.endsR_I l hl xs _ 0 (Nat.le_refl _) (fun h => absurd h.1 (by omega))]
theorem Cd.unitsR_len (c : Int) (s : ByteArray) : (Cd.unitsR c s).length ≤ s.size := by
  have h1 := Cd.unitsU_len 1 s
  have h2 := Cd.unitsU_len 2 s
  have h3 := Cd.unitsU_len 3 s
  unfold Cd.unitsU at h1 h2 h3
  unfold Cd.unitsR
  rw [if_pos rfl] at h1
  rw [if_neg (by decide), if_pos rfl] at h2
  rw [if_neg (by decide), if_neg (by decide)] at h3
  split
  · exact h1
  split
  · exact h3
  · exact h2
theorem Cd.decG_good (c l m : Int) (s : ByteArray) (hg : Cd.good c l m) (hs : s.size ≤ 65536) (F : List Int × Int × Int) (hF : Cd.feed m (Cd.unitsR c s) [] 0 0 = F) :
    Cd.decG c l m s = if F.2.2 ≠ 0 then ([], F.2) else (Ru.encs (Cd.endsR l F.1 0), 0, 0) := by
  unfold Cd.decG
  have hz : Cd.chkN c l m s.size = 0 := by
    unfold Cd.chkN
    rw [if_pos hg, if_neg (by omega)]
  rw [hz, if_neg (by simp), ← Cd.unitsR_eq c s ⟨hg.1, hg.2.1⟩, hF, Cd.ends_eq]
/-- What is read of the units. -/
theorem Cd.UnitsAt.open {w : World} {B : Nat} {v : Value} {us : List (Int × Bool × Int)} (h : Cd.UnitsAt w B v us) : ∃ ad cap, v = .slice ad us.length cap ∧
    ∀ k (r p : Int) (f : Bool), us[k]? = some (r, f, p) → ∃ g cur, ad = some ⟨g, 0, none⟩ ∧ w.heap[g]? = some (.cells cur 54 (0, 0)) ∧ w.cell? ⟨g, k * 3, none⟩ = some (.int .i32 r) ∧ w.cell? ⟨g, k * 3 + 1, none⟩ = some (.bool f) ∧ w.cell? ⟨g, k * 3 + 2, none⟩ = some (.int .i64 p) := by
  have hh := h
  rcases h.2 with ⟨hv, h0⟩ | ⟨g, cap, cur, hv, hB, hg, rest⟩
  · exact ⟨none, 0, by rw [hv, h0], fun k r p f hk => by have := (List.getElem?_eq_some_iff.1 hk).1; omega⟩
  · refine ⟨_, cap, hv, fun k r p f hk => ⟨g, cur, rfl, hg, ?_⟩⟩
    obtain ⟨h1, h2, h3⟩ := Cd.cellsU_at us k r p f hk
    rw [Nat.mul_comm 3 k] at h1 h2 h3
    have e := fun q u (hq : (Cd.cellsU us)[q]? = some u) => hh.cells (g := g) (by rw [hv]; rfl) q u hq
    refine ⟨?_, ?_, ?_⟩
    · have := e _ _ h1; rw [Sl.addr_add, Nat.zero_add] at this; exact this
    · have := e _ _ h2; rw [Sl.addr_add, Nat.zero_add] at this; exact this
    · have := e _ _ h3; rw [Sl.addr_add, Nat.zero_add] at this; exact this
theorem Cd.unit_at (us : List Cd.U) (k : Nat) (h : k < us.length) : ∃ r ok p, us.drop k = (r, ok, p) :: us.drop (k + 1) ∧ (us.map Cd.refU)[k]? = some (if ok then (r, false, p) else (0, true, p)) := by
  refine ⟨us[k].1, us[k].2.1, us[k].2.2, by rw [List.drop_eq_getElem_cons h], ?_⟩
  rw [List.getElem?_map, List.getElem?_eq_getElem h]
  rfl

theorem Cd.one_newL (w : World) (o : Obj) (v : Value) (t : TypeId) : ∀ (j : Nat) (u : Value), ([v] : List Value)[j]? = some u → ((w.alloc o).alloc (.cells #[v] t)).cell? ((⟨w.heap.size + 1, 0, none⟩ : Addr).add j) = some u := by
  have := Sl.one_new (w.alloc o) v t
  simpa using this
set_option maxHeartbeats 1000000 in
set_option maxRecDepth 1000000 in
theorem Cd.decodeRef_good (s : ByteArray) (v : Value) (w : World) (c l m : Int) (hg : Cd.good c l m) (hbig : s.size ≤ 65536) (hv : Cd.BytesAt w w.heap.size v s) (hsl : ∃ ad cap, v = .slice ad s.size cap) :
    Calls Tryd.prog 12 #[Cd.coder c l m, v] w fun x w' => x = .returned (.tuple #[.string ⟨(Cd.decG c l m s).1.toArray⟩, .int .i64 (Cd.decG c l m s).2.1, .int .i64 (Cd.decG c l m s).2.2]) ∧ Below w.heap.size w w' := by
  obtain ⟨i0, hi, hz0, hz1, hz2⟩ := info_parts Cd.infoRune3
  have hg0 := hg
  have KC := Lib.hid (fun w => Cd.checkR_any c l m w)
  have hk : Cd.chk c l m = 0 := by unfold Cd.chk; rw [if_pos hg]
  rw [hk] at KC
  obtain ⟨ad, cap, rfl⟩ := hsl
  have HV := Lib.hid hv; clear hv hk
  unfold Cd.coder at *
  go_enter Tryd.func12, Tryd.ntmps12
  go_wp2_with fail
  refine (KC.out _).mono ?_; rintro x w1 ⟨rfl, hb⟩
  have hs1 := hb.size
  rw [show (w.alloc (Obj.cells #[.int .i64 c, .int .i64 l, .int .i64 m] 23)).heap.size = w.heap.size + 1 by simp] at hs1
  have hb0 : Below w.heap.size w w1 := ((Below.refl w.heap.size w).alloc (Nat.le_refl _) _).trans (hb.mono (by simp))
  have q1 : w1.heap[w.heap.size]? = some (.cells #[.int .i64 c, .int .i64 l, .int .i64 m] 23 (0, 0)) := by
    rw [hb.block _ (by simp)]
    exact heap_alloc_new _ _
  have f0 : (w1.alloc (Obj.cells #[] 21)).cell? ⟨w.heap.size, 0, none⟩ = some (.int .i64 c) := by simp only [World.cell?]; rw [Lib.alloc_old _ _ _ (by omega), q1]; rfl
  have Q1 := Lib.hid q1; clear q1
  have HB0 := Lib.hid hb0; clear hb0 hb KC
  go_wp2_with fail
  refine (Cd.unitsRef_any c s (.slice ad s.size cap) _ (by omega) ((HV.out.below (HB0.out.alloc (by omega) _) (Nat.le_refl _)).up (by simp; omega))).mono ?_
  rintro x w2 ⟨v2, rfl, ho, hb2⟩
  rw [show (w1.alloc (Obj.cells #[] 21)).heap.size = w1.heap.size + 1 by simp] at hb2
  have hs2 := hb2.size
  have hown0 : w2.ownsRow w1.heap.size 21 1 (.slice (some ⟨w1.heap.size, 0, none⟩) 0 0) 0 [] := Sl.own_below (Sl.own_empty w1 21) hb2 (by simp)
  have hbw0 : Below w1.heap.size w1 w2 := ((Below.refl _ _).alloc (Nat.le_refl _) _).trans (hb2.mono (by omega))
  rw [show (w1.alloc (Obj.cells #[] 21)).heap.size = w1.heap.size + 1 by simp] at hs2
  clear hb2 f0
  obtain ⟨ad2, cap2, rfl, hcell⟩ := ho.open
  rw [List.length_map] at *
  have hlen : (Cd.unitsR c s).length ≤ 65536 := Nat.le_trans (Cd.unitsR_len c s) hbig
  have HCELL := Lib.hid hcell; clear hcell ho
  have hF : ∃ F, Cd.feed m (Cd.unitsR c s) [] 0 0 = F := ⟨_, rfl⟩
  obtain ⟨F, hF⟩ := hF
  have HD := Lib.hid (Cd.decG_good c l m s hg hbig F hF)
  generalize Cd.unitsR c s = US at *
  have HF := Lib.hid hF; clear hF
  go_wp2_with fail
  go_loopw [7, 9] (fun v i wr => ∃ (k : Nat) (xs : List Int), i = .int .i64 k ∧ k ≤ US.length ∧ xs.length ≤ k ∧ wr.ownsRow w1.heap.size 21 1 v xs.length (xs.map (Value.int .i32)) ∧ Below w1.heap.size w1 wr ∧ Cd.feed m (US.drop k) xs 0 0 = F ∧ (∀ g : Nat, ad2 = some ⟨g, 0, none⟩ → wr.heap[g]? = w2.heap[g]?)) (fun _ i _ => US.length - (intOf i).toNat)
  case atStart => exact ⟨0, [], rfl, Nat.zero_le _, Nat.zero_le _, hown0, hbw0, HF.out, fun _ _ => rfl⟩
  case round =>
    obtain ⟨k, xs, rfl, hk, hxl, hown, hbw, hfeed, hsame⟩ := hrel
    have HFEED := Lib.hid hfeed; clear hfeed
    have HSAME := Lib.hid hsame; clear hsame
    have hsw := hbw.size
    by_cases hlt : k < US.length
    · obtain ⟨r, ok, p, hdrop, hat⟩ := Cd.unit_at US k hlt
      have hfe := HFEED.out
      rw [hdrop, Cd.feed] at hfe
      have hlt0 : w.heap.size < wr.heap.size := by omega
      have hQ : wr.heap[w.heap.size]? = some (.cells #[.int .i64 c, .int .i64 l, .int .i64 m] 23 (0, 0)) := (hbw.block _ (by omega)).trans Q1.out
      have fM : wr.cell? ⟨w.heap.size, 2, none⟩ = some (.int .i64 m) := by simp only [World.cell?]; rw [hQ]; rfl
      clear hQ
      obtain ⟨g, cur, had, hg, c0, c1, c2⟩ := HCELL.out k _ _ _ (hat.trans (by cases ok <;> rfl : _ = some (if ok then r else 0, !ok, p)))
      subst had
      have hcb := fun i => Cd.cell_block (i := i) (HSAME.out g rfl)
      have hgb := (HSAME.out g rfl).trans hg
      have HG := Lib.hid hg; clear hg
      have c0 := (hcb _).trans c0
      have c1 := (hcb _).trans c1
      have c2 := (hcb _).trans c2
      clear hcb hdrop
      have HS2 := HSAME
      clear HFEED
      cases ok with
      | true =>
        rw [if_pos (show Cd.goS m true = true from rfl)] at hfe
        have hfe2 : Cd.feed m (US.drop (k + 1)) (xs ++ [r]) 0 0 = F := hfe
        have HFE := Lib.hid hfe2; clear hfe hfe2
        go_wp2_with (at_builtin; refine wpList_append_own _ rfl _ _ 47 rfl w1.heap.size 21 i0 (.int .i32 0) 1 4 Tryd.underlying47 hi hz0 hz1 hz2 rfl (by decide) _ _ _ rfl ((hown.alloc _).alloc _) ⟨wr.heap.size + 1, 0, none⟩ 1 1 [.int .i32 (r)] rfl rfl (Cd.one_newL _ _ _ _) ?c2 ?c3 ?c4 ?c5 ?_)
        case c2 => first | rfl | (intro u hu; simp at hu; subst hu; rfl)
        case c3 => unfold maxLen; omega
        case c4 => omega
        case c5 => first | omega | (simp; omega)
        intro v' w3 hown' hgrow hnil'
        have hbw3 := Sl.below_own ((hbw.alloc (by omega) _).alloc (by simp; omega) _) ((hown.alloc _).alloc _) hgrow (Nat.le_refl _) (by simp; omega)
        have hgb3 := Cd.block_grown ((hown.alloc _).alloc _) hgrow ((Lib.alloc_old _ _ _ (by simp; have := lt_of_block hgb; omega)).trans ((Lib.alloc_old _ _ _ (lt_of_block hgb)).trans hgb)) (by decide)
        have HB3 := Lib.hid hbw3; clear hbw3
        have HG3 := Lib.hid hgb3; clear hgb3
        clear hown hgrow hbw hgb hnil' c0 c1 c2 fM
        go_wp2
        go_roundw
        case rel =>
          refine ⟨k + 1, xs ++ [r], by first | rfl | go_num | (simp; try omega), by omega, by rw [List.length_append]; show xs.length + 1 ≤ _; omega, by simpa using hown', HB3.out, HFE.out, ?_⟩
          intro g2 h2
          cases h2
          exact HG3.out.trans HG.out.symm
        case measure => simp [intOf]; omega
      | false =>
        have HG2 := HG
        rcases (show m = 0 ∨ m = 1 ∨ m = 2 by unfold Cd.good at hg0; omega) with rfl | rfl | rfl
        · rw [if_neg (show ¬ Cd.goS 0 false = true by decide)] at hfe
          have hFF : (xs, p, 6) = F := hfe
          clear hfe
          have HFF := Lib.hid hFF; clear hFF
          have HOWN := Lib.hid hown; clear hown
          go_wp2
          go_quiet (fail)
          go_wp2
          go_ret3
          rw [HD.out, ← HFF.out, if_pos (show (6 : Int) ≠ 0 by decide)]
          exact ⟨rfl, HB0.out.trans (below_drewN (((Below.refl w.heap.size w1).trans (hbw.mono (by omega))).alloc (by omega) _) _)⟩
        · rw [if_pos (show Cd.goS 1 false = true by decide)] at hfe
          have hfe2 : Cd.feed 1 (US.drop (k + 1)) (xs ++ [65533]) 0 0 = F := hfe
          have HFE := Lib.hid hfe2; clear hfe hfe2
          go_wp2_with (at_builtin; refine wpList_append_own _ rfl _ _ 47 rfl w1.heap.size 21 i0 (.int .i32 0) 1 4 Tryd.underlying47 hi hz0 hz1 hz2 rfl (by decide) _ _ _ rfl ((hown.alloc _).alloc _) ⟨wr.heap.size + 1, 0, none⟩ 1 1 [.int .i32 (65533)] rfl rfl (Cd.one_newL _ _ _ _) ?c2 ?c3 ?c4 ?c5 ?_)
          case c2 => first | rfl | (intro u hu; simp at hu; subst hu; rfl)
          case c3 => unfold maxLen; omega
          case c4 => omega
          case c5 => first | omega | (simp; omega)
          intro v' w3 hown' hgrow hnil'
          have hbw3 := Sl.below_own ((hbw.alloc (by omega) _).alloc (by simp; omega) _) ((hown.alloc _).alloc _) hgrow (Nat.le_refl _) (by simp; omega)
          have hgb3 := Cd.block_grown ((hown.alloc _).alloc _) hgrow ((Lib.alloc_old _ _ _ (by simp; have := lt_of_block hgb; omega)).trans ((Lib.alloc_old _ _ _ (lt_of_block hgb)).trans hgb)) (by decide)
          have HB3 := Lib.hid hbw3; clear hbw3
          have HG3 := Lib.hid hgb3; clear hgb3
          clear hown hgrow hbw hgb hnil' c0 c1 c2 fM
          go_wp2
          go_roundw
          case rel =>
            refine ⟨k + 1, xs ++ [65533], by first | rfl | go_num | (simp; try omega), by omega, by rw [List.length_append]; show xs.length + 1 ≤ _; omega, by simpa using hown', HB3.out, HFE.out, ?_⟩
            intro g2 h2
            cases h2
            exact HG3.out.trans HG.out.symm
          case measure => simp [intOf]; omega
        · have HGB := Lib.hid hgb; clear hgb
          rw [if_pos (show Cd.goS 2 false = true by decide)] at hfe
          have hfe2 : Cd.feed 2 (US.drop (k + 1)) xs 0 0 = F := hfe
          have HFE := Lib.hid hfe2; clear hfe hfe2
          have HOWN := Lib.hid (hown.alloc (.cells #[.int .i32 0, .bool true, .int .i64 p] 54))
          have HBW := Lib.hid (hbw.alloc (by omega) (.cells #[.int .i32 0, .bool true, .int .i64 p] 54))
          clear hown hbw
          go_wp2
          go_roundw
          case rel =>
            refine ⟨k + 1, xs, by first | rfl | go_num | (simp; try omega), by omega, by omega, HOWN.out, HBW.out, HFE.out, ?_⟩
            intro g2 h2
            cases h2
            exact (Lib.alloc_old _ _ _ (lt_of_block HGB.out)).trans (HGB.out.trans HG.out.symm)
          case measure => simp [intOf]; omega
    · have hfe := HFEED.out
      rw [List.drop_eq_nil_of_le (by omega), Cd.feed_nil] at hfe
      have HFF := Lib.hid hfe; clear hfe
      have hQ : wr.heap[w.heap.size]? = some (.cells #[.int .i64 c, .int .i64 l, .int .i64 m] 23 (0, 0)) := (hbw.block _ (by omega)).trans Q1.out
      have fL : wr.cell? ⟨w.heap.size, 1, none⟩ = some (.int .i64 l) := by simp only [World.cell?]; rw [hQ]; rfl
      have HI := Lib.hid (Sl.IntsAt.of_own hown)
      have HBW := Lib.hid hbw
      clear hQ hown hbw
      go_wp2_with fail
      refine (Cd.endsRef_any l _ xs wr (by omega) HI.out).mono ?_; rintro x w4 ⟨ve, rfl, he, hb4⟩
      have cv := Sl.run_string (P := Tryd.prog) w4 47 9 21 _ _ Tryd.underlying47 Tryd.underlying21 Tryd.underlying9 he
      have HB4 := Lib.hid hb4
      clear fL he hb4
      go_wp2
      go_ret3
      rw [HD.out, ← HFF.out, if_neg (show ¬ (0 : Int) ≠ 0 by decide)]
      exact ⟨rfl, HB0.out.trans ((HBW.out.mono (by omega)).trans (HB4.out.mono (by omega)))⟩

set_option maxHeartbeats 1000000 in
set_option maxRecDepth 1000000 in
theorem Cd.decodeRef_bad (s : ByteArray) (v : Value) (w : World) (c l m : Int) (hn : Cd.chkN c l m s.size ≠ 0) (hbig : s.size ≤ 9223372036854775807) (hsl : ∃ ad cap, v = .slice ad s.size cap) :
    Calls Tryd.prog 12 #[Cd.coder c l m, v] w fun x w' => x = .returned (.tuple #[.string ⟨#[]⟩, .int .i64 0, .int .i64 (Cd.chkN c l m s.size)]) ∧ Below w.heap.size w w' := by
  have KC := Lib.hid (fun w => Cd.checkR_any c l m w)
  have hs := Cd.chkN_split c l m s.size
  obtain ⟨ad, cap, rfl⟩ := hsl
  generalize Cd.chkN c l m s.size = z at *
  unfold Cd.coder at *
  generalize Cd.chk c l m = y at *
  rcases hs with ⟨rfl, rfl⟩ | ⟨rfl, hn, rfl⟩ | ⟨rfl, h1, rfl⟩
  · clear hn
    go_enter Tryd.func12, Tryd.ntmps12
    go_wp2_with fail
    refine (KC.out _).mono ?_; rintro x w1 ⟨rfl, hb⟩
    have hb0 := Lib.hid (((Below.refl w.heap.size w).alloc (Nat.le_refl _) _).trans (hb.mono (by simp))); clear hb
    go_wp2
    go_ret3
    exact ⟨rfl, hb0.out⟩
  · go_enter Tryd.func12, Tryd.ntmps12
    go_wp2_with fail
    refine (KC.out _).mono ?_; rintro x w1 ⟨rfl, hb⟩
    have hb0 := Lib.hid (((Below.refl w.heap.size w).alloc (Nat.le_refl _) _).trans (hb.mono (by simp))); clear hb
    go_wp2
    go_ret3
    exact ⟨rfl, hb0.out⟩
  · exact absurd rfl hn

theorem Cd.decodeRef_any (s : ByteArray) (v : Value) (w : World) (c l m : Int) (hbig : s.size ≤ 9223372036854775807) (hv : Cd.BytesAt w w.heap.size v s) (hsl : ∃ ad cap, v = .slice ad s.size cap) :
    Calls Tryd.prog 12 #[Cd.coder c l m, v] w fun x w' => x = .returned (.tuple #[.string ⟨(Cd.decG c l m s).1.toArray⟩, .int .i64 (Cd.decG c l m s).2.1, .int .i64 (Cd.decG c l m s).2.2]) ∧ Below w.heap.size w w' := by
  by_cases h : Cd.chkN c l m s.size = 0
  · obtain ⟨hg, hs⟩ := Cd.chkN_good c l m _ h
    exact Cd.decodeRef_good s v w c l m hg (by omega) hv hsl
  · have e : Cd.decG c l m s = ([], 0, Cd.chkN c l m s.size) := by unfold Cd.decG; rw [if_pos h]
    rw [e]
    exact Cd.decodeRef_bad s v w c l m h hbig hsl
end Go.Proofs.YtdpbpkggbgfkgaaDoor
