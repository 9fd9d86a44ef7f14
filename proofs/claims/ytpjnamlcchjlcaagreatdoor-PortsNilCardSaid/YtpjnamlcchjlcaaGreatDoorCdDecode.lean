/-
  The walk of codec.Decode.
-/
import Derived.Test.YtpjnamlcchjlcaaGreatDoorCdUnits
import Derived.Test.YtpjnamlcchjlcaaGreatDoorCdEnds
namespace Go.Proofs.YtpjnamlcchjlcaaGreatDoor
open Go.RowKit
set_option linter.unusedVariables false

def Cd.decG (c l m : Int) (s : ByteArray) : List UInt8 × Int × Int :=
  if Cd.chkN c l m s.size ≠ 0 then ([], 0, Cd.chkN c l m s.size)
  else if (Cd.feed m (Cd.unitsU c s) [] 0 0).2.2 ≠ 0 then ([], (Cd.feed m (Cd.unitsU c s) [] 0 0).2) else (Ru.encs (Cd.endsL l (Cd.feed m (Cd.unitsU c s) [] 0 0).1), 0, 0)

theorem Cd.chkN_good (c l m n : Int) (h : Cd.chkN c l m n = 0) : Cd.good c l m ∧ n ≤ 65536 := by
  unfold Cd.chkN at h
  by_cases hg : Cd.good c l m
  · rw [if_pos hg] at h
    refine ⟨hg, ?_⟩
    split at h <;> omega
  · rw [if_neg hg] at h
    omega
theorem Cd.feed_len (m : Int) : ∀ (us : List Cd.U) (xs : List Int) (a e : Int), (Cd.feed m us xs a e).1.length ≤ xs.length + us.length
  | [], xs, a, e => by simp [Cd.feed]
  | (r, ok, p) :: us, xs, a, e => by
    have h1 := Cd.xsS_len m r ok xs
    unfold Cd.feed
    split
    · have := Cd.feed_len m us (Cd.xsS m r ok xs) (Cd.atS m p ok a) (Cd.erS m ok e)
      simp only [List.length_cons]
      omega
    · simp only [List.length_cons]
      omega
theorem Cd.unitsU_len (c : Int) (s : ByteArray) : (Cd.unitsU c s).length ≤ s.size := by
  have h1 : ∀ n k, s.size - k ≤ n → (Cd.utf8U s k).length ≤ s.size - k := by
    intro n
    induction n with
    | zero => intro k hk; rw [Cd.utf8U_end s k (by omega)]; simp
    | succ n ih =>
      intro k hk
      by_cases h : k < s.size
      · have hw := Lib.decode_width_pos s k h
        rw [Cd.utf8U_one s k h, List.length_cons]
        have := ih (k + (Utf8.decode s k).2) (by omega)
        omega
      · rw [Cd.utf8U_end s k h]; simp
  have h2 : ∀ n k, s.size - k ≤ n → (Cd.latinU s k).length ≤ s.size - k := by
    intro n
    induction n with
    | zero => intro k hk; rw [Cd.latinU_end s k (by omega)]; simp
    | succ n ih =>
      intro k hk
      by_cases h : k < s.size
      · rw [Cd.latinU_one s k h, List.length_cons]
        have := ih (k + 1) (by omega)
        omega
      · rw [Cd.latinU_end s k h]; simp
  have h3 : ∀ low n k, s.size - k ≤ n → (Cd.wideU s low k).length ≤ s.size - k := by
    intro low n
    induction n with
    | zero => intro k hk; rw [Cd.wideU_end s low k (by omega)]; simp
    | succ n ih =>
      intro k hk
      by_cases h : k < s.size
      · by_cases hp : Cd.pair (Cd.num s low k) (Cd.num s low (k + 2))
        · rw [Cd.wideU_pair s low k h hp, List.length_cons]
          have := ih (k + 2 + 2) (by omega)
          omega
        · rw [Cd.wideU_one s low k h hp, List.length_cons]
          have := ih (k + 2) (by omega)
          omega
      · rw [Cd.wideU_end s low k h]; simp
  unfold Cd.unitsU
  split
  · exact h1 _ 0 (Nat.le_refl _)
  split
  · exact h2 _ 0 (Nat.le_refl _)
  · have := h3 (Cd.bom s).2 _ (Cd.bom s).1 (Nat.le_refl _)
    omega

/-- The two named results, written. -/
theorem Cd.two_set {w : World} {p q : Nat} {x y x' y' : Value} (hp : w.heap[p]? = some (.cells #[x] 3 (0, 0))) (hq : w.heap[q]? = some (.cells #[y] 24 (0, 0))) :
    (w.setCell ⟨p, 0, none⟩ x').cell? ⟨q, 0, none⟩ = some y ∧ (w.setCell ⟨p, 0, none⟩ x').frozen? ⟨q, 0, none⟩ = false ∧ ((w.setCell ⟨p, 0, none⟩ x').setCell ⟨q, 0, none⟩ y').cell? ⟨p, 0, none⟩ = some x' ∧ ((w.setCell ⟨p, 0, none⟩ x').setCell ⟨q, 0, none⟩ y').cell? ⟨q, 0, none⟩ = some y' := by
  have hne : p ≠ q := by intro e; subst e; rw [hp] at hq; cases hq
  have h1 := one_setCell (u := x') hp
  have h2 : (w.setCell ⟨p, 0, none⟩ x').heap[q]? = _ := (Below.heap_setCell w ⟨p, 0, none⟩ x' q (fun e => hne e.symm)).trans hq
  have h3 := one_setCell (u := y') h2
  have h4 : ((w.setCell ⟨p, 0, none⟩ x').setCell ⟨q, 0, none⟩ y').heap[p]? = _ := (Below.heap_setCell (w.setCell ⟨p, 0, none⟩ x') ⟨q, 0, none⟩ y' p hne).trans h1
  exact ⟨cell_of_one h2, free_of_one h2, cell_of_one h4, cell_of_one h3⟩

set_option maxHeartbeats 4000000 in
set_option maxRecDepth 1000000 in
theorem Cd.decode_any (s : ByteArray) (v : Value) (w : World) (c l m : Int) (hT : Lib.Utf8Tabs 0 1 w) (hTB : 0 < w.heap.size ∧ 1 < w.heap.size) (hbig : s.size ≤ 9223372036854775807) (hv : Cd.BytesAt w w.heap.size v s) (hsl : ∃ ad cap, v = .slice ad s.size cap) :
    Calls Tryz.prog 22 #[Cd.coder c l m, v] w fun x w' => x = .returned (.tuple #[.string ⟨(Cd.decG c l m s).1.toArray⟩, .int .i64 (Cd.decG c l m s).2.1, .int .i64 (Cd.decG c l m s).2.2]) ∧ Below w.heap.size w w' := by
  have hmf : ∀ (fn : Fn) (first cap : Array Value) (w : World), (Instr.makeFunc fn first cap).run Tryz.prog w = .ok (.func fn first cap) w := fun _ _ _ _ => rfl
  have KC := Lib.hid (fun w => Cd.checkN_any c l m s.size w)
  obtain ⟨ad, cap, rfl⟩ := hsl
  have HV := Lib.hid hv; clear hv
  have HT := Lib.hid hT; clear hT
  have hsp := Cd.chkN_good c l m s.size
  unfold Cd.decG
  generalize Cd.chkN c l m s.size = z at *
  by_cases hz : z = 0
  · subst hz
    obtain ⟨hg, hsz⟩ := hsp rfl
    rw [if_neg (by simp)]
    have hfl := Cd.feed_len m (Cd.unitsU c s) [] 0 0
    have hul := Cd.unitsU_len c s
    obtain ⟨XS, hXS⟩ : ∃ XS, XS = (Cd.feed m (Cd.unitsU c s) [] 0 0).1 := ⟨_, rfl⟩
    obtain ⟨A, hA⟩ : ∃ A, A = (Cd.feed m (Cd.unitsU c s) [] 0 0).2.1 := ⟨_, rfl⟩
    obtain ⟨E, hE⟩ : ∃ E, E = (Cd.feed m (Cd.unitsU c s) [] 0 0).2.2 := ⟨_, rfl⟩
    have hF : Cd.feed m (Cd.unitsU c s) [] 0 0 = (XS, A, E) := by rw [hXS, hA, hE]
    rw [hF]
    have hxl : XS.length ≤ 65536 := by
      rw [hXS]
      simp only [List.length_nil] at hfl
      omega
    clear hXS hA hE hfl hul
    by_cases hE : E = 0
    · subst hE
      rw [if_neg (by simp)]
      have HF := Lib.hid hF; clear hF
      have HG := Lib.hid hg; clear hg
      unfold Cd.coder at *
      go_enter Tryz.func22, Tryz.ntmps22
      go_wp2_with fail
      refine (KC.out _).mono ?_; rintro x w1 ⟨rfl, hb⟩
      have hb0 : Below w.heap.size w w1 := ((((Below.refl w.heap.size w).alloc (Nat.le_refl _) _).alloc (by first | omega | (simp; done) | (simp; omega)) _).alloc (by first | omega | (simp; done) | (simp; omega)) _).trans (hb.mono (by first | omega | (simp; done) | (simp; omega)))
      have q1 : w1.heap[w.heap.size]? = some (.cells #[.int .i64 c, .int .i64 l, .int .i64 m] 45 (0, 0)) := by
        rw [hb.block _ (by first | omega | (simp; done) | (simp; omega)), Lib.alloc_old _ _ _ (by first | omega | (simp; done) | (simp; omega)), Lib.alloc_old _ _ _ (by first | omega | (simp; done) | (simp; omega))]
        exact heap_alloc_new _ _
      have q2 : w1.heap[w.heap.size + 1]? = some (.cells #[.int .i64 0] 3 (0, 0)) := by
        rw [hb.block _ (by first | omega | (simp; done) | (simp; omega)), Lib.alloc_old _ _ _ (by first | omega | (simp; done) | (simp; omega))]
        have := heap_alloc_new (w.alloc (Obj.cells #[.int .i64 c, .int .i64 l, .int .i64 m] 45)) (Obj.cells #[.int .i64 0] 3)
        simpa using this
      have q3 : w1.heap[w.heap.size + 1 + 1]? = some (.cells #[.int .i64 0] 24 (0, 0)) := by
        rw [hb.block _ (by first | omega | (simp; done) | (simp; omega))]
        have := heap_alloc_new ((w.alloc (Obj.cells #[.int .i64 c, .int .i64 l, .int .i64 m] 45)).alloc (Obj.cells #[.int .i64 0] 3)) (Obj.cells #[.int .i64 0] 24)
        simpa using this
      have hs1 := hb0.size
      have l3 := lt_of_block q3
      have hst : Cd.St (w1.alloc (.cells #[.slice none 0 0] 84)) w.heap.size w1.heap.size w.heap.size (w.heap.size + 1) (w.heap.size + 1 + 1) c l m [] 0 0 := by
        refine ⟨?_, ?_, ?_, .slice none 0 0, heap_alloc_new _ _, ⟨by simp, .inl ⟨rfl, rfl⟩⟩⟩
        · rw [Lib.alloc_old _ _ _ (by omega)]; exact q1
        · rw [Lib.alloc_old _ _ _ (by omega)]; exact q2
        · rw [Lib.alloc_old _ _ _ l3]; exact q3
      have hb2 : Below w.heap.size w (w1.alloc (.cells #[.slice none 0 0] 84)) := hb0.alloc hs1 _
      have f0 : (w1.alloc (.cells #[.slice none 0 0] 84)).cell? ⟨w.heap.size, 0, none⟩ = some (.int .i64 c) := by simp [World.cell?, hst.coder]
      have HB2 := Lib.hid hb2; clear hb2
      have HST := Lib.hid hst; clear hst
      clear hb q1 q2 q3 hb0
      have KU := Lib.hid (Cd.units_any s (.slice ad s.size cap) _ w.heap.size w1.heap.size w.heap.size (w.heap.size + 1) (w.heap.size + 1 + 1) c l m 0 0 [] ⟨HG.out.1, HG.out.2.1⟩ (by omega) rfl hs1 (by omega) (by omega) (Cd.tabs_below HT.out HB2.out hTB.1 hTB.2) hTB HST.out (HV.out.below HB2.out (Nat.le_refl _)) XS A 0 HF.out)
      unfold Cd.fv at KU
      go_wp2_with fail
      refine KU.out.mono ?_; rintro x w3 ⟨rfl, h1, h2⟩
      have fE := cell_of_one h1.err
      have gE := free_of_one h1.err
      have fA := cell_of_one h1.place
      have gA := free_of_one h1.place
      have fL : w3.cell? ⟨w.heap.size, 1, none⟩ = some (.int .i64 l) := by simp only [World.cell?, h1.coder]; rfl
      obtain ⟨vo, ho, hr⟩ := h1.out
      have fO := cell_of_one ho
      have hB3 := HB2.out.trans h2.below
      have HB3 := Lib.hid hB3; clear hB3
      have lA := lt_of_block h1.place
      have lE := lt_of_block h1.err
      have H1 := Lib.hid h1; clear h1
      have HO := Lib.hid ho; clear ho
      have HR := Lib.hid hr; clear hr
      clear KU h2 HST f0
      go_wp2_with fail
      refine (Cd.ends_any l vo XS w3 (by omega) (Sl.IntsAt.of_own HR.out)).mono ?_; rintro x w4 ⟨ve, rfl, he, hb4⟩
      have cv := Sl.run_string (P := Tryz.prog) w4 84 9 21 _ _ Tryz.underlying84 Tryz.underlying21 Tryz.underlying9 he
      have hA4 := (hb4.block _ lA).trans H1.out.place
      have hE4 := (hb4.block _ lE).trans H1.out.err
      have s1 := cell_of_one hA4
      have s2 := free_of_one hA4
      have s3 := cell_of_one hE4
      have s4 := free_of_one hE4
      have hBelow := HB3.out.trans (hb4.mono (by have := HB3.out.size; omega))
      have HB4 := Lib.hid hBelow
      obtain ⟨u1, u2, u3, u4⟩ := Cd.two_set (x' := .int .i64 0) (y' := .int .i64 0) hA4 hE4
      clear hBelow he hb4 fE gE fA gA fL fO hA4 hE4
      go_wp2
      refine bodyPost_ret (v := .tuple #[.string ⟨(Ru.encs (Cd.endsL l XS)).toArray⟩, .int .i64 0, .int .i64 0]) (by simp [results, Tryz.results22, go_sem, u3, u4]) rfl ⟨rfl, ?_⟩
      exact (HB4.out.setCell (by show w.heap.size ≤ w.heap.size + 1; omega) _).setCell (by show w.heap.size ≤ w.heap.size + 1 + 1; omega) _
    · rw [if_pos hE]
      have hEb : (E != 0) = true := by simp [hE]
      have HF := Lib.hid hF; clear hF
      have HG := Lib.hid hg; clear hg
      unfold Cd.coder at *
      go_enter Tryz.func22, Tryz.ntmps22
      go_wp2_with fail
      refine (KC.out _).mono ?_; rintro x w1 ⟨rfl, hb⟩
      have hb0 : Below w.heap.size w w1 := ((((Below.refl w.heap.size w).alloc (Nat.le_refl _) _).alloc (by first | omega | (simp; done) | (simp; omega)) _).alloc (by first | omega | (simp; done) | (simp; omega)) _).trans (hb.mono (by first | omega | (simp; done) | (simp; omega)))
      have q1 : w1.heap[w.heap.size]? = some (.cells #[.int .i64 c, .int .i64 l, .int .i64 m] 45 (0, 0)) := by
        rw [hb.block _ (by first | omega | (simp; done) | (simp; omega)), Lib.alloc_old _ _ _ (by first | omega | (simp; done) | (simp; omega)), Lib.alloc_old _ _ _ (by first | omega | (simp; done) | (simp; omega))]
        exact heap_alloc_new _ _
      have q2 : w1.heap[w.heap.size + 1]? = some (.cells #[.int .i64 0] 3 (0, 0)) := by
        rw [hb.block _ (by first | omega | (simp; done) | (simp; omega)), Lib.alloc_old _ _ _ (by first | omega | (simp; done) | (simp; omega))]
        have := heap_alloc_new (w.alloc (Obj.cells #[.int .i64 c, .int .i64 l, .int .i64 m] 45)) (Obj.cells #[.int .i64 0] 3)
        simpa using this
      have q3 : w1.heap[w.heap.size + 1 + 1]? = some (.cells #[.int .i64 0] 24 (0, 0)) := by
        rw [hb.block _ (by first | omega | (simp; done) | (simp; omega))]
        have := heap_alloc_new ((w.alloc (Obj.cells #[.int .i64 c, .int .i64 l, .int .i64 m] 45)).alloc (Obj.cells #[.int .i64 0] 3)) (Obj.cells #[.int .i64 0] 24)
        simpa using this
      have hs1 := hb0.size
      have l3 := lt_of_block q3
      have hst : Cd.St (w1.alloc (.cells #[.slice none 0 0] 84)) w.heap.size w1.heap.size w.heap.size (w.heap.size + 1) (w.heap.size + 1 + 1) c l m [] 0 0 := by
        refine ⟨?_, ?_, ?_, .slice none 0 0, heap_alloc_new _ _, ⟨by simp, .inl ⟨rfl, rfl⟩⟩⟩
        · rw [Lib.alloc_old _ _ _ (by omega)]; exact q1
        · rw [Lib.alloc_old _ _ _ (by omega)]; exact q2
        · rw [Lib.alloc_old _ _ _ l3]; exact q3
      have hb2 : Below w.heap.size w (w1.alloc (.cells #[.slice none 0 0] 84)) := hb0.alloc hs1 _
      have f0 : (w1.alloc (.cells #[.slice none 0 0] 84)).cell? ⟨w.heap.size, 0, none⟩ = some (.int .i64 c) := by simp [World.cell?, hst.coder]
      have HB2 := Lib.hid hb2; clear hb2
      have HST := Lib.hid hst; clear hst
      clear hb q1 q2 q3 hb0
      have KU := Lib.hid (Cd.units_any s (.slice ad s.size cap) _ w.heap.size w1.heap.size w.heap.size (w.heap.size + 1) (w.heap.size + 1 + 1) c l m 0 0 [] ⟨HG.out.1, HG.out.2.1⟩ (by omega) rfl hs1 (by omega) (by omega) (Cd.tabs_below HT.out HB2.out hTB.1 hTB.2) hTB HST.out (HV.out.below HB2.out (Nat.le_refl _)) XS A E HF.out)
      unfold Cd.fv at KU
      go_wp2_with fail
      refine KU.out.mono ?_; rintro x w3 ⟨rfl, h1, h2⟩
      have fE := cell_of_one h1.err
      have gE := free_of_one h1.err
      have fA := cell_of_one h1.place
      have gA := free_of_one h1.place
      have fL : w3.cell? ⟨w.heap.size, 1, none⟩ = some (.int .i64 l) := by simp only [World.cell?, h1.coder]; rfl
      obtain ⟨vo, ho, hr⟩ := h1.out
      have fO := cell_of_one ho
      have hB3 := HB2.out.trans h2.below
      have HB3 := Lib.hid hB3; clear hB3
      have lA := lt_of_block h1.place
      have lE := lt_of_block h1.err
      have H1 := Lib.hid h1; clear h1
      have HO := Lib.hid ho; clear ho
      have HR := Lib.hid hr; clear hr
      clear KU h2 HST f0
      obtain ⟨u1, u2, u3, u4⟩ := Cd.two_set (x' := .int .i64 A) (y' := .int .i64 E) H1.out.place H1.out.err
      go_wp2_with fail
      go_region
      all_goals (try go_wp2)
      all_goals
        refine bodyPost_ret (v := .tuple #[.string ⟨#[]⟩, .int .i64 A, .int .i64 E]) (by simp [results, Tryz.results22, go_sem, u3, u4]) rfl ⟨rfl, ?_⟩
        exact Below.drew ((HB3.out.setCell (by show w.heap.size ≤ w.heap.size + 1; omega) _).setCell (by show w.heap.size ≤ w.heap.size + 1 + 1; omega) _)
  · rw [if_pos hz]
    have hzb : (z != 0) = true := by simp [hz]
    unfold Cd.coder at *
    go_enter Tryz.func22, Tryz.ntmps22
    go_wp2_with fail
    refine (KC.out _).mono ?_; rintro x w1 ⟨rfl, hb⟩
    have hb0 : Below w.heap.size w w1 := ((((Below.refl w.heap.size w).alloc (Nat.le_refl _) _).alloc (by simp) _).alloc (by simp; omega) _).trans (hb.mono (by simp; omega))
    have q2 : w1.heap[w.heap.size + 1]? = some (.cells #[.int .i64 0] 3 (0, 0)) := by
      rw [hb.block _ (by simp), Lib.alloc_old _ _ _ (by simp)]
      have := heap_alloc_new (w.alloc (Obj.cells #[.int .i64 c, .int .i64 l, .int .i64 m] 45)) (Obj.cells #[.int .i64 0] 3)
      simpa using this
    have q3 : w1.heap[w.heap.size + 1 + 1]? = some (.cells #[.int .i64 0] 24 (0, 0)) := by
      rw [hb.block _ (by simp)]
      have := heap_alloc_new ((w.alloc (Obj.cells #[.int .i64 c, .int .i64 l, .int .i64 m] 45)).alloc (Obj.cells #[.int .i64 0] 3)) (Obj.cells #[.int .i64 0] 24)
      simpa using this
    have s1 := cell_of_one q2
    have s2 := free_of_one q2
    have s3 := cell_of_one q3
    have s4 := free_of_one q3
    obtain ⟨u1, u2, u3, u4⟩ := Cd.two_set (x' := .int .i64 0) (y' := .int .i64 z) q2 q3
    have HB4 := Lib.hid hb0
    clear hb q2 q3 hb0
    go_wp2
    refine bodyPost_ret (v := .tuple #[.string ⟨#[]⟩, .int .i64 0, .int .i64 z]) (by simp [results, Tryz.results22, go_sem, u3, u4]) rfl ⟨rfl, ?_⟩
    exact (HB4.out.setCell (by show w.heap.size ≤ w.heap.size + 1; omega) _).setCell (by show w.heap.size ≤ w.heap.size + 1 + 1; omega) _
end Go.Proofs.YtpjnamlcchjlcaaGreatDoor
