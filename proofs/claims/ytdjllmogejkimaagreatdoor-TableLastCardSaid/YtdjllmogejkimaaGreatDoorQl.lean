/-
  The writer's datum of a node that has no list and no bytes. The writer's pair: a list's first datum, and what stands behind it. The writer's datum of a vector.
-/
import Derived.Deep.RegionHeld3
import Derived.Deep.LoopGhost
import Derived.Laws.IdiomStrings
import Derived.Test.YtdjllmogejkimaaGreatDoorQi
import Derived.Test.YtdjllmogejkimaaGreatDoorQj
import Derived.Test.YtdjllmogejkimaaGreatDoorQk
import Derived.Test.YtdjllmogejkimaaGreatDoorQe
import Derived.Test.YtdjllmogejkimaaGreatDoorQd
import Derived.Test.YtdjllmogejkimaaGreatDoorQa
set_option linter.unusedVariables false
set_option linter.unusedSimpArgs false
namespace Go.Proofs.YtdjllmogejkimaaGreatDoor
open Go.RowKit

/-- What the writer's datum does of a datum. -/
def Wt.Says (m : Bool) (t : Tr) : Prop := ∀ (B b : Nat) (bs : List Value) (C : Array Value) (w : World), Wr.Is B b m bs w → Tr.In w (fun q => q < B) t (.agg C) → Wt.Env B w → Tr.good t → Wt.fit t → bs.length + 16777216 * Tr.size t ≤ 140737488355328 →
  Calls Tryz.prog 131 #[.pointer (some ⟨b, 0, none⟩), .agg C] w fun e w' => e = .returned (.tuple #[]) ∧ (Wr.At B b (.pointer (some ⟨b, 0, none⟩)) m (bs ++ Lib.byteCells (Wt.tell m t)) w' ∧ Wt.Kept B b w w')
/-- The box of the parameter, and what is kept of it. -/
theorem Wt.boxed {B b : Nat} {m : Bool} {bs : List Value} {w : World} (hW : Wr.Is B b m bs w) (hE : Wt.Env B w) (A : Array Value) :
    Wr.Is B b m bs (w.alloc (.cells A 37)) ∧ Wt.Env B (w.alloc (.cells A 37)) ∧ (∀ w', Wt.Kept B b (w.alloc (.cells A 37)) w' → (∀ j, w'.cell? ⟨w.heap.size, j, none⟩ = A[j]?) ∧ Wt.Kept B b w w') := by
  have hb := hW.blk
  have h0 : (w.alloc (.cells A 37)).heap[w.heap.size]? = some (.cells A 37 (0, 0)) := heap_alloc_new w _
  refine ⟨hW.alloc _, hE.below ((Below.refl _ _).alloc (by omega) _), fun w' hk => ⟨?_, ((Wt.Kept.refl B b w).alloc (by omega) _).trans hk⟩⟩
  have h1 := hk.box h0 (by omega) (by decide)
  exact Lib.cell_of_heap h1
theorem Wt.own_k {k n : Int} {l : Nat} (h : Tr.own k n l = true) : 1 ≤ k ∧ k ≤ 11 := by
  unfold Tr.own at h
  split at h
  · omega
  split at h
  · omega
  split at h
  · omega
  split at h
  · omega
  simp only [Bool.and_eq_true, decide_eq_true_eq] at h
  omega
set_option maxHeartbeats 4000000 in
set_option maxRecDepth 1000000 in
theorem Wt.datum_leaf (m : Bool) (h : Tr.Hd) (l : List Tr) (h7 : h.k ≠ 7) (h8 : h.k ≠ 8) (h9 : h.k ≠ 9) : Wt.Says m (.mk h l) := by
  intro B b bs C w hW hI hE hg hf hlen
  obtain ⟨hsh, hgl⟩ := Tr.good_mk.1 hg
  obtain ⟨⟨hx, hr⟩, hfl⟩ := Wt.fit_mk.1 hf
  rw [Wt.tell_atom h8]
  have hown := Wt.shape_own hsh
  have hk11 := Wt.own_k hown
  have hlen2 : bs.length + 16777216 ≤ 140737488355328 := by
    have := Tr.size_pos (.mk h l)
    omega
  obtain ⟨hBb, hblt⟩ := hW.blk
  rw [Tr.In_mk] at hI
  obtain ⟨v3, v4, v6, v7, v9, v10, e, hH, hL⟩ := hI
  cases e
  obtain ⟨W0, hW0⟩ : ∃ z, w.alloc (.cells (Tr.cells h v3 v4 v6 v7 v9 v10) 37) = z := ⟨_, rfl⟩
  have hb0 : Below w.heap.size w W0 := by rw [← hW0]; exact (Below.refl _ _).alloc (Nat.le_refl _) _
  obtain ⟨hIs, hEn, hKe⟩ := Wt.boxed hW hE (Tr.cells h v3 v4 v6 v7 v9 v10)
  rw [hW0] at hIs hEn hKe
  have KN := fun hk => Wt.Text_any h l.length _ v3 v4 v6 v7 v9 W0 (hH.kept (Tr.Kept.all hb0 (Nat.le_refl _))) hsh hk
  have KW : ∀ w1, Below W0.heap.size W0 w1 → ∀ (s : ByteArray) (u : List UInt8), s = ⟨u.toArray⟩ → u.length ≤ 16777216 → Calls Tryz.prog 43 #[.pointer (some ⟨b, 0, none⟩), .string s] w1 fun e w' => e = .returned (.tuple #[.int .i64 s.size, .nilIface]) ∧ (Wr.At B b (.pointer (some ⟨b, 0, none⟩)) m (bs ++ Lib.byteCells u) w' ∧ Wt.Kept B b w w' ∧ Wt.Kept B b W0 w') := by
    intro w1 hb1 s u hs hu
    subst hs
    have hz := hb0.size
    have hz1 := hb1.size
    refine (Wt.writeString B b m bs _ w1 (hIs.keptBelow hb1) (by show _ + (List.toArray _).size ≤ _; simp; omega) (by omega)).mono ?_
    rintro e w2 ⟨rfl, h2, k2⟩
    rw [Wt.strCells_str] at h2
    have k3 := (Wt.Kept.below hb1 (by omega)).trans k2
    exact ⟨rfl, h2, (hKe _ k3).2, k3⟩
  have HW := Lib.hid KW
  have HIS := Lib.hid hIs
  have HEN := Lib.hid hEn
  have HKE := Lib.hid (fun w' hk => (hKe w' hk).2)
  have HKC := Lib.hid (fun w' hk => (hKe w' hk).1 8)
  obtain ⟨dd, _⟩ := hKe W0 (Wt.Kept.refl _ _ _)
  obtain ⟨k, n, s1, t1, b1, s2, t2, b2, x, raw⟩ := h
  unfold Tr.cells at dd hW0 ⊢
  have q0 := dd 0
  have q1 := dd 1
  have q2 := dd 2
  have q3 := dd 3
  have q4 := dd 4
  have q5 := dd 5
  have q6 := dd 6
  have q7 := dd 7
  have q8 := dd 8
  have HSH := Lib.hid hsh
  have HOWN := Lib.hid hown
  clear KW hIs hEn hKe dd hH hL hW hE hg hf hlen hgl hfl hb0 hsh hown
  simp only at h7 h8 h9 hk11 hx KN
  have hcase : k = 1 ∨ k = 2 ∨ k = 3 ∨ k = 4 ∨ k = 5 ∨ k = 6 ∨ k = 10 ∨ k = 11 := by omega
  clear h7 h8 h9 hk11
  rcases hcase with rfl | rfl | rfl | rfl | rfl | rfl | rfl | rfl
  · clear KN
    go_enter Tryz.func131, Tryz.ntmps131
    go_wp2_with fail
    refine (HW.out _ (Below.refl _ _) _ [40, 41] rfl (by decide)).mono ?_
    rintro e w2 ⟨rfl, h2, k2, k3⟩
    go_wp2_with fail
    go_end0
    exact ⟨rfl, h2, k2⟩
  · clear KN
    have hn : n = 0 ∨ n = 1 := by
      have := HOWN.out
      simp [Tr.own] at this
      exact this.1
    have HBD : Hid (∀ o, Below W0.heap.size W0 (W0.alloc o).drew) := Lib.hid (fun o => Below.drew ((Below.refl _ _).alloc (Nat.le_refl _) o))
    have hq : ∀ o, (W0.alloc o).drew.cell? ⟨w.heap.size, 1, none⟩ = some (.int .i64 n) := fun o => by
      have hlt := World.block_lt_of_cell? W0 _ q1
      have := (HBD.out o).cell (p := ⟨w.heap.size, 1, none⟩) hlt
      rw [this]
      exact q1
    rcases hn with rfl | rfl
    · go_enter Tryz.func131, Tryz.ntmps131
      go_wp2_with fail
      go_region_with (go_at_call 43; refine (HW.out _ (HBD.out _) _ [35, 102] rfl (by decide)).mono ?_; rintro e w2 ⟨rfl, h2, k2, k3⟩)
      all_goals
        go_wp2_with fail
        go_end0
        exact ⟨rfl, h2, k2⟩
    · go_enter Tryz.func131, Tryz.ntmps131
      go_wp2_with fail
      go_region_with (go_at_call 43; refine (HW.out _ (HBD.out _) _ [35, 116] rfl (by decide)).mono ?_; rintro e w2 ⟨rfl, h2, k2, k3⟩)
      all_goals
        go_wp2_with fail
        go_end0
        exact ⟨rfl, h2, k2⟩
  · have KT := Lib.hid (KN rfl)
    clear KN
    have hnl := Wt.num_len HSH.out rfl
    obtain ⟨N, hN⟩ : ∃ z, Wt.num ⟨3, n, s1, t1, b1, s2, t2, b2, x, raw⟩ = z := ⟨_, rfl⟩
    rw [hN] at KT hnl
    have HN := Lib.hid hN
    clear hN
    go_enter Tryz.func131, Tryz.ntmps131
    go_wp2_with fail
    refine KT.out.mono ?_
    rintro e w1 ⟨rfl, hb1⟩
    go_wp2_with fail
    refine (HW.out _ hb1 _ N rfl (by omega)).mono ?_
    rintro e w2 ⟨rfl, h2, k2, k3⟩
    go_wp2_with fail
    go_end0
    refine ⟨rfl, ?_, k2⟩
    rw [← HN.out] at h2
    exact h2
  · clear KN
    have hok := Wt.shape_char HSH.out rfl
    have hok : Ru.okR n := hok
    obtain ⟨r, rfl⟩ := Int.eq_ofNat_of_zero_le (a := n) (by unfold Ru.okR at hok; omega)
    have hwr : IntKind.i32.wrap (r : Int) = r := by rw [IntKind.wrap_i32]; unfold Ru.okR at hok; omega
    have KC := Lib.hid (Wt.char_any B b m bs r W0 HIS.out HEN.out.bits hok (by omega))
    clear hok
    go_enter Tryz.func131, Tryz.ntmps131
    go_wp2_with fail
    refine KC.out.mono ?_
    rintro e w2 ⟨rfl, h2, k2⟩
    go_wp2_with fail
    go_end0
    exact ⟨rfl, h2, HKE.out _ k2⟩
  · clear KN
    have KC := Lib.hid (Wt.text_any B b m bs x W0 HIS.out HEN.out.bits HEN.out.lt.1 hx hlen2)
    go_enter Tryz.func131, Tryz.ntmps131
    go_wp2_with fail
    refine KC.out.mono ?_
    rintro e w2 ⟨rfl, h2, k2⟩
    go_wp2_with fail
    go_end0
    exact ⟨rfl, h2, HKE.out _ k2⟩
  · clear KN
    have KC := Lib.hid (Wt.symbol_any B b m bs x W0 HIS.out HEN.out.bits HEN.out.lt.1 hx hlen2)
    go_enter Tryz.func131, Tryz.ntmps131
    go_wp2_with fail
    refine KC.out.mono ?_
    rintro e w2 ⟨rfl, h2, k2⟩
    go_wp2_with fail
    go_end0
    exact ⟨rfl, h2, HKE.out _ k2⟩
  · clear KN
    go_enter Tryz.func131, Tryz.ntmps131
    go_wp2_with fail
    refine (HW.out _ (Below.refl _ _) _ [35, 60, 118, 111, 105, 100, 62] rfl (by decide)).mono ?_
    rintro e w2 ⟨rfl, h2, k2, k3⟩
    go_wp2_with fail
    go_end0
    exact ⟨rfl, h2, k2⟩
  · clear KN
    have hz1 : (9223372036854775807 < 2 + x.size) = False := eq_false (by omega)
    have hz2 : (9223372036854775807 < 2 + x.size + 1) = False := eq_false (by omega)
    have hxe : (⟨#[35, 60]⟩ ++ x ++ ⟨#[62]⟩ : ByteArray) = ⟨([35, 60] ++ (x.data.toList ++ [62])).toArray⟩ := by
      apply ByteArray.ext
      first | (simp; done) | (simp; apply Array.ext'; simp)
    have hxl : ([35, 60] ++ (x.data.toList ++ [62]) : List UInt8).length ≤ 16777216 := by
      have : x.data.toList.length = x.size := Array.length_toList
      simp only [List.length_append, List.length_cons, List.length_nil]
      omega
    have HX := Lib.hid (And.intro hxe hxl)
    clear hxe hxl
    go_enter Tryz.func131, Tryz.ntmps131
    go_wp2_with fail
    go_region_held3 (fun w' => w'.cell? ⟨w.heap.size, 8, none⟩ = some (.string x))
      (first | exact q8 | exact hkeep)
      (first
        | (go_at_call 43
           refine (HW.out _ (Below.drew (Below.refl _ _)) _ _ HX.out.1 HX.out.2).mono ?_
           rintro e w2 ⟨rfl, h2, k2, k3⟩
           have hkeep : w2.cell? ⟨w.heap.size, 8, none⟩ = some (.string x) := HKC.out _ k3))
    go_wp2_with fail
    go_end0
    exact ⟨rfl, h2, k2⟩

/-- What the writer's pair does of a pair. -/
def Wt.PSays (m : Bool) (t : Tr) : Prop := ∀ (B b : Nat) (bs : List Value) (C : Array Value) (w : World), Wr.Is B b m bs w → Tr.In w (fun q => q < B) t (.agg C) → Wt.Env B w → Tr.good t → Wt.fit t → bs.length + 16777216 * Tr.size t ≤ 140737488355328 →
  Calls Tryz.prog 151 #[.pointer (some ⟨b, 0, none⟩), .agg C] w fun e w' => e = .returned (.tuple #[]) ∧ (Wr.At B b (.pointer (some ⟨b, 0, none⟩)) m (bs ++ Lib.byteCells (Wt.tell m t)) w' ∧ Wt.Kept B b w w')
/-- What holds at each round of the list's loop: the rest lies in block q. -/
structure Wt.PairRel (m : Bool) (B b q : Nat) (bs : List Value) (full : List UInt8) (N : Nat) (w : World) (hu : Tr.Hd) (lu : List Tr) (u3 u4 u6 u7 u9 u10 : Value) (acc : List UInt8) (wr : World) : Prop where
  box : wr.heap[q]? = some (.cells (Tr.cells hu u3 u4 u6 u7 u9 u10) 37 (0, 0))
  in_ : Tr.In wr (fun q => q < B) (.mk hu lu) (.agg (Tr.cells hu u3 u4 u6 u7 u9 u10))
  at_ : Wr.At B b (.pointer (some ⟨b, 0, none⟩)) m (bs ++ Lib.byteCells acc) wr
  kept : Wt.Kept B b w wr
  good : Tr.good (.mk hu lu)
  fit : Wt.fit (.mk hu lu)
  says : acc ++ (Wt.tail m (.mk hu lu) ++ [41]) = full
  len : acc.length + 16777216 * Tr.size (.mk hu lu) + 8 ≤ N
theorem Wt.in_kept {B b : Nat} {w w' : World} {t : Tr} {v : Value} (h : Tr.In w (fun q => q < B) t v) (hk : Wt.Kept B b w w') : Tr.In w' (fun q => q < B) t v :=
  Tr.In.kept ⟨hk.size, fun q hq _ => hk.1.block q hq⟩ t v h
theorem Wt.mem_kept {B b : Nat} {w w' : World} {bb off : Nat} {C : Array Value} (h : Tr.Mem w bb off C) (hS : bb < B) (hk : Wt.Kept B b w w') : Tr.Mem w' bb off C := fun j hj => by
  obtain ⟨u, h1, h2⟩ := h j hj
  exact ⟨u, h1, (hk.1.cell (p := ⟨bb, off + j, none⟩) hS).trans h2⟩
/-- A pair's two data in memory. -/
theorem Wt.two {B : Nat} {w : World} {h : Tr.Hd} {l : List Tr} {C : Array Value} (hI : Tr.In w (fun q => q < B) (.mk h l) (.agg C)) (hg : Tr.good (.mk h l)) (hk : h.k = 8) :
    ∃ (a r : Tr) (bb off cap : Nat) (v3 v4 v6 v7 v9 : Value) (Ca Cr : Array Value), l = [a, r] ∧ C = Tr.cells h v3 v4 v6 v7 v9 (.slice (some ⟨bb, off, none⟩) 2 cap) ∧ bb < B ∧ 2 ≤ cap ∧
      Tr.In w (fun q => q < B) a (.agg Ca) ∧ Tr.Mem w bb off Ca ∧ Tr.In w (fun q => q < B) r (.agg Cr) ∧ Tr.Mem w bb (off + 11) Cr := by
  have hl := Tr.Hd.shape_pair (Tr.good_mk.1 hg).1 hk
  match l, hl, hI with
  | [a, r], _, hI =>
    rw [Tr.In_mk] at hI
    obtain ⟨v3, v4, v6, v7, v9, v10, e, hH, hL⟩ := hI
    obtain ⟨p10, d10, rfl, hcap, _⟩ := Tr.Sl.slice hL
    obtain ⟨bb, off, e2, _, _, _, _, hSb, hall⟩ := Tr.Sl.at hL (by simp)
    obtain ⟨Ca, h1, h2⟩ := Tr.All.at _ _ _ hall 0 a rfl
    obtain ⟨Cr, h3, h4⟩ := Tr.All.at _ _ _ hall 1 r rfl
    rw [Nat.mul_zero, Nat.add_zero] at h2
    rw [Nat.mul_one] at h4
    subst e2
    exact ⟨a, r, bb, off, d10, v3, v4, v6, v7, v9, Ca, Cr, rfl, by injection e, hSb, hcap, h1, h2, h3, h4⟩
theorem Wt.own_hd {B : Nat} {w : World} {h : Tr.Hd} {l : List Tr} {C : Array Value} (hI : Tr.In w (fun q => q < B) (.mk h l) (.agg C)) : ∃ v3 v4 v6 v7 v9 v10, C = Tr.cells h v3 v4 v6 v7 v9 v10 := by
  rw [Tr.In_mk] at hI
  obtain ⟨v3, v4, v6, v7, v9, v10, e, _⟩ := hI
  exact ⟨v3, v4, v6, v7, v9, v10, by injection e⟩
/-- The next datum of a list. -/
theorem Wt.PairRel.next {m : Bool} {B b q : Nat} {bs : List Value} {full : List UInt8} {N : Nat} {w : World} {hu : Tr.Hd} {x : Tr} {hy : Tr.Hd} {ly : List Tr} {u3 u4 u6 u7 u9 u10 y3 y4 y6 y7 y9 y10 : Value} {acc : List UInt8} {wr w1 w2 : World}
    (h : Wt.PairRel m B b q bs full N w hu [x, .mk hy ly] u3 u4 u6 u7 u9 u10 acc wr) (hk : hu.k = 8)
    (hI : Tr.In w1 (fun q => q < B) (.mk hy ly) (.agg (Tr.cells hy y3 y4 y6 y7 y9 y10)))
    (h1 : Wr.At B b (.pointer (some ⟨b, 0, none⟩)) m (bs ++ Lib.byteCells (acc ++ (32 :: Wt.tell m x))) w1) (k1 : Wt.Kept B b wr w1) (hq : w.heap.size ≤ q) (hB : B ≤ b) (hb : b < w.heap.size)
    (hw2 : w2.heap[q]? = some (.cells (Tr.cells hy y3 y4 y6 y7 y9 y10) 37 (0, 0))) (hz2 : w2.heap.size = w1.heap.size) (ho2 : ∀ i, i ≠ q → w2.heap[i]? = w1.heap[i]?) (hbl : Below B w1 w2) :
    Wt.PairRel m B b q bs full N w hy ly y3 y4 y6 y7 y9 y10 (acc ++ (32 :: Wt.tell m x)) w2 := by
  have g1 := Tr.goodL_cons.1 (Tr.good_mk.1 h.good).2
  have f1 := Wt.fitL_cons.1 (Wt.fit_mk.1 h.fit).2
  have hkw := h.kept.trans k1
  have hkw2 : Wt.Kept B b w w2 := ⟨hkw.1.trans hbl, fun i o hi hib ho => by
    have hlt := (Array.getElem?_eq_some_iff.1 hi).1
    rw [ho2 i (by omega)]
    exact hkw.2 i o hi hib ho⟩
  refine ⟨hw2, Tr.In.kept ⟨by omega, fun i hi _ => ho2 i (by omega)⟩ _ _ hI, ?_, hkw2, (Tr.goodL_cons.1 g1.2).1, (Wt.fitL_cons.1 f1.2).1, ?_, ?_⟩
  · obtain ⟨hB2, v, hv, hown, hne⟩ := h1
    refine ⟨hB2, v, (ho2 b (by omega)).trans hv, ⟨hown.1, ?_⟩, hne⟩
    rcases hown.2 with hn | ⟨g, cap, cur, fz, hv2, hbg, hg, rest⟩
    · exact .inl hn
    · refine .inr ⟨g, cap, cur, fz, hv2, hbg, ?_, rest⟩
      rw [ho2 g ?_]
      · exact hg
      · intro e
        have hb3 := k1.box h.box (by omega) (by decide)
        rw [← e, hg] at hb3
        simp at hb3
  · rw [← h.says, Wt.tail_pair hk]
    simp
  · have h2 := h.len
    rw [Tr.size_mk, Tr.sizeL_cons, Tr.sizeL_cons, Tr.sizeL_nil] at h2
    have h3 := (Wt.small m x g1.1 f1.1).1
    simp only [List.length_append, List.length_cons]
    omega
/-- The condition of a quotation, as the walk meets it. -/
theorem Wt.noQuote {a r : Tr} (h : (Wt.isQ a && Wt.isOne r) = false) (hg : Tr.good r) : (a.hd.k == 6) = false ∨ ((a.hd.k == 6) = true ∧ (a.hd.x.toList == [113, 117, 111, 116, 101]) = false) ∨ ((a.hd.k == 6) = true ∧ (a.hd.x.toList == [113, 117, 111, 116, 101]) = true ∧ (r.hd.k == 8) = false) ∨
    ((a.hd.k == 6) = true ∧ (a.hd.x.toList == [113, 117, 111, 116, 101]) = true ∧ (r.hd.k == 8) = true ∧ ∃ b c, r.li = [b, c] ∧ (c.hd.k == 1) = false) := by
  obtain ⟨ha, la⟩ := a
  obtain ⟨hr, lr⟩ := r
  simp only [Tr.hd, Tr.li]
  cases q1 : (ha.k == 6)
  · exact .inl rfl
  cases q2 : (ha.x.toList == [113, 117, 111, 116, 101])
  · exact .inr (.inl ⟨rfl, rfl⟩)
  cases q3 : (hr.k == 8)
  · exact .inr (.inr (.inl ⟨rfl, rfl, rfl⟩))
  · have hk : hr.k = 8 := by simpa using q3
    have hl := Tr.Hd.shape_pair (Tr.good_mk.1 hg).1 hk
    match lr, hl with
    | [b, .mk hc lc], _ =>
      refine .inr (.inr (.inr ⟨rfl, rfl, rfl, b, _, rfl, ?_⟩))
      have hq : Wt.isQ (.mk ha la) = true := by
        unfold Wt.isQ
        have h1 : ha.k = 6 := by simpa using q1
        have h2 : ha.x.toList = [113, 117, 111, 116, 101] := by simpa using q2
        rw [ByteArray.toList_eq] at h2
        simp [h1, h2]
      rw [hq, Bool.true_and] at h
      unfold Wt.isOne at h
      simp only [hk, decide_true, Bool.true_and] at h
      show (hc.k == 1) = false
      rw [beq_eq_false_iff_ne]
      simpa using h
set_option maxHeartbeats 8000000 in
set_option maxRecDepth 1000000 in
theorem Wt.pair_list (m : Bool) (h : Tr.Hd) (a r : Tr) (h8 : h.k = 8) (hq : (Wt.isQ a && Wt.isOne r) = false) (IH : ∀ u, Tr.size u < Tr.size (.mk h [a, r]) → Wt.Says m u) : Wt.PSays m (.mk h [a, r]) := by
  intro B b bs C w hW hI hE hg hf hlen
  obtain ⟨a', r', bL, oL, cap, v3, v4, v6, v7, v9, Ca, Cr, e1, eC, hbB, hcap, hIa, hMa, hIr, hMr⟩ := Wt.two hI hg h8
  simp only [List.cons.injEq, and_true] at e1
  obtain ⟨rfl, rfl⟩ := e1
  obtain ⟨hBb, hblt⟩ := hW.blk
  have g1 := Tr.goodL_cons.1 (Tr.good_mk.1 hg).2
  have g2 := (Tr.goodL_cons.1 g1.2).1
  have f1 := Wt.fitL_cons.1 (Wt.fit_mk.1 hf).2
  have f2 := (Wt.fitL_cons.1 f1.2).1
  have hsz : Tr.size (.mk h [a, r]) = 1 + (Tr.size a + Tr.size r) := by rw [Tr.size_mk, Tr.sizeL_cons, Tr.sizeL_cons, Tr.sizeL_nil]; omega
  have hno := Wt.noQuote hq g2
  rw [Wt.tell_pair h8 hq]
  obtain ⟨ha, la, aa3, aa4, aa6, aa7, aa9, aa10, na3, na4, na6, na7, na9, na10, ca3, ca4, ca6, ca7, ca9, ca10, eCa, eat, _, _⟩ := Tr.In.form2 hIa
  subst eCa
  obtain ⟨hr, lr, ar3, ar4, ar6, ar7, ar9, ar10, nr3, nr4, nr6, nr7, nr9, nr10, cr3, cr4, cr6, cr7, cr9, cr10, eCr, ert, _, _⟩ := Tr.In.form2 hIr
  subst eCr
  subst eat ert
  subst eC
  simp only [Tr.hd, Tr.li] at hno
  rw [hsz] at hlen
  obtain ⟨P, hP⟩ : ∃ z, w.heap.size = z := ⟨_, rfl⟩
  obtain ⟨hIs, hEn, hKe⟩ := Wt.boxed hW hE (Tr.cells h v3 v4 v6 v7 v9 (.slice (some ⟨bL, oL, none⟩) 2 cap))
  obtain ⟨W0, hW0⟩ : ∃ z, w.alloc (.cells (Tr.cells h v3 v4 v6 v7 v9 (.slice (some ⟨bL, oL, none⟩) 2 cap)) 37) = z := ⟨_, rfl⟩
  have hz0 : W0.heap.size = w.heap.size + 1 := by rw [← hW0]; simp
  rw [hW0] at hIs hEn hKe
  obtain ⟨hIs1, hEn1, hKe1⟩ := Wt.boxed hIs hEn (Tr.cells hr (.slice ar3 nr3 cr3) (.slice ar4 nr4 cr4) (.slice ar6 nr6 cr6) (.slice ar7 nr7 cr7) (.slice ar9 nr9 cr9) (.slice ar10 nr10 cr10))
  obtain ⟨W1, hW1⟩ : ∃ z, W0.alloc (.cells (Tr.cells hr (.slice ar3 nr3 cr3) (.slice ar4 nr4 cr4) (.slice ar6 nr6 cr6) (.slice ar7 nr7 cr7) (.slice ar9 nr9 cr9) (.slice ar10 nr10 cr10)) 37) = z := ⟨_, rfl⟩
  have hq1 : W1.heap[W0.heap.size]? = some (.cells (Tr.cells hr (.slice ar3 nr3 cr3) (.slice ar4 nr4 cr4) (.slice ar6 nr6 cr6) (.slice ar7 nr7 cr7) (.slice ar9 nr9 cr9) (.slice ar10 nr10 cr10)) 37 (0, 0)) := by rw [← hW1]; exact heap_alloc_new W0 _
  rw [hW1] at hIs1 hEn1 hKe1
  have k00 := (hKe W0 (Wt.Kept.refl _ _ _)).2
  have k11 := (hKe1 W1 (Wt.Kept.refl _ _ _)).2
  have hz1 := k11.size
  have KALL : ∀ w', Wt.Kept B b W1 w' → (∀ j, w'.cell? ⟨w.heap.size, j, none⟩ = (Tr.cells h v3 v4 v6 v7 v9 (.slice (some ⟨bL, oL, none⟩) 2 cap))[j]?) ∧ w'.heap[W0.heap.size]? = some (.cells (Tr.cells hr (.slice ar3 nr3 cr3) (.slice ar4 nr4 cr4) (.slice ar6 nr6 cr6) (.slice ar7 nr7 cr7) (.slice ar9 nr9 cr9) (.slice ar10 nr10 cr10)) 37 (0, 0)) ∧ Wt.Kept B b w w' := fun w' hk =>
    ⟨(hKe w' (k11.trans hk)).1, hk.box hq1 (by omega) (by decide), (hKe w' (k11.trans hk)).2⟩
  have KA : ∀ w', Wt.Kept B b W1 w' → Tr.Mem w' bL oL (Tr.cells ha (.slice aa3 na3 ca3) (.slice aa4 na4 ca4) (.slice aa6 na6 ca6) (.slice aa7 na7 ca7) (.slice aa9 na9 ca9) (.slice aa10 na10 ca10)) := fun w' hk => Wt.mem_kept hMa hbB (KALL w' hk).2.2
  obtain ⟨r0, r1, r2, r3, r4, r5, r6, r7, r8, r9, r10⟩ := Tr.Mem.cells (Wt.mem_kept hMr hbB k00)
  have KB := Lib.hid (Wt.writeByte B b m bs 40 W1 hIs1 (by omega) (by omega))
  have KREC : ∀ w2, Wt.Kept B b W1 w2 → Wr.At B b (.pointer (some ⟨b, 0, none⟩)) m (bs ++ Lib.byteCells [40]) w2 → _ := fun w2 hk hAt => IH (.mk ha la) (by omega) B b (bs ++ Lib.byteCells [40]) _ w2 hAt.is (Wt.in_kept hIa (KALL w2 hk).2.2) (hE.kept (KALL w2 hk).2.2) g1.1 f1.1 (by rw [List.length_append, Lib.byteCells_length]; simp only [List.length_cons, List.length_nil]; omega)
  have KREL : ∀ w3, Wt.Kept B b W1 w3 → Wr.At B b (.pointer (some ⟨b, 0, none⟩)) m (bs ++ Lib.byteCells (40 :: Wt.tell m (.mk ha la))) w3 → Wt.PairRel m B b W0.heap.size bs (40 :: (Wt.tell m (.mk ha la) ++ (Wt.tail m (.mk hr lr) ++ [41]))) (16777216 * (1 + (Tr.size (.mk ha la) + Tr.size (.mk hr lr)))) w hr lr (.slice ar3 nr3 cr3) (.slice ar4 nr4 cr4) (.slice ar6 nr6 cr6) (.slice ar7 nr7 cr7) (.slice ar9 nr9 cr9) (.slice ar10 nr10 cr10) (40 :: Wt.tell m (.mk ha la)) w3 := fun w3 hk hAt =>
    ⟨(KALL w3 hk).2.1, Wt.in_kept hIr (KALL w3 hk).2.2, hAt, (KALL w3 hk).2.2, g2, f2, by simp, by
      have := (Wt.small m _ g1.1 f1.1).1
      simp only [List.length_cons]
      omega⟩
  have KIH : ∀ u, Tr.size u ≤ Tr.size (.mk hr lr) → Wt.Says m u := fun u hu => IH u (by omega)
  have hno2 : (ha.k == 6) = false ∨ ((ha.k == 6) = true ∧ (ha.x.toList == [113, 117, 111, 116, 101]) = false) ∨ ((ha.k == 6) = true ∧ (ha.x.toList == [113, 117, 111, 116, 101]) = true ∧ (hr.k == 8) = false) ∨
      ((ha.k == 6) = true ∧ (ha.x.toList == [113, 117, 111, 116, 101]) = true ∧ (hr.k == 8) = true ∧ ∃ (bR oR : Nat) (kc : Int), ar10 = some ⟨bR, oR, none⟩ ∧ nr10 = 2 ∧ (2 : Int) ≤ cr10 ∧ W1.cell? ⟨bR, oR + 11, none⟩ = some (.int .i64 kc) ∧ (kc == 1) = false) := by
    rcases hno with h1 | h1 | h1 | ⟨h1, h2, h3, b', c', h4, h5⟩
    · exact .inl h1
    · exact .inr (.inl h1)
    · exact .inr (.inr (.inl h1))
    · have hk8 : hr.k = 8 := by simpa using h3
      obtain ⟨x, y, bR, oR, capR, _, _, _, _, _, Cx, Cy, e1, e2, hbR, hcR, hIx, hMx, hIy, hMy⟩ := Wt.two hIr g2 hk8
      subst e1
      simp only [List.cons.injEq, and_true] at h4
      obtain ⟨rfl, rfl⟩ := h4
      have e3 := congrArg (fun (A : Array Value) => A[10]?) e2
      simp only [Tr.cells] at e3
      simp at e3
      obtain ⟨rfl, rfl, rfl⟩ := e3
      obtain ⟨hy, ly⟩ := y
      obtain ⟨y3, y4, y6, y7, y9, y10, eCy⟩ := Wt.own_hd hIy
      subst eCy
      obtain ⟨c0, _⟩ := Tr.Mem.cells (Wt.mem_kept hMy hbR (k00.trans k11))
      exact .inr (.inr (.inr ⟨h1, h2, h3, bR, oR, hy.k, rfl, rfl, by omega, c0, h5⟩))
  obtain ⟨pc, hpc, _⟩ := KALL W1 (Wt.Kept.refl _ _ _)
  have p10 := pc 10
  have p10a := (hKe W0 (Wt.Kept.refl _ _ _)).1 10
  have hbc := Lib.cell_of_heap hpc
  have d0 := hbc 0
  have d10 := hbc 10
  have ma := KA W1 (Wt.Kept.refl _ _ _)
  obtain ⟨e0, e1, e2, e3, e4, e5, e6, e7, e8, e9, e10⟩ := Tr.Mem.cells ma
  obtain ⟨q, hq0⟩ : ∃ z, W0.heap.size = z := ⟨_, rfl⟩
  rw [hq0] at KALL KREL d0 d10
  have HALL := Lib.hid KALL
  have HA := Lib.hid KA
  have HREC := Lib.hid KREC
  have HREL := Lib.hid KREL
  have HIH := Lib.hid KIH
  have hqw : w.heap.size ≤ q := by omega
  have hcapI : (2 : Int) ≤ cap := by omega
  have HFUL := Lib.hid hlen
  have HK8 := Lib.hid h8
  clear h8
  have hEw := Lib.hid hE
  clear hKe hKe1 hIs hIs1 hEn hEn1 hq1 k00 k11 KALL KA KREC KREL KIH hno hIa hIr hMa hMr hI hq hg hf g1 f1 g2 f2 IH hsz hlen hW hE hz0 hpc hbc ma pc hP
  unfold Tr.cells at p10 p10a hW0 hW1 d0 d10 HA HALL HREC ⊢
  rcases hno2 with h6 | ⟨h6, hx⟩ | ⟨h6, hx, hk8⟩ | ⟨h6, hx, hk8, bR, oR, kc, rfl, rfl, hcR, c0, hkc⟩
  all_goals
    go_enter Tryz.func151, Tryz.ntmps151
    go_wp2_with fail
  all_goals
    refine KB.out.mono ?_
    rintro e w2 ⟨rfl, h2, k2⟩
    clear e0 e1 e2 e3 e4 e5 e6 e7 e8 e9 e10 d0 d10 p10 p10a r0 r1 r2 r3 r4 r5 r6 r7 r8 r9 r10
    obtain ⟨pc, _, _⟩ := HALL.out w2 k2
    have p10 := pc 10
    obtain ⟨e0, e1, e2, e3, e4, e5, e6, e7, e8, e9, e10⟩ := Tr.Mem.cells (HA.out w2 k2)
    have HR2 := Lib.hid (HREC.out w2 k2 h2)
    have HK2 := Lib.hid k2
    clear h2 k2 pc
    go_wp2_with fail
    refine HR2.out.mono ?_
    rintro e w3 ⟨rfl, h3, k3⟩
    rw [Wt.cells_app] at h3
    have H0 := Lib.hid (HREL.out w3 (HK2.out.trans k3) h3)
    clear h3 k3 e0 e1 e2 e3 e4 e5 e6 e7 e8 e9 e10 p10
    go_wp2_with fail
    go_loopg [] (Tr.size (.mk hr lr)) (fun g wr => ∃ (hu : Tr.Hd) (lu : List Tr) (u3 u4 u6 u7 u9 u10 : Value) (acc : List UInt8), Tr.size (.mk hu lu) = g ∧ g ≤ Tr.size (.mk hr lr) ∧ Wt.PairRel m B b q bs (40 :: (Wt.tell m (.mk ha la) ++ (Wt.tail m (.mk hr lr) ++ [41]))) (16777216 * (1 + (Tr.size (.mk ha la) + Tr.size (.mk hr lr)))) w hu lu u3 u4 u6 u7 u9 u10 acc wr)
    case atStart => exact ⟨hr, lr, _, _, _, _, _, _, _, rfl, Nat.le_refl _, H0.out⟩
    case round =>
      obtain ⟨hu, lu, u3, u4, u6, u7, u9, u10, acc, hgk, hgr, hR⟩ := hrel
      have hlo : w.heap.size ≤ wr.heap.size := hR.kept.size
      have hal := hR.len
      have hfl := HFUL.out
      have HIS := hR.at_.is
      have hbl := HIS.blk
      by_cases hu8 : hu.k = 8
      · obtain ⟨x, y, bb, off, cap2, _, _, _, _, _, Cx, Cy, e1, e2, hbb, hc2, hIx, hMx, hIy, hMy⟩ := Wt.two hR.in_ hR.good hu8
        subst e1
        have e3 := congrArg (fun (A : Array Value) => A[10]?) e2
        simp only [Tr.cells] at e3
        simp at e3
        subst e3
        clear e2
        obtain ⟨hx2, lx, ax3, ax4, ax6, ax7, ax9, ax10, nx3, nx4, nx6, nx7, nx9, nx10, cx3, cx4, cx6, cx7, cx9, cx10, eCx, ext, _, _⟩ := Tr.In.form2 hIx
        subst eCx
        obtain ⟨hy, ly, ay3, ay4, ay6, ay7, ay9, ay10, ny3, ny4, ny6, ny7, ny9, ny10, cy3, cy4, cy6, cy7, cy9, cy10, eCy, eyt, _, _⟩ := Tr.In.form2 hIy
        subst eCy
        subst ext eyt
        have hgg := hR.good
        have hff := hR.fit
        have gx := (Tr.goodL_cons.1 (Tr.good_mk.1 hgg).2).1
        have fx := (Wt.fitL_cons.1 (Wt.fit_mk.1 hff).2).1
        have hsu : Tr.size (.mk hu [.mk hx2 lx, .mk hy ly]) = 1 + (Tr.size (.mk hx2 lx) + Tr.size (.mk hy ly)) := by rw [Tr.size_mk, Tr.sizeL_cons, Tr.sizeL_cons, Tr.sizeL_nil]; omega
        rw [hsu] at hal hgk
        have HB := Lib.hid (Wt.writeByte B b m (bs ++ Lib.byteCells acc) 32 wr HIS (by rw [List.length_append, Lib.byteCells_length]; omega) (by omega))
        have hbox := hR.box
        have HBX := Lib.hid (fun (w5 : World) (k5 : Wt.Kept B b wr w5) => k5.box hbox (by omega) (by decide))
        have HMX := Lib.hid (fun (w5 : World) (k5 : Wt.Kept B b wr w5) => Wt.mem_kept hMx hbb k5)
        have HMY := Lib.hid (fun (w5 : World) (k5 : Wt.Kept B b wr w5) => Wt.mem_kept hMy hbb k5)
        have HRX := Lib.hid (fun (w5 : World) (k5 : Wt.Kept B b wr w5) (hAt : Wr.At B b (.pointer (some ⟨b, 0, none⟩)) m (bs ++ Lib.byteCells (acc ++ [32])) w5) =>
          HIH.out (.mk hx2 lx) (by omega) B b (bs ++ Lib.byteCells (acc ++ [32])) _ w5 hAt.is (Wt.in_kept hIx k5) ((hEw.out.kept hR.kept).kept k5) gx fx (by rw [List.length_append, Lib.byteCells_length, List.length_append]; simp only [List.length_cons, List.length_nil]; omega))
        have HNX := Lib.hid (fun (w6 X : World) (k6 : Wt.Kept B b wr w6) => hR.next (q := q) (y3 := .slice ay3 ny3 cy3) (y4 := .slice ay4 ny4 cy4) (y6 := .slice ay6 ny6 cy6) (y7 := .slice ay7 ny7 cy7) (y9 := .slice ay9 ny9 cy9) (y10 := .slice ay10 ny10 cy10) (w1 := w6) (w2 := X) hu8 (Wt.in_kept hIy k6))
        have hbc := Lib.cell_of_heap hbox
        unfold Tr.cells at hbc HBX HMX HMY HRX
        have d0 := hbc 0
        have HG := Lib.hid (And.intro hgk hgr)
        clear hR hIx hMx hIy hMy hbox hbc hgg hff gx fx HIS hsu hal hgk hgr
        go_wp2_with fail
        refine HB.out.mono ?_
        rintro e w5 ⟨rfl, h5, k5⟩
        have h5 : Wr.At B b (.pointer (some ⟨b, 0, none⟩)) m (bs ++ Lib.byteCells (acc ++ [32])) w5 := by rw [← Wt.cells_snoc]; exact h5
        clear d0
        have b10 := Lib.cell_of_heap (HBX.out w5 k5) 10
        obtain ⟨e0, e1, e2, e3, e4, e5, e6, e7, e8, e9, e10⟩ := Tr.Mem.cells (HMX.out w5 k5)
        have HR5 := Lib.hid (HRX.out w5 k5 h5)
        have HK5 := Lib.hid k5
        clear h5 k5
        go_wp2_with fail
        refine HR5.out.mono ?_
        rintro e w6 ⟨rfl, h6, k6⟩
        rw [Wt.cells_app] at h6
        have k56 := HK5.out.trans k6
        have HXB := HBX.out w6 k56
        clear b10 e0 e1 e2 e3 e4 e5 e6 e7 e8 e9 e10
        have b10 := Lib.cell_of_heap HXB 10
        obtain ⟨e0, e1, e2, e3, e4, e5, e6, e7, e8, e9, e10⟩ := Tr.Mem.cells (HMY.out w6 k56)
        have hput := Dt.put11 HXB (.int .i64 hy.k) (.int .i64 hy.n) (.bool hy.s1) (.slice ay3 ny3 cy3) (.slice ay4 ny4 cy4) (.bool hy.s2) (.slice ay6 ny6 cy6) (.slice ay7 ny7 cy7) (.string hy.x) (.slice ay9 ny9 cy9) (.slice ay10 ny10 cy10)
        obtain ⟨X1, X2, X3, X4, X5, X6, X7, X8, X9, X10, X11, ⟨f0, y0, s0, _⟩, ⟨f1, y1, s1, _⟩, ⟨f2, y2, s2, _⟩, ⟨f3, y3, s3, _⟩, ⟨f4, y4, s4, _⟩, ⟨f5, y5, s5, _⟩, ⟨f6, y6, s6, _⟩, ⟨f7, y7, s7, _⟩, ⟨f8, y8, s8, _⟩, ⟨f9, y9, s9, _⟩, ⟨f10, y10, s10, _⟩, hX, hXz, hXo, hXb⟩ := hput
        have HFIN := Lib.hid (HNX.out w6 X11 k56 (by rw [List.append_assoc] at h6; exact h6) k56 hqw hBb hblt hX hXz hXo (hXb B w6 (Below.refl _ _) (by omega)))
        clear HXB h6 k6 k56 hX hXz hXo hXb
        go_wp2_with fail
        go_roundg (Tr.size (.mk hy ly))
        case measure => have := HG.out.1; omega
        case rel => exact ⟨hy, ly, _, _, _, _, _, _, _, rfl, by have := HG.out; omega, HFIN.out⟩
      · have hgg := hR.good
        have hff := hR.fit
        have h8I : (hu.k == 8) = false := beq_eq_false_iff_ne.2 hu8
        have hbox := hR.box
        have hbc := Lib.cell_of_heap hbox
        have hsay := hR.says
        have hin := hR.in_
        have HKW := Lib.hid hR.kept
        have HBX := Lib.hid (fun (w5 : World) (k5 : Wt.Kept B b wr w5) => k5.box hbox (by omega) (by decide))
        have hpos := Tr.size_pos (.mk hu lu)
        by_cases hu1 : hu.k = 1
        · have h1I : (hu.k == 1) = true := by rw [hu1]; rfl
          rw [Wt.tail_nil hu1, List.nil_append] at hsay
          have HSAY := Lib.hid hsay
          have HB := Lib.hid (Wt.writeByte B b m (bs ++ Lib.byteCells acc) 41 wr HIS (by rw [List.length_append, Lib.byteCells_length]; omega) (by omega))
          unfold Tr.cells at hbc
          have d0 := hbc 0
          clear hR hin hbox hbc hgg hff HIS hal hgk hgr hu1 hu8 hsay HBX
          go_wp2_with fail
          refine HB.out.mono ?_
          rintro e w5 ⟨rfl, h5, k5⟩
          go_wp2_with fail
          go_end0
          refine ⟨rfl, ?_, HKW.out.trans k5⟩
          have h3 := Wt.cells_snoc bs acc 41
          rw [HSAY.out] at h3
          rw [← h3]
          exact h5
        · have h1I : (hu.k == 1) = false := beq_eq_false_iff_ne.2 hu1
          rw [Wt.tail_atom hu8 hu1] at hsay
          have HSAY := Lib.hid hsay
          have htl := (Wt.small m _ hgg hff).1
          have HS := Lib.hid (Wt.writeString B b m (bs ++ Lib.byteCells acc) ⟨#[32, 46, 32]⟩ wr HIS (by rw [List.length_append, Lib.byteCells_length]; show _ + 3 ≤ _; omega) (by omega))
          have HRX := Lib.hid (fun (w5 : World) (k5 : Wt.Kept B b wr w5) (hAt : Wr.At B b (.pointer (some ⟨b, 0, none⟩)) m (bs ++ Lib.byteCells (acc ++ [32, 46, 32])) w5) =>
            HIH.out (.mk hu lu) (by omega) B b (bs ++ Lib.byteCells (acc ++ [32, 46, 32])) _ w5 hAt.is (Wt.in_kept hin k5) ((hEw.out.kept hR.kept).kept k5) hgg hff (by rw [List.length_append, Lib.byteCells_length, List.length_append]; simp only [List.length_cons, List.length_nil]; omega))
          have HE := Lib.hid (fun (w6 : World) (h6 : Wr.At B b (.pointer (some ⟨b, 0, none⟩)) m (bs ++ Lib.byteCells (acc ++ [32, 46, 32] ++ Wt.tell m (.mk hu lu))) w6) (hB6 : B ≤ w6.heap.size) =>
            Wt.writeByte B b m (bs ++ Lib.byteCells (acc ++ [32, 46, 32] ++ Wt.tell m (.mk hu lu))) 41 w6 h6.is (by rw [List.length_append, Lib.byteCells_length, List.length_append, List.length_append]; simp only [List.length_cons, List.length_nil]; omega) hB6)
          unfold Tr.cells at hbc HBX HRX
          have d0 := hbc 0
          have hBw : B ≤ wr.heap.size := by omega
          clear hR hin hbox hbc hgg hff HIS hal hgk hgr hu1 hu8 hsay htl
          go_wp2_with fail
          refine HS.out.mono ?_
          rintro e w5 ⟨rfl, h5, k5⟩
          rw [Wt.strCells, Wt.cells_app] at h5
          obtain ⟨b0, b1, b2, b3, b4, b5, b6, b7, b8, b9, b10⟩ := Dt.cells11 (HBX.out w5 k5)
          have HR5 := Lib.hid (HRX.out w5 k5 h5)
          have HK5 := Lib.hid k5
          clear h5 k5 d0
          go_wp2_with fail
          refine HR5.out.mono ?_
          rintro e w6 ⟨rfl, h6, k6⟩
          rw [Wt.cells_app] at h6
          have HE6 := Lib.hid (HE.out w6 h6 (Nat.le_trans hBw (HK5.out.trans k6).size))
          have HK6 := Lib.hid (HK5.out.trans k6)
          clear h6 k6 b0 b1 b2 b3 b4 b5 b6 b7 b8 b9 b10
          go_wp2_with fail
          refine HE6.out.mono ?_
          rintro e w7 ⟨rfl, h7, k7⟩
          go_wp2_with fail
          go_end0
          refine ⟨rfl, ?_, HKW.out.trans (HK6.out.trans k7)⟩
          have h3 := Wt.cells_snoc bs (acc ++ [32, 46, 32] ++ Wt.tell m (.mk hu lu)) 41
          rw [show acc ++ [32, 46, 32] ++ Wt.tell m (.mk hu lu) ++ [41] = 40 :: (Wt.tell m (.mk ha la) ++ (Wt.tail m (.mk hr lr) ++ [41])) by rw [← HSAY.out]; simp] at h3
          rw [← h3]
          exact h7

/-- What holds at each round of the vector's loop. -/
structure Wt.VecRel (B b : Nat) (m : Bool) (bs : List Value) (l : List Tr) (W0 : World) (k : Nat) (acc : List UInt8) (wr : World) : Prop where
  at_ : Wr.At B b (.pointer (some ⟨b, 0, none⟩)) m (bs ++ Lib.byteCells acc) wr
  kept : Wt.Kept B b W0 wr
  le : k ≤ l.length
  says : acc ++ (Wt.row m (k == 0) (l.drop k) ++ [41]) = [35, 40] ++ (Wt.row m true l ++ [41])
  len : acc.length + 16777216 * Tr.sizeL (l.drop k) ≤ 16777216 * Tr.sizeL l + 2
theorem Wt.VecRel.next {B b : Nat} {m : Bool} {bs : List Value} {l : List Tr} {W0 : World} {k : Nat} {acc : List UInt8} {wr w1 : World} (h : Wt.VecRel B b m bs l W0 k acc wr) {t : Tr} (ht : l[k]? = some t) (hg : Tr.good t) (hf : Wt.fit t)
    (h1 : Wr.At B b (.pointer (some ⟨b, 0, none⟩)) m (bs ++ Lib.byteCells (acc ++ ((if k = 0 then [] else [32]) ++ Wt.tell m t))) w1) (k1 : Wt.Kept B b wr w1) :
    Wt.VecRel B b m bs l W0 (k + 1) (acc ++ ((if k = 0 then [] else [32]) ++ Wt.tell m t)) w1 := by
  have hd : l.drop k = t :: l.drop (k + 1) := by
    obtain ⟨h2, h3⟩ := List.getElem?_eq_some_iff.1 ht
    rw [List.drop_eq_getElem_cons h2, h3]
  have hk : k < l.length := (List.getElem?_eq_some_iff.1 ht).1
  refine ⟨h1, h.kept.trans k1, hk, ?_, ?_⟩
  · rw [← h.says, hd, Wt.row_cons]
    by_cases h0 : k = 0 <;> simp [h0]
  · have h2 := h.len
    rw [hd, Tr.sizeL_cons] at h2
    have h3 := (Wt.small m t hg hf).1
    have : (if k = 0 then ([] : List UInt8) else [32]).length ≤ 1 := by split <;> simp
    simp only [List.length_append]
    omega
set_option maxHeartbeats 4000000 in
set_option maxRecDepth 1000000 in
theorem Wt.datum_vec (m : Bool) (h : Tr.Hd) (l : List Tr) (h9 : h.k = 9) (IH : ∀ u, Tr.size u < Tr.size (.mk h l) → Wt.Says m u) : Wt.Says m (.mk h l) := by
  intro B b bs C w hW hI hE hg hf hlen
  obtain ⟨hsh, hgl⟩ := Tr.good_mk.1 hg
  obtain ⟨⟨hx, hr⟩, hfl⟩ := Wt.fit_mk.1 hf
  rw [Wt.tell_atom (by omega)]
  rw [Tr.size_mk] at hlen
  obtain ⟨hBb, hblt⟩ := hW.blk
  rw [Tr.In_mk] at hI
  obtain ⟨v3, v4, v6, v7, v9, v10, e, hH, hL⟩ := hI
  cases e
  obtain ⟨W0, hW0⟩ : ∃ z, w.alloc (.cells (Tr.cells h v3 v4 v6 v7 v9 v10) 37) = z := ⟨_, rfl⟩
  have hb0 : Below w.heap.size w W0 := by rw [← hW0]; exact (Below.refl _ _).alloc (Nat.le_refl _) _
  obtain ⟨hIs, hEn, hKe⟩ := Wt.boxed hW hE (Tr.cells h v3 v4 v6 v7 v9 v10)
  rw [hW0] at hIs hEn hKe
  have hz0 := hb0.size
  obtain ⟨p10, d10, rfl, hcap10, hmax10⟩ := Tr.Sl.slice hL
  have hlen10 : l.length ≤ 9223372036854775807 := by
    rcases hmax10 with h0 | h0 <;> omega
  have hdata : ∀ k t, l[k]? = some t → ∃ (bb off : Nat) (C : Array Value), p10 = some ⟨bb, off, none⟩ ∧ ∀ wr, Wt.Kept B b W0 wr → Tr.In wr (fun q => q < B) t (.agg C) ∧ Tr.Mem wr bb (off + k * 11) C := by
    intro k t ht
    have hk := (List.getElem?_eq_some_iff.1 ht).1
    obtain ⟨bb, off, e, _, _, _, hblt, hSb, hall⟩ := Tr.Sl.at hL (by omega)
    obtain ⟨Ck, hIk, hMk⟩ := Tr.All.at _ _ _ hall k t ht
    rw [Nat.mul_comm 11 k] at hMk
    refine ⟨bb, off, Ck, e, fun wr hkw => ?_⟩
    have hkp : Tr.Kept (fun q => q < B) w wr := ⟨Nat.le_trans hz0 hkw.size, fun q hq hl => (hkw.1.block q hq).trans (hb0.block q hl)⟩
    exact ⟨Tr.In.kept hkp t _ hIk, hMk.kept hkp hSb hblt⟩
  have K5 := Lib.hid (Wt.writeString B b m bs ⟨#[35, 40]⟩ W0 hIs (by show _ + 2 ≤ _; omega) (by omega))
  obtain ⟨dd, _⟩ := hKe W0 (Wt.Kept.refl _ _ _)
  have q0 := dd 0
  have HDATA := Lib.hid hdata
  have HKE := Lib.hid hKe
  have HEN := Lib.hid hEn
  have HIH : Hid (∀ k t, l[k]? = some t → Wt.Says m t ∧ Tr.good t ∧ Wt.fit t ∧ Tr.size t ≤ Tr.sizeL (l.drop k)) := Lib.hid (fun k t ht => by
    refine ⟨IH t (Tr.size_lt (t := .mk h l) ht), Tr.goodL_at l hgl k t ht, Wt.fitL_at hfl ht, ?_⟩
    have hd : l.drop k = t :: l.drop (k + 1) := by
      obtain ⟨h2, h3⟩ := List.getElem?_eq_some_iff.1 ht
      rw [List.drop_eq_getElem_cons h2, h3]
    rw [hd, Tr.sizeL_cons]
    omega)
  have HGET : Hid (∀ k, k < l.length → ∃ t, l[k]? = some t) := Lib.hid (fun k hk => ⟨_, List.getElem?_eq_getElem hk⟩)
  obtain ⟨k, n, s1, t1, b1, s2, t2, b2, x, raw⟩ := h
  simp only at h9
  subst h9
  unfold Tr.cells at q0 HKE hW0 ⊢
  obtain ⟨L, hL2⟩ : ∃ z, z = l.length := ⟨_, rfl⟩
  rw [← hL2] at q0 HKE hW0 HGET hcap10 hlen10 ⊢
  have HLL := Lib.hid hL2
  clear dd hdata hKe hIs hEn hH hL hL2 hW hE hg hf hfl hgl hsh hb0 hmax10 IH
  go_enter Tryz.func131, Tryz.ntmps131
  go_wp2_with fail
  refine K5.out.mono ?_
  rintro e w1 ⟨rfl, h1, k1⟩
  obtain ⟨dd1, kw1⟩ := HKE.out _ k1
  have q10 := dd1 10
  have H0 : Wt.VecRel B b m bs l W0 0 [35, 40] w1 := ⟨h1, k1, Nat.zero_le _, rfl, by simp; omega⟩
  clear h1 dd1 q0
  go_wp2_with fail
  go_loopw [115] (fun i wr => ∃ (k : Nat) (acc : List UInt8), i = .int .i64 k ∧ Wt.VecRel B b m bs l W0 k acc wr) (fun i _ => L - (intOf i).toNat)
  case atStart => exact ⟨0, _, rfl, H0⟩
  case round =>
    obtain ⟨k, acc, rfl, hR⟩ := hrel
    clear H0 q10
    have hle := hR.le
    rw [← HLL.out] at hle
    have hal := hR.len
    have hbW := Wr.At.is hR.at_ |>.blk
    by_cases hk : k < L
    · obtain ⟨t, ht⟩ := HGET.out k hk
      obtain ⟨bb, off, C, rfl, hel⟩ := HDATA.out k t ht
      obtain ⟨hS, hgt, hft, hst⟩ := HIH.out k t ht
      have hIk := (hel wr hR.kept).1
      obtain ⟨he, le, ab3, ab4, ab6, ab7, ab9, ab10, nb3, nb4, nb6, nb7, nb9, nb10, cb3, cb4, cb6, cb7, cb9, cb10, eCb, ebt, hbH, hbL⟩ := Tr.In.form2 hIk
      subst eCb
      clear ebt hbH hbL hIk
      have hM := (hel wr hR.kept).2
      unfold Tr.cells at hM hel
      obtain ⟨e0, e1, e2, e3, e4, e5, e6, e7, e8, e9, e10⟩ := Tr.Mem.cells hM
      clear hM
      have hEW := HEN.out.kept hR.kept
      have HREC := Lib.hid (fun (w5 : World) (k5 : Wt.Kept B b wr w5) (ac : List UInt8) (hAt : Wr.At B b (.pointer (some ⟨b, 0, none⟩)) m (bs ++ Lib.byteCells ac) w5) (hac : ac.length ≤ acc.length + 1) =>
        hS B b (bs ++ Lib.byteCells ac) _ w5 hAt.is (hel w5 (hR.kept.trans k5)).1 (hEW.kept k5) hgt hft (by rw [List.length_append, Lib.byteCells_length]; omega))
      have HN := Lib.hid (fun w2 => hR.next (w1 := w2) ht hgt hft)
      have HAT := Lib.hid hR.at_
      have HKA := Lib.hid (fun o => (Wt.Kept.refl B b wr).alloc (by omega) o)
      by_cases hk0 : k = 0
      · subst hk0
        rw [Nat.zero_mul, Nat.add_zero] at e0 e1 e2 e3 e4 e5 e6 e7 e8 e9 e10
        clear hR hel hS
        go_wp2_with fail
        refine (HREC.out _ (HKA.out _) acc (HAT.out.alloc _) (by omega)).mono ?_
        rintro e w3 ⟨rfl, h3, k3⟩
        rw [Wt.cells_app] at h3
        go_wp2_with fail
        go_roundw
        case rel => exact ⟨1, _, by first | rfl | go_num | (simp; try omega), HN.out w3 h3 ((HKA.out _).trans k3)⟩
        case measure => simp [intOf]; omega
      · have hk0I : (0 : Int) < (k : Int) := by omega
        have HB := Lib.hid (fun o => Wt.writeByte B b m (bs ++ Lib.byteCells acc) 32 (wr.alloc o) (HAT.out.alloc o).is (by rw [List.length_append, Lib.byteCells_length]; omega) (by simp; omega))
        clear hR hel hS hle
        go_wp2_with fail
        refine (HB.out _).mono ?_
        rintro e w5 ⟨rfl, h5, k5⟩
        have h5 : Wr.At B b (.pointer (some ⟨b, 0, none⟩)) m (bs ++ Lib.byteCells (acc ++ [32])) w5 := by rw [← Wt.cells_snoc]; exact h5
        have HBX := k5.box (heap_alloc_new wr _) (by omega) (by decide)
        have hc := Lib.cell_of_heap HBX
        have d0 := hc 0
        have d1 := hc 1
        have d2 := hc 2
        have d3 := hc 3
        have d4 := hc 4
        have d5 := hc 5
        have d6 := hc 6
        have d7 := hc 7
        have d8 := hc 8
        have d9 := hc 9
        have d10 := hc 10
        have HREC2 := Lib.hid (HREC.out w5 ((HKA.out _).trans k5) (acc ++ [32]) h5 (by simp))
        have HKK := Lib.hid ((HKA.out _).trans k5)
        clear h5 k5 HBX hc e0 e1 e2 e3 e4 e5 e6 e7 e8 e9 e10
        go_wp2_with fail
        refine HREC2.out.mono ?_
        rintro e w3 ⟨rfl, h3, k3⟩
        rw [Wt.cells_app] at h3
        go_wp2_with fail
        go_roundw
        case rel =>
          refine ⟨k + 1, _, by first | rfl | go_num | (simp; try omega), HN.out w3 ?_ (HKK.out.trans k3)⟩
          rw [if_neg hk0, ← List.append_assoc]
          exact h3
        case measure => simp [intOf]; omega
    · have hkL : k = L := by omega
      have HB := Lib.hid (Wt.writeByte B b m (bs ++ Lib.byteCells acc) 41 wr hR.at_.is (by rw [List.length_append, Lib.byteCells_length]; omega) (by omega))
      have hsay : Hid (acc ++ [41] = [35, 40] ++ (Wt.row m true l ++ [41])) := Lib.hid (by
        rw [← hR.says, List.drop_eq_nil_of_le (by have := HLL.out; omega), Wt.row_nil]
        simp)
      have HKW := Lib.hid (HKE.out _ hR.kept).2
      clear hR hal hle
      go_wp2_with fail
      refine HB.out.mono ?_
      rintro e w2 ⟨rfl, h2, k2⟩
      go_wp2_with fail
      go_end0
      refine ⟨rfl, ?_, HKW.out.trans k2⟩
      have h3 := Wt.cells_snoc bs acc 41
      rw [hsay.out] at h3
      show Wr.At B b _ m (bs ++ Lib.byteCells ([35, 40] ++ (Wt.row m true l ++ [41]))) w2
      rw [← h3]
      exact h2

theorem By.byt_data (s : ByteArray) (j : Nat) (h : j < s.data.size) : Cd.byt s j = (s.data[j].toNat : Int) := by
  unfold Cd.byt
  have : s.get! j = s.data[j] := by
    exact getElem!_pos s.data j h
  rw [this]
end Go.Proofs.YtdjllmogejkimaaGreatDoor
