/-
  datum.Copy of any sound datum.
-/
import Derived.Deep.LoopGhost
import Derived.Test.YtdjllmogejkimaaGreatDoorQf
set_option linter.unusedVariables false
set_option linter.unusedSimpArgs false
namespace Go.Proofs.YtdjllmogejkimaaGreatDoor
open Go.RowKit

/-- What Copy makes of a datum: the same, of its own memory. -/
def Tr.CopySays (t : Tr) : Prop := ∀ (S : Nat → Prop) (C : Array Value) (w : World), Tr.In w S t (.agg C) → Tr.good t → Tr.size t ≤ 1000000 →
  Calls Tryz.prog 21 #[.agg C] w fun e w' => ∃ C', e = .returned (.agg C') ∧ Tr.In w' (fun q => w.heap.size ≤ q) t (.agg C') ∧ Below w.heap.size w w'
theorem Tr.info8 : (Tryz.prog.info? 5).map (fun i => (i.zero, i.size, i.bytes)) = some (some (.int .u8 0), 1, 1) := by kernel_rfl
/-- The state of Copy's loop. -/
structure Tr.CopySt (w : World) (S : Nat → Prop) (t : Tr) (wr : World) (h : Tr.Hd) (l : List Tr) (u3 u4 u6 u7 u9 u10 : Value) (bA oA : Nat) (cur : Array Value) : Prop where
  hd : Tr.Hd.In w S h u3 u4 u6 u7 u9
  li : Tr.LIn w S l u10
  good : Tr.good (.mk h l)
  sz : Tr.size (.mk h l) ≤ Tr.size t
  blk : Tr.Blk wr bA cur
  csz : oA + 11 ≤ cur.size
  mem : ∀ j, j < 11 → cur[oA + j]? = (Tr.cells h u3 u4 u6 u7 u9 u10)[j]?
  hole : Tr.Hole (w.heap.size + 2) wr bA oA (w.heap.size + 2) t (.mk h l)
  low : w.heap.size + 2 ≤ bA
  bel : Below w.heap.size w wr
  res : ∃ cr, Tr.Blk wr (w.heap.size + 1) cr ∧ cr.size = 11
/-- The state behind the copying of a node's number and bytes. -/
def Tr.CopyMid (w : World) (S : Nat → Prop) (t : Tr) (wo wx : World) (h : Tr.Hd) (l : List Tr) (u9 u10 : Value) (bA oA : Nat) : Prop :=
  ∃ (a3 a4 a6 a7 : Option Addr) (n3 n4 n6 n7 c3 c4 c6 c7 : Nat) (cur : Array Value), Tr.Hd.In wx (fun q => w.heap.size + 2 ≤ q ∧ q ≠ bA) h (.slice a3 n3 c3) (.slice a4 n4 c4) (.slice a6 n6 c6) (.slice a7 n7 c7) u9 ∧ Tr.Blk wx bA cur ∧ oA + 11 ≤ cur.size ∧ (∀ j, j < 11 → cur[oA + j]? = (Tr.cells h (.slice a3 n3 c3) (.slice a4 n4 c4) (.slice a6 n6 c6) (.slice a7 n7 c7) u9 u10)[j]?) ∧ Tr.Hole (w.heap.size + 2) wx bA oA (w.heap.size + 2) t (.mk h l) ∧ Below w.heap.size w wx ∧ (∃ cr, Tr.Blk wx (w.heap.size + 1) cr ∧ cr.size = 11)
theorem Tr.In.hd {w : World} {S : Nat → Prop} {h : Tr.Hd} {l : List Tr} {u3 u4 u6 u7 u9 u10 : Value} (h1 : Tr.Hd.In w S h u3 u4 u6 u7 u9) (h2 : Tr.LIn w S l u10) : Tr.In w S (.mk h l) (.agg (Tr.cells h u3 u4 u6 u7 u9 u10)) := by
  rw [Tr.In_mk]; exact ⟨_, _, _, _, _, _, rfl, h1, h2⟩
set_option maxHeartbeats 8000000 in
set_option maxRecDepth 1000000 in
theorem Tr.copy_step (t : Tr) (IH : ∀ u, Tr.size u < Tr.size t → Tr.CopySays u) : Tr.CopySays t := by
  intro S C w hI hgood hsz0
  obtain ⟨hb, lb, a3, a4, a6, a7, a9, a10, n3, n4, n6, n7, n9, n10, c3, c4, c6, c7, c9, c10, eC, et, hH, hL⟩ := Tr.In.form2 hI
  subst eC
  obtain ⟨i8, hi8, hz8, hs8, hy8⟩ := info_parts Tr.info8
  obtain ⟨W2, hW2, q0, q1, q2, hsz, hb0⟩ := Rt.three w (.cells (Tr.cells hb (.slice a3 n3 c3) (.slice a4 n4 c4) (.slice a6 n6 c6) (.slice a7 n7 c7) (.slice a9 n9 c9) (.slice a10 n10 c10)) 37) (.cells #[.int .i64 0, .int .i64 0, .bool false, .slice none 0 0, .slice none 0 0, .bool false, .slice none 0 0, .slice none 0 0, .string ⟨#[]⟩, .slice none 0 0, .slice none 0 0] 37) (.cells (Tr.cells hb (.slice a3 n3 c3) (.slice a4 n4 c4) (.slice a6 n6 c6) (.slice a7 n7 c7) (.slice a9 n9 c9) (.slice a10 n10 c10)) 37)
  have HST : Hid (Tr.CopySt w S t W2 hb lb (.slice a3 n3 c3) (.slice a4 n4 c4) (.slice a6 n6 c6) (.slice a7 n7 c7) (.slice a9 n9 c9) (.slice a10 n10 c10) (w.heap.size + 2) 0 (Tr.cells hb (.slice a3 n3 c3) (.slice a4 n4 c4) (.slice a6 n6 c6) (.slice a7 n7 c7) (.slice a9 n9 c9) (.slice a10 n10 c10))) :=
    Lib.hid ⟨hH, hL, et ▸ hgood, by rw [et]; exact Nat.le_refl _, ⟨_, q2⟩, by rw [Tr.cells_size]; exact Nat.le_refl _, fun j hj => by rw [Nat.zero_add], et ▸ Tr.Hole.start _ _ _ _, Nat.le_refl _, hb0, ⟨_, ⟨_, q1⟩, rfl⟩⟩
  have HIH := Lib.hid IH
  have HT := Lib.hid et
  clear IH hI hgood hH hL q0 q1 q2 hb0 et hsz
  unfold Tr.cells at hW2 ⊢
  go_enter Tryz.func21, Tryz.ntmps21
  go_wp2_with fail
  go_loopg [4] (Tr.size t) (fun g p wr => ∃ h l u3 u4 u6 u7 u9 u10 bA oA cur, Tr.size (.mk h l) = g ∧ p = .pointer (some ⟨bA, oA, none⟩) ∧ Tr.CopySt w S t wr h l u3 u4 u6 u7 u9 u10 bA oA cur)
  case atStart => exact ⟨_, _, _, _, _, _, _, _, _, _, _, by rw [HT.out], rfl, HST.out⟩
  case round =>
    obtain ⟨h, l, u3, u4, u6, u7, u9, u10, bA, oA, cur, hg, rfl, hst⟩ := hrel
    obtain ⟨wo, hwo⟩ : ∃ z, z = wr := ⟨_, rfl⟩
    subst hwo
    clear HST hW2
    obtain ⟨p3, d3, rfl⟩ := hst.hd.i3.slice
    obtain ⟨p4, d4, rfl⟩ := hst.hd.i4.slice
    obtain ⟨p6, d6, rfl⟩ := hst.hd.i6.slice
    obtain ⟨p7, d7, rfl⟩ := hst.hd.i7.slice
    obtain ⟨p9, d9, rfl⟩ := hst.hd.i9.slice
    obtain ⟨p10, d10, rfl, hcap10, _⟩ := hst.li.slice
    have HS := Lib.hid hst
    have HG := Lib.hid hg
    clear hst hg
    have e9 : wo.cell? ⟨bA, oA + 9, none⟩ = some (.slice p9 h.raw.size d9) := (HS.out.blk.cell _).trans (HS.out.mem 9 (by decide))
    have hfz := HS.out.blk.frozen
    go_wp2_with (at_builtin; refine By.wpList_append_bytes rfl _ _ 22 rfl wo.heap.size 5 i8 (.int .u8 0) Tryz.underlying22 hi8 hz8 hs8 hy8 rfl _ 0 [] rfl ⟨rfl, .inl ⟨rfl, rfl⟩⟩ _ h.raw rfl (HS.out.hd.i9.below HS.out.bel (Nat.le_refl _)) ?c2 ?c3 ?c4 ?_)
    case c2 => have := HS.out.hd.ok.r1; unfold maxLen; omega
    case c3 => have := HS.out.hd.ok.r1; omega
    case c4 => exact Nat.le_refl _
    intro v9 w1 hown9 hgr9
    have hown9 : w1.ownsRow wo.heap.size 5 1 v9 h.raw.size (By.vals h.raw) := by first | exact hown9 | simpa using hown9
    have hin9 := By.In.of_own hown9
    have hfr9 := Nt.Fr.own hown9
    have hb1 : Below wo.heap.size wo w1 := (Below.refl _ _).grown hgr9 (Nat.le_refl _) (fun q hq => by simp [Value.ownBlock] at hq)
    obtain ⟨p9b, d9b, rfl⟩ := hin9.slice
    have hblk1 := HS.out.blk.kept (hb1.block bA HS.out.blk.lt)
    obtain ⟨x9, W1, g9, z9, s9, hB1, hz1, ho1, hos1⟩ := hblk1.put (oA + 9) (by have := HS.out.csz; omega) (.slice p9b h.raw.size d9b)
    have hm1 := Tr.mem_set9 HS.out.mem HS.out.csz (.slice p9b h.raw.size d9b)
    have hM1 := hB1.mem hm1 (Tr.cells_size _ _ _ _ _ _ _)
    unfold Tr.cells at hM1
    obtain ⟨k0, k1, k2, k3, k4, k5, k6, k7, k8, k9, k10⟩ := Tr.Mem.cells hM1
    have HM1 := Lib.hid hm1
    clear hm1 hM1
    have HB1 := Lib.hid hB1
    have HO1 := Lib.hid (And.intro hz1 (And.intro ho1 hos1))
    have HIN9 := Lib.hid (And.intro hin9 hfr9)
    have HBEL1 := Lib.hid hb1
    clear hown9 hgr9 hin9 hfr9 hb1 hblk1 hB1 hz1 ho1 hos1 e9 hfz
    go_upto_if 21 with (fail)
    go_cut [] (fun wx => Tr.CopyMid w S t wo wx h l (.slice p9b h.raw.size d9b) (.slice p10 l.length d10) bA oA)
    case first =>
      have HMID : Hid (∀ (wx : World) (a3 a4 a6 a7 : Option Addr) (n3 n4 n6 n7 c3 c4 c6 c7 : Nat) (cur' : Array Value), W1.heap.size ≤ wx.heap.size → (∀ q, q ≠ bA → q < W1.heap.size → wx.heap[q]? = W1.heap[q]?) → Below w.heap.size W1 wx → Tr.Blk wx bA cur' → oA + 11 ≤ cur'.size → (∀ o, o < oA → cur'[o]? = (cur.set! (oA + 9) (.slice p9b h.raw.size d9b))[o]?) →
          (∀ j, j < 11 → cur'[oA + j]? = (Tr.cells h (.slice a3 n3 c3) (.slice a4 n4 c4) (.slice a6 n6 c6) (.slice a7 n7 c7) (.slice p9b h.raw.size d9b) (.slice p10 l.length d10))[j]?) →
          Nt.In wx (.slice a3 n3 c3) h.t1 → Nt.In wx (.slice a4 n4 c4) h.b1 → Nt.In wx (.slice a6 n6 c6) h.t2 → Nt.In wx (.slice a7 n7 c7) h.b2 →
          Tr.On (fun q => w.heap.size + 2 ≤ q ∧ q ≠ bA) (.slice a3 n3 c3) h.t1.length → Tr.On (fun q => w.heap.size + 2 ≤ q ∧ q ≠ bA) (.slice a4 n4 c4) h.b1.length → Tr.On (fun q => w.heap.size + 2 ≤ q ∧ q ≠ bA) (.slice a6 n6 c6) h.t2.length → Tr.On (fun q => w.heap.size + 2 ≤ q ∧ q ≠ bA) (.slice a7 n7 c7) h.b2.length →
          Tr.CopyMid w S t wo wx h l (.slice p9b h.raw.size d9b) (.slice p10 l.length d10) bA oA) := Lib.hid (by
        intro wx a3 a4 a6 a7 n3 n4 n6 n7 c3 c4 c6 c7 cur' hz hk hbel hblk hcs hco hm i3 i4 i6 i7 j3 j4 j6 j7
        have hlt := HS.out.blk.lt
        have hlow := HS.out.low
        have hz1 := HBEL1.out.size
        have hzW := HO1.out.1
        have hw1 := HS.out.bel.size
        have hkx : ∀ q, q ≠ bA → q < w1.heap.size → wx.heap[q]? = w1.heap[q]? := fun q h1 h2 => (hk q h1 (by omega)).trans (HO1.out.2.1 q h1)
        have hkS : Tr.Kept (fun q => wo.heap.size ≤ q) w1 wx := ⟨by omega, fun q h1 h2 => hkx q (by omega) h2⟩
        have ho9 : Tr.On (fun q => wo.heap.size ≤ q) (.slice p9b h.raw.size d9b) h.raw.size := fun _ b off l' c e => HIN9.out.2 b off l' c e
        refine ⟨a3, a4, a6, a7, n3, n4, n6, n7, c3, c4, c6, c7, cur', ⟨HS.out.hd.ok, i3, i4, i6, i7, HIN9.out.1.kept ho9 hkS, j3, j4, j6, j7, ho9.mono (fun q hq => ⟨by omega, by omega⟩)⟩, hblk, hcs, hm, ?_, ?_, ?_⟩
        · refine HS.out.hole.setAt (by omega) (fun q h1 h2 _ => (hkx q h1 (by omega)).trans (HBEL1.out.block q h2)) HS.out.blk hblk (fun o ho => ?_)
          rw [hco o ho, Tr.set_get _ _ _ _ (by have := HS.out.csz; omega), if_neg (by omega)]
        · have b1 : Below w.heap.size w w1 := HS.out.bel.trans (HBEL1.out.mono HS.out.bel.size)
          have b2 : Below w.heap.size w1 W1 := ⟨HO1.out.2.2.1, HO1.out.2.2.2.1, HO1.out.2.2.2.2, by omega, fun q hq => HO1.out.2.1 q (by omega)⟩
          exact (b1.trans b2).trans hbel
        · obtain ⟨cr, hcr, hcrs⟩ := HS.out.res
          have hrl := hcr.lt
          exact ⟨cr, hcr.kept ((hkx _ (by omega) (by omega)).trans (HBEL1.out.block _ hrl)), hcrs⟩)
      have hsh := (Tr.good_mk.1 HS.out.good).1
      by_cases hk3 : h.k = 3
      · have hk3I : (h.k == 3) = true := by simp; exact hk3
        obtain ⟨sd1, sd2⟩ := Tr.num_sound hsh hk3
        obtain ⟨et1, eb1, S1⟩ := Rt.Snd.of HS.out.hd.ok.w1 HS.out.hd.ok.w2 sd1
        obtain ⟨et2, eb2, S2⟩ := Rt.Snd.of HS.out.hd.ok.w3 HS.out.hd.ok.w4 sd2
        have hbw1 : Below w.heap.size w W1 := (HS.out.bel.trans (HBEL1.out.mono HS.out.bel.size)).trans ⟨HO1.out.2.2.1, HO1.out.2.2.2.1, HO1.out.2.2.2.2, by have := HO1.out.1; omega, fun q hq => HO1.out.2.1 q (by have := HS.out.low; omega)⟩
        have HBW1 := Lib.hid hbw1
        have HQ : Hid (∀ w', Below W1.heap.size W1 w' → Rt.Q w' (.agg #[.bool h.s1, .slice p3 h.t1.length d3, .slice p4 h.b1.length d4, .bool h.s2, .slice p6 h.t2.length d6, .slice p7 h.b2.length d7]) h.s1 (Nt.val h.t1) (Nt.val h.b1) h.s2 (Nt.val h.t2) (Nt.val h.b2)) := Lib.hid (fun w' hb => by
          have hb2 := hbw1.trans (hb.mono hbw1.size)
          refine ⟨_, _, _, _, rfl, ?_, ?_, ?_, ?_⟩
          · unfold Nt.N; rw [← et1]; exact HS.out.hd.i3.below hb2 (Nat.le_refl _)
          · unfold Nt.N; rw [← eb1]; exact HS.out.hd.i4.below hb2 (Nat.le_refl _)
          · unfold Nt.N; rw [← et2]; exact HS.out.hd.i6.below hb2 (Nat.le_refl _)
          · unfold Nt.N; rw [← eb2]; exact HS.out.hd.i7.below hb2 (Nat.le_refl _))
        have HE := Lib.hid (And.intro et1 (And.intro eb1 (And.intro et2 eb2)))
        have HSD := Lib.hid (And.intro S1 S2)
        have KI := fun w => Rt.Int_any 0 w (by decide) (by decide)
        have hl0 : (Nt.dig 0).length ≤ 400000 := by rw [Nt.dig_zero]; decide
        have hl1 : (Nt.dig 1).length ≤ 400000 := by rw [Nt.dig_small (by decide) (by decide)]; decide
        have KA := fun v v2 w hh hh2 => Rt.Add_ok h.s1 h.s2 false false (Nt.val h.t1) (Nt.val h.b1) (Nt.val h.t2) (Nt.val h.b2) 0 1 0 1 v v2 w hh hh2 (Rt.SoundAt.of_Q hh S1 S2) (Rt.SoundAt.of_Q hh2 Rt.Snd.nought Rt.Snd.nought) _ _ (Rt.sum_nought S1) (Rt.sum_nought S2) S1.pos S2.pos (by decide) (by decide) ⟨Nat.le_trans S1.l1 (by decide), Nat.le_trans S1.l2 (by decide), hl0, hl1⟩ ⟨Nat.le_trans S2.l1 (by decide), Nat.le_trans S2.l2 (by decide), hl0, hl1⟩ ⟨by rw [Nat.mul_one]; exact Nat.le_trans S1.l2 (by decide), by rw [Nat.mul_one, Nat.zero_mul, Nat.add_zero]; exact Nat.le_trans S1.l1 (by decide)⟩ ⟨by rw [Nat.mul_one]; exact Nat.le_trans S2.l2 (by decide), by rw [Nat.mul_one, Nat.zero_mul, Nat.add_zero]; exact Nat.le_trans S2.l1 (by decide)⟩ ⟨S1.l1, S1.l2, S2.l1, S2.l2⟩
        have hM1 := HB1.out.mem HM1.out (Tr.cells_size _ _ _ _ _ _ _)
        have HQK : Hid (∀ w', Below W1.heap.size W1 w' → (w'.cell? ⟨bA, oA + 2, none⟩ = some (.bool h.s1) ∧ w'.cell? ⟨bA, oA + 2 + 1, none⟩ = some (.slice p3 h.t1.length d3) ∧ w'.cell? ⟨bA, oA + 2 + 2, none⟩ = some (.slice p4 h.b1.length d4) ∧ w'.cell? ⟨bA, oA + 2 + 3, none⟩ = some (.bool h.s2) ∧ w'.cell? ⟨bA, oA + 2 + 4, none⟩ = some (.slice p6 h.t2.length d6) ∧ w'.cell? ⟨bA, oA + 2 + 5, none⟩ = some (.slice p7 h.b2.length d7))) := Lib.hid (fun w' hb => by
          have hc := hM1.kept (Tr.Kept.all (S := fun _ => True) hb (Nat.le_refl _)) trivial HB1.out.lt
          unfold Tr.cells at hc
          obtain ⟨k0, k1, k2, k3, k4, k5, k6, k7, k8, k9, k10⟩ := Tr.Mem.cells hc
          exact ⟨k2, k3, k4, k5, k6, k7⟩)
        have hacc : Below W1.heap.size W1 W1.drew := (Below.refl _ _).drew
        obtain ⟨m2, m3, m4, m5, m6, m7⟩ := HQK.out _ hacc
        clear hM1 S1 S2 et1 et2 eb1 eb2 sd1 sd2 hbw1 hl0 hl1 hsh hk3
        generalize Nt.val h.t1 = T1 at *
        generalize Nt.val h.b1 = B1' at *
        generalize Nt.val h.t2 = T2 at *
        generalize Nt.val h.b2 = B2' at *
        go_wp2_with fail
        go_region_with (first
          | (go_at_call 32
             refine (KI _).mono ?_
             rintro x w5 ⟨v5, rfl, hv5, hb5⟩
             have hacc := hacc.trans (hb5.mono hacc.size)
             obtain ⟨m2, m3, m4, m5, m6, m7⟩ := HQK.out _ hacc)
          | (go_at_call 35
             refine (KA _ _ _ (HQ.out _ hacc) hv5).mono ?_
             rintro x w6 ⟨v6, rfl, hv6, hf6, hb6⟩
             have hacc6 := hacc.trans (hb6.mono hacc.size)
             obtain ⟨tvx, bvx, tvy, bvy, rfl, hn5, hd5, hn6, hd6⟩ := hv6
             obtain ⟨a9, c9, rfl⟩ := Nt.In.slice hn5
             obtain ⟨a10, c10, rfl⟩ := Nt.In.slice hd5
             obtain ⟨a11, c11, rfl⟩ := Nt.In.slice hn6
             obtain ⟨a12, c12, rfl⟩ := Nt.In.slice hd6
             have hblk6 := HB1.out.kept (hacc6.block bA HB1.out.lt)
             obtain ⟨x0, x1, x2, x3, x4, x5, X1, X2, X3, X4, X5, X6, cur', ⟨f0, y0, s0⟩, ⟨f1, y1, s1'⟩, ⟨f2, y2, s2'⟩, ⟨f3, y3, s3'⟩, ⟨f4, y4, s4'⟩, ⟨f5, y5, s5'⟩, HX⟩ := hblk6.put6 (oA + 2) (by rw [Tr.set_size]; have := HS.out.csz; omega) (.bool h.s1) (.slice a9 (Nt.dig T1).length c9) (.slice a10 (Nt.dig B1').length c10) (.bool h.s2) (.slice a11 (Nt.dig T2).length c11) (.slice a12 (Nt.dig B2').length c12)))
        all_goals
          have HACC6 := Lib.hid hacc6
          have HN := Lib.hid (And.intro hn5 (And.intro hd5 (And.intro hn6 hd6)))
          have HF6 := Lib.hid (Rt.FrN.open hf6 hacc.size)
          clear hacc hacc6 hn5 hd5 hn6 hd6 hf6 hb5 hb6 hv5 hblk6 KI KA
          go_wp2_with fail
          go_meet
          obtain ⟨hB6, hcs6, hz6, ho6, hm6, hco6, hos6⟩ := HX.out
          have hlt := HB1.out.lt
          have hz6' := HACC6.out.size
          have hkS : Tr.Kept (fun q => W1.heap.size ≤ q) w6 X6 := ⟨by omega, fun q h1 h2 => ho6 q (by omega)⟩
          have hlw1 := HS.out.low
          have hw1 := HBW1.out.size
          have hlow : ∀ q, W1.heap.size ≤ q → w.heap.size + 2 ≤ q ∧ q ≠ bA := fun q hq => ⟨by omega, by omega⟩
          have on : ∀ (v : Value) (n : Nat), Nt.Fr W1.heap.size v → Tr.On (fun q => W1.heap.size ≤ q) v n := fun v n hf _ b off l' c e => hf b off l' c e
          obtain ⟨f1', f2', f3', f4'⟩ := HF6.out
          refine HMID.out X6 a9 a10 a11 a12 _ _ _ _ c9 c10 c11 c12 cur' (by omega) (fun q h1 h2 => (ho6 q h1).trans (HACC6.out.block q h2)) ⟨hos6.1.trans HACC6.out.os, hos6.2.1.trans HACC6.out.tape, hos6.2.2.trans HACC6.out.output, by omega, fun q hq => (ho6 q (by omega)).trans (HACC6.out.block q (by omega))⟩ hB6 (by rw [hcs6, Tr.set_size]; exact HS.out.csz) (fun o ho => hco6 o (by omega)) (Tr.mem_set6 HM1.out hm6 hco6) ?_ ?_ ?_ ?_ ((on _ _ f1').mono hlow) ((on _ _ f2').mono hlow) ((on _ _ f3').mono hlow) ((on _ _ f4').mono hlow)
          · rw [HE.out.1]; exact Nt.In.kept HN.out.1 (on _ _ f1') hkS
          · rw [HE.out.2.1]; exact Nt.In.kept HN.out.2.1 (on _ _ f2') hkS
          · rw [HE.out.2.2.1]; exact Nt.In.kept HN.out.2.2.1 (on _ _ f3') hkS
          · rw [HE.out.2.2.2]; exact Nt.In.kept HN.out.2.2.2 (on _ _ f4') hkS
      · have hk3I : (h.k == 3) = false := by simp; exact hk3
        obtain ⟨z1, z2, z3, z4⟩ := Tr.num_none hsh hk3
        have HZ := Lib.hid (And.intro z1 (And.intro z2 (And.intro z3 z4)))
        clear z1 z2 z3 z4 hk3 hsh
        go_wp2_with fail
        go_meet
        refine HMID.out W1 p3 p4 p6 p7 _ _ _ _ d3 d4 d6 d7 _ (Nat.le_refl _) (fun _ _ _ => rfl) (Below.refl _ _) HB1.out (by rw [Tr.set_size]; exact HS.out.csz) (fun _ _ => rfl) HM1.out (Tr.none_in HS.out.hd.i3 HZ.out.1) (Tr.none_in HS.out.hd.i4 HZ.out.2.1) (Tr.none_in HS.out.hd.i6 HZ.out.2.2.1) (Tr.none_in HS.out.hd.i7 HZ.out.2.2.2) ?_ ?_ ?_ ?_
        · rw [HZ.out.1]; exact Tr.On.zero _ _
        · rw [HZ.out.2.1]; exact Tr.On.zero _ _
        · rw [HZ.out.2.2.1]; exact Tr.On.zero _ _
        · rw [HZ.out.2.2.2]; exact Tr.On.zero _ _
    case rest =>
      obtain ⟨s3, s4, s6, s7, m3, m4, m6, m7, f3, f4, f6, f7, cur2, hH2, hblk2, hcs2, hmem2, hole2, hbel2, hres2⟩ := hcut
      obtain ⟨w2, hw2⟩ : ∃ z, z = wc := ⟨_, rfl⟩
      subst hw2
      have hM2 := hblk2.mem hmem2 (Tr.cells_size _ _ _ _ _ _ _)
      unfold Tr.cells at hM2
      clear k0 k1 k2 k3 k4 k5 k6 k7 k8 k9 k10
      obtain ⟨k0, k1, k2, k3, k4, k5, k6, k7, k8, k9, k10⟩ := Tr.Mem.cells hM2
      have hlen : l.length ≤ 1000000 := by have := HS.out.sz; have := Tr.len_le_size l; rw [Tr.size_mk] at *; omega
      obtain ⟨curL, hcurL, hmk⟩ := Tr.make l.length w2 hlen
      obtain ⟨Lb, hLb⟩ : ∃ z, w2.heap.size = z := ⟨_, rfl⟩
      obtain ⟨w3, hw3⟩ : ∃ z, w2.alloc (.cells curL 37) = z := ⟨_, rfl⟩
      have hblkL : Tr.Blk w3 Lb curL := ⟨_, by rw [← hw3, ← hLb]; exact heap_alloc_new w2 _⟩
      have hold3 : ∀ q, q < Lb → w3.heap[q]? = w2.heap[q]? := fun q hq => by rw [← hw3]; exact Lib.alloc_old _ _ _ (by omega)
      have hz3 : w3.heap.size = Lb + 1 := by rw [← hw3, ← hLb]; simp
      have hos3 : w3.os = w2.os ∧ w3.tape = w2.tape ∧ w3.output = w2.output := by rw [← hw3]; exact ⟨rfl, rfl, rfl⟩
      have HW2 := Lib.hid (And.intro hH2 (And.intro hblk2 (And.intro hcs2 (And.intro hmem2 (And.intro hole2 (And.intro hbel2 hres2))))))
      have HL3 := Lib.hid (And.intro hcurL (And.intro hblkL (And.intro hold3 (And.intro hz3 (And.intro hos3 hLb)))))
      rw [hLb, hw3] at hmk
      have kept3 : ∀ {o : Nat} {x : Value}, w2.cell? ⟨bA, o, none⟩ = some x → w3.cell? ⟨bA, o, none⟩ = some x := fun {o x} hx => (World.cell?_of_block (w := w2) (hold3 bA (by have := hblk2.lt; omega))).trans hx
      have j0 := kept3 k0
      have j10 := kept3 k10
      clear kept3 hH2 hblk2 hcs2 hmem2 hole2 hbel2 hres2 hM2 hcurL hblkL hold3 hz3 hos3 hLb hw3
      by_cases hk8 : h.k = 8
      · have hk8I : (h.k != 8) = false := by simp; exact hk8
        have hll := Tr.Hd.shape_pair (Tr.good_mk.1 HS.out.good).1 hk8
        obtain ⟨ta, tb, rfl⟩ : ∃ a b, l = [a, b] := by
          match l, hll with
          | [a, b], _ => exact ⟨a, b, rfl⟩
        obtain ⟨bL, oL, rfl, _, _, _, hbLlt, hSb, hall⟩ := Tr.Sl.at HS.out.li (by simp)
        obtain ⟨Ca, hIa, hMa⟩ := Tr.All.at _ _ _ hall 0 ta rfl
        obtain ⟨Cb, hIb, hMb⟩ := Tr.All.at _ _ _ hall 1 tb rfl
        have hMa : Tr.Mem w bL oL Ca := hMa
        have hMb : Tr.Mem w bL (oL + 11) Cb := hMb
        have hsz : Tr.size (.mk h [ta, tb]) = 1 + (Tr.size ta + (Tr.size tb + 0)) := by rw [Tr.size_mk, Tr.sizeL_cons, Tr.sizeL_cons, Tr.sizeL_nil]
        have hgd := (Tr.good_mk.1 HS.out.good).2
        have KT := fun w' hI => HIH.out ta (by have := HS.out.sz; omega) S Ca w' hI (Tr.goodL_cons.1 hgd).1 (by have := HS.out.sz; omega)
        have hbel3 : Below w.heap.size w w3 := HW2.out.2.2.2.2.2.1.trans ⟨HL3.out.2.2.2.2.1.1, HL3.out.2.2.2.2.1.2.1, HL3.out.2.2.2.2.1.2.2, by have := HL3.out.2.2.2.1; have := HL3.out.2.2.2.2.2; omega, fun q hq => HL3.out.2.2.1 q (by have := HL3.out.2.2.2.2.2; have := HW2.out.2.2.2.2.2.1.size; omega)⟩
        obtain ⟨ha, la, aa3, aa4, aa6, aa7, aa9, aa10, na3, na4, na6, na7, na9, na10, ca3, ca4, ca6, ca7, ca9, ca10, eCa, _, _, _⟩ := Tr.In.form2 hIa
        obtain ⟨he, le, ab3, ab4, ab6, ab7, ab9, ab10, nb3, nb4, nb6, nb7, nb9, nb10, cb3, cb4, cb6, cb7, cb9, cb10, eCb, ebt, hbH, hbL⟩ := Tr.In.form2 hIb
        subst eCa
        subst eCb
        have HBT := Lib.hid (And.intro ebt (And.intro hbH (And.intro hbL (And.intro (Tr.goodL_cons.1 (Tr.goodL_cons.1 hgd).2).1 hsz))))
        have HBEL3 := Lib.hid hbel3
        have HIa : Hid (∀ w', Below w3.heap.size w3 w' → Tr.In w' S ta (.agg (Tr.cells ha (.slice aa3 na3 ca3) (.slice aa4 na4 ca4) (.slice aa6 na6 ca6) (.slice aa7 na7 ca7) (.slice aa9 na9 ca9) (.slice aa10 na10 ca10)))) := Lib.hid (fun w' hb => Tr.In.below (Tr.In.below hIa hbel3 (Nat.le_refl _)) hb (Nat.le_refl _))
        unfold Tr.cells at KT hMa hMb
        have HCE : Hid (∀ w', Below w3.heap.size w3 w' → w'.cell? ⟨bA, oA + 10, none⟩ = some (.slice (some ⟨bL, oL, none⟩) [ta, tb].length d10) ∧ Tr.Mem w' bL oL #[.int .i64 ha.k, .int .i64 ha.n, .bool ha.s1, .slice aa3 na3 ca3, .slice aa4 na4 ca4, .bool ha.s2, .slice aa6 na6 ca6, .slice aa7 na7 ca7, .string ha.x, .slice aa9 na9 ca9, .slice aa10 na10 ca10] ∧ Tr.Mem w' bL (oL + 11) #[.int .i64 he.k, .int .i64 he.n, .bool he.s1, .slice ab3 nb3 cb3, .slice ab4 nb4 cb4, .bool he.s2, .slice ab6 nb6 cb6, .slice ab7 nb7 cb7, .string he.x, .slice ab9 nb9 cb9, .slice ab10 nb10 cb10]) := Lib.hid (fun w' hb => by
          have hbA : bA < w3.heap.size := by have := HW2.out.2.1.lt; have := HL3.out.2.2.2.1; have := HL3.out.2.2.2.2.2; omega
          have hk := Tr.Kept.all (S := S) (hbel3.trans (hb.mono hbel3.size)) (Nat.le_refl _)
          exact ⟨(hb.cell (p := ⟨bA, oA + 10, none⟩) hbA).trans j10, hMa.kept hk hSb hbLlt, hMb.kept hk hSb hbLlt⟩)
        have HKT := Lib.hid KT
        clear hIa hIb hMa hMb hall hsz hgd hbel3 ebt hbH hbL hbLlt hSb KT hll hk8
        have hmk2 : (Instr.makeSlice 35 (.int .i64 2) (.int .i64 2)).run Tryz.prog w2 = .ok (.slice (some ⟨Lb, 0, none⟩) 2 2) w3 := hmk
        clear hmk
        go_upto_region 15 with (fail)
        clear k0 k1 k2 k3 k4 k5 k6 k7 k8 k9 k10 j10 j0
        go_cut [] (fun wx => ∃ (Cx curX : Array Value), Tr.In wx (fun q => Lb < q) ta (.agg Cx) ∧ Tr.Blk wx Lb curX ∧ curX.size = 22 ∧ (∀ j, j < 11 → curX[0 + j]? = Cx[j]?) ∧ (∀ j, j < 11 → curX[11 + j]? = (Tr.cells he (.slice ab3 nb3 cb3) (.slice ab4 nb4 cb4) (.slice ab6 nb6 cb6) (.slice ab7 nb7 cb7) (.slice ab9 nb9 cb9) (.slice ab10 nb10 cb10))[j]?) ∧ Tr.But Lb w3 wx)
        case first =>
          have hacc : Below w3.heap.size w3 w3.drew := (Below.refl _ _).drew
          obtain ⟨j10, hma, hmb⟩ := HCE.out _ hacc
          obtain ⟨e0, e1, e2, e3, e4, e5, e6, e7, e8, e9, e10⟩ := Tr.Mem.cells hma
          obtain ⟨i0, i1, i2, i3, i4, i5, i6, i7, i8', i9, i10⟩ := Tr.Mem.cells hmb
          clear hma hmb
          go_wp2_with fail
          go_region_with (first
            | (go_at_call 21
               refine (HKT.out _ (HIa.out _ hacc)).mono ?_
               rintro x w6 ⟨C6, rfl, hI6, hb6⟩
               have hacc6 := hacc.trans (hb6.mono hacc.size)
               obtain ⟨j10, hma, hmb⟩ := HCE.out _ hacc6
               obtain ⟨e0, e1, e2, e3, e4, e5, e6, e7, e8, e9, e10⟩ := Tr.Mem.cells hma
               obtain ⟨i0, i1, i2, i3, i4, i5, i6, i7, i8', i9, i10⟩ := Tr.Mem.cells hmb
               obtain ⟨hf, lf, ar3, ar4, ar6, ar7, ar9, ar10, nr3, nr4, nr6, nr7, nr9, nr10, cr3, cr4, cr6, cr7, cr9, cr10, eC6, et6, _, _⟩ := Tr.In.form2 hI6
               subst eC6
               have hL6 : Tr.Blk w6 Lb curL := HL3.out.2.1.kept (hacc6.block Lb HL3.out.2.1.lt)
               obtain ⟨x0, x1, x2, x3, x4, x5, x6, x7, x8, x9, x10, X1, X2, X3, X4, X5, X6, X7, X8, X9, X10, X11, cur', ⟨g0, y0, s0⟩, ⟨g1, y1, s1'⟩, ⟨g2, y2, s2'⟩, ⟨g3, y3, s3'⟩, ⟨g4, y4, s4'⟩, ⟨g5, y5, s5'⟩, ⟨g6, y6, s6'⟩, ⟨g7, y7, s7'⟩, ⟨g8, y8, s8'⟩, ⟨g9, y9, s9'⟩, ⟨g10, y10, s10'⟩, HX⟩ := hL6.put11 0 (by rw [HL3.out.1]; simp) (.int .i64 hf.k) (.int .i64 hf.n) (.bool hf.s1) (.slice ar3 nr3 cr3) (.slice ar4 nr4 cr4) (.bool hf.s2) (.slice ar6 nr6 cr6) (.slice ar7 nr7 cr7) (.string hf.x) (.slice ar9 nr9 cr9) (.slice ar10 nr10 cr10)
               obtain ⟨z0, z1, z2, z3, z4, z5, z6, z7, z8, z9, z10, V1, V2, V3, V4, V5, V6, V7, V8, V9, V10, V11, cur'', ⟨q0, tt0, v0⟩, ⟨q1, tt1, v1⟩, ⟨q2, tt2, v2⟩, ⟨q3, tt3, v3⟩, ⟨q4, tt4, v4⟩, ⟨q5, tt5, v5⟩, ⟨q6, tt6, v6⟩, ⟨q7, tt7, v7⟩, ⟨q8, tt8, v8⟩, ⟨q9, tt9, v9'⟩, ⟨q10, tt10, v10⟩, HY⟩ := HX.out.1.put11 11 (by rw [HX.out.2.1, HL3.out.1]; simp) (.int .i64 he.k) (.int .i64 he.n) (.bool he.s1) (.slice ab3 nb3 cb3) (.slice ab4 nb4 cb4) (.bool he.s2) (.slice ab6 nb6 cb6) (.slice ab7 nb7 cb7) (.string he.x) (.slice ab9 nb9 cb9) (.slice ab10 nb10 cb10)
               simp only [Nat.zero_add] at g1 g2 g3 g4 g5 g6 g7 g8 g9 g10 y1 y2 y3 y4 y5 y6 y7 y8 y9 y10 s1' s2' s3' s4' s5' s6' s7' s8' s9' s10'
               simp only [Nat.reduceAdd] at q1 q2 q3 q4 q5 q6 q7 q8 q9 q10 tt1 tt2 tt3 tt4 tt5 tt6 tt7 tt8 tt9 tt10 v1 v2 v3 v4 v5 v6 v7 v8 v9' v10
               have HI6 := Lib.hid hI6
               have HACC6 := Lib.hid hacc6
               unfold Tr.cells
               clear hI6 et6 hL6 hma hmb))
          all_goals
            clear e0 e1 e2 e3 e4 e5 e6 e7 e8 e9 e10 i0 i1 i2 i3 i4 i5 i6 i7 i8' i9 i10
            go_wp2_with fail
            go_meet
            obtain ⟨hB1x, hs1x, hz1x, ho1x, hm1x, hc1x, hos1x⟩ := HX.out
            obtain ⟨hB2x, hs2x, hz2x, ho2x, hm2x, hc2x, hos2x⟩ := HY.out
            have hLlt := HL3.out.2.1.lt
            have hzz := HACC6.out.size
            have hbX : Tr.But Lb w6 V11 := ⟨hos2x.1.trans hos1x.1, hos2x.2.1.trans hos1x.2.1, hos2x.2.2.trans hos1x.2.2, by omega, fun q h1 _ => (ho2x q h1).trans (ho1x q h1)⟩
            refine ⟨_, cur'', Tr.In.mono (fun q hq => ?_) _ _ (Tr.In.kept (S := fun q => w3.heap.size ≤ q) ⟨hbX.size, fun q hq hl => hbX.block q (by omega) hl⟩ _ _ (Tr.In.mono (fun q hq => ?_) _ _ HI6.out)), hB2x, by rw [hs2x, hs1x, HL3.out.1]; rfl, fun j hj => ?_, hm2x, (Tr.But.of_below HACC6.out (Nat.le_refl _)).trans hbX⟩
            · show Lb < q
              have : w3.heap.size ≤ q := hq
              omega
            · exact hq
            · rw [hc2x _ (.inl (by omega))]; exact hm1x j hj
        case rest =>
          obtain ⟨Cx, curX, hIx, hBx, hsx, hm0x, hm1x, hbx⟩ := hcut
          obtain ⟨w5, hw5⟩ : ∃ z, z = wc := ⟨_, rfl⟩
          subst hw5
          have hAlt := HW2.out.2.1.lt
          have hLbz := HL3.out.2.2.2.2.2
          have hz3 := HL3.out.2.2.2.1
          have hzx := hbx.size
          have hblkA : Tr.Blk w5 bA cur2 := HW2.out.2.1.kept ((hbx.block bA (by omega) (by omega)).trans (HL3.out.2.2.1 bA (by omega)))
          obtain ⟨x0, X, g0, y0, s0, hBX, hzX, hoX, hosX⟩ := hblkA.put (oA + 10) (by have := HW2.out.2.2.1; omega) (.slice (some ⟨Lb, 0, none⟩) 2 2)
          have hm10 := Tr.mem_set10 HW2.out.2.2.2.1 HW2.out.2.2.1 (.slice (some ⟨Lb, 0, none⟩) 2 2)
          have hMX := hBX.mem hm10 (Tr.cells_size _ _ _ _ _ _ _)
          have hw2X : ∀ q, q < w2.heap.size → q ≠ bA → X.heap[q]? = w2.heap[q]? := fun q h1 h2 => (hoX q h2).trans ((hbx.block q (by omega) (by omega)).trans (HL3.out.2.2.1 q (by omega)))
          have hBLX : Tr.Blk X Lb curX := hBx.kept (hoX Lb (by omega))
          obtain ⟨_, _, _, _, _, _, _, _, eCx⟩ := Tr.In.form hIx
          have HNEXT : Hid (Tr.CopySt w S t X he le (.slice ab3 nb3 cb3) (.slice ab4 nb4 cb4) (.slice ab6 nb6 cb6) (.slice ab7 nb7 cb7) (.slice ab9 nb9 cb9) (.slice ab10 nb10 cb10) Lb 11 curX) := Lib.hid (by
            have et := HBT.out.1
            have hlow := HS.out.low
            have hsz := HBT.out.2.2.2.2
            have hss := HS.out.sz
            refine ⟨HBT.out.2.1, HBT.out.2.2.1, et ▸ HBT.out.2.2.2.1, by rw [← et]; omega, hBLX, by omega, hm1x, ?_, by omega, ?_, ?_⟩
            · rw [← et]
              refine Tr.Hole.next (w0 := w2) (wr := X) (bA := bA) (oA := oA) HW2.out.2.2.2.2.1 (by omega) (fun q h1 h2 h3 => hw2X q h2 h3) (fun o ho => by rw [hBX.cell, HW2.out.2.1.cell, Tr.set_get _ _ _ _ (by have := HW2.out.2.2.1; omega), if_neg (by omega)]) (by omega) (by omega) (by omega) hlow (by omega) ?_ (Tr.In.mono (fun q hq => ?_) _ _ (Tr.In.kept (S := fun q => Lb < q) ⟨by omega, fun q hq hl => hoX q (by have : Lb < q := hq; omega)⟩ _ _ hIx)) (hBLX.mem hm0x (by rw [eCx]; rfl)) hMX
              · exact (HW2.out.1.top.kept ⟨by omega, fun q hq hl => hw2X q hl hq.1.2⟩).mono (fun q hq => ⟨hq.1.1, by omega⟩)
              · have : Lb < q := hq
                exact ⟨by omega, by omega⟩
            · have b1 := HBEL3.out
              exact ⟨hosX.1.trans (hbx.os.trans b1.os), hosX.2.1.trans (hbx.tape.trans b1.tape), hosX.2.2.trans (hbx.output.trans b1.output), by have := b1.size; omega, fun q hq => (hoX q (by omega)).trans ((hbx.block q (by omega) (by omega)).trans (b1.block q hq))⟩
            · obtain ⟨cr, hcr, hcrs⟩ := HW2.out.2.2.2.2.2.2
              exact ⟨cr, hcr.kept (hw2X _ hcr.lt (by omega)), hcrs⟩)
          have HSZ := Lib.hid HBT.out.2.2.2.2
          clear hIx hBx hsx hm0x hm1x hbx hAlt hLbz hz3 hzx hblkA hBX hzX hoX hosX hm10 hMX hw2X hBLX eCx
          go_wp2_with fail
          go_roundg (Tr.size tb)
          case measure => have := HSZ.out; have := HG.out; have := Tr.size_pos ta; omega
          case rel => exact ⟨he, le, _, _, _, _, _, _, Lb, 11, curX, by rw [← HBT.out.1], rfl, HNEXT.out⟩
      · have hk8I : (h.k != 8) = true := by simp; exact hk8
        go_wp2_with fail
        go_loopg [50] l.length (fun g iv wr => ∃ (k : Nat) (curK : Array Value), k + g = l.length ∧ iv = .int .i64 k ∧ Tr.Blk wr Lb curK ∧ curK.size = l.length * 11 ∧ (∀ j tj, j < k → l[j]? = some tj → ∃ Cj, Tr.In wr (fun q => Lb < q) tj (.agg Cj) ∧ ∀ i, i < 11 → curK[j * 11 + i]? = Cj[i]?) ∧ Tr.But Lb w3 wr)
        case atStart => exact ⟨0, curL, by omega, rfl, HL3.out.2.1, HL3.out.1, fun j tj hj => absurd hj (Nat.not_lt_zero _), Tr.But.refl _ _⟩
        case round =>
          obtain ⟨k, curK, hkg, rfl, hbK, hsK, hdone, hbutK⟩ := hrel
          obtain ⟨w4, hw4⟩ : ∃ z, z = wr := ⟨_, rfl⟩
          subst hw4
          have hbelK : Below w.heap.size w w4 := by
            have b1 : Below w.heap.size w2 w3 := ⟨HL3.out.2.2.2.2.1.1, HL3.out.2.2.2.2.1.2.1, HL3.out.2.2.2.2.1.2.2, by have := HL3.out.2.2.2.1; have := HL3.out.2.2.2.2.2; omega, fun q hq => HL3.out.2.2.1 q (by have := HL3.out.2.2.2.2.2; have := HW2.out.2.2.2.2.2.1.size; omega)⟩
            have b2 := HW2.out.2.2.2.2.2.1
            have hlow : w.heap.size ≤ Lb := by have := HL3.out.2.2.2.2.2; have := b2.size; omega
            exact (b2.trans b1).trans (hbutK.below hlow (by have := HL3.out.2.2.2.1; omega))
          have HD := Lib.hid hdone
          have HBK := Lib.hid hbutK
          have HBEL := Lib.hid hbelK
          have HBLK := Lib.hid hbK
          have HSK := Lib.hid hsK
          clear hdone hbutK hbelK hbK hsK k0 k1 k2 k3 k4 k5 k6 k7 k8 k9 k10 j0 j10
          by_cases hlt : k < l.length
          · obtain ⟨bL, oL, rfl, _, _, _, hbLlt, hSb, hall⟩ := Tr.Sl.at HS.out.li (by omega)
            obtain ⟨tk, htk⟩ : ∃ t, l[k]? = some t := ⟨_, List.getElem?_eq_getElem hlt⟩
            obtain ⟨Ck, hIk, hMk⟩ := Tr.All.at _ _ _ hall k tk htk
            rw [Nat.mul_comm 11 k] at hMk
            have hsz : Tr.size tk < Tr.size (.mk h l) := Tr.size_lt (t := .mk h l) (k := k) htk
            have KT := fun w' hI => HIH.out tk (by have := HS.out.sz; omega) S Ck w' hI (Tr.goodL_at l (Tr.good_mk.1 HS.out.good).2 k tk htk) (by have := HS.out.sz; omega)
            have hMk4 := hMk.kept (Tr.Kept.all HBEL.out (Nat.le_refl _)) hSb hbLlt
            have hIA : ∀ o, Tr.In (w4.alloc o) S tk (.agg Ck) := fun o => Tr.In.below (Tr.In.below hIk HBEL.out (Nat.le_refl _)) ((Below.refl _ _).alloc (Nat.le_refl _) o) (Nat.le_refl _)
            obtain ⟨he, le, ab3, ab4, ab6, ab7, ab9, ab10, nb3, nb4, nb6, nb7, nb9, nb10, cb3, cb4, cb6, cb7, cb9, cb10, eCb, ebt, hbH, hbL⟩ := Tr.In.form2 hIk
            subst eCb
            unfold Tr.cells at KT hMk4
            obtain ⟨e0, e1, e2, e3, e4, e5, e6, e7, e8, e9, e10⟩ := Tr.Mem.cells hMk4
            have HKT := Lib.hid KT
            have HIA := Lib.hid hIA
            have HTK := Lib.hid htk
            have hpr : ∀ o w6, Below (w4.alloc o).heap.size (w4.alloc o) w6 → Tr.Blk w6 Lb curK ∧ Tr.But Lb w4 w6 ∧ Lb < (w4.alloc o).heap.size := fun o w6 hb => by
              have h1 := HBLK.out.lt
              have h2 : (w4.alloc o).heap.size = w4.heap.size + 1 := by simp
              refine ⟨HBLK.out.kept ((hb.block Lb (by omega)).trans (Lib.alloc_old _ _ _ h1)), ((Tr.But.refl Lb w4).alloc o).trans (Tr.But.of_below hb (Nat.le_refl _)), by omega⟩
            have HPR := Lib.hid hpr
            clear hIk hMk hMk4 hall hsz htk ebt hbH hbL hbLlt hSb KT hIA hpr
            go_wp2_with fail
            refine (HKT.out _ (HIA.out _)).mono ?_
            rintro y w6 ⟨C6, rfl, hI6, hb6⟩
            obtain ⟨p1, p2, p3⟩ := HPR.out _ _ hb6
            clear e0 e1 e2 e3 e4 e5 e6 e7 e8 e9 e10
            obtain ⟨hf, lf, ar3, ar4, ar6, ar7, ar9, ar10, nr3, nr4, nr6, nr7, nr9, nr10, cr3, cr4, cr6, cr7, cr9, cr10, eC6, et6, _, _⟩ := Tr.In.form2 hI6
            subst eC6
            obtain ⟨x0, x1, x2, x3, x4, x5, x6, x7, x8, x9, x10, X1, X2, X3, X4, X5, X6, X7, X8, X9, X10, X11, cur', ⟨g0, y0, s0⟩, ⟨g1, y1, s1'⟩, ⟨g2, y2, s2'⟩, ⟨g3, y3, s3'⟩, ⟨g4, y4, s4'⟩, ⟨g5, y5, s5'⟩, ⟨g6, y6, s6'⟩, ⟨g7, y7, s7'⟩, ⟨g8, y8, s8'⟩, ⟨g9, y9, s9'⟩, ⟨g10, y10, s10'⟩, HX⟩ := p1.put11 (k * 11) (by rw [HSK.out]; omega) (.int .i64 hf.k) (.int .i64 hf.n) (.bool hf.s1) (.slice ar3 nr3 cr3) (.slice ar4 nr4 cr4) (.bool hf.s2) (.slice ar6 nr6 cr6) (.slice ar7 nr7 cr7) (.string hf.x) (.slice ar9 nr9 cr9) (.slice ar10 nr10 cr10)
            have HI6 := Lib.hid hI6
            have HP := Lib.hid (And.intro p2 p3)
            unfold Tr.cells
            clear hI6 p1 p2 p3 hb6 et6
            go_wp2_with fail
            go_roundg (gk - 1)
            case measure => omega
            case rel =>
              obtain ⟨hBX, hsX, hzX, hoX, hmX, hcX, hosX⟩ := HX.out
              have hbutX : Tr.But Lb w6 X11 := ⟨hosX.1, hosX.2.1, hosX.2.2, by omega, fun q h1 _ => hoX q h1⟩
              have hbut4 := HP.out.1.trans hbutX
              refine ⟨k + 1, cur', by omega, by first | rfl | go_num | (simp; try omega), hBX, hsX.trans HSK.out, ?_, HBK.out.trans hbut4⟩
              intro j tj hj htj
              by_cases hjk : j = k
              · subst hjk
                have e : tj = tk := by have := HTK.out; rw [htj] at this; injection this
                subst e
                refine ⟨_, Tr.In.mono (fun q hq => ?_) _ _ (Tr.In.kept ⟨hbutX.size, fun q hq hl => hbutX.block q (by have := HP.out.2; omega) hl⟩ _ _ HI6.out), fun i hi => hmX i hi⟩
                have := HP.out.2
                omega
              · obtain ⟨Cj, hIj, hmj⟩ := HD.out j tj (by omega) htj
                refine ⟨Cj, Tr.In.kept ⟨hbut4.size, fun q hq hl => hbut4.block q (by omega) hl⟩ _ _ hIj, fun i hi => ?_⟩
                rw [hcX _ (.inl (by omega)), hmj i hi]
          · obtain rfl : k = l.length := by omega
            have hnlt : decide ((l.length : Int) < (l.length : Int)) = false := decide_eq_false (by omega)
            have hAlt := HW2.out.2.1.lt
            have hLbz := HL3.out.2.2.2.2.2
            have hz3 := HL3.out.2.2.2.1
            have hzK := HBK.out.size
            have hblkA : Tr.Blk w4 bA cur2 := HW2.out.2.1.kept ((HBK.out.block bA (by omega) (by omega)).trans (HL3.out.2.2.1 bA (by omega)))
            obtain ⟨x0, X, g0, y0, s0, hBX, hzX, hoX, hosX⟩ := hblkA.put (oA + 10) (by have := HW2.out.2.2.1; omega) (.slice (some ⟨Lb, 0, none⟩) l.length l.length)
            have hm10 := Tr.mem_set10 HW2.out.2.2.2.1 HW2.out.2.2.1 (.slice (some ⟨Lb, 0, none⟩) l.length l.length)
            have hMX := hBX.mem hm10 (Tr.cells_size _ _ _ _ _ _ _)
            have hw2X : ∀ q, q < w2.heap.size → q ≠ bA → X.heap[q]? = w2.heap[q]? := fun q h1 h2 => (hoX q h2).trans ((HBK.out.block q (by omega) (by omega)).trans (HL3.out.2.2.1 q (by omega)))
            have hIX : Tr.In X (fun q => w.heap.size + 2 ≤ q) (.mk h l) (.agg (Tr.cells h (.slice s3 m3 f3) (.slice s4 m4 f4) (.slice s6 m6 f6) (.slice s7 m7 f7) (.slice p9b h.raw.size d9b) (.slice (some ⟨Lb, 0, none⟩) l.length l.length))) := by
              refine Tr.In.hd ((HW2.out.1.kept ⟨by omega, fun q hq hl => hw2X q hl hq.2⟩).mono (fun q hq => hq.1)) ?_
              rcases Nat.eq_zero_or_pos l.length with h0 | h0
              · exact .inr (.inl ⟨_, _, by rw [h0], h0⟩)
              · refine .inr (.inr ⟨h0, Lb, 0, l.length, rfl, Nat.le_refl _, by omega, by omega, by have := HS.out.low; omega, ?_⟩)
                refine Tr.All.of l Lb 0 (fun k' t' hk' => ?_)
                have hk'lt : k' < l.length := (List.getElem?_eq_some_iff.1 hk').1
                obtain ⟨Cj, hIj, hmj⟩ := HD.out k' t' hk'lt hk'
                have hBL : Tr.Blk X Lb curK := HBLK.out.kept (hoX Lb (by omega))
                refine ⟨Cj, Tr.In.mono (fun q hq => by have := HS.out.low; omega) _ _ (Tr.In.kept ⟨by omega, fun q hq hl => hoX q (by omega)⟩ _ _ hIj), ?_⟩
                obtain ⟨_, _, _, _, _, _, _, _, eCj⟩ := Tr.In.form hIj
                refine hBL.mem (fun j hj => ?_) (by rw [eCj]; rfl)
                rw [← hmj j hj]
                congr 1
                omega
            obtain ⟨Cout, hMO, hIO⟩ := HW2.out.2.2.2.2.1 X _ (by omega) (fun q _ h2 h3 => hw2X q h2 h3) (fun o ho => by rw [hBX.cell, HW2.out.2.1.cell, Tr.set_get _ _ _ _ (by have := HW2.out.2.2.1; omega), if_neg (by omega)]) hIX hMX
            obtain ⟨hf, lf, ar3, ar4, ar6, ar7, ar9, ar10, nr3, nr4, nr6, nr7, nr9, nr10, cr3, cr4, cr6, cr7, cr9, cr10, eC6, _, _, _⟩ := Tr.In.form2 hIO
            subst eC6
            have hMO' := hMO
            unfold Tr.cells at hMO'
            obtain ⟨o0, o1, o2, o3, o4, o5, o6, o7, o8, o9, o10⟩ := Tr.Mem.cells (show Tr.Mem X (w.heap.size + 1 + 1) 0 _ from hMO')
            simp only [Nat.zero_add] at o1 o2 o3 o4 o5 o6 o7 o8 o9 o10
            obtain ⟨cr, hcr, hcrs⟩ := HW2.out.2.2.2.2.2.2
            have hcrX : Tr.Blk X (w.heap.size + 1) cr := hcr.kept (hw2X _ hcr.lt (by have := HS.out.low; omega))
            obtain ⟨z0, z1, z2, z3, z4, z5, z6, z7, z8, z9, z10, X1, X2, X3, X4, X5, X6, X7, X8, X9, X10, X11, cur', ⟨q0, y0', v0⟩, ⟨q1, y1, v1⟩, ⟨q2, y2, v2⟩, ⟨q3, y3, v3⟩, ⟨q4, y4, v4⟩, ⟨q5, y5, v5⟩, ⟨q6, y6, v6⟩, ⟨q7, y7, v7⟩, ⟨q8, y8, v8⟩, ⟨q9, y9, v9⟩, ⟨q10, y10, v10⟩, HX⟩ := hcrX.put11 0 (by rw [hcrs]; exact Nat.le_refl _) (.int .i64 hf.k) (.int .i64 hf.n) (.bool hf.s1) (.slice ar3 nr3 cr3) (.slice ar4 nr4 cr4) (.bool hf.s2) (.slice ar6 nr6 cr6) (.slice ar7 nr7 cr7) (.string hf.x) (.slice ar9 nr9 cr9) (.slice ar10 nr10 cr10)
            simp only [Nat.zero_add] at q1 q2 q3 q4 q5 q6 q7 q8 q9 q10 y1 y2 y3 y4 y5 y6 y7 y8 y9 y10 v1 v2 v3 v4 v5 v6 v7 v8 v9 v10
            obtain ⟨hBR, hsR, hzR, hoR, hmR, hcR, hosR⟩ := HX.out
            have hMR : Tr.Mem X11 (w.heap.size + 1) 0 #[.int .i64 hf.k, .int .i64 hf.n, .bool hf.s1, .slice ar3 nr3 cr3, .slice ar4 nr4 cr4, .bool hf.s2, .slice ar6 nr6 cr6, .slice ar7 nr7 cr7, .string hf.x, .slice ar9 nr9 cr9, .slice ar10 nr10 cr10] := hBR.mem hmR rfl
            obtain ⟨r0, r1, r2, r3, r4, r5, r6, r7, r8, r9, r10⟩ := Tr.Mem.cells hMR
            simp only [Nat.zero_add] at r1 r2 r3 r4 r5 r6 r7 r8 r9 r10
            have HOUT : Hid (Tr.In X11 (fun q => w.heap.size ≤ q) t (.agg (Tr.cells hf (.slice ar3 nr3 cr3) (.slice ar4 nr4 cr4) (.slice ar6 nr6 cr6) (.slice ar7 nr7 cr7) (.slice ar9 nr9 cr9) (.slice ar10 nr10 cr10))) ∧ Below w.heap.size w X11) := Lib.hid (by
              refine ⟨Tr.In.mono (fun q hq => by omega) _ _ (Tr.In.kept ⟨by omega, fun q hq hl => hoR q (by omega)⟩ _ _ hIO), ?_⟩
              have h1 := HBEL.out
              have hlow := HS.out.low
              exact ⟨hosR.1.trans (hosX.1.trans h1.os), hosR.2.1.trans (hosX.2.1.trans h1.tape), hosR.2.2.trans (hosX.2.2.trans h1.output), by have := h1.size; omega, fun q hq => (hoR q (by omega)).trans ((hoX q (by omega)).trans (h1.block q hq))⟩)
            clear hAlt hLbz hz3 hzK hblkA hBX hzX hoX hosX hm10 hMX hw2X hIX hMO hIO hMO' hcr hcrs hcrX HX hBR hsR hzR hoR hmR hcR hosR hMR hkg
            go_wp2_with fail
            refine bodyPost_ret (v := .agg #[.int .i64 hf.k, .int .i64 hf.n, .bool hf.s1, .slice ar3 nr3 cr3, .slice ar4 nr4 cr4, .bool hf.s2, .slice ar6 nr6 cr6, .slice ar7 nr7 cr7, .string hf.x, .slice ar9 nr9 cr9, .slice ar10 nr10 cr10]) (by simp [results, Tryz.results21, go_sem, r0, r1, r2, r3, r4, r5, r6, r7, r8, r9, r10]) rfl ⟨_, rfl, HOUT.out.1, HOUT.out.2⟩
theorem Tr.Copy_says (t : Tr) : Tr.CopySays t := Tr.copy_step t (fun u _ => Tr.Copy_says u)
termination_by Tr.size t
decreasing_by assumption
/-- datum.Copy of any sound datum: the same, of new memory. -/
theorem Tr.Copy_any (t : Tr) (S : Nat → Prop) (v : Value) (w : World) (hI : Tr.In w S t v) (hs : Tr.sound t = true) :
    Calls Tryz.prog 21 #[v] w fun e w' => ∃ C, e = .returned (.agg C) ∧ Tr.In w' (fun q => w.heap.size ≤ q) t (.agg C) ∧ Below w.heap.size w w' := by
  obtain ⟨h, l, v3, v4, v6, v7, v9, v10, rfl⟩ : ∃ (h : Tr.Hd) (l : List Tr) (v3 v4 v6 v7 v9 v10 : Value), v = .agg (Tr.cells h v3 v4 v6 v7 v9 v10) := by
    obtain ⟨h, l⟩ := t
    rw [Tr.In_mk] at hI
    obtain ⟨v3, v4, v6, v7, v9, v10, e, _⟩ := hI
    exact ⟨h, l, v3, v4, v6, v7, v9, v10, e⟩
  exact Tr.Copy_says t S _ w hI (Tr.sound_good hs) (Nat.le_trans (Tr.sound_size hs) (by decide))
end Go.Proofs.YtdjllmogejkimaaGreatDoor
