/-
  cond.Error of a symbol and a text without irritants.
-/
import Derived.Deep.RegionHeld3
import Derived.Test.YtikmebkfdpbidaaGreatDoorPl
namespace Go.Proofs.YtikmebkfdpbidaaGreatDoor
open Go.RowKit
set_option linter.unusedVariables false

theorem Co.infoSimple : (Tryz.prog.info? 53).map (fun i => (i.zero, i.size, i.bytes)) = some (some (.agg #[.int .i64 0, .slice none 0 0]), 2, 32) := by kernel_rfl
theorem Dt.own_below {w w' : World} {B B2 sz : Nat} {t : TypeId} {v : Value} {n : Nat} {xs : List Value} (h : w.ownsRow B t sz v n xs) (hb : Below B2 w w') (hB : w.heap.size ≤ B2) : w'.ownsRow B t sz v n xs := by
  refine ⟨h.1, ?_⟩
  rcases h.2 with hv | ⟨g, cap, cur, hv, hB', hg, rest⟩
  · exact .inl hv
  · have hlt := (Array.getElem?_eq_some_iff.1 hg).1
    exact .inr ⟨g, cap, cur, hv, hB', by rw [hb.block g (by omega)]; exact hg, rest⟩
theorem Dt.own_base {w : World} {B B2 sz : Nat} {t : TypeId} {v : Value} {n : Nat} {xs : List Value} (h : w.ownsRow B t sz v n xs) (hB : B2 ≤ B) : w.ownsRow B2 t sz v n xs := by
  refine ⟨h.1, ?_⟩
  rcases h.2 with hv | ⟨g, cap, cur, hv, hB', rest⟩
  · exact .inl hv
  · exact .inr ⟨g, cap, cur, hv, by omega, rest⟩
/-- An append at a step of a region that draws. -/
theorem Dt.step_append_own {P : Program} {w : World} {ops : Array Oper} {o : Oper} {a : Act} {Q : Exit → Act → World → Prop} {K : Act → World → Prop} {E : Prop} (hgd : o.guard = none) (s x : Operand) (t : TypeId)
    (ho : o.op = .call { callee := .builtin .append, args := #[s, x], argTypes := #[t, t] })
    (base : Nat) (e : TypeId) (i : TypeInfo) (z : Value) (size bytes : Nat) (ht : P.underlying t = some (.slice e)) (hi : P.info? e = some i) (hz : i.zero = some z)
    (hsize : i.size = size) (hby : i.bytes = bytes) (hzs : z.cells.size = size) (hsz : 0 < size)
    (v : Value) (n : Nat) (xs : List Value) (hs : a.eval s = v) (hown : w.ownsRow base e size v n xs)
    (ad : Addr) (m c : Nat) (news : List Value) (hx : a.eval x = .slice (some ad) m c) (hl : news.length = m * size) (hnews : ∀ j u, news[j]? = some u → w.cell? (ad.add j) = some u) (h1 : ∀ u ∈ news, u.oneCell' = true)
    (h63 : n + m ≤ maxLen) (hbytes : (n + m) * bytes ≤ 140737488355328) (hbase : base ≤ w.heap.size)
    (h : ∀ v' w', w'.ownsRow base e size v' (n + m) (xs ++ news) → w.grownBy w' v.ownBlock → (v' = .slice none 0 0 ↔ v = .slice none 0 0 ∧ m = 0) → K (a.put o.dst v') w') :
    if Region.wanted o (yielded ops a.tmps) = true then Oper.wp P o a w K Q else E := by
  have hw : Region.wanted o (yielded ops a.tmps) = true := by simp [Region.wanted, hgd]
  rw [if_pos hw]
  exact wp_append_own w s x t ho base e i z size bytes ht hi hz hsize hby hzs hsz v n xs hs hown ad m c news hx hl hnews h1 h63 hbytes hbase h
/-- What cond.Error leaves: four parts. -/
def Co.Four (w : World) (B : Nat) (v : Value) (s1 s2 : ByteArray) : Prop :=
  ∃ f1 f2 f3, w.ownsRow B 53 2 v 4 [.int .i64 6, .slice none 0 0, .int .i64 8, f1, .int .i64 1, f2, .int .i64 7, f3] ∧
    (∃ b ad cap, f1 = .slice (some ⟨b, 0, none⟩) 1 1 ∧ w.heap[b]? = some (.cells (Dt.cells 6 s1 (.slice ad 0 cap)) 30 (0, 0))) ∧
    (∃ b ad cap, f2 = .slice (some ⟨b, 0, none⟩) 1 1 ∧ w.heap[b]? = some (.cells (Dt.cells 5 s2 (.slice ad 0 cap)) 30 (0, 0))) ∧
    (∃ b ad cap, f3 = .slice (some ⟨b, 0, none⟩) 1 1 ∧ w.heap[b]? = some (.cells (Dt.cells 1 ⟨#[]⟩ (.slice ad 0 cap)) 30 (0, 0)))

theorem Co.four_end (w w6 W8 w9 : World) (B4 b1 b2 b3 : Nat) (v6 v9 f2 f3 : Value) (s1 s2 : ByteArray) (ad1 : Option Addr) (cap1 : Nat) (ad2 : Option Addr) (cap2 : Nat) (ad3 : Option Addr) (cap3 : Nat)
    (ho6 : w6.ownsRow B4 53 2 v6 (1 + 1) ([.int .i64 6, .slice none 0 0] ++ [.int .i64 8, .slice (some ⟨b1, 0, none⟩) 1 1])) (hb6 : Below w.heap.size w w6)
    (hf1 : w6.heap[b1]? = some (.cells (Dt.cells 6 s1 (.slice ad1 0 cap1)) 30 (0, 0))) (hlt1 : b1 < w6.heap.size) (hle : w.heap.size ≤ w6.heap.size) (hB4 : w.heap.size < B4)
    (hbW : Below w6.heap.size w6 W8) (hown9 : w9.ownsRow B4 53 2 v9 (1 + 1 + 2) ([.int .i64 6, .slice none 0 0] ++ [.int .i64 8, .slice (some ⟨b1, 0, none⟩) 1 1] ++ [.int .i64 1, f2, .int .i64 7, f3])) (hgrow : W8.grownBy w9 v6.ownBlock)
    (he2 : f2 = .slice (some ⟨b2, 0, none⟩) 1 1) (he3 : f3 = .slice (some ⟨b3, 0, none⟩) 1 1)
    (hf2 : W8.heap[b2]? = some (.cells (Dt.cells 5 s2 (.slice ad2 0 cap2)) 30 (0, 0)))
    (hf3 : W8.heap[b3]? = some (.cells (Dt.cells 1 ⟨#[]⟩ (.slice ad3 0 cap3)) 30 (0, 0))) :
    Co.Four w9 w.heap.size v9 s1 s2 ∧ Below w.heap.size w w9 ∧ ∀ (b : Nat) (C : Array Value), W8.heap[b]? = some (.cells C 30 (0, 0)) → w9.heap[b]? = some (.cells C 30 (0, 0)) := by
  have ne : ∀ (b : Nat) (C : Array Value), W8.heap[b]? = some (.cells C 30 (0, 0)) → v6.ownBlock ≠ some b := by
    intro b C hC
    have h8 := Dt.own_below ho6 hbW (Nat.le_refl _)
    rcases h8.2 with ⟨_, h0⟩ | ⟨g, cap, cur, rfl, _, hg, _⟩
    · omega
    · intro he
      simp only [Value.ownBlock, Option.some.injEq] at he
      subst he
      rw [hg] at hC
      simp at hC
  have kp : ∀ (b : Nat) (C : Array Value), W8.heap[b]? = some (.cells C 30 (0, 0)) → w9.heap[b]? = some (.cells C 30 (0, 0)) := fun b C hC =>
    (hgrow.block b (Array.getElem?_eq_some_iff.1 hC).1 (fun e => ne b C hC e.symm)).trans hC
  refine ⟨⟨.slice (some ⟨b1, 0, none⟩) 1 1, f2, f3, Dt.own_base hown9 (by omega), ⟨b1, ad1, cap1, rfl, kp _ _ ((hbW.block b1 hlt1).trans hf1)⟩, ⟨b2, ad2, cap2, he2, kp _ _ hf2⟩, ⟨b3, ad3, cap3, he3, kp _ _ hf3⟩⟩, ?_, kp⟩
  refine (hb6.trans (hbW.mono hle)).grown hgrow (Nat.le_trans hle hbW.size) ?_
  intro k hk
  rcases ho6.2 with ⟨_, h0⟩ | ⟨g, cap, cur, rfl, hBg, _⟩
  · omega
  · simp only [Value.ownBlock, Option.some.injEq] at hk
    omega
/-- What stands behind a call that came in a world that was drawn from, or in which one thing more had been made. -/
theorem Co.via_drew {w w' : World} (hb : Below w.drew.heap.size w.drew w') : Below w.heap.size w w' := ((Below.refl _ _).drew).trans hb
theorem Co.via_alloc {w w' : World} {o : Obj} (hb : Below (w.drew.alloc o).heap.size (w.drew.alloc o) w') : Below w.heap.size w w' ∧ w'.heap[w.heap.size]? = some o := by
  have e : (w.drew.alloc o).heap.size = w.drew.heap.size + 1 := by simp
  refine ⟨(((Below.refl _ _).drew).alloc (Nat.le_refl _) o).trans (hb.mono (by rw [e]; exact Nat.le_succ _)), ?_⟩
  rw [hb.block w.heap.size (by rw [e]; exact Nat.lt_succ_self _)]
  exact heap_alloc_new w.drew o
theorem Co.new2 (w : World) (o1 o2 : Obj) : ((w.alloc o1).alloc o2).heap[w.heap.size + 1]? = some o2 ∧ ((w.alloc o1).alloc o2).heap[w.heap.size]? = some o1 ∧ ((w.alloc o1).alloc o2).heap.size = w.heap.size + 2 ∧ Below w.heap.size w ((w.alloc o1).alloc o2) := by
  have e : (w.alloc o1).heap.size = w.heap.size + 1 := by simp
  have h := heap_alloc_new (w.alloc o1) o2
  rw [e] at h
  exact ⟨h, (Lib.alloc_old _ _ _ (by rw [e]; omega)).trans (heap_alloc_new w o1), by simp, ((Below.refl _ _).alloc (Nat.le_refl _) _).alloc (by rw [e]; omega) _⟩
theorem Co.new3 (w : World) (o1 o2 o3 : Obj) : (((w.alloc o1).alloc o2).alloc o3).heap[w.heap.size + 1 + 1]? = some o3 ∧ (((w.alloc o1).alloc o2).alloc o3).heap[w.heap.size + 1]? = some o2 ∧ (((w.alloc o1).alloc o2).alloc o3).heap[w.heap.size]? = some o1 ∧ (((w.alloc o1).alloc o2).alloc o3).heap.size = w.heap.size + 3 ∧ Below w.heap.size w (((w.alloc o1).alloc o2).alloc o3) := by
  obtain ⟨a, b, c, d⟩ := Co.new2 w o1 o2
  have h := heap_alloc_new ((w.alloc o1).alloc o2) o3
  rw [c] at h
  exact ⟨h, (Lib.alloc_old _ _ _ (by rw [c]; omega)).trans a, (Lib.alloc_old _ _ _ (by rw [c]; omega)).trans b, by simp, d.alloc (by rw [c]; omega) _⟩
def Co.Keep22 (h l : Nat) (s2 : ByteArray) (ad : Option Addr) (cap : Nat) (w' : World) : Prop :=
  w'.cell? ⟨h, 0, none⟩ = some (.int .i64 5) ∧ w'.cell? ⟨h, 1, none⟩ = some (.int .i64 0) ∧ w'.cell? ⟨h, 2, none⟩ = some (.bool false) ∧ w'.cell? ⟨h, 3, none⟩ = some (.slice none 0 0) ∧ w'.cell? ⟨h, 4, none⟩ = some (.slice none 0 0) ∧ w'.cell? ⟨h, 5, none⟩ = some (.bool false) ∧ w'.cell? ⟨h, 6, none⟩ = some (.slice none 0 0) ∧ w'.cell? ⟨h, 7, none⟩ = some (.slice none 0 0) ∧ w'.cell? ⟨h, 8, none⟩ = some (.string s2) ∧ w'.cell? ⟨h, 9, none⟩ = some (.slice none 0 0) ∧ w'.cell? ⟨h, 10, none⟩ = some (.slice none 0 0) ∧ w'.cell? ⟨l, 0, none⟩ = some (.int .i64 1) ∧ w'.cell? ⟨l, 1, none⟩ = some (.int .i64 0) ∧ w'.cell? ⟨l, 2, none⟩ = some (.bool false) ∧ w'.cell? ⟨l, 3, none⟩ = some (.slice none 0 0) ∧ w'.cell? ⟨l, 4, none⟩ = some (.slice none 0 0) ∧ w'.cell? ⟨l, 5, none⟩ = some (.bool false) ∧ w'.cell? ⟨l, 6, none⟩ = some (.slice none 0 0) ∧ w'.cell? ⟨l, 7, none⟩ = some (.slice none 0 0) ∧ w'.cell? ⟨l, 8, none⟩ = some (.string ⟨#[]⟩) ∧ w'.cell? ⟨l, 9, none⟩ = some (.slice none 0 0) ∧ w'.cell? ⟨l, 10, none⟩ = some (.slice ad 0 cap)
theorem Co.Keep22.below {h l B : Nat} {s2 : ByteArray} {ad : Option Addr} {cap : Nat} {w w' : World} (hk : Co.Keep22 h l s2 ad cap w) (hb : Below B w w') (hh : h < B) (hl : l < B) : Co.Keep22 h l s2 ad cap w' := by
  obtain ⟨x0, x1, x2, x3, x4, x5, x6, x7, x8, x9, x10, x11, x12, x13, x14, x15, x16, x17, x18, x19, x20, x21⟩ := hk
  exact ⟨(hb.cell (p := ⟨h, 0, none⟩) hh).trans x0, (hb.cell (p := ⟨h, 1, none⟩) hh).trans x1, (hb.cell (p := ⟨h, 2, none⟩) hh).trans x2, (hb.cell (p := ⟨h, 3, none⟩) hh).trans x3, (hb.cell (p := ⟨h, 4, none⟩) hh).trans x4, (hb.cell (p := ⟨h, 5, none⟩) hh).trans x5, (hb.cell (p := ⟨h, 6, none⟩) hh).trans x6, (hb.cell (p := ⟨h, 7, none⟩) hh).trans x7, (hb.cell (p := ⟨h, 8, none⟩) hh).trans x8, (hb.cell (p := ⟨h, 9, none⟩) hh).trans x9, (hb.cell (p := ⟨h, 10, none⟩) hh).trans x10, (hb.cell (p := ⟨l, 0, none⟩) hl).trans x11, (hb.cell (p := ⟨l, 1, none⟩) hl).trans x12, (hb.cell (p := ⟨l, 2, none⟩) hl).trans x13, (hb.cell (p := ⟨l, 3, none⟩) hl).trans x14, (hb.cell (p := ⟨l, 4, none⟩) hl).trans x15, (hb.cell (p := ⟨l, 5, none⟩) hl).trans x16, (hb.cell (p := ⟨l, 6, none⟩) hl).trans x17, (hb.cell (p := ⟨l, 7, none⟩) hl).trans x18, (hb.cell (p := ⟨l, 8, none⟩) hl).trans x19, (hb.cell (p := ⟨l, 9, none⟩) hl).trans x20, (hb.cell (p := ⟨l, 10, none⟩) hl).trans x21⟩
theorem Co.Keep22.mk {h l : Nat} {s2 : ByteArray} {ad : Option Addr} {cap : Nat} {w : World} (q1 : w.heap[h]? = some (.cells #[.int .i64 5, .int .i64 0, .bool false, .slice none 0 0, .slice none 0 0, .bool false, .slice none 0 0, .slice none 0 0, .string s2, .slice none 0 0, .slice none 0 0] 30 (0, 0))) (q2 : w.heap[l]? = some (.cells #[.int .i64 1, .int .i64 0, .bool false, .slice none 0 0, .slice none 0 0, .bool false, .slice none 0 0, .slice none 0 0, .string ⟨#[]⟩, .slice none 0 0, .slice ad 0 cap] 30 (0, 0))) : Co.Keep22 h l s2 ad cap w :=
  ⟨Dt.cell_of q1 0, Dt.cell_of q1 1, Dt.cell_of q1 2, Dt.cell_of q1 3, Dt.cell_of q1 4, Dt.cell_of q1 5, Dt.cell_of q1 6, Dt.cell_of q1 7, Dt.cell_of q1 8, Dt.cell_of q1 9, Dt.cell_of q1 10, Dt.cell_of q2 0, Dt.cell_of q2 1, Dt.cell_of q2 2, Dt.cell_of q2 3, Dt.cell_of q2 4, Dt.cell_of q2 5, Dt.cell_of q2 6, Dt.cell_of q2 7, Dt.cell_of q2 8, Dt.cell_of q2 9, Dt.cell_of q2 10⟩

set_option maxHeartbeats 4000000 in
set_option maxRecDepth 1000000 in
theorem Co.Error_at (s1 s2 : ByteArray) (h1 : Dt.valid s1) (h2 : Dt.valid s2) (w : World) :
    Calls Tryz.prog 53 #[Dt.leaf 6 s1 (.slice none 0 0), Dt.leaf 5 s2 (.slice none 0 0), .slice none 0 0, .bool true] w fun e w' => ∃ v, e = .returned (.tuple #[v, .int .i64 0]) ∧ Co.Four w' w.heap.size v s1 s2 ∧ Below w.heap.size w w' := by
  have hV : Dt.valid ⟨#[]⟩ := fun w => Dt.valid_short [] (by decide) (by simp) w
  have KO := Lib.hid (fun w => Dt.Of_nil w)
  have KS1 := Lib.hid (fun w => Dt.Sound_leaf 6 s1 (.slice none 0 0) (.inr (.inr (.inr rfl))) ⟨_, _, rfl⟩ h1 w)
  have KS2 := Lib.hid (fun w => Dt.Sound_leaf 5 s2 (.slice none 0 0) (.inr (.inr (.inl rfl))) ⟨_, _, rfl⟩ h2 w)
  have KS3 := Lib.hid (fun ad cap w => Dt.Sound_leaf 1 ⟨#[]⟩ (.slice ad 0 cap) (.inl ⟨rfl, rfl⟩) ⟨_, _, rfl⟩ hV w)
  have KC1 := Lib.hid (fun w => Dt.Copy_leaf 6 s1 (.slice none 0 0) (.inr (.inr (.inr rfl))) ⟨_, _, rfl⟩ w)
  have KC2 := Lib.hid (fun w => Dt.Copy_leaf 5 s2 (.slice none 0 0) (.inr (.inr (.inl rfl))) ⟨_, _, rfl⟩ w)
  clear hV h1 h2
  obtain ⟨i0, hi, hz0, hz1, hz2⟩ := info_parts Co.infoSimple
  have hq1 : ∀ o o2, ((w.alloc o).alloc o2).heap[w.heap.size + 1]? = some o2 := by
    intro o o2
    have := heap_alloc_new (w.alloc o) o2
    rwa [show (w.alloc o).heap.size = w.heap.size + 1 by simp] at this
  have hq0 : ∀ o o2, ((w.alloc o).alloc o2).heap[w.heap.size]? = some o := fun o o2 => (Lib.alloc_old _ _ _ (by simp)).trans (heap_alloc_new w o)
  have hb0 : ∀ o o2, Below w.heap.size w ((w.alloc o).alloc o2) := fun o o2 => ((Below.refl _ _).alloc (Nat.le_refl _) _).alloc (by simp) _
  have hsz : ∀ o o2, ((w.alloc o).alloc o2).heap.size = w.heap.size + 2 := by intro o o2; simp
  unfold Dt.leaf Dt.cells at *
  go_enter Tryz.func53, Tryz.ntmps53
  go_wp2_with fail
  refine (KO.out _).mono ?_
  rintro x w1 ⟨⟨ad, cap, rfl⟩, hb1⟩
  have q0 := (hb1.block w.heap.size (by rw [hsz]; omega)).trans (hq0 _ _)
  have q1 := (hb1.block (w.heap.size + 1) (by rw [hsz]; omega)).trans (hq1 _ _)
  have HB1 := Lib.hid ((hb0 _ _).trans (hb1.mono (by rw [hsz]; omega)))
  have l0 : w.heap.size < w1.heap.size := (Array.getElem?_eq_some_iff.1 q0).1
  have l1 : w.heap.size + 1 < w1.heap.size := (Array.getElem?_eq_some_iff.1 q1).1
  have q2 : ∀ o, (w1.alloc o).heap[w1.heap.size]? = some o := fun o => heap_alloc_new w1 o
  have Q0 := Lib.hid q0
  have Q1 := Lib.hid q1
  have Q2 := Lib.hid q2
  obtain ⟨a0, a1, a2, a3, a4, a5, a6, a7, a8, a9, a10⟩ := Dt.cells11 q0
  clear q0 q1 q2 hb1 hb0 hq0 hq1 hsz KO
  go_wp2_with fail
  refine (KS1.out _).mono ?_
  rintro x w2 ⟨rfl, hb2⟩
  have e1 : ∀ o, (w1.alloc o).heap.size = w1.heap.size + 1 := by intro o; simp
  have q0 := (hb2.block w.heap.size (by rw [e1]; omega)).trans ((Lib.alloc_old _ _ _ l0).trans Q0.out)
  have q1 := (hb2.block (w.heap.size + 1) (by rw [e1]; omega)).trans ((Lib.alloc_old _ _ _ l1).trans Q1.out)
  have q2 := (hb2.block w1.heap.size (by rw [e1]; omega)).trans (Q2.out _)
  have HB2 := Lib.hid ((HB1.out.alloc (Nat.le_of_lt l0) _).trans (hb2.mono (by rw [e1]; omega)))
  clear Q0 Q1 Q2 a0 a1 a2 a3 a4 a5 a6 a7 a8 a9 a10 hb2 e1 KS1 l0 l1
  have l0 : w.heap.size < w2.heap.size := (Array.getElem?_eq_some_iff.1 q0).1
  have l1 : w.heap.size + 1 < w2.heap.size := (Array.getElem?_eq_some_iff.1 q1).1
  have l2 : w1.heap.size < w2.heap.size := (Array.getElem?_eq_some_iff.1 q2).1
  have Q0 := Lib.hid q0
  have Q1 := Lib.hid q1
  have Q2 := Lib.hid q2
  obtain ⟨a0, a1, a2, a3, a4, a5, a6, a7, a8, a9, a10⟩ := Dt.cells11 q1
  clear q0 q1 q2
  go_wp2_with fail
  refine (KS2.out _).mono ?_
  rintro x w3 ⟨rfl, hb3⟩
  have q0 := (hb3.block w.heap.size l0).trans Q0.out
  have q1 := (hb3.block (w.heap.size + 1) l1).trans Q1.out
  have q2 := (hb3.block w1.heap.size l2).trans Q2.out
  have HB3 := Lib.hid (HB2.out.trans (hb3.mono (Nat.le_of_lt l0)))
  clear Q0 Q1 Q2 a0 a1 a2 a3 a4 a5 a6 a7 a8 a9 a10 hb3 KS2 l0 l1 l2
  have l0 : w.heap.size < w3.heap.size := (Array.getElem?_eq_some_iff.1 q0).1
  have l1 : w.heap.size + 1 < w3.heap.size := (Array.getElem?_eq_some_iff.1 q1).1
  have l2 : w1.heap.size < w3.heap.size := (Array.getElem?_eq_some_iff.1 q2).1
  have Q0 := Lib.hid q0
  have Q1 := Lib.hid q1
  have Q2 := Lib.hid q2
  obtain ⟨a0, a1, a2, a3, a4, a5, a6, a7, a8, a9, a10⟩ := Dt.cells11 q2
  clear q0 q1 q2
  go_wp2_with fail
  refine (KS3.out _ _ _).mono ?_
  rintro x w4 ⟨rfl, hb4⟩
  have q0 := (hb4.block w.heap.size l0).trans Q0.out
  have q1 := (hb4.block (w.heap.size + 1) l1).trans Q1.out
  have q2 := (hb4.block w1.heap.size l2).trans Q2.out
  have HB4 := Lib.hid (HB3.out.trans (hb4.mono (Nat.le_of_lt l0)))
  clear Q0 Q1 Q2 a0 a1 a2 a3 a4 a5 a6 a7 a8 a9 a10 hb4 KS3 l0 l1 l2
  have l0 : w.heap.size < w4.heap.size := (Array.getElem?_eq_some_iff.1 q0).1
  have l1 : w.heap.size + 1 < w4.heap.size := (Array.getElem?_eq_some_iff.1 q1).1
  have l2 : w1.heap.size < w4.heap.size := (Array.getElem?_eq_some_iff.1 q2).1
  have Q0 := Lib.hid q0
  have Q1 := Lib.hid q1
  have Q2 := Lib.hid q2
  obtain ⟨a0, a1, a2, a3, a4, a5, a6, a7, a8, a9, a10⟩ := Dt.cells11 q0
  have hq6 : ∀ o, (w4.alloc o).heap[w4.heap.size]? = some o := fun o => heap_alloc_new w4 o
  have e4 : ∀ o, (w4.alloc o).heap.size = w4.heap.size + 1 := by intro o; simp
  clear q0 q1 q2
  go_wp2_with fail
  refine (KC1.out _).mono ?_
  rintro x w5 ⟨⟨ad1, cap1, rfl⟩, hb5⟩
  have q0 := (hb5.block w.heap.size (by rw [e4]; omega)).trans ((Lib.alloc_old _ _ _ l0).trans Q0.out)
  have q1 := (hb5.block (w.heap.size + 1) (by rw [e4]; omega)).trans ((Lib.alloc_old _ _ _ l1).trans Q1.out)
  have q2 := (hb5.block w1.heap.size (by rw [e4]; omega)).trans ((Lib.alloc_old _ _ _ l2).trans Q2.out)
  have q6 := (hb5.block w4.heap.size (by rw [e4]; omega)).trans (hq6 _)
  have HB5 := Lib.hid ((HB4.out.alloc (Nat.le_of_lt l0) _).trans (hb5.mono (by rw [e4]; omega)))
  clear Q0 Q1 Q2 a0 a1 a2 a3 a4 a5 a6 a7 a8 a9 a10 hb5 e4 hq6 KC1
  have l40 := l0
  have l0 : w.heap.size < w5.heap.size := (Array.getElem?_eq_some_iff.1 q0).1
  have l1 : w.heap.size + 1 < w5.heap.size := (Array.getElem?_eq_some_iff.1 q1).1
  have l2 : w1.heap.size < w5.heap.size := (Array.getElem?_eq_some_iff.1 q2).1
  have l6 : w4.heap.size < w5.heap.size := (Array.getElem?_eq_some_iff.1 q6).1
  have Q0 := Lib.hid q0
  have Q1 := Lib.hid q1
  have Q2 := Lib.hid q2
  have hrow : ∀ o o2, ((w5.alloc o).alloc o2).ownsRow w4.heap.size 53 2 (.slice (some ⟨w4.heap.size, 0, none⟩) 1 1) 1 [.int .i64 6, .slice none 0 0] := fun o o2 =>
    ⟨by simp <;> omega, .inr ⟨w4.heap.size, 1, _, rfl, Nat.le_refl _, (Lib.alloc_old _ _ _ (by simp; omega)).trans ((Lib.alloc_old _ _ _ l6).trans q6), by omega, by unfold maxLen; omega, by simp, by simp⟩⟩
  have hnew : ∀ o o2, ((w5.alloc o).alloc o2).heap[w5.heap.size + 1]? = some o2 := by
    intro o o2
    have := heap_alloc_new (w5.alloc o) o2
    rwa [show (w5.alloc o).heap.size = w5.heap.size + 1 by simp] at this
  have hnew0 : ∀ o o2, ((w5.alloc o).alloc o2).heap[w5.heap.size]? = some o := fun o o2 => (Lib.alloc_old _ _ _ (by simp)).trans (heap_alloc_new w5 o)
  clear q0 q1 q2 q6
  go_wp2_with (at_builtin; refine wpList_append_own _ rfl _ _ 47 rfl w4.heap.size 53 i0 (.agg #[.int .i64 0, .slice none 0 0]) 2 32 Tryz.underlying47 hi hz0 hz1 hz2 rfl (by decide) _ _ _ rfl (hrow _ _) ⟨w5.heap.size + 1, 0, none⟩ 1 1 [.int .i64 8, .slice (some ⟨w5.heap.size, 0, none⟩) 1 1] rfl rfl (Dt.row_at (hnew _ _)) ?c2 ?c3 ?c4 ?c5 ?_)
  case c2 => intro u hu; simp only [List.mem_cons, List.not_mem_nil, or_false] at hu; rcases hu with rfl | rfl <;> rfl
  case c3 => first | decide | omega | (unfold maxLen; omega)
  case c4 => first | decide | omega
  case c5 => simp <;> omega
  intro v6 w6 hown6 hgrow6 _
  obtain ⟨g6, c6, rfl⟩ : ∃ g c, v6 = .slice (some ⟨g, 0, none⟩) 2 c := by
    rcases hown6.2 with ⟨_, h0⟩ | ⟨g, cap, cur, hv, _⟩
    · omega
    · exact ⟨g, cap, hv⟩
  have q1 := (hgrow6.block (w.heap.size + 1) (by simp; omega) (by simp [Value.ownBlock]; omega)).trans ((Lib.alloc_old _ _ _ (by simp; omega)).trans ((Lib.alloc_old _ _ _ l1).trans Q1.out))
  have q2 := (hgrow6.block w1.heap.size (by simp; omega) (by simp [Value.ownBlock]; omega)).trans ((Lib.alloc_old _ _ _ (by simp; omega)).trans ((Lib.alloc_old _ _ _ l2).trans Q2.out))
  have q7 := (hgrow6.block w5.heap.size (by simp; omega) (by simp [Value.ownBlock]; omega)).trans (hnew0 _ _)
  have HB6 := Lib.hid ((((HB5.out.alloc (Nat.le_of_lt l0) _).alloc (by simp; omega) _).grown hgrow6 (by simp; omega) (fun k hk => by simp [Value.ownBlock] at hk; omega)))
  have HO6 := Lib.hid hown6
  have l06 : w.heap.size < w6.heap.size := by have := (Array.getElem?_eq_some_iff.1 q1).1; omega
  have l16 : w.heap.size + 1 < w6.heap.size := (Array.getElem?_eq_some_iff.1 q1).1
  have l26 : w1.heap.size < w6.heap.size := (Array.getElem?_eq_some_iff.1 q2).1
  have l76 : w5.heap.size < w6.heap.size := (Array.getElem?_eq_some_iff.1 q7).1
  clear Q0 Q1 Q2 hgrow6 hown6 hrow hnew hnew0 HB1 HB2 HB3 HB4 HB5
  have Q1 := Lib.hid q1
  have Q2 := Lib.hid q2
  have Q7 := Lib.hid q7
  have HFIN := Lib.hid (fun W8 w9 v9 f2 f3 b2 b3 ad2 cap2 h1 h2 h3 h4 h5 h6 h7 => Co.four_end w w6 W8 w9 w4.heap.size w5.heap.size b2 b3 (.slice (some ⟨g6, 0, none⟩) 2 c6) v9 f2 f3 s1 s2 ad1 cap1 ad2 cap2 ad cap HO6.out HB6.out Q7.out (by omega) (by omega) l40 h1 h2 h3 h4 h5 h6 h7)
  have hk6 : Co.Keep22 (w.heap.size + 1) w1.heap.size s2 ad cap w6 := Co.Keep22.mk q1 q2
  clear q1 q2 q7
  go_wp2_with fail
  have h46 : w4.heap.size ≤ w6.heap.size := by omega
  obtain ⟨k0, k1, k2, k3, k4, k5, k6, k7, k8, k9, k10, k11, k12, k13, k14, k15, k16, k17, k18, k19, k20, k21⟩ := hk6
  have HK6 := Lib.hid (show Co.Keep22 (w.heap.size + 1) w1.heap.size s2 ad cap w6 from ⟨k0, k1, k2, k3, k4, k5, k6, k7, k8, k9, k10, k11, k12, k13, k14, k15, k16, k17, k18, k19, k20, k21⟩)
  go_region_held3 (fun w' => w'.cell? ⟨w.heap.size + 1, 0, none⟩ = some (.int .i64 5) ∧ w'.cell? ⟨w.heap.size + 1, 1, none⟩ = some (.int .i64 0) ∧ w'.cell? ⟨w.heap.size + 1, 2, none⟩ = some (.bool false) ∧ w'.cell? ⟨w.heap.size + 1, 3, none⟩ = some (.slice none 0 0) ∧ w'.cell? ⟨w.heap.size + 1, 4, none⟩ = some (.slice none 0 0) ∧ w'.cell? ⟨w.heap.size + 1, 5, none⟩ = some (.bool false) ∧ w'.cell? ⟨w.heap.size + 1, 6, none⟩ = some (.slice none 0 0) ∧ w'.cell? ⟨w.heap.size + 1, 7, none⟩ = some (.slice none 0 0) ∧ w'.cell? ⟨w.heap.size + 1, 8, none⟩ = some (.string s2) ∧ w'.cell? ⟨w.heap.size + 1, 9, none⟩ = some (.slice none 0 0) ∧ w'.cell? ⟨w.heap.size + 1, 10, none⟩ = some (.slice none 0 0) ∧ w'.cell? ⟨w1.heap.size, 0, none⟩ = some (.int .i64 1) ∧ w'.cell? ⟨w1.heap.size, 1, none⟩ = some (.int .i64 0) ∧ w'.cell? ⟨w1.heap.size, 2, none⟩ = some (.bool false) ∧ w'.cell? ⟨w1.heap.size, 3, none⟩ = some (.slice none 0 0) ∧ w'.cell? ⟨w1.heap.size, 4, none⟩ = some (.slice none 0 0) ∧ w'.cell? ⟨w1.heap.size, 5, none⟩ = some (.bool false) ∧ w'.cell? ⟨w1.heap.size, 6, none⟩ = some (.slice none 0 0) ∧ w'.cell? ⟨w1.heap.size, 7, none⟩ = some (.slice none 0 0) ∧ w'.cell? ⟨w1.heap.size, 8, none⟩ = some (.string ⟨#[]⟩) ∧ w'.cell? ⟨w1.heap.size, 9, none⟩ = some (.slice none 0 0) ∧ w'.cell? ⟨w1.heap.size, 10, none⟩ = some (.slice ad 0 cap))
    (first | go_keep | exact hkeep)
    (first
      | (go_at_call 44
         refine (KC2.out _).mono ?_
         rintro x w7 ⟨⟨ad2, cap2, rfl⟩, hb7⟩
         have h7 := Co.via_drew hb7
         have hkeep := HK6.out.below h7 l16 l26)
      | (go_at_call 44
         refine (KC2.out _).mono ?_
         rintro x w7 ⟨⟨ad2, cap2, rfl⟩, hb7⟩
         have h7 := (Co.via_alloc hb7).1
         have h73 := (Co.via_alloc hb7).2
         have hkeep := HK6.out.below h7 l16 l26)
      | (have NN := Co.new2 w7
         refine Dt.step_append_own (by rfl) _ _ _ (by rfl) w4.heap.size 53 i0 (.agg #[.int .i64 0, .slice none 0 0]) 2 32 Tryz.underlying47 hi hz0 hz1 hz2 rfl (by decide) _ (1 + 1) _ (by rfl) (Dt.own_below HO6.out (h7.trans (((NN _ _).2.2.2).mono h7.size)) (Nat.le_refl _)) ⟨w7.heap.size + 1, 0, none⟩ 2 2 [.int .i64 1, .slice (some ⟨w7.heap.size, 0, none⟩) 1 1, .int .i64 7, .slice (some ⟨w6.heap.size, 0, none⟩) 1 1] (by rfl) rfl (Dt.row_at (NN _ _).1) (by intro u hu; simp only [List.mem_cons, List.not_mem_nil, or_false] at hu; rcases hu with rfl | rfl | rfl | rfl <;> rfl) (by decide) (by decide) (Nat.le_trans h46 (h7.trans ((NN _ _).2.2.2.mono h7.size)).size) ?_
         intro v9 w9 hown9 hgrow9 _
         have hfin := HFIN.out _ w9 v9 _ _ _ _ ad2 cap2 (h7.trans (((NN _ _).2.2.2).mono h7.size)) hown9 hgrow9 rfl rfl (NN _ _).2.1 (((NN _ _).2.2.2.block _ (Array.getElem?_eq_some_iff.1 h73).1).trans h73)
         have hkeep := Co.Keep22.mk (hfin.2.2 _ _ (((h7.trans ((NN _ _).2.2.2.mono h7.size)).block _ l16).trans Q1.out)) (hfin.2.2 _ _ (((h7.trans ((NN _ _).2.2.2.mono h7.size)).block _ l26).trans Q2.out))
         clear hown9 hgrow9 NN)
      | (have NN := Co.new3 w7
         refine Dt.step_append_own (by rfl) _ _ _ (by rfl) w4.heap.size 53 i0 (.agg #[.int .i64 0, .slice none 0 0]) 2 32 Tryz.underlying47 hi hz0 hz1 hz2 rfl (by decide) _ (1 + 1) _ (by rfl) (Dt.own_below HO6.out (h7.trans (((NN _ _ _).2.2.2.2).mono h7.size)) (Nat.le_refl _)) ⟨w7.heap.size + 1 + 1, 0, none⟩ 2 2 [.int .i64 1, .slice (some ⟨w7.heap.size, 0, none⟩) 1 1, .int .i64 7, .slice (some ⟨w7.heap.size + 1, 0, none⟩) 1 1] (by rfl) rfl (Dt.row_at (NN _ _ _).1) (by intro u hu; simp only [List.mem_cons, List.not_mem_nil, or_false] at hu; rcases hu with rfl | rfl | rfl | rfl <;> rfl) (by decide) (by decide) (Nat.le_trans h46 (h7.trans ((NN _ _ _).2.2.2.2.mono h7.size)).size) ?_
         intro v9 w9 hown9 hgrow9 _
         have hfin := HFIN.out _ w9 v9 _ _ _ _ ad2 cap2 (h7.trans (((NN _ _ _).2.2.2.2).mono h7.size)) hown9 hgrow9 rfl rfl (NN _ _ _).2.2.1 (NN _ _ _).2.1
         have hkeep := Co.Keep22.mk (hfin.2.2 _ _ (((h7.trans ((NN _ _ _).2.2.2.2.mono h7.size)).block _ l16).trans Q1.out)) (hfin.2.2 _ _ (((h7.trans ((NN _ _ _).2.2.2.2.mono h7.size)).block _ l26).trans Q2.out))
         clear hown9 hgrow9 NN)
      | (have NN := Co.new3 w7
         refine Dt.step_append_own (by rfl) _ _ _ (by rfl) w4.heap.size 53 i0 (.agg #[.int .i64 0, .slice none 0 0]) 2 32 Tryz.underlying47 hi hz0 hz1 hz2 rfl (by decide) _ (1 + 1) _ (by rfl) (Dt.own_below HO6.out (h7.trans (((NN _ _ _).2.2.2.2).mono h7.size)) (Nat.le_refl _)) ⟨w7.heap.size + 1 + 1, 0, none⟩ 2 2 [.int .i64 1, .slice (some ⟨w7.heap.size + 1, 0, none⟩) 1 1, .int .i64 7, .slice (some ⟨w7.heap.size, 0, none⟩) 1 1] (by rfl) rfl (Dt.row_at (NN _ _ _).1) (by intro u hu; simp only [List.mem_cons, List.not_mem_nil, or_false] at hu; rcases hu with rfl | rfl | rfl | rfl <;> rfl) (by decide) (by decide) (Nat.le_trans h46 (h7.trans ((NN _ _ _).2.2.2.2.mono h7.size)).size) ?_
         intro v9 w9 hown9 hgrow9 _
         have hfin := HFIN.out _ w9 v9 _ _ _ _ ad2 cap2 (h7.trans (((NN _ _ _).2.2.2.2).mono h7.size)) hown9 hgrow9 rfl rfl (NN _ _ _).2.1 (NN _ _ _).2.2.1
         have hkeep := Co.Keep22.mk (hfin.2.2 _ _ (((h7.trans ((NN _ _ _).2.2.2.2.mono h7.size)).block _ l16).trans Q1.out)) (hfin.2.2 _ _ (((h7.trans ((NN _ _ _).2.2.2.2.mono h7.size)).block _ l26).trans Q2.out))
         clear hown9 hgrow9 NN))
  all_goals
    have hres := hfin.1
    have hbel := hfin.2.1
    have HRES := Lib.hid hres
    have HBEL := Lib.hid hbel
    clear hres hbel hfin hkeep HFIN
    go_wp2_with fail
    go_ret2
    exact ⟨_, rfl, HRES.out, HBEL.out⟩
end Go.Proofs.YtikmebkfdpbidaaGreatDoor
