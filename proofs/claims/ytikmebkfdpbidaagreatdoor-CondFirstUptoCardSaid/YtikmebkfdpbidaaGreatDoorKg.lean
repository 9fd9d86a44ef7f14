/-
  Data whose nodes are sound; a datum with a hole.
-/
import Derived.Test.YtikmebkfdpbidaaGreatDoorKf
namespace Go.Proofs.YtikmebkfdpbidaaGreatDoor
open Go.RowKit
set_option linter.unusedVariables false
set_option linter.unusedSimpArgs false

mutual
/-- Each node is sound by its kind. -/
def Tr.good : Tr → Prop
  | .mk h l => h.shape l.length = true ∧ Tr.goodL l
def Tr.goodL : List Tr → Prop
  | [] => True
  | t :: ts => Tr.good t ∧ Tr.goodL ts
end
theorem Tr.good_mk {h : Tr.Hd} {l : List Tr} : Tr.good (.mk h l) ↔ h.shape l.length = true ∧ Tr.goodL l := by rw [Tr.good]
theorem Tr.goodL_cons {t : Tr} {ts : List Tr} : Tr.goodL (t :: ts) ↔ Tr.good t ∧ Tr.goodL ts := by rw [Tr.goodL]
theorem Tr.goodL_nil : Tr.goodL [] := by rw [Tr.goodL]; trivial
theorem Tr.goodL_at : ∀ (l : List Tr), Tr.goodL l → ∀ (k : Nat) (t : Tr), l[k]? = some t → Tr.good t
  | [], _, k, t, h => by simp at h
  | x :: ts, hg, 0, t, h => by
    obtain rfl : x = t := by simpa using h
    exact (Tr.goodL_cons.1 hg).1
  | x :: ts, hg, k + 1, t, h => Tr.goodL_at ts (Tr.goodL_cons.1 hg).2 k t (by simpa using h)
mutual
theorem Tr.snd_good : ∀ (t : Tr) (d : Nat) (left : Int), (Tr.snd t d left).1 = true → Tr.good t
  | .mk h l, d, left, hs => by
    by_cases hb : left - 1 < 0 ∨ 200 < d ∨ h.shape l.length = false
    · rw [Tr.snd_bad hb] at hs; cases hs
    · have hsh : h.shape l.length = true := by
        cases e : h.shape l.length with
        | true => rfl
        | false => exact absurd (Or.inr (Or.inr e)) hb
      rw [Tr.good_mk]
      refine ⟨hsh, ?_⟩
      by_cases hk : h.k = 8
      · have hl := Tr.Hd.shape_pair hsh hk
        match l, hl with
        | [a, b], _ =>
          rw [Tr.snd_pair hb hk] at hs
          split at hs
          · rename_i h1
            exact Tr.goodL_cons.2 ⟨Tr.snd_good a _ _ h1, Tr.goodL_cons.2 ⟨Tr.snd_good b _ _ hs, Tr.goodL_nil⟩⟩
          · cases hs
      · rw [Tr.snd_list hb hk] at hs
        exact Tr.sndL_good l _ _ hs
theorem Tr.sndL_good : ∀ (l : List Tr) (d : Nat) (left : Int), (Tr.sndL l d left).1 = true → Tr.goodL l
  | [], d, left, _ => Tr.goodL_nil
  | t :: ts, d, left, hs => by
    rw [Tr.sndL_cons] at hs
    split at hs
    · rename_i h1
      exact Tr.goodL_cons.2 ⟨Tr.snd_good t _ _ h1, Tr.sndL_good ts _ _ hs⟩
    · cases hs
end
theorem Tr.sound_good {t : Tr} (h : Tr.sound t = true) : Tr.good t := Tr.snd_good t _ _ h
/-- A datum but for one node, which lies at oA in block bA: whatever stands there as 'cu' makes 't' of what stands at OB. -/
def Tr.Hole (B0 : Nat) (wr : World) (bA oA OB : Nat) (t cu : Tr) : Prop := ∀ (w'' : World) (C' : Array Value), wr.heap.size ≤ w''.heap.size → (∀ q, B0 ≤ q → q < wr.heap.size → q ≠ bA → w''.heap[q]? = wr.heap[q]?) → (∀ o, o < oA → w''.cell? ⟨bA, o, none⟩ = wr.cell? ⟨bA, o, none⟩) → Tr.In w'' (fun q => B0 ≤ q) cu (.agg C') → Tr.Mem w'' bA oA C' → ∃ Cout, Tr.Mem w'' OB 0 Cout ∧ Tr.In w'' (fun q => B0 ≤ q) t (.agg Cout)
theorem Tr.Hole.start (B0 : Nat) (w : World) (OB : Nat) (t : Tr) : Tr.Hole B0 w OB 0 OB t t := fun w'' C' _ _ _ hI hM => ⟨C', hM, hI⟩
theorem Tr.Hole.kept {B0 : Nat} {wr wr' : World} {bA oA OB : Nat} {t cu : Tr} (h : Tr.Hole B0 wr bA oA OB t cu) (hz : wr.heap.size ≤ wr'.heap.size) (hk : ∀ q, B0 ≤ q → q < wr.heap.size → q ≠ bA → wr'.heap[q]? = wr.heap[q]?) (hc : ∀ o, o < oA → wr'.cell? ⟨bA, o, none⟩ = wr.cell? ⟨bA, o, none⟩) : Tr.Hole B0 wr' bA oA OB t cu :=
  fun w'' C' h1 h2 h3 hI hM => h w'' C' (Nat.le_trans hz h1) (fun q a b c => (h2 q a (Nat.lt_of_lt_of_le b hz) c).trans (hk q a b c)) (fun o ho => (h3 o ho).trans (hc o ho)) hI hM
/-- Words that are none: their slice lies anywhere. -/
theorem Tr.none_in {w w' : World} {v : Value} {ws : List Nat} (h : Nt.In w v ws) (h0 : ws.length = 0) : Nt.In w' v ws := by
  rcases h with h | h | ⟨h1, _⟩
  · exact .inl h
  · exact .inr (.inl h)
  · omega
theorem Tr.none_raw {w w' : World} {v : Value} {s : ByteArray} (h : By.In w v s) (h0 : s.size = 0) : By.In w' v s := by
  rcases h with h | h | ⟨h1, _⟩
  · exact .inl h
  · exact .inr (.inl h)
  · omega
theorem Tr.On.zero (S : Nat → Prop) (v : Value) : Tr.On S v 0 := fun h => absurd h (by omega)
/-- The next hole: a pair whose first datum is copied and whose second is to be copied. -/
theorem Tr.Hole.next {B0 : Nat} {w0 wr : World} {bA oA OB Lb : Nat} {t : Tr} {hc : Tr.Hd} {a b : Tr} {u3 u4 u6 u7 v9 : Value} {Ca : Array Value}
    (h : Tr.Hole B0 w0 bA oA OB t (.mk hc [a, b])) (hz0 : w0.heap.size ≤ Lb) (hk0 : ∀ q, B0 ≤ q → q < w0.heap.size → q ≠ bA → wr.heap[q]? = w0.heap[q]?) (hc0 : ∀ o, o < oA → wr.cell? ⟨bA, o, none⟩ = w0.cell? ⟨bA, o, none⟩) (hlt : bA < wr.heap.size) (hLlt : Lb < wr.heap.size) (hne : bA ≠ Lb) (hB : B0 ≤ bA) (hBL : B0 ≤ Lb)
    (hH : Tr.Hd.In wr (fun q => B0 ≤ q ∧ q ≠ Lb) hc u3 u4 u6 u7 v9) (hA : Tr.In wr (fun q => B0 ≤ q ∧ q ≠ Lb) a (.agg Ca)) (hMA : Tr.Mem wr Lb 0 Ca)
    (hM : Tr.Mem wr bA oA (Tr.cells hc u3 u4 u6 u7 v9 (.slice (some ⟨Lb, 0, none⟩) 2 2))) : Tr.Hole B0 wr Lb 11 OB t b := by
  intro w'' C' h1 h2 h3 hI hMb
  have hk : Tr.Kept (fun q => B0 ≤ q ∧ q ≠ Lb) wr w'' := ⟨h1, fun q hq hl => h2 q hq.1 hl hq.2⟩
  have hM'' : Tr.Mem w'' bA oA (Tr.cells hc u3 u4 u6 u7 v9 (.slice (some ⟨Lb, 0, none⟩) 2 2)) := hM.kept hk ⟨hB, hne⟩ hlt
  have hMA'' : Tr.Mem w'' Lb 0 Ca := fun j hj => by
    obtain ⟨u, e1, e2⟩ := hMA j hj
    exact ⟨u, e1, (h3 (0 + j) (by omega)).trans e2⟩
  refine h w'' _ (by omega) (fun q q1 q2 q3 => (h2 q q1 (by omega) (by omega)).trans (hk0 q q1 q2 q3)) (fun o ho => (hk.cell ⟨hB, hne⟩ hlt).trans (hc0 o ho)) (?_ : Tr.In w'' (fun q => B0 ≤ q) (.mk hc [a, b]) (.agg (Tr.cells hc u3 u4 u6 u7 v9 (.slice (some ⟨Lb, 0, none⟩) 2 2)))) hM''
  rw [Tr.In_mk]
  refine ⟨u3, u4, u6, u7, v9, _, rfl, (hH.kept hk).mono (fun q hq => hq.1), .inr (.inr ⟨by simp, Lb, 0, 2, by simp, by simp, by decide, Nat.lt_of_lt_of_le hLlt h1, hBL, ?_⟩)⟩
  show Tr.All w'' (fun q => B0 ≤ q) [a, b] Lb 0
  rw [Tr.All_cons, Tr.All_cons]
  exact ⟨⟨Ca, Tr.In.mono (fun q hq => hq.1) a _ (Tr.In.kept hk a _ hA), hMA''⟩, ⟨C', hI, by simpa using hMb⟩, Tr.All_nil⟩
theorem Tr.Blk.mem {w : World} {b off : Nat} {cur C : Array Value} (h : Tr.Blk w b cur) (hm : ∀ j, j < 11 → cur[off + j]? = C[j]?) (hC : C.size = 11) : Tr.Mem w b off C := fun j hj =>
  ⟨C[j]'(by omega), Array.getElem?_eq_getElem _, (h.cell _).trans ((hm j hj).trans (Array.getElem?_eq_getElem _))⟩
theorem Tr.cases11 {P : Nat → Prop} (h0 : P 0) (h1 : P 1) (h2 : P 2) (h3 : P 3) (h4 : P 4) (h5 : P 5) (h6 : P 6) (h7 : P 7) (h8 : P 8) (h9 : P 9) (h10 : P 10) : ∀ j, j < 11 → P j := by
  intro j hj
  rcases (show j = 0 ∨ j = 1 ∨ j = 2 ∨ j = 3 ∨ j = 4 ∨ j = 5 ∨ j = 6 ∨ j = 7 ∨ j = 8 ∨ j = 9 ∨ j = 10 by omega) with rfl | rfl | rfl | rfl | rfl | rfl | rfl | rfl | rfl | rfl | rfl <;> assumption
theorem Tr.mem_set9 {cur : Array Value} {off : Nat} {h : Tr.Hd} {u3 u4 u6 u7 u9 u10 : Value} (hm : ∀ j, j < 11 → cur[off + j]? = (Tr.cells h u3 u4 u6 u7 u9 u10)[j]?) (hs : off + 11 ≤ cur.size) (v : Value) : ∀ j, j < 11 → (cur.set! (off + 9) v)[off + j]? = (Tr.cells h u3 u4 u6 u7 v u10)[j]? := by
  intro j hj
  rw [Tr.set_get _ _ _ _ (by omega)]
  by_cases e : j = 9
  · subst e; rw [if_pos rfl]; rfl
  · rw [if_neg (by omega), hm j hj]
    rcases (show j = 0 ∨ j = 1 ∨ j = 2 ∨ j = 3 ∨ j = 4 ∨ j = 5 ∨ j = 6 ∨ j = 7 ∨ j = 8 ∨ j = 10 by omega) with rfl | rfl | rfl | rfl | rfl | rfl | rfl | rfl | rfl | rfl <;> rfl
theorem Tr.mem_set10 {cur : Array Value} {off : Nat} {h : Tr.Hd} {u3 u4 u6 u7 u9 u10 : Value} (hm : ∀ j, j < 11 → cur[off + j]? = (Tr.cells h u3 u4 u6 u7 u9 u10)[j]?) (hs : off + 11 ≤ cur.size) (v : Value) : ∀ j, j < 11 → (cur.set! (off + 10) v)[off + j]? = (Tr.cells h u3 u4 u6 u7 u9 v)[j]? := by
  intro j hj
  rw [Tr.set_get _ _ _ _ (by omega)]
  by_cases e : j = 10
  · subst e; rw [if_pos rfl]; rfl
  · rw [if_neg (by omega), hm j hj]
    rcases (show j = 0 ∨ j = 1 ∨ j = 2 ∨ j = 3 ∨ j = 4 ∨ j = 5 ∨ j = 6 ∨ j = 7 ∨ j = 8 ∨ j = 9 by omega) with rfl | rfl | rfl | rfl | rfl | rfl | rfl | rfl | rfl | rfl <;> rfl
/-- The number's six cells, stored anew. -/
theorem Tr.mem_set6 {cur cur' : Array Value} {off : Nat} {h : Tr.Hd} {u3 u4 u6 u7 u9 u10 v3 v4 v6 v7 : Value} (hm : ∀ j, j < 11 → cur[off + j]? = (Tr.cells h u3 u4 u6 u7 u9 u10)[j]?) (h6 : ∀ j, j < 6 → cur'[off + 2 + j]? = (#[.bool h.s1, v3, v4, .bool h.s2, v6, v7] : Array Value)[j]?) (ho : ∀ o, (o < off + 2 ∨ off + 2 + 6 ≤ o) → cur'[o]? = cur[o]?) : ∀ j, j < 11 → cur'[off + j]? = (Tr.cells h v3 v4 v6 v7 u9 u10)[j]? := by
  refine Tr.cases11 ?_ ?_ ?_ ?_ ?_ ?_ ?_ ?_ ?_ ?_ ?_
  · exact (ho _ (by omega)).trans (hm 0 (by decide))
  · exact (ho _ (by omega)).trans (hm 1 (by decide))
  · exact h6 0 (by decide)
  · exact h6 1 (by decide)
  · exact h6 2 (by decide)
  · exact h6 3 (by decide)
  · exact h6 4 (by decide)
  · exact h6 5 (by decide)
  · exact (ho _ (by omega)).trans (hm 8 (by decide))
  · exact (ho _ (by omega)).trans (hm 9 (by decide))
  · exact (ho _ (by omega)).trans (hm 10 (by decide))
theorem Tr.Hole.setAt {B0 : Nat} {wr wr' : World} {bA oA OB : Nat} {t cu : Tr} {cur cur' : Array Value} (h : Tr.Hole B0 wr bA oA OB t cu) (hz : wr.heap.size ≤ wr'.heap.size) (hk : ∀ q, q ≠ bA → q < wr.heap.size → B0 ≤ q → wr'.heap[q]? = wr.heap[q]?) (h1 : Tr.Blk wr bA cur) (h2 : Tr.Blk wr' bA cur') (ho : ∀ o, o < oA → cur'[o]? = cur[o]?) : Tr.Hole B0 wr' bA oA OB t cu :=
  h.kept hz (fun q a b c => hk q c b a) (fun o hlt => by rw [h2.cell, h1.cell, ho o hlt])
theorem Tr.num_none {h : Tr.Hd} {n : Nat} (hs : h.shape n = true) (hk : h.k ≠ 3) : h.t1.length = 0 ∧ h.b1.length = 0 ∧ h.t2.length = 0 ∧ h.b2.length = 0 := by
  unfold Tr.Hd.shape at hs
  simp only [Bool.and_eq_true] at hs
  have h1 := hs.1.1.1.1
  unfold Tr.Hd.num at h1
  rw [if_neg hk] at h1
  unfold Rt.noRat at h1
  simp only [Bool.and_eq_true, decide_eq_true_eq] at h1
  exact ⟨h1.1.1.2, h1.1.2, h1.2.1.2, h1.2.2⟩
theorem Tr.num_sound {h : Tr.Hd} {n : Nat} (hs : h.shape n = true) (hk : h.k = 3) : Rt.sound h.s1 h.t1 h.b1 = true ∧ Rt.sound h.s2 h.t2 h.b2 = true := by
  unfold Tr.Hd.shape at hs
  simp only [Bool.and_eq_true] at hs
  have h1 := hs.1.1.1.1
  unfold Tr.Hd.num at h1
  rw [if_pos hk] at h1
  simpa using h1
theorem Rt.FrN.open {B B' : Nat} {s tv bv s2 tv2 bv2 : Value} (h : Rt.FrN B (.agg #[s, tv, bv, s2, tv2, bv2])) (hB : B' ≤ B) : Nt.Fr B' tv ∧ Nt.Fr B' bv ∧ Nt.Fr B' tv2 ∧ Nt.Fr B' bv2 := by
  obtain ⟨x0, x1, x2, x3, x4, x5, e, h1, h2, h3, h4⟩ := h
  simp only [Value.agg.injEq] at e
  have e1 : tv = x1 := by have := congrArg (fun a : Array Value => a[1]?) e; simpa using this
  have e2 : bv = x2 := by have := congrArg (fun a : Array Value => a[2]?) e; simpa using this
  have e4 : tv2 = x4 := by have := congrArg (fun a : Array Value => a[4]?) e; simpa using this
  have e5 : bv2 = x5 := by have := congrArg (fun a : Array Value => a[5]?) e; simpa using this
  subst e1 e2 e4 e5
  exact ⟨h1.mono hB, h2.mono hB, h3.mono hB, h4.mono hB⟩
def Tr.zeroV : Value := .agg #[.int .i64 0, .int .i64 0, .bool false, .slice none 0 0, .slice none 0 0, .bool false, .slice none 0 0, .slice none 0 0, .string ⟨#[]⟩, .slice none 0 0, .slice none 0 0]
theorem Tr.infoD : (Tryz.prog.info? 30).map (fun i => (i.zero, i.size, i.bytes)) = some (some Tr.zeroV, 11, 192) := by kernel_rfl
/-- A row of n data is made. -/
theorem Tr.make (n : Nat) (w : World) (hn : n ≤ 1000000) : ∃ cur : Array Value, cur.size = n * 11 ∧ (Instr.makeSlice 28 (.int .i64 (n : Int)) (.int .i64 (n : Int))).run Tryz.prog w = .ok (.slice (some ⟨w.heap.size, 0, none⟩) n n) (w.alloc (.cells cur 30)) := by
  obtain ⟨i0, hi, hz0, hz1, hz2⟩ := info_parts Tr.infoD
  have := run_makeSlice (P := Tryz.prog) w 28 30 i0 Tr.zeroV Tryz.underlying28 hi hz0 .i64 .i64 n n (by omega) (by omega) (by rw [hz1]; omega) (by rw [hz2]; omega) (by omega)
  refine ⟨_, ?_, by rw [this]; rfl⟩
  simp [madeCells, hz1]
theorem Tr.len_le_size : ∀ (l : List Tr), l.length ≤ Tr.sizeL l
  | [] => Nat.zero_le _
  | t :: ts => by
    have := Tr.len_le_size ts
    have := Tr.size_pos t
    rw [Tr.sizeL_cons, List.length_cons]; omega
mutual
theorem Tr.snd_left : ∀ (t : Tr) (d : Nat) (left : Int), (Tr.snd t d left).1 = true → (Tr.snd t d left).2 = left - Tr.size t
  | .mk h l, d, left, hs => by
    by_cases hb : left - 1 < 0 ∨ 200 < d ∨ h.shape l.length = false
    · rw [Tr.snd_bad hb] at hs; cases hs
    · have hsh : h.shape l.length = true := by
        cases e : h.shape l.length with
        | true => rfl
        | false => exact absurd (Or.inr (Or.inr e)) hb
      rw [Tr.size_mk]
      by_cases hk : h.k = 8
      · have hl := Tr.Hd.shape_pair hsh hk
        match l, hl with
        | [a, b], _ =>
          rw [Tr.snd_pair hb hk] at hs ⊢
          split at hs
          · rename_i h1
            rw [if_pos h1, Tr.snd_left b _ _ hs, Tr.snd_left a _ _ h1, Tr.sizeL_cons, Tr.sizeL_cons, Tr.sizeL_nil]
            omega
          · cases hs
      · rw [Tr.snd_list hb hk] at hs ⊢
        rw [Tr.sndL_left l _ _ hs]
        omega
theorem Tr.sndL_left : ∀ (l : List Tr) (d : Nat) (left : Int), (Tr.sndL l d left).1 = true → (Tr.sndL l d left).2 = left - Tr.sizeL l
  | [], d, left, _ => by rw [Tr.sndL_nil, Tr.sizeL_nil]; simp
  | t :: ts, d, left, hs => by
    rw [Tr.sndL_cons] at hs ⊢
    split at hs
    · rename_i h1
      rw [if_pos h1, Tr.sndL_left ts _ _ hs, Tr.snd_left t _ _ h1, Tr.sizeL_cons]
      omega
    · cases hs
end
/-- A sound datum has so many nodes at most. -/
theorem Tr.sound_size {t : Tr} (h : Tr.sound t = true) : Tr.size t ≤ 20000 := by
  have h1 := Tr.snd_left t 1 20000 h
  have h2 := (Tr.snd_le t 1 20000 (by decide)).2 h
  omega
end Go.Proofs.YtikmebkfdpbidaaGreatDoor
