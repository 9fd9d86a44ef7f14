/-
  nat.short once more: what is left of the number lies in new memory.
  A number's decimal digits, in plain Lean.
  slices.Reverse at bytes.
  nat.Text in tens.
  exact.ratText in tens.
  exact.check of two sound numbers.
  exact.check of one sound number, and of two real ones.
  The reference's comparison of numbers, at equal numbers.
  The reference's Alike at equal numbers.
  exact.Text of a real number, in tens.
  exact.Whole of a sound number.
  exact.Add of two sound numbers whose sum is not too large.
  exact.Int; a number and nought.
  exact.Small of a sound number, and of one that is not.
-/
import Derived.Test.YtaepjlghdjcdnaaDoorShelf
import Derived.Deep.LoopGhost
import Derived.Lib.Walk
import Derived.Sort.WalkB12
import Derived.Lib.SlicesMore
import Derived.Laws.IdiomStrings
import Derived.Test.YtaepjlghdjcdnaaDoorProg
import Derived.WalkKit
import Derived.WalkSpells
import Derived.WalkLawsBesides
import Derived.Handy
import Derived.BigCall
import Derived.BigQuiet
import Derived.Lib.Hide
import Derived.WalkSmall
import Derived.Test.YtaepjlghdjcdnaaDoorBc
import Derived.Test.YtaepjlghdjcdnaaDoorBe
import Derived.Test.YtaepjlghdjcdnaaDoorBa
import Derived.Test.YtaepjlghdjcdnaaDoorCc
import Derived.Test.YtaepjlghdjcdnaaDoorBd
namespace Go.Proofs.YtaepjlghdjcdnaaDoor
open Go.RowKit
set_option linter.unusedVariables false
set_option linter.unusedSimpArgs false

theorem Tx.norm_fr (ws : List Nat) (b off l cap : Nat) (w : World) (h : Nt.In w (.slice (some ⟨b, off, none⟩) l cap) ws) (hw : Nt.Wd ws) (hl : ws.length ≤ 4611686018427387904) : Calls Tryd.prog 92 #[.slice (some ⟨b, off, none⟩) l cap] w fun e w' => ∃ v', e = .returned v' ∧ Nt.N w' v' (Nt.val ws) ∧ Nt.Fr b v' ∧ Below w.heap.size w w' := by
  obtain ⟨ad, cap2, e⟩ := h.slice
  simp only [Value.slice.injEq] at e
  obtain ⟨rfl, rfl, rfl⟩ := e
  refine (Nt.norm_eq ws _ cap w h hw hl).mono fun e w' ⟨he, hb⟩ => ⟨_, he, ?_, ?_, hb⟩
  · unfold Nt.N
    have := (h.below hb (Nat.le_refl _)).takeN _ (Nt.take_dig hw).1
    rwa [(Nt.take_dig hw).2] at this
  · intro b2 off2 l2 c2 e2
    simp only [Value.slice.injEq, Option.some.injEq, Addr.mk.injEq] at e2
    omega
set_option maxHeartbeats 4000000 in
set_option maxRecDepth 1000000 in
theorem Tx.short_fr (a : List Nat) (d : Nat) (v : Value) (w : World) (h : Nt.In w v a) (ha : Nt.Wd a) (hl : a.length ≤ 500000) (hd0 : 0 < d) (hd : d < 4294967296) : Calls Tryd.prog 91 #[v, .int .u32 d] w fun e w' => ∃ v', e = .returned (.tuple #[v', .int .u32 (Nt.val a % d : Nat)]) ∧ Nt.N w' v' (Nt.val a / d) ∧ Nt.Fr w.heap.size v' ∧ Below w.heap.size w w' := by
  obtain ⟨ad, cap, rfl⟩ := h.slice
  have H := Lib.hid h
  have HA := Lib.hid ha
  have hmk := Nt.make a.length w (by omega)
  clear h ha
  obtain ⟨T, hT⟩ : ∃ T, w.heap.size = T := ⟨_, rfl⟩
  obtain ⟨w2, hw2⟩ : ∃ z, w.alloc (.cells (Nt.row (List.replicate a.length 0)) 82) = z := ⟨_, rfl⟩
  have q2 : w2.heap[T]? = some (.cells (Nt.row (List.replicate a.length 0)) 82 (0, 0)) := by rw [← hw2, ← hT]; exact heap_alloc_new w _
  have hb2 : Below w.heap.size w w2 := hw2 ▸ (Below.refl _ _).alloc (Nat.le_refl _) _
  rw [hT, hw2] at hmk
  have HT := Lib.hid hT
  have HB2 := Lib.hid hb2
  have HQ2 := Lib.hid q2
  clear hT hw2 hb2 q2
  go_enter Tryd.func91, Tryd.ntmps91
  go_wp2_with fail
  go_loopw [7, 8] (fun rv i wr => ∃ (k r : Nat) (ws : List Nat), i = .int .i64 ((k : Int) - 1) ∧ rv = .int .u64 r ∧ k ≤ a.length ∧ r < d ∧ ws.length = a.length ∧ Nt.Wd ws ∧ Nt.val (a.drop k) = d * Nt.val (ws.drop k) + r ∧ wr.heap[T]? = some (.cells (Nt.row ws) 82 (0, 0)) ∧ Below w.heap.size w wr) (fun _ i _ => (intOf i + 1).toNat)
  case atStart => exact ⟨a.length, 0, List.replicate a.length 0, by first | rfl | go_num | (simp; try omega), rfl, Nat.le_refl _, hd0, by simp, Nt.Wd.zeros _, by rw [List.drop_length, List.drop_eq_nil_of_le (by simp)]; simp [Nt.val], HQ2.out, HB2.out⟩
  case round =>
    obtain ⟨k, r, ws, rfl, rfl, hk, hr, hwl, hwd, hval, hq, hbw⟩ := hrel
    obtain ⟨wo, hwo⟩ : ∃ z, z = wr := ⟨_, rfl⟩
    subst hwo
    have HWD := Lib.hid hwd
    have HV := Lib.hid hval
    have HQ := Lib.hid hq
    have HBW := Lib.hid hbw
    have HWL := Lib.hid hwl
    clear hwd hval hq hbw hwl
    rcases k with _ | k
    · have hval := HV.out
      rw [List.drop_zero, List.drop_zero] at hval
      have hq : Nt.val ws = Nt.val a / d := by
        rw [hval, Nat.mul_add_div hd0, Nat.div_eq_of_lt hr, Nat.add_zero]
      have hm : r = Nt.val a % d := by
        rw [hval, Nat.mul_add_mod, Nat.mod_eq_of_lt hr]
      have hin : Nt.In wo (.slice (some ⟨T, 0, none⟩) a.length a.length) ws := by
        have := Nt.In.of_row HQ.out
        rw [HWL.out] at this
        exact this
      have KN := Tx.norm_fr ws T 0 _ _ wo hin HWD.out (by have := HWL.out; omega)
      rw [hq] at KN
      have HM := Lib.hid hm
      have hrw : (r : Int) % 4294967296 = (r : Int) := by omega
      clear hval hq hm hin
      go_wp2_with fail
      refine KN.mono ?_
      rintro z w8 ⟨v8, rfl, hn8, hf8, hb8⟩
      have HN8 := Lib.hid (And.intro hn8 hf8)
      have HB8 := Lib.hid (HBW.out.trans (hb8.mono HBW.out.size))
      clear hn8 hf8 hb8
      go_wp2_with fail
      go_ret2
      exact ⟨_, by rw [← HM.out]; rfl, HN8.out.1, HN8.out.2.mono (by rw [HT.out]; exact Nat.le_refl _), HB8.out⟩
    · have hk1 : (((k + 1 : Nat) : Int) - 1) = (k : Int) := by omega
      rw [hk1]
      have hkk : k < a.length := by omega
      obtain ⟨b1, o1, rfl, _, hcap1, hbl1, hcell1⟩ := (H.out.below HBW.out (Nat.le_refl _)).at (by omega)
      have c1 := hcell1 k hkk
      have hxb := HA.out.getD k
      have hstep := Nt.short_step (a := a) (ws := ws) (i := k) (r := r) (d := d) HV.out hd0 hkk (by have := HWL.out; omega)
      have hqlt := Nt.short_lt (a := a.getD k 0) (r := r) (d := d) hxb hr
      have HSTEP := Lib.hid hstep
      clear hcell1 hstep
      generalize a.getD k 0 = x at *
      have hj := Nt.join64 r x (by omega) hxb
      obtain ⟨N, hN⟩ : ∃ N, 4294967296 * r + x = N := ⟨_, rfl⟩
      rw [hN] at HSTEP hqlt hj
      have hNl : N < 18446744073709551616 := by omega
      have hsh : ((r : Int) * 4294967296) % 18446744073709551616 = (r : Int) * 4294967296 := by omega
      obtain ⟨q, hq⟩ : ∃ q, N / d = q := ⟨_, rfl⟩
      obtain ⟨m, hm⟩ : ∃ m, N % d = m := ⟨_, rfl⟩
      rw [hq] at HSTEP hqlt
      rw [hm] at HSTEP
      have hml : m < d := hm ▸ Nat.mod_lt _ hd0
      have hqI : (N : Int) / (d : Int) = (q : Int) := by rw [← hq]; rfl
      have hmI : (N : Int) % (d : Int) = (m : Int) := by rw [← hm]; rfl
      have hqw : (q : Int) % 4294967296 = (q : Int) := by omega
      obtain ⟨W, hW, e1, e2, hQ9, hB9, hS9⟩ := Nt.store HQ.out k q (by have := HWL.out; omega) HBW.out (by have := HT.out; omega)
      have hdz : ((d : Int) == 0) = false := by simp; omega
      have HQL := Lib.hid hqlt
      have HQ9 := Lib.hid hQ9
      have HB9 := Lib.hid hB9
      have HML := Lib.hid hml
      clear hN hq hm hqlt hQ9 hB9 hml hS9
      go_wp2_with fail
      go_roundw
      case rel => exact ⟨k, m, _, by first | rfl | go_num | (simp; try omega), by first | rfl | rw [hmI], by omega, HML.out, by rw [List.length_set]; exact HWL.out, HWD.out.set _ _ HQL.out, HSTEP.out, HQ9.out, HB9.out⟩
      case measure => simp [intOf]
end Go.Proofs.YtaepjlghdjcdnaaDoor
namespace Go.Proofs.YtaepjlghdjcdnaaDoor
open Go.RowKit
set_option linter.unusedVariables false

/-- The digit of d, less than 10. -/
def Tx.dg (d : Nat) : UInt8 := UInt8.ofNat (48 + d)
/-- A number's digits, the lowest first, at least one. -/
def Tx.lo (n : Nat) : List UInt8 := if h : n < 10 then [Tx.dg n] else Tx.dg (n % 10) :: Tx.lo (n / 10)
termination_by n
decreasing_by omega
def Tx.dec (n : Nat) : List UInt8 := (Tx.lo n).reverse
theorem Tx.lo_small {n : Nat} (h : n < 10) : Tx.lo n = [Tx.dg n] := by rw [Tx.lo, dif_pos h]
theorem Tx.lo_big {n : Nat} (h : ¬ n < 10) : Tx.lo n = Tx.dg (n % 10) :: Tx.lo (n / 10) := by rw [Tx.lo, dif_neg h]
theorem Tx.lo_pos (n : Nat) : 0 < (Tx.lo n).length := by
  by_cases h : n < 10
  · rw [Tx.lo_small h]; simp
  · rw [Tx.lo_big h]; simp
theorem Tx.lo_len : ∀ (k n : Nat), n < 2 ^ k → (Tx.lo n).length ≤ k + 1
  | 0, n, h => by
    rw [Tx.lo_small (by simp at h; omega)]
    simp
  | k + 1, n, h => by
    by_cases h10 : n < 10
    · rw [Tx.lo_small h10]; simp
    · rw [Tx.lo_big h10, List.length_cons]
      have := Tx.lo_len k (n / 10) (by
        rw [Nat.pow_succ] at h
        omega)
      omega
theorem Tx.lo_len_dig {n k : Nat} (h : (Nt.dig n).length ≤ k) : (Tx.lo n).length ≤ 32 * k + 1 := Tx.lo_len (32 * k) n (by
  refine Nat.lt_of_lt_of_le (Nt.dig_lt_pow n) ?_
  refine Nat.le_trans (Nat.pow_le_pow_right (by decide) h) ?_
  have e : (2 : Nat) ^ 32 = 4294967296 := by decide
  rw [Nat.pow_mul, e]
  exact Nat.le_refl _)
theorem Tx.dg_inj {a b : Nat} (ha : a < 10) (hb : b < 10) (h : Tx.dg a = Tx.dg b) : a = b := by
  have h2 : (Tx.dg a).toNat = (Tx.dg b).toNat := by rw [h]
  unfold Tx.dg at h2
  simp only [UInt8.toNat_ofNat'] at h2
  omega
theorem Tx.lo_inj : ∀ (a b : Nat), Tx.lo a = Tx.lo b → a = b := by
  intro a
  induction a using Nat.strongRecOn with
  | ind a ih =>
    intro b h
    by_cases ha : a < 10
    · by_cases hb : b < 10
      · rw [Tx.lo_small ha, Tx.lo_small hb] at h
        simp only [List.cons.injEq, and_true] at h
        exact Tx.dg_inj ha hb h
      · rw [Tx.lo_small ha, Tx.lo_big hb] at h
        simp only [List.cons.injEq] at h
        have := Tx.lo_pos (b / 10)
        rw [← h.2] at this
        simp at this
    · by_cases hb : b < 10
      · rw [Tx.lo_big ha, Tx.lo_small hb] at h
        simp only [List.cons.injEq] at h
        have := Tx.lo_pos (a / 10)
        rw [h.2] at this
        simp at this
      · rw [Tx.lo_big ha, Tx.lo_big hb] at h
        simp only [List.cons.injEq] at h
        have h1 := Tx.dg_inj (Nat.mod_lt _ (by decide)) (Nat.mod_lt _ (by decide)) h.1
        have h2 := ih (a / 10) (by omega) (b / 10) h.2
        omega
theorem Tx.dec_inj {a b : Nat} (h : Tx.dec a = Tx.dec b) : a = b := Tx.lo_inj a b (List.reverse_inj.1 h)
end Go.Proofs.YtaepjlghdjcdnaaDoor
namespace Go.Proofs.YtaepjlghdjcdnaaDoor
open Go.RowKit Go.Lib Go.Sort
set_option linter.unusedVariables false
set_option linter.unusedSimpArgs false

def Tx.enc (n : Int) : Value := .int .u8 n
end Go.Proofs.YtaepjlghdjcdnaaDoor
namespace Go.Proofs.YtaepjlghdjcdnaaDoor
open Go.RowKit
set_option linter.unusedVariables false
set_option linter.unusedSimpArgs false

theorem Tx.infoByte : (Tryd.prog.info? 5).map (fun i => (i.zero, i.size, i.bytes)) = some (some (.int .u8 0), 1, 1) := by kernel_rfl
theorem Tx.own_slice {w : World} {base n size : Nat} {e : TypeId} {v : Value} {xs : List Value} (h : w.ownsRow base e size v n xs) : ∃ ad cap, v = .slice ad n cap := by
  rcases h.2 with ⟨rfl, rfl⟩ | ⟨g, cap, _, rfl, _⟩
  · exact ⟨_, _, rfl⟩
  · exact ⟨_, _, rfl⟩
theorem Tx.in_grown {w w' : World} {v : Value} {ws : List Nat} {row : Option Nat} (h : Nt.In w v ws) (hg : w.grownBy w' row) (hne : ∀ b off l c, v = .slice (some ⟨b, off, none⟩) l c → some b ≠ row) : Nt.In w' v ws := by
  rcases h with h | h | ⟨h0, b, off, cap, hv, hc, hl, hcell⟩
  · exact .inl h
  · exact .inr (.inl h)
  · exact .inr (.inr ⟨h0, b, off, cap, hv, hc, Nat.lt_of_lt_of_le hl hg.size, fun j hj => hg.cell (hcell j hj) (hne b off _ _ hv)⟩)
end Go.Proofs.YtaepjlghdjcdnaaDoor
namespace Go.Proofs.YtaepjlghdjcdnaaDoor
open Go.RowKit
set_option linter.unusedVariables false
set_option linter.unusedSimpArgs false

/-- Bytes as a text. -/
def Tx.str (l : List UInt8) : ByteArray := ⟨l.toArray⟩
theorem Tx.str_append (a b : List UInt8) : Tx.str a ++ Tx.str b = Tx.str (a ++ b) := by
  unfold Tx.str
  apply ByteArray.ext
  simp
/-- A fraction's text. -/
def Tx.rat (s : Bool) (t b : Nat) : List UInt8 := (if s = true then [45] else []) ++ (Tx.dec t ++ if b = 1 then [] else 47 :: Tx.dec b)
end Go.Proofs.YtaepjlghdjcdnaaDoor
namespace Go.Proofs.YtaepjlghdjcdnaaDoor
open Go.RowKit
set_option linter.unusedVariables false
set_option linter.unusedSimpArgs false

theorem Rt.cells12 {w : World} {b : Nat} {v0 v1 v2 v3 v4 v5 u0 u1 u2 u3 u4 u5 : Value} {t : TypeId} (h : w.heap[b]? = some (.cells #[v0, v1, v2, v3, v4, v5, u0, u1, u2, u3, u4, u5] t (0, 0))) :
    (w.cell? ⟨b, 0, none⟩ = some v0 ∧ w.cell? ⟨b, 1, none⟩ = some v1 ∧ w.cell? ⟨b, 2, none⟩ = some v2 ∧ w.cell? ⟨b, 3, none⟩ = some v3 ∧ w.cell? ⟨b, 4, none⟩ = some v4 ∧ w.cell? ⟨b, 5, none⟩ = some v5) ∧ (w.cell? ⟨b, 6, none⟩ = some u0 ∧ w.cell? ⟨b, 7, none⟩ = some u1 ∧ w.cell? ⟨b, 8, none⟩ = some u2 ∧ w.cell? ⟨b, 9, none⟩ = some u3 ∧ w.cell? ⟨b, 10, none⟩ = some u4 ∧ w.cell? ⟨b, 11, none⟩ = some u5) :=
  ⟨⟨Rt.cell_of h 0, Rt.cell_of h 1, Rt.cell_of h 2, Rt.cell_of h 3, Rt.cell_of h 4, Rt.cell_of h 5⟩, ⟨Rt.cell_of h 6, Rt.cell_of h 7, Rt.cell_of h 8, Rt.cell_of h 9, Rt.cell_of h 10, Rt.cell_of h 11⟩⟩
/-- Sound, whatever world the number is met in behind w. -/
def Rt.SoundAt (w : World) (v : Value) : Prop := ∀ w', Below w.heap.size w w' → Calls Tryd.prog 55 #[v] w' fun e w'' => e = .returned (.bool true) ∧ Below w'.heap.size w' w''
theorem Rt.SoundAt.of {w : World} {v : Value} {s s2 : Bool} {t b t2 b2 : List Nat} (h : Rt.GN w v s t b s2 t2 b2) (hs : Rt.soundN s t b s2 t2 b2 = true) : Rt.SoundAt w v := fun w' hb => by
  have := Rt.Sound_any s t b s2 t2 b2 v w' (h.below hb (Nat.le_refl _))
  rwa [hs] at this
end Go.Proofs.YtaepjlghdjcdnaaDoor
namespace Go.Proofs.YtaepjlghdjcdnaaDoor
open Go.RowKit
set_option linter.unusedVariables false
set_option linter.unusedSimpArgs false

end Go.Proofs.YtaepjlghdjcdnaaDoor
namespace Go.Proofs.YtaepjlghdjcdnaaDoor
open Go.RowKit
set_option linter.unusedVariables false
set_option linter.unusedSimpArgs false

set_option maxHeartbeats 1000000 in
set_option maxRecDepth 100000 in
theorem Sm.nat (ws : List Nat) (v v2 : Value) (w : World) (hs : ws.length ≤ 4611686018427387904) (h : Nt.In w v ws) (h2 : Nt.In w v2 ws) :
    Calls Tryd.prog 31 #[v, v2] w fun e w' => e = .returned (.bool true) ∧ Below w.heap.size w w' := by
  obtain ⟨ad, cap, rfl⟩ := h.slice
  obtain ⟨ad2, cap2, rfl⟩ := h2.slice
  have H := Lib.hid h; clear h
  have H2 := Lib.hid h2; clear h2
  go_enter Tryd.func31, Tryd.ntmps31
  go_wp2
  go_loopw [5] (fun i wr => ∃ k : Nat, i = .int .i64 k ∧ k ≤ ws.length ∧ Below w.heap.size w wr) (fun i _ => ws.length - (intOf i).toNat)
  case atStart => exact ⟨0, rfl, Nat.zero_le _, Below.refl _ _⟩
  case round =>
    obtain ⟨k, rfl, hk, hb⟩ := hrel
    by_cases hlt : k < ws.length
    · obtain ⟨b, off, had, _, _, hbl, hc⟩ := H.out.at (by omega)
      obtain ⟨b2, off2, had2, _, _, hbl2, hc2⟩ := H2.out.at (by omega)
      subst had
      subst had2
      have c0 := (hb.cell (p := ⟨b, off + k, none⟩) hbl).trans (hc k hlt)
      have c1 := (hb.cell (p := ⟨b2, off2 + k, none⟩) hbl2).trans (hc2 k hlt)
      clear hc hc2
      generalize ws.getD k 0 = x at *
      have HB := Lib.hid hb; clear hb
      go_wp2
      go_quiet (fail)
      have HB2 := Lib.hid (below_drewN HB.out nq)
      go_wp2
      go_roundw
      case rel => exact ⟨k + 1, by first | rfl | go_num | (simp; try omega), by omega, HB2.out⟩
      case measure => simp [intOf]; omega
    · have HB := Lib.hid hb; clear hb
      go_wp2
      go_ret
      exact ⟨rfl, HB.out⟩
set_option maxHeartbeats 1000000 in
set_option maxRecDepth 100000 in
theorem Sm.rat (s : Bool) (ts bs : List Nat) (v3 v4 u3 u4 : Value) (w : World) (h1 : ts.length ≤ 4611686018427387904) (h2 : bs.length ≤ 4611686018427387904) (i3 : Nt.In w v3 ts) (i4 : Nt.In w v4 bs) (j3 : Nt.In w u3 ts) (j4 : Nt.In w u4 bs) :
    Calls Tryd.prog 15 #[.agg #[.bool s, v3, v4], .agg #[.bool s, u3, u4]] w fun e w' => e = .returned (.bool true) ∧ Below w.heap.size w w' := by
  obtain ⟨a3, c3, rfl⟩ := i3.slice
  obtain ⟨a4, c4, rfl⟩ := i4.slice
  obtain ⟨b3, d3, rfl⟩ := j3.slice
  obtain ⟨b4, d4, rfl⟩ := j4.slice
  have hA : ∀ o1 o2, Below w.heap.size w ((w.alloc o1).alloc o2) := fun o1 o2 => ((Below.refl _ _).alloc (Nat.le_refl _) _).alloc (by simp) _
  have hN : ∀ o1 o2, ((w.alloc o1).alloc o2).heap[w.heap.size]? = some o1 ∧ ((w.alloc o1).alloc o2).heap[w.heap.size + 1]? = some o2 ∧ ((w.alloc o1).alloc o2).heap.size = w.heap.size + 2 := fun o1 o2 => by
    refine ⟨(Lib.alloc_old _ _ _ (by simp)).trans (heap_alloc_new w o1), ?_, by simp⟩
    have := heap_alloc_new (w.alloc o1) o2
    rwa [show (w.alloc o1).heap.size = w.heap.size + 1 by simp] at this
  have K1 := fun w' (hb : Below w.heap.size w w') => Sm.nat ts _ _ w' h1 (i3.below hb (Nat.le_refl _)) (j3.below hb (Nat.le_refl _))
  have K2 := fun w' (hb : Below w.heap.size w w') => Sm.nat bs _ _ w' h2 (i4.below hb (Nat.le_refl _)) (j4.below hb (Nat.le_refl _))
  have HK1 := Lib.hid K1
  have HK2 := Lib.hid K2
  have HA := Lib.hid hA
  have HN := Lib.hid hN
  clear K1 K2 hA hN i3 i4 j3 j4
  go_enter Tryd.func15, Tryd.ntmps15
  go_wp2_with fail
  refine (HK1.out _ (HA.out _ _)).mono ?_
  rintro x w1 ⟨rfl, hb1⟩
  obtain ⟨n0, n1, n2⟩ := HN.out (.cells #[.bool s, .slice a3 ts.length c3, .slice a4 bs.length c4] 26) (.cells #[.bool s, .slice b3 ts.length d3, .slice b4 bs.length d4] 26)
  have q0 := (hb1.block w.heap.size (by omega)).trans n0
  have q1 := (hb1.block (w.heap.size + 1) (by omega)).trans n1
  have hbw1 := (HA.out _ _).trans (hb1.mono (HA.out _ _).size)
  have e0 : w1.cell? ⟨w.heap.size, 2, none⟩ = some (.slice a4 bs.length c4) := by simp [World.cell?, q0]
  have e1 : w1.cell? ⟨w.heap.size + 1, 2, none⟩ = some (.slice b4 bs.length d4) := by simp [World.cell?, q1]
  have HB1 := Lib.hid hbw1
  clear hb1 n0 n1 n2 q0 q1 hbw1
  go_wp2_with fail
  refine (HK2.out _ HB1.out).mono ?_
  rintro x w2 ⟨rfl, hb2⟩
  have HB2 := Lib.hid (HB1.out.trans (hb2.mono HB1.out.size))
  clear hb2 e0 e1
  go_wp2_with fail
  go_ret
  exact ⟨rfl, HB2.out⟩
end Go.Proofs.YtaepjlghdjcdnaaDoor
namespace Go.Proofs.YtaepjlghdjcdnaaDoor
open Go.RowKit
set_option linter.unusedVariables false
set_option linter.unusedSimpArgs false

theorem Sm.two (w : World) (o1 o2 : Obj) : ((w.alloc o1).alloc o2).heap[w.heap.size]? = some o1 ∧ ((w.alloc o1).alloc o2).heap[w.heap.size + 1]? = some o2 ∧ ((w.alloc o1).alloc o2).heap.size = w.heap.size + 2 ∧ Below w.heap.size w ((w.alloc o1).alloc o2) := by
  refine ⟨(Lib.alloc_old _ _ _ (by simp)).trans (heap_alloc_new w o1), ?_, by simp, ((Below.refl _ _).alloc (Nat.le_refl _) _).alloc (by simp) _⟩
  have := heap_alloc_new (w.alloc o1) o2
  rwa [show (w.alloc o1).heap.size = w.heap.size + 1 by simp] at this
set_option maxHeartbeats 1000000 in
set_option maxRecDepth 100000 in
theorem Sm.alike (s1 s2 : Bool) (t1 b1 t2 b2 : List Nat) (v3 v4 v6 v7 u3 u4 u6 u7 : Value) (w : World) (h1 : t1.length ≤ 4611686018427387904) (h2 : b1.length ≤ 4611686018427387904) (h3 : t2.length ≤ 4611686018427387904) (h4 : b2.length ≤ 4611686018427387904)
    (i3 : Nt.In w v3 t1) (i4 : Nt.In w v4 b1) (i6 : Nt.In w v6 t2) (i7 : Nt.In w v7 b2) (j3 : Nt.In w u3 t1) (j4 : Nt.In w u4 b1) (j6 : Nt.In w u6 t2) (j7 : Nt.In w u7 b2) :
    Calls Tryd.prog 10 #[.agg #[.bool s1, v3, v4, .bool s2, v6, v7], .agg #[.bool s1, u3, u4, .bool s2, u6, u7]] w fun e w' => e = .returned (.bool true) ∧ Below w.heap.size w w' := by
  obtain ⟨a3, c3, rfl⟩ := i3.slice
  obtain ⟨a4, c4, rfl⟩ := i4.slice
  obtain ⟨a6, c6, rfl⟩ := i6.slice
  obtain ⟨a7, c7, rfl⟩ := i7.slice
  obtain ⟨d3, f3, rfl⟩ := j3.slice
  obtain ⟨d4, f4, rfl⟩ := j4.slice
  obtain ⟨d6, f6, rfl⟩ := j6.slice
  obtain ⟨d7, f7, rfl⟩ := j7.slice
  have HK1 := Lib.hid (fun w' (hb : Below w.heap.size w w') => Sm.rat s1 t1 b1 _ _ _ _ w' h1 h2 (i3.below hb (Nat.le_refl _)) (i4.below hb (Nat.le_refl _)) (j3.below hb (Nat.le_refl _)) (j4.below hb (Nat.le_refl _)))
  have HK2 := Lib.hid (fun w' (hb : Below w.heap.size w w') => Sm.rat s2 t2 b2 _ _ _ _ w' h3 h4 (i6.below hb (Nat.le_refl _)) (i7.below hb (Nat.le_refl _)) (j6.below hb (Nat.le_refl _)) (j7.below hb (Nat.le_refl _)))
  obtain ⟨n0, n1, n2, n3⟩ := Sm.two w (.cells #[.bool s1, .slice a3 t1.length c3, .slice a4 b1.length c4, .bool s2, .slice a6 t2.length c6, .slice a7 b2.length c7] 28) (.cells #[.bool s1, .slice d3 t1.length f3, .slice d4 b1.length f4, .bool s2, .slice d6 t2.length f6, .slice d7 b2.length f7] 28)
  have HN := Lib.hid (And.intro n0 (And.intro n1 (And.intro n2 n3)))
  clear n0 n1 n2 n3 i3 i4 i6 i7 j3 j4 j6 j7
  go_enter Tryd.func10, Tryd.ntmps10
  go_wp2_with fail
  refine (HK1.out _ HN.out.2.2.2).mono ?_
  rintro x w1 ⟨rfl, hb1⟩
  obtain ⟨n0, n1, n2, n3⟩ := HN.out
  have q0 := (hb1.block w.heap.size (by omega)).trans n0
  have q1 := (hb1.block (w.heap.size + 1) (by omega)).trans n1
  have hbw1 := n3.trans (hb1.mono n3.size)
  have e3 : w1.cell? ⟨w.heap.size, 3, none⟩ = some (.bool s2) := by simp [World.cell?, q0]
  have e4 : w1.cell? ⟨w.heap.size, 4, none⟩ = some (.slice a6 t2.length c6) := by simp [World.cell?, q0]
  have e5 : w1.cell? ⟨w.heap.size, 5, none⟩ = some (.slice a7 b2.length c7) := by simp [World.cell?, q0]
  have g3 : w1.cell? ⟨w.heap.size + 1, 3, none⟩ = some (.bool s2) := by simp [World.cell?, q1]
  have g4 : w1.cell? ⟨w.heap.size + 1, 4, none⟩ = some (.slice d6 t2.length f6) := by simp [World.cell?, q1]
  have g5 : w1.cell? ⟨w.heap.size + 1, 5, none⟩ = some (.slice d7 b2.length f7) := by simp [World.cell?, q1]
  have HB1 := Lib.hid hbw1
  clear hb1 n0 n1 n2 n3 q0 q1 hbw1
  go_wp2_with fail
  refine (HK2.out _ HB1.out).mono ?_
  rintro x w2 ⟨rfl, hb2⟩
  have HB2 := Lib.hid (HB1.out.trans (hb2.mono HB1.out.size))
  clear hb2 e3 e4 e5 g3 g4 g5
  go_wp2_with fail
  go_ret
  exact ⟨rfl, HB2.out⟩
end Go.Proofs.YtaepjlghdjcdnaaDoor
namespace Go.Proofs.YtaepjlghdjcdnaaDoor
open Go.RowKit
set_option linter.unusedVariables false
set_option linter.unusedSimpArgs false

theorem Tx.N_slice {w : World} {v : Value} {n : Nat} (h : Nt.N w v n) : ∃ L a c, v = .slice a L c ∧ L = (Nt.dig n).length := by
  obtain ⟨a, c, hv⟩ := Nt.In.slice h
  exact ⟨_, a, c, hv, rfl⟩
theorem Tx.N_zero {w : World} {v : Value} (h : Nt.N w v 0) : ∃ a c, v = .slice a 0 c := by
  obtain ⟨a, c, hv⟩ := Nt.In.slice h
  rw [Nt.dig_zero] at hv
  exact ⟨a, c, hv⟩
end Go.Proofs.YtaepjlghdjcdnaaDoor
namespace Go.Proofs.YtaepjlghdjcdnaaDoor
open Go.RowKit
set_option linter.unusedVariables false
set_option linter.unusedSimpArgs false

/-- Is it 1? As a test reads it. -/
theorem Tx.one_in {w : World} {a : Option Addr} {M c b : Nat} (h : Nt.N w (.slice a M c) b) (hM : M = (Nt.dig b).length) (hb : 0 < b) : ∃ S : Bool, S = decide (b = 1) ∧ ∀ w', Below w.heap.size w w' → (S = false ∧ ((M : Int) == 1) = false) ∨ ∃ bb off, a = some ⟨bb, off, none⟩ ∧ M = 1 ∧ w'.cell? ⟨bb, off, none⟩ = some (.int .u32 b) ∧ ((b : Int) == 1) = S := by
  obtain ⟨S, hS, hone⟩ := Rt.isOne h hb
  refine ⟨S, hS, fun w' hbw => ?_⟩
  rcases hone with ⟨ad, cap, e, e2, e3⟩ | ⟨bb, off, cap, e, e2, e3⟩
  · rw [← hM] at e2
    exact .inl ⟨e3, e2⟩
  · simp only [Value.slice.injEq] at e
    obtain ⟨rfl, rfl, rfl⟩ := e
    rcases h with ⟨e, _⟩ | ⟨a, c, e, e4⟩ | ⟨h0, b3, off3, cap3, e, hc, hlt, hcell⟩
    · cases e
    · simp only [Value.slice.injEq] at e
      omega
    · simp only [Value.slice.injEq, Option.some.injEq, Addr.mk.injEq] at e
      obtain ⟨⟨rfl, rfl, _⟩, _, _⟩ := e
      exact .inr ⟨bb, off, rfl, rfl, (hbw.cell (p := ⟨bb, off, none⟩) hlt).trans e2, e3⟩
set_option maxHeartbeats 2000000 in
set_option maxRecDepth 1000000 in
theorem Tx.Whole_snd (s : Bool) (t b : Nat) (s2 : Bool) (t2 b2 : Nat) (v : Value) (w : World) (h : Rt.Q w v s t b s2 t2 b2) (K : Rt.SoundAt w v) (hb : 0 < b) :
    Calls Tryd.prog 56 #[v] w fun e w' => e = .returned (.bool (decide (t2 = 0) && decide (b = 1))) ∧ Below w.heap.size w w' := by
  obtain ⟨tv, bv, tv2, bv2, rfl, h1, h2, h3, h4⟩ := h
  obtain ⟨L1, a1, c1, rfl, hL1⟩ := Tx.N_slice h1
  obtain ⟨L2, a2, c2, rfl, hL2⟩ := Tx.N_slice h2
  obtain ⟨L3, a3, c3, rfl, hL3⟩ := Tx.N_slice h3
  obtain ⟨L4, a4, c4, rfl, hL4⟩ := Tx.N_slice h4
  obtain ⟨S, hS, hone⟩ := Tx.one_in h2 hL2 hb
  have HB0 : Hid (∀ o, Below w.heap.size w (w.alloc o)) := Lib.hid (fun o => (Below.refl _ _).alloc (Nat.le_refl _) o)
  have hq : (w.alloc (.cells #[.bool s, .slice a1 L1 c1, .slice a2 L2 c2, .bool s2, .slice a3 L3 c3, .slice a4 L4 c4] 28)).heap[w.heap.size]? = some (.cells #[.bool s, .slice a1 L1 c1, .slice a2 L2 c2, .bool s2, .slice a3 L3 c3, .slice a4 L4 c4] 28 (0, 0)) := heap_alloc_new w _
  have hz : (w.alloc (.cells #[.bool s, .slice a1 L1 c1, .slice a2 L2 c2, .bool s2, .slice a3 L3 c3, .slice a4 L4 c4] 28)).heap.size = w.heap.size + 1 := by simp
  have HQ := Lib.hid (And.intro hq hz)
  have HK := Lib.hid K
  have HONE := Lib.hid hone
  have h03 : (t2 = 0 ∧ L3 = 0) ∨ (t2 ≠ 0 ∧ ((L3 : Int) == 0) = false) := by
    rcases Nat.eq_zero_or_pos t2 with h0 | h0
    · exact .inl ⟨h0, by rw [hL3, h0, Nt.dig_zero]; rfl⟩
    · have := Nt.dig_len_pos.2 h0
      exact .inr ⟨by omega, beq_eq_false_iff_ne.2 (by omega)⟩
  have hR : ∃ R : Bool, (decide (t2 = 0) && S) = R := ⟨_, rfl⟩
  rw [← hS]
  obtain ⟨R, hR⟩ := hR
  rw [hR]
  have HR := Lib.hid hR
  clear hR hS h1 h2 h3 h4 hL1 hL2 hL3 hL4 hone hq hz K
  go_enter Tryd.func56, Tryd.ntmps56
  go_wp2_with fail
  refine (HK.out _ (HB0.out _)).mono ?_
  rintro x w1 ⟨rfl, hb1⟩
  have HB1 := Lib.hid ((HB0.out _).trans (hb1.mono (HB0.out _).size))
  obtain ⟨e0, e1, e2, e3, e4, e5⟩ := Rt.cells6 ((hb1.block w.heap.size (by have := HQ.out.2; omega)).trans HQ.out.1)
  clear hb1
  rcases h03 with ⟨h0, rfl⟩ | ⟨h0, h00⟩
  · have hd : decide (t2 = 0) = true := decide_eq_true h0
    rcases HONE.out _ HB1.out with ⟨rfl, hM⟩ | ⟨bb, off, rfl, rfl, c3, hb1⟩
    · have hans : R = false := by rw [← HR.out, hd]; rfl
      subst hans
      clear hd h0
      go_wp2_with fail
      go_ret
      exact ⟨rfl, HB1.out⟩
    · have hans : R = S := by rw [← HR.out, hd]; rfl
      subst hans
      clear hd h0
      cases R
      · go_wp2_with fail
        go_ret
        exact ⟨rfl, HB1.out⟩
      · go_wp2_with fail
        go_ret
        exact ⟨rfl, HB1.out⟩
  · have hd : decide (t2 = 0) = false := decide_eq_false h0
    have hans : R = false := by rw [← HR.out, hd]; rfl
    subst hans
    clear hd h0
    go_wp2_with fail
    go_ret
    exact ⟨rfl, HB1.out⟩
end Go.Proofs.YtaepjlghdjcdnaaDoor
namespace Go.Proofs.YtaepjlghdjcdnaaDoor
open Go.RowKit
set_option linter.unusedVariables false
set_option linter.unusedSimpArgs false

theorem Rt.belowD2 {B : Nat} {w0 w : World} (h : Below B w0 w) : Below B w0 w.drew := h.drew
def Rt.L4 (t1 b1 t2 b2 : Nat) : Prop := (Nt.dig t1).length ≤ 400000 ∧ (Nt.dig b1).length ≤ 400000 ∧ (Nt.dig t2).length ≤ 400000 ∧ (Nt.dig b2).length ≤ 400000
end Go.Proofs.YtaepjlghdjcdnaaDoor
namespace Go.Proofs.YtaepjlghdjcdnaaDoor
open Go.RowKit
set_option linter.unusedVariables false
set_option linter.unusedSimpArgs false

/-- What a sound number is, in plain Lean. -/
structure Rt.Snd (s : Bool) (t b : Nat) : Prop where
  l1 : (Nt.dig t).length ≤ 512
  l2 : (Nt.dig b).length ≤ 512
  pos : 0 < b
  cop : Nat.gcd t b = 1
  sgn : t = 0 → s = false
theorem Rt.Snd.sound {s : Bool} {t b : Nat} (h : Rt.Snd s t b) : Rt.sound s (Nt.dig t) (Nt.dig b) = true := by
  unfold Rt.sound
  rw [Nt.sound_dig, Nt.sound_dig, Nt.val_dig, Nt.val_dig]
  have hb := Nt.dig_len_pos.2 h.pos
  have h1 := h.l1
  have h2 := h.l2
  have h3 := h.cop
  have h4 : (!(decide ((Nt.dig t).length = 0) && s)) = true := by
    rcases Nat.eq_zero_or_pos t with h0 | h0
    · rw [h.sgn h0]; simp
    · have := Nt.dig_len_pos.2 h0
      have h5 : ¬ (Nt.dig t).length = 0 := by omega
      simp [h5]
  have h5 : ¬ (Nt.dig b).length = 0 := by omega
  rw [h4]
  simp [h1, h2, h3, h5]
/-- Words that make a sound fraction are those of its numbers. -/
theorem Rt.Snd.of {s : Bool} {t b : List Nat} (h1 : Nt.Wd t) (h2 : Nt.Wd b) (h : Rt.sound s t b = true) : t = Nt.dig (Nt.val t) ∧ b = Nt.dig (Nt.val b) ∧ Rt.Snd s (Nt.val t) (Nt.val b) := by
  unfold Rt.sound at h
  simp only [Bool.and_eq_true, decide_eq_true_eq] at h
  obtain ⟨⟨⟨⟨a1, a2⟩, a3⟩, a4⟩, a5⟩ := h
  obtain ⟨et, lt⟩ := Nt.sound_eq h1 a1
  obtain ⟨eb, lb⟩ := Nt.sound_eq h2 a2
  refine ⟨et, eb, by rw [← et]; exact lt, by rw [← eb]; exact lb, ?_, a5, fun h0 => ?_⟩
  · rcases Nat.eq_zero_or_pos (Nt.val b) with h0 | h0
    · rw [h0, Nt.dig_zero] at eb
      rw [eb] at a3
      exact absurd rfl a3
    · exact h0
  · rw [h0, Nt.dig_zero] at et
    rw [et] at a4
    simpa using a4
theorem Rt.GN.of_Q {w : World} {v : Value} {s s2 : Bool} {t b t2 b2 : Nat} (h : Rt.Q w v s t b s2 t2 b2) (h1 : Rt.Snd s t b) (h2 : Rt.Snd s2 t2 b2) : Rt.GN w v s (Nt.dig t) (Nt.dig b) s2 (Nt.dig t2) (Nt.dig b2) := by
  obtain ⟨tv1, bv1, tv2, bv2, e, hn1, hd1, hn2, hd2⟩ := h
  exact ⟨⟨tv1, bv1, tv2, bv2, e, hn1, hd1, hn2, hd2⟩, ⟨Nt.dig_wd _, Nt.dig_wd _, Nat.le_trans h1.l1 (by decide), Nat.le_trans h1.l2 (by decide)⟩, ⟨Nt.dig_wd _, Nt.dig_wd _, Nat.le_trans h2.l1 (by decide), Nat.le_trans h2.l2 (by decide)⟩⟩
theorem Rt.SoundAt.of_Q {w : World} {v : Value} {s s2 : Bool} {t b t2 b2 : Nat} (h : Rt.Q w v s t b s2 t2 b2) (h1 : Rt.Snd s t b) (h2 : Rt.Snd s2 t2 b2) : Rt.SoundAt w v :=
  Rt.SoundAt.of (Rt.GN.of_Q h h1 h2) (by unfold Rt.soundN; rw [h1.sound, h2.sound]; rfl)
theorem Rt.ratS_snd {s : Bool} {t b : Nat} (h : Rt.Snd s t b) : Rt.ratS s t b = (s, t, b) := by
  unfold Rt.ratS
  rw [h.cop, Nat.div_one, Nat.div_one]
  rcases Nat.eq_zero_or_pos t with h0 | h0
  · rw [h.sgn h0]; simp
  · simp [h0]
theorem Rt.sum_nought {s : Bool} {t b : Nat} (h : Rt.Snd s t b) : Rt.sumS s t b false 0 1 = (s, t, b) := by
  unfold Rt.sumS
  rw [Nat.mul_one, Nat.zero_mul, Nat.mul_one]
  split
  · rw [Nat.add_zero]; exact Rt.ratS_snd h
  · rw [if_pos (Nat.zero_le _), Nat.sub_zero]; exact Rt.ratS_snd h
theorem Rt.Snd.nought : Rt.Snd false 0 1 := ⟨by rw [Nt.dig_zero]; decide, by rw [Nt.dig_small (by decide) (by decide)]; decide, by decide, by decide, fun _ => rfl⟩
/-- The numbers of 64 bits. -/
theorem Rt.Snd.int {s : Bool} {t : Nat} (ht : t < 18446744073709551616) (hs : t = 0 → s = false) : Rt.Snd s t 1 := by
  refine ⟨?_, by rw [Nt.dig_small (by decide) (by decide)]; decide, by decide, Nat.gcd_one_right t, hs⟩
  rcases Nat.lt_or_ge (Nt.dig t).length 513 with h | h
  · omega
  · exfalso
    rcases Nat.eq_zero_or_pos t with h0 | h0
    · rw [h0, Nt.dig_zero] at h; simp at h
    · have h1 := Nt.dig_pow_le h0
      have h2 : 4294967296 ^ 2 ≤ 4294967296 ^ ((Nt.dig t).length - 1) := Nat.pow_le_pow_right (by decide) (by omega)
      omega
end Go.Proofs.YtaepjlghdjcdnaaDoor
namespace Go.Proofs.YtaepjlghdjcdnaaDoor
open Go.RowKit
set_option linter.unusedVariables false
set_option linter.unusedSimpArgs false

/-- What Small answers: the byte, or what is none. -/
def Dr.PostSm (o : Option Nat) (w : World) (x : Ending) (w' : World) : Prop := ∃ n e : Int, x = .returned (.tuple #[.int .i64 n, .int .i64 e]) ∧ Below w.heap.size w w' ∧ -9223372036854775808 ≤ n ∧ n ≤ 9223372036854775807 ∧ (match o with | some k => e = 0 ∧ n = (k : Int) ∧ k ≤ 255 | none => e ≠ 0 ∨ n < 0 ∨ 255 < n)
theorem Dr.PostSm.no {w w' : World} (n e : Int) (hb : Below w.heap.size w w') (h0 : -9223372036854775808 ≤ n) (h1 : n ≤ 9223372036854775807) (h : e ≠ 0 ∨ n < 0 ∨ 255 < n) : Dr.PostSm none w (.returned (.tuple #[.int .i64 n, .int .i64 e])) w' := ⟨n, e, rfl, hb, h0, h1, h⟩
theorem Dr.PostSm.yes {w w' : World} (k : Nat) (hb : Below w.heap.size w w') (h : k ≤ 255) : Dr.PostSm (some k) w (.returned (.tuple #[.int .i64 (k : Int), .int .i64 0])) w' := ⟨k, 0, rfl, hb, by omega, by omega, rfl, rfl, h⟩
def Dr.smallO (s : Bool) (t b t2 : Nat) : Option Nat := if t2 = 0 ∧ b = 1 ∧ t ≤ 255 ∧ (s = true → t = 0) then some t else none
theorem Dr.small_none {s : Bool} {t b t2 : Nat} (h : ¬ (t2 = 0 ∧ b = 1)) : Dr.smallO s t b t2 = none := by
  unfold Dr.smallO
  rw [if_neg]
  exact fun k => h ⟨k.1, k.2.1⟩
set_option maxHeartbeats 2000000 in
set_option maxRecDepth 1000000 in
theorem Dr.Small_form (v : Value) (w : World) (K : ∀ w', Below w.heap.size w w' → Calls Tryd.prog 55 #[v] w' fun e w'' => e = .returned (.bool false) ∧ Below w'.heap.size w' w'') (c : Array Value) (hv : v = .agg c) (hc : ∃ s a1 l1 c1 a2 l2 c2 s2 a3 l3 c3 a4 l4 c4, c = #[.bool s, .slice a1 l1 c1, .slice a2 l2 c2, .bool s2, .slice a3 l3 c3, .slice a4 l4 c4]) :
    Calls Tryd.prog 40 #[v] w (Dr.PostSm none w) := by
  obtain ⟨s, a1, l1, c1, a2, l2, c2, s2, a3, l3, c3, a4, l4, c4, rfl⟩ := hc
  subst hv
  have HB0 : Hid (∀ o, Below w.heap.size w (w.alloc o)) := Lib.hid (fun o => (Below.refl _ _).alloc (Nat.le_refl _) o)
  have HK := Lib.hid K
  clear K
  go_enter Tryd.func40, Tryd.ntmps40
  go_wp2_with fail
  refine (HK.out _ (HB0.out _)).mono ?_
  rintro x w1 ⟨rfl, hb1⟩
  have HE := Lib.hid ((HB0.out (.cells #[.bool s, .slice a1 l1 c1, .slice a2 l2 c2, .bool s2, .slice a3 l3 c3, .slice a4 l4 c4] 28)).trans (hb1.mono (HB0.out _).size))
  clear hb1
  go_wp2_with fail
  go_ret2
  exact Dr.PostSm.no 0 2 HE.out (by omega) (by omega) (.inl (by decide))
/-- The words of a number. -/
theorem Dr.words (t : Nat) : ∃ a0 a1 : Nat, a0 < 4294967296 ∧ a1 < 4294967296 ∧ (0 < (Nt.dig t).length → (Nt.dig t).getD 0 0 = a0) ∧ (1 < (Nt.dig t).length → (Nt.dig t).getD 1 0 = a1) ∧ ((Nt.dig t).length = 0 → t = 0) ∧ ((Nt.dig t).length = 1 → t = a0) ∧ ((Nt.dig t).length = 2 → t = a0 + 4294967296 * a1) ∧ (2 < (Nt.dig t).length → 18446744073709551616 ≤ t) := by
  have hv := Nt.val_dig t
  have hw := Nt.dig_wd t
  have hp : ∀ h : 0 < t, 4294967296 ^ ((Nt.dig t).length - 1) ≤ t := fun h => Nt.dig_pow_le h
  have h0 : (Nt.dig t).length ≠ 0 → 0 < t := fun h => Nt.dig_len_pos.1 (by omega)
  match hd : Nt.dig t with
  | [] =>
    rw [hd] at hv
    exact ⟨0, 0, by decide, by decide, fun h => absurd h (Nat.lt_irrefl 0), fun h => by simp at h, fun _ => hv.symm, fun h => by simp at h, fun h => by simp at h, fun h => by simp at h⟩
  | [x] =>
    rw [hd] at hv hw
    have hx := hw x (by simp)
    have e : Nt.val [x] = x := by simp [Nt.val]
    exact ⟨x, 0, hx, by decide, fun _ => rfl, fun h => by simp at h, fun h => by simp at h, fun _ => by omega, fun h => by simp at h, fun h => by simp at h⟩
  | [x, y] =>
    rw [hd] at hv hw
    have hx := hw x (by simp)
    have hy := hw y (by simp)
    have e : Nt.val [x, y] = x + 4294967296 * y := by simp [Nt.val]
    exact ⟨x, y, hx, hy, fun _ => rfl, fun _ => rfl, fun h => by simp at h, fun h => by simp at h, fun _ => by omega, fun h => by simp at h⟩
  | x :: y :: z :: r =>
    rw [hd] at hw h0 hp
    have hx := hw x (by simp)
    have hy := hw y (by simp)
    refine ⟨x, y, hx, hy, fun _ => rfl, fun _ => rfl, fun h => by simp at h, fun h => by simp at h, fun h => by simp at h, fun _ => ?_⟩
    have h1 := hp (h0 (by simp))
    have h2 : 4294967296 ^ 2 ≤ 4294967296 ^ ((x :: y :: z :: r).length - 1) := Nat.pow_le_pow_right (by decide) (by simp)
    have h3 : (4294967296 : Nat) ^ 2 = 18446744073709551616 := by decide
    omega
theorem Dr.or64 (c m : Nat) (hc : c < 4294967296) (hm : m < 4294967296) : bits .or .u64 (c : Int) ((m : Int) * 4294967296) = ((c + 4294967296 * m : Nat) : Int) := by
  have hk : ∀ n : Int, 0 ≤ n → n < 2 ^ 64 → IntKind.u64.wrap n = n := fun n h0 h1 => by rw [IntKind.wrap_u64]; omega
  rw [show (m : Int) * 4294967296 = ((m * 4294967296 : Nat) : Int) by omega, (bits_nat .u64 64 (by decide) hk c (m * 4294967296) (by omega) (by omega)).2]
  rw [Nat.or_comm, show (4294967296 : Nat) = 2 ^ 32 from rfl, ← Nat.shiftLeft_eq, ← Nat.shiftLeft_add_eq_or_of_lt (by omega), Nat.shiftLeft_eq]
  omega
theorem Dr.or0 (c : Nat) (hc : c < 4294967296) : bits .or .u64 0 (c : Int) = (c : Int) := by
  have hk : ∀ n : Int, 0 ≤ n → n < 2 ^ 64 → IntKind.u64.wrap n = n := fun n h0 h1 => by rw [IntKind.wrap_u64]; omega
  have := (bits_nat .u64 64 (by decide) hk 0 c (by omega) (by omega)).2
  rw [Nat.zero_or] at this
  exact this
set_option maxHeartbeats 4000000 in
set_option maxRecDepth 1000000 in
theorem Dr.Small_snd (s : Bool) (t b : Nat) (s2 : Bool) (t2 b2 : Nat) (v : Value) (w : World) (h : Rt.Q w v s t b s2 t2 b2) (h1 : Rt.Snd s t b) (h2 : Rt.Snd s2 t2 b2) :
    Calls Tryd.prog 40 #[v] w (Dr.PostSm (Dr.smallO s t b t2) w) := by
  obtain ⟨O, hO⟩ : ∃ z, Dr.smallO s t b t2 = z := ⟨_, rfl⟩
  rw [hO]
  have HO := Lib.hid hO
  clear hO
  have K := Rt.SoundAt.of_Q h h1 h2
  have hsg := h1.sgn
  have hbp := h1.pos
  have KW := Lib.hid (fun w' (hb : Below w.heap.size w w') (hQ : Rt.Q w' v s t b s2 t2 b2) => Tx.Whole_snd s t b s2 t2 b2 v w' hQ (fun w'' hb'' => K w'' (hb.trans (hb''.mono hb.size))) hbp)
  obtain ⟨tv, bv, tv2, bv2, rfl, i1, i2, i3, i4⟩ := h
  have HQB := Lib.hid (fun w' (hb : Below w.heap.size w w') => show Rt.Q w' _ s t b s2 t2 b2 from ⟨tv, bv, tv2, bv2, rfl, i1.below hb (Nat.le_refl _), i2.below hb (Nat.le_refl _), i3.below hb (Nat.le_refl _), i4.below hb (Nat.le_refl _)⟩)
  obtain ⟨L1, a1, c1, rfl, hL1⟩ := Tx.N_slice i1
  obtain ⟨L2, a2, c2, rfl, hL2⟩ := Tx.N_slice i2
  obtain ⟨L3, a3, c3, rfl, hL3⟩ := Tx.N_slice i3
  obtain ⟨L4, a4, c4, rfl, hL4⟩ := Tx.N_slice i4
  have HB0 : Hid (∀ o, Below w.heap.size w (w.alloc o)) := Lib.hid (fun o => (Below.refl _ _).alloc (Nat.le_refl _) o)
  have hq : (w.alloc (.cells #[.bool s, .slice a1 L1 c1, .slice a2 L2 c2, .bool s2, .slice a3 L3 c3, .slice a4 L4 c4] 28)).heap[w.heap.size]? = some (.cells #[.bool s, .slice a1 L1 c1, .slice a2 L2 c2, .bool s2, .slice a3 L3 c3, .slice a4 L4 c4] 28 (0, 0)) := heap_alloc_new w _
  have hz : (w.alloc (.cells #[.bool s, .slice a1 L1 c1, .slice a2 L2 c2, .bool s2, .slice a3 L3 c3, .slice a4 L4 c4] 28)).heap.size = w.heap.size + 1 := by simp
  have HQ := Lib.hid (And.intro hq hz)
  have HK := Lib.hid K
  obtain ⟨x0, x1, hx0, hx1, q0, q1, q2, q3, q4, q5⟩ := Dr.words t
  rw [← hL1] at q0 q1 q2 q3 q4 q5
  have HIN := Lib.hid (show ∀ w', Below w.heap.size w w' → Nt.In w' (.slice a1 L1 c1) (Nt.dig t) from fun w' hb => i1.below hb (Nat.le_refl _))
  have HL1 := Lib.hid hL1
  have HWD := Lib.hid (And.intro q0 (And.intro q1 (And.intro q2 (And.intro q3 (And.intro q4 q5)))))
  have HSG := Lib.hid hsg
  have hL1b : L1 ≤ 512 := by rw [hL1]; exact h1.l1
  clear i1 i2 i3 i4 hL1 hL2 hL3 hL4 hq hz K q0 q1 q2 q3 q4 q5 hsg h1 h2 hbp
  go_enter Tryd.func40, Tryd.ntmps40
  go_wp2_with fail
  refine (HK.out _ (HB0.out _)).mono ?_
  rintro x w1 ⟨rfl, hb1⟩
  have HB1 := Lib.hid ((HB0.out _).trans (hb1.mono (HB0.out _).size))
  have hq1 := (hb1.block w.heap.size (by have := HQ.out.2; omega)).trans HQ.out.1
  have HQ1 := Lib.hid (And.intro hq1 (show w.heap.size < w1.heap.size from by have := hb1.size; have := HQ.out.2; omega))
  obtain ⟨e0, e1, e2, e3, e4, e5⟩ := Rt.cells6 hq1
  clear hb1 hq1
  go_wp2_with fail
  refine (KW.out _ HB1.out (HQB.out _ HB1.out)).mono ?_
  rintro x w2 ⟨rfl, hb2⟩
  have HB2 := Lib.hid (HB1.out.trans (hb2.mono HB1.out.size))
  have hq2 := (hb2.block w.heap.size HQ1.out.2).trans HQ1.out.1
  clear hb2 e0 e1 e2 e3 e4 e5
  obtain ⟨e0, e1, e2, e3, e4, e5⟩ := Rt.cells6 hq2
  clear hq2
  by_cases hW : t2 = 0 ∧ b = 1
  · have hW1 : (decide (t2 = 0) && decide (b = 1)) = true := by rw [decide_eq_true hW.1, decide_eq_true hW.2]; rfl
    have HOO := Lib.hid (show O = if t ≤ 255 ∧ (s = true → t = 0) then some t else none from by rw [← HO.out]; unfold Dr.smallO; simp only [hW.1, hW.2, true_and])
    rw [hW1]
    clear hW hW1
    go_wp2_with fail
    go_loop [4, 17] (fun v4 v17 => ∃ k u : Nat, v17 = .int .i64 (k : Int) ∧ v4 = .int .u64 (u : Int) ∧ k ≤ L1 ∧ ((k = 0 ∧ u = 0) ∨ (k = 1 ∧ u = x0) ∨ (k = 2 ∧ u = x0 + 4294967296 * x1))) (fun _ v17 => L1 - (intOf v17).toNat)
    case atStart => exact ⟨0, 0, rfl, rfl, Nat.zero_le _, .inl ⟨rfl, rfl⟩⟩
    case round =>
      obtain ⟨k, u, rfl, rfl, hk, hku⟩ := hrel
      have HI2 := Lib.hid (HIN.out w2 HB2.out)
      by_cases hlt : k < L1
      · rcases HI2.out with ⟨e, _⟩ | ⟨_, _, e, _⟩ | ⟨h0, b3, off3, cap3, e, hc, hblt, hcell⟩
        · simp only [Value.slice.injEq] at e; omega
        · simp only [Value.slice.injEq] at e; omega
        simp only [Value.slice.injEq] at e
        obtain ⟨rfl, hLL, _⟩ := e
        clear hLL
        have hce := hcell k (by rw [← HL1.out]; exact hlt)
        clear hcell hc hblt h0
        rcases hku with ⟨rfl, rfl⟩ | ⟨rfl, rfl⟩ | ⟨rfl, rfl⟩
        · have hlt2 : (0 : Int) < (L1 : Int) := by omega
          rw [HWD.out.1 hlt, Nat.add_zero] at hce
          go_wp2_with fail
          refine ⟨⟨1, x0, rfl, by rw [Dr.or0 x0 hx0], by omega, .inr (.inl ⟨rfl, rfl⟩)⟩, ?_⟩
          show L1 - 1 < L1 - 0
          omega
        · have hlt2 : (1 : Int) < (L1 : Int) := by omega
          rw [HWD.out.2.1 hlt] at hce
          go_wp2_with fail
          refine ⟨⟨2, u + 4294967296 * x1, rfl, ?_, by omega, .inr (.inr ⟨rfl, rfl⟩)⟩, ?_⟩
          · first
              | rw [Dr.or64 u x1 hx0 hx1]
              | (trace_state; sorry)
          · show L1 - 2 < L1 - 1
            omega
        · have hlt2 : (2 : Int) < (L1 : Int) := by omega
          have hbig := HWD.out.2.2.2.2.2 hlt
          have hOn : O = none := by
            rw [HOO.out, if_neg]
            intro h
            omega
          subst hOn
          clear hbig
          go_wp2_with fail
          go_ret2
          exact Dr.PostSm.no 0 4 HB2.out (by omega) (by omega) (.inl (by decide))
      · obtain rfl : k = L1 := by omega
        have hw := HWD.out
        have htu : t = u := by
          rcases hku with ⟨rfl, rfl⟩ | ⟨rfl, rfl⟩ | ⟨rfl, rfl⟩
          · exact hw.2.2.1 rfl
          · exact hw.2.2.2.1 rfl
          · exact hw.2.2.2.2.1 rfl
        have hub : u < 18446744073709551616 := by
          rcases hku with ⟨rfl, rfl⟩ | ⟨rfl, rfl⟩ | ⟨rfl, rfl⟩
          · decide
          · omega
          · omega
        have hsg := HSG.out
        have hOO := HOO.out
        rw [htu] at hsg hOO
        clear hw hku htu hlt hk HWD HOO HSG HI2 HIN HL1 hL1b
        rcases Nat.lt_trichotomy u 9223372036854775808 with h1 | h1 | h1
        · have t1 : decide ((9223372036854775808 : Int) < (u : Int)) = false := decide_eq_false (by omega)
          have t2' : ((u : Int) == 9223372036854775808) = false := beq_eq_false_iff_ne.2 (by omega)
          have t3 : ¬ (9223372036854775808 : Int) < (u : Int) := by omega
          cases s with
          | true =>
            have hu0 : u ≠ 0 := fun h => by have := hsg h; cases this
            have hOn : O = none := by
              rw [hOO, if_neg]
              intro h
              exact hu0 (h.2 rfl)
            subst hOn
            have n1 : IntKind.u64.wrap (-(u : Int)) = 18446744073709551616 - (u : Int) := by rw [IntKind.wrap_u64]; omega
            have n2 : IntKind.i64.wrap (18446744073709551616 - (u : Int)) = -(u : Int) := by rw [IntKind.wrap_i64]; omega
            clear hOO hsg
            go_wp2_with fail
            first
              | (go_ret2; exact Dr.PostSm.no (-(u : Int)) 0 HB2.out (by omega) (by omega) (.inr (.inl (by omega))))
              | (trace_state; sorry)
          | false =>
            have n1 : IntKind.i64.wrap (u : Int) = (u : Int) := by rw [IntKind.wrap_i64]; omega
            by_cases h5 : u ≤ 255
            · rw [if_pos ⟨h5, by simp⟩] at hOO
              subst hOO
              clear hsg
              go_wp2_with fail
              first
                | (go_ret2; exact Dr.PostSm.yes u HB2.out h5)
                | (trace_state; sorry)
            · rw [if_neg (fun h => h5 h.1)] at hOO
              subst hOO
              clear hsg
              go_wp2_with fail
              first
                | (go_ret2; exact Dr.PostSm.no (u : Int) 0 HB2.out (by omega) (by omega) (.inr (.inr (by omega))))
                | (trace_state; sorry)
        · subst h1
          rw [if_neg (fun h => by omega)] at hOO
          subst hOO
          cases s with
          | true =>
            have n1 : IntKind.u64.wrap (-9223372036854775808) = 9223372036854775808 := by rw [IntKind.wrap_u64]; omega
            have n2 : Go.RowKit.wrap64 9223372036854775808 = -9223372036854775808 := by unfold Go.RowKit.wrap64; decide
            clear hsg
            go_wp2_with fail
            first
              | (go_ret2; exact Dr.PostSm.no (-9223372036854775808) 0 HB2.out (by omega) (by omega) (.inr (.inl (by omega))))
              | (trace_state; sorry)
          | false =>
            clear hsg
            go_wp2_with fail
            go_ret2
            exact Dr.PostSm.no 0 4 HB2.out (by omega) (by omega) (.inl (by decide))
        · have t1 : decide ((9223372036854775808 : Int) < (u : Int)) = true := decide_eq_true (by omega)
          have t3 : (9223372036854775808 : Int) < (u : Int) := by omega
          rw [if_neg (fun h => by omega)] at hOO
          subst hOO
          clear hsg
          go_wp2_with fail
          go_ret2
          exact Dr.PostSm.no 0 4 HB2.out (by omega) (by omega) (.inl (by decide))
  · have hW1 : (decide (t2 = 0) && decide (b = 1)) = false := by
      cases hd : (decide (t2 = 0) && decide (b = 1)) with
      | false => rfl
      | true =>
        simp only [Bool.and_eq_true, decide_eq_true_eq] at hd
        exact absurd hd hW
    have hOn : O = none := by rw [← HO.out]; exact Dr.small_none hW
    subst hOn
    rw [hW1]
    clear hW hW1
    go_wp2_with fail
    go_ret2
    exact Dr.PostSm.no 0 10 HB2.out (by omega) (by omega) (.inl (by decide))
end Go.Proofs.YtaepjlghdjcdnaaDoor
