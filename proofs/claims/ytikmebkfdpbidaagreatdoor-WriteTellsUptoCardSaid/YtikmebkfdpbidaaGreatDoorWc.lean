/-
  What the transcoders read, in plain Lean: the units of bytes, and what Decode makes of them.
  Slices of bytes that a call reads or has made, in plain Lean over worlds. No conditions.
  Data as trees, and how they lie in memory.
  The reference's comparison of numbers, at equal numbers.
  The reference's Sound and Same of words.
  The long division of numbers: how a word of the quotient is guessed, and what the guess is worth; shifts of rows of words. Plain law.
  The long division of numbers: one round of it. Plain law.
  nat.Up, nat.Down of numbers, by less than one word.
  Rows of words that a call owns, with places to spare behind them.
  The long division of numbers: how the divisor is shifted. Plain law.
-/
import Derived.WalkKit
import Derived.Lib.RuneCount
import Derived.Laws.AppendOwnNone
import Derived.ChangeSlices
import Derived.RegionTactic
import Derived.OpenShut
import Derived.SizedLaws
import Derived.ProofKit
import Derived.Lib.SmallJoins
import Derived.Test.YtikmebkfdpbidaaGreatDoorProg
import Derived.WalkSpells
import Derived.WalkLawsBesides
import Derived.Handy
import Derived.BigCall
import Derived.BigQuiet
import Derived.Lib.Hide
import Derived.WalkSmall
import Derived.Laws.Bits64
import Derived.Lib.ItoaNum
import Derived.Test.YtikmebkfdpbidaaGreatDoorWa
import Derived.Test.YtikmebkfdpbidaaGreatDoorRnDivisorW
namespace Go.Proofs.YtikmebkfdpbidaaGreatDoor
open Go.RowKit

def Cd.byt (s : ByteArray) (i : Nat) : Int := (s.get! i).toNat
theorem Cd.byt_bd (s : ByteArray) (i : Nat) : 0 ≤ Cd.byt s i ∧ Cd.byt s i < 256 := by
  unfold Cd.byt
  have := (s.get! i).toNat_lt
  omega
/-- The number of two bytes at i; -1: there is none. -/
def Cd.num (s : ByteArray) (low i : Nat) : Int := if i + 2 > s.size then -1 else Cd.byt s (i + low) * 256 + Cd.byt s (i + 1 - low)
theorem Cd.num_bd (s : ByteArray) (low i : Nat) : -1 ≤ Cd.num s low i ∧ Cd.num s low i ≤ 65535 := by
  have h1 := Cd.byt_bd s (i + low)
  have h2 := Cd.byt_bd s (i + 1 - low)
  unfold Cd.num
  split <;> omega

/-- A unit: the character, whether it is one, where it begins. -/
abbrev Cd.U := Int × Bool × Int

def Cd.xsS (m r : Int) (ok : Bool) (xs : List Int) : List Int := if ok then xs ++ [r] else if m = 0 then xs else if m = 1 then xs ++ [65533] else xs
def Cd.atS (m p : Int) (ok : Bool) (a : Int) : Int := if ok then a else if m = 0 then p else a
def Cd.erS (m : Int) (ok : Bool) (e : Int) : Int := if ok then e else if m = 0 then 6 else e
def Cd.goS (m : Int) (ok : Bool) : Bool := ok || decide (m ≠ 0)
theorem Cd.xsS_len (m r : Int) (ok : Bool) (xs : List Int) : (Cd.xsS m r ok xs).length ≤ xs.length + 1 := by
  unfold Cd.xsS
  repeat' split
  all_goals simp

def Cd.feed (m : Int) : List Cd.U → List Int → Int → Int → List Int × Int × Int
  | [], xs, a, e => (xs, a, e)
  | (r, ok, p) :: us, xs, a, e => if Cd.goS m ok then Cd.feed m us (Cd.xsS m r ok xs) (Cd.atS m p ok a) (Cd.erS m ok e) else (Cd.xsS m r ok xs, Cd.atS m p ok a, Cd.erS m ok e)

def Cd.pair (r q : Int) : Prop := 55296 ≤ r ∧ r ≤ 56319 ∧ 56320 ≤ q ∧ q ≤ 57343
instance (r q : Int) : Decidable (Cd.pair r q) := by unfold Cd.pair; infer_instance
def Cd.plainR (r : Int) : Bool := decide (0 ≤ r ∧ (r < 55296 ∨ 57343 < r))

def Cd.wideU (s : ByteArray) (low at_ : Nat) : List Cd.U :=
  if _h : at_ < s.size then
    if Cd.pair (Cd.num s low at_) (Cd.num s low (at_ + 2)) then ((Cd.num s low at_ - 55296) * 1024 + Cd.num s low (at_ + 2) - 56320 + 65536, true, (at_ : Int)) :: Cd.wideU s low (at_ + 2 + 2)
    else (Cd.num s low at_, Cd.plainR (Cd.num s low at_), (at_ : Int)) :: Cd.wideU s low (at_ + 2)
  else []
termination_by s.size - at_

def Cd.latinU (s : ByteArray) (at_ : Nat) : List Cd.U :=
  if _h : at_ < s.size then (Cd.byt s at_, true, (at_ : Int)) :: Cd.latinU s (at_ + 1) else []
termination_by s.size - at_

def Cd.utf8U (s : ByteArray) (at_ : Nat) : List Cd.U :=
  if _h : at_ < s.size then (((Utf8.decode s at_).1 : Int), decide ((Utf8.decode s at_).1 ≠ 65533 ∨ 1 < (Utf8.decode s at_).2), (at_ : Int)) :: Cd.utf8U s (at_ + (Utf8.decode s at_).2) else []
termination_by s.size - at_
decreasing_by
  have := Lib.decode_width_pos s at_ _h
  omega

theorem Cd.wideU_pair (s : ByteArray) (low at_ : Nat) (h : at_ < s.size) (hp : Cd.pair (Cd.num s low at_) (Cd.num s low (at_ + 2))) :
    Cd.wideU s low at_ = ((Cd.num s low at_ - 55296) * 1024 + Cd.num s low (at_ + 2) - 56320 + 65536, true, (at_ : Int)) :: Cd.wideU s low (at_ + 2 + 2) := by
  rw [Cd.wideU, dif_pos h, if_pos hp]
theorem Cd.wideU_one (s : ByteArray) (low at_ : Nat) (h : at_ < s.size) (hp : ¬ Cd.pair (Cd.num s low at_) (Cd.num s low (at_ + 2))) :
    Cd.wideU s low at_ = (Cd.num s low at_, Cd.plainR (Cd.num s low at_), (at_ : Int)) :: Cd.wideU s low (at_ + 2) := by
  rw [Cd.wideU, dif_pos h, if_neg hp]
theorem Cd.wideU_end (s : ByteArray) (low at_ : Nat) (h : ¬ at_ < s.size) : Cd.wideU s low at_ = [] := by
  rw [Cd.wideU, dif_neg h]
theorem Cd.latinU_one (s : ByteArray) (at_ : Nat) (h : at_ < s.size) : Cd.latinU s at_ = (Cd.byt s at_, true, (at_ : Int)) :: Cd.latinU s (at_ + 1) := by
  rw [Cd.latinU, dif_pos h]
theorem Cd.latinU_end (s : ByteArray) (at_ : Nat) (h : ¬ at_ < s.size) : Cd.latinU s at_ = [] := by
  rw [Cd.latinU, dif_neg h]
theorem Cd.utf8U_one (s : ByteArray) (at_ : Nat) (h : at_ < s.size) :
    Cd.utf8U s at_ = (((Utf8.decode s at_).1 : Int), decide ((Utf8.decode s at_).1 ≠ 65533 ∨ 1 < (Utf8.decode s at_).2), (at_ : Int)) :: Cd.utf8U s (at_ + (Utf8.decode s at_).2) := by
  rw [Cd.utf8U, dif_pos h]
theorem Cd.utf8U_end (s : ByteArray) (at_ : Nat) (h : ¬ at_ < s.size) : Cd.utf8U s at_ = [] := by
  rw [Cd.utf8U, dif_neg h]

/-- Where UTF-16 begins, and whether its low byte comes first. -/
def Cd.bom (s : ByteArray) : Nat × Nat :=
  if 2 ≤ s.size ∧ Cd.byt s 0 = 254 ∧ Cd.byt s 1 = 255 then (2, 0) else if 2 ≤ s.size ∧ Cd.byt s 0 = 255 ∧ Cd.byt s 1 = 254 then (2, 1) else (0, 0)
theorem Cd.bom_split (s : ByteArray) : (2 ≤ s.size ∧ Cd.byt s 0 = 254 ∧ Cd.byt s 1 = 255 ∧ Cd.bom s = (2, 0)) ∨ (2 ≤ s.size ∧ Cd.byt s 0 = 255 ∧ Cd.byt s 1 = 254 ∧ Cd.bom s = (2, 1)) ∨
    ((s.size < 2 ∨ ¬ (Cd.byt s 0 = 254 ∧ Cd.byt s 1 = 255 ∨ Cd.byt s 0 = 255 ∧ Cd.byt s 1 = 254)) ∧ Cd.bom s = (0, 0)) := by
  unfold Cd.bom
  by_cases h : 2 ≤ s.size ∧ Cd.byt s 0 = 254 ∧ Cd.byt s 1 = 255
  · exact .inl ⟨h.1, h.2.1, h.2.2, if_pos h⟩
  by_cases h2 : 2 ≤ s.size ∧ Cd.byt s 0 = 255 ∧ Cd.byt s 1 = 254
  · exact .inr (.inl ⟨h2.1, h2.2.1, h2.2.2, by rw [if_neg h, if_pos h2]⟩)
  · exact .inr (.inr ⟨by omega, by rw [if_neg h, if_neg h2]⟩)

def Cd.unitsU (c : Int) (s : ByteArray) : List Cd.U := if c = 1 then Cd.utf8U s 0 else if c = 2 then Cd.latinU s 0 else Cd.wideU s (Cd.bom s).2 (Cd.bom s).1
end Go.Proofs.YtikmebkfdpbidaaGreatDoor
namespace Go.Proofs.YtikmebkfdpbidaaGreatDoor.By
open Go.RowKit
set_option linter.unusedVariables false

/-- The cells of bytes. -/
def vals (s : ByteArray) : List Value := (List.range s.size).map fun j => Value.int .u8 (Cd.byt s j)
theorem vals_len (s : ByteArray) : (vals s).length = s.size := by simp [vals]
theorem vals_at (s : ByteArray) (j : Nat) (h : j < s.size) : (vals s)[j]? = some (.int .u8 (Cd.byt s j)) := by simp [vals, h]

/-- The value v can be read as the bytes s; nil or not. -/
def In (w : World) (v : Value) (s : ByteArray) : Prop :=
  (v = .slice none 0 0 ∧ s.size = 0) ∨ (∃ a cap, v = .slice (some a) 0 cap ∧ s.size = 0) ∨
  (0 < s.size ∧ ∃ b off cap, v = .slice (some ⟨b, off, none⟩) s.size cap ∧ s.size ≤ cap ∧ b < w.heap.size ∧ ∀ j, j < s.size → w.cell? ⟨b, off + j, none⟩ = some (.int .u8 (Cd.byt s j)))

theorem In.below {w w' : World} {v : Value} {s : ByteArray} {B : Nat} (h : In w v s) (hb : Below B w w') (hB : w.heap.size ≤ B) : In w' v s := by
  rcases h with h | h | ⟨h0, b, off, cap, hv, h1, h2, hc⟩
  · exact .inl h
  · exact .inr (.inl h)
  · exact .inr (.inr ⟨h0, b, off, cap, hv, h1, by have := hb.size; omega, fun j hj => (hb.cell (p := ⟨b, off + j, none⟩) (by show b < B; omega)).trans (hc j hj)⟩)
theorem In.slice {w : World} {v : Value} {s : ByteArray} (h : In w v s) : ∃ ad cap, v = .slice ad s.size cap := by
  rcases h with ⟨h, h0⟩ | ⟨a, cap, h, h0⟩ | ⟨h0, b, off, cap, hv, _⟩
  · exact ⟨none, 0, by rw [h, h0]⟩
  · exact ⟨some a, cap, by rw [h, h0]⟩
  · exact ⟨_, cap, hv⟩
theorem In.of_own {w : World} {B : Nat} {t : TypeId} {v : Value} {s : ByteArray} (h : w.ownsRow B t 1 v s.size (vals s)) : In w v s := by
  rcases h.2 with ⟨hv, h0⟩ | ⟨g, cap, cur, hv, hB, hg, hn, hm, hs, ht⟩
  · exact .inl ⟨hv, h0⟩
  · rcases Nat.eq_zero_or_pos s.size with h0 | h0
    · exact .inr (.inl ⟨_, cap, by rw [hv, h0], h0⟩)
    · refine .inr (.inr ⟨h0, g, 0, cap, hv, hn, (Array.getElem?_eq_some_iff.1 hg).1, fun i hi => ?_⟩)
      have := h.cells (g := g) (by rw [hv]; rfl) i _ (vals_at s i hi)
      rw [← this, Sl.addr_add]

/-- 'append(dst, v...)' of bytes onto what the call owns. -/
theorem run_append_bytes {P : Program} (w : World) (t ty : TypeId) (base : Nat) (e : TypeId) (i : TypeInfo) (z : Value) (ht : P.underlying t = some (.slice e)) (hi : P.info? e = some i) (hz : i.zero = some z)
    (hsize : i.size = 1) (hby : i.bytes = 1) (hzs : z.cells.size = 1)
    (v : Value) (n : Nat) (xs : List Value) (hown : w.ownsRow base e 1 v n xs) (xv : Value) (S : ByteArray) (hin : In w xv S)
    (h63 : n + S.size ≤ maxLen) (hbytes : n + S.size ≤ 140737488355328) (hbase : base ≤ w.heap.size) :
    ∃ v' w', (Builtin.append_ #[t, t] ty #[v, xv]).run P w = .ok v' w' ∧ w'.ownsRow base e 1 v' (n + S.size) (xs ++ vals S) ∧ w.grownBy w' v.ownBlock ∧ (v' = .slice none 0 0 → v = .slice none 0 0) := by
  rcases hin with ⟨rfl, h0⟩ | ⟨ad, cap, rfl, h0⟩ | ⟨h0, b, off, cap, rfl, h1, h2, hc⟩
  · have hv0 : vals S = [] := List.length_eq_zero_iff.1 (by rw [vals_len, h0])
    refine ⟨v, w, run_append_owned_none (P := P) (w := w) base t ty e i 1 ht hi v n xs hown, ?_, ⟨rfl, rfl, rfl, Nat.le_refl _, fun _ _ _ => rfl⟩, id⟩
    rw [hv0, h0, List.append_nil, Nat.add_zero]
    exact hown
  · have hv0 : vals S = [] := List.length_eq_zero_iff.1 (by rw [vals_len, h0])
    obtain ⟨v', w', hr, h1, h2, h3⟩ := run_append_own (P := P) w base t ty e i z 1 1 ht hi hz hsize hby hzs (by decide) v n xs hown ad 0 cap [] rfl (by simp) (by simp) (by omega) (by omega) hbase
    refine ⟨v', w', hr, ?_, h2, fun hh => (h3.1 hh).1⟩
    rw [hv0, h0]
    exact h1
  · obtain ⟨v', w', hr, h1, h2, h3⟩ := run_append_own (P := P) w base t ty e i z 1 1 ht hi hz hsize hby hzs (by decide) v n xs hown ⟨b, off, none⟩ S.size cap (vals S) (by rw [vals_len, Nat.mul_one]) (fun j u hj => by
      have hj2 : j < S.size := by have := (List.getElem?_eq_some_iff.1 hj).1; rw [vals_len] at this; exact this
      rw [vals_at S j hj2] at hj
      cases hj
      rw [Sl.addr_add]
      exact hc j hj2) (fun u hu => by obtain ⟨j, _, rfl⟩ := List.mem_map.1 hu; rfl) h63 (by omega) hbase
    exact ⟨v', w', hr, h1, h2, fun hh => (h3.1 hh).1⟩

section
variable {P : Program} {w : World} {ops : Array Oper} {rest : List Oper} {o : Oper} {a : Act} {Q : Exit → Act → World → Prop}
theorem wp_append_bytes {K : Act → World → Prop} (s x : Operand) (t : TypeId)
    (ho : o.op = .call { callee := .builtin .append, args := #[s, x], argTypes := #[t, t] })
    (base : Nat) (e : TypeId) (i : TypeInfo) (z : Value) (ht : P.underlying t = some (.slice e)) (hi : P.info? e = some i) (hz : i.zero = some z)
    (hsize : i.size = 1) (hby : i.bytes = 1) (hzs : z.cells.size = 1)
    (v : Value) (n : Nat) (xs : List Value) (hs : a.eval s = v) (hown : w.ownsRow base e 1 v n xs)
    (xv : Value) (S : ByteArray) (hx : a.eval x = xv) (hin : In w xv S)
    (h63 : n + S.size ≤ maxLen) (hbytes : n + S.size ≤ 140737488355328) (hbase : base ≤ w.heap.size)
    (h : ∀ v' w', w'.ownsRow base e 1 v' (n + S.size) (xs ++ vals S) → w.grownBy w' v.ownBlock → (v' = .slice none 0 0 → v = .slice none 0 0) → K (a.put o.dst v') w') : o.wp P a w K Q := by
  obtain ⟨v', w', hr, h2, h3, h4⟩ := run_append_bytes (P := P) w t o.type base e i z ht hi hz hsize hby hzs v n xs hown xv S hin h63 hbytes hbase
  unfold Oper.wp execOp
  simp only [ho, resolve, invoke, builtin, Sem.run_bind, Sem.run_pure, Result.andThen_ok, List.map_toArray, List.map_cons, List.map_nil, hs, hx, hr]
  exact h v' w' h2 h3 h4
theorem wpList_append_bytes (hgd : o.guard = none) (s x : Operand) (t : TypeId)
    (ho : o.op = .call { callee := .builtin .append, args := #[s, x], argTypes := #[t, t] })
    (base : Nat) (e : TypeId) (i : TypeInfo) (z : Value) (ht : P.underlying t = some (.slice e)) (hi : P.info? e = some i) (hz : i.zero = some z)
    (hsize : i.size = 1) (hby : i.bytes = 1) (hzs : z.cells.size = 1)
    (v : Value) (n : Nat) (xs : List Value) (hs : a.eval s = v) (hown : w.ownsRow base e 1 v n xs)
    (xv : Value) (S : ByteArray) (hx : a.eval x = xv) (hin : In w xv S)
    (h63 : n + S.size ≤ maxLen) (hbytes : n + S.size ≤ 140737488355328) (hbase : base ≤ w.heap.size)
    (h : ∀ v' w', w'.ownsRow base e 1 v' (n + S.size) (xs ++ vals S) → w.grownBy w' v.ownBlock → (v' = .slice none 0 0 → v = .slice none 0 0) → wpList P ops Q rest (a.put o.dst v') w') : wpList P ops Q (o :: rest) a w :=
  wpList_plain hgd fun _ hK => wp_append_bytes s x t ho base e i z ht hi hz hsize hby hzs v n xs hs hown xv S hx hin h63 hbytes hbase fun v' w' h2 h3 h4 => hK _ _ (h v' w' h2 h3 h4)
/-- The same at a step of a region that draws. -/
theorem step_append_bytes {K : Act → World → Prop} {E : Prop} (hgd : o.guard = none) (s x : Operand) (t : TypeId)
    (ho : o.op = .call { callee := .builtin .append, args := #[s, x], argTypes := #[t, t] })
    (base : Nat) (e : TypeId) (i : TypeInfo) (z : Value) (ht : P.underlying t = some (.slice e)) (hi : P.info? e = some i) (hz : i.zero = some z)
    (hsize : i.size = 1) (hby : i.bytes = 1) (hzs : z.cells.size = 1)
    (v : Value) (n : Nat) (xs : List Value) (hs : a.eval s = v) (hown : w.ownsRow base e 1 v n xs)
    (xv : Value) (S : ByteArray) (hx : a.eval x = xv) (hin : In w xv S)
    (h63 : n + S.size ≤ maxLen) (hbytes : n + S.size ≤ 140737488355328) (hbase : base ≤ w.heap.size)
    (h : ∀ v' w', w'.ownsRow base e 1 v' (n + S.size) (xs ++ vals S) → w.grownBy w' v.ownBlock → (v' = .slice none 0 0 → v = .slice none 0 0) → K (a.put o.dst v') w') :
    if Region.wanted o (yielded ops a.tmps) = true then Oper.wp P o a w K Q else E := by
  have hw : Region.wanted o (yielded ops a.tmps) = true := by simp [Region.wanted, hgd]
  rw [if_pos hw]
  exact wp_append_bytes s x t ho base e i z ht hi hz hsize hby hzs v n xs hs hown xv S hx hin h63 hbytes hbase h
end

/-- Bytes off a list of numbers. -/
def ofNums (zs : List Int) : ByteArray := ⟨(zs.map fun z => z.toNat.toUInt8).toArray⟩
theorem ofNums_size (zs : List Int) : (ofNums zs).size = zs.length := by
  show (List.toArray _).size = _
  simp
theorem ofNums_byt (zs : List Int) (hz : ∀ n ∈ zs, (Lit.int .u8 n).wf = true) (j : Nat) (h : j < zs.length) : Cd.byt (ofNums zs) j = zs.getD j 0 := by
  have hb := bounds_u8 (hz _ (List.getElem_mem h))
  have e : (ofNums zs).get! j = (zs[j]).toNat.toUInt8 := by
    show (ofNums zs).data[j]! = _
    unfold ofNums
    simp [h]
  unfold Cd.byt
  rw [e, List.getD_eq_getElem?_getD, List.getElem?_eq_getElem h]
  have : ((zs[j]).toNat.toUInt8).toNat = (zs[j]).toNat := by
    rw [Nat.toUInt8, UInt8.toNat_ofNat']
    omega
  rw [this]
  simp
  omega

/-- An argument that is a slice of bytes. -/
theorem In.open {H : Type} {enc : TypeId × Value → H} {P : Program} {w : World} {base : Nat} {spare : Nat → Bool} {held : Bool} {t e : TypeId} {v : Value} {d : DataW H} {ps : List MemPlace} (ht : P.underlying t = some (.slice e)) (he : P.underlying e = some (.int .u8)) (hc : P.cellsOf e = 1)
    (hv : ∃ a len cap, v = .slice a len cap) (hj : DataW.Trod enc P w base spare held t v d ps) :
    ∃ s : ByteArray, In w v s ∧ ((d = .nil ∧ s.size = 0) ∨ ∃ elems spare, d = .slice elems spare ∧ elems.length = s.size) := by
  obtain ⟨a0, len, cap, rfl⟩ := hv
  obtain ⟨fuel, hf⟩ := hj
  rcases Go.ChangeShapes.open_ints ht he hc hf with ⟨hcs, hx⟩ | ⟨a, len', cap', zs, hcs, _, hl, hm, hz, hx, hcell, hwz⟩
  · simp only [Value.cells, List.cons.injEq, Value.slice.injEq, and_true] at hcs
    simp only [Prod.mk.injEq] at hx
    refine ⟨⟨#[]⟩, .inl ⟨?_, rfl⟩, .inl ⟨hx.1, rfl⟩⟩
    simp_all
  · simp only [Prod.mk.injEq] at hx
    have hlz : len' ≤ zs.length := by rw [hz]; split <;> omega
    have hsz : (ofNums (zs.take len')).size = len' := by rw [ofNums_size, List.length_take]; omega
    have hva : (Value.slice a0 len cap) = .slice (some a) len' cap' := by simpa [Value.cells] using hcs
    refine ⟨ofNums (zs.take len'), ?_, .inr ⟨_, _, hx.1, by simp [Go.ChangeShapes.lits, hsz]; omega⟩⟩
    rcases Nat.eq_zero_or_pos len' with h0 | h0
    · exact .inr (.inl ⟨a, cap', by rw [hva, h0], by rw [hsz, h0]⟩)
    · obtain ⟨b, off, rfl, hcl⟩ := ints_at hcell (by omega)
      refine .inr (.inr ⟨by omega, b, off, cap', by rw [hva, hsz], by omega, ?_, fun j hj => ?_⟩)
      · have h1 := hcl 0 (by omega)
        rcases Nat.lt_or_ge b w.heap.size with h | h
        · exact h
        · simp [World.cell?, Array.getElem?_eq_none h] at h1
      · rw [hsz] at hj
        rw [hcl j (by omega), ofNums_byt _ (fun n hn => hwz n (List.mem_of_mem_take hn)) j (by rw [List.length_take]; omega)]
        congr 2
        rw [List.getD_eq_getElem?_getD, List.getD_eq_getElem?_getD, List.getElem?_take, if_pos hj]
theorem In.at {w : World} {ad : Option Addr} {n cap : Nat} {s : ByteArray} (h : In w (.slice ad n cap) s) (h0 : 0 < s.size) : ∃ b off, ad = some ⟨b, off, none⟩ ∧ b < w.heap.size ∧ s.size ≤ cap ∧ ∀ j, j < s.size → w.cell? ⟨b, off + j, none⟩ = some (.int .u8 (Cd.byt s j)) := by
  rcases h with ⟨_, h1⟩ | ⟨_, _, _, h1⟩ | ⟨_, b, off, c2, hv, h1, h2, hc⟩
  · omega
  · omega
  · simp only [Value.slice.injEq] at hv
    obtain ⟨rfl, _, rfl⟩ := hv
    exact ⟨b, off, rfl, h2, h1, hc⟩

/-- The cells of a list of bytes. -/
def bv (l : List UInt8) : List Value := l.map fun b => Value.int .u8 b.toNat
theorem bv_nil : bv [] = [] := rfl
theorem bv_append (a b : List UInt8) : bv (a ++ b) = bv a ++ bv b := by simp [bv]
theorem bv_len (l : List UInt8) : (bv l).length = l.length := by simp [bv]
theorem vals_bv (l : List UInt8) : vals ⟨l.toArray⟩ = bv l := by
  have hz : (ByteArray.mk l.toArray).size = l.length := by show l.toArray.size = _; simp
  apply List.ext_getElem?
  intro j
  rcases Nat.lt_or_ge j l.length with h | h
  · rw [vals_at _ j (by rw [hz]; exact h)]
    have : (ByteArray.mk l.toArray).get! j = l[j] := by
      show l.toArray[j]! = _
      simp [h]
    unfold Cd.byt
    rw [this]
    simp [bv, h]
  · rw [List.getElem?_eq_none (by rw [vals_len, hz]; exact h), List.getElem?_eq_none (by rw [bv_len]; exact h)]
theorem In.of_bv {w : World} {B : Nat} {t : TypeId} {v : Value} {l : List UInt8} (h : w.ownsRow B t 1 v l.length (bv l)) : In w v ⟨l.toArray⟩ := by
  have hz : (ByteArray.mk l.toArray).size = l.length := by show l.toArray.size = _; simp
  refine In.of_own (B := B) (t := t) ?_
  rw [hz, vals_bv]
  exact h

/-- An append of plain cells onto what the call owns: the new row, and the old one, which still reads as it did. -/
theorem run_append_keep {P : Program} (w : World) (t ty : TypeId) (base : Nat) (e : TypeId) (i : TypeInfo) (z : Value) (ht : P.underlying t = some (.slice e)) (hi : P.info? e = some i) (hz : i.zero = some z)
    (hsize : i.size = 1) (hby : i.bytes = 1) (hzs : z.cells.size = 1)
    (v : Value) (n : Nat) (xs : List Value) (hown : w.ownsRow base e 1 v n xs)
    (a : Addr) (m c : Nat) (news : List Value) (hl : news.length = m) (hnews : ∀ j u, news[j]? = some u → w.cell? (a.add j) = some u) (h1 : ∀ u ∈ news, u.oneCell' = true)
    (h63 : n + m ≤ maxLen) (hbytes : n + m ≤ 140737488355328) (hbase : base ≤ w.heap.size) :
    ∃ v' w', (Builtin.append_ #[t, t] ty #[v, .slice (some a) m c]).run P w = .ok v' w' ∧ w'.ownsRow base e 1 v' (n + m) (xs ++ news) ∧ w.grownBy w' v.ownBlock ∧ w'.ownsRow base e 1 v n xs := by
  obtain ⟨v', w', hr, h2, h3, h4⟩ := run_append_own (P := P) w base t ty e i z 1 1 ht hi hz hsize hby hzs (by decide) v n xs hown a m c news (by rw [hl, Nat.mul_one]) hnews h1 h63 (by omega) hbase
  refine ⟨v', w', hr, h2, h3, hown.1, ?_⟩
  rcases hown.2 with ⟨hv, h0⟩ | ⟨g, cap, cur, hv, hbg, hg, hnc, hcm, hcs, htake⟩
  · exact .inl ⟨hv, h0⟩
  · subst hv
    have hxl : xs.length = n := by rw [hown.1, Nat.mul_one]
    rw [Nat.mul_one] at hcs htake
    by_cases hroom : n + m ≤ cap
    · have hr2 := run_append_room (P := P) w t ty e i ht hi g n cap cur hg a m c news (by rw [hl, hsize, Nat.mul_one]) hnews h1 hroom (by rw [hsize, Nat.mul_one, hl, hcs]; exact hroom)
      rw [hr] at hr2
      simp only [Result.ok.injEq] at hr2
      obtain ⟨rfl, rfl⟩ := hr2
      rw [hsize, Nat.mul_one]
      refine .inr ⟨g, cap, _, rfl, hbg, setRow_heap w g cur _ e _ hg, hnc, hcm, ?_, ?_⟩
      · rw [Nat.mul_one]
        simp only [List.size_toArray, List.length_append, List.length_take, List.length_drop, Array.length_toList]
        omega
      · rw [htake]
        simp only [List.append_assoc]
        rw [← hxl]
        exact List.take_left
    · have holds : ∀ j u, xs[j]? = some u → w.cell? ((⟨g, 0, none⟩ : Addr).add j) = some u := hown.cells (g := g) rfl
      have hr2 := run_append_grow (P := P) w t ty e i z ht hi hz ⟨g, 0, none⟩ n cap xs (by rw [hsize, Nat.mul_one]; exact hxl) holds a m c news (by rw [hl, hsize, Nat.mul_one]) hnews (by omega) (by simp only [maxLen] at h63; omega) (by rw [hby]; exact growslice_fits (by omega) (by omega))
      rw [hr] at hr2
      simp only [Result.ok.injEq] at hr2
      obtain ⟨rfl, rfl⟩ := hr2
      refine .inr ⟨g, cap, cur, rfl, hbg, ?_, hnc, hcm, by first | exact hcs | (rw [Nat.mul_one]; exact hcs), by first | exact htake | (rw [Nat.mul_one]; exact htake)⟩
      exact (Lib.alloc_old w.drew _ g (Array.getElem?_eq_some_iff.1 hg).1).trans hg
section
variable {P : Program} {w : World} {ops : Array Oper} {rest : List Oper} {o : Oper} {a : Act} {Q : Exit → Act → World → Prop}
theorem wpList_append_keep (hgd : o.guard = none) (s x : Operand) (t : TypeId)
    (ho : o.op = .call { callee := .builtin .append, args := #[s, x], argTypes := #[t, t] })
    (base : Nat) (e : TypeId) (i : TypeInfo) (z : Value) (ht : P.underlying t = some (.slice e)) (hi : P.info? e = some i) (hz : i.zero = some z)
    (hsize : i.size = 1) (hby : i.bytes = 1) (hzs : z.cells.size = 1)
    (v : Value) (n : Nat) (xs : List Value) (hs : a.eval s = v) (hown : w.ownsRow base e 1 v n xs)
    (ad : Addr) (m c : Nat) (news : List Value) (hx : a.eval x = .slice (some ad) m c) (hl : news.length = m) (hnews : ∀ j u, news[j]? = some u → w.cell? (ad.add j) = some u) (h1 : ∀ u ∈ news, u.oneCell' = true)
    (h63 : n + m ≤ maxLen) (hbytes : n + m ≤ 140737488355328) (hbase : base ≤ w.heap.size)
    (h : ∀ v' w', w'.ownsRow base e 1 v' (n + m) (xs ++ news) → w.grownBy w' v.ownBlock → w'.ownsRow base e 1 v n xs → wpList P ops Q rest (a.put o.dst v') w') : wpList P ops Q (o :: rest) a w := by
  refine wpList_plain hgd fun K hK => ?_
  obtain ⟨v', w', hr, h2, h3, h4⟩ := run_append_keep (P := P) w t o.type base e i z ht hi hz hsize hby hzs v n xs hown ad m c news hl hnews h1 h63 hbytes hbase
  unfold Oper.wp execOp
  simp only [ho, resolve, invoke, builtin, Sem.run_bind, Sem.run_pure, Result.andThen_ok, List.map_toArray, List.map_cons, List.map_nil, hs, hx, hr]
  exact hK _ _ (h v' w' h2 h3 h4)
end
end Go.Proofs.YtikmebkfdpbidaaGreatDoor.By
namespace Go.Proofs.YtikmebkfdpbidaaGreatDoor
open Go.RowKit
set_option linter.unusedVariables false

/-- What a node of a datum holds beside its list: kind, number, exact number, text, bytes. -/
structure Tr.Hd where
  k : Int
  n : Int
  s1 : Bool
  t1 : List Nat
  b1 : List Nat
  s2 : Bool
  t2 : List Nat
  b2 : List Nat
  x : ByteArray
  raw : ByteArray
/-- A datum. -/
inductive Tr where
  | mk (h : Tr.Hd) (l : List Tr)
def Tr.hd : Tr → Tr.Hd | .mk h _ => h
def Tr.li : Tr → List Tr | .mk _ l => l
theorem Tr.eta (t : Tr) : t = .mk t.hd t.li := by cases t; rfl
/-- What a node can hold at all. -/
structure Tr.Hd.Ok (h : Tr.Hd) : Prop where
  k0 : -9223372036854775808 ≤ h.k
  k1 : h.k ≤ 9223372036854775807
  n0 : -9223372036854775808 ≤ h.n
  n1 : h.n ≤ 9223372036854775807
  w1 : Nt.Wd h.t1
  w2 : Nt.Wd h.b1
  w3 : Nt.Wd h.t2
  w4 : Nt.Wd h.b2
  l1 : h.t1.length ≤ 4611686018427387904
  l2 : h.b1.length ≤ 4611686018427387904
  l3 : h.t2.length ≤ 4611686018427387904
  l4 : h.b2.length ≤ 4611686018427387904
  x1 : h.x.size ≤ maxLen
  r1 : h.raw.size ≤ 140737488355328
/-- The eleven cells of a node. -/
def Tr.cells (h : Tr.Hd) (v3 v4 v6 v7 v9 v10 : Value) : Array Value := #[.int .i64 h.k, .int .i64 h.n, .bool h.s1, v3, v4, .bool h.s2, v6, v7, .string h.x, v9, v10]
theorem Tr.cells_size (h : Tr.Hd) (v3 v4 v6 v7 v9 v10 : Value) : (Tr.cells h v3 v4 v6 v7 v9 v10).size = 11 := rfl
/-- The blocks that a slice of n cells or more lies in are of S. -/
def Tr.On (S : Nat → Prop) (v : Value) (n : Nat) : Prop := 0 < n → ∀ b off l cap, v = .slice (some ⟨b, off, none⟩) l cap → S b
structure Tr.Hd.In (w : World) (S : Nat → Prop) (h : Tr.Hd) (v3 v4 v6 v7 v9 : Value) : Prop where
  ok : h.Ok
  i3 : Nt.In w v3 h.t1
  i4 : Nt.In w v4 h.b1
  i6 : Nt.In w v6 h.t2
  i7 : Nt.In w v7 h.b2
  i9 : By.In w v9 h.raw
  o3 : Tr.On S v3 h.t1.length
  o4 : Tr.On S v4 h.b1.length
  o6 : Tr.On S v6 h.t2.length
  o7 : Tr.On S v7 h.b2.length
  o9 : Tr.On S v9 h.raw.size
/-- Eleven cells of memory from an address on. -/
def Tr.Mem (w : World) (b off : Nat) (C : Array Value) : Prop := ∀ j, j < 11 → ∃ u, C[j]? = some u ∧ w.cell? ⟨b, off + j, none⟩ = some u
/-- What a list's slice is like: n elements of eleven cells. -/
def Tr.Sl (w : World) (S : Nat → Prop) (v : Value) (n : Nat) (P : Nat → Nat → Prop) : Prop :=
  (v = .slice none 0 0 ∧ n = 0) ∨ (∃ a cap, v = .slice (some a) 0 cap ∧ n = 0) ∨
  (0 < n ∧ ∃ b off cap, v = .slice (some ⟨b, off, none⟩) n cap ∧ n ≤ cap ∧ cap ≤ 9223372036854775807 ∧ b < w.heap.size ∧ S b ∧ P b off)
mutual
/-- The value reads as the datum; all that it lies in is of S. -/
def Tr.In (w : World) (S : Nat → Prop) : Tr → Value → Prop
  | .mk h l, v => ∃ v3 v4 v6 v7 v9 v10, v = .agg (Tr.cells h v3 v4 v6 v7 v9 v10) ∧ Tr.Hd.In w S h v3 v4 v6 v7 v9 ∧ Tr.Sl w S v10 l.length (fun b off => Tr.All w S l b off)
/-- Data, one behind the other in memory. -/
def Tr.All (w : World) (S : Nat → Prop) : List Tr → Nat → Nat → Prop
  | [], _, _ => True
  | t :: ts, b, off => (∃ C, Tr.In w S t (.agg C) ∧ Tr.Mem w b off C) ∧ Tr.All w S ts b (off + 11)
end
theorem Tr.In_mk {w : World} {S : Nat → Prop} {h : Tr.Hd} {l : List Tr} {v : Value} : Tr.In w S (.mk h l) v ↔ ∃ v3 v4 v6 v7 v9 v10, v = .agg (Tr.cells h v3 v4 v6 v7 v9 v10) ∧ Tr.Hd.In w S h v3 v4 v6 v7 v9 ∧ Tr.Sl w S v10 l.length (fun b off => Tr.All w S l b off) := by rw [Tr.In]
theorem Tr.All_nil {w : World} {S : Nat → Prop} {b off : Nat} : Tr.All w S [] b off := by rw [Tr.All]; trivial
theorem Tr.All_cons {w : World} {S : Nat → Prop} {t : Tr} {ts : List Tr} {b off : Nat} : Tr.All w S (t :: ts) b off ↔ (∃ C, Tr.In w S t (.agg C) ∧ Tr.Mem w b off C) ∧ Tr.All w S ts b (off + 11) := by rw [Tr.All]
/-- A list's slice reads as data. -/
def Tr.LIn (w : World) (S : Nat → Prop) (l : List Tr) (v : Value) : Prop := Tr.Sl w S v l.length (fun b off => Tr.All w S l b off)
/-- The blocks of S are as they were. -/
structure Tr.Kept (S : Nat → Prop) (w w' : World) : Prop where
  size : w.heap.size ≤ w'.heap.size
  block : ∀ q, S q → q < w.heap.size → w'.heap[q]? = w.heap[q]?
theorem Tr.Kept.refl (S : Nat → Prop) (w : World) : Tr.Kept S w w := ⟨Nat.le_refl _, fun _ _ _ => rfl⟩
theorem Tr.Kept.trans {S : Nat → Prop} {a b c : World} (h : Tr.Kept S a b) (k : Tr.Kept S b c) : Tr.Kept S a c :=
  ⟨Nat.le_trans h.size k.size, fun q hq hl => (k.block q hq (Nat.lt_of_lt_of_le hl h.size)).trans (h.block q hq hl)⟩
theorem Tr.Kept.mono {S S' : Nat → Prop} {a b : World} (h : Tr.Kept S a b) (k : ∀ q, S' q → S q) : Tr.Kept S' a b := ⟨h.size, fun q hq hl => h.block q (k q hq) hl⟩
theorem Tr.Kept.below {S : Nat → Prop} {w w' : World} {B : Nat} (hb : Below B w w') (hB : ∀ q, S q → q < w.heap.size → q < B) : Tr.Kept S w w' := ⟨hb.size, fun q hq hl => hb.block q (hB q hq hl)⟩
theorem Tr.Kept.all {S : Nat → Prop} {w w' : World} {B : Nat} (hb : Below B w w') (hB : w.heap.size ≤ B) : Tr.Kept S w w' := Tr.Kept.below hb (fun q _ hl => Nat.lt_of_lt_of_le hl hB)
theorem Tr.Kept.cell {S : Nat → Prop} {w w' : World} (h : Tr.Kept S w w') {b off : Nat} (hS : S b) (hl : b < w.heap.size) : w'.cell? ⟨b, off, none⟩ = w.cell? ⟨b, off, none⟩ := World.cell?_of_block (w := w) (h.block b hS hl)
theorem Tr.Mem.kept {w w' : World} {S : Nat → Prop} {b off : Nat} {C : Array Value} (h : Tr.Mem w b off C) (hk : Tr.Kept S w w') (hS : S b) (hl : b < w.heap.size) : Tr.Mem w' b off C := fun j hj => by
  obtain ⟨u, h1, h2⟩ := h j hj
  exact ⟨u, h1, (hk.cell hS hl).trans h2⟩
theorem Nt.In.kept {w w' : World} {S : Nat → Prop} {v : Value} {ws : List Nat} (h : Nt.In w v ws) (ho : Tr.On S v ws.length) (hk : Tr.Kept S w w') : Nt.In w' v ws := by
  rcases h with h | h | ⟨h0, b, off, cap, hv, hc, hl, hcell⟩
  · exact .inl h
  · exact .inr (.inl h)
  · exact .inr (.inr ⟨h0, b, off, cap, hv, hc, Nat.lt_of_lt_of_le hl hk.size, fun j hj => (hk.cell (ho h0 _ _ _ _ hv) hl).trans (hcell j hj)⟩)
theorem By.In.kept {w w' : World} {S : Nat → Prop} {v : Value} {s : ByteArray} (h : By.In w v s) (ho : Tr.On S v s.size) (hk : Tr.Kept S w w') : By.In w' v s := by
  rcases h with h | h | ⟨h0, b, off, cap, hv, hc, hl, hcell⟩
  · exact .inl h
  · exact .inr (.inl h)
  · exact .inr (.inr ⟨h0, b, off, cap, hv, hc, Nat.lt_of_lt_of_le hl hk.size, fun j hj => (hk.cell (ho h0 _ _ _ _ hv) hl).trans (hcell j hj)⟩)
theorem Tr.Sl.slice {w : World} {S : Nat → Prop} {v : Value} {n : Nat} {P : Nat → Nat → Prop} (h : Tr.Sl w S v n P) : ∃ ad cap, v = .slice ad n cap ∧ n ≤ cap ∧ (n = 0 ∨ cap ≤ 9223372036854775807) := by
  rcases h with ⟨rfl, rfl⟩ | ⟨a, cap, rfl, rfl⟩ | ⟨h0, b, off, cap, rfl, h1, h2, _⟩
  · exact ⟨_, _, rfl, Nat.le_refl _, .inl rfl⟩
  · exact ⟨_, _, rfl, Nat.zero_le _, .inl rfl⟩
  · exact ⟨_, _, rfl, h1, .inr h2⟩
theorem Tr.Sl.at {w : World} {S : Nat → Prop} {ad : Option Addr} {n m cap : Nat} {P : Nat → Nat → Prop} (h : Tr.Sl w S (.slice ad n cap) m P) (h0 : 0 < m) : ∃ b off, ad = some ⟨b, off, none⟩ ∧ n = m ∧ m ≤ cap ∧ cap ≤ 9223372036854775807 ∧ b < w.heap.size ∧ S b ∧ P b off := by
  rcases h with ⟨_, rfl⟩ | ⟨_, _, _, rfl⟩ | ⟨_, b, off, c, hv, h1, h2, h3, h4, h5⟩
  · omega
  · omega
  · simp only [Value.slice.injEq] at hv
    obtain ⟨rfl, rfl, rfl⟩ := hv
    exact ⟨b, off, rfl, rfl, h1, h2, h3, h4, h5⟩
theorem Tr.Sl.len {w : World} {S : Nat → Prop} {ad : Option Addr} {n m cap : Nat} {P : Nat → Nat → Prop} (h : Tr.Sl w S (.slice ad n cap) m P) : n = m := by
  obtain ⟨a, c, e, _⟩ := h.slice
  simp only [Value.slice.injEq] at e
  exact e.2.1
theorem Tr.Sl.imp {w w' : World} {S S' : Nat → Prop} {v : Value} {n : Nat} {P P' : Nat → Nat → Prop} (h : Tr.Sl w S v n P) (hz : w.heap.size ≤ w'.heap.size) (hS : ∀ q, S q → S' q) (hP : ∀ b off, b < w.heap.size → S b → P b off → P' b off) : Tr.Sl w' S' v n P' := by
  rcases h with h | h | ⟨h0, b, off, cap, hv, h1, h2, h3, h4, h5⟩
  · exact .inl h
  · exact .inr (.inl h)
  · exact .inr (.inr ⟨h0, b, off, cap, hv, h1, h2, by omega, hS b h4, hP b off h3 h4 h5⟩)
theorem Tr.Hd.In.kept {w w' : World} {S : Nat → Prop} {h : Tr.Hd} {v3 v4 v6 v7 v9 : Value} (i : Tr.Hd.In w S h v3 v4 v6 v7 v9) (hk : Tr.Kept S w w') : Tr.Hd.In w' S h v3 v4 v6 v7 v9 :=
  ⟨i.ok, i.i3.kept i.o3 hk, i.i4.kept i.o4 hk, i.i6.kept i.o6 hk, i.i7.kept i.o7 hk, i.i9.kept i.o9 hk, i.o3, i.o4, i.o6, i.o7, i.o9⟩
theorem Tr.On.mono {S S' : Nat → Prop} {v : Value} {n : Nat} (h : Tr.On S v n) (k : ∀ q, S q → S' q) : Tr.On S' v n := fun h0 b off l cap e => k _ (h h0 b off l cap e)
theorem Tr.Hd.In.mono {w : World} {S S' : Nat → Prop} {h : Tr.Hd} {v3 v4 v6 v7 v9 : Value} (i : Tr.Hd.In w S h v3 v4 v6 v7 v9) (k : ∀ q, S q → S' q) : Tr.Hd.In w S' h v3 v4 v6 v7 v9 :=
  ⟨i.ok, i.i3, i.i4, i.i6, i.i7, i.i9, i.o3.mono k, i.o4.mono k, i.o6.mono k, i.o7.mono k, i.o9.mono k⟩
mutual
theorem Tr.In.kept {w w' : World} {S : Nat → Prop} (hk : Tr.Kept S w w') : ∀ (t : Tr) (v : Value), Tr.In w S t v → Tr.In w' S t v
  | .mk h l, v, hi => by
    rw [Tr.In_mk] at hi ⊢
    obtain ⟨v3, v4, v6, v7, v9, v10, e, h1, h2⟩ := hi
    exact ⟨v3, v4, v6, v7, v9, v10, e, h1.kept hk, h2.imp hk.size (fun _ h => h) (fun b off h3 h4 h5 => Tr.All.kept hk l b off h4 h3 h5)⟩
theorem Tr.All.kept {w w' : World} {S : Nat → Prop} (hk : Tr.Kept S w w') : ∀ (l : List Tr) (b off : Nat), S b → b < w.heap.size → Tr.All w S l b off → Tr.All w' S l b off
  | [], b, off, _, _, _ => Tr.All_nil
  | t :: ts, b, off, hS, hlt, h => by
    rw [Tr.All_cons] at h ⊢
    obtain ⟨⟨C, h1, h2⟩, h3⟩ := h
    exact ⟨⟨C, Tr.In.kept hk t _ h1, h2.kept hk hS hlt⟩, Tr.All.kept hk ts b (off + 11) hS hlt h3⟩
end
mutual
theorem Tr.In.mono {w : World} {S S' : Nat → Prop} (hk : ∀ q, S q → S' q) : ∀ (t : Tr) (v : Value), Tr.In w S t v → Tr.In w S' t v
  | .mk h l, v, hi => by
    rw [Tr.In_mk] at hi ⊢
    obtain ⟨v3, v4, v6, v7, v9, v10, e, h1, h2⟩ := hi
    exact ⟨v3, v4, v6, v7, v9, v10, e, h1.mono hk, h2.imp (Nat.le_refl _) hk (fun b off h3 h4 h5 => Tr.All.mono hk l b off h5)⟩
theorem Tr.All.mono {w : World} {S S' : Nat → Prop} (hk : ∀ q, S q → S' q) : ∀ (l : List Tr) (b off : Nat), Tr.All w S l b off → Tr.All w S' l b off
  | [], b, off, _ => Tr.All_nil
  | t :: ts, b, off, h => by
    rw [Tr.All_cons] at h ⊢
    obtain ⟨⟨C, h1, h2⟩, h3⟩ := h
    exact ⟨⟨C, Tr.In.mono hk t _ h1, h2⟩, Tr.All.mono hk ts b (off + 11) h3⟩
end
theorem Tr.In.below {w w' : World} {S : Nat → Prop} {B : Nat} {t : Tr} {v : Value} (h : Tr.In w S t v) (hb : Below B w w') (hB : w.heap.size ≤ B) : Tr.In w' S t v := Tr.In.kept (Tr.Kept.all hb hB) t v h
theorem Tr.LIn.kept {w w' : World} {S : Nat → Prop} {l : List Tr} {v : Value} (h : Tr.LIn w S l v) (hk : Tr.Kept S w w') : Tr.LIn w' S l v :=
  h.imp hk.size (fun _ h => h) (fun b off h3 h4 h5 => Tr.All.kept hk l b off h4 h3 h5)
theorem Tr.LIn.mono {w : World} {S S' : Nat → Prop} {l : List Tr} {v : Value} (h : Tr.LIn w S l v) (hk : ∀ q, S q → S' q) : Tr.LIn w S' l v :=
  h.imp (Nat.le_refl _) hk (fun b off h3 h4 h5 => Tr.All.mono hk l b off h5)
theorem Tr.LIn.below {w w' : World} {S : Nat → Prop} {B : Nat} {l : List Tr} {v : Value} (h : Tr.LIn w S l v) (hb : Below B w w') (hB : w.heap.size ≤ B) : Tr.LIn w' S l v := h.kept (Tr.Kept.all hb hB)
/-- The element at a place. -/
theorem Tr.All.at {w : World} {S : Nat → Prop} : ∀ (l : List Tr) (b off : Nat), Tr.All w S l b off → ∀ (k : Nat) (t : Tr), l[k]? = some t → ∃ C, Tr.In w S t (.agg C) ∧ Tr.Mem w b (off + 11 * k) C
  | [], b, off, _, k, t, hk => by simp at hk
  | x :: ts, b, off, h, 0, t, hk => by
    obtain rfl : x = t := by simpa using hk
    rw [Tr.All_cons] at h
    exact h.1
  | x :: ts, b, off, h, k + 1, t, hk => by
    rw [Tr.All_cons] at h
    have := Tr.All.at ts b (off + 11) h.2 k t (by simpa using hk)
    rwa [show off + 11 + 11 * k = off + 11 * (k + 1) by omega] at this
theorem Tr.All.of {w : World} {S : Nat → Prop} : ∀ (l : List Tr) (b off : Nat), (∀ (k : Nat) (t : Tr), l[k]? = some t → ∃ C, Tr.In w S t (.agg C) ∧ Tr.Mem w b (off + 11 * k) C) → Tr.All w S l b off
  | [], b, off, _ => Tr.All_nil
  | x :: ts, b, off, h => by
    rw [Tr.All_cons]
    refine ⟨by simpa using h 0 x rfl, Tr.All.of ts b (off + 11) (fun k t hk => ?_)⟩
    rw [show off + 11 + 11 * k = off + 11 * (k + 1) by omega]
    exact h (k + 1) t (by simpa using hk)
theorem Tr.LIn.nil (w : World) (S : Nat → Prop) : Tr.LIn w S [] (.slice none 0 0) := .inl ⟨rfl, rfl⟩
theorem Tr.In.form {w : World} {S : Nat → Prop} {t : Tr} {C : Array Value} (h : Tr.In w S t (.agg C)) : ∃ (hd : Tr.Hd) (l : List Tr) (v3 v4 v6 v7 v9 v10 : Value), C = Tr.cells hd v3 v4 v6 v7 v9 v10 := by
  obtain ⟨hd, l⟩ := t
  rw [Tr.In_mk] at h
  obtain ⟨v3, v4, v6, v7, v9, v10, e, _⟩ := h
  exact ⟨hd, l, v3, v4, v6, v7, v9, v10, by injection e⟩
/-- Eleven cells, opened. -/
theorem Tr.Mem.cells {w : World} {b off : Nat} {u0 u1 u2 u3 u4 u5 u6 u7 u8 u9 u10 : Value} (h : Tr.Mem w b off #[u0, u1, u2, u3, u4, u5, u6, u7, u8, u9, u10]) :
    w.cell? ⟨b, off, none⟩ = some u0 ∧ w.cell? ⟨b, off + 1, none⟩ = some u1 ∧ w.cell? ⟨b, off + 2, none⟩ = some u2 ∧ w.cell? ⟨b, off + 3, none⟩ = some u3 ∧ w.cell? ⟨b, off + 4, none⟩ = some u4 ∧ w.cell? ⟨b, off + 5, none⟩ = some u5 ∧ w.cell? ⟨b, off + 6, none⟩ = some u6 ∧ w.cell? ⟨b, off + 7, none⟩ = some u7 ∧ w.cell? ⟨b, off + 8, none⟩ = some u8 ∧ w.cell? ⟨b, off + 9, none⟩ = some u9 ∧ w.cell? ⟨b, off + 10, none⟩ = some u10 := by
  have g : ∀ j u, j < 11 → (#[u0, u1, u2, u3, u4, u5, u6, u7, u8, u9, u10] : Array Value)[j]? = some u → w.cell? ⟨b, off + j, none⟩ = some u := fun j u hj hu => by
    obtain ⟨x, h1, h2⟩ := h j hj
    rw [hu] at h1
    cases h1
    exact h2
  exact ⟨g 0 _ (by decide) rfl, g 1 _ (by decide) rfl, g 2 _ (by decide) rfl, g 3 _ (by decide) rfl, g 4 _ (by decide) rfl, g 5 _ (by decide) rfl, g 6 _ (by decide) rfl, g 7 _ (by decide) rfl, g 8 _ (by decide) rfl, g 9 _ (by decide) rfl, g 10 _ (by decide) rfl⟩
end Go.Proofs.YtikmebkfdpbidaaGreatDoor
namespace Go.Proofs.YtikmebkfdpbidaaGreatDoor
open Go.RowKit
set_option linter.unusedVariables false
set_option linter.unusedSimpArgs false

set_option maxHeartbeats 1000000 in
set_option maxRecDepth 100000 in
theorem Sm.nat (ws : List Nat) (v v2 : Value) (w : World) (hs : ws.length ≤ 4611686018427387904) (h : Nt.In w v ws) (h2 : Nt.In w v2 ws) :
    Calls Tryz.prog 147 #[v, v2] w fun e w' => e = .returned (.bool true) ∧ Below w.heap.size w w' := by
  obtain ⟨ad, cap, rfl⟩ := h.slice
  obtain ⟨ad2, cap2, rfl⟩ := h2.slice
  have H := Lib.hid h; clear h
  have H2 := Lib.hid h2; clear h2
  go_enter Tryz.func147, Tryz.ntmps147
  go_wp2
  go_loopw [5] (fun i wr => ∃ k : Nat, i = .int .i64 k ∧ k ≤ ws.length ∧ Below w.heap.size w wr) (fun i _ => ws.length - (intOf i).toNat)
  case atStart => exact ⟨0, rfl, Nat.zero_le _, Below.refl _ _⟩
  case round =>
    obtain ⟨k, rfl, hk, hb⟩ := hrel
    by_cases hlt : k < ws.length
    · obtain ⟨b, off, had, _, _, hbl, hc⟩ := H.out.at (by omega)
      obtain ⟨b2, off2, had2, _, _, hbl2, hc2⟩ := H2.out.at (by omega)
      subst had
      subst had2
      have c0 := (hb.cell (p := ⟨b, off + k, none⟩) hbl).trans (hc k hlt)
      have c1 := (hb.cell (p := ⟨b2, off2 + k, none⟩) hbl2).trans (hc2 k hlt)
      clear hc hc2
      generalize ws.getD k 0 = x at *
      have HB := Lib.hid hb; clear hb
      go_wp2
      go_quiet (fail)
      have HB2 := Lib.hid (below_drewN HB.out nq)
      go_wp2
      go_roundw
      case rel => exact ⟨k + 1, by first | rfl | go_num | (simp; try omega), by omega, HB2.out⟩
      case measure => simp [intOf]; omega
    · have HB := Lib.hid hb; clear hb
      go_wp2
      go_ret
      exact ⟨rfl, HB.out⟩
set_option maxHeartbeats 1000000 in
set_option maxRecDepth 100000 in
theorem Sm.rat (s : Bool) (ts bs : List Nat) (v3 v4 u3 u4 : Value) (w : World) (h1 : ts.length ≤ 4611686018427387904) (h2 : bs.length ≤ 4611686018427387904) (i3 : Nt.In w v3 ts) (i4 : Nt.In w v4 bs) (j3 : Nt.In w u3 ts) (j4 : Nt.In w u4 bs) :
    Calls Tryz.prog 96 #[.agg #[.bool s, v3, v4], .agg #[.bool s, u3, u4]] w fun e w' => e = .returned (.bool true) ∧ Below w.heap.size w w' := by
  obtain ⟨a3, c3, rfl⟩ := i3.slice
  obtain ⟨a4, c4, rfl⟩ := i4.slice
  obtain ⟨b3, d3, rfl⟩ := j3.slice
  obtain ⟨b4, d4, rfl⟩ := j4.slice
  have hA : ∀ o1 o2, Below w.heap.size w ((w.alloc o1).alloc o2) := fun o1 o2 => ((Below.refl _ _).alloc (Nat.le_refl _) _).alloc (by simp) _
  have hN : ∀ o1 o2, ((w.alloc o1).alloc o2).heap[w.heap.size]? = some o1 ∧ ((w.alloc o1).alloc o2).heap[w.heap.size + 1]? = some o2 ∧ ((w.alloc o1).alloc o2).heap.size = w.heap.size + 2 := fun o1 o2 => by
    refine ⟨(Lib.alloc_old _ _ _ (by simp)).trans (heap_alloc_new w o1), ?_, by simp⟩
    have := heap_alloc_new (w.alloc o1) o2
    rwa [show (w.alloc o1).heap.size = w.heap.size + 1 by simp] at this
  have K1 := fun w' (hb : Below w.heap.size w w') => Sm.nat ts _ _ w' h1 (i3.below hb (Nat.le_refl _)) (j3.below hb (Nat.le_refl _))
  have K2 := fun w' (hb : Below w.heap.size w w') => Sm.nat bs _ _ w' h2 (i4.below hb (Nat.le_refl _)) (j4.below hb (Nat.le_refl _))
  have HK1 := Lib.hid K1
  have HK2 := Lib.hid K2
  have HA := Lib.hid hA
  have HN := Lib.hid hN
  clear K1 K2 hA hN i3 i4 j3 j4
  go_enter Tryz.func96, Tryz.ntmps96
  go_wp2_with fail
  refine (HK1.out _ (HA.out _ _)).mono ?_
  rintro x w1 ⟨rfl, hb1⟩
  obtain ⟨n0, n1, n2⟩ := HN.out (.cells #[.bool s, .slice a3 ts.length c3, .slice a4 bs.length c4] 24) (.cells #[.bool s, .slice b3 ts.length d3, .slice b4 bs.length d4] 24)
  have q0 := (hb1.block w.heap.size (by omega)).trans n0
  have q1 := (hb1.block (w.heap.size + 1) (by omega)).trans n1
  have hbw1 := (HA.out _ _).trans (hb1.mono (HA.out _ _).size)
  have e0 : w1.cell? ⟨w.heap.size, 2, none⟩ = some (.slice a4 bs.length c4) := by simp [World.cell?, q0]
  have e1 : w1.cell? ⟨w.heap.size + 1, 2, none⟩ = some (.slice b4 bs.length d4) := by simp [World.cell?, q1]
  have HB1 := Lib.hid hbw1
  clear hb1 n0 n1 n2 q0 q1 hbw1
  go_wp2_with fail
  refine (HK2.out _ HB1.out).mono ?_
  rintro x w2 ⟨rfl, hb2⟩
  have HB2 := Lib.hid (HB1.out.trans (hb2.mono HB1.out.size))
  clear hb2 e0 e1
  go_wp2_with fail
  go_ret
  exact ⟨rfl, HB2.out⟩
end Go.Proofs.YtikmebkfdpbidaaGreatDoor
namespace Go.Proofs.YtikmebkfdpbidaaGreatDoor
open Go.RowKit
set_option linter.unusedVariables false
set_option linter.unusedSimpArgs false

theorem Rn.last_sound {ws : List Nat} (hw : Nt.Wd ws) (h0 : 0 < ws.length) : decide ((Nt.dig (Nt.val ws)).length = ws.length) = !decide (ws.getD (ws.length - 1) 0 = 0) := by
  by_cases h : ws.getD (ws.length - 1) 0 = 0
  · rw [decide_eq_true h]
    refine decide_eq_false (fun e => ?_)
    have h1 := (Nt.take_dig hw).2
    rw [e, List.take_length] at h1
    have hp : 0 < Nt.val ws := by
      rcases Nat.eq_zero_or_pos (Nt.val ws) with h2 | h2
      · rw [h2, Nt.dig_zero] at h1
        rw [h1] at h0
        simp at h0
      · exact h2
    have h2 := Nt.dig_last (Nt.val ws) hp
    rw [← h1] at h2
    exact h2 h
  · rw [decide_eq_false h]
    refine decide_eq_true ?_
    rw [Nt.dig_val ws hw (fun _ => h)]
set_option maxHeartbeats 1000000 in
set_option maxRecDepth 1000000 in
theorem Rn.Sound_any (ws : List Nat) (v : Value) (w : World) (h : Nt.In w v ws) (hw : Nt.Wd ws) (hl : ws.length ≤ 4611686018427387904) :
    Calls Tryz.prog 202 #[v] w fun e w' => e = .returned (.bool (Nt.sound ws)) ∧ Below w.heap.size w w' := by
  obtain ⟨ad, cap, rfl⟩ := h.slice
  by_cases h1 : ws.length ≤ 512
  · have h1I : (ws.length : Int) ≤ 512 := by omega
    rcases Nat.eq_zero_or_pos ws.length with h0 | h0
    · have hs : Nt.sound ws = true := by
        have : ws = [] := List.eq_nil_of_length_eq_zero h0
        subst this
        unfold Nt.sound
        simp [Nt.val, Nt.dig_zero]
      rw [hs, h0]
      clear h hs hw
      go_enter Tryz.func202, Tryz.ntmps202
      go_wp2_with fail
      go_ret
      exact ⟨rfl, Below.refl _ _⟩
    · have hs : Nt.sound ws = !decide (ws.getD (ws.length - 1) 0 = 0) := by
        unfold Nt.sound
        rw [decide_eq_true h1, Bool.true_and, Rn.last_sound hw h0]
      rw [hs]
      obtain ⟨b, off, rfl, _, _, _, hc⟩ := h.at h0
      have c0 := hc (ws.length - 1) (by omega)
      obtain ⟨k, hk⟩ : ∃ k, ws.length = k + 1 := ⟨ws.length - 1, by omega⟩
      rw [hk] at c0 ⊢
      rw [Nat.add_sub_cancel] at c0 ⊢
      have hkI : (((k + 1 : Nat) : Int) == 0) = false := beq_eq_false_iff_ne.2 (by omega)
      have hk1 : (((k + 1 : Nat) : Int) - 1) = (k : Int) := by omega
      have hk2 : ((k + 1 : Nat) : Int) ≤ 512 := by omega
      clear h hs hw hc
      generalize ws.getD k 0 = x at *
      by_cases hx : x = 0
      · subst hx
        go_enter Tryz.func202, Tryz.ntmps202
        go_wp2_with fail
        go_ret
        exact ⟨rfl, Below.refl _ _⟩
      · have hxI : ((x : Int) != 0) = true := by simpa using hx
        rw [decide_eq_false hx]
        go_enter Tryz.func202, Tryz.ntmps202
        go_wp2_with fail
        go_ret
        exact ⟨rfl, Below.refl _ _⟩
  · have h1I : ¬ (ws.length : Int) ≤ 512 := by omega
    have hs : Nt.sound ws = false := by unfold Nt.sound; rw [decide_eq_false h1]; rfl
    rw [hs]
    go_enter Tryz.func202, Tryz.ntmps202
    go_wp2_with fail
    go_ret
    exact ⟨rfl, Below.refl _ _⟩
set_option maxHeartbeats 1000000 in
set_option maxRecDepth 100000 in
/-- Words that differ. -/
theorem Rn.Same_ne (ws us : List Nat) (v v2 : Value) (w : World) (hs : ws.length ≤ 4611686018427387904) (h : Nt.In w v ws) (h2 : Nt.In w v2 us) (hne : ws ≠ us) :
    Calls Tryz.prog 147 #[v, v2] w fun e w' => e = .returned (.bool false) ∧ Below w.heap.size w w' := by
  obtain ⟨ad, cap, rfl⟩ := h.slice
  obtain ⟨ad2, cap2, rfl⟩ := h2.slice
  by_cases hll : ws.length = us.length
  · have H := Lib.hid h
    have H2 := Lib.hid h2
    have hneI : ((ws.length : Int) != (us.length : Int)) = false := by simp; omega
    have HNE : Hid (∃ j, j < ws.length ∧ ws.getD j 0 ≠ us.getD j 0) := Lib.hid (by
      refine Classical.byContradiction (fun hc => hne (List.ext_getElem hll (fun i h1 h2 => ?_)))
      refine Classical.byContradiction (fun h3 => hc ⟨i, h1, ?_⟩)
      rw [List.getD_eq_getElem?_getD, List.getD_eq_getElem?_getD, List.getElem?_eq_getElem h1, List.getElem?_eq_getElem h2]
      exact h3)
    have HLL := Lib.hid hll
    clear h h2 hne hll
    go_enter Tryz.func147, Tryz.ntmps147
    go_wp2_with fail
    go_loopw [5] (fun i wr => ∃ k : Nat, i = .int .i64 k ∧ k ≤ ws.length ∧ (∀ j, j < k → ws.getD j 0 = us.getD j 0) ∧ Below w.heap.size w wr) (fun i _ => ws.length - (intOf i).toNat)
    case atStart => exact ⟨0, rfl, Nat.zero_le _, fun j h => absurd h (Nat.not_lt_zero _), Below.refl _ _⟩
    case round =>
      obtain ⟨k, rfl, hk, hsame, hb⟩ := hrel
      have hlt : k < ws.length := by
        obtain ⟨j, hj, hjn⟩ := HNE.out
        rcases Nat.lt_or_ge j k with h1 | h1
        · exact absurd (hsame j h1) hjn
        · omega
      obtain ⟨b, off, had, _, _, hbl, hc⟩ := H.out.at (by omega)
      obtain ⟨b2, off2, had2, _, _, hbl2, hc2⟩ := H2.out.at (by have := HLL.out; omega)
      subst had
      subst had2
      have c0 := (hb.cell (p := ⟨b, off + k, none⟩) hbl).trans (hc k hlt)
      have c1 := (hb.cell (p := ⟨b2, off2 + k, none⟩) hbl2).trans (hc2 k (by have := HLL.out; omega))
      have HS := Lib.hid hsame
      have hltU : (k : Int) < (us.length : Int) := by have := HLL.out; omega
      have hltW : (k : Int) < (ws.length : Int) := by omega
      clear hc hc2 hsame
      by_cases hx : ws.getD k 0 = us.getD k 0
      · rw [← hx] at c1
        have HX : Hid (∀ j, j < k + 1 → ws.getD j 0 = us.getD j 0) := Lib.hid (fun j hj => by
          rcases Nat.lt_or_ge j k with h1 | h1
          · exact HS.out j h1
          · obtain rfl : j = k := by omega
            exact hx)
        clear hx
        generalize ws.getD k 0 = x at *
        have HB := Lib.hid hb
        clear hb
        go_wp2_with fail
        go_quiet (fail)
        have HB2 := Lib.hid (below_drewN HB.out nq)
        go_wp2_with fail
        go_roundw
        case rel => exact ⟨k + 1, by first | rfl | go_num | (simp; try omega), by omega, HX.out, HB2.out⟩
        case measure => simp [intOf]; omega
      · have hxI : (((ws.getD k 0 : Nat) : Int) != ((us.getD k 0 : Nat) : Int)) = true := by
          simp only [bne_iff_ne, ne_eq]
          omega
        clear hx HNE HS
        generalize ws.getD k 0 = x at *
        generalize us.getD k 0 = y at *
        have HB := Lib.hid hb
        clear hb
        go_wp2_with fail
        go_quiet (fail)
        have HB2 := Lib.hid (below_drewN HB.out nq)
        go_wp2_with fail
        go_ret
        exact ⟨rfl, HB2.out⟩
  · have hneI : ((ws.length : Int) != (us.length : Int)) = true := by simp; omega
    clear h h2 hne hll
    go_enter Tryz.func147, Tryz.ntmps147
    go_wp2_with fail
    go_ret
    exact ⟨rfl, Below.refl _ _⟩
end Go.Proofs.YtikmebkfdpbidaaGreatDoor
namespace Go.Proofs.YtikmebkfdpbidaaGreatDoor
set_option linter.unusedVariables false

/-- While the guess is refused it is too great. -/
theorem Nt.guess_dec {U D v1 v2 lo dlo t rest u2 P : Nat} (hD : D = (v1 * 4294967296 + v2) * P + dlo) (hU : U = ((t * v1 + rest) * 4294967296 + u2) * P + lo) (hlo : lo < P) (h : rest * 4294967296 + u2 < t * v2) : U < t * D := by
  have h1 : (t * v1 + rest) * 4294967296 + u2 + 1 ≤ t * (v1 * 4294967296 + v2) := by
    rw [Nat.mul_add, Nat.add_mul, ← Nat.mul_assoc]
    omega
  have h2 : ((t * v1 + rest) * 4294967296 + u2 + 1) * P ≤ t * (v1 * 4294967296 + v2) * P := Nat.mul_le_mul_right _ h1
  have h3 : t * D = t * (v1 * 4294967296 + v2) * P + t * dlo := by rw [hD, Nat.mul_add, Nat.mul_assoc]
  rw [Nat.add_mul, Nat.one_mul] at h2
  have h4 := Nat.zero_le (t * dlo)
  omega
/-- Where it is not refused it is too great by one at most. -/
theorem Nt.guess_ok {U D v1 v2 lo dlo t rest u2 P : Nat} (hD : D = (v1 * 4294967296 + v2) * P + dlo) (hdlo : dlo < P) (hv1 : 0 < v1) (hU : U = ((t * v1 + rest) * 4294967296 + u2) * P + lo) (ht : t ≤ 4294967295) (h : t * v2 ≤ rest * 4294967296 + u2) : t * D < U + D := by
  have h1 : t * (v1 * 4294967296 + v2) ≤ (t * v1 + rest) * 4294967296 + u2 := by
    rw [Nat.mul_add, Nat.add_mul, ← Nat.mul_assoc]
    omega
  have h2 := Nat.mul_le_mul_right P h1
  have h3 : t * D = t * (v1 * 4294967296 + v2) * P + t * dlo := by rw [hD, Nat.mul_add, Nat.mul_assoc]
  have h4 : t * dlo ≤ 4294967295 * P := Nat.mul_le_mul ht (by omega)
  have h5 : 4294967296 * P ≤ (v1 * 4294967296 + v2) * P := Nat.mul_le_mul_right _ (by omega)
  have hP : 0 < P := by omega
  omega
/-- The guess stays one word where the rest is more than one word. -/
theorem Nt.guess_word {v1 t rest u0 u1 : Nat} (ht : t * v1 + rest = u0 * 4294967296 + u1) (h0 : u0 ≤ v1) (h1 : u1 < 4294967296) (hr : 4294967296 ≤ rest) : t ≤ 4294967295 := by
  rcases Nat.lt_or_ge t 4294967296 with h | h
  · omega
  · have := Nat.mul_le_mul_right v1 h
    have := Nat.mul_le_mul_right 4294967296 h0
    omega
/-- The first guess. -/
theorem Nt.guess_first {v1 u0 u1 : Nat} (hv1 : 2147483648 ≤ v1) (h0 : u0 ≤ v1) (h1 : u1 < 4294967296) : (u0 * 4294967296 + u1) / v1 ≤ 4294967297 := by
  have h : u0 * 4294967296 + u1 < 4294967298 * v1 := by omega
  have := (Nat.div_lt_iff_lt_mul (by omega : 0 < v1)).2 h
  omega
/-- The first guess is not too small. -/
theorem Nt.guess_start {U D v1 r1 u2 P P2 dlo lo q : Nat} (hD : D = v1 * P2 + dlo) (hU : U = r1 * P2 + lo) (hlo : lo < P2) (hq : q * D ≤ U) (hv1 : 0 < v1) : q ≤ r1 / v1 := by
  rw [Nat.le_div_iff_mul_le hv1]
  rcases Nat.lt_or_ge r1 (q * v1) with h | h
  · exfalso
    have h1 : (r1 + 1) * P2 ≤ q * v1 * P2 := Nat.mul_le_mul_right _ h
    have h2 : q * D = q * v1 * P2 + q * dlo := by rw [hD, Nat.mul_add, Nat.mul_assoc]
    have := Nat.zero_le (q * dlo)
    rw [Nat.add_mul, Nat.one_mul] at h1
    omega
  · exact h
/-- One word of the difference of a row and t times another: 'c' is carried, 'o' is borrowed. -/
theorem Nt.sub_word {u d t c o : Nat} (hu : u < 4294967296) (hd : d < 4294967296) (ht : t < 4294967296) (hc : c < 4294967296) (ho : o ≤ 1) :
    c + t * d < 18446744073709551616 ∧ (c + t * d) / 4294967296 < 4294967296 ∧
    (∃ x o' : Nat, o' ≤ 1 ∧ x < 4294967296 ∧ ((u : Int) - ((c + t * d) % 4294967296 : Nat) - (o : Int)) % 18446744073709551616 / 9223372036854775808 = (o' : Int) ∧ ((u : Int) - ((c + t * d) % 4294967296 : Nat) - (o : Int)) % 18446744073709551616 % 4294967296 = (x : Int) ∧ x + (c + t * d) % 4294967296 + o = u + 4294967296 * o') := by
  have h : t * d ≤ 4294967295 * 4294967295 := Nat.mul_le_mul (by omega) (by omega)
  generalize t * d = p at *
  refine ⟨by omega, by omega, ?_⟩
  by_cases hb : (c + p) % 4294967296 + o ≤ u
  · exact ⟨u - (c + p) % 4294967296 - o, 0, by omega, by omega, by omega, by omega, by omega⟩
  · exact ⟨u + 4294967296 - (c + p) % 4294967296 - o, 1, by omega, by omega, by omega, by omega, by omega⟩
theorem Nt.val_seg (ws : List Nat) (j k : Nat) : Nt.val ((ws.drop j).take (k + 1)) = Nt.val ((ws.drop j).take k) + 4294967296 ^ k * ws.getD (j + k) 0 := by
  rw [Nt.val_take_step, List.getD_eq_getElem?_getD, List.getElem?_drop, ← List.getD_eq_getElem?_getD]
theorem Nt.seg_set (ws : List Nat) (j k x : Nat) : (((ws.set (j + k) x).drop j).take k) = ((ws.drop j).take k) := by
  rw [List.drop_set, if_neg (by omega), show j + k - j = k by omega, Nt.set_take _ _ _ _ (Nat.le_refl _)]
theorem Nt.val_seg_set (ws : List Nat) (j k x : Nat) (h : j + k < ws.length) : Nt.val (((ws.set (j + k) x).drop j).take (k + 1)) = Nt.val ((ws.drop j).take k) + 4294967296 ^ k * x := by
  rw [Nt.val_seg, Nt.seg_set, Nt.getD_set_self _ _ _ h]
/-- A row, in three pieces. -/
theorem Nt.val_split (ws : List Nat) (j n : Nat) (h : j + n ≤ ws.length) : Nt.val ws = Nt.val (ws.take j) + 4294967296 ^ j * (Nt.val ((ws.drop j).take n) + 4294967296 ^ n * Nt.val (ws.drop (j + n))) := by
  conv => lhs; rw [← List.take_append_drop j ws, ← List.take_append_drop n (ws.drop j)]
  rw [Nt.val_append, Nt.val_append, List.drop_drop, List.length_take, List.length_take, List.length_drop, Nat.min_eq_left (by omega), Nat.min_eq_left (by omega)]
/-- One step of the difference. -/
theorem Nt.sub_step {u0 us d : List Nat} {j k t c o x o' : Nat} (h : Nt.val ((u0.drop j).take k) + 4294967296 ^ k * (c + o) = Nt.val ((us.drop j).take k) + t * Nt.val (d.take k)) (hx : x + (c + t * d.getD k 0) % 4294967296 + o = u0.getD (j + k) 0 + 4294967296 * o') (hk : j + k < us.length) :
    Nt.val ((u0.drop j).take (k + 1)) + 4294967296 ^ (k + 1) * ((c + t * d.getD k 0) / 4294967296 + o') = Nt.val (((us.set (j + k) x).drop j).take (k + 1)) + t * Nt.val (d.take (k + 1)) := by
  rw [Nt.val_seg_set _ _ _ _ hk, Nt.val_seg, Nt.val_take_step d, Nat.pow_succ]
  have e := Nat.mod_add_div (c + t * d.getD k 0) 4294967296
  generalize u0.getD (j + k) 0 = uu at *
  generalize 4294967296 ^ k = P at *
  have e1 : t * (Nt.val (d.take k) + P * d.getD k 0) = t * Nt.val (d.take k) + P * (t * d.getD k 0) := by
    rw [Nat.mul_add, Nat.mul_left_comm]
  rw [e1]
  generalize t * d.getD k 0 = p at *
  generalize (c + p) % 4294967296 = m at *
  generalize (c + p) / 4294967296 = q at *
  have e2 : P * x + P * m + P * o = P * uu + P * 4294967296 * o' := by
    rw [Nat.mul_assoc, ← Nat.mul_add, ← Nat.mul_add, ← Nat.mul_add, hx]
  have e3 : P * m + P * 4294967296 * q = P * c + P * p := by
    rw [Nat.mul_assoc, ← Nat.mul_add, e, Nat.mul_add]
  have e4 : P * 4294967296 * (q + o') = P * 4294967296 * q + P * 4294967296 * o' := Nat.mul_add _ _ _
  have e5 : P * (c + o) = P * c + P * o := Nat.mul_add _ _ _
  omega
/-- One step of adding back. -/
theorem Nt.back_step {u0 us d : List Nat} {j k c : Nat} (h : Nt.val ((us.drop j).take k) + 4294967296 ^ k * c = Nt.val ((u0.drop j).take k) + Nt.val (d.take k)) (hk : j + k < us.length) :
    Nt.val (((us.set (j + k) ((u0.getD (j + k) 0 + d.getD k 0 + c) % 4294967296)).drop j).take (k + 1)) + 4294967296 ^ (k + 1) * ((u0.getD (j + k) 0 + d.getD k 0 + c) / 4294967296) = Nt.val ((u0.drop j).take (k + 1)) + Nt.val (d.take (k + 1)) := by
  rw [Nt.val_seg_set _ _ _ _ hk, Nt.val_seg, Nt.val_take_step d, Nat.pow_succ]
  have e := Nat.mod_add_div (u0.getD (j + k) 0 + d.getD k 0 + c) 4294967296
  generalize u0.getD (j + k) 0 = x at *
  generalize d.getD k 0 = y at *
  generalize (x + y + c) % 4294967296 = m at *
  generalize (x + y + c) / 4294967296 = q at *
  generalize 4294967296 ^ k = P at *
  have e2 : P * m + P * 4294967296 * q = P * x + P * y + P * c := by
    rw [Nat.mul_assoc, ← Nat.mul_add, e, Nat.mul_add, Nat.mul_add]
  omega
/-- A shift upwards, one word. -/
theorem Nt.up_step {a ws : List Nat} {i s c : Nat} (hs : s < 32) (hx : a.getD i 0 < 4294967296) (h : Nt.val (ws.take i) + 4294967296 ^ i * c = Nt.val (a.take i) * 2 ^ s) (hc : c < 2 ^ s) (hi : i < ws.length) :
    c + a.getD i 0 * 2 ^ s % 4294967296 < 4294967296 ∧ a.getD i 0 * 2 ^ s / 4294967296 < 2 ^ s ∧
    Nt.val ((ws.set i (c + a.getD i 0 * 2 ^ s % 4294967296)).take (i + 1)) + 4294967296 ^ (i + 1) * (a.getD i 0 * 2 ^ s / 4294967296) = Nt.val (a.take (i + 1)) * 2 ^ s := by
  rw [Nt.val_set_take _ _ _ hi, Nt.val_take_step a]
  generalize a.getD i 0 = x at *
  have hd : 2 ^ s * 2 ^ (32 - s) = 4294967296 := by rw [← Nat.pow_add, show s + (32 - s) = 32 by omega]
  have hp := Nat.two_pow_pos s
  have hm : x * 2 ^ s % 4294967296 = (x % 2 ^ (32 - s)) * 2 ^ s := by
    rw [← hd, Nat.mul_comm x, Nat.mul_mod_mul_left, Nat.mul_comm]
  have h1 : x % 2 ^ (32 - s) + 1 ≤ 2 ^ (32 - s) := Nat.mod_lt _ (Nat.two_pow_pos _)
  have h2 : (x % 2 ^ (32 - s) + 1) * 2 ^ s ≤ 2 ^ (32 - s) * 2 ^ s := Nat.mul_le_mul_right _ h1
  rw [Nat.add_mul, Nat.one_mul, Nat.mul_comm (2 ^ (32 - s)), hd] at h2
  refine ⟨by omega, ?_, ?_⟩
  · rw [Nat.div_lt_iff_lt_mul (by decide), Nat.mul_comm]
    exact (Nat.mul_lt_mul_left hp).2 hx
  · have e := Nat.mod_add_div (x * 2 ^ s) 4294967296
    rw [Nat.add_mul, Nat.pow_succ, Nat.mul_assoc (4294967296 ^ i) x]
    generalize x * 2 ^ s = y at *
    generalize y % 4294967296 = m at *
    generalize y / 4294967296 = q at *
    generalize 4294967296 ^ i = P at *
    have e2 : P * m + P * 4294967296 * q = P * y := by rw [Nat.mul_assoc, ← Nat.mul_add, e]
    rw [Nat.mul_add]
    omega
end Go.Proofs.YtikmebkfdpbidaaGreatDoor
namespace Go.Proofs.YtikmebkfdpbidaaGreatDoor
set_option linter.unusedVariables false

theorem Nt.val_seg_lt {u : List Nat} (hu : Nt.Wd u) (j n : Nat) : Nt.val ((u.drop j).take n) < 4294967296 ^ n := by
  have hw : Nt.Wd ((u.drop j).take n) := fun x hx => hu x (List.mem_of_mem_drop (List.mem_of_mem_take hx))
  have h := Nt.val_lt _ hw
  exact Nat.lt_of_lt_of_le h (Nat.pow_le_pow_right (by decide) (by rw [List.length_take]; omega))
/-- What is left lies in n + 1 words from j on. -/
theorem Nt.round_seg {u : List Nat} {j n D : Nat} (hu : Nt.Wd u) (hj : j + n < u.length) (hU : Nt.val u < D * 4294967296 ^ (j + 1)) (hD : D < 4294967296 ^ n) :
    Nt.val u = Nt.val (u.take j) + 4294967296 ^ j * Nt.val ((u.drop j).take (n + 1)) ∧ Nt.val ((u.drop j).take (n + 1)) < D * 4294967296 ∧ Nt.val (u.drop (j + (n + 1))) = 0 := by
  have hs := Nt.val_split u j (n + 1) (by omega)
  have hz : Nt.val (u.drop (j + (n + 1))) = 0 := by
    rcases Nat.eq_zero_or_pos (Nt.val (u.drop (j + (n + 1)))) with h | h
    · exact h
    · exfalso
      have h1 : D * 4294967296 ^ (j + 1) ≤ 4294967296 ^ n * 4294967296 ^ (j + 1) := Nat.mul_le_mul_right _ (by omega)
      rw [← Nat.pow_add] at h1
      have h2 : 4294967296 ^ j * (4294967296 ^ (n + 1) * 1) ≤ 4294967296 ^ j * (Nt.val ((u.drop j).take (n + 1)) + 4294967296 ^ (n + 1) * Nt.val (u.drop (j + (n + 1)))) :=
        Nat.mul_le_mul_left _ (Nat.le_trans (Nat.mul_le_mul_left _ h) (Nat.le_add_left _ _))
      rw [Nat.mul_one, ← Nat.pow_add, show j + (n + 1) = n + (j + 1) by omega] at h2
      rw [show n + (j + 1) = j + (n + 1) by omega] at h2 h1
      omega
  rw [hz, Nat.mul_zero, Nat.add_zero] at hs
  refine ⟨hs, ?_, hz⟩
  have hp : 0 < 4294967296 ^ j := Nat.pow_pos (by decide)
  have h3 : 4294967296 ^ j * Nt.val ((u.drop j).take (n + 1)) < 4294967296 ^ j * (D * 4294967296) := by
    have e : D * 4294967296 ^ (j + 1) = 4294967296 ^ j * (D * 4294967296) := by
      rw [Nat.pow_succ, Nat.mul_left_comm]
    omega
  exact Nat.lt_of_mul_lt_mul_left h3
/-- The three words that the guess sees. -/
theorem Nt.round_top {u d : List Nat} {j m : Nat} (hu : Nt.Wd u) (hd : Nt.Wd d) (hdl : d.length = m + 2) (hS : Nt.val ((u.drop j).take (m + 3)) < Nt.val d * 4294967296) :
    Nt.val d = (d.getD (m + 1) 0 * 4294967296 + d.getD m 0) * 4294967296 ^ m + Nt.val (d.take m) ∧ Nt.val (d.take m) < 4294967296 ^ m ∧
    Nt.val ((u.drop j).take (m + 3)) = ((u.getD (j + (m + 2)) 0 * 4294967296 + u.getD (j + (m + 1)) 0) * 4294967296 + u.getD (j + m) 0) * 4294967296 ^ m + Nt.val ((u.drop j).take m) ∧ Nt.val ((u.drop j).take m) < 4294967296 ^ m ∧
    u.getD (j + (m + 2)) 0 ≤ d.getD (m + 1) 0 := by
  have e1 : Nt.val d = (d.getD (m + 1) 0 * 4294967296 + d.getD m 0) * 4294967296 ^ m + Nt.val (d.take m) := by
    conv => lhs; rw [← List.take_length (l := d), hdl, Nt.val_take_step, Nt.val_take_step, Nat.pow_succ]
    rw [Nat.add_mul]
    have : d.getD (m + 1) 0 * 4294967296 * 4294967296 ^ m = 4294967296 ^ m * 4294967296 * d.getD (m + 1) 0 := by
      rw [Nat.mul_comm, Nat.mul_comm (d.getD (m + 1) 0), Nat.mul_assoc]
    rw [this, Nat.mul_comm (d.getD m 0)]
    omega
  have l1 : Nt.val (d.take m) < 4294967296 ^ m := by
    have := Nt.val_lt _ (hd.take m)
    exact Nat.lt_of_lt_of_le this (Nat.pow_le_pow_right (by decide) (by rw [List.length_take]; omega))
  have l2 := Nt.val_seg_lt hu j m
  have l3 := Nt.val_seg_lt hu j (m + 2)
  have e2 : Nt.val ((u.drop j).take (m + 3)) = ((u.getD (j + (m + 2)) 0 * 4294967296 + u.getD (j + (m + 1)) 0) * 4294967296 + u.getD (j + m) 0) * 4294967296 ^ m + Nt.val ((u.drop j).take m) := by
    rw [Nt.val_seg, Nt.val_seg, Nt.val_seg, Nat.pow_succ (m := m + 1), Nat.pow_succ (m := m)]
    generalize u.getD (j + (m + 2)) 0 = a
    generalize u.getD (j + (m + 1)) 0 = b
    generalize u.getD (j + m) 0 = c
    generalize 4294967296 ^ m = P
    rw [Nat.add_mul, Nat.add_mul, Nat.add_mul]
    have h1 : P * 4294967296 * 4294967296 * a = a * 4294967296 * 4294967296 * P := by
      rw [Nat.mul_comm, Nat.mul_comm P 4294967296, Nat.mul_assoc 4294967296 P, Nat.mul_comm P 4294967296, ← Nat.mul_assoc, ← Nat.mul_assoc]
    have h2 : P * 4294967296 * b = b * 4294967296 * P := by
      rw [Nat.mul_comm, Nat.mul_comm P, ← Nat.mul_assoc]
    rw [h1, h2, Nat.mul_comm P c]
    omega
  refine ⟨e1, l1, e2, l2, ?_⟩
  rcases Nat.lt_or_ge (d.getD (m + 1) 0) (u.getD (j + (m + 2)) 0) with h | h
  · exfalso
    have s1 : Nt.val ((u.drop j).take (m + 3)) = Nt.val ((u.drop j).take (m + 2)) + 4294967296 ^ (m + 2) * u.getD (j + (m + 2)) 0 := Nt.val_seg u j (m + 2)
    have s2 : Nt.val d = Nt.val (d.take (m + 1)) + 4294967296 ^ (m + 1) * d.getD (m + 1) 0 := by
      conv => lhs; rw [← List.take_length (l := d), hdl, Nt.val_take_step]
    have l4 : Nt.val (d.take (m + 1)) < 4294967296 ^ (m + 1) := by
      have := Nt.val_lt _ (hd.take (m + 1))
      exact Nat.lt_of_lt_of_le this (Nat.pow_le_pow_right (by decide) (by rw [List.length_take]; omega))
    have h5 : 4294967296 ^ (m + 2) * (d.getD (m + 1) 0 + 1) ≤ 4294967296 ^ (m + 2) * u.getD (j + (m + 2)) 0 := Nat.mul_le_mul_left _ h
    rw [show m + 2 = (m + 1) + 1 from rfl, Nat.pow_succ] at h5 s1
    rw [Nat.mul_assoc, Nat.mul_assoc] at h5
    rw [Nat.mul_assoc] at s1
    generalize 4294967296 ^ (m + 1) = P at *
    generalize d.getD (m + 1) 0 = y at *
    generalize u.getD (j + (m + 1 + 1)) 0 = x at *
    have h6 : P * (4294967296 * (y + 1)) = P * y * 4294967296 + P * 4294967296 := by
      rw [show 4294967296 * (y + 1) = y * 4294967296 + 4294967296 by omega, Nat.mul_add, ← Nat.mul_assoc]
    omega
  · exact h
/-- The words behind the last step, where nothing is to be added back. -/
theorem Nt.round_fits {u us d : List Nat} {j n t c o : Nat} (h : Nt.val ((u.drop j).take n) + 4294967296 ^ n * (c + o) = Nt.val ((us.drop j).take n) + t * Nt.val (d.take n)) (hd : d.length = n) (hl : j + n < us.length) (hco : c + o ≤ u.getD (j + n) 0) :
    Nt.val (((us.set (j + n) (u.getD (j + n) 0 - c - o)).drop j).take (n + 1)) + t * Nt.val d = Nt.val ((u.drop j).take (n + 1)) := by
  rw [Nt.val_seg_set _ _ _ _ hl, Nt.val_seg]
  rw [List.take_of_length_le (l := d) (by omega)] at h
  generalize u.getD (j + n) 0 = x at *
  have : 4294967296 ^ n * x = 4294967296 ^ n * (x - c - o) + 4294967296 ^ n * (c + o) := by
    rw [← Nat.mul_add]; congr 1; omega
  omega
/-- Where one is to be added back. -/
theorem Nt.round_back {u us ub d : List Nat} {j n t c o cc : Nat} (hus : Nt.Wd us) (hub : Nt.Wd ub) (h : Nt.val ((u.drop j).take n) + 4294967296 ^ n * (c + o) = Nt.val ((us.drop j).take n) + t * Nt.val (d.take n)) (hd : d.length = n) (hl : j + n < ub.length) (hco : ¬ c + o ≤ u.getD (j + n) 0)
    (hb : Nt.val ((ub.drop j).take n) + 4294967296 ^ n * cc = Nt.val ((us.drop j).take n) + Nt.val (d.take n)) (hcc : cc ≤ 1) (hg : t * Nt.val d < Nt.val ((u.drop j).take (n + 1)) + Nt.val d) (hdl : Nt.val d < 4294967296 ^ n) (hc : c < 4294967296) (ho : o ≤ 1) :
    cc = 1 ∧ u.getD (j + n) 0 + 1 = c + o ∧ 1 ≤ t ∧ Nt.val ((u.drop j).take (n + 1)) < t * Nt.val d ∧ Nt.val (((ub.set (j + n) 0).drop j).take (n + 1)) + (t - 1) * Nt.val d = Nt.val ((u.drop j).take (n + 1)) := by
  rw [Nt.val_seg_set _ _ _ _ hl, Nt.val_seg, Nat.mul_zero, Nat.add_zero]
  rw [Nt.val_seg] at hg
  rw [List.take_of_length_le (l := d) (by omega)] at h hb
  have l1 := Nt.val_seg_lt hus j n
  have l2 := Nt.val_seg_lt hub j n
  generalize u.getD (j + n) 0 = x at *
  generalize Nt.val ((u.drop j).take n) = A at *
  generalize Nt.val ((us.drop j).take n) = S at *
  generalize Nt.val ((ub.drop j).take n) = R at *
  generalize Nt.val d = D at *
  generalize 4294967296 ^ n = P at *
  have e : P * (c + o) = P * x + P * (c + o - x) := by rw [← Nat.mul_add]; congr 1; omega
  have hx : x + 1 = c + o := by
    rcases Nat.lt_or_ge (c + o - x) 2 with h2 | h2
    · omega
    · exfalso
      have := Nat.mul_le_mul_left P h2
      omega
  rw [show c + o - x = 1 by omega, Nat.mul_one] at e
  have ht : 1 ≤ t := by
    rcases Nat.eq_zero_or_pos t with h0 | h0
    · subst h0; simp at h; omega
    · exact h0
  have et : t * D = (t - 1) * D + D := by rw [← Nat.succ_mul]; congr 1; omega
  have hc1 : cc = 1 := by
    rcases Nat.eq_zero_or_pos cc with h0 | h0
    · subst h0; simp at hb; omega
    · omega
  subst hc1
  exact ⟨rfl, hx, ht, by omega, by omega⟩
/-- What is left behind a round. -/
theorem Nt.round_end {u un d : List Nat} {j n t A Q : Nat} (hA : A = Nt.val d * Q + Nt.val u) (hu : Nt.Wd u) (hn : j + n < u.length) (hl : un.length = u.length) (h1 : un.take j = u.take j) (h2 : un.drop (j + (n + 1)) = u.drop (j + (n + 1))) (hU : Nt.val u < Nt.val d * 4294967296 ^ (j + 1)) (hD : Nt.val d < 4294967296 ^ n)
    (he : Nt.val ((un.drop j).take (n + 1)) + t * Nt.val d = Nt.val ((u.drop j).take (n + 1))) (hs : Nt.val ((un.drop j).take (n + 1)) < Nt.val d) :
    A = Nt.val d * (Q + 4294967296 ^ j * t) + Nt.val un ∧ Nt.val un < Nt.val d * 4294967296 ^ j := by
  obtain ⟨s1, s2, s3⟩ := Nt.round_seg hu hn hU hD
  have s4 := Nt.val_split un j (n + 1) (by omega)
  rw [h1, h2, s3, Nat.mul_zero, Nat.add_zero] at s4
  have l1 := Nt.val_lt _ (hu.take j)
  have l2 : 4294967296 ^ (u.take j).length ≤ 4294967296 ^ j := Nat.pow_le_pow_right (by decide) (by rw [List.length_take]; omega)
  generalize Nt.val (u.take j) = T at *
  generalize Nt.val ((un.drop j).take (n + 1)) = S at *
  generalize Nt.val ((u.drop j).take (n + 1)) = R at *
  generalize Nt.val d = D at *
  generalize 4294967296 ^ j = P at *
  refine ⟨?_, ?_⟩
  · rw [hA, s1, s4, ← he, Nat.mul_add, Nat.mul_add, Nat.mul_left_comm D P t, Nat.mul_comm t D]
    omega
  · have : P * (S + 1) ≤ P * D := Nat.mul_le_mul_left _ hs
    rw [Nat.mul_add, Nat.mul_one] at this
    rw [Nat.mul_comm D P]
    omega
/-- At the end. -/
theorem Nt.round_last {a b s D Q U : Nat} (hD : D = b * 2 ^ s) (hb : 0 < b) (hA : a * 2 ^ s = D * Q + U) (hU : U < D * 4294967296 ^ 0) : Q = a / b ∧ U / 2 ^ s = a % b := by
  rw [Nat.pow_zero, Nat.mul_one] at hU
  have hp := Nat.two_pow_pos s
  have hD0 : 0 < D := hD ▸ Nat.mul_pos hb hp
  have hq : Q = a * 2 ^ s / D := by rw [hA, Nat.mul_add_div hD0, Nat.div_eq_of_lt hU, Nat.add_zero]
  have hr : U = a * 2 ^ s % D := by rw [hA, Nat.mul_add_mod, Nat.mod_eq_of_lt hU]
  rw [hD, Nat.mul_div_mul_right _ _ hp] at hq
  rw [hD, Nat.mul_mod_mul_right] at hr
  exact ⟨hq, by rw [hr, Nat.mul_div_cancel _ hp]⟩
/-- The guess, said of the whole numbers. -/
theorem Nt.guess_up {U D v1 v2 lo dlo t rest u01 u2 P : Nat} (hD : D = (v1 * 4294967296 + v2) * P + dlo) (hdlo : dlo < P) (hU : U = (u01 * 4294967296 + u2) * P + lo) (he : t * v1 + rest = u01) (hv1 : 0 < v1) (ht : t ≤ 4294967295) (h : t * v2 ≤ rest * 4294967296 + u2) : t * D < U + D := by
  subst he
  exact Nt.guess_ok hD hdlo hv1 hU ht h
theorem Nt.guess_rest {S t D U : Nat} (h : S + t * D = U) (hg : U / D ≤ t) (hD : 0 < D) : S < D := by
  have h1 := Nat.lt_div_mul_add hD (a := U)
  have h2 := Nat.mul_le_mul_right D hg
  omega
theorem Nt.set_low {qs : List Nat} {j t : Nat} (h : ∀ i, i < j + 1 → qs.getD i 0 = 0) : ∀ i, i < j → (qs.set j t).getD i 0 = 0 := fun i hi => by
  rw [Nt.getD_set_ne _ _ _ _ (by omega)]
  exact h i (by omega)
theorem Nt.set_quot {qs : List Nat} {j t A D u : Nat} (hA : A = D * (Nt.val qs + 4294967296 ^ j * t) + u) (h : ∀ i, i < j + 1 → qs.getD i 0 = 0) (hj : j < qs.length) : A = D * Nt.val (qs.set j t) + u := by
  have := Nt.val_set qs j t hj
  rw [h j (by omega), Nat.mul_zero, Nat.add_zero] at this
  rw [this]
  exact hA
theorem Nt.val_take_of {us : List Nat} {n : Nat} (hw : Nt.Wd us) (hn : n ≤ us.length) (h : Nt.val us < 4294967296 ^ n) : Nt.val (us.take n) = Nt.val us := by
  have e := Nt.val_append (us.take n) (us.drop n)
  rw [List.take_append_drop, List.length_take, Nat.min_eq_left hn] at e
  rcases Nat.eq_zero_or_pos (Nt.val (us.drop n)) with h0 | h0
  · rw [h0, Nat.mul_zero] at e; omega
  · have := Nat.mul_le_mul_left (4294967296 ^ n) h0
    omega
theorem Nt.guess_down {U D v1 v2 lo dlo t rest u01 u2 P : Nat} (hD : D = (v1 * 4294967296 + v2) * P + dlo) (hU : U = (u01 * 4294967296 + u2) * P + lo) (hlo : lo < P) (he : t * v1 + rest = u01) (h : rest * 4294967296 + u2 < t * v2) : U / D < t := by
  subst he
  have := Nt.guess_dec (t := t) (rest := rest) hD hU hlo h
  exact Nat.div_lt_of_lt_mul (by rw [Nat.mul_comm]; exact this)
theorem Nt.guess_big {U D v1 v2 lo dlo u01 u2 P q : Nat} (hD : D = (v1 * 4294967296 + v2) * P + dlo) (hdlo : dlo < P) (hU : U = (u01 * 4294967296 + u2) * P + lo) (hlo : lo < P) (hv1 : 0 < v1) (hu2 : u2 < 4294967296) (hq : q * D ≤ U) : q ≤ u01 / v1 := by
  refine Nt.guess_start (P2 := 4294967296 * P) (dlo := v2 * P + dlo) (lo := u2 * P + lo) (r1 := u01) (u2 := 0) (P := 0) ?_ ?_ ?_ hq hv1
  · rw [hD, Nat.add_mul, Nat.mul_assoc]; omega
  · rw [hU, Nat.add_mul, Nat.mul_assoc]; omega
  · have := Nat.mul_le_mul_right P (Nat.le_of_lt_succ hu2 : u2 ≤ 4294967295)
    omega
theorem Nt.take_set_ge (ws : List Nat) (j k x : Nat) : (ws.set (j + k) x).take j = ws.take j := Nt.set_take _ _ _ _ (by omega)
theorem Nt.drop_set_lt (ws : List Nat) (i k x : Nat) (h : i < k) : (ws.set i x).drop k = ws.drop k := by
  rw [List.drop_set, if_pos h]
theorem Nt.drop_getD {us u : List Nat} {j i : Nat} (h : us.drop j = u.drop j) (hi : j ≤ i) : us.getD i 0 = u.getD i 0 := by
  have e : ∀ l : List Nat, l.getD i 0 = (l.drop j).getD (i - j) 0 := fun l => by
    rw [List.getD_eq_getElem?_getD, List.getD_eq_getElem?_getD, List.getElem?_drop, show j + (i - j) = i by omega]
  rw [e us, e u, h]
theorem Nt.drop_more {us u : List Nat} {j k : Nat} (h : us.drop j = u.drop j) (hk : j ≤ k) : us.drop k = u.drop k := by
  have e : ∀ l : List Nat, l.drop k = (l.drop j).drop (k - j) := fun l => by rw [List.drop_drop]; congr 1; omega
  rw [e us, e u, h]
/-- Down: a shift downwards, from the words of the row. -/
theorem Nt.down_word (x y s : Nat) (hs : s < 32) (hx : x < 4294967296) (hy : y < 4294967296) : (x + 4294967296 * y) / 2 ^ s % 4294967296 = x / 2 ^ s + y % 2 ^ s * 2 ^ (32 - s) := by
  have hd : 2 ^ s * 2 ^ (32 - s) = 4294967296 := by rw [← Nat.pow_add, show s + (32 - s) = 32 by omega]
  have hp := Nat.two_pow_pos s
  have hp2 := Nat.two_pow_pos (32 - s)
  have e1 : (x + 4294967296 * y) / 2 ^ s = x / 2 ^ s + y * 2 ^ (32 - s) := by
    rw [← hd, show x + 2 ^ s * 2 ^ (32 - s) * y = x + 2 ^ s * (y * 2 ^ (32 - s)) by rw [Nat.mul_assoc, Nat.mul_comm (2 ^ (32 - s)) y], Nat.add_mul_div_left _ _ hp]
  have l1 : x / 2 ^ s < 2 ^ (32 - s) := by
    rw [Nat.div_lt_iff_lt_mul hp, Nat.mul_comm, hd]; exact hx
  have e2 : y * 2 ^ (32 - s) % 4294967296 = y % 2 ^ s * 2 ^ (32 - s) := by
    rw [← hd, Nat.mul_mod_mul_right]
  have l2 : y % 2 ^ s * 2 ^ (32 - s) + 2 ^ (32 - s) ≤ 4294967296 := by
    have h1 : (y % 2 ^ s + 1) * 2 ^ (32 - s) ≤ 2 ^ s * 2 ^ (32 - s) := Nat.mul_le_mul_right _ (Nat.mod_lt _ hp)
    rw [Nat.add_mul, Nat.one_mul, hd] at h1
    exact h1
  rw [e1, Nat.add_mod, e2, Nat.mod_eq_of_lt (by omega : x / 2 ^ s < 4294967296), Nat.mod_eq_of_lt (by omega)]
/-- The words of a row that is shifted downwards are those of the number. -/
theorem Nt.down_val : ∀ (ws : List Nat) (s : Nat), s < 32 → Nt.Wd ws → ∀ os : List Nat, os.length = ws.length → (∀ i, i < ws.length → os.getD i 0 = ws.getD i 0 / 2 ^ s + ws.getD (i + 1) 0 % 2 ^ s * 2 ^ (32 - s)) → Nt.val os = Nt.val ws / 2 ^ s
  | [], s, hs, _, os, hl, _ => by
    obtain rfl : os = [] := List.eq_nil_of_length_eq_zero hl
    simp [Nt.val]
  | x :: xs, s, hs, hw, os, hl, h => by
    obtain ⟨o, rest, rfl⟩ : ∃ o rest, os = o :: rest := by cases os with | nil => simp at hl | cons o r => exact ⟨o, r, rfl⟩
    have ih := Nt.down_val xs s hs hw.tail rest (by simpa using hl) (fun i hi => by simpa using h (i + 1) (by simpa using hi))
    have h0 := h 0 (by simp)
    simp only [List.getD_cons_zero, Nat.zero_add, List.getD_cons_succ] at h0
    rw [Nt.val, Nt.val, ih, h0]
    have hd : 2 ^ s * 2 ^ (32 - s) = 4294967296 := by rw [← Nat.pow_add, show s + (32 - s) = 32 by omega]
    have hp := Nat.two_pow_pos s
    have e0 : xs.getD 0 0 % 2 ^ s = Nt.val xs % 2 ^ s := by
      cases xs with
      | nil => simp [Nt.val]
      | cons y ys =>
        rw [List.getD_cons_zero, Nt.val, ← hd, Nat.mul_assoc, Nat.add_mul_mod_self_left]
    rw [e0]
    generalize Nt.val xs = V
    have e1 : (x + 4294967296 * V) / 2 ^ s = x / 2 ^ s + V * 2 ^ (32 - s) := by
      rw [← hd, show x + 2 ^ s * 2 ^ (32 - s) * V = x + 2 ^ s * (V * 2 ^ (32 - s)) by rw [Nat.mul_assoc, Nat.mul_comm (2 ^ (32 - s)) V], Nat.add_mul_div_left _ _ hp]
    rw [e1]
    have e2 := Nat.mod_add_div V (2 ^ s)
    have e3 : V * 2 ^ (32 - s) = V % 2 ^ s * 2 ^ (32 - s) + 4294967296 * (V / 2 ^ s) := by
      conv => lhs; rw [← e2]
      rw [Nat.add_mul, Nat.mul_right_comm, hd]
    omega
end Go.Proofs.YtikmebkfdpbidaaGreatDoor
namespace Go.Proofs.YtikmebkfdpbidaaGreatDoor
open Go.RowKit
set_option linter.unusedVariables false
set_option linter.unusedSimpArgs false

theorem Nt.or_low {c m s : Nat} (hs : s < 32) (hc : c < 2 ^ s) (hm : 2 ^ s ∣ m) (h : c + m < 4294967296) : bits .or .u32 (c : Int) (m : Int) = ((c + m : Nat) : Int) := by
  have hk : ∀ n : Int, 0 ≤ n → n < 2 ^ 32 → IntKind.u32.wrap n = n := fun n h0 h1 => by rw [IntKind.wrap_u32]; omega
  rw [(bits_nat .u32 32 (by decide) hk c m (by omega) (by omega)).2]
  obtain ⟨q, rfl⟩ := hm
  rw [Nat.or_comm, Nat.mul_comm, ← Nat.shiftLeft_eq, ← Nat.shiftLeft_add_eq_or_of_lt hc, Nat.add_comm]
set_option maxHeartbeats 4000000 in
set_option maxRecDepth 1000000 in
theorem Nt.Up_own (a : List Nat) (s : Nat) (v : Value) (w : World) (h : Nt.In w v a) (ha : Nt.Wd a) (hl : a.length ≤ 500000) (hs : s < 32) : Calls Tryz.prog 176 #[v, .int .i64 s] w fun e w' => ∃ v', e = .returned v' ∧ w'.ownsRow w.heap.size 144 1 v' (Nt.dig (Nt.val a * 2 ^ s)).length (Nt.vs (Nt.dig (Nt.val a * 2 ^ s))) ∧ Below w.heap.size w w' := by
  obtain ⟨ad, cap, rfl⟩ := h.slice
  have H := Lib.hid h
  have HA := Lib.hid ha
  clear h ha
  by_cases h0 : a.length = 0
  · obtain rfl : a = [] := List.eq_nil_of_length_eq_zero h0
    go_enter Tryz.func176, Tryz.ntmps176
    go_wp2_with fail
    go_ret
    exact ⟨_, rfl, by rw [show Nt.val [] = 0 from rfl, Nat.zero_mul, Nt.dig_zero]; exact ⟨rfl, .inl ⟨rfl, rfl⟩⟩, Below.refl _ _⟩
  · have h0I : ((a.length : Int) == 0) = false := by simp; intro e; apply h0; rw [e]; rfl
    have hmk := Nt.make (a.length + 1) w (by omega)
    have hcast : (((a.length + 1 : Nat) : Int)) = (a.length : Int) + 1 := by omega
    rw [hcast] at hmk
    clear hcast
    obtain ⟨T, hT⟩ : ∃ T, w.heap.size = T := ⟨_, rfl⟩
    obtain ⟨w2, hw2⟩ : ∃ z, w.alloc (.cells (Nt.row (List.replicate (a.length + 1) 0)) 144) = z := ⟨_, rfl⟩
    have q2 : w2.heap[T]? = some (.cells (Nt.row (List.replicate (a.length + 1) 0)) 144 (0, 0)) := by rw [← hw2, ← hT]; exact heap_alloc_new w _
    have hb2 : Below w.heap.size w w2 := hw2 ▸ (Below.refl _ _).alloc (Nat.le_refl _) _
    rw [hT, hw2] at hmk
    have HT := Lib.hid hT
    have HB2 := Lib.hid hb2
    have HQ2 := Lib.hid q2
    have hsI : (s : Int) < 32 := by omega
    have hs0 : (0 : Int) ≤ (s : Int) := by omega
    have hdv : (s : Int) / 32 = 0 := by omega
    have hrm : (s : Int) % 32 = (s : Int) := by omega
    have hsn : (s : Int).toNat = s := by omega
    clear hT hw2 hb2 q2
    go_enter Tryz.func176, Tryz.ntmps176
    go_wp2_with fail
    go_loopw [21] (fun i wr => ∃ (k c : Nat) (ws : List Nat), i = .int .i64 k ∧ k ≤ a.length ∧ c < 2 ^ s ∧ ws.length = a.length + 1 ∧ Nt.Wd ws ∧ ws.getD k 0 = c ∧ (∀ j, k < j → ws.getD j 0 = 0) ∧ Nt.val (ws.take k) + 4294967296 ^ k * c = Nt.val (a.take k) * 2 ^ s ∧ wr.heap[T]? = some (.cells (Nt.row ws) 144 (0, 0)) ∧ Below w.heap.size w wr) (fun i _ => a.length - (intOf i).toNat)
    case atStart => exact ⟨0, 0, List.replicate (a.length + 1) 0, rfl, Nat.zero_le _, Nat.two_pow_pos s, by simp, Nt.Wd.zeros _, Nt.zeros_getD _ _, fun j _ => Nt.zeros_getD _ _, by simp [Nt.val], HQ2.out, HB2.out⟩
    case round =>
      obtain ⟨k, c, ws, rfl, hk, hc, hwl, hwd, hgc, hz, hval, hq, hbw⟩ := hrel
      obtain ⟨wo, hwo⟩ : ∃ z, z = wr := ⟨_, rfl⟩
      subst hwo
      have HZ := Lib.hid hz
      have HWD := Lib.hid hwd
      have HV := Lib.hid hval
      have HQ := Lib.hid hq
      have HBW := Lib.hid hbw
      have HWL := Lib.hid hwl
      have HGC := Lib.hid hgc
      clear hz hwd hval hq hbw hwl hgc
      by_cases hlt : k < a.length
      · obtain ⟨b1, o1, rfl, _, hcap1, hbl1, hcell1⟩ := (H.out.below HBW.out (Nat.le_refl _)).at (by omega)
        have c1 := hcell1 k hlt
        have hxb := HA.out.getD k
        have hstep := Nt.up_step hs hxb HV.out hc (by have := HWL.out; omega)
        clear hcell1
        have c2 := Nt.cell_row HQ.out k (by have := HWL.out; omega)
        rw [HGC.out] at c2
        generalize a.getD k 0 = x at *
        have hy64 : x * 2 ^ s < 18446744073709551616 := by
          have h1 : 2 ^ s ≤ 2 ^ 31 := Nat.pow_le_pow_right (by decide) (by omega)
          have h2 : x * 2 ^ s ≤ 4294967295 * 2 ^ 31 := Nat.mul_le_mul (by omega) h1
          omega
        have hdvd : 2 ^ s ∣ x * 2 ^ s % 4294967296 := by
          have : (4294967296 : Nat) = 2 ^ s * 2 ^ (32 - s) := by rw [← Nat.pow_add, show s + (32 - s) = 32 by omega]
          rw [this, Nat.mul_comm x, Nat.mul_mod_mul_left]
          exact Nat.dvd_mul_right _ _
        have hor := Nt.or_low hs hc hdvd hstep.1
        have g1 : IntKind.u64.wrap ((x : Int) * 2 ^ s) = ((x * 2 ^ s : Nat) : Int) := by
          rw [IntKind.wrap_u64, show ((2 : Int) ^ s) = ((2 ^ s : Nat) : Int) from (Int.natCast_pow 2 s).symm, ← Int.natCast_mul]; omega
        obtain ⟨y, hy⟩ : ∃ y, x * 2 ^ s = y := ⟨_, rfl⟩
        rw [hy] at hstep hy64 hdvd hor g1
        obtain ⟨m, hm⟩ : ∃ m, y % 4294967296 = m := ⟨_, rfl⟩
        obtain ⟨q, hq⟩ : ∃ q, y / 4294967296 = q := ⟨_, rfl⟩
        obtain ⟨lo, hlo⟩ : ∃ lo, c + m = lo := ⟨_, rfl⟩
        rw [hm, hq, hlo] at hstep
        rw [hm, hlo] at hor
        have hmI : (y : Int) % 4294967296 = (m : Int) := by rw [← hm]; rfl
        have hqI : (y : Int) / 4294967296 % 4294967296 = (q : Int) := by rw [← hq]; omega
        obtain ⟨hs1, hs2, hs3⟩ := hstep
        have hq32 : q < 4294967296 := by omega
        obtain ⟨W, hW, e1, e2, hQ9, hB9, hS9⟩ := Nt.store HQ.out k lo (by have := HWL.out; omega) HBW.out (by have := HT.out; omega)
        obtain ⟨W2, hW2, e3, e4, hQ8, hB8, hS8⟩ := Nt.store hQ9 (k + 1) q (by rw [List.length_set]; have := HWL.out; omega) hB9 (by have := HT.out; omega)
        have HNX : Hid (∀ t, k + 1 < t → ((ws.set k lo).set (k + 1) q).getD t 0 = 0) := Lib.hid (fun t ht => by rw [Nt.getD_set_ne _ (k + 1) t q (by omega), Nt.getD_set_ne _ k t lo (by omega)]; exact HZ.out t (by omega))
        have HG2 : Hid (((ws.set k lo).set (k + 1) q).getD (k + 1) 0 = q) := Lib.hid (Nt.getD_set_self _ _ _ (by rw [List.length_set]; have := HWL.out; omega))
        have HR := Lib.hid (And.intro hs1 (And.intro hs2 (And.intro hs3 (And.intro hQ8 (And.intro hB8 hq32)))))
        have hkI : (k : Int) + 1 < (a.length : Int) + 1 := by omega
        have hkI2 : (k : Int) < (a.length : Int) + 1 := by omega
        have HTK : Hid (((ws.set k lo).set (k + 1) q).take (k + 1) = (ws.set k lo).take (k + 1)) := Lib.hid (Nt.set_take _ _ _ _ (Nat.le_refl _))
        clear hy hm hq hlo hs1 hs2 hs3 hQ9 hB9 hS9 hQ8 hB8 hS8 hdvd hy64 hq32
        go_wp2_with fail
        go_roundw
        case rel => exact ⟨k + 1, q, _, by first | rfl | go_num | (simp; try omega), by omega, HR.out.2.1, by rw [List.length_set, List.length_set]; exact HWL.out, (HWD.out.set _ _ HR.out.1).set _ _ HR.out.2.2.2.2.2, HG2.out, HNX.out, by rw [HTK.out]; exact HR.out.2.2.1, HR.out.2.2.2.1, HR.out.2.2.2.2.1⟩
        case measure => simp [intOf]; omega
      · obtain rfl : k = a.length := by omega
        have hval : Nt.val ws = Nt.val a * 2 ^ s := by
          have h1 := HV.out
          rw [List.take_length, ← HGC.out, ← Nt.val_take_succ ws a.length (by have := HWL.out; omega), List.take_of_length_le (by have := HWL.out; omega)] at h1
          exact h1
        have hin : wo.ownsRow w.heap.size 144 1 (.slice (some ⟨T, 0, none⟩) (a.length + 1) (a.length + 1)) ws.length (Nt.vs ws) := by
          have hl := HWL.out
          refine ⟨by simp [Nt.vs], .inr ⟨T, a.length + 1, Nt.row ws, by rw [hl], Nat.le_of_eq HT.out, HQ.out, by omega, by unfold maxLen; omega, by rw [Nt.row_size]; omega, ?_⟩⟩
          have e : (Nt.row ws).toList = Nt.vs ws := by simp [Nt.row, Nt.vs]
          rw [e, List.take_of_length_le (by simp [Nt.vs])]
        have KN := Nt.norm_own ws _ wo hin HWD.out (by have := HWL.out; omega)
        rw [hval] at KN
        have hnlt : decide ((a.length : Int) < (a.length : Int)) = false := decide_eq_false (by omega)
        clear hval hin
        go_wp2_with fail
        refine KN.mono ?_
        rintro z w8 ⟨v8, rfl, hn8, hb8⟩
        have HN8 := Lib.hid hn8
        have HB8 := Lib.hid (HBW.out.trans (hb8.mono HBW.out.size))
        clear hn8 hb8
        go_wp2_with fail
        go_ret
        exact ⟨_, rfl, HN8.out, HB8.out⟩
theorem Nt.Up_ws (a : List Nat) (s : Nat) (v : Value) (w : World) (h : Nt.In w v a) (ha : Nt.Wd a) (hl : a.length ≤ 500000) (hs : s < 32) : Calls Tryz.prog 176 #[v, .int .i64 s] w fun e w' => ∃ v', e = .returned v' ∧ Nt.N w' v' (Nt.val a * 2 ^ s) ∧ Below w.heap.size w w' :=
  (Nt.Up_own a s v w h ha hl hs).mono fun _ _ ⟨v', he, ho, hb⟩ => ⟨v', he, Nt.In.of_own ho, hb⟩
end Go.Proofs.YtikmebkfdpbidaaGreatDoor
namespace Go.Proofs.YtikmebkfdpbidaaGreatDoor
open Go.RowKit
set_option linter.unusedVariables false
set_option linter.unusedSimpArgs false

/-- Block T begins with the words ws, and can be written. -/
def Nt.Row (w : World) (T : Nat) (ws : List Nat) : Prop := ∃ cur t, w.heap[T]? = some (.cells cur t (0, 0)) ∧ ∀ k, k < ws.length → cur[k]? = some (.int .u32 (ws.getD k 0 : Nat))
theorem Nt.Row.of_row {w : World} {T : Nat} {t : TypeId} {ws : List Nat} (h : w.heap[T]? = some (.cells (Nt.row ws) t (0, 0))) : Nt.Row w T ws := ⟨_, t, h, fun k hk => Nt.row_at ws k hk⟩
theorem Nt.Row.lt {w : World} {T : Nat} {ws : List Nat} (h : Nt.Row w T ws) : T < w.heap.size := by
  obtain ⟨cur, t, h1, _⟩ := h
  exact (Array.getElem?_eq_some_iff.1 h1).1
theorem Nt.Row.cell {w : World} {T : Nat} {ws : List Nat} (h : Nt.Row w T ws) (k : Nat) (hk : k < ws.length) : w.cell? ⟨T, k, none⟩ = some (.int .u32 (ws.getD k 0 : Nat)) := by
  obtain ⟨cur, t, h1, h2⟩ := h
  have e : w.cell? ⟨T, k, none⟩ = cur[k]? := by simp [World.cell?, h1]
  rw [e, h2 k hk]
theorem Nt.Row.frozen {w : World} {T : Nat} {ws : List Nat} (h : Nt.Row w T ws) (k : Nat) : w.frozen? ⟨T, k, none⟩ = false := by
  obtain ⟨cur, t, h1, h2⟩ := h
  simp [World.frozen?, h1]
theorem Nt.Row.set {w : World} {T : Nat} {ws : List Nat} (h : Nt.Row w T ws) (k x : Nat) (hk : k < ws.length) : Nt.Row (w.setCell ⟨T, k, none⟩ (.int .u32 (x : Int))) T (ws.set k x) := by
  obtain ⟨cur, t, h1, h2⟩ := h
  obtain ⟨hlt, hk1⟩ := Array.getElem?_eq_some_iff.1 h1
  have hks : k < cur.size := (Array.getElem?_eq_some_iff.1 (h2 k hk)).1
  refine ⟨cur.set! k (.int .u32 (x : Int)), t, ?_, fun j hj => ?_⟩
  · show (w.heap.modify T _)[T]? = _
    rw [Array.getElem?_eq_getElem (by rw [Array.size_modify]; exact hlt), Array.getElem_modify_self, hk1]
    rfl
  · rw [List.length_set] at hj
    rw [Array.set!_eq_setIfInBounds, Array.getElem?_setIfInBounds]
    by_cases e : k = j
    · subst e
      rw [if_pos rfl, if_pos hks, Nt.getD_set_self _ _ _ hk]
    · rw [if_neg e, h2 j hj, Nt.getD_set_ne _ _ _ _ e]
theorem Nt.Row.below {w w' : World} {T B : Nat} {ws : List Nat} (h : Nt.Row w T ws) (hb : Below B w w') (hB : T < B) : Nt.Row w' T ws := by
  obtain ⟨cur, t, h1, h2⟩ := h
  exact ⟨cur, t, (hb.block T hB).trans h1, h2⟩
theorem Nt.Row.in {w : World} {T cap : Nat} {ws : List Nat} (h : Nt.Row w T ws) (hc : ws.length ≤ cap) : Nt.In w (.slice (some ⟨T, 0, none⟩) ws.length cap) ws := by
  rcases Nat.eq_zero_or_pos ws.length with h0 | h0
  · have : ws = [] := List.eq_nil_of_length_eq_zero h0
    subst this
    exact .inr (.inl ⟨_, cap, rfl, rfl⟩)
  · refine .inr (.inr ⟨h0, T, 0, cap, rfl, hc, h.lt, fun j hj => ?_⟩)
    rw [Nat.zero_add]
    exact h.cell j hj
theorem Nt.Row.cut {w : World} {T : Nat} {ws : List Nat} (h : Nt.Row w T ws) (n : Nat) : Nt.Row w T (ws.take n) := by
  obtain ⟨cur, t, h1, h2⟩ := h
  refine ⟨cur, t, h1, fun k hk => ?_⟩
  rw [List.length_take] at hk
  rw [h2 k (by omega), List.getD_eq_getElem?_getD, List.getD_eq_getElem?_getD, List.getElem?_take, if_pos (by omega)]
theorem Nt.own_row {w : World} {B : Nat} {t : TypeId} {v : Value} {ws : List Nat} (h : w.ownsRow B t 1 v ws.length (ws.map fun (x : Nat) => Value.int .u32 (x : Int))) (h0 : 0 < ws.length) :
    ∃ T cap, v = .slice (some ⟨T, 0, none⟩) ws.length cap ∧ B ≤ T ∧ ws.length ≤ cap ∧ cap ≤ maxLen ∧ Nt.Row w T ws := by
  rcases h.2 with ⟨_, h1⟩ | ⟨g, cap, cur, rfl, hB, hg, hn, hm, hs, ht⟩
  · omega
  · refine ⟨g, cap, rfl, hB, hn, hm, cur, t, hg, fun k hk => ?_⟩
    have e : (cur.toList.take (ws.length * 1))[k]? = some (.int .u32 (ws.getD k 0 : Nat)) := by
      rw [ht, List.getElem?_map, List.getElem?_eq_getElem hk, List.getD_eq_getElem?_getD, List.getElem?_eq_getElem hk]
      rfl
    rw [List.getElem?_take, if_pos (by omega)] at e
    rw [← Array.getElem?_toList]
    exact e
/-- A store into a row. -/
theorem Nt.Row.put {w : World} {T B : Nat} {w0 : World} {ws : List Nat} (h : Nt.Row w T ws) (k x : Nat) (hk : k < ws.length) (hb : Below B w0 w) (hB : B ≤ T) :
    ∃ W, w.setCell ⟨T, k, none⟩ (.int .u32 (x : Int)) = W ∧ w.cell? ⟨T, k, none⟩ = some (.int .u32 (ws.getD k 0 : Nat)) ∧ w.frozen? ⟨T, k, none⟩ = false ∧ Nt.Row W T (ws.set k x) ∧ Below B w0 W ∧ W.heap.size = w.heap.size ∧ (∀ q, q ≠ T → W.heap[q]? = w.heap[q]?) :=
  ⟨_, rfl, h.cell k hk, h.frozen k, h.set k x hk, hb.setCell (p := ⟨T, k, none⟩) hB _, by simp, fun q hq => Below.heap_setCell _ _ _ _ hq⟩
theorem Nt.In.othr2 {w w' : World} {v : Value} {ws : List Nat} {T : Nat} (h : Nt.In w v ws) (hT : ∀ b off l cap, v = .slice (some ⟨b, off, none⟩) l cap → b ≠ T) (hz : w.heap.size ≤ w'.heap.size) (hq : ∀ q, q ≠ T → q < w.heap.size → w'.heap[q]? = w.heap[q]?) : Nt.In w' v ws := by
  rcases h with h | h | ⟨h0, b, off, cap, hv, hc, hl, hcell⟩
  · exact .inl h
  · exact .inr (.inl h)
  · exact .inr (.inr ⟨h0, b, off, cap, hv, hc, by omega, fun j hj => (World.cell?_of_block (w := w) (hq b (hT b off _ _ hv) hl)).trans (hcell j hj)⟩)

theorem Nt.In.low {w w' : World} {v : Value} {ws : List Nat} {B : Nat} (h : Nt.In w v ws) (hB : ∀ b off l cap, v = .slice (some ⟨b, off, none⟩) l cap → b < B) (hb : Below B w w') : Nt.In w' v ws := by
  rcases h with h | h | ⟨h0, b, off, cap, hv, hc, hl, hcell⟩
  · exact .inl h
  · exact .inr (.inl h)
  · exact .inr (.inr ⟨h0, b, off, cap, hv, hc, Nat.lt_of_lt_of_le hl hb.size, fun j hj => (hb.cell (p := ⟨b, off + j, none⟩) (hB b off _ _ hv)).trans (hcell j hj)⟩)
theorem Nt.or_high {x y : Nat} (hx : x < 4294967296) (hy : y < 4294967296) : bits .or .u64 (x : Int) ((y : Int) * 4294967296) = ((x + 4294967296 * y : Nat) : Int) := by
  have hk : ∀ n : Int, 0 ≤ n → n < 2 ^ 64 → IntKind.u64.wrap n = n := fun n h0 h1 => by rw [IntKind.wrap_u64]; omega
  have h := (bits_nat .u64 64 (by decide) hk x (y * 4294967296) (by omega) (by omega)).2
  have e : x ||| y * 4294967296 = x + 4294967296 * y := by
    have h1 := Nat.shiftLeft_add_eq_or_of_lt (show x < 2 ^ 32 from hx) y
    rw [Nat.shiftLeft_eq] at h1
    rw [Nat.or_comm, ← h1]
    omega
  rw [e] at h
  rw [← h]
  rfl
set_option maxHeartbeats 4000000 in
set_option maxRecDepth 1000000 in
theorem Nt.Down_ws (a : List Nat) (s : Nat) (v : Value) (w : World) (h : Nt.In w v a) (ha : Nt.Wd a) (hl : a.length ≤ 500000) (hs : s < 32) : Calls Tryz.prog 178 #[v, .int .i64 s] w fun e w' => ∃ v', e = .returned v' ∧ Nt.N w' v' (Nt.val a / 2 ^ s) ∧ Below w.heap.size w w' := by
  obtain ⟨ad, cap, rfl⟩ := h.slice
  have hcap := h.cap.2
  have H := Lib.hid h
  have HA := Lib.hid ha
  have hsI : (s : Int) < 32 := by omega
  have hs0 : (0 : Int) ≤ (s : Int) := by omega
  have hdv : (s : Int) / 32 = 0 := by omega
  have hrm : (s : Int) % 32 = (s : Int) := by omega
  have hsn : (s : Int).toNat = s := by omega
  clear h ha
  by_cases h0 : a.length = 0
  · obtain rfl : a = [] := List.eq_nil_of_length_eq_zero h0
    go_enter Tryz.func178, Tryz.ntmps178
    go_wp2_with fail
    go_ret
    exact ⟨_, rfl, by rw [show Nt.val [] = 0 from rfl, Nat.zero_div]; exact Nt.N.zero _, Below.refl _ _⟩
  · have h0I : ¬ ((a.length : Int) ≤ 0) := by omega
    obtain ⟨b1, o1, rfl, _, hcap1, hbl1, hcell1⟩ := H.out.at (by omega)
    have KC := fun w h => Nt.Clone_own a (.slice (some ⟨b1, o1, none⟩) a.length cap) w h (by omega)
    clear hcell1
    go_enter Tryz.func178, Tryz.ntmps178
    go_wp2_with fail
    refine (KC _ H.out).mono ?_
    rintro x w1 ⟨v1, rfl, hown, hb1⟩
    obtain ⟨T, cap2, rfl, hTB, hc2, hc2m, hrow⟩ := Nt.own_row hown (by omega)
    have HT := Lib.hid hTB
    have HB1 := Lib.hid hb1
    have HR1 := Lib.hid hrow
    clear hown hb1 hrow hTB
    go_wp2_with fail
    go_loopw [20] (fun i wr => ∃ (k : Nat) (ws : List Nat), i = .int .i64 k ∧ k ≤ a.length ∧ ws.length = a.length ∧ Nt.Wd ws ∧ (∀ j, j < k → ws.getD j 0 = a.getD j 0 / 2 ^ s + a.getD (j + 1) 0 % 2 ^ s * 2 ^ (32 - s)) ∧ (∀ j, k ≤ j → ws.getD j 0 = a.getD j 0) ∧ Nt.Row wr T ws ∧ Below w.heap.size w wr) (fun i _ => a.length - (intOf i).toNat)
    case atStart => exact ⟨0, a, rfl, Nat.zero_le _, rfl, HA.out, fun j hj => absurd hj (Nat.not_lt_zero _), fun _ _ => rfl, HR1.out, HB1.out⟩
    case round =>
      obtain ⟨k, ws, rfl, hk, hwl, hwd, hlow, hhi, hq, hbw⟩ := hrel
      obtain ⟨wo, hwo⟩ : ∃ z, z = wr := ⟨_, rfl⟩
      subst hwo
      have HLO := Lib.hid hlow
      have HHI := Lib.hid hhi
      have HWD := Lib.hid hwd
      have HQ := Lib.hid hq
      have HBW := Lib.hid hbw
      have HWL := Lib.hid hwl
      clear hlow hhi hwd hq hbw hwl
      by_cases hlt : k < a.length
      · have c1 := HQ.out.cell k (by have := HWL.out; omega)
        rw [HHI.out k (Nat.le_refl _)] at c1
        have hxb := HA.out.getD k
        have hyb := HA.out.getD (k + 1)
        have c2 := fun h => HQ.out.cell (k + 1) h
        rw [HHI.out (k + 1) (by omega)] at c2
        have hdw := Nt.down_word (a.getD k 0) (a.getD (k + 1) 0) s hs hxb hyb
        have hnx : ∀ z, z = a.getD k 0 / 2 ^ s + a.getD (k + 1) 0 % 2 ^ s * 2 ^ (32 - s) → (∀ j, j < k + 1 → (ws.set k z).getD j 0 = a.getD j 0 / 2 ^ s + a.getD (j + 1) 0 % 2 ^ s * 2 ^ (32 - s)) ∧ (∀ j, k + 1 ≤ j → (ws.set k z).getD j 0 = a.getD j 0) := fun z hz => by
          refine ⟨fun j hj => ?_, fun j hj => ?_⟩
          · by_cases e : j = k
            · subst e
              rw [Nt.getD_set_self _ _ _ (by have := HWL.out; omega), hz]
            · rw [Nt.getD_set_ne _ _ _ _ (fun h => e h.symm)]
              exact HLO.out j (by omega)
          · rw [Nt.getD_set_ne _ _ _ _ (by omega)]
            exact HHI.out j (by omega)
        have HNX := Lib.hid hnx
        have hz0 : ¬ k + 1 < a.length → a.getD (k + 1) 0 = 0 := fun h => Nt.getD_ge a (k + 1) (by omega)
        clear hnx
        generalize a.getD k 0 = x at *
        generalize a.getD (k + 1) 0 = y at *
        have hor := Nt.or_high hxb hyb
        obtain ⟨N, hN⟩ : ∃ N, x + 4294967296 * y = N := ⟨_, rfl⟩
        rw [hN] at hor hdw
        obtain ⟨z, hz⟩ : ∃ z, x / 2 ^ s + y % 2 ^ s * 2 ^ (32 - s) = z := ⟨_, rfl⟩
        rw [hz] at hdw
        have hzI : (N : Int) / 2 ^ s % 4294967296 = (z : Int) := by
          rw [← hdw, show ((2 : Int) ^ s) = ((2 ^ s : Nat) : Int) from (Int.natCast_pow 2 s).symm]; rfl
        have hzl : z < 4294967296 := by rw [← hdw]; omega
        have hysh : ((y : Int) * 4294967296) % 18446744073709551616 = (y : Int) * 4294967296 := by omega
        obtain ⟨W, hW, e1, e2, hQ9, hB9, hS9, _⟩ := HQ.out.put k z (by have := HWL.out; omega) HBW.out HT.out
        have HR := Lib.hid (And.intro hzl (And.intro hQ9 (And.intro hB9 (HNX.out z hz.symm))))
        have hkI : (k : Int) < (a.length : Int) := by omega
        have c2' := c2
        have HC2 := Lib.hid c2'
        have hz0' := Lib.hid hz0
        clear c2 c2' hz0 hdw hz hzl hQ9 hB9 hS9
        by_cases hlt2 : k + 1 < a.length
        · have c2 := HC2.out (by have := HWL.out; omega)
          have hkI2 : (k : Int) + 1 < (a.length : Int) := by omega
          clear hN
          go_wp2_with fail
          go_roundw
          case rel => exact ⟨k + 1, _, by first | rfl | go_num | (simp; try omega), by omega, by rw [List.length_set]; exact HWL.out, HWD.out.set _ _ HR.out.1, HR.out.2.2.2.1, HR.out.2.2.2.2, HR.out.2.1, HR.out.2.2.1⟩
          case measure => simp [intOf]; omega
        · have hy0 := hz0'.out hlt2
          have hNx : N = x := by rw [← hN, hy0]; omega
          rw [hNx] at hzI
          have hkI2 : ¬ (k : Int) + 1 < (a.length : Int) := by omega
          clear hN hNx hy0 hor hysh
          go_wp2_with fail
          go_roundw
          case rel => exact ⟨k + 1, _, by first | rfl | go_num | (simp; try omega), by omega, by rw [List.length_set]; exact HWL.out, HWD.out.set _ _ HR.out.1, HR.out.2.2.2.1, HR.out.2.2.2.2, HR.out.2.1, HR.out.2.2.1⟩
          case measure => simp [intOf]; omega
      · obtain rfl : k = a.length := by omega
        have hval := Nt.down_val a s hs HA.out ws HWL.out (fun i hi => HLO.out i hi)
        have hin := HQ.out.in (cap := cap2) (by have := HWL.out; omega)
        rw [HWL.out] at hin
        have KN := Nt.norm_any ws _ wo hin HWD.out (by have := HWL.out; omega)
        rw [hval] at KN
        have hnlt : decide ((a.length : Int) < (a.length : Int)) = false := decide_eq_false (by omega)
        clear hval hin
        go_wp2_with fail
        refine KN.mono ?_
        rintro z w8 ⟨v8, rfl, hn8, hb8⟩
        have HN8 := Lib.hid hn8
        have HB8 := Lib.hid (HBW.out.trans (hb8.mono HBW.out.size))
        clear hn8 hb8
        go_wp2_with fail
        go_ret
        exact ⟨_, rfl, HN8.out, HB8.out⟩
end Go.Proofs.YtikmebkfdpbidaaGreatDoor
namespace Go.Proofs.YtikmebkfdpbidaaGreatDoor
set_option linter.unusedVariables false

theorem Nt.top_shift {x : Nat} (h0 : 0 < x) (h1 : x < 4294967296) : ∃ s : Nat, s < 32 ∧ (32 - (Lib.bitLen x : Int)) = (s : Int) ∧ 2147483648 ≤ x * 2 ^ s ∧ x * 2 ^ s < 4294967296 := by
  obtain ⟨b1, b2, b3⟩ := Lib.bitLenAux_bounds 64 x (by omega) (by omega)
  have hb : Lib.bitLen x ≤ 32 := by
    rcases Nat.lt_or_ge 32 (Lib.bitLen x) with h | h
    · have : 2 ^ 32 ≤ 2 ^ (Lib.bitLenAux 64 x - 1) := Nat.pow_le_pow_right (by decide) (by unfold Lib.bitLen at h; omega)
      omega
    · exact h
  unfold Lib.bitLen at *
  generalize Lib.bitLenAux 64 x = L at *
  refine ⟨32 - L, by omega, by omega, ?_, ?_⟩
  · have e : 2 ^ (L - 1) * 2 ^ (32 - L) = 2147483648 := by rw [← Nat.pow_add, show L - 1 + (32 - L) = 31 by omega]
    have := Nat.mul_le_mul_right (2 ^ (32 - L)) b2
    omega
  · have e : 2 ^ L * 2 ^ (32 - L) = 4294967296 := by rw [← Nat.pow_add, show L + (32 - L) = 32 by omega]
    have := (Nat.mul_lt_mul_right (Nat.two_pow_pos (32 - L))).2 b3
    omega
theorem Nt.dig_pow_le {m : Nat} (h : 0 < m) : 4294967296 ^ ((Nt.dig m).length - 1) ≤ m := by
  have hl := Nt.dig_last m h
  have e := Nt.val_dig m
  have hlp := Nt.dig_len_pos.2 h
  have hlen : (Nt.dig m).length - 1 < (Nt.dig m).length := by omega
  have e2 : Nt.val (Nt.dig m) = Nt.val ((Nt.dig m).take ((Nt.dig m).length - 1)) + 4294967296 ^ ((Nt.dig m).length - 1) * (Nt.dig m).getD ((Nt.dig m).length - 1) 0 := by
    rw [← Nt.val_take_succ _ _ hlen, Nat.sub_add_cancel (by omega), List.take_length]
  rw [e] at e2
  have h3 : 4294967296 ^ ((Nt.dig m).length - 1) * 1 ≤ 4294967296 ^ ((Nt.dig m).length - 1) * (Nt.dig m).getD ((Nt.dig m).length - 1) 0 := Nat.mul_le_mul_left _ (by omega)
  omega
theorem Nt.dig_lt_pow (m : Nat) : m < 4294967296 ^ (Nt.dig m).length := by
  have := Nt.val_lt _ (Nt.dig_wd m)
  rwa [Nt.val_dig] at this
theorem Nt.dig_len_of {m k : Nat} (h1 : 4294967296 ^ k ≤ m) (h2 : m < 4294967296 ^ (k + 1)) : (Nt.dig m).length = k + 1 := by
  have h0 : 0 < m := Nat.lt_of_lt_of_le (Nat.pow_pos (by decide)) h1
  have l1 := Nt.dig_pow_le h0
  have l2 := Nt.dig_lt_pow m
  have a1 : (Nt.dig m).length - 1 < k + 1 := (Nat.pow_lt_pow_iff_right (by decide : 1 < 4294967296)).1 (Nat.lt_of_le_of_lt l1 h2)
  have a2 : k < (Nt.dig m).length := (Nat.pow_lt_pow_iff_right (by decide : 1 < 4294967296)).1 (Nat.lt_of_le_of_lt h1 l2)
  omega
/-- The divisor, shifted: as many words, the last with its highest bit. -/
theorem Nt.shift_div {n k s : Nat} (hk : (Nt.dig n).length = k + 1) (h1 : 2147483648 ≤ (Nt.dig n).getD k 0 * 2 ^ s) (h2 : (Nt.dig n).getD k 0 * 2 ^ s < 4294967296) :
    (Nt.dig (n * 2 ^ s)).length = k + 1 ∧ 2147483648 * 4294967296 ^ k ≤ n * 2 ^ s ∧ n * 2 ^ s < 4294967296 ^ (k + 1) ∧ 2147483648 ≤ (Nt.dig (n * 2 ^ s)).getD k 0 := by
  have e : n = Nt.val ((Nt.dig n).take k) + 4294967296 ^ k * (Nt.dig n).getD k 0 := by
    rw [← Nt.val_take_succ _ _ (by omega), ← hk, List.take_length, Nt.val_dig]
  have l := Nt.val_lt _ ((Nt.dig_wd n).take k)
  rw [List.length_take, hk, Nat.min_eq_left (by omega)] at l
  generalize (Nt.dig n).getD k 0 = x at *
  generalize Nt.val ((Nt.dig n).take k) = V at *
  have hp := Nat.two_pow_pos s
  have e2 : n * 2 ^ s = V * 2 ^ s + 4294967296 ^ k * (x * 2 ^ s) := by rw [e, Nat.add_mul, Nat.mul_assoc]
  have a1 : 2147483648 * 4294967296 ^ k ≤ n * 2 ^ s := by
    have := Nat.mul_le_mul_left (4294967296 ^ k) h1
    rw [e2]; omega
  have a2 : n * 2 ^ s < 4294967296 ^ (k + 1) := by
    have b1 : V * 2 ^ s < 4294967296 ^ k * 2 ^ s := (Nat.mul_lt_mul_right hp).2 l
    have hd : (x + 1) * 2 ^ s ≤ 4294967296 := by
      -- x 2^s < 2^32 and both sides are multiples of 2^s where s < 32
      rcases Nat.lt_or_ge s 32 with hs | hs
      · have hd : 2 ^ (32 - s) * 2 ^ s = 4294967296 := by rw [← Nat.pow_add, show 32 - s + s = 32 by omega]
        rw [← hd] at h2 ⊢
        exact Nat.mul_le_mul_right _ (Nat.lt_of_mul_lt_mul_right h2)
      · exfalso
        have : 2 ^ 32 ≤ 2 ^ s := Nat.pow_le_pow_right (by decide) hs
        have hx : 1 ≤ x := by
          rcases Nat.eq_zero_or_pos x with h | h
          · subst h; omega
          · exact h
        have := Nat.mul_le_mul hx this
        omega
    have b2 := Nat.mul_le_mul_left (4294967296 ^ k) hd
    rw [Nat.pow_succ, e2]
    rw [Nat.add_mul, Nat.one_mul, Nat.mul_add] at b2
    omega
  have hpow : 4294967296 ^ k ≤ n * 2 ^ s := by omega
  have hl := Nt.dig_len_of hpow a2
  refine ⟨hl, a1, a2, ?_⟩
  have e3 : n * 2 ^ s = Nt.val ((Nt.dig (n * 2 ^ s)).take k) + 4294967296 ^ k * (Nt.dig (n * 2 ^ s)).getD k 0 := by
    rw [← Nt.val_take_succ _ _ (by omega), ← hl, List.take_length, Nt.val_dig]
  have l3 := Nt.val_lt _ ((Nt.dig_wd (n * 2 ^ s)).take k)
  rw [List.length_take, hl, Nat.min_eq_left (by omega)] at l3
  generalize (Nt.dig (n * 2 ^ s)).getD k 0 = y at *
  rcases Nat.lt_or_ge y 2147483648 with h | h
  · exfalso
    have := Nat.mul_le_mul_left (4294967296 ^ k) h
    rw [Nat.mul_succ] at this
    rw [Nat.mul_comm 2147483648] at a1
    omega
  · exact h
/-- The dividend, shifted, is less than the divisor so many words up. -/
theorem Nt.shift_start {m n s k l : Nat} (hm : m < 4294967296 ^ l) (hs : s < 32) (hd : 2147483648 * 4294967296 ^ k ≤ n * 2 ^ s) (hkl : k ≤ l) : m * 2 ^ s < n * 2 ^ s * 4294967296 ^ (l - k) := by
  have h1 : 2 ^ s ≤ 2147483648 := Nat.pow_le_pow_right (n := 2) (j := 31) (by decide) (by omega)
  have h2 : m * 2 ^ s < 4294967296 ^ l * 2 ^ s := (Nat.mul_lt_mul_right (Nat.two_pow_pos s)).2 hm
  have h3 : 4294967296 ^ l * 2 ^ s ≤ 4294967296 ^ l * 2147483648 := Nat.mul_le_mul_left _ h1
  have h4 := Nat.mul_le_mul_right (4294967296 ^ (l - k)) hd
  rw [Nat.mul_assoc, ← Nat.pow_add, show k + (l - k) = l by omega, Nat.mul_comm 2147483648] at h4
  omega
/-- The dividend's row. -/
theorem Nt.shift_row {m s l : Nat} (hm : m < 4294967296 ^ l) (hs : s < 32) (hl : (Nt.dig m).length = l) (h0 : 0 < m) : l ≤ (Nt.dig (m * 2 ^ s)).length ∧ (Nt.dig (m * 2 ^ s)).length ≤ l + 1 ∧ (((Nt.dig (m * 2 ^ s)) ++ [0, 0]).take (l + 1)).length = l + 1 ∧ Nt.val (((Nt.dig (m * 2 ^ s)) ++ [0, 0]).take (l + 1)) = m * 2 ^ s ∧ Nt.Wd (((Nt.dig (m * 2 ^ s)) ++ [0, 0]).take (l + 1)) := by
  have hp := Nat.two_pow_pos s
  have a1 : 4294967296 ^ (l - 1) ≤ m * 2 ^ s := by
    have := Nt.dig_pow_le h0
    rw [hl] at this
    exact Nat.le_trans this (Nat.le_mul_of_pos_right _ hp)
  have a2 : m * 2 ^ s < 4294967296 ^ (l + 1) := by
    have h1 : 2 ^ s ≤ 4294967296 := Nat.pow_le_pow_right (n := 2) (j := 32) (by decide) (by omega)
    have h2 := Nat.mul_le_mul_left (4294967296 ^ l) h1
    have h3 : m * 2 ^ s < 4294967296 ^ l * 2 ^ s := (Nat.mul_lt_mul_right hp).2 hm
    rw [Nat.pow_succ]
    omega
  have hlp : 0 < l := hl ▸ Nt.dig_len_pos.2 h0
  have b1 : l - 1 < (Nt.dig (m * 2 ^ s)).length := (Nat.pow_lt_pow_iff_right (by decide : 1 < 4294967296)).1 (Nat.lt_of_le_of_lt a1 (Nt.dig_lt_pow _))
  have b2 : (Nt.dig (m * 2 ^ s)).length - 1 < l + 1 := (Nat.pow_lt_pow_iff_right (by decide : 1 < 4294967296)).1 (Nat.lt_of_le_of_lt (Nt.dig_pow_le (Nat.mul_pos h0 hp)) a2)
  have hwd : Nt.Wd (Nt.dig (m * 2 ^ s) ++ [0, 0]) := fun x hx => by
    rcases List.mem_append.1 hx with h | h
    · exact Nt.dig_wd _ x h
    · simp at h; subst h; decide
  refine ⟨by omega, by omega, by rw [List.length_take, List.length_append]; simp; omega, ?_, hwd.take _⟩
  have e := Nt.val_append ((Nt.dig (m * 2 ^ s) ++ [0, 0]).take (l + 1)) ((Nt.dig (m * 2 ^ s) ++ [0, 0]).drop (l + 1))
  rw [List.take_append_drop, Nt.val_append, Nt.val_dig] at e
  have z1 : Nt.val [0, 0] = 0 := rfl
  have z2 : Nt.val ((Nt.dig (m * 2 ^ s) ++ [0, 0]).drop (l + 1)) = 0 := by
    apply Nt.val_zeros
    intro x hx
    rw [List.drop_append, List.drop_eq_nil_of_le (by omega), List.nil_append] at hx
    have := List.mem_of_mem_drop hx
    simp at this
    exact this
  rw [z1, z2] at e
  omega
end Go.Proofs.YtikmebkfdpbidaaGreatDoor
