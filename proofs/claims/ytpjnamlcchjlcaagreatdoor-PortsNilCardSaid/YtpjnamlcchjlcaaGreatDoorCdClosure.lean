/-
  The closure of codec.Decode, by a contract of its own: what it writes into the three variables that it captures. Conditions: the four captured blocks lie as Decode lays them; the list has at most 2^40 characters.
-/
import Derived.Test.YtpjnamlcchjlcaaGreatDoorCdSmall
import Derived.Test.YtpjnamlcchjlcaaGreatDoorCdPlain
import Derived.Test.YtpjnamlcchjlcaaGreatDoorSl
import Derived.WalkKit
import Derived.WalkSpells
import Derived.WalkLawsBesides
import Derived.Handy
import Derived.BigCall
import Derived.Lib.Hide
namespace Go.Proofs.YtpjnamlcchjlcaaGreatDoor
open Go.RowKit

theorem Cd.infoRune : (Tryz.prog.info? 21).map (fun i => (i.zero, i.size, i.bytes)) = some (some (.int .i32 0), 1, 4) := by kernel_rfl

/-- The variables of Decode that its closure captures. -/
structure Cd.St (w : World) (B ob cb ab eb : Nat) (c l m : Int) (xs : List Int) (a e : Int) : Prop where
  coder : w.heap[cb]? = some (.cells #[.int .i64 c, .int .i64 l, .int .i64 m] 45 (0, 0))
  place : w.heap[ab]? = some (.cells #[.int .i64 a] 3 (0, 0))
  err : w.heap[eb]? = some (.cells #[.int .i64 e] 24 (0, 0))
  out : ∃ v, w.heap[ob]? = some (.cells #[v] 84 (0, 0)) ∧ w.ownsRow B 21 1 v xs.length (xs.map (Value.int .i32))

/-- What the closure leaves as it was. -/
structure Cd.Kept (B ob ab eb : Nat) (w w' : World) : Prop where
  below : Below B w w'
  other : ∀ k o, w.heap[k]? = some o → k ≠ ob → k ≠ ab → k ≠ eb → (∀ c fz, o ≠ .cells c 21 fz) → w'.heap[k]? = some o
theorem Cd.Kept.refl (B ob ab eb : Nat) (w : World) : Cd.Kept B ob ab eb w w := ⟨Below.refl _ _, fun _ _ h _ _ _ _ => h⟩
theorem Cd.Kept.trans {B ob ab eb : Nat} {a b c : World} (h : Cd.Kept B ob ab eb a b) (k : Cd.Kept B ob ab eb b c) : Cd.Kept B ob ab eb a c :=
  ⟨h.below.trans k.below, fun i o hi h1 h2 h3 h4 => k.other i o (h.other i o hi h1 h2 h3 h4) h1 h2 h3 h4⟩
theorem Cd.Kept.of_below {B ob ab eb : Nat} {w w' : World} (h : Below w.heap.size w w') (hB : B ≤ w.heap.size) : Cd.Kept B ob ab eb w w' :=
  ⟨h.mono hB, fun k o hk _ _ _ _ => by rw [h.block k (lt_of_block hk)]; exact hk⟩
theorem Cd.St.of_below {w w' : World} {B ob cb ab eb : Nat} {c l m : Int} {xs : List Int} {a e : Int} (h : Cd.St w B ob cb ab eb c l m xs a e) (hb : Below w.heap.size w w') : Cd.St w' B ob cb ab eb c l m xs a e := by
  obtain ⟨v, ho, hr⟩ := h.out
  exact ⟨(hb.block _ (lt_of_block h.coder)).trans h.coder, (hb.block _ (lt_of_block h.place)).trans h.place, (hb.block _ (lt_of_block h.err)).trans h.err, v, (hb.block _ (lt_of_block ho)).trans ho, Sl.own_below hr hb (Nat.le_refl _)⟩

/-- A character is put behind the list. -/
theorem Cd.St.put {w w1 : World} {B ob cb ab eb : Nat} {c l m : Int} {xs ys : List Int} {a e : Int} {v v' : Value} (h : Cd.St w B ob cb ab eb c l m xs a e) (hB : B ≤ w.heap.size) (hBo : B ≤ ob) (ho : w.heap[ob]? = some (.cells #[v] 84 (0, 0))) (hr : w.ownsRow B 21 1 v xs.length (xs.map (Value.int .i32))) (o : Obj)
    (hown : w1.ownsRow B 21 1 v' ys.length (ys.map (Value.int .i32))) (hg : (w.alloc o).grownBy w1 v.ownBlock) :
    Cd.St (w1.setCell ⟨ob, 0, none⟩ v') B ob cb ab eb c l m ys a e ∧ Cd.Kept B ob ab eb w (w1.setCell ⟨ob, 0, none⟩ v') := by
  have hrow : ∀ g, v.ownBlock = some g → ∃ cs, w.heap[g]? = some (.cells cs 21 (0, 0)) := by
    intro g hgv
    rcases hr.2 with ⟨hv, _⟩ | ⟨g2, cap, cur, hv, _, hgg, _⟩
    · rw [hv] at hgv; cases hgv
    · rw [hv] at hgv
      simp [Value.ownBlock] at hgv
      subst hgv
      exact ⟨_, hgg⟩
  have keep : ∀ (k : Nat) (x : Obj), w.heap[k]? = some x → (∀ c fz, x ≠ .cells c 21 fz) → w1.heap[k]? = some x := by
    intro k x hk hx
    have hlt := lt_of_block hk
    rw [hg.block k (by simp; omega) ?_, Lib.alloc_old w o k hlt]
    · exact hk
    · intro hc
      obtain ⟨cs, hcs⟩ := hrow k hc.symm
      rw [hk] at hcs
      exact hx cs (0, 0) (Option.some.inj hcs)
  have hob : w1.heap[ob]? = some (.cells #[v] 84 (0, 0)) := keep ob _ ho (by intro c fz h; cases h)
  have hset : ∀ (k : Nat) (x : Obj), w1.heap[k]? = some x → k ≠ ob → (w1.setCell ⟨ob, 0, none⟩ v').heap[k]? = some x := fun k x hk hne => by
    rw [Below.heap_setCell _ _ _ _ hne]; exact hk
  have ne : ∀ (k : Nat) (cs : Array Value) (t : TypeId), t ≠ 84 → w.heap[k]? = some (.cells cs t (0, 0)) → k ≠ ob := by
    intro k cs t ht hk e
    subst e
    rw [ho] at hk
    cases hk
    exact ht rfl
  refine ⟨⟨?_, ?_, ?_, v', one_setCell hob, ownsRow_setCell_other hown ?_ v'⟩, ?_, ?_⟩
  · exact hset _ _ (keep _ _ h.coder (by intro c fz h; cases h)) (ne _ _ _ (by decide) h.coder)
  · exact hset _ _ (keep _ _ h.place (by intro c fz h; cases h)) (ne _ _ _ (by decide) h.place)
  · exact hset _ _ (keep _ _ h.err (by intro c fz h; cases h)) (ne _ _ _ (by decide) h.err)
  · intro hc
    rcases hown.2 with ⟨hv, _⟩ | ⟨g, cap, cur, hv, _, hgg, _⟩
    · rw [hv] at hc; cases hc
    · rw [hv] at hc
      simp [Value.ownBlock] at hc
      subst hc
      rw [hob] at hgg
      cases hgg
  · refine Below.setCell (Sl.below_own ((Below.refl B w).alloc hB o) (hr.alloc o) hg (Nat.le_refl _) (by simp; omega)) hBo _
  · intro k x hk h1 h2 h3 h4
    exact hset k x (keep k x hk h4) h1

set_option maxHeartbeats 4000000 in
set_option maxRecDepth 1000000 in
theorem Cd.decode1_any (r p : Int) (ok : Bool) (w : World) (B ob cb ab eb : Nat) (c l m : Int) (xs : List Int) (a e : Int) (h : Cd.St w B ob cb ab eb c l m xs a e) (hlen : xs.length ≤ 1099511627776) (hBo : B ≤ ob) (hBa : B ≤ ab) (hBe : B ≤ eb) :
    Calls Tryz.prog 32 #[.int .i32 r, .bool ok, .int .i64 p, .pointer (some ⟨ob, 0, none⟩), .pointer (some ⟨cb, 0, none⟩), .pointer (some ⟨ab, 0, none⟩), .pointer (some ⟨eb, 0, none⟩)] w fun x w' =>
      x = .returned (.bool (Cd.goS m ok)) ∧ Cd.St w' B ob cb ab eb c l m (Cd.xsS m r ok xs) (Cd.atS m p ok a) (Cd.erS m ok e) ∧ Cd.Kept B ob ab eb w w' := by
  obtain ⟨i0, hi, hz0, hz1, hz2⟩ := info_parts Cd.infoRune
  obtain ⟨v, ho, hr⟩ := h.out
  have hsz := lt_of_block ho
  have hOc := cell_of_one ho
  have hCc : w.cell? ⟨cb, 2, none⟩ = some (.int .i64 m) := by simp [World.cell?, h.coder]
  have hfin : ∀ (u : Int) (w1 : World) (v' : Value), (w1.ownsRow B 21 1 v' (xs.length + 1) (xs.map (Value.int .i32) ++ [.int .i32 u])) → (w.alloc (.cells #[.int .i32 u] 21)).grownBy w1 v.ownBlock →
      (∃ g cap, v' = .slice (some ⟨g, 0, none⟩) (xs.length + 1) cap) ∧ (w1.cell? ⟨ob, 0, none⟩ = some v ∧ w1.frozen? ⟨ob, 0, none⟩ = false) ∧ Cd.St (w1.setCell ⟨ob, 0, none⟩ v') B ob cb ab eb c l m (xs ++ [u]) a e ∧ Cd.Kept B ob ab eb w (w1.setCell ⟨ob, 0, none⟩ v') := by
    intro u w1 v' hown hg
    have hob : w1.heap[ob]? = some (.cells #[v] 84 (0, 0)) := by
      rw [hg.block ob (by simp; omega) ?_, Lib.alloc_old w _ ob hsz]
      · exact ho
      · intro hc
        rcases hr.2 with ⟨hv, _⟩ | ⟨g, cap, cur, hv, _, hgg, _⟩
        · rw [hv] at hc; cases hc
        · rw [hv] at hc
          simp [Value.ownBlock] at hc
          subst hc
          rw [ho] at hgg
          cases hgg
    refine ⟨?_, ⟨cell_of_one hob, free_of_one hob⟩, h.put (by omega) hBo ho hr _ (by simpa using hown) hg⟩
    rcases hown.2 with ⟨_, hv⟩ | ⟨g, cap, cur, hv, _⟩
    · omega
    · exact ⟨g, cap, hv⟩
  have HF := Lib.hid hfin; clear hfin
  have HS := Lib.hid h; 
  cases ok
  · by_cases h0 : m = 0
    · subst h0
      have hA := h.place
      have hE := h.err
      have hne : ab ≠ eb := by intro e; subst e; rw [hA] at hE; cases hE
      have f1 := cell_of_one hA
      have f2 := free_of_one hA
      have hE2 : (w.setCell ⟨ab, 0, none⟩ (.int .i64 p)).heap[eb]? = _ := (Below.heap_setCell w ⟨ab, 0, none⟩ (.int .i64 p) eb (fun e => hne e.symm)).trans hE
      have f3 := cell_of_one hE2
      have f4 := free_of_one hE2
      have hst : Cd.St ((w.setCell ⟨ab, 0, none⟩ (.int .i64 p)).setCell ⟨eb, 0, none⟩ (.int .i64 6)) B ob cb ab eb c l 0 xs p 6 ∧ Cd.Kept B ob ab eb w ((w.setCell ⟨ab, 0, none⟩ (.int .i64 p)).setCell ⟨eb, 0, none⟩ (.int .i64 6)) := by
        have oth : ∀ (k : Nat) (x : Obj), w.heap[k]? = some x → k ≠ ab → k ≠ eb → ((w.setCell ⟨ab, 0, none⟩ (.int .i64 p)).setCell ⟨eb, 0, none⟩ (.int .i64 6)).heap[k]? = some x := fun k x hk h1 h2 => by
          rw [Below.heap_setCell _ _ _ _ h2, Below.heap_setCell _ _ _ _ h1]; exact hk
        have ne : ∀ (k : Nat) (cs : Array Value) (t : TypeId), t ≠ 3 → t ≠ 24 → w.heap[k]? = some (.cells cs t (0, 0)) → k ≠ ab ∧ k ≠ eb := by
          intro k cs t ht ht2 hk
          constructor
          · intro e; subst e; rw [hA] at hk; cases hk; exact ht rfl
          · intro e; subst e; rw [hE] at hk; cases hk; exact ht2 rfl
        refine ⟨⟨?_, ?_, one_setCell hE2, v, ?_, ?_⟩, ?_, ?_⟩
        · exact oth _ _ h.coder (ne _ _ _ (by decide) (by decide) h.coder).1 (ne _ _ _ (by decide) (by decide) h.coder).2
        · rw [Below.heap_setCell _ _ _ _ hne]; exact one_setCell hA
        · exact oth _ _ ho (ne _ _ _ (by decide) (by decide) ho).1 (ne _ _ _ (by decide) (by decide) ho).2
        · have hob : v.ownBlock ≠ some ab ∧ v.ownBlock ≠ some eb := by
            rcases hr.2 with ⟨hv, _⟩ | ⟨g, cap, cur, hv, _, hgg, _⟩
            · rw [hv]; exact ⟨(by intro h; cases h), (by intro h; cases h)⟩
            · rw [hv]
              have := ne g _ _ (by decide) (by decide) hgg
              simp only [Value.ownBlock]
              exact ⟨fun h => this.1 (by simpa using h), fun h => this.2 (by simpa using h)⟩
          exact ownsRow_setCell_other (ownsRow_setCell_other hr hob.1 _) hob.2 _
        · exact ((Below.refl B w).setCell hBa _).setCell hBe _
        · exact fun k x hk _ h2 h3 _ => oth k x hk h2 h3
      have HS2 := Lib.hid hst; clear hst
      clear h hA hE hE2
      show Calls _ _ _ _ fun x w' => x = .returned (.bool false) ∧ Cd.St w' B ob cb ab eb c l 0 xs p 6 ∧ Cd.Kept B ob ab eb w w'
      go_enter Tryz.func32, Tryz.ntmps32
      go_wp2
      go_ret
      exact ⟨rfl, HS2.out⟩
    by_cases h1 : m = 1
    · subst h1
      show Calls _ _ _ _ fun x w' => x = .returned (.bool true) ∧ Cd.St w' B ob cb ab eb c l 1 (xs ++ [65533]) a e ∧ Cd.Kept B ob ab eb w w'
      clear h
      go_enter Tryz.func32, Tryz.ntmps32
      go_wp2_with (at_builtin; refine wpList_append_own _ rfl _ _ 84 rfl B 21 i0 (.int .i32 0) 1 4 Tryz.underlying84 hi hz0 hz1 hz2 rfl (by decide) _ _ _ rfl (hr.alloc _) ⟨w.heap.size, 0, none⟩ 1 1 [.int .i32 65533] rfl rfl (Sl.one_new _ _ _) ?c2 ?c3 ?c4 ?c5 ?_)
      case c2 => first | rfl | (intro u hu; simp at hu; subst hu; rfl)
      case c3 => unfold maxLen; omega
      case c4 => omega
      case c5 => simp; omega
      intro v' w1 hown' hgrow _
      obtain ⟨⟨g, cap, rfl⟩, ⟨k1, k2⟩, k3, k4⟩ := HF.out _ w1 v' hown' hgrow
      clear hown' hgrow
      have K3 := Lib.hid k3; clear k3
      have K4 := Lib.hid k4; clear k4
      go_wp2
      go_ret
      exact ⟨rfl, K3.out, K4.out⟩
    have e1 : Cd.xsS m r false xs = xs := by unfold Cd.xsS; rw [if_neg (by decide), if_neg h0, if_neg h1]
    have e2 : Cd.atS m p false a = a := by unfold Cd.atS; rw [if_neg (by decide), if_neg h0]
    have e3 : Cd.erS m false e = e := by unfold Cd.erS; rw [if_neg (by decide), if_neg h0]
    have e4 : Cd.goS m false = true := by simp [Cd.goS, h0]
    rw [e1, e2, e3, e4]
    clear h
    go_enter Tryz.func32, Tryz.ntmps32
    go_wp2
    go_ret
    exact ⟨rfl, HS.out, Cd.Kept.refl _ _ _ _ _⟩
  · show Calls _ _ _ _ fun x w' => x = .returned (.bool true) ∧ Cd.St w' B ob cb ab eb c l m (xs ++ [r]) a e ∧ Cd.Kept B ob ab eb w w'
    clear h
    go_enter Tryz.func32, Tryz.ntmps32
    go_wp2_with (at_builtin; refine wpList_append_own _ rfl _ _ 84 rfl B 21 i0 (.int .i32 0) 1 4 Tryz.underlying84 hi hz0 hz1 hz2 rfl (by decide) _ _ _ rfl (hr.alloc _) ⟨w.heap.size, 0, none⟩ 1 1 [.int .i32 r] rfl rfl (Sl.one_new _ _ _) ?c2 ?c3 ?c4 ?c5 ?_)
    case c2 => first | rfl | (intro u hu; simp at hu; subst hu; rfl)
    case c3 => unfold maxLen; omega
    case c4 => omega
    case c5 => simp; omega
    intro v' w1 hown' hgrow _
    obtain ⟨⟨g, cap, rfl⟩, ⟨k1, k2⟩, k3, k4⟩ := HF.out _ w1 v' hown' hgrow
    clear hown' hgrow
    have K3 := Lib.hid k3; clear k3
    have K4 := Lib.hid k4; clear k4
    go_wp2
    go_ret
    exact ⟨rfl, K3.out, K4.out⟩
end Go.Proofs.YtpjnamlcchjlcaaGreatDoor
