/-
  nat.Trim, norm, Sound, Of; slices.Clone of words.
  Which data are sound: plain law.
  What the reader of data reads, in plain Lean: by the bytes that are left.
  What exact.Read reads, in plain Lean.
  bits.Add32, bits.Sub32.
  nat.Plus, nat.Less of numbers.
-/
import Derived.Test.YtaepjlghdjcdnaaDoorProg
import Derived.WalkSpells
import Derived.WalkLawsBesides
import Derived.Handy
import Derived.Laws.MakeOwn
import Derived.Lib.SliceRun
import Derived.Lib.ValidU
import Derived.BigQuiet
import Derived.Deep.DeepCutAuto
import Derived.Test.YtaepjlghdjcdnaaDoorBa
namespace Go.Proofs.YtaepjlghdjcdnaaDoor
open Go.RowKit
set_option linter.unusedVariables false
set_option linter.unusedSimpArgs false

theorem Nt.infoWord : (Tryd.prog.info? 82).map (fun i => (i.zero, i.size, i.bytes)) = some (some (.int .u32 0), 1, 4) := by kernel_rfl
theorem Nt.In.of_own {w : World} {B : Nat} {t : TypeId} {v : Value} {ws : List Nat} (h : w.ownsRow B t 1 v ws.length (ws.map fun (x : Nat) => Value.int .u32 (x : Int))) : Nt.In w v ws := by
  rcases h.2 with ⟨hv, h0⟩ | ⟨g, cap, cur, rfl, hB, hg, hn, _⟩
  · have : ws = [] := List.eq_nil_of_length_eq_zero h0
    subst this
    exact .inl ⟨hv, rfl⟩
  · rcases Nat.eq_zero_or_pos ws.length with h0 | h0
    · have : ws = [] := List.eq_nil_of_length_eq_zero h0
      subst this
      exact .inr (.inl ⟨_, cap, rfl, rfl⟩)
    · refine .inr (.inr ⟨h0, g, 0, cap, rfl, hn, (Array.getElem?_eq_some_iff.1 hg).1, fun j hj => ?_⟩)
      have := h.cells (g := g) rfl j (.int .u32 (ws.getD j 0 : Nat)) (by rw [List.getD_eq_getElem?_getD, List.getElem?_map, List.getElem?_eq_getElem hj]; rfl)
      rwa [Sl.addr_add] at this

set_option maxHeartbeats 4000000 in
set_option maxRecDepth 1000000 in
theorem Nt.Trim_same (ws : List Nat) (v : Value) (w : World) (h : Nt.In w v ws) (hw : Nt.Wd ws) (hl : ws.length ≤ 4611686018427387904) : Calls Tryd.prog 86 #[v] w fun e w' => e = .returned (.int .i64 ((Nt.dig (Nt.val ws)).length : Nat)) ∧ w = w' := by
  obtain ⟨ad, cap, rfl⟩ := h.slice
  have H := Lib.hid h
  have HW := Lib.hid hw
  clear h hw
  go_enter Tryd.func86, Tryd.ntmps86
  go_wp2_with fail
  go_loopw [3] (fun i wr => wr = w ∧ ∃ n : Nat, i = .int .i64 n ∧ n ≤ ws.length ∧ ∀ j, n ≤ j → j < ws.length → ws.getD j 0 = 0) (fun i _ => (intOf i).toNat)
  case atStart => exact ⟨rfl, ws.length, rfl, Nat.le_refl _, fun j h1 h2 => by omega⟩
  case round =>
    obtain ⟨hwr, n, rfl, hn, hz⟩ := hrel
    subst hwr
    have HZ := Lib.hid hz
    clear hz
    have fin : (n = 0 ∨ ws.getD (n - 1) 0 ≠ 0) → (Nt.dig (Nt.val ws)).length = n := fun ht => by
      rw [← Nt.dig_of HW.out hn HZ.out ht, List.length_take]; omega
    have FIN := Lib.hid fin
    clear fin
    rcases n with _ | n
    · have hr := FIN.out (.inl rfl)
      go_wp2_with fail
      go_ret
      exact ⟨by first | rfl | (rw [hr]; rfl), rfl⟩
    · obtain ⟨b, off, rfl, _, hcap, hbl, hcell⟩ := H.out.at (by omega)
      have c0 := hcell n (by omega)
      clear hcell
      by_cases hx : ws.getD n 0 = 0
      · rw [hx] at c0
        have HX := Lib.hid hx
        clear hx
        go_wp2_with fail
        go_roundw
        case rel =>
          refine ⟨by first | rfl | trivial, n, by first | rfl | go_num | (simp; try omega), by omega, fun j h1 h2 => ?_⟩
          rcases Nat.lt_or_ge n j with h | h
          · exact HZ.out j (by omega) h2
          · obtain rfl : j = n := by omega
            exact HX.out
        case measure => simp [intOf]
      · have hr := FIN.out (.inr hx)
        have hx0 : ((ws.getD n 0 : Nat) == (0 : Int)) = false := by simp; exact hx
        generalize ws.getD n 0 = x at *
        clear hx
        go_wp2_with fail
        go_ret
        exact ⟨by first | rfl | (rw [hr]; rfl), rfl⟩
theorem Nt.Trim_any (ws : List Nat) (v : Value) (w : World) (h : Nt.In w v ws) (hw : Nt.Wd ws) (hl : ws.length ≤ 4611686018427387904) : Calls Tryd.prog 86 #[v] w fun e w' => e = .returned (.int .i64 ((Nt.dig (Nt.val ws)).length : Nat)) ∧ Below w.heap.size w w' :=
  (Nt.Trim_same ws v w h hw hl).mono fun _ _ ⟨he, hw⟩ => ⟨he, hw ▸ Below.refl _ _⟩
set_option maxHeartbeats 4000000 in
set_option maxRecDepth 1000000 in
theorem Nt.norm_same (ws : List Nat) (ad : Option Addr) (cap : Nat) (w : World) (h : Nt.In w (.slice ad ws.length cap) ws) (hw : Nt.Wd ws) (hl : ws.length ≤ 4611686018427387904) : Calls Tryd.prog 92 #[.slice ad ws.length cap] w fun e w' => e = .returned (.slice ad (Nt.dig (Nt.val ws)).length cap) ∧ w = w' := by
  have KT := fun w h => Nt.Trim_same ws (.slice ad ws.length cap) w h hw hl
  have H := Lib.hid h
  have hcap := h.cap.2
  obtain ⟨n, hn⟩ : ∃ n, (Nt.dig (Nt.val ws)).length = n := ⟨_, rfl⟩
  rw [hn] at KT
  have hnl : n ≤ ws.length := hn ▸ (Nt.take_dig hw).1
  have h1 : (0 : Int) ≤ (n : Int) := by omega
  have h2 : (n : Int) ≤ (cap : Int) := by omega
  have HN := Lib.hid hn
  clear h hn
  go_enter Tryd.func92, Tryd.ntmps92
  go_wp2_with fail
  refine (KT _ H.out).mono ?_
  rintro x w1 ⟨rfl, hw1⟩
  subst hw1
  go_wp2_with fail
  go_ret
  exact ⟨by rw [HN.out]; rfl, rfl⟩
theorem Nt.norm_eq (ws : List Nat) (ad : Option Addr) (cap : Nat) (w : World) (h : Nt.In w (.slice ad ws.length cap) ws) (hw : Nt.Wd ws) (hl : ws.length ≤ 4611686018427387904) : Calls Tryd.prog 92 #[.slice ad ws.length cap] w fun e w' => e = .returned (.slice ad (Nt.dig (Nt.val ws)).length cap) ∧ Below w.heap.size w w' :=
  (Nt.norm_same ws ad cap w h hw hl).mono fun _ _ ⟨he, hw⟩ => ⟨he, hw ▸ Below.refl _ _⟩
theorem Nt.norm_any (ws : List Nat) (v : Value) (w : World) (h : Nt.In w v ws) (hw : Nt.Wd ws) (hl : ws.length ≤ 4611686018427387904) : Calls Tryd.prog 92 #[v] w fun e w' => ∃ v', e = .returned v' ∧ Nt.N w' v' (Nt.val ws) ∧ Below w.heap.size w w' := by
  obtain ⟨ad, cap, rfl⟩ := h.slice
  refine (Nt.norm_eq ws ad cap w h hw hl).mono fun e w' ⟨he, hb⟩ => ⟨_, he, ?_, hb⟩
  unfold Nt.N
  have := (h.below hb (Nat.le_refl _)).takeN _ (Nt.take_dig hw).1
  rwa [(Nt.take_dig hw).2] at this
/-- The cells of words. -/
def Nt.vs (ws : List Nat) : List Value := ws.map fun (x : Nat) => Value.int .u32 (x : Int)
theorem Nt.norm_own (ws : List Nat) (v : Value) (w : World) {B : Nat} {t : TypeId} (h : w.ownsRow B t 1 v ws.length (Nt.vs ws)) (hw : Nt.Wd ws) (hl : ws.length ≤ 4611686018427387904) : Calls Tryd.prog 92 #[v] w fun e w' => ∃ v', e = .returned v' ∧ w'.ownsRow B t 1 v' (Nt.dig (Nt.val ws)).length (Nt.vs (Nt.dig (Nt.val ws))) ∧ Below w.heap.size w w' := by
  have hin := Nt.In.of_own h
  obtain ⟨ad, cap, rfl⟩ := hin.slice
  refine (Nt.norm_eq ws ad cap w hin hw hl).mono fun e w' ⟨he, hb⟩ => ⟨_, he, ?_, hb⟩
  have h' := Sl.own_below h hb (Nat.le_refl _)
  obtain ⟨h1, h2⟩ := Nt.take_dig hw
  generalize Nt.dig (Nt.val ws) = ds at *
  refine ⟨by simp [Nt.vs], ?_⟩
  rcases h'.2 with ⟨hv, h0⟩ | ⟨g, c, cur, hv, hB, hg, hn, hm, hs, ht⟩
  · have : ds.length = 0 := by omega
    simp only [Value.slice.injEq] at hv
    exact .inl ⟨by rw [hv.1, hv.2.2, this], this⟩
  · simp only [Value.slice.injEq] at hv
    obtain ⟨rfl, _, rfl⟩ := hv
    refine .inr ⟨g, cap, cur, rfl, hB, hg, by omega, hm, hs, ?_⟩
    have e : cur.toList.take (ds.length * 1) = (cur.toList.take (ws.length * 1)).take ds.length := by
      rw [List.take_take, Nat.min_eq_left (by omega), Nat.mul_one]
    rw [e, ht, ← h2]
    simp [Nt.vs, List.map_take]

def Nt.sound (ws : List Nat) : Bool := decide (ws.length ≤ 512) && decide ((Nt.dig (Nt.val ws)).length = ws.length)
theorem Nt.sound_dig (n : Nat) : Nt.sound (Nt.dig n) = decide ((Nt.dig n).length ≤ 512) := by
  unfold Nt.sound
  rw [Nt.val_dig]
  simp
theorem Nt.sound_eq {ws : List Nat} (hw : Nt.Wd ws) (h : Nt.sound ws = true) : ws = Nt.dig (Nt.val ws) ∧ ws.length ≤ 512 := by
  unfold Nt.sound at h
  simp only [Bool.and_eq_true, decide_eq_true_eq] at h
  have := (Nt.take_dig hw).2
  rw [h.2, List.take_length] at this
  exact ⟨this, h.1⟩
set_option maxHeartbeats 4000000 in
set_option maxRecDepth 1000000 in
theorem Nt.Sound_any (ws : List Nat) (v : Value) (w : World) (h : Nt.In w v ws) (hw : Nt.Wd ws) (hl : ws.length ≤ 4611686018427387904) : Calls Tryd.prog 79 #[v] w fun e w' => e = .returned (.bool (Nt.sound ws)) ∧ Below w.heap.size w w' := by
  have KT := fun w h => Nt.Trim_any ws v w h hw hl
  obtain ⟨ad, cap, rfl⟩ := h.slice
  have H := Lib.hid h
  clear h
  have hs : Nt.sound ws = (decide (ws.length ≤ 512) && decide ((Nt.dig (Nt.val ws)).length = ws.length)) := rfl
  rw [hs]
  generalize (Nt.dig (Nt.val ws)).length = n at *
  clear hs hw hl
  by_cases h1 : ws.length ≤ 512
  · have h1I : (ws.length : Int) ≤ 512 := by omega
    rw [decide_eq_true h1]
    go_enter Tryd.func79, Tryd.ntmps79
    go_wp2_with fail
    refine (KT _ H.out).mono ?_
    rintro x w1 ⟨rfl, hb1⟩
    have HB1 := Lib.hid hb1
    clear hb1
    by_cases h2 : n = ws.length
    · subst h2
      go_wp2_with fail
      go_ret
      exact ⟨by simp, HB1.out⟩
    · have h2I : ((n : Int) == (ws.length : Int)) = false := by simp; omega
      go_wp2_with fail
      go_ret
      exact ⟨by simp [h2], HB1.out⟩
  · have h1I : ¬ (ws.length : Int) ≤ 512 := by omega
    rw [decide_eq_false h1]
    go_enter Tryd.func79, Tryd.ntmps79
    go_wp2_with fail
    go_ret
    exact ⟨by simp, Below.refl _ _⟩
set_option maxHeartbeats 4000000 in
set_option maxRecDepth 1000000 in
theorem Nt.Clone_own (ws : List Nat) (v : Value) (w : World) (h : Nt.In w v ws) (hl : ws.length ≤ 1000000) : Calls Tryd.prog 84 #[v] w fun e w' => ∃ v', e = .returned v' ∧ w'.ownsRow w.heap.size 82 1 v' ws.length (ws.map fun (x : Nat) => Value.int .u32 (x : Int)) ∧ Below w.heap.size w w' := by
  obtain ⟨i0, hi0, hz0, hz1, hz2⟩ := info_parts Nt.infoWord
  have q22 : ∀ (w : World) (a : Option Addr) (n c n' c' : Nat), (binOp .eql 24 (.slice a n c) (.slice none n' c')).run Tryd.prog w = .ok (.bool a.isNone) w := fun w a n c n' c' => Lib.run_eql_slice_nil w _ _ a n c n' c' Tryd.underlying24
  rcases id h with ⟨rfl, rfl⟩ | ⟨a, cap, rfl, rfl⟩ | ⟨h0, b, off, cap, rfl, hc, hbl, hcell⟩
  · clear h
    go_enter Tryd.func84, Tryd.ntmps84
    go_wp2_with fail
    go_ret
    exact ⟨_, rfl, ⟨by simp, .inl ⟨rfl, rfl⟩⟩, Below.refl _ _⟩
  · clear h
    have hb1 : Below w.heap.size w (w.alloc (.cells #[] 82)) := (Below.refl _ _).alloc (Nat.le_refl _) _
    have hown := Sl.own_empty w 82
    have HB1 := Lib.hid hb1
    go_enter Tryd.func84, Tryd.ntmps84
    go_wp2_with (at_builtin; refine wpList_append_own _ rfl _ _ 24 rfl w.heap.size 82 i0 (.int .u32 0) 1 4 Tryd.underlying24 hi0 hz0 hz1 hz2 rfl (by decide) _ 0 _ rfl hown a 0 cap [] rfl rfl (fun j u hj => by simp at hj) (fun u hu => by cases hu) (by decide) (by decide) ?c4 ?_)
    case c4 => exact HB1.out.size
    intro v9 w9 hown9 hgr9 _
    have HB9 := Lib.hid (HB1.out.grown hgr9 HB1.out.size (fun k hk => (hown.lt k hk).1))
    have HO9 := Lib.hid hown9
    clear hown9 hgr9 hown hb1
    go_wp2_with fail
    go_ret
    exact ⟨_, rfl, HO9.out, HB9.out⟩
  · clear h
    have hb1 : Below w.heap.size w (w.alloc (.cells #[] 82)) := (Below.refl _ _).alloc (Nat.le_refl _) _
    have hown := Sl.own_empty w 82
    have HB1 := Lib.hid hb1
    have hnews : ∀ j u, (ws.map fun (x : Nat) => Value.int .u32 (x : Int))[j]? = some u → (w.alloc (.cells #[] 82)).cell? ((⟨b, off, none⟩ : Addr).add j) = some u := by
      intro j u hj
      have hjl : j < ws.length := by simpa using (List.getElem?_eq_some_iff.1 hj).1
      rw [Sl.addr_add]
      refine (hb1.cell (p := ⟨b, off + j, none⟩) hbl).trans ((hcell j hjl).trans ?_)
      rw [← hj, List.getD_eq_getElem?_getD, List.getElem?_map, List.getElem?_eq_getElem hjl]
      rfl
    have hl2 : (ws.map fun (x : Nat) => Value.int .u32 (x : Int)).length = ws.length * 1 := by simp
    have h1c : ∀ u ∈ (ws.map fun (x : Nat) => Value.int .u32 (x : Int)), u.oneCell' = true := by
      intro u hu
      obtain ⟨x, _, rfl⟩ := List.mem_map.1 hu
      rfl
    have HNE := Lib.hid hnews
    have HL2 := Lib.hid hl2
    have H1C := Lib.hid h1c
    have hne : ws ≠ [] := by intro e; subst e; simp at h0
    clear hnews hl2 h1c hcell
    go_enter Tryd.func84, Tryd.ntmps84
    go_wp2_with (at_builtin; refine wpList_append_own _ rfl _ _ 24 rfl w.heap.size 82 i0 (.int .u32 0) 1 4 Tryd.underlying24 hi0 hz0 hz1 hz2 rfl (by decide) _ 0 _ rfl hown ⟨b, off, none⟩ ws.length cap (ws.map fun (x : Nat) => Value.int .u32 (x : Int)) rfl HL2.out HNE.out H1C.out ?c2 ?c3 ?c4 ?_)
    case c2 => unfold maxLen; omega
    case c3 => omega
    case c4 => exact HB1.out.size
    intro v9 w9 hown9 hgr9 _
    have HB9 := Lib.hid (HB1.out.grown hgr9 HB1.out.size (fun k hk => (hown.lt k hk).1))
    try rw [Nat.zero_add, List.nil_append] at hown9
    have HO9 := Lib.hid hown9
    clear hown9 hgr9 hown hb1
    go_wp2_with fail
    go_ret
    exact ⟨_, rfl, HO9.out, HB9.out⟩
theorem Nt.Clone_any (ws : List Nat) (v : Value) (w : World) (h : Nt.In w v ws) (hl : ws.length ≤ 1000000) : Calls Tryd.prog 84 #[v] w fun e w' => ∃ v', e = .returned v' ∧ Nt.In w' v' ws ∧ Below w.heap.size w w' :=
  (Nt.Clone_own ws v w h hl).mono fun _ _ ⟨v', he, ho, hb⟩ => ⟨v', he, Nt.In.of_own ho, hb⟩
end Go.Proofs.YtaepjlghdjcdnaaDoor
namespace Go.Proofs.YtaepjlghdjcdnaaDoor
set_option linter.unusedVariables false

/-- Is it a fraction? -/
def Rt.sound (s : Bool) (t b : List Nat) : Bool := Nt.sound t && Nt.sound b && decide (b.length ≠ 0) && !(decide (t.length = 0) && s) && decide (Nat.gcd (Nt.val t) (Nt.val b) = 1)
/-- Is it a fraction without words? -/
def Rt.noRat (s : Bool) (t b : List Nat) : Bool := !s && decide (t.length = 0) && decide (b.length = 0)
/-- The number of a node. -/
def Tr.Hd.num (h : Tr.Hd) : Bool := if h.k = 3 then Rt.sound h.s1 h.t1 h.b1 && Rt.sound h.s2 h.t2 h.b2 else Rt.noRat h.s1 h.t1 h.b1 && Rt.noRat h.s2 h.t2 h.b2
def Tr.isText (k : Int) : Bool := decide (k = 5) || decide (k = 6) || decide (k = 11)
def Tr.isChar (n : Int) : Bool := decide (0 ≤ n) && decide (n ≤ 55295) || decide (57344 ≤ n) && decide (n ≤ 1114111)
/-- What the kind asks of the number and of the list's length. -/
def Tr.own (k n : Int) (l : Nat) : Bool :=
  if k = 8 then decide (n = 0) && decide (l = 2) else if k = 9 then decide (n = 0) else if k = 2 then (decide (n = 0) || decide (n = 1)) && decide (l = 0)
  else if k = 4 then Tr.isChar n && decide (l = 0) else decide (1 ≤ k) && decide (k ≤ 11) && decide (n = 0) && decide (l = 0)
/-- Is a node sound by its kind, but for its list's data? -/
def Tr.Hd.shape (h : Tr.Hd) (l : Nat) : Bool :=
  h.num && (Tr.isText h.k || decide (h.x.size = 0)) && Lib.validD h.x.data.toList && (decide (h.k = 7) || decide (h.raw.size = 0)) && Tr.own h.k h.n l
theorem Tr.own_pair {n : Int} {l : Nat} (h : Tr.own 8 n l = true) : l = 2 := by
  simp [Tr.own] at h; exact h.2
theorem Tr.Hd.shape_pair {h : Tr.Hd} {l : Nat} (hs : h.shape l = true) (hk : h.k = 8) : l = 2 := by
  unfold Tr.Hd.shape at hs
  simp only [Bool.and_eq_true] at hs
  have := hs.2
  rw [hk] at this
  exact Tr.own_pair this
mutual
/-- How many nodes a datum has. -/
def Tr.size : Tr → Nat
  | .mk _ l => 1 + Tr.sizeL l
def Tr.sizeL : List Tr → Nat
  | [] => 0
  | t :: ts => Tr.size t + Tr.sizeL ts
end
theorem Tr.size_mk (h : Tr.Hd) (l : List Tr) : Tr.size (.mk h l) = 1 + Tr.sizeL l := by rw [Tr.size]
theorem Tr.sizeL_nil : Tr.sizeL [] = 0 := by rw [Tr.sizeL]
theorem Tr.sizeL_cons (t : Tr) (ts : List Tr) : Tr.sizeL (t :: ts) = Tr.size t + Tr.sizeL ts := by rw [Tr.sizeL]
theorem Tr.size_pos (t : Tr) : 0 < Tr.size t := by cases t; rw [Tr.size_mk]; omega
theorem Tr.size_at : ∀ (l : List Tr) (k : Nat) (t : Tr), l[k]? = some t → Tr.size t ≤ Tr.sizeL l
  | [], k, t, h => by simp at h
  | x :: ts, 0, t, h => by
    obtain rfl : x = t := by simpa using h
    rw [Tr.sizeL_cons]; omega
  | x :: ts, k + 1, t, h => by
    have := Tr.size_at ts k t (by simpa using h)
    rw [Tr.sizeL_cons]; omega
theorem Tr.size_lt {t u : Tr} {k : Nat} (h : t.li[k]? = some u) : Tr.size u < Tr.size t := by
  have := Tr.size_at t.li k u h
  cases t with
  | mk hd l => rw [Tr.size_mk]; simp only [Tr.li] at this; omega
mutual
/-- sound: d deep, so many nodes are left: is it, and how many are left then. -/
def Tr.snd : Tr → Nat → Int → Bool × Int
  | .mk h l, d, left =>
    if left - 1 < 0 ∨ 200 < d ∨ h.shape l.length = false then (false, left - 1)
    else if h.k = 8 then
      match l with
      | [a, b] => if (Tr.snd a (d + 1) (left - 1)).1 = true then Tr.snd b d (Tr.snd a (d + 1) (left - 1)).2 else (false, (Tr.snd a (d + 1) (left - 1)).2)
      | _ => (true, left - 1)
    else Tr.sndL l (d + 1) (left - 1)
/-- Data one behind the other. -/
def Tr.sndL : List Tr → Nat → Int → Bool × Int
  | [], _, left => (true, left)
  | t :: ts, d, left => if (Tr.snd t d left).1 = true then Tr.sndL ts d (Tr.snd t d left).2 else (false, (Tr.snd t d left).2)
end
theorem Tr.snd_bad {h : Tr.Hd} {l : List Tr} {d : Nat} {left : Int} (hb : left - 1 < 0 ∨ 200 < d ∨ h.shape l.length = false) : Tr.snd (.mk h l) d left = (false, left - 1) := by
  rw [Tr.snd.eq_def]; simp only; rw [if_pos hb]
theorem Tr.snd_pair {h : Tr.Hd} {a b : Tr} {d : Nat} {left : Int} (hb : ¬ (left - 1 < 0 ∨ 200 < d ∨ h.shape 2 = false)) (hk : h.k = 8) : Tr.snd (.mk h [a, b]) d left = if (Tr.snd a (d + 1) (left - 1)).1 = true then Tr.snd b d (Tr.snd a (d + 1) (left - 1)).2 else (false, (Tr.snd a (d + 1) (left - 1)).2) := by
  rw [Tr.snd.eq_def]; simp only [List.length_cons, List.length_nil]; rw [if_neg hb, if_pos hk]
theorem Tr.snd_list {h : Tr.Hd} {l : List Tr} {d : Nat} {left : Int} (hb : ¬ (left - 1 < 0 ∨ 200 < d ∨ h.shape l.length = false)) (hk : h.k ≠ 8) : Tr.snd (.mk h l) d left = Tr.sndL l (d + 1) (left - 1) := by
  rw [Tr.snd.eq_def]; simp only; rw [if_neg hb, if_neg hk]
theorem Tr.sndL_nil {d : Nat} {left : Int} : Tr.sndL [] d left = (true, left) := by rw [Tr.sndL]
theorem Tr.sndL_cons {t : Tr} {ts : List Tr} {d : Nat} {left : Int} : Tr.sndL (t :: ts) d left = if (Tr.snd t d left).1 = true then Tr.sndL ts d (Tr.snd t d left).2 else (false, (Tr.snd t d left).2) := by rw [Tr.sndL]
mutual
/-- The nodes that are left only become fewer. -/
theorem Tr.snd_le : ∀ (t : Tr) (d : Nat) (left : Int), -1 ≤ left → (Tr.snd t d left).2 ≤ left ∧ ((Tr.snd t d left).1 = true → 0 ≤ (Tr.snd t d left).2)
  | .mk h l, d, left, h0 => by
    by_cases hb : left - 1 < 0 ∨ 200 < d ∨ h.shape l.length = false
    · rw [Tr.snd_bad hb]; exact ⟨by show left - 1 ≤ left; omega, fun h => by cases h⟩
    · have hb2 : 0 ≤ left - 1 := by
        rcases Int.lt_or_le (left - 1) 0 with h | h
        · exact absurd (Or.inl h) hb
        · exact h
      by_cases hk : h.k = 8
      · have hs : h.shape l.length = true := by
          cases e : h.shape l.length with
          | true => rfl
          | false => exact absurd (Or.inr (Or.inr e)) hb
        have hl := Tr.Hd.shape_pair hs hk
        match l, hl with
        | [a, b], _ =>
          rw [Tr.snd_pair hb hk]
          have ha := Tr.snd_le a (d + 1) (left - 1) (by omega)
          split
          · rename_i h1
            have h2 := ha.2 h1
            have hb' := Tr.snd_le b d _ (by omega : -1 ≤ (Tr.snd a (d + 1) (left - 1)).2)
            exact ⟨by omega, hb'.2⟩
          · exact ⟨by show (Tr.snd a (d + 1) (left - 1)).2 ≤ left; omega, fun h => by cases h⟩
      · rw [Tr.snd_list hb hk]
        have := Tr.sndL_le l (d + 1) (left - 1) hb2
        exact ⟨by omega, this.2⟩
theorem Tr.sndL_le : ∀ (l : List Tr) (d : Nat) (left : Int), 0 ≤ left → (Tr.sndL l d left).2 ≤ left ∧ ((Tr.sndL l d left).1 = true → 0 ≤ (Tr.sndL l d left).2)
  | [], d, left, h0 => by rw [Tr.sndL_nil]; exact ⟨Int.le_refl _, fun _ => h0⟩
  | t :: ts, d, left, h0 => by
    rw [Tr.sndL_cons]
    have ht := Tr.snd_le t d left (by omega)
    split
    · rename_i h1
      have h2 := ht.2 h1
      have hs := Tr.sndL_le ts d _ h2
      exact ⟨by omega, hs.2⟩
    · exact ⟨ht.1, fun h => by cases h⟩
end
/-- Is it a datum? -/
def Tr.sound (t : Tr) : Bool := (Tr.snd t 1 20000).1
end Go.Proofs.YtaepjlghdjcdnaaDoor
namespace Go.Proofs.YtaepjlghdjcdnaaDoor
open Go.RowKit
set_option linter.unusedVariables false

/-- The next character, and its length; a bad byte. -/
def Dr.cp (l : List UInt8) : Int := ((Lib.decodeL l).1 : Int)
def Dr.wd (l : List UInt8) : Nat := (Lib.decodeL l).2
def Dr.bad (l : List UInt8) : Bool := decide (Dr.cp l = 65533) && decide (Dr.wd l = 1)
theorem Dr.wd_pos {l : List UInt8} (h : l ≠ []) : 1 ≤ Dr.wd l := Ru.width_pos l h
theorem Dr.wd_le {l : List UInt8} (h : l ≠ []) : Dr.wd l ≤ l.length := Ru.width_le l h
theorem Dr.drop_lt {l : List UInt8} (h : l ≠ []) : (l.drop (Dr.wd l)).length < l.length := by
  have := Dr.wd_pos h
  have := List.length_pos_iff.2 h
  rw [List.length_drop]
  omega
/-- A character that is read; none: the text is at fault. -/
def Dr.next (l : List UInt8) : Option (Int × List UInt8) := if l = [] then none else if Dr.bad l = true then none else some (Dr.cp l, l.drop (Dr.wd l))
theorem Dr.next_lt {l r : List UInt8} {c : Int} (h : Dr.next l = some (c, r)) : r.length < l.length := by
  unfold Dr.next at h
  split at h
  · cases h
  · rename_i hn
    split at h
    · cases h
    · simp only [Option.some.injEq, Prod.mk.injEq] at h
      rw [← h.2]
      exact Dr.drop_lt hn
/-- Does a line end here? -/
def Dr.lineC (c : Int) : Bool := decide (c = 10) || decide (c = 13) || decide (c = 133) || decide (c = 8232)
/-- Behind a line's rest. -/
def Dr.line (l : List UInt8) : Option (List UInt8) :=
  if h : l = [] then some l else if Dr.bad l = true then none else if Dr.lineC (Dr.cp l) = true then some l else Dr.line (l.drop (Dr.wd l))
termination_by l.length
decreasing_by exact Dr.drop_lt h
/-- Behind a remark of so many levels. -/
def Dr.remark (d : Nat) (l : List UInt8) : Option (List UInt8) :=
  if h1 : l.take 2 = [35, 124] then Dr.remark (d + 1) (l.drop 2) else if h2 : l.take 2 = [124, 35] then (if d = 1 then some (l.drop 2) else Dr.remark (d - 1) (l.drop 2))
  else if h : l = [] then none else if Dr.bad l = true then none else Dr.remark d (l.drop (Dr.wd l))
termination_by l.length
decreasing_by
  · rw [List.length_drop]; have := congrArg List.length h1; simp at this; omega
  · rw [List.length_drop]; have := congrArg List.length h2; simp at this; omega
  · exact Dr.drop_lt h
def Dr.hexB (b : UInt8) : Bool := (decide (48 ≤ b.toNat) && decide (b.toNat ≤ 57)) || (decide (97 ≤ b.toNat) && decide (b.toNat ≤ 102)) || (decide (65 ≤ b.toNat) && decide (b.toNat ≤ 70))
def Dr.semi : List UInt8 → List UInt8
  | [] => []
  | b :: r => if b = 59 then r else b :: r
/-- Behind a backslash: a character, digits, a semicolon. -/
def Dr.digits (l : List UInt8) : Option (List UInt8) := (Dr.next l).map fun x => Dr.semi (x.2.dropWhile Dr.hexB)
theorem Dr.dropWhile_le (p : UInt8 → Bool) : ∀ (l : List UInt8), (l.dropWhile p).length ≤ l.length
  | [] => Nat.le_refl _
  | b :: r => by
    rw [List.dropWhile_cons]
    split
    · have := Dr.dropWhile_le p r
      rw [List.length_cons]; omega
    · exact Nat.le_refl _
theorem Dr.semi_le (l : List UInt8) : (Dr.semi l).length ≤ l.length := by
  cases l with
  | nil => exact Nat.le_refl _
  | cons b r =>
    show (if b = 59 then r else b :: r).length ≤ _
    split
    · rw [List.length_cons]; omega
    · exact Nat.le_refl _
theorem Dr.digits_lt {l r : List UInt8} (h : Dr.digits l = some r) : r.length < l.length := by
  unfold Dr.digits at h
  cases hn : Dr.next l with
  | none => rw [hn] at h; cases h
  | some x =>
    rw [hn] at h
    simp only [Option.map_some, Option.some.injEq] at h
    obtain ⟨c, r2⟩ := x
    have h1 := Dr.next_lt hn
    have h2 := Dr.dropWhile_le Dr.hexB r2
    have h3 := Dr.semi_le (r2.dropWhile Dr.hexB)
    rw [← h]
    show (Dr.semi (r2.dropWhile Dr.hexB)).length < _
    omega
def Dr.delim (c : Int) : Bool := Ch.blankB c || decide (c = 40) || decide (c = 41) || decide (c = 91) || decide (c = 93) || decide (c = 34) || decide (c = 59)
/-- Behind a token. -/
def Dr.token (l : List UInt8) : Option (List UInt8) :=
  if h : l = [] then some l else if Dr.bad l = true then none else if Dr.delim (Dr.cp l) = true then some l
  else if Dr.cp l = 92 then (match h2 : Dr.digits (l.drop (Dr.wd l)) with | none => none | some r => Dr.token r) else Dr.token (l.drop (Dr.wd l))
termination_by l.length
decreasing_by
  · exact Nat.lt_trans (Dr.digits_lt h2) (Dr.drop_lt h)
  · exact Dr.drop_lt h
/-- What stands ahead of what is left. -/
def Dr.upto (l r : List UInt8) : List UInt8 := l.take (l.length - r.length)
/-- A hexadecimal digit's value. -/
def Dr.hexV (b : UInt8) : Nat := if b.toNat ≤ 57 then b.toNat - 48 else if 97 ≤ b.toNat then b.toNat - 87 else b.toNat - 55
/-- The character that digits are. -/
def Dr.hex (ds : List UInt8) : Option Int :=
  if (decide (1 ≤ ds.length) && decide (ds.length ≤ 8) && ds.all Dr.hexB && Tr.isChar ((ds.foldl (fun n b => 16 * n + Dr.hexV b) 0 : Nat) : Int)) = true then some ((ds.foldl (fun n b => 16 * n + Dr.hexV b) 0 : Nat) : Int) else none
/-- Up to a semicolon: what stands ahead of it, and what is behind it. -/
def Dr.escEnd (l : List UInt8) : Option (List UInt8 × List UInt8) :=
  if h : l = [] then none else if Dr.bad l = true then none else if Dr.cp l = 59 then some ([], l.drop (Dr.wd l))
  else (Dr.escEnd (l.drop (Dr.wd l))).map fun x => (l.take (Dr.wd l) ++ x.1, x.2)
termination_by l.length
decreasing_by exact Dr.drop_lt h
theorem Dr.escEnd_lt : ∀ (n : Nat) (l : List UInt8), l.length ≤ n → ∀ x, Dr.escEnd l = some x → x.2.length < l.length
  | 0, l, hl, x, h => by
    have : l = [] := List.length_eq_zero_iff.1 (by omega)
    rw [Dr.escEnd, dif_pos this] at h
    cases h
  | n + 1, l, hl, x, h => by
    rw [Dr.escEnd] at h
    split at h
    · cases h
    · rename_i hne
      have hlt := Dr.drop_lt hne
      split at h
      · cases h
      · split at h
        · simp only [Option.some.injEq] at h
          rw [← h]
          exact hlt
        · cases hy : Dr.escEnd (l.drop (Dr.wd l)) with
          | none => rw [hy] at h; cases h
          | some y =>
            rw [hy] at h
            simp only [Option.map_some, Option.some.injEq] at h
            have := Dr.escEnd_lt n _ (by omega) y hy
            rw [← h]
            show y.2.length < _
            omega
/-- The character behind a backslash and an x. -/
def Dr.esc (l : List UInt8) : Option (Int × List UInt8) :=
  match Dr.escEnd l with
  | none => none
  | some x => (Dr.hex x.1).map fun c => (c, x.2)
theorem Dr.esc_lt {l r : List UInt8} {c : Int} (h : Dr.esc l = some (c, r)) : r.length < l.length := by
  unfold Dr.esc at h
  split at h
  · cases h
  · rename_i x hx
    have := Dr.escEnd_lt _ l (Nat.le_refl _) x hx
    cases hh : Dr.hex x.1 with
    | none => rw [hh] at h; cases h
    | some d =>
      rw [hh] at h
      simp only [Option.map_some, Option.some.injEq, Prod.mk.injEq] at h
      rw [← h.2]
      exact this
/-- What a backslash and a character stand for. -/
def Dr.unesc (c : Int) : Option UInt8 :=
  if c = 97 then some 7 else if c = 98 then some 8 else if c = 116 then some 9 else if c = 110 then some 10 else if c = 118 then some 11 else if c = 102 then some 12 else if c = 114 then some 13
  else if c = 34 then some 34 else if c = 92 then some 92 else none
/-- Behind a carriage return: a line's end belongs to it. -/
def Dr.ret (l : List UInt8) : Option (List UInt8) := if l = [] then some l else if Dr.bad l = true then none else if (decide (Dr.cp l = 10) || decide (Dr.cp l = 133)) = true then some (l.drop (Dr.wd l)) else some l
theorem Dr.ret_le {l r : List UInt8} (h : Dr.ret l = some r) : r.length ≤ l.length := by
  unfold Dr.ret at h
  split at h
  · simp only [Option.some.injEq] at h; rw [h]; exact Nat.le_refl _
  · split at h
    · cases h
    · split at h
      · simp only [Option.some.injEq] at h; rw [← h, List.length_drop]; omega
      · simp only [Option.some.injEq] at h; rw [h]; exact Nat.le_refl _
/-- One step of a string: its end, or bytes and what is left. -/
inductive Dr.Step where
  | no
  | stop (r : List UInt8)
  | go (b r : List UInt8)
def Dr.txt1 (l : List UInt8) : Dr.Step :=
  match Dr.next l with
  | none => .no
  | some (c, r) =>
    if c = 34 then .stop r
    else if c = 92 then
      (match Dr.next r with
      | none => .no
      | some (c2, r2) =>
        if c2 = 120 then (match Dr.esc r2 with | none => .no | some (d, r3) => .go (Lib.encodeRune d) r3)
        else (match Dr.unesc c2 with | none => .no | some b => .go [b] r2))
    else if c = 13 then (match Dr.ret r with | none => .no | some r2 => .go [10] r2)
    else if (decide (c = 133) || decide (c = 8232)) = true then .go [10] r
    else .go (Lib.encodeRune c) r
theorem Dr.txt1_lt {l b r : List UInt8} (h : Dr.txt1 l = .go b r) : r.length < l.length := by
  unfold Dr.txt1 at h
  split at h
  · cases h
  · rename_i c r1 h1
    have q1 := Dr.next_lt h1
    split at h
    · cases h
    · split at h
      · split at h
        · cases h
        · rename_i c2 r2 h2
          have q2 := Dr.next_lt h2
          split at h
          · split at h
            · cases h
            · rename_i d r3 h3
              have q3 := Dr.esc_lt h3
              simp only [Dr.Step.go.injEq] at h
              rw [← h.2]; omega
          · split at h
            · cases h
            · simp only [Dr.Step.go.injEq] at h
              rw [← h.2]; omega
      · split at h
        · split at h
          · cases h
          · rename_i r2 h2
            have q2 := Dr.ret_le h2
            simp only [Dr.Step.go.injEq] at h
            rw [← h.2]; omega
        · split at h <;> (simp only [Dr.Step.go.injEq] at h; rw [← h.2]; omega)
/-- A string's rest behind its opening mark. -/
def Dr.text (l : List UInt8) : Option (List UInt8 × List UInt8) :=
  match h : Dr.txt1 l with
  | .no => none
  | .stop r => some ([], r)
  | .go b r => (Dr.text r).map fun x => (b ++ x.1, x.2)
termination_by l.length
decreasing_by exact Dr.txt1_lt h
/-- The number of a character's name. -/
def Dr.named (name : List UInt8) : Option Int := ((List.range 128).find? fun (n : Nat) => decide (Wt.name ((n : Nat) : Int) = name)).map fun (n : Nat) => ((n : Nat) : Int)
/-- A character, behind its marks. -/
def Dr.char (l : List UInt8) : Option (Int × List UInt8) :=
  match Dr.next l with
  | none => none
  | some (c, r) =>
    if Dr.delim c = true then (if r = [] then some (c, r) else if Dr.bad r = true then none else if Dr.delim (Dr.cp r) = true then some (c, r) else none)
    else
      match Dr.token r with
      | none => none
      | some r2 =>
        if Dr.upto r r2 = [] then some (c, r2)
        else if Lib.encodeRune c ++ Dr.upto r r2 = [108, 105, 110, 101, 102, 101, 101, 100] then some (10, r2)
        else match Dr.named (Lib.encodeRune c ++ Dr.upto r r2) with
          | some n => some (n, r2)
          | none => if c = 120 then (Dr.hex (Dr.upto r r2)).map fun n => (n, r2) else none
/-- One step of a symbol's token. -/
def Dr.sym1 (first : Bool) (l : List UInt8) : Option (List UInt8 × List UInt8) :=
  match Dr.next l with
  | none => none
  | some (c, r) =>
    if c = 92 then
      (match Dr.next r with
      | none => none
      | some (c2, r2) => if c2 = 120 then (match Dr.esc r2 with | none => none | some (d, r3) => some (Lib.encodeRune d, r3)) else none)
    else if ((first && !Wt.firstB c) || !Wt.restB c) = true then none else some (Lib.encodeRune c, r)
theorem Dr.sym1_lt {first : Bool} {l b r : List UInt8} (h : Dr.sym1 first l = some (b, r)) : r.length < l.length := by
  unfold Dr.sym1 at h
  split at h
  · cases h
  · rename_i c r1 h1
    have q1 := Dr.next_lt h1
    split at h
    · split at h
      · cases h
      · rename_i c2 r2 h2
        have q2 := Dr.next_lt h2
        split at h
        · split at h
          · cases h
          · rename_i d r3 h3
            have q3 := Dr.esc_lt h3
            simp only [Option.some.injEq, Prod.mk.injEq] at h
            rw [← h.2]; omega
        · cases h
    · split at h
      · cases h
      · simp only [Option.some.injEq, Prod.mk.injEq] at h
        rw [← h.2]; omega
def Dr.syms (first : Bool) (l : List UInt8) : Option (List UInt8) :=
  if l = [] ∧ first = false then some [] else
  match h : Dr.sym1 first l with
  | none => none
  | some x => (Dr.syms false x.2).map fun y => x.1 ++ y
termination_by l.length
decreasing_by exact Dr.sym1_lt (b := x.1) h
/-- A symbol's text. -/
def Dr.symbol (t : List UInt8) : Option (List UInt8) := if t.take 2 = [45, 62] then (Dr.syms false (t.drop 2)).map fun y => [45, 62] ++ y else Dr.syms true t
end Go.Proofs.YtaepjlghdjcdnaaDoor
namespace Go.Proofs.YtaepjlghdjcdnaaDoor
open Go.RowKit
set_option linter.unusedVariables false

/-- A digit's value; 99: it is none. -/
def Dr.val (b : UInt8) : Nat := if 48 ≤ b.toNat ∧ b.toNat ≤ 57 then b.toNat - 48 else if 97 ≤ b.toNat ∧ b.toNat ≤ 122 then b.toNat - 87 else if 65 ≤ b.toNat ∧ b.toNat ≤ 90 then b.toNat - 55 else 99
def Dr.natV (rx : Nat) (ds : List UInt8) : Nat := ds.foldl (fun n b => n * rx + Dr.val b) 0
/-- The number that digits are; none: it is too large. -/
def Dr.natR (rx : Nat) (ds : List UInt8) : Option Nat := if 16384 < ds.length then none else if 512 < (Nt.dig (Dr.natV rx ds)).length then none else some (Dr.natV rx ds)
def Dr.isDig (rx : Nat) (b : UInt8) : Bool := decide (Dr.val b < rx)
/-- Digits: the number, what is left, and the worst that has been met. -/
def Dr.digs (rx : Nat) (s : List UInt8) (w : Int) : Option (Nat × List UInt8 × Int) :=
  if s.takeWhile (Dr.isDig rx) = [] then none else
  match Dr.natR rx (s.takeWhile (Dr.isDig rx)) with
  | some v => some (v, s.dropWhile (Dr.isDig rx), w)
  | none => some (0, s.dropWhile (Dr.isDig rx), 4)
/-- A fraction in memory is this. -/
abbrev Dr.Fr := Bool × Nat × Nat
def Dr.ratS (neg : Bool) (t b : Nat) : Dr.Fr := (neg && decide (0 < t / Nat.gcd t b), t / Nat.gcd t b, b / Nat.gcd t b)
def Dr.whole (neg : Bool) (t : Nat) : Dr.Fr := (neg && decide (0 < t), t, 1)
def Dr.frac (rx : Nat) (neg : Bool) (s : List UInt8) (w : Int) : Option (Dr.Fr × List UInt8 × Int) :=
  match Dr.digs rx s w with
  | none => none
  | some (t, s1, w1) =>
    match s1 with
    | 47 :: s2 =>
      (match Dr.digs rx s2 w1 with
      | none => none
      | some (b, s3, w2) => if b = 0 then some (Dr.whole neg t, s3, if w2 = 0 then 3 else w2) else some (Dr.ratS neg t b, s3, w2))
    | _ => some (Dr.whole neg t, s1, w1)
/-- A sign: is it a minus; is there one; what is left. -/
def Dr.sign : List UInt8 → Bool × Bool × List UInt8
  | 43 :: r => (false, true, r)
  | 45 :: r => (true, true, r)
  | l => (false, false, l)
def Dr.unit (l : List UInt8) : Bool := decide (l = [105]) || decide (l = [73])
def Dr.number (rx : Nat) (s : List UInt8) : Option (Dr.Fr × Dr.Fr × Int) :=
  let a := Dr.sign s
  if (a.2.1 && Dr.unit a.2.2) = true then some (Dr.whole false 0, Dr.whole a.1 1, 0) else
  match Dr.frac rx a.1 a.2.2 0 with
  | none => none
  | some (re, s2, w) =>
    if s2 = [] then some (re, Dr.whole false 0, w)
    else if (a.2.1 && Dr.unit s2) = true then some (Dr.whole false 0, re, w)
    else
      let b := Dr.sign s2
      if b.2.1 = false then none
      else if Dr.unit b.2.2 = true then some (re, Dr.whole b.1 1, w)
      else match Dr.frac rx b.1 b.2.2 w with
        | none => none
        | some (im, s4, w4) => if Dr.unit s4 = true then some (re, im, w4) else none
/-- The radix that a letter stands for; 0: none. -/
def Dr.radix (c : UInt8) : Nat := if c = 98 then 2 else if c = 111 then 8 else if c = 100 then 10 else if c = 120 then 16 else 0
def Dr.pre (rx : Nat) (rs ex : Bool) : List UInt8 → Option (Nat × List UInt8)
  | 35 :: c :: r =>
    if (decide (c ||| 32 = 101) && !ex) = true then Dr.pre rx rs true r
    else if (decide (0 < Dr.radix (c ||| 32)) && !rs) = true then Dr.pre (Dr.radix (c ||| 32)) true ex r
    else none
  | [35] => none
  | l => some (rx, l)
/-- What a token is as a number: the number, or an error. -/
inductive Dr.Num where
  | ok (re im : Dr.Fr)
  | err (e : Int)
def Dr.num (t : List UInt8) : Dr.Num :=
  match Dr.pre 10 false false t with
  | none => .err 5
  | some (rx, s) =>
    match Dr.number rx s with
    | none => .err 5
    | some (re, im, w) => if 16384 < t.length then .err 4 else if w ≠ 0 then .err w else .ok re im
end Go.Proofs.YtaepjlghdjcdnaaDoor
namespace Go.Proofs.YtaepjlghdjcdnaaDoor
open Go.RowKit
set_option linter.unusedVariables false
set_option linter.unusedSimpArgs false

theorem Nt.bits_u32 (a b : Nat) (ha : a < 4294967296) (hb : b < 4294967296) : bits .and .u32 (a : Int) (b : Int) = ((a &&& b : Nat) : Int) ∧ bits .or .u32 (a : Int) (b : Int) = ((a ||| b : Nat) : Int) ∧ bits .xor .u32 (a : Int) (b : Int) = ((a ^^^ b : Nat) : Int) := by
  have hk : ∀ n : Int, 0 ≤ n → n < 2 ^ 32 → IntKind.u32.wrap n = n := fun n h0 h1 => by rw [IntKind.wrap_u32]; omega
  obtain ⟨h1, h2⟩ := bits_nat .u32 32 (by decide) hk a b ha hb
  refine ⟨h1, h2, ?_⟩
  have ha' : a % 2 ^ IntKind.u32.bits = a := Nat.mod_eq_of_lt ha
  have hb' : b % 2 ^ IntKind.u32.bits = b := Nat.mod_eq_of_lt hb
  simp only [bits, BitVec.ofInt_natCast, BitVec.toNat_xor, BitVec.toNat_ofNat, ha', hb']
  have : a ^^^ b < 2 ^ 32 := Nat.xor_lt_two_pow ha hb
  exact hk _ (by omega) (by omega)
theorem Nt.top_bit {n : Nat} (h : n < 4294967296) : n / 2147483648 = (n.testBit 31).toNat := by
  rw [Nat.testBit_eq_decide_div_mod_eq]
  have e : (2 : Nat) ^ 31 = 2147483648 := by decide
  rw [e]
  have : n / 2147483648 < 2 := by omega
  rcases Nat.lt_or_ge (n / 2147483648) 1 with h | h
  · have : n / 2147483648 = 0 := by omega
    simp [this]
  · have : n / 2147483648 = 1 := by omega
    simp [this]
theorem Nt.not_lt {n : Nat} (h : n < 4294967296) : 4294967295 ^^^ n < 4294967296 := Nat.xor_lt_two_pow (n := 32) (by decide) h
/-- The borrow, as its bits are reckoned. -/
theorem Nt.borrow {x y c d : Nat} (hx : x < 4294967296) (hy : y < 4294967296) (hc : c ≤ 1) (hd : (d : Int) = ((x : Int) - (y : Int) - (c : Int)) % 4294967296) :
    d < 4294967296 ∧ ((4294967295 ^^^ x) &&& y ||| (4294967295 ^^^ (x ^^^ y)) &&& d) / 2147483648 ≤ 1 ∧ d + y + c = x + 4294967296 * (((4294967295 ^^^ x) &&& y ||| (4294967295 ^^^ (x ^^^ y)) &&& d) / 2147483648) := by
  have hdl : d < 4294967296 := by omega
  have hE : (4294967295 ^^^ x) &&& y ||| (4294967295 ^^^ (x ^^^ y)) &&& d < 4294967296 := Nat.or_lt_two_pow (n := 32) (Nat.and_lt_two_pow _ hy) (Nat.and_lt_two_pow _ hdl)
  rw [Nt.top_bit hE]
  have hmax : Nat.testBit 4294967295 31 = true := by decide
  rw [Nat.testBit_or, Nat.testBit_and, Nat.testBit_and, Nat.testBit_xor, Nat.testBit_xor, Nat.testBit_xor, hmax]
  have e : ∀ n : Nat, n.testBit 31 = decide (n / 2147483648 % 2 = 1) := fun n => by
    rw [Nat.testBit_eq_decide_div_mod_eq]
  rw [e x, e y, e d]
  refine ⟨hdl, ?_, ?_⟩
  · cases decide (x / 2147483648 % 2 = 1) <;> cases decide (y / 2147483648 % 2 = 1) <;> cases decide (d / 2147483648 % 2 = 1) <;> decide
  · by_cases h1 : x / 2147483648 % 2 = 1 <;> by_cases h2 : y / 2147483648 % 2 = 1 <;> by_cases h3 : d / 2147483648 % 2 = 1 <;> simp only [h1, h2, h3, decide_true, decide_false] <;> simp <;> omega
set_option maxHeartbeats 4000000 in
set_option maxRecDepth 1000000 in
theorem Nt.Add32_any (x y c : Nat) (w : World) (hx : x < 4294967296) (hy : y < 4294967296) (hc : c ≤ 1) : Calls Tryd.prog 95 #[.int .u32 x, .int .u32 y, .int .u32 c] w fun e w' => e = .returned (.tuple #[.int .u32 ((x + y + c) % 4294967296 : Nat), .int .u32 ((x + y + c) / 4294967296 : Nat)]) ∧ w' = w := by
  have h1 : ((x : Int) + (y : Int)) % 18446744073709551616 = (x : Int) + (y : Int) := by omega
  have h2 : ((x : Int) + (y : Int) + (c : Int)) % 18446744073709551616 = (x : Int) + (y : Int) + (c : Int) := by omega
  go_enter Tryd.func95, Tryd.ntmps95
  go_wp2_with fail
  go_ret2
  refine ⟨?_, rfl⟩
  rw [show (((x + y + c) % 4294967296 : Nat) : Int) = ((x : Int) + (y : Int) + (c : Int)) % 4294967296 by omega, show (((x + y + c) / 4294967296 : Nat) : Int) = ((x : Int) + (y : Int) + (c : Int)) / 4294967296 by omega]
  rfl
end Go.Proofs.YtaepjlghdjcdnaaDoor
namespace Go.Proofs.YtaepjlghdjcdnaaDoor
open Go.RowKit
set_option linter.unusedVariables false
set_option linter.unusedSimpArgs false

/-- A row of n noughts is made. -/
theorem Nt.make (n : Nat) (w : World) (hn : n ≤ 1000000) : (Instr.makeSlice 24 (.int .i64 (n : Int)) (.int .i64 (n : Int))).run Tryd.prog w = .ok (.slice (some ⟨w.heap.size, 0, none⟩) n n) (w.alloc (.cells (Nt.row (List.replicate n 0)) 82)) := by
  obtain ⟨i0, hi, hz0, hz1, hz2⟩ := info_parts Nt.infoWord
  have := run_makeSlice (P := Tryd.prog) w 24 82 i0 (.int .u32 0) Tryd.underlying24 hi hz0 .i64 .i64 n n (by omega) (by omega) (by rw [hz1]; omega) (by rw [hz2]; omega) (by omega)
  rw [this, hz1, show ((n : Int).toNat * 1) = n by omega, Nt.made_zeros]
  rfl
/-- A store into a row that the call has made. -/
theorem Nt.store {w : World} {T B : Nat} {w0 : World} {t : TypeId} {ws : List Nat} (h : w.heap[T]? = some (.cells (Nt.row ws) t (0, 0))) (k x : Nat) (hk : k < ws.length) (hb : Below B w0 w) (hB : B ≤ T) :
    ∃ W, w.setCell ⟨T, k, none⟩ (.int .u32 (x : Int)) = W ∧ w.cell? ⟨T, k, none⟩ = some (.int .u32 (ws.getD k 0 : Nat)) ∧ w.frozen? ⟨T, k, none⟩ = false ∧ W.heap[T]? = some (.cells (Nt.row (ws.set k x)) t (0, 0)) ∧ Below B w0 W ∧ W.heap.size = w.heap.size :=
  ⟨_, rfl, Nt.cell_row h k hk, Nt.frozen_row h k, Nt.set_row h k x, hb.setCell (p := ⟨T, k, none⟩) hB _, by simp⟩

end Go.Proofs.YtaepjlghdjcdnaaDoor
