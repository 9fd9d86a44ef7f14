/-
  Boxes that hold worlds; the script's steps.
-/
import Derived.Test.YtdikkknjdbchbaaWpPlain
import Derived.Test.YtdikkknjdbchbaaWfSt
namespace Go.Proofs.Ytdikkknjdbchbaa
open Go.RowKit
set_option linter.unusedVariables false
set_option linter.unusedSimpArgs false

/-- The box T holds the world W. -/
def Wp.Box (w : World) (T : Nat) (W : Wo.W) : Prop := ∃ (a0 : Option Addr) (n0 c0 : Nat) (a1 : Option Addr) (n1 c1 : Nat) (a2 : Option Addr) (n2 c2 : Nat),
  w.heap[T]? = some (.cells #[.slice a0 n0 c0, .slice a1 n1 c1, .slice a2 n2 c2] 26 (0, 0)) ∧ Wo.In w (.agg #[.slice a0 n0 c0, .slice a1 n1 c1, .slice a2 n2 c2]) W
theorem Wp.Box.lt {w : World} {T : Nat} {W : Wo.W} (h : Wp.Box w T W) : T < w.heap.size := by
  obtain ⟨a0, n0, c0, a1, n1, c1, a2, n2, c2, h, _⟩ := h
  exact (Array.getElem?_eq_some_iff.1 h).1
theorem Wp.Box.below {w w' : World} {T : Nat} {W : Wo.W} (h : Wp.Box w T W) (hb : Below w.heap.size w w') : Wp.Box w' T W := by
  have hl := h.lt
  obtain ⟨a0, n0, c0, a1, n1, c1, a2, n2, c2, h1, h2⟩ := h
  exact ⟨a0, n0, c0, a1, n1, c1, a2, n2, c2, (hb.block T hl).trans h1, h2.below hb (Nat.le_refl _)⟩
/-- What a walk needs to read it. -/
theorem Wp.Box.open {w : World} {T : Nat} {W : Wo.W} (h : Wp.Box w T W) : ∃ (a0 : Option Addr) (n0 c0 : Nat) (a1 : Option Addr) (n1 c1 : Nat) (a2 : Option Addr) (n2 c2 : Nat),
    (w.cell? ⟨T, 0, none⟩ = some (.slice a0 n0 c0) ∧ w.cell? ⟨T, 1, none⟩ = some (.slice a1 n1 c1) ∧ w.cell? ⟨T, 2, none⟩ = some (.slice a2 n2 c2)) ∧
    Hid (Wo.In w (.agg #[.slice a0 n0 c0, .slice a1 n1 c1, .slice a2 n2 c2]) W ∧ ∀ w', Below w.heap.size w w' → (w'.cell? ⟨T, 0, none⟩ = some (.slice a0 n0 c0) ∧ w'.cell? ⟨T, 1, none⟩ = some (.slice a1 n1 c1) ∧ w'.cell? ⟨T, 2, none⟩ = some (.slice a2 n2 c2)) ∧ Wo.In w' (.agg #[.slice a0 n0 c0, .slice a1 n1 c1, .slice a2 n2 c2]) W) := by
  have hl := h.lt
  obtain ⟨a0, n0, c0, a1, n1, c1, a2, n2, c2, h1, h2⟩ := h
  refine ⟨a0, n0, c0, a1, n1, c1, a2, n2, c2, ⟨Dt.cell_of h1 0, Dt.cell_of h1 1, Dt.cell_of h1 2⟩, Lib.hid ⟨h2, fun w' hb => ?_⟩⟩
  have h3 := (hb.block T hl).trans h1
  exact ⟨⟨Dt.cell_of h3 0, Dt.cell_of h3 1, Dt.cell_of h3 2⟩, h2.below hb (Nat.le_refl _)⟩
/-- A world is stored into the box r: what is known behind it. -/
theorem Wp.Box.put {wz : World} {r : Nat} {W0 W : Wo.W} {v : Value} (hr : Wp.Box wz r W0) (h : Wo.In wz v W) :
    ∃ (z0 z1 z2 : Value) (a0 : Option Addr) (n0 c0 : Nat) (a1 : Option Addr) (n1 c1 : Nat) (a2 : Option Addr) (n2 c2 : Nat) (X1 X2 X3 : World), v = .agg #[.slice a0 n0 c0, .slice a1 n1 c1, .slice a2 n2 c2] ∧
    (wz.cell? ⟨r, 0, none⟩ = some z0 ∧ wz.frozen? ⟨r, 0, none⟩ = false ∧ wz.setCell ⟨r, 0, none⟩ (.slice a0 n0 c0) = X1) ∧
    (X1.cell? ⟨r, 1, none⟩ = some z1 ∧ X1.frozen? ⟨r, 1, none⟩ = false ∧ X1.setCell ⟨r, 1, none⟩ (.slice a1 n1 c1) = X2) ∧
    (X2.cell? ⟨r, 2, none⟩ = some z2 ∧ X2.frozen? ⟨r, 2, none⟩ = false ∧ X2.setCell ⟨r, 2, none⟩ (.slice a2 n2 c2) = X3) ∧
    Hid (Wp.Box X3 r W ∧ X3.heap.size = wz.heap.size ∧ (∀ T W', T ≠ r → Wp.Box wz T W' → Wp.Box X3 T W') ∧ (∀ q, q ≠ r → X3.heap[q]? = wz.heap[q]?) ∧ (∀ u s, By.In wz u s → By.In X3 u s) ∧ (∀ u s, Wo.In wz u s → Wo.In X3 u s) ∧ ∀ (B0 : Nat) (w0 : World), Below B0 w0 wz → B0 ≤ r → Below B0 w0 X3) := by
  obtain ⟨z0, zn0, zc0, z1, zn1, zc1, z2, zn2, zc2, hr1, hr2⟩ := hr
  obtain ⟨a0, n0, c0, a1, n1, c1, a2, n2, c2, X1, X2, X3, hv, h1, h2, h3, H⟩ := Wf.box hr1 (Wf.oth3 hr2) h
  subst hv
  refine ⟨_, _, _, a0, n0, c0, a1, n1, c1, a2, n2, c2, X1, X2, X3, rfl, h1, h2, h3, Lib.hid ⟨⟨a0, n0, c0, a1, n1, c1, a2, n2, c2, H.out.2.1, H.out.1⟩, H.out.2.2.1, fun T W' hT hB => ?_, H.out.2.2.2.1, fun u s hu => ?_, fun u s hu => ?_, H.out.2.2.2.2⟩⟩
  · obtain ⟨b0, m0, d0, b1, m1, d1, b2, m2, d2, g1, g2⟩ := hB
    exact ⟨b0, m0, d0, b1, m1, d1, b2, m2, d2, (H.out.2.2.2.1 T hT).trans g1, g2.othr hr1 (Wf.oth3 hr2) H.out.2.2.2.1 (Nat.le_of_eq H.out.2.2.1.symm)⟩
  · exact hu.othr hr1 (Wf.oth3 hr2) H.out.2.2.2.1 (Nat.le_of_eq H.out.2.2.1.symm)
  · exact hu.othr hr1 (Wf.oth3 hr2) H.out.2.2.2.1 (Nat.le_of_eq H.out.2.2.1.symm)
/-- A new box. -/
theorem Wp.Box.new {w : World} {W : Wo.W} {a0 : Option Addr} {n0 c0 : Nat} {a1 : Option Addr} {n1 c1 : Nat} {a2 : Option Addr} {n2 c2 : Nat} (h : Wo.In w (.agg #[.slice a0 n0 c0, .slice a1 n1 c1, .slice a2 n2 c2]) W) :
    Wp.Box (w.alloc (.cells #[.slice a0 n0 c0, .slice a1 n1 c1, .slice a2 n2 c2] 26)) w.heap.size W :=
  ⟨a0, n0, c0, a1, n1, c1, a2, n2, c2, heap_alloc_new w _, h.below (Wo.belowA (Below.refl _ _) _) (Nat.le_refl _)⟩

/-- A step. -/
structure Wp.O where
  kind : Int
  n : Int
  name : ByteArray
  data : ByteArray
def Wp.o0 : Wp.O := ⟨0, 0, ⟨#[]⟩, ⟨#[]⟩⟩
/-- A step as it can be handed in. -/
def Wp.Ok (o : Wp.O) : Prop := (Lit.int .i64 o.n).wf = true ∧ o.data.size ≤ 140737488355328
/-- A script. -/
def Wp.Ops (w : World) (v : Value) (os : List Wp.O) : Prop := ∃ ad cap, v = .slice ad os.length cap ∧ (0 < os.length → ∃ b off, ad = some ⟨b, off, none⟩ ∧ os.length ≤ cap ∧ b < w.heap.size ∧ ∀ k, k < os.length → ∃ dv,
  w.cell? ⟨b, off + k * 4, none⟩ = some (.int .i64 (os.getD k Wp.o0).kind) ∧ w.cell? ⟨b, off + k * 4 + 1, none⟩ = some (.int .i64 (os.getD k Wp.o0).n) ∧ w.cell? ⟨b, off + k * 4 + 2, none⟩ = some (.string (os.getD k Wp.o0).name) ∧ w.cell? ⟨b, off + k * 4 + 3, none⟩ = some dv ∧ By.In w dv (os.getD k Wp.o0).data)
theorem Wp.Ops.at {w w' : World} {ad : Option Addr} {cap : Nat} {os : List Wp.O} (h : Wp.Ops w (.slice ad os.length cap) os) (hb : Below w.heap.size w w') (k : Nat) (hk : k < os.length) : ∃ b off da dc, ad = some ⟨b, off, none⟩ ∧ os.length ≤ cap ∧
    (w'.cell? ⟨b, off + k * 4, none⟩ = some (.int .i64 (os.getD k Wp.o0).kind) ∧ w'.cell? ⟨b, off + k * 4 + 1, none⟩ = some (.int .i64 (os.getD k Wp.o0).n) ∧ w'.cell? ⟨b, off + k * 4 + 2, none⟩ = some (.string (os.getD k Wp.o0).name) ∧ w'.cell? ⟨b, off + k * 4 + 3, none⟩ = some (.slice da (os.getD k Wp.o0).data.size dc)) ∧ By.In w' (.slice da (os.getD k Wp.o0).data.size dc) (os.getD k Wp.o0).data := by
  obtain ⟨ad', cap', he, h1⟩ := h
  simp only [Value.slice.injEq, true_and] at he
  obtain ⟨rfl, rfl⟩ := he
  obtain ⟨b, off, rfl, hc, hl, hcell⟩ := h1 (by omega)
  obtain ⟨dv, c0, c1, c2, c3, hin⟩ := hcell k hk
  obtain ⟨da, dc, rfl⟩ := hin.slice
  exact ⟨b, off, da, dc, rfl, hc, ⟨(hb.cell (p := ⟨b, off + k * 4, none⟩) hl).trans c0, (hb.cell (p := ⟨b, off + k * 4 + 1, none⟩) hl).trans c1, (hb.cell (p := ⟨b, off + k * 4 + 2, none⟩) hl).trans c2, (hb.cell (p := ⟨b, off + k * 4 + 3, none⟩) hl).trans c3⟩, hin.below hb (Nat.le_refl _)⟩

/-- The middle of a round: both sides' worlds, the copy, the answers, the step, its data. -/
structure Wp.Mid (w1 w : World) (TA TB T8 T9 T10 T11 : Nat) (Wk X10 X11 : Wo.W) (C8 : Array Value) (dv : Value) (d : ByteArray) (p : Value) (P : ByteArray) : Prop where
  a : Wp.Box w TA Wk
  b : Wp.Box w TB Wk
  c : Wp.Box w T9 Wk
  x : Wp.Box w T10 X10
  y : Wp.Box w T11 X11
  o : w.heap[T8]? = some (.cells C8 42 (0, 0))
  d : By.In w dv d
  p : By.In w p P
  bel : Below w1.heap.size w1 w
section
variable {w1 w : World} {TA TB T8 T9 T10 T11 : Nat} {Wk X10 X11 : Wo.W} {C8 : Array Value} {dv : Value} {d : ByteArray} {p : Value} {P : ByteArray}
theorem Wp.Mid.below {w' : World} (h : Wp.Mid w1 w TA TB T8 T9 T10 T11 Wk X10 X11 C8 dv d p P) (hb : Below w.heap.size w w') : Wp.Mid w1 w' TA TB T8 T9 T10 T11 Wk X10 X11 C8 dv d p P :=
  ⟨h.a.below hb, h.b.below hb, h.c.below hb, h.x.below hb, h.y.below hb, (hb.block T8 (Array.getElem?_eq_some_iff.1 h.o).1).trans h.o, h.d.below hb (Nat.le_refl _), h.p.below hb (Nat.le_refl _), Wo.belowT h.bel hb⟩
theorem Wp.Mid.setp {p' : Value} {P' : ByteArray} (h : Wp.Mid w1 w TA TB T8 T9 T10 T11 Wk X10 X11 C8 dv d p P) (hp : By.In w p' P') : Wp.Mid w1 w TA TB T8 T9 T10 T11 Wk X10 X11 C8 dv d p' P' :=
  ⟨h.a, h.b, h.c, h.x, h.y, h.o, h.d, hp, h.bel⟩
/-- The places are apart. -/
def Wp.Apart (w1 : World) (TA TB T8 T9 T10 T11 : Nat) : Prop := TA ≠ TB ∧ w1.heap.size ≤ TA ∧ w1.heap.size ≤ TB ∧ TA < T8 ∧ TB < T8 ∧ T8 < T9 ∧ T9 < T10 ∧ T10 < T11
theorem Wp.Mid.put10 {W : Wo.W} {v : Value} (h : Wp.Mid w1 w TA TB T8 T9 T10 T11 Wk X10 X11 C8 dv d p P) (hl : Wp.Apart w1 TA TB T8 T9 T10 T11) (hin : Wo.In w v W) :
    ∃ (z0 z1 z2 : Value) (a0 : Option Addr) (n0 c0 : Nat) (a1 : Option Addr) (n1 c1 : Nat) (a2 : Option Addr) (n2 c2 : Nat) (X1 X2 X3 : World), v = .agg #[.slice a0 n0 c0, .slice a1 n1 c1, .slice a2 n2 c2] ∧
    (w.cell? ⟨T10, 0, none⟩ = some z0 ∧ w.frozen? ⟨T10, 0, none⟩ = false ∧ w.setCell ⟨T10, 0, none⟩ (.slice a0 n0 c0) = X1) ∧
    (X1.cell? ⟨T10, 1, none⟩ = some z1 ∧ X1.frozen? ⟨T10, 1, none⟩ = false ∧ X1.setCell ⟨T10, 1, none⟩ (.slice a1 n1 c1) = X2) ∧
    (X2.cell? ⟨T10, 2, none⟩ = some z2 ∧ X2.frozen? ⟨T10, 2, none⟩ = false ∧ X2.setCell ⟨T10, 2, none⟩ (.slice a2 n2 c2) = X3) ∧
    Hid (Wp.Mid w1 X3 TA TB T8 T9 T10 T11 Wk W X11 C8 dv d p P ∧ ∀ u s, By.In w u s → By.In X3 u s) := by
  obtain ⟨l1, l2, l3, l4, l5, l6, l7, l8⟩ := hl
  obtain ⟨z0, z1, z2, a0, n0, c0, a1, n1, c1, a2, n2, c2, X1, X2, X3, hv, h1, h2, h3, H⟩ := h.x.put hin
  obtain ⟨g1, g2, g3, g4, g5, g6, g7⟩ := H.out
  exact ⟨z0, z1, z2, a0, n0, c0, a1, n1, c1, a2, n2, c2, X1, X2, X3, hv, h1, h2, h3, Lib.hid ⟨⟨g3 _ _ (by omega) h.a, g3 _ _ (by omega) h.b, g3 _ _ (by omega) h.c, g1, g3 _ _ (by omega) h.y, (g4 T8 (by omega)).trans h.o, g5 _ _ h.d, g5 _ _ h.p, g7 _ _ h.bel (by omega)⟩, g5⟩⟩
theorem Wp.Mid.put11 {W : Wo.W} {v : Value} (h : Wp.Mid w1 w TA TB T8 T9 T10 T11 Wk X10 X11 C8 dv d p P) (hl : Wp.Apart w1 TA TB T8 T9 T10 T11) (hin : Wo.In w v W) :
    ∃ (z0 z1 z2 : Value) (a0 : Option Addr) (n0 c0 : Nat) (a1 : Option Addr) (n1 c1 : Nat) (a2 : Option Addr) (n2 c2 : Nat) (X1 X2 X3 : World), v = .agg #[.slice a0 n0 c0, .slice a1 n1 c1, .slice a2 n2 c2] ∧
    (w.cell? ⟨T11, 0, none⟩ = some z0 ∧ w.frozen? ⟨T11, 0, none⟩ = false ∧ w.setCell ⟨T11, 0, none⟩ (.slice a0 n0 c0) = X1) ∧
    (X1.cell? ⟨T11, 1, none⟩ = some z1 ∧ X1.frozen? ⟨T11, 1, none⟩ = false ∧ X1.setCell ⟨T11, 1, none⟩ (.slice a1 n1 c1) = X2) ∧
    (X2.cell? ⟨T11, 2, none⟩ = some z2 ∧ X2.frozen? ⟨T11, 2, none⟩ = false ∧ X2.setCell ⟨T11, 2, none⟩ (.slice a2 n2 c2) = X3) ∧
    Hid (Wp.Mid w1 X3 TA TB T8 T9 T10 T11 Wk X10 W C8 dv d p P ∧ ∀ u s, By.In w u s → By.In X3 u s) := by
  obtain ⟨l1, l2, l3, l4, l5, l6, l7, l8⟩ := hl
  obtain ⟨z0, z1, z2, a0, n0, c0, a1, n1, c1, a2, n2, c2, X1, X2, X3, hv, h1, h2, h3, H⟩ := h.y.put hin
  obtain ⟨g1, g2, g3, g4, g5, g6, g7⟩ := H.out
  exact ⟨z0, z1, z2, a0, n0, c0, a1, n1, c1, a2, n2, c2, X1, X2, X3, hv, h1, h2, h3, Lib.hid ⟨⟨g3 _ _ (by omega) h.a, g3 _ _ (by omega) h.b, g3 _ _ (by omega) h.c, g3 _ _ (by omega) h.x, g1, (g4 T8 (by omega)).trans h.o, g5 _ _ h.d, g5 _ _ h.p, g7 _ _ h.bel (by omega)⟩, g5⟩⟩
theorem Wp.Mid.cells {a0 a1 a2 a3 : Value} (h : Wp.Mid w1 w TA TB T8 T9 T10 T11 Wk X10 X11 #[a0, a1, a2, a3] dv d p P) : w.cell? ⟨T8, 0, none⟩ = some a0 ∧ w.cell? ⟨T8, 1, none⟩ = some a1 ∧ w.cell? ⟨T8, 2, none⟩ = some a2 ∧ w.cell? ⟨T8, 3, none⟩ = some a3 :=
  ⟨Dt.cell_of h.o 0, Dt.cell_of h.o 1, Dt.cell_of h.o 2, Dt.cell_of h.o 3⟩
end
end Go.Proofs.Ytdikkknjdbchbaa
