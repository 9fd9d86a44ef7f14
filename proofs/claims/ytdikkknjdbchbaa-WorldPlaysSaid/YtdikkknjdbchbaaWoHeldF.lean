/-
  A region that draws its order: a load is taken first although an operation far behind it writes its cell.
  As Derived/OrdersHeld.lean's walk, but the condition is asked only while none of the operations of a list 'Ls' has come up; and the operations of 'Ls' all wait for the load.
-/
import Derived.Deep.RegionHeld3
namespace Go.Proofs.Ytdikkknjdbchbaa

/-- Each of 'C' waits for 'i' or for another of 'C'. -/
def Wo.chain (md : Region.Mode) (ops : Array Oper) (i : Nat) (C : List Nat) : Bool :=
  !C.contains i && C.all fun j => match ops[j]? with
    | some o => o.after.any fun e => Region.binds md e && (e.on == i || C.contains e.on)
    | none => false
/-- None of these has come up. -/
def Wo.calm (Ls : List Nat) (listed : Array Bool) : Bool := Ls.all fun l => !listed.getD l true

def Wo.anyF (P : Program) (md : Region.Mode) (ops : Array Oper) (Q : Exit → Act → World → Prop) (S : World → Prop) (Ls : List Nat) : Nat → Array Bool → Act → World → Prop
  | 0, listed, a, w => Region.ready md ops listed = [] ∧ Q .normal a w
  | fuel + 1, listed, a, w =>
    (Region.ready md ops listed = [] → Q .normal a w) ∧
    ∀ i ∈ Region.ready md ops listed, wpOp P ops Q i (fun a' w' => (Wo.calm Ls (listed.setIfInBounds i true) = true → S w') ∧ Wo.anyF P md ops Q S Ls fuel (listed.setIfInBounds i true) a' w') a w

section
variable {P : Program} {ops : Array Oper} {Q : Exit → Act → World → Prop} {md : Region.Mode} {S T : World → Prop} {Ls : List Nat}

theorem Wo.any_of_F : ∀ (fuel : Nat) (listed : Array Bool) (a : Act) (w : World), Wo.anyF P md ops Q S Ls fuel listed a w → wpAny P md ops Q fuel listed a w
  | 0, _, _, _, h => h
  | fuel + 1, _, _, _, h => ⟨h.1, fun i hi => wpOp_mono (fun a' w' h' => Wo.any_of_F fuel _ a' w' h'.2) (h.2 i hi)⟩

theorem Wo.off {p : Prop} {b : Bool} (hb : b = false) : b = true → p := fun h => by rw [hb] at h; cases h
theorem Wo.calm_of {C : List Nat} {listed : Array Bool} (h : ∀ j ∈ C, listed.getD j true = false) (hL : ∀ l ∈ Ls, l ∈ C) : Wo.calm Ls listed = true := by
  simp only [Wo.calm, List.all_eq_true, Bool.not_eq_true']
  exact fun l hl => h l (hL l hl)

theorem Wo.calm_set {i : Nat} {listed : Array Bool} (h : Wo.calm Ls listed = true) (hi : i ∉ Ls) : Wo.calm Ls (listed.setIfInBounds i true) = true := by
  simp only [Wo.calm, List.all_eq_true, Bool.not_eq_true'] at h ⊢
  intro l hl
  rw [getD_set_ne true (fun e => hi (by rw [e]; exact hl))]
  exact h l hl

theorem Wo.anyF_first {i : Nat} {oi : Oper} {v : Value} {C : List Nat} (hi : ops[i]? = some oi) (hsel : ∀ (j : Nat) (o : Oper) cs b, ops[j]? = some o → o.op ≠ .select cs b)
    (hQ : ∀ c a w, Q (.panic c) (a.put oi.dst v) w → Q (.panic c) a w) (hC : Wo.chain md ops i C = true) (hiL : i ∉ Ls) (hTS : (∀ w, T w) ∨ ((∀ l ∈ Ls, l ∈ C) ∧ ∀ w, S w → T w)) :
    ∀ (fuel : Nat) (listed : Array Bool) (a : Act) (w : World),
      (∀ j oj, ops[j]? = some oj → j ≠ i → listed.getD j true = false → (∀ e ∈ oj.after, Region.binds md e = true → e.on ≠ i) → oi.apart ops oj = true) →
      (∀ j ∈ C, listed.getD j true = false) →
      i ∈ Region.ready md ops listed → YieldsIf P ops T oi v a → T w →
      (Wo.calm Ls (listed.setIfInBounds i true) = true → S w) →
      Wo.anyF P md ops Q S Ls fuel (listed.setIfInBounds i true) (a.put oi.dst v) w → Wo.anyF P md ops Q S Ls (fuel + 1) listed a w := by
  rw [Wo.chain, Bool.and_eq_true] at hC
  obtain ⟨hiC, hC⟩ := hC
  have hiC : i ∉ C := by simpa using hiC
  intro fuel
  induction fuel with
  | zero =>
    intro listed a w hfree hun hr hy hS hSw H
    refine ⟨fun h => (by rw [h] at hr; cases hr), fun j hj => ?_⟩
    by_cases hji : j = i
    · subst hji; exact hy.wpOp hi hS ⟨hSw, H⟩
    · have := ready_mono hj hji
      rw [H.1] at this
      cases this
  | succ fuel ih =>
    intro listed a w hfree hun hr hy hS hSw H
    refine ⟨fun h => (by rw [h] at hr; cases hr), fun j hj => ?_⟩
    by_cases hji : j = i
    · subst hji; exact hy.wpOp hi hS ⟨hSw, H⟩
    · have h1 := H.2 j (ready_mono hj hji)
      obtain ⟨hjun, oj, hoj, hall⟩ := mem_ready.1 hj
      have hunl : ∀ k, listed.getD k true = false → listed.getD k false = false := fun k h0 => by
        rcases Nat.lt_or_ge k listed.size with h' | h'
        · simp [h'] at h0 ⊢; exact h0
        · simp [Array.getElem?_eq_none h']
      have hnot : ∀ e ∈ oj.after, Region.binds md e = true → e.on ≠ i := fun e he hb heq => by
        have h1 := hall e he hb
        rw [heq, hunl _ (mem_ready.1 hr).1] at h1
        cases h1
      have hjC : j ∉ C := fun hjC => by
        have hc := List.all_eq_true.1 hC j hjC
        simp only [hoj, Array.any_eq_true', Bool.and_eq_true, Bool.or_eq_true, beq_iff_eq, List.contains_eq_mem, decide_eq_true_eq] at hc
        obtain ⟨e, he, hb, hon⟩ := hc
        have h1 := hall e he hb
        rcases hon with hon | hon
        · exact hnot e he hb hon
        · rw [hunl _ (hun _ hon)] at h1
          cases h1
      have h2 := wpOp_putIf hoj (hfree j oj hoj hji hjun hnot) (fun cs b => hsel i oi cs b hi) (fun cs b => hsel j oj cs b hoj) hQ hy h1
      have hfree' : ∀ k ok, ops[k]? = some ok → k ≠ i → (listed.setIfInBounds j true).getD k true = false →
          (∀ e ∈ ok.after, Region.binds md e = true → e.on ≠ i) → oi.apart ops ok = true := fun k ok hk hki hun hno => by
        refine hfree k ok hk hki ?_ hno
        by_cases hjk : j = k
        · subst hjk; exact hjun
        · rw [getD_set_ne true hjk] at hun; exact hun
      have hun' : ∀ k ∈ C, (listed.setIfInBounds j true).getD k true = false := fun k hk => by
        rw [getD_set_ne true (fun e => hjC (by rw [e]; exact hk))]
        exact hun k hk
      have hun2 : ∀ k ∈ C, ((listed.setIfInBounds i true).setIfInBounds j true).getD k true = false := fun k hk => by
        rw [getD_set_ne true (fun e => hjC (by rw [e]; exact hk)), getD_set_ne true (fun e => hiC (by rw [e]; exact hk))]
        exact hun k hk
      refine wpOp_mono (fun a' w' h3 => ?_) h2
      have hTw : T w' := by
        rcases hTS with hT | ⟨hLC, hST⟩
        · exact hT w'
        · exact hST _ (h3.2.1 (Wo.calm_of hun2 hLC))
      have hcomm : (listed.setIfInBounds j true).setIfInBounds i true = (listed.setIfInBounds i true).setIfInBounds j true := by
        rw [Array.setIfInBounds_comm _ _ hji]
      have hcomm2 : (listed.setIfInBounds i true).setIfInBounds j true = (listed.setIfInBounds j true).setIfInBounds i true := hcomm.symm
      refine ⟨fun hc => h3.2.1 (hcomm2 ▸ Wo.calm_set hc hiL), ih (listed.setIfInBounds j true) a' w' hfree' hun' (ready_mono hr (Ne.symm hji)) h3.1 hTw (hcomm ▸ h3.2.1) (hcomm ▸ h3.2.2)⟩

/-- What yields in whatever world is taken first. -/
theorem Wo.anyF_pure {i : Nat} {oi : Oper} {v : Value} {rest : List Oper} {fuel : Nat} {listed : Array Bool} {a : Act} {w : World} (hd : ops.toList.drop i = oi :: rest)
    (hs : Region.noSelect ops = true) (hf : Region.free md ops listed i = true) (hr : (Region.ready md ops listed).contains i = true) (hiL : Ls.contains i = false)
    (hQ : ∀ c a w, Q (.panic c) (a.put oi.dst v) w → Q (.panic c) a w) (hw : Region.wanted oi (yielded ops a.tmps) = true)
    (hy : ∀ w, (execOp a.eval oi).run P w = .ok (.value v) w) (hS : Wo.calm Ls listed = true → S w)
    (h : Wo.anyF P md ops Q S Ls fuel (listed.setIfInBounds i true) (a.put oi.dst v) w) : Wo.anyF P md ops Q S Ls (fuel + 1) listed a w := by
  have hi : ops[i]? = some oi := by
    have h0 := congrArg (fun l => l[0]?) hd
    simpa using h0
  have hiL : i ∉ Ls := by simpa using hiL
  refine Wo.anyF_first (T := fun _ => True) (C := []) hi (Region.noSelect_spec hs) hQ rfl hiL (.inl fun _ => trivial) fuel listed a w (Region.free_spec hi hf) (fun j hj => by cases hj) (by simpa using hr) (.inl ⟨hw, fun w _ => hy w⟩) trivial (fun hc => hS ?_) h
  simp only [Wo.calm, List.all_eq_true, Bool.not_eq_true'] at hc ⊢
  intro l hl
  have := hc l hl
  rwa [getD_set_ne true (fun e => hiL (by rw [e]; exact hl))] at this
/-- A load is taken first, if all of 'Ls' wait for it. -/
theorem Wo.anyF_load {i : Nat} {oi : Oper} {v : Value} {rest : List Oper} (C : List Nat) {fuel : Nat} {listed : Array Bool} {a : Act} {w : World} (hd : ops.toList.drop i = oi :: rest)
    (hs : Region.noSelect ops = true) (hf : Region.free md ops listed i = true) (hr : (Region.ready md ops listed).contains i = true) (hiL : Ls.contains i = false)
    (hC : Wo.chain md ops i C = true) (hLC : Ls.all (fun l => C.contains l) = true) (hun : C.all (fun j => !listed.getD j true) = true)
    (hQ : ∀ c a w, Q (.panic c) (a.put oi.dst v) w → Q (.panic c) a w) (hw : Region.wanted oi (yielded ops a.tmps) = true)
    (hy : ∀ w, S w → (execOp a.eval oi).run P w = .ok (.value v) w) (hS : Wo.calm Ls listed = true → S w)
    (h : Wo.anyF P md ops Q S Ls fuel (listed.setIfInBounds i true) (a.put oi.dst v) w) : Wo.anyF P md ops Q S Ls (fuel + 1) listed a w := by
  have hi : ops[i]? = some oi := by
    have h0 := congrArg (fun l => l[0]?) hd
    simpa using h0
  have hiL : i ∉ Ls := by simpa using hiL
  have hLC : ∀ l ∈ Ls, l ∈ C := by simpa using hLC
  have hun : ∀ j ∈ C, listed.getD j true = false := by
    intro j hj
    simpa using List.all_eq_true.1 hun j hj
  have hSw := hS (Wo.calm_of hun hLC)
  exact Wo.anyF_first (T := S) (C := C) hi (Region.noSelect_spec hs) hQ hC hiL (.inr ⟨hLC, fun _ h => h⟩) fuel listed a w (Region.free_spec hi hf) hun (by simpa using hr) (.inl ⟨hw, hy⟩) hSw (fun _ => hSw) h
/-- One alone may come up. -/
theorem Wo.anyF_one {i : Nat} {oi : Oper} {rest : List Oper} {fuel : Nat} {listed : Array Bool} {a : Act} {w : World} (hd : ops.toList.drop i = oi :: rest)
    (hr : Region.ready md ops listed = [i])
    (h : ∀ K' : Act → World → Prop, Shut (∀ a w, (Wo.calm Ls (listed.setIfInBounds i true) = true → S w) → Wo.anyF P md ops Q S Ls fuel (listed.setIfInBounds i true) a w → K' a w) → if Region.wanted oi (yielded ops a.tmps) = true then Oper.wp P oi a w K' Q else K' (a.put oi.dst undef) w) :
    Wo.anyF P md ops Q S Ls (fuel + 1) listed a w := by
  have hi : ops[i]? = some oi := by
    have h0 := congrArg (fun l => l[0]?) hd
    simpa using h0
  have hne : Region.ready md ops listed ≠ [] := by rw [hr]; simp
  refine And.intro (fun h0 => absurd h0 hne) ?_
  rw [hr]
  intro j hj
  rw [List.mem_singleton] at hj
  subst hj
  exact wpOp_step hi (fun K' hK => h K' (fun a w h1 h2 => hK a w ⟨h1, h2⟩))
theorem Wo.anyF_done {listed : Array Bool} {a : Act} {w : World} (hr : Region.ready md ops listed = []) (h : Q .normal a w) : ∀ fuel, Wo.anyF P md ops Q S Ls fuel listed a w
  | 0 => ⟨hr, h⟩
  | _ + 1 => ⟨fun _ => h, by rw [hr]; simp⟩
theorem Wo.region_F {id : Nat} {a : Act} {w : World} (S : World → Prop) (Ls : List Nat) (hm : P.follows .mixedOrders = true) (hS : S w.drew)
    (h : (Wo.calm Ls (Array.replicate ops.size false) = true → S w.drew) → Wo.anyF P .any ops Q S Ls ops.size (Array.replicate ops.size false) a w.drew) : (Code.region id ops true).wp P Q a w :=
  wp_region_any hm (Wo.any_of_F _ _ _ _ (h fun _ => hS))
end
end Go.Proofs.Ytdikkknjdbchbaa
