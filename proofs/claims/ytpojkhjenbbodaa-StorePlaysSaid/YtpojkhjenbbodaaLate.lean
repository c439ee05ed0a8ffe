/-
  A region that draws its order, with one great store z: what its loads read need hold till z alone, and what yields one value in every world may be taken first though z does not wait for it.
  It is the law of XRegion (wpAnyZ), with S not asked any more behind z. Nothing of the program stands here. Conditions: those that are named.
-/
import Derived.Test.YtpojkhjenbbodaaJTools
namespace Go.Proofs.Ytpojkhjenbbodaa
open Go.RowKit

section
variable {P : Program} {ops : Array Oper} {Q : Exit → Act → World → Prop} {md : Region.Mode} {S : World → Prop} {z : Nat}

def wpAnyY (P : Program) (md : Region.Mode) (ops : Array Oper) (Q : Exit → Act → World → Prop) (S : World → Prop) (z : Nat) : Nat → Array Bool → Act → World → Prop
  | 0, listed, a, w => Region.ready md ops listed = [] ∧ Q .normal a w
  | fuel + 1, listed, a, w =>
    (Region.ready md ops listed = [] → Q .normal a w) ∧
    ∀ i ∈ Region.ready md ops listed, wpOp P ops Q i (fun a' w' => ((listed.setIfInBounds i true).getD z true = true ∨ S w') ∧ wpAnyY P md ops Q S z fuel (listed.setIfInBounds i true) a' w') a w

theorem wpAny_of_y : ∀ (fuel : Nat) (listed : Array Bool) (a : Act) (w : World), wpAnyY P md ops Q S z fuel listed a w → wpAny P md ops Q fuel listed a w
  | 0, _, _, _, h => h
  | fuel + 1, _, _, _, h => ⟨h.1, fun i hi => wpOp_mono (fun a' w' h' => wpAny_of_y fuel _ a' w' h'.2) (h.2 i hi)⟩

theorem set_stays {l : Array Bool} {z j : Nat} (h : l.getD z true = true) : (l.setIfInBounds j true).getD z true = true := by
  by_cases hjz : j = z
  · subst hjz
    rcases Nat.lt_or_ge j l.size with h' | h'
    · simp [h']
    · simp [h']
  · rw [getD_set_ne true hjz]; exact h
theorem set_here (l : Array Bool) (z : Nat) : (l.setIfInBounds z true).getD z true = true := by
  rcases Nat.lt_or_ge z l.size with h' | h'
  · simp [h']
  · simp [h']

theorem at_once {T : World → Prop} {i : Nat} {listed : Array Bool} {w : World} (hT : (∀ w, T w) ∨ (waitsFor md ops z i = true ∧ (ops[z]?).isSome = true ∧ ∀ w, S w → T w)) (hS : listed.getD z true = true ∨ S w) (hl : (∀ w, T w) ∨ listed.getD z true = false) : T w := by
  rcases hT with h | ⟨_, _, h⟩
  · exact h w
  · rcases hl with h1 | h1
    · exact h1 w
    · rcases hS with h2 | h2
      · rw [h1] at h2; cases h2
      · exact h w h2
/-- Number i, that z waits for, is taken first. -/
theorem wpAnyY_first {i : Nat} {oi : Oper} {v : Value} (hi : ops[i]? = some oi) (hsel : ∀ (j : Nat) (o : Oper) cs b, ops[j]? = some o → o.op ≠ .select cs b) (hiz : i ≠ z) (T : World → Prop)
    (hT : (∀ w, T w) ∨ (waitsFor md ops z i = true ∧ (ops[z]?).isSome = true ∧ ∀ w, S w → T w))
    (hQ : ∀ c a w, Q (.panic c) (a.put oi.dst v) w → Q (.panic c) a w) :
    ∀ (fuel : Nat) (listed : Array Bool) (a : Act) (w : World),
      (∀ j oj, ops[j]? = some oj → j ≠ i → listed.getD j true = false → (∀ e ∈ oj.after, Region.binds md e = true → e.on ≠ i) → oi.apart ops oj = true) →
      i ∈ Region.ready md ops listed → YieldsIf P ops T oi v a → (listed.getD z true = true ∨ S w) → ((∀ w, T w) ∨ listed.getD z true = false) →
      wpAnyY P md ops Q S z fuel (listed.setIfInBounds i true) (a.put oi.dst v) w → wpAnyY P md ops Q S z (fuel + 1) listed a w := by
  intro fuel
  induction fuel with
  | zero =>
    intro listed a w _ hr hy hS hl H
    refine ⟨fun h => (by rw [h] at hr; cases hr), fun j hj => ?_⟩
    by_cases hji : j = i
    · subst hji; exact hy.wpOp hi (at_once hT hS hl) ⟨hS.imp (fun h => set_stays h) id, H⟩
    · have := ready_mono hj hji
      rw [H.1] at this
      cases this
  | succ fuel ih =>
    intro listed a w hfree hr hy hS hl H
    refine ⟨fun h => (by rw [h] at hr; cases hr), fun j hj => ?_⟩
    by_cases hji : j = i
    · subst hji; exact hy.wpOp hi (at_once hT hS hl) ⟨hS.imp (fun h => set_stays h) id, H⟩
    · have h1 := H.2 j (ready_mono hj hji)
      obtain ⟨hjun, oj, hoj, hall⟩ := mem_ready.1 hj
      have hnot : ∀ e ∈ oj.after, Region.binds md e = true → e.on ≠ i := fun e he hb heq => by
        have h1 := hall e he hb
        have h0 := (mem_ready.1 hr).1
        rw [heq] at h1
        rcases Nat.lt_or_ge i listed.size with h' | h'
        · simp [h'] at h0 h1; rw [h0] at h1; cases h1
        · simp [Array.getElem?_eq_none h'] at h1
      have h2 := wpOp_putIf hoj (hfree j oj hoj hji hjun hnot) (fun cs b => hsel i oi cs b hi) (fun cs b => hsel j oj cs b hoj) hQ hy h1
      have hfree' : ∀ k ok, ops[k]? = some ok → k ≠ i → (listed.setIfInBounds j true).getD k true = false →
          (∀ e ∈ ok.after, Region.binds md e = true → e.on ≠ i) → oi.apart ops ok = true := fun k ok hk hki hun hno => by
        refine hfree k ok hk hki ?_ hno
        by_cases hjk : j = k
        · subst hjk; exact hjun
        · rw [getD_set_ne true hjk] at hun; exact hun
      refine wpOp_mono (fun a' w' h3 => ?_) h2
      have hS' : (listed.setIfInBounds j true).getD z true = true ∨ S w' := by
        rcases h3.2.1 with h4 | h4
        · left
          rw [Array.setIfInBounds_comm _ _ (Ne.symm hji), getD_set_ne true hiz] at h4
          exact h4
        · exact Or.inr h4
      have hl' : (∀ w, T w) ∨ (listed.setIfInBounds j true).getD z true = false := by
        rcases hl with h4 | h4
        · exact Or.inl h4
        · rcases hT with h5 | ⟨hz, hzs, _⟩
          · exact Or.inl h5
          · right
            have hjz : j ≠ z := fun e => by
              subst e
              simp only [waitsFor, hoj] at hz
              obtain ⟨e, he, hb⟩ := Array.any_eq_true'.1 hz
              simp only [Bool.and_eq_true, beq_iff_eq] at hb
              exact hnot e he hb.1 hb.2
            rw [getD_set_ne true hjz]
            exact h4
      refine ⟨hS', ih (listed.setIfInBounds j true) a' w' hfree' (ready_mono hr (Ne.symm hji)) h3.1 hS' hl' ?_⟩
      rw [Array.setIfInBounds_comm _ _ hji]
      exact h3.2.2

/-- Take number i first: z waits for it. -/
theorem y_take (i : Nat) {oi : Oper} {v : Value} {fuel : Nat} {listed : Array Bool} {a : Act} {w : World} (hi : ops[i]? = some oi)
    (hs : Region.noSelect ops = true) (hf : Region.free md ops listed i = true) (hr : (Region.ready md ops listed).contains i = true) (hz : (i != z && waitsFor md ops z i && (ops[z]?).isSome && !listed.getD z true) = true)
    (hQ : ∀ c a w, Q (.panic c) (a.put oi.dst v) w → Q (.panic c) a w) (hS : S w) (hw : Region.wanted oi (yielded ops a.tmps) = true) (hy : ∀ w, S w → (execOp a.eval oi).run P w = .ok (.value v) w)
    (h : wpAnyY P md ops Q S z fuel (listed.setIfInBounds i true) (a.put oi.dst v) w) : wpAnyY P md ops Q S z (fuel + 1) listed a w := by
  simp only [Bool.and_eq_true, bne_iff_ne, Bool.not_eq_true'] at hz
  exact wpAnyY_first hi (Region.noSelect_spec hs) hz.1.1.1 S (Or.inr ⟨hz.1.1.2, hz.1.2, fun _ h => h⟩) hQ fuel listed a w (Region.free_spec hi hf) (by simpa using hr) (Or.inl ⟨hw, hy⟩) (Or.inr hS) (Or.inr hz.2) h
/-- Take number i first: it yields one value in every world. -/
theorem y_pure (i : Nat) {oi : Oper} {v : Value} {fuel : Nat} {listed : Array Bool} {a : Act} {w : World} (hi : ops[i]? = some oi)
    (hs : Region.noSelect ops = true) (hf : Region.free md ops listed i = true) (hr : (Region.ready md ops listed).contains i = true) (hz : (i != z) = true)
    (hQ : ∀ c a w, Q (.panic c) (a.put oi.dst v) w → Q (.panic c) a w) (hS : S w) (hw : Region.wanted oi (yielded ops a.tmps) = true) (hy : ∀ w, (execOp a.eval oi).run P w = .ok (.value v) w)
    (h : wpAnyY P md ops Q S z fuel (listed.setIfInBounds i true) (a.put oi.dst v) w) : wpAnyY P md ops Q S z (fuel + 1) listed a w :=
  wpAnyY_first hi (Region.noSelect_spec hs) (by simpa using hz) (fun _ => True) (Or.inl fun _ => trivial) hQ fuel listed a w (Region.free_spec hi hf) (by simpa using hr) (Or.inl ⟨hw, fun w _ => hy w⟩) (Or.inr hS) (Or.inl fun _ => trivial) h
/-- The one that may come up comes up. -/
theorem y_one (i : Nat) {oi : Oper} {fuel : Nat} {listed : Array Bool} {a : Act} {w : World} (hi : ops[i]? = some oi) (hr : Region.ready md ops listed = [i])
    (hw : Region.wanted oi (yielded ops a.tmps) = true)
    (h : ∀ K : Act → World → Prop, (∀ a' w', S w' → (S w' → wpAnyY P md ops Q S z fuel (listed.setIfInBounds i true) a' w') → K a' w') → oi.wp P a w K Q) : wpAnyY P md ops Q S z (fuel + 1) listed a w := by
  refine ⟨fun h0 => (by rw [hr] at h0; cases h0), fun j hj => ?_⟩
  rw [hr] at hj
  obtain rfl : j = i := by simpa using hj
  simp only [Go.wpOp, hi, hw, if_true]
  exact Or.inl (h _ fun a' w' hS hk => ⟨Or.inr hS, hk hS⟩)
/-- The store z comes up alone. -/
theorem y_last (i : Nat) {oi : Oper} {fuel : Nat} {listed : Array Bool} {a : Act} {w : World} (hi : ops[i]? = some oi) (hr : Region.ready md ops listed = [i])
    (hw : Region.wanted oi (yielded ops a.tmps) = true) (hz : (i == z) = true)
    (h : ∀ K : Act → World → Prop, (∀ a' w', wpAnyY P md ops Q S z fuel (listed.setIfInBounds i true) a' w' → K a' w') → oi.wp P a w K Q) : wpAnyY P md ops Q S z (fuel + 1) listed a w := by
  refine ⟨fun h0 => (by rw [hr] at h0; cases h0), fun j hj => ?_⟩
  rw [hr] at hj
  obtain rfl : j = i := by simpa using hj
  obtain rfl : j = z := by simpa using hz
  simp only [Go.wpOp, hi, hw, if_true]
  exact Or.inl (h _ fun a' w' hk => ⟨Or.inl (set_here _ _), hk⟩)
theorem y_done {listed : Array Bool} {a : Act} {w : World} (hr : Region.ready md ops listed = []) (h : Q .normal a w) :
    ∀ fuel, wpAnyY P md ops Q S z fuel listed a w
  | 0 => ⟨hr, h⟩
  | _ + 1 => ⟨fun _ => h, by rw [hr]; simp⟩
theorem y_begin (S : World → Prop) (z : Nat) {id : Nat} {a : Act} {w : World} (hm : P.follows .mixedOrders = true) (hS : S w.drew)
    (h : S w.drew → wpAnyY P .any ops Q S z ops.size (Array.replicate ops.size false) a w.drew) : (Code.region id ops true).wp P Q a w :=
  wp_region_any hm (wpAny_of_y _ _ _ _ (h hS))
end
end Go.Proofs.Ytpojkhjenbbodaa
