/-
  Plain lists: bytes of one length that differ within one word alone have unlike sums, and so have labels. No conditions.
-/
import Derived.Test.YtnnhndnckpnkmaaHashOnto
import Derived.Test.YtnnhndnckpnkmaaBytes
namespace Go.Proofs.Ytnnhndnckpnkmaa

theorem wordAt_same (a c : List UInt8) (i j : Nat) (hij : i ≠ j) (h : ∀ t, t / 7 ≠ j → a[t]? = c[t]?) : wordAt a i = wordAt c i := by
  unfold wordAt
  congr 1
  apply List.ext_getElem?
  intro t
  simp only [List.getElem?_take, List.getElem?_drop]
  split
  · exact h _ (by omega)
  · rfl
theorem words_diff (a c : List UInt8) (hl : a.length = c.length) (j : Nat) (hj : 7 * j < a.length) (h : ∀ t, t / 7 ≠ j → a[t]? = c[t]?) : ∃ p q, wordsOf a = p ++ wordAt a j :: q ∧ wordsOf c = p ++ wordAt c j :: q := by
  have hja : j < (wordsOf a).length := by rw [wordsOf_length]; omega
  have hjc : j < (wordsOf c).length := by rw [wordsOf_length]; omega
  have get : ∀ (x : List UInt8) (i : Nat) (hi : i < (wordsOf x).length), (wordsOf x)[i] = wordAt x i := by intro x i hi; simp [wordsOf]
  refine ⟨(wordsOf a).take j, (wordsOf a).drop (j + 1), ?_, ?_⟩
  · rw [← get a j hja, ← List.drop_eq_getElem_cons hja, List.take_append_drop]
  · have e1 : (wordsOf a).take j = (wordsOf c).take j := by
      apply List.ext_getElem?
      intro i
      simp only [List.getElem?_take]
      split
      · rw [List.getElem?_eq_getElem (by omega), List.getElem?_eq_getElem (by omega), get, get, wordAt_same a c i j (by omega) h]
      · rfl
    have e2 : (wordsOf a).drop (j + 1) = (wordsOf c).drop (j + 1) := by
      apply List.ext_getElem?
      intro i
      simp only [List.getElem?_drop]
      by_cases hi : j + 1 + i < (wordsOf a).length
      · rw [List.getElem?_eq_getElem hi, List.getElem?_eq_getElem (by rw [wordsOf_length] at hi ⊢; omega), get, get, wordAt_same a c _ j (by omega) h]
      · rw [List.getElem?_eq_none (by omega), List.getElem?_eq_none (by rw [wordsOf_length] at hi ⊢; omega)]
    rw [e1, e2, ← get c j hjc, ← List.drop_eq_getElem_cons hjc, List.take_append_drop]
theorem word_tells (a c : List UInt8) (hl : a.length = c.length) (j : Nat) (h : ∀ t, t / 7 ≠ j → a[t]? = c[t]?) : num (wordAt a j) = num (wordAt c j) ↔ a = c := by
  have b1 := wordAt_lt a j
  have b2 := wordAt_lt c j
  rw [num_of_lt (by omega), num_of_lt (by omega)]
  constructor
  · intro e
    unfold wordAt at e
    have e2 := le_inj _ _ (by simp [List.length_take, List.length_drop, hl]) e
    apply List.ext_getElem?
    intro t
    by_cases ht : t / 7 = j
    · have e3 := congrArg (fun x => x[t - 7 * j]?) e2
      simp only [List.getElem?_take, List.getElem?_drop] at e3
      rw [if_pos (by omega), if_pos (by omega), show 7 * j + (t - 7 * j) = t by omega] at e3
      exact e3
    · exact h t ht
  · intro e; rw [e]
/-- One word of bytes tells. -/
theorem hby_tells (s a c : List UInt8) (hl : a.length = c.length) (j : Nat) (hj : 7 * j < a.length) (h : ∀ t, t / 7 ≠ j → a[t]? = c[t]?) : hby s a = hby s c ↔ a = c := by
  obtain ⟨p, q, e1, e2⟩ := words_diff a c hl j hj h
  unfold hby
  rw [e1, e2, hl, List.append_assoc, List.append_assoc, List.cons_append, List.cons_append, hof_one]
  exact word_tells a c hl j h
theorem label_tells (a c : List UInt8) (l : List Nat) (hl : a.length = c.length) (j : Nat) (hj : 7 * j < a.length) (h : ∀ t, t / 7 ≠ j → a[t]? = c[t]?) : hof a l = hof c l ↔ a = c := by
  obtain ⟨p, q, e1, e2⟩ := words_diff a c hl j hj h
  unfold hof allOf
  rw [e1, e2, hl]
  simp only [List.append_assoc, List.cons_append]
  rw [hrun_one]
  exact word_tells a c hl j h
end Go.Proofs.Ytnnhndnckpnkmaa
