/-
  What is said of bytes that are cut: plain laws. No program in sight. No conditions.
-/
import Derived.Test.YtllpeenjfjobaaaRefCut
namespace Go.Proofs.Ytllpeenjfjobaaa
open Go.RowKit

theorem ends_long {l : List UInt8} (h : 64 ≤ l.length) : endsB l = true := by unfold endsB; rw [if_pos h]
theorem ends_short {l : List UInt8} (h : l.length < 8) : endsB l = false := by unfold endsB; rw [if_neg (by omega), if_pos h]

theorem cutGo_head (r : List UInt8) : ∀ cur, r ≠ [] → ∃ j, 0 < j ∧ j ≤ r.length ∧ cutGo cur r = (cur ++ r.take j) :: cutL (r.drop j) ∧ (j = r.length ∨ endsB (cur ++ r.take j) = true) ∧ ∀ i, 0 < i → i < j → endsB (cur ++ r.take i) = false := by
  induction r with
  | nil => intro cur h; exact (h rfl).elim
  | cons b r ih =>
    intro cur _
    by_cases hb : (endsB (cur ++ [b]) || r.isEmpty) = true
    · refine ⟨1, by omega, by simp, ?_, ?_, fun i h1 h2 => by omega⟩
      · rw [cutGo, if_pos hb]; simp [cutL]
      · simp only [Bool.or_eq_true, List.isEmpty_iff] at hb
        rcases hb with h | h
        · exact Or.inr (by simpa using h)
        · subst h; exact Or.inl rfl
    · have hb2 := hb
      simp only [Bool.or_eq_true, List.isEmpty_iff, not_or, Bool.not_eq_true] at hb
      obtain ⟨j, h1, h2, h3, h4, h5⟩ := ih (cur ++ [b]) hb.2
      refine ⟨j + 1, by omega, by simp; omega, ?_, ?_, ?_⟩
      · rw [cutGo, if_neg hb2, h3]; simp
      · rcases h4 with h | h
        · exact Or.inl (by simp [h])
        · exact Or.inr (by simpa using h)
      · intro i hi1 hi2
        cases i with
        | zero => omega
        | succ i =>
          by_cases hi0 : i = 0
          · subst hi0; simpa using hb.1
          · simpa using h5 i (by omega) (by omega)

theorem cut_head {l : List UInt8} (h : l ≠ []) : ∃ j, 0 < j ∧ j ≤ l.length ∧ j ≤ 64 ∧ cutL l = l.take j :: cutL (l.drop j) ∧ (j = l.length ∨ endsB (l.take j) = true) ∧ ∀ i, 0 < i → i < j → endsB (l.take i) = false := by
  obtain ⟨j, h1, h2, h3, h4, h5⟩ := cutGo_head l [] h
  refine ⟨j, h1, h2, ?_, by simpa [cutL] using h3, by simpa using h4, by simpa using h5⟩
  apply Nat.le_of_not_lt
  intro hj
  have := h5 64 (by omega) hj
  rw [List.nil_append, ends_long (by rw [List.length_take]; omega)] at this
  cases this

theorem cut_nil : cutL [] = [] := rfl
/-- Where a first chunk may end, it ends. -/
theorem cut_first {l : List UInt8} {j : Nat} (h1 : 0 < j) (h2 : j ≤ l.length) (h4 : j = l.length ∨ endsB (l.take j) = true) (h5 : ∀ i, 0 < i → i < j → endsB (l.take i) = false) : cutL l = l.take j :: cutL (l.drop j) := by
  obtain ⟨k, k1, k2, _, k3, k4, k5⟩ := cut_head (l := l) (by intro h; subst h; simp at h2; omega)
  have : j = k := by
    rcases Nat.lt_trichotomy j k with h | h | h
    · have e := k5 j h1 h
      rcases h4 with h' | h'
      · omega
      · rw [e] at h'; cases h'
    · exact h
    · have e := h5 k k1 h
      rcases k4 with h' | h'
      · omega
      · rw [e] at h'; cases h'
  subst this
  exact k3

theorem cut_join (l : List UInt8) : (cutL l).flatten = l := by
  induction hn : l.length using Nat.strongRecOn generalizing l with
  | ind n ih =>
    by_cases h : l = []
    · subst h; rfl
    · obtain ⟨j, h1, h2, _, h3, _⟩ := cut_head h
      rw [h3, List.flatten_cons, ih (l.drop j).length (by rw [List.length_drop]; omega) _ rfl, List.take_append_drop]

theorem cut_count (l : List UInt8) : (cutL l).length ≤ l.length ∧ l.length ≤ 64 * (cutL l).length := by
  induction hn : l.length using Nat.strongRecOn generalizing l with
  | ind n ih =>
    by_cases h : l = []
    · subst h; simp at hn; subst hn; simp [cut_nil]
    · obtain ⟨j, h1, h2, h64, h3, _⟩ := cut_head h
      have := ih (l.drop j).length (by rw [List.length_drop]; omega) (l.drop j) rfl
      rw [List.length_drop] at this
      rw [h3, List.length_cons]
      omega

/-- One chunk. -/
def Chunk (c : List UInt8) : Prop := 0 < c.length ∧ c.length ≤ 64 ∧ ∀ i, 0 < i → i < c.length → endsB (c.take i) = false
theorem cut_chunk (l : List UInt8) : ∀ c ∈ cutL l, Chunk c := by
  induction hn : l.length using Nat.strongRecOn generalizing l with
  | ind n ih =>
    by_cases h : l = []
    · subst h; intro c hc; cases hc
    · obtain ⟨j, h1, h2, h64, h3, _, h5⟩ := cut_head h
      intro c hc
      rw [h3, List.mem_cons] at hc
      rcases hc with rfl | hc
      · refine ⟨by rw [List.length_take]; omega, by rw [List.length_take]; omega, fun i i1 i2 => ?_⟩
        rw [List.length_take] at i2
        rw [List.take_take, show min i j = i by omega]
        exact h5 i i1 (by omega)
      · exact ih (l.drop j).length (by rw [List.length_drop]; omega) _ rfl c hc
theorem Chunk.one {c : List UInt8} (h : Chunk c) : cutL c = [c] := by
  have := cut_first (l := c) (j := c.length) h.1 (Nat.le_refl _) (Or.inl rfl) h.2.2
  rw [this, List.take_length, List.drop_length]
  rfl
theorem cut_ends (l : List UInt8) : ∀ (i : Nat) c, i + 1 < (cutL l).length → (cutL l)[i]? = some c → endsB c = true := by
  induction hn : l.length using Nat.strongRecOn generalizing l with
  | ind n ih =>
    by_cases h : l = []
    · subst h; intro i c hi; simp [cut_nil] at hi
    · obtain ⟨j, h1, h2, h64, h3, h4, h5⟩ := cut_head h
      intro i c hi hc
      rw [h3] at hi hc
      cases i with
      | zero =>
        simp at hc
        subst hc
        rcases h4 with h4 | h4
        · rw [h4, List.drop_length, cut_nil] at hi; simp at hi
        · exact h4
      | succ i =>
        simp at hi hc
        exact ih (l.drop j).length (by rw [List.length_drop]; omega) _ rfl i c hi hc
theorem ends_len {c : List UInt8} (h : endsB c = true) : 8 ≤ c.length := by
  apply Nat.le_of_not_lt
  intro hc
  rw [ends_short hc] at h
  cases h

/-- What stands behind an end changes nothing ahead of it. -/
theorem cut_ahead (x : List UInt8) : ∀ (a : List UInt8) (i : Nat) c, i + 1 < (cutL x).length → (cutL x)[i]? = some c → (cutL (x ++ a))[i]? = some c := by
  induction hn : x.length using Nat.strongRecOn generalizing x with
  | ind n ih =>
    intro a i c hi hc
    by_cases h : x = []
    · subst h; simp [cut_nil] at hi
    · obtain ⟨j, h1, h2, h64, h3, h4, h5⟩ := cut_head h
      rw [h3] at hi hc
      have hj : j < x.length := by
        apply Nat.lt_of_not_le
        intro hh
        rw [List.drop_of_length_le hh, cut_nil] at hi
        simp at hi
      have h6 : cutL (x ++ a) = (x ++ a).take j :: cutL ((x ++ a).drop j) := by
        refine cut_first h1 (by rw [List.length_append]; omega) (Or.inr ?_) (fun i i1 i2 => ?_)
        · rw [List.take_append_of_le_length (by omega)]
          exact h4.resolve_left (by omega)
        · rw [List.take_append_of_le_length (by omega)]
          exact h5 i i1 i2
      rw [h6, List.take_append_of_le_length (by omega), List.drop_append_of_le_length (by omega)]
      cases i with
      | zero => simpa using hc
      | succ i =>
        simp at hi hc ⊢
        exact ih (x.drop j).length (by rw [List.length_drop]; omega) _ rfl a i c hi hc

/-- Where chunks begin, from a place on, and where they are at their end. -/
def startsOf (n : Nat) : List (List UInt8) → List Nat
  | [] => [n]
  | c :: L => n :: startsOf (n + c.length) L
theorem startsOf_shift (L : List (List UInt8)) : ∀ n k, k ∈ startsOf n L ↔ n ≤ k ∧ k - n ∈ startsOf 0 L := by
  induction L with
  | nil => intro n k; simp [startsOf]; omega
  | cons c L ih =>
    intro n k
    simp only [startsOf, List.mem_cons, Nat.zero_add]
    rw [ih (n + c.length) k, ih c.length (k - n)]
    have e : k - n - c.length = k - (n + c.length) := by omega
    rw [e]
    constructor
    · rintro (h | ⟨h1, h2⟩)
      · exact ⟨by omega, Or.inl (by omega)⟩
      · exact ⟨by omega, Or.inr ⟨by omega, h2⟩⟩
    · rintro ⟨h0, h | ⟨h1, h2⟩⟩
      · exact Or.inl (by omega)
      · exact Or.inr ⟨by omega, h2⟩
/-- Is a place one where bytes are cut? -/
def isCut (l : List UInt8) (k : Nat) : Prop := k ∈ startsOf 0 (cutL l)
theorem isCut_head {l : List UInt8} {j : Nat} (h : cutL l = l.take j :: cutL (l.drop j)) (hj : j ≤ l.length) (k : Nat) : isCut l k ↔ k = 0 ∨ (j ≤ k ∧ isCut (l.drop j) (k - j)) := by
  unfold isCut
  rw [h]
  simp only [startsOf, List.mem_cons, Nat.zero_add]
  rw [startsOf_shift, List.length_take, show min j l.length = j by omega]
theorem isCut_zero (l : List UInt8) : isCut l 0 := by
  unfold isCut
  cases cutL l <;> simp [startsOf]
/-- Behind a cut it is cut as what is left is. -/
theorem isCut_behind (l : List UInt8) : ∀ k m, isCut l k → (isCut l (k + m) ↔ isCut (l.drop k) m) := by
  induction hn : l.length using Nat.strongRecOn generalizing l with
  | ind n ih =>
    intro k m hk
    by_cases h0 : k = 0
    · subst h0; simp
    · by_cases h : l = []
      · subst h
        unfold isCut at hk
        simp [cut_nil, startsOf] at hk
        exact (h0 hk).elim
      · obtain ⟨j, h1, h2, h64, h3, h4, h5⟩ := cut_head h
        rw [isCut_head h3 h2] at hk ⊢
        obtain ⟨k1, k2⟩ := hk.resolve_left h0
        have := ih (l.drop j).length (by rw [List.length_drop]; omega) (l.drop j) rfl (k - j) m k2
        rw [List.drop_drop, show j + (k - j) = k by omega] at this
        rw [← this, show k - j + m = k + m - j by omega]
        constructor
        · rintro (h | ⟨_, h⟩)
          · omega
          · exact h
        · intro h; exact Or.inr ⟨by omega, h⟩
theorem isCut_end (l : List UInt8) : isCut l l.length := by
  induction hn : l.length using Nat.strongRecOn generalizing l with
  | ind n ih =>
    by_cases h : l = []
    · subst h; simp at hn; subst hn; exact isCut_zero _
    · obtain ⟨j, h1, h2, h64, h3, h4, h5⟩ := cut_head h
      rw [isCut_head h3 h2]
      have := ih (l.drop j).length (by rw [List.length_drop]; omega) (l.drop j) rfl
      rw [List.length_drop, hn] at this
      exact Or.inr ⟨by omega, this⟩
/-- Cut at one place of what both end with, they are cut alike from there on. -/
theorem cut_alike (x y e : List UInt8) (k m : Nat) (h1 : isCut (x ++ e) (x.length + k)) (h2 : isCut (y ++ e) (y.length + k)) : isCut (x ++ e) (x.length + (k + m)) ↔ isCut (y ++ e) (y.length + (k + m)) := by
  rw [← Nat.add_assoc, ← Nat.add_assoc, isCut_behind _ _ m h1, isCut_behind _ _ m h2]
  have e1 : ∀ z : List UInt8, (z ++ e).drop (z.length + k) = e.drop k := fun z => by rw [← List.drop_drop, List.drop_left]
  rw [e1, e1]
end Go.Proofs.Ytllpeenjfjobaaa
