/-
  What the reference finds of frames is what the program finds: plain laws. Conditions: none but those that are named.
-/
import Derived.Test.YtpojkhjenbbodaaRefFrames
import Derived.Test.YtpojkhjenbbodaaRounds29
namespace Go.Proofs.Ytpojkhjenbbodaa
open Go.RowKit

theorem putB_le : ∀ l : List UInt8, putB (le l) l.length = l := by
  intro l
  induction l with
  | nil => rfl
  | cons c l ih =>
    rw [List.length_cons, putB_succ]
    have h1 : le (c :: l) / 256 = le l := by show (c.toNat + 256 * le l) / 256 = le l; have := c.toNat_lt; omega
    have h2 : UInt8.ofNat (le (c :: l)) = c := by
      apply UInt8.toNat_inj.1
      rw [UInt8.toNat_ofNat']
      show (c.toNat + 256 * le l) % 256 = c.toNat
      have := c.toNat_lt
      omega
    rw [h1, h2, ih]
theorem take_cut (b : List UInt8) (i k : Nat) : b.take (i + k) = b.take i ++ cut b i k := by
  unfold cut
  rw [List.take_add]
theorem longR_neg {b : List UInt8} (h : longR b < 0) : b.length < 2 ∨ le (cut b 0 2) = 0 := by
  unfold longR at h
  split at h
  · left; assumption
  · right
    unfold cut
    rw [List.drop_zero]
    omega
theorem longR_pos {b : List UInt8} (h : ¬ longR b < 0) : 2 ≤ b.length ∧ (le (cut b 0 2) : Int) = longR b + 1 := by
  unfold longR at h ⊢
  split at h
  · omega
  · rename_i h2
    rw [if_neg h2]
    unfold cut
    rw [List.drop_zero]
    omega
theorem longR_lt (b : List UInt8) : longR b < 65536 := by
  unfold longR
  split
  · omega
  · rename_i h
    have h3 := le_lt (b.take 2)
    rw [List.length_take, show min 2 b.length = 2 by omega] at h3
    omega

/-- A record's frame stands at the beginning. -/
theorem rec_begins {b : List UInt8} {k : Nat} (h2 : 2 ≤ b.length) (hK : le (cut b 0 2) = k + 1) (hl : 10 + k ≤ b.length) : (b.take (k + 10) = recF (cut b 2 k)) ↔ cut b (2 + k) 8 = recSum (cut b 2 k) := by
  have hy : (cut b 2 k).length = k := cut_length _ _ _ (by omega)
  have h0 : cut b 0 2 = putB (k + 1) 2 := by rw [← hK]; have := putB_le (cut b 0 2); rw [cut_length b 0 2 (by omega)] at this; exact this.symm
  have e1 : b.take (k + 10) = cut b 0 2 ++ (cut b 2 k ++ cut b (2 + k) 8) := by
    rw [show k + 10 = 2 + k + 8 by omega, take_cut, take_cut, List.append_assoc]
    congr 1
  rw [e1]
  unfold recF
  rw [hy, h0, List.append_assoc]
  simp
theorem key_begins {b : List UInt8} {k : Nat} (h2 : 2 ≤ b.length) (hK : le (cut b 0 2) = k + 1) (hl : 14 + k ≤ b.length) : (b.take (k + 14) = keyF (le (cut b 2 4)) (cut b 6 k)) ↔ cut b (6 + k) 8 = keySum (le (cut b 2 4)) (cut b 6 k) := by
  have hy : (cut b 6 k).length = k := cut_length _ _ _ (by omega)
  have h0 : cut b 0 2 = putB (k + 1) 2 := by rw [← hK]; have := putB_le (cut b 0 2); rw [cut_length b 0 2 (by omega)] at this; exact this.symm
  have h4 : putB (le (cut b 2 4)) 4 = cut b 2 4 := by have := putB_le (cut b 2 4); rw [cut_length b 2 4 (by omega)] at this; exact this
  have e1 : b.take (k + 14) = cut b 0 2 ++ (cut b 2 4 ++ (cut b 6 k ++ cut b (6 + k) 8)) := by
    rw [show k + 14 = 2 + 4 + k + 8 by omega, take_cut, take_cut, take_cut, List.append_assoc, List.append_assoc]
    congr 1
  rw [e1]
  unfold keyF
  rw [hy, h0, h4, List.append_assoc, List.append_assoc]
  simp

/-- What parse finds at the beginning. -/
theorem parse_rec0 (b : List UInt8) : parse 0 smRec b 0 = if longR b < 0 ∨ (b.length : Int) < 10 + longR b then none
    else if b.take ((longR b).toNat + 10) = recF (cut b 2 (longR b).toNat) then some ([], cut b 2 (longR b).toNat, (longR b).toNat + 10) else none := by
  by_cases h : longR b < 0
  · rw [if_pos (Or.inl h)]
    unfold parse
    rw [if_pos]
    rcases longR_neg h with h | h
    · left; omega
    · right; exact h
  · obtain ⟨h2, hK⟩ := longR_pos h
    obtain ⟨k, hk⟩ : ∃ k : Nat, longR b = (k : Int) := ⟨(longR b).toNat, by omega⟩
    rw [hk] at hK h ⊢
    have hK' : le (cut b 0 2) = k + 1 := by omega
    by_cases hl : (b.length : Int) < 10 + (k : Int)
    · rw [if_pos (Or.inr hl)]
      unfold parse
      rw [if_neg (by omega), hK', if_pos (by omega)]
    · rw [if_neg (by omega)]
      unfold parse
      rw [if_neg (by omega), hK', if_neg (by omega)]
      have hb := rec_begins h2 hK' (by omega)
      simp only [Nat.add_sub_cancel, Int.toNat_natCast, Nat.zero_add, Nat.add_zero, smRec]
      have e0 : cut b 2 0 = [] := by unfold cut; simp
      by_cases hs : cut b (2 + k) 8 = recSum (cut b 2 k)
      · rw [if_pos hs, if_pos (hb.2 hs), e0]
        congr 3
        omega
      · rw [if_neg hs, if_neg (fun h => hs (hb.1 h))]
theorem plOf_spec (l : List UInt8) (a z : Nat) (hz : (cut l a z).length = z) : plOf l a z = if longR (cut l a z) < 0 ∨ (z : Int) < 14 + longR (cut l a z) then (0, [])
    else if 0 < le (cut (cut l a z) 2 4) ∧ (cut l a z).take ((longR (cut l a z)).toNat + 14) = keyF (le (cut (cut l a z) 2 4)) (cut (cut l a z) 6 (longR (cut l a z)).toNat) then (le (cut (cut l a z) 2 4), cut (cut l a z) 6 (longR (cut l a z)).toNat) else (0, []) := by
  unfold plOf
  generalize cut l a z = b at *
  by_cases h : longR b < 0
  · rw [if_pos (Or.inl h)]
    have : parse 4 smKey b 0 = none := by
      unfold parse
      rw [if_pos]
      rcases longR_neg h with h | h
      · left; omega
      · right; exact h
    rw [this]
  · obtain ⟨h2, hK⟩ := longR_pos h
    obtain ⟨k, hk⟩ : ∃ k : Nat, longR b = (k : Int) := ⟨(longR b).toNat, by omega⟩
    rw [hk] at hK h ⊢
    have hK' : le (cut b 0 2) = k + 1 := by omega
    by_cases hl : (z : Int) < 14 + (k : Int)
    · rw [if_pos (Or.inr hl)]
      have : parse 4 smKey b 0 = none := by
        unfold parse
        rw [if_neg (by omega), hK', if_pos (by omega)]
      rw [this]
    · rw [if_neg (by omega)]
      have hb := key_begins h2 hK' (by omega)
      have hp : parse 4 smKey b 0 = if cut b (6 + k) 8 = keySum (le (cut b 2 4)) (cut b 6 k) then some (cut b 2 4, cut b 6 k, 6 + k + 8) else none := by
        unfold parse
        rw [if_neg (by omega), hK', if_neg (by omega)]
        simp only [Nat.add_sub_cancel, Nat.zero_add, smKey]
      rw [hp]
      simp only [Int.toNat_natCast]
      by_cases hs : cut b (6 + k) 8 = keySum (le (cut b 2 4)) (cut b 6 k)
      · rw [if_pos hs]
        by_cases ht : le (cut b 2 4) = 0
        · rw [if_neg (by omega)]
          simp only [if_pos ht]
        · rw [if_pos ⟨by omega, hb.2 hs⟩]
          simp only [if_neg ht]
      · rw [if_neg hs, if_neg (fun h => hs (hb.1 h.2))]
end Go.Proofs.Ytpojkhjenbbodaa
