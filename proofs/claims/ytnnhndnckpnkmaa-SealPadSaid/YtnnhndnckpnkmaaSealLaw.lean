/-
  Sealing: what the plain words say. No program in sight, no conditions but those stated.
-/
import Derived.Test.YtnnhndnckpnkmaaSealOpen
import Derived.Test.YtnnhndnckpnkmaaHashByte
import Derived.Test.YtnnhndnckpnkmaaHashOnto
namespace Go.Proofs.Ytnnhndnckpnkmaa
open Go.RowKit

theorem digits (n : Nat) : ∀ x y : Nat, x < 256 ^ n → y < 256 ^ n → (∀ i, i < n → x / 256 ^ i % 256 = y / 256 ^ i % 256) → x = y := by
  induction n with
  | zero => intro x y hx hy _; simp at hx hy; omega
  | succ n ih =>
    intro x y hx hy h
    rw [Nat.pow_succ] at hx hy
    have h0 := h 0 (by omega)
    simp at h0
    have h1 := ih (x / 256) (y / 256) (by omega) (by omega) (fun i hi => by
      have := h (i + 1) (by omega)
      rw [Nat.pow_succ, Nat.mul_comm, ← Nat.div_div_eq_div_mul, ← Nat.div_div_eq_div_mul] at this
      exact this)
    omega
theorem tagB_get (x i : Nat) (h : i < 8) : (tagB x)[i]? = some (UInt8.ofNat (x / 256 ^ i)) := by
  unfold tagB
  rw [List.getElem?_mapIdx, List.getElem?_replicate, if_pos h]
  rfl
theorem tagB_inj (x y : Nat) (hx : x < 2305843009213693951) (hy : y < 2305843009213693951) (h : tagB x = tagB y) : x = y := by
  refine digits 8 x y (by omega) (by omega) fun i hi => ?_
  have h1 := tagB_get x i hi
  rw [h, tagB_get y i hi] at h1
  have h2 := congrArg UInt8.toNat (Option.some.inj h1)
  simpa [UInt8.toNat_ofNat'] using h2.symm
theorem tagN_lt (key : Nat) (a b : List UInt8) : tagN key a b < 2305843009213693951 := hof_lt _ _
theorem tag_same (key : Nat) (a b : List UInt8) (key' : Nat) (a' b' : List UInt8) : tagB (tagN key a b) = tagB (tagN key' a' b') ↔ tagN key a b = tagN key' a' b' :=
  ⟨tagB_inj _ _ (tagN_lt _ _ _) (tagN_lt _ _ _), fun h => by rw [h]⟩
theorem tag_key (key key' : Nat) (a b : List UInt8) : tagN key a b = tagN key' a b ↔ num key = num key' := hof_one sMac [] _ key key'
theorem tag_along (key : Nat) (a a' b : List UInt8) : tagN key a b = tagN key a' b ↔ hby sAlong a = hby sAlong a' := by
  have h := hof_one sMac [key] [hby sText b] (hby sAlong a) (hby sAlong a')
  rw [num_of_lt (hby_lt _ _), num_of_lt (hby_lt _ _)] at h
  exact h
theorem tag_text (key : Nat) (a b b' : List UInt8) : tagN key a b = tagN key a b' ↔ hby sText b = hby sText b' := by
  have h := hof_one sMac [key, hby sAlong a] [] (hby sText b) (hby sText b')
  rw [num_of_lt (hby_lt _ _), num_of_lt (hby_lt _ _)] at h
  exact h
theorem hby_set (s l : List UInt8) (k : Nat) (x y : UInt8) (hx : l[k]? = some x) (h : x ≠ y) : hby s l ≠ hby s (l.set k y) := by
  intro e
  have hk := (List.getElem?_eq_some_iff.1 hx).1
  have h1 := (hby_tells s l (l.set k y) (by simp) (k / 7) (by omega) (fun t ht => (List.getElem?_set_ne (by rintro rfl; exact ht rfl)).symm)).1 e
  have h2 : (l.set k y)[k]? = some y := List.getElem?_set_self hk
  rw [← h1, hx] at h2
  exact h (Option.some.inj h2)

theorem xor_twice (a b : UInt8) : a ^^^ b ^^^ b = a := by rw [UInt8.xor_assoc, UInt8.xor_self, UInt8.xor_zero]
theorem xorS_get (key : Nat) (b : List UInt8) (i : Nat) : (xorS key b)[i]? = b[i]?.map fun c => c ^^^ streamByte (padKey key) i := by
  unfold xorS
  rw [List.getElem?_mapIdx]
  rcases h : b[i]? with _ | c
  · rfl
  · have hi := (List.getElem?_eq_some_iff.1 h).1
    simp [stream, hi]
theorem xorS_xorS (key : Nat) (b : List UInt8) : xorS key (xorS key b) = b := by
  apply List.ext_getElem?
  intro i
  rw [xorS_get, xorS_get]
  rcases b[i]? with _ | c
  · rfl
  · simp [xor_twice]
theorem xorS_take (key : Nat) (b : List UInt8) (k : Nat) : xorS key (b.take k) = (xorS key b).take k := by
  apply List.ext_getElem?
  intro i
  rw [xorS_get, List.getElem?_take, List.getElem?_take, xorS_get]
  split <;> rfl
theorem padKey_num (key key' : Nat) (h : num key = num key') : padKey key = padKey key' := by
  unfold padKey hsec
  rw [hof_num sSeal [key] [key'] (by simp [h])]
theorem xorS_num (key key' : Nat) (b : List UInt8) (h : num key = num key') : xorS key b = xorS key' b := by
  unfold xorS
  rw [padKey_num key key' h]

theorem sealS_length (key : Nat) (a t : List UInt8) : (sealS key a t).length = t.length + 8 := by
  unfold sealS
  rw [List.length_append, xorS_length, tagB_length]
theorem openS_parts (key : Nat) (a c g : List UInt8) (hg : g.length = 8) : openS key a (c ++ g) = if tagB (tagN key a c) ≠ g then ([], 21) else (xorS key c, 0) := by
  unfold openS
  rw [List.length_append, hg, if_neg (by omega), Nat.add_sub_cancel, List.take_left, List.drop_left]
theorem open_seal (key : Nat) (a t : List UInt8) : openS key a (sealS key a t) = (t, 0) := by
  unfold sealS
  rw [openS_parts _ _ _ _ (tagB_length _), if_neg (by simp), xorS_xorS]
theorem open_short (key : Nat) (a b : List UInt8) : (openS key a b).2 = 9 ↔ b.length < 8 := by
  unfold openS
  by_cases h : b.length < 8
  · simp [h]
  · rw [if_neg h]
    split <;> simp [h]
theorem open_short1 (key : Nat) (a b : List UInt8) (h : b.length < 8) : openS key a b = ([], 9) := by
  unfold openS
  rw [if_pos h]
theorem open_errs (key : Nat) (a b : List UInt8) : (openS key a b = ([], 9) ∨ openS key a b = ([], 21)) ∨ ∃ t, openS key a b = (t, 0) ∧ sealS key a t = b := by
  unfold openS
  by_cases h : b.length < 8
  · left; left; rw [if_pos h]
  · rw [if_neg h]
    by_cases h2 : tagB (tagN key a (b.take (b.length - 8))) = b.drop (b.length - 8)
    · right
      refine ⟨_, by rw [if_neg (by simpa using h2)], ?_⟩
      unfold sealS
      rw [xorS_xorS, h2, List.take_append_drop]
    · left; right; rw [if_pos h2]
theorem open_key (key key' : Nat) (a t : List UInt8) (h : num key = num key') : openS key' a (sealS key a t) = (t, 0) := by
  have : sealS key a t = sealS key' a t := by
    unfold sealS
    rw [xorS_num key key' t h, (tag_key key key' a _).2 h]
  rw [this, open_seal]
theorem open_other_key (key key' : Nat) (a t : List UInt8) (h : num key ≠ num key') : openS key' a (sealS key a t) = ([], 21) := by
  unfold sealS
  rw [openS_parts _ _ _ _ (tagB_length _), if_pos]
  intro e
  exact h ((tag_key key key' a _).1 ((tag_same _ _ _ _ _ _).1 e).symm)
theorem open_along (key : Nat) (a a' t : List UInt8) (h : hby sAlong a ≠ hby sAlong a') : openS key a' (sealS key a t) = ([], 21) := by
  unfold sealS
  rw [openS_parts _ _ _ _ (tagB_length _), if_pos]
  intro e
  exact h ((tag_along key a a' _).1 ((tag_same _ _ _ _ _ _).1 e).symm)
theorem open_turned (key : Nat) (a t : List UInt8) (k : Nat) (x y : UInt8) (hx : (sealS key a t)[k]? = some x) (h : x ≠ y) : openS key a ((sealS key a t).set k y) = ([], 21) := by
  unfold sealS at *
  by_cases hk : k < (xorS key t).length
  · rw [List.set_append_left _ _ hk, openS_parts _ _ _ _ (tagB_length _), if_pos]
    intro e
    rw [List.getElem?_append_left hk] at hx
    exact hby_set sText _ k x y hx h ((tag_text key a _ _).1 ((tag_same _ _ _ _ _ _).1 e).symm)
  · rw [List.set_append_right _ _ (by omega), openS_parts _ _ _ _ (by rw [List.length_set, tagB_length]), if_pos]
    intro e
    rw [List.getElem?_append_right (by omega)] at hx
    have hk2 := (List.getElem?_eq_some_iff.1 hx).1
    have h2 : ((tagB (tagN key a (xorS key t))).set (k - (xorS key t).length) y)[k - (xorS key t).length]? = some y := List.getElem?_set_self hk2
    rw [← e, hx] at h2
    exact h (Option.some.inj h2)
theorem seal_get (key : Nat) (a t : List UInt8) (i : Nat) (h : i < t.length) : (sealS key a t)[i]? = t[i]?.map fun c => c ^^^ streamByte (padKey key) i := by
  unfold sealS
  rw [List.getElem?_append_left (by rw [xorS_length]; exact h), xorS_get]
theorem seal_take (key : Nat) (a t : List UInt8) (k : Nat) (h : k ≤ t.length) : (sealS key a t).take k = (sealS key a (t.take k)).take k := by
  unfold sealS
  rw [List.take_append_of_le_length (by rw [xorS_length]; exact h), List.take_append_of_le_length (by rw [xorS_length, List.length_take]; omega), xorS_take, List.take_take, Nat.min_self]
theorem xor_pad (a b s : UInt8) : (a ^^^ s) ^^^ (b ^^^ s) = a ^^^ b := by
  rw [UInt8.xor_comm b s, UInt8.xor_assoc, ← UInt8.xor_assoc s s b, UInt8.xor_self, UInt8.zero_xor]
theorem lives_plain : openS 5 [99] (sealS 5 [97] [98]) = ([], 21) ∧ openS 6 [97] (sealS 5 [97] [98]) = ([], 21) :=
  ⟨open_along _ _ _ _ (by decide +kernel), open_other_key _ _ _ _ (by decide)⟩
end Go.Proofs.Ytnnhndnckpnkmaa
