/-
  Plain numbers: a sum tells each one of its numbers (modulo the prime), where the others are the same. No conditions.
-/
import Derived.Test.YtnnhndnckpnkmaaFermat
import Derived.Test.YtnnhndnckpnkmaaOf
namespace Go.Proofs.Ytnnhndnckpnkmaa

theorem num_num (a : Nat) : num (num a) = num a := num_of_lt (num_lt a)
theorem addm_left (a b c : Nat) (h : addm a c = addm b c) : num a = num b := by unfold addm num at *; omega
theorem addm_right (a b c : Nat) (h : addm c a = addm c b) : num a = num b := by unfold addm num at *; omega
theorem addm_lt (a b : Nat) : addm a b < 2305843009213693951 := num_lt _
theorem hstep_s (s t k x : Nat) (h : hstep s k x = hstep t k x) : num s = num t := by
  unfold hstep at h
  have h1 := pow17_inj _ _ h
  rw [num_of_lt (addm_lt _ _), num_of_lt (addm_lt _ _)] at h1
  have h2 := addm_left _ _ _ h1
  rw [num_of_lt (mulm_lt _ _), num_of_lt (mulm_lt _ _)] at h2
  exact mul37_inj _ _ h2
theorem hstep_x (s k x y : Nat) (h : hstep s k x = hstep s k y) : num x = num y := by
  unfold hstep at h
  have h1 := pow17_inj _ _ h
  rw [num_of_lt (addm_lt _ _), num_of_lt (addm_lt _ _)] at h1
  have h2 := addm_right _ _ _ h1
  rw [num_num, num_num] at h2
  unfold num at *
  omega
theorem hstep_num (s k x : Nat) : hstep s k (num x) = hstep s k x := by
  unfold hstep
  congr 2
  unfold num
  omega
theorem hstep_congr (s k x y : Nat) (h : num x = num y) : hstep s k x = hstep s k y := by rw [← hstep_num s k x, ← hstep_num s k y, h]
theorem hrun_s (l : List Nat) : ∀ s t k, s < 2305843009213693951 → t < 2305843009213693951 → hrun s k l = hrun t k l → s = t := by
  induction l with
  | nil => intro s t k _ _ h; exact h
  | cons x l ih =>
    intro s t k hs ht h
    have h1 := hstep_s _ _ _ _ (ih _ _ _ (hstep_lt _ _ _) (hstep_lt _ _ _) h)
    rwa [num_of_lt hs, num_of_lt ht] at h1
theorem hrun_one (p q : List Nat) (x y s k : Nat) : hrun s k (p ++ x :: q) = hrun s k (p ++ y :: q) ↔ num x = num y := by
  rw [hrun_append, hrun_append]
  simp only [hrun]
  constructor
  · intro h
    exact hstep_x _ _ _ _ (hrun_s _ _ _ _ (hstep_lt _ _ _) (hstep_lt _ _ _) h)
  · intro h
    rw [hstep_congr _ _ _ _ h]
/-- One number tells. -/
theorem hof_one (s : List UInt8) (a b : List Nat) (x y : Nat) : hof s (a ++ x :: b) = hof s (a ++ y :: b) ↔ num x = num y := by
  unfold hof allOf
  simp only [List.map_append, List.map_cons, List.length_append, List.length_cons]
  have e : ∀ z, wordsOf s ++ [a.length + (b.length + 1)] ++ (a.map num ++ num z :: b.map num) ++ [0] = (wordsOf s ++ [a.length + (b.length + 1)] ++ a.map num) ++ num z :: (b.map num ++ [0]) := by
    intro z; simp
  rw [e, e, hrun_one, num_num, num_num]
theorem hof_set (s : List UInt8) (l : List Nat) (k x y : Nat) (hx : l[k]? = some x) : hof s l = hof s (l.set k y) ↔ num x = num y := by
  have hk := (List.getElem?_eq_some_iff.1 hx).1
  have e1 : l = l.take k ++ x :: l.drop (k + 1) := by
    rw [← (List.getElem?_eq_some_iff.1 hx).2, ← List.drop_eq_getElem_cons hk, List.take_append_drop]
  have e2 : l.set k y = l.take k ++ y :: l.drop (k + 1) := by rw [List.set_eq_take_append_cons_drop, if_pos hk]
  rw [e2]
  conv => lhs; lhs; rw [e1]
  exact hof_one s _ _ x y
/-- Numbers count modulo the prime alone. -/
theorem hof_num (s : List UInt8) (a b : List Nat) (h : a.map num = b.map num) : hof s a = hof s b := by
  unfold hof allOf
  have hl : a.length = b.length := by have := congrArg List.length h; simpa using this
  rw [h, hl]

theorem le_inj : ∀ (a b : List UInt8), a.length = b.length → le a = le b → a = b
  | [], [], _, _ => rfl
  | [], _ :: _, h, _ => by simp at h
  | _ :: _, [], h, _ => by simp at h
  | c :: a, d :: b, h, e => by
    have hc := c.toNat_lt
    have hd := d.toNat_lt
    simp only [le] at e
    have h1 : c.toNat = d.toNat := by omega
    have h2 : le a = le b := by omega
    rw [UInt8.toNat_inj.1 h1, le_inj a b (by simpa using h) h2]
end Go.Proofs.Ytnnhndnckpnkmaa
