/-
  Plain numbers: what boxes are good for. No conditions.
-/
import Derived.Test.YtaennfafbohegaaBoxOpen
import Derived.Test.YtaennfafbohegaaRefBox
import Derived.Test.YtaennfafbohegaaHashOnto
namespace Go.Proofs.Ytaennfafbohegaa
open Go.RowKit

theorem pow_swap (a o : Nat) : powm (powm 37 o) a = powm (powm 37 a) o := by rw [← powm_mul, ← powm_mul, Nat.mul_comm]
theorem sub_add (n m : Nat) (hn : n < 2305843009213693951) : subm (addm n m) m = n := by unfold subm addm num; omega
theorem mkBox_ok (to once v : Nat) (h : U64 to) : (mkBox to once v).ok := by
  have a := powm_lt 37 once
  have b := num_lt (num v + num (hof sMask [powm to once]))
  have c := hof_lt sTag [powm to once, addm v (hof sMask [powm to once]), to]
  unfold mkBox withK Bx.ok
  refine ⟨h, ?_, ?_, ?_⟩
  · show U64 (powm 37 once); unfold U64; omega
  · show U64 (addm v (hof sMask [powm to once])); unfold addm U64; omega
  · show U64 (hof sTag [powm to once, addm v (hof sMask [powm to once]), to]); unfold U64; omega
theorem pow_u (a b : Nat) : U64 (powm a b) := by have := powm_lt a b; unfold U64; omega
theorem open_make (a o n : Nat) (hn : n < 2305843009213693951) : openBox a (mkBox (powm 37 a) o n) = (n, 0) := by
  unfold openBox mkBox withK
  simp only [ne_eq, not_true_eq_false, if_false, pow_swap a o, sub_add n _ hn]
theorem open_other (a c o n : Nat) (h : powm 37 a ≠ powm 37 c) : openBox c (mkBox (powm 37 a) o n) = (0, 20) := by
  unfold openBox mkBox withK
  simp only [ne_eq, h, not_false_eq_true, if_true]

/-- Body is another one. -/
theorem open_body (a o n x : Nat) (hx : x < 2305843009213693951) (h : x ≠ (mkBox (powm 37 a) o n).body) : openBox a { mkBox (powm 37 a) o n with body := x } = (0, 21) := by
  have hb : (mkBox (powm 37 a) o n).body < 2305843009213693951 := num_lt _
  unfold openBox
  have e1 : ({ mkBox (powm 37 a) o n with body := x } : Bx).to = powm 37 a := rfl
  have e2 : ({ mkBox (powm 37 a) o n with body := x } : Bx).eph = powm 37 o := rfl
  rw [e1, e2, if_neg (by simp), if_pos]
  intro h2
  have h3 := congrArg Bx.tag h2
  simp only [withK, mkBox, pow_swap a o] at h3
  have h4 := (hof_one sTag [powm (powm 37 a) o] [powm 37 a] x (addm n (hof sMask [powm (powm 37 a) o]))).1 h3
  rw [num_of_lt hx, num_of_lt (show addm n (hof sMask [powm (powm 37 a) o]) < 2305843009213693951 from num_lt _)] at h4
  exact h h4
/-- Tag is another one. -/
theorem open_tag (a o n x : Nat) (h : x ≠ (mkBox (powm 37 a) o n).tag) : openBox a { mkBox (powm 37 a) o n with tag := x } = (0, 21) := by
  unfold openBox
  have e1 : ({ mkBox (powm 37 a) o n with tag := x } : Bx).to = powm 37 a := rfl
  have e2 : ({ mkBox (powm 37 a) o n with tag := x } : Bx).eph = powm 37 o := rfl
  rw [e1, e2, if_neg (by simp), if_pos]
  intro h2
  have h3 := congrArg Bx.tag h2
  simp only [withK, mkBox, pow_swap a o] at h3
  exact h (by simp only [mkBox, withK]; exact h3.symm)
/-- Eph is another one. -/
theorem open_eph (a o n x : Nat) (hn : n < 2305843009213693951) : openBox a { mkBox (powm 37 a) o n with eph := x } = (0, 21) ∨ openBox a { mkBox (powm 37 a) o n with eph := x } = (n, 0) := by
  unfold openBox
  have e1 : ({ mkBox (powm 37 a) o n with eph := x } : Bx).to = powm 37 a := rfl
  have e2 : ({ mkBox (powm 37 a) o n with eph := x } : Bx).eph = x := rfl
  rw [e1, e2, if_neg (by simp)]
  by_cases h : withK (powm x a) { mkBox (powm 37 a) o n with eph := x } = { mkBox (powm 37 a) o n with eph := x }
  · refine Or.inr ?_
    rw [if_neg (by simpa using h)]
    have h3 := congrArg Bx.tag h
    simp only [withK, mkBox] at h3
    have h4 := (hof_one sTag [] [addm n (hof sMask [powm (powm 37 a) o]), powm 37 a] (powm x a) (powm (powm 37 a) o)).1 h3
    rw [num_of_lt (powm_lt _ _), num_of_lt (powm_lt _ _)] at h4
    have e3 : ({ mkBox (powm 37 a) o n with eph := x } : Bx).body = addm n (hof sMask [powm (powm 37 a) o]) := rfl
    rw [e3, h4, sub_add n _ hn]
  · refine Or.inl ?_
    rw [if_pos (by simpa using h)]

theorem g_mod' (M s : Nat) (hM : powm 37 M = 1) : powm 37 (s % M) = powm 37 s := by
  have h := powm_add 37 (M * (s / M)) (s % M)
  rw [Nat.div_add_mod, powm_pow_one hM, one_mulm (powm_lt _ _)] at h
  exact h.symm
theorem g_mod (s : Nat) : powm 37 (s % 2305843009213693950) = powm 37 s := g_mod' _ s g_all
theorem mul_num2 (a b : Nat) : mulm (powm 37 a) (powm 37 b) = powm 37 (a + b) := (powm_add 37 a b).symm
theorem g_pos' (i : Nat) : powm 37 i ≠ 0 := by
  rw [← g_mod]
  exact g_pos _ (by have := Nat.mod_lt i (show 2305843009213693950 > 0 by decide); omega)

theorem mkBox_eph (to o n : Nat) : (mkBox to o n).eph = powm 37 o := by simp only [mkBox, withK]
theorem mkBox_to (to o n : Nat) : (mkBox to o n).to = to := by simp only [mkBox, withK]
theorem bodies_sub (to o n m : Nat) : subm (mkBox to o n).body (mkBox to o m).body = subm n m := by
  simp only [mkBox, withK]
  generalize hof sMask [powm to o] = k
  unfold subm addm num
  omega
theorem bodies_iff (to o n m : Nat) (hn : n < 2305843009213693951) (hm : m < 2305843009213693951) : (mkBox to o n).body = (mkBox to o m).body ↔ n = m := by
  simp only [mkBox, withK]
  generalize hof sMask [powm to o] = k
  unfold addm num
  omega
theorem bodies_tag (to o n m : Nat) (hn : n < 2305843009213693951) (hm : m < 2305843009213693951) : (mkBox to o n).tag = (mkBox to o m).tag ↔ n = m := by
  have hb := bodies_iff to o n m hn hm
  simp only [mkBox, withK] at hb ⊢
  have h := hof_one sTag [powm to o] [to] (addm n (hof sMask [powm to o])) (addm m (hof sMask [powm to o]))
  simp only [List.cons_append, List.nil_append] at h
  rw [h, num_of_lt (show addm n (hof sMask [powm to o]) < 2305843009213693951 from num_lt _), num_of_lt (show addm m (hof sMask [powm to o]) < 2305843009213693951 from num_lt _)]
  exact hb

theorem make_is {to once v t e b g : Nat} (w : World) (h1 : U64 to) (h2 : U64 once) (h3 : U64 v) (hB : mkBox to once v = ⟨t, e, b, g⟩) :
    Calls Try.prog 14 #[.int .u64 to, .int .u64 once, .int .u64 v] w fun r w' => r = .returned (.agg #[.int .u64 (t : Int), .int .u64 (e : Int), .int .u64 (b : Int), .int .u64 (g : Int)]) ∧ Keeps (fun _ => False) w w' := by
  have := make_any to once v w h1 h2 h3
  rw [hB] at this
  exact this
theorem refMake_is {to once v t e b g : Nat} (w : World) (h1 : U64 to) (h2 : U64 once) (hB : mkBox to once v = ⟨t, e, b, g⟩) :
    Calls Try.prog 15 #[.int .u64 to, .int .u64 once, .int .u64 v] w fun r w' => r = .returned (.agg #[.int .u64 (t : Int), .int .u64 (e : Int), .int .u64 (b : Int), .int .u64 (g : Int)]) ∧ Keeps (fun _ => False) w w' := by
  have := refMake_any to once v w h1 h2
  rw [hB] at this
  exact this
theorem open_is {s t e b g x : Nat} {c : Int} (w : World) (hs : U64 s) (hb : Bx.ok ⟨t, e, b, g⟩) (hO : openBox s ⟨t, e, b, g⟩ = (x, c)) :
    Calls Try.prog 18 #[.int .u64 s, .agg #[.int .u64 (t : Int), .int .u64 (e : Int), .int .u64 (b : Int), .int .u64 (g : Int)]] w fun r w' => r = .returned (.tuple #[.int .u64 (x : Int), .int .i64 c]) ∧ Keeps (fun _ => False) w w' := by
  have := open_any s t e b g w hs hb
  rw [hO] at this
  exact this
theorem refOpen_is {s t e b g x : Nat} {c : Int} (w : World) (hs : U64 s) (hb : Bx.ok ⟨t, e, b, g⟩) (hO : openBox s ⟨t, e, b, g⟩ = (x, c)) :
    Calls Try.prog 19 #[.int .u64 s, .agg #[.int .u64 (t : Int), .int .u64 (e : Int), .int .u64 (b : Int), .int .u64 (g : Int)]] w fun r w' => r = .returned (.tuple #[.int .u64 (x : Int), .int .i64 c]) ∧ Keeps (fun _ => False) w w' := by
  have := refOpen_any s t e b g w hs hb
  rw [hO] at this
  exact this
theorem Keeps.four (w : World) (b : Nat) (v0 v1 v2 v3 : Value) : Keeps (fun k => k = b) w ((((w.setCell ⟨b, 0, none⟩ v0).setCell ⟨b, 1, none⟩ v1).setCell ⟨b, 2, none⟩ v2).setCell ⟨b, 3, none⟩ v3) :=
  ((((Keeps.refl (fun k => k = b) w).setCell (p := ⟨b, 0, none⟩) (fun _ => rfl) v0).setCell (p := ⟨b, 1, none⟩) (fun _ => rfl) v1).setCell (p := ⟨b, 2, none⟩) (fun _ => rfl) v2).setCell (p := ⟨b, 3, none⟩) (fun _ => rfl) v3
theorem four_heap {w : World} {b : Nat} {u0 u1 u2 u3 : Value} {t : TypeId} (h : w.heap[b]? = some (.cells #[u0, u1, u2, u3] t (0, 0))) (v0 v1 v2 v3 : Value) :
    ((((w.setCell ⟨b, 0, none⟩ v0).setCell ⟨b, 1, none⟩ v1).setCell ⟨b, 2, none⟩ v2).setCell ⟨b, 3, none⟩ v3).heap[b]? = some (.cells #[v0, v1, v2, v3] t (0, 0)) := by
  rw [heap_setCell_at (heap_setCell_at (heap_setCell_at (heap_setCell_at h 0 v0) 1 v1) 2 v2) 3 v3]
  rfl
theorem bx_parts (b : Bx) : ∃ t e y g, b = ⟨t, e, y, g⟩ := ⟨b.to, b.eph, b.body, b.tag, rfl⟩
end Go.Proofs.Ytaennfafbohegaa
