/-
  The reference's Around: a number from 0 on, below another. Conditions: numbers that are int's.
-/
import Derived.Test.YtllpeenjfjobaaaMem
import Derived.Test.YtllpeenjfjobaaaProg
namespace Go.Proofs.Ytllpeenjfjobaaa
open Go.RowKit

/-- A number from 0 on, below most. -/
def around (n most : Int) : Int := (if n < 0 then -(n + 1) else n) % most
theorem around_pos (n most : Int) (h : 0 < most) : 0 ≤ around n most ∧ around n most < most := by
  unfold around
  exact ⟨Int.emod_nonneg _ (by omega), Int.emod_lt_of_pos _ h⟩

set_option maxHeartbeats 400000 in
theorem around_any (n most : Int) (w : World) (h1 : -9223372036854775808 ≤ n) (h2 : n ≤ 9223372036854775807) (hm : 0 < most) (hm2 : most ≤ 9223372036854775807) :
    Calls Try.prog 23 #[.int .i64 n, .int .i64 most] w fun e w' => e = .returned (.int .i64 (around n most)) ∧ w = w' := by
  have hz : (most == 0) = false := by simp; omega
  by_cases hn : n < 0
  · have hx : around n most = -((n + 1).tmod most) := by unfold around; rw [if_pos hn, ← Int.neg_tmod, Int.tmod_eq_emod_of_nonneg (by omega)]
    have H := Lib.hid hx
    clear hx
    go_enter Try.func23, Try.ntmps23
    go_wp2
    go_ret
    exact ⟨by rw [H.out]; rfl, rfl⟩
  · have hx : around n most = n % most := by unfold around; rw [if_neg hn]
    have H := Lib.hid hx
    clear hx
    have a1 : 0 ≤ n := by omega
    go_enter Try.func23, Try.ntmps23
    go_wp2
    go_ret
    exact ⟨by rw [H.out]; rfl, rfl⟩
/-- The same, as a number that is none below 0. -/
theorem around_nat (n : Int) (most : Nat) (w : World) (h1 : -9223372036854775808 ≤ n) (h2 : n ≤ 9223372036854775807) (hm : 0 < most) (hm2 : most ≤ 1000000000) :
    ∃ k : Nat, k < most ∧ around n most = (k : Int) ∧ Calls Try.prog 23 #[.int .i64 n, .int .i64 (most : Int)] w fun e w' => e = .returned (.int .i64 (k : Int)) ∧ w = w' := by
  have hp := around_pos n most (by omega)
  refine ⟨(around n most).toNat, by omega, by omega, ?_⟩
  have := around_any n most w h1 h2 (by omega) (by omega)
  rwa [show ((around n most).toNat : Int) = around n most by omega]
end Go.Proofs.Ytllpeenjfjobaaa
