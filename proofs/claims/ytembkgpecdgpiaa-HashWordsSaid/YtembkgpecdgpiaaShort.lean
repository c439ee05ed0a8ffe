/-
  A text's first bytes (the reference's Short). Condition: the length is an int.
-/
import Derived.Test.YtembkgpecdgpiaaMem
import Derived.Test.YtembkgpecdgpiaaProg
namespace Go.Proofs.Ytembkgpecdgpiaa
open Go.RowKit
def shortOf (s : ByteArray) (most : Nat) : ByteArray := if most < s.size then s.extract 0 most else s
theorem shortOf_data (s : ByteArray) (most : Nat) : (shortOf s most).data.toList = s.data.toList.take most := by
  unfold shortOf
  split
  · simp
  · rw [List.take_of_length_le]
    simp; omega
theorem shortOf_size (s : ByteArray) (most : Nat) : (shortOf s most).size ≤ most := by
  unfold shortOf
  split
  · simp; omega
  · omega
theorem short_any (s : ByteArray) (most : Nat) (w : World) :
    Calls Try.prog 11 #[.string s, .int .i64 most] w fun e w' => e = .returned (.string (shortOf s most)) ∧ w = w' := by
  by_cases h : most < s.size
  · have hx : shortOf s most = s.extract 0 most := by unfold shortOf; rw [if_pos h]
    have H := Lib.hid hx
    clear hx
    have i1 : (most : Int) < (s.size : Int) := by omega
    have i2 : (most : Int) ≤ (s.size : Int) := by omega
    go_enter Try.func11, Try.ntmps11
    go_wp2
    go_ret
    exact ⟨by rw [H.out]; rfl, rfl⟩
  · have hx : shortOf s most = s := by unfold shortOf; rw [if_neg h]
    have H := Lib.hid hx
    clear hx
    have i1 : ¬ (most : Int) < (s.size : Int) := by omega
    go_enter Try.func11, Try.ntmps11
    go_wp2
    go_ret
    exact ⟨by rw [H.out]; rfl, rfl⟩
end Go.Proofs.Ytembkgpecdgpiaa
