/-
  make([]byte, n): a row of noughts of its own. Condition: fewer than 10^9 bytes.
-/
import Derived.Test.YtllpeenjfjobaaaPush
namespace Go.Proofs.Ytllpeenjfjobaaa
open Go.RowKit
theorem run_mk (n : Nat) (hn : n ≤ 1000000000) (u : World) : (Instr.makeSlice 22 (.int .i64 (n : Int)) (.int .i64 (n : Int))).run Try.prog u =
    .ok (.slice (some ⟨u.heap.size, 0, none⟩) n n) (u.alloc (.cells (madeCells #[.int .u8 0] n) 5)) := by
  obtain ⟨i0, hi, hz0, hz1, hz2⟩ := info_parts infoByte
  have h := run_make (P := Try.prog) u 22 5 i0 (.int .u8 0) Try.underlying22 hi hz0 .i64 .i64 (n : Int) (n : Int) (by omega) (Int.le_refl _) (by rw [hz2]; omega) (by omega)
  simpa [hz1, Value.cells] using h
theorem owns_made (w : World) (n : Nat) (hn : n ≤ 1000000000) :
    (w.alloc (.cells (madeCells #[.int .u8 0] n) 5)).ownsRow w.heap.size 5 1 (.slice (some ⟨w.heap.size, 0, none⟩) n n) n (BV (List.replicate n 0)) :=
  ⟨by simp, Or.inr ⟨w.heap.size, n, _, rfl, Nat.le_refl _, heap_alloc_new w _, Nat.le_refl _, by unfold maxLen; omega, by simp [size_madeCells], by
    rw [toList_madeCells_one, Nat.mul_one, List.take_of_length_le (by simp)]; simp [BV]⟩⟩
end Go.Proofs.Ytllpeenjfjobaaa
