/-
  A string's bytes in a row of their own, and bytes as a string. No conditions but lengths that are int's.
-/
import Derived.Test.YtllpeenjfjobaaaMem
import Derived.Test.YtllpeenjfjobaaaProg
import Derived.Lib.ConvBytes
import Derived.Laws.IdiomStrings
namespace Go.Proofs.Ytllpeenjfjobaaa
open Go.RowKit

theorem run_bytes (s : ByteArray) (hs : s.size ≤ 1000000000) (w : World) : ∃ cap w', (convert 9 22 (.string s)).run Try.prog w = .ok (.slice (some ⟨w.heap.size, 0, none⟩) s.size cap) w' ∧
    Sl w' (some ⟨w.heap.size, 0, none⟩) s.size cap (BV s.data.toList) ∧ Keeps (fun _ => False) w w' ∧ w'.heap.size = w.heap.size + 1 := by
  refine ⟨_, _, Lib.run_convert_string_bytes (P := Try.prog) w 9 22 5 s Try.underlying9 Try.underlying22 Try.underlying5, ?_, ?_, Lib.bytesWorld_size _ _ _⟩
  · refine ⟨by simp, grownCap_ge _ _ _ _, ?_, fun h => by simp at h, fun _ ad e => ⟨w.heap.size, 0, by cases e; rfl⟩, fun ad e j u hu => ?_⟩
    · have := grownCap_le_maxLen w s.size 0 5 (by unfold maxLen; omega)
      unfold maxLen at this
      exact this
    · cases e
      rw [addr_add, Nat.zero_add]
      rw [BV_get] at hu
      cases hc : s.data.toList[j]? with
      | none => rw [hc] at hu; simp at hu
      | some c =>
        rw [hc] at hu
        have hj := (List.getElem?_eq_some_iff.1 hc).1
        rw [Lib.bytesWorld_cell w 5 s j (by simpa using hj)]
        simp only [Option.map_some, Option.some.injEq] at hu
        rw [← hu]
        simp only [List.getD_eq_getElem?_getD, hc, Option.getD_some]
  · exact ⟨rfl, rfl, rfl, by rw [Lib.bytesWorld_size]; omega, fun k hk _ => Lib.bytesWorld_at_old w _ s k hk⟩

/-- Bytes as a string. -/
def strOf (l : List UInt8) : ByteArray := ⟨l.toArray⟩
theorem strOf_data (l : List UInt8) : (strOf l).data.toList = l := by simp [strOf]
theorem strOf_size (l : List UInt8) : (strOf l).size = l.length := by simp [strOf, ByteArray.size]

theorem run_strSl {w : World} {n c : Nat} {sa : Option Addr} {l : List UInt8} (h : Sl w sa n c (BV l)) :
    (convert 22 9 (.slice sa n c)).run Try.prog w = .ok (.string (strOf l)) w := by
  have hl : l.length = n := by have := h.len; simpa using this
  subst hl
  cases sa with
  | none =>
    have h0 := h.nil rfl
    obtain rfl : l = [] := List.eq_nil_of_length_eq_zero h0.1
    rw [run_convert_bytes_string w 22 9 5 none _ c Try.underlying22 Try.underlying5 Try.underlying9]
    rw [h0.2]
    rfl
  | some ad =>
    exact run_convert_bytes_back w 22 9 5 ad c l Try.underlying22 Try.underlying5 Try.underlying9 (fun j hj => h.lies ad rfl j _ (by rw [BV_get, List.getElem?_eq_getElem hj]; rfl))
end Go.Proofs.Ytllpeenjfjobaaa
