/-
  What a law is told of its arguments: slices that came in read as lists. No conditions.
-/
import Derived.Test.YtllpeenjfjobaaaField
import Derived.Test.YtllpeenjfjobaaaMem
import Derived.ProofKit
import Derived.OpenShut
import Derived.ChangeOld
namespace Go.Proofs.Ytllpeenjfjobaaa
open Go.RowKit

/-- Numbers with a sign, as cells. -/
def IV (l : List Int) : List Value := l.map fun x => .int .i64 x
@[simp] theorem IV_length (l : List Int) : (IV l).length = l.length := by simp [IV]
theorem IV_append (a b : List Int) : IV (a ++ b) = IV a ++ IV b := by simp [IV]
theorem IV_get (l : List Int) (j : Nat) : (IV l)[j]? = l[j]?.map fun x => .int .i64 x := by simp [IV]

theorem wf_u64 {z : Int} (h : (Lit.int .u64 z).wf = true) : 0 ≤ z ∧ z < 18446744073709551616 := by have := bounds_u64 h; omega
theorem wf_u8 {z : Int} (h : (Lit.int .u8 z).wf = true) : 0 ≤ z ∧ z < 256 := by have := bounds_u8 h; omega
theorem wf_i64 {z : Int} (h : (Lit.int .i64 z).wf = true) : -9223372036854775808 ≤ z ∧ z ≤ 9223372036854775807 := bounds_i64 h

theorem sl_row {k : IntKind} {w : World} {a : Option Addr} {len cap : Nat} {zs : List Int}
    (h : (a = none ∧ len = 0 ∧ cap = 0 ∧ zs = []) ∨ ∃ x, a = some x ∧ len ≤ cap ∧ cap ≤ maxLen ∧ zs.length = cap ∧ (∀ i, i < zs.length → w.cell? (x.add i) = some (.int k (zs.getD i 0))) ∧ ∀ n ∈ zs, (Lit.int k n).wf = true) :
    Sl w a len cap ((zs.take len).map (Value.int k)) ∧ ∀ z ∈ zs.take len, (Lit.int k z).wf = true := by
  rcases h with ⟨rfl, rfl, rfl, rfl⟩ | ⟨x, rfl, hl, hm, hz, hc, hw⟩
  · exact ⟨Sl.none0 w, by simp⟩
  · unfold maxLen at hm
    refine ⟨⟨by simp; omega, hl, hm, (fun h => by cases h), fun hn ad e => ?_, fun ad e j u hu => ?_⟩, fun z h => hw z (List.mem_of_mem_take h)⟩
    · obtain ⟨b, off, rfl, _⟩ := ints_at hc (by omega)
      cases e
      exact ⟨b, off, rfl⟩
    · cases e
      simp only [List.getElem?_map, List.getElem?_take] at hu
      split at hu
      · cases hj : zs[j]? with
        | none => rw [hj] at hu; simp at hu
        | some z =>
          rw [hj] at hu
          rw [hc j (List.getElem?_eq_some_iff.1 hj).1]
          simp only [Option.map_some, Option.some.injEq] at hu
          rw [← hu]
          simp [List.getD, hj]
      · simp at hu

theorem sl_bytes {w : World} {a : Option Addr} {len cap : Nat} {zs : List Int}
    (h : (a = none ∧ len = 0 ∧ cap = 0 ∧ zs = []) ∨ ∃ x, a = some x ∧ len ≤ cap ∧ cap ≤ maxLen ∧ zs.length = cap ∧ (∀ i, i < zs.length → w.cell? (x.add i) = some (.int .u8 (zs.getD i 0))) ∧ ∀ n ∈ zs, (Lit.int .u8 n).wf = true) :
    ∃ l : List UInt8, Sl w a len cap (BV l) := by
  obtain ⟨h1, h2⟩ := sl_row h
  refine ⟨(zs.take len).map fun z => UInt8.ofNat z.toNat, ?_⟩
  have e : BV ((zs.take len).map fun z => UInt8.ofNat z.toNat) = (zs.take len).map (Value.int .u8) := by
    unfold BV
    rw [List.map_map]
    apply List.map_congr_left
    intro z hz
    have hb := wf_u8 (h2 z hz)
    simp only [Function.comp, UInt8.toNat_ofNat']
    congr 1
    omega
  rw [e]
  exact h1
theorem sl_nums {w : World} {a : Option Addr} {len cap : Nat} {zs : List Int}
    (h : (a = none ∧ len = 0 ∧ cap = 0 ∧ zs = []) ∨ ∃ x, a = some x ∧ len ≤ cap ∧ cap ≤ maxLen ∧ zs.length = cap ∧ (∀ i, i < zs.length → w.cell? (x.add i) = some (.int .u64 (zs.getD i 0))) ∧ ∀ n ∈ zs, (Lit.int .u64 n).wf = true) :
    ∃ l : List Nat, Sl w a len cap (NV l) ∧ ∀ x ∈ l, U64 x := by
  obtain ⟨h1, h2⟩ := sl_row h
  refine ⟨(zs.take len).map fun z => z.toNat, ?_, ?_⟩
  · have e : NV ((zs.take len).map fun z => z.toNat) = (zs.take len).map (Value.int .u64) := by
      unfold NV
      rw [List.map_map]
      apply List.map_congr_left
      intro z hz
      have hb := wf_u64 (h2 z hz)
      simp only [Function.comp]
      congr 1
      omega
    rw [e]
    exact h1
  · intro x hx
    simp only [List.mem_map] at hx
    obtain ⟨z, hz, rfl⟩ := hx
    have hb := wf_u64 (h2 z hz)
    unfold U64
    omega
theorem sl_ints {w : World} {a : Option Addr} {len cap : Nat} {zs : List Int}
    (h : (a = none ∧ len = 0 ∧ cap = 0 ∧ zs = []) ∨ ∃ x, a = some x ∧ len ≤ cap ∧ cap ≤ maxLen ∧ zs.length = cap ∧ (∀ i, i < zs.length → w.cell? (x.add i) = some (.int .i64 (zs.getD i 0))) ∧ ∀ n ∈ zs, (Lit.int .i64 n).wf = true) :
    ∃ l : List Int, Sl w a len cap (IV l) ∧ ∀ z ∈ l, -9223372036854775808 ≤ z ∧ z ≤ 9223372036854775807 := by
  obtain ⟨h1, h2⟩ := sl_row h
  exact ⟨zs.take len, h1, fun z hz => wf_i64 (h2 z hz)⟩
theorem nat_u64 {z : Int} (h : (Lit.int .u64 z).wf = true) : ∃ n : Nat, z = (n : Int) ∧ U64 n := by
  have := wf_u64 h
  exact ⟨z.toNat, by omega, by unfold U64; omega⟩
theorem nat_u8 {z : Int} (h : (Lit.int .u8 z).wf = true) : ∃ c : UInt8, z = (c.toNat : Int) := by
  have := wf_u8 h
  exact ⟨UInt8.ofNat z.toNat, by rw [UInt8.toNat_ofNat']; omega⟩
end Go.Proofs.Ytllpeenjfjobaaa
