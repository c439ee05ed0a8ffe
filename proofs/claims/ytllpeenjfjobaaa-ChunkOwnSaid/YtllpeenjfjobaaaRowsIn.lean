/-
  Rows of rows of bytes that came in: they read as lists. No conditions.
-/
import Derived.Test.YtllpeenjfjobaaaRowsB
import Derived.Test.YtllpeenjfjobaaaOpen
import Derived.Deep.Matrix
namespace Go.Proofs.Ytllpeenjfjobaaa
open Go.RowKit

/-- A slice of slices of bytes that came in. -/
def RowsIn (w : World) (a : Option Addr) (len cap : Nat) : Prop :=
  (a = none ∧ len = 0 ∧ cap = 0) ∨ ∃ (x : Addr) (A : Nat → Option Addr) (L C : Nat → Nat) (Z : Nat → List Int), a = some x ∧ len ≤ cap ∧ cap ≤ maxLen ∧
    ∀ r, r < cap → w.cell? (x.add r) = some (.slice (A r) (L r) (C r)) ∧ L r ≤ C r ∧ C r ≤ maxLen ∧ (Z r).length = C r ∧ (∀ n ∈ Z r, (Lit.int .u8 n).wf = true) ∧ (A r = none → C r = 0) ∧
        ∀ a', A r = some a' → ∀ c, c < C r → w.cell? (a'.add c) = some (.int .u8 ((Z r).getD c 0))

theorem rows_came {w : World} {a : Option Addr} {len cap : Nat} (h : RowsIn w a len cap) : ∃ vs rs, Sl w a len cap vs ∧ RowsS w vs rs := by
  rcases h with ⟨rfl, rfl, rfl⟩ | ⟨x, A, L, C, Z, rfl, hl, hm, hr⟩
  · exact ⟨[], [], Sl.none0 w, RowsS.nil w⟩
  · have each : ∀ r, ∃ l : List UInt8, r < cap → Sl w (A r) (L r) (C r) (BV l) := by
      intro r
      by_cases hrc : r < cap
      · obtain ⟨_, h1, h2, h3, h4, h5, h6⟩ := hr r hrc
        have : ∃ l : List UInt8, Sl w (A r) (L r) (C r) (BV l) := by
          refine sl_bytes (zs := Z r) ?_
          cases hA : A r with
          | none =>
            have := h5 hA
            exact Or.inl ⟨rfl, by omega, this, List.eq_nil_of_length_eq_zero (by omega)⟩
          | some y =>
            exact Or.inr ⟨y, rfl, h1, h2, h3, fun i hi => h6 y hA i (by omega), h4⟩
        obtain ⟨l, hl⟩ := this
        exact ⟨l, fun _ => hl⟩
      · exact ⟨[], fun h => absurd h hrc⟩
    obtain ⟨f, hf⟩ := Classical.skolem.1 each
    refine ⟨(List.range len).map fun r => .slice (A r) (L r) (C r), (List.range len).map f, ⟨by simp, hl, by unfold maxLen at hm; omega, (fun h => by cases h), fun hn ad e => ?_, fun ad e j u hu => ?_⟩, ⟨by simp, fun i r hi => ?_⟩⟩
    · cases e
      obtain ⟨b, off, spot⟩ := x
      have hspot : spot = none := by simpa [Addr.add] using World.cell?_spot (hr 0 (by omega)).1
      subst hspot
      exact ⟨b, off, rfl⟩
    · cases e
      rw [List.getElem?_map] at hu
      cases hj : (List.range len)[j]? with
      | none => rw [hj] at hu; simp at hu
      | some z =>
        have hjl := (List.getElem?_eq_some_iff.1 hj).1
        rw [List.length_range] at hjl
        rw [List.getElem?_range hjl] at hj
        cases hj
        rw [List.getElem?_range hjl] at hu
        simp only [Option.map_some, Option.some.injEq] at hu
        rw [← hu]
        exact (hr j (by omega)).1
    · have hil : i < len := by have := (List.getElem?_eq_some_iff.1 hi).1; simpa using this
      rw [List.getElem?_map, List.getElem?_range hil] at hi
      simp only [Option.map_some, Option.some.injEq] at hi
      subst hi
      have hs := hf i (by omega)
      have hlen : (f i).length = L i := by have := hs.len; simpa using this
      refine ⟨A i, C i, ?_, by rw [hlen]; exact hs⟩
      rw [List.getElem?_map, List.getElem?_range hil, hlen]
      rfl
theorem Sl.recap {w : World} {sa : Option Addr} {n c c2 : Nat} {xs : List Value} (h : Sl w sa n c2 xs) (h1 : n ≤ c) (h2 : c ≤ c2) : Sl w sa n c xs :=
  ⟨h.len, h1, Nat.le_trans h2 h.capB, fun e => by have := h.nil e; omega, h.path, h.lies⟩
end Go.Proofs.Ytllpeenjfjobaaa
