/-
  The first bytes, in a row of their own (the reference's Few). Condition: a slice that is one.
-/
import Derived.Test.YtllpeenjfjobaaaPush
namespace Go.Proofs.Ytllpeenjfjobaaa
open Go.RowKit

set_option maxHeartbeats 400000 in
theorem few_any (sa : Option Addr) (len cap most : Nat) (l : List UInt8) (w : World) (hl : Sl w sa len cap (BV l)) (hmost : most ≤ 1000000) :
    Calls Try.prog 10 #[.slice sa len cap, .int .i64 most] w fun e w' => ∃ sa' cap', e = .returned (.slice sa' (l.take most).length cap') ∧
      w'.ownsRow w.heap.size 5 1 (.slice sa' (l.take most).length cap') (l.take most).length (BV (l.take most)) ∧ Keeps (fun _ => False) w w' := by
  have hll : l.length = len := by have := hl.len; simpa using this
  obtain ⟨k, hk⟩ : ∃ k, (l.take most).length = k := ⟨_, rfl⟩
  rw [hk]
  have hk' : k = min most len := by rw [← hk, List.length_take, hll]
  have hlc := hl.le
  have hcap := hl.capB
  have e1 : (if most < len then (most : Int) else (len : Int)) = (k : Int) := by split <;> omega
  have i1 : (0 : Int) ≤ (k : Int) := by omega
  have i2 : (k : Int) ≤ (len : Int) := by omega
  have i3 : (k : Int) ≤ (cap : Int) := by omega
  have i4 : (len : Int) ≤ (cap : Int) := by omega
  obtain ⟨i0, hi, hz0, hz1, hz2⟩ := info_parts infoByte
  have HT : Hid ((BV (l.take most)).length = k * 1) := by show _ = _; rw [BV_length, hk]; omega
  have HNil : Hid (sa = none → k = 0 ∧ cap = 0) := fun h => by have := hl.nil h; omega
  have HS : Hid (∀ ad, sa = some ad → ∀ (j : Nat) (u : Value), (BV (l.take most))[j]? = some u → w.cell? (ad.add j) = some u) := by
    intro ad had j u hu
    refine hl.lies ad had j u ?_
    rw [BV_get] at hu ⊢
    rw [List.getElem?_take] at hu
    split at hu
    · exact hu
    · cases hu
  have hkb : k ≤ 1000000 := by omega
  clear hk hl hll hk'
  go_enter Try.func10, Try.ntmps10
  go_wp2_with (at_builtin; refine wpList_app _ rfl _ _ 22 rfl w.heap.size 5 i0 (.int .u8 0) 1 1 Try.underlying22 hi hz0 hz1 hz2 rfl (by decide) (.slice none 0 0) 0 [] rfl (World.ownsRow_nil w _ _ _) sa k cap (BV (l.take most)) rfl HT.out HNil.out HS.out (BV_one _) (by unfold maxLen; omega) (by omega) (Nat.le_refl _) ?_; intro sa' cap' w' hown hg hat hnn; have HH := Lib.hid (And.intro hown hg); clear hown hg hat hnn)
  go_ret
  obtain ⟨hown, hg⟩ := HH.out
  rw [Nat.zero_add, List.nil_append] at hown
  exact ⟨sa', cap', by simp, hown, (Keeps.refl _ w).grown hg (fun k hk _ => by simp [Value.ownBlock] at hk)⟩
end Go.Proofs.Ytllpeenjfjobaaa
