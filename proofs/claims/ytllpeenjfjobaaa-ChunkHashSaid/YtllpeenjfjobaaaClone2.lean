/-
  slices.Clone of bytes: a new row that holds the same bytes; nothing that was there has turned. Condition: fewer than 10^9 bytes.
-/
import Derived.Test.YtllpeenjfjobaaaProg
import Derived.Test.YtllpeenjfjobaaaPush
namespace Go.Proofs.Ytllpeenjfjobaaa
open Go.RowKit

set_option maxHeartbeats 400000 in
theorem clone_some (a : Addr) (len cap : Nat) (l : List UInt8) (w : World) (hl : l.length = len) (hlen : len ≤ 1000000000)
   (hsrc : ∀ j c, l[j]? = some c → w.cell? (a.add j) = some (.int .u8 c.toNat)) :
    Calls Try.prog 33 #[.slice (some a) len cap] w fun e w' => ∃ g cap', e = .returned (.slice (some ⟨g, 0, none⟩) len cap') ∧
      w'.ownsRow w.heap.size 5 1 (.slice (some ⟨g, 0, none⟩) len cap') len (BV l) ∧ Keeps (fun _ => False) w w' := by
  have HL := Lib.hid hl
  have HS := Lib.hid hsrc
  clear hl hsrc
  obtain ⟨i0, hi, hz0, hz1, hz2⟩ := info_parts infoByte
  have hnil := fun (w : World) => Lib.run_eql_slice_nil (P := Try.prog) w
  have hsrc' : ∀ (o : Obj) (ad : Addr), some a = some ad → ∀ (j : Nat) (u : Value), (BV l)[j]? = some u → (w.alloc o).cell? (ad.add j) = some u := by
    intro o ad had j u hu
    obtain rfl := Option.some.inj had
    rw [BV_get] at hu
    cases hc : l[j]? with
    | none => rw [hc] at hu; simp at hu
    | some c =>
      rw [hc] at hu
      have h := HS.out j c hc
      have hb := World.block_lt_of_cell? w _ h
      rw [show u = .int .u8 c.toNat by simpa using hu.symm, ← h]
      exact World.cell?_of_block (w := w) (Below.heap_alloc _ _ _ hb)
  have H := Lib.hid hsrc'
  clear hsrc'
  go_enter Try.func33, Try.ntmps33
  go_wp2_with (at_builtin; refine wpList_app _ rfl _ _ 22 rfl w.heap.size 5 i0 (.int .u8 0) 1 1 Try.underlying22 hi hz0 hz1 hz2 rfl (by decide) (.slice (some ⟨w.heap.size, 0, none⟩) 0 0) 0 [] rfl (World.ownsRow_made (cap := 0) w #[] (Nat.le_refl _) (by decide) rfl) (some a) len cap (BV l) rfl (by simpa using HL.out) (fun h => by cases h) (H.out _) (BV_one l) (by unfold maxLen; omega) (by omega) (by simp) ?_; intro sa' cap' w' hown hg hat hnn; have HH := Lib.hid hnn; clear hat hnn)
  have K1 : Keeps (fun _ => False) w w' := ((Keeps.refl _ w).alloc _).grown hg (fun k hk hlt => by simp [Value.ownBlock] at hk; omega)
  have hne := HH.out (by simp)
  rw [Nat.zero_add, List.nil_append] at hown
  obtain ⟨g, rfl⟩ : ∃ g, sa' = some ⟨g, 0, none⟩ := by
    rcases hown.2 with ⟨h, _⟩ | ⟨g, _, _, h, _⟩
    · simp only [Value.slice.injEq] at h; exact absurd h.1 hne
    · simp only [Value.slice.injEq] at h; exact ⟨g, h.1⟩
  go_ret
  exact ⟨g, cap', by simp, hown, K1⟩

theorem clone_nil (w : World) :
    Calls Try.prog 33 #[.slice none 0 0] w fun e w' => e = .returned (.slice none 0 0) ∧ w = w' := by
  have hnil := fun (w : World) => Lib.run_eql_slice_nil (P := Try.prog) w
  go_enter Try.func33, Try.ntmps33
  go_wp2
  go_ret
  exact ⟨rfl, rfl⟩

/-- A slice that is not nil, or is empty: a row of its own. -/
theorem clone_any (sa : Option Addr) (n cap : Nat) (l : List UInt8) (w : World) (hl : Sl w sa n cap (BV l)) (hn : n ≤ 1000000000) :
    Calls Try.prog 33 #[.slice sa n cap] w fun e w' => ∃ sa' cap', e = .returned (.slice sa' n cap') ∧
      w'.ownsRow w.heap.size 5 1 (.slice sa' n cap') n (BV l) ∧ Keeps (fun _ => False) w w' := by
  have hll : l.length = n := by have := hl.len; simpa using this
  cases sa with
  | none =>
    obtain ⟨rfl, rfl⟩ := hl.nil rfl
    refine (clone_nil w).mono ?_
    rintro e _ ⟨rfl, rfl⟩
    obtain rfl : l = [] := List.eq_nil_of_length_eq_zero hll
    exact ⟨none, 0, rfl, World.ownsRow_nil _ _ _ _, Keeps.refl _ _⟩
  | some a =>
    refine (clone_some a n cap l w hll hn (fun j c hc => hl.lies a rfl j _ (by rw [BV_get, hc]; rfl))).mono ?_
    rintro e w' ⟨g, cap', rfl, h1, h2⟩
    exact ⟨_, _, rfl, h1, h2⟩
end Go.Proofs.Ytllpeenjfjobaaa
