/-
  The laws' own example (lives): it returns true. No conditions.
-/
import Derived.Test.YtembkgpecdgpiaaSecret
import Derived.Test.YtembkgpecdgpiaaStream
namespace Go.Proofs.Ytembkgpecdgpiaa
open Go.RowKit

theorem lies_one (w : World) (x : Int) (fr : Nat × Nat) : Sl (w.alloc (.cells #[.int .u64 x] 25 fr)) (some ⟨w.heap.size, 0, none⟩) 1 1 [.int .u64 x] :=
  ⟨rfl, Nat.le_refl _, by omega, fun h => by simp at h, fun _ ad e => ⟨_, _, by cases e; rfl⟩, fun ad e j u hu => by
    cases e
    rw [addr_add, Nat.zero_add, cellAt (World.alloc_heap_new w _)]
    simpa using hu⟩

theorem of_one (s : ByteArray) (x : Nat) (w : World) (hs : s.size ≤ 1000000000) (hx : U64 x) :
    Calls Try.prog 13 #[.string s, .slice (some ⟨w.heap.size, 0, none⟩) 1 1] (w.alloc (.cells #[.int .u64 (x : Int)] 25)) fun e w' => e = .returned (.int .u64 (hof s.data.toList [x] : Int)) ∧ Keeps (fun _ => False) w w' :=
  (of_any s _ 1 1 [x] _ hs (by omega) (lies_one w x (0, 0)) (by simpa using hx)).mono fun _ _ ⟨h1, h2⟩ => ⟨h1, ((Keeps.refl _ w).alloc _).trans h2 (fun _ _ h => h)⟩

set_option maxHeartbeats 1000000 in
set_option maxRecDepth 10000 in
theorem lives_any (w : World) : Calls Try.prog 15 #[] w fun e w' => e = .returned (.bool true) ∧ Keeps (fun _ => False) w w' := by
  obtain ⟨a, ha⟩ : ∃ a, hof [97] [5] = a := ⟨_, rfl⟩
  obtain ⟨b, hb⟩ : ∃ b, hof [97] [6] = b := ⟨_, rfl⟩
  obtain ⟨c, hc⟩ : ∃ c, hsec [97] [] = c := ⟨_, rfl⟩
  have ha2 : hof [97] [2305843009213693956] = a := by rw [← ha]; decide +kernel
  have hab : ¬ a = b := by rw [← ha, ← hb]; decide +kernel
  have hcp : 0 < c := by rw [← hc]; exact (hsec_pos _ _).1
  have e1 : ((a : Int) == (a : Int)) = true := by simp
  have e2 : ((a : Int) == (b : Int)) = false := by simp; omega
  have e3 : ((a : Int) != (b : Int)) = true := by simp; omega
  have e4 : (0 : Int) < (c : Int) := by omega
  have HA := Lib.hid (And.intro ha (And.intro hb (And.intro hc ha2)))
  clear ha hb hc ha2 hcp
  go_enter Try.func15, Try.ntmps15
  go_wp2_with fail
  refine (of_one ⟨#[97]⟩ 5 w (by decide) (by unfold U64; omega)).mono ?_
  rw [show hof (⟨#[97]⟩ : ByteArray).data.toList [5] = a from HA.out.1]
  rintro e w1 ⟨rfl, hk1⟩
  have H1 := Lib.hid hk1
  clear hk1
  go_wp2_with fail
  refine (of_one ⟨#[97]⟩ 2305843009213693956 w1 (by decide) (by unfold U64; omega)).mono ?_
  rw [show hof (⟨#[97]⟩ : ByteArray).data.toList [2305843009213693956] = a from HA.out.2.2.2]
  rintro e w2 ⟨rfl, hk2⟩
  have H2 := Lib.hid hk2
  clear hk2
  go_wp2_with fail
  refine (of_one ⟨#[97]⟩ 6 w2 (by decide) (by unfold U64; omega)).mono ?_
  rw [show hof (⟨#[97]⟩ : ByteArray).data.toList [6] = b from HA.out.2.1]
  rintro e w3 ⟨rfl, hk3⟩
  have H3 := Lib.hid hk3
  clear hk3
  go_wp2_with fail
  refine (secret_any ⟨#[97]⟩ none 0 0 [] w3 (by decide) (by omega) (Sl.none0 _) (by simp)).mono ?_
  rw [show hsec (⟨#[97]⟩ : ByteArray).data.toList [] = c from HA.out.2.2.1]
  rintro e w4 ⟨rfl, hk4⟩
  have H4 := Lib.hid hk4
  clear hk4
  go_wp2_with fail
  refine (stream_any 1 8 w4 (by unfold U64; omega) (by omega)).mono ?_
  rintro e w5 ⟨sa, cap, rfl, _, hk5⟩
  have H5 := Lib.hid hk5
  clear hk5
  go_wp2
  go_ret
  exact ⟨rfl, (((H1.out.trans H2.out (fun _ _ h => h)).trans H3.out (fun _ _ h => h)).trans H4.out (fun _ _ h => h)).trans H5.out (fun _ _ h => h)⟩
end Go.Proofs.Ytembkgpecdgpiaa
