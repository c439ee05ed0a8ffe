/-
  The laws' own example (lives): it returns true. No conditions.
-/
import Derived.Test.YtgmdiekjefgikaaDraw
namespace Go.Proofs.Ytgmdiekjefgikaa
open Go.RowKit

set_option maxHeartbeats 1000000 in
theorem lives_any (w : World) : Calls Try.prog 17 #[] w fun e w' => e = .returned (.bool true) ∧ Keeps (fun _ => False) w w' := by
  have HO : Hid (∀ x ∈ [0, 4, 2305843009213693949, 8], U64 x) := by intro x hx; simp at hx; unfold U64; omega
  have HN := Lib.hid (new_any 5 (some ⟨w.heap.size, 0, none⟩) 4 4 [0, 4, 2305843009213693949, 8] (w.alloc (.cells #[.int .u64 0, .int .u64 4, .int .u64 2305843009213693949, .int .u64 8] 22)) (by unfold U64; omega) (lies_four w 0 4 2305843009213693949 8 (0, 0)) (by omega))
  go_enter Try.func17, Try.ntmps17
  have HK := Lib.hid (Keeps.refl (fun _ => False) w)
  go_wp2_with fail
  refine HN.out.mono ?_
  rintro e w1 ⟨db, F, rfl, hd, hk, hf⟩
  have HD := Lib.hid hd
  have HF : Hid (w.heap.size ≤ db) := by have := hf db hd.own_db; simp at this; show _ ≤ _; omega
  replace HK := Lib.hid ((HK.out.alloc (.cells #[.int .u64 0, .int .u64 4, .int .u64 2305843009213693949, .int .u64 8] 22)).quiet hk)
  clear hd hk hf HN
  go_wp2_with fail
  refine (next_any db F 5 [0, 4, 2305843009213693949, 8] 0 w1 HD.out (by omega) HO.out).mono ?_
  rw [show drawn 5 [0, 4, 2305843009213693949, 8] (0 + 1) = 1 by decide]
  rintro e w2 ⟨rfl, hd, hk⟩
  replace HD := Lib.hid hd
  replace HK := Lib.hid (HK.out.trans hk (fun k hk h => by have := HF.out; omega))
  clear hd hk
  go_wp2_with fail
  refine (next_any db F 5 [0, 4, 2305843009213693949, 8] 1 w2 HD.out (by omega) HO.out).mono ?_
  rw [show drawn 5 [0, 4, 2305843009213693949, 8] (1 + 1) = 5 by decide]
  rintro e w3 ⟨rfl, hd, hk⟩
  replace HD := Lib.hid hd
  replace HK := Lib.hid (HK.out.trans hk (fun k hk h => by have := HF.out; omega))
  clear hd hk
  go_wp2_with fail
  refine (next_any db F 5 [0, 4, 2305843009213693949, 8] 2 w3 HD.out (by omega) HO.out).mono ?_
  rw [show drawn 5 [0, 4, 2305843009213693949, 8] (2 + 1) = 1 by decide]
  rintro e w4 ⟨rfl, hd, hk⟩
  replace HD := Lib.hid hd
  replace HK := Lib.hid (HK.out.trans hk (fun k hk h => by have := HF.out; omega))
  clear hd hk
  go_wp2_with fail
  refine (below_any db F 5 [0, 4, 2305843009213693949, 8] 3 5 w4 HD.out (by omega) HO.out (by omega) (by omega)).mono ?_
  rw [show drawn 5 [0, 4, 2305843009213693949, 8] (3 + 1) % 5 = 4 by decide]
  rintro e w5 ⟨rfl, hd, hk⟩
  replace HD := Lib.hid hd
  replace HK := Lib.hid (HK.out.trans hk (fun k hk h => by have := HF.out; omega))
  clear hd hk
  go_wp2_with fail
  refine (used_any db F 5 [0, 4, 2305843009213693949, 8] 4 w5 HD.out).mono ?_
  rintro e _ ⟨rfl, rfl⟩
  go_wp2
  go_ret
  exact ⟨rfl, HK.out⟩
end Go.Proofs.Ytgmdiekjefgikaa
