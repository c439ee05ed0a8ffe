/-
  The law BoxMakes: the walk. Conditions: the arguments are what came in.
-/
import Derived.Test.YtaennfafbohegaaLives06
import Derived.Test.YtaennfafbohegaaAround
import Derived.Test.YtaennfafbohegaaOpen
namespace Go.Proofs.Ytaennfafbohegaa
open Go.RowKit

set_option maxHeartbeats 4000000 in
set_option maxRecDepth 10000 in
theorem boxMakes_walk (s once to v : Nat) (w : World)  :
    Calls Try.prog 3 #[.int .u64 s, .int .u64 once, .int .u64 to, .int .u64 v] w fun e w' => e = .returned (.bool true) ∧ Keeps (fun _ => False) w w' := by
  obtain ⟨a, ha⟩ : ∃ a, sec s = a := ⟨_, rfl⟩
  obtain ⟨o, ho⟩ : ∃ o, sec once = o := ⟨_, rfl⟩
  obtain ⟨k, hk⟩ : ∃ k, num to = k := ⟨_, rfl⟩
  obtain ⟨n, hn⟩ : ∃ n, num v = n := ⟨_, rfl⟩
  obtain ⟨p, hp⟩ : ∃ p, powm 37 a = p := ⟨_, rfl⟩
  obtain ⟨t, e, y, g, hB⟩ := bx_parts (mkBox k o n)
  obtain ⟨t', e', y', g', hB'⟩ := bx_parts (mkBox p o n)
  have HE := Lib.hid (And.intro ha (And.intro ho (And.intro hk (And.intro hn (And.intro hp (And.intro hB hB'))))))
  have HU : Hid (U64 a ∧ U64 o ∧ U64 k ∧ U64 n ∧ U64 p) := ⟨ha ▸ sec_u s, ho ▸ sec_u once, hk ▸ num_u to, hn ▸ num_u v, hp ▸ pow_u _ _⟩
  clear ha ho hk hn hp hB hB'
  go_enter Try.func3, Try.ntmps3
  have HK := Lib.hid (Keeps.refl (fun _ => False) w)
  go_wp2_with fail
  refine (sec_any s w).mono ?_
  rw [HE.out.1]
  rintro e _ ⟨rfl, rfl⟩
  go_wp2_with fail
  refine (sec_any once w).mono ?_
  rw [HE.out.2.1]
  rintro e _ ⟨rfl, rfl⟩
  go_wp2_with fail
  refine (refNum_any to w).mono ?_
  rw [HE.out.2.2.1]
  rintro e _ ⟨rfl, rfl⟩
  go_wp2_with fail
  refine (refNum_any v w).mono ?_
  rw [HE.out.2.2.2.1]
  rintro e _ ⟨rfl, rfl⟩
  go_wp2_with fail
  refine (pub_any a w HU.out.1).mono ?_
  rw [HE.out.2.2.2.2.1]
  rintro e w1 ⟨rfl, hk⟩
  replace HK := Lib.hid (HK.out.quiet hk)
  clear hk
  go_wp2_with fail
  refine (refPub_any a w1 HU.out.1).mono ?_
  rw [HE.out.2.2.2.2.1]
  rintro e w2 ⟨rfl, hk⟩
  replace HK := Lib.hid (HK.out.quiet hk)
  clear hk
  go_wp2_with fail
  refine (make_is w2 HU.out.2.2.1 HU.out.2.1 HU.out.2.2.2.1 HE.out.2.2.2.2.2.1).mono ?_
  rintro e w3 ⟨rfl, hk⟩
  replace HK := Lib.hid (HK.out.quiet hk)
  clear hk
  go_wp2_with fail
  refine (refMake_is w3 HU.out.2.2.1 HU.out.2.1 HE.out.2.2.2.2.2.1).mono ?_
  rintro e w4 ⟨rfl, hk⟩
  replace HK := Lib.hid (HK.out.quiet hk)
  clear hk
  go_wp2_with fail
  refine (make_is w4 HU.out.2.2.2.2 HU.out.2.1 HU.out.2.2.2.1 HE.out.2.2.2.2.2.2).mono ?_
  rintro e w5 ⟨rfl, hk⟩
  replace HK := Lib.hid (HK.out.quiet hk)
  clear hk
  go_wp2_with fail
  refine (refMake_is w5 HU.out.2.2.2.2 HU.out.2.1 HE.out.2.2.2.2.2.2).mono ?_
  rintro e w6 ⟨rfl, hk⟩
  replace HK := Lib.hid (HK.out.quiet hk)
  clear hk
  go_wp2_with fail
  refine (lives_any w6).mono ?_
  rintro e w7 ⟨rfl, hk⟩
  replace HK := Lib.hid (HK.out.quiet hk)
  clear hk
  go_wp2
  go_ret
  exact ⟨rfl, HK.out⟩
end Go.Proofs.Ytaennfafbohegaa
