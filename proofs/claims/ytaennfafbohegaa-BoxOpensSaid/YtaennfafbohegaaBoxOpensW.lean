/-
  The law BoxOpens: the walk. Conditions: the arguments are what came in.
-/
import Derived.Test.YtaennfafbohegaaLives06
import Derived.Test.YtaennfafbohegaaAround
import Derived.Test.YtaennfafbohegaaOpen
namespace Go.Proofs.Ytaennfafbohegaa
open Go.RowKit

set_option maxHeartbeats 4000000 in
set_option maxRecDepth 10000 in
theorem boxOpens_walk (s once other v : Nat) (w : World)  :
    Calls Try.prog 5 #[.int .u64 s, .int .u64 once, .int .u64 other, .int .u64 v] w fun e w' => e = .returned (.bool true) ∧ Keeps (fun _ => False) w w' := by
  obtain ⟨a, ha⟩ : ∃ a, sec s = a := ⟨_, rfl⟩
  obtain ⟨o, ho⟩ : ∃ o, sec once = o := ⟨_, rfl⟩
  obtain ⟨q, hq⟩ : ∃ q, sec other = q := ⟨_, rfl⟩
  obtain ⟨n, hn⟩ : ∃ n, num v = n := ⟨_, rfl⟩
  obtain ⟨p, hp⟩ : ∃ p, powm 37 a = p := ⟨_, rfl⟩
  have hnl : n < 2305843009213693951 := hn ▸ num_lt v
  obtain ⟨t, e, y, g, hB⟩ := bx_parts (mkBox p o n)
  obtain ⟨t', e', y', g', hB'⟩ := bx_parts (mkBox p q n)
  have hO : openBox a ⟨t, e, y, g⟩ = (n, 0) := by rw [← hB, ← hp]; exact open_make a o n hnl
  have hO' : openBox a ⟨t', e', y', g'⟩ = (n, 0) := by rw [← hB', ← hp]; exact open_make a q n hnl
  have HE := Lib.hid (And.intro ha (And.intro ho (And.intro hq (And.intro hn (And.intro hp (And.intro hB (And.intro hB' (And.intro hO hO'))))))))
  have HU : Hid (U64 a ∧ U64 o ∧ U64 q ∧ U64 n ∧ U64 p ∧ Bx.ok ⟨t, e, y, g⟩ ∧ Bx.ok ⟨t', e', y', g'⟩) := ⟨ha ▸ sec_u s, ho ▸ sec_u once, hq ▸ sec_u other, hn ▸ num_u v, hp ▸ pow_u _ _, hB ▸ mkBox_ok p o n (hp ▸ pow_u _ _), hB' ▸ mkBox_ok p q n (hp ▸ pow_u _ _)⟩
  clear ha ho hq hn hp hB hB' hO hO' hnl
  go_enter Try.func5, Try.ntmps5
  have HK := Lib.hid (Keeps.refl (fun _ => False) w)
  go_wp2_with fail
  refine (sec_any s w).mono ?_
  rw [HE.out.1]
  rintro e _ ⟨rfl, rfl⟩
  go_wp2_with fail
  refine (refNum_any v w).mono ?_
  rw [HE.out.2.2.2.1]
  rintro e _ ⟨rfl, rfl⟩
  go_wp2_with fail
  refine (pub_any a w HU.out.1).mono ?_
  rw [HE.out.2.2.2.2.1]
  rintro e w1 ⟨rfl, hk⟩
  replace HK := Lib.hid (HK.out.quiet hk)
  clear hk
  go_wp2_with fail
  refine (sec_any once w1).mono ?_
  rw [HE.out.2.1]
  rintro e _ ⟨rfl, rfl⟩
  go_wp2_with fail
  refine (make_is w1 HU.out.2.2.2.2.1 HU.out.2.1 HU.out.2.2.2.1 HE.out.2.2.2.2.2.1).mono ?_
  rintro e w2 ⟨rfl, hk⟩
  replace HK := Lib.hid (HK.out.quiet hk)
  clear hk
  go_wp2_with fail
  refine (open_is w2 HU.out.1 HU.out.2.2.2.2.2.1 HE.out.2.2.2.2.2.2.2.1).mono ?_
  rintro e w3 ⟨rfl, hk⟩
  replace HK := Lib.hid (HK.out.quiet hk)
  clear hk
  go_wp2_with fail
  refine (pub_any a w3 HU.out.1).mono ?_
  rw [HE.out.2.2.2.2.1]
  rintro e w4 ⟨rfl, hk⟩
  replace HK := Lib.hid (HK.out.quiet hk)
  clear hk
  go_wp2_with fail
  refine (sec_any other w4).mono ?_
  rw [HE.out.2.2.1]
  rintro e _ ⟨rfl, rfl⟩
  go_wp2_with fail
  refine (make_is w4 HU.out.2.2.2.2.1 HU.out.2.2.1 HU.out.2.2.2.1 HE.out.2.2.2.2.2.2.1).mono ?_
  rintro e w5 ⟨rfl, hk⟩
  replace HK := Lib.hid (HK.out.quiet hk)
  clear hk
  go_wp2_with fail
  refine (open_is w5 HU.out.1 HU.out.2.2.2.2.2.2 HE.out.2.2.2.2.2.2.2.2).mono ?_
  rintro e w6 ⟨rfl, hk⟩
  replace HK := Lib.hid (HK.out.quiet hk)
  clear hk
  go_wp2_with fail
  refine (lives_any w6).mono ?_
  rintro e w7 ⟨rfl, hk⟩
  replace HK := Lib.hid (HK.out.quiet hk)
  clear hk
  go_wp2
  go_ret
  exact ⟨rfl, HK.out⟩
end Go.Proofs.Ytaennfafbohegaa
