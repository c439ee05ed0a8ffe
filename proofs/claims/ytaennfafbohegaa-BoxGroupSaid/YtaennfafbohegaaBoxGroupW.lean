/-
  The law BoxGroup: the walk. Conditions: the arguments are what came in.
-/
import Derived.Test.YtaennfafbohegaaLives06
import Derived.Test.YtaennfafbohegaaAround
import Derived.Test.YtaennfafbohegaaOpen
namespace Go.Proofs.Ytaennfafbohegaa
open Go.RowKit

set_option maxHeartbeats 4000000 in
set_option maxRecDepth 10000 in
theorem boxGroup_walk (s t_ : Nat) (w : World)  :
    Calls Try.prog 8 #[.int .u64 s, .int .u64 t_] w fun e w' => e = .returned (.bool true) ∧ Keeps (fun _ => False) w w' := by
  obtain ⟨a, ha⟩ : ∃ a, sec s = a := ⟨_, rfl⟩
  obtain ⟨c, hc⟩ : ∃ c, sec t_ = c := ⟨_, rfl⟩
  have ba := sec_pos s
  have bc := sec_pos t_
  rw [ha] at ba
  rw [hc] at bc
  obtain ⟨p, hp⟩ : ∃ p, powm 37 a = p := ⟨_, rfl⟩
  obtain ⟨q, hq⟩ : ∃ q, powm 37 c = q := ⟨_, rfl⟩
  obtain ⟨m, hm⟩ : ∃ m, mulm p q = m := ⟨_, rfl⟩
  obtain ⟨z, hz⟩ : ∃ z, a + c = z := ⟨_, rfl⟩
  obtain ⟨r, hr⟩ : ∃ r, z % 2305843009213693950 = r := ⟨_, rfl⟩
  have e1 : IntKind.u64.wrap ((a : Int) + (c : Int)) = (z : Int) := by rw [IntKind.wrap_u64]; omega
  have e2 : (z : Int) % 2305843009213693950 = (r : Int) := by omega
  have hmr : powm 37 r = m := by rw [← hr, g_mod, ← hz, ← hm, ← hp, ← hq, mul_num2]
  have hm0 : m ≠ 0 := hmr ▸ g_pos' r
  have hp0 : p ≠ 0 := hp ▸ g_pos' a
  have hrl : r < 2305843009213693950 := by rw [← hr]; exact Nat.mod_lt _ (by decide)
  have q1 : ((m : Int) != 0) = true := by simp; omega
  have q2 : ((p : Int) != 0) = true := by simp; omega
  have HE := Lib.hid (And.intro ha (And.intro hc (And.intro hp (And.intro hq (And.intro hm hmr)))))
  have HU : Hid (U64 a ∧ U64 c ∧ U64 p ∧ U64 q ∧ U64 r) := ⟨ha ▸ sec_u s, hc ▸ sec_u t_, hp ▸ pow_u _ _, hq ▸ pow_u _ _, by unfold U64; omega⟩
  clear ha hc hp hq hm hz hr ba bc hm0 hp0
  go_enter Try.func8, Try.ntmps8
  have HK := Lib.hid (Keeps.refl (fun _ => False) w)
  go_wp2_with fail
  refine (sec_any s w).mono ?_
  rw [HE.out.1]
  rintro e _ ⟨rfl, rfl⟩
  go_wp2_with fail
  refine (sec_any t_ w).mono ?_
  rw [HE.out.2.1]
  rintro e _ ⟨rfl, rfl⟩
  go_wp2_with fail
  refine (pub_any a w HU.out.1).mono ?_
  rw [HE.out.2.2.1]
  rintro e w1 ⟨rfl, hk⟩
  replace HK := Lib.hid (HK.out.quiet hk)
  clear hk
  go_wp2_with fail
  refine (pub_any c w1 HU.out.2.1).mono ?_
  rw [HE.out.2.2.2.1]
  rintro e w2 ⟨rfl, hk⟩
  replace HK := Lib.hid (HK.out.quiet hk)
  clear hk
  go_wp2_with fail
  refine (mul_any p q w2 HU.out.2.2.1 HU.out.2.2.2.1).mono ?_
  rw [HE.out.2.2.2.2.1]
  rintro e _ ⟨rfl, rfl⟩
  by_cases hr0 : r = 0
  · have hm1 : m = 1 := by rw [← hmr, hr0]; decide
    have q3 : ((r : Int) == 0) = true := by simp; omega
    have q4 : ((m : Int) == 1) = true := by simp; omega
    clear hmr hr0 hm1
    go_wp2_with fail
    refine (lives_any w2).mono ?_
    rintro e w3 ⟨rfl, hk⟩
    replace HK := Lib.hid (HK.out.quiet hk)
    clear hk
    go_wp2
    go_ret
    exact ⟨rfl, HK.out⟩
  · have q3 : ((r : Int) == 0) = false := by simp; omega
    clear hmr hr0
    go_wp2_with fail
    refine (pub_any r w2 HU.out.2.2.2.2).mono ?_
    rw [HE.out.2.2.2.2.2]
    rintro e w3 ⟨rfl, hk⟩
    replace HK := Lib.hid (HK.out.quiet hk)
    clear hk
    go_wp2_with fail
    refine (pub_any a w3 HU.out.1).mono ?_
    rw [HE.out.2.2.1]
    rintro e w4 ⟨rfl, hk⟩
    replace HK := Lib.hid (HK.out.quiet hk)
    clear hk
    go_wp2_with fail
    refine (lives_any w4).mono ?_
    rintro e w5 ⟨rfl, hk⟩
    replace HK := Lib.hid (HK.out.quiet hk)
    clear hk
    go_wp2
    go_ret
    exact ⟨rfl, HK.out⟩
end Go.Proofs.Ytaennfafbohegaa
