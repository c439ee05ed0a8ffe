/-
  The law HashStreams: the walk. Conditions: the arguments are what came in.
-/
import Derived.Test.YtembkgpecdgpiaaLives02
import Derived.Test.YtembkgpecdgpiaaRefStream
import Derived.Test.YtembkgpecdgpiaaSame
import Derived.Test.YtembkgpecdgpiaaAround
import Derived.Test.YtembkgpecdgpiaaOpen
namespace Go.Proofs.Ytembkgpecdgpiaa
open Go.RowKit

set_option maxHeartbeats 1000000 in
theorem hashStreams_walk (key : Nat) (n more : Int) (w : World) (hkey : U64 key) (h1 : -9223372036854775808 ≤ n) (h2 : n ≤ 9223372036854775807) (h3 : -9223372036854775808 ≤ more) (h4 : more ≤ 9223372036854775807) :
    Calls Try.prog 4 #[.int .u64 key, .int .i64 n, .int .i64 more] w fun e w' => e = .returned (.bool true) ∧ Keeps (fun _ => False) w w' := by
  obtain ⟨k, hk41, _, hc1⟩ := around_nat n 41 w h1 h2 (by omega) (by omega)
  obtain ⟨k2, hk42, _, hc2⟩ := around_nat more 41 w h3 h4 (by omega) (by omega)
  have HC := Lib.hid (And.intro hc1 (And.intro hc2 hkey))
  clear hc1 hc2 hkey h1 h2 h3 h4
  obtain ⟨m, hm⟩ : ∃ m, k + k2 = m := ⟨_, rfl⟩
  have e1 : (k : Int) + (k2 : Int) = (m : Int) := by omega
  have hkm : k ≤ m := by omega
  have hm82 : m ≤ 82 := by omega
  clear hm
  go_enter Try.func4, Try.ntmps4
  have HK := Lib.hid (Keeps.refl (fun _ => False) w)
  go_wp2_with fail
  refine (HC.out.1).mono ?_
  rintro e _ ⟨rfl, rfl⟩
  go_wp2_with fail
  refine (HC.out.2.1).mono ?_
  rintro e _ ⟨rfl, rfl⟩
  go_wp2_with fail
  refine (stream_any key k w HC.out.2.2 (by omega)).mono ?_
  rintro e w1 ⟨saa, caa, rfl, hown, hk⟩
  replace HK := Lib.hid (HK.out.quiet hk)
  have Oa := Lib.hid hown
  have Sa := Lib.hid (Sl.of_own hown)
  clear hown hk
  go_wp2_with fail
  refine (stream_any key m w1 HC.out.2.2 (by omega)).mono ?_
  rintro e w2 ⟨sab, cab, rfl, hown, hk⟩
  replace HK := Lib.hid (HK.out.quiet hk)
  replace Sa := Lib.hid (Sa.out.quiet hk)
  replace Oa := Lib.hid (own_keep Oa.out hk (fun _ _ h => h))
  have Ob := Lib.hid hown
  have Sb := Lib.hid (Sl.of_own hown)
  clear hown hk
  go_wp2_with fail
  refine (refStream_any key k w2 HC.out.2.2 (by omega)).mono ?_
  rintro e w3 ⟨sac, cac, rfl, hown, hk⟩
  replace HK := Lib.hid (HK.out.quiet hk)
  replace Sa := Lib.hid (Sa.out.quiet hk)
  replace Oa := Lib.hid (own_keep Oa.out hk (fun _ _ h => h))
  replace Sb := Lib.hid (Sb.out.quiet hk)
  replace Ob := Lib.hid (own_keep Ob.out hk (fun _ _ h => h))
  have Oc := Lib.hid hown
  have Sc := Lib.hid (Sl.of_own hown)
  clear hown hk
  go_wp2_with fail
  refine (same_any saa sac k k caa cac _ _ w3 Sa.out Sc.out).mono ?_
  rw [show decide (stream key k = stream key k) = true by simp]
  rintro e w4 ⟨rfl, hk⟩
  replace HK := Lib.hid (HK.out.quiet hk)
  replace Sa := Lib.hid (Sa.out.quiet hk)
  replace Oa := Lib.hid (own_keep Oa.out hk (fun _ _ h => h))
  replace Sb := Lib.hid (Sb.out.quiet hk)
  replace Ob := Lib.hid (own_keep Ob.out hk (fun _ _ h => h))
  replace Sc := Lib.hid (Sc.out.quiet hk)
  replace Oc := Lib.hid (own_keep Oc.out hk (fun _ _ h => h))
  clear hk
  have i1 : (0 : Int) ≤ (k : Int) := by omega
  have i2 : (k : Int) ≤ (m : Int) := by omega
  have i3 : (k : Int) ≤ (cab : Int) := by have := Sb.out.le; omega
  have i4 : (m : Int) ≤ (cab : Int) := by have := Sb.out.le; omega
  have ST : Hid (Sl w4 sab k cab (BV (stream key k))) := by have := Sb.out.upto hkm; rw [BV_take, stream_take key k m hkm] at this; exact this
  go_wp2_with fail
  refine (same_any saa sab k k caa cab _ _ w4 Sa.out ST.out).mono ?_
  rw [show decide (stream key k = stream key k) = true by simp]
  rintro e w5 ⟨rfl, hk⟩
  replace HK := Lib.hid (HK.out.quiet hk)
  replace Sa := Lib.hid (Sa.out.quiet hk)
  replace Oa := Lib.hid (own_keep Oa.out hk (fun _ _ h => h))
  replace Sb := Lib.hid (Sb.out.quiet hk)
  replace Ob := Lib.hid (own_keep Ob.out hk (fun _ _ h => h))
  replace Sc := Lib.hid (Sc.out.quiet hk)
  replace Oc := Lib.hid (own_keep Oc.out hk (fun _ _ h => h))
  clear hk
  go_wp2_with fail
  refine (lives_any w5).mono ?_
  rintro e w6 ⟨rfl, hk⟩
  replace HK := Lib.hid (HK.out.quiet hk)
  replace Sa := Lib.hid (Sa.out.quiet hk)
  replace Oa := Lib.hid (own_keep Oa.out hk (fun _ _ h => h))
  replace Sb := Lib.hid (Sb.out.quiet hk)
  replace Ob := Lib.hid (own_keep Ob.out hk (fun _ _ h => h))
  replace Sc := Lib.hid (Sc.out.quiet hk)
  replace Oc := Lib.hid (own_keep Oc.out hk (fun _ _ h => h))
  clear hk
  go_wp2
  go_ret
  exact ⟨rfl, HK.out⟩
end Go.Proofs.Ytembkgpecdgpiaa
