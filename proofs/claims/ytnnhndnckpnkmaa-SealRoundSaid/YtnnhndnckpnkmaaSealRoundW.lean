/-
  The law SealRound: the walk. Conditions: the arguments are what came in.
-/
import Derived.Test.YtnnhndnckpnkmaaLives07
import Derived.Test.YtnnhndnckpnkmaaFew
import Derived.Test.YtnnhndnckpnkmaaAround
import Derived.Test.YtnnhndnckpnkmaaSame
import Derived.Test.YtnnhndnckpnkmaaRegion
import Derived.Test.YtnnhndnckpnkmaaOpen
namespace Go.Proofs.Ytnnhndnckpnkmaa
open Go.RowKit

set_option maxHeartbeats 2000000 in
set_option maxRecDepth 10000 in
theorem sealRound_walk (key : Nat) (sa : Option Addr) (n cap : Nat) (l : List UInt8) (sb : Option Addr) (m cb : Nat) (l2 : List UInt8) (w : World) (hkey : U64 key) (hl : Sl w sa n cap (BV l)) (hl2 : Sl w sb m cb (BV l2)) :
    Calls Try.prog 4 #[.int .u64 key, .slice sa n cap, .slice sb m cb] w fun e w' => e = .returned (.bool true) ∧ Keeps (fun _ => False) w w' := by
  have Sx := Lib.hid hl
  have Sy := Lib.hid hl2
  have HU := Lib.hid hkey
  clear hl hl2 hkey
  go_enter Try.func4, Try.ntmps4
  have HK := Lib.hid (Keeps.refl (fun _ => False) w)
  go_wp2_with fail
  refine (few_any sa n cap 60 l w Sx.out (by omega)).mono ?_
  rintro e w1 ⟨saa, caa, rfl, hown, hk⟩
  replace HK := Lib.hid (HK.out.quiet hk)
  replace Sx := Lib.hid (Sx.out.quiet hk)
  replace Sy := Lib.hid (Sy.out.quiet hk)
  have Oa := Lib.hid hown
  have Sa := Lib.hid (Sl.of_own hown)
  clear hown hk
  have hna : (l.take 60).length ≤ 60 := by rw [List.length_take]; omega
  generalize l.take 60 = la at *
  obtain ⟨na, hlna⟩ : ∃ na, la.length = na := ⟨_, rfl⟩
  rw [hlna] at hna Oa Sa ⊢
  have HLa := Lib.hid hlna
  clear hlna
  go_wp2_with fail
  refine (few_any sb m cb 60 l2 w1 Sy.out (by omega)).mono ?_
  rintro e w2 ⟨sab, cab, rfl, hown, hk⟩
  replace HK := Lib.hid (HK.out.quiet hk)
  replace Sx := Lib.hid (Sx.out.quiet hk)
  replace Sy := Lib.hid (Sy.out.quiet hk)
  replace Sa := Lib.hid (Sa.out.quiet hk)
  replace Oa := Lib.hid (own_keep Oa.out hk (fun _ _ h => h))
  have Ob := Lib.hid hown
  have Sb := Lib.hid (Sl.of_own hown)
  clear hown hk
  have hnb : (l2.take 60).length ≤ 60 := by rw [List.length_take]; omega
  generalize l2.take 60 = lb at *
  obtain ⟨nb, hlnb⟩ : ∃ na, lb.length = na := ⟨_, rfl⟩
  rw [hlnb] at hnb Ob Sb ⊢
  have HLb := Lib.hid hlnb
  clear hlnb
  clear Sx Sy Oa Ob
  go_wp2_with fail
  refine (seal_any key saa na caa la sab nb cab lb w2 HU.out Sa.out (by omega) Sb.out (by omega)).mono ?_
  rintro e w3 ⟨sac, cac, rfl, hown, hk⟩
  replace HK := Lib.hid (HK.out.quiet hk)
  replace Sa := Lib.hid (Sa.out.quiet hk)
  replace Sb := Lib.hid (Sb.out.quiet hk)
  have Oc := Lib.hid hown
  have Sc := Lib.hid (Sl.of_own hown)
  clear hown hk
  clear Oc
  go_wp2_with fail
  refine (sopen_any key saa na caa la sac (nb + 8) cac _ w3 HU.out Sa.out (by omega) Sc.out (by omega)).mono ?_
  rw [open_seal]
  simp only [HLb.out]
  rintro e w4 ⟨sad, cad, rfl, hown, hk⟩
  replace HK := Lib.hid (HK.out.quiet hk)
  replace Sa := Lib.hid (Sa.out.quiet hk)
  replace Sb := Lib.hid (Sb.out.quiet hk)
  replace Sc := Lib.hid (Sc.out.quiet hk)
  have Sd := Lib.hid (Sl.of_own hown)
  clear hown hk
  go_wp2_with fail
  refine (same_any sad sab nb nb cad cab lb lb w4 Sd.out Sb.out).mono ?_
  rw [show decide (lb = lb) = true by simp]
  rintro e w5 ⟨rfl, hk⟩
  replace HK := Lib.hid (HK.out.quiet hk)
  replace Sa := Lib.hid (Sa.out.quiet hk)
  replace Sb := Lib.hid (Sb.out.quiet hk)
  replace Sc := Lib.hid (Sc.out.quiet hk)
  replace Sd := Lib.hid (Sd.out.quiet hk)
  clear hk
  go_wp2_with fail
  refine (lives_any w5).mono ?_
  rintro e w6 ⟨rfl, hk⟩
  replace HK := Lib.hid (HK.out.quiet hk)
  replace Sa := Lib.hid (Sa.out.quiet hk)
  replace Sb := Lib.hid (Sb.out.quiet hk)
  replace Sc := Lib.hid (Sc.out.quiet hk)
  replace Sd := Lib.hid (Sd.out.quiet hk)
  clear hk
  go_wp2
  go_ret
  exact ⟨rfl, HK.out⟩
end Go.Proofs.Ytnnhndnckpnkmaa
