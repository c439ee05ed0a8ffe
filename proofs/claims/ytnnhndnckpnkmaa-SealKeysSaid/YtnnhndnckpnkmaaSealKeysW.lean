/-
  The law SealKeys: the walk. Conditions: the arguments are what came in.
-/
import Derived.Test.YtnnhndnckpnkmaaLives07
import Derived.Test.YtnnhndnckpnkmaaFew
import Derived.Test.YtnnhndnckpnkmaaAround
import Derived.Test.YtnnhndnckpnkmaaSame
import Derived.Test.YtnnhndnckpnkmaaRegion
import Derived.Test.YtnnhndnckpnkmaaOpen
namespace Go.Proofs.Ytnnhndnckpnkmaa
open Go.RowKit

set_option maxHeartbeats 2000000 in
set_option maxRecDepth 10000 in
theorem sealKeys_walk (key other : Nat) (sa : Option Addr) (n cap : Nat) (l : List UInt8) (sb : Option Addr) (m cb : Nat) (l2 : List UInt8) (w : World) (hkey : U64 key) (hkey2 : U64 other) (hl : Sl w sa n cap (BV l)) (hl2 : Sl w sb m cb (BV l2)) :
    Calls Try.prog 7 #[.int .u64 key, .int .u64 other, .slice sa n cap, .slice sb m cb] w fun e w' => e = .returned (.bool true) ∧ Keeps (fun _ => False) w w' := by
  have Sx := Lib.hid hl
  have Sy := Lib.hid hl2
  have HU := Lib.hid (And.intro hkey hkey2)
  clear hl hl2 hkey hkey2
  go_enter Try.func7, Try.ntmps7
  have HK := Lib.hid (Keeps.refl (fun _ => False) w)
  go_wp2_with fail
  refine (few_any sa n cap 40 l w Sx.out (by omega)).mono ?_
  rintro e w1 ⟨saa, caa, rfl, hown, hk⟩
  replace HK := Lib.hid (HK.out.quiet hk)
  replace Sx := Lib.hid (Sx.out.quiet hk)
  replace Sy := Lib.hid (Sy.out.quiet hk)
  have Oa := Lib.hid hown
  have Sa := Lib.hid (Sl.of_own hown)
  clear hown hk
  have hna : (l.take 40).length ≤ 40 := by rw [List.length_take]; omega
  generalize l.take 40 = la at *
  obtain ⟨na, hlna⟩ : ∃ na, la.length = na := ⟨_, rfl⟩
  rw [hlna] at hna Oa Sa ⊢
  have HLa := Lib.hid hlna
  clear hlna
  go_wp2_with fail
  refine (few_any sb m cb 40 l2 w1 Sy.out (by omega)).mono ?_
  rintro e w2 ⟨sab, cab, rfl, hown, hk⟩
  replace HK := Lib.hid (HK.out.quiet hk)
  replace Sx := Lib.hid (Sx.out.quiet hk)
  replace Sy := Lib.hid (Sy.out.quiet hk)
  replace Sa := Lib.hid (Sa.out.quiet hk)
  replace Oa := Lib.hid (own_keep Oa.out hk (fun _ _ h => h))
  have Ob := Lib.hid hown
  have Sb := Lib.hid (Sl.of_own hown)
  clear hown hk
  have hnb : (l2.take 40).length ≤ 40 := by rw [List.length_take]; omega
  generalize l2.take 40 = lb at *
  obtain ⟨nb, hlnb⟩ : ∃ na, lb.length = na := ⟨_, rfl⟩
  rw [hlnb] at hnb Ob Sb ⊢
  have HLb := Lib.hid hlnb
  clear hlnb
  clear Sx Sy Oa Ob
  go_wp2_with fail
  refine (seal_any key saa na caa la sab nb cab lb w2 HU.out.1 Sa.out (by omega) Sb.out (by omega)).mono ?_
  rintro e w3 ⟨sac, cac, rfl, hown, hk⟩
  replace HK := Lib.hid (HK.out.quiet hk)
  replace Sa := Lib.hid (Sa.out.quiet hk)
  replace Sb := Lib.hid (Sb.out.quiet hk)
  have Oc := Lib.hid hown
  have Sc := Lib.hid (Sl.of_own hown)
  clear hown hk
  clear Oc
  by_cases hd : num key = num other
  · have t1 : ((key : Int) % 2305843009213693951 == (other : Int) % 2305843009213693951) = true := by simp; unfold num at hd; omega
    have HD := Lib.hid hd
    have HT := Lib.hid t1
    clear hd t1
    go_wp2_with fail
    refine (sopen_any other saa na caa la sac (nb + 8) cac _ w3 HU.out.2 Sa.out (by omega) Sc.out (by omega)).mono ?_
    rw [open_key key other la lb HD.out]
    simp only [HLb.out]
    rintro e w4 ⟨sad, cad, rfl, hown, hk⟩
    replace HK := Lib.hid (HK.out.quiet hk)
    replace Sa := Lib.hid (Sa.out.quiet hk)
    replace Sb := Lib.hid (Sb.out.quiet hk)
    replace Sc := Lib.hid (Sc.out.quiet hk)
    clear hown hk
    have t1 := HT.out
    go_wp2_with fail
    refine (lives_any w4).mono ?_
    rintro e w5 ⟨rfl, hk⟩
    replace HK := Lib.hid (HK.out.quiet hk)
    replace Sa := Lib.hid (Sa.out.quiet hk)
    replace Sb := Lib.hid (Sb.out.quiet hk)
    replace Sc := Lib.hid (Sc.out.quiet hk)
    clear hk
    go_wp2
    go_ret
    exact ⟨rfl, HK.out⟩
  · have t1 : ((key : Int) % 2305843009213693951 == (other : Int) % 2305843009213693951) = false := by simp; unfold num at hd; omega
    have HD := Lib.hid hd
    have HT := Lib.hid t1
    clear hd t1
    go_wp2_with fail
    refine (sopen_any other saa na caa la sac (nb + 8) cac _ w3 HU.out.2 Sa.out (by omega) Sc.out (by omega)).mono ?_
    rw [open_other_key key other la lb HD.out]
    simp only [List.length_nil]
    rintro e w4 ⟨sad, cad, rfl, hown, hk⟩
    replace HK := Lib.hid (HK.out.quiet hk)
    replace Sa := Lib.hid (Sa.out.quiet hk)
    replace Sb := Lib.hid (Sb.out.quiet hk)
    replace Sc := Lib.hid (Sc.out.quiet hk)
    clear hown hk
    have t1 := HT.out
    go_wp2_with fail
    refine (lives_any w4).mono ?_
    rintro e w5 ⟨rfl, hk⟩
    replace HK := Lib.hid (HK.out.quiet hk)
    replace Sa := Lib.hid (Sa.out.quiet hk)
    replace Sb := Lib.hid (Sb.out.quiet hk)
    replace Sc := Lib.hid (Sc.out.quiet hk)
    clear hk
    go_wp2
    go_ret
    exact ⟨rfl, HK.out⟩
end Go.Proofs.Ytnnhndnckpnkmaa
