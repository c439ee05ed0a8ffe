/-
  The law SealShort: the walk. Conditions: the arguments are what came in.
-/
import Derived.Test.YtnnhndnckpnkmaaLives07
import Derived.Test.YtnnhndnckpnkmaaFew
import Derived.Test.YtnnhndnckpnkmaaAround
import Derived.Test.YtnnhndnckpnkmaaSame
import Derived.Test.YtnnhndnckpnkmaaRegion
import Derived.Test.YtnnhndnckpnkmaaOpen
namespace Go.Proofs.Ytnnhndnckpnkmaa
open Go.RowKit

set_option maxHeartbeats 2000000 in
set_option maxRecDepth 10000 in
theorem sealShort_walk (key : Nat) (sa : Option Addr) (n cap : Nat) (l : List UInt8) (sb : Option Addr) (m cb : Nat) (l2 : List UInt8) (w : World) (hkey : U64 key) (hl : Sl w sa n cap (BV l)) (hl2 : Sl w sb m cb (BV l2)) :
    Calls Try.prog 10 #[.int .u64 key, .slice sa n cap, .slice sb m cb] w fun e w' => e = .returned (.bool true) ∧ Keeps (fun _ => False) w w' := by
  have Sx := Lib.hid hl
  have Sy := Lib.hid hl2
  have HU := Lib.hid hkey
  clear hl hl2 hkey
  go_enter Try.func10, Try.ntmps10
  have HK := Lib.hid (Keeps.refl (fun _ => False) w)
  go_wp2_with fail
  refine (few_any sb m cb 12 l2 w Sy.out (by omega)).mono ?_
  rintro e w1 ⟨sab, cab, rfl, hown, hk⟩
  replace HK := Lib.hid (HK.out.quiet hk)
  replace Sx := Lib.hid (Sx.out.quiet hk)
  replace Sy := Lib.hid (Sy.out.quiet hk)
  have Ob := Lib.hid hown
  have Sb := Lib.hid (Sl.of_own hown)
  clear hown hk
  have hnb : (l2.take 12).length ≤ 12 := by rw [List.length_take]; omega
  generalize l2.take 12 = lb at *
  obtain ⟨nb, hlnb⟩ : ∃ na, lb.length = na := ⟨_, rfl⟩
  rw [hlnb] at hnb Ob Sb ⊢
  have HLb := Lib.hid hlnb
  clear hlnb
  go_wp2_with fail
  refine (few_any sa n cap 20 l w1 Sx.out (by omega)).mono ?_
  rintro e w2 ⟨saa, caa, rfl, hown, hk⟩
  replace HK := Lib.hid (HK.out.quiet hk)
  replace Sx := Lib.hid (Sx.out.quiet hk)
  replace Sy := Lib.hid (Sy.out.quiet hk)
  replace Sb := Lib.hid (Sb.out.quiet hk)
  replace Ob := Lib.hid (own_keep Ob.out hk (fun _ _ h => h))
  have Oa := Lib.hid hown
  have Sa := Lib.hid (Sl.of_own hown)
  clear hown hk
  have hna : (l.take 20).length ≤ 20 := by rw [List.length_take]; omega
  generalize l.take 20 = la at *
  obtain ⟨na, hlna⟩ : ∃ na, la.length = na := ⟨_, rfl⟩
  rw [hlna] at hna Oa Sa ⊢
  have HLa := Lib.hid hlna
  clear hlna
  clear Sx Sy Oa Ob
  by_cases h8 : nb < 8
  · have t1 : (nb : Int) < 8 := by omega
    go_wp2_with fail
    refine (sopen_any key saa na caa la sab nb cab lb w2 HU.out Sa.out (by omega) Sb.out (by omega)).mono ?_
    rw [open_short1 key la lb (by rw [HLb.out]; exact h8)]
    simp only [List.length_nil]
    rintro e w3 ⟨sad, cad, rfl, hown, hk⟩
    replace HK := Lib.hid (HK.out.quiet hk)
    replace Sb := Lib.hid (Sb.out.quiet hk)
    replace Sa := Lib.hid (Sa.out.quiet hk)
    clear hown hk
    go_wp2_with fail
    refine (lives_any w3).mono ?_
    rintro e w4 ⟨rfl, hk⟩
    replace HK := Lib.hid (HK.out.quiet hk)
    replace Sb := Lib.hid (Sb.out.quiet hk)
    replace Sa := Lib.hid (Sa.out.quiet hk)
    clear hk
    go_wp2
    go_ret
    exact ⟨rfl, HK.out⟩
  · have t1 : ¬ (nb : Int) < 8 := by omega
    have h9 : (openS key la lb).2 ≠ 9 := fun h => by have := (open_short key la lb).1 h; rw [HLb.out] at this; omega
    obtain ⟨ol, oe, ho⟩ : ∃ ol oe, openS key la lb = (ol, oe) := ⟨_, _, rfl⟩
    rw [ho] at h9
    have t2 : (oe != 9) = true := by simpa using h9
    have HO := Lib.hid ho
    obtain ⟨on, hon⟩ : ∃ on, ol.length = on := ⟨_, rfl⟩
    have HON := Lib.hid hon
    clear ho h9 hon
    go_wp2_with fail
    refine (sopen_any key saa na caa la sab nb cab lb w2 HU.out Sa.out (by omega) Sb.out (by omega)).mono ?_
    rw [HO.out]
    simp only [HON.out]
    rintro e w3 ⟨sad, cad, rfl, hown, hk⟩
    replace HK := Lib.hid (HK.out.quiet hk)
    replace Sb := Lib.hid (Sb.out.quiet hk)
    replace Sa := Lib.hid (Sa.out.quiet hk)
    clear hown hk
    go_wp2_with fail
    refine (lives_any w3).mono ?_
    rintro e w4 ⟨rfl, hk⟩
    replace HK := Lib.hid (HK.out.quiet hk)
    replace Sb := Lib.hid (Sb.out.quiet hk)
    replace Sa := Lib.hid (Sa.out.quiet hk)
    clear hk
    go_wp2
    go_ret
    exact ⟨rfl, HK.out⟩
end Go.Proofs.Ytnnhndnckpnkmaa
