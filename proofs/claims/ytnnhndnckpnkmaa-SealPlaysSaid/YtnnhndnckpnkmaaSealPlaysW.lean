/-
  The law SealPlays: the walk. Conditions: the arguments are what came in.
-/
import Derived.Test.YtnnhndnckpnkmaaLives07
import Derived.Test.YtnnhndnckpnkmaaFew
import Derived.Test.YtnnhndnckpnkmaaAround
import Derived.Test.YtnnhndnckpnkmaaSame
import Derived.Test.YtnnhndnckpnkmaaRegion
import Derived.Test.YtnnhndnckpnkmaaOpen
import Derived.Test.YtnnhndnckpnkmaaRefSeal2
namespace Go.Proofs.Ytnnhndnckpnkmaa
open Go.RowKit

def PlRel (w : World) (i : Value) (wr : World) : Prop := ∃ k : Nat, k ≤ 3 ∧ i = .int .i64 (k : Int) ∧ Keeps (fun _ => False) w wr

set_option maxHeartbeats 2000000 in
set_option maxRecDepth 10000 in
theorem sealPlays_walk (key : Nat) (sa : Option Addr) (n cap : Nat) (l : List UInt8) (sb : Option Addr) (m cb : Nat) (l2 : List UInt8) (sr : Option Addr) (mr cr : Nat) (lr : List UInt8) (at_ : Int) (w : World) (hkey : U64 key) (hl : Sl w sa n cap (BV l)) (hl2 : Sl w sb m cb (BV l2)) (hlr : Sl w sr mr cr (BV lr)) (h1 : -9223372036854775808 ≤ at_) (h2 : at_ ≤ 9223372036854775807) :
    Calls Try.prog 3 #[.int .u64 key, .slice sa n cap, .slice sb m cb, .slice sr mr cr, .int .i64 at_] w fun e w' => e = .returned (.bool true) ∧ Keeps (fun _ => False) w w' := by
  have HI := Lib.hid (And.intro h1 h2)
  have Sz := Lib.hid hlr
  clear h1 h2 hlr
  have Sx := Lib.hid hl
  have Sy := Lib.hid hl2
  have HU := Lib.hid hkey
  clear hl hl2 hkey
  go_enter Try.func3, Try.ntmps3
  have HK := Lib.hid (Keeps.refl (fun _ => False) w)
  go_wp2_with fail
  refine (few_any sa n cap 20 l w Sx.out (by omega)).mono ?_
  rintro e w1 ⟨saa, caa, rfl, hown, hk⟩
  replace HK := Lib.hid (HK.out.quiet hk)
  replace Sx := Lib.hid (Sx.out.quiet hk)
  replace Sy := Lib.hid (Sy.out.quiet hk)
  replace Sz := Lib.hid (Sz.out.quiet hk)
  have Oa := Lib.hid hown
  have Sa := Lib.hid (Sl.of_own hown)
  clear hown hk
  have hna : (l.take 20).length ≤ 20 := by rw [List.length_take]; omega
  generalize l.take 20 = la at *
  obtain ⟨na, hlna⟩ : ∃ na, la.length = na := ⟨_, rfl⟩
  rw [hlna] at hna Oa Sa ⊢
  have HLa := Lib.hid hlna
  clear hlna
  go_wp2_with fail
  refine (few_any sb m cb 50 l2 w1 Sy.out (by omega)).mono ?_
  rintro e w2 ⟨sab, cab, rfl, hown, hk⟩
  replace HK := Lib.hid (HK.out.quiet hk)
  replace Sx := Lib.hid (Sx.out.quiet hk)
  replace Sy := Lib.hid (Sy.out.quiet hk)
  replace Sz := Lib.hid (Sz.out.quiet hk)
  replace Sa := Lib.hid (Sa.out.quiet hk)
  replace Oa := Lib.hid (own_keep Oa.out hk (fun _ _ h => h))
  have Ob := Lib.hid hown
  have Sb := Lib.hid (Sl.of_own hown)
  clear hown hk
  have hnb : (l2.take 50).length ≤ 50 := by rw [List.length_take]; omega
  generalize l2.take 50 = lb at *
  obtain ⟨nb, hlnb⟩ : ∃ na, lb.length = na := ⟨_, rfl⟩
  rw [hlnb] at hnb Ob Sb ⊢
  have HLb := Lib.hid hlnb
  clear hlnb
  clear Sx Sy Oa Ob
  go_wp2_with fail
  refine (seal_any key saa na caa la sab nb cab lb w2 HU.out Sa.out (by omega) Sb.out (by omega)).mono ?_
  rintro e w3 ⟨sac, cac, rfl, hown, hk⟩
  replace HK := Lib.hid (HK.out.quiet hk)
  replace Sz := Lib.hid (Sz.out.quiet hk)
  replace Sa := Lib.hid (Sa.out.quiet hk)
  replace Sb := Lib.hid (Sb.out.quiet hk)
  have Oc := Lib.hid hown
  have Sc := Lib.hid (Sl.of_own hown)
  clear hown hk
  clear Oc
  go_wp2_with fail
  refine (refSeal_any key saa na caa la sab nb cab lb w3 HU.out Sa.out (by omega) Sb.out (by omega)).mono ?_
  rintro e w4 ⟨sad, cad, rfl, hown, hk⟩
  replace HK := Lib.hid (HK.out.quiet hk)
  replace Sz := Lib.hid (Sz.out.quiet hk)
  replace Sa := Lib.hid (Sa.out.quiet hk)
  replace Sb := Lib.hid (Sb.out.quiet hk)
  replace Sc := Lib.hid (Sc.out.quiet hk)
  have Od := Lib.hid hown
  have Sd := Lib.hid (Sl.of_own hown)
  clear hown hk
  clear Od
  generalize sealS key la lb = X at *
  go_wp2_with fail
  refine (same_any sac sad (nb + 8) (nb + 8) cac cad X X w4 Sc.out Sd.out).mono ?_
  rw [show decide (X = X) = true by simp]
  rintro e w5 ⟨rfl, hk⟩
  replace HK := Lib.hid (HK.out.quiet hk)
  replace Sz := Lib.hid (Sz.out.quiet hk)
  replace Sa := Lib.hid (Sa.out.quiet hk)
  replace Sb := Lib.hid (Sb.out.quiet hk)
  replace Sc := Lib.hid (Sc.out.quiet hk)
  replace Sd := Lib.hid (Sd.out.quiet hk)
  clear hk
  clear Sd Sb
  go_wp2_with fail
  refine (few_any sr mr cr 30 lr w5 Sz.out (by omega)).mono ?_
  rintro e w6 ⟨sar, car, rfl, hown, hk⟩
  replace HK := Lib.hid (HK.out.quiet hk)
  replace Sz := Lib.hid (Sz.out.quiet hk)
  replace Sa := Lib.hid (Sa.out.quiet hk)
  replace Sc := Lib.hid (Sc.out.quiet hk)
  have Or := Lib.hid hown
  have Sr := Lib.hid (Sl.of_own hown)
  clear hown hk
  have hnr : (lr.take 30).length ≤ 30 := by rw [List.length_take]; omega
  generalize lr.take 30 = ly at *
  obtain ⟨nr, hlnr⟩ : ∃ na, ly.length = na := ⟨_, rfl⟩
  rw [hlnr] at hnr Or Sr ⊢
  have HLr := Lib.hid hlnr
  clear hlnr
  clear Sz Or
  obtain ⟨k, hk, _, hc1⟩ := around_nat at_ (nb + 8 + 1) w6 HI.out.1 HI.out.2 (by omega) (by omega)
  have HC := Lib.hid hc1
  clear hc1
  go_wp2_with fail
  refine HC.out.mono ?_
  rintro e _ ⟨rfl, rfl⟩
  clear HC
  have hcc := Sc.out.le
  have t0 : (0 : Int) ≤ (k : Int) := by omega
  have t1 : (k : Int) ≤ (cac : Int) := by omega
  have hkb : k ≤ nb + 8 := by omega
  go_wp2_with fail
  obtain ⟨gl, hgl⟩ : ∃ g, w6.heap.size = g := ⟨_, rfl⟩
  obtain ⟨wl, hwl⟩ : ∃ W, World.alloc w6 (.cells #[.slice sac (nb + 8) cac, .slice sar nr car, .slice sac k cac] 23) = W := ⟨_, rfl⟩
  have hb : wl.heap[gl]? = some (.cells #[.slice sac (nb + 8) cac, .slice sar nr car, .slice sac k cac] 23 (0, 0)) := by rw [← hwl, ← hgl]; exact World.alloc_heap_new w6 _
  have hk : Keeps (fun _ => False) w6 wl := by rw [← hwl]; exact (Keeps.refl _ w6).alloc _
  rw [hwl, hgl]
  replace HK := Lib.hid (HK.out.quiet hk)
  replace Sa := Lib.hid (Sa.out.quiet hk)
  replace Sc := Lib.hid (Sc.out.quiet hk)
  replace Sr := Lib.hid (Sr.out.quiet hk)
  have HG : Hid (∀ j : Nat, j < 3 → ∃ sx nx cx lx, wl.cell? ⟨gl, j, none⟩ = some (.slice sx nx cx) ∧ Sl wl sx nx cx (BV lx) ∧ nx ≤ 1000) := by
    intro j hj
    have hj2 : j = 0 ∨ j = 1 ∨ j = 2 := by omega
    rcases hj2 with rfl | rfl | rfl
    · exact ⟨_, _, _, _, by rw [cellAt hb 0]; rfl, Sc.out, by omega⟩
    · exact ⟨_, _, _, _, by rw [cellAt hb 1]; rfl, Sr.out, by omega⟩
    · exact ⟨_, _, _, X.take k, by rw [cellAt hb 2]; rfl, by rw [← BV_take]; exact Sc.out.upto hkb, by omega⟩
  clear hb hk hwl hgl Sr Sc
  go_loopw [15] (fun i wr => PlRel wl i wr) (fun i _ => 3 - (intOf i).toNat)
  case atStart => exact ⟨0, by omega, rfl, Keeps.refl _ _⟩
  case round =>
    obtain ⟨j, hj, rfl, hkp⟩ := hrel
    replace HK := Lib.hid (HK.out.quiet hkp)
    have HR := Lib.hid hkp
    replace Sa := Lib.hid (Sa.out.quiet hkp)
    by_cases hlt : j < 3
    · obtain ⟨sx, nx, cx, lx, hc, hS, hnx⟩ := HG.out j hlt
      replace hS := hS.quiet hkp
      have hc2 := kcell hkp hc
      have SX := Lib.hid hS
      have HCC := Lib.hid hc2
      clear hkp hS hc HG
      have t1 : (j : Int) < 3 := by omega
      have t2 : (0 : Int) ≤ (j : Int) := by omega
      obtain ⟨ol, oe, ho⟩ : ∃ ol oe, openS key la lx = (ol, oe) := ⟨_, _, rfl⟩
      obtain ⟨on, hon⟩ : ∃ on, ol.length = on := ⟨_, rfl⟩
      have HO := Lib.hid (And.intro ho hon)
      clear ho hon
      go_wp2_with fail
      refine (sopen_any key saa na caa la sx nx cx lx wr HU.out Sa.out (by omega) SX.out (by omega)).mono ?_
      rw [HO.out.1]
      simp only [HO.out.2]
      rintro e w21 ⟨sou, cou, rfl, hown, hk⟩
      have Su := Lib.hid (Sl.of_own hown)
      replace HK := Lib.hid (HK.out.quiet hk)
      replace Sa := Lib.hid (Sa.out.quiet hk)
      replace SX := Lib.hid (SX.out.quiet hk)
      replace HR := Lib.hid (HR.out.quiet hk)
      replace hc2 := kcell hk HCC.out
      replace HCC := Lib.hid hc2
      clear hown hk
      go_wp2_with fail
      refine (refOpen_any key saa na caa la sx nx cx lx w21 HU.out Sa.out (by omega) SX.out (by omega)).mono ?_
      rw [HO.out.1]
      simp only [HO.out.2]
      rintro e w22 ⟨sov, cov, rfl, hown, hk⟩
      have Sv := Lib.hid (Sl.of_own hown)
      replace HK := Lib.hid (HK.out.quiet hk)
      replace Sa := Lib.hid (Sa.out.quiet hk)
      replace SX := Lib.hid (SX.out.quiet hk)
      replace Su := Lib.hid (Su.out.quiet hk)
      replace HR := Lib.hid (HR.out.quiet hk)
      replace hc2 := kcell hk HCC.out
      replace HCC := Lib.hid hc2
      clear hown hk
      have e1 : (oe != oe) = false := by simp
      clear hc2
      go_wp2_with fail
      refine (same_any sou sov on on cou cov ol ol w22 Su.out Sv.out).mono ?_
      rw [show decide (ol = ol) = true by simp]
      rintro e w23 ⟨rfl, hk⟩
      replace HK := Lib.hid (HK.out.quiet hk)
      replace Sa := Lib.hid (Sa.out.quiet hk)
      replace SX := Lib.hid (SX.out.quiet hk)
      replace Su := Lib.hid (Su.out.quiet hk)
      replace Sv := Lib.hid (Sv.out.quiet hk)
      replace HR := Lib.hid (HR.out.quiet hk)
      clear hk
      go_wp2
      go_roundw
      case rel => exact ⟨j + 1, by omega, rfl, HR.out⟩
      case measure => simp [intOf]; omega
    · have t1 : ¬ (j : Int) < 3 := by omega
      clear HG hkp
      go_wp2_with fail
      refine (lives_any wr).mono ?_
      rintro e w31 ⟨rfl, hk⟩
      replace HK := Lib.hid (HK.out.quiet hk)
      clear hk
      go_wp2
      go_ret
      exact ⟨rfl, HK.out⟩
end Go.Proofs.Ytnnhndnckpnkmaa
