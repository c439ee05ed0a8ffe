/-
  The law SealBegins: the walk. Conditions: the arguments are what came in.
-/
import Derived.Test.YtnnhndnckpnkmaaLives07
import Derived.Test.YtnnhndnckpnkmaaFew
import Derived.Test.YtnnhndnckpnkmaaAround
import Derived.Test.YtnnhndnckpnkmaaSame
import Derived.Test.YtnnhndnckpnkmaaRegion
import Derived.Test.YtnnhndnckpnkmaaOpen
namespace Go.Proofs.Ytnnhndnckpnkmaa
open Go.RowKit

set_option maxHeartbeats 2000000 in
set_option maxRecDepth 10000 in
theorem sealBegins_walk (key : Nat) (sa : Option Addr) (n cap : Nat) (l : List UInt8) (sb : Option Addr) (m cb : Nat) (l2 : List UInt8) (at_ : Int) (w : World) (hkey : U64 key) (hl : Sl w sa n cap (BV l)) (hl2 : Sl w sb m cb (BV l2)) (h1 : -9223372036854775808 ≤ at_) (h2 : at_ ≤ 9223372036854775807) :
    Calls Try.prog 9 #[.int .u64 key, .slice sa n cap, .slice sb m cb, .int .i64 at_] w fun e w' => e = .returned (.bool true) ∧ Keeps (fun _ => False) w w' := by
  have HI := Lib.hid (And.intro h1 h2)
  clear h1 h2
  have Sx := Lib.hid hl
  have Sy := Lib.hid hl2
  have HU := Lib.hid hkey
  clear hl hl2 hkey
  go_enter Try.func9, Try.ntmps9
  have HK := Lib.hid (Keeps.refl (fun _ => False) w)
  go_wp2_with fail
  refine (few_any sa n cap 20 l w Sx.out (by omega)).mono ?_
  rintro e w1 ⟨saa, caa, rfl, hown, hk⟩
  replace HK := Lib.hid (HK.out.quiet hk)
  replace Sx := Lib.hid (Sx.out.quiet hk)
  replace Sy := Lib.hid (Sy.out.quiet hk)
  have Oa := Lib.hid hown
  have Sa := Lib.hid (Sl.of_own hown)
  clear hown hk
  have hna : (l.take 20).length ≤ 20 := by rw [List.length_take]; omega
  generalize l.take 20 = la at *
  obtain ⟨na, hlna⟩ : ∃ na, la.length = na := ⟨_, rfl⟩
  rw [hlna] at hna Oa Sa ⊢
  have HLa := Lib.hid hlna
  clear hlna
  go_wp2_with fail
  refine (few_any sb m cb 60 l2 w1 Sy.out (by omega)).mono ?_
  rintro e w2 ⟨sab, cab, rfl, hown, hk⟩
  replace HK := Lib.hid (HK.out.quiet hk)
  replace Sx := Lib.hid (Sx.out.quiet hk)
  replace Sy := Lib.hid (Sy.out.quiet hk)
  replace Sa := Lib.hid (Sa.out.quiet hk)
  replace Oa := Lib.hid (own_keep Oa.out hk (fun _ _ h => h))
  have Ob := Lib.hid hown
  have Sb := Lib.hid (Sl.of_own hown)
  clear hown hk
  have hnb : (l2.take 60).length ≤ 60 := by rw [List.length_take]; omega
  generalize l2.take 60 = lb at *
  obtain ⟨nb, hlnb⟩ : ∃ na, lb.length = na := ⟨_, rfl⟩
  rw [hlnb] at hnb Ob Sb ⊢
  have HLb := Lib.hid hlnb
  clear hlnb
  clear Sx Sy Oa Ob
  obtain ⟨k, hk, _, hc1⟩ := around_nat at_ (nb + 1) w2 HI.out.1 HI.out.2 (by omega) (by omega)
  have HC := Lib.hid hc1
  clear hc1
  go_wp2_with fail
  refine HC.out.mono ?_
  rintro e _ ⟨rfl, rfl⟩
  clear HC
  have hkb : k ≤ nb := by omega
  have hcab := Sb.out.le
  go_wp2_with fail
  refine (seal_any key saa na caa la sab nb cab lb w2 HU.out Sa.out (by omega) Sb.out (by omega)).mono ?_
  rintro e w3 ⟨sac, cac, rfl, hown, hk⟩
  replace HK := Lib.hid (HK.out.quiet hk)
  replace Sa := Lib.hid (Sa.out.quiet hk)
  replace Sb := Lib.hid (Sb.out.quiet hk)
  have Oc := Lib.hid hown
  have Sc := Lib.hid (Sl.of_own hown)
  clear hown hk
  clear Oc
  have t0 : (0 : Int) ≤ (k : Int) := by omega
  have t1 : (k : Int) ≤ (cab : Int) := by omega
  go_wp2_with fail
  refine (seal_any key saa na caa la sab k cab (lb.take k) w3 HU.out Sa.out (by omega) (by rw [← BV_take]; exact Sb.out.upto hkb) (by omega)).mono ?_
  rintro e w4 ⟨sad, cad, rfl, hown, hk⟩
  replace HK := Lib.hid (HK.out.quiet hk)
  replace Sa := Lib.hid (Sa.out.quiet hk)
  replace Sb := Lib.hid (Sb.out.quiet hk)
  replace Sc := Lib.hid (Sc.out.quiet hk)
  have Od := Lib.hid hown
  have Sd := Lib.hid (Sl.of_own hown)
  clear hown hk
  clear Od Sa Sb
  have hcc := Sc.out.le
  have hcd := Sd.out.le
  have t2 : (k : Int) ≤ (cac : Int) := by omega
  have t3 : (k : Int) ≤ (cad : Int) := by omega
  have e1 : ((nb : Int) + 8 != (nb : Int) + 8) = false := by simp
  have e2 : ((k : Int) + 8 != (k : Int) + 8) = false := by simp
  have HP := Lib.hid (seal_take key la lb k (by rw [HLb.out]; exact hkb))
  obtain ⟨X, hX⟩ : ∃ X, sealS key la lb = X := ⟨_, rfl⟩
  obtain ⟨Y, hY⟩ : ∃ Y, sealS key la (lb.take k) = Y := ⟨_, rfl⟩
  rw [hX] at Sc HP
  rw [hY] at Sd HP
  clear hX hY
  go_wp2_with fail
  refine z_begin (fun w' => Sl w' sac (nb + 8) cac (BV X) ∧ Sl w' sad (k + 8) cad (BV Y)) 10 (by kernel_rfl) ⟨Sc.out.quiet (Keeps.refl _ w4).drew, Sd.out.quiet (Keeps.refl _ w4).drew⟩ (fun hHeld => ?_)
  replace HK := Lib.hid (HK.out.drew)
  clear Sc Sd
  generalize World.drew w4 = v1 at *
  refine z_take 0 (v := ?_) rfl (by kernel_rfl) (by kernel_rfl) (by kernel_rfl) (by kernel_rfl) (fun _ _ _ h => h) hHeld (by rfl) (fun w hSw => ?_) ?_
  rotate_left
  · obtain ⟨hSw1, hSw2⟩ := hSw; simp only [List.getElem_toArray, List.getElem_cons_zero]; go_simp; try rfl
  simp only [Act.put, List.getElem_toArray, List.getElem_cons_zero, List.setIfInBounds_toArray, List.set_cons_zero, List.set_cons_succ]
  refine z_take 1 (v := ?_) rfl (by kernel_rfl) (by kernel_rfl) (by kernel_rfl) (by kernel_rfl) (fun _ _ _ h => h) hHeld (by rfl) (fun w hSw => ?_) ?_
  rotate_left
  · obtain ⟨hSw1, hSw2⟩ := hSw; simp only [List.getElem_toArray, List.getElem_cons_zero, List.getElem_cons_succ]; go_simp; try rfl
  simp only [Act.put, List.getElem_toArray, List.getElem_cons_zero, List.getElem_cons_succ, List.setIfInBounds_toArray, List.set_cons_zero, List.set_cons_succ]
  refine z_take 2 (v := ?_) rfl (by kernel_rfl) (by kernel_rfl) (by kernel_rfl) (by kernel_rfl) (fun _ _ _ h => h) hHeld (by rfl) (fun w hSw => ?_) ?_
  rotate_left
  · obtain ⟨hSw1, hSw2⟩ := hSw; simp only [List.getElem_toArray, List.getElem_cons_zero, List.getElem_cons_succ]; go_simp; try rfl
  simp only [Act.put, List.getElem_toArray, List.getElem_cons_zero, List.getElem_cons_succ, List.setIfInBounds_toArray, List.set_cons_zero, List.set_cons_succ]
  refine z_take 3 (v := ?_) rfl (by kernel_rfl) (by kernel_rfl) (by kernel_rfl) (by kernel_rfl) (fun _ _ _ h => h) hHeld (by rfl) (fun w hSw => ?_) ?_
  rotate_left
  · obtain ⟨hSw1, hSw2⟩ := hSw; simp only [List.getElem_toArray, List.getElem_cons_zero, List.getElem_cons_succ]; go_simp; try rfl
  simp only [Act.put, List.getElem_toArray, List.getElem_cons_zero, List.getElem_cons_succ, List.setIfInBounds_toArray, List.set_cons_zero, List.set_cons_succ]
  refine z_take 4 (v := ?_) rfl (by kernel_rfl) (by kernel_rfl) (by kernel_rfl) (by kernel_rfl) (fun _ _ _ h => h) hHeld (by rfl) (fun w hSw => ?_) ?_
  rotate_left
  · obtain ⟨hSw1, hSw2⟩ := hSw; simp only [List.getElem_toArray, List.getElem_cons_zero, List.getElem_cons_succ]; go_simp; try rfl
  simp only [Act.put, List.getElem_toArray, List.getElem_cons_zero, List.getElem_cons_succ, List.setIfInBounds_toArray, List.set_cons_zero, List.set_cons_succ]
  refine z_take 5 (v := ?_) rfl (by kernel_rfl) (by kernel_rfl) (by kernel_rfl) (by kernel_rfl) (fun _ _ _ h => h) hHeld (by rfl) (fun w hSw => ?_) ?_
  rotate_left
  · obtain ⟨hSw1, hSw2⟩ := hSw; simp only [List.getElem_toArray, List.getElem_cons_zero, List.getElem_cons_succ]; go_simp; try rfl
  simp only [Act.put, List.getElem_toArray, List.getElem_cons_zero, List.getElem_cons_succ, List.setIfInBounds_toArray, List.set_cons_zero, List.set_cons_succ]
  refine z_one 6 rfl (by kernel_rfl) (by rfl) (fun K hK => ?_)
  simp only [List.getElem_toArray, List.getElem_cons_zero, List.getElem_cons_succ]
  go_simp
  refine (same_any sac sad k k cac cad (X.take k) (Y.take k) v1 (by rw [← BV_take]; exact hHeld.1.upto (by omega)) (by rw [← BV_take]; exact hHeld.2.upto (by omega))).mono ?_
  rw [show decide (X.take k = Y.take k) = true by simp [HP.out]]
  rintro e v2 ⟨rfl, hk2⟩
  replace HK := Lib.hid (HK.out.quiet hk2)
  refine hK _ _ (Or.inr ?_) (fun hHeld => ?_)
  · exact ⟨hHeld.1.quiet hk2, hHeld.2.quiet hk2⟩
  clear hK K hk2
  replace hHeld := hHeld.resolve_left (by decide)
  try simp only [Act.put, List.setIfInBounds_toArray, List.set_cons_zero, List.set_cons_succ]
  refine z_one 7 rfl (by kernel_rfl) (by rfl) (fun K hK => ?_)
  simp only [List.getElem_toArray, List.getElem_cons_zero, List.getElem_cons_succ]
  go_simp
  refine hK _ _ (Or.inr ?_) (fun hHeld => ?_)
  · exact hHeld
  clear hK K
  replace hHeld := hHeld.resolve_left (by decide)
  try simp only [Act.put, List.setIfInBounds_toArray, List.set_cons_zero, List.set_cons_succ]
  refine z_one 8 rfl (by kernel_rfl) (by rfl) (fun K hK => ?_)
  simp only [List.getElem_toArray, List.getElem_cons_zero, List.getElem_cons_succ]
  go_simp
  refine (lives_any v2).mono ?_
  rintro e v3 ⟨rfl, hk2⟩
  replace HK := Lib.hid (HK.out.quiet hk2)
  refine hK _ _ (Or.inr ?_) (fun hHeld => ?_)
  · exact ⟨hHeld.1.quiet hk2, hHeld.2.quiet hk2⟩
  clear hK K hk2
  replace hHeld := hHeld.resolve_left (by decide)
  try simp only [Act.put, List.setIfInBounds_toArray, List.set_cons_zero, List.set_cons_succ]
  refine z_one 9 rfl (by kernel_rfl) (by rfl) (fun K hK => ?_)
  simp only [List.getElem_toArray, List.getElem_cons_zero, List.getElem_cons_succ]
  go_simp
  refine hK _ _ (Or.inr ?_) (fun hHeld => ?_)
  · exact hHeld
  clear hK K
  replace hHeld := hHeld.resolve_left (by decide)
  try simp only [Act.put, List.setIfInBounds_toArray, List.set_cons_zero, List.set_cons_succ]
  refine z_one 10 rfl (by kernel_rfl) (by rfl) (fun K hK => ?_)
  simp only [List.getElem_toArray, List.getElem_cons_zero, List.getElem_cons_succ]
  go_simp
  refine hK _ _ (Or.inl rfl) (fun _ => ?_)
  clear hK K hHeld
  try simp only [Act.put, List.setIfInBounds_toArray, List.set_cons_zero, List.set_cons_succ]
  refine z_done (by kernel_rfl) ?_ _
  go_wp2
  go_ret
  exact ⟨rfl, HK.out⟩
end Go.Proofs.Ytnnhndnckpnkmaa
