/-
  The law DrawPlays: the walk. Conditions: the arguments are what came in.
-/
import Derived.Test.YtgmdiekjefgikaaLives03
import Derived.Test.YtgmdiekjefgikaaRefDraw
import Derived.Test.YtgmdiekjefgikaaAround
import Derived.Test.YtgmdiekjefgikaaOpen
import Derived.Test.YtgmdiekjefgikaaRegion
namespace Go.Proofs.Ytgmdiekjefgikaa
open Go.RowKit

def DyRel (w : World) (dba : Nat) (Fa : Nat → Prop) (seed : Nat) (own : List Nat) (sas : Option Addr) (ns cas : Nat) (sc : Option Addr) (nc cc : Nat) (lc : List Int) (K : Nat) (i : Value) (wr : World) : Prop := ∃ u : Nat, i = .int .i64 ((u + 1 : Nat) : Int) ∧ u ≤ K ∧ Dr wr dba Fa seed own u ∧ Sl wr sas ns cas (NV own) ∧ Sl wr sc nc cc (IV lc) ∧ Keeps (fun _ => False) w wr

set_option maxHeartbeats 2000000 in
set_option maxRecDepth 10000 in
theorem drawPlays_walk (seed : Nat) (sa : Option Addr) (n cap : Nat) (l : List Nat) (m : Int) (sc : Option Addr) (nc cc : Nat) (lc : List Int) (w : World) (hs : U64 seed) (hl : Sl w sa n cap (NV l)) (hu : ∀ x ∈ l, U64 x) (h1 : -9223372036854775808 ≤ m) (h2 : m ≤ 9223372036854775807) (hc : Sl w sc nc cc (IV lc)) (hb : ∀ z ∈ lc, -9223372036854775808 ≤ z ∧ z ≤ 9223372036854775807) :
    Calls Try.prog 3 #[.int .u64 seed, .slice sa n cap, .int .i64 m, .slice sc nc cc] w fun e w' => e = .returned (.bool true) ∧ Keeps (fun _ => False) w w' := by
  have Sc := Lib.hid hc
  have HB := Lib.hid (And.intro hb (show lc.length = nc by have := hc.len; simpa using this))
  have hncb := Nat.le_trans hc.le hc.capB
  clear hc hb
  have Sx := Lib.hid hl
  have HU := Lib.hid (And.intro hu hs)
  clear hl hu hs
  go_enter Try.func3, Try.ntmps3
  have HK := Lib.hid (Keeps.refl (fun _ => False) w)
  go_wp2_with fail
  refine (said_any sa n cap l w Sx.out).mono ?_
  rintro e w1 ⟨sas, cas, rfl, hown, hk⟩
  replace HK := Lib.hid (HK.out.quiet hk)
  replace Sx := Lib.hid (Sx.out.quiet hk)
  replace Sc := Lib.hid (Sc.out.quiet hk)
  have Os := Lib.hid hown
  clear hown hk
  have HUs : Hid (∀ x ∈ l.take 8, U64 x) := fun x hx => HU.out.1 x (List.mem_of_mem_take hx)
  have hns : (l.take 8).length ≤ 8 := by rw [List.length_take]; omega
  obtain ⟨ows, hows⟩ : ∃ ow, l.take 8 = ow := ⟨_, rfl⟩
  obtain ⟨ns, hlns⟩ : ∃ n, ows.length = n := ⟨_, rfl⟩
  rw [hows] at Os HUs hns ⊢
  rw [hlns] at Os hns ⊢
  have HLs := Lib.hid (And.intro hlns hows)
  have Ss := Lib.hid (Sl.of_own Os.out)
  clear hows hlns
  clear Sx
  go_wp2_with fail
  refine (new_any seed sas ns cas ows w1 HU.out.2 Ss.out (by omega)).mono ?_
  rintro e w2 ⟨dba, Fa, rfl, hd, hk, hf⟩
  have Wa : Hid (w.heap.size ≤ dba) := by have h1 := HK.out.size; have h2 := hf _ hd.own_db; show _ ≤ _; omega
  have ASca : Hid (∀ ad : Addr, sc = some ad → 0 < nc → ad.block ≠ dba) := fun ad e h0 h => by have h1 := blk_lt Sc.out e h0; have h2 := hf _ hd.own_db; omega
  have ASsa : Hid (∀ ad : Addr, sas = some ad → 0 < ns → ad.block ≠ dba) := fun ad e h0 h => by have h1 := blk_lt Ss.out e h0; have h2 := hf _ hd.own_db; omega
  have La := Lib.hid hf
  replace HK := Lib.hid (HK.out.quiet hk)
  replace Sc := Lib.hid (Sc.out.quiet hk)
  replace Ss := Lib.hid (Ss.out.quiet hk)
  have Da := Lib.hid hd
  clear hd hk hf
  obtain ⟨K, hK, _, hcK⟩ := around_nat m 21 w2 h1 h2 (by omega) (by omega)
  have HCK := Lib.hid hcK
  clear hcK
  go_wp2_with fail
  refine (HCK.out).mono ?_
  rintro e _ ⟨rfl, rfl⟩
  go_wp2_with fail
  go_loopw [12] (fun i wr => DyRel w dba Fa seed ows sas ns cas sc nc cc lc K i wr) (fun i _ => K + 1 - (intOf i).toNat)
  case atStart => exact ⟨0, rfl, Nat.zero_le _, Da.out, Ss.out, Sc.out, HK.out⟩
  case round =>
    obtain ⟨u, rfl, huK, hda, hss, hsc, hkp⟩ := hrel
    replace Da := Lib.hid hda
    replace Ss := Lib.hid hss
    replace Sc := Lib.hid hsc
    replace HK := Lib.hid hkp
    clear hda hss hsc hkp
    obtain ⟨v, hv⟩ : ∃ v, u + 1 = v := ⟨_, rfl⟩
    rw [hv]
    have HV := Lib.hid hv
    have hvK : v ≤ K + 1 := by omega
    have hv0 : 1 ≤ v := by omega
    by_cases hj : v ≤ K
    · have t1 : (v : Int) ≤ (K : Int) := by omega
      have huv : (v : Int) - 1 = (u : Int) := by omega
      obtain ⟨x, hx⟩ : ∃ x, drawn seed ows v = x := ⟨_, rfl⟩
      have hdp := drawn_pos seed ows v
      rw [hx] at hdp
      have HX := Lib.hid hx
      have HX2 : Hid (drawn seed ows (u + 1) = x) := by show _ = _; rw [hv]; exact hx
      clear hx hv
      go_wp2_with fail
      refine (number_any seed sas ns cas ows v wr Ss.out (by omega) (by omega) hv0).mono ?_
      rw [HX.out]
      rintro e w3 ⟨rfl, hk⟩
      replace HK := Lib.hid (HK.out.quiet hk)
      replace Sc := Lib.hid (Sc.out.quiet hk)
      replace Ss := Lib.hid (Ss.out.quiet hk)
      replace Da := Lib.hid (Da.out.quiet hk)
      clear hk
      by_cases hle : v ≤ nc
      · have t2 : (v : Int) ≤ (nc : Int) := by omega
        obtain ⟨z, hz⟩ : ∃ z, lc[u]? = some z := ⟨_, List.getElem?_eq_getElem (by have := HB.out.2; have := HV.out; omega)⟩
        have hzb := HB.out.1 z (List.mem_of_getElem? hz)
        obtain ⟨bc, oc, rfl⟩ := Sc.out.isSome (by omega)
        have c1 : w3.cell? ⟨bc, oc + u, none⟩ = some (.int .i64 z) := Sc.out.cell (by rw [IV_get, hz]; rfl)
        have t4 : (0 : Int) ≤ (u : Int) := by omega
        have t5 : (u : Int) < (nc : Int) := by have := HV.out; omega
        obtain ⟨M, hM, _, hcM⟩ := around_nat z 1001 w3 hzb.1 hzb.2 (by omega) (by omega)
        have HCM := Lib.hid hcM
        clear hcM hz
        go_wp2_with fail
        refine (HCM.out).mono ?_
        rintro e _ ⟨rfl, rfl⟩
        clear c1 HCM
        by_cases hM0 : M = 0
        · subst hM0
          go_wp2_with fail
          refine (next_any dba Fa seed ows u w3 Da.out (by omega) HUs.out).mono ?_
          rw [HX2.out]
          rintro e w4 ⟨rfl, hd, hk⟩
          replace HK := Lib.hid (HK.out.trans hk (fun k hk h => by have := Wa.out; omega))
          replace Sc := Lib.hid (Sc.out.keep hk (fun ad e h0 _ h => ASca.out ad e h0 h))
          replace Ss := Lib.hid (Ss.out.keep hk (fun ad e h0 _ h => ASsa.out ad e h0 h))
          replace Da := Lib.hid hd
          clear hd hk
          go_wp2_with fail
          refine z_begin (fun _ => True) 13 (by kernel_rfl) trivial (fun hHeld => ?_)
          refine z_take 0 (v := ?_) rfl (by kernel_rfl) (by kernel_rfl) (by kernel_rfl) (by kernel_rfl) (fun _ _ _ h => h) hHeld (by rfl) (fun w hSw => ?_) ?_
          rotate_left
          · have hSw1 := hSw; clear hSw; simp only [List.getElem_toArray, List.getElem_cons_zero]; go_simp; try rfl
          simp only [Act.put, List.getElem_toArray, List.getElem_cons_zero, List.setIfInBounds_toArray, List.set_cons_zero, List.set_cons_succ]
          refine z_take 1 (v := ?_) rfl (by kernel_rfl) (by kernel_rfl) (by kernel_rfl) (by kernel_rfl) (fun _ _ _ h => h) hHeld (by rfl) (fun w hSw => ?_) ?_
          rotate_left
          · have hSw1 := hSw; clear hSw; simp only [List.getElem_toArray, List.getElem_cons_zero, List.getElem_cons_succ]; go_simp; try rfl
          simp only [Act.put, List.getElem_toArray, List.getElem_cons_zero, List.getElem_cons_succ, List.setIfInBounds_toArray, List.set_cons_zero, List.set_cons_succ]
          refine z_take 2 (v := ?_) rfl (by kernel_rfl) (by kernel_rfl) (by kernel_rfl) (by kernel_rfl) (fun _ _ _ h => h) hHeld (by rfl) (fun w hSw => ?_) ?_
          rotate_left
          · have hSw1 := hSw; clear hSw; simp only [List.getElem_toArray, List.getElem_cons_zero, List.getElem_cons_succ]; go_simp; try rfl
          simp only [Act.put, List.getElem_toArray, List.getElem_cons_zero, List.getElem_cons_succ, List.setIfInBounds_toArray, List.set_cons_zero, List.set_cons_succ]
          refine z_skip 3 rfl (by kernel_rfl) (by kernel_rfl) (by kernel_rfl) (by kernel_rfl) (fun _ _ _ h => h) hHeld (by rfl) ?_
          simp only [Act.put, List.getElem_toArray, List.getElem_cons_zero, List.getElem_cons_succ, List.setIfInBounds_toArray, List.set_cons_zero, List.set_cons_succ]
          refine z_skip 4 rfl (by kernel_rfl) (by kernel_rfl) (by kernel_rfl) (by kernel_rfl) (fun _ _ _ h => h) hHeld (by rfl) ?_
          simp only [Act.put, List.getElem_toArray, List.getElem_cons_zero, List.getElem_cons_succ, List.setIfInBounds_toArray, List.set_cons_zero, List.set_cons_succ]
          refine z_skip 5 rfl (by kernel_rfl) (by kernel_rfl) (by kernel_rfl) (by kernel_rfl) (fun _ _ _ h => h) hHeld (by rfl) ?_
          simp only [Act.put, List.getElem_toArray, List.getElem_cons_zero, List.getElem_cons_succ, List.setIfInBounds_toArray, List.set_cons_zero, List.set_cons_succ]
          refine z_skip 6 rfl (by kernel_rfl) (by kernel_rfl) (by kernel_rfl) (by kernel_rfl) (fun _ _ _ h => h) hHeld (by rfl) ?_
          simp only [Act.put, List.getElem_toArray, List.getElem_cons_zero, List.getElem_cons_succ, List.setIfInBounds_toArray, List.set_cons_zero, List.set_cons_succ]
          refine z_skip 7 rfl (by kernel_rfl) (by kernel_rfl) (by kernel_rfl) (by kernel_rfl) (fun _ _ _ h => h) hHeld (by rfl) ?_
          simp only [Act.put, List.getElem_toArray, List.getElem_cons_zero, List.getElem_cons_succ, List.setIfInBounds_toArray, List.set_cons_zero, List.set_cons_succ]
          refine z_skip 8 rfl (by kernel_rfl) (by kernel_rfl) (by kernel_rfl) (by kernel_rfl) (fun _ _ _ h => h) hHeld (by rfl) ?_
          simp only [Act.put, List.getElem_toArray, List.getElem_cons_zero, List.getElem_cons_succ, List.setIfInBounds_toArray, List.set_cons_zero, List.set_cons_succ]
          refine z_skip 9 rfl (by kernel_rfl) (by kernel_rfl) (by kernel_rfl) (by kernel_rfl) (fun _ _ _ h => h) hHeld (by rfl) ?_
          simp only [Act.put, List.getElem_toArray, List.getElem_cons_zero, List.getElem_cons_succ, List.setIfInBounds_toArray, List.set_cons_zero, List.set_cons_succ]
          refine z_skip 10 rfl (by kernel_rfl) (by kernel_rfl) (by kernel_rfl) (by kernel_rfl) (fun _ _ _ h => h) hHeld (by rfl) ?_
          simp only [Act.put, List.getElem_toArray, List.getElem_cons_zero, List.getElem_cons_succ, List.setIfInBounds_toArray, List.set_cons_zero, List.set_cons_succ]
          refine z_skip 11 rfl (by kernel_rfl) (by kernel_rfl) (by kernel_rfl) (by kernel_rfl) (fun _ _ _ h => h) hHeld (by rfl) ?_
          simp only [Act.put, List.getElem_toArray, List.getElem_cons_zero, List.getElem_cons_succ, List.setIfInBounds_toArray, List.set_cons_zero, List.set_cons_succ]
          refine z_take 12 (v := ?_) rfl (by kernel_rfl) (by kernel_rfl) (by kernel_rfl) (by kernel_rfl) (fun _ _ _ h => h) hHeld (by rfl) (fun w hSw => ?_) ?_
          rotate_left
          · have hSw1 := hSw; clear hSw; simp only [List.getElem_toArray, List.getElem_cons_zero, List.getElem_cons_succ]; go_simp; try rfl
          simp only [Act.put, List.getElem_toArray, List.getElem_cons_zero, List.getElem_cons_succ, List.setIfInBounds_toArray, List.set_cons_zero, List.set_cons_succ]
          refine z_done (by kernel_rfl) ?_ _
          clear hHeld
          replace HK := Lib.hid HK.out.drew
          replace Da := Lib.hid (Da.out.quiet (Keeps.refl _ w4).drew)
          replace Ss := Lib.hid (Ss.out.quiet (Keeps.refl _ w4).drew)
          replace Sc := Lib.hid (Sc.out.quiet (Keeps.refl _ w4).drew)
          generalize w4.drew = wd at *
          have e9 : ((v : Int) != (v : Int)) = false := by simp
          have HR : Hid (DyRel w dba Fa seed ows sas ns cas (some ⟨bc, oc, none⟩) nc cc lc K (.int .i64 ((v : Int) + 1)) wd) := ⟨u + 1, by have := HV.out; congr 1; omega, by have := HV.out; omega, Da.out, Ss.out, Sc.out, HK.out⟩
          go_wp2_with fail
          refine (used_any dba Fa seed ows (u + 1) wd Da.out).mono ?_
          rw [HV.out]
          rintro e _ ⟨rfl, rfl⟩
          go_wp2
          go_roundw
          case rel => exact HR.out
          case measure => simp [intOf]; omega
        · have t6 : ((M : Int) == 0) = false := by simp; omega
          have t7 : (0 : Int) < (M : Int) := by omega
          have t7' : decide ((0 : Int) < (M : Int)) = true := by simpa using t7
          have t8 : decide (0 < M) = true := by simp; omega
          obtain ⟨r, hr⟩ : ∃ r, x % M = r := ⟨_, rfl⟩
          have hrM : r < M := by rw [← hr]; exact Nat.mod_lt _ (by omega)
          have HR0 := Lib.hid hr
          have e3 : IntKind.u64.wrap (M : Int) = (M : Int) := wrap_nat _ _ rfl (by omega)
          have e4 : (x : Int) % (M : Int) = (r : Int) := by rw [← hr]; exact (Int.natCast_emod x M).symm
          have e4' : (x : Int).tmod (M : Int) = (r : Int) := by rw [Int.tmod_eq_emod_of_nonneg (by omega)]; exact e4
          have e6 : IntKind.i64.wrap (r : Int) = (r : Int) := IntWalk.i64_in _ (by omega)
          have e7 : ((r : Int) != (r : Int)) = false := by simp
          clear hr
          go_wp2_with fail
          refine z_begin (fun _ => True) 13 (by kernel_rfl) trivial (fun hHeld => ?_)
          replace HK := Lib.hid HK.out.drew
          replace Da := Lib.hid (Da.out.quiet (Keeps.refl _ w3).drew)
          replace Ss := Lib.hid (Ss.out.quiet (Keeps.refl _ w3).drew)
          replace Sc := Lib.hid (Sc.out.quiet (Keeps.refl _ w3).drew)
          generalize w3.drew = wd at *
          refine z_take 0 (v := ?_) rfl (by kernel_rfl) (by kernel_rfl) (by kernel_rfl) (by kernel_rfl) (fun _ _ _ h => h) hHeld (by rfl) (fun w hSw => ?_) ?_
          rotate_left
          · have hSw1 := hSw; clear hSw; simp only [List.getElem_toArray, List.getElem_cons_zero]; go_simp; try rfl
          simp only [Act.put, List.getElem_toArray, List.getElem_cons_zero, List.setIfInBounds_toArray, List.set_cons_zero, List.set_cons_succ]
          refine z_take 1 (v := ?_) rfl (by kernel_rfl) (by kernel_rfl) (by kernel_rfl) (by kernel_rfl) (fun _ _ _ h => h) hHeld (by rfl) (fun w hSw => ?_) ?_
          rotate_left
          · have hSw1 := hSw; clear hSw; simp only [List.getElem_toArray, List.getElem_cons_zero, List.getElem_cons_succ]; go_simp; try rfl
          simp only [Act.put, List.getElem_toArray, List.getElem_cons_zero, List.getElem_cons_succ, List.setIfInBounds_toArray, List.set_cons_zero, List.set_cons_succ]
          refine z_take 2 (v := ?_) rfl (by kernel_rfl) (by kernel_rfl) (by kernel_rfl) (by kernel_rfl) (fun _ _ _ h => h) hHeld (by rfl) (fun w hSw => ?_) ?_
          rotate_left
          · have hSw1 := hSw; clear hSw; simp only [List.getElem_toArray, List.getElem_cons_zero, List.getElem_cons_succ]; go_simp; try rfl
          simp only [Act.put, List.getElem_toArray, List.getElem_cons_zero, List.getElem_cons_succ, List.setIfInBounds_toArray, List.set_cons_zero, List.set_cons_succ]
          refine z_take 3 (v := ?_) rfl (by kernel_rfl) (by kernel_rfl) (by kernel_rfl) (by kernel_rfl) (fun _ _ _ h => h) hHeld (by rfl) (fun w hSw => ?_) ?_
          rotate_left
          · have hSw1 := hSw; clear hSw; simp only [List.getElem_toArray, List.getElem_cons_zero, List.getElem_cons_succ]; go_simp; try rfl
          simp only [Act.put, List.getElem_toArray, List.getElem_cons_zero, List.getElem_cons_succ, List.setIfInBounds_toArray, List.set_cons_zero, List.set_cons_succ]
          refine z_take 4 (v := ?_) rfl (by kernel_rfl) (by kernel_rfl) (by kernel_rfl) (by kernel_rfl) (fun _ _ _ h => h) hHeld (by rfl) (fun w hSw => ?_) ?_
          rotate_left
          · have hSw1 := hSw; clear hSw; simp only [List.getElem_toArray, List.getElem_cons_zero, List.getElem_cons_succ]; go_simp; try rfl
          simp only [Act.put, List.getElem_toArray, List.getElem_cons_zero, List.getElem_cons_succ, List.setIfInBounds_toArray, List.set_cons_zero, List.set_cons_succ]
          refine z_take 6 (v := ?_) rfl (by kernel_rfl) (by kernel_rfl) (by kernel_rfl) (by kernel_rfl) (fun _ _ _ h => h) hHeld (by rfl) (fun w hSw => ?_) ?_
          rotate_left
          · have hSw1 := hSw; clear hSw; simp only [List.getElem_toArray, List.getElem_cons_zero, List.getElem_cons_succ]; go_simp; try rfl
          simp only [Act.put, List.getElem_toArray, List.getElem_cons_zero, List.getElem_cons_succ, List.setIfInBounds_toArray, List.set_cons_zero, List.set_cons_succ]
          refine z_take 7 (v := ?_) rfl (by kernel_rfl) (by kernel_rfl) (by kernel_rfl) (by kernel_rfl) (fun _ _ _ h => h) hHeld (by rfl) (fun w hSw => ?_) ?_
          rotate_left
          · have hSw1 := hSw; clear hSw; simp only [List.getElem_toArray, List.getElem_cons_zero, List.getElem_cons_succ]; go_simp; try rfl
          simp only [Act.put, List.getElem_toArray, List.getElem_cons_zero, List.getElem_cons_succ, List.setIfInBounds_toArray, List.set_cons_zero, List.set_cons_succ]
          refine z_take 8 (v := ?_) rfl (by kernel_rfl) (by kernel_rfl) (by kernel_rfl) (by kernel_rfl) (fun _ _ _ h => h) hHeld (by rfl) (fun w hSw => ?_) ?_
          rotate_left
          · have hSw1 := hSw; clear hSw; simp only [List.getElem_toArray, List.getElem_cons_zero, List.getElem_cons_succ]; go_simp; try rfl
          simp only [Act.put, List.getElem_toArray, List.getElem_cons_zero, List.getElem_cons_succ, List.setIfInBounds_toArray, List.set_cons_zero, List.set_cons_succ]
          refine z_take 9 (v := ?_) rfl (by kernel_rfl) (by kernel_rfl) (by kernel_rfl) (by kernel_rfl) (fun _ _ _ h => h) hHeld (by rfl) (fun w hSw => ?_) ?_
          rotate_left
          · have hSw1 := hSw; clear hSw; simp only [List.getElem_toArray, List.getElem_cons_zero, List.getElem_cons_succ]; go_simp; try rfl
          simp only [Act.put, List.getElem_toArray, List.getElem_cons_zero, List.getElem_cons_succ, List.setIfInBounds_toArray, List.set_cons_zero, List.set_cons_succ]
          refine z_take 10 (v := ?_) rfl (by kernel_rfl) (by kernel_rfl) (by kernel_rfl) (by kernel_rfl) (fun _ _ _ h => h) hHeld (by rfl) (fun w hSw => ?_) ?_
          rotate_left
          · have hSw1 := hSw; clear hSw; simp only [List.getElem_toArray, List.getElem_cons_zero, List.getElem_cons_succ]; go_simp; try rfl
          simp only [Act.put, List.getElem_toArray, List.getElem_cons_zero, List.getElem_cons_succ, List.setIfInBounds_toArray, List.set_cons_zero, List.set_cons_succ]
          refine z_one 5 rfl (by kernel_rfl) (by rfl) (fun Kz hK => ?_)
          simp only [List.getElem_toArray, List.getElem_cons_zero, List.getElem_cons_succ]
          go_simp
          refine (below_any dba Fa seed ows u M wd Da.out (by omega) HUs.out (by omega) (by omega)).mono ?_
          rw [HX2.out, HR0.out]
          rintro e we ⟨rfl, hd, hk⟩
          replace HK := Lib.hid (HK.out.trans hk (fun k hk h => by have := Wa.out; omega))
          replace Sc := Lib.hid (Sc.out.keep hk (fun ad e h0 _ h => ASca.out ad e h0 h))
          replace Ss := Lib.hid (Ss.out.keep hk (fun ad e h0 _ h => ASsa.out ad e h0 h))
          replace Da := Lib.hid hd
          clear hd hk
          refine hK _ _ (Or.inr trivial) (fun hHeld => ?_)
          clear hK Kz
          replace hHeld := hHeld.resolve_left (by decide)
          try simp only [Act.put, List.setIfInBounds_toArray, List.set_cons_zero, List.set_cons_succ]
          refine z_one 11 rfl (by kernel_rfl) (by rfl) (fun Kz hK => ?_)
          simp only [List.getElem_toArray, List.getElem_cons_zero, List.getElem_cons_succ]
          go_simp
          refine hK _ _ (Or.inr ?_) (fun hHeld => ?_)
          · exact trivial
          clear hK Kz
          replace hHeld := hHeld.resolve_left (by decide)
          try simp only [Act.put, List.setIfInBounds_toArray, List.set_cons_zero, List.set_cons_succ]
          refine z_one 12 rfl (by kernel_rfl) (by rfl) (fun Kz hK => ?_)
          simp only [List.getElem_toArray, List.getElem_cons_zero, List.getElem_cons_succ]
          go_simp
          refine hK _ _ (Or.inr ?_) (fun hHeld => ?_)
          · exact trivial
          clear hK Kz
          replace hHeld := hHeld.resolve_left (by decide)
          try simp only [Act.put, List.setIfInBounds_toArray, List.set_cons_zero, List.set_cons_succ]
          refine z_done (by kernel_rfl) ?_ _
          clear hHeld
          have e9 : ((v : Int) != (v : Int)) = false := by simp
          have HR : Hid (DyRel w dba Fa seed ows sas ns cas (some ⟨bc, oc, none⟩) nc cc lc K (.int .i64 ((v : Int) + 1)) we) := ⟨u + 1, by have := HV.out; congr 1; omega, by have := HV.out; omega, Da.out, Ss.out, Sc.out, HK.out⟩
          go_wp2_with fail
          refine (used_any dba Fa seed ows (u + 1) we Da.out).mono ?_
          rw [HV.out]
          rintro e _ ⟨rfl, rfl⟩
          go_wp2
          go_roundw
          case rel => exact HR.out
          case measure => simp [intOf]; omega
      · have t2 : ¬ (v : Int) ≤ (nc : Int) := by omega
        go_wp2_with fail
        refine (next_any dba Fa seed ows u w3 Da.out (by omega) HUs.out).mono ?_
        rw [HX2.out]
        rintro e w5 ⟨rfl, hd, hk⟩
        replace HK := Lib.hid (HK.out.trans hk (fun k hk h => by have := Wa.out; omega))
        replace Sc := Lib.hid (Sc.out.keep hk (fun ad e h0 _ h => ASca.out ad e h0 h))
        replace Ss := Lib.hid (Ss.out.keep hk (fun ad e h0 _ h => ASsa.out ad e h0 h))
        replace Da := Lib.hid hd
        clear hd hk
        go_wp2_with fail
        refine z_begin (fun _ => True) 13 (by kernel_rfl) trivial (fun hHeld => ?_)
        refine z_take 0 (v := ?_) rfl (by kernel_rfl) (by kernel_rfl) (by kernel_rfl) (by kernel_rfl) (fun _ _ _ h => h) hHeld (by rfl) (fun w hSw => ?_) ?_
        rotate_left
        · have hSw1 := hSw; clear hSw; simp only [List.getElem_toArray, List.getElem_cons_zero]; go_simp; try rfl
        simp only [Act.put, List.getElem_toArray, List.getElem_cons_zero, List.setIfInBounds_toArray, List.set_cons_zero, List.set_cons_succ]
        refine z_take 1 (v := ?_) rfl (by kernel_rfl) (by kernel_rfl) (by kernel_rfl) (by kernel_rfl) (fun _ _ _ h => h) hHeld (by rfl) (fun w hSw => ?_) ?_
        rotate_left
        · have hSw1 := hSw; clear hSw; simp only [List.getElem_toArray, List.getElem_cons_zero, List.getElem_cons_succ]; go_simp; try rfl
        simp only [Act.put, List.getElem_toArray, List.getElem_cons_zero, List.getElem_cons_succ, List.setIfInBounds_toArray, List.set_cons_zero, List.set_cons_succ]
        refine z_take 2 (v := ?_) rfl (by kernel_rfl) (by kernel_rfl) (by kernel_rfl) (by kernel_rfl) (fun _ _ _ h => h) hHeld (by rfl) (fun w hSw => ?_) ?_
        rotate_left
        · have hSw1 := hSw; clear hSw; simp only [List.getElem_toArray, List.getElem_cons_zero, List.getElem_cons_succ]; go_simp; try rfl
        simp only [Act.put, List.getElem_toArray, List.getElem_cons_zero, List.getElem_cons_succ, List.setIfInBounds_toArray, List.set_cons_zero, List.set_cons_succ]
        refine z_skip 3 rfl (by kernel_rfl) (by kernel_rfl) (by kernel_rfl) (by kernel_rfl) (fun _ _ _ h => h) hHeld (by rfl) ?_
        simp only [Act.put, List.getElem_toArray, List.getElem_cons_zero, List.getElem_cons_succ, List.setIfInBounds_toArray, List.set_cons_zero, List.set_cons_succ]
        refine z_skip 4 rfl (by kernel_rfl) (by kernel_rfl) (by kernel_rfl) (by kernel_rfl) (fun _ _ _ h => h) hHeld (by rfl) ?_
        simp only [Act.put, List.getElem_toArray, List.getElem_cons_zero, List.getElem_cons_succ, List.setIfInBounds_toArray, List.set_cons_zero, List.set_cons_succ]
        refine z_skip 5 rfl (by kernel_rfl) (by kernel_rfl) (by kernel_rfl) (by kernel_rfl) (fun _ _ _ h => h) hHeld (by rfl) ?_
        simp only [Act.put, List.getElem_toArray, List.getElem_cons_zero, List.getElem_cons_succ, List.setIfInBounds_toArray, List.set_cons_zero, List.set_cons_succ]
        refine z_skip 6 rfl (by kernel_rfl) (by kernel_rfl) (by kernel_rfl) (by kernel_rfl) (fun _ _ _ h => h) hHeld (by rfl) ?_
        simp only [Act.put, List.getElem_toArray, List.getElem_cons_zero, List.getElem_cons_succ, List.setIfInBounds_toArray, List.set_cons_zero, List.set_cons_succ]
        refine z_skip 7 rfl (by kernel_rfl) (by kernel_rfl) (by kernel_rfl) (by kernel_rfl) (fun _ _ _ h => h) hHeld (by rfl) ?_
        simp only [Act.put, List.getElem_toArray, List.getElem_cons_zero, List.getElem_cons_succ, List.setIfInBounds_toArray, List.set_cons_zero, List.set_cons_succ]
        refine z_skip 8 rfl (by kernel_rfl) (by kernel_rfl) (by kernel_rfl) (by kernel_rfl) (fun _ _ _ h => h) hHeld (by rfl) ?_
        simp only [Act.put, List.getElem_toArray, List.getElem_cons_zero, List.getElem_cons_succ, List.setIfInBounds_toArray, List.set_cons_zero, List.set_cons_succ]
        refine z_skip 9 rfl (by kernel_rfl) (by kernel_rfl) (by kernel_rfl) (by kernel_rfl) (fun _ _ _ h => h) hHeld (by rfl) ?_
        simp only [Act.put, List.getElem_toArray, List.getElem_cons_zero, List.getElem_cons_succ, List.setIfInBounds_toArray, List.set_cons_zero, List.set_cons_succ]
        refine z_skip 10 rfl (by kernel_rfl) (by kernel_rfl) (by kernel_rfl) (by kernel_rfl) (fun _ _ _ h => h) hHeld (by rfl) ?_
        simp only [Act.put, List.getElem_toArray, List.getElem_cons_zero, List.getElem_cons_succ, List.setIfInBounds_toArray, List.set_cons_zero, List.set_cons_succ]
        refine z_skip 11 rfl (by kernel_rfl) (by kernel_rfl) (by kernel_rfl) (by kernel_rfl) (fun _ _ _ h => h) hHeld (by rfl) ?_
        simp only [Act.put, List.getElem_toArray, List.getElem_cons_zero, List.getElem_cons_succ, List.setIfInBounds_toArray, List.set_cons_zero, List.set_cons_succ]
        refine z_take 12 (v := ?_) rfl (by kernel_rfl) (by kernel_rfl) (by kernel_rfl) (by kernel_rfl) (fun _ _ _ h => h) hHeld (by rfl) (fun w hSw => ?_) ?_
        rotate_left
        · have hSw1 := hSw; clear hSw; simp only [List.getElem_toArray, List.getElem_cons_zero, List.getElem_cons_succ]; go_simp; try rfl
        simp only [Act.put, List.getElem_toArray, List.getElem_cons_zero, List.getElem_cons_succ, List.setIfInBounds_toArray, List.set_cons_zero, List.set_cons_succ]
        refine z_done (by kernel_rfl) ?_ _
        clear hHeld
        replace HK := Lib.hid HK.out.drew
        replace Da := Lib.hid (Da.out.quiet (Keeps.refl _ w5).drew)
        replace Ss := Lib.hid (Ss.out.quiet (Keeps.refl _ w5).drew)
        replace Sc := Lib.hid (Sc.out.quiet (Keeps.refl _ w5).drew)
        generalize w5.drew = wd at *
        have e9 : ((v : Int) != (v : Int)) = false := by simp
        have HR : Hid (DyRel w dba Fa seed ows sas ns cas sc nc cc lc K (.int .i64 ((v : Int) + 1)) wd) := ⟨u + 1, by have := HV.out; congr 1; omega, by have := HV.out; omega, Da.out, Ss.out, Sc.out, HK.out⟩
        go_wp2_with fail
        refine (used_any dba Fa seed ows (u + 1) wd Da.out).mono ?_
        rw [HV.out]
        rintro e _ ⟨rfl, rfl⟩
        go_wp2
        go_roundw
        case rel => exact HR.out
        case measure => simp [intOf]; omega
    · obtain rfl : v = K + 1 := by omega
      go_wp2_with fail
      refine (lives_any wr).mono ?_
      rintro e w6 ⟨rfl, hk⟩
      replace HK := Lib.hid (HK.out.quiet hk)
      clear hk
      go_wp2
      go_ret
      exact ⟨rfl, HK.out⟩
end Go.Proofs.Ytgmdiekjefgikaa
