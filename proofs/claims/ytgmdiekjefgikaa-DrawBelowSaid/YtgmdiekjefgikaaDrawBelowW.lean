/-
  The law DrawBelow: the walk. Conditions: the arguments are what came in.
-/
import Derived.Test.YtgmdiekjefgikaaLives03
import Derived.Test.YtgmdiekjefgikaaRefDraw
import Derived.Test.YtgmdiekjefgikaaAround
import Derived.Test.YtgmdiekjefgikaaOpen
namespace Go.Proofs.Ytgmdiekjefgikaa
open Go.RowKit

def DwRel (w : World) (dba dbb : Nat) (Fa Fb : Nat → Prop) (seed : Nat) (own : List Nat) (sc : Option Addr) (nc cc : Nat) (lc : List Int) (K : Nat) (i : Value) (wr : World) : Prop := ∃ u : Nat, i = .int .i64 (u : Int) ∧ u ≤ K ∧ Dr wr dba Fa seed own u ∧ Dr wr dbb Fb seed own u ∧ Sl wr sc nc cc (IV lc) ∧ Keeps (fun _ => False) w wr

set_option maxHeartbeats 2000000 in
set_option maxRecDepth 10000 in
theorem drawBelow_walk (seed : Nat) (sa : Option Addr) (n cap : Nat) (l : List Nat) (sc : Option Addr) (nc cc : Nat) (lc : List Int) (w : World) (hs : U64 seed) (hl : Sl w sa n cap (NV l)) (hu : ∀ x ∈ l, U64 x) (hc : Sl w sc nc cc (IV lc)) (hb : ∀ z ∈ lc, -9223372036854775808 ≤ z ∧ z ≤ 9223372036854775807) :
    Calls Try.prog 7 #[.int .u64 seed, .slice sa n cap, .slice sc nc cc] w fun e w' => e = .returned (.bool true) ∧ Keeps (fun _ => False) w w' := by
  have Sc := Lib.hid hc
  have HB := Lib.hid (And.intro hb (show lc.length = nc by have := hc.len; simpa using this))
  have hncb := Nat.le_trans hc.le hc.capB
  clear hc hb
  have Sx := Lib.hid hl
  have HU := Lib.hid (And.intro hu hs)
  clear hl hu hs
  go_enter Try.func7, Try.ntmps7
  have HK := Lib.hid (Keeps.refl (fun _ => False) w)
  go_wp2_with fail
  refine (said_any sa n cap l w Sx.out).mono ?_
  rintro e w1 ⟨sas, cas, rfl, hown, hk⟩
  replace HK := Lib.hid (HK.out.quiet hk)
  replace Sx := Lib.hid (Sx.out.quiet hk)
  replace Sc := Lib.hid (Sc.out.quiet hk)
  have Os := Lib.hid hown
  clear hown hk
  have HUs : Hid (∀ x ∈ l.take 8, U64 x) := fun x hx => HU.out.1 x (List.mem_of_mem_take hx)
  have hns : (l.take 8).length ≤ 8 := by rw [List.length_take]; omega
  obtain ⟨ows, hows⟩ : ∃ ow, l.take 8 = ow := ⟨_, rfl⟩
  obtain ⟨ns, hlns⟩ : ∃ n, ows.length = n := ⟨_, rfl⟩
  rw [hows] at Os HUs hns ⊢
  rw [hlns] at Os hns ⊢
  have HLs := Lib.hid (And.intro hlns hows)
  have Ss := Lib.hid (Sl.of_own Os.out)
  clear hows hlns
  clear Sx
  go_wp2_with fail
  refine (new_any seed sas ns cas ows w1 HU.out.2 Ss.out (by omega)).mono ?_
  rintro e w2 ⟨dba, Fa, rfl, hd, hk, hf⟩
  have Wa : Hid (w.heap.size ≤ dba) := by have h1 := HK.out.size; have h2 := hf _ hd.own_db; show _ ≤ _; omega
  have ASca : Hid (∀ ad : Addr, sc = some ad → 0 < nc → ad.block ≠ dba) := fun ad e h0 h => by have h1 := blk_lt Sc.out e h0; have h2 := hf _ hd.own_db; omega
  have ASsa : Hid (∀ ad : Addr, sas = some ad → 0 < ns → ad.block ≠ dba) := fun ad e h0 h => by have h1 := blk_lt Ss.out e h0; have h2 := hf _ hd.own_db; omega
  have La := Lib.hid hf
  replace HK := Lib.hid (HK.out.quiet hk)
  replace Sc := Lib.hid (Sc.out.quiet hk)
  replace Ss := Lib.hid (Ss.out.quiet hk)
  have Da := Lib.hid hd
  clear hd hk hf
  go_wp2_with fail
  refine (new_any seed sas ns cas ows w2 HU.out.2 Ss.out (by omega)).mono ?_
  rintro e w3 ⟨dbb, Fb, rfl, hd, hk, hf⟩
  have Nab : Hid (¬ Fa dbb) := fun h => by have h1 := Da.out.lt _ h; have h2 := hf _ hd.own_db; omega
  have Nba : Hid (¬ Fb dba) := fun h => by have h1 := Da.out.lt _ Da.out.own_db; have h2 := hf _ h; omega
  have Wb : Hid (w.heap.size ≤ dbb) := by have h1 := HK.out.size; have h2 := hf _ hd.own_db; show _ ≤ _; omega
  have AScb : Hid (∀ ad : Addr, sc = some ad → 0 < nc → ad.block ≠ dbb) := fun ad e h0 h => by have h1 := blk_lt Sc.out e h0; have h2 := hf _ hd.own_db; omega
  have ASsb : Hid (∀ ad : Addr, sas = some ad → 0 < ns → ad.block ≠ dbb) := fun ad e h0 h => by have h1 := blk_lt Ss.out e h0; have h2 := hf _ hd.own_db; omega
  have Lb := Lib.hid hf
  replace HK := Lib.hid (HK.out.quiet hk)
  replace Sc := Lib.hid (Sc.out.quiet hk)
  replace Ss := Lib.hid (Ss.out.quiet hk)
  replace Da := Lib.hid (Da.out.quiet hk)
  have Db := Lib.hid hd
  clear hd hk hf
  obtain ⟨K, hK⟩ : ∃ K, min nc 20 = K := ⟨_, rfl⟩
  have hK20 : K ≤ 20 := by omega
  have hKn : K ≤ nc := by omega
  have HKK := Lib.hid hK
  clear hK Ss
  go_wp2_with fail
  go_loopw [10] (fun i wr => DwRel w dba dbb Fa Fb seed ows sc nc cc lc K i wr) (fun i _ => K - (intOf i).toNat)
  case atStart => exact ⟨0, rfl, Nat.zero_le _, Da.out, Db.out, Sc.out, HK.out⟩
  case round =>
    obtain ⟨u, rfl, huK, hda, hdb, hsc, hkp⟩ := hrel
    replace Da := Lib.hid hda
    replace Db := Lib.hid hdb
    replace Sc := Lib.hid hsc
    replace HK := Lib.hid hkp
    clear hda hdb hsc hkp
    by_cases hj : u < K
    · have t1 : (u : Int) < (nc : Int) := by omega
      have t2 : (u : Int) < 20 := by omega
      obtain ⟨z, hz⟩ : ∃ z, lc[u]? = some z := ⟨_, List.getElem?_eq_getElem (by have := HB.out.2; omega)⟩
      have hzb := HB.out.1 z (List.mem_of_getElem? hz)
      obtain ⟨bc, oc, rfl⟩ := Sc.out.isSome (by omega)
      have c1 : wr.cell? ⟨bc, oc + u, none⟩ = some (.int .i64 z) := Sc.out.cell (by rw [IV_get, hz]; rfl)
      obtain ⟨m, hm⟩ : ∃ m : Nat, (m : Int) = if 1 < z then z else 1 := ⟨(if 1 < z then z else 1).toNat, by split <;> omega⟩
      have hmp : 0 < m ∧ m ≤ 9223372036854775807 := by split at hm <;> omega
      have e1 : (if 1 < z then z else 1) = (m : Int) := hm.symm
      have e1' : (if z < 1 then 1 else z) = (m : Int) := by rw [hm]; split <;> split <;> omega
      obtain ⟨x, hx⟩ : ∃ x, drawn seed ows (u + 1) = x := ⟨_, rfl⟩
      have HX := Lib.hid hx
      obtain ⟨r, hr⟩ : ∃ r, x % m = r := ⟨_, rfl⟩
      have hrm : r < m := by rw [← hr]; exact Nat.mod_lt _ hmp.1
      have HR0 := Lib.hid hr
      have e2 : IntKind.u64.wrap (r : Int) = (r : Int) := wrap_nat _ _ rfl (by omega)
      have e3 : IntKind.u64.wrap (m : Int) = (m : Int) := wrap_nat _ _ rfl (by omega)
      have e4 : (x : Int) % (m : Int) = (r : Int) := by rw [← hr]; exact (Int.natCast_emod x m).symm
      have e5 : ((m : Int) == 0) = false := by simp; omega
      have t3 : ¬ (r : Int) < 0 := by omega
      have t4 : ¬ (m : Int) ≤ (r : Int) := by omega
      obtain ⟨hm1, hm2⟩ := hmp
      clear hx hr hz hm
      go_wp2_with fail
      refine (below_any dba Fa seed ows u m wr Da.out (by omega) HUs.out (by omega) (by omega)).mono ?_
      rw [HX.out, HR0.out]
      rintro e w4 ⟨rfl, hd, hk⟩
      replace HK := Lib.hid (HK.out.trans hk (fun k hk h => by have := Wa.out; omega))
      replace Db := Lib.hid (Db.out.keep hk (fun k hf h => Nba.out (h ▸ hf)))
      replace Sc := Lib.hid (Sc.out.keep hk (fun ad e h0 _ h => ASca.out ad e h0 h))
      replace Da := Lib.hid hd
      clear hd hk
      clear c1
      go_wp2_with fail
      refine (next_any dbb Fb seed ows u w4 Db.out (by omega) HUs.out).mono ?_
      rw [HX.out]
      rintro e w5 ⟨rfl, hd, hk⟩
      replace HK := Lib.hid (HK.out.trans hk (fun k hk h => by have := Wb.out; omega))
      replace Da := Lib.hid (Da.out.keep hk (fun k hf h => Nab.out (h ▸ hf)))
      replace Sc := Lib.hid (Sc.out.keep hk (fun ad e h0 _ h => AScb.out ad e h0 h))
      replace Db := Lib.hid hd
      clear hd hk
      go_wp2_with fail
      refine (used_any dba Fa seed ows (u + 1) w5 Da.out).mono ?_
      rintro e _ ⟨rfl, rfl⟩
      go_wp2_with fail
      refine (used_any dbb Fb seed ows (u + 1) w5 Db.out).mono ?_
      rintro e _ ⟨rfl, rfl⟩
      have HR : Hid (DwRel w dba dbb Fa Fb seed ows (some ⟨bc, oc, none⟩) nc cc lc K (.int .i64 ((u : Int) + 1)) w5) := ⟨u + 1, rfl, by omega, Da.out, Db.out, Sc.out, HK.out⟩
      go_wp2
      go_roundw
      case rel => exact HR.out
      case measure => simp [intOf]; omega
    · obtain rfl : u = K := by omega
      by_cases hun : u < nc
      · have t1 : (u : Int) < (nc : Int) := by omega
        have t2 : ¬ (u : Int) < 20 := by have := HKK.out; omega
        go_wp2_with fail
        refine (lives_any wr).mono ?_
        rintro e w6 ⟨rfl, hk⟩
        replace HK := Lib.hid (HK.out.quiet hk)
        clear hk
        go_wp2
        go_ret
        exact ⟨rfl, HK.out⟩
      · have t1 : ¬ (u : Int) < (nc : Int) := by omega
        go_wp2_with fail
        refine (lives_any wr).mono ?_
        rintro e w7 ⟨rfl, hk⟩
        replace HK := Lib.hid (HK.out.quiet hk)
        clear hk
        go_wp2
        go_ret
        exact ⟨rfl, HK.out⟩
end Go.Proofs.Ytgmdiekjefgikaa
