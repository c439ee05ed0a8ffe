/-
  The law DrawAgain: the walk. Conditions: the arguments are what came in.
-/
import Derived.Test.YtgmdiekjefgikaaLives03
import Derived.Test.YtgmdiekjefgikaaRefDraw
import Derived.Test.YtgmdiekjefgikaaAround
import Derived.Test.YtgmdiekjefgikaaOpen
namespace Go.Proofs.Ytgmdiekjefgikaa
open Go.RowKit

theorem drawn_num (seed : Nat) (own : List Nat) (k : Nat) : drawn (num seed) own k = drawn seed own k := by
  unfold drawn
  rw [show num (num seed) = num seed from Nat.mod_mod _ _]
def DgRel (w : World) (dba dbb dbc : Nat) (Fa Fb Fc : Nat → Prop) (seed : Nat) (own : List Nat) (K : Nat) (i : Value) (wr : World) : Prop := ∃ j u : Nat, i = .int .i64 (j : Int) ∧ j + u = K ∧ Dr wr dba Fa seed own u ∧ Dr wr dbb Fb seed own u ∧ Dr wr dbc Fc (num seed) own u ∧ Keeps (fun _ => False) w wr

set_option maxHeartbeats 2000000 in
set_option maxRecDepth 10000 in
theorem drawAgain_walk (seed : Nat) (sa : Option Addr) (n cap : Nat) (l : List Nat) (m : Int) (w : World) (hs : U64 seed) (hl : Sl w sa n cap (NV l)) (hu : ∀ x ∈ l, U64 x) (h1 : -9223372036854775808 ≤ m) (h2 : m ≤ 9223372036854775807) :
    Calls Try.prog 5 #[.int .u64 seed, .slice sa n cap, .int .i64 m] w fun e w' => e = .returned (.bool true) ∧ Keeps (fun _ => False) w w' := by
  have Sx := Lib.hid hl
  have HU := Lib.hid (And.intro hu hs)
  clear hl hu hs
  go_enter Try.func5, Try.ntmps5
  have HK := Lib.hid (Keeps.refl (fun _ => False) w)
  go_wp2_with fail
  refine (said_any sa n cap l w Sx.out).mono ?_
  rintro e w1 ⟨sas, cas, rfl, hown, hk⟩
  replace HK := Lib.hid (HK.out.quiet hk)
  replace Sx := Lib.hid (Sx.out.quiet hk)
  have Os := Lib.hid hown
  clear hown hk
  have HUs : Hid (∀ x ∈ l.take 8, U64 x) := fun x hx => HU.out.1 x (List.mem_of_mem_take hx)
  have hns : (l.take 8).length ≤ 8 := by rw [List.length_take]; omega
  obtain ⟨ows, hows⟩ : ∃ ow, l.take 8 = ow := ⟨_, rfl⟩
  obtain ⟨ns, hlns⟩ : ∃ n, ows.length = n := ⟨_, rfl⟩
  rw [hows] at Os HUs hns ⊢
  rw [hlns] at Os hns ⊢
  have HLs := Lib.hid (And.intro hlns hows)
  have Ss := Lib.hid (Sl.of_own Os.out)
  clear hows hlns
  clear Sx
  go_wp2_with fail
  refine (new_any seed sas ns cas ows w1 HU.out.2 Ss.out (by omega)).mono ?_
  rintro e w2 ⟨dba, Fa, rfl, hd, hk, hf⟩
  have Wa : Hid (w.heap.size ≤ dba) := by have h1 := HK.out.size; have h2 := hf _ hd.own_db; show _ ≤ _; omega
  have ASsa : Hid (∀ ad : Addr, sas = some ad → 0 < ns → ad.block ≠ dba) := fun ad e h0 h => by have h1 := blk_lt Ss.out e h0; have h2 := hf _ hd.own_db; omega
  replace HK := Lib.hid (HK.out.quiet hk)
  replace Ss := Lib.hid (Ss.out.quiet hk)
  have Da := Lib.hid hd
  clear hd hk hf
  go_wp2_with fail
  refine (new_any seed sas ns cas ows w2 HU.out.2 Ss.out (by omega)).mono ?_
  rintro e w3 ⟨dbb, Fb, rfl, hd, hk, hf⟩
  have Nab : Hid (¬ Fa dbb) := fun h => by have h1 := Da.out.lt _ h; have h2 := hf _ hd.own_db; omega
  have Nba : Hid (¬ Fb dba) := fun h => by have h1 := Da.out.lt _ Da.out.own_db; have h2 := hf _ h; omega
  have Wb : Hid (w.heap.size ≤ dbb) := by have h1 := HK.out.size; have h2 := hf _ hd.own_db; show _ ≤ _; omega
  have ASsb : Hid (∀ ad : Addr, sas = some ad → 0 < ns → ad.block ≠ dbb) := fun ad e h0 h => by have h1 := blk_lt Ss.out e h0; have h2 := hf _ hd.own_db; omega
  replace HK := Lib.hid (HK.out.quiet hk)
  replace Ss := Lib.hid (Ss.out.quiet hk)
  replace Da := Lib.hid (Da.out.quiet hk)
  have Db := Lib.hid hd
  clear hd hk hf
  have r3 : (seed : Int) % 2305843009213693951 = (num seed : Int) := by unfold num; omega
  go_wp2_with fail
  refine (new_any (num seed) sas ns cas ows w3 (num_u seed) Ss.out (by omega)).mono ?_
  rintro e w4 ⟨dbc, Fc, rfl, hd, hk, hf⟩
  have Nac : Hid (¬ Fa dbc) := fun h => by have h1 := Da.out.lt _ h; have h2 := hf _ hd.own_db; omega
  have Nca : Hid (¬ Fc dba) := fun h => by have h1 := Da.out.lt _ Da.out.own_db; have h2 := hf _ h; omega
  have Nbc : Hid (¬ Fb dbc) := fun h => by have h1 := Db.out.lt _ h; have h2 := hf _ hd.own_db; omega
  have Ncb : Hid (¬ Fc dbb) := fun h => by have h1 := Db.out.lt _ Db.out.own_db; have h2 := hf _ h; omega
  have Wc : Hid (w.heap.size ≤ dbc) := by have h1 := HK.out.size; have h2 := hf _ hd.own_db; show _ ≤ _; omega
  have ASsc : Hid (∀ ad : Addr, sas = some ad → 0 < ns → ad.block ≠ dbc) := fun ad e h0 h => by have h1 := blk_lt Ss.out e h0; have h2 := hf _ hd.own_db; omega
  replace HK := Lib.hid (HK.out.quiet hk)
  replace Ss := Lib.hid (Ss.out.quiet hk)
  replace Da := Lib.hid (Da.out.quiet hk)
  replace Db := Lib.hid (Db.out.quiet hk)
  have Dc := Lib.hid hd
  clear hd hk hf
  obtain ⟨K, hK, _, hcK⟩ := around_nat m 31 w4 h1 h2 (by omega) (by omega)
  have HCK := Lib.hid hcK
  clear hcK
  go_wp2_with fail
  refine (HCK.out).mono ?_
  rintro e _ ⟨rfl, rfl⟩
  clear r3
  go_wp2_with fail
  go_loopw [11] (fun i wr => DgRel w dba dbb dbc Fa Fb Fc seed ows K i wr) (fun i _ => (intOf i).toNat)
  case atStart => exact ⟨K, 0, rfl, by omega, Da.out, Db.out, Dc.out, HK.out⟩
  case round =>
    obtain ⟨j, u, rfl, hju, hda, hdb, hdc, hkp⟩ := hrel
    have huK : u ≤ K := by omega
    replace Da := Lib.hid hda
    replace Db := Lib.hid hdb
    replace Dc := Lib.hid hdc
    replace HK := Lib.hid hkp
    clear hda hdb hdc hkp
    by_cases hj : 0 < j
    · have t1 : (0 : Int) < (j : Int) := by omega
      obtain ⟨x, hx⟩ : ∃ x, drawn seed ows (u + 1) = x := ⟨_, rfl⟩
      have HX := Lib.hid hx
      have HX2 : Hid (drawn (num seed) ows (u + 1) = x) := (drawn_num seed ows (u + 1)).trans hx
      clear hx
      go_wp2_with fail
      refine (next_any dba Fa seed ows u wr Da.out (by omega) HUs.out).mono ?_
      rw [HX.out]
      rintro e w5 ⟨rfl, hd, hk⟩
      replace HK := Lib.hid (HK.out.trans hk (fun k hk h => by have := Wa.out; omega))
      replace Db := Lib.hid (Db.out.keep hk (fun k hf h => Nba.out (h ▸ hf)))
      replace Dc := Lib.hid (Dc.out.keep hk (fun k hf h => Nca.out (h ▸ hf)))
      replace Da := Lib.hid hd
      clear hd hk
      go_wp2_with fail
      refine (next_any dbb Fb seed ows u w5 Db.out (by omega) HUs.out).mono ?_
      rw [HX.out]
      rintro e w6 ⟨rfl, hd, hk⟩
      replace HK := Lib.hid (HK.out.trans hk (fun k hk h => by have := Wb.out; omega))
      replace Da := Lib.hid (Da.out.keep hk (fun k hf h => Nab.out (h ▸ hf)))
      replace Dc := Lib.hid (Dc.out.keep hk (fun k hf h => Ncb.out (h ▸ hf)))
      replace Db := Lib.hid hd
      clear hd hk
      go_wp2_with fail
      refine (next_any dbc Fc (num seed) ows u w6 Dc.out (by omega) HUs.out).mono ?_
      rw [HX2.out]
      rintro e w7 ⟨rfl, hd, hk⟩
      replace HK := Lib.hid (HK.out.trans hk (fun k hk h => by have := Wc.out; omega))
      replace Da := Lib.hid (Da.out.keep hk (fun k hf h => Nac.out (h ▸ hf)))
      replace Db := Lib.hid (Db.out.keep hk (fun k hf h => Nbc.out (h ▸ hf)))
      replace Dc := Lib.hid hd
      clear hd hk
      have HR : Hid (DgRel w dba dbb dbc Fa Fb Fc seed ows K (.int .i64 ((j : Int) - 1)) w7) := ⟨j - 1, u + 1, by congr 1; omega, by omega, Da.out, Db.out, Dc.out, HK.out⟩
      go_wp2
      go_roundw
      case rel => exact HR.out
      case measure => simp [intOf]; omega
    · obtain rfl : j = 0 := by omega
      go_wp2_with fail
      refine (lives_any wr).mono ?_
      rintro e w8 ⟨rfl, hk⟩
      replace HK := Lib.hid (HK.out.quiet hk)
      clear hk
      go_wp2
      go_ret
      exact ⟨rfl, HK.out⟩
end Go.Proofs.Ytgmdiekjefgikaa
