/-
  The law DrawBehind: the walk. Conditions: the arguments are what came in.
-/
import Derived.Test.YtgmdiekjefgikaaLives03
import Derived.Test.YtgmdiekjefgikaaRefDraw
import Derived.Test.YtgmdiekjefgikaaAround
import Derived.Test.YtgmdiekjefgikaaOpen
namespace Go.Proofs.Ytgmdiekjefgikaa
open Go.RowKit

def DaRel (w : World) (dba dbb dbc : Nat) (Fa Fb Fc : Nat → Prop) (seed other : Nat) (own : List Nat) (sas : Option Addr) (ns cas : Nat) (i : Value) (wr : World) : Prop := ∃ u : Nat, i = .int .i64 (u : Int) ∧ u ≤ ns ∧ Dr wr dba Fa seed own u ∧ Dr wr dbb Fb other own u ∧ Dr wr dbc Fc seed [] 0 ∧ Sl wr sas ns cas (NV own) ∧ Keeps (fun _ => False) w wr
def DcRel (w : World) (dba dbc : Nat) (Fa Fc : Nat → Prop) (seed : Nat) (own : List Nat) (K : Nat) (i : Value) (wr : World) : Prop := ∃ j u : Nat, i = .int .i64 (j : Int) ∧ j + u = K ∧ Dr wr dba Fa seed own (own.length + u) ∧ Dr wr dbc Fc seed [] u ∧ Keeps (fun _ => False) w wr
theorem drawn_said (seed : Nat) (own : List Nat) (u x : Nat) (h : own[u]? = some x) : drawn seed own (u + 1) = 1 + x % 2305843009213693949 := by
  unfold drawn
  rw [if_pos (Nat.succ_le_of_lt (List.getElem?_eq_some_iff.1 h).1), Nat.add_sub_cancel]
  simp [List.getD, h]
theorem drawn_behind (seed : Nat) (own : List Nat) (u : Nat) : drawn seed own (own.length + u + 1) = drawn seed [] (u + 1) := by
  unfold drawn
  rw [if_neg (by omega), if_neg (by simp)]
  congr 3
  simp
  omega

set_option maxHeartbeats 2000000 in
set_option maxRecDepth 10000 in
theorem drawBehind_walk (seed other : Nat) (sa : Option Addr) (n cap : Nat) (l : List Nat) (m : Int) (w : World) (hs : U64 seed) (hl : Sl w sa n cap (NV l)) (hu : ∀ x ∈ l, U64 x) (ho : U64 other) (h1 : -9223372036854775808 ≤ m) (h2 : m ≤ 9223372036854775807) :
    Calls Try.prog 6 #[.int .u64 seed, .int .u64 other, .slice sa n cap, .int .i64 m] w fun e w' => e = .returned (.bool true) ∧ Keeps (fun _ => False) w w' := by
  have HO := Lib.hid ho
  clear ho
  have Sx := Lib.hid hl
  have HU := Lib.hid (And.intro hu hs)
  clear hl hu hs
  go_enter Try.func6, Try.ntmps6
  have HK := Lib.hid (Keeps.refl (fun _ => False) w)
  go_wp2_with fail
  refine (said_any sa n cap l w Sx.out).mono ?_
  rintro e w1 ⟨sas, cas, rfl, hown, hk⟩
  replace HK := Lib.hid (HK.out.quiet hk)
  replace Sx := Lib.hid (Sx.out.quiet hk)
  have Os := Lib.hid hown
  clear hown hk
  have HUs : Hid (∀ x ∈ l.take 8, U64 x) := fun x hx => HU.out.1 x (List.mem_of_mem_take hx)
  have hns : (l.take 8).length ≤ 8 := by rw [List.length_take]; omega
  obtain ⟨ows, hows⟩ : ∃ ow, l.take 8 = ow := ⟨_, rfl⟩
  obtain ⟨ns, hlns⟩ : ∃ n, ows.length = n := ⟨_, rfl⟩
  rw [hows] at Os HUs hns ⊢
  rw [hlns] at Os hns ⊢
  have HLs := Lib.hid (And.intro hlns hows)
  have Ss := Lib.hid (Sl.of_own Os.out)
  clear hows hlns
  clear Sx
  go_wp2_with fail
  refine (new_any seed sas ns cas ows w1 HU.out.2 Ss.out (by omega)).mono ?_
  rintro e w2 ⟨dba, Fa, rfl, hd, hk, hf⟩
  have Wa : Hid (w.heap.size ≤ dba) := by have h1 := HK.out.size; have h2 := hf _ hd.own_db; show _ ≤ _; omega
  have ASsa : Hid (∀ ad : Addr, sas = some ad → 0 < ns → ad.block ≠ dba) := fun ad e h0 h => by have h1 := blk_lt Ss.out e h0; have h2 := hf _ hd.own_db; omega
  replace HK := Lib.hid (HK.out.quiet hk)
  replace Ss := Lib.hid (Ss.out.quiet hk)
  have Da := Lib.hid hd
  clear hd hk hf
  go_wp2_with fail
  refine (new_any other sas ns cas ows w2 HO.out Ss.out (by omega)).mono ?_
  rintro e w3 ⟨dbb, Fb, rfl, hd, hk, hf⟩
  have Nab : Hid (¬ Fa dbb) := fun h => by have h1 := Da.out.lt _ h; have h2 := hf _ hd.own_db; omega
  have Nba : Hid (¬ Fb dba) := fun h => by have h1 := Da.out.lt _ Da.out.own_db; have h2 := hf _ h; omega
  have Wb : Hid (w.heap.size ≤ dbb) := by have h1 := HK.out.size; have h2 := hf _ hd.own_db; show _ ≤ _; omega
  have ASsb : Hid (∀ ad : Addr, sas = some ad → 0 < ns → ad.block ≠ dbb) := fun ad e h0 h => by have h1 := blk_lt Ss.out e h0; have h2 := hf _ hd.own_db; omega
  replace HK := Lib.hid (HK.out.quiet hk)
  replace Ss := Lib.hid (Ss.out.quiet hk)
  replace Da := Lib.hid (Da.out.quiet hk)
  have Db := Lib.hid hd
  clear hd hk hf
  go_wp2_with fail
  refine (new_any seed none 0 0 [] w3 HU.out.2 (Sl.none0 _) (by omega)).mono ?_
  rintro e w4 ⟨dbc, Fc, rfl, hd, hk, hf⟩
  have Nac : Hid (¬ Fa dbc) := fun h => by have h1 := Da.out.lt _ h; have h2 := hf _ hd.own_db; omega
  have Nca : Hid (¬ Fc dba) := fun h => by have h1 := Da.out.lt _ Da.out.own_db; have h2 := hf _ h; omega
  have Nbc : Hid (¬ Fb dbc) := fun h => by have h1 := Db.out.lt _ h; have h2 := hf _ hd.own_db; omega
  have Ncb : Hid (¬ Fc dbb) := fun h => by have h1 := Db.out.lt _ Db.out.own_db; have h2 := hf _ h; omega
  have Wc : Hid (w.heap.size ≤ dbc) := by have h1 := HK.out.size; have h2 := hf _ hd.own_db; show _ ≤ _; omega
  have ASsc : Hid (∀ ad : Addr, sas = some ad → 0 < ns → ad.block ≠ dbc) := fun ad e h0 h => by have h1 := blk_lt Ss.out e h0; have h2 := hf _ hd.own_db; omega
  replace HK := Lib.hid (HK.out.quiet hk)
  replace Ss := Lib.hid (Ss.out.quiet hk)
  replace Da := Lib.hid (Da.out.quiet hk)
  replace Db := Lib.hid (Db.out.quiet hk)
  have Dc := Lib.hid hd
  clear hd hk hf
  go_wp2_with fail
  go_loopw [13] (fun i wr => DaRel w dba dbb dbc Fa Fb Fc seed other ows sas ns cas i wr) (fun i _ => ns - (intOf i).toNat)
  case atStart => exact ⟨0, rfl, Nat.zero_le _, Da.out, Db.out, Dc.out, Ss.out, HK.out⟩
  case round =>
    obtain ⟨u, rfl, hun, hda, hdb, hdc, hss, hkp⟩ := hrel
    replace Da := Lib.hid hda
    replace Db := Lib.hid hdb
    replace Dc := Lib.hid hdc
    replace Ss := Lib.hid hss
    replace HK := Lib.hid hkp
    clear hda hdb hdc hkp hss
    by_cases hj : u < ns
    · have t1 : (u : Int) < (ns : Int) := by omega
      obtain ⟨x, hx⟩ : ∃ x, ows[u]? = some x := ⟨_, List.getElem?_eq_getElem (by have := HLs.out.1; omega)⟩
      obtain ⟨bs, os, rfl⟩ := Ss.out.isSome (by omega)
      obtain ⟨y, hy⟩ : ∃ y, x % 2305843009213693949 = y := ⟨_, rfl⟩
      have hyl : y < 2305843009213693949 := by rw [← hy]; exact Nat.mod_lt _ (by decide)
      obtain ⟨z, hz⟩ : ∃ z, 1 + y = z := ⟨_, rfl⟩
      have e3 : (x : Int) % 2305843009213693949 = (y : Int) := by omega
      have e4 : IntKind.u64.wrap (1 + (y : Int)) = (z : Int) := by rw [← hz, IntKind.wrap_u64]; omega
      have HX : Hid (drawn seed ows (u + 1) = z) := by show _ = _; rw [drawn_said seed ows u x hx, hy, hz]
      have HX2 : Hid (drawn other ows (u + 1) = z) := by show _ = _; rw [drawn_said other ows u x hx, hy, hz]
      have HXX := Lib.hid hx
      clear hx hy hz
      go_wp2_with fail
      refine (next_any dba Fa seed ows u wr Da.out (by omega) HUs.out).mono ?_
      rw [HX.out]
      rintro e w5 ⟨rfl, hd, hk⟩
      replace HK := Lib.hid (HK.out.trans hk (fun k hk h => by have := Wa.out; omega))
      replace Db := Lib.hid (Db.out.keep hk (fun k hf h => Nba.out (h ▸ hf)))
      replace Dc := Lib.hid (Dc.out.keep hk (fun k hf h => Nca.out (h ▸ hf)))
      replace Ss := Lib.hid (Ss.out.keep hk (fun ad e h0 _ h => ASsa.out ad e h0 h))
      replace Da := Lib.hid hd
      clear hd hk
      go_wp2_with fail
      refine (next_any dbb Fb other ows u w5 Db.out (by omega) HUs.out).mono ?_
      rw [HX2.out]
      rintro e w6 ⟨rfl, hd, hk⟩
      replace HK := Lib.hid (HK.out.trans hk (fun k hk h => by have := Wb.out; omega))
      replace Da := Lib.hid (Da.out.keep hk (fun k hf h => Nab.out (h ▸ hf)))
      replace Dc := Lib.hid (Dc.out.keep hk (fun k hf h => Ncb.out (h ▸ hf)))
      replace Ss := Lib.hid (Ss.out.keep hk (fun ad e h0 _ h => ASsb.out ad e h0 h))
      replace Db := Lib.hid hd
      clear hd hk
      have c1 : w6.cell? ⟨bs, os + u, none⟩ = some (.int .u64 (x : Int)) := Ss.out.cell (by rw [NV_get, HXX.out]; rfl)
      have HR : Hid (DaRel w dba dbb dbc Fa Fb Fc seed other ows (some ⟨bs, os, none⟩) ns cas (.int .i64 ((u : Int) + 1)) w6) := ⟨u + 1, rfl, by omega, Da.out, Db.out, Dc.out, Ss.out, HK.out⟩
      go_wp2
      go_roundw
      case rel => exact HR.out
      case measure => simp [intOf]; omega
    · obtain rfl : u = ns := by omega
      obtain ⟨K, hK, _, hcK⟩ := around_nat m 21 wr h1 h2 (by omega) (by omega)
      have HCK := Lib.hid hcK
      clear hcK
      go_wp2_with fail
      refine (HCK.out).mono ?_
      rintro e _ ⟨rfl, rfl⟩
      obtain ⟨wq, hwq⟩ : ∃ wq : World, wr = wq := ⟨_, rfl⟩
      rw [hwq] at HK Da Dc ⊢
      clear hwq Db Ss
      have HST : Hid (DcRel w dba dbc Fa Fc seed ows K (.int .i64 (K : Int)) wq) := ⟨K, 0, rfl, by omega, by have := Da.out; rw [← HLs.out.1] at this; exact this, Dc.out, HK.out⟩
      go_wp2_with fail
      go_loopw [16] (fun i wr => DcRel w dba dbc Fa Fc seed ows K i wr) (fun i _ => (intOf i).toNat)
      case atStart => exact HST.out
      case round =>
        clear HST
        obtain ⟨j, u2, rfl, hju, hda, hdc, hkp⟩ := hrel
        have huK : u2 ≤ K := by omega
        replace Da := Lib.hid hda
        replace Dc := Lib.hid hdc
        replace HK := Lib.hid hkp
        clear hda hdc hkp
        by_cases hj : 0 < j
        · have t1 : (0 : Int) < (j : Int) := by omega
          obtain ⟨x, hx⟩ : ∃ x, drawn seed [] (u2 + 1) = x := ⟨_, rfl⟩
          have HX := Lib.hid hx
          have HX2 : Hid (drawn seed ows (ows.length + u2 + 1) = x) := (drawn_behind seed ows u2).trans hx
          have hol : ows.length ≤ 8 := by have := HLs.out.1; omega
          clear hx
          go_wp2_with fail
          refine (next_any dba Fa seed ows (ows.length + u2) wr Da.out (by omega) HUs.out).mono ?_
          rw [HX2.out]
          rintro e w7 ⟨rfl, hd, hk⟩
          replace HK := Lib.hid (HK.out.trans hk (fun k hk h => by have := Wa.out; omega))
          replace Dc := Lib.hid (Dc.out.keep hk (fun k hf h => Nca.out (h ▸ hf)))
          replace Da := Lib.hid hd
          clear hd hk
          go_wp2_with fail
          refine (next_any dbc Fc seed [] u2 w7 Dc.out (by omega) (by simp)).mono ?_
          rw [HX.out]
          rintro e w8 ⟨rfl, hd, hk⟩
          replace HK := Lib.hid (HK.out.trans hk (fun k hk h => by have := Wc.out; omega))
          replace Da := Lib.hid (Da.out.keep hk (fun k hf h => Nac.out (h ▸ hf)))
          replace Dc := Lib.hid hd
          clear hd hk
          have HR : Hid (DcRel w dba dbc Fa Fc seed ows K (.int .i64 ((j : Int) - 1)) w8) := ⟨j - 1, u2 + 1, by congr 1; omega, by omega, Da.out, Dc.out, HK.out⟩
          go_wp2
          go_roundw
          case rel => exact HR.out
          case measure => simp [intOf]; omega
        · obtain rfl : j = 0 := by omega
          go_wp2_with fail
          refine (lives_any wr).mono ?_
          rintro e w9 ⟨rfl, hk⟩
          replace HK := Lib.hid (HK.out.quiet hk)
          clear hk
          go_wp2
          go_ret
          exact ⟨rfl, HK.out⟩
end Go.Proofs.Ytgmdiekjefgikaa
