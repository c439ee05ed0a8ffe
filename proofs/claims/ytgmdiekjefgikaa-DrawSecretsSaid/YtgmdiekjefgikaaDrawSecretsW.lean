/-
  The law DrawSecrets: the walk. Conditions: the arguments are what came in.
-/
import Derived.Test.YtgmdiekjefgikaaLives03
import Derived.Test.YtgmdiekjefgikaaRefDraw
import Derived.Test.YtgmdiekjefgikaaAround
import Derived.Test.YtgmdiekjefgikaaOpen
namespace Go.Proofs.Ytgmdiekjefgikaa
open Go.RowKit

def DsRel (w : World) (db : Nat) (F : Nat → Prop) (seed : Nat) (own : List Nat) (K : Nat) (i : Value) (wr : World) : Prop := ∃ j u : Nat, i = .int .i64 (j : Int) ∧ j + u = K ∧ Dr wr db F seed own u ∧ Keeps (fun _ => False) w wr

set_option maxHeartbeats 2000000 in
set_option maxRecDepth 10000 in
theorem drawSecrets_walk (seed : Nat) (sa : Option Addr) (n cap : Nat) (l : List Nat) (m : Int) (w : World) (hs : U64 seed) (hl : Sl w sa n cap (NV l)) (hu : ∀ x ∈ l, U64 x) (h1 : -9223372036854775808 ≤ m) (h2 : m ≤ 9223372036854775807) :
    Calls Try.prog 4 #[.int .u64 seed, .slice sa n cap, .int .i64 m] w fun e w' => e = .returned (.bool true) ∧ Keeps (fun _ => False) w w' := by
  have Sx := Lib.hid hl
  have HU := Lib.hid (And.intro hu hs)
  clear hl hu hs
  go_enter Try.func4, Try.ntmps4
  have HK := Lib.hid (Keeps.refl (fun _ => False) w)
  go_wp2_with fail
  refine (said_any sa n cap l w Sx.out).mono ?_
  rintro e w1 ⟨sas, cas, rfl, hown, hk⟩
  replace HK := Lib.hid (HK.out.quiet hk)
  replace Sx := Lib.hid (Sx.out.quiet hk)
  have Os := Lib.hid hown
  clear hown hk
  have HUs : Hid (∀ x ∈ l.take 8, U64 x) := fun x hx => HU.out.1 x (List.mem_of_mem_take hx)
  have hns : (l.take 8).length ≤ 8 := by rw [List.length_take]; omega
  obtain ⟨ows, hows⟩ : ∃ ow, l.take 8 = ow := ⟨_, rfl⟩
  obtain ⟨ns, hlns⟩ : ∃ n, ows.length = n := ⟨_, rfl⟩
  rw [hows] at Os HUs hns ⊢
  rw [hlns] at Os hns ⊢
  have HLs := Lib.hid (And.intro hlns hows)
  have Ss := Lib.hid (Sl.of_own Os.out)
  clear hows hlns
  clear Sx
  go_wp2_with fail
  refine (new_any seed sas ns cas ows w1 HU.out.2 Ss.out (by omega)).mono ?_
  rintro e w2 ⟨dba, Fa, rfl, hd, hk, hf⟩
  have Wa : Hid (w.heap.size ≤ dba) := by have h1 := HK.out.size; have h2 := hf _ hd.own_db; show _ ≤ _; omega
  have ASsa : Hid (∀ ad : Addr, sas = some ad → 0 < ns → ad.block ≠ dba) := fun ad e h0 h => by have h1 := blk_lt Ss.out e h0; have h2 := hf _ hd.own_db; omega
  replace HK := Lib.hid (HK.out.quiet hk)
  replace Ss := Lib.hid (Ss.out.quiet hk)
  have Da := Lib.hid hd
  clear hd hk hf
  obtain ⟨K, hK, _, hcK⟩ := around_nat m 31 w2 h1 h2 (by omega) (by omega)
  have HCK := Lib.hid hcK
  clear hcK
  go_wp2_with fail
  refine (HCK.out).mono ?_
  rintro e _ ⟨rfl, rfl⟩
  go_wp2_with fail
  go_loopw [8] (fun i wr => DsRel w dba Fa seed ows K i wr) (fun i _ => (intOf i).toNat)
  case atStart => exact ⟨K, 0, rfl, by omega, Da.out, HK.out⟩
  case round =>
    obtain ⟨j, u, rfl, hju, hd, hkp⟩ := hrel
    have HB := Lib.hid (And.intro hd (And.intro hkp hju))
    have huK : u ≤ K := by omega
    by_cases hj : 0 < j
    · have t1 : (0 : Int) < (j : Int) := by omega
      have hdp := drawn_pos seed ows (u + 1)
      obtain ⟨x, hx⟩ : ∃ x, drawn seed ows (u + 1) = x := ⟨_, rfl⟩
      rw [hx] at hdp
      have HX := Lib.hid hx
      have t2 : ¬ (x : Int) < 1 := by omega
      have t3 : ¬ (2305843009213693949 : Int) < (x : Int) := by omega
      clear hx hd hkp Da
      have Da := Lib.hid HB.out.1
      replace HK := Lib.hid HB.out.2.1
      go_wp2_with fail
      refine (next_any dba Fa seed ows u wr Da.out (by omega) HUs.out).mono ?_
      rw [HX.out]
      rintro e w3 ⟨rfl, hd, hk⟩
      replace HK := Lib.hid (HK.out.trans hk (fun k hk h => by have := Wa.out; omega))
      replace Da := Lib.hid hd
      clear hd hk
      have HR : Hid (DsRel w dba Fa seed ows K (.int .i64 ((j : Int) - 1)) w3) := ⟨j - 1, u + 1, by congr 1; omega, by omega, Da.out, HK.out⟩
      go_wp2
      go_roundw
      case rel => exact HR.out
      case measure => simp [intOf]; omega
    · obtain rfl : j = 0 := by omega
      replace HK := Lib.hid hkp
      clear hd hkp HB
      go_wp2_with fail
      refine (lives_any wr).mono ?_
      rintro e w4 ⟨rfl, hk⟩
      replace HK := Lib.hid (HK.out.quiet hk)
      clear hk
      go_wp2
      go_ret
      exact ⟨rfl, HK.out⟩
end Go.Proofs.Ytgmdiekjefgikaa
