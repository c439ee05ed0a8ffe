/-
  The law DrawEven: the walk. Conditions: the arguments are what came in.
-/
import Derived.Test.YtgmdiekjefgikaaLives03
import Derived.Test.YtgmdiekjefgikaaRefDraw
import Derived.Test.YtgmdiekjefgikaaAround
import Derived.Test.YtgmdiekjefgikaaOpen
import Derived.Test.YtgmdiekjefgikaaHas
namespace Go.Proofs.Ytgmdiekjefgikaa
open Go.RowKit

theorem drawn_range (seed k i : Nat) (hi : i < k) (hk : k ≤ 50) : drawn seed (List.range k) (i + 1) % k = (1 + i) % k := by
  unfold drawn
  rw [List.length_range, if_pos (by omega), Nat.add_sub_cancel]
  have e : (List.range k).getD i 0 = i := by simp [List.getD, List.getElem?_range hi]
  rw [e, Nat.mod_eq_of_lt (show i < 2305843009213693949 by omega)]
def evs (k u : Nat) : List Int := (List.range u).map fun i => (((1 + i) % k : Nat) : Int)
theorem evs_snoc (k u : Nat) : evs k (u + 1) = evs k u ++ [(((1 + u) % k : Nat) : Int)] := by simp [evs, List.range_succ]
theorem evs_new (k u : Nat) (hu : u < k) : hasB (evs k u) (((1 + u) % k : Nat) : Int) = false := by
  simp only [hasB, List.any_eq_false, evs, List.mem_map, List.mem_range]
  rintro z ⟨i, hi, rfl⟩ h
  have h2 : (1 + i) % k = (1 + u) % k := Int.ofNat_inj.1 (eq_of_beq h)
  have h3 : (1 + i) % k = 1 + i := Nat.mod_eq_of_lt (by omega)
  by_cases hlast : 1 + u = k
  · rw [hlast, Nat.mod_self] at h2; omega
  · rw [Nat.mod_eq_of_lt (show 1 + u < k by omega)] at h2; omega
def DeRel (w : World) (k : Nat) (out i : Value) (wr : World) : Prop := ∃ (u : Nat) (so : Option Addr) (co : Nat), i = .int .i64 (u : Int) ∧ u ≤ k ∧ out = .slice so u co ∧ wr.ownsRow w.heap.size 22 1 (.slice so u co) u (NV (List.range u)) ∧ Keeps (fun _ => False) w wr
def DfRel (w wq : World) (db : Nat) (F : Nat → Prop) (seed k : Nat) (out i : Value) (wr : World) : Prop := ∃ (u : Nat) (so : Option Addr) (co : Nat), i = .int .i64 (u : Int) ∧ u ≤ k ∧ out = .slice so u co ∧ wr.ownsRow wq.heap.size 3 1 (.slice so u co) u (IV (evs k u)) ∧ Dr wr db F seed (List.range k) u ∧ Keeps (fun _ => False) w wr ∧ wq.heap.size ≤ wr.heap.size

set_option maxHeartbeats 2000000 in
set_option maxRecDepth 10000 in
theorem drawEven_walk (m : Int) (seed : Nat) (w : World) (hs : U64 seed) (h1 : -9223372036854775808 ≤ m) (h2 : m ≤ 9223372036854775807) :
    Calls Try.prog 8 #[.int .i64 m, .int .u64 seed] w fun e w' => e = .returned (.bool true) ∧ Keeps (fun _ => False) w w' := by
  have HU := Lib.hid hs
  clear hs
  go_enter Try.func8, Try.ntmps8
  have HK := Lib.hid (Keeps.refl (fun _ => False) w)
  obtain ⟨K, hK, _, hcK⟩ := around_nat m 50 w h1 h2 (by omega) (by omega)
  have HCK := Lib.hid hcK
  clear hcK
  go_wp2_with fail
  refine (HCK.out).mono ?_
  rintro e _ ⟨rfl, rfl⟩
  obtain ⟨k, hk⟩ : ∃ k, 1 + K = k := ⟨_, rfl⟩
  have e0 : 1 + (K : Int) = (k : Int) := by omega
  have hk0 : 0 < k := by omega
  have hk50 : k ≤ 50 := by omega
  clear hk hK
  go_wp2_with fail
  go_loopw [6, 7] (fun out i wr => DeRel w k out i wr) (fun _ i _ => k - (intOf i).toNat)
  case atStart => exact ⟨0, none, 0, rfl, Nat.zero_le _, rfl, by simpa [NV] using World.ownsRow_nil w _ _ _, HK.out⟩
  case round =>
    obtain ⟨u, so, co, rfl, huk, rfl, hown, hkp⟩ := hrel
    have HB := Lib.hid (And.intro hown hkp)
    have hsz := hkp.size
    clear hown hkp
    by_cases hj : u < k
    · have t1 : (u : Int) < (k : Int) := by omega
      have e1 : IntKind.u64.wrap (u : Int) = (u : Int) := wrap_nat _ _ rfl (by omega)
      go_wp2_with (at_builtin; refine wpList_pushN _ (u : Int) rfl _ _ rfl w.heap.size so u co (NV (List.range u)) rfl HB.out.1 rfl (by omega) hsz ?_; intro sa2 cap2 w2 hown2 hk2 hs2; have HR := Lib.hid (And.intro hown2 (HB.out.2.pushed HB.out.1 (Nat.le_refl _) hk2)); clear hown2 hk2)
      go_roundw
      case rel => exact ⟨u + 1, sa2, cap2, by go_num, by omega, rfl, by rw [List.range_succ, NV_append]; exact HR.out.1, HR.out.2⟩
      case measure => simp [intOf]; omega
    · obtain rfl : u = k := by omega
      have Ss := Lib.hid (Sl.of_own HB.out.1)
      replace HK := Lib.hid HB.out.2
      have HUr : Hid (∀ x ∈ List.range u, U64 x) := fun x hx => by have := List.mem_range.1 hx; unfold U64; omega
      clear HB hsz
      go_wp2_with fail
      refine (new_any seed so u co (List.range u) wr HU.out Ss.out (by omega)).mono ?_
      rintro e w1 ⟨dba, Fa, rfl, hd, hk, hf⟩
      have Wa : Hid (w.heap.size ≤ dba) := by have h1 := HK.out.size; have h2 := hf _ hd.own_db; show _ ≤ _; omega
      have La := Lib.hid hf
      replace HK := Lib.hid (HK.out.quiet hk)
      replace Ss := Lib.hid (Ss.out.quiet hk)
      have Da := Lib.hid hd
      clear hd hk hf
      clear Ss
      go_wp2_with fail
      go_loopw [9, 10] (fun out i wr => DfRel w w1 dba Fa seed u out i wr) (fun _ i _ => u - (intOf i).toNat)
      case atStart => exact ⟨0, none, 0, rfl, Nat.zero_le _, rfl, by simpa [IV, evs] using World.ownsRow_nil _ _ _ _, Da.out, HK.out, Nat.le_refl _⟩
      case round =>
        obtain ⟨v, sh, ch, rfl, hvk, rfl, hown, hd, hkp, hszq⟩ := hrel
        have Oh := Lib.hid hown
        have HFQ : Hid (∀ j, Fa j → j < w1.heap.size) := Da.out.lt
        replace HK := Lib.hid hkp
        have HWQ := Lib.hid Wa.out
        have Dr1 := Lib.hid hd
        clear hown hd hkp
        by_cases hj : v < u
        · have t1 : (v : Int) < (u : Int) := by omega
          obtain ⟨r, hr⟩ : ∃ r, (1 + v) % u = r := ⟨_, rfl⟩
          have hru : r < u := by rw [← hr]; exact Nat.mod_lt _ (by omega)
          have HX : Hid (drawn seed (List.range u) (v + 1) % u = r) := (drawn_range seed u v hj hk50).trans hr
          have HN := evs_new u v hj
          rw [hr] at HN
          have HNN := Lib.hid HN
          have HRR := Lib.hid hr
          have t3 : ¬ (r : Int) < 0 := by omega
          have t4 : ¬ (u : Int) ≤ (r : Int) := by omega
          clear hr HN
          go_wp2_with fail
          refine (below_any dba Fa seed (List.range u) v u wr Dr1.out (by omega) HUr.out (by omega) (by omega)).mono ?_
          rw [HX.out]
          rintro e wn ⟨rfl, hd, hk⟩
          replace HK := Lib.hid (HK.out.trans hk (fun k hk h => by have := Wa.out; omega))
          replace Oh := Lib.hid (own_keep Oh.out hk (fun j e h => by have h1 := (Oh.out.lt j e).1; have h2 := HFQ.out _ Da.out.own_db; omega))
          replace Dr1 := Lib.hid hd
          have hszn : w1.heap.size ≤ wn.heap.size := Nat.le_trans hszq hk.size
          clear hd hk hszq
          have Sh := Lib.hid (Sl.of_own Oh.out)
          go_wp2_with fail
          refine (has_any sh v ch (evs u v) (r : Int) wn Sh.out).mono ?_
          rw [HNN.out]
          rintro e _ ⟨rfl, rfl⟩
          go_wp2_with (at_builtin; refine wpList_pushI _ (r : Int) rfl _ _ rfl w1.heap.size sh v ch (IV (evs u v)) rfl Oh.out rfl (by omega) hszn ?_; intro sa2 cap2 w2 hown2 hk2 hs2; have HR := Lib.hid (And.intro hown2 (And.intro hk2 hs2)); clear hown2 hk2 hs2)
          go_roundw
          case rel =>
            obtain ⟨h1, h2, h3⟩ := HR.out
            refine ⟨v + 1, sa2, cap2, by go_num, by omega, rfl, ?_, ?_, ?_, by omega⟩
            · rw [evs_snoc, HRR.out, IV_append]; exact h1
            · exact Dr1.out.keep h2 (fun j hf e => by have a1 := (own_lt Oh.out e).1; have a2 := HFQ.out j hf; omega)
            · exact HK.out.trans h2 (fun j hj e => by have a1 := (own_lt Oh.out e).1; have a2 := HFQ.out _ Da.out.own_db; have a3 := Wa.out; omega)
          case measure => simp [intOf]; omega
        · obtain rfl : v = u := by omega
          go_wp2_with fail
          refine (lives_any wr).mono ?_
          rintro e w2 ⟨rfl, hk⟩
          replace HK := Lib.hid (HK.out.quiet hk)
          clear hk
          go_wp2
          go_ret
          exact ⟨rfl, HK.out⟩
end Go.Proofs.Ytgmdiekjefgikaa
