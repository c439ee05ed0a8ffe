/-
  The law DrawOwns: the walk. Conditions: the arguments are what came in.
-/
import Derived.Test.YtgmdiekjefgikaaLives03
import Derived.Test.YtgmdiekjefgikaaRefDraw
import Derived.Test.YtgmdiekjefgikaaAround
import Derived.Test.YtgmdiekjefgikaaOpen
namespace Go.Proofs.Ytgmdiekjefgikaa
open Go.RowKit

def DoRel (w : World) (dba dbb : Nat) (Fa Fb : Nat → Prop) (seed : Nat) (own : List Nat) (sat : Option Addr) (nt cat base : Nat) (i : Value) (wr : World) : Prop := ∃ (k : Nat) (ys : List Nat), i = .int .i64 (k : Int) ∧ k ≤ nt ∧ wr.ownsRow base 22 1 (.slice sat nt cat) nt (NV ys) ∧ Dr wr dba Fa seed own 0 ∧ Dr wr dbb Fb seed own 0 ∧ Keeps (fun _ => False) w wr
def DpRel (w : World) (dba dbb : Nat) (Fa Fb : Nat → Prop) (seed : Nat) (own : List Nat) (i : Value) (wr : World) : Prop := ∃ u : Nat, i = .int .i64 (u : Int) ∧ u ≤ 10 ∧ Dr wr dba Fa seed own u ∧ Dr wr dbb Fb seed own u ∧ Keeps (fun _ => False) w wr

set_option maxHeartbeats 2000000 in
set_option maxRecDepth 10000 in
theorem drawOwns_walk (seed : Nat) (sa : Option Addr) (n cap : Nat) (l : List Nat) (by_ : Nat) (w : World) (hs : U64 seed) (hl : Sl w sa n cap (NV l)) (hu : ∀ x ∈ l, U64 x) :
    Calls Try.prog 9 #[.int .u64 seed, .slice sa n cap, .int .u64 by_] w fun e w' => e = .returned (.bool true) ∧ Keeps (fun _ => False) w w' := by
  have Sx := Lib.hid hl
  have HU := Lib.hid (And.intro hu hs)
  clear hl hu hs
  go_enter Try.func9, Try.ntmps9
  have HK := Lib.hid (Keeps.refl (fun _ => False) w)
  go_wp2_with fail
  refine (said_any sa n cap l w Sx.out).mono ?_
  rintro e w1 ⟨sas, cas, rfl, hown, hk⟩
  replace HK := Lib.hid (HK.out.quiet hk)
  replace Sx := Lib.hid (Sx.out.quiet hk)
  have Os := Lib.hid hown
  clear hown hk
  have HUs : Hid (∀ x ∈ l.take 8, U64 x) := fun x hx => HU.out.1 x (List.mem_of_mem_take hx)
  have hns : (l.take 8).length ≤ 8 := by rw [List.length_take]; omega
  obtain ⟨ows, hows⟩ : ∃ ow, l.take 8 = ow := ⟨_, rfl⟩
  obtain ⟨ns, hlns⟩ : ∃ n, ows.length = n := ⟨_, rfl⟩
  rw [hows] at Os HUs hns ⊢
  rw [hlns] at Os hns ⊢
  have HLs := Lib.hid (And.intro hlns hows)
  have Ss := Lib.hid (Sl.of_own Os.out)
  clear hows hlns
  have HW1 := Lib.hid HK.out.size
  go_wp2_with fail
  refine (said_any sa n cap l w1 Sx.out).mono ?_
  rintro e w2 ⟨sat, cat, rfl, hown, hk⟩
  replace HK := Lib.hid (HK.out.quiet hk)
  replace Sx := Lib.hid (Sx.out.quiet hk)
  replace Ss := Lib.hid (Ss.out.quiet hk)
  have Ot := Lib.hid hown
  clear hown hk
  rw [HLs.out.2, HLs.out.1] at Ot
  rw [HLs.out.2, HLs.out.1]
  have St := Lib.hid (Sl.of_own Ot.out)
  clear Sx
  have HTB : Hid (∀ k, sat = some ⟨k, 0, none⟩ → w.heap.size ≤ k ∧ k < w2.heap.size) := fun k e => ⟨by have := (own_lt Ot.out e).1; have := HW1.out; omega, (own_lt Ot.out e).2⟩
  go_wp2_with fail
  refine (new_any seed sas ns cas ows w2 HU.out.2 Ss.out (by omega)).mono ?_
  rintro e w3 ⟨dba, Fa, rfl, hd, hk, hf⟩
  have Wa : Hid (w.heap.size ≤ dba) := by have h1 := HK.out.size; have h2 := hf _ hd.own_db; show _ ≤ _; omega
  have ASsa : Hid (∀ ad : Addr, sas = some ad → 0 < ns → ad.block ≠ dba) := fun ad e h0 h => by have h1 := blk_lt Ss.out e h0; have h2 := hf _ hd.own_db; omega
  have ASta : Hid (∀ ad : Addr, sat = some ad → 0 < ns → ad.block ≠ dba) := fun ad e h0 h => by have h1 := blk_lt St.out e h0; have h2 := hf _ hd.own_db; omega
  have HSZ0 := Lib.hid hk.size
  have La := Lib.hid hf
  replace HK := Lib.hid (HK.out.quiet hk)
  replace Ss := Lib.hid (Ss.out.quiet hk)
  replace Ot := Lib.hid (own_keep Ot.out hk (fun _ _ h => h))
  replace St := Lib.hid (St.out.quiet hk)
  have Da := Lib.hid hd
  clear hd hk hf
  go_wp2_with fail
  refine (new_any seed sat ns cat ows w3 HU.out.2 St.out (by omega)).mono ?_
  rintro e w4 ⟨dbb, Fb, rfl, hd, hk, hf⟩
  have Nab : Hid (¬ Fa dbb) := fun h => by have h1 := Da.out.lt _ h; have h2 := hf _ hd.own_db; omega
  have Nba : Hid (¬ Fb dba) := fun h => by have h1 := Da.out.lt _ Da.out.own_db; have h2 := hf _ h; omega
  have Wb : Hid (w.heap.size ≤ dbb) := by have h1 := HK.out.size; have h2 := hf _ hd.own_db; show _ ≤ _; omega
  have ASsb : Hid (∀ ad : Addr, sas = some ad → 0 < ns → ad.block ≠ dbb) := fun ad e h0 h => by have h1 := blk_lt Ss.out e h0; have h2 := hf _ hd.own_db; omega
  have AStb : Hid (∀ ad : Addr, sat = some ad → 0 < ns → ad.block ≠ dbb) := fun ad e h0 h => by have h1 := blk_lt St.out e h0; have h2 := hf _ hd.own_db; omega
  have Lb := Lib.hid hf
  replace HK := Lib.hid (HK.out.quiet hk)
  replace Ss := Lib.hid (Ss.out.quiet hk)
  replace Ot := Lib.hid (own_keep Ot.out hk (fun _ _ h => h))
  replace St := Lib.hid (St.out.quiet hk)
  replace Da := Lib.hid (Da.out.quiet hk)
  have Db := Lib.hid hd
  clear hd hk hf
  have HSZ : Hid (w2.heap.size ≤ w3.heap.size) := HSZ0.out
  go_wp2_with fail
  go_loopw [11] (fun i wr => DoRel w dba dbb Fa Fb seed ows sat ns cat w1.heap.size i wr) (fun i _ => ns - (intOf i).toNat)
  case atStart => exact ⟨0, _, rfl, Nat.zero_le _, Ot.out, Da.out, Db.out, HK.out⟩
  case round =>
    obtain ⟨k, ys, rfl, hkn, hown, hda, hdb, hkp⟩ := hrel
    by_cases hj : k < ns
    · have t1 : (k : Int) < (ns : Int) := by omega
      have hyl : ys.length = ns := by have := hown.1; simpa using this
      obtain ⟨x, hx⟩ : ∃ x, ys[k]? = some x := ⟨_, List.getElem?_eq_getElem (by omega)⟩
      obtain ⟨gt, rfl⟩ : ∃ gt, sat = some ⟨gt, 0, none⟩ := by
        rcases own_addr hown with ⟨_, h, _⟩ | h
        · omega
        · exact h
      have c1 : wr.cell? ⟨gt, k, none⟩ = some (.int .u64 (x : Int)) := own_cell hown k _ (by rw [NV_get, hx]; rfl)
      have f1 := own_free hown k
      obtain ⟨y, hy⟩ : ∃ y, (x + by_) % 18446744073709551616 = y := ⟨_, rfl⟩
      have e1 : IntKind.u64.wrap ((x : Int) + (by_ : Int)) = (y : Int) := by rw [IntKind.wrap_u64]; omega
      have hk2 : Keeps (fun j => j = gt) wr (wr.setCell ⟨gt, k, none⟩ (.int .u64 (y : Int))) := (Keeps.refl (fun j => j = gt) wr).setCell (p := ⟨gt, k, none⟩) (fun _ => rfl) _
      have hgt := HTB.out gt rfl
      have hsz := HSZ.out
      have HR : Hid (DoRel w dba dbb Fa Fb seed ows (some ⟨gt, 0, none⟩) ns cat w1.heap.size (.int .i64 ((k : Int) + 1)) (wr.setCell ⟨gt, k, none⟩ (.int .u64 (y : Int)))) := by
        refine ⟨k + 1, ys.set k y, rfl, by omega, by rw [← NV_set]; exact own_set hown k _, hda.keep hk2 (fun j hf h => ?_), hdb.keep hk2 (fun j hf h => ?_), hkp.trans hk2 (fun j hj h => by omega)⟩
        · have := La.out j hf; omega
        · have := Lb.out j hf; omega
      clear hown hda hdb hkp hk2 hx hyl hy hgt hsz
      go_wp2
      go_roundw
      case rel => exact HR.out
      case measure => simp [intOf]; omega
    · obtain rfl : k = ns := by omega
      replace Da := Lib.hid hda
      replace Db := Lib.hid hdb
      replace HK := Lib.hid hkp
      clear hown hda hdb hkp Ss St Ot
      obtain ⟨wq, hwq⟩ : ∃ wq : World, wr = wq := ⟨_, rfl⟩
      rw [hwq] at HK Da Db ⊢
      clear hwq
      go_wp2_with fail
      go_loopw [12] (fun i wr => DpRel w dba dbb Fa Fb seed ows i wr) (fun i _ => 10 - (intOf i).toNat)
      case atStart => exact ⟨0, rfl, by omega, Da.out, Db.out, HK.out⟩
      case round =>
        obtain ⟨u, rfl, hu, hda, hdb, hkp⟩ := hrel
        replace Da := Lib.hid hda
        replace Db := Lib.hid hdb
        replace HK := Lib.hid hkp
        clear hda hdb hkp
        by_cases hj : u < 10
        · have t1 : (u : Int) < 10 := by omega
          obtain ⟨x, hx⟩ : ∃ x, drawn seed ows (u + 1) = x := ⟨_, rfl⟩
          have HX := Lib.hid hx
          clear hx
          go_wp2_with fail
          refine (next_any dba Fa seed ows u wr Da.out (by omega) HUs.out).mono ?_
          rw [HX.out]
          rintro e w5 ⟨rfl, hd, hk⟩
          replace HK := Lib.hid (HK.out.trans hk (fun k hk h => by have := Wa.out; omega))
          replace Db := Lib.hid (Db.out.keep hk (fun k hf h => Nba.out (h ▸ hf)))
          replace Da := Lib.hid hd
          clear hd hk
          go_wp2_with fail
          refine (next_any dbb Fb seed ows u w5 Db.out (by omega) HUs.out).mono ?_
          rw [HX.out]
          rintro e w6 ⟨rfl, hd, hk⟩
          replace HK := Lib.hid (HK.out.trans hk (fun k hk h => by have := Wb.out; omega))
          replace Da := Lib.hid (Da.out.keep hk (fun k hf h => Nab.out (h ▸ hf)))
          replace Db := Lib.hid hd
          clear hd hk
          have HR : Hid (DpRel w dba dbb Fa Fb seed ows (.int .i64 ((u : Int) + 1)) w6) := ⟨u + 1, rfl, by omega, Da.out, Db.out, HK.out⟩
          go_wp2
          go_roundw
          case rel => exact HR.out
          case measure => simp [intOf]; omega
        · obtain rfl : u = 10 := by omega
          go_wp2_with fail
          refine (lives_any wr).mono ?_
          rintro e w7 ⟨rfl, hk⟩
          replace HK := Lib.hid (HK.out.quiet hk)
          clear hk
          go_wp2
          go_ret
          exact ⟨rfl, HK.out⟩
end Go.Proofs.Ytgmdiekjefgikaa
