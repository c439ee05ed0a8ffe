/-
  The law SealPad: the walk. Conditions: the arguments are what came in.
-/
import Derived.Test.YtnnhndnckpnkmaaLives07
import Derived.Test.YtnnhndnckpnkmaaFew
import Derived.Test.YtnnhndnckpnkmaaAround
import Derived.Test.YtnnhndnckpnkmaaSame
import Derived.Test.YtnnhndnckpnkmaaRegion
import Derived.Test.YtnnhndnckpnkmaaOpen
import Derived.Test.YtnnhndnckpnkmaaRefSeal1
namespace Go.Proofs.Ytnnhndnckpnkmaa
open Go.RowKit

def PaRel (w : World) (N : Nat) (i : Value) (wr : World) : Prop := ∃ k : Nat, k ≤ N ∧ i = .int .i64 (k : Int) ∧ Keeps (fun _ => False) w wr

set_option maxHeartbeats 2000000 in
set_option maxRecDepth 10000 in
theorem sealPad_walk (key : Nat) (sp : Option Addr) (np cp : Nat) (lp : List UInt8) (sq : Option Addr) (nq cq : Nat) (lq : List UInt8) (sa : Option Addr) (n cap : Nat) (l : List UInt8) (sb : Option Addr) (m cb : Nat) (l2 : List UInt8) (w : World) (hkey : U64 key) (hlp : Sl w sp np cp (BV lp)) (hlq : Sl w sq nq cq (BV lq)) (hl : Sl w sa n cap (BV l)) (hl2 : Sl w sb m cb (BV l2)) :
    Calls Try.prog 8 #[.int .u64 key, .agg #[.slice sp np cp, .slice sq nq cq], .slice sa n cap, .slice sb m cb] w fun e w' => e = .returned (.bool true) ∧ Keeps (fun _ => False) w w' := by
  have Sp := Lib.hid hlp
  have Sq := Lib.hid hlq
  have hle := hl.le
  have hcb := hl.capB
  have hle2 := hl2.le
  have hcb2 := hl2.capB
  clear hlp hlq
  have hll : l.length = n := by have := hl.len; simpa using this
  have hll2 : l2.length = m := by have := hl2.len; simpa using this
  have HLL := Lib.hid (And.intro hll hll2)
  clear hll hll2
  obtain ⟨N, hN⟩ : ∃ N, min (min n m) 40 = N := ⟨_, rfl⟩
  have hN1 : N ≤ n := by omega
  have hN2 : N ≤ m := by omega
  have hN3 : N ≤ 40 := by omega
  obtain ⟨M, hM⟩ : ∃ M, min n m = M := ⟨_, rfl⟩
  have m1 : (if m < n then (m : Int) else (n : Int)) = (M : Int) := by split <;> omega
  have m2 : (if (40 : Int) < (M : Int) then (40 : Int) else (M : Int)) = (N : Int) := by split <;> omega
  clear hN hM
  have Sx := Lib.hid hl
  have Sy := Lib.hid hl2
  have HU := Lib.hid hkey
  clear hl hl2 hkey
  go_enter Try.func8, Try.ntmps8
  have HK := Lib.hid (Keeps.refl (fun _ => False) w)
  go_wp2_with fail
  obtain ⟨bx, hbx⟩ : ∃ g, w.heap.size = g := ⟨_, rfl⟩
  obtain ⟨wx, hwx⟩ : ∃ W, World.alloc w (.cells #[.slice sp np cp, .slice sq nq cq] 38) = W := ⟨_, rfl⟩
  have hb : wx.heap[bx]? = some (.cells #[.slice sp np cp, .slice sq nq cq] 38 (0, 0)) := by rw [← hwx, ← hbx]; exact World.alloc_heap_new w _
  have hk : Keeps (fun _ => False) w wx := by rw [← hwx]; exact (Keeps.refl _ w).alloc _
  rw [hwx, hbx]
  replace HK := Lib.hid (HK.out.quiet hk)
  replace Sx := Lib.hid (Sx.out.quiet hk)
  replace Sy := Lib.hid (Sy.out.quiet hk)
  replace Sp := Lib.hid (Sp.out.quiet hk)
  replace Sq := Lib.hid (Sq.out.quiet hk)
  have c0 : wx.cell? ⟨bx, 0, none⟩ = some (.slice sp np cp) := by rw [cellAt hb 0]; rfl
  have c1 : wx.cell? ⟨bx, 1, none⟩ = some (.slice sq nq cq) := by rw [cellAt hb 1]; rfl
  clear hb hk hwx hbx m1 m2
  have t0 : (0 : Int) ≤ (N : Int) := by omega
  have t1 : (N : Int) ≤ (cap : Int) := by omega
  have t2 : (N : Int) ≤ (cb : Int) := by omega
  refine z_begin (fun w' => w'.cell? ⟨bx, 0, none⟩ = some (.slice sp np cp) ∧ w'.cell? ⟨bx, 1, none⟩ = some (.slice sq nq cq)) 9 (by kernel_rfl) ⟨c0, c1⟩ (fun hHeld => ?_)
  have hk : Keeps (fun _ => False) wx (World.drew wx) := (Keeps.refl _ _).drew
  replace HK := Lib.hid (HK.out.quiet hk)
  replace Sx := Lib.hid (Sx.out.quiet hk)
  replace Sy := Lib.hid (Sy.out.quiet hk)
  replace Sp := Lib.hid (Sp.out.quiet hk)
  replace Sq := Lib.hid (Sq.out.quiet hk)
  clear hk c0 c1
  generalize World.drew wx = vu at *
  refine z_take 0 (v := ?_) rfl (by kernel_rfl) (by kernel_rfl) (by kernel_rfl) (by kernel_rfl) (fun _ _ _ h => h) hHeld (by rfl) (fun w hSw => ?_) ?_
  rotate_left
  · obtain ⟨hSw1, hSw2⟩ := hSw; simp only [List.getElem_toArray, List.getElem_cons_zero]; go_simp; try rfl
  simp only [Act.put, List.getElem_toArray, List.getElem_cons_zero, List.setIfInBounds_toArray, List.set_cons_zero, List.set_cons_succ]
  refine z_take 1 (v := ?_) rfl (by kernel_rfl) (by kernel_rfl) (by kernel_rfl) (by kernel_rfl) (fun _ _ _ h => h) hHeld (by rfl) (fun w hSw => ?_) ?_
  rotate_left
  · obtain ⟨hSw1, hSw2⟩ := hSw; simp only [List.getElem_toArray, List.getElem_cons_zero, List.getElem_cons_succ]; go_simp; try rfl
  simp only [Act.put, List.getElem_toArray, List.getElem_cons_zero, List.getElem_cons_succ, List.setIfInBounds_toArray, List.set_cons_zero, List.set_cons_succ]
  refine z_take 2 (v := ?_) rfl (by kernel_rfl) (by kernel_rfl) (by kernel_rfl) (by kernel_rfl) (fun _ _ _ h => h) hHeld (by rfl) (fun w hSw => ?_) ?_
  rotate_left
  · obtain ⟨hSw1, hSw2⟩ := hSw; simp only [List.getElem_toArray, List.getElem_cons_zero, List.getElem_cons_succ]; go_simp; try rfl
  simp only [Act.put, List.getElem_toArray, List.getElem_cons_zero, List.getElem_cons_succ, List.setIfInBounds_toArray, List.set_cons_zero, List.set_cons_succ]
  refine z_take 4 (v := ?_) rfl (by kernel_rfl) (by kernel_rfl) (by kernel_rfl) (by kernel_rfl) (fun _ _ _ h => h) hHeld (by rfl) (fun w hSw => ?_) ?_
  rotate_left
  · obtain ⟨hSw1, hSw2⟩ := hSw; simp only [List.getElem_toArray, List.getElem_cons_zero, List.getElem_cons_succ]; go_simp; try rfl
  simp only [Act.put, List.getElem_toArray, List.getElem_cons_zero, List.getElem_cons_succ, List.setIfInBounds_toArray, List.set_cons_zero, List.set_cons_succ]
  refine z_take 5 (v := ?_) rfl (by kernel_rfl) (by kernel_rfl) (by kernel_rfl) (by kernel_rfl) (fun _ _ _ h => h) hHeld (by rfl) (fun w hSw => ?_) ?_
  rotate_left
  · obtain ⟨hSw1, hSw2⟩ := hSw; simp only [List.getElem_toArray, List.getElem_cons_zero, List.getElem_cons_succ]; go_simp; try rfl
  simp only [Act.put, List.getElem_toArray, List.getElem_cons_zero, List.getElem_cons_succ, List.setIfInBounds_toArray, List.set_cons_zero, List.set_cons_succ]
  refine z_take 6 (v := ?_) rfl (by kernel_rfl) (by kernel_rfl) (by kernel_rfl) (by kernel_rfl) (fun _ _ _ h => h) hHeld (by rfl) (fun w hSw => ?_) ?_
  rotate_left
  · obtain ⟨hSw1, hSw2⟩ := hSw; simp only [List.getElem_toArray, List.getElem_cons_zero, List.getElem_cons_succ]; go_simp; try rfl
  simp only [Act.put, List.getElem_toArray, List.getElem_cons_zero, List.getElem_cons_succ, List.setIfInBounds_toArray, List.set_cons_zero, List.set_cons_succ]
  refine z_one 3 rfl (by kernel_rfl) (by rfl) (fun K hK => ?_)
  simp only [List.getElem_toArray, List.getElem_cons_zero, List.getElem_cons_succ]
  go_simp
  refine (few_any sp np cp 20 lp vu Sp.out (by omega)).mono ?_
  rintro e w1 ⟨sfu, cfu, rfl, hown, hk⟩
  have hfu : (lp.take 20).length ≤ 20 := by rw [List.length_take]; omega
  have Fu := Lib.hid (Sl.of_own hown)
  generalize lp.take 20 = lfu at *
  obtain ⟨nfu, hnfu⟩ : ∃ q, lfu.length = q := ⟨_, rfl⟩
  rw [hnfu] at Fu hfu ⊢
  replace HK := Lib.hid (HK.out.quiet hk)
  replace Sx := Lib.hid (Sx.out.quiet hk)
  replace Sy := Lib.hid (Sy.out.quiet hk)
  replace Sp := Lib.hid (Sp.out.quiet hk)
  replace Sq := Lib.hid (Sq.out.quiet hk)
  refine hK _ _ (Or.inr ?_) (fun hHeld => ?_)
  · exact ⟨kcell hk hHeld.1, kcell hk hHeld.2⟩
  clear hK K hk hown hnfu
  replace hHeld := hHeld.resolve_left (by decide)
  try simp only [Act.put, List.setIfInBounds_toArray, List.set_cons_zero, List.set_cons_succ]
  refine z_one 7 rfl (by kernel_rfl) (by rfl) (fun K hK => ?_)
  simp only [List.getElem_toArray, List.getElem_cons_zero, List.getElem_cons_succ]
  go_simp
  refine (seal_any key sfu nfu cfu lfu sa N cap (l.take N) w1 HU.out Fu.out (by omega) (by rw [← BV_take]; exact Sx.out.upto hN1) (by omega)).mono ?_
  rintro e w2 ⟨sou, cou, rfl, hown, hk⟩
  have Ru := Lib.hid (Sl.of_own hown)
  replace HK := Lib.hid (HK.out.quiet hk)
  replace Sx := Lib.hid (Sx.out.quiet hk)
  replace Sy := Lib.hid (Sy.out.quiet hk)
  replace Sp := Lib.hid (Sp.out.quiet hk)
  replace Sq := Lib.hid (Sq.out.quiet hk)
  replace Fu := Lib.hid (Fu.out.quiet hk)
  refine hK _ _ (Or.inr ?_) (fun hHeld => ?_)
  · exact ⟨kcell hk hHeld.1, kcell hk hHeld.2⟩
  clear hK K hk hown Fu
  replace hHeld := hHeld.resolve_left (by decide)
  try simp only [Act.put, List.setIfInBounds_toArray, List.set_cons_zero, List.set_cons_succ]
  refine z_one 8 rfl (by kernel_rfl) (by rfl) (fun K hK => ?_)
  simp only [List.getElem_toArray, List.getElem_cons_zero, List.getElem_cons_succ]
  go_simp
  refine hK _ _ (Or.inr ?_) (fun hHeld => ?_)
  · exact hHeld
  clear hK K
  replace hHeld := hHeld.resolve_left (by decide)
  try simp only [Act.put, List.setIfInBounds_toArray, List.set_cons_zero, List.set_cons_succ]
  refine z_done (by kernel_rfl) ?_ _
  obtain ⟨c0, c1⟩ := hHeld
  go_wp2_with fail
  refine z_begin (fun w' => w'.cell? ⟨bx, 0, none⟩ = some (.slice sp np cp) ∧ w'.cell? ⟨bx, 1, none⟩ = some (.slice sq nq cq)) 9 (by kernel_rfl) ⟨c0, c1⟩ (fun hHeld => ?_)
  have hk : Keeps (fun _ => False) w2 (World.drew w2) := (Keeps.refl _ _).drew
  replace HK := Lib.hid (HK.out.quiet hk)
  replace Sx := Lib.hid (Sx.out.quiet hk)
  replace Sy := Lib.hid (Sy.out.quiet hk)
  replace Sp := Lib.hid (Sp.out.quiet hk)
  replace Sq := Lib.hid (Sq.out.quiet hk)
  replace Ru := Lib.hid (Ru.out.quiet hk)
  clear hk c0 c1
  generalize World.drew w2 = vv at *
  refine z_take 0 (v := ?_) rfl (by kernel_rfl) (by kernel_rfl) (by kernel_rfl) (by kernel_rfl) (fun _ _ _ h => h) hHeld (by rfl) (fun w hSw => ?_) ?_
  rotate_left
  · obtain ⟨hSw1, hSw2⟩ := hSw; simp only [List.getElem_toArray, List.getElem_cons_zero]; go_simp; try rfl
  simp only [Act.put, List.getElem_toArray, List.getElem_cons_zero, List.setIfInBounds_toArray, List.set_cons_zero, List.set_cons_succ]
  refine z_take 1 (v := ?_) rfl (by kernel_rfl) (by kernel_rfl) (by kernel_rfl) (by kernel_rfl) (fun _ _ _ h => h) hHeld (by rfl) (fun w hSw => ?_) ?_
  rotate_left
  · obtain ⟨hSw1, hSw2⟩ := hSw; simp only [List.getElem_toArray, List.getElem_cons_zero, List.getElem_cons_succ]; go_simp; try rfl
  simp only [Act.put, List.getElem_toArray, List.getElem_cons_zero, List.getElem_cons_succ, List.setIfInBounds_toArray, List.set_cons_zero, List.set_cons_succ]
  refine z_take 2 (v := ?_) rfl (by kernel_rfl) (by kernel_rfl) (by kernel_rfl) (by kernel_rfl) (fun _ _ _ h => h) hHeld (by rfl) (fun w hSw => ?_) ?_
  rotate_left
  · obtain ⟨hSw1, hSw2⟩ := hSw; simp only [List.getElem_toArray, List.getElem_cons_zero, List.getElem_cons_succ]; go_simp; try rfl
  simp only [Act.put, List.getElem_toArray, List.getElem_cons_zero, List.getElem_cons_succ, List.setIfInBounds_toArray, List.set_cons_zero, List.set_cons_succ]
  refine z_take 4 (v := ?_) rfl (by kernel_rfl) (by kernel_rfl) (by kernel_rfl) (by kernel_rfl) (fun _ _ _ h => h) hHeld (by rfl) (fun w hSw => ?_) ?_
  rotate_left
  · obtain ⟨hSw1, hSw2⟩ := hSw; simp only [List.getElem_toArray, List.getElem_cons_zero, List.getElem_cons_succ]; go_simp; try rfl
  simp only [Act.put, List.getElem_toArray, List.getElem_cons_zero, List.getElem_cons_succ, List.setIfInBounds_toArray, List.set_cons_zero, List.set_cons_succ]
  refine z_take 5 (v := ?_) rfl (by kernel_rfl) (by kernel_rfl) (by kernel_rfl) (by kernel_rfl) (fun _ _ _ h => h) hHeld (by rfl) (fun w hSw => ?_) ?_
  rotate_left
  · obtain ⟨hSw1, hSw2⟩ := hSw; simp only [List.getElem_toArray, List.getElem_cons_zero, List.getElem_cons_succ]; go_simp; try rfl
  simp only [Act.put, List.getElem_toArray, List.getElem_cons_zero, List.getElem_cons_succ, List.setIfInBounds_toArray, List.set_cons_zero, List.set_cons_succ]
  refine z_take 6 (v := ?_) rfl (by kernel_rfl) (by kernel_rfl) (by kernel_rfl) (by kernel_rfl) (fun _ _ _ h => h) hHeld (by rfl) (fun w hSw => ?_) ?_
  rotate_left
  · obtain ⟨hSw1, hSw2⟩ := hSw; simp only [List.getElem_toArray, List.getElem_cons_zero, List.getElem_cons_succ]; go_simp; try rfl
  simp only [Act.put, List.getElem_toArray, List.getElem_cons_zero, List.getElem_cons_succ, List.setIfInBounds_toArray, List.set_cons_zero, List.set_cons_succ]
  refine z_one 3 rfl (by kernel_rfl) (by rfl) (fun K hK => ?_)
  simp only [List.getElem_toArray, List.getElem_cons_zero, List.getElem_cons_succ]
  go_simp
  refine (few_any sq nq cq 20 lq vv Sq.out (by omega)).mono ?_
  rintro e w3 ⟨sfv, cfv, rfl, hown, hk⟩
  have hfv : (lq.take 20).length ≤ 20 := by rw [List.length_take]; omega
  have Fv := Lib.hid (Sl.of_own hown)
  generalize lq.take 20 = lfv at *
  obtain ⟨nfv, hnfv⟩ : ∃ q, lfv.length = q := ⟨_, rfl⟩
  rw [hnfv] at Fv hfv ⊢
  replace HK := Lib.hid (HK.out.quiet hk)
  replace Sx := Lib.hid (Sx.out.quiet hk)
  replace Sy := Lib.hid (Sy.out.quiet hk)
  replace Sp := Lib.hid (Sp.out.quiet hk)
  replace Sq := Lib.hid (Sq.out.quiet hk)
  replace Ru := Lib.hid (Ru.out.quiet hk)
  refine hK _ _ (Or.inr ?_) (fun hHeld => ?_)
  · exact ⟨kcell hk hHeld.1, kcell hk hHeld.2⟩
  clear hK K hk hown hnfv
  replace hHeld := hHeld.resolve_left (by decide)
  try simp only [Act.put, List.setIfInBounds_toArray, List.set_cons_zero, List.set_cons_succ]
  refine z_one 7 rfl (by kernel_rfl) (by rfl) (fun K hK => ?_)
  simp only [List.getElem_toArray, List.getElem_cons_zero, List.getElem_cons_succ]
  go_simp
  refine (seal_any key sfv nfv cfv lfv sb N cb (l2.take N) w3 HU.out Fv.out (by omega) (by rw [← BV_take]; exact Sy.out.upto hN2) (by omega)).mono ?_
  rintro e w4 ⟨sov, cov, rfl, hown, hk⟩
  have Rv := Lib.hid (Sl.of_own hown)
  replace HK := Lib.hid (HK.out.quiet hk)
  replace Sx := Lib.hid (Sx.out.quiet hk)
  replace Sy := Lib.hid (Sy.out.quiet hk)
  replace Sp := Lib.hid (Sp.out.quiet hk)
  replace Sq := Lib.hid (Sq.out.quiet hk)
  replace Ru := Lib.hid (Ru.out.quiet hk)
  replace Fv := Lib.hid (Fv.out.quiet hk)
  refine hK _ _ (Or.inr ?_) (fun hHeld => ?_)
  · exact ⟨kcell hk hHeld.1, kcell hk hHeld.2⟩
  clear hK K hk hown Fv
  replace hHeld := hHeld.resolve_left (by decide)
  try simp only [Act.put, List.setIfInBounds_toArray, List.set_cons_zero, List.set_cons_succ]
  refine z_one 8 rfl (by kernel_rfl) (by rfl) (fun K hK => ?_)
  simp only [List.getElem_toArray, List.getElem_cons_zero, List.getElem_cons_succ]
  go_simp
  refine hK _ _ (Or.inr ?_) (fun hHeld => ?_)
  · exact hHeld
  clear hK K
  replace hHeld := hHeld.resolve_left (by decide)
  try simp only [Act.put, List.setIfInBounds_toArray, List.set_cons_zero, List.set_cons_succ]
  refine z_done (by kernel_rfl) ?_ _
  obtain ⟨c0, c1⟩ := hHeld
  have e1 : ((N : Int) + 8 != (N : Int) + 8) = false := by simp
  clear Sp Sq c0 c1
  go_wp2_with fail
  go_loopw [12] (fun i wr => PaRel w4 N i wr) (fun i _ => N - (intOf i).toNat)
  case atStart => exact ⟨0, Nat.zero_le _, rfl, Keeps.refl _ _⟩
  case round =>
    obtain ⟨k, hk, rfl, hkp⟩ := hrel
    replace HK := Lib.hid (HK.out.quiet hkp)
    have HR := Lib.hid hkp
    by_cases hlt : k < N
    · obtain ⟨x, hx⟩ : ∃ x, l[k]? = some x := ⟨_, List.getElem?_eq_getElem (by have := HLL.out.1; omega)⟩
      obtain ⟨y, hy⟩ : ∃ y, l2[k]? = some y := ⟨_, List.getElem?_eq_getElem (by have := HLL.out.2; omega)⟩
      have hX : (sealS key lfu (l.take N))[k]? = some (x ^^^ streamByte (padKey key) k) := by rw [seal_get _ _ _ _ (by rw [List.length_take, HLL.out.1]; omega), List.getElem?_take, if_pos hlt, hx]; rfl
      have hY : (sealS key lfv (l2.take N))[k]? = some (y ^^^ streamByte (padKey key) k) := by rw [seal_get _ _ _ _ (by rw [List.length_take, HLL.out.2]; omega), List.getElem?_take, if_pos hlt, hy]; rfl
      generalize streamByte (padKey key) k = s at *
      have ex1 := xor_u8 (x ^^^ s) (y ^^^ s)
      have ex2 := xor_u8 x y
      rw [xor_pad] at ex1
      generalize x ^^^ s = p at *
      generalize y ^^^ s = q at *
      generalize x ^^^ y = r at *
      obtain ⟨b1, o1, rfl⟩ := Sx.out.isSome (by omega)
      obtain ⟨b2, o2, rfl⟩ := Sy.out.isSome (by omega)
      obtain ⟨b3, o3, rfl⟩ := Ru.out.isSome (by omega)
      obtain ⟨b4, o4, rfl⟩ := Rv.out.isSome (by omega)
      have d1 : wr.cell? ⟨b1, o1 + k, none⟩ = some (.int .u8 (x.toNat : Int)) := (Sx.out.quiet hkp).cell (by rw [BV_get, hx]; rfl)
      have d2 : wr.cell? ⟨b2, o2 + k, none⟩ = some (.int .u8 (y.toNat : Int)) := (Sy.out.quiet hkp).cell (by rw [BV_get, hy]; rfl)
      have d3 : wr.cell? ⟨b3, o3 + k, none⟩ = some (.int .u8 (p.toNat : Int)) := (Ru.out.quiet hkp).cell (by rw [BV_get, hX]; rfl)
      have d4 : wr.cell? ⟨b4, o4 + k, none⟩ = some (.int .u8 (q.toNat : Int)) := (Rv.out.quiet hkp).cell (by rw [BV_get, hY]; rfl)
      have u0 : (0 : Int) ≤ (k : Int) := by omega
      have u1 : (k : Int) < (N : Int) := by omega
      have u2 : (k : Int) < (n : Int) := by omega
      have u3 : (k : Int) < (m : Int) := by omega
      have u4 : (k : Int) < (N : Int) + 8 := by omega
      have u5 : (k : Int) < ((N + 8 : Nat) : Int) := by omega
      have e2 : ((r.toNat : Int) != (r.toNat : Int)) = false := by simp
      clear hkp hx hy hX hY Sx Sy Ru Rv
      go_wp2_with fail
      refine z_begin (fun w' => w'.cell? ⟨b1, o1 + k, none⟩ = some (.int .u8 (x.toNat : Int)) ∧ w'.cell? ⟨b2, o2 + k, none⟩ = some (.int .u8 (y.toNat : Int)) ∧ w'.cell? ⟨b3, o3 + k, none⟩ = some (.int .u8 (p.toNat : Int)) ∧ w'.cell? ⟨b4, o4 + k, none⟩ = some (.int .u8 (q.toNat : Int))) 19 (by kernel_rfl) ⟨d1, d2, d3, d4⟩ (fun hHeld => ?_)
      refine z_take 0 (v := ?_) rfl (by kernel_rfl) (by kernel_rfl) (by kernel_rfl) (by kernel_rfl) (fun _ _ _ h => h) hHeld (by rfl) (fun w hSw => ?_) ?_
      rotate_left
      · obtain ⟨hSw1, hSw2, hSw3, hSw4⟩ := hSw; simp only [List.getElem_toArray, List.getElem_cons_zero]; go_simp; try rfl
      simp only [Act.put, List.getElem_toArray, List.getElem_cons_zero, List.setIfInBounds_toArray, List.set_cons_zero, List.set_cons_succ]
      refine z_take 1 (v := ?_) rfl (by kernel_rfl) (by kernel_rfl) (by kernel_rfl) (by kernel_rfl) (fun _ _ _ h => h) hHeld (by rfl) (fun w hSw => ?_) ?_
      rotate_left
      · obtain ⟨hSw1, hSw2, hSw3, hSw4⟩ := hSw; simp only [List.getElem_toArray, List.getElem_cons_zero, List.getElem_cons_succ]; go_simp; try rfl
      simp only [Act.put, List.getElem_toArray, List.getElem_cons_zero, List.getElem_cons_succ, List.setIfInBounds_toArray, List.set_cons_zero, List.set_cons_succ]
      refine z_take 2 (v := ?_) rfl (by kernel_rfl) (by kernel_rfl) (by kernel_rfl) (by kernel_rfl) (fun _ _ _ h => h) hHeld (by rfl) (fun w hSw => ?_) ?_
      rotate_left
      · obtain ⟨hSw1, hSw2, hSw3, hSw4⟩ := hSw; simp only [List.getElem_toArray, List.getElem_cons_zero, List.getElem_cons_succ]; go_simp; try rfl
      simp only [Act.put, List.getElem_toArray, List.getElem_cons_zero, List.getElem_cons_succ, List.setIfInBounds_toArray, List.set_cons_zero, List.set_cons_succ]
      refine z_take 3 (v := ?_) rfl (by kernel_rfl) (by kernel_rfl) (by kernel_rfl) (by kernel_rfl) (fun _ _ _ h => h) hHeld (by rfl) (fun w hSw => ?_) ?_
      rotate_left
      · obtain ⟨hSw1, hSw2, hSw3, hSw4⟩ := hSw; simp only [List.getElem_toArray, List.getElem_cons_zero, List.getElem_cons_succ]; go_simp; try rfl
      simp only [Act.put, List.getElem_toArray, List.getElem_cons_zero, List.getElem_cons_succ, List.setIfInBounds_toArray, List.set_cons_zero, List.set_cons_succ]
      refine z_take 4 (v := ?_) rfl (by kernel_rfl) (by kernel_rfl) (by kernel_rfl) (by kernel_rfl) (fun _ _ _ h => h) hHeld (by rfl) (fun w hSw => ?_) ?_
      rotate_left
      · obtain ⟨hSw1, hSw2, hSw3, hSw4⟩ := hSw; simp only [List.getElem_toArray, List.getElem_cons_zero, List.getElem_cons_succ]; go_simp; try rfl
      simp only [Act.put, List.getElem_toArray, List.getElem_cons_zero, List.getElem_cons_succ, List.setIfInBounds_toArray, List.set_cons_zero, List.set_cons_succ]
      refine z_take 5 (v := ?_) rfl (by kernel_rfl) (by kernel_rfl) (by kernel_rfl) (by kernel_rfl) (fun _ _ _ h => h) hHeld (by rfl) (fun w hSw => ?_) ?_
      rotate_left
      · obtain ⟨hSw1, hSw2, hSw3, hSw4⟩ := hSw; simp only [List.getElem_toArray, List.getElem_cons_zero, List.getElem_cons_succ]; go_simp; try rfl
      simp only [Act.put, List.getElem_toArray, List.getElem_cons_zero, List.getElem_cons_succ, List.setIfInBounds_toArray, List.set_cons_zero, List.set_cons_succ]
      refine z_take 6 (v := ?_) rfl (by kernel_rfl) (by kernel_rfl) (by kernel_rfl) (by kernel_rfl) (fun _ _ _ h => h) hHeld (by rfl) (fun w hSw => ?_) ?_
      rotate_left
      · obtain ⟨hSw1, hSw2, hSw3, hSw4⟩ := hSw; simp only [List.getElem_toArray, List.getElem_cons_zero, List.getElem_cons_succ]; go_simp; try rfl
      simp only [Act.put, List.getElem_toArray, List.getElem_cons_zero, List.getElem_cons_succ, List.setIfInBounds_toArray, List.set_cons_zero, List.set_cons_succ]
      refine z_take 7 (v := ?_) rfl (by kernel_rfl) (by kernel_rfl) (by kernel_rfl) (by kernel_rfl) (fun _ _ _ h => h) hHeld (by rfl) (fun w hSw => ?_) ?_
      rotate_left
      · obtain ⟨hSw1, hSw2, hSw3, hSw4⟩ := hSw; simp only [List.getElem_toArray, List.getElem_cons_zero, List.getElem_cons_succ]; go_simp; try rfl
      simp only [Act.put, List.getElem_toArray, List.getElem_cons_zero, List.getElem_cons_succ, List.setIfInBounds_toArray, List.set_cons_zero, List.set_cons_succ]
      refine z_take 8 (v := ?_) rfl (by kernel_rfl) (by kernel_rfl) (by kernel_rfl) (by kernel_rfl) (fun _ _ _ h => h) hHeld (by rfl) (fun w hSw => ?_) ?_
      rotate_left
      · obtain ⟨hSw1, hSw2, hSw3, hSw4⟩ := hSw; simp only [List.getElem_toArray, List.getElem_cons_zero, List.getElem_cons_succ]; go_simp; try rfl
      simp only [Act.put, List.getElem_toArray, List.getElem_cons_zero, List.getElem_cons_succ, List.setIfInBounds_toArray, List.set_cons_zero, List.set_cons_succ]
      refine z_take 9 (v := ?_) rfl (by kernel_rfl) (by kernel_rfl) (by kernel_rfl) (by kernel_rfl) (fun _ _ _ h => h) hHeld (by rfl) (fun w hSw => ?_) ?_
      rotate_left
      · obtain ⟨hSw1, hSw2, hSw3, hSw4⟩ := hSw; simp only [List.getElem_toArray, List.getElem_cons_zero, List.getElem_cons_succ]; go_simp; try rfl
      simp only [Act.put, List.getElem_toArray, List.getElem_cons_zero, List.getElem_cons_succ, List.setIfInBounds_toArray, List.set_cons_zero, List.set_cons_succ]
      refine z_take 10 (v := ?_) rfl (by kernel_rfl) (by kernel_rfl) (by kernel_rfl) (by kernel_rfl) (fun _ _ _ h => h) hHeld (by rfl) (fun w hSw => ?_) ?_
      rotate_left
      · obtain ⟨hSw1, hSw2, hSw3, hSw4⟩ := hSw; simp only [List.getElem_toArray, List.getElem_cons_zero, List.getElem_cons_succ]; go_simp; try rfl
      simp only [Act.put, List.getElem_toArray, List.getElem_cons_zero, List.getElem_cons_succ, List.setIfInBounds_toArray, List.set_cons_zero, List.set_cons_succ]
      refine z_take 11 (v := ?_) rfl (by kernel_rfl) (by kernel_rfl) (by kernel_rfl) (by kernel_rfl) (fun _ _ _ h => h) hHeld (by rfl) (fun w hSw => ?_) ?_
      rotate_left
      · obtain ⟨hSw1, hSw2, hSw3, hSw4⟩ := hSw; simp only [List.getElem_toArray, List.getElem_cons_zero, List.getElem_cons_succ]; go_simp; try rfl
      simp only [Act.put, List.getElem_toArray, List.getElem_cons_zero, List.getElem_cons_succ, List.setIfInBounds_toArray, List.set_cons_zero, List.set_cons_succ]
      refine z_take 12 (v := ?_) rfl (by kernel_rfl) (by kernel_rfl) (by kernel_rfl) (by kernel_rfl) (fun _ _ _ h => h) hHeld (by rfl) (fun w hSw => ?_) ?_
      rotate_left
      · obtain ⟨hSw1, hSw2, hSw3, hSw4⟩ := hSw; simp only [List.getElem_toArray, List.getElem_cons_zero, List.getElem_cons_succ]; go_simp; try rfl
      simp only [Act.put, List.getElem_toArray, List.getElem_cons_zero, List.getElem_cons_succ, List.setIfInBounds_toArray, List.set_cons_zero, List.set_cons_succ]
      refine z_take 13 (v := ?_) rfl (by kernel_rfl) (by kernel_rfl) (by kernel_rfl) (by kernel_rfl) (fun _ _ _ h => h) hHeld (by rfl) (fun w hSw => ?_) ?_
      rotate_left
      · obtain ⟨hSw1, hSw2, hSw3, hSw4⟩ := hSw; simp only [List.getElem_toArray, List.getElem_cons_zero, List.getElem_cons_succ]; go_simp; try rfl
      simp only [Act.put, List.getElem_toArray, List.getElem_cons_zero, List.getElem_cons_succ, List.setIfInBounds_toArray, List.set_cons_zero, List.set_cons_succ]
      refine z_take 14 (v := ?_) rfl (by kernel_rfl) (by kernel_rfl) (by kernel_rfl) (by kernel_rfl) (fun _ _ _ h => h) hHeld (by rfl) (fun w hSw => ?_) ?_
      rotate_left
      · obtain ⟨hSw1, hSw2, hSw3, hSw4⟩ := hSw; simp only [List.getElem_toArray, List.getElem_cons_zero, List.getElem_cons_succ]; go_simp; try rfl
      simp only [Act.put, List.getElem_toArray, List.getElem_cons_zero, List.getElem_cons_succ, List.setIfInBounds_toArray, List.set_cons_zero, List.set_cons_succ]
      refine z_take 15 (v := ?_) rfl (by kernel_rfl) (by kernel_rfl) (by kernel_rfl) (by kernel_rfl) (fun _ _ _ h => h) hHeld (by rfl) (fun w hSw => ?_) ?_
      rotate_left
      · obtain ⟨hSw1, hSw2, hSw3, hSw4⟩ := hSw; simp only [List.getElem_toArray, List.getElem_cons_zero, List.getElem_cons_succ]; go_simp; try rfl
      simp only [Act.put, List.getElem_toArray, List.getElem_cons_zero, List.getElem_cons_succ, List.setIfInBounds_toArray, List.set_cons_zero, List.set_cons_succ]
      refine z_take 16 (v := ?_) rfl (by kernel_rfl) (by kernel_rfl) (by kernel_rfl) (by kernel_rfl) (fun _ _ _ h => h) hHeld (by rfl) (fun w hSw => ?_) ?_
      rotate_left
      · obtain ⟨hSw1, hSw2, hSw3, hSw4⟩ := hSw; simp only [List.getElem_toArray, List.getElem_cons_zero, List.getElem_cons_succ]; go_simp; try rfl
      simp only [Act.put, List.getElem_toArray, List.getElem_cons_zero, List.getElem_cons_succ, List.setIfInBounds_toArray, List.set_cons_zero, List.set_cons_succ]
      refine z_take 17 (v := ?_) rfl (by kernel_rfl) (by kernel_rfl) (by kernel_rfl) (by kernel_rfl) (fun _ _ _ h => h) hHeld (by rfl) (fun w hSw => ?_) ?_
      rotate_left
      · obtain ⟨hSw1, hSw2, hSw3, hSw4⟩ := hSw; simp only [List.getElem_toArray, List.getElem_cons_zero, List.getElem_cons_succ]; go_simp; try rfl
      simp only [Act.put, List.getElem_toArray, List.getElem_cons_zero, List.getElem_cons_succ, List.setIfInBounds_toArray, List.set_cons_zero, List.set_cons_succ]
      refine z_take 18 (v := ?_) rfl (by kernel_rfl) (by kernel_rfl) (by kernel_rfl) (by kernel_rfl) (fun _ _ _ h => h) hHeld (by rfl) (fun w hSw => ?_) ?_
      rotate_left
      · obtain ⟨hSw1, hSw2, hSw3, hSw4⟩ := hSw; simp only [List.getElem_toArray, List.getElem_cons_zero, List.getElem_cons_succ]; go_simp; try rfl
      simp only [Act.put, List.getElem_toArray, List.getElem_cons_zero, List.getElem_cons_succ, List.setIfInBounds_toArray, List.set_cons_zero, List.set_cons_succ]
      refine z_done (by kernel_rfl) ?_ _
      clear hHeld d1 d2 d3 d4
      replace HR := Lib.hid HR.out.drew
      go_wp2
      go_roundw
      case rel => exact ⟨k + 1, by omega, rfl, HR.out⟩
      case measure => simp [intOf]; omega
    · have u1 : ¬ (k : Int) < (N : Int) := by omega
      clear hkp Sx Sy Ru Rv
      go_wp2_with fail
      refine (lives_any wr).mono ?_
      rintro e w41 ⟨rfl, hk⟩
      replace HK := Lib.hid (HK.out.quiet hk)
      clear hk
      go_wp2
      go_ret
      exact ⟨rfl, HK.out⟩
end Go.Proofs.Ytnnhndnckpnkmaa
