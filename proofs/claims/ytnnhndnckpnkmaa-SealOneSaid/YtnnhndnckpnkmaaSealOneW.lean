/-
  The law SealOne: the walk. Conditions: the arguments are what came in.
-/
import Derived.Test.YtnnhndnckpnkmaaLives07
import Derived.Test.YtnnhndnckpnkmaaFew
import Derived.Test.YtnnhndnckpnkmaaAround
import Derived.Test.YtnnhndnckpnkmaaSame
import Derived.Test.YtnnhndnckpnkmaaRegion
import Derived.Test.YtnnhndnckpnkmaaOpen
namespace Go.Proofs.Ytnnhndnckpnkmaa
open Go.RowKit

def OnRel (w : World) (i : Value) (wr : World) : Prop := ∃ k : Nat, k ≤ 2 ∧ i = .int .i64 (k : Int) ∧ Keeps (fun _ => False) w wr
theorem cell_keep {w w' : World} (hk : Keeps (fun _ => False) w w') {p : Addr} {v : Value} (h : w.cell? p = some v) : w'.cell? p = some v := by
  rw [hk.cell (World.block_lt_of_cell? _ _ h) (fun h => h)]; exact h

set_option maxHeartbeats 2000000 in
set_option maxRecDepth 10000 in
theorem sealOne_walk (key : Nat) (sa : Option Addr) (n cap : Nat) (l : List UInt8) (sr : Option Addr) (mr cr : Nat) (lr : List UInt8) (sb : Option Addr) (m cb : Nat) (l2 : List UInt8) (at_ : Int) (c_ : UInt8) (w : World) (hkey : U64 key) (hl : Sl w sa n cap (BV l)) (hlr : Sl w sr mr cr (BV lr)) (hl2 : Sl w sb m cb (BV l2)) (h1 : -9223372036854775808 ≤ at_) (h2 : at_ ≤ 9223372036854775807) :
    Calls Try.prog 5 #[.int .u64 key, .slice sa n cap, .slice sr mr cr, .slice sb m cb, .int .i64 at_, .int .u8 c_.toNat] w fun e w' => e = .returned (.bool true) ∧ Keeps (fun _ => False) w w' := by
  have HI := Lib.hid (And.intro h1 h2)
  have Sz := Lib.hid hlr
  clear h1 h2 hlr
  have Sx := Lib.hid hl
  have Sy := Lib.hid hl2
  have HU := Lib.hid hkey
  clear hl hl2 hkey
  go_enter Try.func5, Try.ntmps5
  have HK := Lib.hid (Keeps.refl (fun _ => False) w)
  go_wp2_with fail
  refine (few_any sa n cap 20 l w Sx.out (by omega)).mono ?_
  rintro e w1 ⟨saa, caa, rfl, hown, hk⟩
  replace HK := Lib.hid (HK.out.quiet hk)
  replace Sx := Lib.hid (Sx.out.quiet hk)
  replace Sy := Lib.hid (Sy.out.quiet hk)
  replace Sz := Lib.hid (Sz.out.quiet hk)
  have Oa := Lib.hid hown
  have Sa := Lib.hid (Sl.of_own hown)
  clear hown hk
  have hna : (l.take 20).length ≤ 20 := by rw [List.length_take]; omega
  generalize l.take 20 = la at *
  obtain ⟨na, hlna⟩ : ∃ na, la.length = na := ⟨_, rfl⟩
  rw [hlna] at hna Oa Sa ⊢
  have HLa := Lib.hid hlna
  clear hlna
  go_wp2_with fail
  refine (few_any sb m cb 20 l2 w1 Sy.out (by omega)).mono ?_
  rintro e w2 ⟨sab, cab, rfl, hown, hk⟩
  replace HK := Lib.hid (HK.out.quiet hk)
  replace Sx := Lib.hid (Sx.out.quiet hk)
  replace Sy := Lib.hid (Sy.out.quiet hk)
  replace Sz := Lib.hid (Sz.out.quiet hk)
  replace Sa := Lib.hid (Sa.out.quiet hk)
  replace Oa := Lib.hid (own_keep Oa.out hk (fun _ _ h => h))
  have Ob := Lib.hid hown
  have Sb := Lib.hid (Sl.of_own hown)
  clear hown hk
  have hnb : (l2.take 20).length ≤ 20 := by rw [List.length_take]; omega
  generalize l2.take 20 = lb at *
  obtain ⟨nb, hlnb⟩ : ∃ na, lb.length = na := ⟨_, rfl⟩
  rw [hlnb] at hnb Ob Sb ⊢
  have HLb := Lib.hid hlnb
  clear hlnb
  clear Sx Sy Oa Ob
  have HSZ : Hid (w.heap.size ≤ w2.heap.size) := HK.out.size
  have PSa := Lib.hid Sa.out
  have PSz := Lib.hid Sz.out
  go_wp2_with fail
  refine (seal_any key saa na caa la sab nb cab lb w2 HU.out Sa.out (by omega) Sb.out (by omega)).mono ?_
  rintro e w3 ⟨sac, cac, rfl, hown, hk⟩
  replace HK := Lib.hid (HK.out.quiet hk)
  replace Sz := Lib.hid (Sz.out.quiet hk)
  replace Sa := Lib.hid (Sa.out.quiet hk)
  replace Sb := Lib.hid (Sb.out.quiet hk)
  have Oc := Lib.hid hown
  clear hown hk
  clear Sb
  have hXl := sealS_length key la lb
  rw [HLb.out] at hXl
  generalize sealS key la lb = X at *
  have HX := Lib.hid hXl
  clear hXl
  obtain ⟨gc, rfl⟩ : ∃ gc, sac = some ⟨gc, 0, none⟩ := by
    rcases own_addr Oc.out with ⟨_, h, _⟩ | h
    · omega
    · exact h
  have hgc := (own_lt Oc.out rfl).1
  obtain ⟨k, hk, _, hc1⟩ := around_nat at_ (nb + 8) w3 HI.out.1 HI.out.2 (by omega) (by omega)
  have HC := Lib.hid hc1
  clear hc1
  have t0 : ¬ (nb : Int) + 8 < 8 := by omega
  go_wp2_with fail
  refine HC.out.mono ?_
  rintro e _ ⟨rfl, rfl⟩
  clear HC
  obtain ⟨x, hx⟩ : ∃ x, X[k]? = some x := ⟨_, List.getElem?_eq_getElem (by rw [HX.out]; omega)⟩
  have c1 : w3.cell? ⟨gc, k, none⟩ = some (.int .u8 (x.toNat : Int)) := own_cell Oc.out k _ (by rw [BV_get, hx]; rfl)
  have f1 := own_free Oc.out k
  have u0 : (0 : Int) ≤ (k : Int) := by omega
  have u1 : (k : Int) < ((nb + 8 : Nat) : Int) := by omega
  obtain ⟨ws, hws⟩ : ∃ W, w3.setCell ⟨gc, k, none⟩ (.int .u8 (c_.toNat : Int)) = W := ⟨_, rfl⟩
  have OD : Hid (ws.ownsRow w2.heap.size 5 1 (.slice (some ⟨gc, 0, none⟩) (nb + 8) cac) (nb + 8) (BV (X.set k c_))) := by show World.ownsRow _ _ _ _ _ _ _; rw [← BV_set, ← hws]; exact own_set Oc.out k _
  have hkset : Keeps (fun j => j = gc) w3 ws := by rw [← hws]; exact (Keeps.refl (fun j => j = gc) _).setCell (p := ⟨gc, k, none⟩) (fun _ => rfl) _
  replace Sa := Lib.hid (Sa.out.keep hkset (fun ad e h0 _ h => by have := blk_lt PSa.out e h0; omega))
  replace Sz := Lib.hid (Sz.out.keep hkset (fun ad e h0 _ h => by have := blk_lt PSz.out e h0; omega))
  replace HK := Lib.hid (HK.out.trans hkset (fun j hj h => by have := HSZ.out; omega))
  have Sc := Lib.hid (Sl.of_own OD.out)
  clear hkset hx Oc OD HSZ PSa PSz
  generalize X.set k c_ = Z at *
  clear HX
  go_wp2_with fail
  refine (few_any sr mr cr 30 lr ws Sz.out (by omega)).mono ?_
  rintro e w4 ⟨sar, car, rfl, hown, hk⟩
  replace HK := Lib.hid (HK.out.quiet hk)
  replace Sa := Lib.hid (Sa.out.quiet hk)
  replace Sz := Lib.hid (Sz.out.quiet hk)
  replace Sc := Lib.hid (Sc.out.quiet hk)
  have Or := Lib.hid hown
  have Sr := Lib.hid (Sl.of_own hown)
  clear hown hk
  have hnr : (lr.take 30).length ≤ 30 := by rw [List.length_take]; omega
  generalize lr.take 30 = ly at *
  obtain ⟨nr, hlnr⟩ : ∃ na, ly.length = na := ⟨_, rfl⟩
  rw [hlnr] at hnr Or Sr ⊢
  have HLr := Lib.hid hlnr
  clear hlnr c1 f1 u0 u1 hws
  clear Sz Or
  go_wp2_with fail
  obtain ⟨gl, hgl⟩ : ∃ g, w4.heap.size = g := ⟨_, rfl⟩
  obtain ⟨wl, hwl⟩ : ∃ W, World.alloc w4 (.cells #[.slice sar nr car, .slice (some ⟨gc, 0, none⟩) (nb + 8) cac] 23) = W := ⟨_, rfl⟩
  have hb : wl.heap[gl]? = some (.cells #[.slice sar nr car, .slice (some ⟨gc, 0, none⟩) (nb + 8) cac] 23 (0, 0)) := by rw [← hwl, ← hgl]; exact World.alloc_heap_new w4 _
  have hk : Keeps (fun _ => False) w4 wl := by rw [← hwl]; exact (Keeps.refl _ w4).alloc _
  rw [hwl, hgl]
  replace HK := Lib.hid (HK.out.quiet hk)
  replace Sa := Lib.hid (Sa.out.quiet hk)
  replace Sc := Lib.hid (Sc.out.quiet hk)
  replace Sr := Lib.hid (Sr.out.quiet hk)
  have HG : Hid (∀ j : Nat, j < 2 → ∃ sx nx cx lx, wl.cell? ⟨gl, j, none⟩ = some (.slice sx nx cx) ∧ Sl wl sx nx cx (BV lx) ∧ nx ≤ 1000) := by
    intro j hj
    have hj2 : j = 0 ∨ j = 1 := by omega
    rcases hj2 with rfl | rfl
    · exact ⟨_, _, _, _, by rw [cellAt hb 0]; rfl, Sr.out, by omega⟩
    · exact ⟨_, _, _, _, by rw [cellAt hb 1]; rfl, Sc.out, by omega⟩
  clear hb hk hwl hgl Sr Sc
  go_loopw [16] (fun i wr => OnRel wl i wr) (fun i _ => 2 - (intOf i).toNat)
  case atStart => exact ⟨0, by omega, rfl, Keeps.refl _ _⟩
  case round =>
    obtain ⟨j, hj, rfl, hkp⟩ := hrel
    replace HK := Lib.hid (HK.out.quiet hkp)
    have HR := Lib.hid hkp
    replace Sa := Lib.hid (Sa.out.quiet hkp)
    by_cases hlt : j < 2
    · obtain ⟨sx, nx, cx, lx, hc, hS, hnx⟩ := HG.out j hlt
      replace hS := hS.quiet hkp
      have hc2 := cell_keep hkp hc
      have SX := Lib.hid hS
      have HCC := Lib.hid hc2
      clear hkp hS hc HG
      have t1 : (j : Int) < 2 := by omega
      have t2 : (0 : Int) ≤ (j : Int) := by omega
      rcases open_errs key la lx with (ho | ho) | ⟨lt, ho, hq⟩
      · have HO := Lib.hid ho
        clear ho
        go_wp2_with fail
        refine (sopen_any key saa na caa la sx nx cx lx wr HU.out Sa.out (by omega) SX.out (by omega)).mono ?_
        rw [HO.out]
        simp only [List.length_nil]
        rintro e w21 ⟨so, co, rfl, hown, hk⟩
        replace HK := Lib.hid (HK.out.quiet hk)
        replace Sa := Lib.hid (Sa.out.quiet hk)
        replace SX := Lib.hid (SX.out.quiet hk)
        replace HR := Lib.hid (HR.out.quiet hk)
        have hc3 := cell_keep hk HCC.out
        clear hown hk hc2
        go_wp2_with fail
        refine z_begin (fun _ => True) 14 (by kernel_rfl) trivial (fun hHeld => ?_)
        refine z_take 0 (v := ?_) rfl (by kernel_rfl) (by kernel_rfl) (by kernel_rfl) (by kernel_rfl) (fun _ _ _ h => h) hHeld (by rfl) (fun w hSw => ?_) ?_
        rotate_left
        · have hSw1 := hSw; clear hSw; simp only [List.getElem_toArray, List.getElem_cons_zero]; go_simp; try rfl
        simp only [Act.put, List.getElem_toArray, List.getElem_cons_zero, List.setIfInBounds_toArray, List.set_cons_zero, List.set_cons_succ]
        refine z_take 1 (v := ?_) rfl (by kernel_rfl) (by kernel_rfl) (by kernel_rfl) (by kernel_rfl) (fun _ _ _ h => h) hHeld (by rfl) (fun w hSw => ?_) ?_
        rotate_left
        · have hSw1 := hSw; clear hSw; simp only [List.getElem_toArray, List.getElem_cons_zero, List.getElem_cons_succ]; go_simp; try rfl
        simp only [Act.put, List.getElem_toArray, List.getElem_cons_zero, List.getElem_cons_succ, List.setIfInBounds_toArray, List.set_cons_zero, List.set_cons_succ]
        refine z_take 2 (v := ?_) rfl (by kernel_rfl) (by kernel_rfl) (by kernel_rfl) (by kernel_rfl) (fun _ _ _ h => h) hHeld (by rfl) (fun w hSw => ?_) ?_
        rotate_left
        · have hSw1 := hSw; clear hSw; simp only [List.getElem_toArray, List.getElem_cons_zero, List.getElem_cons_succ]; go_simp; try rfl
        simp only [Act.put, List.getElem_toArray, List.getElem_cons_zero, List.getElem_cons_succ, List.setIfInBounds_toArray, List.set_cons_zero, List.set_cons_succ]
        refine z_skip 3 rfl (by kernel_rfl) (by kernel_rfl) (by kernel_rfl) (by kernel_rfl) (fun _ _ _ h => h) hHeld (by rfl) ?_
        simp only [Act.put, List.getElem_toArray, List.getElem_cons_zero, List.getElem_cons_succ, List.setIfInBounds_toArray, List.set_cons_zero, List.set_cons_succ]
        refine z_skip 4 rfl (by kernel_rfl) (by kernel_rfl) (by kernel_rfl) (by kernel_rfl) (fun _ _ _ h => h) hHeld (by rfl) ?_
        simp only [Act.put, List.getElem_toArray, List.getElem_cons_zero, List.getElem_cons_succ, List.setIfInBounds_toArray, List.set_cons_zero, List.set_cons_succ]
        refine z_skip 5 rfl (by kernel_rfl) (by kernel_rfl) (by kernel_rfl) (by kernel_rfl) (fun _ _ _ h => h) hHeld (by rfl) ?_
        simp only [Act.put, List.getElem_toArray, List.getElem_cons_zero, List.getElem_cons_succ, List.setIfInBounds_toArray, List.set_cons_zero, List.set_cons_succ]
        refine z_skip 6 rfl (by kernel_rfl) (by kernel_rfl) (by kernel_rfl) (by kernel_rfl) (fun _ _ _ h => h) hHeld (by rfl) ?_
        simp only [Act.put, List.getElem_toArray, List.getElem_cons_zero, List.getElem_cons_succ, List.setIfInBounds_toArray, List.set_cons_zero, List.set_cons_succ]
        refine z_skip 7 rfl (by kernel_rfl) (by kernel_rfl) (by kernel_rfl) (by kernel_rfl) (fun _ _ _ h => h) hHeld (by rfl) ?_
        simp only [Act.put, List.getElem_toArray, List.getElem_cons_zero, List.getElem_cons_succ, List.setIfInBounds_toArray, List.set_cons_zero, List.set_cons_succ]
        refine z_skip 8 rfl (by kernel_rfl) (by kernel_rfl) (by kernel_rfl) (by kernel_rfl) (fun _ _ _ h => h) hHeld (by rfl) ?_
        simp only [Act.put, List.getElem_toArray, List.getElem_cons_zero, List.getElem_cons_succ, List.setIfInBounds_toArray, List.set_cons_zero, List.set_cons_succ]
        refine z_skip 9 rfl (by kernel_rfl) (by kernel_rfl) (by kernel_rfl) (by kernel_rfl) (fun _ _ _ h => h) hHeld (by rfl) ?_
        simp only [Act.put, List.getElem_toArray, List.getElem_cons_zero, List.getElem_cons_succ, List.setIfInBounds_toArray, List.set_cons_zero, List.set_cons_succ]
        refine z_skip 10 rfl (by kernel_rfl) (by kernel_rfl) (by kernel_rfl) (by kernel_rfl) (fun _ _ _ h => h) hHeld (by rfl) ?_
        simp only [Act.put, List.getElem_toArray, List.getElem_cons_zero, List.getElem_cons_succ, List.setIfInBounds_toArray, List.set_cons_zero, List.set_cons_succ]
        refine z_skip 11 rfl (by kernel_rfl) (by kernel_rfl) (by kernel_rfl) (by kernel_rfl) (fun _ _ _ h => h) hHeld (by rfl) ?_
        simp only [Act.put, List.getElem_toArray, List.getElem_cons_zero, List.getElem_cons_succ, List.setIfInBounds_toArray, List.set_cons_zero, List.set_cons_succ]
        refine z_skip 12 rfl (by kernel_rfl) (by kernel_rfl) (by kernel_rfl) (by kernel_rfl) (fun _ _ _ h => h) hHeld (by rfl) ?_
        simp only [Act.put, List.getElem_toArray, List.getElem_cons_zero, List.getElem_cons_succ, List.setIfInBounds_toArray, List.set_cons_zero, List.set_cons_succ]
        refine z_take 13 (v := ?_) rfl (by kernel_rfl) (by kernel_rfl) (by kernel_rfl) (by kernel_rfl) (fun _ _ _ h => h) hHeld (by rfl) (fun w hSw => ?_) ?_
        rotate_left
        · have hSw1 := hSw; clear hSw; simp only [List.getElem_toArray, List.getElem_cons_zero, List.getElem_cons_succ]; go_simp; try rfl
        simp only [Act.put, List.getElem_toArray, List.getElem_cons_zero, List.getElem_cons_succ, List.setIfInBounds_toArray, List.set_cons_zero, List.set_cons_succ]
        refine z_done (by kernel_rfl) ?_ _
        replace HR := Lib.hid (HR.out.drew)
        clear hc3 hHeld
        go_wp2
        go_roundw
        case rel => exact ⟨j + 1, by omega, rfl, HR.out⟩
        case measure => simp [intOf]; omega
      · have HO := Lib.hid ho
        clear ho
        go_wp2_with fail
        refine (sopen_any key saa na caa la sx nx cx lx wr HU.out Sa.out (by omega) SX.out (by omega)).mono ?_
        rw [HO.out]
        simp only [List.length_nil]
        rintro e w21 ⟨so, co, rfl, hown, hk⟩
        replace HK := Lib.hid (HK.out.quiet hk)
        replace Sa := Lib.hid (Sa.out.quiet hk)
        replace SX := Lib.hid (SX.out.quiet hk)
        replace HR := Lib.hid (HR.out.quiet hk)
        have hc3 := cell_keep hk HCC.out
        clear hown hk hc2
        go_wp2_with fail
        refine z_begin (fun _ => True) 14 (by kernel_rfl) trivial (fun hHeld => ?_)
        refine z_take 0 (v := ?_) rfl (by kernel_rfl) (by kernel_rfl) (by kernel_rfl) (by kernel_rfl) (fun _ _ _ h => h) hHeld (by rfl) (fun w hSw => ?_) ?_
        rotate_left
        · have hSw1 := hSw; clear hSw; simp only [List.getElem_toArray, List.getElem_cons_zero]; go_simp; try rfl
        simp only [Act.put, List.getElem_toArray, List.getElem_cons_zero, List.setIfInBounds_toArray, List.set_cons_zero, List.set_cons_succ]
        refine z_take 1 (v := ?_) rfl (by kernel_rfl) (by kernel_rfl) (by kernel_rfl) (by kernel_rfl) (fun _ _ _ h => h) hHeld (by rfl) (fun w hSw => ?_) ?_
        rotate_left
        · have hSw1 := hSw; clear hSw; simp only [List.getElem_toArray, List.getElem_cons_zero, List.getElem_cons_succ]; go_simp; try rfl
        simp only [Act.put, List.getElem_toArray, List.getElem_cons_zero, List.getElem_cons_succ, List.setIfInBounds_toArray, List.set_cons_zero, List.set_cons_succ]
        refine z_take 2 (v := ?_) rfl (by kernel_rfl) (by kernel_rfl) (by kernel_rfl) (by kernel_rfl) (fun _ _ _ h => h) hHeld (by rfl) (fun w hSw => ?_) ?_
        rotate_left
        · have hSw1 := hSw; clear hSw; simp only [List.getElem_toArray, List.getElem_cons_zero, List.getElem_cons_succ]; go_simp; try rfl
        simp only [Act.put, List.getElem_toArray, List.getElem_cons_zero, List.getElem_cons_succ, List.setIfInBounds_toArray, List.set_cons_zero, List.set_cons_succ]
        refine z_skip 3 rfl (by kernel_rfl) (by kernel_rfl) (by kernel_rfl) (by kernel_rfl) (fun _ _ _ h => h) hHeld (by rfl) ?_
        simp only [Act.put, List.getElem_toArray, List.getElem_cons_zero, List.getElem_cons_succ, List.setIfInBounds_toArray, List.set_cons_zero, List.set_cons_succ]
        refine z_skip 4 rfl (by kernel_rfl) (by kernel_rfl) (by kernel_rfl) (by kernel_rfl) (fun _ _ _ h => h) hHeld (by rfl) ?_
        simp only [Act.put, List.getElem_toArray, List.getElem_cons_zero, List.getElem_cons_succ, List.setIfInBounds_toArray, List.set_cons_zero, List.set_cons_succ]
        refine z_skip 5 rfl (by kernel_rfl) (by kernel_rfl) (by kernel_rfl) (by kernel_rfl) (fun _ _ _ h => h) hHeld (by rfl) ?_
        simp only [Act.put, List.getElem_toArray, List.getElem_cons_zero, List.getElem_cons_succ, List.setIfInBounds_toArray, List.set_cons_zero, List.set_cons_succ]
        refine z_skip 6 rfl (by kernel_rfl) (by kernel_rfl) (by kernel_rfl) (by kernel_rfl) (fun _ _ _ h => h) hHeld (by rfl) ?_
        simp only [Act.put, List.getElem_toArray, List.getElem_cons_zero, List.getElem_cons_succ, List.setIfInBounds_toArray, List.set_cons_zero, List.set_cons_succ]
        refine z_skip 7 rfl (by kernel_rfl) (by kernel_rfl) (by kernel_rfl) (by kernel_rfl) (fun _ _ _ h => h) hHeld (by rfl) ?_
        simp only [Act.put, List.getElem_toArray, List.getElem_cons_zero, List.getElem_cons_succ, List.setIfInBounds_toArray, List.set_cons_zero, List.set_cons_succ]
        refine z_skip 8 rfl (by kernel_rfl) (by kernel_rfl) (by kernel_rfl) (by kernel_rfl) (fun _ _ _ h => h) hHeld (by rfl) ?_
        simp only [Act.put, List.getElem_toArray, List.getElem_cons_zero, List.getElem_cons_succ, List.setIfInBounds_toArray, List.set_cons_zero, List.set_cons_succ]
        refine z_skip 9 rfl (by kernel_rfl) (by kernel_rfl) (by kernel_rfl) (by kernel_rfl) (fun _ _ _ h => h) hHeld (by rfl) ?_
        simp only [Act.put, List.getElem_toArray, List.getElem_cons_zero, List.getElem_cons_succ, List.setIfInBounds_toArray, List.set_cons_zero, List.set_cons_succ]
        refine z_skip 10 rfl (by kernel_rfl) (by kernel_rfl) (by kernel_rfl) (by kernel_rfl) (fun _ _ _ h => h) hHeld (by rfl) ?_
        simp only [Act.put, List.getElem_toArray, List.getElem_cons_zero, List.getElem_cons_succ, List.setIfInBounds_toArray, List.set_cons_zero, List.set_cons_succ]
        refine z_skip 11 rfl (by kernel_rfl) (by kernel_rfl) (by kernel_rfl) (by kernel_rfl) (fun _ _ _ h => h) hHeld (by rfl) ?_
        simp only [Act.put, List.getElem_toArray, List.getElem_cons_zero, List.getElem_cons_succ, List.setIfInBounds_toArray, List.set_cons_zero, List.set_cons_succ]
        refine z_skip 12 rfl (by kernel_rfl) (by kernel_rfl) (by kernel_rfl) (by kernel_rfl) (fun _ _ _ h => h) hHeld (by rfl) ?_
        simp only [Act.put, List.getElem_toArray, List.getElem_cons_zero, List.getElem_cons_succ, List.setIfInBounds_toArray, List.set_cons_zero, List.set_cons_succ]
        refine z_take 13 (v := ?_) rfl (by kernel_rfl) (by kernel_rfl) (by kernel_rfl) (by kernel_rfl) (fun _ _ _ h => h) hHeld (by rfl) (fun w hSw => ?_) ?_
        rotate_left
        · have hSw1 := hSw; clear hSw; simp only [List.getElem_toArray, List.getElem_cons_zero, List.getElem_cons_succ]; go_simp; try rfl
        simp only [Act.put, List.getElem_toArray, List.getElem_cons_zero, List.getElem_cons_succ, List.setIfInBounds_toArray, List.set_cons_zero, List.set_cons_succ]
        refine z_done (by kernel_rfl) ?_ _
        replace HR := Lib.hid (HR.out.drew)
        clear hc3 hHeld
        go_wp2
        go_roundw
        case rel => exact ⟨j + 1, by omega, rfl, HR.out⟩
        case measure => simp [intOf]; omega
      · have HO := Lib.hid ho
        have HQ := Lib.hid hq
        obtain ⟨nt, hnt⟩ : ∃ nt, lt.length = nt := ⟨_, rfl⟩
        have hntx : nt ≤ 1000 := by have h3 := sealS_length key la lt; rw [hq] at h3; have h4 := SX.out.len; simp at h4; omega
        have HT := Lib.hid hnt
        clear ho hq hnt
        go_wp2_with fail
        refine (sopen_any key saa na caa la sx nx cx lx wr HU.out Sa.out (by omega) SX.out (by omega)).mono ?_
        rw [HO.out]
        simp only [HT.out]
        rintro e w21 ⟨so, co, rfl, hown, hk⟩
        have ST := Lib.hid (Sl.of_own hown)
        replace HK := Lib.hid (HK.out.quiet hk)
        replace Sa := Lib.hid (Sa.out.quiet hk)
        replace SX := Lib.hid (SX.out.quiet hk)
        replace HR := Lib.hid (HR.out.quiet hk)
        have hc3 := cell_keep hk HCC.out
        clear hown hk hc2
        go_wp2_with fail
        refine z_begin (fun w' => w'.cell? ⟨gl, j, none⟩ = some (.slice sx nx cx)) 14 (by kernel_rfl) hc3 (fun hHeld => ?_)
        have hk : Keeps (fun _ => False) w21 (World.drew w21) := (Keeps.refl _ _).drew
        replace HK := Lib.hid (HK.out.quiet hk)
        replace Sa := Lib.hid (Sa.out.quiet hk)
        replace SX := Lib.hid (SX.out.quiet hk)
        replace ST := Lib.hid (ST.out.quiet hk)
        replace HR := Lib.hid (HR.out.quiet hk)
        clear hk hc3
        generalize World.drew w21 = v1 at *
        refine z_take 0 (v := ?_) rfl (by kernel_rfl) (by kernel_rfl) (by kernel_rfl) (by kernel_rfl) (fun _ _ _ h => h) hHeld (by rfl) (fun w hSw => ?_) ?_
        rotate_left
        · have hSw1 := hSw; clear hSw; simp only [List.getElem_toArray, List.getElem_cons_zero]; go_simp; try rfl
        simp only [Act.put, List.getElem_toArray, List.getElem_cons_zero, List.setIfInBounds_toArray, List.set_cons_zero, List.set_cons_succ]
        refine z_take 1 (v := ?_) rfl (by kernel_rfl) (by kernel_rfl) (by kernel_rfl) (by kernel_rfl) (fun _ _ _ h => h) hHeld (by rfl) (fun w hSw => ?_) ?_
        rotate_left
        · have hSw1 := hSw; clear hSw; simp only [List.getElem_toArray, List.getElem_cons_zero, List.getElem_cons_succ]; go_simp; try rfl
        simp only [Act.put, List.getElem_toArray, List.getElem_cons_zero, List.getElem_cons_succ, List.setIfInBounds_toArray, List.set_cons_zero, List.set_cons_succ]
        refine z_take 2 (v := ?_) rfl (by kernel_rfl) (by kernel_rfl) (by kernel_rfl) (by kernel_rfl) (fun _ _ _ h => h) hHeld (by rfl) (fun w hSw => ?_) ?_
        rotate_left
        · have hSw1 := hSw; clear hSw; simp only [List.getElem_toArray, List.getElem_cons_zero, List.getElem_cons_succ]; go_simp; try rfl
        simp only [Act.put, List.getElem_toArray, List.getElem_cons_zero, List.getElem_cons_succ, List.setIfInBounds_toArray, List.set_cons_zero, List.set_cons_succ]
        refine z_take 3 (v := ?_) rfl (by kernel_rfl) (by kernel_rfl) (by kernel_rfl) (by kernel_rfl) (fun _ _ _ h => h) hHeld (by rfl) (fun w hSw => ?_) ?_
        rotate_left
        · have hSw1 := hSw; clear hSw; simp only [List.getElem_toArray, List.getElem_cons_zero, List.getElem_cons_succ]; go_simp; try rfl
        simp only [Act.put, List.getElem_toArray, List.getElem_cons_zero, List.getElem_cons_succ, List.setIfInBounds_toArray, List.set_cons_zero, List.set_cons_succ]
        refine z_take 4 (v := ?_) rfl (by kernel_rfl) (by kernel_rfl) (by kernel_rfl) (by kernel_rfl) (fun _ _ _ h => h) hHeld (by rfl) (fun w hSw => ?_) ?_
        rotate_left
        · have hSw1 := hSw; clear hSw; simp only [List.getElem_toArray, List.getElem_cons_zero, List.getElem_cons_succ]; go_simp; try rfl
        simp only [Act.put, List.getElem_toArray, List.getElem_cons_zero, List.getElem_cons_succ, List.setIfInBounds_toArray, List.set_cons_zero, List.set_cons_succ]
        refine z_take 5 (v := ?_) rfl (by kernel_rfl) (by kernel_rfl) (by kernel_rfl) (by kernel_rfl) (fun _ _ _ h => h) hHeld (by rfl) (fun w hSw => ?_) ?_
        rotate_left
        · have hSw1 := hSw; clear hSw; simp only [List.getElem_toArray, List.getElem_cons_zero, List.getElem_cons_succ]; go_simp; try rfl
        simp only [Act.put, List.getElem_toArray, List.getElem_cons_zero, List.getElem_cons_succ, List.setIfInBounds_toArray, List.set_cons_zero, List.set_cons_succ]
        refine z_take 7 (v := ?_) rfl (by kernel_rfl) (by kernel_rfl) (by kernel_rfl) (by kernel_rfl) (fun _ _ _ h => h) hHeld (by rfl) (fun w hSw => ?_) ?_
        rotate_left
        · have hSw1 := hSw; clear hSw; simp only [List.getElem_toArray, List.getElem_cons_zero, List.getElem_cons_succ]; go_simp; try rfl
        simp only [Act.put, List.getElem_toArray, List.getElem_cons_zero, List.getElem_cons_succ, List.setIfInBounds_toArray, List.set_cons_zero, List.set_cons_succ]
        refine z_take 8 (v := ?_) rfl (by kernel_rfl) (by kernel_rfl) (by kernel_rfl) (by kernel_rfl) (fun _ _ _ h => h) hHeld (by rfl) (fun w hSw => ?_) ?_
        rotate_left
        · have hSw1 := hSw; clear hSw; simp only [List.getElem_toArray, List.getElem_cons_zero, List.getElem_cons_succ]; go_simp; try rfl
        simp only [Act.put, List.getElem_toArray, List.getElem_cons_zero, List.getElem_cons_succ, List.setIfInBounds_toArray, List.set_cons_zero, List.set_cons_succ]
        refine z_take 9 (v := ?_) rfl (by kernel_rfl) (by kernel_rfl) (by kernel_rfl) (by kernel_rfl) (fun _ _ _ h => h) hHeld (by rfl) (fun w hSw => ?_) ?_
        rotate_left
        · have hSw1 := hSw; clear hSw; simp only [List.getElem_toArray, List.getElem_cons_zero, List.getElem_cons_succ]; go_simp; try rfl
        simp only [Act.put, List.getElem_toArray, List.getElem_cons_zero, List.getElem_cons_succ, List.setIfInBounds_toArray, List.set_cons_zero, List.set_cons_succ]
        refine z_take 10 (v := ?_) rfl (by kernel_rfl) (by kernel_rfl) (by kernel_rfl) (by kernel_rfl) (fun _ _ _ h => h) hHeld (by rfl) (fun w hSw => ?_) ?_
        rotate_left
        · have hSw1 := hSw; clear hSw; simp only [List.getElem_toArray, List.getElem_cons_zero, List.getElem_cons_succ]; go_simp; try rfl
        simp only [Act.put, List.getElem_toArray, List.getElem_cons_zero, List.getElem_cons_succ, List.setIfInBounds_toArray, List.set_cons_zero, List.set_cons_succ]
        refine z_one 6 rfl (by kernel_rfl) (by rfl) (fun K hK => ?_)
        simp only [List.getElem_toArray, List.getElem_cons_zero, List.getElem_cons_succ]
        go_simp
        refine (seal_any key saa na caa la so nt co lt v1 HU.out Sa.out (by omega) ST.out (by omega)).mono ?_
        rw [HQ.out]
        rintro e v2 ⟨sv, cv, rfl, hown, hk⟩
        have SV := Lib.hid (Sl.of_own hown)
        replace HK := Lib.hid (HK.out.quiet hk)
        replace Sa := Lib.hid (Sa.out.quiet hk)
        replace SX := Lib.hid (SX.out.quiet hk)
        replace ST := Lib.hid (ST.out.quiet hk)
        replace HR := Lib.hid (HR.out.quiet hk)
        refine hK _ _ (Or.inr ?_) (fun hHeld => ?_)
        · exact cell_keep hk hHeld
        clear hK K hk hown
        replace hHeld := hHeld.resolve_left (by decide)
        try simp only [Act.put, List.setIfInBounds_toArray, List.set_cons_zero, List.set_cons_succ]
        refine z_one 11 rfl (by kernel_rfl) (by rfl) (fun K hK => ?_)
        simp only [List.getElem_toArray, List.getElem_cons_zero, List.getElem_cons_succ]
        go_simp
        refine (same_any sv sx (nt + 8) nx cv cx lx lx v2 SV.out SX.out).mono ?_
        rw [show decide (lx = lx) = true by simp]
        rintro e v3 ⟨rfl, hk⟩
        replace HK := Lib.hid (HK.out.quiet hk)
        replace Sa := Lib.hid (Sa.out.quiet hk)
        replace SX := Lib.hid (SX.out.quiet hk)
        replace ST := Lib.hid (ST.out.quiet hk)
        replace SV := Lib.hid (SV.out.quiet hk)
        replace HR := Lib.hid (HR.out.quiet hk)
        refine hK _ _ (Or.inr ?_) (fun hHeld => ?_)
        · exact cell_keep hk hHeld
        clear hK K hk
        replace hHeld := hHeld.resolve_left (by decide)
        try simp only [Act.put, List.setIfInBounds_toArray, List.set_cons_zero, List.set_cons_succ]
        refine z_one 12 rfl (by kernel_rfl) (by rfl) (fun K hK => ?_)
        simp only [List.getElem_toArray, List.getElem_cons_zero, List.getElem_cons_succ]
        go_simp
        refine hK _ _ (Or.inr ?_) (fun hHeld => ?_)
        · exact hHeld
        clear hK K
        replace hHeld := hHeld.resolve_left (by decide)
        try simp only [Act.put, List.setIfInBounds_toArray, List.set_cons_zero, List.set_cons_succ]
        refine z_one 13 rfl (by kernel_rfl) (by rfl) (fun K hK => ?_)
        simp only [List.getElem_toArray, List.getElem_cons_zero, List.getElem_cons_succ]
        go_simp
        refine hK _ _ (Or.inr ?_) (fun hHeld => ?_)
        · exact hHeld
        clear hK K
        replace hHeld := hHeld.resolve_left (by decide)
        try simp only [Act.put, List.setIfInBounds_toArray, List.set_cons_zero, List.set_cons_succ]
        refine z_done (by kernel_rfl) ?_ _
        clear hHeld
        go_wp2
        go_roundw
        case rel => exact ⟨j + 1, by omega, rfl, HR.out⟩
        case measure => simp [intOf]; omega
    · have t1 : ¬ (j : Int) < 2 := by omega
      clear HG hkp
      go_wp2_with fail
      refine (lives_any wr).mono ?_
      rintro e w31 ⟨rfl, hk⟩
      replace HK := Lib.hid (HK.out.quiet hk)
      clear hk
      go_wp2
      go_ret
      exact ⟨rfl, HK.out⟩
end Go.Proofs.Ytnnhndnckpnkmaa
