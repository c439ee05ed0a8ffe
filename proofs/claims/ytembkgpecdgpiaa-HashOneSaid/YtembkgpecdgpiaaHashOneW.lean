/-
  The law HashOne: the walk. Conditions: the arguments are what came in.
-/
import Derived.Test.YtembkgpecdgpiaaLives02
import Derived.Test.YtembkgpecdgpiaaShort
import Derived.Test.YtembkgpecdgpiaaNums
import Derived.Test.YtembkgpecdgpiaaAround
import Derived.Test.YtembkgpecdgpiaaHashOnto
import Derived.Test.YtembkgpecdgpiaaRegion
import Derived.Test.YtembkgpecdgpiaaOpen
namespace Go.Proofs.Ytembkgpecdgpiaa
open Go.RowKit

set_option maxHeartbeats 1000000 in
set_option maxRecDepth 10000 in
theorem hashOne_walk (s : ByteArray) (sa : Option Addr) (n cap : Nat) (l : List Nat) (at_ : Int) (other : Nat) (w : World) (hl : Sl w sa n cap (NV l)) (hu : ∀ x ∈ l, U64 x) (h1 : -9223372036854775808 ≤ at_) (h2 : at_ ≤ 9223372036854775807) (ho : U64 other) :
    Calls Try.prog 5 #[.string s, .slice sa n cap, .int .i64 at_, .int .u64 other] w fun e w' => e = .returned (.bool true) ∧ Keeps (fun _ => False) w w' := by
  have Sx := Lib.hid hl
  have HU := Lib.hid (And.intro hu (And.intro h1 (And.intro h2 ho)))
  clear hl hu h1 h2 ho
  go_enter Try.func5, Try.ntmps5
  have HK := Lib.hid (Keeps.refl (fun _ => False) w)
  go_wp2_with fail
  refine (short_any s 20 w).mono ?_
  rintro e _ ⟨rfl, rfl⟩
  have hsz := shortOf_size s 20
  generalize shortOf s 20 = t at *
  go_wp2_with fail
  refine (nums_any sa n cap 5 l w Sx.out (by omega)).mono ?_
  rintro e w1 ⟨saa, caa, rfl, hown, hk⟩
  replace HK := Lib.hid (HK.out.quiet hk)
  replace Sx := Lib.hid (Sx.out.quiet hk)
  have Oa := Lib.hid hown
  clear hown hk
  have HU2 : Hid (∀ x ∈ l.take 5, U64 x) := fun x hx => HU.out.1 x (List.mem_of_mem_take hx)
  have hna : (l.take 5).length ≤ 5 := by rw [List.length_take]; omega
  generalize l.take 5 = la at *
  obtain ⟨na, hlna⟩ : ∃ na, la.length = na := ⟨_, rfl⟩
  rw [hlna] at hna Oa ⊢
  have HLA := Lib.hid hlna
  have hszw := HK.out.size
  clear hlna
  go_wp2_with (at_builtin; refine wpList_pushN _ 7 rfl _ _ rfl w.heap.size saa na caa (NV la) rfl Oa.out rfl (by omega) hszw ?_; intro sab cab wb hownb hkb hsb; have HB := Lib.hid (And.intro hownb (HK.out.pushed Oa.out (Nat.le_refl _) hkb)); clear hownb hkb hsb)
  obtain ⟨ns, hns⟩ : ∃ ns, la ++ [7] = ns := ⟨_, rfl⟩
  have hnl : ns.length = na + 1 := by rw [← hns, List.length_append, HLA.out]; rfl
  have Ob : Hid (wb.ownsRow w.heap.size 25 1 (.slice sab (na + 1) cab) (na + 1) (NV ns)) := by rw [← hns, NV_append]; exact HB.out.1
  have HU3 : Hid (∀ x ∈ ns, U64 x) := fun x hx => by
    rw [← hns] at hx
    rcases List.mem_append.1 hx with h | h
    · exact HU2.out x h
    · simp at h; unfold U64; omega
  obtain ⟨gn, rfl⟩ : ∃ gn, sab = some ⟨gn, 0, none⟩ := by
    rcases own_addr Ob.out with ⟨_, h, _⟩ | h
    · omega
    · exact h
  replace HK := Lib.hid HB.out.2
  have HWB := Lib.hid HK.out.size
  have Sb := Lib.hid (Sl.of_own Ob.out)
  have hgn := (own_lt Ob.out rfl).2
  have HNL := Lib.hid hnl
  clear HB hns hnl Oa
  go_wp2_with fail
  refine (nums_any (some ⟨gn, 0, none⟩) (na + 1) cab 6 ns wb Sb.out (by omega)).mono ?_
  rintro e w2 ⟨sac, cac, rfl, hown, hk⟩
  replace HK := Lib.hid (HK.out.quiet hk)
  replace Sb := Lib.hid (Sb.out.quiet hk)
  have Oc := Lib.hid hown
  clear hown hk
  rw [show ns.take 6 = ns from List.take_of_length_le (by rw [HNL.out]; omega), HNL.out] at Oc
  rw [show ns.take 6 = ns from List.take_of_length_le (by rw [HNL.out]; omega), HNL.out]
  obtain ⟨gm, rfl⟩ : ∃ gm, sac = some ⟨gm, 0, none⟩ := by
    rcases own_addr Oc.out with ⟨_, h, _⟩ | h
    · omega
    · exact h
  have hgm := (own_lt Oc.out rfl).1
  skip
  obtain ⟨k, hk6, _, hc1⟩ := around_nat at_ (na + 1) w2 HU.out.2.1 HU.out.2.2.1 (by omega) (by omega)
  have HC := Lib.hid hc1
  clear hc1
  go_wp2_with fail
  refine (HC.out).mono ?_
  rintro e _ ⟨rfl, rfl⟩
  obtain ⟨x, hx⟩ : ∃ x, ns[k]? = some x := ⟨_, List.getElem?_eq_getElem (by have := HNL.out; omega)⟩
  have hcm : w2.cell? ⟨gm, k, none⟩ = some (.int .u64 (x : Int)) := own_cell Oc.out k _ (by rw [NV_get, hx]; rfl)
  have hfm := own_free Oc.out k
  have t0 : (0 : Int) ≤ (k : Int) := by omega
  have t1 : (k : Int) < (na : Int) + 1 := by omega
  have t2 : (k : Int) < ((na + 1 : Nat) : Int) := by omega
  have OD : Hid ((w2.setCell ⟨gm, k, none⟩ (.int .u64 (other : Int))).ownsRow wb.heap.size 25 1 (.slice (some ⟨gm, 0, none⟩) (na + 1) cac) (na + 1) (NV (ns.set k other))) := by rw [← NV_set]; exact own_set Oc.out k _
  have hkset : Keeps (fun j => j = gm) w2 (w2.setCell ⟨gm, k, none⟩ (.int .u64 (other : Int))) := (Keeps.refl (fun j => j = gm) _).setCell (p := ⟨gm, k, none⟩) (fun _ => rfl) _
  have SB2 := Lib.hid (Sb.out.keep hkset (fun ad e _ _ h => by cases e; simp only at h; omega))
  have HK2 : Hid (Keeps (fun _ => False) w (w2.setCell ⟨gm, k, none⟩ (.int .u64 (other : Int)))) := HK.out.trans hkset (fun j hj h => by have := HWB.out; omega)
  have HX := Lib.hid hx
  clear hkset hx
  obtain ⟨x1, hx1⟩ : ∃ x1, hof t.data.toList ns = x1 := ⟨_, rfl⟩
  obtain ⟨x2, hx2⟩ : ∃ x2, hof t.data.toList (ns.set k other) = x2 := ⟨_, rfl⟩
  have hone := hof_set t.data.toList ns k x other HX.out
  rw [hx1, hx2] at hone
  obtain ⟨b, hb⟩ : ∃ b : Bool, decide (x1 = x2) = b := ⟨_, rfl⟩
  have e1 : ((x1 : Int) == (x2 : Int)) = b := by rw [← hb, Bool.eq_iff_iff]; simp; omega
  have e2 : ((num x : Int) == (num other : Int)) = b := by rw [← hb, Bool.eq_iff_iff]; simp; rw [hone]; omega
  have r1 : (x : Int).tmod 2305843009213693951 = (num x : Int) := by unfold num; rw [Int.tmod_eq_emod_of_nonneg (by omega)]; omega
  have r2 : (other : Int).tmod 2305843009213693951 = (num other : Int) := by unfold num; rw [Int.tmod_eq_emod_of_nonneg (by omega)]; omega
  have r3 : (x : Int) % 2305843009213693951 = (num x : Int) := by unfold num; omega
  have r4 : (other : Int) % 2305843009213693951 = (num other : Int) := by unfold num; omega
  have HE := Lib.hid (And.intro hx1 hx2)
  clear hone hb hx1 hx2
  generalize num x = nx at *
  generalize num other = no at *
  go_wp2_with fail
  clear hcm hfm
  generalize hW : w2.setCell ⟨gm, k, none⟩ (.int .u64 (other : Int)) = W at *
  have hcn : W.cell? ⟨gn, k, none⟩ = some (.int .u64 (x : Int)) := by have := SB2.out.cell (j := k) (u := .int .u64 (x : Int)) (by rw [NV_get, HX.out]; rfl); rwa [Nat.zero_add] at this
  clear hW
  refine z_begin (fun w' => w'.cell? ⟨gn, k, none⟩ = some (.int .u64 (x : Int))) 20 (by kernel_rfl) (hcn) (fun hHeld => ?_)
  refine z_take 0 (v := ?_) rfl (by kernel_rfl) (by kernel_rfl) (by kernel_rfl) (by kernel_rfl) (fun _ _ _ h => h) hHeld (by rfl) (fun w hSw => ?_) ?_
  rotate_left
  · have hSw1 := hSw; clear hSw; simp only [List.getElem_toArray, List.getElem_cons_zero]; go_simp; try rfl
  simp only [Act.put, List.getElem_toArray, List.getElem_cons_zero, List.setIfInBounds_toArray, List.set_cons_zero, List.set_cons_succ]
  refine z_take 1 (v := ?_) rfl (by kernel_rfl) (by kernel_rfl) (by kernel_rfl) (by kernel_rfl) (fun _ _ _ h => h) hHeld (by rfl) (fun w hSw => ?_) ?_
  rotate_left
  · have hSw1 := hSw; clear hSw; simp only [List.getElem_toArray, List.getElem_cons_zero, List.getElem_cons_succ]; go_simp; try rfl
  simp only [Act.put, List.getElem_toArray, List.getElem_cons_zero, List.getElem_cons_succ, List.setIfInBounds_toArray, List.set_cons_zero, List.set_cons_succ]
  refine z_take 3 (v := ?_) rfl (by kernel_rfl) (by kernel_rfl) (by kernel_rfl) (by kernel_rfl) (fun _ _ _ h => h) hHeld (by rfl) (fun w hSw => ?_) ?_
  rotate_left
  · have hSw1 := hSw; clear hSw; simp only [List.getElem_toArray, List.getElem_cons_zero, List.getElem_cons_succ]; go_simp; try rfl
  simp only [Act.put, List.getElem_toArray, List.getElem_cons_zero, List.getElem_cons_succ, List.setIfInBounds_toArray, List.set_cons_zero, List.set_cons_succ]
  refine z_take 4 (v := ?_) rfl (by kernel_rfl) (by kernel_rfl) (by kernel_rfl) (by kernel_rfl) (fun _ _ _ h => h) hHeld (by rfl) (fun w hSw => ?_) ?_
  rotate_left
  · have hSw1 := hSw; clear hSw; simp only [List.getElem_toArray, List.getElem_cons_zero, List.getElem_cons_succ]; go_simp; try rfl
  simp only [Act.put, List.getElem_toArray, List.getElem_cons_zero, List.getElem_cons_succ, List.setIfInBounds_toArray, List.set_cons_zero, List.set_cons_succ]
  refine z_take 7 (v := ?_) rfl (by kernel_rfl) (by kernel_rfl) (by kernel_rfl) (by kernel_rfl) (fun _ _ _ h => h) hHeld (by rfl) (fun w hSw => ?_) ?_
  rotate_left
  · have hSw1 := hSw; clear hSw; simp only [List.getElem_toArray, List.getElem_cons_zero, List.getElem_cons_succ]; go_simp; try rfl
  simp only [Act.put, List.getElem_toArray, List.getElem_cons_zero, List.getElem_cons_succ, List.setIfInBounds_toArray, List.set_cons_zero, List.set_cons_succ]
  refine z_take 8 (v := ?_) rfl (by kernel_rfl) (by kernel_rfl) (by kernel_rfl) (by kernel_rfl) (fun _ _ _ h => h) hHeld (by rfl) (fun w hSw => ?_) ?_
  rotate_left
  · have hSw1 := hSw; clear hSw; simp only [List.getElem_toArray, List.getElem_cons_zero, List.getElem_cons_succ]; go_simp; try rfl
  simp only [Act.put, List.getElem_toArray, List.getElem_cons_zero, List.getElem_cons_succ, List.setIfInBounds_toArray, List.set_cons_zero, List.set_cons_succ]
  refine z_take 9 (v := ?_) rfl (by kernel_rfl) (by kernel_rfl) (by kernel_rfl) (by kernel_rfl) (fun _ _ _ h => h) hHeld (by rfl) (fun w hSw => ?_) ?_
  rotate_left
  · have hSw1 := hSw; clear hSw; simp only [List.getElem_toArray, List.getElem_cons_zero, List.getElem_cons_succ]; go_simp; try rfl
  simp only [Act.put, List.getElem_toArray, List.getElem_cons_zero, List.getElem_cons_succ, List.setIfInBounds_toArray, List.set_cons_zero, List.set_cons_succ]
  refine z_take 10 (v := ?_) rfl (by kernel_rfl) (by kernel_rfl) (by kernel_rfl) (by kernel_rfl) (fun _ _ _ h => h) hHeld (by rfl) (fun w hSw => ?_) ?_
  rotate_left
  · have hSw1 := hSw; clear hSw; simp only [List.getElem_toArray, List.getElem_cons_zero, List.getElem_cons_succ]; go_simp; try rfl
  simp only [Act.put, List.getElem_toArray, List.getElem_cons_zero, List.getElem_cons_succ, List.setIfInBounds_toArray, List.set_cons_zero, List.set_cons_succ]
  refine z_take 11 (v := ?_) rfl (by kernel_rfl) (by kernel_rfl) (by kernel_rfl) (by kernel_rfl) (fun _ _ _ h => h) hHeld (by rfl) (fun w hSw => ?_) ?_
  rotate_left
  · have hSw1 := hSw; clear hSw; simp only [List.getElem_toArray, List.getElem_cons_zero, List.getElem_cons_succ]; go_simp; try rfl
  simp only [Act.put, List.getElem_toArray, List.getElem_cons_zero, List.getElem_cons_succ, List.setIfInBounds_toArray, List.set_cons_zero, List.set_cons_succ]
  refine z_take 12 (v := ?_) rfl (by kernel_rfl) (by kernel_rfl) (by kernel_rfl) (by kernel_rfl) (fun _ _ _ h => h) hHeld (by rfl) (fun w hSw => ?_) ?_
  rotate_left
  · have hSw1 := hSw; clear hSw; simp only [List.getElem_toArray, List.getElem_cons_zero, List.getElem_cons_succ]; go_simp; try rfl
  simp only [Act.put, List.getElem_toArray, List.getElem_cons_zero, List.getElem_cons_succ, List.setIfInBounds_toArray, List.set_cons_zero, List.set_cons_succ]
  refine z_take 13 (v := ?_) rfl (by kernel_rfl) (by kernel_rfl) (by kernel_rfl) (by kernel_rfl) (fun _ _ _ h => h) hHeld (by rfl) (fun w hSw => ?_) ?_
  rotate_left
  · have hSw1 := hSw; clear hSw; simp only [List.getElem_toArray, List.getElem_cons_zero, List.getElem_cons_succ]; go_simp; try rfl
  simp only [Act.put, List.getElem_toArray, List.getElem_cons_zero, List.getElem_cons_succ, List.setIfInBounds_toArray, List.set_cons_zero, List.set_cons_succ]
  refine z_take 14 (v := ?_) rfl (by kernel_rfl) (by kernel_rfl) (by kernel_rfl) (by kernel_rfl) (fun _ _ _ h => h) hHeld (by rfl) (fun w hSw => ?_) ?_
  rotate_left
  · have hSw1 := hSw; clear hSw; simp only [List.getElem_toArray, List.getElem_cons_zero, List.getElem_cons_succ]; go_simp; try rfl
  simp only [Act.put, List.getElem_toArray, List.getElem_cons_zero, List.getElem_cons_succ, List.setIfInBounds_toArray, List.set_cons_zero, List.set_cons_succ]
  have SD := Lib.hid ((Sl.of_own OD.out).quiet (Keeps.refl _ W).drew)
  replace SB2 := Lib.hid (SB2.out.quiet (Keeps.refl _ W).drew)
  replace HK2 := Lib.hid (HK2.out.drew)
  clear OD
  refine z_one 2 rfl (by kernel_rfl) (by rfl) (fun K hK => ?_)
  simp only [List.getElem_toArray, List.getElem_cons_zero, List.getElem_cons_succ]
  go_simp
  refine (of_any t (some ⟨gn, 0, none⟩) (na + 1) cab ns _ (by omega) (by omega) SB2.out HU3.out).mono ?_
  rw [HE.out.1]
  rintro e wx1 ⟨rfl, hk⟩
  replace HK2 := Lib.hid (HK2.out.quiet hk)
  replace SB2 := Lib.hid (SB2.out.quiet hk)
  replace SD := Lib.hid (SD.out.quiet hk)
  refine hK _ _ (Or.inr ?_) (fun hHeld => ?_)
  · exact (hk.cell (World.block_lt_of_cell? _ _ hHeld) (fun h => h)).trans hHeld
  clear hK K hk
  replace hHeld := hHeld.resolve_left (by decide)
  try simp only [Act.put, List.setIfInBounds_toArray, List.set_cons_zero, List.set_cons_succ]
  refine z_one 5 rfl (by kernel_rfl) (by rfl) (fun K hK => ?_)
  simp only [List.getElem_toArray, List.getElem_cons_zero, List.getElem_cons_succ]
  go_simp
  refine (of_any t (some ⟨gm, 0, none⟩) (na + 1) cac (ns.set k other) _ (by omega) (by omega) SD.out (fun y hy => (List.mem_or_eq_of_mem_set hy).elim (HU3.out y) (fun e => e ▸ HU.out.2.2.2))).mono ?_
  rw [HE.out.2]
  rintro e wx2 ⟨rfl, hk⟩
  replace HK2 := Lib.hid (HK2.out.quiet hk)
  replace SB2 := Lib.hid (SB2.out.quiet hk)
  replace SD := Lib.hid (SD.out.quiet hk)
  refine hK _ _ (Or.inr ?_) (fun hHeld => ?_)
  · exact (hk.cell (World.block_lt_of_cell? _ _ hHeld) (fun h => h)).trans hHeld
  clear hK K hk
  replace hHeld := hHeld.resolve_left (by decide)
  try simp only [Act.put, List.setIfInBounds_toArray, List.set_cons_zero, List.set_cons_succ]
  refine z_one 6 rfl (by kernel_rfl) (by rfl) (fun K hK => ?_)
  simp only [List.getElem_toArray, List.getElem_cons_zero, List.getElem_cons_succ]
  go_simp
  refine hK _ _ (Or.inr ?_) (fun hHeld => ?_)
  · exact hHeld
  clear hK K
  replace hHeld := hHeld.resolve_left (by decide)
  try simp only [Act.put, List.setIfInBounds_toArray, List.set_cons_zero, List.set_cons_succ]
  refine z_one 15 rfl (by kernel_rfl) (by rfl) (fun K hK => ?_)
  simp only [List.getElem_toArray, List.getElem_cons_zero, List.getElem_cons_succ]
  go_simp
  refine hK _ _ (Or.inr ?_) (fun hHeld => ?_)
  · exact hHeld
  clear hK K
  replace hHeld := hHeld.resolve_left (by decide)
  try simp only [Act.put, List.setIfInBounds_toArray, List.set_cons_zero, List.set_cons_succ]
  refine z_one 16 rfl (by kernel_rfl) (by rfl) (fun K hK => ?_)
  simp only [List.getElem_toArray, List.getElem_cons_zero, List.getElem_cons_succ]
  go_simp
  refine hK _ _ (Or.inr ?_) (fun hHeld => ?_)
  · exact hHeld
  clear hK K
  replace hHeld := hHeld.resolve_left (by decide)
  try simp only [Act.put, List.setIfInBounds_toArray, List.set_cons_zero, List.set_cons_succ]
  refine z_one 17 rfl (by kernel_rfl) (by rfl) (fun K hK => ?_)
  simp only [List.getElem_toArray, List.getElem_cons_zero, List.getElem_cons_succ]
  go_simp
  refine (lives_any _).mono ?_
  rintro e wx3 ⟨rfl, hk⟩
  replace HK2 := Lib.hid (HK2.out.quiet hk)
  replace SB2 := Lib.hid (SB2.out.quiet hk)
  replace SD := Lib.hid (SD.out.quiet hk)
  refine hK _ _ (Or.inr ?_) (fun hHeld => ?_)
  · exact (hk.cell (World.block_lt_of_cell? _ _ hHeld) (fun h => h)).trans hHeld
  clear hK K hk
  replace hHeld := hHeld.resolve_left (by decide)
  try simp only [Act.put, List.setIfInBounds_toArray, List.set_cons_zero, List.set_cons_succ]
  refine z_one 18 rfl (by kernel_rfl) (by rfl) (fun K hK => ?_)
  simp only [List.getElem_toArray, List.getElem_cons_zero, List.getElem_cons_succ]
  go_simp
  refine hK _ _ (Or.inr ?_) (fun hHeld => ?_)
  · exact hHeld
  clear hK K
  replace hHeld := hHeld.resolve_left (by decide)
  try simp only [Act.put, List.setIfInBounds_toArray, List.set_cons_zero, List.set_cons_succ]
  refine z_one 19 rfl (by kernel_rfl) (by rfl) (fun K hK => ?_)
  simp only [List.getElem_toArray, List.getElem_cons_zero, List.getElem_cons_succ]
  go_simp
  refine hK _ _ (Or.inr ?_) (fun hHeld => ?_)
  · exact hHeld
  clear hK K
  replace hHeld := hHeld.resolve_left (by decide)
  try simp only [Act.put, List.setIfInBounds_toArray, List.set_cons_zero, List.set_cons_succ]
  refine z_done (by kernel_rfl) ?_ _
  go_wp2
  go_ret
  exact ⟨rfl, HK2.out⟩
end Go.Proofs.Ytembkgpecdgpiaa
