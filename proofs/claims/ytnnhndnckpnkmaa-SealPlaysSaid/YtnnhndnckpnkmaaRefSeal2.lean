/-
  Sealing, as the document has it: Seal and Open. Conditions: fewer than 10^6 bytes; the key is below 2^64.
-/
import Derived.Test.YtnnhndnckpnkmaaRefSeal1
namespace Go.Proofs.Ytnnhndnckpnkmaa
open Go.RowKit

set_option maxHeartbeats 1000000 in
theorem refSeal_any (key : Nat) (sa : Option Addr) (n cap : Nat) (l : List UInt8) (sb : Option Addr) (m cb : Nat) (lb : List UInt8) (w : World) (hk : U64 key) (hl : Sl w sa n cap (BV l)) (hn : n ≤ 1000000) (hlb : Sl w sb m cb (BV lb)) (hm : m ≤ 900000) :
    Calls Try.prog 14 #[.int .u64 key, .slice sa n cap, .slice sb m cb] w fun e w' => ∃ sa' cap', e = .returned (.slice sa' (m + 8) cap') ∧ w'.ownsRow w.heap.size 5 1 (.slice sa' (m + 8) cap') (m + 8) (BV (sealS key l lb)) ∧ Keeps (fun _ => False) w w' := by
  have Sx := Lib.hid hl
  have Sy := Lib.hid hlb
  have HU := Lib.hid hk
  clear hl hlb hk
  go_enter Try.func14, Try.ntmps14
  go_wp2_with fail
  refine (refXor_any key sb m cb lb w HU.out Sy.out (by omega)).mono ?_
  rintro e w1 ⟨s1, c1, rfl, hown, hk1⟩
  have O1 := Lib.hid hown
  have HK := Lib.hid hk1
  replace Sx := Lib.hid (Sx.out.quiet hk1)
  clear hown hk1 Sy
  go_wp2_with fail
  refine (refTag_any key sa n cap l s1 m c1 (xorS key lb) w1 HU.out Sx.out hn (Sl.of_own O1.out) (by omega)).mono ?_
  rintro e w2 ⟨s2, c2, rfl, hown2, hk2⟩
  replace O1 := Lib.hid (own_keep O1.out hk2 (fun _ _ h => h))
  have hsz := Nat.le_trans HK.out.size hk2.size
  replace HK := Lib.hid (HK.out.quiet hk2)
  have S2 := Lib.hid (Sl.of_own hown2)
  clear hown2 hk2
  go_wp2_with (at_builtin; refine wpList_appB rfl _ _ rfl w.heap.size s1 m c1 (BV (xorS key lb)) rfl O1.out s2 8 c2 (tagB (tagN key l (xorS key lb))) rfl S2.out (by omega) hsz ?_; intro sa3 cap3 w3 hown3 hk3; have H3 := Lib.hid (And.intro hown3 hk3); clear hown3 hk3)
  go_ret
  refine ⟨sa3, cap3, by simp, ?_, ?_⟩
  · have := H3.out.1
    rw [← BV_append] at this
    exact this
  · exact HK.out.pushed O1.out (Nat.le_refl _) H3.out.2

set_option maxHeartbeats 1000000 in
set_option maxRecDepth 10000 in
theorem refOpen_any (key : Nat) (sa : Option Addr) (n cap : Nat) (l : List UInt8) (sb : Option Addr) (m cb : Nat) (lb : List UInt8) (w : World) (hk : U64 key) (hl : Sl w sa n cap (BV l)) (hn : n ≤ 1000000) (hlb : Sl w sb m cb (BV lb)) (hm : m ≤ 1000000) :
    Calls Try.prog 17 #[.int .u64 key, .slice sa n cap, .slice sb m cb] w fun e w' => ∃ so co, e = .returned (.tuple #[.slice so (openS key l lb).1.length co, .int .i64 (openS key l lb).2]) ∧ w'.ownsRow w.heap.size 5 1 (.slice so (openS key l lb).1.length co) (openS key l lb).1.length (BV (openS key l lb).1) ∧ Keeps (fun _ => False) w w' := by
  have hlbl : lb.length = m := by have := hlb.len; simpa using this
  have hmc := hlb.le
  have hcb := hlb.capB
  by_cases h8 : m < 8
  · have hO : openS key l lb = ([], 9) := by unfold openS; rw [hlbl, if_pos h8]
    have HO := Lib.hid hO
    have t1 : (m : Int) < 8 := by omega
    clear hO hl hlb hk hlbl
    go_enter Try.func17, Try.ntmps17
    go_wp2
    go_ret2
    rw [HO.out]
    exact ⟨none, 0, rfl, World.ownsRow_nil _ _ _ _, Keeps.refl _ _⟩
  · obtain ⟨q, hq⟩ : ∃ q, m - 8 = q := ⟨_, rfl⟩
    have hO : openS key l lb = if tagB (tagN key l (lb.take q)) ≠ lb.drop q then ([], 21) else (xorS key (lb.take q), 0) := by unfold openS; rw [hlbl, if_neg h8, hq]
    obtain ⟨bb, ob, rfl⟩ := hlb.isSome (by omega)
    have e0 : (m : Int) - 8 = (q : Int) := by omega
    have t1 : ¬ (m : Int) < 8 := by omega
    have i0 : (0 : Int) ≤ (q : Int) := by omega
    have i1 : (q : Int) ≤ (m : Int) := by omega
    have i2 : (q : Int) ≤ (cb : Int) := by omega
    have i3 : (m : Int) ≤ (cb : Int) := by omega
    have hcq : ¬ cb = q := by omega
    have hmq : m - q = 8 := by omega
    have Sx := Lib.hid hl
    have Sy := Lib.hid hlb
    have HU := Lib.hid (And.intro hk (And.intro hlbl hO))
    have hqm : q ≤ m := by omega
    have HQ := Lib.hid hq
    clear hl hlb hk hlbl hO hq
    go_enter Try.func17, Try.ntmps17
    go_wp2_with fail
    refine z_begin (fun w' => Sl w' (some ⟨bb, ob, none⟩) m cb (BV lb)) 11 (by kernel_rfl) (Sy.out.quiet (Keeps.refl _ w).drew) (fun hHeld => ?_)
    have HK : Hid (Keeps (fun _ => False) w w.drew) := (Keeps.refl _ w).drew
    replace Sx := Lib.hid (Sx.out.quiet HK.out)
    clear Sy
    generalize w.drew = w1 at *
    refine z_take 0 (v := ?_) rfl (by kernel_rfl) (by kernel_rfl) (by kernel_rfl) (by kernel_rfl) (fun _ _ _ h => h) hHeld (by rfl) (fun w hSw => ?_) ?_
    rotate_left
    · clear hSw; simp only [List.getElem_toArray, List.getElem_cons_zero]; go_simp; try rfl
    simp only [Act.put, List.getElem_toArray, List.getElem_cons_zero, List.setIfInBounds_toArray, List.set_cons_zero, List.set_cons_succ]
    refine z_take 1 (v := ?_) rfl (by kernel_rfl) (by kernel_rfl) (by kernel_rfl) (by kernel_rfl) (fun _ _ _ h => h) hHeld (by rfl) (fun w hSw => ?_) ?_
    rotate_left
    · clear hSw; simp only [List.getElem_toArray, List.getElem_cons_zero, List.getElem_cons_succ]; go_simp; try rfl
    simp only [Act.put, List.getElem_toArray, List.getElem_cons_zero, List.getElem_cons_succ, List.setIfInBounds_toArray, List.set_cons_zero, List.set_cons_succ]
    refine z_take 2 (v := ?_) rfl (by kernel_rfl) (by kernel_rfl) (by kernel_rfl) (by kernel_rfl) (fun _ _ _ h => h) hHeld (by rfl) (fun w hSw => ?_) ?_
    rotate_left
    · clear hSw; simp only [List.getElem_toArray, List.getElem_cons_zero, List.getElem_cons_succ]; go_simp; try rfl
    simp only [Act.put, List.getElem_toArray, List.getElem_cons_zero, List.getElem_cons_succ, List.setIfInBounds_toArray, List.set_cons_zero, List.set_cons_succ]
    refine z_take 3 (v := ?_) rfl (by kernel_rfl) (by kernel_rfl) (by kernel_rfl) (by kernel_rfl) (fun _ _ _ h => h) hHeld (by rfl) (fun w hSw => ?_) ?_
    rotate_left
    · clear hSw; simp only [List.getElem_toArray, List.getElem_cons_zero, List.getElem_cons_succ]; go_simp; try rfl
    simp only [Act.put, List.getElem_toArray, List.getElem_cons_zero, List.getElem_cons_succ, List.setIfInBounds_toArray, List.set_cons_zero, List.set_cons_succ]
    refine z_take 4 (v := ?_) rfl (by kernel_rfl) (by kernel_rfl) (by kernel_rfl) (by kernel_rfl) (fun _ _ _ h => h) hHeld (by rfl) (fun w hSw => ?_) ?_
    rotate_left
    · clear hSw; simp only [List.getElem_toArray, List.getElem_cons_zero, List.getElem_cons_succ]; go_simp; try rfl
    simp only [Act.put, List.getElem_toArray, List.getElem_cons_zero, List.getElem_cons_succ, List.setIfInBounds_toArray, List.set_cons_zero, List.set_cons_succ]
    refine z_take 6 (v := ?_) rfl (by kernel_rfl) (by kernel_rfl) (by kernel_rfl) (by kernel_rfl) (fun _ _ _ h => h) hHeld (by rfl) (fun w hSw => ?_) ?_
    rotate_left
    · clear hSw; simp only [List.getElem_toArray, List.getElem_cons_zero, List.getElem_cons_succ]; go_simp; try rfl
    simp only [Act.put, List.getElem_toArray, List.getElem_cons_zero, List.getElem_cons_succ, List.setIfInBounds_toArray, List.set_cons_zero, List.set_cons_succ]
    refine z_take 7 (v := ?_) rfl (by kernel_rfl) (by kernel_rfl) (by kernel_rfl) (by kernel_rfl) (fun _ _ _ h => h) hHeld (by rfl) (fun w hSw => ?_) ?_
    rotate_left
    · clear hSw; simp only [List.getElem_toArray, List.getElem_cons_zero, List.getElem_cons_succ]; go_simp; try rfl
    simp only [Act.put, List.getElem_toArray, List.getElem_cons_zero, List.getElem_cons_succ, List.setIfInBounds_toArray, List.set_cons_zero, List.set_cons_succ]
    refine z_take 8 (v := ?_) rfl (by kernel_rfl) (by kernel_rfl) (by kernel_rfl) (by kernel_rfl) (fun _ _ _ h => h) hHeld (by rfl) (fun w hSw => ?_) ?_
    rotate_left
    · clear hSw; simp only [List.getElem_toArray, List.getElem_cons_zero, List.getElem_cons_succ]; go_simp; try rfl
    simp only [Act.put, List.getElem_toArray, List.getElem_cons_zero, List.getElem_cons_succ, List.setIfInBounds_toArray, List.set_cons_zero, List.set_cons_succ]
    refine z_one 5 rfl (by kernel_rfl) (by rfl) (fun K hK => ?_)
    simp only [List.getElem_toArray, List.getElem_cons_zero, List.getElem_cons_succ]
    go_simp
    refine (refTag_any key sa n cap l (some ⟨bb, ob, none⟩) q cb (lb.take q) w1 HU.out.1 Sx.out hn (by rw [← BV_take]; exact hHeld.upto hqm) (by omega)).mono ?_
    rintro e w2 ⟨s2, c2, rfl, hown, hk⟩
    have S2 := Lib.hid (Sl.of_own hown)
    replace HK := Lib.hid (HK.out.quiet hk)
    refine hK _ _ (Or.inr ?_) (fun hHeld => ?_)
    · exact hHeld.quiet hk
    clear hK K hk hown
    replace hHeld := hHeld.resolve_left (by decide)
    try simp only [Act.put, List.setIfInBounds_toArray, List.set_cons_zero, List.set_cons_succ]
    refine z_one 9 rfl (by kernel_rfl) (by rfl) (fun K hK => ?_)
    simp only [List.getElem_toArray, List.getElem_cons_zero, List.getElem_cons_succ]
    go_simp
    refine (same_any s2 (some ⟨bb, ob + q, none⟩) 8 8 c2 (cb - q) (tagB (tagN key l (lb.take q))) (lb.drop q) w2 S2.out (by have h := hHeld.from_ hqm; rw [hmq, BV_drop] at h; exact h)).mono ?_
    rintro e w3 ⟨rfl, hk⟩
    replace HK := Lib.hid (HK.out.quiet hk)
    refine hK _ _ (Or.inr ?_) (fun hHeld => ?_)
    · exact hHeld.quiet hk
    clear hK K hk S2
    replace hHeld := hHeld.resolve_left (by decide)
    try simp only [Act.put, List.setIfInBounds_toArray, List.set_cons_zero, List.set_cons_succ]
    refine z_one 10 rfl (by kernel_rfl) (by rfl) (fun K hK => ?_)
    simp only [List.getElem_toArray, List.getElem_cons_zero, List.getElem_cons_succ]
    go_simp
    refine hK _ _ (Or.inr ?_) (fun hHeld => ?_)
    · exact hHeld
    clear hK K
    replace hHeld := hHeld.resolve_left (by decide)
    try simp only [Act.put, List.setIfInBounds_toArray, List.set_cons_zero, List.set_cons_succ]
    refine z_done (by kernel_rfl) ?_ _
    have Sy2 := Lib.hid hHeld
    clear hHeld
    by_cases hne : tagB (tagN key l (lb.take q)) = lb.drop q
    · have hx : openS key l lb = (xorS key (lb.take q), 0) := by rw [HU.out.2.2, if_neg (by simpa using hne)]
      have hxl : (xorS key (lb.take q)).length = q := by rw [xorS_length, List.length_take, HU.out.2.1]; omega
      have HX := Lib.hid (And.intro hx hxl)
      rw [show decide (tagB (tagN key l (lb.take q)) = lb.drop q) = true by simp [hne]]
      clear hne hx hxl
      go_wp2_with fail
      refine (refXor_any key (some ⟨bb, ob, none⟩) q cb (lb.take q) w3 HU.out.1 (by rw [← BV_take]; exact Sy2.out.upto hqm) (by omega)).mono ?_
      rintro e w4 ⟨s4, c4, rfl, hown, hk⟩
      have HF : Hid (w4.ownsRow w.heap.size 5 1 (.slice s4 q c4) q (BV (xorS key (lb.take q))) ∧ Keeps (fun _ => False) w w4) := ⟨own_base hown (fun k e => Nat.le_trans HK.out.size (hown.lt k e).1), HK.out.quiet hk⟩
      clear hown hk
      go_wp2
      go_ret2
      rw [HX.out.1]
      simp only [HX.out.2]
      exact ⟨_, _, rfl, HF.out.1, HF.out.2⟩
    · have hx : openS key l lb = ([], 21) := by rw [HU.out.2.2, if_pos hne]
      have HX := Lib.hid hx
      rw [show decide (tagB (tagN key l (lb.take q)) = lb.drop q) = false by simp [hne]]
      clear hne hx
      go_wp2
      go_ret2
      rw [HX.out]
      exact ⟨none, 0, rfl, World.ownsRow_nil _ _ _ _, HK.out⟩
end Go.Proofs.Ytnnhndnckpnkmaa
