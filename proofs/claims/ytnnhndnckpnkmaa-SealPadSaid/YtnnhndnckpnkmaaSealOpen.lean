/-
  Sealing: Open: what it tells. Conditions: fewer than 10^6 bytes; the key is below 2^64.
-/
import Derived.Test.YtnnhndnckpnkmaaSeal
import Derived.Test.YtnnhndnckpnkmaaRegion
namespace Go.Proofs.Ytnnhndnckpnkmaa
open Go.RowKit

theorem Sl.from_ {w : World} {b off n cap : Nat} {xs : List Value} (h : Sl w (some ⟨b, off, none⟩) n cap xs) {k : Nat} (hk : k ≤ n) : Sl w (some ⟨b, off + k, none⟩) (n - k) (cap - k) (xs.drop k) := by
  have hl := h.len
  have hle := h.le
  have hc := h.capB
  refine ⟨by rw [List.length_drop]; omega, by omega, by omega, (fun e => by cases e), (fun _ ad e => ⟨b, off + k, by cases e; rfl⟩), fun ad e j u hu => ?_⟩
  cases e
  rw [List.getElem?_drop] at hu
  have := h.lies _ rfl _ u hu
  rw [addr_add] at this ⊢
  rwa [Nat.add_assoc]
def openS (key : Nat) (along b : List UInt8) : List UInt8 × Int :=
  if b.length < 8 then ([], 9) else if tagB (tagN key along (b.take (b.length - 8))) ≠ b.drop (b.length - 8) then ([], 21) else (xorS key (b.take (b.length - 8)), 0)
theorem str_list (a : List UInt8) : (strOf a).toList = a := by rw [ByteArray.toList_eq, strOf_data]

set_option maxHeartbeats 1000000 in
set_option maxRecDepth 10000 in
theorem sopen_any (key : Nat) (sa : Option Addr) (n cap : Nat) (l : List UInt8) (sb : Option Addr) (m cb : Nat) (lb : List UInt8) (w : World) (hk : U64 key) (hl : Sl w sa n cap (BV l)) (hn : n ≤ 1000000) (hlb : Sl w sb m cb (BV lb)) (hm : m ≤ 1000000) :
    Calls Try.prog 16 #[.int .u64 key, .slice sa n cap, .slice sb m cb] w fun e w' => ∃ so co, e = .returned (.tuple #[.slice so (openS key l lb).1.length co, .int .i64 (openS key l lb).2]) ∧ w'.ownsRow w.heap.size 5 1 (.slice so (openS key l lb).1.length co) (openS key l lb).1.length (BV (openS key l lb).1) ∧ Keeps (fun _ => False) w w' := by
  have hlbl : lb.length = m := by have := hlb.len; simpa using this
  have hmc := hlb.le
  have hcb := hlb.capB
  by_cases h8 : m < 8
  · have hO : openS key l lb = ([], 9) := by unfold openS; rw [hlbl, if_pos h8]
    have HO := Lib.hid hO
    have t1 : (m : Int) - 8 < 0 := by omega
    clear hO hl hlb hk hlbl
    go_enter Try.func16, Try.ntmps16
    go_wp2
    go_ret2
    rw [HO.out]
    exact ⟨none, 0, rfl, World.ownsRow_nil _ _ _ _, Keeps.refl _ _⟩
  · obtain ⟨q, hq⟩ : ∃ q, m - 8 = q := ⟨_, rfl⟩
    have hO : openS key l lb = if tagB (tagN key l (lb.take q)) ≠ lb.drop q then ([], 21) else (xorS key (lb.take q), 0) := by unfold openS; rw [hlbl, if_neg h8, hq]
    obtain ⟨bb, ob, rfl⟩ := hlb.isSome (by omega)
    have e0 : (m : Int) - 8 = (q : Int) := by omega
    have t1 : ¬ (q : Int) < 0 := by omega
    have i0 : (0 : Int) ≤ (q : Int) := by omega
    have i1 : (q : Int) ≤ (m : Int) := by omega
    have i2 : (q : Int) ≤ (cb : Int) := by omega
    have i3 : (m : Int) ≤ (cb : Int) := by omega
    have hcq : ¬ cb = q := by omega
    have hmq : m - q = 8 := by omega
    have Sx := Lib.hid hl
    have Sy := Lib.hid hlb
    have HU := Lib.hid (And.intro hk (And.intro hlbl hO))
    have hqm : q ≤ m := by omega
    have HQ := Lib.hid hq
    clear hl hlb hk hlbl hO hq
    go_enter Try.func16, Try.ntmps16
    go_wp2_with fail
    refine z_begin (fun w' => Sl w' (some ⟨bb, ob, none⟩) m cb (BV lb)) 12 (by kernel_rfl) (Sy.out.quiet (Keeps.refl _ w).drew) (fun hHeld => ?_)
    have HK : Hid (Keeps (fun _ => False) w w.drew) := (Keeps.refl _ w).drew
    replace Sx := Lib.hid (Sx.out.quiet HK.out)
    have HSZ : Hid (w.heap.size = w.drew.heap.size) := rfl
    generalize w.drew = w1 at *
    refine z_take 0 (v := ?_) rfl (by kernel_rfl) (by kernel_rfl) (by kernel_rfl) (by kernel_rfl) (fun _ _ _ h => h) hHeld (by rfl) (fun w hSw => ?_) ?_
    rotate_left
    · clear hSw; simp only [List.getElem_toArray, List.getElem_cons_zero]; go_simp; try rfl
    simp only [Act.put, List.getElem_toArray, List.getElem_cons_zero, List.setIfInBounds_toArray, List.set_cons_zero, List.set_cons_succ]
    refine z_take 1 (v := ?_) rfl (by kernel_rfl) (by kernel_rfl) (by kernel_rfl) (by kernel_rfl) (fun _ _ _ h => h) hHeld (by rfl) (fun w hSw => ?_) ?_
    rotate_left
    · clear hSw; simp only [List.getElem_toArray, List.getElem_cons_zero, List.getElem_cons_succ]; go_simp; try rfl
    simp only [Act.put, List.getElem_toArray, List.getElem_cons_zero, List.getElem_cons_succ, List.setIfInBounds_toArray, List.set_cons_zero, List.set_cons_succ]
    refine z_take 2 (v := ?_) rfl (by kernel_rfl) (by kernel_rfl) (by kernel_rfl) (by kernel_rfl) (fun _ _ _ h => h) hHeld (by rfl) (fun w hSw => ?_) ?_
    rotate_left
    · clear hSw; simp only [List.getElem_toArray, List.getElem_cons_zero, List.getElem_cons_succ]; go_simp; try rfl
    simp only [Act.put, List.getElem_toArray, List.getElem_cons_zero, List.getElem_cons_succ, List.setIfInBounds_toArray, List.set_cons_zero, List.set_cons_succ]
    refine z_take 3 (v := ?_) rfl (by kernel_rfl) (by kernel_rfl) (by kernel_rfl) (by kernel_rfl) (fun _ _ _ h => h) hHeld (by rfl) (fun w hSw => ?_) ?_
    rotate_left
    · clear hSw; simp only [List.getElem_toArray, List.getElem_cons_zero, List.getElem_cons_succ]; go_simp; try rfl
    simp only [Act.put, List.getElem_toArray, List.getElem_cons_zero, List.getElem_cons_succ, List.setIfInBounds_toArray, List.set_cons_zero, List.set_cons_succ]
    refine z_take 4 (v := ?_) rfl (by kernel_rfl) (by kernel_rfl) (by kernel_rfl) (by kernel_rfl) (fun _ _ _ h => h) hHeld (by rfl) (fun w hSw => ?_) ?_
    rotate_left
    · clear hSw; simp only [List.getElem_toArray, List.getElem_cons_zero, List.getElem_cons_succ]; go_simp; try rfl
    simp only [Act.put, List.getElem_toArray, List.getElem_cons_zero, List.getElem_cons_succ, List.setIfInBounds_toArray, List.set_cons_zero, List.set_cons_succ]
    refine z_take 7 (v := ?_) rfl (by kernel_rfl) (by kernel_rfl) (by kernel_rfl) (by kernel_rfl) (fun _ _ _ h => h) hHeld (by rfl) (fun w hSw => ?_) ?_
    rotate_left
    · clear hSw; simp only [List.getElem_toArray, List.getElem_cons_zero, List.getElem_cons_succ]; go_simp; try rfl
    simp only [Act.put, List.getElem_toArray, List.getElem_cons_zero, List.getElem_cons_succ, List.setIfInBounds_toArray, List.set_cons_zero, List.set_cons_succ]
    refine z_take 8 (v := ?_) rfl (by kernel_rfl) (by kernel_rfl) (by kernel_rfl) (by kernel_rfl) (fun _ _ _ h => h) hHeld (by rfl) (fun w hSw => ?_) ?_
    rotate_left
    · clear hSw; simp only [List.getElem_toArray, List.getElem_cons_zero, List.getElem_cons_succ]; go_simp; try rfl
    simp only [Act.put, List.getElem_toArray, List.getElem_cons_zero, List.getElem_cons_succ, List.setIfInBounds_toArray, List.set_cons_zero, List.set_cons_succ]
    refine z_take 9 (v := ?_) rfl (by kernel_rfl) (by kernel_rfl) (by kernel_rfl) (by kernel_rfl) (fun _ _ _ h => h) hHeld (by rfl) (fun w hSw => ?_) ?_
    rotate_left
    · clear hSw; simp only [List.getElem_toArray, List.getElem_cons_zero, List.getElem_cons_succ]; go_simp; try rfl
    simp only [Act.put, List.getElem_toArray, List.getElem_cons_zero, List.getElem_cons_succ, List.setIfInBounds_toArray, List.set_cons_zero, List.set_cons_succ]
    refine z_take 10 (v := ?_) rfl (by kernel_rfl) (by kernel_rfl) (by kernel_rfl) (by kernel_rfl) (fun _ _ _ h => h) hHeld (by rfl) (fun w hSw => ?_) ?_
    rotate_left
    · have q10 := run_strSl (l := lb.drop q) (by rw [← BV_drop]; exact hSw.from_ hqm); rw [hmq] at q10; clear hSw; simp only [List.getElem_toArray, List.getElem_cons_zero, List.getElem_cons_succ]; go_simp; try rfl
    simp only [Act.put, List.getElem_toArray, List.getElem_cons_zero, List.getElem_cons_succ, List.setIfInBounds_toArray, List.set_cons_zero, List.set_cons_succ]
    refine z_one 5 rfl (by kernel_rfl) (by rfl) (fun K hK => ?_)
    simp only [List.getElem_toArray, List.getElem_cons_zero, List.getElem_cons_succ]
    go_simp
    refine (tag_any key sa n cap l (some ⟨bb, ob, none⟩) q cb (lb.take q) w1 HU.out.1 Sx.out hn (by rw [← BV_take]; exact hHeld.upto hqm) (by omega)).mono ?_
    rintro e w2 ⟨g, rfl, hown, hk⟩
    have S2 := Lib.hid (Sl.of_own hown)
    replace HK := Lib.hid (HK.out.quiet hk)
    refine hK _ _ (Or.inr ?_) (fun hHeld => ?_)
    · exact hHeld.quiet hk
    clear hK K hk hown
    replace hHeld := hHeld.resolve_left (by decide)
    try simp only [Act.put, List.setIfInBounds_toArray, List.set_cons_zero, List.set_cons_succ]
    have q6 := run_strSl S2.out
    refine z_one 6 rfl (by kernel_rfl) (by rfl) (fun K hK => ?_)
    simp only [List.getElem_toArray, List.getElem_cons_zero, List.getElem_cons_succ]
    go_simp
    refine hK _ _ (Or.inr ?_) (fun hHeld => ?_)
    · exact hHeld
    clear hK K
    replace hHeld := hHeld.resolve_left (by decide)
    try simp only [Act.put, List.setIfInBounds_toArray, List.set_cons_zero, List.set_cons_succ]
    clear q6
    by_cases hne : tagB (tagN key l (lb.take q)) = lb.drop q
    · have e1 : ((strOf (tagB (tagN key l (lb.take q)))).toList == (strOf (lb.drop q)).toList) = true := by rw [hne]; exact beq_self_eq_true _
      have HN := Lib.hid hne
      clear hne
      refine z_one 11 rfl (by kernel_rfl) (by rfl) (fun K hK => ?_)
      simp only [List.getElem_toArray, List.getElem_cons_zero, List.getElem_cons_succ]
      go_simp
      refine hK _ _ (Or.inr ?_) (fun hHeld => ?_)
      · exact hHeld
      clear hK K
      replace hHeld := hHeld.resolve_left (by decide)
      try simp only [Act.put, List.setIfInBounds_toArray, List.set_cons_zero, List.set_cons_succ]
      refine z_done (by kernel_rfl) ?_ _
      have Sy2 := Lib.hid hHeld
      clear hHeld e1
      go_wp2_with fail
      refine (xor_any key (some ⟨bb, ob, none⟩) q cb (lb.take q) w2 HU.out.1 (by rw [← BV_take]; exact Sy2.out.upto hqm) (by omega)).mono ?_
      rintro e w3 ⟨g3, rfl, hown, hk⟩
      have hx : openS key l lb = (xorS key (lb.take q), 0) := by rw [HU.out.2.2, if_neg (by simpa using HN.out)]
      have hxl : (xorS key (lb.take q)).length = q := by rw [xorS_length, List.length_take, HU.out.2.1]; omega
      have HF : Hid (w3.ownsRow w.heap.size 5 1 (.slice (some ⟨g3, 0, none⟩) q q) q (BV (xorS key (lb.take q))) ∧ Keeps (fun _ => False) w w3 ∧ openS key l lb = (xorS key (lb.take q), 0) ∧ (xorS key (lb.take q)).length = q) := ⟨own_base hown (fun k e => Nat.le_trans HK.out.size (hown.lt k e).1), HK.out.quiet hk, hx, hxl⟩
      clear hown hk hx hxl
      go_wp2
      go_ret2
      rw [HF.out.2.2.1]
      simp only [HF.out.2.2.2]
      exact ⟨_, _, rfl, HF.out.1, HF.out.2.1⟩
    · have e1 : ((strOf (tagB (tagN key l (lb.take q)))).toList == (strOf (lb.drop q)).toList) = false := by rw [str_list, str_list]; exact beq_false_of_ne hne
      have HN := Lib.hid hne
      clear hne
      refine z_one 11 rfl (by kernel_rfl) (by rfl) (fun K hK => ?_)
      simp only [List.getElem_toArray, List.getElem_cons_zero, List.getElem_cons_succ]
      go_simp
      refine hK _ _ (Or.inr ?_) (fun hHeld => ?_)
      · exact hHeld
      clear hK K
      replace hHeld := hHeld.resolve_left (by decide)
      try simp only [Act.put, List.setIfInBounds_toArray, List.set_cons_zero, List.set_cons_succ]
      refine z_done (by kernel_rfl) ?_ _
      clear hHeld e1
      have hx : openS key l lb = ([], 21) := by rw [HU.out.2.2, if_pos HN.out]
      have HX := Lib.hid hx
      clear hx
      go_wp2
      go_ret2
      rw [HX.out]
      exact ⟨none, 0, rfl, World.ownsRow_nil _ _ _ _, HK.out⟩
end Go.Proofs.Ytnnhndnckpnkmaa
