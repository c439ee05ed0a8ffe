/-
  The law ChunkAlike: the walk. Conditions: the arguments are what came in.
-/
import Derived.Test.YtllpeenjfjobaaaLives26
import Derived.Test.YtllpeenjfjobaaaByt
import Derived.Test.YtllpeenjfjobaaaInts
import Derived.Test.YtllpeenjfjobaaaAppN
import Derived.BigQuiet
namespace Go.Proofs.Ytllpeenjfjobaaa
open Go.RowKit

def AlRel (w : World) (A B : Nat → Bool) (N : Nat) (b i : Value) (wr : World) : Prop :=
  ∃ (k : Nat) (v : Bool), k ≤ N + 1 ∧ i = .int .i64 (k : Int) ∧ b = .bool v ∧ (v = true → ∃ j, j < k ∧ A j = true ∧ B j = true) ∧ (v = false → ∀ j, j < k → ¬ (A j = true ∧ B j = true)) ∧ Keeps (fun _ => False) w wr

set_option maxHeartbeats 2000000 in
set_option maxRecDepth 10000 in
theorem chunkAlike_walk (ax : Option Addr) (nx' cx' : Nat) (lx : List Int) (ay : Option Addr) (ny' cy' : Nat) (ly : List Int) (ae : Option Addr) (ne' ce' : Nat) (le : List Int) (w : World) (hlx : Sl w ax nx' cx' (IV lx)) (hbx : ∀ z ∈ lx, -9223372036854775808 ≤ z ∧ z ≤ 9223372036854775807) (hly : Sl w ay ny' cy' (IV ly)) (hby : ∀ z ∈ ly, -9223372036854775808 ≤ z ∧ z ≤ 9223372036854775807) (hle : Sl w ae ne' ce' (IV le)) (hbe : ∀ z ∈ le, -9223372036854775808 ≤ z ∧ z ≤ 9223372036854775807) :
    Calls Try.prog 5 #[.slice ax nx' cx', .slice ay ny' cy', .slice ae ne' ce'] w fun e w' => e = .returned (.bool true) ∧ Keeps (fun _ => False) w w' := by
  have SIx := Lib.hid hlx
  have SIy := Lib.hid hly
  have SIe := Lib.hid hle
  have HBx := Lib.hid hbx
  have HBy := Lib.hid hby
  have HBe := Lib.hid hbe
  clear hlx hly hle hbx hby hbe
  go_enter Try.func5, Try.ntmps5
  have HK := Lib.hid (Keeps.refl (fun _ => False) w)
  go_wp2_with fail
  refine (ints_any ax nx' cx' 15 lx w SIx.out (by omega)).mono ?_
  rintro e w1 ⟨sjx, cjx, rfl, hown, hk⟩
  have hbj : ∀ z ∈ lx.take 15, -9223372036854775808 ≤ z ∧ z ≤ 9223372036854775807 := fun z hz => HBx.out z (List.mem_of_mem_take hz)
  generalize lx.take 15 = jx at *
  obtain ⟨njx, hnj⟩ : ∃ q, jx.length = q := ⟨_, rfl⟩
  rw [hnj] at hown ⊢
  have HJ := Lib.hid (And.intro (Sl.of_own hown) hbj)
  replace HK := Lib.hid (HK.out.quiet hk)
  replace SIx := Lib.hid (SIx.out.quiet hk)
  replace SIy := Lib.hid (SIy.out.quiet hk)
  replace SIe := Lib.hid (SIe.out.quiet hk)
  clear hown hk hnj hbj
  go_wp2_with fail
  refine (byt_any sjx njx cjx jx w1 HJ.out.1 HJ.out.2).mono ?_
  rintro e w2 ⟨sx, cx, rfl, hown, hk⟩
  have hlen := byt_length jx
  have hbx : (byt jx).length ≤ 300 := by omega
  generalize byt jx = x at *
  obtain ⟨nx, hnx⟩ : ∃ q, x.length = q := ⟨_, rfl⟩
  rw [hnx] at hown hbx ⊢
  replace HK := Lib.hid (HK.out.quiet hk)
  replace SIx := Lib.hid (SIx.out.quiet hk)
  replace SIy := Lib.hid (SIy.out.quiet hk)
  replace SIe := Lib.hid (SIe.out.quiet hk)
  have Sx := Lib.hid (Sl.of_own hown)
  have HNx := Lib.hid hnx
  clear hown hk hlen HJ hnx
  go_wp2_with fail
  refine (ints_any ay ny' cy' 15 ly w2 SIy.out (by omega)).mono ?_
  rintro e w3 ⟨sjy, cjy, rfl, hown, hk⟩
  have hbj : ∀ z ∈ ly.take 15, -9223372036854775808 ≤ z ∧ z ≤ 9223372036854775807 := fun z hz => HBy.out z (List.mem_of_mem_take hz)
  generalize ly.take 15 = jy at *
  obtain ⟨njy, hnj⟩ : ∃ q, jy.length = q := ⟨_, rfl⟩
  rw [hnj] at hown ⊢
  have HJ := Lib.hid (And.intro (Sl.of_own hown) hbj)
  replace HK := Lib.hid (HK.out.quiet hk)
  replace SIx := Lib.hid (SIx.out.quiet hk)
  replace SIy := Lib.hid (SIy.out.quiet hk)
  replace SIe := Lib.hid (SIe.out.quiet hk)
  replace Sx := Lib.hid (Sx.out.quiet hk)
  clear hown hk hnj hbj
  go_wp2_with fail
  refine (byt_any sjy njy cjy jy w3 HJ.out.1 HJ.out.2).mono ?_
  rintro e w4 ⟨sy, cy, rfl, hown, hk⟩
  have hlen := byt_length jy
  have hby : (byt jy).length ≤ 300 := by omega
  generalize byt jy = y at *
  obtain ⟨ny, hny⟩ : ∃ q, y.length = q := ⟨_, rfl⟩
  rw [hny] at hown hby ⊢
  replace HK := Lib.hid (HK.out.quiet hk)
  replace SIx := Lib.hid (SIx.out.quiet hk)
  replace SIy := Lib.hid (SIy.out.quiet hk)
  replace SIe := Lib.hid (SIe.out.quiet hk)
  replace Sx := Lib.hid (Sx.out.quiet hk)
  have Sy := Lib.hid (Sl.of_own hown)
  have HNy := Lib.hid hny
  clear hown hk hlen HJ hny
  go_wp2_with fail
  refine (ints_any ae ne' ce' 40 le w4 SIe.out (by omega)).mono ?_
  rintro e w5 ⟨sje, cje, rfl, hown, hk⟩
  have hbj : ∀ z ∈ le.take 40, -9223372036854775808 ≤ z ∧ z ≤ 9223372036854775807 := fun z hz => HBe.out z (List.mem_of_mem_take hz)
  generalize le.take 40 = je at *
  obtain ⟨nje, hnj⟩ : ∃ q, je.length = q := ⟨_, rfl⟩
  rw [hnj] at hown ⊢
  have HJ := Lib.hid (And.intro (Sl.of_own hown) hbj)
  replace HK := Lib.hid (HK.out.quiet hk)
  replace SIx := Lib.hid (SIx.out.quiet hk)
  replace SIy := Lib.hid (SIy.out.quiet hk)
  replace SIe := Lib.hid (SIe.out.quiet hk)
  replace Sx := Lib.hid (Sx.out.quiet hk)
  replace Sy := Lib.hid (Sy.out.quiet hk)
  clear hown hk hnj hbj
  go_wp2_with fail
  refine (byt_any sje nje cje je w5 HJ.out.1 HJ.out.2).mono ?_
  rintro e w6 ⟨se, ce, rfl, hown, hk⟩
  have hlen := byt_length je
  have hbe : (byt je).length ≤ 300 := by omega
  generalize byt je = e_ at *
  obtain ⟨ne, hne⟩ : ∃ q, e_.length = q := ⟨_, rfl⟩
  rw [hne] at hown hbe ⊢
  replace HK := Lib.hid (HK.out.quiet hk)
  replace SIx := Lib.hid (SIx.out.quiet hk)
  replace SIy := Lib.hid (SIy.out.quiet hk)
  replace SIe := Lib.hid (SIe.out.quiet hk)
  replace Sx := Lib.hid (Sx.out.quiet hk)
  replace Sy := Lib.hid (Sy.out.quiet hk)
  have Se := Lib.hid (Sl.of_own hown)
  have HNe := Lib.hid hne
  clear hown hk hlen HJ hne
  go_wp2_with (at_builtin; first | (refine wpList_appB rfl _ _ rfl w6.heap.size sz nx cz _ rfl Oz.out se ne ce e_ rfl (Se.out.quiet HBK.out) (by omega) HBK.out.size ?_; intro sp0 cp0 w8 hown hk; have HO := Lib.hid (And.intro hown (HBK.out.pushed Oz.out (Nat.le_refl _) hk)); clear hown hk) | (refine wpList_newB rfl _ _ rfl rfl sx nx cx x rfl Sx.out (by omega) ?_; intro sz cz w7 hown hk; have Oz := Lib.hid hown; have HBK := Lib.hid hk; clear hown hk))
  obtain ⟨hown, hk⟩ := HO.out
  rw [← BV_append] at hown
  replace HK := Lib.hid (HK.out.quiet hk)
  replace SIx := Lib.hid (SIx.out.quiet hk)
  replace SIy := Lib.hid (SIy.out.quiet hk)
  replace SIe := Lib.hid (SIe.out.quiet hk)
  replace Sx := Lib.hid (Sx.out.quiet hk)
  replace Sy := Lib.hid (Sy.out.quiet hk)
  replace Se := Lib.hid (Se.out.quiet hk)
  have Sp0 := Lib.hid (Sl.of_own hown)
  clear hown hk HO HBK Oz
  have hlp : (x ++ e_).length = nx + ne := by rw [List.length_append, HNx.out, HNe.out]
  have hcc := cut_count (x ++ e_)
  have HT := Lib.hid (cut_any sp0 (nx + ne) cp0 (x ++ e_) w8 Sp0.out (by omega) (by omega))
  have hce := hcc.1
  go_wp2_with fail
  refine HT.out.mono ?_
  rintro e w9 ⟨sP, cP, vsP, rfl, hown, hrows, hk⟩
  replace HK := Lib.hid (HK.out.quiet hk)
  replace SIx := Lib.hid (SIx.out.quiet hk)
  replace SIy := Lib.hid (SIy.out.quiet hk)
  replace SIe := Lib.hid (SIe.out.quiet hk)
  replace Sx := Lib.hid (Sx.out.quiet hk)
  replace Sy := Lib.hid (Sy.out.quiet hk)
  replace Se := Lib.hid (Se.out.quiet hk)
  have SP := Lib.hid (Sl.of_own hown)
  have RP := Lib.hid hrows.reads
  clear hown hrows hk HT
  have hch := fun c hc => (cut_chunk (x ++ e_) c hc).2.1
  have HT := Lib.hid (starts_any sP _ cP vsP (cutL (x ++ e_)) w9 SP.out RP.out (by omega) (fun c hc => by have := hch c hc; omega))
  have hnL1 : (cutL (x ++ e_)).length ≤ 1000 := by omega
  clear hch hcc hce hlp
  obtain ⟨L1, hL1⟩ : ∃ q, cutL (x ++ e_) = q := ⟨_, rfl⟩
  rw [hL1] at HT hnL1 SP RP ⊢
  obtain ⟨NL1, hN⟩ : ∃ q, L1.length = q := ⟨_, rfl⟩
  rw [hN] at HT hnL1 SP ⊢
  have HL1 := Lib.hid hL1
  clear hL1 hN
  go_wp2_with fail
  refine HT.out.mono ?_
  rintro e w10 ⟨stP, ctP, rfl, hown, hk⟩
  replace HK := Lib.hid (HK.out.quiet hk)
  replace SIx := Lib.hid (SIx.out.quiet hk)
  replace SIy := Lib.hid (SIy.out.quiet hk)
  replace SIe := Lib.hid (SIe.out.quiet hk)
  replace Sx := Lib.hid (Sx.out.quiet hk)
  replace Sy := Lib.hid (Sy.out.quiet hk)
  replace Se := Lib.hid (Se.out.quiet hk)
  replace SP := Lib.hid (SP.out.quiet hk)
  replace RP := Lib.hid (RP.out.quiet hk)
  have TP := Lib.hid (Sl.of_own hown)
  clear hown hk HT
  go_wp2_with (at_builtin; first | (refine wpList_appB rfl _ _ rfl w10.heap.size su ny cu _ rfl Ou.out se ne ce e_ rfl (Se.out.quiet HBK.out) (by omega) HBK.out.size ?_; intro sq0 cq0 w12 hown hk; have HO := Lib.hid (And.intro hown (HBK.out.pushed Ou.out (Nat.le_refl _) hk)); clear hown hk) | (refine wpList_newB rfl _ _ rfl rfl sy ny cy y rfl Sy.out (by omega) ?_; intro su cu w11 hown hk; have Ou := Lib.hid hown; have HBK := Lib.hid hk; clear hown hk))
  obtain ⟨hown, hk⟩ := HO.out
  rw [← BV_append] at hown
  replace HK := Lib.hid (HK.out.quiet hk)
  replace SIx := Lib.hid (SIx.out.quiet hk)
  replace SIy := Lib.hid (SIy.out.quiet hk)
  replace SIe := Lib.hid (SIe.out.quiet hk)
  replace Sx := Lib.hid (Sx.out.quiet hk)
  replace Sy := Lib.hid (Sy.out.quiet hk)
  replace Se := Lib.hid (Se.out.quiet hk)
  replace SP := Lib.hid (SP.out.quiet hk)
  replace RP := Lib.hid (RP.out.quiet hk)
  replace TP := Lib.hid (TP.out.quiet hk)
  have Sq0 := Lib.hid (Sl.of_own hown)
  clear hown hk HO HBK Ou
  have hlp : (y ++ e_).length = ny + ne := by rw [List.length_append, HNy.out, HNe.out]
  have hcc := cut_count (y ++ e_)
  have HT := Lib.hid (cut_any sq0 (ny + ne) cq0 (y ++ e_) w12 Sq0.out (by omega) (by omega))
  have hce := hcc.1
  go_wp2_with fail
  refine HT.out.mono ?_
  rintro e w13 ⟨sQ, cQ, vsQ, rfl, hown, hrows, hk⟩
  replace HK := Lib.hid (HK.out.quiet hk)
  replace SIx := Lib.hid (SIx.out.quiet hk)
  replace SIy := Lib.hid (SIy.out.quiet hk)
  replace SIe := Lib.hid (SIe.out.quiet hk)
  replace Sx := Lib.hid (Sx.out.quiet hk)
  replace Sy := Lib.hid (Sy.out.quiet hk)
  replace Se := Lib.hid (Se.out.quiet hk)
  replace SP := Lib.hid (SP.out.quiet hk)
  replace RP := Lib.hid (RP.out.quiet hk)
  replace TP := Lib.hid (TP.out.quiet hk)
  have SQ := Lib.hid (Sl.of_own hown)
  have RQ := Lib.hid hrows.reads
  clear hown hrows hk HT
  have hch := fun c hc => (cut_chunk (y ++ e_) c hc).2.1
  have HT := Lib.hid (starts_any sQ _ cQ vsQ (cutL (y ++ e_)) w13 SQ.out RQ.out (by omega) (fun c hc => by have := hch c hc; omega))
  have hnL2 : (cutL (y ++ e_)).length ≤ 1000 := by omega
  clear hch hcc hce hlp
  obtain ⟨L2, hL2⟩ : ∃ q, cutL (y ++ e_) = q := ⟨_, rfl⟩
  rw [hL2] at HT hnL2 SQ RQ ⊢
  obtain ⟨NL2, hN⟩ : ∃ q, L2.length = q := ⟨_, rfl⟩
  rw [hN] at HT hnL2 SQ ⊢
  have HL2 := Lib.hid hL2
  clear hL2 hN
  go_wp2_with fail
  refine HT.out.mono ?_
  rintro e w14 ⟨stQ, ctQ, rfl, hown, hk⟩
  replace HK := Lib.hid (HK.out.quiet hk)
  replace SIx := Lib.hid (SIx.out.quiet hk)
  replace SIy := Lib.hid (SIy.out.quiet hk)
  replace SIe := Lib.hid (SIe.out.quiet hk)
  replace Sx := Lib.hid (Sx.out.quiet hk)
  replace Sy := Lib.hid (Sy.out.quiet hk)
  replace Se := Lib.hid (Se.out.quiet hk)
  replace SP := Lib.hid (SP.out.quiet hk)
  replace RP := Lib.hid (RP.out.quiet hk)
  replace TP := Lib.hid (TP.out.quiet hk)
  replace SQ := Lib.hid (SQ.out.quiet hk)
  replace RQ := Lib.hid (RQ.out.quiet hk)
  have TQ := Lib.hid (Sl.of_own hown)
  clear hown hk HT
  have hAB : ∀ j m : Nat, hasB (startsI L1) ((nx : Int) + (j : Int)) = true → hasB (startsI L2) ((ny : Int) + (j : Int)) = true → hasB (startsI L1) ((nx : Int) + ((j + m : Nat) : Int)) = hasB (startsI L2) ((ny : Int) + ((j + m : Nat) : Int)) := by
    intro j m h1 h2
    have e : ∀ a b : Nat, (a : Int) + (b : Int) = ((a + b : Nat) : Int) := fun a b => by omega
    rw [e, has_starts, decide_eq_true_eq] at h1 h2
    rw [e, e, has_starts, has_starts]
    have := cut_alike x y e_ j m (by unfold isCut; rw [HL1.out, HNx.out]; exact h1) (by unfold isCut; rw [HL2.out, HNy.out]; exact h2)
    unfold isCut at this
    rw [HL1.out, HL2.out, HNx.out, HNy.out] at this
    rw [decide_eq_decide]
    exact this
  have hEnd : hasB (startsI L1) ((nx : Int) + (ne : Int)) = true ∧ hasB (startsI L2) ((ny : Int) + (ne : Int)) = true := by
    have e : ∀ a b : Nat, (a : Int) + (b : Int) = ((a + b : Nat) : Int) := fun a b => by omega
    rw [e, e, has_starts, has_starts, decide_eq_true_eq, decide_eq_true_eq, ← HL1.out, ← HL2.out]
    have h1 := isCut_end (x ++ e_)
    have h2 := isCut_end (y ++ e_)
    unfold isCut at h1 h2
    rw [List.length_append, HNx.out, HNe.out] at h1
    rw [List.length_append, HNy.out, HNe.out] at h2
    exact ⟨h1, h2⟩
  obtain ⟨A, hA⟩ : ∃ A : Nat → Bool, A = fun k : Nat => hasB (startsI L1) ((nx : Int) + (k : Int)) := ⟨_, rfl⟩
  obtain ⟨B, hB⟩ : ∃ B : Nat → Bool, B = fun k : Nat => hasB (startsI L2) ((ny : Int) + (k : Int)) := ⟨_, rfl⟩
  have HP : Hid ((∀ j m, A j = true → B j = true → A (j + m) = B (j + m)) ∧ A ne = true ∧ B ne = true ∧ (∀ k : Nat, hasB (startsI L1) ((nx : Int) + (k : Int)) = A k) ∧ ∀ k : Nat, hasB (startsI L2) ((ny : Int) + (k : Int)) = B k) := by
    subst hA hB
    exact ⟨hAB, hEnd.1, hEnd.2, fun _ => rfl, fun _ => rfl⟩
  clear hAB hEnd hA hB HL1 HL2 HNx HNy HNe Sx Sy Se SIx SIy SIe HBx HBy HBe SP SQ RP RQ
  go_wp2_with fail
  go_loopw [12, 13] (fun b i wr => AlRel w14 A B ne b i wr) (fun _ i _ => ne + 1 - (intOf i).toNat)
  case atStart => exact ⟨0, false, Nat.zero_le _, rfl, rfl, (fun h => by cases h), (fun _ j hj => by omega), Keeps.refl _ _⟩
  case round =>
    obtain ⟨k, v, hkN, rfl, rfl, hv1, hv2, hkp⟩ := hrel
    by_cases hlt : k ≤ ne
    · have HA1 := Lib.hid (has_any stP (NL1 + 1) ctP (startsI L1) ((nx : Int) + (k : Int)) wr (TP.out.quiet hkp))
      have HA2 := Lib.hid (has_any stQ (NL2 + 1) ctQ (startsI L2) ((ny : Int) + (k : Int)) wr (TQ.out.quiet hkp))
      rw [HP.out.2.2.2.1 k] at HA1
      rw [HP.out.2.2.2.2 k] at HA2
      have HV := Lib.hid (And.intro hv1 (And.intro hv2 hkp))
      have t0 : (k : Int) ≤ (ne : Int) := by omega
      obtain ⟨a, ha⟩ : ∃ a, A k = a := ⟨_, rfl⟩
      obtain ⟨b, hb⟩ : ∃ b, B k = b := ⟨_, rfl⟩
      rw [ha] at HA1
      rw [hb] at HA2
      have HAB := Lib.hid (And.intro ha hb)
      clear hv1 hv2 hkp ha hb
      go_wp2_with fail
      refine HA1.out.mono ?_
      rintro e _ ⟨rfl, rfl⟩
      clear HA1
      go_wp2_with fail
      refine HA2.out.mono ?_
      rintro e _ ⟨rfl, rfl⟩
      clear HA2
      cases v with
      | true =>
        have hab : a = b := by
          obtain ⟨j, hj, h1, h2⟩ := HV.out.1 (by first | rfl | trivial)
          have := HP.out.1 j (k - j) h1 h2
          rw [show j + (k - j) = k by omega, HAB.out.1, HAB.out.2] at this
          exact this
        subst hab
        have e1 : (a != a) = false := by simp
        go_wp2
        go_roundw
        case rel =>
          obtain ⟨j, hj, h1, h2⟩ := HV.out.1 (by first | rfl | trivial)
          exact ⟨k + 1, true, by omega, by go_num, rfl, fun _ => ⟨j, by omega, h1, h2⟩, (fun h => by cases h), HV.out.2.2⟩
        case measure => simp [intOf]; omega
      | false =>
        have HR : Hid (AlRel w14 A B ne (.bool (a && b)) (.int .i64 ((k : Int) + 1)) wr) := by
          refine ⟨k + 1, a && b, by omega, rfl, rfl, fun h => ?_, fun h j hj => ?_, HV.out.2.2⟩
          · rw [Bool.and_eq_true] at h
            exact ⟨k, by omega, by rw [HAB.out.1]; exact h.1, by rw [HAB.out.2]; exact h.2⟩
          · by_cases hjk : j < k
            · exact HV.out.2.1 (by first | rfl | trivial) j hjk
            · obtain rfl : j = k := by omega
              rw [HAB.out.1, HAB.out.2, ← Bool.and_eq_true, h]
              exact Bool.false_ne_true
        cases a with
        | true =>
          simp only [Bool.true_and] at HR
          go_wp2
          go_roundw
          case rel => exact HR.out
          case measure => simp [intOf]; omega
        | false =>
          simp only [Bool.false_and] at HR
          go_wp2
          go_roundw
          case rel => exact HR.out
          case measure => simp [intOf]; omega
    · have t0 : ¬ (k : Int) ≤ (ne : Int) := by omega
      have hv : v = true := by
        cases v with
        | true => rfl
        | false => exact (hv2 rfl ne (by omega) ⟨HP.out.2.1, HP.out.2.2.1⟩).elim
      subst hv
      replace HK := Lib.hid (HK.out.quiet hkp)
      clear hkp hv1 hv2
      go_wp2_with fail
      refine (lives_any wr).mono ?_
      rintro e w99 ⟨rfl, hk⟩
      replace HK := Lib.hid (HK.out.quiet hk)
      clear hk
      go_wp2
      go_ret
      exact ⟨rfl, HK.out⟩
end Go.Proofs.Ytllpeenjfjobaaa
