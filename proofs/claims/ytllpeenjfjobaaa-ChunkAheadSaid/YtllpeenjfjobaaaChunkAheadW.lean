/-
  The law ChunkAhead: the walk. Conditions: the arguments are what came in.
-/
import Derived.Test.YtllpeenjfjobaaaLives26
import Derived.Test.YtllpeenjfjobaaaByt
import Derived.Test.YtllpeenjfjobaaaInts
import Derived.Test.YtllpeenjfjobaaaAppN
import Derived.BigQuiet
namespace Go.Proofs.Ytllpeenjfjobaaa
open Go.RowKit

def AhRel (w : World) (N : Nat) (i : Value) (wr : World) : Prop := ∃ k : Nat, k ≤ N ∧ i = .int .i64 (k : Int) ∧ Keeps (fun _ => False) w wr

set_option maxHeartbeats 2000000 in
set_option maxRecDepth 10000 in
theorem chunkAhead_walk (ax : Option Addr) (nx' cx' : Nat) (lx : List Int) (aa : Option Addr) (na' ca' : Nat) (la : List Int) (ab : Option Addr) (nb' cb' : Nat) (lb : List Int) (w : World) (hlx : Sl w ax nx' cx' (IV lx)) (hbx : ∀ z ∈ lx, -9223372036854775808 ≤ z ∧ z ≤ 9223372036854775807) (hla : Sl w aa na' ca' (IV la)) (hba : ∀ z ∈ la, -9223372036854775808 ≤ z ∧ z ≤ 9223372036854775807) (hlb : Sl w ab nb' cb' (IV lb)) (hbb : ∀ z ∈ lb, -9223372036854775808 ≤ z ∧ z ≤ 9223372036854775807) :
    Calls Try.prog 6 #[.slice ax nx' cx', .slice aa na' ca', .slice ab nb' cb'] w fun e w' => e = .returned (.bool true) ∧ Keeps (fun _ => False) w w' := by
  have SIx := Lib.hid hlx
  have SIa := Lib.hid hla
  have SIb := Lib.hid hlb
  have HBx := Lib.hid hbx
  have HBa := Lib.hid hba
  have HBb := Lib.hid hbb
  clear hlx hla hlb hbx hba hbb
  go_enter Try.func6, Try.ntmps6
  have HK := Lib.hid (Keeps.refl (fun _ => False) w)
  go_wp2_with fail
  refine (ints_any ax nx' cx' 30 lx w SIx.out (by omega)).mono ?_
  rintro e w1 ⟨sjx, cjx, rfl, hown, hk⟩
  have hbj : ∀ z ∈ lx.take 30, -9223372036854775808 ≤ z ∧ z ≤ 9223372036854775807 := fun z hz => HBx.out z (List.mem_of_mem_take hz)
  generalize lx.take 30 = jx at *
  obtain ⟨njx, hnj⟩ : ∃ q, jx.length = q := ⟨_, rfl⟩
  rw [hnj] at hown ⊢
  have HJ := Lib.hid (And.intro (Sl.of_own hown) hbj)
  replace HK := Lib.hid (HK.out.quiet hk)
  replace SIx := Lib.hid (SIx.out.quiet hk)
  replace SIa := Lib.hid (SIa.out.quiet hk)
  replace SIb := Lib.hid (SIb.out.quiet hk)
  clear hown hk hnj hbj
  go_wp2_with fail
  refine (byt_any sjx njx cjx jx w1 HJ.out.1 HJ.out.2).mono ?_
  rintro e w2 ⟨sx, cx, rfl, hown, hk⟩
  have hlen := byt_length jx
  have hbx : (byt jx).length ≤ 300 := by omega
  generalize byt jx = x at *
  obtain ⟨nx, hnx⟩ : ∃ q, x.length = q := ⟨_, rfl⟩
  rw [hnx] at hown hbx ⊢
  replace HK := Lib.hid (HK.out.quiet hk)
  replace SIx := Lib.hid (SIx.out.quiet hk)
  replace SIa := Lib.hid (SIa.out.quiet hk)
  replace SIb := Lib.hid (SIb.out.quiet hk)
  have Sx := Lib.hid (Sl.of_own hown)
  have HNx := Lib.hid hnx
  clear hown hk hlen HJ hnx
  go_wp2_with (at_builtin; refine wpList_newB rfl _ _ rfl rfl sx nx cx x rfl Sx.out (by omega) ?_; intro sy cy w3 hown hk; have HO := Lib.hid (And.intro hown hk); clear hown hk)
  obtain ⟨hown, hk⟩ := HO.out
  have Oy := Lib.hid hown
  have HBK := Lib.hid hk
  clear hown hk HO
  go_wp2_with fail
  refine (ints_any aa na' ca' 10 la w3 (SIa.out.quiet HBK.out) (by omega)).mono ?_
  rintro e w4 ⟨sja, cja, rfl, hown, hk⟩
  have hbj : ∀ z ∈ la.take 10, -9223372036854775808 ≤ z ∧ z ≤ 9223372036854775807 := fun z hz => HBa.out z (List.mem_of_mem_take hz)
  generalize la.take 10 = ja at *
  obtain ⟨nja, hnj⟩ : ∃ q, ja.length = q := ⟨_, rfl⟩
  rw [hnj] at hown ⊢
  have HJ := Lib.hid (And.intro (Sl.of_own hown) hbj)
  replace HBK := Lib.hid (HBK.out.quiet hk)
  replace Oy := Lib.hid (own_keep Oy.out hk (fun _ _ h => h))
  clear hown hk hnj hbj
  go_wp2_with fail
  refine (byt_any sja nja cja ja w4 HJ.out.1 HJ.out.2).mono ?_
  rintro e w5 ⟨sa, ca, rfl, hown, hk⟩
  have hlen := byt_length ja
  have hba : (byt ja).length ≤ 300 := by omega
  generalize byt ja = a at *
  obtain ⟨na, hna⟩ : ∃ q, a.length = q := ⟨_, rfl⟩
  rw [hna] at hown hba ⊢
  replace HBK := Lib.hid (HBK.out.quiet hk)
  replace Oy := Lib.hid (own_keep Oy.out hk (fun _ _ h => h))
  have Sa := Lib.hid (Sl.of_own hown)
  have HNa := Lib.hid hna
  clear hown hk hlen HJ hna
  go_wp2_with (at_builtin; refine wpList_appB rfl _ _ rfl w2.heap.size sy nx cy _ rfl Oy.out sa na ca a rfl Sa.out (by omega) HBK.out.size ?_; intro sp0 cp0 w6 hown hk; have HO := Lib.hid (And.intro hown (HBK.out.pushed Oy.out (Nat.le_refl _) hk)); clear hown hk)
  obtain ⟨hown, hk⟩ := HO.out
  rw [← BV_append] at hown
  replace HK := Lib.hid (HK.out.quiet hk)
  replace SIx := Lib.hid (SIx.out.quiet hk)
  replace SIa := Lib.hid (SIa.out.quiet hk)
  replace SIb := Lib.hid (SIb.out.quiet hk)
  replace Sx := Lib.hid (Sx.out.quiet hk)
  have Sp0 := Lib.hid (Sl.of_own hown)
  clear hown hk HO HBK Oy Sa
  have HNa2 := HNa
  obtain ⟨np0, hnp0⟩ : ∃ q, nx + na = q := ⟨_, rfl⟩
  have hlp : (x ++ a).length = nx + na := by rw [List.length_append, HNx.out, HNa.out]
  have hcc := cut_count (x ++ a)
  have HT := Lib.hid (cut_any sp0 (nx + na) cp0 (x ++ a) w6 Sp0.out (by omega) (by omega))
  have hce := hcc.1
  go_wp2_with fail
  refine HT.out.mono ?_
  rintro e w7 ⟨sP, cP, vsP, rfl, hown, hrows, hk⟩
  replace HK := Lib.hid (HK.out.quiet hk)
  replace SIx := Lib.hid (SIx.out.quiet hk)
  replace SIa := Lib.hid (SIa.out.quiet hk)
  replace SIb := Lib.hid (SIb.out.quiet hk)
  replace Sx := Lib.hid (Sx.out.quiet hk)
  have SP := Lib.hid (Sl.of_own hown)
  have RP := Lib.hid hrows.reads
  clear hown hrows hk HT
  clear hnp0
  go_wp2_with (at_builtin; refine wpList_newB rfl _ _ rfl rfl sx nx cx x rfl Sx.out (by omega) ?_; intro sz cz w8 hown hk; have HO := Lib.hid (And.intro hown hk); clear hown hk)
  obtain ⟨hown, hk⟩ := HO.out
  have Oz := Lib.hid hown
  have HBK := Lib.hid hk
  clear hown hk HO
  go_wp2_with fail
  refine (ints_any ab nb' cb' 10 lb w8 (SIb.out.quiet HBK.out) (by omega)).mono ?_
  rintro e w9 ⟨sjb, cjb, rfl, hown, hk⟩
  have hbj : ∀ z ∈ lb.take 10, -9223372036854775808 ≤ z ∧ z ≤ 9223372036854775807 := fun z hz => HBb.out z (List.mem_of_mem_take hz)
  generalize lb.take 10 = jb at *
  obtain ⟨njb, hnj⟩ : ∃ q, jb.length = q := ⟨_, rfl⟩
  rw [hnj] at hown ⊢
  have HJ := Lib.hid (And.intro (Sl.of_own hown) hbj)
  replace HBK := Lib.hid (HBK.out.quiet hk)
  replace Oz := Lib.hid (own_keep Oz.out hk (fun _ _ h => h))
  clear hown hk hnj hbj
  go_wp2_with fail
  refine (byt_any sjb njb cjb jb w9 HJ.out.1 HJ.out.2).mono ?_
  rintro e w10 ⟨sb, cb, rfl, hown, hk⟩
  have hlen := byt_length jb
  have hbb : (byt jb).length ≤ 300 := by omega
  generalize byt jb = b at *
  obtain ⟨nb, hnb⟩ : ∃ q, b.length = q := ⟨_, rfl⟩
  rw [hnb] at hown hbb ⊢
  replace HBK := Lib.hid (HBK.out.quiet hk)
  replace Oz := Lib.hid (own_keep Oz.out hk (fun _ _ h => h))
  have Sb := Lib.hid (Sl.of_own hown)
  have HNb := Lib.hid hnb
  clear hown hk hlen HJ hnb
  go_wp2_with (at_builtin; refine wpList_appB rfl _ _ rfl w7.heap.size sz nx cz _ rfl Oz.out sb nb cb b rfl Sb.out (by omega) HBK.out.size ?_; intro sq0 cq0 w11 hown hk; have HO := Lib.hid (And.intro hown (HBK.out.pushed Oz.out (Nat.le_refl _) hk)); clear hown hk)
  obtain ⟨hown, hk⟩ := HO.out
  rw [← BV_append] at hown
  replace HK := Lib.hid (HK.out.quiet hk)
  replace SIx := Lib.hid (SIx.out.quiet hk)
  replace SIa := Lib.hid (SIa.out.quiet hk)
  replace SIb := Lib.hid (SIb.out.quiet hk)
  replace Sx := Lib.hid (Sx.out.quiet hk)
  replace SP := Lib.hid (SP.out.quiet hk)
  replace RP := Lib.hid (RP.out.quiet hk)
  have Sq0 := Lib.hid (Sl.of_own hown)
  clear hown hk HO HBK Oz Sb
  have hlq : (x ++ b).length = nx + nb := by rw [List.length_append, HNx.out, HNb.out]
  have hcc := cut_count (x ++ b)
  have HT := Lib.hid (cut_any sq0 (nx + nb) cq0 (x ++ b) w11 Sq0.out (by omega) (by omega))
  have hce := hcc.1
  go_wp2_with fail
  refine HT.out.mono ?_
  rintro e w12 ⟨sQ, cQ, vsQ, rfl, hown, hrows, hk⟩
  replace HK := Lib.hid (HK.out.quiet hk)
  replace SIx := Lib.hid (SIx.out.quiet hk)
  replace SIa := Lib.hid (SIa.out.quiet hk)
  replace SIb := Lib.hid (SIb.out.quiet hk)
  replace Sx := Lib.hid (Sx.out.quiet hk)
  replace SP := Lib.hid (SP.out.quiet hk)
  replace RP := Lib.hid (RP.out.quiet hk)
  have SQ := Lib.hid (Sl.of_own hown)
  have RQ := Lib.hid hrows.reads
  clear hown hrows hk HT
  have hlx := HNx.out
  have hcc := cut_count x
  have HT := Lib.hid (cut_any sx nx cx x w12 Sx.out (by omega) (by omega))
  have hce := hcc.1
  go_wp2_with fail
  refine HT.out.mono ?_
  rintro e w13 ⟨sW, cW, vsW, rfl, hown, hrows, hk⟩
  replace HK := Lib.hid (HK.out.quiet hk)
  replace SIx := Lib.hid (SIx.out.quiet hk)
  replace SIa := Lib.hid (SIa.out.quiet hk)
  replace SIb := Lib.hid (SIb.out.quiet hk)
  replace Sx := Lib.hid (Sx.out.quiet hk)
  replace SP := Lib.hid (SP.out.quiet hk)
  replace RP := Lib.hid (RP.out.quiet hk)
  replace SQ := Lib.hid (SQ.out.quiet hk)
  replace RQ := Lib.hid (RQ.out.quiet hk)
  have SW := Lib.hid (Sl.of_own hown)
  have RW := Lib.hid hrows.reads
  clear hown hrows hk HT
  have hah := cut_ahead x a
  have hah2 := cut_ahead x b
  generalize cutL (x ++ a) = L1 at *
  obtain ⟨NL1, hNL1⟩ : ∃ q, L1.length = q := ⟨_, rfl⟩
  rw [hNL1] at SP ⊢
  generalize cutL (x ++ b) = L2 at *
  obtain ⟨NL2, hNL2⟩ : ∃ q, L2.length = q := ⟨_, rfl⟩
  rw [hNL2] at SQ ⊢
  generalize cutL x = L at *
  obtain ⟨NL, hNL⟩ : ∃ q, L.length = q := ⟨_, rfl⟩
  rw [hNL] at hah hah2 SW ⊢
  have hNb : NL ≤ 300 := by omega
  clear hcc hce
  have HL := Lib.hid (And.intro hah (And.intro hah2 (And.intro hNL1 (And.intro hNL2 hNL))))
  clear hah hah2 hNL1 hNL2 hNL
  clear HNx HNa HNa2 HNb Sx SIx SIa SIb HBx HBa HBb
  go_wp2_with fail
  go_loopw [11] (fun i wr => AhRel w13 NL i wr) (fun i _ => NL - (intOf i).toNat)
  case atStart => exact ⟨0, Nat.zero_le _, rfl, Keeps.refl _ _⟩
  case round =>
    obtain ⟨k, hkN, rfl, hkp⟩ := hrel
    by_cases hlt : k + 1 < NL
    · obtain ⟨c, hc⟩ : ∃ c, L[k]? = some c := ⟨_, List.getElem?_eq_getElem (by have := HL.out.2.2.2.2; omega)⟩
      have h1 := HL.out.1 k c hlt hc
      have h2 := HL.out.2.1 k c hlt hc
      have k1 : k < NL1 := by rw [← HL.out.2.2.1]; exact (List.getElem?_eq_some_iff.1 h1).1
      have k2 : k < NL2 := by rw [← HL.out.2.2.2.1]; exact (List.getElem?_eq_some_iff.1 h2).1
      obtain ⟨xp, yp, vp, sp⟩ := RP.out.row k c h1
      obtain ⟨xq, yq, vq, sq⟩ := RQ.out.row k c h2
      obtain ⟨xw, yw, vw, sw⟩ := RW.out.row k c hc
      obtain ⟨bp, op, rfl⟩ := SP.out.isSome (by omega)
      obtain ⟨bq, oq, rfl⟩ := SQ.out.isSome (by omega)
      obtain ⟨bw, ow, rfl⟩ := SW.out.isSome (by omega)
      have hkq := hkp.drew
      have d1 := (SP.out.quiet hkq).cell vp
      have d2 := (SQ.out.quiet hkq).cell vq
      have d3 := (SW.out.quiet hkq).cell vw
      have d4 := run_strSl (sp.quiet hkq)
      have d5 := run_strSl (sq.quiet hkq)
      have d6 := run_strSl (sw.quiet hkq)
      have e1 : ((strOf c).toList == (strOf c).toList) = true := beq_self_eq_true _
      have t0 : (0 : Int) ≤ (k : Int) := by omega
      have t1 : (k : Int) + 1 < (NL : Int) := by omega
      have t2 : ¬ NL1 ≤ k := by omega
      have t3 : ¬ NL2 ≤ k := by omega
      have t4 : (k : Int) < (NL1 : Int) := by omega
      have t5 : (k : Int) < (NL2 : Int) := by omega
      have t6 : (k : Int) < (NL : Int) := by omega
      have HP := Lib.hid hkq
      clear hc h1 h2 vp vq vw sp sq sw hkp hkq
      generalize c.length = nc at *
      go_wp2_with fail
      refine z_begin (fun w' => w'.cell? ⟨bp, op + k, none⟩ = some (.slice xp nc yp) ∧ w'.cell? ⟨bq, oq + k, none⟩ = some (.slice xq nc yq) ∧ w'.cell? ⟨bw, ow + k, none⟩ = some (.slice xw nc yw) ∧ (convert 22 9 (.slice xp nc yp)).run Try.prog w' = .ok (.string (strOf c)) w' ∧ (convert 22 9 (.slice xq nc yq)).run Try.prog w' = .ok (.string (strOf c)) w' ∧ (convert 22 9 (.slice xw nc yw)).run Try.prog w' = .ok (.string (strOf c)) w') 36 (by kernel_rfl) (⟨d1, d2, d3, d4, d5, d6⟩) (fun hHeld => ?_)
      clear d1 d2 d3 d4 d5 d6
      refine z_take 0 (v := ?_) rfl (by kernel_rfl) (by kernel_rfl) (by kernel_rfl) (by kernel_rfl) (fun _ _ _ h => h) hHeld (by rfl) (fun w hSw => ?_) ?_
      rotate_left
      · obtain ⟨hSw1, hSw2, hSw3, hSw4, hSw5, hSw6⟩ := hSw; simp only [List.getElem_toArray, List.getElem_cons_zero]; go_simp; try rfl
      simp only [Act.put, List.getElem_toArray, List.getElem_cons_zero, List.setIfInBounds_toArray, List.set_cons_zero, List.set_cons_succ]
      refine z_take 1 (v := ?_) rfl (by kernel_rfl) (by kernel_rfl) (by kernel_rfl) (by kernel_rfl) (fun _ _ _ h => h) hHeld (by rfl) (fun w hSw => ?_) ?_
      rotate_left
      · obtain ⟨hSw1, hSw2, hSw3, hSw4, hSw5, hSw6⟩ := hSw; simp only [List.getElem_toArray, List.getElem_cons_zero, List.getElem_cons_succ]; go_simp; try rfl
      simp only [Act.put, List.getElem_toArray, List.getElem_cons_zero, List.getElem_cons_succ, List.setIfInBounds_toArray, List.set_cons_zero, List.set_cons_succ]
      refine z_take 2 (v := ?_) rfl (by kernel_rfl) (by kernel_rfl) (by kernel_rfl) (by kernel_rfl) (fun _ _ _ h => h) hHeld (by rfl) (fun w hSw => ?_) ?_
      rotate_left
      · obtain ⟨hSw1, hSw2, hSw3, hSw4, hSw5, hSw6⟩ := hSw; simp only [List.getElem_toArray, List.getElem_cons_zero, List.getElem_cons_succ]; go_simp; try rfl
      simp only [Act.put, List.getElem_toArray, List.getElem_cons_zero, List.getElem_cons_succ, List.setIfInBounds_toArray, List.set_cons_zero, List.set_cons_succ]
      refine z_take 3 (v := ?_) rfl (by kernel_rfl) (by kernel_rfl) (by kernel_rfl) (by kernel_rfl) (fun _ _ _ h => h) hHeld (by rfl) (fun w hSw => ?_) ?_
      rotate_left
      · obtain ⟨hSw1, hSw2, hSw3, hSw4, hSw5, hSw6⟩ := hSw; simp only [List.getElem_toArray, List.getElem_cons_zero, List.getElem_cons_succ]; go_simp; try rfl
      simp only [Act.put, List.getElem_toArray, List.getElem_cons_zero, List.getElem_cons_succ, List.setIfInBounds_toArray, List.set_cons_zero, List.set_cons_succ]
      refine z_take 4 (v := ?_) rfl (by kernel_rfl) (by kernel_rfl) (by kernel_rfl) (by kernel_rfl) (fun _ _ _ h => h) hHeld (by rfl) (fun w hSw => ?_) ?_
      rotate_left
      · obtain ⟨hSw1, hSw2, hSw3, hSw4, hSw5, hSw6⟩ := hSw; simp only [List.getElem_toArray, List.getElem_cons_zero, List.getElem_cons_succ]; go_simp; try rfl
      simp only [Act.put, List.getElem_toArray, List.getElem_cons_zero, List.getElem_cons_succ, List.setIfInBounds_toArray, List.set_cons_zero, List.set_cons_succ]
      refine z_take 5 (v := ?_) rfl (by kernel_rfl) (by kernel_rfl) (by kernel_rfl) (by kernel_rfl) (fun _ _ _ h => h) hHeld (by rfl) (fun w hSw => ?_) ?_
      rotate_left
      · obtain ⟨hSw1, hSw2, hSw3, hSw4, hSw5, hSw6⟩ := hSw; simp only [List.getElem_toArray, List.getElem_cons_zero, List.getElem_cons_succ]; go_simp; try rfl
      simp only [Act.put, List.getElem_toArray, List.getElem_cons_zero, List.getElem_cons_succ, List.setIfInBounds_toArray, List.set_cons_zero, List.set_cons_succ]
      refine z_take 6 (v := ?_) rfl (by kernel_rfl) (by kernel_rfl) (by kernel_rfl) (by kernel_rfl) (fun _ _ _ h => h) hHeld (by rfl) (fun w hSw => ?_) ?_
      rotate_left
      · obtain ⟨hSw1, hSw2, hSw3, hSw4, hSw5, hSw6⟩ := hSw; simp only [List.getElem_toArray, List.getElem_cons_zero, List.getElem_cons_succ]; go_simp; try rfl
      simp only [Act.put, List.getElem_toArray, List.getElem_cons_zero, List.getElem_cons_succ, List.setIfInBounds_toArray, List.set_cons_zero, List.set_cons_succ]
      refine z_take 7 (v := ?_) rfl (by kernel_rfl) (by kernel_rfl) (by kernel_rfl) (by kernel_rfl) (fun _ _ _ h => h) hHeld (by rfl) (fun w hSw => ?_) ?_
      rotate_left
      · obtain ⟨hSw1, hSw2, hSw3, hSw4, hSw5, hSw6⟩ := hSw; simp only [List.getElem_toArray, List.getElem_cons_zero, List.getElem_cons_succ]; go_simp; try rfl
      simp only [Act.put, List.getElem_toArray, List.getElem_cons_zero, List.getElem_cons_succ, List.setIfInBounds_toArray, List.set_cons_zero, List.set_cons_succ]
      refine z_take 8 (v := ?_) rfl (by kernel_rfl) (by kernel_rfl) (by kernel_rfl) (by kernel_rfl) (fun _ _ _ h => h) hHeld (by rfl) (fun w hSw => ?_) ?_
      rotate_left
      · obtain ⟨hSw1, hSw2, hSw3, hSw4, hSw5, hSw6⟩ := hSw; simp only [List.getElem_toArray, List.getElem_cons_zero, List.getElem_cons_succ]; go_simp; try rfl
      simp only [Act.put, List.getElem_toArray, List.getElem_cons_zero, List.getElem_cons_succ, List.setIfInBounds_toArray, List.set_cons_zero, List.set_cons_succ]
      refine z_take 9 (v := ?_) rfl (by kernel_rfl) (by kernel_rfl) (by kernel_rfl) (by kernel_rfl) (fun _ _ _ h => h) hHeld (by rfl) (fun w hSw => ?_) ?_
      rotate_left
      · obtain ⟨hSw1, hSw2, hSw3, hSw4, hSw5, hSw6⟩ := hSw; simp only [List.getElem_toArray, List.getElem_cons_zero, List.getElem_cons_succ]; go_simp; try rfl
      simp only [Act.put, List.getElem_toArray, List.getElem_cons_zero, List.getElem_cons_succ, List.setIfInBounds_toArray, List.set_cons_zero, List.set_cons_succ]
      refine z_take 10 (v := ?_) rfl (by kernel_rfl) (by kernel_rfl) (by kernel_rfl) (by kernel_rfl) (fun _ _ _ h => h) hHeld (by rfl) (fun w hSw => ?_) ?_
      rotate_left
      · obtain ⟨hSw1, hSw2, hSw3, hSw4, hSw5, hSw6⟩ := hSw; simp only [List.getElem_toArray, List.getElem_cons_zero, List.getElem_cons_succ]; go_simp; try rfl
      simp only [Act.put, List.getElem_toArray, List.getElem_cons_zero, List.getElem_cons_succ, List.setIfInBounds_toArray, List.set_cons_zero, List.set_cons_succ]
      refine z_take 11 (v := ?_) rfl (by kernel_rfl) (by kernel_rfl) (by kernel_rfl) (by kernel_rfl) (fun _ _ _ h => h) hHeld (by rfl) (fun w hSw => ?_) ?_
      rotate_left
      · obtain ⟨hSw1, hSw2, hSw3, hSw4, hSw5, hSw6⟩ := hSw; simp only [List.getElem_toArray, List.getElem_cons_zero, List.getElem_cons_succ]; go_simp; try rfl
      simp only [Act.put, List.getElem_toArray, List.getElem_cons_zero, List.getElem_cons_succ, List.setIfInBounds_toArray, List.set_cons_zero, List.set_cons_succ]
      refine z_take 12 (v := ?_) rfl (by kernel_rfl) (by kernel_rfl) (by kernel_rfl) (by kernel_rfl) (fun _ _ _ h => h) hHeld (by rfl) (fun w hSw => ?_) ?_
      rotate_left
      · obtain ⟨hSw1, hSw2, hSw3, hSw4, hSw5, hSw6⟩ := hSw; simp only [List.getElem_toArray, List.getElem_cons_zero, List.getElem_cons_succ]; go_simp; try rfl
      simp only [Act.put, List.getElem_toArray, List.getElem_cons_zero, List.getElem_cons_succ, List.setIfInBounds_toArray, List.set_cons_zero, List.set_cons_succ]
      refine z_take 13 (v := ?_) rfl (by kernel_rfl) (by kernel_rfl) (by kernel_rfl) (by kernel_rfl) (fun _ _ _ h => h) hHeld (by rfl) (fun w hSw => ?_) ?_
      rotate_left
      · obtain ⟨hSw1, hSw2, hSw3, hSw4, hSw5, hSw6⟩ := hSw; simp only [List.getElem_toArray, List.getElem_cons_zero, List.getElem_cons_succ]; go_simp; try rfl
      simp only [Act.put, List.getElem_toArray, List.getElem_cons_zero, List.getElem_cons_succ, List.setIfInBounds_toArray, List.set_cons_zero, List.set_cons_succ]
      refine z_take 14 (v := ?_) rfl (by kernel_rfl) (by kernel_rfl) (by kernel_rfl) (by kernel_rfl) (fun _ _ _ h => h) hHeld (by rfl) (fun w hSw => ?_) ?_
      rotate_left
      · obtain ⟨hSw1, hSw2, hSw3, hSw4, hSw5, hSw6⟩ := hSw; simp only [List.getElem_toArray, List.getElem_cons_zero, List.getElem_cons_succ]; go_simp; try rfl
      simp only [Act.put, List.getElem_toArray, List.getElem_cons_zero, List.getElem_cons_succ, List.setIfInBounds_toArray, List.set_cons_zero, List.set_cons_succ]
      refine z_take 15 (v := ?_) rfl (by kernel_rfl) (by kernel_rfl) (by kernel_rfl) (by kernel_rfl) (fun _ _ _ h => h) hHeld (by rfl) (fun w hSw => ?_) ?_
      rotate_left
      · obtain ⟨hSw1, hSw2, hSw3, hSw4, hSw5, hSw6⟩ := hSw; simp only [List.getElem_toArray, List.getElem_cons_zero, List.getElem_cons_succ]; go_simp; try rfl
      simp only [Act.put, List.getElem_toArray, List.getElem_cons_zero, List.getElem_cons_succ, List.setIfInBounds_toArray, List.set_cons_zero, List.set_cons_succ]
      refine z_take 16 (v := ?_) rfl (by kernel_rfl) (by kernel_rfl) (by kernel_rfl) (by kernel_rfl) (fun _ _ _ h => h) hHeld (by rfl) (fun w hSw => ?_) ?_
      rotate_left
      · obtain ⟨hSw1, hSw2, hSw3, hSw4, hSw5, hSw6⟩ := hSw; simp only [List.getElem_toArray, List.getElem_cons_zero, List.getElem_cons_succ]; go_simp; try rfl
      simp only [Act.put, List.getElem_toArray, List.getElem_cons_zero, List.getElem_cons_succ, List.setIfInBounds_toArray, List.set_cons_zero, List.set_cons_succ]
      refine z_take 17 (v := ?_) rfl (by kernel_rfl) (by kernel_rfl) (by kernel_rfl) (by kernel_rfl) (fun _ _ _ h => h) hHeld (by rfl) (fun w hSw => ?_) ?_
      rotate_left
      · obtain ⟨hSw1, hSw2, hSw3, hSw4, hSw5, hSw6⟩ := hSw; simp only [List.getElem_toArray, List.getElem_cons_zero, List.getElem_cons_succ]; go_simp; try rfl
      simp only [Act.put, List.getElem_toArray, List.getElem_cons_zero, List.getElem_cons_succ, List.setIfInBounds_toArray, List.set_cons_zero, List.set_cons_succ]
      refine z_take 18 (v := ?_) rfl (by kernel_rfl) (by kernel_rfl) (by kernel_rfl) (by kernel_rfl) (fun _ _ _ h => h) hHeld (by rfl) (fun w hSw => ?_) ?_
      rotate_left
      · obtain ⟨hSw1, hSw2, hSw3, hSw4, hSw5, hSw6⟩ := hSw; simp only [List.getElem_toArray, List.getElem_cons_zero, List.getElem_cons_succ]; go_simp; try rfl
      simp only [Act.put, List.getElem_toArray, List.getElem_cons_zero, List.getElem_cons_succ, List.setIfInBounds_toArray, List.set_cons_zero, List.set_cons_succ]
      refine z_take 19 (v := ?_) rfl (by kernel_rfl) (by kernel_rfl) (by kernel_rfl) (by kernel_rfl) (fun _ _ _ h => h) hHeld (by rfl) (fun w hSw => ?_) ?_
      rotate_left
      · obtain ⟨hSw1, hSw2, hSw3, hSw4, hSw5, hSw6⟩ := hSw; simp only [List.getElem_toArray, List.getElem_cons_zero, List.getElem_cons_succ]; go_simp; try rfl
      simp only [Act.put, List.getElem_toArray, List.getElem_cons_zero, List.getElem_cons_succ, List.setIfInBounds_toArray, List.set_cons_zero, List.set_cons_succ]
      refine z_take 20 (v := ?_) rfl (by kernel_rfl) (by kernel_rfl) (by kernel_rfl) (by kernel_rfl) (fun _ _ _ h => h) hHeld (by rfl) (fun w hSw => ?_) ?_
      rotate_left
      · obtain ⟨hSw1, hSw2, hSw3, hSw4, hSw5, hSw6⟩ := hSw; simp only [List.getElem_toArray, List.getElem_cons_zero, List.getElem_cons_succ]; go_simp; try rfl
      simp only [Act.put, List.getElem_toArray, List.getElem_cons_zero, List.getElem_cons_succ, List.setIfInBounds_toArray, List.set_cons_zero, List.set_cons_succ]
      refine z_take 21 (v := ?_) rfl (by kernel_rfl) (by kernel_rfl) (by kernel_rfl) (by kernel_rfl) (fun _ _ _ h => h) hHeld (by rfl) (fun w hSw => ?_) ?_
      rotate_left
      · obtain ⟨hSw1, hSw2, hSw3, hSw4, hSw5, hSw6⟩ := hSw; simp only [List.getElem_toArray, List.getElem_cons_zero, List.getElem_cons_succ]; go_simp; try rfl
      simp only [Act.put, List.getElem_toArray, List.getElem_cons_zero, List.getElem_cons_succ, List.setIfInBounds_toArray, List.set_cons_zero, List.set_cons_succ]
      refine z_take 22 (v := ?_) rfl (by kernel_rfl) (by kernel_rfl) (by kernel_rfl) (by kernel_rfl) (fun _ _ _ h => h) hHeld (by rfl) (fun w hSw => ?_) ?_
      rotate_left
      · obtain ⟨hSw1, hSw2, hSw3, hSw4, hSw5, hSw6⟩ := hSw; simp only [List.getElem_toArray, List.getElem_cons_zero, List.getElem_cons_succ]; go_simp; try rfl
      simp only [Act.put, List.getElem_toArray, List.getElem_cons_zero, List.getElem_cons_succ, List.setIfInBounds_toArray, List.set_cons_zero, List.set_cons_succ]
      refine z_take 23 (v := ?_) rfl (by kernel_rfl) (by kernel_rfl) (by kernel_rfl) (by kernel_rfl) (fun _ _ _ h => h) hHeld (by rfl) (fun w hSw => ?_) ?_
      rotate_left
      · obtain ⟨hSw1, hSw2, hSw3, hSw4, hSw5, hSw6⟩ := hSw; simp only [List.getElem_toArray, List.getElem_cons_zero, List.getElem_cons_succ]; go_simp; try rfl
      simp only [Act.put, List.getElem_toArray, List.getElem_cons_zero, List.getElem_cons_succ, List.setIfInBounds_toArray, List.set_cons_zero, List.set_cons_succ]
      refine z_take 24 (v := ?_) rfl (by kernel_rfl) (by kernel_rfl) (by kernel_rfl) (by kernel_rfl) (fun _ _ _ h => h) hHeld (by rfl) (fun w hSw => ?_) ?_
      rotate_left
      · obtain ⟨hSw1, hSw2, hSw3, hSw4, hSw5, hSw6⟩ := hSw; simp only [List.getElem_toArray, List.getElem_cons_zero, List.getElem_cons_succ]; go_simp; try rfl
      simp only [Act.put, List.getElem_toArray, List.getElem_cons_zero, List.getElem_cons_succ, List.setIfInBounds_toArray, List.set_cons_zero, List.set_cons_succ]
      refine z_take 25 (v := ?_) rfl (by kernel_rfl) (by kernel_rfl) (by kernel_rfl) (by kernel_rfl) (fun _ _ _ h => h) hHeld (by rfl) (fun w hSw => ?_) ?_
      rotate_left
      · obtain ⟨hSw1, hSw2, hSw3, hSw4, hSw5, hSw6⟩ := hSw; simp only [List.getElem_toArray, List.getElem_cons_zero, List.getElem_cons_succ]; go_simp; try rfl
      simp only [Act.put, List.getElem_toArray, List.getElem_cons_zero, List.getElem_cons_succ, List.setIfInBounds_toArray, List.set_cons_zero, List.set_cons_succ]
      refine z_take 26 (v := ?_) rfl (by kernel_rfl) (by kernel_rfl) (by kernel_rfl) (by kernel_rfl) (fun _ _ _ h => h) hHeld (by rfl) (fun w hSw => ?_) ?_
      rotate_left
      · obtain ⟨hSw1, hSw2, hSw3, hSw4, hSw5, hSw6⟩ := hSw; simp only [List.getElem_toArray, List.getElem_cons_zero, List.getElem_cons_succ]; go_simp; try rfl
      simp only [Act.put, List.getElem_toArray, List.getElem_cons_zero, List.getElem_cons_succ, List.setIfInBounds_toArray, List.set_cons_zero, List.set_cons_succ]
      refine z_take 27 (v := ?_) rfl (by kernel_rfl) (by kernel_rfl) (by kernel_rfl) (by kernel_rfl) (fun _ _ _ h => h) hHeld (by rfl) (fun w hSw => ?_) ?_
      rotate_left
      · obtain ⟨hSw1, hSw2, hSw3, hSw4, hSw5, hSw6⟩ := hSw; simp only [List.getElem_toArray, List.getElem_cons_zero, List.getElem_cons_succ]; go_simp; try rfl
      simp only [Act.put, List.getElem_toArray, List.getElem_cons_zero, List.getElem_cons_succ, List.setIfInBounds_toArray, List.set_cons_zero, List.set_cons_succ]
      refine z_take 28 (v := ?_) rfl (by kernel_rfl) (by kernel_rfl) (by kernel_rfl) (by kernel_rfl) (fun _ _ _ h => h) hHeld (by rfl) (fun w hSw => ?_) ?_
      rotate_left
      · obtain ⟨hSw1, hSw2, hSw3, hSw4, hSw5, hSw6⟩ := hSw; simp only [List.getElem_toArray, List.getElem_cons_zero, List.getElem_cons_succ]; go_simp; try rfl
      simp only [Act.put, List.getElem_toArray, List.getElem_cons_zero, List.getElem_cons_succ, List.setIfInBounds_toArray, List.set_cons_zero, List.set_cons_succ]
      refine z_take 29 (v := ?_) rfl (by kernel_rfl) (by kernel_rfl) (by kernel_rfl) (by kernel_rfl) (fun _ _ _ h => h) hHeld (by rfl) (fun w hSw => ?_) ?_
      rotate_left
      · obtain ⟨hSw1, hSw2, hSw3, hSw4, hSw5, hSw6⟩ := hSw; simp only [List.getElem_toArray, List.getElem_cons_zero, List.getElem_cons_succ]; go_simp; try rfl
      simp only [Act.put, List.getElem_toArray, List.getElem_cons_zero, List.getElem_cons_succ, List.setIfInBounds_toArray, List.set_cons_zero, List.set_cons_succ]
      refine z_take 30 (v := ?_) rfl (by kernel_rfl) (by kernel_rfl) (by kernel_rfl) (by kernel_rfl) (fun _ _ _ h => h) hHeld (by rfl) (fun w hSw => ?_) ?_
      rotate_left
      · obtain ⟨hSw1, hSw2, hSw3, hSw4, hSw5, hSw6⟩ := hSw; simp only [List.getElem_toArray, List.getElem_cons_zero, List.getElem_cons_succ]; go_simp; try rfl
      simp only [Act.put, List.getElem_toArray, List.getElem_cons_zero, List.getElem_cons_succ, List.setIfInBounds_toArray, List.set_cons_zero, List.set_cons_succ]
      refine z_take 31 (v := ?_) rfl (by kernel_rfl) (by kernel_rfl) (by kernel_rfl) (by kernel_rfl) (fun _ _ _ h => h) hHeld (by rfl) (fun w hSw => ?_) ?_
      rotate_left
      · obtain ⟨hSw1, hSw2, hSw3, hSw4, hSw5, hSw6⟩ := hSw; simp only [List.getElem_toArray, List.getElem_cons_zero, List.getElem_cons_succ]; go_simp; try rfl
      simp only [Act.put, List.getElem_toArray, List.getElem_cons_zero, List.getElem_cons_succ, List.setIfInBounds_toArray, List.set_cons_zero, List.set_cons_succ]
      refine z_take 32 (v := ?_) rfl (by kernel_rfl) (by kernel_rfl) (by kernel_rfl) (by kernel_rfl) (fun _ _ _ h => h) hHeld (by rfl) (fun w hSw => ?_) ?_
      rotate_left
      · obtain ⟨hSw1, hSw2, hSw3, hSw4, hSw5, hSw6⟩ := hSw; simp only [List.getElem_toArray, List.getElem_cons_zero, List.getElem_cons_succ]; go_simp; try rfl
      simp only [Act.put, List.getElem_toArray, List.getElem_cons_zero, List.getElem_cons_succ, List.setIfInBounds_toArray, List.set_cons_zero, List.set_cons_succ]
      refine z_take 33 (v := ?_) rfl (by kernel_rfl) (by kernel_rfl) (by kernel_rfl) (by kernel_rfl) (fun _ _ _ h => h) hHeld (by rfl) (fun w hSw => ?_) ?_
      rotate_left
      · obtain ⟨hSw1, hSw2, hSw3, hSw4, hSw5, hSw6⟩ := hSw; simp only [List.getElem_toArray, List.getElem_cons_zero, List.getElem_cons_succ]; go_simp; try rfl
      simp only [Act.put, List.getElem_toArray, List.getElem_cons_zero, List.getElem_cons_succ, List.setIfInBounds_toArray, List.set_cons_zero, List.set_cons_succ]
      refine z_take 34 (v := ?_) rfl (by kernel_rfl) (by kernel_rfl) (by kernel_rfl) (by kernel_rfl) (fun _ _ _ h => h) hHeld (by rfl) (fun w hSw => ?_) ?_
      rotate_left
      · obtain ⟨hSw1, hSw2, hSw3, hSw4, hSw5, hSw6⟩ := hSw; simp only [List.getElem_toArray, List.getElem_cons_zero, List.getElem_cons_succ]; go_simp; try rfl
      simp only [Act.put, List.getElem_toArray, List.getElem_cons_zero, List.getElem_cons_succ, List.setIfInBounds_toArray, List.set_cons_zero, List.set_cons_succ]
      refine z_take 35 (v := ?_) rfl (by kernel_rfl) (by kernel_rfl) (by kernel_rfl) (by kernel_rfl) (fun _ _ _ h => h) hHeld (by rfl) (fun w hSw => ?_) ?_
      rotate_left
      · obtain ⟨hSw1, hSw2, hSw3, hSw4, hSw5, hSw6⟩ := hSw; simp only [List.getElem_toArray, List.getElem_cons_zero, List.getElem_cons_succ]; go_simp; try rfl
      simp only [Act.put, List.getElem_toArray, List.getElem_cons_zero, List.getElem_cons_succ, List.setIfInBounds_toArray, List.set_cons_zero, List.set_cons_succ]
      refine z_done (by kernel_rfl) ?_ _
      clear hHeld
      go_wp2
      go_roundw
      case rel => exact ⟨k + 1, by omega, by go_num, HP.out⟩
      case measure => simp [intOf]; omega
    · have t0 : ¬ (k : Int) + 1 < (NL : Int) := by omega
      replace HK := Lib.hid (HK.out.quiet hkp)
      clear hkp
      go_wp2_with fail
      refine (lives_any wr).mono ?_
      rintro e w99 ⟨rfl, hk⟩
      replace HK := Lib.hid (HK.out.quiet hk)
      clear hk
      go_wp2
      go_ret
      exact ⟨rfl, HK.out⟩
end Go.Proofs.Ytllpeenjfjobaaa
