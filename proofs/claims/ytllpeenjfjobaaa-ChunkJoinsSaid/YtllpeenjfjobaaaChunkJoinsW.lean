/-
  The law ChunkJoins: the walk. Conditions: the arguments are what came in.
-/
import Derived.Test.YtllpeenjfjobaaaLives26
import Derived.Test.YtllpeenjfjobaaaByt
import Derived.Test.YtllpeenjfjobaaaFew
import Derived.Test.YtllpeenjfjobaaaJoin
import Derived.Test.YtllpeenjfjobaaaRowsIn
namespace Go.Proofs.Ytllpeenjfjobaaa
open Go.RowKit

theorem strOf_add (a b : List UInt8) : strOf a ++ strOf b = strOf (a ++ b) := by
  apply ByteArray.ext
  simp [strOf]
/-- The first rows, and of each the first bytes. -/
def fews (rs : List (List UInt8)) (k : Nat) : List (List UInt8) := (rs.take k).map (·.take 30)
theorem fews_snoc (rs : List (List UInt8)) (k : Nat) (r : List UInt8) (h : rs[k]? = some r) : fews rs (k + 1) = fews rs k ++ [r.take 30] := by
  unfold fews
  rw [List.take_succ_eq_append_getElem (List.getElem?_eq_some_iff.1 h).1, (List.getElem?_eq_some_iff.1 h).2, List.map_append]
  rfl
theorem fews_flat (rs : List (List UInt8)) (k : Nat) : (fews rs k).flatten.length ≤ 30 * k := by
  unfold fews
  induction k generalizing rs with
  | zero => simp
  | succ k ih =>
    cases rs with
    | nil => simp
    | cons r rs =>
      have := ih rs
      simp only [List.take_succ_cons, List.map_cons, List.flatten_cons, List.length_append, List.length_take]
      omega
theorem fews_len (rs : List (List UInt8)) (k : Nat) (h : k ≤ rs.length) : (fews rs k).length = k := by unfold fews; rw [List.length_map, List.length_take]; omega

def JlRel (w : World) (base : Nat) (rs : List (List UInt8)) (s few i : Value) (wr : World) : Prop :=
  ∃ (k : Nat) (so : Option Addr) (co : Nat) (vs : List Value), k ≤ 3 ∧ k ≤ rs.length ∧ i = .int .i64 (k : Int) ∧ s = .string (strOf (fews rs k).flatten) ∧ few = .slice so k co ∧ wr.ownsRow base 22 1 (.slice so k co) k vs ∧ RowsO wr base vs (fews rs k) ∧ Keeps (fun _ => False) w wr

set_option maxHeartbeats 2000000 in
set_option maxRecDepth 10000 in
theorem chunkJoins_walk (sa : Option Addr) (n cap : Nat) (l : List Int) (sr : Option Addr) (m cr : Nat) (vr : List Value) (rs : List (List UInt8)) (w : World) (hl : Sl w sa n cap (IV l)) (hb : ∀ z ∈ l, -9223372036854775808 ≤ z ∧ z ≤ 9223372036854775807) (hsr : Sl w sr m cr vr) (hrs : RowsS w vr rs) :
    Calls Try.prog 8 #[.slice sa n cap, .slice sr m cr] w fun e w' => e = .returned (.bool true) ∧ Keeps (fun _ => False) w w' := by
  have HA := Lib.hid (byt_any sa n cap l w hl hb)
  have hmc := hsr.le
  have hmb := hsr.capB
  have hrm : rs.length = m := by rw [← hrs.len]; exact hsr.len
  have Sr := Lib.hid hsr
  have Rr := Lib.hid hrs
  have HM := Lib.hid hrm
  clear hl hb hsr hrs hrm
  go_enter Try.func8, Try.ntmps8
  have HK := Lib.hid (Keeps.refl (fun _ => False) w)
  go_wp2_with fail
  refine HA.out.mono ?_
  rintro e w1 ⟨s1, c1, rfl, hown, hk⟩
  replace HK := Lib.hid (HK.out.quiet hk)
  replace Sr := Lib.hid (Sr.out.quiet hk)
  replace Rr := Lib.hid (Rr.out.quiet hk)
  have hlen := byt_length l
  generalize byt l = b at *
  obtain ⟨nb, hnb⟩ : ∃ nb, b.length = nb := ⟨_, rfl⟩
  rw [hnb] at hown hlen ⊢
  have hb3 : nb ≤ 300 := by omega
  have Sb := Lib.hid (Sl.of_own hown)
  have HN := Lib.hid hnb
  clear HA hown hk hlen hnb
  obtain ⟨B, hB⟩ : ∃ B, w1.heap.size = B := ⟨_, rfl⟩
  have HB := Lib.hid hB
  clear hB
  go_wp2_with fail
  go_loopw [6, 7, 8] (fun s few i wr => JlRel w1 B rs s few i wr) (fun _ _ i _ => 3 - (intOf i).toNat)
  case atStart => exact ⟨0, none, 0, [], by omega, Nat.zero_le _, rfl, rfl, rfl, World.ownsRow_nil _ _ _ _, RowsO.nil _ _, Keeps.refl _ _⟩
  case round =>
    obtain ⟨k, so, co, vs, hk3, hkr, rfl, rfl, rfl, hown, hrows, hkp⟩ := hrel
    have hsz := hkp.size
    rw [HB.out] at hsz
    have HR := Lib.hid (And.intro hkr (And.intro hown (And.intro hrows hkp)))
    clear hkr hown hrows hkp
    have hend : (¬ (k < m) ∨ ¬ (k < 3)) → Hid (True) := fun _ => trivial
    clear hend
    by_cases hlt : k < m
    · by_cases hlt3 : k < 3
      · obtain ⟨r, hr⟩ : ∃ r, rs[k]? = some r := ⟨_, List.getElem?_eq_getElem (by have := HM.out; omega)⟩
        obtain ⟨b2, o2, rfl⟩ := Sr.out.isSome (by omega)
        obtain ⟨sx, cx, hvx, hsx⟩ := Rr.out.row k r hr
        have d1 := (Sr.out.quiet HR.out.2.2.2).cell hvx
        have HF := Lib.hid (few_any sx r.length cx 30 r wr (hsx.quiet HR.out.2.2.2) (by omega))
        have hsn := fews_snoc rs k r hr
        have hfl : (r.take 30).length ≤ 30 := by rw [List.length_take]; omega
        generalize r.take 30 = r3 at *
        obtain ⟨n3, hn3⟩ : ∃ q, r3.length = q := ⟨_, rfl⟩
        rw [hn3] at HF hfl
        have HX := Lib.hid (And.intro hsn hn3)
        have t0 : (0 : Int) ≤ (k : Int) := by omega
        have t1 : (k : Int) < (m : Int) := by omega
        have t2 : (k : Int) < 3 := by omega
        generalize r.length = rl at *
        clear hr hvx hsx hsn hn3
        go_wp2_with fail
        refine HF.out.mono ?_
        rintro e w2 ⟨s3, c3, rfl, hown, hk⟩
        have h1 := HR.out.2.1
        have h2 := HR.out.2.2.1
        have hlow : ∀ (i : Nat) v kk, vs[i]? = some v → v.ownBlock = some kk → kk < wr.heap.size := fun i v kk hv e => (h2.lt hv e).2.1
        have h3 := (h2.quiet hk).snoc HX.out.2 hown hsz hlow
        rw [← HX.out.1] at h3
        have hcv := run_strSl (Sl.of_own hown)
        have HS := Lib.hid (And.intro (own_keep h1 hk (fun _ _ h => h)) (And.intro h3 (HR.out.2.2.2.quiet hk)))
        have hsz2 : B ≤ w2.heap.size := Nat.le_trans hsz hk.size
        have S3 := Lib.hid (Sl.of_own hown)
        clear h1 h2 hlow h3 hcv hown hk HF d1
        have hcv : ∀ w3, Keeps (fun k => so = some ⟨k, 0, none⟩) w2 w3 → RowsO w3 B (vs ++ [.slice s3 n3 c3]) (fews rs (k + 1)) ∧ (convert 22 9 (.slice s3 n3 c3)).run Try.prog w3 = .ok (.string (strOf r3)) w3 := by
          intro w3 hk3
          have h4 : RowsO w3 B (vs ++ [.slice s3 n3 c3]) (fews rs (k + 1)) := by
            refine HS.out.2.1.keep hk3 (fun kk _ _ => ?_)
            rintro ⟨i, v, hv, ev⟩ e2
            exact HS.out.2.1.apartOuter HS.out.1 hv ev e2
          refine ⟨h4, ?_⟩
          obtain ⟨s4, c4, hv4, hs4⟩ := h4.reads.row (fews rs k).length r3 (by rw [HX.out.1, List.getElem?_append_right (Nat.le_refl _), Nat.sub_self]; rfl)
          have hl : vs.length = (fews rs k).length := HR.out.2.2.1.len
          rw [← hl, List.getElem?_append_right (Nat.le_refl _), Nat.sub_self] at hv4
          simp only [List.getElem?_cons_zero, Option.some.injEq, Value.slice.injEq] at hv4
          obtain ⟨rfl, _, rfl⟩ := hv4
          have := run_strSl hs4
          rwa [HX.out.2] at this
        have HC := Lib.hid hcv
        have hff := fews_flat rs k
        have hcs : (strOf (fews rs k).flatten).size + (strOf r3).size ≤ 1000 := by rw [strOf_size, strOf_size]; have := HX.out.2; omega
        clear hcv hff
        go_wp2_with (at_builtin; refine wpList_pushV _ s3 n3 c3 rfl _ _ rfl B so k co vs rfl HS.out.1 rfl (by omega) hsz2 ?_; intro sa5 cap5 w5 hown2 hk2 hs5; have H5 := Lib.hid (And.intro hown2 (And.intro (HC.out w5 hk2).1 (HS.out.2.2.pushed HS.out.1 (by rw [HB.out]; exact Nat.le_refl _) hk2))); have hcc := (HC.out w5 hk2).2; clear hown2 hk2)
        go_roundw
        case rel =>
          refine ⟨k + 1, sa5, cap5, _, by omega, by have := HM.out; omega, by go_num, ?_, rfl, H5.out.1, H5.out.2.1, H5.out.2.2⟩
          rw [HX.out.1, List.flatten_append, ← strOf_add]
          simp
        case measure => simp [intOf]; omega
      · have t0 : (0 : Int) ≤ (k : Int) := by omega
        have t1 : (k : Int) < (m : Int) := by omega
        have t2 : ¬ (k : Int) < 3 := by omega
        have hff := fews_flat rs k
        have hcc := cut_count b
        have hnn := HN.out
        have HT := Lib.hid (cut_any s1 nb c1 b wr.drew ((Sb.out.quiet HR.out.2.2.2).quiet (Keeps.refl _ _).drew) (by omega) (by omega))
        have hcb : (cutL b).length ≤ 1000000 := by omega
        have HJ2 : Hid (Sl wr so k co vs ∧ RowsS wr vs (fews rs k) ∧ (fews rs k).flatten.length ≤ 1000000) := ⟨Sl.of_own HR.out.2.1, HR.out.2.2.1.reads, by omega⟩
        have d1 := run_strSl ((Sb.out.quiet HR.out.2.2.2).quiet (Keeps.refl _ _).drew)
        have HJB := Lib.hid (cut_join b)
        obtain ⟨fs, hfs⟩ : ∃ q, fews rs k = q := ⟨_, rfl⟩
        rw [hfs] at HJ2 hff ⊢
        obtain ⟨fl, hfl⟩ : ∃ q, fs.flatten = q := ⟨_, rfl⟩
        rw [hfl] at HJ2 ⊢
        have e1 : ((strOf b).toList == (strOf b).toList) = true := beq_self_eq_true _
        have e2 : ((strOf fl).toList == (strOf fl).toList) = true := beq_self_eq_true _
        replace HK := Lib.hid (HK.out.quiet HR.out.2.2.2)
        have HFL := Lib.hid hfl
        clear hff hcc hnn hfs hfl
        go_wp2_with fail
        refine z_begin (fun w' => (convert 22 9 (.slice s1 nb c1)).run Try.prog w' = .ok (.string (strOf b)) w') 17 (by kernel_rfl) (d1) (fun hHeld => ?_)
        have hk : Keeps (fun _ => False) wr (World.drew wr) := (Keeps.refl _ _).drew
        replace HK := Lib.hid (HK.out.quiet hk)
        clear d1
        have HQ := Lib.hid hk
        clear hk
        generalize World.drew wr = vq at *
        refine z_take 0 (v := ?_) rfl (by kernel_rfl) (by kernel_rfl) (by kernel_rfl) (by kernel_rfl) (fun _ _ _ h => h) hHeld (by rfl) (fun w hSw => ?_) ?_
        rotate_left
        · have hSw1 := hSw; clear hSw; simp only [List.getElem_toArray, List.getElem_cons_zero]; go_simp; try rfl
        simp only [Act.put, List.getElem_toArray, List.getElem_cons_zero, List.setIfInBounds_toArray, List.set_cons_zero, List.set_cons_succ]
        refine z_take 4 (v := ?_) rfl (by kernel_rfl) (by kernel_rfl) (by kernel_rfl) (by kernel_rfl) (fun _ _ _ h => h) hHeld (by rfl) (fun w hSw => ?_) ?_
        rotate_left
        · have hSw1 := hSw; clear hSw; simp only [List.getElem_toArray, List.getElem_cons_zero, List.getElem_cons_succ]; go_simp; try rfl
        simp only [Act.put, List.getElem_toArray, List.getElem_cons_zero, List.getElem_cons_succ, List.setIfInBounds_toArray, List.set_cons_zero, List.set_cons_succ]
        refine z_take 5 (v := ?_) rfl (by kernel_rfl) (by kernel_rfl) (by kernel_rfl) (by kernel_rfl) (fun _ _ _ h => h) hHeld (by rfl) (fun w hSw => ?_) ?_
        rotate_left
        · have hSw1 := hSw; clear hSw; simp only [List.getElem_toArray, List.getElem_cons_zero, List.getElem_cons_succ]; go_simp; try rfl
        simp only [Act.put, List.getElem_toArray, List.getElem_cons_zero, List.getElem_cons_succ, List.setIfInBounds_toArray, List.set_cons_zero, List.set_cons_succ]
        refine z_one 1 rfl (by kernel_rfl) (by rfl) (fun K hK => ?_)
        simp only [List.getElem_toArray, List.getElem_cons_zero, List.getElem_cons_succ]
        go_simp
        refine (HT.out).mono ?_
        rintro e v1 ⟨s7, c7, vs7, rfl, hown, hrows, hk⟩
        have H7 := Lib.hid (And.intro (Sl.of_own hown) hrows.reads)
        replace HK := Lib.hid (HK.out.quiet hk)
        replace HQ := Lib.hid (HQ.out.quiet hk)
        refine hK _ _ (Or.inr ?_) (fun hHeld => ?_)
        · exact run_strSl ((Sb.out.quiet HR.out.2.2.2).quiet HQ.out)
        clear hK K hk hown hrows HT
        replace hHeld := hHeld.resolve_left (by decide)
        try simp only [Act.put, List.setIfInBounds_toArray, List.set_cons_zero, List.set_cons_succ]
        have HT := Lib.hid (join_any s7 _ c7 vs7 (cutL b) v1 H7.out.1 H7.out.2 (by omega) (by rw [HJB.out]; have := HN.out; omega))
        rw [HJB.out, HN.out] at HT
        refine z_one 2 rfl (by kernel_rfl) (by rfl) (fun K hK => ?_)
        simp only [List.getElem_toArray, List.getElem_cons_zero, List.getElem_cons_succ]
        go_simp
        refine (HT.out).mono ?_
        rintro e v2 ⟨s8, c8, x8, rfl, hown, hc1, hc2, hk⟩
        have hcv := run_strSl ((Sl.of_own hown).recap hc2 hc1)
        replace HK := Lib.hid (HK.out.quiet hk)
        replace HQ := Lib.hid (HQ.out.quiet hk)
        refine hK _ _ (Or.inr ?_) (fun hHeld => ?_)
        · exact run_strSl ((Sb.out.quiet HR.out.2.2.2).quiet HQ.out)
        clear hK K hk hown HT H7
        replace hHeld := hHeld.resolve_left (by decide)
        try simp only [Act.put, List.setIfInBounds_toArray, List.set_cons_zero, List.set_cons_succ]
        refine z_one 3 rfl (by kernel_rfl) (by rfl) (fun K hK => ?_)
        simp only [List.getElem_toArray, List.getElem_cons_zero, List.getElem_cons_succ]
        go_simp
        refine hK _ _ (Or.inr ?_) (fun hHeld => ?_)
        · exact hHeld
        clear hK K
        replace hHeld := hHeld.resolve_left (by decide)
        try simp only [Act.put, List.setIfInBounds_toArray, List.set_cons_zero, List.set_cons_succ]
        clear hcv
        refine z_one 6 rfl (by kernel_rfl) (by rfl) (fun K hK => ?_)
        simp only [List.getElem_toArray, List.getElem_cons_zero, List.getElem_cons_succ]
        go_simp
        refine hK _ _ (Or.inr ?_) (fun hHeld => ?_)
        · exact hHeld
        clear hK K
        replace hHeld := hHeld.resolve_left (by decide)
        try simp only [Act.put, List.setIfInBounds_toArray, List.set_cons_zero, List.set_cons_succ]
        refine z_one 7 rfl (by kernel_rfl) (by rfl) (fun K hK => ?_)
        simp only [List.getElem_toArray, List.getElem_cons_zero, List.getElem_cons_succ]
        go_simp
        refine hK _ _ (Or.inr ?_) (fun hHeld => ?_)
        · exact hHeld
        clear hK K
        replace hHeld := hHeld.resolve_left (by decide)
        try simp only [Act.put, List.setIfInBounds_toArray, List.set_cons_zero, List.set_cons_succ]
        refine z_take 8 (v := ?_) rfl (by kernel_rfl) (by kernel_rfl) (by kernel_rfl) (by kernel_rfl) (fun _ _ _ h => h) hHeld (by rfl) (fun w hSw => ?_) ?_
        rotate_left
        · have hSw1 := hSw; clear hSw; simp only [List.getElem_toArray, List.getElem_cons_zero, List.getElem_cons_succ]; go_simp; try rfl
        simp only [Act.put, List.getElem_toArray, List.getElem_cons_zero, List.getElem_cons_succ, List.setIfInBounds_toArray, List.set_cons_zero, List.set_cons_succ]
        refine z_take 11 (v := ?_) rfl (by kernel_rfl) (by kernel_rfl) (by kernel_rfl) (by kernel_rfl) (fun _ _ _ h => h) hHeld (by rfl) (fun w hSw => ?_) ?_
        rotate_left
        · have hSw1 := hSw; clear hSw; simp only [List.getElem_toArray, List.getElem_cons_zero, List.getElem_cons_succ]; go_simp; try rfl
        simp only [Act.put, List.getElem_toArray, List.getElem_cons_zero, List.getElem_cons_succ, List.setIfInBounds_toArray, List.set_cons_zero, List.set_cons_succ]
        have HT := Lib.hid (join_any so _ co vs fs v2 (HJ2.out.1.quiet HQ.out) (HJ2.out.2.1.quiet HQ.out) (by omega) (by rw [HFL.out]; exact HJ2.out.2.2))
        rw [HFL.out] at HT
        refine z_one 9 rfl (by kernel_rfl) (by rfl) (fun K hK => ?_)
        simp only [List.getElem_toArray, List.getElem_cons_zero, List.getElem_cons_succ]
        go_simp
        refine (HT.out).mono ?_
        rintro e v3 ⟨s9, c9, x9, rfl, hown, hc3, hc4, hk⟩
        have hcv := run_strSl ((Sl.of_own hown).recap hc4 hc3)
        replace HK := Lib.hid (HK.out.quiet hk)
        replace HQ := Lib.hid (HQ.out.quiet hk)
        refine hK _ _ (Or.inr ?_) (fun hHeld => ?_)
        · exact run_strSl ((Sb.out.quiet HR.out.2.2.2).quiet HQ.out)
        clear hK K hk hown HT
        replace hHeld := hHeld.resolve_left (by decide)
        try simp only [Act.put, List.setIfInBounds_toArray, List.set_cons_zero, List.set_cons_succ]
        refine z_one 10 rfl (by kernel_rfl) (by rfl) (fun K hK => ?_)
        simp only [List.getElem_toArray, List.getElem_cons_zero, List.getElem_cons_succ]
        go_simp
        refine hK _ _ (Or.inr ?_) (fun hHeld => ?_)
        · exact hHeld
        clear hK K
        replace hHeld := hHeld.resolve_left (by decide)
        try simp only [Act.put, List.setIfInBounds_toArray, List.set_cons_zero, List.set_cons_succ]
        clear hcv
        refine z_one 12 rfl (by kernel_rfl) (by rfl) (fun K hK => ?_)
        simp only [List.getElem_toArray, List.getElem_cons_zero, List.getElem_cons_succ]
        go_simp
        refine hK _ _ (Or.inr ?_) (fun hHeld => ?_)
        · exact hHeld
        clear hK K
        replace hHeld := hHeld.resolve_left (by decide)
        try simp only [Act.put, List.setIfInBounds_toArray, List.set_cons_zero, List.set_cons_succ]
        refine z_one 13 rfl (by kernel_rfl) (by rfl) (fun K hK => ?_)
        simp only [List.getElem_toArray, List.getElem_cons_zero, List.getElem_cons_succ]
        go_simp
        refine hK _ _ (Or.inr ?_) (fun hHeld => ?_)
        · exact hHeld
        clear hK K
        replace hHeld := hHeld.resolve_left (by decide)
        try simp only [Act.put, List.setIfInBounds_toArray, List.set_cons_zero, List.set_cons_succ]
        refine z_one 14 rfl (by kernel_rfl) (by rfl) (fun K hK => ?_)
        simp only [List.getElem_toArray, List.getElem_cons_zero, List.getElem_cons_succ]
        go_simp
        refine hK _ _ (Or.inr ?_) (fun hHeld => ?_)
        · exact hHeld
        clear hK K
        replace hHeld := hHeld.resolve_left (by decide)
        try simp only [Act.put, List.setIfInBounds_toArray, List.set_cons_zero, List.set_cons_succ]
        refine z_one 15 rfl (by kernel_rfl) (by rfl) (fun K hK => ?_)
        simp only [List.getElem_toArray, List.getElem_cons_zero, List.getElem_cons_succ]
        go_simp
        refine (lives_any v3).mono ?_
        rintro e v4 ⟨rfl, hk⟩
        replace HK := Lib.hid (HK.out.quiet hk)
        replace HQ := Lib.hid (HQ.out.quiet hk)
        refine hK _ _ (Or.inr ?_) (fun hHeld => ?_)
        · exact run_strSl ((Sb.out.quiet HR.out.2.2.2).quiet HQ.out)
        clear hK K hk 
        replace hHeld := hHeld.resolve_left (by decide)
        try simp only [Act.put, List.setIfInBounds_toArray, List.set_cons_zero, List.set_cons_succ]
        refine z_one 16 rfl (by kernel_rfl) (by rfl) (fun K hK => ?_)
        simp only [List.getElem_toArray, List.getElem_cons_zero, List.getElem_cons_succ]
        go_simp
        refine hK _ _ (Or.inr ?_) (fun hHeld => ?_)
        · exact hHeld
        clear hK K
        replace hHeld := hHeld.resolve_left (by decide)
        try simp only [Act.put, List.setIfInBounds_toArray, List.set_cons_zero, List.set_cons_succ]
        refine z_one 17 rfl (by kernel_rfl) (by rfl) (fun K hK => ?_)
        simp only [List.getElem_toArray, List.getElem_cons_zero, List.getElem_cons_succ]
        go_simp
        refine hK _ _ (Or.inl rfl) (fun _ => ?_)
        clear hK K
        try simp only [Act.put, List.setIfInBounds_toArray, List.set_cons_zero, List.set_cons_succ]
        refine z_done (by kernel_rfl) ?_ _
        clear hHeld
        go_wp2
        go_ret
        exact ⟨rfl, HK.out⟩
    · have t0 : (0 : Int) ≤ (k : Int) := by omega
      have t1 : ¬ (k : Int) < (m : Int) := by omega
      have hff := fews_flat rs k
      have hcc := cut_count b
      have hnn := HN.out
      have HT := Lib.hid (cut_any s1 nb c1 b wr.drew ((Sb.out.quiet HR.out.2.2.2).quiet (Keeps.refl _ _).drew) (by omega) (by omega))
      have hcb : (cutL b).length ≤ 1000000 := by omega
      have HJ2 : Hid (Sl wr so k co vs ∧ RowsS wr vs (fews rs k) ∧ (fews rs k).flatten.length ≤ 1000000) := ⟨Sl.of_own HR.out.2.1, HR.out.2.2.1.reads, by omega⟩
      have d1 := run_strSl ((Sb.out.quiet HR.out.2.2.2).quiet (Keeps.refl _ _).drew)
      have HJB := Lib.hid (cut_join b)
      obtain ⟨fs, hfs⟩ : ∃ q, fews rs k = q := ⟨_, rfl⟩
      rw [hfs] at HJ2 hff ⊢
      obtain ⟨fl, hfl⟩ : ∃ q, fs.flatten = q := ⟨_, rfl⟩
      rw [hfl] at HJ2 ⊢
      have e1 : ((strOf b).toList == (strOf b).toList) = true := beq_self_eq_true _
      have e2 : ((strOf fl).toList == (strOf fl).toList) = true := beq_self_eq_true _
      replace HK := Lib.hid (HK.out.quiet HR.out.2.2.2)
      have HFL := Lib.hid hfl
      clear hff hcc hnn hfs hfl
      go_wp2_with fail
      refine z_begin (fun w' => (convert 22 9 (.slice s1 nb c1)).run Try.prog w' = .ok (.string (strOf b)) w') 17 (by kernel_rfl) (d1) (fun hHeld => ?_)
      have hk : Keeps (fun _ => False) wr (World.drew wr) := (Keeps.refl _ _).drew
      replace HK := Lib.hid (HK.out.quiet hk)
      clear d1
      have HQ := Lib.hid hk
      clear hk
      generalize World.drew wr = vq at *
      refine z_take 0 (v := ?_) rfl (by kernel_rfl) (by kernel_rfl) (by kernel_rfl) (by kernel_rfl) (fun _ _ _ h => h) hHeld (by rfl) (fun w hSw => ?_) ?_
      rotate_left
      · have hSw1 := hSw; clear hSw; simp only [List.getElem_toArray, List.getElem_cons_zero]; go_simp; try rfl
      simp only [Act.put, List.getElem_toArray, List.getElem_cons_zero, List.setIfInBounds_toArray, List.set_cons_zero, List.set_cons_succ]
      refine z_take 4 (v := ?_) rfl (by kernel_rfl) (by kernel_rfl) (by kernel_rfl) (by kernel_rfl) (fun _ _ _ h => h) hHeld (by rfl) (fun w hSw => ?_) ?_
      rotate_left
      · have hSw1 := hSw; clear hSw; simp only [List.getElem_toArray, List.getElem_cons_zero, List.getElem_cons_succ]; go_simp; try rfl
      simp only [Act.put, List.getElem_toArray, List.getElem_cons_zero, List.getElem_cons_succ, List.setIfInBounds_toArray, List.set_cons_zero, List.set_cons_succ]
      refine z_take 5 (v := ?_) rfl (by kernel_rfl) (by kernel_rfl) (by kernel_rfl) (by kernel_rfl) (fun _ _ _ h => h) hHeld (by rfl) (fun w hSw => ?_) ?_
      rotate_left
      · have hSw1 := hSw; clear hSw; simp only [List.getElem_toArray, List.getElem_cons_zero, List.getElem_cons_succ]; go_simp; try rfl
      simp only [Act.put, List.getElem_toArray, List.getElem_cons_zero, List.getElem_cons_succ, List.setIfInBounds_toArray, List.set_cons_zero, List.set_cons_succ]
      refine z_one 1 rfl (by kernel_rfl) (by rfl) (fun K hK => ?_)
      simp only [List.getElem_toArray, List.getElem_cons_zero, List.getElem_cons_succ]
      go_simp
      refine (HT.out).mono ?_
      rintro e v1 ⟨s7, c7, vs7, rfl, hown, hrows, hk⟩
      have H7 := Lib.hid (And.intro (Sl.of_own hown) hrows.reads)
      replace HK := Lib.hid (HK.out.quiet hk)
      replace HQ := Lib.hid (HQ.out.quiet hk)
      refine hK _ _ (Or.inr ?_) (fun hHeld => ?_)
      · exact run_strSl ((Sb.out.quiet HR.out.2.2.2).quiet HQ.out)
      clear hK K hk hown hrows HT
      replace hHeld := hHeld.resolve_left (by decide)
      try simp only [Act.put, List.setIfInBounds_toArray, List.set_cons_zero, List.set_cons_succ]
      have HT := Lib.hid (join_any s7 _ c7 vs7 (cutL b) v1 H7.out.1 H7.out.2 (by omega) (by rw [HJB.out]; have := HN.out; omega))
      rw [HJB.out, HN.out] at HT
      refine z_one 2 rfl (by kernel_rfl) (by rfl) (fun K hK => ?_)
      simp only [List.getElem_toArray, List.getElem_cons_zero, List.getElem_cons_succ]
      go_simp
      refine (HT.out).mono ?_
      rintro e v2 ⟨s8, c8, x8, rfl, hown, hc1, hc2, hk⟩
      have hcv := run_strSl ((Sl.of_own hown).recap hc2 hc1)
      replace HK := Lib.hid (HK.out.quiet hk)
      replace HQ := Lib.hid (HQ.out.quiet hk)
      refine hK _ _ (Or.inr ?_) (fun hHeld => ?_)
      · exact run_strSl ((Sb.out.quiet HR.out.2.2.2).quiet HQ.out)
      clear hK K hk hown HT H7
      replace hHeld := hHeld.resolve_left (by decide)
      try simp only [Act.put, List.setIfInBounds_toArray, List.set_cons_zero, List.set_cons_succ]
      refine z_one 3 rfl (by kernel_rfl) (by rfl) (fun K hK => ?_)
      simp only [List.getElem_toArray, List.getElem_cons_zero, List.getElem_cons_succ]
      go_simp
      refine hK _ _ (Or.inr ?_) (fun hHeld => ?_)
      · exact hHeld
      clear hK K
      replace hHeld := hHeld.resolve_left (by decide)
      try simp only [Act.put, List.setIfInBounds_toArray, List.set_cons_zero, List.set_cons_succ]
      clear hcv
      refine z_one 6 rfl (by kernel_rfl) (by rfl) (fun K hK => ?_)
      simp only [List.getElem_toArray, List.getElem_cons_zero, List.getElem_cons_succ]
      go_simp
      refine hK _ _ (Or.inr ?_) (fun hHeld => ?_)
      · exact hHeld
      clear hK K
      replace hHeld := hHeld.resolve_left (by decide)
      try simp only [Act.put, List.setIfInBounds_toArray, List.set_cons_zero, List.set_cons_succ]
      refine z_one 7 rfl (by kernel_rfl) (by rfl) (fun K hK => ?_)
      simp only [List.getElem_toArray, List.getElem_cons_zero, List.getElem_cons_succ]
      go_simp
      refine hK _ _ (Or.inr ?_) (fun hHeld => ?_)
      · exact hHeld
      clear hK K
      replace hHeld := hHeld.resolve_left (by decide)
      try simp only [Act.put, List.setIfInBounds_toArray, List.set_cons_zero, List.set_cons_succ]
      refine z_take 8 (v := ?_) rfl (by kernel_rfl) (by kernel_rfl) (by kernel_rfl) (by kernel_rfl) (fun _ _ _ h => h) hHeld (by rfl) (fun w hSw => ?_) ?_
      rotate_left
      · have hSw1 := hSw; clear hSw; simp only [List.getElem_toArray, List.getElem_cons_zero, List.getElem_cons_succ]; go_simp; try rfl
      simp only [Act.put, List.getElem_toArray, List.getElem_cons_zero, List.getElem_cons_succ, List.setIfInBounds_toArray, List.set_cons_zero, List.set_cons_succ]
      refine z_take 11 (v := ?_) rfl (by kernel_rfl) (by kernel_rfl) (by kernel_rfl) (by kernel_rfl) (fun _ _ _ h => h) hHeld (by rfl) (fun w hSw => ?_) ?_
      rotate_left
      · have hSw1 := hSw; clear hSw; simp only [List.getElem_toArray, List.getElem_cons_zero, List.getElem_cons_succ]; go_simp; try rfl
      simp only [Act.put, List.getElem_toArray, List.getElem_cons_zero, List.getElem_cons_succ, List.setIfInBounds_toArray, List.set_cons_zero, List.set_cons_succ]
      have HT := Lib.hid (join_any so _ co vs fs v2 (HJ2.out.1.quiet HQ.out) (HJ2.out.2.1.quiet HQ.out) (by omega) (by rw [HFL.out]; exact HJ2.out.2.2))
      rw [HFL.out] at HT
      refine z_one 9 rfl (by kernel_rfl) (by rfl) (fun K hK => ?_)
      simp only [List.getElem_toArray, List.getElem_cons_zero, List.getElem_cons_succ]
      go_simp
      refine (HT.out).mono ?_
      rintro e v3 ⟨s9, c9, x9, rfl, hown, hc3, hc4, hk⟩
      have hcv := run_strSl ((Sl.of_own hown).recap hc4 hc3)
      replace HK := Lib.hid (HK.out.quiet hk)
      replace HQ := Lib.hid (HQ.out.quiet hk)
      refine hK _ _ (Or.inr ?_) (fun hHeld => ?_)
      · exact run_strSl ((Sb.out.quiet HR.out.2.2.2).quiet HQ.out)
      clear hK K hk hown HT
      replace hHeld := hHeld.resolve_left (by decide)
      try simp only [Act.put, List.setIfInBounds_toArray, List.set_cons_zero, List.set_cons_succ]
      refine z_one 10 rfl (by kernel_rfl) (by rfl) (fun K hK => ?_)
      simp only [List.getElem_toArray, List.getElem_cons_zero, List.getElem_cons_succ]
      go_simp
      refine hK _ _ (Or.inr ?_) (fun hHeld => ?_)
      · exact hHeld
      clear hK K
      replace hHeld := hHeld.resolve_left (by decide)
      try simp only [Act.put, List.setIfInBounds_toArray, List.set_cons_zero, List.set_cons_succ]
      clear hcv
      refine z_one 12 rfl (by kernel_rfl) (by rfl) (fun K hK => ?_)
      simp only [List.getElem_toArray, List.getElem_cons_zero, List.getElem_cons_succ]
      go_simp
      refine hK _ _ (Or.inr ?_) (fun hHeld => ?_)
      · exact hHeld
      clear hK K
      replace hHeld := hHeld.resolve_left (by decide)
      try simp only [Act.put, List.setIfInBounds_toArray, List.set_cons_zero, List.set_cons_succ]
      refine z_one 13 rfl (by kernel_rfl) (by rfl) (fun K hK => ?_)
      simp only [List.getElem_toArray, List.getElem_cons_zero, List.getElem_cons_succ]
      go_simp
      refine hK _ _ (Or.inr ?_) (fun hHeld => ?_)
      · exact hHeld
      clear hK K
      replace hHeld := hHeld.resolve_left (by decide)
      try simp only [Act.put, List.setIfInBounds_toArray, List.set_cons_zero, List.set_cons_succ]
      refine z_one 14 rfl (by kernel_rfl) (by rfl) (fun K hK => ?_)
      simp only [List.getElem_toArray, List.getElem_cons_zero, List.getElem_cons_succ]
      go_simp
      refine hK _ _ (Or.inr ?_) (fun hHeld => ?_)
      · exact hHeld
      clear hK K
      replace hHeld := hHeld.resolve_left (by decide)
      try simp only [Act.put, List.setIfInBounds_toArray, List.set_cons_zero, List.set_cons_succ]
      refine z_one 15 rfl (by kernel_rfl) (by rfl) (fun K hK => ?_)
      simp only [List.getElem_toArray, List.getElem_cons_zero, List.getElem_cons_succ]
      go_simp
      refine (lives_any v3).mono ?_
      rintro e v4 ⟨rfl, hk⟩
      replace HK := Lib.hid (HK.out.quiet hk)
      replace HQ := Lib.hid (HQ.out.quiet hk)
      refine hK _ _ (Or.inr ?_) (fun hHeld => ?_)
      · exact run_strSl ((Sb.out.quiet HR.out.2.2.2).quiet HQ.out)
      clear hK K hk 
      replace hHeld := hHeld.resolve_left (by decide)
      try simp only [Act.put, List.setIfInBounds_toArray, List.set_cons_zero, List.set_cons_succ]
      refine z_one 16 rfl (by kernel_rfl) (by rfl) (fun K hK => ?_)
      simp only [List.getElem_toArray, List.getElem_cons_zero, List.getElem_cons_succ]
      go_simp
      refine hK _ _ (Or.inr ?_) (fun hHeld => ?_)
      · exact hHeld
      clear hK K
      replace hHeld := hHeld.resolve_left (by decide)
      try simp only [Act.put, List.setIfInBounds_toArray, List.set_cons_zero, List.set_cons_succ]
      refine z_one 17 rfl (by kernel_rfl) (by rfl) (fun K hK => ?_)
      simp only [List.getElem_toArray, List.getElem_cons_zero, List.getElem_cons_succ]
      go_simp
      refine hK _ _ (Or.inl rfl) (fun _ => ?_)
      clear hK K
      try simp only [Act.put, List.setIfInBounds_toArray, List.set_cons_zero, List.set_cons_succ]
      refine z_done (by kernel_rfl) ?_ _
      clear hHeld
      go_wp2
      go_ret
      exact ⟨rfl, HK.out⟩
end Go.Proofs.Ytllpeenjfjobaaa
