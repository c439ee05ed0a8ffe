/-
  The law ChunkCuts: the walk. Conditions: the arguments are what came in.
-/
import Derived.Test.YtllpeenjfjobaaaLives26
import Derived.Test.YtllpeenjfjobaaaByt
import Derived.Test.YtllpeenjfjobaaaFew
namespace Go.Proofs.Ytllpeenjfjobaaa
open Go.RowKit

def CcRel (w : World) (N : Nat) (i : Value) (wr : World) : Prop := ∃ k : Nat, k ≤ N ∧ i = .int .i64 (k : Int) ∧ Keeps (fun _ => False) w wr
theorem kcell {w w' : World} (hk : Keeps (fun _ => False) w w') {p : Addr} {v : Value} (h : w.cell? p = some v) : w'.cell? p = some v := by
  rw [hk.cell (World.block_lt_of_cell? _ _ h) (fun h => h)]; exact h

set_option maxHeartbeats 2000000 in
set_option maxRecDepth 10000 in
theorem chunkCuts_walk (sb : Option Addr) (mb cb : Nat) (lb : List UInt8) (sa : Option Addr) (n cap : Nat) (l : List Int) (w : World) (hlb : Sl w sb mb cb (BV lb)) (hl : Sl w sa n cap (IV l)) (hb : ∀ z ∈ l, -9223372036854775808 ≤ z ∧ z ≤ 9223372036854775807) :
    Calls Try.prog 3 #[.slice sb mb cb, .slice sa n cap] w fun e w' => e = .returned (.bool true) ∧ Keeps (fun _ => False) w w' := by
  have HI := Lib.hid (And.intro hl hb)
  have HA := Lib.hid (few_any sb mb cb 200 lb w hlb (by omega))
  clear hl hb hlb
  go_enter Try.func3, Try.ntmps3
  have HK := Lib.hid (Keeps.refl (fun _ => False) w)
  go_wp2_with fail
  refine HA.out.mono ?_
  rintro e w1 ⟨s1, c1, rfl, hown, hk⟩
  replace HK := Lib.hid (HK.out.quiet hk)
  have hl1 : (lb.take 200).length ≤ 300 := by rw [List.length_take]; omega
  have H1 := Lib.hid (Sl.of_own hown)
  generalize lb.take 200 = b1 at *
  obtain ⟨n1, hn1⟩ : ∃ x, b1.length = x := ⟨_, rfl⟩
  rw [hn1] at H1 hl1 ⊢
  have HB := Lib.hid (byt_any sa n cap l w1 (HI.out.1.quiet HK.out) HI.out.2)
  clear HA hown hk hn1
  go_wp2_with fail
  refine HB.out.mono ?_
  rintro e w2 ⟨s2, c2, rfl, hown, hk⟩
  replace HK := Lib.hid (HK.out.quiet hk)
  replace H1 := Lib.hid (H1.out.quiet hk)
  have hl2 := byt_length l
  have H2 := Lib.hid (Sl.of_own hown)
  generalize byt l = b2 at *
  obtain ⟨n2, hn2⟩ : ∃ x, b2.length = x := ⟨_, rfl⟩
  rw [hn2] at H2 hl2 ⊢
  clear HB hown hk hn2
  obtain ⟨w3, hw3⟩ : ∃ w3, w2.alloc (.cells #[.slice s1 n1 c1, .slice s2 n2 c2] 22) = w3 := ⟨_, rfl⟩
  have hk : Keeps (fun _ => False) w2 w3 := by rw [← hw3]; exact (Keeps.refl _ w2).alloc _
  have HX : Hid (∀ k, k < 2 → ∃ s n c b, w3.cell? ⟨w2.heap.size, k, none⟩ = some (.slice s n c) ∧ Sl w3 s n c (BV b) ∧ n ≤ 300) := by
    intro k hk2
    have hq : w3.heap[w2.heap.size]? = some (.cells #[.slice s1 n1 c1, .slice s2 n2 c2] 22 (0, 0)) := by rw [← hw3]; exact World.alloc_heap_new w2 _
    rcases (show k = 0 ∨ k = 1 by omega) with rfl | rfl
    · exact ⟨s1, n1, c1, b1, by rw [cellAt hq]; rfl, H1.out.quiet hk, hl1⟩
    · exact ⟨s2, n2, c2, b2, by rw [cellAt hq]; rfl, H2.out.quiet hk, by omega⟩
  replace HK := Lib.hid (HK.out.quiet hk)
  clear hk H1 H2 hl1 hl2 HI
  obtain ⟨ba, hba⟩ : ∃ g, w2.heap.size = g := ⟨_, rfl⟩
  rw [hba] at HX
  go_wp2_with fail
  clear hw3 hba
  go_loopw [6] (fun i wr => CcRel w3 2 i wr) (fun i _ => 2 - (intOf i).toNat)
  case atStart => exact ⟨0, Nat.zero_le _, rfl, Keeps.refl _ _⟩
  case round =>
    obtain ⟨k, hk2, rfl, hkp⟩ := hrel
    by_cases hlt : k < 2
    · obtain ⟨s, m, c, b, d1, hs, hm⟩ := HX.out k hlt
      replace d1 := kcell hkp d1
      have HS := Lib.hid (hs.quiet hkp)
      have hcc := cut_count b
      have hbl : b.length = m := by have := hs.len; simpa using this
      have HP := Lib.hid hkp
      have HN := Lib.hid (show (cutL b).length ≤ 1000000000 by omega)
      have t0 : (k : Int) < 2 := by omega
      have t1 : (0 : Int) ≤ (k : Int) := by omega
      have hdec : decide (cutL b = cutL b) = true := by simp
      clear hs hkp hcc hbl
      go_wp2_with fail
      refine z_begin (fun w' => w'.cell? ⟨ba, k, none⟩ = some (.slice s m c)) 11 (by kernel_rfl) (d1) (fun hHeld => ?_)
      have hk : Keeps (fun _ => False) wr (World.drew wr) := (Keeps.refl _ _).drew
      replace HP := Lib.hid (HP.out.quiet hk)
      replace HS := Lib.hid (HS.out.quiet hk)
      clear hk d1
      generalize World.drew wr = vq at *
      refine z_take 0 (v := ?_) rfl (by kernel_rfl) (by kernel_rfl) (by kernel_rfl) (by kernel_rfl) (fun _ _ _ h => h) hHeld (by rfl) (fun w hSw => ?_) ?_
      rotate_left
      · have hSw1 := hSw; clear hSw; simp only [List.getElem_toArray, List.getElem_cons_zero]; go_simp; try rfl
      simp only [Act.put, List.getElem_toArray, List.getElem_cons_zero, List.setIfInBounds_toArray, List.set_cons_zero, List.set_cons_succ]
      refine z_take 1 (v := ?_) rfl (by kernel_rfl) (by kernel_rfl) (by kernel_rfl) (by kernel_rfl) (fun _ _ _ h => h) hHeld (by rfl) (fun w hSw => ?_) ?_
      rotate_left
      · have hSw1 := hSw; clear hSw; simp only [List.getElem_toArray, List.getElem_cons_zero, List.getElem_cons_succ]; go_simp; try rfl
      simp only [Act.put, List.getElem_toArray, List.getElem_cons_zero, List.getElem_cons_succ, List.setIfInBounds_toArray, List.set_cons_zero, List.set_cons_succ]
      refine z_take 2 (v := ?_) rfl (by kernel_rfl) (by kernel_rfl) (by kernel_rfl) (by kernel_rfl) (fun _ _ _ h => h) hHeld (by rfl) (fun w hSw => ?_) ?_
      rotate_left
      · have hSw1 := hSw; clear hSw; simp only [List.getElem_toArray, List.getElem_cons_zero, List.getElem_cons_succ]; go_simp; try rfl
      simp only [Act.put, List.getElem_toArray, List.getElem_cons_zero, List.getElem_cons_succ, List.setIfInBounds_toArray, List.set_cons_zero, List.set_cons_succ]
      refine z_take 3 (v := ?_) rfl (by kernel_rfl) (by kernel_rfl) (by kernel_rfl) (by kernel_rfl) (fun _ _ _ h => h) hHeld (by rfl) (fun w hSw => ?_) ?_
      rotate_left
      · have hSw1 := hSw; clear hSw; simp only [List.getElem_toArray, List.getElem_cons_zero, List.getElem_cons_succ]; go_simp; try rfl
      simp only [Act.put, List.getElem_toArray, List.getElem_cons_zero, List.getElem_cons_succ, List.setIfInBounds_toArray, List.set_cons_zero, List.set_cons_succ]
      refine z_take 5 (v := ?_) rfl (by kernel_rfl) (by kernel_rfl) (by kernel_rfl) (by kernel_rfl) (fun _ _ _ h => h) hHeld (by rfl) (fun w hSw => ?_) ?_
      rotate_left
      · have hSw1 := hSw; clear hSw; simp only [List.getElem_toArray, List.getElem_cons_zero, List.getElem_cons_succ]; go_simp; try rfl
      simp only [Act.put, List.getElem_toArray, List.getElem_cons_zero, List.getElem_cons_succ, List.setIfInBounds_toArray, List.set_cons_zero, List.set_cons_succ]
      refine z_take 6 (v := ?_) rfl (by kernel_rfl) (by kernel_rfl) (by kernel_rfl) (by kernel_rfl) (fun _ _ _ h => h) hHeld (by rfl) (fun w hSw => ?_) ?_
      rotate_left
      · have hSw1 := hSw; clear hSw; simp only [List.getElem_toArray, List.getElem_cons_zero, List.getElem_cons_succ]; go_simp; try rfl
      simp only [Act.put, List.getElem_toArray, List.getElem_cons_zero, List.getElem_cons_succ, List.setIfInBounds_toArray, List.set_cons_zero, List.set_cons_succ]
      refine z_take 7 (v := ?_) rfl (by kernel_rfl) (by kernel_rfl) (by kernel_rfl) (by kernel_rfl) (fun _ _ _ h => h) hHeld (by rfl) (fun w hSw => ?_) ?_
      rotate_left
      · have hSw1 := hSw; clear hSw; simp only [List.getElem_toArray, List.getElem_cons_zero, List.getElem_cons_succ]; go_simp; try rfl
      simp only [Act.put, List.getElem_toArray, List.getElem_cons_zero, List.getElem_cons_succ, List.setIfInBounds_toArray, List.set_cons_zero, List.set_cons_succ]
      refine z_take 8 (v := ?_) rfl (by kernel_rfl) (by kernel_rfl) (by kernel_rfl) (by kernel_rfl) (fun _ _ _ h => h) hHeld (by rfl) (fun w hSw => ?_) ?_
      rotate_left
      · have hSw1 := hSw; clear hSw; simp only [List.getElem_toArray, List.getElem_cons_zero, List.getElem_cons_succ]; go_simp; try rfl
      simp only [Act.put, List.getElem_toArray, List.getElem_cons_zero, List.getElem_cons_succ, List.setIfInBounds_toArray, List.set_cons_zero, List.set_cons_succ]
      refine z_one 4 rfl (by kernel_rfl) (by rfl) (fun K hK => ?_)
      simp only [List.getElem_toArray, List.getElem_cons_zero, List.getElem_cons_succ]
      go_simp
      refine (cut_any s m c b vq HS.out (by omega) HN.out).mono ?_
      rintro e v1 ⟨so, co, vs, rfl, hown, hrows, hk⟩
      have HO := Lib.hid (And.intro (Sl.of_own hown) hrows.reads)
      replace HP := Lib.hid (HP.out.quiet hk)
      replace HS := Lib.hid (HS.out.quiet hk)
      refine hK _ _ (Or.inr ?_) (fun hHeld => ?_)
      · exact kcell hk hHeld
      clear hK K hk hown hrows
      replace hHeld := hHeld.resolve_left (by decide)
      try simp only [Act.put, List.setIfInBounds_toArray, List.set_cons_zero, List.set_cons_succ]
      refine z_one 9 rfl (by kernel_rfl) (by rfl) (fun K hK => ?_)
      simp only [List.getElem_toArray, List.getElem_cons_zero, List.getElem_cons_succ]
      go_simp
      refine (refCut_any s m c b v1 HS.out (by omega)).mono ?_
      rintro e v2 ⟨sp, cp, vs2, rfl, hown, hrows, hk⟩
      replace HO := Lib.hid (And.intro (HO.out.1.quiet hk) (HO.out.2.quiet hk))
      have HO2 := Lib.hid (And.intro (Sl.of_own hown) (hrows.quiet hk))
      replace HP := Lib.hid (HP.out.quiet hk)
      replace HS := Lib.hid (HS.out.quiet hk)
      refine hK _ _ (Or.inr ?_) (fun hHeld => ?_)
      · exact kcell hk hHeld
      clear hK K hk hown hrows
      replace hHeld := hHeld.resolve_left (by decide)
      try simp only [Act.put, List.setIfInBounds_toArray, List.set_cons_zero, List.set_cons_succ]
      refine z_one 10 rfl (by kernel_rfl) (by rfl) (fun K hK => ?_)
      simp only [List.getElem_toArray, List.getElem_cons_zero, List.getElem_cons_succ]
      go_simp
      refine (sameR_any so sp _ _ co cp vs vs2 _ _ v2 HO.out.1 HO.out.2 HO2.out.1 HO2.out.2).mono ?_
      rintro e vr ⟨rfl, hk⟩
      replace HP := Lib.hid (HP.out.quiet hk)
      replace HS := Lib.hid (HS.out.quiet hk)
      refine hK _ _ (Or.inr ?_) (fun hHeld => ?_)
      · exact kcell hk hHeld
      clear hK K hk HO HO2
      replace hHeld := hHeld.resolve_left (by decide)
      try simp only [Act.put, List.setIfInBounds_toArray, List.set_cons_zero, List.set_cons_succ]
      try rw [hdec]
      refine z_one 11 rfl (by kernel_rfl) (by rfl) (fun K hK => ?_)
      simp only [List.getElem_toArray, List.getElem_cons_zero, List.getElem_cons_succ]
      go_simp
      refine hK _ _ (Or.inl rfl) (fun _ => ?_)
      clear hK K
      try simp only [Act.put, List.setIfInBounds_toArray, List.set_cons_zero, List.set_cons_succ]
      refine z_done (by kernel_rfl) ?_ _
      obtain ⟨d1⟩ : Nonempty (vr.cell? ⟨ba, k, none⟩ = some (.slice s m c)) := ⟨hHeld⟩
      go_wp2_with fail
      refine z_begin (fun w' => w'.cell? ⟨ba, k, none⟩ = some (.slice s m c)) 15 (by kernel_rfl) (d1) (fun hHeld => ?_)
      have hk : Keeps (fun _ => False) vr (World.drew vr) := (Keeps.refl _ _).drew
      replace HP := Lib.hid (HP.out.quiet hk)
      replace HS := Lib.hid (HS.out.quiet hk)
      clear hk d1
      generalize World.drew vr = vt at *
      refine z_take 0 (v := ?_) rfl (by kernel_rfl) (by kernel_rfl) (by kernel_rfl) (by kernel_rfl) (fun _ _ _ h => h) hHeld (by rfl) (fun w hSw => ?_) ?_
      rotate_left
      · have hSw1 := hSw; clear hSw; simp only [List.getElem_toArray, List.getElem_cons_zero]; go_simp; try rfl
      simp only [Act.put, List.getElem_toArray, List.getElem_cons_zero, List.setIfInBounds_toArray, List.set_cons_zero, List.set_cons_succ]
      refine z_take 1 (v := ?_) rfl (by kernel_rfl) (by kernel_rfl) (by kernel_rfl) (by kernel_rfl) (fun _ _ _ h => h) hHeld (by rfl) (fun w hSw => ?_) ?_
      rotate_left
      · have hSw1 := hSw; clear hSw; simp only [List.getElem_toArray, List.getElem_cons_zero, List.getElem_cons_succ]; go_simp; try rfl
      simp only [Act.put, List.getElem_toArray, List.getElem_cons_zero, List.getElem_cons_succ, List.setIfInBounds_toArray, List.set_cons_zero, List.set_cons_succ]
      refine z_take 2 (v := ?_) rfl (by kernel_rfl) (by kernel_rfl) (by kernel_rfl) (by kernel_rfl) (fun _ _ _ h => h) hHeld (by rfl) (fun w hSw => ?_) ?_
      rotate_left
      · have hSw1 := hSw; clear hSw; simp only [List.getElem_toArray, List.getElem_cons_zero, List.getElem_cons_succ]; go_simp; try rfl
      simp only [Act.put, List.getElem_toArray, List.getElem_cons_zero, List.getElem_cons_succ, List.setIfInBounds_toArray, List.set_cons_zero, List.set_cons_succ]
      refine z_take 3 (v := ?_) rfl (by kernel_rfl) (by kernel_rfl) (by kernel_rfl) (by kernel_rfl) (fun _ _ _ h => h) hHeld (by rfl) (fun w hSw => ?_) ?_
      rotate_left
      · have hSw1 := hSw; clear hSw; simp only [List.getElem_toArray, List.getElem_cons_zero, List.getElem_cons_succ]; go_simp; try rfl
      simp only [Act.put, List.getElem_toArray, List.getElem_cons_zero, List.getElem_cons_succ, List.setIfInBounds_toArray, List.set_cons_zero, List.set_cons_succ]
      refine z_take 4 (v := ?_) rfl (by kernel_rfl) (by kernel_rfl) (by kernel_rfl) (by kernel_rfl) (fun _ _ _ h => h) hHeld (by rfl) (fun w hSw => ?_) ?_
      rotate_left
      · have hSw1 := hSw; clear hSw; simp only [List.getElem_toArray, List.getElem_cons_zero, List.getElem_cons_succ]; go_simp; try rfl
      simp only [Act.put, List.getElem_toArray, List.getElem_cons_zero, List.getElem_cons_succ, List.setIfInBounds_toArray, List.set_cons_zero, List.set_cons_succ]
      refine z_take 5 (v := ?_) rfl (by kernel_rfl) (by kernel_rfl) (by kernel_rfl) (by kernel_rfl) (fun _ _ _ h => h) hHeld (by rfl) (fun w hSw => ?_) ?_
      rotate_left
      · have hSw1 := hSw; clear hSw; simp only [List.getElem_toArray, List.getElem_cons_zero, List.getElem_cons_succ]; go_simp; try rfl
      simp only [Act.put, List.getElem_toArray, List.getElem_cons_zero, List.getElem_cons_succ, List.setIfInBounds_toArray, List.set_cons_zero, List.set_cons_succ]
      refine z_take 6 (v := ?_) rfl (by kernel_rfl) (by kernel_rfl) (by kernel_rfl) (by kernel_rfl) (fun _ _ _ h => h) hHeld (by rfl) (fun w hSw => ?_) ?_
      rotate_left
      · have hSw1 := hSw; clear hSw; simp only [List.getElem_toArray, List.getElem_cons_zero, List.getElem_cons_succ]; go_simp; try rfl
      simp only [Act.put, List.getElem_toArray, List.getElem_cons_zero, List.getElem_cons_succ, List.setIfInBounds_toArray, List.set_cons_zero, List.set_cons_succ]
      refine z_take 8 (v := ?_) rfl (by kernel_rfl) (by kernel_rfl) (by kernel_rfl) (by kernel_rfl) (fun _ _ _ h => h) hHeld (by rfl) (fun w hSw => ?_) ?_
      rotate_left
      · have hSw1 := hSw; clear hSw; simp only [List.getElem_toArray, List.getElem_cons_zero, List.getElem_cons_succ]; go_simp; try rfl
      simp only [Act.put, List.getElem_toArray, List.getElem_cons_zero, List.getElem_cons_succ, List.setIfInBounds_toArray, List.set_cons_zero, List.set_cons_succ]
      refine z_take 9 (v := ?_) rfl (by kernel_rfl) (by kernel_rfl) (by kernel_rfl) (by kernel_rfl) (fun _ _ _ h => h) hHeld (by rfl) (fun w hSw => ?_) ?_
      rotate_left
      · have hSw1 := hSw; clear hSw; simp only [List.getElem_toArray, List.getElem_cons_zero, List.getElem_cons_succ]; go_simp; try rfl
      simp only [Act.put, List.getElem_toArray, List.getElem_cons_zero, List.getElem_cons_succ, List.setIfInBounds_toArray, List.set_cons_zero, List.set_cons_succ]
      refine z_take 10 (v := ?_) rfl (by kernel_rfl) (by kernel_rfl) (by kernel_rfl) (by kernel_rfl) (fun _ _ _ h => h) hHeld (by rfl) (fun w hSw => ?_) ?_
      rotate_left
      · have hSw1 := hSw; clear hSw; simp only [List.getElem_toArray, List.getElem_cons_zero, List.getElem_cons_succ]; go_simp; try rfl
      simp only [Act.put, List.getElem_toArray, List.getElem_cons_zero, List.getElem_cons_succ, List.setIfInBounds_toArray, List.set_cons_zero, List.set_cons_succ]
      refine z_take 11 (v := ?_) rfl (by kernel_rfl) (by kernel_rfl) (by kernel_rfl) (by kernel_rfl) (fun _ _ _ h => h) hHeld (by rfl) (fun w hSw => ?_) ?_
      rotate_left
      · have hSw1 := hSw; clear hSw; simp only [List.getElem_toArray, List.getElem_cons_zero, List.getElem_cons_succ]; go_simp; try rfl
      simp only [Act.put, List.getElem_toArray, List.getElem_cons_zero, List.getElem_cons_succ, List.setIfInBounds_toArray, List.set_cons_zero, List.set_cons_succ]
      refine z_one 7 rfl (by kernel_rfl) (by rfl) (fun K hK => ?_)
      simp only [List.getElem_toArray, List.getElem_cons_zero, List.getElem_cons_succ]
      go_simp
      refine (ends_any s m c b vt HS.out).mono ?_
      rintro e v5 ⟨rfl, hk⟩
      replace HP := Lib.hid (HP.out.quiet hk)
      replace HS := Lib.hid (HS.out.quiet hk)
      refine hK _ _ (Or.inr ?_) (fun hHeld => ?_)
      · exact kcell hk hHeld
      clear hK K hk 
      replace hHeld := hHeld.resolve_left (by decide)
      try simp only [Act.put, List.setIfInBounds_toArray, List.set_cons_zero, List.set_cons_succ]
      refine z_one 12 rfl (by kernel_rfl) (by rfl) (fun K hK => ?_)
      simp only [List.getElem_toArray, List.getElem_cons_zero, List.getElem_cons_succ]
      go_simp
      refine (refEnds_any s m c b v5 HS.out).mono ?_
      rintro e v6 ⟨rfl, hk⟩
      have hnn : (endsB b != endsB b) = false := by simp
      replace HP := Lib.hid (HP.out.quiet hk)
      replace HS := Lib.hid (HS.out.quiet hk)
      refine hK _ _ (Or.inr ?_) (fun hHeld => ?_)
      · exact kcell hk hHeld
      clear hK K hk 
      replace hHeld := hHeld.resolve_left (by decide)
      try simp only [Act.put, List.setIfInBounds_toArray, List.set_cons_zero, List.set_cons_succ]
      refine z_take 13 (v := ?_) rfl (by kernel_rfl) (by kernel_rfl) (by kernel_rfl) (by kernel_rfl) (fun _ _ _ h => h) hHeld (by rfl) (fun w hSw => ?_) ?_
      rotate_left
      · have hSw1 := hSw; clear hSw; simp only [List.getElem_toArray, List.getElem_cons_zero, List.getElem_cons_succ]; go_simp; try rfl
      simp only [Act.put, List.getElem_toArray, List.getElem_cons_zero, List.getElem_cons_succ, List.setIfInBounds_toArray, List.set_cons_zero, List.set_cons_succ]
      refine z_take 14 (v := ?_) rfl (by kernel_rfl) (by kernel_rfl) (by kernel_rfl) (by kernel_rfl) (fun _ _ _ h => h) hHeld (by rfl) (fun w hSw => ?_) ?_
      rotate_left
      · have hSw1 := hSw; clear hSw; simp only [List.getElem_toArray, List.getElem_cons_zero, List.getElem_cons_succ]; go_simp; try rfl
      simp only [Act.put, List.getElem_toArray, List.getElem_cons_zero, List.getElem_cons_succ, List.setIfInBounds_toArray, List.set_cons_zero, List.set_cons_succ]
      refine z_done (by kernel_rfl) ?_ _
      go_wp2
      go_roundw
      case rel => exact ⟨k + 1, by omega, by go_num, HP.out⟩
      case measure => simp [intOf]; omega
    · have t0 : ¬ (k : Int) < 2 := by omega
      replace HK := Lib.hid (HK.out.quiet hkp)
      clear hkp
      go_wp2_with fail
      refine (lives_any wr).mono ?_
      rintro e w9 ⟨rfl, hk⟩
      replace HK := Lib.hid (HK.out.quiet hk)
      clear hk
      go_wp2
      go_ret
      exact ⟨rfl, HK.out⟩
end Go.Proofs.Ytllpeenjfjobaaa
