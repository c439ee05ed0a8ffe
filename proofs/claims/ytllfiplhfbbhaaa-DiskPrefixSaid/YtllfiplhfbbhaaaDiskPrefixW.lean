/-
  The walk of the law DiskPrefix: it returns true, and nothing that was there has turned. Conditions: the arguments are as Go has them.
-/
import Derived.Test.YtllfiplhfbbhaaaPlain28
import Derived.Test.YtllfiplhfbbhaaaRegion
namespace Go.Proofs.Ytllfiplhfbbhaaa
open Go.RowKit
attribute [local go_sem ↓] Go.wp_at_zero Go.wp_at_succ

set_option maxHeartbeats 4000000 in
set_option maxRecDepth 100000 in
theorem diskPrefix_walk (la : Option Addr) (b off len cap : Nat) (zs : List Int) (at_ : Int) (sa : Option Addr) (lenb capb : Nat) (bs : List UInt8) (left : Int) (w : World) (hl : zs.length = len) (hlen : len ≤ 9223372036854775807) (hla : 0 < len → la = some ⟨b, off, none⟩) (hsrc : ∀ j z, zs[j]? = some z → w.cell? ⟨b, off + j, none⟩ = some (.int .i64 z)) (hwf : ∀ z ∈ zs, -9223372036854775808 ≤ z ∧ z ≤ 9223372036854775807) (at_1 : -9223372036854775808 ≤ at_) (at_2 : at_ ≤ 9223372036854775807) (hbl : bs.length = lenb) (hbc : lenb ≤ capb) (hbm : capb ≤ 9223372036854775807) (hbn : sa = none → lenb = 0 ∧ capb = 0) (hbs : ∀ ad, sa = some ad → ∀ (j : Nat) (u : Value), (BV bs)[j]? = some u → w.cell? (ad.add j) = some u) (left1 : -9223372036854775808 ≤ left) (left2 : left ≤ 9223372036854775807) :
    Calls Try.prog 6 #[.slice la len cap, .int .i64 at_, .slice sa lenb capb, .int .i64 left] w fun e w' => e = .returned (.bool true) ∧ Below w.heap.size w w' := by
  have HL := Lib.hid (And.intro hl (And.intro hla (And.intro hsrc hwf)))
  have HBS := Lib.hid (And.intro hbl (And.intro hbn hbs))
  clear hl hla hsrc hwf hbl hbn hbs
  have hg := playD_good zs
  go_enter Try.func6, Try.ntmps6
  go_wp2_with fail
  obtain ⟨hl, hla, hsrc, hwf⟩ := HL.out
  refine (played_any la b off len cap zs w hl hlen hla hsrc hwf).mono ?_
  rintro e w1 ⟨x, F, rfl, hd, hk, hF⟩
  have H0 : Hid (One w w1 x (playD ((zs.take 20).map mkAct)) F) := ⟨hd, hk, hF⟩
  clear hd hk hF hl hla hsrc hwf
  go_wp2_with fail
  obtain ⟨hl, hla, hsrc, hwf⟩ := HL.out
  refine (played_any la b off len cap zs w1 hl hlen hla (fun j z hz => (H0.out.keep.cell (World.block_lt_of_cell? w _ (hsrc j z hz)) (fun h => h)).trans (hsrc j z hz)) hwf).mono ?_
  rintro e w2 ⟨y, G, rfl, hd, hk, hG⟩
  have H00 := Lib.hid (Two.mk' H0.out hd hk hG)
  clear hd hk hG hl hla hsrc hwf HL H0
  generalize playD ((zs.take 20).map mkAct) = D at *
  have HG := Lib.hid hg
  clear hg
  go_wp2_with fail
  obtain ⟨hbl, hbn, hbs⟩ := HBS.out
  refine (few_any sa lenb capb 12 bs _ hbl hbc hbm (by omega) hbn (fun ad had j u hu => (H00.out.l.keep.cell (World.block_lt_of_cell? w _ (hbs ad had j u hu)) (fun h => h)).trans (hbs ad had j u hu))).mono ?_
  clear hbl hbn hbs
  rintro e w3 ⟨so, co, rfl, hown, hk⟩
  obtain ⟨m, hm⟩ : ∃ m, min lenb 12 = m := ⟨_, rfl⟩
  obtain ⟨lo, hlo⟩ : ∃ lo, lo = bs.take 12 := ⟨_, rfl⟩
  rw [← hlo] at hown
  rw [hm] at hown
  rw [hm]
  have hmb : m ≤ 12 := by omega
  have HLO : Hid (lo.length = m) := by show _ = _; rw [hlo, List.length_take, HBS.out.1]; omega
  have HRown : Hid (Row w3 (.slice so m co) m lo (fun k => F k ∨ G k)) := Row.mk' hown (fun k hk' => by rcases hk' with h | h; exact H00.out.l.disk.foot_lt k h; exact H00.out.r.disk.foot_lt k h)
  have H1 := Lib.hid (H00.out.quiet hk)
  clear hown hk hm hlo HBS hbc hbm
  go_wp2_with fail
  refine (around_any at_ (41 - (m : Int)) _ at_1 at_2 (by omega) (by omega)).mono ?_
  rintro e _ ⟨rfl, rfl⟩
  obtain ⟨p, hp⟩ : ∃ k : Nat, around at_ (41 - (m : Int)) = k := ⟨(around at_ (41 - (m : Int))).toNat, by have := around_pos at_ (41 - (m : Int)) (by omega); omega⟩
  have bp : (p : Int) < 41 - (m : Int) := by have := (around_pos at_ (41 - (m : Int)) (by omega)).2; rw [hp] at this; exact this
  rw [hp]
  clear hp
  go_wp2_with fail
  refine (around_any left ((m : Int) + 1) _ left1 left2 (by omega) (by omega)).mono ?_
  rintro e _ ⟨rfl, rfl⟩
  obtain ⟨k, hk⟩ : ∃ k : Nat, around left ((m : Int) + 1) = k := ⟨(around left ((m : Int) + 1)).toNat, by have := around_pos left ((m : Int) + 1) (by omega); omega⟩
  have bk : (k : Int) < (m : Int) + 1 := by have := (around_pos left ((m : Int) + 1) (by omega)).2; rw [hk] at this; exact this
  rw [hk]
  clear hk
  have hpm : p + m ≤ 40 := by omega
  have hkm : k ≤ m := by omega
  clear bp bk at_1 at_2 left1 left2
  have i1 : (0 : Int) ≤ (k : Int) := by omega
  have i2 : (k : Int) ≤ (m : Int) := by omega
  have hcap : m ≤ co := by rcases HRown.out.own.2 with ⟨h, h0⟩ | ⟨_, _, _, h, _, _, h', _⟩; omega; simp at h; omega
  have i3 : (k : Int) ≤ (co : Int) := by omega
  have HS1 : Hid (D.sync.Ok 40 0) := sync_okD HG.out.ok
  have HW1 : Hid ((D.sync.write p lo).Ok 40 (0 + lo.length)) := write_okD HS1.out (by rw [HLO.out]; exact hpm)
  have HLK : Hid ((lo.take k).length = k) := by show _ = _; rw [List.length_take, HLO.out]; omega
  have HW2 : Hid ((D.sync.write p (lo.take k)).Ok 40 (0 + (lo.take k).length)) := write_okD HS1.out (by rw [HLK.out]; omega)
  obtain ⟨NX, hNX⟩ : ∃ NX, NX = splice D.now p (lo.take k) := ⟨_, rfl⟩
  have HNX : Hid (NX.length = 40) := by show _ = _; rw [hNX, length_splice _ _ _ (by rw [HG.out.ok.len, HLK.out]; omega), HG.out.ok.len]
  have HX : Hid (((D.sync.write p lo).crash k).now = NX) := by show _ = _; rw [hNX]; exact crash_take D p lo k 40 (by rw [HG.out.ok.len]) (by rw [HLO.out]; exact hpm) (by rw [HLO.out]; exact hkm)
  have HY : Hid ((D.sync.write p (lo.take k)).now = NX) := hNX.symm
  have HY2 : Hid (((D.sync.write p (lo.take k)).sync.crash 0).now = NX) := hNX.symm
  clear hNX
  go_wp2_with fail
  refine (sync_ok x D F _ H1.out.l.disk HG.out.ok.up).mono ?_
  rintro e w4 ⟨rfl, F4, hd, hk, hs⟩
  have H2 := Lib.hid (H1.out.left hd hk hs)
  have HR3 : Hid (Row w4 (.slice so m co) m lo (fun k => F4 k ∨ G k)) := HRown.out.step (hk.mono (fun _ _ h => Or.inl h)) (fun k h => by rcases h with h | h; exact (hs k h).imp Or.inl id; exact Or.inl (Or.inr h))
  clear hd hk hs
  go_wp2_with fail
  refine (sync_ok y D G _ H2.out.r.disk HG.out.ok.up).mono ?_
  rintro e w5 ⟨rfl, F5, hd, hk, hs⟩
  have H4 := Lib.hid (H2.out.right hd hk hs)
  have HR5 : Hid (Row w5 (.slice so m co) m lo (fun k => F4 k ∨ F5 k)) := HR3.out.step (hk.mono (fun _ _ h => Or.inr h)) (fun k h => by rcases h with h | h; exact Or.inl (Or.inl h); exact (hs k h).imp Or.inr id)
  clear hd hk hs
  go_wp2_with fail
  obtain ⟨sb, s1, s2, s3⟩ := HR5.out.src
  -- x.Write
  refine (write_ok x p lo m so sb 0 co D.sync F4 _ H4.out.l.disk HS1.out.up HLO.out s1 s2 (fun h hf => s3 h (Or.inl hf)) (by rw [HS1.out.len]; exact hpm) (by rw [HS1.out.len]; omega) (Nat.zero_le _)).mono ?_
  rintro e w6 ⟨rfl, F6, hd, hk, hs⟩
  clear s1 s2 s3
  have H6 := Lib.hid (H4.out.left hd hk hs)
  have HR7 : Hid (Row w6 (.slice so m co) m lo (fun k => F6 k ∨ F5 k)) := HR5.out.step (hk.mono (fun _ _ h => Or.inl h)) (fun k h => by rcases h with h | h; exact (hs k h).imp Or.inl id; exact Or.inl (Or.inr h))
  clear hd hk hs
  go_wp2_with fail
  obtain ⟨sb2, s1, s2, s3⟩ := (HR7.out.upto (k := k) hkm).src
  refine (write_ok y p (lo.take k) k so sb2 0 co D.sync F5 _ H6.out.r.disk HS1.out.up HLK.out s1 s2 (fun h hf => s3 h (Or.inr hf)) (by rw [HS1.out.len]; omega) (by rw [HS1.out.len]; omega) (Nat.zero_le _)).mono ?_
  rintro e w7 ⟨rfl, F7, hd, hk, hs⟩
  clear s1 s2 s3
  have H8 := Lib.hid (H6.out.right hd hk hs)
  clear hd hk hs
  go_wp2_with fail
  refine (crash_ok x k (D.sync.write p lo) F6 _ H8.out.l.disk HW1.out.up (by have := HW1.out.lo; rw [HLO.out] at this; omega) (by rw [HW1.out.len]; exact HW1.out.at_)).mono ?_
  rintro e w8 ⟨rfl, F8, hd, hk, hs⟩
  have H9 := Lib.hid (H8.out.left hd hk hs)
  clear hd hk hs
  go_wp2_with fail
  have H10 := Lib.hid (H9.out.quiet (Keeps.refl _ _).drew)
  refine z_begin (fun w' => True) 32 (by kernel_rfl) (trivial) (fun hHeld => ?_)
  refine z_take 0 (v := ?_) rfl (by kernel_rfl) (by kernel_rfl) (by kernel_rfl) (by kernel_rfl) (fun _ _ _ h => h) hHeld (by rfl) (fun w hSw => ?_) ?_
  rotate_left
  · have hSw1 := hSw; clear hSw; simp only [List.getElem_toArray, List.getElem_cons_zero]; go_simp; try rfl
  simp only [Act.put, List.getElem_toArray, List.getElem_cons_zero, List.setIfInBounds_toArray, List.set_cons_zero, List.set_cons_succ]
  refine z_take 3 (v := ?_) rfl (by kernel_rfl) (by kernel_rfl) (by kernel_rfl) (by kernel_rfl) (fun _ _ _ h => h) hHeld (by rfl) (fun w hSw => ?_) ?_
  rotate_left
  · have hSw1 := hSw; clear hSw; simp only [List.getElem_toArray, List.getElem_cons_zero, List.getElem_cons_succ]; go_simp; try rfl
  simp only [Act.put, List.getElem_toArray, List.getElem_cons_zero, List.getElem_cons_succ, List.setIfInBounds_toArray, List.set_cons_zero, List.set_cons_succ]
  refine z_one 1 rfl (by kernel_rfl) (by rfl) (fun K hK => ?_)
  simp only [List.getElem_toArray, List.getElem_cons_zero, List.getElem_cons_succ]
  go_simp
  refine (raw_any x _ F8 _ H10.out.l.disk (by rw [HX.out, HNX.out]; omega)).mono ?_
  rintro e w9 ⟨g9, c9, rfl, hown, hk⟩
  rw [HX.out] at hown
  rw [HX.out]
  rw [HNX.out] at hown
  rw [HNX.out]
  have HR11 : Hid (Row w9 (.slice (some ⟨g9, 0, none⟩) 40 c9) 40 NX (fun k => F8 k ∨ F7 k)) := Row.mk' hown (fun k hk' => by rcases hk' with h | h; exact H10.out.l.disk.foot_lt k h; exact H10.out.r.disk.foot_lt k h)
  have H12 := Lib.hid (H10.out.quiet hk)
  clear hown hk
  refine hK _ _ (Or.inr ?_) (fun hHeld => ?_)
  · exact trivial
  clear hK K
  replace hHeld := hHeld.resolve_left (by decide)
  try simp only [Act.put, List.setIfInBounds_toArray, List.set_cons_zero, List.set_cons_succ]
  refine z_more (fun w' => (convert 27 9 (.slice (some ⟨g9, 0, none⟩) 40 c9)).run Try.prog w' = .ok (.string (strOf NX)) w' ∧ True) (fun _ h => h.2) _ _ _ _ ?_
  replace hHeld : (convert 27 9 (.slice (some ⟨g9, 0, none⟩) 40 c9)).run Try.prog w9 = .ok (.string (strOf NX)) w9 ∧ True := ⟨HR11.out.str, trivial⟩
  refine z_take 2 (v := ?_) rfl (by kernel_rfl) (by kernel_rfl) (by kernel_rfl) (by kernel_rfl) (fun _ _ _ h => h) hHeld (by rfl) (fun w hSw => ?_) ?_
  rotate_left
  · obtain ⟨hSw1, hSw2⟩ := hSw; simp only [List.getElem_toArray, List.getElem_cons_zero, List.getElem_cons_succ]; go_simp; try rfl
  simp only [Act.put, List.getElem_toArray, List.getElem_cons_zero, List.getElem_cons_succ, List.setIfInBounds_toArray, List.set_cons_zero, List.set_cons_succ]
  refine z_one 4 rfl (by kernel_rfl) (by rfl) (fun K hK => ?_)
  simp only [List.getElem_toArray, List.getElem_cons_zero, List.getElem_cons_succ]
  go_simp
  refine (raw_any y _ F7 _ H12.out.r.disk (by rw [HY.out, HNX.out]; omega)).mono ?_
  rintro e w10 ⟨g10, c10, rfl, hown, hk⟩
  rw [HY.out] at hown
  rw [HY.out]
  rw [HNX.out] at hown
  rw [HNX.out]
  have HR13 : Hid (Row w10 (.slice (some ⟨g10, 0, none⟩) 40 c10) 40 NX (fun k => F8 k ∨ F7 k)) := Row.mk' hown (fun k hk' => by rcases hk' with h | h; exact H12.out.l.disk.foot_lt k h; exact H12.out.r.disk.foot_lt k h)
  have H14 := Lib.hid (H12.out.quiet hk)
  have HR15 := Lib.hid (HR11.out.quiet hk)
  clear hown hk
  refine hK _ _ (Or.inr ?_) (fun hHeld => ?_)
  · exact ⟨HR15.out.str, trivial⟩
  clear hK K
  replace hHeld := hHeld.resolve_left (by decide)
  try simp only [Act.put, List.setIfInBounds_toArray, List.set_cons_zero, List.set_cons_succ]
  refine z_more (fun w' => (convert 27 9 (.slice (some ⟨g10, 0, none⟩) 40 c10)).run Try.prog w' = .ok (.string (strOf NX)) w' ∧ (convert 27 9 (.slice (some ⟨g9, 0, none⟩) 40 c9)).run Try.prog w' = .ok (.string (strOf NX)) w' ∧ True) (fun _ h => h.2) _ _ _ _ ?_
  replace hHeld : (convert 27 9 (.slice (some ⟨g10, 0, none⟩) 40 c10)).run Try.prog w10 = .ok (.string (strOf NX)) w10 ∧ (convert 27 9 (.slice (some ⟨g9, 0, none⟩) 40 c9)).run Try.prog w10 = .ok (.string (strOf NX)) w10 ∧ True := ⟨HR13.out.str, HR15.out.str, trivial⟩
  refine z_take 5 (v := ?_) rfl (by kernel_rfl) (by kernel_rfl) (by kernel_rfl) (by kernel_rfl) (fun _ _ _ h => h) hHeld (by rfl) (fun w hSw => ?_) ?_
  rotate_left
  · obtain ⟨hSw1, hSw2, hSw3⟩ := hSw; simp only [List.getElem_toArray, List.getElem_cons_zero, List.getElem_cons_succ]; go_simp; try rfl
  simp only [Act.put, List.getElem_toArray, List.getElem_cons_zero, List.getElem_cons_succ, List.setIfInBounds_toArray, List.set_cons_zero, List.set_cons_succ]
  refine z_take 6 (v := ?_) rfl (by kernel_rfl) (by kernel_rfl) (by kernel_rfl) (by kernel_rfl) (fun _ _ _ h => h) hHeld (by rfl) (fun w hSw => ?_) ?_
  rotate_left
  · obtain ⟨hSw1, hSw2, hSw3⟩ := hSw; simp only [List.getElem_toArray, List.getElem_cons_zero, List.getElem_cons_succ]; go_simp; try rfl
  simp only [Act.put, List.getElem_toArray, List.getElem_cons_zero, List.getElem_cons_succ, List.setIfInBounds_toArray, List.set_cons_zero, List.set_cons_succ]
  refine z_take 7 (v := ?_) rfl (by kernel_rfl) (by kernel_rfl) (by kernel_rfl) (by kernel_rfl) (fun _ _ _ h => h) hHeld (by rfl) (fun w hSw => ?_) ?_
  rotate_left
  · obtain ⟨hSw1, hSw2, hSw3⟩ := hSw; simp only [List.getElem_toArray, List.getElem_cons_zero, List.getElem_cons_succ]; go_simp; try rfl
  simp only [Act.put, List.getElem_toArray, List.getElem_cons_zero, List.getElem_cons_succ, List.setIfInBounds_toArray, List.set_cons_zero, List.set_cons_succ]
  refine z_take 8 (v := ?_) rfl (by kernel_rfl) (by kernel_rfl) (by kernel_rfl) (by kernel_rfl) (fun _ _ _ h => h) hHeld (by rfl) (fun w hSw => ?_) ?_
  rotate_left
  · obtain ⟨hSw1, hSw2, hSw3⟩ := hSw; simp only [List.getElem_toArray, List.getElem_cons_zero, List.getElem_cons_succ]; go_simp; try rfl
  simp only [Act.put, List.getElem_toArray, List.getElem_cons_zero, List.getElem_cons_succ, List.setIfInBounds_toArray, List.set_cons_zero, List.set_cons_succ]
  refine z_one 9 rfl (by kernel_rfl) (by rfl) (fun K hK => ?_)
  simp only [List.getElem_toArray, List.getElem_cons_zero, List.getElem_cons_succ]
  go_simp
  refine (sync_ok y (D.sync.write p (lo.take k)) F7 _ H14.out.r.disk HW2.out.up).mono ?_
  rintro e w11 ⟨rfl, F11, hd, hk, hs⟩
  have H16 := Lib.hid (H14.out.right hd hk hs)
  have HR17 : Hid (Row w11 (.slice (some ⟨g9, 0, none⟩) 40 c9) 40 NX (fun k => F8 k ∨ F11 k)) := HR15.out.step (hk.mono (fun _ _ h => Or.inr h)) (fun k h => by rcases h with h | h; exact Or.inl (Or.inl h); exact (hs k h).imp Or.inr id)
  have HR18 : Hid (Row w11 (.slice (some ⟨g10, 0, none⟩) 40 c10) 40 NX (fun k => F8 k ∨ F11 k)) := HR13.out.step (hk.mono (fun _ _ h => Or.inr h)) (fun k h => by rcases h with h | h; exact Or.inl (Or.inl h); exact (hs k h).imp Or.inr id)
  clear hd hk hs
  refine hK _ _ (Or.inr ?_) (fun hHeld => ?_)
  · exact ⟨HR18.out.str, HR17.out.str, trivial⟩
  clear hK K
  replace hHeld := hHeld.resolve_left (by decide)
  try simp only [Act.put, List.setIfInBounds_toArray, List.set_cons_zero, List.set_cons_succ]
  refine z_take 10 (v := ?_) rfl (by kernel_rfl) (by kernel_rfl) (by kernel_rfl) (by kernel_rfl) (fun _ _ _ h => h) hHeld (by rfl) (fun w hSw => ?_) ?_
  rotate_left
  · obtain ⟨hSw1, hSw2, hSw3⟩ := hSw; simp only [List.getElem_toArray, List.getElem_cons_zero, List.getElem_cons_succ]; go_simp; try rfl
  simp only [Act.put, List.getElem_toArray, List.getElem_cons_zero, List.getElem_cons_succ, List.setIfInBounds_toArray, List.set_cons_zero, List.set_cons_succ]
  refine z_take 11 (v := ?_) rfl (by kernel_rfl) (by kernel_rfl) (by kernel_rfl) (by kernel_rfl) (fun _ _ _ h => h) hHeld (by rfl) (fun w hSw => ?_) ?_
  rotate_left
  · obtain ⟨hSw1, hSw2, hSw3⟩ := hSw; simp only [List.getElem_toArray, List.getElem_cons_zero, List.getElem_cons_succ]; go_simp; try rfl
  simp only [Act.put, List.getElem_toArray, List.getElem_cons_zero, List.getElem_cons_succ, List.setIfInBounds_toArray, List.set_cons_zero, List.set_cons_succ]
  refine z_take 12 (v := ?_) rfl (by kernel_rfl) (by kernel_rfl) (by kernel_rfl) (by kernel_rfl) (fun _ _ _ h => h) hHeld (by rfl) (fun w hSw => ?_) ?_
  rotate_left
  · obtain ⟨hSw1, hSw2, hSw3⟩ := hSw; simp only [List.getElem_toArray, List.getElem_cons_zero, List.getElem_cons_succ]; go_simp; try rfl
  simp only [Act.put, List.getElem_toArray, List.getElem_cons_zero, List.getElem_cons_succ, List.setIfInBounds_toArray, List.set_cons_zero, List.set_cons_succ]
  refine z_take 13 (v := ?_) rfl (by kernel_rfl) (by kernel_rfl) (by kernel_rfl) (by kernel_rfl) (fun _ _ _ h => h) hHeld (by rfl) (fun w hSw => ?_) ?_
  rotate_left
  · obtain ⟨hSw1, hSw2, hSw3⟩ := hSw; simp only [List.getElem_toArray, List.getElem_cons_zero, List.getElem_cons_succ]; go_simp; try rfl
  simp only [Act.put, List.getElem_toArray, List.getElem_cons_zero, List.getElem_cons_succ, List.setIfInBounds_toArray, List.set_cons_zero, List.set_cons_succ]
  refine z_one 14 rfl (by kernel_rfl) (by rfl) (fun K hK => ?_)
  simp only [List.getElem_toArray, List.getElem_cons_zero, List.getElem_cons_succ]
  go_simp
  refine (crash_ok y 0 ((D.sync.write p (lo.take k)).sync) F11 _ H16.out.r.disk HW2.out.up (Nat.zero_le _) (fun x hx => by cases hx)).mono ?_
  rintro e w12 ⟨rfl, F12, hd, hk, hs⟩
  have H19 := Lib.hid (H16.out.right hd hk hs)
  have HR20 : Hid (Row w12 (.slice (some ⟨g9, 0, none⟩) 40 c9) 40 NX (fun k => F8 k ∨ F12 k)) := HR17.out.step (hk.mono (fun _ _ h => Or.inr h)) (fun k h => by rcases h with h | h; exact Or.inl (Or.inl h); exact (hs k h).imp Or.inr id)
  have HR21 : Hid (Row w12 (.slice (some ⟨g10, 0, none⟩) 40 c10) 40 NX (fun k => F8 k ∨ F12 k)) := HR18.out.step (hk.mono (fun _ _ h => Or.inr h)) (fun k h => by rcases h with h | h; exact Or.inl (Or.inl h); exact (hs k h).imp Or.inr id)
  clear hd hk hs
  refine hK _ _ (Or.inr ?_) (fun hHeld => ?_)
  · exact ⟨HR21.out.str, HR20.out.str, trivial⟩
  clear hK K
  replace hHeld := hHeld.resolve_left (by decide)
  try simp only [Act.put, List.setIfInBounds_toArray, List.set_cons_zero, List.set_cons_succ]
  refine z_take 15 (v := ?_) rfl (by kernel_rfl) (by kernel_rfl) (by kernel_rfl) (by kernel_rfl) (fun _ _ _ h => h) hHeld (by rfl) (fun w hSw => ?_) ?_
  rotate_left
  · obtain ⟨hSw1, hSw2, hSw3⟩ := hSw; simp only [List.getElem_toArray, List.getElem_cons_zero, List.getElem_cons_succ]; go_simp; try rfl
  simp only [Act.put, List.getElem_toArray, List.getElem_cons_zero, List.getElem_cons_succ, List.setIfInBounds_toArray, List.set_cons_zero, List.set_cons_succ]
  refine z_take 16 (v := ?_) rfl (by kernel_rfl) (by kernel_rfl) (by kernel_rfl) (by kernel_rfl) (fun _ _ _ h => h) hHeld (by rfl) (fun w hSw => ?_) ?_
  rotate_left
  · obtain ⟨hSw1, hSw2, hSw3⟩ := hSw; simp only [List.getElem_toArray, List.getElem_cons_zero, List.getElem_cons_succ]; go_simp; try rfl
  simp only [Act.put, List.getElem_toArray, List.getElem_cons_zero, List.getElem_cons_succ, List.setIfInBounds_toArray, List.set_cons_zero, List.set_cons_succ]
  refine z_take 17 (v := ?_) rfl (by kernel_rfl) (by kernel_rfl) (by kernel_rfl) (by kernel_rfl) (fun _ _ _ h => h) hHeld (by rfl) (fun w hSw => ?_) ?_
  rotate_left
  · obtain ⟨hSw1, hSw2, hSw3⟩ := hSw; simp only [List.getElem_toArray, List.getElem_cons_zero, List.getElem_cons_succ]; go_simp; try rfl
  simp only [Act.put, List.getElem_toArray, List.getElem_cons_zero, List.getElem_cons_succ, List.setIfInBounds_toArray, List.set_cons_zero, List.set_cons_succ]
  refine z_take 18 (v := ?_) rfl (by kernel_rfl) (by kernel_rfl) (by kernel_rfl) (by kernel_rfl) (fun _ _ _ h => h) hHeld (by rfl) (fun w hSw => ?_) ?_
  rotate_left
  · obtain ⟨hSw1, hSw2, hSw3⟩ := hSw; simp only [List.getElem_toArray, List.getElem_cons_zero, List.getElem_cons_succ]; go_simp; try rfl
  simp only [Act.put, List.getElem_toArray, List.getElem_cons_zero, List.getElem_cons_succ, List.setIfInBounds_toArray, List.set_cons_zero, List.set_cons_succ]
  refine z_take 21 (v := ?_) rfl (by kernel_rfl) (by kernel_rfl) (by kernel_rfl) (by kernel_rfl) (fun _ _ _ h => h) hHeld (by rfl) (fun w hSw => ?_) ?_
  rotate_left
  · obtain ⟨hSw1, hSw2, hSw3⟩ := hSw; simp only [List.getElem_toArray, List.getElem_cons_zero, List.getElem_cons_succ]; go_simp; try rfl
  simp only [Act.put, List.getElem_toArray, List.getElem_cons_zero, List.getElem_cons_succ, List.setIfInBounds_toArray, List.set_cons_zero, List.set_cons_succ]
  refine z_one 19 rfl (by kernel_rfl) (by rfl) (fun K hK => ?_)
  simp only [List.getElem_toArray, List.getElem_cons_zero, List.getElem_cons_succ]
  go_simp
  refine (raw_any x _ F8 _ H19.out.l.disk (by rw [HX.out, HNX.out]; omega)).mono ?_
  rintro e w13 ⟨g13, c13, rfl, hown, hk⟩
  rw [HX.out] at hown
  rw [HX.out]
  rw [HNX.out] at hown
  rw [HNX.out]
  have HR22 : Hid (Row w13 (.slice (some ⟨g13, 0, none⟩) 40 c13) 40 NX (fun k => F8 k ∨ F12 k)) := Row.mk' hown (fun k hk' => by rcases hk' with h | h; exact H19.out.l.disk.foot_lt k h; exact H19.out.r.disk.foot_lt k h)
  have H23 := Lib.hid (H19.out.quiet hk)
  have HR24 := Lib.hid (HR20.out.quiet hk)
  have HR25 := Lib.hid (HR21.out.quiet hk)
  clear hown hk
  refine hK _ _ (Or.inr ?_) (fun hHeld => ?_)
  · exact ⟨HR25.out.str, HR24.out.str, trivial⟩
  clear hK K
  replace hHeld := hHeld.resolve_left (by decide)
  try simp only [Act.put, List.setIfInBounds_toArray, List.set_cons_zero, List.set_cons_succ]
  refine z_more (fun w' => (convert 27 9 (.slice (some ⟨g13, 0, none⟩) 40 c13)).run Try.prog w' = .ok (.string (strOf NX)) w' ∧ (convert 27 9 (.slice (some ⟨g10, 0, none⟩) 40 c10)).run Try.prog w' = .ok (.string (strOf NX)) w' ∧ (convert 27 9 (.slice (some ⟨g9, 0, none⟩) 40 c9)).run Try.prog w' = .ok (.string (strOf NX)) w' ∧ True) (fun _ h => h.2) _ _ _ _ ?_
  replace hHeld : (convert 27 9 (.slice (some ⟨g13, 0, none⟩) 40 c13)).run Try.prog w13 = .ok (.string (strOf NX)) w13 ∧ (convert 27 9 (.slice (some ⟨g10, 0, none⟩) 40 c10)).run Try.prog w13 = .ok (.string (strOf NX)) w13 ∧ (convert 27 9 (.slice (some ⟨g9, 0, none⟩) 40 c9)).run Try.prog w13 = .ok (.string (strOf NX)) w13 ∧ True := ⟨HR22.out.str, HR25.out.str, HR24.out.str, trivial⟩
  refine z_take 20 (v := ?_) rfl (by kernel_rfl) (by kernel_rfl) (by kernel_rfl) (by kernel_rfl) (fun _ _ _ h => h) hHeld (by rfl) (fun w hSw => ?_) ?_
  rotate_left
  · obtain ⟨hSw1, hSw2, hSw3, hSw4⟩ := hSw; simp only [List.getElem_toArray, List.getElem_cons_zero, List.getElem_cons_succ]; go_simp; try rfl
  simp only [Act.put, List.getElem_toArray, List.getElem_cons_zero, List.getElem_cons_succ, List.setIfInBounds_toArray, List.set_cons_zero, List.set_cons_succ]
  refine z_one 22 rfl (by kernel_rfl) (by rfl) (fun K hK => ?_)
  simp only [List.getElem_toArray, List.getElem_cons_zero, List.getElem_cons_succ]
  go_simp
  refine (raw_any y _ F12 _ H23.out.r.disk (by rw [HY2.out, HNX.out]; omega)).mono ?_
  rintro e w14 ⟨g14, c14, rfl, hown, hk⟩
  rw [HY2.out] at hown
  rw [HY2.out]
  rw [HNX.out] at hown
  rw [HNX.out]
  have HR26 : Hid (Row w14 (.slice (some ⟨g14, 0, none⟩) 40 c14) 40 NX (fun k => F8 k ∨ F12 k)) := Row.mk' hown (fun k hk' => by rcases hk' with h | h; exact H23.out.l.disk.foot_lt k h; exact H23.out.r.disk.foot_lt k h)
  have H27 := Lib.hid (H23.out.quiet hk)
  have HR28 := Lib.hid (HR24.out.quiet hk)
  have HR29 := Lib.hid (HR25.out.quiet hk)
  have HR30 := Lib.hid (HR22.out.quiet hk)
  clear hown hk
  refine hK _ _ (Or.inr ?_) (fun hHeld => ?_)
  · exact ⟨HR30.out.str, HR29.out.str, HR28.out.str, trivial⟩
  clear hK K
  replace hHeld := hHeld.resolve_left (by decide)
  try simp only [Act.put, List.setIfInBounds_toArray, List.set_cons_zero, List.set_cons_succ]
  refine z_more (fun w' => (convert 27 9 (.slice (some ⟨g14, 0, none⟩) 40 c14)).run Try.prog w' = .ok (.string (strOf NX)) w' ∧ (convert 27 9 (.slice (some ⟨g13, 0, none⟩) 40 c13)).run Try.prog w' = .ok (.string (strOf NX)) w' ∧ (convert 27 9 (.slice (some ⟨g10, 0, none⟩) 40 c10)).run Try.prog w' = .ok (.string (strOf NX)) w' ∧ (convert 27 9 (.slice (some ⟨g9, 0, none⟩) 40 c9)).run Try.prog w' = .ok (.string (strOf NX)) w' ∧ True) (fun _ h => h.2) _ _ _ _ ?_
  replace hHeld : (convert 27 9 (.slice (some ⟨g14, 0, none⟩) 40 c14)).run Try.prog w14 = .ok (.string (strOf NX)) w14 ∧ (convert 27 9 (.slice (some ⟨g13, 0, none⟩) 40 c13)).run Try.prog w14 = .ok (.string (strOf NX)) w14 ∧ (convert 27 9 (.slice (some ⟨g10, 0, none⟩) 40 c10)).run Try.prog w14 = .ok (.string (strOf NX)) w14 ∧ (convert 27 9 (.slice (some ⟨g9, 0, none⟩) 40 c9)).run Try.prog w14 = .ok (.string (strOf NX)) w14 ∧ True := ⟨HR26.out.str, HR30.out.str, HR29.out.str, HR28.out.str, trivial⟩
  refine z_take 23 (v := ?_) rfl (by kernel_rfl) (by kernel_rfl) (by kernel_rfl) (by kernel_rfl) (fun _ _ _ h => h) hHeld (by rfl) (fun w hSw => ?_) ?_
  rotate_left
  · obtain ⟨hSw1, hSw2, hSw3, hSw4, hSw5⟩ := hSw; simp only [List.getElem_toArray, List.getElem_cons_zero, List.getElem_cons_succ]; go_simp; try rfl
  simp only [Act.put, List.getElem_toArray, List.getElem_cons_zero, List.getElem_cons_succ, List.setIfInBounds_toArray, List.set_cons_zero, List.set_cons_succ]
  refine z_take 24 (v := ?_) rfl (by kernel_rfl) (by kernel_rfl) (by kernel_rfl) (by kernel_rfl) (fun _ _ _ h => h) hHeld (by rfl) (fun w hSw => ?_) ?_
  rotate_left
  · obtain ⟨hSw1, hSw2, hSw3, hSw4, hSw5⟩ := hSw; simp only [List.getElem_toArray, List.getElem_cons_zero, List.getElem_cons_succ]; go_simp; try rfl
  simp only [Act.put, List.getElem_toArray, List.getElem_cons_zero, List.getElem_cons_succ, List.setIfInBounds_toArray, List.set_cons_zero, List.set_cons_succ]
  refine z_take 25 (v := ?_) rfl (by kernel_rfl) (by kernel_rfl) (by kernel_rfl) (by kernel_rfl) (fun _ _ _ h => h) hHeld (by rfl) (fun w hSw => ?_) ?_
  rotate_left
  · obtain ⟨hSw1, hSw2, hSw3, hSw4, hSw5⟩ := hSw; simp only [List.getElem_toArray, List.getElem_cons_zero, List.getElem_cons_succ]; go_simp; try rfl
  simp only [Act.put, List.getElem_toArray, List.getElem_cons_zero, List.getElem_cons_succ, List.setIfInBounds_toArray, List.set_cons_zero, List.set_cons_succ]
  refine z_take 26 (v := ?_) rfl (by kernel_rfl) (by kernel_rfl) (by kernel_rfl) (by kernel_rfl) (fun _ _ _ h => h) hHeld (by rfl) (fun w hSw => ?_) ?_
  rotate_left
  · obtain ⟨hSw1, hSw2, hSw3, hSw4, hSw5⟩ := hSw; simp only [List.getElem_toArray, List.getElem_cons_zero, List.getElem_cons_succ]; go_simp; try rfl
  simp only [Act.put, List.getElem_toArray, List.getElem_cons_zero, List.getElem_cons_succ, List.setIfInBounds_toArray, List.set_cons_zero, List.set_cons_succ]
  refine z_one 27 rfl (by kernel_rfl) (by rfl) (fun K hK => ?_)
  simp only [List.getElem_toArray, List.getElem_cons_zero, List.getElem_cons_succ]
  go_simp
  refine (lives_any _).mono ?_
  rintro e w15 ⟨rfl, hk⟩
  have H31 := Lib.hid (H27.out.quiet hk)
  have HR32 := Lib.hid (HR28.out.quiet hk)
  have HR33 := Lib.hid (HR29.out.quiet hk)
  have HR34 := Lib.hid (HR30.out.quiet hk)
  have HR35 := Lib.hid (HR26.out.quiet hk)
  clear hk
  refine hK _ _ (Or.inr ?_) (fun hHeld => ?_)
  · exact ⟨HR35.out.str, HR34.out.str, HR33.out.str, HR32.out.str, trivial⟩
  clear hK K
  replace hHeld := hHeld.resolve_left (by decide)
  try simp only [Act.put, List.setIfInBounds_toArray, List.set_cons_zero, List.set_cons_succ]
  refine z_take 28 (v := ?_) rfl (by kernel_rfl) (by kernel_rfl) (by kernel_rfl) (by kernel_rfl) (fun _ _ _ h => h) hHeld (by rfl) (fun w hSw => ?_) ?_
  rotate_left
  · obtain ⟨hSw1, hSw2, hSw3, hSw4, hSw5⟩ := hSw; simp only [List.getElem_toArray, List.getElem_cons_zero, List.getElem_cons_succ]; go_simp; try rfl
  simp only [Act.put, List.getElem_toArray, List.getElem_cons_zero, List.getElem_cons_succ, List.setIfInBounds_toArray, List.set_cons_zero, List.set_cons_succ]
  refine z_one 29 rfl (by kernel_rfl) (by rfl) (fun K hK => ?_)
  simp only [List.getElem_toArray, List.getElem_cons_zero, List.getElem_cons_succ]
  go_simp
  refine hK _ _ (Or.inr ?_) (fun hHeld => ?_)
  · exact hHeld
  clear hK K
  replace hHeld := hHeld.resolve_left (by decide)
  try simp only [Act.put, List.setIfInBounds_toArray, List.set_cons_zero, List.set_cons_succ]
  refine z_done (by kernel_rfl) ?_ _
  go_wp2
  go_ret
  exact ⟨rfl, H31.out.l.below⟩
end Go.Proofs.Ytllfiplhfbbhaaa
