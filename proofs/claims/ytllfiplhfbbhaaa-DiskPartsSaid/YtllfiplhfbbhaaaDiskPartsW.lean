/-
  The walk of the law DiskParts: it returns true, and nothing that was there has turned. Conditions: the arguments are as Go has them.
-/
import Derived.Test.YtllfiplhfbbhaaaPlain28
import Derived.Test.YtllfiplhfbbhaaaRegion
namespace Go.Proofs.Ytllfiplhfbbhaaa
open Go.RowKit
attribute [local go_sem ↓] Go.wp_at_zero Go.wp_at_succ

set_option maxHeartbeats 4000000 in
set_option maxRecDepth 100000 in
theorem diskParts_walk (la : Option Addr) (b off len cap : Nat) (zs : List Int) (sa : Option Addr) (lenb capb : Nat) (bs : List UInt8) (cut at_ left : Int) (w : World) (hl : zs.length = len) (hlen : len ≤ 9223372036854775807) (hla : 0 < len → la = some ⟨b, off, none⟩) (hsrc : ∀ j z, zs[j]? = some z → w.cell? ⟨b, off + j, none⟩ = some (.int .i64 z)) (hwf : ∀ z ∈ zs, -9223372036854775808 ≤ z ∧ z ≤ 9223372036854775807) (hbl : bs.length = lenb) (hbc : lenb ≤ capb) (hbm : capb ≤ 9223372036854775807) (hbn : sa = none → lenb = 0 ∧ capb = 0) (hbs : ∀ ad, sa = some ad → ∀ (j : Nat) (u : Value), (BV bs)[j]? = some u → w.cell? (ad.add j) = some u) (cut1 : -9223372036854775808 ≤ cut) (cut2 : cut ≤ 9223372036854775807) (at_1 : -9223372036854775808 ≤ at_) (at_2 : at_ ≤ 9223372036854775807) (left1 : -9223372036854775808 ≤ left) (left2 : left ≤ 9223372036854775807) :
    Calls Try.prog 9 #[.slice la len cap, .slice sa lenb capb, .int .i64 cut, .int .i64 at_, .int .i64 left] w fun e w' => e = .returned (.bool true) ∧ Below w.heap.size w w' := by
  have HL := Lib.hid (And.intro hl (And.intro hla (And.intro hsrc hwf)))
  have HBS := Lib.hid (And.intro hbl (And.intro hbn hbs))
  clear hl hla hsrc hwf hbl hbn hbs
  have hg := playD_good zs
  go_enter Try.func9, Try.ntmps9
  go_wp2_with fail
  obtain ⟨hl, hla, hsrc, hwf⟩ := HL.out
  refine (played_any la b off len cap zs w hl hlen hla hsrc hwf).mono ?_
  rintro e w1 ⟨x, F, rfl, hd, hk, hF⟩
  have H0 : Hid (One w w1 x (playD ((zs.take 20).map mkAct)) F) := ⟨hd, hk, hF⟩
  clear hd hk hF hl hla hsrc hwf
  go_wp2_with fail
  obtain ⟨hl, hla, hsrc, hwf⟩ := HL.out
  refine (played_any la b off len cap zs w1 hl hlen hla (fun j z hz => (H0.out.keep.cell (World.block_lt_of_cell? w _ (hsrc j z hz)) (fun h => h)).trans (hsrc j z hz)) hwf).mono ?_
  rintro e w2 ⟨y, G, rfl, hd, hk, hG⟩
  have H00 := Lib.hid (Two.mk' H0.out hd hk hG)
  clear hd hk hG hl hla hsrc hwf HL H0
  generalize playD ((zs.take 20).map mkAct) = D at *
  have HG := Lib.hid hg
  clear hg
  go_wp2_with fail
  obtain ⟨hbl, hbn, hbs⟩ := HBS.out
  refine (few_any sa lenb capb 15 bs _ hbl hbc hbm (by omega) hbn (fun ad had j u hu => (H00.out.l.keep.cell (World.block_lt_of_cell? w _ (hbs ad had j u hu)) (fun h => h)).trans (hbs ad had j u hu))).mono ?_
  clear hbl hbn hbs
  rintro e w3 ⟨so, co, rfl, hown, hk⟩
  obtain ⟨m, hm⟩ : ∃ m, min lenb 15 = m := ⟨_, rfl⟩
  obtain ⟨lo, hlo⟩ : ∃ lo, lo = bs.take 15 := ⟨_, rfl⟩
  rw [← hlo] at hown
  rw [hm] at hown
  rw [hm]
  have hmb : m ≤ 15 := by omega
  have HLO : Hid (lo.length = m) := by show _ = _; rw [hlo, List.length_take, HBS.out.1]; omega
  have HRown : Hid (Row w3 (.slice so m co) m lo (fun k => F k ∨ G k)) := Row.mk' hown (fun k hk' => by rcases hk' with h | h; exact H00.out.l.disk.foot_lt k h; exact H00.out.r.disk.foot_lt k h)
  have H1 := Lib.hid (H00.out.quiet hk)
  clear hown hk hm hlo HBS hbc hbm
  go_wp2_with fail
  refine (around_any at_ (41 - (m : Int)) _ at_1 at_2 (by omega) (by omega)).mono ?_
  rintro e _ ⟨rfl, rfl⟩
  obtain ⟨p, hp⟩ : ∃ k : Nat, around at_ (41 - (m : Int)) = k := ⟨(around at_ (41 - (m : Int))).toNat, by have := around_pos at_ (41 - (m : Int)) (by omega); omega⟩
  have bp : (p : Int) < 41 - (m : Int) := by have := (around_pos at_ (41 - (m : Int)) (by omega)).2; rw [hp] at this; exact this
  rw [hp]
  clear hp
  go_wp2_with fail
  refine (around_any cut ((m : Int) + 1) _ cut1 cut2 (by omega) (by omega)).mono ?_
  rintro e _ ⟨rfl, rfl⟩
  obtain ⟨k, hk⟩ : ∃ k : Nat, around cut ((m : Int) + 1) = k := ⟨(around cut ((m : Int) + 1)).toNat, by have := around_pos cut ((m : Int) + 1) (by omega); omega⟩
  have bk : (k : Int) < (m : Int) + 1 := by have := (around_pos cut ((m : Int) + 1) (by omega)).2; rw [hk] at this; exact this
  rw [hk]
  clear hk
  have hpm : p + m ≤ 40 := by omega
  have hkm : k ≤ m := by omega
  clear bp bk at_1 at_2 cut1 cut2
  have i1 : (0 : Int) ≤ (k : Int) := by omega
  have i2 : (k : Int) ≤ (m : Int) := by omega
  have hcap : m ≤ co := by rcases HRown.out.own.2 with ⟨h, h0⟩ | ⟨_, _, _, h, _, _, h', _⟩; omega; simp at h; omega
  have i3 : (k : Int) ≤ (co : Int) := by omega
  have i4 : (m : Int) ≤ (co : Int) := by omega
  have i5 : IntKind.i64.wrap ((p : Int) + (k : Int)) = ((p + k : Nat) : Int) := by rw [IntWalk.i64_in _ (by omega)]; omega
  have HOK := Lib.hid HG.out.ok
  have HW1 : Hid ((D.write p lo).Ok 40 (220 + lo.length)) := write_okD HOK.out (by rw [HLO.out]; exact hpm)
  have HLK : Hid ((lo.take k).length = k) := by show _ = _; rw [List.length_take, HLO.out]; omega
  have HLD : Hid ((lo.drop k).length = m - k) := by show _ = _; rw [List.length_drop, HLO.out]
  have HW2 : Hid ((D.write p (lo.take k)).Ok 40 (220 + (lo.take k).length)) := write_okD HOK.out (by rw [HLK.out]; omega)
  have HEQ : Hid ((D.write p (lo.take k)).write (p + k) (lo.drop k) = D.write p lo) := write_parts D p lo k (by rw [HOK.out.len, HLO.out]; exact hpm) (by rw [HLO.out]; exact hkm)
  have HNX : Hid ((D.write p lo).now.length = 40) := HW1.out.len
  go_wp2_with fail
  obtain ⟨sb, s1, s2, s3⟩ := HRown.out.src
  refine (write_ok x p lo m so sb 0 co D F _ H1.out.l.disk HOK.out.up HLO.out s1 s2 (fun h hf => s3 h (Or.inl hf)) (by rw [HOK.out.len]; exact hpm) (by rw [HOK.out.len]; omega) (by have := HOK.out.lo; omega)).mono ?_
  rintro e w4 ⟨rfl, F4, hd, hk, hs⟩
  clear s1 s2 s3
  have H2 := Lib.hid (H1.out.left hd hk hs)
  have HR3 : Hid (Row w4 (.slice so m co) m lo (fun k => F4 k ∨ G k)) := HRown.out.step (hk.mono (fun _ _ h => Or.inl h)) (fun k h => by rcases h with h | h; exact (hs k h).imp Or.inl id; exact Or.inl (Or.inr h))
  clear hd hk hs
  go_wp2_with fail
  obtain ⟨sb2, s1, s2, s3⟩ := (HR3.out.upto (k := k) hkm).src
  refine (write_ok y p (lo.take k) k so sb2 0 co D G _ H2.out.r.disk HOK.out.up HLK.out s1 s2 (fun h hf => s3 h (Or.inr hf)) (by rw [HOK.out.len]; omega) (by rw [HOK.out.len]; omega) (by have := HOK.out.lo; omega)).mono ?_
  rintro e w5 ⟨rfl, F5, hd, hk, hs⟩
  clear s1 s2 s3
  have H4 := Lib.hid (H2.out.right hd hk hs)
  have HR5 : Hid (Row w5 (.slice so m co) m lo (fun k => F4 k ∨ F5 k)) := HR3.out.step (hk.mono (fun _ _ h => Or.inr h)) (fun k h => by rcases h with h | h; exact Or.inl (Or.inl h); exact (hs k h).imp Or.inr id)
  clear hd hk hs
  rcases own_addr HR5.out.own with ⟨rfl, rfl, rfl⟩ | ⟨gso, rfl⟩
  · obtain rfl : k = 0 := by omega
    go_wp2_with fail
    refine (write_ok y (p + 0) (lo.drop 0) 0 none 0 0 0 (D.write p (lo.take 0)) F5 _ H4.out.r.disk HW2.out.up (by have := HLD.out; omega) (fun h => by omega) (fun j c hc => by have h1 := (List.getElem?_eq_some_iff.1 hc).1; rw [HLD.out] at h1; omega) (fun h => by omega) (by rw [HW2.out.len]; omega) (by rw [HW2.out.len]; omega) (by have := HW2.out.lo; rw [HLK.out] at this; omega)).mono ?_
    rintro e w6 ⟨rfl, F6, hd, hk, hs⟩
    rw [HEQ.out] at hd
    have H6 := Lib.hid (H4.out.right hd hk hs)
    clear hd hk hs
    generalize hDW : D.write p lo = E at *
    have HB := Lib.hid HW1.out.lo
    clear hDW
    go_wp2_with fail
    have H7 := Lib.hid (H6.out.quiet (Keeps.refl _ _).drew)
    refine z_begin (fun w' => True) 14 (by kernel_rfl) (trivial) (fun hHeld => ?_)
    refine z_take 0 (v := ?_) rfl (by kernel_rfl) (by kernel_rfl) (by kernel_rfl) (by kernel_rfl) (fun _ _ _ h => h) hHeld (by rfl) (fun w hSw => ?_) ?_
    rotate_left
    · have hSw1 := hSw; clear hSw; simp only [List.getElem_toArray, List.getElem_cons_zero]; go_simp; try rfl
    simp only [Act.put, List.getElem_toArray, List.getElem_cons_zero, List.setIfInBounds_toArray, List.set_cons_zero, List.set_cons_succ]
    refine z_take 3 (v := ?_) rfl (by kernel_rfl) (by kernel_rfl) (by kernel_rfl) (by kernel_rfl) (fun _ _ _ h => h) hHeld (by rfl) (fun w hSw => ?_) ?_
    rotate_left
    · have hSw1 := hSw; clear hSw; simp only [List.getElem_toArray, List.getElem_cons_zero, List.getElem_cons_succ]; go_simp; try rfl
    simp only [Act.put, List.getElem_toArray, List.getElem_cons_zero, List.getElem_cons_succ, List.setIfInBounds_toArray, List.set_cons_zero, List.set_cons_succ]
    refine z_one 1 rfl (by kernel_rfl) (by rfl) (fun K hK => ?_)
    simp only [List.getElem_toArray, List.getElem_cons_zero, List.getElem_cons_succ]
    go_simp
    refine (raw_any x _ F4 _ H7.out.l.disk (by rw [HNX.out]; omega)).mono ?_
    rintro e w7 ⟨g7, c7, rfl, hown, hk⟩
    rw [HNX.out] at hown
    rw [HNX.out]
    have HR8 : Hid (Row w7 (.slice (some ⟨g7, 0, none⟩) 40 c7) 40 E.now (fun k => F4 k ∨ F6 k)) := Row.mk' hown (fun k hk' => by rcases hk' with h | h; exact H7.out.l.disk.foot_lt k h; exact H7.out.r.disk.foot_lt k h)
    have H9 := Lib.hid (H7.out.quiet hk)
    clear hown hk
    refine hK _ _ (Or.inr ?_) (fun hHeld => ?_)
    · exact trivial
    clear hK K
    replace hHeld := hHeld.resolve_left (by decide)
    try simp only [Act.put, List.setIfInBounds_toArray, List.set_cons_zero, List.set_cons_succ]
    refine z_more (fun w' => (convert 27 9 (.slice (some ⟨g7, 0, none⟩) 40 c7)).run Try.prog w' = .ok (.string (strOf E.now)) w' ∧ True) (fun _ h => h.2) _ _ _ _ ?_
    replace hHeld : (convert 27 9 (.slice (some ⟨g7, 0, none⟩) 40 c7)).run Try.prog w7 = .ok (.string (strOf E.now)) w7 ∧ True := ⟨HR8.out.str, trivial⟩
    refine z_take 2 (v := ?_) rfl (by kernel_rfl) (by kernel_rfl) (by kernel_rfl) (by kernel_rfl) (fun _ _ _ h => h) hHeld (by rfl) (fun w hSw => ?_) ?_
    rotate_left
    · obtain ⟨hSw1, hSw2⟩ := hSw; simp only [List.getElem_toArray, List.getElem_cons_zero, List.getElem_cons_succ]; go_simp; try rfl
    simp only [Act.put, List.getElem_toArray, List.getElem_cons_zero, List.getElem_cons_succ, List.setIfInBounds_toArray, List.set_cons_zero, List.set_cons_succ]
    refine z_one 4 rfl (by kernel_rfl) (by rfl) (fun K hK => ?_)
    simp only [List.getElem_toArray, List.getElem_cons_zero, List.getElem_cons_succ]
    go_simp
    refine (raw_any y _ F6 _ H9.out.r.disk (by rw [HNX.out]; omega)).mono ?_
    rintro e w8 ⟨g8, c8, rfl, hown, hk⟩
    rw [HNX.out] at hown
    rw [HNX.out]
    have HR10 : Hid (Row w8 (.slice (some ⟨g8, 0, none⟩) 40 c8) 40 E.now (fun k => F4 k ∨ F6 k)) := Row.mk' hown (fun k hk' => by rcases hk' with h | h; exact H9.out.l.disk.foot_lt k h; exact H9.out.r.disk.foot_lt k h)
    have H11 := Lib.hid (H9.out.quiet hk)
    have HR12 := Lib.hid (HR8.out.quiet hk)
    clear hown hk
    refine hK _ _ (Or.inr ?_) (fun hHeld => ?_)
    · exact ⟨HR12.out.str, trivial⟩
    clear hK K
    replace hHeld := hHeld.resolve_left (by decide)
    try simp only [Act.put, List.setIfInBounds_toArray, List.set_cons_zero, List.set_cons_succ]
    refine z_more (fun w' => (convert 27 9 (.slice (some ⟨g8, 0, none⟩) 40 c8)).run Try.prog w' = .ok (.string (strOf E.now)) w' ∧ (convert 27 9 (.slice (some ⟨g7, 0, none⟩) 40 c7)).run Try.prog w' = .ok (.string (strOf E.now)) w' ∧ True) (fun _ h => h.2) _ _ _ _ ?_
    replace hHeld : (convert 27 9 (.slice (some ⟨g8, 0, none⟩) 40 c8)).run Try.prog w8 = .ok (.string (strOf E.now)) w8 ∧ (convert 27 9 (.slice (some ⟨g7, 0, none⟩) 40 c7)).run Try.prog w8 = .ok (.string (strOf E.now)) w8 ∧ True := ⟨HR10.out.str, HR12.out.str, trivial⟩
    refine z_take 5 (v := ?_) rfl (by kernel_rfl) (by kernel_rfl) (by kernel_rfl) (by kernel_rfl) (fun _ _ _ h => h) hHeld (by rfl) (fun w hSw => ?_) ?_
    rotate_left
    · obtain ⟨hSw1, hSw2, hSw3⟩ := hSw; simp only [List.getElem_toArray, List.getElem_cons_zero, List.getElem_cons_succ]; go_simp; try rfl
    simp only [Act.put, List.getElem_toArray, List.getElem_cons_zero, List.getElem_cons_succ, List.setIfInBounds_toArray, List.set_cons_zero, List.set_cons_succ]
    refine z_take 6 (v := ?_) rfl (by kernel_rfl) (by kernel_rfl) (by kernel_rfl) (by kernel_rfl) (fun _ _ _ h => h) hHeld (by rfl) (fun w hSw => ?_) ?_
    rotate_left
    · obtain ⟨hSw1, hSw2, hSw3⟩ := hSw; simp only [List.getElem_toArray, List.getElem_cons_zero, List.getElem_cons_succ]; go_simp; try rfl
    simp only [Act.put, List.getElem_toArray, List.getElem_cons_zero, List.getElem_cons_succ, List.setIfInBounds_toArray, List.set_cons_zero, List.set_cons_succ]
    refine z_take 7 (v := ?_) rfl (by kernel_rfl) (by kernel_rfl) (by kernel_rfl) (by kernel_rfl) (fun _ _ _ h => h) hHeld (by rfl) (fun w hSw => ?_) ?_
    rotate_left
    · obtain ⟨hSw1, hSw2, hSw3⟩ := hSw; simp only [List.getElem_toArray, List.getElem_cons_zero, List.getElem_cons_succ]; go_simp; try rfl
    simp only [Act.put, List.getElem_toArray, List.getElem_cons_zero, List.getElem_cons_succ, List.setIfInBounds_toArray, List.set_cons_zero, List.set_cons_succ]
    refine z_take 8 (v := ?_) rfl (by kernel_rfl) (by kernel_rfl) (by kernel_rfl) (by kernel_rfl) (fun _ _ _ h => h) hHeld (by rfl) (fun w hSw => ?_) ?_
    rotate_left
    · obtain ⟨hSw1, hSw2, hSw3⟩ := hSw; simp only [List.getElem_toArray, List.getElem_cons_zero, List.getElem_cons_succ]; go_simp; try rfl
    simp only [Act.put, List.getElem_toArray, List.getElem_cons_zero, List.getElem_cons_succ, List.setIfInBounds_toArray, List.set_cons_zero, List.set_cons_succ]
    refine z_take 10 (v := ?_) rfl (by kernel_rfl) (by kernel_rfl) (by kernel_rfl) (by kernel_rfl) (fun _ _ _ h => h) hHeld (by rfl) (fun w hSw => ?_) ?_
    rotate_left
    · obtain ⟨hSw1, hSw2, hSw3⟩ := hSw; simp only [List.getElem_toArray, List.getElem_cons_zero, List.getElem_cons_succ]; go_simp; try rfl
    simp only [Act.put, List.getElem_toArray, List.getElem_cons_zero, List.getElem_cons_succ, List.setIfInBounds_toArray, List.set_cons_zero, List.set_cons_succ]
    refine z_one 9 rfl (by kernel_rfl) (by rfl) (fun K hK => ?_)
    simp only [List.getElem_toArray, List.getElem_cons_zero, List.getElem_cons_succ]
    go_simp
    refine (loose_any x E F4 _ H11.out.l.disk).mono ?_
    rintro e _ ⟨rfl, rfl⟩
    refine hK _ _ (Or.inr ?_) (fun hHeld => ?_)
    · exact ⟨HR10.out.str, HR12.out.str, trivial⟩
    clear hK K
    replace hHeld := hHeld.resolve_left (by decide)
    try simp only [Act.put, List.setIfInBounds_toArray, List.set_cons_zero, List.set_cons_succ]
    refine z_one 11 rfl (by kernel_rfl) (by rfl) (fun K hK => ?_)
    simp only [List.getElem_toArray, List.getElem_cons_zero, List.getElem_cons_succ]
    go_simp
    refine (loose_any y E F6 _ H11.out.r.disk).mono ?_
    rintro e _ ⟨rfl, rfl⟩
    refine hK _ _ (Or.inr ?_) (fun hHeld => ?_)
    · exact ⟨HR10.out.str, HR12.out.str, trivial⟩
    clear hK K
    replace hHeld := hHeld.resolve_left (by decide)
    try simp only [Act.put, List.setIfInBounds_toArray, List.set_cons_zero, List.set_cons_succ]
    refine z_take 12 (v := ?_) rfl (by kernel_rfl) (by kernel_rfl) (by kernel_rfl) (by kernel_rfl) (fun _ _ _ h => h) hHeld (by rfl) (fun w hSw => ?_) ?_
    rotate_left
    · obtain ⟨hSw1, hSw2, hSw3⟩ := hSw; simp only [List.getElem_toArray, List.getElem_cons_zero, List.getElem_cons_succ]; go_simp; try rfl
    simp only [Act.put, List.getElem_toArray, List.getElem_cons_zero, List.getElem_cons_succ, List.setIfInBounds_toArray, List.set_cons_zero, List.set_cons_succ]
    refine z_one 13 rfl (by kernel_rfl) (by rfl) (fun K hK => ?_)
    simp only [List.getElem_toArray, List.getElem_cons_zero, List.getElem_cons_succ]
    go_simp
    refine hK _ _ (Or.inr ?_) (fun hHeld => ?_)
    · exact hHeld
    clear hK K
    replace hHeld := hHeld.resolve_left (by decide)
    try simp only [Act.put, List.setIfInBounds_toArray, List.set_cons_zero, List.set_cons_succ]
    refine z_done (by kernel_rfl) ?_ _
    go_wp2_with fail
    refine (around_any left 300 _ left1 left2 (by omega) (by omega)).mono ?_
    rintro e _ ⟨rfl, rfl⟩
    obtain ⟨q, hq⟩ : ∃ k : Nat, around left 300 = k := ⟨(around left 300).toNat, by have := around_pos left 300 (by omega); omega⟩
    have bq : (q : Int) < 300 := by have := (around_pos left 300 (by omega)).2; rw [hq] at this; exact this
    rw [hq]
    clear hq
    go_wp2_with fail
    have HNC : Hid ((E.crash q).now.length = 40) := left_len' E _ 40 _ HW1.out
    have H13 := Lib.hid (H11.out.quiet (Keeps.refl _ _).drew)
    refine z_begin (fun w' => True) 24 (by kernel_rfl) (trivial) (fun hHeld => ?_)
    refine z_take 0 (v := ?_) rfl (by kernel_rfl) (by kernel_rfl) (by kernel_rfl) (by kernel_rfl) (fun _ _ _ h => h) hHeld (by rfl) (fun w hSw => ?_) ?_
    rotate_left
    · have hSw1 := hSw; clear hSw; simp only [List.getElem_toArray, List.getElem_cons_zero]; go_simp; try rfl
    simp only [Act.put, List.getElem_toArray, List.getElem_cons_zero, List.setIfInBounds_toArray, List.set_cons_zero, List.set_cons_succ]
    refine z_take 1 (v := ?_) rfl (by kernel_rfl) (by kernel_rfl) (by kernel_rfl) (by kernel_rfl) (fun _ _ _ h => h) hHeld (by rfl) (fun w hSw => ?_) ?_
    rotate_left
    · have hSw1 := hSw; clear hSw; simp only [List.getElem_toArray, List.getElem_cons_zero, List.getElem_cons_succ]; go_simp; try rfl
    simp only [Act.put, List.getElem_toArray, List.getElem_cons_zero, List.getElem_cons_succ, List.setIfInBounds_toArray, List.set_cons_zero, List.set_cons_succ]
    refine z_one 2 rfl (by kernel_rfl) (by rfl) (fun K hK => ?_)
    simp only [List.getElem_toArray, List.getElem_cons_zero, List.getElem_cons_succ]
    go_simp
    refine (crash_ok x q E F4 _ H13.out.l.disk HW1.out.up (by have := HB.out; rw [HLO.out] at this; omega) (by rw [HW1.out.len]; exact HW1.out.at_)).mono ?_
    rintro e w9 ⟨rfl, F9, hd, hk, hs⟩
    have H14 := Lib.hid (H13.out.left hd hk hs)
    clear hd hk hs
    refine hK _ _ (Or.inr ?_) (fun hHeld => ?_)
    · exact trivial
    clear hK K
    replace hHeld := hHeld.resolve_left (by decide)
    try simp only [Act.put, List.setIfInBounds_toArray, List.set_cons_zero, List.set_cons_succ]
    refine z_take 3 (v := ?_) rfl (by kernel_rfl) (by kernel_rfl) (by kernel_rfl) (by kernel_rfl) (fun _ _ _ h => h) hHeld (by rfl) (fun w hSw => ?_) ?_
    rotate_left
    · have hSw1 := hSw; clear hSw; simp only [List.getElem_toArray, List.getElem_cons_zero, List.getElem_cons_succ]; go_simp; try rfl
    simp only [Act.put, List.getElem_toArray, List.getElem_cons_zero, List.getElem_cons_succ, List.setIfInBounds_toArray, List.set_cons_zero, List.set_cons_succ]
    refine z_take 4 (v := ?_) rfl (by kernel_rfl) (by kernel_rfl) (by kernel_rfl) (by kernel_rfl) (fun _ _ _ h => h) hHeld (by rfl) (fun w hSw => ?_) ?_
    rotate_left
    · have hSw1 := hSw; clear hSw; simp only [List.getElem_toArray, List.getElem_cons_zero, List.getElem_cons_succ]; go_simp; try rfl
    simp only [Act.put, List.getElem_toArray, List.getElem_cons_zero, List.getElem_cons_succ, List.setIfInBounds_toArray, List.set_cons_zero, List.set_cons_succ]
    refine z_take 5 (v := ?_) rfl (by kernel_rfl) (by kernel_rfl) (by kernel_rfl) (by kernel_rfl) (fun _ _ _ h => h) hHeld (by rfl) (fun w hSw => ?_) ?_
    rotate_left
    · have hSw1 := hSw; clear hSw; simp only [List.getElem_toArray, List.getElem_cons_zero, List.getElem_cons_succ]; go_simp; try rfl
    simp only [Act.put, List.getElem_toArray, List.getElem_cons_zero, List.getElem_cons_succ, List.setIfInBounds_toArray, List.set_cons_zero, List.set_cons_succ]
    refine z_take 6 (v := ?_) rfl (by kernel_rfl) (by kernel_rfl) (by kernel_rfl) (by kernel_rfl) (fun _ _ _ h => h) hHeld (by rfl) (fun w hSw => ?_) ?_
    rotate_left
    · have hSw1 := hSw; clear hSw; simp only [List.getElem_toArray, List.getElem_cons_zero, List.getElem_cons_succ]; go_simp; try rfl
    simp only [Act.put, List.getElem_toArray, List.getElem_cons_zero, List.getElem_cons_succ, List.setIfInBounds_toArray, List.set_cons_zero, List.set_cons_succ]
    refine z_one 7 rfl (by kernel_rfl) (by rfl) (fun K hK => ?_)
    simp only [List.getElem_toArray, List.getElem_cons_zero, List.getElem_cons_succ]
    go_simp
    refine (crash_ok y q E F6 _ H14.out.r.disk HW1.out.up (by have := HB.out; rw [HLO.out] at this; omega) (by rw [HW1.out.len]; exact HW1.out.at_)).mono ?_
    rintro e w10 ⟨rfl, F10, hd, hk, hs⟩
    have H15 := Lib.hid (H14.out.right hd hk hs)
    clear hd hk hs
    refine hK _ _ (Or.inr ?_) (fun hHeld => ?_)
    · exact trivial
    clear hK K
    replace hHeld := hHeld.resolve_left (by decide)
    try simp only [Act.put, List.setIfInBounds_toArray, List.set_cons_zero, List.set_cons_succ]
    refine z_take 8 (v := ?_) rfl (by kernel_rfl) (by kernel_rfl) (by kernel_rfl) (by kernel_rfl) (fun _ _ _ h => h) hHeld (by rfl) (fun w hSw => ?_) ?_
    rotate_left
    · have hSw1 := hSw; clear hSw; simp only [List.getElem_toArray, List.getElem_cons_zero, List.getElem_cons_succ]; go_simp; try rfl
    simp only [Act.put, List.getElem_toArray, List.getElem_cons_zero, List.getElem_cons_succ, List.setIfInBounds_toArray, List.set_cons_zero, List.set_cons_succ]
    refine z_take 9 (v := ?_) rfl (by kernel_rfl) (by kernel_rfl) (by kernel_rfl) (by kernel_rfl) (fun _ _ _ h => h) hHeld (by rfl) (fun w hSw => ?_) ?_
    rotate_left
    · have hSw1 := hSw; clear hSw; simp only [List.getElem_toArray, List.getElem_cons_zero, List.getElem_cons_succ]; go_simp; try rfl
    simp only [Act.put, List.getElem_toArray, List.getElem_cons_zero, List.getElem_cons_succ, List.setIfInBounds_toArray, List.set_cons_zero, List.set_cons_succ]
    refine z_take 10 (v := ?_) rfl (by kernel_rfl) (by kernel_rfl) (by kernel_rfl) (by kernel_rfl) (fun _ _ _ h => h) hHeld (by rfl) (fun w hSw => ?_) ?_
    rotate_left
    · have hSw1 := hSw; clear hSw; simp only [List.getElem_toArray, List.getElem_cons_zero, List.getElem_cons_succ]; go_simp; try rfl
    simp only [Act.put, List.getElem_toArray, List.getElem_cons_zero, List.getElem_cons_succ, List.setIfInBounds_toArray, List.set_cons_zero, List.set_cons_succ]
    refine z_take 11 (v := ?_) rfl (by kernel_rfl) (by kernel_rfl) (by kernel_rfl) (by kernel_rfl) (fun _ _ _ h => h) hHeld (by rfl) (fun w hSw => ?_) ?_
    rotate_left
    · have hSw1 := hSw; clear hSw; simp only [List.getElem_toArray, List.getElem_cons_zero, List.getElem_cons_succ]; go_simp; try rfl
    simp only [Act.put, List.getElem_toArray, List.getElem_cons_zero, List.getElem_cons_succ, List.setIfInBounds_toArray, List.set_cons_zero, List.set_cons_succ]
    refine z_take 14 (v := ?_) rfl (by kernel_rfl) (by kernel_rfl) (by kernel_rfl) (by kernel_rfl) (fun _ _ _ h => h) hHeld (by rfl) (fun w hSw => ?_) ?_
    rotate_left
    · have hSw1 := hSw; clear hSw; simp only [List.getElem_toArray, List.getElem_cons_zero, List.getElem_cons_succ]; go_simp; try rfl
    simp only [Act.put, List.getElem_toArray, List.getElem_cons_zero, List.getElem_cons_succ, List.setIfInBounds_toArray, List.set_cons_zero, List.set_cons_succ]
    refine z_one 12 rfl (by kernel_rfl) (by rfl) (fun K hK => ?_)
    simp only [List.getElem_toArray, List.getElem_cons_zero, List.getElem_cons_succ]
    go_simp
    refine (raw_any x _ F9 _ H15.out.l.disk (by rw [HNC.out]; omega)).mono ?_
    rintro e w11 ⟨g11, c11, rfl, hown, hk⟩
    rw [HNC.out] at hown
    rw [HNC.out]
    have HR16 : Hid (Row w11 (.slice (some ⟨g11, 0, none⟩) 40 c11) 40 (E.crash q).now (fun k => F9 k ∨ F10 k)) := Row.mk' hown (fun k hk' => by rcases hk' with h | h; exact H15.out.l.disk.foot_lt k h; exact H15.out.r.disk.foot_lt k h)
    have H17 := Lib.hid (H15.out.quiet hk)
    clear hown hk
    refine hK _ _ (Or.inr ?_) (fun hHeld => ?_)
    · exact trivial
    clear hK K
    replace hHeld := hHeld.resolve_left (by decide)
    try simp only [Act.put, List.setIfInBounds_toArray, List.set_cons_zero, List.set_cons_succ]
    refine z_more (fun w' => (convert 27 9 (.slice (some ⟨g11, 0, none⟩) 40 c11)).run Try.prog w' = .ok (.string (strOf (E.crash q).now)) w' ∧ True) (fun _ h => h.2) _ _ _ _ ?_
    replace hHeld : (convert 27 9 (.slice (some ⟨g11, 0, none⟩) 40 c11)).run Try.prog w11 = .ok (.string (strOf (E.crash q).now)) w11 ∧ True := ⟨HR16.out.str, trivial⟩
    refine z_take 13 (v := ?_) rfl (by kernel_rfl) (by kernel_rfl) (by kernel_rfl) (by kernel_rfl) (fun _ _ _ h => h) hHeld (by rfl) (fun w hSw => ?_) ?_
    rotate_left
    · obtain ⟨hSw1, hSw2⟩ := hSw; simp only [List.getElem_toArray, List.getElem_cons_zero, List.getElem_cons_succ]; go_simp; try rfl
    simp only [Act.put, List.getElem_toArray, List.getElem_cons_zero, List.getElem_cons_succ, List.setIfInBounds_toArray, List.set_cons_zero, List.set_cons_succ]
    refine z_one 15 rfl (by kernel_rfl) (by rfl) (fun K hK => ?_)
    simp only [List.getElem_toArray, List.getElem_cons_zero, List.getElem_cons_succ]
    go_simp
    refine (raw_any y _ F10 _ H17.out.r.disk (by rw [HNC.out]; omega)).mono ?_
    rintro e w12 ⟨g12, c12, rfl, hown, hk⟩
    rw [HNC.out] at hown
    rw [HNC.out]
    have HR18 : Hid (Row w12 (.slice (some ⟨g12, 0, none⟩) 40 c12) 40 (E.crash q).now (fun k => F9 k ∨ F10 k)) := Row.mk' hown (fun k hk' => by rcases hk' with h | h; exact H17.out.l.disk.foot_lt k h; exact H17.out.r.disk.foot_lt k h)
    have H19 := Lib.hid (H17.out.quiet hk)
    have HR20 := Lib.hid (HR16.out.quiet hk)
    clear hown hk
    refine hK _ _ (Or.inr ?_) (fun hHeld => ?_)
    · exact ⟨HR20.out.str, trivial⟩
    clear hK K
    replace hHeld := hHeld.resolve_left (by decide)
    try simp only [Act.put, List.setIfInBounds_toArray, List.set_cons_zero, List.set_cons_succ]
    refine z_more (fun w' => (convert 27 9 (.slice (some ⟨g12, 0, none⟩) 40 c12)).run Try.prog w' = .ok (.string (strOf (E.crash q).now)) w' ∧ (convert 27 9 (.slice (some ⟨g11, 0, none⟩) 40 c11)).run Try.prog w' = .ok (.string (strOf (E.crash q).now)) w' ∧ True) (fun _ h => h.2) _ _ _ _ ?_
    replace hHeld : (convert 27 9 (.slice (some ⟨g12, 0, none⟩) 40 c12)).run Try.prog w12 = .ok (.string (strOf (E.crash q).now)) w12 ∧ (convert 27 9 (.slice (some ⟨g11, 0, none⟩) 40 c11)).run Try.prog w12 = .ok (.string (strOf (E.crash q).now)) w12 ∧ True := ⟨HR18.out.str, HR20.out.str, trivial⟩
    refine z_take 16 (v := ?_) rfl (by kernel_rfl) (by kernel_rfl) (by kernel_rfl) (by kernel_rfl) (fun _ _ _ h => h) hHeld (by rfl) (fun w hSw => ?_) ?_
    rotate_left
    · obtain ⟨hSw1, hSw2, hSw3⟩ := hSw; simp only [List.getElem_toArray, List.getElem_cons_zero, List.getElem_cons_succ]; go_simp; try rfl
    simp only [Act.put, List.getElem_toArray, List.getElem_cons_zero, List.getElem_cons_succ, List.setIfInBounds_toArray, List.set_cons_zero, List.set_cons_succ]
    refine z_take 17 (v := ?_) rfl (by kernel_rfl) (by kernel_rfl) (by kernel_rfl) (by kernel_rfl) (fun _ _ _ h => h) hHeld (by rfl) (fun w hSw => ?_) ?_
    rotate_left
    · obtain ⟨hSw1, hSw2, hSw3⟩ := hSw; simp only [List.getElem_toArray, List.getElem_cons_zero, List.getElem_cons_succ]; go_simp; try rfl
    simp only [Act.put, List.getElem_toArray, List.getElem_cons_zero, List.getElem_cons_succ, List.setIfInBounds_toArray, List.set_cons_zero, List.set_cons_succ]
    refine z_take 18 (v := ?_) rfl (by kernel_rfl) (by kernel_rfl) (by kernel_rfl) (by kernel_rfl) (fun _ _ _ h => h) hHeld (by rfl) (fun w hSw => ?_) ?_
    rotate_left
    · obtain ⟨hSw1, hSw2, hSw3⟩ := hSw; simp only [List.getElem_toArray, List.getElem_cons_zero, List.getElem_cons_succ]; go_simp; try rfl
    simp only [Act.put, List.getElem_toArray, List.getElem_cons_zero, List.getElem_cons_succ, List.setIfInBounds_toArray, List.set_cons_zero, List.set_cons_succ]
    refine z_take 19 (v := ?_) rfl (by kernel_rfl) (by kernel_rfl) (by kernel_rfl) (by kernel_rfl) (fun _ _ _ h => h) hHeld (by rfl) (fun w hSw => ?_) ?_
    rotate_left
    · obtain ⟨hSw1, hSw2, hSw3⟩ := hSw; simp only [List.getElem_toArray, List.getElem_cons_zero, List.getElem_cons_succ]; go_simp; try rfl
    simp only [Act.put, List.getElem_toArray, List.getElem_cons_zero, List.getElem_cons_succ, List.setIfInBounds_toArray, List.set_cons_zero, List.set_cons_succ]
    refine z_one 20 rfl (by kernel_rfl) (by rfl) (fun K hK => ?_)
    simp only [List.getElem_toArray, List.getElem_cons_zero, List.getElem_cons_succ]
    go_simp
    refine (lives_any _).mono ?_
    rintro e w13 ⟨rfl, hk⟩
    have H21 := Lib.hid (H19.out.quiet hk)
    have HR22 := Lib.hid (HR20.out.quiet hk)
    have HR23 := Lib.hid (HR18.out.quiet hk)
    clear hk
    refine hK _ _ (Or.inr ?_) (fun hHeld => ?_)
    · exact ⟨HR23.out.str, HR22.out.str, trivial⟩
    clear hK K
    replace hHeld := hHeld.resolve_left (by decide)
    try simp only [Act.put, List.setIfInBounds_toArray, List.set_cons_zero, List.set_cons_succ]
    refine z_take 21 (v := ?_) rfl (by kernel_rfl) (by kernel_rfl) (by kernel_rfl) (by kernel_rfl) (fun _ _ _ h => h) hHeld (by rfl) (fun w hSw => ?_) ?_
    rotate_left
    · obtain ⟨hSw1, hSw2, hSw3⟩ := hSw; simp only [List.getElem_toArray, List.getElem_cons_zero, List.getElem_cons_succ]; go_simp; try rfl
    simp only [Act.put, List.getElem_toArray, List.getElem_cons_zero, List.getElem_cons_succ, List.setIfInBounds_toArray, List.set_cons_zero, List.set_cons_succ]
    refine z_one 22 rfl (by kernel_rfl) (by rfl) (fun K hK => ?_)
    simp only [List.getElem_toArray, List.getElem_cons_zero, List.getElem_cons_succ]
    go_simp
    refine hK _ _ (Or.inr ?_) (fun hHeld => ?_)
    · exact hHeld
    clear hK K
    replace hHeld := hHeld.resolve_left (by decide)
    try simp only [Act.put, List.setIfInBounds_toArray, List.set_cons_zero, List.set_cons_succ]
    refine z_done (by kernel_rfl) ?_ _
    go_wp2
    go_ret
    exact ⟨rfl, H21.out.l.below⟩
  · obtain ⟨ad, had, hadp⟩ : ∃ ad : Addr, (if co = k then some (⟨gso, 0, none⟩ : Addr) else some ⟨gso, k, none⟩) = some ad ∧ (0 < m - k → ad = ⟨gso, k, none⟩) := by
      by_cases e : co = k
      · exact ⟨_, if_pos e, fun h => by omega⟩
      · exact ⟨_, if_neg e, fun _ => rfl⟩
    have HSR : Hid (∀ (j : Nat) (c : UInt8), (lo.drop k)[j]? = some c → w5.cell? ⟨gso, k + j, none⟩ = some (.int .u8 c.toNat)) := fun j c hc => own_cell HR5.out.own _ _ (by rw [List.getElem?_drop] at hc; rw [BV_get, hc]; rfl)
    have HADP : Hid (0 < m - k → some ad = some (⟨gso, k, none⟩ : Addr)) := fun h => by rw [hadp h]
    have HNF : Hid (¬ F5 gso) := fun hf => HR5.out.ap gso rfl (Or.inr hf)
    clear hadp
    go_wp2_with fail
    refine (write_ok y (p + k) (lo.drop k) (m - k) (some ad) gso k (co - k) (D.write p (lo.take k)) F5 _ H4.out.r.disk HW2.out.up HLD.out HADP.out HSR.out (fun _ => HNF.out) (by rw [HW2.out.len]; omega) (by rw [HW2.out.len]; omega) (by have := HW2.out.lo; rw [HLK.out] at this; omega)).mono ?_
    rintro e w6 ⟨rfl, F6, hd, hk, hs⟩
    rw [HEQ.out] at hd
    have H6 := Lib.hid (H4.out.right hd hk hs)
    clear hd hk hs had HADP HSR
    generalize hDW : D.write p lo = E at *
    have HB := Lib.hid HW1.out.lo
    clear hDW
    go_wp2_with fail
    have H7 := Lib.hid (H6.out.quiet (Keeps.refl _ _).drew)
    refine z_begin (fun w' => True) 14 (by kernel_rfl) (trivial) (fun hHeld => ?_)
    refine z_take 0 (v := ?_) rfl (by kernel_rfl) (by kernel_rfl) (by kernel_rfl) (by kernel_rfl) (fun _ _ _ h => h) hHeld (by rfl) (fun w hSw => ?_) ?_
    rotate_left
    · have hSw1 := hSw; clear hSw; simp only [List.getElem_toArray, List.getElem_cons_zero]; go_simp; try rfl
    simp only [Act.put, List.getElem_toArray, List.getElem_cons_zero, List.setIfInBounds_toArray, List.set_cons_zero, List.set_cons_succ]
    refine z_take 3 (v := ?_) rfl (by kernel_rfl) (by kernel_rfl) (by kernel_rfl) (by kernel_rfl) (fun _ _ _ h => h) hHeld (by rfl) (fun w hSw => ?_) ?_
    rotate_left
    · have hSw1 := hSw; clear hSw; simp only [List.getElem_toArray, List.getElem_cons_zero, List.getElem_cons_succ]; go_simp; try rfl
    simp only [Act.put, List.getElem_toArray, List.getElem_cons_zero, List.getElem_cons_succ, List.setIfInBounds_toArray, List.set_cons_zero, List.set_cons_succ]
    refine z_one 1 rfl (by kernel_rfl) (by rfl) (fun K hK => ?_)
    simp only [List.getElem_toArray, List.getElem_cons_zero, List.getElem_cons_succ]
    go_simp
    refine (raw_any x _ F4 _ H7.out.l.disk (by rw [HNX.out]; omega)).mono ?_
    rintro e w7 ⟨g7, c7, rfl, hown, hk⟩
    rw [HNX.out] at hown
    rw [HNX.out]
    have HR8 : Hid (Row w7 (.slice (some ⟨g7, 0, none⟩) 40 c7) 40 E.now (fun k => F4 k ∨ F6 k)) := Row.mk' hown (fun k hk' => by rcases hk' with h | h; exact H7.out.l.disk.foot_lt k h; exact H7.out.r.disk.foot_lt k h)
    have H9 := Lib.hid (H7.out.quiet hk)
    clear hown hk
    refine hK _ _ (Or.inr ?_) (fun hHeld => ?_)
    · exact trivial
    clear hK K
    replace hHeld := hHeld.resolve_left (by decide)
    try simp only [Act.put, List.setIfInBounds_toArray, List.set_cons_zero, List.set_cons_succ]
    refine z_more (fun w' => (convert 27 9 (.slice (some ⟨g7, 0, none⟩) 40 c7)).run Try.prog w' = .ok (.string (strOf E.now)) w' ∧ True) (fun _ h => h.2) _ _ _ _ ?_
    replace hHeld : (convert 27 9 (.slice (some ⟨g7, 0, none⟩) 40 c7)).run Try.prog w7 = .ok (.string (strOf E.now)) w7 ∧ True := ⟨HR8.out.str, trivial⟩
    refine z_take 2 (v := ?_) rfl (by kernel_rfl) (by kernel_rfl) (by kernel_rfl) (by kernel_rfl) (fun _ _ _ h => h) hHeld (by rfl) (fun w hSw => ?_) ?_
    rotate_left
    · obtain ⟨hSw1, hSw2⟩ := hSw; simp only [List.getElem_toArray, List.getElem_cons_zero, List.getElem_cons_succ]; go_simp; try rfl
    simp only [Act.put, List.getElem_toArray, List.getElem_cons_zero, List.getElem_cons_succ, List.setIfInBounds_toArray, List.set_cons_zero, List.set_cons_succ]
    refine z_one 4 rfl (by kernel_rfl) (by rfl) (fun K hK => ?_)
    simp only [List.getElem_toArray, List.getElem_cons_zero, List.getElem_cons_succ]
    go_simp
    refine (raw_any y _ F6 _ H9.out.r.disk (by rw [HNX.out]; omega)).mono ?_
    rintro e w8 ⟨g8, c8, rfl, hown, hk⟩
    rw [HNX.out] at hown
    rw [HNX.out]
    have HR10 : Hid (Row w8 (.slice (some ⟨g8, 0, none⟩) 40 c8) 40 E.now (fun k => F4 k ∨ F6 k)) := Row.mk' hown (fun k hk' => by rcases hk' with h | h; exact H9.out.l.disk.foot_lt k h; exact H9.out.r.disk.foot_lt k h)
    have H11 := Lib.hid (H9.out.quiet hk)
    have HR12 := Lib.hid (HR8.out.quiet hk)
    clear hown hk
    refine hK _ _ (Or.inr ?_) (fun hHeld => ?_)
    · exact ⟨HR12.out.str, trivial⟩
    clear hK K
    replace hHeld := hHeld.resolve_left (by decide)
    try simp only [Act.put, List.setIfInBounds_toArray, List.set_cons_zero, List.set_cons_succ]
    refine z_more (fun w' => (convert 27 9 (.slice (some ⟨g8, 0, none⟩) 40 c8)).run Try.prog w' = .ok (.string (strOf E.now)) w' ∧ (convert 27 9 (.slice (some ⟨g7, 0, none⟩) 40 c7)).run Try.prog w' = .ok (.string (strOf E.now)) w' ∧ True) (fun _ h => h.2) _ _ _ _ ?_
    replace hHeld : (convert 27 9 (.slice (some ⟨g8, 0, none⟩) 40 c8)).run Try.prog w8 = .ok (.string (strOf E.now)) w8 ∧ (convert 27 9 (.slice (some ⟨g7, 0, none⟩) 40 c7)).run Try.prog w8 = .ok (.string (strOf E.now)) w8 ∧ True := ⟨HR10.out.str, HR12.out.str, trivial⟩
    refine z_take 5 (v := ?_) rfl (by kernel_rfl) (by kernel_rfl) (by kernel_rfl) (by kernel_rfl) (fun _ _ _ h => h) hHeld (by rfl) (fun w hSw => ?_) ?_
    rotate_left
    · obtain ⟨hSw1, hSw2, hSw3⟩ := hSw; simp only [List.getElem_toArray, List.getElem_cons_zero, List.getElem_cons_succ]; go_simp; try rfl
    simp only [Act.put, List.getElem_toArray, List.getElem_cons_zero, List.getElem_cons_succ, List.setIfInBounds_toArray, List.set_cons_zero, List.set_cons_succ]
    refine z_take 6 (v := ?_) rfl (by kernel_rfl) (by kernel_rfl) (by kernel_rfl) (by kernel_rfl) (fun _ _ _ h => h) hHeld (by rfl) (fun w hSw => ?_) ?_
    rotate_left
    · obtain ⟨hSw1, hSw2, hSw3⟩ := hSw; simp only [List.getElem_toArray, List.getElem_cons_zero, List.getElem_cons_succ]; go_simp; try rfl
    simp only [Act.put, List.getElem_toArray, List.getElem_cons_zero, List.getElem_cons_succ, List.setIfInBounds_toArray, List.set_cons_zero, List.set_cons_succ]
    refine z_take 7 (v := ?_) rfl (by kernel_rfl) (by kernel_rfl) (by kernel_rfl) (by kernel_rfl) (fun _ _ _ h => h) hHeld (by rfl) (fun w hSw => ?_) ?_
    rotate_left
    · obtain ⟨hSw1, hSw2, hSw3⟩ := hSw; simp only [List.getElem_toArray, List.getElem_cons_zero, List.getElem_cons_succ]; go_simp; try rfl
    simp only [Act.put, List.getElem_toArray, List.getElem_cons_zero, List.getElem_cons_succ, List.setIfInBounds_toArray, List.set_cons_zero, List.set_cons_succ]
    refine z_take 8 (v := ?_) rfl (by kernel_rfl) (by kernel_rfl) (by kernel_rfl) (by kernel_rfl) (fun _ _ _ h => h) hHeld (by rfl) (fun w hSw => ?_) ?_
    rotate_left
    · obtain ⟨hSw1, hSw2, hSw3⟩ := hSw; simp only [List.getElem_toArray, List.getElem_cons_zero, List.getElem_cons_succ]; go_simp; try rfl
    simp only [Act.put, List.getElem_toArray, List.getElem_cons_zero, List.getElem_cons_succ, List.setIfInBounds_toArray, List.set_cons_zero, List.set_cons_succ]
    refine z_take 10 (v := ?_) rfl (by kernel_rfl) (by kernel_rfl) (by kernel_rfl) (by kernel_rfl) (fun _ _ _ h => h) hHeld (by rfl) (fun w hSw => ?_) ?_
    rotate_left
    · obtain ⟨hSw1, hSw2, hSw3⟩ := hSw; simp only [List.getElem_toArray, List.getElem_cons_zero, List.getElem_cons_succ]; go_simp; try rfl
    simp only [Act.put, List.getElem_toArray, List.getElem_cons_zero, List.getElem_cons_succ, List.setIfInBounds_toArray, List.set_cons_zero, List.set_cons_succ]
    refine z_one 9 rfl (by kernel_rfl) (by rfl) (fun K hK => ?_)
    simp only [List.getElem_toArray, List.getElem_cons_zero, List.getElem_cons_succ]
    go_simp
    refine (loose_any x E F4 _ H11.out.l.disk).mono ?_
    rintro e _ ⟨rfl, rfl⟩
    refine hK _ _ (Or.inr ?_) (fun hHeld => ?_)
    · exact ⟨HR10.out.str, HR12.out.str, trivial⟩
    clear hK K
    replace hHeld := hHeld.resolve_left (by decide)
    try simp only [Act.put, List.setIfInBounds_toArray, List.set_cons_zero, List.set_cons_succ]
    refine z_one 11 rfl (by kernel_rfl) (by rfl) (fun K hK => ?_)
    simp only [List.getElem_toArray, List.getElem_cons_zero, List.getElem_cons_succ]
    go_simp
    refine (loose_any y E F6 _ H11.out.r.disk).mono ?_
    rintro e _ ⟨rfl, rfl⟩
    refine hK _ _ (Or.inr ?_) (fun hHeld => ?_)
    · exact ⟨HR10.out.str, HR12.out.str, trivial⟩
    clear hK K
    replace hHeld := hHeld.resolve_left (by decide)
    try simp only [Act.put, List.setIfInBounds_toArray, List.set_cons_zero, List.set_cons_succ]
    refine z_take 12 (v := ?_) rfl (by kernel_rfl) (by kernel_rfl) (by kernel_rfl) (by kernel_rfl) (fun _ _ _ h => h) hHeld (by rfl) (fun w hSw => ?_) ?_
    rotate_left
    · obtain ⟨hSw1, hSw2, hSw3⟩ := hSw; simp only [List.getElem_toArray, List.getElem_cons_zero, List.getElem_cons_succ]; go_simp; try rfl
    simp only [Act.put, List.getElem_toArray, List.getElem_cons_zero, List.getElem_cons_succ, List.setIfInBounds_toArray, List.set_cons_zero, List.set_cons_succ]
    refine z_one 13 rfl (by kernel_rfl) (by rfl) (fun K hK => ?_)
    simp only [List.getElem_toArray, List.getElem_cons_zero, List.getElem_cons_succ]
    go_simp
    refine hK _ _ (Or.inr ?_) (fun hHeld => ?_)
    · exact hHeld
    clear hK K
    replace hHeld := hHeld.resolve_left (by decide)
    try simp only [Act.put, List.setIfInBounds_toArray, List.set_cons_zero, List.set_cons_succ]
    refine z_done (by kernel_rfl) ?_ _
    go_wp2_with fail
    refine (around_any left 300 _ left1 left2 (by omega) (by omega)).mono ?_
    rintro e _ ⟨rfl, rfl⟩
    obtain ⟨q, hq⟩ : ∃ k : Nat, around left 300 = k := ⟨(around left 300).toNat, by have := around_pos left 300 (by omega); omega⟩
    have bq : (q : Int) < 300 := by have := (around_pos left 300 (by omega)).2; rw [hq] at this; exact this
    rw [hq]
    clear hq
    go_wp2_with fail
    have HNC : Hid ((E.crash q).now.length = 40) := left_len' E _ 40 _ HW1.out
    have H13 := Lib.hid (H11.out.quiet (Keeps.refl _ _).drew)
    refine z_begin (fun w' => True) 24 (by kernel_rfl) (trivial) (fun hHeld => ?_)
    refine z_take 0 (v := ?_) rfl (by kernel_rfl) (by kernel_rfl) (by kernel_rfl) (by kernel_rfl) (fun _ _ _ h => h) hHeld (by rfl) (fun w hSw => ?_) ?_
    rotate_left
    · have hSw1 := hSw; clear hSw; simp only [List.getElem_toArray, List.getElem_cons_zero]; go_simp; try rfl
    simp only [Act.put, List.getElem_toArray, List.getElem_cons_zero, List.setIfInBounds_toArray, List.set_cons_zero, List.set_cons_succ]
    refine z_take 1 (v := ?_) rfl (by kernel_rfl) (by kernel_rfl) (by kernel_rfl) (by kernel_rfl) (fun _ _ _ h => h) hHeld (by rfl) (fun w hSw => ?_) ?_
    rotate_left
    · have hSw1 := hSw; clear hSw; simp only [List.getElem_toArray, List.getElem_cons_zero, List.getElem_cons_succ]; go_simp; try rfl
    simp only [Act.put, List.getElem_toArray, List.getElem_cons_zero, List.getElem_cons_succ, List.setIfInBounds_toArray, List.set_cons_zero, List.set_cons_succ]
    refine z_one 2 rfl (by kernel_rfl) (by rfl) (fun K hK => ?_)
    simp only [List.getElem_toArray, List.getElem_cons_zero, List.getElem_cons_succ]
    go_simp
    refine (crash_ok x q E F4 _ H13.out.l.disk HW1.out.up (by have := HB.out; rw [HLO.out] at this; omega) (by rw [HW1.out.len]; exact HW1.out.at_)).mono ?_
    rintro e w9 ⟨rfl, F9, hd, hk, hs⟩
    have H14 := Lib.hid (H13.out.left hd hk hs)
    clear hd hk hs
    refine hK _ _ (Or.inr ?_) (fun hHeld => ?_)
    · exact trivial
    clear hK K
    replace hHeld := hHeld.resolve_left (by decide)
    try simp only [Act.put, List.setIfInBounds_toArray, List.set_cons_zero, List.set_cons_succ]
    refine z_take 3 (v := ?_) rfl (by kernel_rfl) (by kernel_rfl) (by kernel_rfl) (by kernel_rfl) (fun _ _ _ h => h) hHeld (by rfl) (fun w hSw => ?_) ?_
    rotate_left
    · have hSw1 := hSw; clear hSw; simp only [List.getElem_toArray, List.getElem_cons_zero, List.getElem_cons_succ]; go_simp; try rfl
    simp only [Act.put, List.getElem_toArray, List.getElem_cons_zero, List.getElem_cons_succ, List.setIfInBounds_toArray, List.set_cons_zero, List.set_cons_succ]
    refine z_take 4 (v := ?_) rfl (by kernel_rfl) (by kernel_rfl) (by kernel_rfl) (by kernel_rfl) (fun _ _ _ h => h) hHeld (by rfl) (fun w hSw => ?_) ?_
    rotate_left
    · have hSw1 := hSw; clear hSw; simp only [List.getElem_toArray, List.getElem_cons_zero, List.getElem_cons_succ]; go_simp; try rfl
    simp only [Act.put, List.getElem_toArray, List.getElem_cons_zero, List.getElem_cons_succ, List.setIfInBounds_toArray, List.set_cons_zero, List.set_cons_succ]
    refine z_take 5 (v := ?_) rfl (by kernel_rfl) (by kernel_rfl) (by kernel_rfl) (by kernel_rfl) (fun _ _ _ h => h) hHeld (by rfl) (fun w hSw => ?_) ?_
    rotate_left
    · have hSw1 := hSw; clear hSw; simp only [List.getElem_toArray, List.getElem_cons_zero, List.getElem_cons_succ]; go_simp; try rfl
    simp only [Act.put, List.getElem_toArray, List.getElem_cons_zero, List.getElem_cons_succ, List.setIfInBounds_toArray, List.set_cons_zero, List.set_cons_succ]
    refine z_take 6 (v := ?_) rfl (by kernel_rfl) (by kernel_rfl) (by kernel_rfl) (by kernel_rfl) (fun _ _ _ h => h) hHeld (by rfl) (fun w hSw => ?_) ?_
    rotate_left
    · have hSw1 := hSw; clear hSw; simp only [List.getElem_toArray, List.getElem_cons_zero, List.getElem_cons_succ]; go_simp; try rfl
    simp only [Act.put, List.getElem_toArray, List.getElem_cons_zero, List.getElem_cons_succ, List.setIfInBounds_toArray, List.set_cons_zero, List.set_cons_succ]
    refine z_one 7 rfl (by kernel_rfl) (by rfl) (fun K hK => ?_)
    simp only [List.getElem_toArray, List.getElem_cons_zero, List.getElem_cons_succ]
    go_simp
    refine (crash_ok y q E F6 _ H14.out.r.disk HW1.out.up (by have := HB.out; rw [HLO.out] at this; omega) (by rw [HW1.out.len]; exact HW1.out.at_)).mono ?_
    rintro e w10 ⟨rfl, F10, hd, hk, hs⟩
    have H15 := Lib.hid (H14.out.right hd hk hs)
    clear hd hk hs
    refine hK _ _ (Or.inr ?_) (fun hHeld => ?_)
    · exact trivial
    clear hK K
    replace hHeld := hHeld.resolve_left (by decide)
    try simp only [Act.put, List.setIfInBounds_toArray, List.set_cons_zero, List.set_cons_succ]
    refine z_take 8 (v := ?_) rfl (by kernel_rfl) (by kernel_rfl) (by kernel_rfl) (by kernel_rfl) (fun _ _ _ h => h) hHeld (by rfl) (fun w hSw => ?_) ?_
    rotate_left
    · have hSw1 := hSw; clear hSw; simp only [List.getElem_toArray, List.getElem_cons_zero, List.getElem_cons_succ]; go_simp; try rfl
    simp only [Act.put, List.getElem_toArray, List.getElem_cons_zero, List.getElem_cons_succ, List.setIfInBounds_toArray, List.set_cons_zero, List.set_cons_succ]
    refine z_take 9 (v := ?_) rfl (by kernel_rfl) (by kernel_rfl) (by kernel_rfl) (by kernel_rfl) (fun _ _ _ h => h) hHeld (by rfl) (fun w hSw => ?_) ?_
    rotate_left
    · have hSw1 := hSw; clear hSw; simp only [List.getElem_toArray, List.getElem_cons_zero, List.getElem_cons_succ]; go_simp; try rfl
    simp only [Act.put, List.getElem_toArray, List.getElem_cons_zero, List.getElem_cons_succ, List.setIfInBounds_toArray, List.set_cons_zero, List.set_cons_succ]
    refine z_take 10 (v := ?_) rfl (by kernel_rfl) (by kernel_rfl) (by kernel_rfl) (by kernel_rfl) (fun _ _ _ h => h) hHeld (by rfl) (fun w hSw => ?_) ?_
    rotate_left
    · have hSw1 := hSw; clear hSw; simp only [List.getElem_toArray, List.getElem_cons_zero, List.getElem_cons_succ]; go_simp; try rfl
    simp only [Act.put, List.getElem_toArray, List.getElem_cons_zero, List.getElem_cons_succ, List.setIfInBounds_toArray, List.set_cons_zero, List.set_cons_succ]
    refine z_take 11 (v := ?_) rfl (by kernel_rfl) (by kernel_rfl) (by kernel_rfl) (by kernel_rfl) (fun _ _ _ h => h) hHeld (by rfl) (fun w hSw => ?_) ?_
    rotate_left
    · have hSw1 := hSw; clear hSw; simp only [List.getElem_toArray, List.getElem_cons_zero, List.getElem_cons_succ]; go_simp; try rfl
    simp only [Act.put, List.getElem_toArray, List.getElem_cons_zero, List.getElem_cons_succ, List.setIfInBounds_toArray, List.set_cons_zero, List.set_cons_succ]
    refine z_take 14 (v := ?_) rfl (by kernel_rfl) (by kernel_rfl) (by kernel_rfl) (by kernel_rfl) (fun _ _ _ h => h) hHeld (by rfl) (fun w hSw => ?_) ?_
    rotate_left
    · have hSw1 := hSw; clear hSw; simp only [List.getElem_toArray, List.getElem_cons_zero, List.getElem_cons_succ]; go_simp; try rfl
    simp only [Act.put, List.getElem_toArray, List.getElem_cons_zero, List.getElem_cons_succ, List.setIfInBounds_toArray, List.set_cons_zero, List.set_cons_succ]
    refine z_one 12 rfl (by kernel_rfl) (by rfl) (fun K hK => ?_)
    simp only [List.getElem_toArray, List.getElem_cons_zero, List.getElem_cons_succ]
    go_simp
    refine (raw_any x _ F9 _ H15.out.l.disk (by rw [HNC.out]; omega)).mono ?_
    rintro e w11 ⟨g11, c11, rfl, hown, hk⟩
    rw [HNC.out] at hown
    rw [HNC.out]
    have HR16 : Hid (Row w11 (.slice (some ⟨g11, 0, none⟩) 40 c11) 40 (E.crash q).now (fun k => F9 k ∨ F10 k)) := Row.mk' hown (fun k hk' => by rcases hk' with h | h; exact H15.out.l.disk.foot_lt k h; exact H15.out.r.disk.foot_lt k h)
    have H17 := Lib.hid (H15.out.quiet hk)
    clear hown hk
    refine hK _ _ (Or.inr ?_) (fun hHeld => ?_)
    · exact trivial
    clear hK K
    replace hHeld := hHeld.resolve_left (by decide)
    try simp only [Act.put, List.setIfInBounds_toArray, List.set_cons_zero, List.set_cons_succ]
    refine z_more (fun w' => (convert 27 9 (.slice (some ⟨g11, 0, none⟩) 40 c11)).run Try.prog w' = .ok (.string (strOf (E.crash q).now)) w' ∧ True) (fun _ h => h.2) _ _ _ _ ?_
    replace hHeld : (convert 27 9 (.slice (some ⟨g11, 0, none⟩) 40 c11)).run Try.prog w11 = .ok (.string (strOf (E.crash q).now)) w11 ∧ True := ⟨HR16.out.str, trivial⟩
    refine z_take 13 (v := ?_) rfl (by kernel_rfl) (by kernel_rfl) (by kernel_rfl) (by kernel_rfl) (fun _ _ _ h => h) hHeld (by rfl) (fun w hSw => ?_) ?_
    rotate_left
    · obtain ⟨hSw1, hSw2⟩ := hSw; simp only [List.getElem_toArray, List.getElem_cons_zero, List.getElem_cons_succ]; go_simp; try rfl
    simp only [Act.put, List.getElem_toArray, List.getElem_cons_zero, List.getElem_cons_succ, List.setIfInBounds_toArray, List.set_cons_zero, List.set_cons_succ]
    refine z_one 15 rfl (by kernel_rfl) (by rfl) (fun K hK => ?_)
    simp only [List.getElem_toArray, List.getElem_cons_zero, List.getElem_cons_succ]
    go_simp
    refine (raw_any y _ F10 _ H17.out.r.disk (by rw [HNC.out]; omega)).mono ?_
    rintro e w12 ⟨g12, c12, rfl, hown, hk⟩
    rw [HNC.out] at hown
    rw [HNC.out]
    have HR18 : Hid (Row w12 (.slice (some ⟨g12, 0, none⟩) 40 c12) 40 (E.crash q).now (fun k => F9 k ∨ F10 k)) := Row.mk' hown (fun k hk' => by rcases hk' with h | h; exact H17.out.l.disk.foot_lt k h; exact H17.out.r.disk.foot_lt k h)
    have H19 := Lib.hid (H17.out.quiet hk)
    have HR20 := Lib.hid (HR16.out.quiet hk)
    clear hown hk
    refine hK _ _ (Or.inr ?_) (fun hHeld => ?_)
    · exact ⟨HR20.out.str, trivial⟩
    clear hK K
    replace hHeld := hHeld.resolve_left (by decide)
    try simp only [Act.put, List.setIfInBounds_toArray, List.set_cons_zero, List.set_cons_succ]
    refine z_more (fun w' => (convert 27 9 (.slice (some ⟨g12, 0, none⟩) 40 c12)).run Try.prog w' = .ok (.string (strOf (E.crash q).now)) w' ∧ (convert 27 9 (.slice (some ⟨g11, 0, none⟩) 40 c11)).run Try.prog w' = .ok (.string (strOf (E.crash q).now)) w' ∧ True) (fun _ h => h.2) _ _ _ _ ?_
    replace hHeld : (convert 27 9 (.slice (some ⟨g12, 0, none⟩) 40 c12)).run Try.prog w12 = .ok (.string (strOf (E.crash q).now)) w12 ∧ (convert 27 9 (.slice (some ⟨g11, 0, none⟩) 40 c11)).run Try.prog w12 = .ok (.string (strOf (E.crash q).now)) w12 ∧ True := ⟨HR18.out.str, HR20.out.str, trivial⟩
    refine z_take 16 (v := ?_) rfl (by kernel_rfl) (by kernel_rfl) (by kernel_rfl) (by kernel_rfl) (fun _ _ _ h => h) hHeld (by rfl) (fun w hSw => ?_) ?_
    rotate_left
    · obtain ⟨hSw1, hSw2, hSw3⟩ := hSw; simp only [List.getElem_toArray, List.getElem_cons_zero, List.getElem_cons_succ]; go_simp; try rfl
    simp only [Act.put, List.getElem_toArray, List.getElem_cons_zero, List.getElem_cons_succ, List.setIfInBounds_toArray, List.set_cons_zero, List.set_cons_succ]
    refine z_take 17 (v := ?_) rfl (by kernel_rfl) (by kernel_rfl) (by kernel_rfl) (by kernel_rfl) (fun _ _ _ h => h) hHeld (by rfl) (fun w hSw => ?_) ?_
    rotate_left
    · obtain ⟨hSw1, hSw2, hSw3⟩ := hSw; simp only [List.getElem_toArray, List.getElem_cons_zero, List.getElem_cons_succ]; go_simp; try rfl
    simp only [Act.put, List.getElem_toArray, List.getElem_cons_zero, List.getElem_cons_succ, List.setIfInBounds_toArray, List.set_cons_zero, List.set_cons_succ]
    refine z_take 18 (v := ?_) rfl (by kernel_rfl) (by kernel_rfl) (by kernel_rfl) (by kernel_rfl) (fun _ _ _ h => h) hHeld (by rfl) (fun w hSw => ?_) ?_
    rotate_left
    · obtain ⟨hSw1, hSw2, hSw3⟩ := hSw; simp only [List.getElem_toArray, List.getElem_cons_zero, List.getElem_cons_succ]; go_simp; try rfl
    simp only [Act.put, List.getElem_toArray, List.getElem_cons_zero, List.getElem_cons_succ, List.setIfInBounds_toArray, List.set_cons_zero, List.set_cons_succ]
    refine z_take 19 (v := ?_) rfl (by kernel_rfl) (by kernel_rfl) (by kernel_rfl) (by kernel_rfl) (fun _ _ _ h => h) hHeld (by rfl) (fun w hSw => ?_) ?_
    rotate_left
    · obtain ⟨hSw1, hSw2, hSw3⟩ := hSw; simp only [List.getElem_toArray, List.getElem_cons_zero, List.getElem_cons_succ]; go_simp; try rfl
    simp only [Act.put, List.getElem_toArray, List.getElem_cons_zero, List.getElem_cons_succ, List.setIfInBounds_toArray, List.set_cons_zero, List.set_cons_succ]
    refine z_one 20 rfl (by kernel_rfl) (by rfl) (fun K hK => ?_)
    simp only [List.getElem_toArray, List.getElem_cons_zero, List.getElem_cons_succ]
    go_simp
    refine (lives_any _).mono ?_
    rintro e w13 ⟨rfl, hk⟩
    have H21 := Lib.hid (H19.out.quiet hk)
    have HR22 := Lib.hid (HR20.out.quiet hk)
    have HR23 := Lib.hid (HR18.out.quiet hk)
    clear hk
    refine hK _ _ (Or.inr ?_) (fun hHeld => ?_)
    · exact ⟨HR23.out.str, HR22.out.str, trivial⟩
    clear hK K
    replace hHeld := hHeld.resolve_left (by decide)
    try simp only [Act.put, List.setIfInBounds_toArray, List.set_cons_zero, List.set_cons_succ]
    refine z_take 21 (v := ?_) rfl (by kernel_rfl) (by kernel_rfl) (by kernel_rfl) (by kernel_rfl) (fun _ _ _ h => h) hHeld (by rfl) (fun w hSw => ?_) ?_
    rotate_left
    · obtain ⟨hSw1, hSw2, hSw3⟩ := hSw; simp only [List.getElem_toArray, List.getElem_cons_zero, List.getElem_cons_succ]; go_simp; try rfl
    simp only [Act.put, List.getElem_toArray, List.getElem_cons_zero, List.getElem_cons_succ, List.setIfInBounds_toArray, List.set_cons_zero, List.set_cons_succ]
    refine z_one 22 rfl (by kernel_rfl) (by rfl) (fun K hK => ?_)
    simp only [List.getElem_toArray, List.getElem_cons_zero, List.getElem_cons_succ]
    go_simp
    refine hK _ _ (Or.inr ?_) (fun hHeld => ?_)
    · exact hHeld
    clear hK K
    replace hHeld := hHeld.resolve_left (by decide)
    try simp only [Act.put, List.setIfInBounds_toArray, List.set_cons_zero, List.set_cons_succ]
    refine z_done (by kernel_rfl) ?_ _
    go_wp2
    go_ret
    exact ⟨rfl, H21.out.l.below⟩
end Go.Proofs.Ytllfiplhfbbhaaa
