/-
  The walk of the law DiskDown: it returns true, and nothing that was there has turned. Conditions: the arguments are as Go has them.
-/
import Derived.Test.YtllfiplhfbbhaaaPlain28
import Derived.Test.YtllfiplhfbbhaaaRegion
namespace Go.Proofs.Ytllfiplhfbbhaaa
open Go.RowKit
attribute [local go_sem ↓] Go.wp_at_zero Go.wp_at_succ

set_option maxHeartbeats 4000000 in
set_option maxRecDepth 100000 in
theorem diskDown_walk (la : Option Addr) (b off len cap : Nat) (zs : List Int) (left size : Int) (w : World) (hl : zs.length = len) (hlen : len ≤ 9223372036854775807) (hla : 0 < len → la = some ⟨b, off, none⟩) (hsrc : ∀ j z, zs[j]? = some z → w.cell? ⟨b, off + j, none⟩ = some (.int .i64 z)) (hwf : ∀ z ∈ zs, -9223372036854775808 ≤ z ∧ z ≤ 9223372036854775807) :
    Calls Try.prog 4 #[.slice la len cap, .int .i64 left, .int .i64 size] w fun e w' => e = .returned (.bool true) ∧ Below w.heap.size w w' := by
  have HL := Lib.hid (And.intro hl (And.intro hla (And.intro hsrc hwf)))
  clear hl hla hsrc hwf
  have hg := playD_good zs
  by_cases hs : 0 ≤ size ∧ size ≤ 65536
  · obtain ⟨n, rfl⟩ : ∃ n : Nat, size = n := ⟨size.toNat, by omega⟩
    have hn : n ≤ 65536 := by omega
    have t1 : (0 : Int) ≤ (n : Int) := by omega
    have t2 : (n : Int) ≤ 65536 := by omega
    clear hs
    go_enter Try.func4, Try.ntmps4
    go_wp2_with fail
    refine (new_ok n w hn).mono ?_
    rintro e w0 ⟨xx, FF, rfl, hd0, hk0, hF0⟩
    have HK0 := Lib.hid hk0
    clear hd0 hk0 hF0
    go_wp2_with fail
    obtain ⟨hl, hla, hsrc, hwf⟩ := HL.out
    refine (played_any la b off len cap zs _ hl hlen hla (fun j z hz => (HK0.out.cell (World.block_lt_of_cell? w _ (hsrc j z hz)) (fun h => h)).trans (hsrc j z hz)) hwf).mono ?_
    rintro e w1 ⟨x, F, rfl, hd, hk, hF⟩
    have h1 : One w w1 x (playD ((zs.take 20).map mkAct)) F := ⟨hd, HK0.out.trans hk (fun _ _ h => h), fun k h => Nat.le_trans HK0.out.size (hF k h)⟩
    have H0 := Lib.hid h1
    clear hd hk hF h1 hl hla hsrc hwf HL
    generalize playD ((zs.take 20).map mkAct) = D at *
    have HG := Lib.hid hg
    clear hg
    have HLEN : Hid ((D.crash left).now.length = 40) := left_len' D _ 40 220 HG.out.ok
    have HOP : Hid ((D.crash left).opened.now = (D.crash left).now) := rfl
    go_wp2_with fail
    refine (open_no x D F _ H0.out.disk HG.out.ok.up).mono ?_
    rintro e _ ⟨rfl, rfl⟩
    go_wp2_with fail
    refine (crash_ok x left D F _ H0.out.disk HG.out.ok.up (by have := HG.out.ok.lo; omega) (by rw [HG.out.ok.len]; exact HG.out.ok.at_)).mono ?_
    rintro e w2 ⟨rfl, F2, hd, hk, hs⟩
    have H1 := Lib.hid (H0.out.step hd hk hs)
    clear hd hk hs
    go_wp2_with fail
    refine (raw_any x _ F2 _ H1.out.disk (by rw [HLEN.out]; omega)).mono ?_
    rintro e w3 ⟨g3, c3, rfl, hown, hk⟩
    rw [HLEN.out] at hown
    rw [HLEN.out]
    have HR2 : Hid (Row w3 (.slice (some ⟨g3, 0, none⟩) 40 c3) 40 (D.crash left).now F2) := Row.mk' hown (H1.out.disk.foot_lt)
    have H3 := Lib.hid (H1.out.quiet hk)
    clear hown hk
    go_wp2_with fail
    refine (read_down x 0 1 (D.crash left) F2 _ H3.out.disk rfl).mono ?_
    rintro e w4 ⟨rfl, hk⟩
    have H4 := Lib.hid (H3.out.quiet hk)
    have HR5 := Lib.hid (HR2.out.quiet hk)
    clear hk
    go_wp2_with fail
    refine (write_down x 0 _ 1 1 (D.crash left) F2 _ (H4.out.quiet ((Keeps.refl _ _).alloc _)).disk rfl).mono ?_
    rintro e w5 ⟨rfl, hk0⟩
    have hk := ((Keeps.refl (fun _ => False) w4).alloc _).trans hk0 (fun _ _ h => h)
    have H6 := Lib.hid (H4.out.quiet hk)
    have HR7 := Lib.hid (HR5.out.quiet hk)
    clear hk hk0
    go_wp2_with fail
    refine (sync_down x (D.crash left) F2 _ H6.out.disk rfl).mono ?_
    rintro e w6 ⟨rfl, hk⟩
    have H8 := Lib.hid (H6.out.quiet hk)
    have HR9 := Lib.hid (HR7.out.quiet hk)
    clear hk
    go_wp2_with fail
    refine (crash_down x 0 (D.crash left) F2 _ H8.out.disk rfl).mono ?_
    rintro e w7 ⟨rfl, hk⟩
    have H10 := Lib.hid (H8.out.quiet hk)
    have HR11 := Lib.hid (HR9.out.quiet hk)
    clear hk
    go_wp2_with fail
    refine (loose_any x (D.crash left) F2 _ H10.out.disk).mono ?_
    rintro e _ ⟨rfl, rfl⟩
    have h0 : ((D.crash left).lo.length : Int) = 0 := rfl
    rw [h0]
    clear h0
    go_wp2_with fail
    refine (open_ok x (D.crash left) F2 _ H10.out.disk rfl (by rw [HLEN.out]; omega)).mono ?_
    rintro e w8 ⟨y, G, rfl, hd, hk, hG⟩
    have H12 := Lib.hid (Two.mk' H10.out hd hk hG)
    have HRb : Hid (Row w8 (.slice (some ⟨g3, 0, none⟩) 40 c3) 40 (D.crash left).now (fun k => F2 k ∨ G k)) := ⟨(HR11.out.quiet hk).own, fun k e hf => by rcases hf with hf | hf; exact HR11.out.ap k e hf; have := (HR11.out.own.lt k e).2; have := hG k hf; omega⟩
    clear hd hk hG
    go_wp2_with fail
    have H13 := Lib.hid (H12.out.quiet (Keeps.refl _ _).drew)
    have HR14 := Lib.hid (HRb.out.quiet (Keeps.refl _ _).drew)
    refine z_begin (fun w' => (convert 27 9 (.slice (some ⟨g3, 0, none⟩) 40 c3)).run Try.prog w' = .ok (.string (strOf (D.crash left).now)) w' ∧ True) 30 (by kernel_rfl) (⟨HR14.out.str, trivial⟩) (fun hHeld => ?_)
    refine z_take 0 (v := ?_) rfl (by kernel_rfl) (by kernel_rfl) (by kernel_rfl) (by kernel_rfl) (fun _ _ _ h => h) hHeld (by rfl) (fun w hSw => ?_) ?_
    rotate_left
    · obtain ⟨hSw1, hSw2⟩ := hSw; simp only [List.getElem_toArray, List.getElem_cons_zero]; go_simp; try rfl
    simp only [Act.put, List.getElem_toArray, List.getElem_cons_zero, List.setIfInBounds_toArray, List.set_cons_zero, List.set_cons_succ]
    refine z_take 3 (v := ?_) rfl (by kernel_rfl) (by kernel_rfl) (by kernel_rfl) (by kernel_rfl) (fun _ _ _ h => h) hHeld (by rfl) (fun w hSw => ?_) ?_
    rotate_left
    · obtain ⟨hSw1, hSw2⟩ := hSw; simp only [List.getElem_toArray, List.getElem_cons_zero, List.getElem_cons_succ]; go_simp; try rfl
    simp only [Act.put, List.getElem_toArray, List.getElem_cons_zero, List.getElem_cons_succ, List.setIfInBounds_toArray, List.set_cons_zero, List.set_cons_succ]
    refine z_take 4 (v := ?_) rfl (by kernel_rfl) (by kernel_rfl) (by kernel_rfl) (by kernel_rfl) (fun _ _ _ h => h) hHeld (by rfl) (fun w hSw => ?_) ?_
    rotate_left
    · obtain ⟨hSw1, hSw2⟩ := hSw; simp only [List.getElem_toArray, List.getElem_cons_zero, List.getElem_cons_succ]; go_simp; try rfl
    simp only [Act.put, List.getElem_toArray, List.getElem_cons_zero, List.getElem_cons_succ, List.setIfInBounds_toArray, List.set_cons_zero, List.set_cons_succ]
    refine z_one 1 rfl (by kernel_rfl) (by rfl) (fun K hK => ?_)
    simp only [List.getElem_toArray, List.getElem_cons_zero, List.getElem_cons_succ]
    go_simp
    refine (raw_any y _ G _ H13.out.r.disk (by rw [HOP.out, HLEN.out]; omega)).mono ?_
    rintro e w9 ⟨g9, c9, rfl, hown, hk⟩
    rw [HOP.out] at hown
    rw [HOP.out]
    rw [HLEN.out] at hown
    rw [HLEN.out]
    have HR15 : Hid (Row w9 (.slice (some ⟨g9, 0, none⟩) 40 c9) 40 (D.crash left).now (fun k => F2 k ∨ G k)) := Row.mk' hown (fun k hk' => by rcases hk' with h | h; exact H13.out.l.disk.foot_lt k h; exact H13.out.r.disk.foot_lt k h)
    have H16 := Lib.hid (H13.out.quiet hk)
    have HR17 := Lib.hid (HR14.out.quiet hk)
    clear hown hk
    refine hK _ _ (Or.inr ?_) (fun hHeld => ?_)
    · exact ⟨HR17.out.str, trivial⟩
    clear hK K
    replace hHeld := hHeld.resolve_left (by decide)
    try simp only [Act.put, List.setIfInBounds_toArray, List.set_cons_zero, List.set_cons_succ]
    refine z_more (fun w' => (convert 27 9 (.slice (some ⟨g9, 0, none⟩) 40 c9)).run Try.prog w' = .ok (.string (strOf (D.crash left).now)) w' ∧ (convert 27 9 (.slice (some ⟨g3, 0, none⟩) 40 c3)).run Try.prog w' = .ok (.string (strOf (D.crash left).now)) w' ∧ True) (fun _ h => h.2) _ _ _ _ ?_
    replace hHeld : (convert 27 9 (.slice (some ⟨g9, 0, none⟩) 40 c9)).run Try.prog w9 = .ok (.string (strOf (D.crash left).now)) w9 ∧ (convert 27 9 (.slice (some ⟨g3, 0, none⟩) 40 c3)).run Try.prog w9 = .ok (.string (strOf (D.crash left).now)) w9 ∧ True := ⟨HR15.out.str, HR17.out.str, trivial⟩
    refine z_take 2 (v := ?_) rfl (by kernel_rfl) (by kernel_rfl) (by kernel_rfl) (by kernel_rfl) (fun _ _ _ h => h) hHeld (by rfl) (fun w hSw => ?_) ?_
    rotate_left
    · obtain ⟨hSw1, hSw2, hSw3⟩ := hSw; simp only [List.getElem_toArray, List.getElem_cons_zero, List.getElem_cons_succ]; go_simp; try rfl
    simp only [Act.put, List.getElem_toArray, List.getElem_cons_zero, List.getElem_cons_succ, List.setIfInBounds_toArray, List.set_cons_zero, List.set_cons_succ]
    refine z_take 5 (v := ?_) rfl (by kernel_rfl) (by kernel_rfl) (by kernel_rfl) (by kernel_rfl) (fun _ _ _ h => h) hHeld (by rfl) (fun w hSw => ?_) ?_
    rotate_left
    · obtain ⟨hSw1, hSw2, hSw3⟩ := hSw; simp only [List.getElem_toArray, List.getElem_cons_zero, List.getElem_cons_succ]; go_simp; try rfl
    simp only [Act.put, List.getElem_toArray, List.getElem_cons_zero, List.getElem_cons_succ, List.setIfInBounds_toArray, List.set_cons_zero, List.set_cons_succ]
    refine z_take 6 (v := ?_) rfl (by kernel_rfl) (by kernel_rfl) (by kernel_rfl) (by kernel_rfl) (fun _ _ _ h => h) hHeld (by rfl) (fun w hSw => ?_) ?_
    rotate_left
    · obtain ⟨hSw1, hSw2, hSw3⟩ := hSw; simp only [List.getElem_toArray, List.getElem_cons_zero, List.getElem_cons_succ]; go_simp; try rfl
    simp only [Act.put, List.getElem_toArray, List.getElem_cons_zero, List.getElem_cons_succ, List.setIfInBounds_toArray, List.set_cons_zero, List.set_cons_succ]
    refine z_take 7 (v := ?_) rfl (by kernel_rfl) (by kernel_rfl) (by kernel_rfl) (by kernel_rfl) (fun _ _ _ h => h) hHeld (by rfl) (fun w hSw => ?_) ?_
    rotate_left
    · obtain ⟨hSw1, hSw2, hSw3⟩ := hSw; simp only [List.getElem_toArray, List.getElem_cons_zero, List.getElem_cons_succ]; go_simp; try rfl
    simp only [Act.put, List.getElem_toArray, List.getElem_cons_zero, List.getElem_cons_succ, List.setIfInBounds_toArray, List.set_cons_zero, List.set_cons_succ]
    refine z_take 10 (v := ?_) rfl (by kernel_rfl) (by kernel_rfl) (by kernel_rfl) (by kernel_rfl) (fun _ _ _ h => h) hHeld (by rfl) (fun w hSw => ?_) ?_
    rotate_left
    · obtain ⟨hSw1, hSw2, hSw3⟩ := hSw; simp only [List.getElem_toArray, List.getElem_cons_zero, List.getElem_cons_succ]; go_simp; try rfl
    simp only [Act.put, List.getElem_toArray, List.getElem_cons_zero, List.getElem_cons_succ, List.setIfInBounds_toArray, List.set_cons_zero, List.set_cons_succ]
    refine z_take 11 (v := ?_) rfl (by kernel_rfl) (by kernel_rfl) (by kernel_rfl) (by kernel_rfl) (fun _ _ _ h => h) hHeld (by rfl) (fun w hSw => ?_) ?_
    rotate_left
    · obtain ⟨hSw1, hSw2, hSw3⟩ := hSw; simp only [List.getElem_toArray, List.getElem_cons_zero, List.getElem_cons_succ]; go_simp; try rfl
    simp only [Act.put, List.getElem_toArray, List.getElem_cons_zero, List.getElem_cons_succ, List.setIfInBounds_toArray, List.set_cons_zero, List.set_cons_succ]
    refine z_one 8 rfl (by kernel_rfl) (by rfl) (fun K hK => ?_)
    simp only [List.getElem_toArray, List.getElem_cons_zero, List.getElem_cons_succ]
    go_simp
    refine (raw_any x _ F2 _ H16.out.l.disk (by rw [HLEN.out]; omega)).mono ?_
    rintro e w10 ⟨g10, c10, rfl, hown, hk⟩
    rw [HLEN.out] at hown
    rw [HLEN.out]
    have HR18 : Hid (Row w10 (.slice (some ⟨g10, 0, none⟩) 40 c10) 40 (D.crash left).now (fun k => F2 k ∨ G k)) := Row.mk' hown (fun k hk' => by rcases hk' with h | h; exact H16.out.l.disk.foot_lt k h; exact H16.out.r.disk.foot_lt k h)
    have H19 := Lib.hid (H16.out.quiet hk)
    have HR20 := Lib.hid (HR17.out.quiet hk)
    have HR21 := Lib.hid (HR15.out.quiet hk)
    clear hown hk
    refine hK _ _ (Or.inr ?_) (fun hHeld => ?_)
    · exact ⟨HR21.out.str, HR20.out.str, trivial⟩
    clear hK K
    replace hHeld := hHeld.resolve_left (by decide)
    try simp only [Act.put, List.setIfInBounds_toArray, List.set_cons_zero, List.set_cons_succ]
    refine z_more (fun w' => (convert 27 9 (.slice (some ⟨g10, 0, none⟩) 40 c10)).run Try.prog w' = .ok (.string (strOf (D.crash left).now)) w' ∧ (convert 27 9 (.slice (some ⟨g9, 0, none⟩) 40 c9)).run Try.prog w' = .ok (.string (strOf (D.crash left).now)) w' ∧ (convert 27 9 (.slice (some ⟨g3, 0, none⟩) 40 c3)).run Try.prog w' = .ok (.string (strOf (D.crash left).now)) w' ∧ True) (fun _ h => h.2) _ _ _ _ ?_
    replace hHeld : (convert 27 9 (.slice (some ⟨g10, 0, none⟩) 40 c10)).run Try.prog w10 = .ok (.string (strOf (D.crash left).now)) w10 ∧ (convert 27 9 (.slice (some ⟨g9, 0, none⟩) 40 c9)).run Try.prog w10 = .ok (.string (strOf (D.crash left).now)) w10 ∧ (convert 27 9 (.slice (some ⟨g3, 0, none⟩) 40 c3)).run Try.prog w10 = .ok (.string (strOf (D.crash left).now)) w10 ∧ True := ⟨HR18.out.str, HR21.out.str, HR20.out.str, trivial⟩
    refine z_take 9 (v := ?_) rfl (by kernel_rfl) (by kernel_rfl) (by kernel_rfl) (by kernel_rfl) (fun _ _ _ h => h) hHeld (by rfl) (fun w hSw => ?_) ?_
    rotate_left
    · obtain ⟨hSw1, hSw2, hSw3, hSw4⟩ := hSw; simp only [List.getElem_toArray, List.getElem_cons_zero, List.getElem_cons_succ]; go_simp; try rfl
    simp only [Act.put, List.getElem_toArray, List.getElem_cons_zero, List.getElem_cons_succ, List.setIfInBounds_toArray, List.set_cons_zero, List.set_cons_succ]
    refine z_take 12 (v := ?_) rfl (by kernel_rfl) (by kernel_rfl) (by kernel_rfl) (by kernel_rfl) (fun _ _ _ h => h) hHeld (by rfl) (fun w hSw => ?_) ?_
    rotate_left
    · obtain ⟨hSw1, hSw2, hSw3, hSw4⟩ := hSw; simp only [List.getElem_toArray, List.getElem_cons_zero, List.getElem_cons_succ]; go_simp; try rfl
    simp only [Act.put, List.getElem_toArray, List.getElem_cons_zero, List.getElem_cons_succ, List.setIfInBounds_toArray, List.set_cons_zero, List.set_cons_succ]
    refine z_take 13 (v := ?_) rfl (by kernel_rfl) (by kernel_rfl) (by kernel_rfl) (by kernel_rfl) (fun _ _ _ h => h) hHeld (by rfl) (fun w hSw => ?_) ?_
    rotate_left
    · obtain ⟨hSw1, hSw2, hSw3, hSw4⟩ := hSw; simp only [List.getElem_toArray, List.getElem_cons_zero, List.getElem_cons_succ]; go_simp; try rfl
    simp only [Act.put, List.getElem_toArray, List.getElem_cons_zero, List.getElem_cons_succ, List.setIfInBounds_toArray, List.set_cons_zero, List.set_cons_succ]
    refine z_take 14 (v := ?_) rfl (by kernel_rfl) (by kernel_rfl) (by kernel_rfl) (by kernel_rfl) (fun _ _ _ h => h) hHeld (by rfl) (fun w hSw => ?_) ?_
    rotate_left
    · obtain ⟨hSw1, hSw2, hSw3, hSw4⟩ := hSw; simp only [List.getElem_toArray, List.getElem_cons_zero, List.getElem_cons_succ]; go_simp; try rfl
    simp only [Act.put, List.getElem_toArray, List.getElem_cons_zero, List.getElem_cons_succ, List.setIfInBounds_toArray, List.set_cons_zero, List.set_cons_succ]
    refine z_take 15 (v := ?_) rfl (by kernel_rfl) (by kernel_rfl) (by kernel_rfl) (by kernel_rfl) (fun _ _ _ h => h) hHeld (by rfl) (fun w hSw => ?_) ?_
    rotate_left
    · obtain ⟨hSw1, hSw2, hSw3, hSw4⟩ := hSw; simp only [List.getElem_toArray, List.getElem_cons_zero, List.getElem_cons_succ]; go_simp; try rfl
    simp only [Act.put, List.getElem_toArray, List.getElem_cons_zero, List.getElem_cons_succ, List.setIfInBounds_toArray, List.set_cons_zero, List.set_cons_succ]
    refine z_one 16 rfl (by kernel_rfl) (by rfl) (fun K hK => ?_)
    simp only [List.getElem_toArray, List.getElem_cons_zero, List.getElem_cons_succ]
    go_simp
    refine (loose_any y (D.crash left).opened G _ H19.out.r.disk).mono ?_
    rintro e _ ⟨rfl, rfl⟩
    refine hK _ _ (Or.inr ?_) (fun hHeld => ?_)
    · exact ⟨HR18.out.str, HR21.out.str, HR20.out.str, trivial⟩
    clear hK K
    replace hHeld := hHeld.resolve_left (by decide)
    try simp only [Act.put, List.setIfInBounds_toArray, List.set_cons_zero, List.set_cons_succ]
    have h0 : ((D.crash left).opened.lo.length : Int) = 0 := rfl
    rw [h0]
    clear h0
    refine z_take 17 (v := ?_) rfl (by kernel_rfl) (by kernel_rfl) (by kernel_rfl) (by kernel_rfl) (fun _ _ _ h => h) hHeld (by rfl) (fun w hSw => ?_) ?_
    rotate_left
    · obtain ⟨hSw1, hSw2, hSw3, hSw4⟩ := hSw; simp only [List.getElem_toArray, List.getElem_cons_zero, List.getElem_cons_succ]; go_simp; try rfl
    simp only [Act.put, List.getElem_toArray, List.getElem_cons_zero, List.getElem_cons_succ, List.setIfInBounds_toArray, List.set_cons_zero, List.set_cons_succ]
    refine z_take 18 (v := ?_) rfl (by kernel_rfl) (by kernel_rfl) (by kernel_rfl) (by kernel_rfl) (fun _ _ _ h => h) hHeld (by rfl) (fun w hSw => ?_) ?_
    rotate_left
    · obtain ⟨hSw1, hSw2, hSw3, hSw4⟩ := hSw; simp only [List.getElem_toArray, List.getElem_cons_zero, List.getElem_cons_succ]; go_simp; try rfl
    simp only [Act.put, List.getElem_toArray, List.getElem_cons_zero, List.getElem_cons_succ, List.setIfInBounds_toArray, List.set_cons_zero, List.set_cons_succ]
    refine z_take 19 (v := ?_) rfl (by kernel_rfl) (by kernel_rfl) (by kernel_rfl) (by kernel_rfl) (fun _ _ _ h => h) hHeld (by rfl) (fun w hSw => ?_) ?_
    rotate_left
    · obtain ⟨hSw1, hSw2, hSw3, hSw4⟩ := hSw; simp only [List.getElem_toArray, List.getElem_cons_zero, List.getElem_cons_succ]; go_simp; try rfl
    simp only [Act.put, List.getElem_toArray, List.getElem_cons_zero, List.getElem_cons_succ, List.setIfInBounds_toArray, List.set_cons_zero, List.set_cons_succ]
    refine z_take 20 (v := ?_) rfl (by kernel_rfl) (by kernel_rfl) (by kernel_rfl) (by kernel_rfl) (fun _ _ _ h => h) hHeld (by rfl) (fun w hSw => ?_) ?_
    rotate_left
    · obtain ⟨hSw1, hSw2, hSw3, hSw4⟩ := hSw; simp only [List.getElem_toArray, List.getElem_cons_zero, List.getElem_cons_succ]; go_simp; try rfl
    simp only [Act.put, List.getElem_toArray, List.getElem_cons_zero, List.getElem_cons_succ, List.setIfInBounds_toArray, List.set_cons_zero, List.set_cons_succ]
    refine z_one 21 rfl (by kernel_rfl) (by rfl) (fun K hK => ?_)
    simp only [List.getElem_toArray, List.getElem_cons_zero, List.getElem_cons_succ]
    go_simp
    refine (size_any y (D.crash left).opened G _ H19.out.r.disk).mono ?_
    rintro e _ ⟨rfl, rfl⟩
    refine hK _ _ (Or.inr ?_) (fun hHeld => ?_)
    · exact ⟨HR18.out.str, HR21.out.str, HR20.out.str, trivial⟩
    clear hK K
    replace hHeld := hHeld.resolve_left (by decide)
    try simp only [Act.put, List.setIfInBounds_toArray, List.set_cons_zero, List.set_cons_succ]
    rw [HOP.out, HLEN.out]
    refine z_take 22 (v := ?_) rfl (by kernel_rfl) (by kernel_rfl) (by kernel_rfl) (by kernel_rfl) (fun _ _ _ h => h) hHeld (by rfl) (fun w hSw => ?_) ?_
    rotate_left
    · obtain ⟨hSw1, hSw2, hSw3, hSw4⟩ := hSw; simp only [List.getElem_toArray, List.getElem_cons_zero, List.getElem_cons_succ]; go_simp; try rfl
    simp only [Act.put, List.getElem_toArray, List.getElem_cons_zero, List.getElem_cons_succ, List.setIfInBounds_toArray, List.set_cons_zero, List.set_cons_succ]
    refine z_take 23 (v := ?_) rfl (by kernel_rfl) (by kernel_rfl) (by kernel_rfl) (by kernel_rfl) (fun _ _ _ h => h) hHeld (by rfl) (fun w hSw => ?_) ?_
    rotate_left
    · obtain ⟨hSw1, hSw2, hSw3, hSw4⟩ := hSw; simp only [List.getElem_toArray, List.getElem_cons_zero, List.getElem_cons_succ]; go_simp; try rfl
    simp only [Act.put, List.getElem_toArray, List.getElem_cons_zero, List.getElem_cons_succ, List.setIfInBounds_toArray, List.set_cons_zero, List.set_cons_succ]
    refine z_take 24 (v := ?_) rfl (by kernel_rfl) (by kernel_rfl) (by kernel_rfl) (by kernel_rfl) (fun _ _ _ h => h) hHeld (by rfl) (fun w hSw => ?_) ?_
    rotate_left
    · obtain ⟨hSw1, hSw2, hSw3, hSw4⟩ := hSw; simp only [List.getElem_toArray, List.getElem_cons_zero, List.getElem_cons_succ]; go_simp; try rfl
    simp only [Act.put, List.getElem_toArray, List.getElem_cons_zero, List.getElem_cons_succ, List.setIfInBounds_toArray, List.set_cons_zero, List.set_cons_succ]
    refine z_one 25 rfl (by kernel_rfl) (by rfl) (fun K hK => ?_)
    simp only [List.getElem_toArray, List.getElem_cons_zero, List.getElem_cons_succ]
    go_simp
    refine (lives_any _).mono ?_
    rintro e w11 ⟨rfl, hk⟩
    have H22 := Lib.hid (H19.out.quiet hk)
    have HR23 := Lib.hid (HR20.out.quiet hk)
    have HR24 := Lib.hid (HR21.out.quiet hk)
    have HR25 := Lib.hid (HR18.out.quiet hk)
    clear hk
    refine hK _ _ (Or.inr ?_) (fun hHeld => ?_)
    · exact ⟨HR25.out.str, HR24.out.str, HR23.out.str, trivial⟩
    clear hK K
    replace hHeld := hHeld.resolve_left (by decide)
    try simp only [Act.put, List.setIfInBounds_toArray, List.set_cons_zero, List.set_cons_succ]
    refine z_take 26 (v := ?_) rfl (by kernel_rfl) (by kernel_rfl) (by kernel_rfl) (by kernel_rfl) (fun _ _ _ h => h) hHeld (by rfl) (fun w hSw => ?_) ?_
    rotate_left
    · obtain ⟨hSw1, hSw2, hSw3, hSw4⟩ := hSw; simp only [List.getElem_toArray, List.getElem_cons_zero, List.getElem_cons_succ]; go_simp; try rfl
    simp only [Act.put, List.getElem_toArray, List.getElem_cons_zero, List.getElem_cons_succ, List.setIfInBounds_toArray, List.set_cons_zero, List.set_cons_succ]
    refine z_one 27 rfl (by kernel_rfl) (by rfl) (fun K hK => ?_)
    simp only [List.getElem_toArray, List.getElem_cons_zero, List.getElem_cons_succ]
    go_simp
    refine hK _ _ (Or.inr ?_) (fun hHeld => ?_)
    · exact hHeld
    clear hK K
    replace hHeld := hHeld.resolve_left (by decide)
    try simp only [Act.put, List.setIfInBounds_toArray, List.set_cons_zero, List.set_cons_succ]
    refine z_done (by kernel_rfl) ?_ _
    go_wp2
    go_ret
    exact ⟨rfl, H22.out.l.below⟩
  · rcases (show size < 0 ∨ (0 ≤ size ∧ 65536 < size) from by omega) with h1 | ⟨h1, h2⟩
    · have HB : Hid (size < 0 ∨ 65536 < size) := Or.inl h1
      have HK0 : Hid (Keeps (fun _ => False) w w) := Keeps.refl _ _
      clear hs
      go_enter Try.func4, Try.ntmps4
      go_wp2_with fail
      refine (new_bad size w HB.out).mono ?_
      rintro e w0 ⟨rfl, rfl⟩
      go_wp2_with fail
      obtain ⟨hl, hla, hsrc, hwf⟩ := HL.out
      refine (played_any la b off len cap zs _ hl hlen hla (fun j z hz => (HK0.out.cell (World.block_lt_of_cell? w _ (hsrc j z hz)) (fun h => h)).trans (hsrc j z hz)) hwf).mono ?_
      rintro e w1 ⟨x, F, rfl, hd, hk, hF⟩
      have h1 : One w w1 x (playD ((zs.take 20).map mkAct)) F := ⟨hd, HK0.out.trans hk (fun _ _ h => h), fun k h => Nat.le_trans HK0.out.size (hF k h)⟩
      have H0 := Lib.hid h1
      clear hd hk hF h1 hl hla hsrc hwf HL
      generalize playD ((zs.take 20).map mkAct) = D at *
      have HG := Lib.hid hg
      clear hg
      have HLEN : Hid ((D.crash left).now.length = 40) := left_len' D _ 40 220 HG.out.ok
      have HOP : Hid ((D.crash left).opened.now = (D.crash left).now) := rfl
      go_wp2_with fail
      refine (open_no x D F _ H0.out.disk HG.out.ok.up).mono ?_
      rintro e _ ⟨rfl, rfl⟩
      go_wp2_with fail
      refine (crash_ok x left D F _ H0.out.disk HG.out.ok.up (by have := HG.out.ok.lo; omega) (by rw [HG.out.ok.len]; exact HG.out.ok.at_)).mono ?_
      rintro e w2 ⟨rfl, F2, hd, hk, hs⟩
      have H1 := Lib.hid (H0.out.step hd hk hs)
      clear hd hk hs
      go_wp2_with fail
      refine (raw_any x _ F2 _ H1.out.disk (by rw [HLEN.out]; omega)).mono ?_
      rintro e w3 ⟨g3, c3, rfl, hown, hk⟩
      rw [HLEN.out] at hown
      rw [HLEN.out]
      have HR2 : Hid (Row w3 (.slice (some ⟨g3, 0, none⟩) 40 c3) 40 (D.crash left).now F2) := Row.mk' hown (H1.out.disk.foot_lt)
      have H3 := Lib.hid (H1.out.quiet hk)
      clear hown hk
      go_wp2_with fail
      refine (read_down x 0 1 (D.crash left) F2 _ H3.out.disk rfl).mono ?_
      rintro e w4 ⟨rfl, hk⟩
      have H4 := Lib.hid (H3.out.quiet hk)
      have HR5 := Lib.hid (HR2.out.quiet hk)
      clear hk
      go_wp2_with fail
      refine (write_down x 0 _ 1 1 (D.crash left) F2 _ (H4.out.quiet ((Keeps.refl _ _).alloc _)).disk rfl).mono ?_
      rintro e w5 ⟨rfl, hk0⟩
      have hk := ((Keeps.refl (fun _ => False) w4).alloc _).trans hk0 (fun _ _ h => h)
      have H6 := Lib.hid (H4.out.quiet hk)
      have HR7 := Lib.hid (HR5.out.quiet hk)
      clear hk hk0
      go_wp2_with fail
      refine (sync_down x (D.crash left) F2 _ H6.out.disk rfl).mono ?_
      rintro e w6 ⟨rfl, hk⟩
      have H8 := Lib.hid (H6.out.quiet hk)
      have HR9 := Lib.hid (HR7.out.quiet hk)
      clear hk
      go_wp2_with fail
      refine (crash_down x 0 (D.crash left) F2 _ H8.out.disk rfl).mono ?_
      rintro e w7 ⟨rfl, hk⟩
      have H10 := Lib.hid (H8.out.quiet hk)
      have HR11 := Lib.hid (HR9.out.quiet hk)
      clear hk
      go_wp2_with fail
      refine (loose_any x (D.crash left) F2 _ H10.out.disk).mono ?_
      rintro e _ ⟨rfl, rfl⟩
      have h0 : ((D.crash left).lo.length : Int) = 0 := rfl
      rw [h0]
      clear h0
      go_wp2_with fail
      refine (open_ok x (D.crash left) F2 _ H10.out.disk rfl (by rw [HLEN.out]; omega)).mono ?_
      rintro e w8 ⟨y, G, rfl, hd, hk, hG⟩
      have H12 := Lib.hid (Two.mk' H10.out hd hk hG)
      have HRb : Hid (Row w8 (.slice (some ⟨g3, 0, none⟩) 40 c3) 40 (D.crash left).now (fun k => F2 k ∨ G k)) := ⟨(HR11.out.quiet hk).own, fun k e hf => by rcases hf with hf | hf; exact HR11.out.ap k e hf; have := (HR11.out.own.lt k e).2; have := hG k hf; omega⟩
      clear hd hk hG
      go_wp2_with fail
      have H13 := Lib.hid (H12.out.quiet (Keeps.refl _ _).drew)
      have HR14 := Lib.hid (HRb.out.quiet (Keeps.refl _ _).drew)
      refine z_begin (fun w' => (convert 27 9 (.slice (some ⟨g3, 0, none⟩) 40 c3)).run Try.prog w' = .ok (.string (strOf (D.crash left).now)) w' ∧ True) 30 (by kernel_rfl) (⟨HR14.out.str, trivial⟩) (fun hHeld => ?_)
      refine z_take 0 (v := ?_) rfl (by kernel_rfl) (by kernel_rfl) (by kernel_rfl) (by kernel_rfl) (fun _ _ _ h => h) hHeld (by rfl) (fun w hSw => ?_) ?_
      rotate_left
      · obtain ⟨hSw1, hSw2⟩ := hSw; simp only [List.getElem_toArray, List.getElem_cons_zero]; go_simp; try rfl
      simp only [Act.put, List.getElem_toArray, List.getElem_cons_zero, List.setIfInBounds_toArray, List.set_cons_zero, List.set_cons_succ]
      refine z_take 3 (v := ?_) rfl (by kernel_rfl) (by kernel_rfl) (by kernel_rfl) (by kernel_rfl) (fun _ _ _ h => h) hHeld (by rfl) (fun w hSw => ?_) ?_
      rotate_left
      · obtain ⟨hSw1, hSw2⟩ := hSw; simp only [List.getElem_toArray, List.getElem_cons_zero, List.getElem_cons_succ]; go_simp; try rfl
      simp only [Act.put, List.getElem_toArray, List.getElem_cons_zero, List.getElem_cons_succ, List.setIfInBounds_toArray, List.set_cons_zero, List.set_cons_succ]
      refine z_take 4 (v := ?_) rfl (by kernel_rfl) (by kernel_rfl) (by kernel_rfl) (by kernel_rfl) (fun _ _ _ h => h) hHeld (by rfl) (fun w hSw => ?_) ?_
      rotate_left
      · obtain ⟨hSw1, hSw2⟩ := hSw; simp only [List.getElem_toArray, List.getElem_cons_zero, List.getElem_cons_succ]; go_simp; try rfl
      simp only [Act.put, List.getElem_toArray, List.getElem_cons_zero, List.getElem_cons_succ, List.setIfInBounds_toArray, List.set_cons_zero, List.set_cons_succ]
      refine z_one 1 rfl (by kernel_rfl) (by rfl) (fun K hK => ?_)
      simp only [List.getElem_toArray, List.getElem_cons_zero, List.getElem_cons_succ]
      go_simp
      refine (raw_any y _ G _ H13.out.r.disk (by rw [HOP.out, HLEN.out]; omega)).mono ?_
      rintro e w9 ⟨g9, c9, rfl, hown, hk⟩
      rw [HOP.out] at hown
      rw [HOP.out]
      rw [HLEN.out] at hown
      rw [HLEN.out]
      have HR15 : Hid (Row w9 (.slice (some ⟨g9, 0, none⟩) 40 c9) 40 (D.crash left).now (fun k => F2 k ∨ G k)) := Row.mk' hown (fun k hk' => by rcases hk' with h | h; exact H13.out.l.disk.foot_lt k h; exact H13.out.r.disk.foot_lt k h)
      have H16 := Lib.hid (H13.out.quiet hk)
      have HR17 := Lib.hid (HR14.out.quiet hk)
      clear hown hk
      refine hK _ _ (Or.inr ?_) (fun hHeld => ?_)
      · exact ⟨HR17.out.str, trivial⟩
      clear hK K
      replace hHeld := hHeld.resolve_left (by decide)
      try simp only [Act.put, List.setIfInBounds_toArray, List.set_cons_zero, List.set_cons_succ]
      refine z_more (fun w' => (convert 27 9 (.slice (some ⟨g9, 0, none⟩) 40 c9)).run Try.prog w' = .ok (.string (strOf (D.crash left).now)) w' ∧ (convert 27 9 (.slice (some ⟨g3, 0, none⟩) 40 c3)).run Try.prog w' = .ok (.string (strOf (D.crash left).now)) w' ∧ True) (fun _ h => h.2) _ _ _ _ ?_
      replace hHeld : (convert 27 9 (.slice (some ⟨g9, 0, none⟩) 40 c9)).run Try.prog w9 = .ok (.string (strOf (D.crash left).now)) w9 ∧ (convert 27 9 (.slice (some ⟨g3, 0, none⟩) 40 c3)).run Try.prog w9 = .ok (.string (strOf (D.crash left).now)) w9 ∧ True := ⟨HR15.out.str, HR17.out.str, trivial⟩
      refine z_take 2 (v := ?_) rfl (by kernel_rfl) (by kernel_rfl) (by kernel_rfl) (by kernel_rfl) (fun _ _ _ h => h) hHeld (by rfl) (fun w hSw => ?_) ?_
      rotate_left
      · obtain ⟨hSw1, hSw2, hSw3⟩ := hSw; simp only [List.getElem_toArray, List.getElem_cons_zero, List.getElem_cons_succ]; go_simp; try rfl
      simp only [Act.put, List.getElem_toArray, List.getElem_cons_zero, List.getElem_cons_succ, List.setIfInBounds_toArray, List.set_cons_zero, List.set_cons_succ]
      refine z_take 5 (v := ?_) rfl (by kernel_rfl) (by kernel_rfl) (by kernel_rfl) (by kernel_rfl) (fun _ _ _ h => h) hHeld (by rfl) (fun w hSw => ?_) ?_
      rotate_left
      · obtain ⟨hSw1, hSw2, hSw3⟩ := hSw; simp only [List.getElem_toArray, List.getElem_cons_zero, List.getElem_cons_succ]; go_simp; try rfl
      simp only [Act.put, List.getElem_toArray, List.getElem_cons_zero, List.getElem_cons_succ, List.setIfInBounds_toArray, List.set_cons_zero, List.set_cons_succ]
      refine z_take 6 (v := ?_) rfl (by kernel_rfl) (by kernel_rfl) (by kernel_rfl) (by kernel_rfl) (fun _ _ _ h => h) hHeld (by rfl) (fun w hSw => ?_) ?_
      rotate_left
      · obtain ⟨hSw1, hSw2, hSw3⟩ := hSw; simp only [List.getElem_toArray, List.getElem_cons_zero, List.getElem_cons_succ]; go_simp; try rfl
      simp only [Act.put, List.getElem_toArray, List.getElem_cons_zero, List.getElem_cons_succ, List.setIfInBounds_toArray, List.set_cons_zero, List.set_cons_succ]
      refine z_take 7 (v := ?_) rfl (by kernel_rfl) (by kernel_rfl) (by kernel_rfl) (by kernel_rfl) (fun _ _ _ h => h) hHeld (by rfl) (fun w hSw => ?_) ?_
      rotate_left
      · obtain ⟨hSw1, hSw2, hSw3⟩ := hSw; simp only [List.getElem_toArray, List.getElem_cons_zero, List.getElem_cons_succ]; go_simp; try rfl
      simp only [Act.put, List.getElem_toArray, List.getElem_cons_zero, List.getElem_cons_succ, List.setIfInBounds_toArray, List.set_cons_zero, List.set_cons_succ]
      refine z_take 10 (v := ?_) rfl (by kernel_rfl) (by kernel_rfl) (by kernel_rfl) (by kernel_rfl) (fun _ _ _ h => h) hHeld (by rfl) (fun w hSw => ?_) ?_
      rotate_left
      · obtain ⟨hSw1, hSw2, hSw3⟩ := hSw; simp only [List.getElem_toArray, List.getElem_cons_zero, List.getElem_cons_succ]; go_simp; try rfl
      simp only [Act.put, List.getElem_toArray, List.getElem_cons_zero, List.getElem_cons_succ, List.setIfInBounds_toArray, List.set_cons_zero, List.set_cons_succ]
      refine z_take 11 (v := ?_) rfl (by kernel_rfl) (by kernel_rfl) (by kernel_rfl) (by kernel_rfl) (fun _ _ _ h => h) hHeld (by rfl) (fun w hSw => ?_) ?_
      rotate_left
      · obtain ⟨hSw1, hSw2, hSw3⟩ := hSw; simp only [List.getElem_toArray, List.getElem_cons_zero, List.getElem_cons_succ]; go_simp; try rfl
      simp only [Act.put, List.getElem_toArray, List.getElem_cons_zero, List.getElem_cons_succ, List.setIfInBounds_toArray, List.set_cons_zero, List.set_cons_succ]
      refine z_one 8 rfl (by kernel_rfl) (by rfl) (fun K hK => ?_)
      simp only [List.getElem_toArray, List.getElem_cons_zero, List.getElem_cons_succ]
      go_simp
      refine (raw_any x _ F2 _ H16.out.l.disk (by rw [HLEN.out]; omega)).mono ?_
      rintro e w10 ⟨g10, c10, rfl, hown, hk⟩
      rw [HLEN.out] at hown
      rw [HLEN.out]
      have HR18 : Hid (Row w10 (.slice (some ⟨g10, 0, none⟩) 40 c10) 40 (D.crash left).now (fun k => F2 k ∨ G k)) := Row.mk' hown (fun k hk' => by rcases hk' with h | h; exact H16.out.l.disk.foot_lt k h; exact H16.out.r.disk.foot_lt k h)
      have H19 := Lib.hid (H16.out.quiet hk)
      have HR20 := Lib.hid (HR17.out.quiet hk)
      have HR21 := Lib.hid (HR15.out.quiet hk)
      clear hown hk
      refine hK _ _ (Or.inr ?_) (fun hHeld => ?_)
      · exact ⟨HR21.out.str, HR20.out.str, trivial⟩
      clear hK K
      replace hHeld := hHeld.resolve_left (by decide)
      try simp only [Act.put, List.setIfInBounds_toArray, List.set_cons_zero, List.set_cons_succ]
      refine z_more (fun w' => (convert 27 9 (.slice (some ⟨g10, 0, none⟩) 40 c10)).run Try.prog w' = .ok (.string (strOf (D.crash left).now)) w' ∧ (convert 27 9 (.slice (some ⟨g9, 0, none⟩) 40 c9)).run Try.prog w' = .ok (.string (strOf (D.crash left).now)) w' ∧ (convert 27 9 (.slice (some ⟨g3, 0, none⟩) 40 c3)).run Try.prog w' = .ok (.string (strOf (D.crash left).now)) w' ∧ True) (fun _ h => h.2) _ _ _ _ ?_
      replace hHeld : (convert 27 9 (.slice (some ⟨g10, 0, none⟩) 40 c10)).run Try.prog w10 = .ok (.string (strOf (D.crash left).now)) w10 ∧ (convert 27 9 (.slice (some ⟨g9, 0, none⟩) 40 c9)).run Try.prog w10 = .ok (.string (strOf (D.crash left).now)) w10 ∧ (convert 27 9 (.slice (some ⟨g3, 0, none⟩) 40 c3)).run Try.prog w10 = .ok (.string (strOf (D.crash left).now)) w10 ∧ True := ⟨HR18.out.str, HR21.out.str, HR20.out.str, trivial⟩
      refine z_take 9 (v := ?_) rfl (by kernel_rfl) (by kernel_rfl) (by kernel_rfl) (by kernel_rfl) (fun _ _ _ h => h) hHeld (by rfl) (fun w hSw => ?_) ?_
      rotate_left
      · obtain ⟨hSw1, hSw2, hSw3, hSw4⟩ := hSw; simp only [List.getElem_toArray, List.getElem_cons_zero, List.getElem_cons_succ]; go_simp; try rfl
      simp only [Act.put, List.getElem_toArray, List.getElem_cons_zero, List.getElem_cons_succ, List.setIfInBounds_toArray, List.set_cons_zero, List.set_cons_succ]
      refine z_take 12 (v := ?_) rfl (by kernel_rfl) (by kernel_rfl) (by kernel_rfl) (by kernel_rfl) (fun _ _ _ h => h) hHeld (by rfl) (fun w hSw => ?_) ?_
      rotate_left
      · obtain ⟨hSw1, hSw2, hSw3, hSw4⟩ := hSw; simp only [List.getElem_toArray, List.getElem_cons_zero, List.getElem_cons_succ]; go_simp; try rfl
      simp only [Act.put, List.getElem_toArray, List.getElem_cons_zero, List.getElem_cons_succ, List.setIfInBounds_toArray, List.set_cons_zero, List.set_cons_succ]
      refine z_take 13 (v := ?_) rfl (by kernel_rfl) (by kernel_rfl) (by kernel_rfl) (by kernel_rfl) (fun _ _ _ h => h) hHeld (by rfl) (fun w hSw => ?_) ?_
      rotate_left
      · obtain ⟨hSw1, hSw2, hSw3, hSw4⟩ := hSw; simp only [List.getElem_toArray, List.getElem_cons_zero, List.getElem_cons_succ]; go_simp; try rfl
      simp only [Act.put, List.getElem_toArray, List.getElem_cons_zero, List.getElem_cons_succ, List.setIfInBounds_toArray, List.set_cons_zero, List.set_cons_succ]
      refine z_take 14 (v := ?_) rfl (by kernel_rfl) (by kernel_rfl) (by kernel_rfl) (by kernel_rfl) (fun _ _ _ h => h) hHeld (by rfl) (fun w hSw => ?_) ?_
      rotate_left
      · obtain ⟨hSw1, hSw2, hSw3, hSw4⟩ := hSw; simp only [List.getElem_toArray, List.getElem_cons_zero, List.getElem_cons_succ]; go_simp; try rfl
      simp only [Act.put, List.getElem_toArray, List.getElem_cons_zero, List.getElem_cons_succ, List.setIfInBounds_toArray, List.set_cons_zero, List.set_cons_succ]
      refine z_take 15 (v := ?_) rfl (by kernel_rfl) (by kernel_rfl) (by kernel_rfl) (by kernel_rfl) (fun _ _ _ h => h) hHeld (by rfl) (fun w hSw => ?_) ?_
      rotate_left
      · obtain ⟨hSw1, hSw2, hSw3, hSw4⟩ := hSw; simp only [List.getElem_toArray, List.getElem_cons_zero, List.getElem_cons_succ]; go_simp; try rfl
      simp only [Act.put, List.getElem_toArray, List.getElem_cons_zero, List.getElem_cons_succ, List.setIfInBounds_toArray, List.set_cons_zero, List.set_cons_succ]
      refine z_one 16 rfl (by kernel_rfl) (by rfl) (fun K hK => ?_)
      simp only [List.getElem_toArray, List.getElem_cons_zero, List.getElem_cons_succ]
      go_simp
      refine (loose_any y (D.crash left).opened G _ H19.out.r.disk).mono ?_
      rintro e _ ⟨rfl, rfl⟩
      refine hK _ _ (Or.inr ?_) (fun hHeld => ?_)
      · exact ⟨HR18.out.str, HR21.out.str, HR20.out.str, trivial⟩
      clear hK K
      replace hHeld := hHeld.resolve_left (by decide)
      try simp only [Act.put, List.setIfInBounds_toArray, List.set_cons_zero, List.set_cons_succ]
      have h0 : ((D.crash left).opened.lo.length : Int) = 0 := rfl
      rw [h0]
      clear h0
      refine z_take 17 (v := ?_) rfl (by kernel_rfl) (by kernel_rfl) (by kernel_rfl) (by kernel_rfl) (fun _ _ _ h => h) hHeld (by rfl) (fun w hSw => ?_) ?_
      rotate_left
      · obtain ⟨hSw1, hSw2, hSw3, hSw4⟩ := hSw; simp only [List.getElem_toArray, List.getElem_cons_zero, List.getElem_cons_succ]; go_simp; try rfl
      simp only [Act.put, List.getElem_toArray, List.getElem_cons_zero, List.getElem_cons_succ, List.setIfInBounds_toArray, List.set_cons_zero, List.set_cons_succ]
      refine z_take 18 (v := ?_) rfl (by kernel_rfl) (by kernel_rfl) (by kernel_rfl) (by kernel_rfl) (fun _ _ _ h => h) hHeld (by rfl) (fun w hSw => ?_) ?_
      rotate_left
      · obtain ⟨hSw1, hSw2, hSw3, hSw4⟩ := hSw; simp only [List.getElem_toArray, List.getElem_cons_zero, List.getElem_cons_succ]; go_simp; try rfl
      simp only [Act.put, List.getElem_toArray, List.getElem_cons_zero, List.getElem_cons_succ, List.setIfInBounds_toArray, List.set_cons_zero, List.set_cons_succ]
      refine z_take 19 (v := ?_) rfl (by kernel_rfl) (by kernel_rfl) (by kernel_rfl) (by kernel_rfl) (fun _ _ _ h => h) hHeld (by rfl) (fun w hSw => ?_) ?_
      rotate_left
      · obtain ⟨hSw1, hSw2, hSw3, hSw4⟩ := hSw; simp only [List.getElem_toArray, List.getElem_cons_zero, List.getElem_cons_succ]; go_simp; try rfl
      simp only [Act.put, List.getElem_toArray, List.getElem_cons_zero, List.getElem_cons_succ, List.setIfInBounds_toArray, List.set_cons_zero, List.set_cons_succ]
      refine z_take 20 (v := ?_) rfl (by kernel_rfl) (by kernel_rfl) (by kernel_rfl) (by kernel_rfl) (fun _ _ _ h => h) hHeld (by rfl) (fun w hSw => ?_) ?_
      rotate_left
      · obtain ⟨hSw1, hSw2, hSw3, hSw4⟩ := hSw; simp only [List.getElem_toArray, List.getElem_cons_zero, List.getElem_cons_succ]; go_simp; try rfl
      simp only [Act.put, List.getElem_toArray, List.getElem_cons_zero, List.getElem_cons_succ, List.setIfInBounds_toArray, List.set_cons_zero, List.set_cons_succ]
      refine z_one 21 rfl (by kernel_rfl) (by rfl) (fun K hK => ?_)
      simp only [List.getElem_toArray, List.getElem_cons_zero, List.getElem_cons_succ]
      go_simp
      refine (size_any y (D.crash left).opened G _ H19.out.r.disk).mono ?_
      rintro e _ ⟨rfl, rfl⟩
      refine hK _ _ (Or.inr ?_) (fun hHeld => ?_)
      · exact ⟨HR18.out.str, HR21.out.str, HR20.out.str, trivial⟩
      clear hK K
      replace hHeld := hHeld.resolve_left (by decide)
      try simp only [Act.put, List.setIfInBounds_toArray, List.set_cons_zero, List.set_cons_succ]
      rw [HOP.out, HLEN.out]
      refine z_take 22 (v := ?_) rfl (by kernel_rfl) (by kernel_rfl) (by kernel_rfl) (by kernel_rfl) (fun _ _ _ h => h) hHeld (by rfl) (fun w hSw => ?_) ?_
      rotate_left
      · obtain ⟨hSw1, hSw2, hSw3, hSw4⟩ := hSw; simp only [List.getElem_toArray, List.getElem_cons_zero, List.getElem_cons_succ]; go_simp; try rfl
      simp only [Act.put, List.getElem_toArray, List.getElem_cons_zero, List.getElem_cons_succ, List.setIfInBounds_toArray, List.set_cons_zero, List.set_cons_succ]
      refine z_take 23 (v := ?_) rfl (by kernel_rfl) (by kernel_rfl) (by kernel_rfl) (by kernel_rfl) (fun _ _ _ h => h) hHeld (by rfl) (fun w hSw => ?_) ?_
      rotate_left
      · obtain ⟨hSw1, hSw2, hSw3, hSw4⟩ := hSw; simp only [List.getElem_toArray, List.getElem_cons_zero, List.getElem_cons_succ]; go_simp; try rfl
      simp only [Act.put, List.getElem_toArray, List.getElem_cons_zero, List.getElem_cons_succ, List.setIfInBounds_toArray, List.set_cons_zero, List.set_cons_succ]
      refine z_take 24 (v := ?_) rfl (by kernel_rfl) (by kernel_rfl) (by kernel_rfl) (by kernel_rfl) (fun _ _ _ h => h) hHeld (by rfl) (fun w hSw => ?_) ?_
      rotate_left
      · obtain ⟨hSw1, hSw2, hSw3, hSw4⟩ := hSw; simp only [List.getElem_toArray, List.getElem_cons_zero, List.getElem_cons_succ]; go_simp; try rfl
      simp only [Act.put, List.getElem_toArray, List.getElem_cons_zero, List.getElem_cons_succ, List.setIfInBounds_toArray, List.set_cons_zero, List.set_cons_succ]
      refine z_one 25 rfl (by kernel_rfl) (by rfl) (fun K hK => ?_)
      simp only [List.getElem_toArray, List.getElem_cons_zero, List.getElem_cons_succ]
      go_simp
      refine (lives_any _).mono ?_
      rintro e w11 ⟨rfl, hk⟩
      have H22 := Lib.hid (H19.out.quiet hk)
      have HR23 := Lib.hid (HR20.out.quiet hk)
      have HR24 := Lib.hid (HR21.out.quiet hk)
      have HR25 := Lib.hid (HR18.out.quiet hk)
      clear hk
      refine hK _ _ (Or.inr ?_) (fun hHeld => ?_)
      · exact ⟨HR25.out.str, HR24.out.str, HR23.out.str, trivial⟩
      clear hK K
      replace hHeld := hHeld.resolve_left (by decide)
      try simp only [Act.put, List.setIfInBounds_toArray, List.set_cons_zero, List.set_cons_succ]
      refine z_take 26 (v := ?_) rfl (by kernel_rfl) (by kernel_rfl) (by kernel_rfl) (by kernel_rfl) (fun _ _ _ h => h) hHeld (by rfl) (fun w hSw => ?_) ?_
      rotate_left
      · obtain ⟨hSw1, hSw2, hSw3, hSw4⟩ := hSw; simp only [List.getElem_toArray, List.getElem_cons_zero, List.getElem_cons_succ]; go_simp; try rfl
      simp only [Act.put, List.getElem_toArray, List.getElem_cons_zero, List.getElem_cons_succ, List.setIfInBounds_toArray, List.set_cons_zero, List.set_cons_succ]
      refine z_one 27 rfl (by kernel_rfl) (by rfl) (fun K hK => ?_)
      simp only [List.getElem_toArray, List.getElem_cons_zero, List.getElem_cons_succ]
      go_simp
      refine hK _ _ (Or.inr ?_) (fun hHeld => ?_)
      · exact hHeld
      clear hK K
      replace hHeld := hHeld.resolve_left (by decide)
      try simp only [Act.put, List.setIfInBounds_toArray, List.set_cons_zero, List.set_cons_succ]
      refine z_done (by kernel_rfl) ?_ _
      go_wp2
      go_ret
      exact ⟨rfl, H22.out.l.below⟩
    · have HB : Hid (size < 0 ∨ 65536 < size) := Or.inr h2
      have HK0 : Hid (Keeps (fun _ => False) w w) := Keeps.refl _ _
      clear hs
      go_enter Try.func4, Try.ntmps4
      go_wp2_with fail
      refine (new_bad size w HB.out).mono ?_
      rintro e w0 ⟨rfl, rfl⟩
      go_wp2_with fail
      obtain ⟨hl, hla, hsrc, hwf⟩ := HL.out
      refine (played_any la b off len cap zs _ hl hlen hla (fun j z hz => (HK0.out.cell (World.block_lt_of_cell? w _ (hsrc j z hz)) (fun h => h)).trans (hsrc j z hz)) hwf).mono ?_
      rintro e w1 ⟨x, F, rfl, hd, hk, hF⟩
      have h1 : One w w1 x (playD ((zs.take 20).map mkAct)) F := ⟨hd, HK0.out.trans hk (fun _ _ h => h), fun k h => Nat.le_trans HK0.out.size (hF k h)⟩
      have H0 := Lib.hid h1
      clear hd hk hF h1 hl hla hsrc hwf HL
      generalize playD ((zs.take 20).map mkAct) = D at *
      have HG := Lib.hid hg
      clear hg
      have HLEN : Hid ((D.crash left).now.length = 40) := left_len' D _ 40 220 HG.out.ok
      have HOP : Hid ((D.crash left).opened.now = (D.crash left).now) := rfl
      go_wp2_with fail
      refine (open_no x D F _ H0.out.disk HG.out.ok.up).mono ?_
      rintro e _ ⟨rfl, rfl⟩
      go_wp2_with fail
      refine (crash_ok x left D F _ H0.out.disk HG.out.ok.up (by have := HG.out.ok.lo; omega) (by rw [HG.out.ok.len]; exact HG.out.ok.at_)).mono ?_
      rintro e w2 ⟨rfl, F2, hd, hk, hs⟩
      have H1 := Lib.hid (H0.out.step hd hk hs)
      clear hd hk hs
      go_wp2_with fail
      refine (raw_any x _ F2 _ H1.out.disk (by rw [HLEN.out]; omega)).mono ?_
      rintro e w3 ⟨g3, c3, rfl, hown, hk⟩
      rw [HLEN.out] at hown
      rw [HLEN.out]
      have HR2 : Hid (Row w3 (.slice (some ⟨g3, 0, none⟩) 40 c3) 40 (D.crash left).now F2) := Row.mk' hown (H1.out.disk.foot_lt)
      have H3 := Lib.hid (H1.out.quiet hk)
      clear hown hk
      go_wp2_with fail
      refine (read_down x 0 1 (D.crash left) F2 _ H3.out.disk rfl).mono ?_
      rintro e w4 ⟨rfl, hk⟩
      have H4 := Lib.hid (H3.out.quiet hk)
      have HR5 := Lib.hid (HR2.out.quiet hk)
      clear hk
      go_wp2_with fail
      refine (write_down x 0 _ 1 1 (D.crash left) F2 _ (H4.out.quiet ((Keeps.refl _ _).alloc _)).disk rfl).mono ?_
      rintro e w5 ⟨rfl, hk0⟩
      have hk := ((Keeps.refl (fun _ => False) w4).alloc _).trans hk0 (fun _ _ h => h)
      have H6 := Lib.hid (H4.out.quiet hk)
      have HR7 := Lib.hid (HR5.out.quiet hk)
      clear hk hk0
      go_wp2_with fail
      refine (sync_down x (D.crash left) F2 _ H6.out.disk rfl).mono ?_
      rintro e w6 ⟨rfl, hk⟩
      have H8 := Lib.hid (H6.out.quiet hk)
      have HR9 := Lib.hid (HR7.out.quiet hk)
      clear hk
      go_wp2_with fail
      refine (crash_down x 0 (D.crash left) F2 _ H8.out.disk rfl).mono ?_
      rintro e w7 ⟨rfl, hk⟩
      have H10 := Lib.hid (H8.out.quiet hk)
      have HR11 := Lib.hid (HR9.out.quiet hk)
      clear hk
      go_wp2_with fail
      refine (loose_any x (D.crash left) F2 _ H10.out.disk).mono ?_
      rintro e _ ⟨rfl, rfl⟩
      have h0 : ((D.crash left).lo.length : Int) = 0 := rfl
      rw [h0]
      clear h0
      go_wp2_with fail
      refine (open_ok x (D.crash left) F2 _ H10.out.disk rfl (by rw [HLEN.out]; omega)).mono ?_
      rintro e w8 ⟨y, G, rfl, hd, hk, hG⟩
      have H12 := Lib.hid (Two.mk' H10.out hd hk hG)
      have HRb : Hid (Row w8 (.slice (some ⟨g3, 0, none⟩) 40 c3) 40 (D.crash left).now (fun k => F2 k ∨ G k)) := ⟨(HR11.out.quiet hk).own, fun k e hf => by rcases hf with hf | hf; exact HR11.out.ap k e hf; have := (HR11.out.own.lt k e).2; have := hG k hf; omega⟩
      clear hd hk hG
      go_wp2_with fail
      have H13 := Lib.hid (H12.out.quiet (Keeps.refl _ _).drew)
      have HR14 := Lib.hid (HRb.out.quiet (Keeps.refl _ _).drew)
      refine z_begin (fun w' => (convert 27 9 (.slice (some ⟨g3, 0, none⟩) 40 c3)).run Try.prog w' = .ok (.string (strOf (D.crash left).now)) w' ∧ True) 30 (by kernel_rfl) (⟨HR14.out.str, trivial⟩) (fun hHeld => ?_)
      refine z_take 0 (v := ?_) rfl (by kernel_rfl) (by kernel_rfl) (by kernel_rfl) (by kernel_rfl) (fun _ _ _ h => h) hHeld (by rfl) (fun w hSw => ?_) ?_
      rotate_left
      · obtain ⟨hSw1, hSw2⟩ := hSw; simp only [List.getElem_toArray, List.getElem_cons_zero]; go_simp; try rfl
      simp only [Act.put, List.getElem_toArray, List.getElem_cons_zero, List.setIfInBounds_toArray, List.set_cons_zero, List.set_cons_succ]
      refine z_take 3 (v := ?_) rfl (by kernel_rfl) (by kernel_rfl) (by kernel_rfl) (by kernel_rfl) (fun _ _ _ h => h) hHeld (by rfl) (fun w hSw => ?_) ?_
      rotate_left
      · obtain ⟨hSw1, hSw2⟩ := hSw; simp only [List.getElem_toArray, List.getElem_cons_zero, List.getElem_cons_succ]; go_simp; try rfl
      simp only [Act.put, List.getElem_toArray, List.getElem_cons_zero, List.getElem_cons_succ, List.setIfInBounds_toArray, List.set_cons_zero, List.set_cons_succ]
      refine z_take 4 (v := ?_) rfl (by kernel_rfl) (by kernel_rfl) (by kernel_rfl) (by kernel_rfl) (fun _ _ _ h => h) hHeld (by rfl) (fun w hSw => ?_) ?_
      rotate_left
      · obtain ⟨hSw1, hSw2⟩ := hSw; simp only [List.getElem_toArray, List.getElem_cons_zero, List.getElem_cons_succ]; go_simp; try rfl
      simp only [Act.put, List.getElem_toArray, List.getElem_cons_zero, List.getElem_cons_succ, List.setIfInBounds_toArray, List.set_cons_zero, List.set_cons_succ]
      refine z_one 1 rfl (by kernel_rfl) (by rfl) (fun K hK => ?_)
      simp only [List.getElem_toArray, List.getElem_cons_zero, List.getElem_cons_succ]
      go_simp
      refine (raw_any y _ G _ H13.out.r.disk (by rw [HOP.out, HLEN.out]; omega)).mono ?_
      rintro e w9 ⟨g9, c9, rfl, hown, hk⟩
      rw [HOP.out] at hown
      rw [HOP.out]
      rw [HLEN.out] at hown
      rw [HLEN.out]
      have HR15 : Hid (Row w9 (.slice (some ⟨g9, 0, none⟩) 40 c9) 40 (D.crash left).now (fun k => F2 k ∨ G k)) := Row.mk' hown (fun k hk' => by rcases hk' with h | h; exact H13.out.l.disk.foot_lt k h; exact H13.out.r.disk.foot_lt k h)
      have H16 := Lib.hid (H13.out.quiet hk)
      have HR17 := Lib.hid (HR14.out.quiet hk)
      clear hown hk
      refine hK _ _ (Or.inr ?_) (fun hHeld => ?_)
      · exact ⟨HR17.out.str, trivial⟩
      clear hK K
      replace hHeld := hHeld.resolve_left (by decide)
      try simp only [Act.put, List.setIfInBounds_toArray, List.set_cons_zero, List.set_cons_succ]
      refine z_more (fun w' => (convert 27 9 (.slice (some ⟨g9, 0, none⟩) 40 c9)).run Try.prog w' = .ok (.string (strOf (D.crash left).now)) w' ∧ (convert 27 9 (.slice (some ⟨g3, 0, none⟩) 40 c3)).run Try.prog w' = .ok (.string (strOf (D.crash left).now)) w' ∧ True) (fun _ h => h.2) _ _ _ _ ?_
      replace hHeld : (convert 27 9 (.slice (some ⟨g9, 0, none⟩) 40 c9)).run Try.prog w9 = .ok (.string (strOf (D.crash left).now)) w9 ∧ (convert 27 9 (.slice (some ⟨g3, 0, none⟩) 40 c3)).run Try.prog w9 = .ok (.string (strOf (D.crash left).now)) w9 ∧ True := ⟨HR15.out.str, HR17.out.str, trivial⟩
      refine z_take 2 (v := ?_) rfl (by kernel_rfl) (by kernel_rfl) (by kernel_rfl) (by kernel_rfl) (fun _ _ _ h => h) hHeld (by rfl) (fun w hSw => ?_) ?_
      rotate_left
      · obtain ⟨hSw1, hSw2, hSw3⟩ := hSw; simp only [List.getElem_toArray, List.getElem_cons_zero, List.getElem_cons_succ]; go_simp; try rfl
      simp only [Act.put, List.getElem_toArray, List.getElem_cons_zero, List.getElem_cons_succ, List.setIfInBounds_toArray, List.set_cons_zero, List.set_cons_succ]
      refine z_take 5 (v := ?_) rfl (by kernel_rfl) (by kernel_rfl) (by kernel_rfl) (by kernel_rfl) (fun _ _ _ h => h) hHeld (by rfl) (fun w hSw => ?_) ?_
      rotate_left
      · obtain ⟨hSw1, hSw2, hSw3⟩ := hSw; simp only [List.getElem_toArray, List.getElem_cons_zero, List.getElem_cons_succ]; go_simp; try rfl
      simp only [Act.put, List.getElem_toArray, List.getElem_cons_zero, List.getElem_cons_succ, List.setIfInBounds_toArray, List.set_cons_zero, List.set_cons_succ]
      refine z_take 6 (v := ?_) rfl (by kernel_rfl) (by kernel_rfl) (by kernel_rfl) (by kernel_rfl) (fun _ _ _ h => h) hHeld (by rfl) (fun w hSw => ?_) ?_
      rotate_left
      · obtain ⟨hSw1, hSw2, hSw3⟩ := hSw; simp only [List.getElem_toArray, List.getElem_cons_zero, List.getElem_cons_succ]; go_simp; try rfl
      simp only [Act.put, List.getElem_toArray, List.getElem_cons_zero, List.getElem_cons_succ, List.setIfInBounds_toArray, List.set_cons_zero, List.set_cons_succ]
      refine z_take 7 (v := ?_) rfl (by kernel_rfl) (by kernel_rfl) (by kernel_rfl) (by kernel_rfl) (fun _ _ _ h => h) hHeld (by rfl) (fun w hSw => ?_) ?_
      rotate_left
      · obtain ⟨hSw1, hSw2, hSw3⟩ := hSw; simp only [List.getElem_toArray, List.getElem_cons_zero, List.getElem_cons_succ]; go_simp; try rfl
      simp only [Act.put, List.getElem_toArray, List.getElem_cons_zero, List.getElem_cons_succ, List.setIfInBounds_toArray, List.set_cons_zero, List.set_cons_succ]
      refine z_take 10 (v := ?_) rfl (by kernel_rfl) (by kernel_rfl) (by kernel_rfl) (by kernel_rfl) (fun _ _ _ h => h) hHeld (by rfl) (fun w hSw => ?_) ?_
      rotate_left
      · obtain ⟨hSw1, hSw2, hSw3⟩ := hSw; simp only [List.getElem_toArray, List.getElem_cons_zero, List.getElem_cons_succ]; go_simp; try rfl
      simp only [Act.put, List.getElem_toArray, List.getElem_cons_zero, List.getElem_cons_succ, List.setIfInBounds_toArray, List.set_cons_zero, List.set_cons_succ]
      refine z_take 11 (v := ?_) rfl (by kernel_rfl) (by kernel_rfl) (by kernel_rfl) (by kernel_rfl) (fun _ _ _ h => h) hHeld (by rfl) (fun w hSw => ?_) ?_
      rotate_left
      · obtain ⟨hSw1, hSw2, hSw3⟩ := hSw; simp only [List.getElem_toArray, List.getElem_cons_zero, List.getElem_cons_succ]; go_simp; try rfl
      simp only [Act.put, List.getElem_toArray, List.getElem_cons_zero, List.getElem_cons_succ, List.setIfInBounds_toArray, List.set_cons_zero, List.set_cons_succ]
      refine z_one 8 rfl (by kernel_rfl) (by rfl) (fun K hK => ?_)
      simp only [List.getElem_toArray, List.getElem_cons_zero, List.getElem_cons_succ]
      go_simp
      refine (raw_any x _ F2 _ H16.out.l.disk (by rw [HLEN.out]; omega)).mono ?_
      rintro e w10 ⟨g10, c10, rfl, hown, hk⟩
      rw [HLEN.out] at hown
      rw [HLEN.out]
      have HR18 : Hid (Row w10 (.slice (some ⟨g10, 0, none⟩) 40 c10) 40 (D.crash left).now (fun k => F2 k ∨ G k)) := Row.mk' hown (fun k hk' => by rcases hk' with h | h; exact H16.out.l.disk.foot_lt k h; exact H16.out.r.disk.foot_lt k h)
      have H19 := Lib.hid (H16.out.quiet hk)
      have HR20 := Lib.hid (HR17.out.quiet hk)
      have HR21 := Lib.hid (HR15.out.quiet hk)
      clear hown hk
      refine hK _ _ (Or.inr ?_) (fun hHeld => ?_)
      · exact ⟨HR21.out.str, HR20.out.str, trivial⟩
      clear hK K
      replace hHeld := hHeld.resolve_left (by decide)
      try simp only [Act.put, List.setIfInBounds_toArray, List.set_cons_zero, List.set_cons_succ]
      refine z_more (fun w' => (convert 27 9 (.slice (some ⟨g10, 0, none⟩) 40 c10)).run Try.prog w' = .ok (.string (strOf (D.crash left).now)) w' ∧ (convert 27 9 (.slice (some ⟨g9, 0, none⟩) 40 c9)).run Try.prog w' = .ok (.string (strOf (D.crash left).now)) w' ∧ (convert 27 9 (.slice (some ⟨g3, 0, none⟩) 40 c3)).run Try.prog w' = .ok (.string (strOf (D.crash left).now)) w' ∧ True) (fun _ h => h.2) _ _ _ _ ?_
      replace hHeld : (convert 27 9 (.slice (some ⟨g10, 0, none⟩) 40 c10)).run Try.prog w10 = .ok (.string (strOf (D.crash left).now)) w10 ∧ (convert 27 9 (.slice (some ⟨g9, 0, none⟩) 40 c9)).run Try.prog w10 = .ok (.string (strOf (D.crash left).now)) w10 ∧ (convert 27 9 (.slice (some ⟨g3, 0, none⟩) 40 c3)).run Try.prog w10 = .ok (.string (strOf (D.crash left).now)) w10 ∧ True := ⟨HR18.out.str, HR21.out.str, HR20.out.str, trivial⟩
      refine z_take 9 (v := ?_) rfl (by kernel_rfl) (by kernel_rfl) (by kernel_rfl) (by kernel_rfl) (fun _ _ _ h => h) hHeld (by rfl) (fun w hSw => ?_) ?_
      rotate_left
      · obtain ⟨hSw1, hSw2, hSw3, hSw4⟩ := hSw; simp only [List.getElem_toArray, List.getElem_cons_zero, List.getElem_cons_succ]; go_simp; try rfl
      simp only [Act.put, List.getElem_toArray, List.getElem_cons_zero, List.getElem_cons_succ, List.setIfInBounds_toArray, List.set_cons_zero, List.set_cons_succ]
      refine z_take 12 (v := ?_) rfl (by kernel_rfl) (by kernel_rfl) (by kernel_rfl) (by kernel_rfl) (fun _ _ _ h => h) hHeld (by rfl) (fun w hSw => ?_) ?_
      rotate_left
      · obtain ⟨hSw1, hSw2, hSw3, hSw4⟩ := hSw; simp only [List.getElem_toArray, List.getElem_cons_zero, List.getElem_cons_succ]; go_simp; try rfl
      simp only [Act.put, List.getElem_toArray, List.getElem_cons_zero, List.getElem_cons_succ, List.setIfInBounds_toArray, List.set_cons_zero, List.set_cons_succ]
      refine z_take 13 (v := ?_) rfl (by kernel_rfl) (by kernel_rfl) (by kernel_rfl) (by kernel_rfl) (fun _ _ _ h => h) hHeld (by rfl) (fun w hSw => ?_) ?_
      rotate_left
      · obtain ⟨hSw1, hSw2, hSw3, hSw4⟩ := hSw; simp only [List.getElem_toArray, List.getElem_cons_zero, List.getElem_cons_succ]; go_simp; try rfl
      simp only [Act.put, List.getElem_toArray, List.getElem_cons_zero, List.getElem_cons_succ, List.setIfInBounds_toArray, List.set_cons_zero, List.set_cons_succ]
      refine z_take 14 (v := ?_) rfl (by kernel_rfl) (by kernel_rfl) (by kernel_rfl) (by kernel_rfl) (fun _ _ _ h => h) hHeld (by rfl) (fun w hSw => ?_) ?_
      rotate_left
      · obtain ⟨hSw1, hSw2, hSw3, hSw4⟩ := hSw; simp only [List.getElem_toArray, List.getElem_cons_zero, List.getElem_cons_succ]; go_simp; try rfl
      simp only [Act.put, List.getElem_toArray, List.getElem_cons_zero, List.getElem_cons_succ, List.setIfInBounds_toArray, List.set_cons_zero, List.set_cons_succ]
      refine z_take 15 (v := ?_) rfl (by kernel_rfl) (by kernel_rfl) (by kernel_rfl) (by kernel_rfl) (fun _ _ _ h => h) hHeld (by rfl) (fun w hSw => ?_) ?_
      rotate_left
      · obtain ⟨hSw1, hSw2, hSw3, hSw4⟩ := hSw; simp only [List.getElem_toArray, List.getElem_cons_zero, List.getElem_cons_succ]; go_simp; try rfl
      simp only [Act.put, List.getElem_toArray, List.getElem_cons_zero, List.getElem_cons_succ, List.setIfInBounds_toArray, List.set_cons_zero, List.set_cons_succ]
      refine z_one 16 rfl (by kernel_rfl) (by rfl) (fun K hK => ?_)
      simp only [List.getElem_toArray, List.getElem_cons_zero, List.getElem_cons_succ]
      go_simp
      refine (loose_any y (D.crash left).opened G _ H19.out.r.disk).mono ?_
      rintro e _ ⟨rfl, rfl⟩
      refine hK _ _ (Or.inr ?_) (fun hHeld => ?_)
      · exact ⟨HR18.out.str, HR21.out.str, HR20.out.str, trivial⟩
      clear hK K
      replace hHeld := hHeld.resolve_left (by decide)
      try simp only [Act.put, List.setIfInBounds_toArray, List.set_cons_zero, List.set_cons_succ]
      have h0 : ((D.crash left).opened.lo.length : Int) = 0 := rfl
      rw [h0]
      clear h0
      refine z_take 17 (v := ?_) rfl (by kernel_rfl) (by kernel_rfl) (by kernel_rfl) (by kernel_rfl) (fun _ _ _ h => h) hHeld (by rfl) (fun w hSw => ?_) ?_
      rotate_left
      · obtain ⟨hSw1, hSw2, hSw3, hSw4⟩ := hSw; simp only [List.getElem_toArray, List.getElem_cons_zero, List.getElem_cons_succ]; go_simp; try rfl
      simp only [Act.put, List.getElem_toArray, List.getElem_cons_zero, List.getElem_cons_succ, List.setIfInBounds_toArray, List.set_cons_zero, List.set_cons_succ]
      refine z_take 18 (v := ?_) rfl (by kernel_rfl) (by kernel_rfl) (by kernel_rfl) (by kernel_rfl) (fun _ _ _ h => h) hHeld (by rfl) (fun w hSw => ?_) ?_
      rotate_left
      · obtain ⟨hSw1, hSw2, hSw3, hSw4⟩ := hSw; simp only [List.getElem_toArray, List.getElem_cons_zero, List.getElem_cons_succ]; go_simp; try rfl
      simp only [Act.put, List.getElem_toArray, List.getElem_cons_zero, List.getElem_cons_succ, List.setIfInBounds_toArray, List.set_cons_zero, List.set_cons_succ]
      refine z_take 19 (v := ?_) rfl (by kernel_rfl) (by kernel_rfl) (by kernel_rfl) (by kernel_rfl) (fun _ _ _ h => h) hHeld (by rfl) (fun w hSw => ?_) ?_
      rotate_left
      · obtain ⟨hSw1, hSw2, hSw3, hSw4⟩ := hSw; simp only [List.getElem_toArray, List.getElem_cons_zero, List.getElem_cons_succ]; go_simp; try rfl
      simp only [Act.put, List.getElem_toArray, List.getElem_cons_zero, List.getElem_cons_succ, List.setIfInBounds_toArray, List.set_cons_zero, List.set_cons_succ]
      refine z_take 20 (v := ?_) rfl (by kernel_rfl) (by kernel_rfl) (by kernel_rfl) (by kernel_rfl) (fun _ _ _ h => h) hHeld (by rfl) (fun w hSw => ?_) ?_
      rotate_left
      · obtain ⟨hSw1, hSw2, hSw3, hSw4⟩ := hSw; simp only [List.getElem_toArray, List.getElem_cons_zero, List.getElem_cons_succ]; go_simp; try rfl
      simp only [Act.put, List.getElem_toArray, List.getElem_cons_zero, List.getElem_cons_succ, List.setIfInBounds_toArray, List.set_cons_zero, List.set_cons_succ]
      refine z_one 21 rfl (by kernel_rfl) (by rfl) (fun K hK => ?_)
      simp only [List.getElem_toArray, List.getElem_cons_zero, List.getElem_cons_succ]
      go_simp
      refine (size_any y (D.crash left).opened G _ H19.out.r.disk).mono ?_
      rintro e _ ⟨rfl, rfl⟩
      refine hK _ _ (Or.inr ?_) (fun hHeld => ?_)
      · exact ⟨HR18.out.str, HR21.out.str, HR20.out.str, trivial⟩
      clear hK K
      replace hHeld := hHeld.resolve_left (by decide)
      try simp only [Act.put, List.setIfInBounds_toArray, List.set_cons_zero, List.set_cons_succ]
      rw [HOP.out, HLEN.out]
      refine z_take 22 (v := ?_) rfl (by kernel_rfl) (by kernel_rfl) (by kernel_rfl) (by kernel_rfl) (fun _ _ _ h => h) hHeld (by rfl) (fun w hSw => ?_) ?_
      rotate_left
      · obtain ⟨hSw1, hSw2, hSw3, hSw4⟩ := hSw; simp only [List.getElem_toArray, List.getElem_cons_zero, List.getElem_cons_succ]; go_simp; try rfl
      simp only [Act.put, List.getElem_toArray, List.getElem_cons_zero, List.getElem_cons_succ, List.setIfInBounds_toArray, List.set_cons_zero, List.set_cons_succ]
      refine z_take 23 (v := ?_) rfl (by kernel_rfl) (by kernel_rfl) (by kernel_rfl) (by kernel_rfl) (fun _ _ _ h => h) hHeld (by rfl) (fun w hSw => ?_) ?_
      rotate_left
      · obtain ⟨hSw1, hSw2, hSw3, hSw4⟩ := hSw; simp only [List.getElem_toArray, List.getElem_cons_zero, List.getElem_cons_succ]; go_simp; try rfl
      simp only [Act.put, List.getElem_toArray, List.getElem_cons_zero, List.getElem_cons_succ, List.setIfInBounds_toArray, List.set_cons_zero, List.set_cons_succ]
      refine z_take 24 (v := ?_) rfl (by kernel_rfl) (by kernel_rfl) (by kernel_rfl) (by kernel_rfl) (fun _ _ _ h => h) hHeld (by rfl) (fun w hSw => ?_) ?_
      rotate_left
      · obtain ⟨hSw1, hSw2, hSw3, hSw4⟩ := hSw; simp only [List.getElem_toArray, List.getElem_cons_zero, List.getElem_cons_succ]; go_simp; try rfl
      simp only [Act.put, List.getElem_toArray, List.getElem_cons_zero, List.getElem_cons_succ, List.setIfInBounds_toArray, List.set_cons_zero, List.set_cons_succ]
      refine z_one 25 rfl (by kernel_rfl) (by rfl) (fun K hK => ?_)
      simp only [List.getElem_toArray, List.getElem_cons_zero, List.getElem_cons_succ]
      go_simp
      refine (lives_any _).mono ?_
      rintro e w11 ⟨rfl, hk⟩
      have H22 := Lib.hid (H19.out.quiet hk)
      have HR23 := Lib.hid (HR20.out.quiet hk)
      have HR24 := Lib.hid (HR21.out.quiet hk)
      have HR25 := Lib.hid (HR18.out.quiet hk)
      clear hk
      refine hK _ _ (Or.inr ?_) (fun hHeld => ?_)
      · exact ⟨HR25.out.str, HR24.out.str, HR23.out.str, trivial⟩
      clear hK K
      replace hHeld := hHeld.resolve_left (by decide)
      try simp only [Act.put, List.setIfInBounds_toArray, List.set_cons_zero, List.set_cons_succ]
      refine z_take 26 (v := ?_) rfl (by kernel_rfl) (by kernel_rfl) (by kernel_rfl) (by kernel_rfl) (fun _ _ _ h => h) hHeld (by rfl) (fun w hSw => ?_) ?_
      rotate_left
      · obtain ⟨hSw1, hSw2, hSw3, hSw4⟩ := hSw; simp only [List.getElem_toArray, List.getElem_cons_zero, List.getElem_cons_succ]; go_simp; try rfl
      simp only [Act.put, List.getElem_toArray, List.getElem_cons_zero, List.getElem_cons_succ, List.setIfInBounds_toArray, List.set_cons_zero, List.set_cons_succ]
      refine z_one 27 rfl (by kernel_rfl) (by rfl) (fun K hK => ?_)
      simp only [List.getElem_toArray, List.getElem_cons_zero, List.getElem_cons_succ]
      go_simp
      refine hK _ _ (Or.inr ?_) (fun hHeld => ?_)
      · exact hHeld
      clear hK K
      replace hHeld := hHeld.resolve_left (by decide)
      try simp only [Act.put, List.setIfInBounds_toArray, List.set_cons_zero, List.set_cons_succ]
      refine z_done (by kernel_rfl) ?_ _
      go_wp2
      go_ret
      exact ⟨rfl, H22.out.l.below⟩
end Go.Proofs.Ytllfiplhfbbhaaa
