/-
  The walk of the law DiskAll: it returns true, and nothing that was there has turned. Conditions: the arguments are as Go has them.
-/
import Derived.Test.YtllfiplhfbbhaaaPlain28
import Derived.Test.YtllfiplhfbbhaaaRegion
namespace Go.Proofs.Ytllfiplhfbbhaaa
open Go.RowKit
attribute [local go_sem ↓] Go.wp_at_zero Go.wp_at_succ

set_option maxHeartbeats 2000000 in
theorem diskAll_walk (la : Option Addr) (b off len cap : Nat) (zs : List Int) (more : Int) (w : World) (hl : zs.length = len) (hlen : len ≤ 9223372036854775807) (hla : 0 < len → la = some ⟨b, off, none⟩)
    (hsrc : ∀ j z, zs[j]? = some z → w.cell? ⟨b, off + j, none⟩ = some (.int .i64 z)) (hwf : ∀ z ∈ zs, -9223372036854775808 ≤ z ∧ z ≤ 9223372036854775807) (hm1 : -9223372036854775808 ≤ more) (hm2 : more ≤ 9223372036854775807) :
    Calls Try.prog 7 #[.slice la len cap, .int .i64 more] w fun e w' => e = .returned (.bool true) ∧ Below w.heap.size w w' := by
  have HL := Lib.hid (And.intro hl (And.intro hla (And.intro hsrc hwf)))
  clear hl hla hsrc hwf
  have hg := playD_good zs
  have kc := fun (w : World) (C : Array Value) (n c : Nat) => Lib.run_convert_bytes_const (P := Try.prog) w 27 5 C n c Try.underlying27 Try.underlying5
  go_enter Try.func7, Try.ntmps7
  go_wp2_with fail
  obtain ⟨hl, hla, hsrc, hwf⟩ := HL.out
  refine (played_any la b off len cap zs w hl hlen hla hsrc hwf).mono ?_
  rintro e w1 ⟨x, F, rfl, hd, hk, hF⟩
  have h1 : One w w1 x (playD ((zs.take 20).map mkAct)) F := ⟨hd, hk, hF⟩
  have H1 := Lib.hid h1
  clear hd hk hF h1 hl hla hsrc hwf
  go_wp2_with fail
  obtain ⟨hl, hla, hsrc, hwf⟩ := HL.out
  refine (played_any la b off len cap zs w1 hl hlen hla (fun j z hz => (H1.out.keep.cell (World.block_lt_of_cell? w _ (hsrc j z hz)) (fun h => h)).trans (hsrc j z hz)) hwf).mono ?_
  rintro e w2 ⟨y, G, rfl, hd, hk, hG⟩
  have h2 := Two.mk' H1.out hd hk hG
  have H2 := Lib.hid h2
  clear hd hk hG h2 hl hla hsrc hwf HL H1
  generalize playD ((zs.take 20).map mkAct) = D at *
  have HG := Lib.hid hg
  clear hg
  go_wp2_with fail
  refine (raw_any x D F _ H2.out.l.disk (by rw [HG.out.ok.len]; omega)).mono ?_
  rintro e w3 ⟨g, cw, rfl, hown, hk⟩
  rw [HG.out.ok.len] at hown
  rw [HG.out.ok.len]
  have HR : Hid (Row w3 (.slice (some ⟨g, 0, none⟩) 40 cw) 40 D.now (fun k => F k ∨ G k)) := Row.mk' hown (fun k hk' => by rcases hk' with h | h; exact H2.out.l.disk.foot_lt k h; exact H2.out.r.disk.foot_lt k h)
  have H3 := Lib.hid (H2.out.quiet hk)
  clear hown hk H2
  go_wp2_with fail
  refine (around_any more 100 _ hm1 hm2 (by omega) (by omega)).mono ?_
  rintro e w3' ⟨rfl, rfl⟩
  have hkb := around_pos more 100 (by omega)
  generalize around more 100 = k at *
  obtain ⟨hk0, hk1⟩ := hkb
  have hlo : D.lo.length ≤ 220 := HG.out.ok.lo
  have hw1 : IntKind.i64.wrap ((D.lo.length : Int) + k) = (D.lo.length : Int) + k := IntWalk.i64_in _ (by omega)
  go_wp2_with fail
  refine z_begin (fun w' => (convert 27 9 (.slice (some ⟨g, 0, none⟩) 40 cw)).run Try.prog w' = .ok (.string (strOf D.now)) w') 15 (by kernel_rfl) (HR.out.quiet ((Keeps.refl _ _).drew) |>.str) (fun hHeld => ?_)
  refine z_take 0 (v := ?_) rfl (by kernel_rfl) (by kernel_rfl) (by kernel_rfl) (by kernel_rfl) (fun _ _ _ h => h) hHeld (by rfl) (fun w hSw => ?_) ?_
  rotate_left
  · have hSw1 := hSw; clear hSw; simp only [List.getElem_toArray, List.getElem_cons_zero]; go_simp; try rfl
  simp only [Act.put, List.getElem_toArray, List.getElem_cons_zero, List.setIfInBounds_toArray, List.set_cons_zero, List.set_cons_succ]
  refine z_take 1 (v := ?_) rfl (by kernel_rfl) (by kernel_rfl) (by kernel_rfl) (by kernel_rfl) (fun _ _ _ h => h) hHeld (by rfl) (fun w hSw => ?_) ?_
  rotate_left
  · have hSw1 := hSw; clear hSw; simp only [List.getElem_toArray, List.getElem_cons_zero, List.getElem_cons_succ]; go_simp; try rfl
  simp only [Act.put, List.getElem_toArray, List.getElem_cons_zero, List.getElem_cons_succ, List.setIfInBounds_toArray, List.set_cons_zero, List.set_cons_succ]
  refine z_take 3 (v := ?_) rfl (by kernel_rfl) (by kernel_rfl) (by kernel_rfl) (by kernel_rfl) (fun _ _ _ h => h) hHeld (by rfl) (fun w hSw => ?_) ?_
  rotate_left
  · have hSw1 := hSw; clear hSw; simp only [List.getElem_toArray, List.getElem_cons_zero, List.getElem_cons_succ]; go_simp; try rfl
  simp only [Act.put, List.getElem_toArray, List.getElem_cons_zero, List.getElem_cons_succ, List.setIfInBounds_toArray, List.set_cons_zero, List.set_cons_succ]
  refine z_one 2 rfl (by kernel_rfl) (by rfl) (fun K hK => ?_)
  simp only [List.getElem_toArray, List.getElem_cons_zero, List.getElem_cons_succ]
  go_simp
  refine (loose_any x D F _ (H3.out.l.quiet (Keeps.refl _ _).drew).disk).mono ?_
  rintro e w4 ⟨rfl, rfl⟩
  refine hK _ _ (Or.inr ?_) (fun hHeld => ?_)
  · exact hHeld
  clear hK K
  replace hHeld := hHeld.resolve_left (by decide)
  try simp only [Act.put, List.setIfInBounds_toArray, List.set_cons_zero, List.set_cons_succ]
  refine z_take 4 (v := ?_) rfl (by kernel_rfl) (by kernel_rfl) (by kernel_rfl) (by kernel_rfl) (fun _ _ _ h => h) hHeld (by rfl) (fun w hSw => ?_) ?_
  rotate_left
  · have hSw1 := hSw; clear hSw; simp only [List.getElem_toArray, List.getElem_cons_zero, List.getElem_cons_succ]; go_simp; try rfl
  simp only [Act.put, List.getElem_toArray, List.getElem_cons_zero, List.getElem_cons_succ, List.setIfInBounds_toArray, List.set_cons_zero, List.set_cons_succ]
  refine z_one 5 rfl (by kernel_rfl) (by rfl) (fun K hK => ?_)
  simp only [List.getElem_toArray, List.getElem_cons_zero, List.getElem_cons_succ]
  go_simp
  refine (crash_ok x _ D F _ (H3.out.l.quiet (Keeps.refl _ _).drew).disk HG.out.ok.up (by omega) (by rw [HG.out.ok.len]; exact HG.out.ok.at_)).mono ?_
  rintro e w5 ⟨rfl, F5, hd, hk, hs⟩
  have H5 := Lib.hid (Two.left (H3.out.quiet (Keeps.refl _ _).drew) hd hk hs)
  have HR5 : Hid (Row w5 (.slice (some ⟨g, 0, none⟩) 40 cw) 40 D.now (fun k => F5 k ∨ G k)) := (HR.out.quiet (Keeps.refl _ _).drew).step (hk.mono (fun _ _ h => Or.inl h)) (fun k h => by rcases h with h | h; exact (hs k h).imp Or.inl id; exact Or.inl (Or.inr h))
  clear hd hk hs
  refine hK _ _ (Or.inr ?_) (fun hHeld => ?_)
  · exact HR5.out.str
  clear hK K
  replace hHeld := hHeld.resolve_left (by decide)
  try simp only [Act.put, List.setIfInBounds_toArray, List.set_cons_zero, List.set_cons_succ]
  refine z_take 6 (v := ?_) rfl (by kernel_rfl) (by kernel_rfl) (by kernel_rfl) (by kernel_rfl) (fun _ _ _ h => h) hHeld (by rfl) (fun w hSw => ?_) ?_
  rotate_left
  · have hSw1 := hSw; clear hSw; simp only [List.getElem_toArray, List.getElem_cons_zero, List.getElem_cons_succ]; go_simp; try rfl
  simp only [Act.put, List.getElem_toArray, List.getElem_cons_zero, List.getElem_cons_succ, List.setIfInBounds_toArray, List.set_cons_zero, List.set_cons_succ]
  refine z_take 7 (v := ?_) rfl (by kernel_rfl) (by kernel_rfl) (by kernel_rfl) (by kernel_rfl) (fun _ _ _ h => h) hHeld (by rfl) (fun w hSw => ?_) ?_
  rotate_left
  · have hSw1 := hSw; clear hSw; simp only [List.getElem_toArray, List.getElem_cons_zero, List.getElem_cons_succ]; go_simp; try rfl
  simp only [Act.put, List.getElem_toArray, List.getElem_cons_zero, List.getElem_cons_succ, List.setIfInBounds_toArray, List.set_cons_zero, List.set_cons_succ]
  refine z_take 8 (v := ?_) rfl (by kernel_rfl) (by kernel_rfl) (by kernel_rfl) (by kernel_rfl) (fun _ _ _ h => h) hHeld (by rfl) (fun w hSw => ?_) ?_
  rotate_left
  · have hSw1 := hSw; clear hSw; simp only [List.getElem_toArray, List.getElem_cons_zero, List.getElem_cons_succ]; go_simp; try rfl
  simp only [Act.put, List.getElem_toArray, List.getElem_cons_zero, List.getElem_cons_succ, List.setIfInBounds_toArray, List.set_cons_zero, List.set_cons_succ]
  refine z_take 11 (v := ?_) rfl (by kernel_rfl) (by kernel_rfl) (by kernel_rfl) (by kernel_rfl) (fun _ _ _ h => h) hHeld (by rfl) (fun w hSw => ?_) ?_
  rotate_left
  · have hSw1 := hSw; clear hSw; simp only [List.getElem_toArray, List.getElem_cons_zero, List.getElem_cons_succ]; go_simp; try rfl
  simp only [Act.put, List.getElem_toArray, List.getElem_cons_zero, List.getElem_cons_succ, List.setIfInBounds_toArray, List.set_cons_zero, List.set_cons_succ]
  refine z_take 12 (v := ?_) rfl (by kernel_rfl) (by kernel_rfl) (by kernel_rfl) (by kernel_rfl) (fun _ _ _ h => h) hHeld (by rfl) (fun w hSw => ?_) ?_
  rotate_left
  · have hSw1 := hSw; clear hSw; simp only [List.getElem_toArray, List.getElem_cons_zero, List.getElem_cons_succ]; go_simp; try rfl
  simp only [Act.put, List.getElem_toArray, List.getElem_cons_zero, List.getElem_cons_succ, List.setIfInBounds_toArray, List.set_cons_zero, List.set_cons_succ]
  have hlc : (D.crash ((D.lo.length : Int) + k)).now = D.now := left_all D HG.out.full _ (by unfold leftNat; omega)
  have HLC := Lib.hid hlc
  clear hlc
  refine z_one 9 rfl (by kernel_rfl) (by rfl) (fun K hK => ?_)
  simp only [List.getElem_toArray, List.getElem_cons_zero, List.getElem_cons_succ]
  go_simp
  refine (raw_any x _ F5 _ H5.out.l.disk (by rw [HLC.out, HG.out.ok.len]; omega)).mono ?_
  rintro e w6 ⟨g6, c6, rfl, hown, hk⟩
  rw [HLC.out, HG.out.ok.len] at hown
  rw [HLC.out, HG.out.ok.len]
  have H6 := Lib.hid (H5.out.quiet hk)
  have HR6 := Lib.hid (HR5.out.quiet hk)
  have hst6 := run_str hown
  clear hown hk
  refine hK _ _ (Or.inr ?_) (fun hHeld => ?_)
  · exact HR6.out.str
  clear hK K
  replace hHeld := hHeld.resolve_left (by decide)
  try simp only [Act.put, List.setIfInBounds_toArray, List.set_cons_zero, List.set_cons_succ]
  refine z_one 10 rfl (by kernel_rfl) (by rfl) (fun K hK => ?_)
  simp only [List.getElem_toArray, List.getElem_cons_zero, List.getElem_cons_succ]
  go_simp
  refine hK _ _ (Or.inr ?_) (fun hHeld => ?_)
  · exact hHeld
  clear hK K
  replace hHeld := hHeld.resolve_left (by decide)
  try simp only [Act.put, List.setIfInBounds_toArray, List.set_cons_zero, List.set_cons_succ]
  refine z_one 13 rfl (by kernel_rfl) (by rfl) (fun K hK => ?_)
  simp only [List.getElem_toArray, List.getElem_cons_zero, List.getElem_cons_succ]
  go_simp
  refine hK _ _ (Or.inr ?_) (fun hHeld => ?_)
  · exact hHeld
  clear hK K
  replace hHeld := hHeld.resolve_left (by decide)
  try simp only [Act.put, List.setIfInBounds_toArray, List.set_cons_zero, List.set_cons_succ]
  refine z_one 14 rfl (by kernel_rfl) (by rfl) (fun K hK => ?_)
  simp only [List.getElem_toArray, List.getElem_cons_zero, List.getElem_cons_succ]
  go_simp
  refine hK _ _ (Or.inr ?_) (fun hHeld => ?_)
  · exact hHeld
  clear hK K
  replace hHeld := hHeld.resolve_left (by decide)
  try simp only [Act.put, List.setIfInBounds_toArray, List.set_cons_zero, List.set_cons_succ]
  refine z_done (by kernel_rfl) ?_ _
  clear hst6
  go_wp2_with fail
  refine (sync_ok y D G _ H6.out.r.disk HG.out.ok.up).mono ?_
  rintro e w7 ⟨rfl, G7, hd, hk, hs⟩
  have H7 := Lib.hid (H6.out.right hd hk hs)
  have HR7 : Hid (Row w7 (.slice (some ⟨g, 0, none⟩) 40 cw) 40 D.now (fun k => F5 k ∨ G7 k)) := HR6.out.step (hk.mono (fun _ _ h => Or.inr h)) (fun k h => by rcases h with h | h; exact Or.inl (Or.inl h); exact (hs k h).imp Or.inr id)
  clear hd hk hs
  go_wp2_with fail
  refine (loose_any y D.sync G7 _ H7.out.r.disk).mono ?_
  rintro e w7' ⟨rfl, rfl⟩
  have h0 : (D.sync.lo.length : Int) = 0 := rfl
  rw [h0]
  clear h0
  go_wp2_with fail
  refine (write_ok y 3 [97, 98, 99] 3 _ w7.heap.size 0 3 D.sync G7 _ (H7.out.r.quiet ((Keeps.refl _ w7).alloc _)).disk HG.out.ok.up rfl (fun _ => rfl) (lit_src w7 [97, 98, 99] (3, 4)) (fun _ hf => Nat.lt_irrefl _ (H7.out.r.disk.foot_lt _ hf)) (by show _ ≤ D.now.length; rw [HG.out.ok.len]; omega) (by show D.now.length ≤ _; rw [HG.out.ok.len]; omega) (Nat.zero_le _)).mono ?_
  rintro e w8 ⟨rfl, G8, hd, hk, hs⟩
  have H8 := Lib.hid ((H7.out.quiet ((Keeps.refl _ w7).alloc _)).right hd hk hs)
  have HR8 : Hid (Row w8 (.slice (some ⟨g, 0, none⟩) 40 cw) 40 D.now (fun k => F5 k ∨ G8 k)) := (HR7.out.quiet ((Keeps.refl _ w7).alloc _)).step (hk.mono (fun _ _ h => Or.inr h)) (fun k h => by rcases h with h | h; exact Or.inl (Or.inl h); exact (hs k h).imp Or.inr id)
  clear hd hk hs
  go_wp2_with fail
  have ho8 : (D.sync.write 3 [97, 98, 99]).Ok 40 (0 + 3) := write_okD (sync_okD HG.out.ok) (by decide)
  have HO8 := Lib.hid ho8
  clear ho8
  refine (crash_ok y (-k) (D.sync.write 3 [97, 98, 99]) G8 _ H8.out.r.disk HO8.out.up (by have := HO8.out.lo; omega) (by rw [HO8.out.len]; exact HO8.out.at_)).mono ?_
  rintro e w9 ⟨rfl, G9, hd, hk, hs⟩
  have H9 := Lib.hid (H8.out.right hd hk hs)
  have HR9 : Hid (Row w9 (.slice (some ⟨g, 0, none⟩) 40 cw) 40 D.now (fun k => F5 k ∨ G9 k)) := HR8.out.step (hk.mono (fun _ _ h => Or.inr h)) (fun k h => by rcases h with h | h; exact Or.inl (Or.inl h); exact (hs k h).imp Or.inr id)
  clear hd hk hs
  have hln : ((D.sync.write 3 [97, 98, 99]).crash (-k)).now = D.now := by
    show (D.sync.write 3 [97, 98, 99]).left (leftNat (-k) _) = _
    rw [show leftNat (-k) (D.sync.write 3 [97, 98, 99]).lo.length = 0 by unfold leftNat; omega]
    rfl
  have HLN := Lib.hid hln
  clear hln
  go_wp2_with fail
  refine z_begin (fun w' => (convert 27 9 (.slice (some ⟨g, 0, none⟩) 40 cw)).run Try.prog w' = .ok (.string (strOf D.now)) w') 10 (by kernel_rfl) ((HR9.out.quiet ((Keeps.refl _ _).drew)).str) (fun hHeld => ?_)
  refine z_take 0 (v := ?_) rfl (by kernel_rfl) (by kernel_rfl) (by kernel_rfl) (by kernel_rfl) (fun _ _ _ h => h) hHeld (by rfl) (fun w hSw => ?_) ?_
  rotate_left
  · have hSw1 := hSw; clear hSw; simp only [List.getElem_toArray, List.getElem_cons_zero]; go_simp; try rfl
  simp only [Act.put, List.getElem_toArray, List.getElem_cons_zero, List.setIfInBounds_toArray, List.set_cons_zero, List.set_cons_succ]
  refine z_take 3 (v := ?_) rfl (by kernel_rfl) (by kernel_rfl) (by kernel_rfl) (by kernel_rfl) (fun _ _ _ h => h) hHeld (by rfl) (fun w hSw => ?_) ?_
  rotate_left
  · have hSw1 := hSw; clear hSw; simp only [List.getElem_toArray, List.getElem_cons_zero, List.getElem_cons_succ]; go_simp; try rfl
  simp only [Act.put, List.getElem_toArray, List.getElem_cons_zero, List.getElem_cons_succ, List.setIfInBounds_toArray, List.set_cons_zero, List.set_cons_succ]
  refine z_take 4 (v := ?_) rfl (by kernel_rfl) (by kernel_rfl) (by kernel_rfl) (by kernel_rfl) (fun _ _ _ h => h) hHeld (by rfl) (fun w hSw => ?_) ?_
  rotate_left
  · have hSw1 := hSw; clear hSw; simp only [List.getElem_toArray, List.getElem_cons_zero, List.getElem_cons_succ]; go_simp; try rfl
  simp only [Act.put, List.getElem_toArray, List.getElem_cons_zero, List.getElem_cons_succ, List.setIfInBounds_toArray, List.set_cons_zero, List.set_cons_succ]
  refine z_one 1 rfl (by kernel_rfl) (by rfl) (fun K hK => ?_)
  simp only [List.getElem_toArray, List.getElem_cons_zero, List.getElem_cons_succ]
  go_simp
  refine (raw_any y _ G9 _ (H9.out.r.quiet (Keeps.refl _ _).drew).disk (by rw [HLN.out, HG.out.ok.len]; omega)).mono ?_
  rintro e w10 ⟨g10, c10, rfl, hown, hk⟩
  rw [HLN.out, HG.out.ok.len] at hown
  rw [HLN.out, HG.out.ok.len]
  have H10 := Lib.hid ((H9.out.quiet (Keeps.refl _ _).drew).quiet hk)
  have HR10 := Lib.hid ((HR9.out.quiet (Keeps.refl _ _).drew).quiet hk)
  have hst10 := run_str hown
  clear hown hk
  refine hK _ _ (Or.inr ?_) (fun hHeld => ?_)
  · exact HR10.out.str
  clear hK K
  replace hHeld := hHeld.resolve_left (by decide)
  try simp only [Act.put, List.setIfInBounds_toArray, List.set_cons_zero, List.set_cons_succ]
  refine z_one 2 rfl (by kernel_rfl) (by rfl) (fun K hK => ?_)
  simp only [List.getElem_toArray, List.getElem_cons_zero, List.getElem_cons_succ]
  go_simp
  refine hK _ _ (Or.inr ?_) (fun hHeld => ?_)
  · exact hHeld
  clear hK K
  replace hHeld := hHeld.resolve_left (by decide)
  try simp only [Act.put, List.setIfInBounds_toArray, List.set_cons_zero, List.set_cons_succ]
  refine z_take 5 (v := ?_) rfl (by kernel_rfl) (by kernel_rfl) (by kernel_rfl) (by kernel_rfl) (fun _ _ _ h => h) hHeld (by rfl) (fun w hSw => ?_) ?_
  rotate_left
  · have hSw1 := hSw; clear hSw; simp only [List.getElem_toArray, List.getElem_cons_zero, List.getElem_cons_succ]; go_simp; try rfl
  simp only [Act.put, List.getElem_toArray, List.getElem_cons_zero, List.getElem_cons_succ, List.setIfInBounds_toArray, List.set_cons_zero, List.set_cons_succ]
  refine z_take 6 (v := ?_) rfl (by kernel_rfl) (by kernel_rfl) (by kernel_rfl) (by kernel_rfl) (fun _ _ _ h => h) hHeld (by rfl) (fun w hSw => ?_) ?_
  rotate_left
  · have hSw1 := hSw; clear hSw; simp only [List.getElem_toArray, List.getElem_cons_zero, List.getElem_cons_succ]; go_simp; try rfl
  simp only [Act.put, List.getElem_toArray, List.getElem_cons_zero, List.getElem_cons_succ, List.setIfInBounds_toArray, List.set_cons_zero, List.set_cons_succ]
  refine z_one 7 rfl (by kernel_rfl) (by rfl) (fun K hK => ?_)
  simp only [List.getElem_toArray, List.getElem_cons_zero, List.getElem_cons_succ]
  go_simp
  refine (lives_any _).mono ?_
  rintro e w11 ⟨rfl, hk⟩
  have H11 := Lib.hid (H10.out.quiet hk)
  have HR11 := Lib.hid (HR10.out.quiet hk)
  clear hk hst10
  refine hK _ _ (Or.inr ?_) (fun hHeld => ?_)
  · exact HR11.out.str
  clear hK K
  replace hHeld := hHeld.resolve_left (by decide)
  try simp only [Act.put, List.setIfInBounds_toArray, List.set_cons_zero, List.set_cons_succ]
  refine z_take 8 (v := ?_) rfl (by kernel_rfl) (by kernel_rfl) (by kernel_rfl) (by kernel_rfl) (fun _ _ _ h => h) hHeld (by rfl) (fun w hSw => ?_) ?_
  rotate_left
  · have hSw1 := hSw; clear hSw; simp only [List.getElem_toArray, List.getElem_cons_zero, List.getElem_cons_succ]; go_simp; try rfl
  simp only [Act.put, List.getElem_toArray, List.getElem_cons_zero, List.getElem_cons_succ, List.setIfInBounds_toArray, List.set_cons_zero, List.set_cons_succ]
  refine z_one 9 rfl (by kernel_rfl) (by rfl) (fun K hK => ?_)
  simp only [List.getElem_toArray, List.getElem_cons_zero, List.getElem_cons_succ]
  go_simp
  refine hK _ _ (Or.inr ?_) (fun hHeld => ?_)
  · exact hHeld
  clear hK K
  replace hHeld := hHeld.resolve_left (by decide)
  try simp only [Act.put, List.setIfInBounds_toArray, List.set_cons_zero, List.set_cons_succ]
  refine z_done (by kernel_rfl) ?_ _
  go_wp2
  go_ret
  exact ⟨rfl, H11.out.l.below⟩
end Go.Proofs.Ytllfiplhfbbhaaa
