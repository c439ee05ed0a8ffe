/-
  The walk of the law DiskOver: it returns true, and nothing that was there has turned. Conditions: the arguments are as Go has them.
-/
import Derived.Test.YtllfiplhfbbhaaaPlain28
import Derived.Test.YtllfiplhfbbhaaaRegion
namespace Go.Proofs.Ytllfiplhfbbhaaa
open Go.RowKit
attribute [local go_sem ↓] Go.wp_at_zero Go.wp_at_succ

/-- What holds at the head of each round of the law's own loop. -/
def OvRel (w3 : World) (ga : Nat) (bs : List UInt8) (m : Nat) (i : Value) (wr : World) : Prop :=
  ∃ k : Nat, k ≤ m ∧ i = .int .i64 k ∧ wr.ownsRow 0 5 1 (.slice (some ⟨ga, 0, none⟩) 40 40) 40 (BV (overL bs k)) ∧ Keeps (fun j => j = ga) w3 wr

set_option maxHeartbeats 4000000 in
set_option maxRecDepth 100000 in
theorem diskOver_walk (la : Option Addr) (b off len cap : Nat) (zs : List Int) (lb : Option Addr) (b2 off2 len2 cap2 : Nat) (zs2 : List Int) (sa : Option Addr) (lenb capb : Nat) (bs : List UInt8) (left : Int) (w : World) (hl : zs.length = len) (hlen : len ≤ 9223372036854775807) (hla : 0 < len → la = some ⟨b, off, none⟩) (hsrc : ∀ j z, zs[j]? = some z → w.cell? ⟨b, off + j, none⟩ = some (.int .i64 z)) (hwf : ∀ z ∈ zs, -9223372036854775808 ≤ z ∧ z ≤ 9223372036854775807) (hl2 : zs2.length = len2) (hlen2 : len2 ≤ 9223372036854775807) (hla2 : 0 < len2 → lb = some ⟨b2, off2, none⟩) (hsrc2 : ∀ j z, zs2[j]? = some z → w.cell? ⟨b2, off2 + j, none⟩ = some (.int .i64 z)) (hwf2 : ∀ z ∈ zs2, -9223372036854775808 ≤ z ∧ z ≤ 9223372036854775807) (hbl : bs.length = lenb) (hbc : lenb ≤ capb) (hbm : capb ≤ 9223372036854775807) (hbn : sa = none → lenb = 0 ∧ capb = 0) (hbs : ∀ ad, sa = some ad → ∀ (j : Nat) (u : Value), (BV bs)[j]? = some u → w.cell? (ad.add j) = some u) :
    Calls Try.prog 8 #[.slice la len cap, .slice lb len2 cap2, .slice sa lenb capb, .int .i64 left] w fun e w' => e = .returned (.bool true) ∧ Below w.heap.size w w' := by
  have HL := Lib.hid (And.intro hl (And.intro hla (And.intro hsrc hwf)))
  have HL2 := Lib.hid (And.intro hl2 (And.intro hla2 (And.intro hsrc2 hwf2)))
  have HBS := Lib.hid (And.intro hbl (And.intro hbn hbs))
  clear hl hla hsrc hwf hl2 hla2 hsrc2 hwf2 hbl hbn hbs
  have hg := playD_good zs
  have hg2 := playD_good zs2
  have hmk : ∀ u : World, (Instr.makeSlice 27 (.int .i64 40) (.int .i64 40)).run Try.prog u = .ok (.slice (some ⟨u.heap.size, 0, none⟩) 40 40) (u.alloc (.cells (madeCells #[.int .u8 0] 40) 5)) := fun u => by
    obtain ⟨i0, hi, hz0, hz1, hz2⟩ := info_parts infoByte
    have h := run_make (P := Try.prog) u 27 5 i0 (.int .u8 0) Try.underlying27 hi hz0 .i64 .i64 40 40 (by omega) (Int.le_refl _) (by rw [hz2]; omega) (by omega)
    simpa [hz1, Value.cells] using h
  go_enter Try.func8, Try.ntmps8
  go_wp2_with fail
  obtain ⟨hl, hla, hsrc, hwf⟩ := HL.out
  refine (played_any la b off len cap zs w hl hlen hla hsrc hwf).mono ?_
  rintro e w1 ⟨x, F, rfl, hd, hk, hF⟩
  have H0 : Hid (One w w1 x (playD ((zs.take 20).map mkAct)) F) := ⟨hd, hk, hF⟩
  clear hd hk hF hl hla hsrc hwf
  go_wp2_with fail
  obtain ⟨hl, hla, hsrc, hwf⟩ := HL2.out
  refine (played_any lb b2 off2 len2 cap2 zs2 w1 hl hlen2 hla (fun j z hz => (H0.out.keep.cell (World.block_lt_of_cell? w _ (hsrc j z hz)) (fun h => h)).trans (hsrc j z hz)) hwf).mono ?_
  rintro e w2 ⟨y, G, rfl, hd, hk, hG⟩
  have H00 := Lib.hid (Two.mk' H0.out hd hk hG)
  clear hd hk hG hl hla hsrc hwf HL HL2 H0
  generalize playD ((zs.take 20).map mkAct) = D at *
  generalize playD ((zs2.take 20).map mkAct) = E at *
  have HG := Lib.hid hg
  have HG2 := Lib.hid hg2
  clear hg hg2
  go_wp2_with fail
  obtain ⟨w3, hw3⟩ : ∃ w3, w3 = w2.alloc (.cells (madeCells #[.int .u8 0] 40) 5) := ⟨_, rfl⟩
  rw [← hw3]
  have hk3 : Keeps (fun _ => False) w2 w3 := by rw [hw3]; exact (Keeps.refl _ w2).alloc _
  have hrow3 : w3.ownsRow 0 5 1 (.slice (some ⟨w2.heap.size, 0, none⟩) 40 40) 40 (BV (overL bs 0)) := by rw [hw3]; exact owns_zeros _ _ 40 (heap_alloc_new w2 _) (by omega)
  have HL3 : Hid (w2.heap.size < w3.heap.size) := by show _ < _; rw [hw3]; simp
  generalize hga : w2.heap.size = ga at *
  have HGA := Lib.hid hga
  have HR3 := Lib.hid hrow3
  have H3 := Lib.hid (H00.out.quiet hk3)
  clear hga hrow3 hk3 hw3
  obtain ⟨mm, hmm⟩ : ∃ mm, min lenb 40 = mm := ⟨_, rfl⟩
  have hmm1 : mm ≤ lenb := by omega
  have hmm2 : mm ≤ 40 := by omega
  have HMM := Lib.hid hmm
  clear hmm
  go_loopw [12] (fun i wr => OvRel w3 ga bs mm i wr) (fun i _ => mm - (intOf i).toNat)
  case atStart => exact ⟨0, Nat.zero_le _, rfl, HR3.out, Keeps.refl _ _⟩
  case round =>
    obtain ⟨k, hk, rfl, hrow, hkp⟩ := hrel
    have HB := Lib.hid (And.intro hrow hkp)
    clear hrow hkp
    by_cases hlt : k < mm
    · obtain ⟨hbl, hbn, hbs⟩ := HBS.out
      obtain ⟨c, hc⟩ : ∃ c, bs[k]? = some c := ⟨_, List.getElem?_eq_getElem (by omega)⟩
      obtain ⟨bb, bo, rfl, hba⟩ := bytes_addr hbl (fun h => (hbn h).1) hbs (by omega)
      have hcw := hba k c hc
      have hbw : bb < w.heap.size := World.block_lt_of_cell? w _ hcw
      have c1 : wr.cell? ⟨bb, bo + k, none⟩ = some (.int .u8 c.toNat) := (HB.out.2.cell (p := ⟨bb, bo + k, none⟩) (Nat.lt_of_lt_of_le hbw H3.out.l.keep.size) (fun e => by have h1 := HGA.out; have h2 := H00.out.l.keep.size; simp only at e; omega)).trans ((H3.out.l.keep.cell (p := ⟨bb, bo + k, none⟩) hbw (fun h => h)).trans hcw)
      have hoc := HB.out.1.cellAt k (by omega)
      rw [List.getElem?_eq_getElem (by rw [BV_length, overL_len _ _ (by omega) (by omega)]; omega)] at hoc
      have hof := HB.out.1.frozenAt k
      generalize (BV (overL bs k))[k]'(by rw [BV_length, overL_len _ _ (by omega) (by omega)]; omega) = vold at hoc
      have HS : Hid (OvRel w3 ga bs mm (.int .i64 ((k + 1 : Nat) : Int)) (wr.setCell ⟨ga, k, none⟩ (.int .u8 c.toNat))) := by
        have hst := (HB.out.1.stored k (.int .u8 c.toNat)).1
        refine ⟨k + 1, by omega, rfl, ?_, Keeps.setCell (F := fun j => j = ga) HB.out.2 (p := ⟨ga, k, none⟩) (fun _ => rfl) _⟩
        have e : (BV (overL bs k)).set k (.int .u8 c.toNat) = BV (overL bs (k + 1)) := by rw [← overL_set bs k c hc (by omega)]; simp [BV, List.map_set]
        rw [e] at hst
        exact hst
      clear hbl hbn hbs hba hcw hc hbw
      have t1 : (k : Int) < (lenb : Int) := by omega
      have t2 : (k : Int) < 40 := by omega
      have t3 : k < lenb := by omega
      go_wp2
      go_roundw
      case rel => exact HS.out
      case measure => simp [intOf]; omega
    · obtain rfl : k = mm := by omega
      by_cases hkl : k < lenb
      · have t3 : (k : Int) < (lenb : Int) := by omega
        have t4 : ¬ (k : Int) < 40 := by have := HMM.out; omega
        obtain ⟨A, hA⟩ : ∃ A, A = overL bs k := ⟨_, rfl⟩
        have HAL : Hid (A.length = 40) := by show _ = _; rw [hA]; exact overL_len _ _ (by rw [HBS.out.1]; omega) (by omega)
        have HRall : Hid (Row wr (.slice (some ⟨ga, 0, none⟩) 40 40) 40 A (fun k => F k ∨ G k)) := ⟨by rw [hA]; exact HB.out.1, fun j e hf => by
          simp [Value.ownBlock] at e
          have h1 := HGA.out
          rcases hf with hf | hf
          · have := H00.out.l.disk.foot_lt j hf; omega
          · have := H00.out.r.disk.foot_lt j hf; omega⟩
        have H4 : Hid (Two w wr x D F y E G) := H3.out.touch (fun j => j = ga) HB.out.2 (fun j hj => by have h1 := HGA.out; have h2 := H00.out.l.keep.size; omega) (fun j hf e => by have h1 := HGA.out; have := H00.out.l.disk.foot_lt j hf; omega) (fun j hf e => by have h1 := HGA.out; have := H00.out.r.disk.foot_lt j hf; omega)
        clear hA HB
        have HO1 : Hid ((D.write 0 A).Ok 40 (220 + A.length)) := write_okD HG.out.ok (by rw [HAL.out]; omega)
        have HO2 : Hid ((E.write 0 A).Ok 40 (220 + A.length)) := write_okD HG2.out.ok (by rw [HAL.out]; omega)
        have HN1 : Hid ((D.write 0 A).sync.now = A) := over_now D A 40 HG.out.ok.len HAL.out
        have HN2 : Hid ((E.write 0 A).sync.now = A) := over_now E A 40 HG2.out.ok.len HAL.out
        have HC1 : Hid (((D.write 0 A).sync.crash left).now = A) := (left_nil ((D.write 0 A).sync) _ rfl).trans HN1.out
        have HC2 : Hid (((E.write 0 A).sync.crash 0).now = A) := (left_nil ((E.write 0 A).sync) _ rfl).trans HN2.out
        go_wp2_with fail
        refine (write_ok x 0 A 40 _ ga 0 40 D F _ H4.out.l.disk HG.out.ok.up HAL.out (fun _ => rfl) (fun j c hc => by rw [Nat.zero_add]; exact own_cell HRall.out.own j _ (by rw [BV_get, hc]; rfl)) (fun _ hf => HRall.out.ap ga rfl (Or.inl hf)) (by rw [HG.out.ok.len]; omega) (by rw [HG.out.ok.len]; omega) (by have := HG.out.ok.lo; omega)).mono ?_
        rintro e w4 ⟨rfl, F4, hd, hk, hs⟩
        have H1 := Lib.hid (H4.out.left hd hk hs)
        have HR2 : Hid (Row w4 (.slice (some ⟨ga, 0, none⟩) 40 40) 40 A (fun k => F4 k ∨ G k)) := HRall.out.step (hk.mono (fun _ _ h => Or.inl h)) (fun k h => by rcases h with h | h; exact (hs k h).imp Or.inl id; exact Or.inl (Or.inr h))
        clear hd hk hs
        go_wp2_with fail
        refine (write_ok y 0 A 40 _ ga 0 40 E G _ H1.out.r.disk HG2.out.ok.up HAL.out (fun _ => rfl) (fun j c hc => by rw [Nat.zero_add]; exact own_cell HR2.out.own j _ (by rw [BV_get, hc]; rfl)) (fun _ hf => HR2.out.ap ga rfl (Or.inr hf)) (by rw [HG2.out.ok.len]; omega) (by rw [HG2.out.ok.len]; omega) (by have := HG2.out.ok.lo; omega)).mono ?_
        rintro e w5 ⟨rfl, F5, hd, hk, hs⟩
        have H3 := Lib.hid (H1.out.right hd hk hs)
        have HR4 : Hid (Row w5 (.slice (some ⟨ga, 0, none⟩) 40 40) 40 A (fun k => F4 k ∨ F5 k)) := HR2.out.step (hk.mono (fun _ _ h => Or.inr h)) (fun k h => by rcases h with h | h; exact Or.inl (Or.inl h); exact (hs k h).imp Or.inr id)
        clear hd hk hs
        go_wp2_with fail
        refine (sync_ok x (D.write 0 A) F4 _ H3.out.l.disk HO1.out.up).mono ?_
        rintro e w6 ⟨rfl, F6, hd, hk, hs⟩
        have H5 := Lib.hid (H3.out.left hd hk hs)
        have HR6 : Hid (Row w6 (.slice (some ⟨ga, 0, none⟩) 40 40) 40 A (fun k => F6 k ∨ F5 k)) := HR4.out.step (hk.mono (fun _ _ h => Or.inl h)) (fun k h => by rcases h with h | h; exact (hs k h).imp Or.inl id; exact Or.inl (Or.inr h))
        clear hd hk hs
        go_wp2_with fail
        refine (sync_ok y (E.write 0 A) F5 _ H5.out.r.disk HO2.out.up).mono ?_
        rintro e w7 ⟨rfl, F7, hd, hk, hs⟩
        have H7 := Lib.hid (H5.out.right hd hk hs)
        have HR8 : Hid (Row w7 (.slice (some ⟨ga, 0, none⟩) 40 40) 40 A (fun k => F6 k ∨ F7 k)) := HR6.out.step (hk.mono (fun _ _ h => Or.inr h)) (fun k h => by rcases h with h | h; exact Or.inl (Or.inl h); exact (hs k h).imp Or.inr id)
        clear hd hk hs
        go_wp2_with fail
        have H9 := Lib.hid (H7.out.quiet (Keeps.refl _ _).drew)
        have HR10 := Lib.hid (HR8.out.quiet (Keeps.refl _ _).drew)
        refine z_begin (fun w' => (convert 27 9 (.slice (some ⟨ga, 0, none⟩) 40 40)).run Try.prog w' = .ok (.string (strOf A)) w' ∧ True) 15 (by kernel_rfl) (⟨HR10.out.str, trivial⟩) (fun hHeld => ?_)
        refine z_take 0 (v := ?_) rfl (by kernel_rfl) (by kernel_rfl) (by kernel_rfl) (by kernel_rfl) (fun _ _ _ h => h) hHeld (by rfl) (fun w hSw => ?_) ?_
        rotate_left
        · obtain ⟨hSw1, hSw2⟩ := hSw; simp only [List.getElem_toArray, List.getElem_cons_zero]; go_simp; try rfl
        simp only [Act.put, List.getElem_toArray, List.getElem_cons_zero, List.setIfInBounds_toArray, List.set_cons_zero, List.set_cons_succ]
        refine z_take 3 (v := ?_) rfl (by kernel_rfl) (by kernel_rfl) (by kernel_rfl) (by kernel_rfl) (fun _ _ _ h => h) hHeld (by rfl) (fun w hSw => ?_) ?_
        rotate_left
        · obtain ⟨hSw1, hSw2⟩ := hSw; simp only [List.getElem_toArray, List.getElem_cons_zero, List.getElem_cons_succ]; go_simp; try rfl
        simp only [Act.put, List.getElem_toArray, List.getElem_cons_zero, List.getElem_cons_succ, List.setIfInBounds_toArray, List.set_cons_zero, List.set_cons_succ]
        refine z_take 4 (v := ?_) rfl (by kernel_rfl) (by kernel_rfl) (by kernel_rfl) (by kernel_rfl) (fun _ _ _ h => h) hHeld (by rfl) (fun w hSw => ?_) ?_
        rotate_left
        · obtain ⟨hSw1, hSw2⟩ := hSw; simp only [List.getElem_toArray, List.getElem_cons_zero, List.getElem_cons_succ]; go_simp; try rfl
        simp only [Act.put, List.getElem_toArray, List.getElem_cons_zero, List.getElem_cons_succ, List.setIfInBounds_toArray, List.set_cons_zero, List.set_cons_succ]
        refine z_one 1 rfl (by kernel_rfl) (by rfl) (fun K hK => ?_)
        simp only [List.getElem_toArray, List.getElem_cons_zero, List.getElem_cons_succ]
        go_simp
        refine (raw_any x _ F6 _ H9.out.l.disk (by rw [HN1.out, HAL.out]; omega)).mono ?_
        rintro e w8 ⟨g8, c8, rfl, hown, hk⟩
        rw [HN1.out] at hown
        rw [HN1.out]
        rw [HAL.out] at hown
        rw [HAL.out]
        have HR11 : Hid (Row w8 (.slice (some ⟨g8, 0, none⟩) 40 c8) 40 A (fun k => F6 k ∨ F7 k)) := Row.mk' hown (fun k hk' => by rcases hk' with h | h; exact H9.out.l.disk.foot_lt k h; exact H9.out.r.disk.foot_lt k h)
        have H12 := Lib.hid (H9.out.quiet hk)
        have HR13 := Lib.hid (HR10.out.quiet hk)
        clear hown hk
        refine hK _ _ (Or.inr ?_) (fun hHeld => ?_)
        · exact ⟨HR13.out.str, trivial⟩
        clear hK K
        replace hHeld := hHeld.resolve_left (by decide)
        try simp only [Act.put, List.setIfInBounds_toArray, List.set_cons_zero, List.set_cons_succ]
        refine z_more (fun w' => (convert 27 9 (.slice (some ⟨g8, 0, none⟩) 40 c8)).run Try.prog w' = .ok (.string (strOf A)) w' ∧ (convert 27 9 (.slice (some ⟨ga, 0, none⟩) 40 40)).run Try.prog w' = .ok (.string (strOf A)) w' ∧ True) (fun _ h => h.2) _ _ _ _ ?_
        replace hHeld : (convert 27 9 (.slice (some ⟨g8, 0, none⟩) 40 c8)).run Try.prog w8 = .ok (.string (strOf A)) w8 ∧ (convert 27 9 (.slice (some ⟨ga, 0, none⟩) 40 40)).run Try.prog w8 = .ok (.string (strOf A)) w8 ∧ True := ⟨HR11.out.str, HR13.out.str, trivial⟩
        refine z_take 2 (v := ?_) rfl (by kernel_rfl) (by kernel_rfl) (by kernel_rfl) (by kernel_rfl) (fun _ _ _ h => h) hHeld (by rfl) (fun w hSw => ?_) ?_
        rotate_left
        · obtain ⟨hSw1, hSw2, hSw3⟩ := hSw; simp only [List.getElem_toArray, List.getElem_cons_zero, List.getElem_cons_succ]; go_simp; try rfl
        simp only [Act.put, List.getElem_toArray, List.getElem_cons_zero, List.getElem_cons_succ, List.setIfInBounds_toArray, List.set_cons_zero, List.set_cons_succ]
        refine z_take 5 (v := ?_) rfl (by kernel_rfl) (by kernel_rfl) (by kernel_rfl) (by kernel_rfl) (fun _ _ _ h => h) hHeld (by rfl) (fun w hSw => ?_) ?_
        rotate_left
        · obtain ⟨hSw1, hSw2, hSw3⟩ := hSw; simp only [List.getElem_toArray, List.getElem_cons_zero, List.getElem_cons_succ]; go_simp; try rfl
        simp only [Act.put, List.getElem_toArray, List.getElem_cons_zero, List.getElem_cons_succ, List.setIfInBounds_toArray, List.set_cons_zero, List.set_cons_succ]
        refine z_take 6 (v := ?_) rfl (by kernel_rfl) (by kernel_rfl) (by kernel_rfl) (by kernel_rfl) (fun _ _ _ h => h) hHeld (by rfl) (fun w hSw => ?_) ?_
        rotate_left
        · obtain ⟨hSw1, hSw2, hSw3⟩ := hSw; simp only [List.getElem_toArray, List.getElem_cons_zero, List.getElem_cons_succ]; go_simp; try rfl
        simp only [Act.put, List.getElem_toArray, List.getElem_cons_zero, List.getElem_cons_succ, List.setIfInBounds_toArray, List.set_cons_zero, List.set_cons_succ]
        refine z_take 7 (v := ?_) rfl (by kernel_rfl) (by kernel_rfl) (by kernel_rfl) (by kernel_rfl) (fun _ _ _ h => h) hHeld (by rfl) (fun w hSw => ?_) ?_
        rotate_left
        · obtain ⟨hSw1, hSw2, hSw3⟩ := hSw; simp only [List.getElem_toArray, List.getElem_cons_zero, List.getElem_cons_succ]; go_simp; try rfl
        simp only [Act.put, List.getElem_toArray, List.getElem_cons_zero, List.getElem_cons_succ, List.setIfInBounds_toArray, List.set_cons_zero, List.set_cons_succ]
        refine z_take 10 (v := ?_) rfl (by kernel_rfl) (by kernel_rfl) (by kernel_rfl) (by kernel_rfl) (fun _ _ _ h => h) hHeld (by rfl) (fun w hSw => ?_) ?_
        rotate_left
        · obtain ⟨hSw1, hSw2, hSw3⟩ := hSw; simp only [List.getElem_toArray, List.getElem_cons_zero, List.getElem_cons_succ]; go_simp; try rfl
        simp only [Act.put, List.getElem_toArray, List.getElem_cons_zero, List.getElem_cons_succ, List.setIfInBounds_toArray, List.set_cons_zero, List.set_cons_succ]
        refine z_take 11 (v := ?_) rfl (by kernel_rfl) (by kernel_rfl) (by kernel_rfl) (by kernel_rfl) (fun _ _ _ h => h) hHeld (by rfl) (fun w hSw => ?_) ?_
        rotate_left
        · obtain ⟨hSw1, hSw2, hSw3⟩ := hSw; simp only [List.getElem_toArray, List.getElem_cons_zero, List.getElem_cons_succ]; go_simp; try rfl
        simp only [Act.put, List.getElem_toArray, List.getElem_cons_zero, List.getElem_cons_succ, List.setIfInBounds_toArray, List.set_cons_zero, List.set_cons_succ]
        refine z_one 8 rfl (by kernel_rfl) (by rfl) (fun K hK => ?_)
        simp only [List.getElem_toArray, List.getElem_cons_zero, List.getElem_cons_succ]
        go_simp
        refine (raw_any y _ F7 _ H12.out.r.disk (by rw [HN2.out, HAL.out]; omega)).mono ?_
        rintro e w9 ⟨g9, c9, rfl, hown, hk⟩
        rw [HN2.out] at hown
        rw [HN2.out]
        rw [HAL.out] at hown
        rw [HAL.out]
        have HR14 : Hid (Row w9 (.slice (some ⟨g9, 0, none⟩) 40 c9) 40 A (fun k => F6 k ∨ F7 k)) := Row.mk' hown (fun k hk' => by rcases hk' with h | h; exact H12.out.l.disk.foot_lt k h; exact H12.out.r.disk.foot_lt k h)
        have H15 := Lib.hid (H12.out.quiet hk)
        have HR16 := Lib.hid (HR13.out.quiet hk)
        have HR17 := Lib.hid (HR11.out.quiet hk)
        clear hown hk
        refine hK _ _ (Or.inr ?_) (fun hHeld => ?_)
        · exact ⟨HR17.out.str, HR16.out.str, trivial⟩
        clear hK K
        replace hHeld := hHeld.resolve_left (by decide)
        try simp only [Act.put, List.setIfInBounds_toArray, List.set_cons_zero, List.set_cons_succ]
        refine z_more (fun w' => (convert 27 9 (.slice (some ⟨g9, 0, none⟩) 40 c9)).run Try.prog w' = .ok (.string (strOf A)) w' ∧ (convert 27 9 (.slice (some ⟨g8, 0, none⟩) 40 c8)).run Try.prog w' = .ok (.string (strOf A)) w' ∧ (convert 27 9 (.slice (some ⟨ga, 0, none⟩) 40 40)).run Try.prog w' = .ok (.string (strOf A)) w' ∧ True) (fun _ h => h.2) _ _ _ _ ?_
        replace hHeld : (convert 27 9 (.slice (some ⟨g9, 0, none⟩) 40 c9)).run Try.prog w9 = .ok (.string (strOf A)) w9 ∧ (convert 27 9 (.slice (some ⟨g8, 0, none⟩) 40 c8)).run Try.prog w9 = .ok (.string (strOf A)) w9 ∧ (convert 27 9 (.slice (some ⟨ga, 0, none⟩) 40 40)).run Try.prog w9 = .ok (.string (strOf A)) w9 ∧ True := ⟨HR14.out.str, HR17.out.str, HR16.out.str, trivial⟩
        refine z_take 9 (v := ?_) rfl (by kernel_rfl) (by kernel_rfl) (by kernel_rfl) (by kernel_rfl) (fun _ _ _ h => h) hHeld (by rfl) (fun w hSw => ?_) ?_
        rotate_left
        · obtain ⟨hSw1, hSw2, hSw3, hSw4⟩ := hSw; simp only [List.getElem_toArray, List.getElem_cons_zero, List.getElem_cons_succ]; go_simp; try rfl
        simp only [Act.put, List.getElem_toArray, List.getElem_cons_zero, List.getElem_cons_succ, List.setIfInBounds_toArray, List.set_cons_zero, List.set_cons_succ]
        refine z_take 12 (v := ?_) rfl (by kernel_rfl) (by kernel_rfl) (by kernel_rfl) (by kernel_rfl) (fun _ _ _ h => h) hHeld (by rfl) (fun w hSw => ?_) ?_
        rotate_left
        · obtain ⟨hSw1, hSw2, hSw3, hSw4⟩ := hSw; simp only [List.getElem_toArray, List.getElem_cons_zero, List.getElem_cons_succ]; go_simp; try rfl
        simp only [Act.put, List.getElem_toArray, List.getElem_cons_zero, List.getElem_cons_succ, List.setIfInBounds_toArray, List.set_cons_zero, List.set_cons_succ]
        refine z_one 13 rfl (by kernel_rfl) (by rfl) (fun K hK => ?_)
        simp only [List.getElem_toArray, List.getElem_cons_zero, List.getElem_cons_succ]
        go_simp
        refine hK _ _ (Or.inr ?_) (fun hHeld => ?_)
        · exact hHeld
        clear hK K
        replace hHeld := hHeld.resolve_left (by decide)
        try simp only [Act.put, List.setIfInBounds_toArray, List.set_cons_zero, List.set_cons_succ]
        refine z_done (by kernel_rfl) ?_ _
        go_wp2_with fail
        have H18 := Lib.hid (H15.out.quiet (Keeps.refl _ _).drew)
        refine z_begin (fun w' => True) 23 (by kernel_rfl) (trivial) (fun hHeld => ?_)
        refine z_take 0 (v := ?_) rfl (by kernel_rfl) (by kernel_rfl) (by kernel_rfl) (by kernel_rfl) (fun _ _ _ h => h) hHeld (by rfl) (fun w hSw => ?_) ?_
        rotate_left
        · have hSw1 := hSw; clear hSw; simp only [List.getElem_toArray, List.getElem_cons_zero]; go_simp; try rfl
        simp only [Act.put, List.getElem_toArray, List.getElem_cons_zero, List.setIfInBounds_toArray, List.set_cons_zero, List.set_cons_succ]
        refine z_take 1 (v := ?_) rfl (by kernel_rfl) (by kernel_rfl) (by kernel_rfl) (by kernel_rfl) (fun _ _ _ h => h) hHeld (by rfl) (fun w hSw => ?_) ?_
        rotate_left
        · have hSw1 := hSw; clear hSw; simp only [List.getElem_toArray, List.getElem_cons_zero, List.getElem_cons_succ]; go_simp; try rfl
        simp only [Act.put, List.getElem_toArray, List.getElem_cons_zero, List.getElem_cons_succ, List.setIfInBounds_toArray, List.set_cons_zero, List.set_cons_succ]
        refine z_one 2 rfl (by kernel_rfl) (by rfl) (fun K hK => ?_)
        simp only [List.getElem_toArray, List.getElem_cons_zero, List.getElem_cons_succ]
        go_simp
        refine (crash_ok x left ((D.write 0 A).sync) F6 _ H18.out.l.disk HO1.out.up (Nat.zero_le _) (fun x hx => by cases hx)).mono ?_
        rintro e w10 ⟨rfl, F10, hd, hk, hs⟩
        have H19 := Lib.hid (H18.out.left hd hk hs)
        clear hd hk hs
        refine hK _ _ (Or.inr ?_) (fun hHeld => ?_)
        · exact trivial
        clear hK K
        replace hHeld := hHeld.resolve_left (by decide)
        try simp only [Act.put, List.setIfInBounds_toArray, List.set_cons_zero, List.set_cons_succ]
        refine z_take 3 (v := ?_) rfl (by kernel_rfl) (by kernel_rfl) (by kernel_rfl) (by kernel_rfl) (fun _ _ _ h => h) hHeld (by rfl) (fun w hSw => ?_) ?_
        rotate_left
        · have hSw1 := hSw; clear hSw; simp only [List.getElem_toArray, List.getElem_cons_zero, List.getElem_cons_succ]; go_simp; try rfl
        simp only [Act.put, List.getElem_toArray, List.getElem_cons_zero, List.getElem_cons_succ, List.setIfInBounds_toArray, List.set_cons_zero, List.set_cons_succ]
        refine z_take 4 (v := ?_) rfl (by kernel_rfl) (by kernel_rfl) (by kernel_rfl) (by kernel_rfl) (fun _ _ _ h => h) hHeld (by rfl) (fun w hSw => ?_) ?_
        rotate_left
        · have hSw1 := hSw; clear hSw; simp only [List.getElem_toArray, List.getElem_cons_zero, List.getElem_cons_succ]; go_simp; try rfl
        simp only [Act.put, List.getElem_toArray, List.getElem_cons_zero, List.getElem_cons_succ, List.setIfInBounds_toArray, List.set_cons_zero, List.set_cons_succ]
        refine z_take 5 (v := ?_) rfl (by kernel_rfl) (by kernel_rfl) (by kernel_rfl) (by kernel_rfl) (fun _ _ _ h => h) hHeld (by rfl) (fun w hSw => ?_) ?_
        rotate_left
        · have hSw1 := hSw; clear hSw; simp only [List.getElem_toArray, List.getElem_cons_zero, List.getElem_cons_succ]; go_simp; try rfl
        simp only [Act.put, List.getElem_toArray, List.getElem_cons_zero, List.getElem_cons_succ, List.setIfInBounds_toArray, List.set_cons_zero, List.set_cons_succ]
        refine z_one 6 rfl (by kernel_rfl) (by rfl) (fun K hK => ?_)
        simp only [List.getElem_toArray, List.getElem_cons_zero, List.getElem_cons_succ]
        go_simp
        refine (crash_ok y 0 ((E.write 0 A).sync) F7 _ H19.out.r.disk HO2.out.up (Nat.zero_le _) (fun x hx => by cases hx)).mono ?_
        rintro e w11 ⟨rfl, F11, hd, hk, hs⟩
        have H20 := Lib.hid (H19.out.right hd hk hs)
        clear hd hk hs
        refine hK _ _ (Or.inr ?_) (fun hHeld => ?_)
        · exact trivial
        clear hK K
        replace hHeld := hHeld.resolve_left (by decide)
        try simp only [Act.put, List.setIfInBounds_toArray, List.set_cons_zero, List.set_cons_succ]
        refine z_take 7 (v := ?_) rfl (by kernel_rfl) (by kernel_rfl) (by kernel_rfl) (by kernel_rfl) (fun _ _ _ h => h) hHeld (by rfl) (fun w hSw => ?_) ?_
        rotate_left
        · have hSw1 := hSw; clear hSw; simp only [List.getElem_toArray, List.getElem_cons_zero, List.getElem_cons_succ]; go_simp; try rfl
        simp only [Act.put, List.getElem_toArray, List.getElem_cons_zero, List.getElem_cons_succ, List.setIfInBounds_toArray, List.set_cons_zero, List.set_cons_succ]
        refine z_take 8 (v := ?_) rfl (by kernel_rfl) (by kernel_rfl) (by kernel_rfl) (by kernel_rfl) (fun _ _ _ h => h) hHeld (by rfl) (fun w hSw => ?_) ?_
        rotate_left
        · have hSw1 := hSw; clear hSw; simp only [List.getElem_toArray, List.getElem_cons_zero, List.getElem_cons_succ]; go_simp; try rfl
        simp only [Act.put, List.getElem_toArray, List.getElem_cons_zero, List.getElem_cons_succ, List.setIfInBounds_toArray, List.set_cons_zero, List.set_cons_succ]
        refine z_take 9 (v := ?_) rfl (by kernel_rfl) (by kernel_rfl) (by kernel_rfl) (by kernel_rfl) (fun _ _ _ h => h) hHeld (by rfl) (fun w hSw => ?_) ?_
        rotate_left
        · have hSw1 := hSw; clear hSw; simp only [List.getElem_toArray, List.getElem_cons_zero, List.getElem_cons_succ]; go_simp; try rfl
        simp only [Act.put, List.getElem_toArray, List.getElem_cons_zero, List.getElem_cons_succ, List.setIfInBounds_toArray, List.set_cons_zero, List.set_cons_succ]
        refine z_take 10 (v := ?_) rfl (by kernel_rfl) (by kernel_rfl) (by kernel_rfl) (by kernel_rfl) (fun _ _ _ h => h) hHeld (by rfl) (fun w hSw => ?_) ?_
        rotate_left
        · have hSw1 := hSw; clear hSw; simp only [List.getElem_toArray, List.getElem_cons_zero, List.getElem_cons_succ]; go_simp; try rfl
        simp only [Act.put, List.getElem_toArray, List.getElem_cons_zero, List.getElem_cons_succ, List.setIfInBounds_toArray, List.set_cons_zero, List.set_cons_succ]
        refine z_take 13 (v := ?_) rfl (by kernel_rfl) (by kernel_rfl) (by kernel_rfl) (by kernel_rfl) (fun _ _ _ h => h) hHeld (by rfl) (fun w hSw => ?_) ?_
        rotate_left
        · have hSw1 := hSw; clear hSw; simp only [List.getElem_toArray, List.getElem_cons_zero, List.getElem_cons_succ]; go_simp; try rfl
        simp only [Act.put, List.getElem_toArray, List.getElem_cons_zero, List.getElem_cons_succ, List.setIfInBounds_toArray, List.set_cons_zero, List.set_cons_succ]
        refine z_one 11 rfl (by kernel_rfl) (by rfl) (fun K hK => ?_)
        simp only [List.getElem_toArray, List.getElem_cons_zero, List.getElem_cons_succ]
        go_simp
        refine (raw_any x _ F10 _ H20.out.l.disk (by rw [HC1.out, HAL.out]; omega)).mono ?_
        rintro e w12 ⟨g12, c12, rfl, hown, hk⟩
        rw [HC1.out] at hown
        rw [HC1.out]
        rw [HAL.out] at hown
        rw [HAL.out]
        have HR21 : Hid (Row w12 (.slice (some ⟨g12, 0, none⟩) 40 c12) 40 A (fun k => F10 k ∨ F11 k)) := Row.mk' hown (fun k hk' => by rcases hk' with h | h; exact H20.out.l.disk.foot_lt k h; exact H20.out.r.disk.foot_lt k h)
        have H22 := Lib.hid (H20.out.quiet hk)
        clear hown hk
        refine hK _ _ (Or.inr ?_) (fun hHeld => ?_)
        · exact trivial
        clear hK K
        replace hHeld := hHeld.resolve_left (by decide)
        try simp only [Act.put, List.setIfInBounds_toArray, List.set_cons_zero, List.set_cons_succ]
        refine z_more (fun w' => (convert 27 9 (.slice (some ⟨g12, 0, none⟩) 40 c12)).run Try.prog w' = .ok (.string (strOf A)) w' ∧ True) (fun _ h => h.2) _ _ _ _ ?_
        replace hHeld : (convert 27 9 (.slice (some ⟨g12, 0, none⟩) 40 c12)).run Try.prog w12 = .ok (.string (strOf A)) w12 ∧ True := ⟨HR21.out.str, trivial⟩
        refine z_take 12 (v := ?_) rfl (by kernel_rfl) (by kernel_rfl) (by kernel_rfl) (by kernel_rfl) (fun _ _ _ h => h) hHeld (by rfl) (fun w hSw => ?_) ?_
        rotate_left
        · obtain ⟨hSw1, hSw2⟩ := hSw; simp only [List.getElem_toArray, List.getElem_cons_zero, List.getElem_cons_succ]; go_simp; try rfl
        simp only [Act.put, List.getElem_toArray, List.getElem_cons_zero, List.getElem_cons_succ, List.setIfInBounds_toArray, List.set_cons_zero, List.set_cons_succ]
        refine z_one 14 rfl (by kernel_rfl) (by rfl) (fun K hK => ?_)
        simp only [List.getElem_toArray, List.getElem_cons_zero, List.getElem_cons_succ]
        go_simp
        refine (raw_any y _ F11 _ H22.out.r.disk (by rw [HC2.out, HAL.out]; omega)).mono ?_
        rintro e w13 ⟨g13, c13, rfl, hown, hk⟩
        rw [HC2.out] at hown
        rw [HC2.out]
        rw [HAL.out] at hown
        rw [HAL.out]
        have HR23 : Hid (Row w13 (.slice (some ⟨g13, 0, none⟩) 40 c13) 40 A (fun k => F10 k ∨ F11 k)) := Row.mk' hown (fun k hk' => by rcases hk' with h | h; exact H22.out.l.disk.foot_lt k h; exact H22.out.r.disk.foot_lt k h)
        have H24 := Lib.hid (H22.out.quiet hk)
        have HR25 := Lib.hid (HR21.out.quiet hk)
        clear hown hk
        refine hK _ _ (Or.inr ?_) (fun hHeld => ?_)
        · exact ⟨HR25.out.str, trivial⟩
        clear hK K
        replace hHeld := hHeld.resolve_left (by decide)
        try simp only [Act.put, List.setIfInBounds_toArray, List.set_cons_zero, List.set_cons_succ]
        refine z_more (fun w' => (convert 27 9 (.slice (some ⟨g13, 0, none⟩) 40 c13)).run Try.prog w' = .ok (.string (strOf A)) w' ∧ (convert 27 9 (.slice (some ⟨g12, 0, none⟩) 40 c12)).run Try.prog w' = .ok (.string (strOf A)) w' ∧ True) (fun _ h => h.2) _ _ _ _ ?_
        replace hHeld : (convert 27 9 (.slice (some ⟨g13, 0, none⟩) 40 c13)).run Try.prog w13 = .ok (.string (strOf A)) w13 ∧ (convert 27 9 (.slice (some ⟨g12, 0, none⟩) 40 c12)).run Try.prog w13 = .ok (.string (strOf A)) w13 ∧ True := ⟨HR23.out.str, HR25.out.str, trivial⟩
        refine z_take 15 (v := ?_) rfl (by kernel_rfl) (by kernel_rfl) (by kernel_rfl) (by kernel_rfl) (fun _ _ _ h => h) hHeld (by rfl) (fun w hSw => ?_) ?_
        rotate_left
        · obtain ⟨hSw1, hSw2, hSw3⟩ := hSw; simp only [List.getElem_toArray, List.getElem_cons_zero, List.getElem_cons_succ]; go_simp; try rfl
        simp only [Act.put, List.getElem_toArray, List.getElem_cons_zero, List.getElem_cons_succ, List.setIfInBounds_toArray, List.set_cons_zero, List.set_cons_succ]
        refine z_take 16 (v := ?_) rfl (by kernel_rfl) (by kernel_rfl) (by kernel_rfl) (by kernel_rfl) (fun _ _ _ h => h) hHeld (by rfl) (fun w hSw => ?_) ?_
        rotate_left
        · obtain ⟨hSw1, hSw2, hSw3⟩ := hSw; simp only [List.getElem_toArray, List.getElem_cons_zero, List.getElem_cons_succ]; go_simp; try rfl
        simp only [Act.put, List.getElem_toArray, List.getElem_cons_zero, List.getElem_cons_succ, List.setIfInBounds_toArray, List.set_cons_zero, List.set_cons_succ]
        refine z_take 17 (v := ?_) rfl (by kernel_rfl) (by kernel_rfl) (by kernel_rfl) (by kernel_rfl) (fun _ _ _ h => h) hHeld (by rfl) (fun w hSw => ?_) ?_
        rotate_left
        · obtain ⟨hSw1, hSw2, hSw3⟩ := hSw; simp only [List.getElem_toArray, List.getElem_cons_zero, List.getElem_cons_succ]; go_simp; try rfl
        simp only [Act.put, List.getElem_toArray, List.getElem_cons_zero, List.getElem_cons_succ, List.setIfInBounds_toArray, List.set_cons_zero, List.set_cons_succ]
        refine z_take 18 (v := ?_) rfl (by kernel_rfl) (by kernel_rfl) (by kernel_rfl) (by kernel_rfl) (fun _ _ _ h => h) hHeld (by rfl) (fun w hSw => ?_) ?_
        rotate_left
        · obtain ⟨hSw1, hSw2, hSw3⟩ := hSw; simp only [List.getElem_toArray, List.getElem_cons_zero, List.getElem_cons_succ]; go_simp; try rfl
        simp only [Act.put, List.getElem_toArray, List.getElem_cons_zero, List.getElem_cons_succ, List.setIfInBounds_toArray, List.set_cons_zero, List.set_cons_succ]
        refine z_one 19 rfl (by kernel_rfl) (by rfl) (fun K hK => ?_)
        simp only [List.getElem_toArray, List.getElem_cons_zero, List.getElem_cons_succ]
        go_simp
        refine (lives_any _).mono ?_
        rintro e w14 ⟨rfl, hk⟩
        have H26 := Lib.hid (H24.out.quiet hk)
        have HR27 := Lib.hid (HR25.out.quiet hk)
        have HR28 := Lib.hid (HR23.out.quiet hk)
        clear hk
        refine hK _ _ (Or.inr ?_) (fun hHeld => ?_)
        · exact ⟨HR28.out.str, HR27.out.str, trivial⟩
        clear hK K
        replace hHeld := hHeld.resolve_left (by decide)
        try simp only [Act.put, List.setIfInBounds_toArray, List.set_cons_zero, List.set_cons_succ]
        refine z_take 20 (v := ?_) rfl (by kernel_rfl) (by kernel_rfl) (by kernel_rfl) (by kernel_rfl) (fun _ _ _ h => h) hHeld (by rfl) (fun w hSw => ?_) ?_
        rotate_left
        · obtain ⟨hSw1, hSw2, hSw3⟩ := hSw; simp only [List.getElem_toArray, List.getElem_cons_zero, List.getElem_cons_succ]; go_simp; try rfl
        simp only [Act.put, List.getElem_toArray, List.getElem_cons_zero, List.getElem_cons_succ, List.setIfInBounds_toArray, List.set_cons_zero, List.set_cons_succ]
        refine z_one 21 rfl (by kernel_rfl) (by rfl) (fun K hK => ?_)
        simp only [List.getElem_toArray, List.getElem_cons_zero, List.getElem_cons_succ]
        go_simp
        refine hK _ _ (Or.inr ?_) (fun hHeld => ?_)
        · exact hHeld
        clear hK K
        replace hHeld := hHeld.resolve_left (by decide)
        try simp only [Act.put, List.setIfInBounds_toArray, List.set_cons_zero, List.set_cons_succ]
        refine z_done (by kernel_rfl) ?_ _
        go_wp2
        go_ret
        exact ⟨rfl, H26.out.l.below⟩
      · have t3 : ¬ (k : Int) < (lenb : Int) := by omega
        obtain ⟨A, hA⟩ : ∃ A, A = overL bs k := ⟨_, rfl⟩
        have HAL : Hid (A.length = 40) := by show _ = _; rw [hA]; exact overL_len _ _ (by rw [HBS.out.1]; omega) (by omega)
        have HRall : Hid (Row wr (.slice (some ⟨ga, 0, none⟩) 40 40) 40 A (fun k => F k ∨ G k)) := ⟨by rw [hA]; exact HB.out.1, fun j e hf => by
          simp [Value.ownBlock] at e
          have h1 := HGA.out
          rcases hf with hf | hf
          · have := H00.out.l.disk.foot_lt j hf; omega
          · have := H00.out.r.disk.foot_lt j hf; omega⟩
        have H4 : Hid (Two w wr x D F y E G) := H3.out.touch (fun j => j = ga) HB.out.2 (fun j hj => by have h1 := HGA.out; have h2 := H00.out.l.keep.size; omega) (fun j hf e => by have h1 := HGA.out; have := H00.out.l.disk.foot_lt j hf; omega) (fun j hf e => by have h1 := HGA.out; have := H00.out.r.disk.foot_lt j hf; omega)
        clear hA HB
        have HO1 : Hid ((D.write 0 A).Ok 40 (220 + A.length)) := write_okD HG.out.ok (by rw [HAL.out]; omega)
        have HO2 : Hid ((E.write 0 A).Ok 40 (220 + A.length)) := write_okD HG2.out.ok (by rw [HAL.out]; omega)
        have HN1 : Hid ((D.write 0 A).sync.now = A) := over_now D A 40 HG.out.ok.len HAL.out
        have HN2 : Hid ((E.write 0 A).sync.now = A) := over_now E A 40 HG2.out.ok.len HAL.out
        have HC1 : Hid (((D.write 0 A).sync.crash left).now = A) := (left_nil ((D.write 0 A).sync) _ rfl).trans HN1.out
        have HC2 : Hid (((E.write 0 A).sync.crash 0).now = A) := (left_nil ((E.write 0 A).sync) _ rfl).trans HN2.out
        go_wp2_with fail
        refine (write_ok x 0 A 40 _ ga 0 40 D F _ H4.out.l.disk HG.out.ok.up HAL.out (fun _ => rfl) (fun j c hc => by rw [Nat.zero_add]; exact own_cell HRall.out.own j _ (by rw [BV_get, hc]; rfl)) (fun _ hf => HRall.out.ap ga rfl (Or.inl hf)) (by rw [HG.out.ok.len]; omega) (by rw [HG.out.ok.len]; omega) (by have := HG.out.ok.lo; omega)).mono ?_
        rintro e w4 ⟨rfl, F4, hd, hk, hs⟩
        have H1 := Lib.hid (H4.out.left hd hk hs)
        have HR2 : Hid (Row w4 (.slice (some ⟨ga, 0, none⟩) 40 40) 40 A (fun k => F4 k ∨ G k)) := HRall.out.step (hk.mono (fun _ _ h => Or.inl h)) (fun k h => by rcases h with h | h; exact (hs k h).imp Or.inl id; exact Or.inl (Or.inr h))
        clear hd hk hs
        go_wp2_with fail
        refine (write_ok y 0 A 40 _ ga 0 40 E G _ H1.out.r.disk HG2.out.ok.up HAL.out (fun _ => rfl) (fun j c hc => by rw [Nat.zero_add]; exact own_cell HR2.out.own j _ (by rw [BV_get, hc]; rfl)) (fun _ hf => HR2.out.ap ga rfl (Or.inr hf)) (by rw [HG2.out.ok.len]; omega) (by rw [HG2.out.ok.len]; omega) (by have := HG2.out.ok.lo; omega)).mono ?_
        rintro e w5 ⟨rfl, F5, hd, hk, hs⟩
        have H3 := Lib.hid (H1.out.right hd hk hs)
        have HR4 : Hid (Row w5 (.slice (some ⟨ga, 0, none⟩) 40 40) 40 A (fun k => F4 k ∨ F5 k)) := HR2.out.step (hk.mono (fun _ _ h => Or.inr h)) (fun k h => by rcases h with h | h; exact Or.inl (Or.inl h); exact (hs k h).imp Or.inr id)
        clear hd hk hs
        go_wp2_with fail
        refine (sync_ok x (D.write 0 A) F4 _ H3.out.l.disk HO1.out.up).mono ?_
        rintro e w6 ⟨rfl, F6, hd, hk, hs⟩
        have H5 := Lib.hid (H3.out.left hd hk hs)
        have HR6 : Hid (Row w6 (.slice (some ⟨ga, 0, none⟩) 40 40) 40 A (fun k => F6 k ∨ F5 k)) := HR4.out.step (hk.mono (fun _ _ h => Or.inl h)) (fun k h => by rcases h with h | h; exact (hs k h).imp Or.inl id; exact Or.inl (Or.inr h))
        clear hd hk hs
        go_wp2_with fail
        refine (sync_ok y (E.write 0 A) F5 _ H5.out.r.disk HO2.out.up).mono ?_
        rintro e w7 ⟨rfl, F7, hd, hk, hs⟩
        have H7 := Lib.hid (H5.out.right hd hk hs)
        have HR8 : Hid (Row w7 (.slice (some ⟨ga, 0, none⟩) 40 40) 40 A (fun k => F6 k ∨ F7 k)) := HR6.out.step (hk.mono (fun _ _ h => Or.inr h)) (fun k h => by rcases h with h | h; exact Or.inl (Or.inl h); exact (hs k h).imp Or.inr id)
        clear hd hk hs
        go_wp2_with fail
        have H9 := Lib.hid (H7.out.quiet (Keeps.refl _ _).drew)
        have HR10 := Lib.hid (HR8.out.quiet (Keeps.refl _ _).drew)
        refine z_begin (fun w' => (convert 27 9 (.slice (some ⟨ga, 0, none⟩) 40 40)).run Try.prog w' = .ok (.string (strOf A)) w' ∧ True) 15 (by kernel_rfl) (⟨HR10.out.str, trivial⟩) (fun hHeld => ?_)
        refine z_take 0 (v := ?_) rfl (by kernel_rfl) (by kernel_rfl) (by kernel_rfl) (by kernel_rfl) (fun _ _ _ h => h) hHeld (by rfl) (fun w hSw => ?_) ?_
        rotate_left
        · obtain ⟨hSw1, hSw2⟩ := hSw; simp only [List.getElem_toArray, List.getElem_cons_zero]; go_simp; try rfl
        simp only [Act.put, List.getElem_toArray, List.getElem_cons_zero, List.setIfInBounds_toArray, List.set_cons_zero, List.set_cons_succ]
        refine z_take 3 (v := ?_) rfl (by kernel_rfl) (by kernel_rfl) (by kernel_rfl) (by kernel_rfl) (fun _ _ _ h => h) hHeld (by rfl) (fun w hSw => ?_) ?_
        rotate_left
        · obtain ⟨hSw1, hSw2⟩ := hSw; simp only [List.getElem_toArray, List.getElem_cons_zero, List.getElem_cons_succ]; go_simp; try rfl
        simp only [Act.put, List.getElem_toArray, List.getElem_cons_zero, List.getElem_cons_succ, List.setIfInBounds_toArray, List.set_cons_zero, List.set_cons_succ]
        refine z_take 4 (v := ?_) rfl (by kernel_rfl) (by kernel_rfl) (by kernel_rfl) (by kernel_rfl) (fun _ _ _ h => h) hHeld (by rfl) (fun w hSw => ?_) ?_
        rotate_left
        · obtain ⟨hSw1, hSw2⟩ := hSw; simp only [List.getElem_toArray, List.getElem_cons_zero, List.getElem_cons_succ]; go_simp; try rfl
        simp only [Act.put, List.getElem_toArray, List.getElem_cons_zero, List.getElem_cons_succ, List.setIfInBounds_toArray, List.set_cons_zero, List.set_cons_succ]
        refine z_one 1 rfl (by kernel_rfl) (by rfl) (fun K hK => ?_)
        simp only [List.getElem_toArray, List.getElem_cons_zero, List.getElem_cons_succ]
        go_simp
        refine (raw_any x _ F6 _ H9.out.l.disk (by rw [HN1.out, HAL.out]; omega)).mono ?_
        rintro e w8 ⟨g8, c8, rfl, hown, hk⟩
        rw [HN1.out] at hown
        rw [HN1.out]
        rw [HAL.out] at hown
        rw [HAL.out]
        have HR11 : Hid (Row w8 (.slice (some ⟨g8, 0, none⟩) 40 c8) 40 A (fun k => F6 k ∨ F7 k)) := Row.mk' hown (fun k hk' => by rcases hk' with h | h; exact H9.out.l.disk.foot_lt k h; exact H9.out.r.disk.foot_lt k h)
        have H12 := Lib.hid (H9.out.quiet hk)
        have HR13 := Lib.hid (HR10.out.quiet hk)
        clear hown hk
        refine hK _ _ (Or.inr ?_) (fun hHeld => ?_)
        · exact ⟨HR13.out.str, trivial⟩
        clear hK K
        replace hHeld := hHeld.resolve_left (by decide)
        try simp only [Act.put, List.setIfInBounds_toArray, List.set_cons_zero, List.set_cons_succ]
        refine z_more (fun w' => (convert 27 9 (.slice (some ⟨g8, 0, none⟩) 40 c8)).run Try.prog w' = .ok (.string (strOf A)) w' ∧ (convert 27 9 (.slice (some ⟨ga, 0, none⟩) 40 40)).run Try.prog w' = .ok (.string (strOf A)) w' ∧ True) (fun _ h => h.2) _ _ _ _ ?_
        replace hHeld : (convert 27 9 (.slice (some ⟨g8, 0, none⟩) 40 c8)).run Try.prog w8 = .ok (.string (strOf A)) w8 ∧ (convert 27 9 (.slice (some ⟨ga, 0, none⟩) 40 40)).run Try.prog w8 = .ok (.string (strOf A)) w8 ∧ True := ⟨HR11.out.str, HR13.out.str, trivial⟩
        refine z_take 2 (v := ?_) rfl (by kernel_rfl) (by kernel_rfl) (by kernel_rfl) (by kernel_rfl) (fun _ _ _ h => h) hHeld (by rfl) (fun w hSw => ?_) ?_
        rotate_left
        · obtain ⟨hSw1, hSw2, hSw3⟩ := hSw; simp only [List.getElem_toArray, List.getElem_cons_zero, List.getElem_cons_succ]; go_simp; try rfl
        simp only [Act.put, List.getElem_toArray, List.getElem_cons_zero, List.getElem_cons_succ, List.setIfInBounds_toArray, List.set_cons_zero, List.set_cons_succ]
        refine z_take 5 (v := ?_) rfl (by kernel_rfl) (by kernel_rfl) (by kernel_rfl) (by kernel_rfl) (fun _ _ _ h => h) hHeld (by rfl) (fun w hSw => ?_) ?_
        rotate_left
        · obtain ⟨hSw1, hSw2, hSw3⟩ := hSw; simp only [List.getElem_toArray, List.getElem_cons_zero, List.getElem_cons_succ]; go_simp; try rfl
        simp only [Act.put, List.getElem_toArray, List.getElem_cons_zero, List.getElem_cons_succ, List.setIfInBounds_toArray, List.set_cons_zero, List.set_cons_succ]
        refine z_take 6 (v := ?_) rfl (by kernel_rfl) (by kernel_rfl) (by kernel_rfl) (by kernel_rfl) (fun _ _ _ h => h) hHeld (by rfl) (fun w hSw => ?_) ?_
        rotate_left
        · obtain ⟨hSw1, hSw2, hSw3⟩ := hSw; simp only [List.getElem_toArray, List.getElem_cons_zero, List.getElem_cons_succ]; go_simp; try rfl
        simp only [Act.put, List.getElem_toArray, List.getElem_cons_zero, List.getElem_cons_succ, List.setIfInBounds_toArray, List.set_cons_zero, List.set_cons_succ]
        refine z_take 7 (v := ?_) rfl (by kernel_rfl) (by kernel_rfl) (by kernel_rfl) (by kernel_rfl) (fun _ _ _ h => h) hHeld (by rfl) (fun w hSw => ?_) ?_
        rotate_left
        · obtain ⟨hSw1, hSw2, hSw3⟩ := hSw; simp only [List.getElem_toArray, List.getElem_cons_zero, List.getElem_cons_succ]; go_simp; try rfl
        simp only [Act.put, List.getElem_toArray, List.getElem_cons_zero, List.getElem_cons_succ, List.setIfInBounds_toArray, List.set_cons_zero, List.set_cons_succ]
        refine z_take 10 (v := ?_) rfl (by kernel_rfl) (by kernel_rfl) (by kernel_rfl) (by kernel_rfl) (fun _ _ _ h => h) hHeld (by rfl) (fun w hSw => ?_) ?_
        rotate_left
        · obtain ⟨hSw1, hSw2, hSw3⟩ := hSw; simp only [List.getElem_toArray, List.getElem_cons_zero, List.getElem_cons_succ]; go_simp; try rfl
        simp only [Act.put, List.getElem_toArray, List.getElem_cons_zero, List.getElem_cons_succ, List.setIfInBounds_toArray, List.set_cons_zero, List.set_cons_succ]
        refine z_take 11 (v := ?_) rfl (by kernel_rfl) (by kernel_rfl) (by kernel_rfl) (by kernel_rfl) (fun _ _ _ h => h) hHeld (by rfl) (fun w hSw => ?_) ?_
        rotate_left
        · obtain ⟨hSw1, hSw2, hSw3⟩ := hSw; simp only [List.getElem_toArray, List.getElem_cons_zero, List.getElem_cons_succ]; go_simp; try rfl
        simp only [Act.put, List.getElem_toArray, List.getElem_cons_zero, List.getElem_cons_succ, List.setIfInBounds_toArray, List.set_cons_zero, List.set_cons_succ]
        refine z_one 8 rfl (by kernel_rfl) (by rfl) (fun K hK => ?_)
        simp only [List.getElem_toArray, List.getElem_cons_zero, List.getElem_cons_succ]
        go_simp
        refine (raw_any y _ F7 _ H12.out.r.disk (by rw [HN2.out, HAL.out]; omega)).mono ?_
        rintro e w9 ⟨g9, c9, rfl, hown, hk⟩
        rw [HN2.out] at hown
        rw [HN2.out]
        rw [HAL.out] at hown
        rw [HAL.out]
        have HR14 : Hid (Row w9 (.slice (some ⟨g9, 0, none⟩) 40 c9) 40 A (fun k => F6 k ∨ F7 k)) := Row.mk' hown (fun k hk' => by rcases hk' with h | h; exact H12.out.l.disk.foot_lt k h; exact H12.out.r.disk.foot_lt k h)
        have H15 := Lib.hid (H12.out.quiet hk)
        have HR16 := Lib.hid (HR13.out.quiet hk)
        have HR17 := Lib.hid (HR11.out.quiet hk)
        clear hown hk
        refine hK _ _ (Or.inr ?_) (fun hHeld => ?_)
        · exact ⟨HR17.out.str, HR16.out.str, trivial⟩
        clear hK K
        replace hHeld := hHeld.resolve_left (by decide)
        try simp only [Act.put, List.setIfInBounds_toArray, List.set_cons_zero, List.set_cons_succ]
        refine z_more (fun w' => (convert 27 9 (.slice (some ⟨g9, 0, none⟩) 40 c9)).run Try.prog w' = .ok (.string (strOf A)) w' ∧ (convert 27 9 (.slice (some ⟨g8, 0, none⟩) 40 c8)).run Try.prog w' = .ok (.string (strOf A)) w' ∧ (convert 27 9 (.slice (some ⟨ga, 0, none⟩) 40 40)).run Try.prog w' = .ok (.string (strOf A)) w' ∧ True) (fun _ h => h.2) _ _ _ _ ?_
        replace hHeld : (convert 27 9 (.slice (some ⟨g9, 0, none⟩) 40 c9)).run Try.prog w9 = .ok (.string (strOf A)) w9 ∧ (convert 27 9 (.slice (some ⟨g8, 0, none⟩) 40 c8)).run Try.prog w9 = .ok (.string (strOf A)) w9 ∧ (convert 27 9 (.slice (some ⟨ga, 0, none⟩) 40 40)).run Try.prog w9 = .ok (.string (strOf A)) w9 ∧ True := ⟨HR14.out.str, HR17.out.str, HR16.out.str, trivial⟩
        refine z_take 9 (v := ?_) rfl (by kernel_rfl) (by kernel_rfl) (by kernel_rfl) (by kernel_rfl) (fun _ _ _ h => h) hHeld (by rfl) (fun w hSw => ?_) ?_
        rotate_left
        · obtain ⟨hSw1, hSw2, hSw3, hSw4⟩ := hSw; simp only [List.getElem_toArray, List.getElem_cons_zero, List.getElem_cons_succ]; go_simp; try rfl
        simp only [Act.put, List.getElem_toArray, List.getElem_cons_zero, List.getElem_cons_succ, List.setIfInBounds_toArray, List.set_cons_zero, List.set_cons_succ]
        refine z_take 12 (v := ?_) rfl (by kernel_rfl) (by kernel_rfl) (by kernel_rfl) (by kernel_rfl) (fun _ _ _ h => h) hHeld (by rfl) (fun w hSw => ?_) ?_
        rotate_left
        · obtain ⟨hSw1, hSw2, hSw3, hSw4⟩ := hSw; simp only [List.getElem_toArray, List.getElem_cons_zero, List.getElem_cons_succ]; go_simp; try rfl
        simp only [Act.put, List.getElem_toArray, List.getElem_cons_zero, List.getElem_cons_succ, List.setIfInBounds_toArray, List.set_cons_zero, List.set_cons_succ]
        refine z_one 13 rfl (by kernel_rfl) (by rfl) (fun K hK => ?_)
        simp only [List.getElem_toArray, List.getElem_cons_zero, List.getElem_cons_succ]
        go_simp
        refine hK _ _ (Or.inr ?_) (fun hHeld => ?_)
        · exact hHeld
        clear hK K
        replace hHeld := hHeld.resolve_left (by decide)
        try simp only [Act.put, List.setIfInBounds_toArray, List.set_cons_zero, List.set_cons_succ]
        refine z_done (by kernel_rfl) ?_ _
        go_wp2_with fail
        have H18 := Lib.hid (H15.out.quiet (Keeps.refl _ _).drew)
        refine z_begin (fun w' => True) 23 (by kernel_rfl) (trivial) (fun hHeld => ?_)
        refine z_take 0 (v := ?_) rfl (by kernel_rfl) (by kernel_rfl) (by kernel_rfl) (by kernel_rfl) (fun _ _ _ h => h) hHeld (by rfl) (fun w hSw => ?_) ?_
        rotate_left
        · have hSw1 := hSw; clear hSw; simp only [List.getElem_toArray, List.getElem_cons_zero]; go_simp; try rfl
        simp only [Act.put, List.getElem_toArray, List.getElem_cons_zero, List.setIfInBounds_toArray, List.set_cons_zero, List.set_cons_succ]
        refine z_take 1 (v := ?_) rfl (by kernel_rfl) (by kernel_rfl) (by kernel_rfl) (by kernel_rfl) (fun _ _ _ h => h) hHeld (by rfl) (fun w hSw => ?_) ?_
        rotate_left
        · have hSw1 := hSw; clear hSw; simp only [List.getElem_toArray, List.getElem_cons_zero, List.getElem_cons_succ]; go_simp; try rfl
        simp only [Act.put, List.getElem_toArray, List.getElem_cons_zero, List.getElem_cons_succ, List.setIfInBounds_toArray, List.set_cons_zero, List.set_cons_succ]
        refine z_one 2 rfl (by kernel_rfl) (by rfl) (fun K hK => ?_)
        simp only [List.getElem_toArray, List.getElem_cons_zero, List.getElem_cons_succ]
        go_simp
        refine (crash_ok x left ((D.write 0 A).sync) F6 _ H18.out.l.disk HO1.out.up (Nat.zero_le _) (fun x hx => by cases hx)).mono ?_
        rintro e w10 ⟨rfl, F10, hd, hk, hs⟩
        have H19 := Lib.hid (H18.out.left hd hk hs)
        clear hd hk hs
        refine hK _ _ (Or.inr ?_) (fun hHeld => ?_)
        · exact trivial
        clear hK K
        replace hHeld := hHeld.resolve_left (by decide)
        try simp only [Act.put, List.setIfInBounds_toArray, List.set_cons_zero, List.set_cons_succ]
        refine z_take 3 (v := ?_) rfl (by kernel_rfl) (by kernel_rfl) (by kernel_rfl) (by kernel_rfl) (fun _ _ _ h => h) hHeld (by rfl) (fun w hSw => ?_) ?_
        rotate_left
        · have hSw1 := hSw; clear hSw; simp only [List.getElem_toArray, List.getElem_cons_zero, List.getElem_cons_succ]; go_simp; try rfl
        simp only [Act.put, List.getElem_toArray, List.getElem_cons_zero, List.getElem_cons_succ, List.setIfInBounds_toArray, List.set_cons_zero, List.set_cons_succ]
        refine z_take 4 (v := ?_) rfl (by kernel_rfl) (by kernel_rfl) (by kernel_rfl) (by kernel_rfl) (fun _ _ _ h => h) hHeld (by rfl) (fun w hSw => ?_) ?_
        rotate_left
        · have hSw1 := hSw; clear hSw; simp only [List.getElem_toArray, List.getElem_cons_zero, List.getElem_cons_succ]; go_simp; try rfl
        simp only [Act.put, List.getElem_toArray, List.getElem_cons_zero, List.getElem_cons_succ, List.setIfInBounds_toArray, List.set_cons_zero, List.set_cons_succ]
        refine z_take 5 (v := ?_) rfl (by kernel_rfl) (by kernel_rfl) (by kernel_rfl) (by kernel_rfl) (fun _ _ _ h => h) hHeld (by rfl) (fun w hSw => ?_) ?_
        rotate_left
        · have hSw1 := hSw; clear hSw; simp only [List.getElem_toArray, List.getElem_cons_zero, List.getElem_cons_succ]; go_simp; try rfl
        simp only [Act.put, List.getElem_toArray, List.getElem_cons_zero, List.getElem_cons_succ, List.setIfInBounds_toArray, List.set_cons_zero, List.set_cons_succ]
        refine z_one 6 rfl (by kernel_rfl) (by rfl) (fun K hK => ?_)
        simp only [List.getElem_toArray, List.getElem_cons_zero, List.getElem_cons_succ]
        go_simp
        refine (crash_ok y 0 ((E.write 0 A).sync) F7 _ H19.out.r.disk HO2.out.up (Nat.zero_le _) (fun x hx => by cases hx)).mono ?_
        rintro e w11 ⟨rfl, F11, hd, hk, hs⟩
        have H20 := Lib.hid (H19.out.right hd hk hs)
        clear hd hk hs
        refine hK _ _ (Or.inr ?_) (fun hHeld => ?_)
        · exact trivial
        clear hK K
        replace hHeld := hHeld.resolve_left (by decide)
        try simp only [Act.put, List.setIfInBounds_toArray, List.set_cons_zero, List.set_cons_succ]
        refine z_take 7 (v := ?_) rfl (by kernel_rfl) (by kernel_rfl) (by kernel_rfl) (by kernel_rfl) (fun _ _ _ h => h) hHeld (by rfl) (fun w hSw => ?_) ?_
        rotate_left
        · have hSw1 := hSw; clear hSw; simp only [List.getElem_toArray, List.getElem_cons_zero, List.getElem_cons_succ]; go_simp; try rfl
        simp only [Act.put, List.getElem_toArray, List.getElem_cons_zero, List.getElem_cons_succ, List.setIfInBounds_toArray, List.set_cons_zero, List.set_cons_succ]
        refine z_take 8 (v := ?_) rfl (by kernel_rfl) (by kernel_rfl) (by kernel_rfl) (by kernel_rfl) (fun _ _ _ h => h) hHeld (by rfl) (fun w hSw => ?_) ?_
        rotate_left
        · have hSw1 := hSw; clear hSw; simp only [List.getElem_toArray, List.getElem_cons_zero, List.getElem_cons_succ]; go_simp; try rfl
        simp only [Act.put, List.getElem_toArray, List.getElem_cons_zero, List.getElem_cons_succ, List.setIfInBounds_toArray, List.set_cons_zero, List.set_cons_succ]
        refine z_take 9 (v := ?_) rfl (by kernel_rfl) (by kernel_rfl) (by kernel_rfl) (by kernel_rfl) (fun _ _ _ h => h) hHeld (by rfl) (fun w hSw => ?_) ?_
        rotate_left
        · have hSw1 := hSw; clear hSw; simp only [List.getElem_toArray, List.getElem_cons_zero, List.getElem_cons_succ]; go_simp; try rfl
        simp only [Act.put, List.getElem_toArray, List.getElem_cons_zero, List.getElem_cons_succ, List.setIfInBounds_toArray, List.set_cons_zero, List.set_cons_succ]
        refine z_take 10 (v := ?_) rfl (by kernel_rfl) (by kernel_rfl) (by kernel_rfl) (by kernel_rfl) (fun _ _ _ h => h) hHeld (by rfl) (fun w hSw => ?_) ?_
        rotate_left
        · have hSw1 := hSw; clear hSw; simp only [List.getElem_toArray, List.getElem_cons_zero, List.getElem_cons_succ]; go_simp; try rfl
        simp only [Act.put, List.getElem_toArray, List.getElem_cons_zero, List.getElem_cons_succ, List.setIfInBounds_toArray, List.set_cons_zero, List.set_cons_succ]
        refine z_take 13 (v := ?_) rfl (by kernel_rfl) (by kernel_rfl) (by kernel_rfl) (by kernel_rfl) (fun _ _ _ h => h) hHeld (by rfl) (fun w hSw => ?_) ?_
        rotate_left
        · have hSw1 := hSw; clear hSw; simp only [List.getElem_toArray, List.getElem_cons_zero, List.getElem_cons_succ]; go_simp; try rfl
        simp only [Act.put, List.getElem_toArray, List.getElem_cons_zero, List.getElem_cons_succ, List.setIfInBounds_toArray, List.set_cons_zero, List.set_cons_succ]
        refine z_one 11 rfl (by kernel_rfl) (by rfl) (fun K hK => ?_)
        simp only [List.getElem_toArray, List.getElem_cons_zero, List.getElem_cons_succ]
        go_simp
        refine (raw_any x _ F10 _ H20.out.l.disk (by rw [HC1.out, HAL.out]; omega)).mono ?_
        rintro e w12 ⟨g12, c12, rfl, hown, hk⟩
        rw [HC1.out] at hown
        rw [HC1.out]
        rw [HAL.out] at hown
        rw [HAL.out]
        have HR21 : Hid (Row w12 (.slice (some ⟨g12, 0, none⟩) 40 c12) 40 A (fun k => F10 k ∨ F11 k)) := Row.mk' hown (fun k hk' => by rcases hk' with h | h; exact H20.out.l.disk.foot_lt k h; exact H20.out.r.disk.foot_lt k h)
        have H22 := Lib.hid (H20.out.quiet hk)
        clear hown hk
        refine hK _ _ (Or.inr ?_) (fun hHeld => ?_)
        · exact trivial
        clear hK K
        replace hHeld := hHeld.resolve_left (by decide)
        try simp only [Act.put, List.setIfInBounds_toArray, List.set_cons_zero, List.set_cons_succ]
        refine z_more (fun w' => (convert 27 9 (.slice (some ⟨g12, 0, none⟩) 40 c12)).run Try.prog w' = .ok (.string (strOf A)) w' ∧ True) (fun _ h => h.2) _ _ _ _ ?_
        replace hHeld : (convert 27 9 (.slice (some ⟨g12, 0, none⟩) 40 c12)).run Try.prog w12 = .ok (.string (strOf A)) w12 ∧ True := ⟨HR21.out.str, trivial⟩
        refine z_take 12 (v := ?_) rfl (by kernel_rfl) (by kernel_rfl) (by kernel_rfl) (by kernel_rfl) (fun _ _ _ h => h) hHeld (by rfl) (fun w hSw => ?_) ?_
        rotate_left
        · obtain ⟨hSw1, hSw2⟩ := hSw; simp only [List.getElem_toArray, List.getElem_cons_zero, List.getElem_cons_succ]; go_simp; try rfl
        simp only [Act.put, List.getElem_toArray, List.getElem_cons_zero, List.getElem_cons_succ, List.setIfInBounds_toArray, List.set_cons_zero, List.set_cons_succ]
        refine z_one 14 rfl (by kernel_rfl) (by rfl) (fun K hK => ?_)
        simp only [List.getElem_toArray, List.getElem_cons_zero, List.getElem_cons_succ]
        go_simp
        refine (raw_any y _ F11 _ H22.out.r.disk (by rw [HC2.out, HAL.out]; omega)).mono ?_
        rintro e w13 ⟨g13, c13, rfl, hown, hk⟩
        rw [HC2.out] at hown
        rw [HC2.out]
        rw [HAL.out] at hown
        rw [HAL.out]
        have HR23 : Hid (Row w13 (.slice (some ⟨g13, 0, none⟩) 40 c13) 40 A (fun k => F10 k ∨ F11 k)) := Row.mk' hown (fun k hk' => by rcases hk' with h | h; exact H22.out.l.disk.foot_lt k h; exact H22.out.r.disk.foot_lt k h)
        have H24 := Lib.hid (H22.out.quiet hk)
        have HR25 := Lib.hid (HR21.out.quiet hk)
        clear hown hk
        refine hK _ _ (Or.inr ?_) (fun hHeld => ?_)
        · exact ⟨HR25.out.str, trivial⟩
        clear hK K
        replace hHeld := hHeld.resolve_left (by decide)
        try simp only [Act.put, List.setIfInBounds_toArray, List.set_cons_zero, List.set_cons_succ]
        refine z_more (fun w' => (convert 27 9 (.slice (some ⟨g13, 0, none⟩) 40 c13)).run Try.prog w' = .ok (.string (strOf A)) w' ∧ (convert 27 9 (.slice (some ⟨g12, 0, none⟩) 40 c12)).run Try.prog w' = .ok (.string (strOf A)) w' ∧ True) (fun _ h => h.2) _ _ _ _ ?_
        replace hHeld : (convert 27 9 (.slice (some ⟨g13, 0, none⟩) 40 c13)).run Try.prog w13 = .ok (.string (strOf A)) w13 ∧ (convert 27 9 (.slice (some ⟨g12, 0, none⟩) 40 c12)).run Try.prog w13 = .ok (.string (strOf A)) w13 ∧ True := ⟨HR23.out.str, HR25.out.str, trivial⟩
        refine z_take 15 (v := ?_) rfl (by kernel_rfl) (by kernel_rfl) (by kernel_rfl) (by kernel_rfl) (fun _ _ _ h => h) hHeld (by rfl) (fun w hSw => ?_) ?_
        rotate_left
        · obtain ⟨hSw1, hSw2, hSw3⟩ := hSw; simp only [List.getElem_toArray, List.getElem_cons_zero, List.getElem_cons_succ]; go_simp; try rfl
        simp only [Act.put, List.getElem_toArray, List.getElem_cons_zero, List.getElem_cons_succ, List.setIfInBounds_toArray, List.set_cons_zero, List.set_cons_succ]
        refine z_take 16 (v := ?_) rfl (by kernel_rfl) (by kernel_rfl) (by kernel_rfl) (by kernel_rfl) (fun _ _ _ h => h) hHeld (by rfl) (fun w hSw => ?_) ?_
        rotate_left
        · obtain ⟨hSw1, hSw2, hSw3⟩ := hSw; simp only [List.getElem_toArray, List.getElem_cons_zero, List.getElem_cons_succ]; go_simp; try rfl
        simp only [Act.put, List.getElem_toArray, List.getElem_cons_zero, List.getElem_cons_succ, List.setIfInBounds_toArray, List.set_cons_zero, List.set_cons_succ]
        refine z_take 17 (v := ?_) rfl (by kernel_rfl) (by kernel_rfl) (by kernel_rfl) (by kernel_rfl) (fun _ _ _ h => h) hHeld (by rfl) (fun w hSw => ?_) ?_
        rotate_left
        · obtain ⟨hSw1, hSw2, hSw3⟩ := hSw; simp only [List.getElem_toArray, List.getElem_cons_zero, List.getElem_cons_succ]; go_simp; try rfl
        simp only [Act.put, List.getElem_toArray, List.getElem_cons_zero, List.getElem_cons_succ, List.setIfInBounds_toArray, List.set_cons_zero, List.set_cons_succ]
        refine z_take 18 (v := ?_) rfl (by kernel_rfl) (by kernel_rfl) (by kernel_rfl) (by kernel_rfl) (fun _ _ _ h => h) hHeld (by rfl) (fun w hSw => ?_) ?_
        rotate_left
        · obtain ⟨hSw1, hSw2, hSw3⟩ := hSw; simp only [List.getElem_toArray, List.getElem_cons_zero, List.getElem_cons_succ]; go_simp; try rfl
        simp only [Act.put, List.getElem_toArray, List.getElem_cons_zero, List.getElem_cons_succ, List.setIfInBounds_toArray, List.set_cons_zero, List.set_cons_succ]
        refine z_one 19 rfl (by kernel_rfl) (by rfl) (fun K hK => ?_)
        simp only [List.getElem_toArray, List.getElem_cons_zero, List.getElem_cons_succ]
        go_simp
        refine (lives_any _).mono ?_
        rintro e w14 ⟨rfl, hk⟩
        have H26 := Lib.hid (H24.out.quiet hk)
        have HR27 := Lib.hid (HR25.out.quiet hk)
        have HR28 := Lib.hid (HR23.out.quiet hk)
        clear hk
        refine hK _ _ (Or.inr ?_) (fun hHeld => ?_)
        · exact ⟨HR28.out.str, HR27.out.str, trivial⟩
        clear hK K
        replace hHeld := hHeld.resolve_left (by decide)
        try simp only [Act.put, List.setIfInBounds_toArray, List.set_cons_zero, List.set_cons_succ]
        refine z_take 20 (v := ?_) rfl (by kernel_rfl) (by kernel_rfl) (by kernel_rfl) (by kernel_rfl) (fun _ _ _ h => h) hHeld (by rfl) (fun w hSw => ?_) ?_
        rotate_left
        · obtain ⟨hSw1, hSw2, hSw3⟩ := hSw; simp only [List.getElem_toArray, List.getElem_cons_zero, List.getElem_cons_succ]; go_simp; try rfl
        simp only [Act.put, List.getElem_toArray, List.getElem_cons_zero, List.getElem_cons_succ, List.setIfInBounds_toArray, List.set_cons_zero, List.set_cons_succ]
        refine z_one 21 rfl (by kernel_rfl) (by rfl) (fun K hK => ?_)
        simp only [List.getElem_toArray, List.getElem_cons_zero, List.getElem_cons_succ]
        go_simp
        refine hK _ _ (Or.inr ?_) (fun hHeld => ?_)
        · exact hHeld
        clear hK K
        replace hHeld := hHeld.resolve_left (by decide)
        try simp only [Act.put, List.setIfInBounds_toArray, List.set_cons_zero, List.set_cons_succ]
        refine z_done (by kernel_rfl) ?_ _
        go_wp2
        go_ret
        exact ⟨rfl, H26.out.l.below⟩
end Go.Proofs.Ytllfiplhfbbhaaa
