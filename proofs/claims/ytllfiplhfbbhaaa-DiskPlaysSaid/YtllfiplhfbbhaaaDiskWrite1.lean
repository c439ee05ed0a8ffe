/-
  The inner function of a disk's Write, where the bytes are in: what it leaves. Conditions: sizes up to 65536, at most a million loose bytes.
-/
import Derived.Test.YtllfiplhfbbhaaaDiskParts
import Derived.Test.YtllfiplhfbbhaaaRegion
import Derived.Deep.DrawnRows
namespace Go.Proofs.Ytllfiplhfbbhaaa
open Go.RowKit
attribute [local go_sem ↓] Go.wp_at_zero Go.wp_at_succ

theorem in_yes (b : Nat) (at_ n : Int) (a : Option Addr) (len cap : Nat) (w : World) (hl : len ≤ 65536)
   (hc : w.cell? ⟨b, 0, none⟩ = some (.slice a len cap)) (h : inB at_ n len = true) :
    Calls Try.prog 34 #[.pointer (some ⟨b, 0, none⟩), .int .i64 at_, .int .i64 n] w fun e w' => e = .returned (.bool true) ∧ w = w' := by
  rw [← h]; exact in_any b at_ n a len cap w hl hc
theorem infoLoose : (Try.prog.info? 69).map (fun i => (i.zero, i.size, i.bytes)) = some (some (.agg #[.int .i64 0, .int .u8 0]), 2, 16) := by kernel_rfl

/-- What holds at the head of each round of Write's loop. -/
def WRel (w : World) (p : Nat) (D : DS) (gn cn gs cs : Nat) (sl : Option Addr) (at_ : Nat) (l : List UInt8) (m : Nat) (i : Value) (wr : World) : Prop :=
  ∃ (k : Nat) (sl' : Option Addr) (cl' : Nat), k ≤ m ∧ i = .int .i64 k ∧ DiskAt wr p (D.wrote at_ l k) gn cn gs cs sl' cl' ∧ Keeps (Foot p gn gs sl) w wr ∧ (∀ k, sl' = some ⟨k, 0, none⟩ → sl = some ⟨k, 0, none⟩ ∨ w.heap.size ≤ k)

set_option maxHeartbeats 1000000 in
theorem write1_ok (c0 c1 c2 p at_ : Nat) (l : List UInt8) (n : Nat) (sa : Option Addr) (sb so scap : Nat) (D : DS) (gn cn gs cs : Nat) (sl : Option Addr) (cl : Nat) (w : World)
    (h : DiskAt w p D gn cn gs cs sl cl) (hn : D.now.length = n) (k0 : w.cell? ⟨c0, 0, none⟩ = some (.pointer (some ⟨p, 0, none⟩))) (k1 : w.cell? ⟨c1, 0, none⟩ = some (.int .i64 at_)) 
    (m : Nat) (hm : l.length = m) (k2 : w.cell? ⟨c2, 0, none⟩ = some (.slice sa m scap))
    (hsa : 0 < m → sa = some ⟨sb, so, none⟩) (hsrc : ∀ j c, l[j]? = some c → w.cell? ⟨sb, so + j, none⟩ = some (.int .u8 c.toNat))
    (n0 : ¬ Foot p gn gs sl c0) (n1 : ¬ Foot p gn gs sl c1) (n2 : ¬ Foot p gn gs sl c2) (nb : 0 < m → ¬ Foot p gn gs sl sb)
    (hfit : at_ + m ≤ n) (hD : n ≤ 65536) (hlo : D.lo.length ≤ 1000000) :
    Calls Try.prog 38 #[.pointer (some ⟨c0, 0, none⟩), .pointer (some ⟨c1, 0, none⟩), .pointer (some ⟨c2, 0, none⟩)] w fun e w' => e = .returned (.int .i64 0) ∧
      ∃ sl' cl', DiskAt w' p (D.write at_ l) gn cn gs cs sl' cl' ∧ Keeps (Foot p gn gs sl) w w' ∧ (∀ k, sl' = some ⟨k, 0, none⟩ → sl = some ⟨k, 0, none⟩ ∨ w.heap.size ≤ k) := by
  have q0 := cellAt h.blk 0
  rw [hn] at q0
  simp at q0
  have hnow := h.now
  have hcap : n ≤ cn := by have := h.cap; omega
  rw [hn] at hnow
  have HN := Lib.hid hn
  have HM := Lib.hid hm
  have H := Lib.hid h
  have HS := Lib.hid hsrc
  have HA := Lib.hid hsa
  have HO := Lib.hid hnow
  have hi : inB at_ m n = true := by unfold inB; simp; omega
  have HI := Lib.hid hi
  have HF := Lib.hid (And.intro n0 (And.intro n1 (And.intro n2 nb)))
  obtain ⟨i0, hi0, hz0, hz1, hz2⟩ := info_parts infoLoose
  clear hn hm h hsrc hsa hnow hi n0 n1 n2 nb
  have b1 : (0 : Int) ≤ (at_ : Int) := by omega
  have b2 : (at_ : Int) ≤ (cn : Int) := by omega
  have b3 : (at_ : Int) ≤ (n : Int) := by omega
  have b4 : (n : Int) ≤ (cn : Int) := by omega
  have HC : Hid (∀ ad : Addr, sa = some ad → 0 < m → ad = ⟨sb, so, none⟩) := fun ad e hp => by rw [HA.out hp] at e; exact (Option.some.inj e).symm
  have HP : Hid (0 < (BV l).length → (if cn = at_ then some (⟨gn, 0, none⟩ : Addr) else some ⟨gn, at_, none⟩) = some ⟨gn, at_, none⟩ ∧ ∃ ad, sa = some ad ∧ ∀ (j : Nat) (v : Value), (BV l)[j]? = some v → w.drew.cell? (ad.add j) = some v) := by
    intro hp
    rw [BV_length, HM.out] at hp
    refine ⟨if_neg (by omega), ⟨sb, so, none⟩, HA.out hp, fun j v hv => ?_⟩
    rw [BV_get] at hv
    cases hc : l[j]? with
    | none => rw [hc] at hv; simp at hv
    | some c =>
      rw [hc] at hv
      rw [addr_add, show v = .int .u8 c.toNat by simpa using hv.symm]
      exact HS.out j c hc
  have HK : Hid (∀ w1 : World, w.drew.grownBy w1 (some gn) → w1.cell? ⟨c0, 0, none⟩ = some (.pointer (some ⟨p, 0, none⟩)) ∧ w1.cell? ⟨c1, 0, none⟩ = some (.int .i64 at_) ∧ w1.cell? ⟨c2, 0, none⟩ = some (.slice sa m scap) ∧ w1.cell? ⟨p, 0, none⟩ = some (.slice (some ⟨gn, 0, none⟩) n cn)) := by
    intro w1 hg
    have hk : Keeps (fun k => k = gn) w w1 := (Keeps.refl _ w).drew.grown hg (fun k e _ => (Option.some.inj e).symm)
    have f := HF.out
    refine ⟨?_, ?_, ?_, ?_⟩
    · rw [hk.cell (World.block_lt_of_cell? w _ k0) (fun e => f.1 (Or.inr (Or.inl e)))]; exact k0
    · rw [hk.cell (World.block_lt_of_cell? w _ k1) (fun e => f.2.1 (Or.inr (Or.inl e)))]; exact k1
    · rw [hk.cell (World.block_lt_of_cell? w _ k2) (fun e => f.2.2.1 (Or.inr (Or.inl e)))]; exact k2
    · rw [hk.cell (World.block_lt_of_cell? w _ q0) (fun e => H.out.apart.1 e)]; exact q0
  go_enter Try.func38, Try.ntmps38
  go_wp2_with fail
  refine (in_yes p at_ m _ n cn _ hD q0 HI.out).mono ?_
  rintro e w' ⟨rfl, rfl⟩
  go_wp2_with fail
  go_region_held3 (fun w' => w'.cell? ⟨c0, 0, none⟩ = some (.pointer (some ⟨p, 0, none⟩)) ∧ w'.cell? ⟨c1, 0, none⟩ = some (.int .i64 at_) ∧ w'.cell? ⟨c2, 0, none⟩ = some (.slice sa m scap) ∧ w'.cell? ⟨p, 0, none⟩ = some (.slice (some ⟨gn, 0, none⟩) n cn))
    (first | exact HK.out _ hg1 | go_keep)
    ((refine step_copy _ (by rfl) (.tmp 17) (.tmp 18) 27 27 (by rfl) 5 Try.underlying27 (by kernel_rfl) _ _ _ _ _ _ (by rfl) (by rfl) 0 gn n cn (BV D.now) HO.out.drew at_ (BV l) (by rw [BV_length, HM.out]; exact (Nat.min_eq_left (by omega)).symm) (by rw [BV_length, HM.out]; omega) HP.out (BV_one l) ?_; intro w1 hown1 hg1))
  have e1 := HK.out _ hg1
  obtain ⟨e10, e11, e12, e13⟩ := e1
  generalize (if cn = at_ then some (⟨gn, 0, none⟩ : Addr) else some ⟨gn, at_, none⟩) = dp
  have hw1 : DiskAt w1 p (D.wrote at_ l 0) gn cn gs cs sl cl := DiskAt.wrote (w := w.drew) (H.out.keep (Keeps.refl (fun _ => False) w).drew (fun _ _ h => h)) at_ l (by rw [HM.out, HN.out]; exact hfit) (by rw [HN.out]; exact hown1) hg1
  have hk1 : Keeps (Foot p gn gs sl) w w1 := (Keeps.refl _ w).drew.grown hg1 (fun k e _ => Or.inr (Or.inl (Option.some.inj e).symm))
  have HW1 := Lib.hid (And.intro hw1 hk1)
  clear hw1 hk1 hown1 hg1
  go_wp2_with fail
  go_loopw [22] (fun i wr => WRel w p D gn cn gs cs sl at_ l m i wr)
    (fun i _ => m - (intOf i).toNat)
  case atStart => exact ⟨0, sl, cl, Nat.zero_le _, rfl, HW1.out.1, HW1.out.2, fun k h => Or.inl h⟩
  case round =>
    obtain ⟨k, sl', cl', hk, rfl, hd, hkp, hsl⟩ := hrel
    have HD := Lib.hid hd
    have HKP := Lib.hid hkp
    have HSL := Lib.hid hsl
    clear hd hkp hsl
    by_cases hlt : k < m
    · obtain rfl := HA.out (by omega)
      obtain ⟨c, hc⟩ : ∃ c, l[k]? = some c := ⟨_, List.getElem?_eq_getElem (by rw [HM.out]; exact hlt)⟩
      have f := HF.out
      have r0 : wr.cell? ⟨c0, 0, none⟩ = some (.pointer (some ⟨p, 0, none⟩)) := (HKP.out.cell (World.block_lt_of_cell? w _ k0) f.1).trans k0
      have r1 : wr.cell? ⟨c1, 0, none⟩ = some (.int .i64 at_) := (HKP.out.cell (World.block_lt_of_cell? w _ k1) f.2.1).trans k1
      have r3 : wr.cell? ⟨sb, so + k, none⟩ = some (.int .u8 c.toNat) := (HKP.out.cell (World.block_lt_of_cell? w _ (HS.out k c hc)) (f.2.2.2 (by omega))).trans (HS.out k c hc)
      have r2 := cellAt HD.out.blk 2
      have z2 := freeAt HD.out.blk 2
      have hl := HD.out.lo
      rw [wrote_lo _ _ _ _ (by rw [HM.out]; exact hk)] at r2 hl
      simp at r2
      have hbr := lt_of_heap HD.out.blk
      have HL := Lib.hid hl
      have HC2 := Lib.hid hc
      have HK2 : Hid (∀ (X : Obj) (w2 : World), (wr.alloc X).drew.grownBy w2 (Value.ownBlock (.slice sl' (D.lo.length + k) cl')) → (w2.cell? ⟨c0, 0, none⟩ = some (.pointer (some ⟨p, 0, none⟩)) ∧ w2.cell? ⟨c1, 0, none⟩ = some (.int .i64 at_) ∧ w2.cell? ⟨p, 2, none⟩ = some (.slice sl' (D.lo.length + k) cl')) ∧ w2.frozen? ⟨p, 2, none⟩ = false) := by
        intro X w2 hg
        have hk2 : Keeps (fun g => sl' = some ⟨g, 0, none⟩) wr w2 := (((Keeps.refl _ wr).alloc X).drew).grown hg (fun g e _ => by
          rcases own_addr HL.out with ⟨rfl, _⟩ | ⟨g', rfl⟩
          · simp [Value.ownBlock] at e
          · simp [Value.ownBlock] at e; rw [e])
        have hs : ∀ g, sl' = some ⟨g, 0, none⟩ → g < w.heap.size → Foot p gn gs sl g := fun g e hlt => by
          rcases HSL.out g e with h | h
          · exact Or.inr (Or.inr (Or.inr h))
          · omega
        refine ⟨⟨?_, ?_, ?_⟩, ?_⟩
        · rw [hk2.cell (World.block_lt_of_cell? wr _ r0) (fun e => f.1 (hs _ e (World.block_lt_of_cell? w _ k0)))]; exact r0
        · rw [hk2.cell (World.block_lt_of_cell? wr _ r1) (fun e => f.2.1 (hs _ e (World.block_lt_of_cell? w _ k1)))]; exact r1
        · rw [hk2.cell (World.block_lt_of_cell? wr _ r2) (fun e => (HD.out.apart.2.2.2 p e).1 rfl)]; exact r2
        · rw [hk2.frozen (World.block_lt_of_cell? wr _ r2) (fun e => (HD.out.apart.2.2.2 p e).1 rfl)]; exact z2
      clear hl hc f k0 k1 k2 q0 e10 e11 e12 e13
      have i1 : (0 : Int) ≤ (k : Int) := by omega
      have i2 : (k : Int) < (m : Int) := by omega
      have i3 : IntKind.i64.wrap ((at_ : Int) + (k : Int)) = (at_ : Int) + k := IntWalk.i64_in _ (by omega)
      go_wp2_with fail
      refine z_begin (fun w' => w'.cell? ⟨c0, 0, none⟩ = some (.pointer (some ⟨p, 0, none⟩)) ∧ w'.cell? ⟨c1, 0, none⟩ = some (.int .i64 at_) ∧ w'.cell? ⟨p, 2, none⟩ = some (.slice sl' (D.lo.length + k) cl')) 14 (by kernel_rfl) ⟨r0, r1, r2⟩ (fun hHeld => ?_)
      refine z_take 0 (v := ?_) rfl (by kernel_rfl) (by kernel_rfl) (by kernel_rfl) (by kernel_rfl) (fun _ _ _ h => h) hHeld (by rfl) (fun w hSw => ?_) ?_
      rotate_left
      · obtain ⟨hSw1, hSw2, hSw3⟩ := hSw; simp only [List.getElem_toArray, List.getElem_cons_zero]; go_simp; try rfl
      simp only [Act.put, List.getElem_toArray, List.getElem_cons_zero, List.setIfInBounds_toArray, List.set_cons_zero, List.set_cons_succ]
      refine z_take 1 (v := ?_) rfl (by kernel_rfl) (by kernel_rfl) (by kernel_rfl) (by kernel_rfl) (fun _ _ _ h => h) hHeld (by rfl) (fun w hSw => ?_) ?_
      rotate_left
      · obtain ⟨hSw1, hSw2, hSw3⟩ := hSw; simp only [List.getElem_toArray, List.getElem_cons_zero, List.getElem_cons_succ]; go_simp; try rfl
      simp only [Act.put, List.getElem_toArray, List.getElem_cons_zero, List.getElem_cons_succ, List.setIfInBounds_toArray, List.set_cons_zero, List.set_cons_succ]
      refine z_take 2 (v := ?_) rfl (by kernel_rfl) (by kernel_rfl) (by kernel_rfl) (by kernel_rfl) (fun _ _ _ h => h) hHeld (by rfl) (fun w hSw => ?_) ?_
      rotate_left
      · obtain ⟨hSw1, hSw2, hSw3⟩ := hSw; simp only [List.getElem_toArray, List.getElem_cons_zero, List.getElem_cons_succ]; go_simp; try rfl
      simp only [Act.put, List.getElem_toArray, List.getElem_cons_zero, List.getElem_cons_succ, List.setIfInBounds_toArray, List.set_cons_zero, List.set_cons_succ]
      refine z_take 3 (v := ?_) rfl (by kernel_rfl) (by kernel_rfl) (by kernel_rfl) (by kernel_rfl) (fun _ _ _ h => h) hHeld (by rfl) (fun w hSw => ?_) ?_
      rotate_left
      · obtain ⟨hSw1, hSw2, hSw3⟩ := hSw; simp only [List.getElem_toArray, List.getElem_cons_zero, List.getElem_cons_succ]; go_simp; try rfl
      simp only [Act.put, List.getElem_toArray, List.getElem_cons_zero, List.getElem_cons_succ, List.setIfInBounds_toArray, List.set_cons_zero, List.set_cons_succ]
      refine z_take 4 (v := ?_) rfl (by kernel_rfl) (by kernel_rfl) (by kernel_rfl) (by kernel_rfl) (fun _ _ _ h => h) hHeld (by rfl) (fun w hSw => ?_) ?_
      rotate_left
      · obtain ⟨hSw1, hSw2, hSw3⟩ := hSw; simp only [List.getElem_toArray, List.getElem_cons_zero, List.getElem_cons_succ]; go_simp; try rfl
      simp only [Act.put, List.getElem_toArray, List.getElem_cons_zero, List.getElem_cons_succ, List.setIfInBounds_toArray, List.set_cons_zero, List.set_cons_succ]
      refine z_take 5 (v := ?_) rfl (by kernel_rfl) (by kernel_rfl) (by kernel_rfl) (by kernel_rfl) (fun _ _ _ h => h) hHeld (by rfl) (fun w hSw => ?_) ?_
      rotate_left
      · obtain ⟨hSw1, hSw2, hSw3⟩ := hSw; simp only [List.getElem_toArray, List.getElem_cons_zero, List.getElem_cons_succ]; go_simp; try rfl
      simp only [Act.put, List.getElem_toArray, List.getElem_cons_zero, List.getElem_cons_succ, List.setIfInBounds_toArray, List.set_cons_zero, List.set_cons_succ]
      refine z_take 6 (v := ?_) rfl (by kernel_rfl) (by kernel_rfl) (by kernel_rfl) (by kernel_rfl) (fun _ _ _ h => h) hHeld (by rfl) (fun w hSw => ?_) ?_
      rotate_left
      · obtain ⟨hSw1, hSw2, hSw3⟩ := hSw; simp only [List.getElem_toArray, List.getElem_cons_zero, List.getElem_cons_succ]; go_simp; try rfl
      simp only [Act.put, List.getElem_toArray, List.getElem_cons_zero, List.getElem_cons_succ, List.setIfInBounds_toArray, List.set_cons_zero, List.set_cons_succ]
      refine z_take 7 (v := ?_) rfl (by kernel_rfl) (by kernel_rfl) (by kernel_rfl) (by kernel_rfl) (fun _ _ _ h => h) hHeld (by rfl) (fun w hSw => ?_) ?_
      rotate_left
      · obtain ⟨hSw1, hSw2, hSw3⟩ := hSw; simp only [List.getElem_toArray, List.getElem_cons_zero, List.getElem_cons_succ]; go_simp; try rfl
      simp only [Act.put, List.getElem_toArray, List.getElem_cons_zero, List.getElem_cons_succ, List.setIfInBounds_toArray, List.set_cons_zero, List.set_cons_succ]
      refine z_take 8 (v := ?_) rfl (by kernel_rfl) (by kernel_rfl) (by kernel_rfl) (by kernel_rfl) (fun _ _ _ h => h) hHeld (by rfl) (fun w hSw => ?_) ?_
      rotate_left
      · obtain ⟨hSw1, hSw2, hSw3⟩ := hSw; simp only [List.getElem_toArray, List.getElem_cons_zero, List.getElem_cons_succ]; go_simp; try rfl
      simp only [Act.put, List.getElem_toArray, List.getElem_cons_zero, List.getElem_cons_succ, List.setIfInBounds_toArray, List.set_cons_zero, List.set_cons_succ]
      refine z_take 9 (v := ?_) rfl (by kernel_rfl) (by kernel_rfl) (by kernel_rfl) (by kernel_rfl) (fun _ _ _ h => h) hHeld (by rfl) (fun w hSw => ?_) ?_
      rotate_left
      · obtain ⟨hSw1, hSw2, hSw3⟩ := hSw; simp only [List.getElem_toArray, List.getElem_cons_zero, List.getElem_cons_succ]; go_simp; try rfl
      simp only [Act.put, List.getElem_toArray, List.getElem_cons_zero, List.getElem_cons_succ, List.setIfInBounds_toArray, List.set_cons_zero, List.set_cons_succ]
      refine z_one 10 rfl (by kernel_rfl) (by rfl) (fun K hK => ?_)
      simp only [List.getElem_toArray, List.getElem_cons_zero, List.getElem_cons_succ]
      go_simp
      refine hK _ _ (Or.inr ?_) (fun _ => ?_)
      · exact ⟨(Below.cell ((Below.refl _ _).alloc (Nat.le_refl _) _) (World.block_lt_of_cell? wr _ r0)).trans r0, (Below.cell ((Below.refl _ _).alloc (Nat.le_refl _) _) (World.block_lt_of_cell? wr _ r1)).trans r1, (Below.cell ((Below.refl _ _).alloc (Nat.le_refl _) _) (World.block_lt_of_cell? wr _ r2)).trans r2⟩
      clear hK K
      refine z_one 11 rfl (by kernel_rfl) (by rfl) (fun K hK => ?_)
      simp only [List.getElem_toArray, List.getElem_cons_zero, List.getElem_cons_succ]
      refine wp_app _ (.tmp 31) (.tmp 37) 62 (by rfl) 0 69 i0 _ 2 16 Try.underlying62 hi0 hz0 hz1 hz2 rfl (by omega) (.slice sl' (D.lo.length + k) cl') (D.lo.length + k) (LV (D.wrote at_ l k).lo) (by rfl) ((HL.out.alloc _).drew) (some ⟨wr.heap.size, 0, none⟩) 1 1 [.int .i64 ((at_ : Int) + k), .int .u8 c.toNat] (by rfl) (by rfl) (fun h => by cases h) (fun ad had => by obtain rfl := Option.some.inj had; exact World.news_of_block (cs := #[.int .i64 ((at_ : Int) + k), .int .u8 c.toNat]) (t := 69) (fr := (0, 0)) (heap_alloc_new wr _)) (by simp [Value.oneCell']) (by unfold maxLen; omega) (by omega) (by simp) ?_
      intro sa2 cap2 w2 hown2 hg2 hat2 hnn2
      have HP2 := Lib.hid (And.intro hown2 (And.intro hg2 hat2))
      obtain ⟨hHeld, z3⟩ := HK2.out _ _ hg2
      refine hK _ _ (Or.inr hHeld) (fun _ => ?_)
      clear hK K hown2 hg2 hat2 hnn2
      simp only [Act.put, List.setIfInBounds_toArray, List.set_cons_zero, List.set_cons_succ]
      refine z_one 12 rfl (by kernel_rfl) (by rfl) (fun K hK => ?_)
      simp only [List.getElem_toArray, List.getElem_cons_zero, List.getElem_cons_succ]
      go_simp
      refine hK _ _ (Or.inr hHeld) (fun _ => ?_)
      clear hK K
      refine z_one 13 rfl (by kernel_rfl) (by rfl) (fun K hK => ?_)
      simp only [List.getElem_toArray, List.getElem_cons_zero, List.getElem_cons_succ]
      go_simp
      refine hK _ _ (Or.inr hHeld) (fun _ => ?_)
      clear hK K
      refine z_one 14 rfl (by kernel_rfl) (by rfl) (fun K hK => ?_)
      simp only [List.getElem_toArray, List.getElem_cons_zero, List.getElem_cons_succ]
      obtain ⟨hh0, hh1, hh2⟩ := hHeld
      go_simp
      refine hK _ _ (Or.inl rfl) (fun _ => ?_)
      clear hK K
      refine z_done (by kernel_rfl) ?_ _
      have HH2 := HP2.out
      have R := DiskAt.pushed HD.out (at_ + k, c) (((Keeps.refl _ wr).alloc _).drew) (by rw [wrote_lo _ _ _ _ (by rw [HM.out]; exact hk)]; simpa using HH2.1) (by rw [wrote_lo _ _ _ _ (by rw [HM.out]; exact hk)]; exact HH2.2.1) (by rw [wrote_lo _ _ _ _ (by rw [HM.out]; exact hk)]; exact HH2.2.2)
      rw [wrote_lo _ _ _ _ (by rw [HM.out]; exact hk)] at R
      have HR := Lib.hid R
      clear R HH2 hh0 hh1 hh2 z3 r0 r1 r2 r3 z2 i3
      go_wp2
      go_roundw
      case rel =>
        refine ⟨_, _, _, ?_, rfl, rfl, rfl⟩
        obtain ⟨R1, R2, R3⟩ := HR.out
        refine ⟨k + 1, sa2, cap2, by omega, by go_num, ?_, HKP.out.trans R2 ?_, ?_⟩
        · have e : { D.wrote at_ l k with lo := (D.wrote at_ l k).lo ++ [(at_ + k, c)] } = D.wrote at_ l (k + 1) := by
            simp only [DS.wrote, mkLo_take _ _ _ _ HC2.out, List.append_assoc]
          rw [← e]
          exact R1
        · intro j hj hf
          rcases hf with h | h | h | h
          · exact Or.inl h
          · exact Or.inr (Or.inl h)
          · exact Or.inr (Or.inr (Or.inl h))
          · rcases HSL.out j h with h' | h'
            · exact Or.inr (Or.inr (Or.inr h'))
            · omega
        · intro j hj
          rcases R3 j hj with h | h
          · exact HSL.out j h
          · right; have := HKP.out.size; omega
      case measure => simp [intOf]; omega
    · go_wp2
      go_ret
      obtain rfl : k = m := by omega
      exact ⟨rfl, sl', cl', by have := HD.out; rw [← HM.out, wrote_all] at this; exact this, HKP.out, HSL.out⟩
end Go.Proofs.Ytllfiplhfbbhaaa
