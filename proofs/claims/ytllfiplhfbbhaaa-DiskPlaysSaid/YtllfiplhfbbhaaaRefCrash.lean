/-
  The reference's Crash of layer 28: what it tells. Conditions: sizes up to 65536, loose bytes at places that there are.
-/
import Derived.Test.YtllfiplhfbbhaaaRefDisk
namespace Go.Proofs.Ytllfiplhfbbhaaa
open Go.RowKit

/-- What holds at the head of each round of the reference's loop. -/
def RCRel (w2 : World) (D : DS) (n gx cx m : Nat) (i : Value) (wr : World) : Prop :=
  ∃ k : Nat, k ≤ m ∧ i = .int .i64 k ∧ wr.ownsRow 0 5 1 (.slice (some ⟨gx, 0, none⟩) n cx) n (BV (D.left k)) ∧ Keeps (fun j => j = gx) w2 wr

theorem keeps_cells8 {w1 W : World} {b1 : Nat} (hW : Keeps (fun k => k = b1 ∨ k = b1 + 1) w1 W) {w : World} (h : Keeps (fun _ => False) w w1) (hb : w.heap.size ≤ b1) : Keeps (fun _ => False) w W :=
  h.trans hW (fun k hlt e => by omega)

set_option maxHeartbeats 4000000 in
theorem refCrash_any (B m : Nat) (D : DS) (v : Array Value) (w : World) (h : RefAt w B v D) (hcr : D.cr = false) (n : Nat) (hn : D.now.length = n) (hsn : D.sure.length = n) (hD : n ≤ 65536) (hn0 : 0 < n) (hm : m ≤ 1000000) (hlo : D.lo.length ≤ 1000000) (hin : ∀ x ∈ D.lo, x.1 < n) (hB : B ≤ w.heap.size) :
    Calls Try.prog 17 #[.agg v, .int .i64 m] w fun e w' => ∃ v', e = .returned (.tuple #[.agg v', .int .i64 0]) ∧ RefAt w' B v' (D.crash m) ∧ Keeps (fun _ => False) w w' ∧ RGrow w v v' := by
  obtain ⟨sn, cn, ss, cs, sa, ca, sb, cb, rfl, h1, h2, h3, h4⟩ := h.rows
  rw [hsn] at h2
  rw [hcr, hn, hsn]
  obtain ⟨nl, hnl⟩ : ∃ nl, D.lo.length = nl := ⟨_, rfl⟩
  rw [hnl] at h3 h4 hlo
  rw [hnl]
  obtain ⟨hc, hnil⟩ := own_cap h2
  have HS : Hid (∀ (X Y : Obj) (ad : Addr), ss = some ad → ∀ (j : Nat) (u : Value), (BV D.sure)[j]? = some u → ((w.alloc X).alloc Y).cell? (ad.add j) = some u) := by
    intro X Y ad had j u hu
    have hcell := lies_of_own h2 ad had j u hu
    exact ((((Keeps.refl (fun _ => False) w).alloc X).alloc Y).cell (World.block_lt_of_cell? w _ hcell) (fun h => h)).trans hcell
  have HN := Lib.hid (And.intro hsn (And.intro hnil (And.intro hcr (And.intro h1 (And.intro h2 (And.intro h3 (And.intro h4 (And.intro hin (And.intro hnl hn)))))))))
  clear h h1 h2 h3 h4 hn hsn hnil hcr hin hnl
  go_enter Try.func17, Try.ntmps17
  go_wp2_with fail
  refine (own_any ss n cs D.sure _ HN.out.1 (by omega) HN.out.2.1 (HS.out _ _)).mono ?_
  rintro e w1 ⟨sx, cx, rfl, hown, hk⟩
  have hs := two_boxes w (.cells #[.slice sn n cn, .slice ss n cs, .slice sa nl ca, .slice sb nl cb, .bool false] 29) (.cells #[.slice none 0 0, .slice none 0 0, .slice none 0 0, .slice none 0 0, .bool false] 29)
  have hsz : ((w.alloc (.cells #[.slice sn n cn, .slice ss n cs, .slice sa nl ca, .slice sb nl cb, .bool false] 29)).alloc (.cells #[.slice none 0 0, .slice none 0 0, .slice none 0 0, .slice none 0 0, .bool false] 29)).heap.size = w.heap.size + 1 + 1 := by simp
  rw [hsz] at hown
  obtain ⟨g1, g2, g3⟩ := hs
  have q1 := (hk.block w.heap.size (by rw [hsz]; omega) (fun h => h)).trans g1
  have q2 := (hk.block (w.heap.size + 1) (by rw [hsz]; omega) (fun h => h)).trans g2
  have hk1 := g3.trans hk (fun _ _ h => h)
  obtain ⟨gx, rfl⟩ : ∃ g, sx = some ⟨g, 0, none⟩ := by
    rcases own_addr hown with ⟨_, h, _⟩ | h
    · omega
    · exact h
  have hgx := (own_lt hown rfl).1
  have c0 := cellAt q1 0
  have f0 := freeAt q1 0
  simp at c0
  have HQ := Lib.hid (And.intro q1 (And.intro q2 (And.intro hown hk1)))
  clear hown hk hk1 q1 q2 g1 g2 g3 hsz HS
  generalize hb1 : w.heap.size = b1 at *
  go_wp2_with fail
  clear c0 f0
  obtain ⟨w2, hw2⟩ : ∃ w2, w2 = w1.setCell ⟨b1, 0, none⟩ (.slice (some ⟨gx, 0, none⟩) n cx) := ⟨_, rfl⟩
  rw [← hw2]
  have hkw : Keeps (fun k => k = b1) w1 w2 := by rw [hw2]; exact (Keeps.refl (fun k => k = b1) w1).setCell (p := ⟨b1, 0, none⟩) (fun _ => rfl) _
  have hq1 : w2.heap[b1]? = some (.cells #[.slice (some ⟨gx, 0, none⟩) n cx, .slice ss n cs, .slice sa nl ca, .slice sb nl cb, .bool false] 29 (0, 0)) := by rw [hw2, heap_setCell_at HQ.out.1]; rfl
  have hq2 : w2.heap[b1 + 1]? = some (.cells #[.slice none 0 0, .slice none 0 0, .slice none 0 0, .slice none 0 0, .bool false] 29 (0, 0)) := (hkw.block (b1 + 1) (lt_of_heap HQ.out.2.1) (by omega)).trans HQ.out.2.1
  have hrx : w2.ownsRow 0 5 1 (.slice (some ⟨gx, 0, none⟩) n cx) n (BV (D.left 0)) := own_base (own_keep HQ.out.2.2.1 hkw (fun k e => by simp [Value.ownBlock] at e; omega)) (fun _ _ => Nat.zero_le _)
  have hkz : Keeps (fun _ => False) w w2 := HQ.out.2.2.2.trans hkw (fun k hlt e => by omega)
  have HZ := Lib.hid (And.intro hq1 (And.intro hq2 (And.intro hrx hkz)))
  have hgl : gx < w2.heap.size := (own_lt hrx rfl).2
  clear hkw hq1 hq2 hrx hkz hw2 HQ
  obtain ⟨mm, hmm⟩ : ∃ mm, min m nl = mm := ⟨_, rfl⟩
  have hmm1 : mm ≤ m := by omega
  have hmm2 : mm ≤ nl := by omega
  have HMM := Lib.hid hmm
  clear hmm
  go_loopw [6] (fun i wr => RCRel w2 D n gx cx mm i wr) (fun i _ => mm - (intOf i).toNat)
  case atStart => exact ⟨0, Nat.zero_le _, rfl, HZ.out.2.2.1, Keeps.refl _ _⟩
  case round =>
    obtain ⟨k, hk, rfl, hrow, hkp⟩ := hrel
    have HB := Lib.hid (And.intro hrow hkp)
    clear hrow hkp
    have qb := (HB.out.2.block b1 (lt_of_heap HZ.out.1) (by omega)).trans HZ.out.1
    have c0 := cellAt qb 0
    have c2 := cellAt qb 2
    have c3 := cellAt qb 3
    simp at c0 c2 c3
    by_cases hlt : k < mm
    · obtain ⟨hsn, hnil, hcr, h1, h2, h3, h4, hin, hnl, hn⟩ := HN.out
      obtain ⟨x, hx⟩ : ∃ x, D.lo[k]? = some x := ⟨_, List.getElem?_eq_getElem (by omega)⟩
      have hxn := hin x (List.mem_of_getElem? hx)
      obtain ⟨ga, rfl⟩ : ∃ g, sa = some ⟨g, 0, none⟩ := by
        rcases own_addr h3 with ⟨_, h, _⟩ | h
        · omega
        · exact h
      obtain ⟨gb, rfl⟩ : ∃ g, sb = some ⟨g, 0, none⟩ := by
        rcases own_addr h4 with ⟨_, h, _⟩ | h
        · omega
        · exact h
      have ra := own_cell h3 k (.int .i64 (x.1 : Int)) (by simp only [NV, List.map_map, List.getElem?_map, hx]; rfl)
      have rb := own_cell h4 k (.int .u8 (x.2.toNat : Int)) (by simp only [BV, List.map_map, List.getElem?_map, hx]; rfl)
      have la := (own_lt h3 rfl).2
      have lb := (own_lt h4 rfl).2
      have r1 : wr.cell? ⟨ga, k, none⟩ = some (.int .i64 (x.1 : Int)) := (HB.out.2.cell (p := ⟨ga, k, none⟩) (Nat.lt_of_lt_of_le la HZ.out.2.2.2.size) (by simp only; omega)).trans ((HZ.out.2.2.2.cell (p := ⟨ga, k, none⟩) la (fun h => h)).trans ra)
      have r2 : wr.cell? ⟨gb, k, none⟩ = some (.int .u8 (x.2.toNat : Int)) := (HB.out.2.cell (p := ⟨gb, k, none⟩) (Nat.lt_of_lt_of_le lb HZ.out.2.2.2.size) (by simp only; omega)).trans ((HZ.out.2.2.2.cell (p := ⟨gb, k, none⟩) lb (fun h => h)).trans rb)
      have hoc := HB.out.1.cellAt x.1 (by omega)
      rw [List.getElem?_eq_getElem (by rw [BV_length, left_len, hsn]; exact hxn)] at hoc
      generalize (BV (D.left k))[x.1]'(by rw [BV_length, left_len, hsn]; exact hxn) = vold at hoc
      have hof := HB.out.1.frozenAt x.1
      have HST : Hid (RCRel w2 D n gx cx mm (.int .i64 ((k + 1 : Nat) : Int)) ((wr.setCell ⟨gx, x.1, none⟩ (.int .u8 (x.2.toNat : Int))).drew)) := by
        refine ⟨k + 1, by omega, rfl, ?_, (Keeps.setCell (F := fun j => j = gx) HB.out.2 (p := ⟨gx, x.1, none⟩) (fun _ => rfl) _).drew⟩
        rw [left_succ D k x hx]
        have := (HB.out.1.stored x.1 (.int .u8 (x.2.toNat : Int))).1
        rw [show BV ((D.left k).set x.1 x.2) = (BV (D.left k)).set x.1 (.int .u8 (x.2.toNat : Int)) by simp only [BV, List.map_set]]
        exact this
      clear hsn hnil hcr h1 h2 h3 h4 hin hnl hn hx ra rb la lb qb
      have t1 : (k : Int) < (m : Int) := by omega
      have t2 : (k : Int) < (nl : Int) := by omega
      have t3 : (0 : Int) ≤ (k : Int) := by omega
      have t4 : (0 : Int) ≤ (x.1 : Int) := by omega
      have t5 : (x.1 : Int) < (n : Int) := by omega
      go_wp2_with fail
      refine z_begin (fun w' => w'.cell? ⟨b1, 0, none⟩ = some (.slice (some ⟨gx, 0, none⟩) n cx) ∧ w'.cell? ⟨b1, 2, none⟩ = some (.slice (some ⟨ga, 0, none⟩) nl ca) ∧ w'.cell? ⟨b1, 3, none⟩ = some (.slice (some ⟨gb, 0, none⟩) nl cb) ∧ w'.cell? ⟨ga, k, none⟩ = some (.int .i64 (x.1 : Int)) ∧ w'.cell? ⟨gb, k, none⟩ = some (.int .u8 (x.2.toNat : Int))) 13 (by kernel_rfl) (⟨c0, c2, c3, r1, r2⟩) (fun hHeld => ?_)
      refine z_take 0 (v := ?_) rfl (by kernel_rfl) (by kernel_rfl) (by kernel_rfl) (by kernel_rfl) (fun _ _ _ h => h) hHeld (by rfl) (fun w hSw => ?_) ?_
      rotate_left
      · obtain ⟨hSw1, hSw2, hSw3, hSw4, hSw5⟩ := hSw; simp only [List.getElem_toArray, List.getElem_cons_zero]; go_simp; try rfl
      simp only [Act.put, List.getElem_toArray, List.getElem_cons_zero, List.setIfInBounds_toArray, List.set_cons_zero, List.set_cons_succ]
      refine z_take 1 (v := ?_) rfl (by kernel_rfl) (by kernel_rfl) (by kernel_rfl) (by kernel_rfl) (fun _ _ _ h => h) hHeld (by rfl) (fun w hSw => ?_) ?_
      rotate_left
      · obtain ⟨hSw1, hSw2, hSw3, hSw4, hSw5⟩ := hSw; simp only [List.getElem_toArray, List.getElem_cons_zero, List.getElem_cons_succ]; go_simp; try rfl
      simp only [Act.put, List.getElem_toArray, List.getElem_cons_zero, List.getElem_cons_succ, List.setIfInBounds_toArray, List.set_cons_zero, List.set_cons_succ]
      refine z_take 2 (v := ?_) rfl (by kernel_rfl) (by kernel_rfl) (by kernel_rfl) (by kernel_rfl) (fun _ _ _ h => h) hHeld (by rfl) (fun w hSw => ?_) ?_
      rotate_left
      · obtain ⟨hSw1, hSw2, hSw3, hSw4, hSw5⟩ := hSw; simp only [List.getElem_toArray, List.getElem_cons_zero, List.getElem_cons_succ]; go_simp; try rfl
      simp only [Act.put, List.getElem_toArray, List.getElem_cons_zero, List.getElem_cons_succ, List.setIfInBounds_toArray, List.set_cons_zero, List.set_cons_succ]
      refine z_take 3 (v := ?_) rfl (by kernel_rfl) (by kernel_rfl) (by kernel_rfl) (by kernel_rfl) (fun _ _ _ h => h) hHeld (by rfl) (fun w hSw => ?_) ?_
      rotate_left
      · obtain ⟨hSw1, hSw2, hSw3, hSw4, hSw5⟩ := hSw; simp only [List.getElem_toArray, List.getElem_cons_zero, List.getElem_cons_succ]; go_simp; try rfl
      simp only [Act.put, List.getElem_toArray, List.getElem_cons_zero, List.getElem_cons_succ, List.setIfInBounds_toArray, List.set_cons_zero, List.set_cons_succ]
      refine z_take 4 (v := ?_) rfl (by kernel_rfl) (by kernel_rfl) (by kernel_rfl) (by kernel_rfl) (fun _ _ _ h => h) hHeld (by rfl) (fun w hSw => ?_) ?_
      rotate_left
      · obtain ⟨hSw1, hSw2, hSw3, hSw4, hSw5⟩ := hSw; simp only [List.getElem_toArray, List.getElem_cons_zero, List.getElem_cons_succ]; go_simp; try rfl
      simp only [Act.put, List.getElem_toArray, List.getElem_cons_zero, List.getElem_cons_succ, List.setIfInBounds_toArray, List.set_cons_zero, List.set_cons_succ]
      refine z_take 5 (v := ?_) rfl (by kernel_rfl) (by kernel_rfl) (by kernel_rfl) (by kernel_rfl) (fun _ _ _ h => h) hHeld (by rfl) (fun w hSw => ?_) ?_
      rotate_left
      · obtain ⟨hSw1, hSw2, hSw3, hSw4, hSw5⟩ := hSw; simp only [List.getElem_toArray, List.getElem_cons_zero, List.getElem_cons_succ]; go_simp; try rfl
      simp only [Act.put, List.getElem_toArray, List.getElem_cons_zero, List.getElem_cons_succ, List.setIfInBounds_toArray, List.set_cons_zero, List.set_cons_succ]
      refine z_take 6 (v := ?_) rfl (by kernel_rfl) (by kernel_rfl) (by kernel_rfl) (by kernel_rfl) (fun _ _ _ h => h) hHeld (by rfl) (fun w hSw => ?_) ?_
      rotate_left
      · obtain ⟨hSw1, hSw2, hSw3, hSw4, hSw5⟩ := hSw; simp only [List.getElem_toArray, List.getElem_cons_zero, List.getElem_cons_succ]; go_simp; try rfl
      simp only [Act.put, List.getElem_toArray, List.getElem_cons_zero, List.getElem_cons_succ, List.setIfInBounds_toArray, List.set_cons_zero, List.set_cons_succ]
      refine z_take 7 (v := ?_) rfl (by kernel_rfl) (by kernel_rfl) (by kernel_rfl) (by kernel_rfl) (fun _ _ _ h => h) hHeld (by rfl) (fun w hSw => ?_) ?_
      rotate_left
      · obtain ⟨hSw1, hSw2, hSw3, hSw4, hSw5⟩ := hSw; simp only [List.getElem_toArray, List.getElem_cons_zero, List.getElem_cons_succ]; go_simp; try rfl
      simp only [Act.put, List.getElem_toArray, List.getElem_cons_zero, List.getElem_cons_succ, List.setIfInBounds_toArray, List.set_cons_zero, List.set_cons_succ]
      refine z_take 8 (v := ?_) rfl (by kernel_rfl) (by kernel_rfl) (by kernel_rfl) (by kernel_rfl) (fun _ _ _ h => h) hHeld (by rfl) (fun w hSw => ?_) ?_
      rotate_left
      · obtain ⟨hSw1, hSw2, hSw3, hSw4, hSw5⟩ := hSw; simp only [List.getElem_toArray, List.getElem_cons_zero, List.getElem_cons_succ]; go_simp; try rfl
      simp only [Act.put, List.getElem_toArray, List.getElem_cons_zero, List.getElem_cons_succ, List.setIfInBounds_toArray, List.set_cons_zero, List.set_cons_succ]
      refine z_take 9 (v := ?_) rfl (by kernel_rfl) (by kernel_rfl) (by kernel_rfl) (by kernel_rfl) (fun _ _ _ h => h) hHeld (by rfl) (fun w hSw => ?_) ?_
      rotate_left
      · obtain ⟨hSw1, hSw2, hSw3, hSw4, hSw5⟩ := hSw; simp only [List.getElem_toArray, List.getElem_cons_zero, List.getElem_cons_succ]; go_simp; try rfl
      simp only [Act.put, List.getElem_toArray, List.getElem_cons_zero, List.getElem_cons_succ, List.setIfInBounds_toArray, List.set_cons_zero, List.set_cons_succ]
      refine z_take 10 (v := ?_) rfl (by kernel_rfl) (by kernel_rfl) (by kernel_rfl) (by kernel_rfl) (fun _ _ _ h => h) hHeld (by rfl) (fun w hSw => ?_) ?_
      rotate_left
      · obtain ⟨hSw1, hSw2, hSw3, hSw4, hSw5⟩ := hSw; simp only [List.getElem_toArray, List.getElem_cons_zero, List.getElem_cons_succ]; go_simp; try rfl
      simp only [Act.put, List.getElem_toArray, List.getElem_cons_zero, List.getElem_cons_succ, List.setIfInBounds_toArray, List.set_cons_zero, List.set_cons_succ]
      refine z_take 11 (v := ?_) rfl (by kernel_rfl) (by kernel_rfl) (by kernel_rfl) (by kernel_rfl) (fun _ _ _ h => h) hHeld (by rfl) (fun w hSw => ?_) ?_
      rotate_left
      · obtain ⟨hSw1, hSw2, hSw3, hSw4, hSw5⟩ := hSw; simp only [List.getElem_toArray, List.getElem_cons_zero, List.getElem_cons_succ]; go_simp; try rfl
      simp only [Act.put, List.getElem_toArray, List.getElem_cons_zero, List.getElem_cons_succ, List.setIfInBounds_toArray, List.set_cons_zero, List.set_cons_succ]
      refine z_take 12 (v := ?_) rfl (by kernel_rfl) (by kernel_rfl) (by kernel_rfl) (by kernel_rfl) (fun _ _ _ h => h) hHeld (by rfl) (fun w hSw => ?_) ?_
      rotate_left
      · obtain ⟨hSw1, hSw2, hSw3, hSw4, hSw5⟩ := hSw; simp only [List.getElem_toArray, List.getElem_cons_zero, List.getElem_cons_succ]; go_simp; try rfl
      simp only [Act.put, List.getElem_toArray, List.getElem_cons_zero, List.getElem_cons_succ, List.setIfInBounds_toArray, List.set_cons_zero, List.set_cons_succ]
      refine z_one 13 rfl (by kernel_rfl) (by rfl) (fun K hK => ?_)
      simp only [List.getElem_toArray, List.getElem_cons_zero, List.getElem_cons_succ]
      go_simp
      refine hK _ _ (Or.inl rfl) (fun _ => ?_)
      clear hK K
      refine z_done (by kernel_rfl) ?_ _
      clear c0 c2 c3 r1 r2 hoc hof
      go_wp2
      go_roundw
      case rel => first | exact HST.out | exact ⟨_, _, HST.out, rfl, rfl⟩ | (refine ⟨_, ?_, rfl⟩; exact HST.out)
      case measure => simp [intOf]; omega
    · obtain rfl : k = mm := by omega
      have q2 := (HB.out.2.block (b1 + 1) (lt_of_heap HZ.out.2.1) (by omega)).trans HZ.out.2.1
      have HK2 := Lib.hid (And.intro qb q2)
      have HLN : Hid ((D.left k).length = n) := by show _ = _; rw [left_len, HN.out.1]
      have hkw : Keeps (fun _ => False) w wr := HZ.out.2.2.2.trans HB.out.2 (fun j hj e => by omega)
      have HKW := Lib.hid hkw
      clear qb q2 hkw
      by_cases hkm : k < m
      · have t1 : (k : Int) < (m : Int) := by omega
        have t2 : ¬ (k : Int) < (nl : Int) := by have := HMM.out; omega
        go_wp2_with fail
        refine (own_any (some ⟨gx, 0, none⟩) n cx (D.left k) _ HLN.out (by omega) (fun h => by cases h) (lies_of_own HB.out.1)).mono ?_
        rintro e w3 ⟨sy, cy, rfl, hown, hk⟩
        have q1 := (hk.block b1 (lt_of_heap HK2.out.1) (fun h => h)).trans HK2.out.1
        have q2 := (hk.block (b1 + 1) (lt_of_heap HK2.out.2) (fun h => h)).trans HK2.out.2
        have HY := Lib.hid (And.intro hown hk)
        have c0 := cellAt q1 0
        have c1 := cellAt q1 1
        have c2 := cellAt q1 2
        have c3 := cellAt q1 3
        have c4 := cellAt q1 4
        have f1 := freeAt q1 1
        have f2 := freeAt q1 2
        have f3 := freeAt q1 3
        have f4 := freeAt q1 4
        have d0 := cellAt q2 0
        have d1 := cellAt q2 1
        have d2 := cellAt q2 2
        have d3 := cellAt q2 3
        have d4 := cellAt q2 4
        have e0 := freeAt q2 0
        have e1 := freeAt q2 1
        have e2 := freeAt q2 2
        have e3 := freeAt q2 3
        have e4 := freeAt q2 4
        simp at c0 c1 c2 c3 c4 d0 d1 d2 d3 d4
        clear hown hk q1 q2
        go_wp2
        refine bodyPost_ret (v := .tuple #[.agg #[.slice (some ⟨gx, 0, none⟩) n cx, .slice sy n cy, .slice none 0 0, .slice none 0 0, .bool true], .int .i64 0]) (by simp [results, Try.results17, go_sem, d0, d1, d2, d3, d4]) rfl ⟨_, rfl, ?_, ?_, ?_⟩
        · have hkf : ∀ W : World, Keeps (fun k => k = b1 ∨ k = b1 + 1) w3 W → RefAt W B #[.slice (some ⟨gx, 0, none⟩) n cx, .slice sy n cy, .slice none 0 0, .slice none 0 0, .bool true] (D.crash m) := by
            intro W hW
            have hl : leftNat m D.lo.length = k := by rw [HN.out.2.2.2.2.2.2.2.2.1, ← HMM.out]; unfold leftNat; omega
            have hcd : D.crash m = ⟨D.left k, D.left k, [], true⟩ := by unfold DS.crash; rw [hl]
            rw [hcd]
            obtain ⟨hown, hk⟩ := HY.out
            have hsz := HKW.out.size
            refine ⟨some ⟨gx, 0, none⟩, cx, sy, cy, none, 0, none, 0, by simp [HLN.out], ?_, ?_, World.ownsRow_nil _ _ _ _, World.ownsRow_nil _ _ _ _⟩
            · show W.ownsRow B 5 1 (.slice (some ⟨gx, 0, none⟩) (D.left k).length cx) (D.left k).length (BV (D.left k))
              rw [HLN.out]
              exact own_base (own_keep (own_keep HB.out.1 hk (fun _ _ h => h)) hW (fun j e => by simp [Value.ownBlock] at e; omega)) (fun j e => by simp [Value.ownBlock] at e; omega)
            · show W.ownsRow B 5 1 (.slice sy (D.left k).length cy) (D.left k).length (BV (D.left k))
              rw [HLN.out]
              have hb2 := lt_of_heap HK2.out.2
              exact own_base (own_keep hown hW (fun j e => by have := (hown.lt j e).1; omega)) (fun j e => by have := (hown.lt j e).1; omega)
          exact hkf _ (by (iterate 9 with_reducible refine Keeps.setCell (F := fun k => k = b1 ∨ k = b1 + 1) ?_ (p := ⟨_, _, none⟩) (fun _ => by first | exact Or.inl rfl | exact Or.inr rfl) _); exact Keeps.refl _ _)
        · have hkf : ∀ W : World, Keeps (fun k => k = b1 ∨ k = b1 + 1) w3 W → Keeps (fun _ => False) w W := fun W hW => keeps_cells8 hW (HKW.out.trans HY.out.2 (fun _ _ h => h)) (by omega)
          exact hkf _ (by (iterate 9 with_reducible refine Keeps.setCell (F := fun k => k = b1 ∨ k = b1 + 1) ?_ (p := ⟨_, _, none⟩) (fun _ => by first | exact Or.inl rfl | exact Or.inr rfl) _); exact Keeps.refl _ _)
        · exact fun G hG hfr => RF.five (fun j e => hfr j (by have := HKW.out.size; simp [Value.ownBlock] at e; omega)) (fun j e => hfr j (by have := HKW.out.size; have := (HY.out.1.lt j e).1; have := lt_of_heap HK2.out.2; omega)) (fun j e => by cases e) (fun j e => by cases e)
      · have t1 : ¬ (k : Int) < (m : Int) := by omega
        go_wp2_with fail
        refine (own_any (some ⟨gx, 0, none⟩) n cx (D.left k) _ HLN.out (by omega) (fun h => by cases h) (lies_of_own HB.out.1)).mono ?_
        rintro e w3 ⟨sy, cy, rfl, hown, hk⟩
        have q1 := (hk.block b1 (lt_of_heap HK2.out.1) (fun h => h)).trans HK2.out.1
        have q2 := (hk.block (b1 + 1) (lt_of_heap HK2.out.2) (fun h => h)).trans HK2.out.2
        have HY := Lib.hid (And.intro hown hk)
        have c0 := cellAt q1 0
        have c1 := cellAt q1 1
        have c2 := cellAt q1 2
        have c3 := cellAt q1 3
        have c4 := cellAt q1 4
        have f1 := freeAt q1 1
        have f2 := freeAt q1 2
        have f3 := freeAt q1 3
        have f4 := freeAt q1 4
        have d0 := cellAt q2 0
        have d1 := cellAt q2 1
        have d2 := cellAt q2 2
        have d3 := cellAt q2 3
        have d4 := cellAt q2 4
        have e0 := freeAt q2 0
        have e1 := freeAt q2 1
        have e2 := freeAt q2 2
        have e3 := freeAt q2 3
        have e4 := freeAt q2 4
        simp at c0 c1 c2 c3 c4 d0 d1 d2 d3 d4
        clear hown hk q1 q2
        go_wp2
        refine bodyPost_ret (v := .tuple #[.agg #[.slice (some ⟨gx, 0, none⟩) n cx, .slice sy n cy, .slice none 0 0, .slice none 0 0, .bool true], .int .i64 0]) (by simp [results, Try.results17, go_sem, d0, d1, d2, d3, d4]) rfl ⟨_, rfl, ?_, ?_, ?_⟩
        · have hkf : ∀ W : World, Keeps (fun k => k = b1 ∨ k = b1 + 1) w3 W → RefAt W B #[.slice (some ⟨gx, 0, none⟩) n cx, .slice sy n cy, .slice none 0 0, .slice none 0 0, .bool true] (D.crash m) := by
            intro W hW
            have hl : leftNat m D.lo.length = k := by rw [HN.out.2.2.2.2.2.2.2.2.1, ← HMM.out]; unfold leftNat; omega
            have hcd : D.crash m = ⟨D.left k, D.left k, [], true⟩ := by unfold DS.crash; rw [hl]
            rw [hcd]
            obtain ⟨hown, hk⟩ := HY.out
            have hsz := HKW.out.size
            refine ⟨some ⟨gx, 0, none⟩, cx, sy, cy, none, 0, none, 0, by simp [HLN.out], ?_, ?_, World.ownsRow_nil _ _ _ _, World.ownsRow_nil _ _ _ _⟩
            · show W.ownsRow B 5 1 (.slice (some ⟨gx, 0, none⟩) (D.left k).length cx) (D.left k).length (BV (D.left k))
              rw [HLN.out]
              exact own_base (own_keep (own_keep HB.out.1 hk (fun _ _ h => h)) hW (fun j e => by simp [Value.ownBlock] at e; omega)) (fun j e => by simp [Value.ownBlock] at e; omega)
            · show W.ownsRow B 5 1 (.slice sy (D.left k).length cy) (D.left k).length (BV (D.left k))
              rw [HLN.out]
              have hb2 := lt_of_heap HK2.out.2
              exact own_base (own_keep hown hW (fun j e => by have := (hown.lt j e).1; omega)) (fun j e => by have := (hown.lt j e).1; omega)
          exact hkf _ (by (iterate 9 with_reducible refine Keeps.setCell (F := fun k => k = b1 ∨ k = b1 + 1) ?_ (p := ⟨_, _, none⟩) (fun _ => by first | exact Or.inl rfl | exact Or.inr rfl) _); exact Keeps.refl _ _)
        · have hkf : ∀ W : World, Keeps (fun k => k = b1 ∨ k = b1 + 1) w3 W → Keeps (fun _ => False) w W := fun W hW => keeps_cells8 hW (HKW.out.trans HY.out.2 (fun _ _ h => h)) (by omega)
          exact hkf _ (by (iterate 9 with_reducible refine Keeps.setCell (F := fun k => k = b1 ∨ k = b1 + 1) ?_ (p := ⟨_, _, none⟩) (fun _ => by first | exact Or.inl rfl | exact Or.inr rfl) _); exact Keeps.refl _ _)
        · exact fun G hG hfr => RF.five (fun j e => hfr j (by have := HKW.out.size; simp [Value.ownBlock] at e; omega)) (fun j e => hfr j (by have := HKW.out.size; have := (HY.out.1.lt j e).1; have := lt_of_heap HK2.out.2; omega)) (fun j e => by cases e) (fun j e => by cases e)
end Go.Proofs.Ytllfiplhfbbhaaa
