/-
  The reference's size, place and Room. Conditions: a store of the reference that reads as one.
-/
import Derived.Test.YtpojkhjenbbodaaRefPlain
namespace Go.Proofs.Ytpojkhjenbbodaa
open Go.RowKit

set_option maxHeartbeats 1000000 in
set_option maxRecDepth 10000 in
theorem refSize_any (sn : Option Addr) (N cn half : Nat) (a1 a2 a3 a4 u l t n k : Value) (w : World) (hN : N ≤ 1000000) (hh : half ≤ N) :
    Calls Try.prog 40 #[.agg #[.slice sn N cn, a1, a2, a3, a4, .int .i64 (half : Int), u, l, t, n, k]] w fun e w' => e = .returned (.int .i64 (((N - half) / 2 : Nat) : Int)) ∧ Keeps (fun _ => False) w w' := by
  obtain ⟨sz, hsz⟩ : ∃ z, (N - half) / 2 = z := ⟨_, rfl⟩
  obtain ⟨d, hd⟩ : ∃ d, N - half = d := ⟨_, rfl⟩
  have e1 : (N : Int) - (half : Int) = (d : Int) := by omega
  have e2 : (d : Int) / 2 = (sz : Int) := by omega
  have e3 : IntKind.i64.wrap (d : Int) = (d : Int) := IntWalk.i64_in _ (by omega)
  have e4 : IntKind.i64.wrap (sz : Int) = (sz : Int) := IntWalk.i64_in _ (by omega)
  rw [hsz]
  clear hsz hd
  go_enter Try.func40, Try.ntmps40
  obtain ⟨bx, hbx⟩ : ∃ b, w.heap.size = b := ⟨_, rfl⟩
  obtain ⟨w1, hw1⟩ : ∃ v, w.alloc (.cells #[.slice sn N cn, a1, a2, a3, a4, .int .i64 (half : Int), u, l, t, n, k] 41) = v := ⟨_, rfl⟩
  have hk : Keeps (fun _ => False) w w1 := by rw [← hw1]; exact (Keeps.refl _ w).alloc _
  have hb : w1.heap[bx]? = some (.cells #[.slice sn N cn, a1, a2, a3, a4, .int .i64 (half : Int), u, l, t, n, k] 41 (0, 0)) := by rw [← hw1, ← hbx]; exact World.alloc_heap_new w _
  have c0 := cellAt hb 0
  have c5 := cellAt hb 5
  simp at c0 c5
  have HK := Lib.hid hk
  clear hk hb
  go_wp2
  go_ret
  exact ⟨rfl, HK.out⟩

set_option maxHeartbeats 1000000 in
set_option maxRecDepth 10000 in
theorem refRoom_any (a0 a1 a2 a3 a4 l t n k : Value) (half used : Nat) (w : World) (hh : half ≤ 1000000) (hu : used ≤ half) :
    Calls Try.prog 35 #[.agg #[a0, a1, a2, a3, a4, .int .i64 (half : Int), .int .i64 (used : Int), l, t, n, k]] w fun e w' => e = .returned (.int .i64 (max ((half : Int) - (used : Int) - 10) (-1))) ∧ Keeps (fun _ => False) w w' := by
  have e3 : IntKind.i64.wrap ((half : Int) - (used : Int)) = (half : Int) - (used : Int) := IntWalk.i64_in _ (by omega)
  have e4 : IntKind.i64.wrap ((half : Int) - (used : Int) - 10) = (half : Int) - (used : Int) - 10 := IntWalk.i64_in _ (by omega)
  go_enter Try.func35, Try.ntmps35
  obtain ⟨bx, hbx⟩ : ∃ b, w.heap.size = b := ⟨_, rfl⟩
  obtain ⟨w1, hw1⟩ : ∃ v, w.alloc (.cells #[a0, a1, a2, a3, a4, .int .i64 (half : Int), .int .i64 (used : Int), l, t, n, k] 41) = v := ⟨_, rfl⟩
  have hk : Keeps (fun _ => False) w w1 := by rw [← hw1]; exact (Keeps.refl _ w).alloc _
  have hb : w1.heap[bx]? = some (.cells #[a0, a1, a2, a3, a4, .int .i64 (half : Int), .int .i64 (used : Int), l, t, n, k] 41 (0, 0)) := by rw [← hw1, ← hbx]; exact World.alloc_heap_new w _
  have c5 := cellAt hb 5
  have c6 := cellAt hb 6
  simp at c5 c6
  have HK := Lib.hid hk
  clear hk hb
  go_wp2
  go_ret
  exact ⟨by simp, HK.out⟩

/-- What place tells. -/
def PlacePost (w : World) (gn : Nat) (q : Nat × List UInt8) (e : Ending) (w' : World) : Prop := ∃ (sk : Option Addr) (nk ck tn : Nat) (is : Bool), e = .returned (.tuple #[.slice sk nk ck, .int .u64 (tn : Int), .bool is]) ∧
  is = decide (0 < q.1) ∧ (is = true → tn = q.1 ∧ nk = q.2.length ∧ Sl w' sk nk ck (BV q.2) ∧ ∃ o, sk = some ⟨gn, o, none⟩) ∧ Keeps (fun _ => False) w w'

set_option maxHeartbeats 4000000 in
set_option maxRecDepth 10000 in
theorem refPlace_any (gn on N cn half i a : Nat) (l : List UInt8) (a1 a2 a3 a4 u0 rl t n k : Value) (w : World) (hl : Sl w (some ⟨gn, on, none⟩) N cn (BV l)) (hN : N ≤ 1000000) (hh : half ≤ N) (hi : i ≤ 1) (ha : half + i * ((N - half) / 2) = a) (hfit : a + (N - half) / 2 ≤ N) (hz0 : 0 < (N - half) / 2) :
    Calls Try.prog 38 #[.agg #[.slice (some ⟨gn, on, none⟩) N cn, a1, a2, a3, a4, .int .i64 (half : Int), u0, rl, t, n, k], .int .i64 (i : Int)] w (PlacePost w gn (plOf l a ((N - half) / 2))) := by
  have HS : Hid (∀ u : World, Calls Try.prog 40 #[.agg #[.slice (some ⟨gn, on, none⟩) N cn, a1, a2, a3, a4, .int .i64 (half : Int), u0, rl, t, n, k]] u fun e w' => e = .returned (.int .i64 (((N - half) / 2 : Nat) : Int)) ∧ Keeps (fun _ => False) u w') := Lib.hid (fun u => refSize_any _ N cn half a1 a2 a3 a4 u0 rl t n k u hN hh)
  have hspec := plOf_spec l a ((N - half) / 2) (cut_length _ _ _ (by have := hl.len; rw [BV_length] at this; omega))
  have hsub := hl.cut (i := a) (k := (N - half) / 2) hfit
  have hcl : (cut l a ((N - half) / 2)).length = (N - half) / 2 := cut_length _ _ _ (by have := hl.len; rw [BV_length] at this; omega)
  obtain ⟨sz, hsz⟩ : ∃ z, (N - half) / 2 = z := ⟨_, rfl⟩
  rw [hsz] at HS hspec hsub ha hfit hcl hz0 ⊢
  obtain ⟨b, hb0⟩ : ∃ b, cut l a sz = b := ⟨_, rfl⟩
  rw [hb0] at hspec hsub hcl
  obtain ⟨q, hq⟩ : ∃ q, plOf l a sz = q := ⟨_, rfl⟩
  rw [hq] at hspec ⊢
  obtain ⟨isz, his⟩ : ∃ z, i * sz = z := ⟨_, rfl⟩
  rw [his] at ha
  have hib : isz ≤ sz := by rw [← his]; rcases (show i = 0 ∨ i = 1 by omega) with rfl | rfl <;> omega
  have m1 : (i : Int) * (sz : Int) = (isz : Int) := by rw [← his]; simp
  have m2 : IntKind.i64.wrap (isz : Int) = (isz : Int) := IntWalk.i64_in _ (by omega)
  have m3 : (half : Int) + (isz : Int) = (a : Int) := by omega
  have m4 : IntKind.i64.wrap (a : Int) = (a : Int) := IntWalk.i64_in _ (by omega)
  obtain ⟨a9, ha9⟩ : ∃ z, a + sz = z := ⟨_, rfl⟩
  have m5 : (a : Int) + (sz : Int) = (a9 : Int) := by omega
  have m6 : IntKind.i64.wrap (a9 : Int) = (a9 : Int) := IntWalk.i64_in _ (by omega)
  have hnc := hl.le
  have n1 : (0 : Int) ≤ (a : Int) := by omega
  have n2 : (a : Int) ≤ (a9 : Int) := by omega
  have n3 : (a9 : Int) ≤ (cn : Int) := by omega
  have n4 : a ≤ a9 := by omega
  have n5 : a9 - a = sz := by omega
  have n6 : a9 ≤ cn := by omega
  have n7 : ¬ cn = a := by omega
  have HSB := Lib.hid (And.intro hsub (And.intro hspec hcl))
  have hsz6 : sz ≤ 1000000 := by omega
  have hcnb := hl.capB
  have hac : a ≤ cn := by omega
  clear hl hspec hsub hsz hb0 hq his hib ha ha9 hcl hfit hN hh hi hz0
  go_enter Try.func38, Try.ntmps38
  obtain ⟨bx, hbx⟩ : ∃ b, w.heap.size = b := ⟨_, rfl⟩
  obtain ⟨w1, hw1⟩ : ∃ v, w.alloc (.cells #[.slice (some ⟨gn, on, none⟩) N cn, a1, a2, a3, a4, .int .i64 (half : Int), u0, rl, t, n, k] 41) = v := ⟨_, rfl⟩
  have hk : Keeps (fun _ => False) w w1 := by rw [← hw1]; exact (Keeps.refl _ w).alloc _
  have HB : Hid (w1.heap[bx]? = some (.cells #[.slice (some ⟨gn, on, none⟩) N cn, a1, a2, a3, a4, .int .i64 (half : Int), u0, rl, t, n, k] 41 (0, 0))) := by rw [← hw1, ← hbx]; exact World.alloc_heap_new w _
  have HK := Lib.hid hk
  clear hk
  go_wp2_with fail
  obtain ⟨v0, hdr⟩ : ∃ v, World.drew w1 = v := ⟨_, rfl⟩
  have hk : Keeps (fun _ => False) w1 v0 := by rw [← hdr]; exact (Keeps.refl _ _).drew
  replace HK := Lib.hid (HK.out.quiet hk)
  replace HB := Lib.hid ((hk.block bx (lt_of_heap HB.out) (fun h => h)).trans HB.out)
  refine z_begin (fun w' => Keeps (fun _ => False) (World.drew w1) w') 22 (by kernel_rfl) (Keeps.refl _ _) (fun hHeld => ?_)
  rw [hdr] at hHeld ⊢
  clear hk hdr
  refine z_take 0 (v := ?_) rfl (by kernel_rfl) (by kernel_rfl) (by kernel_rfl) (by kernel_rfl) (fun _ _ _ h => h) hHeld (by rfl) (fun w hSw => ?_) ?_
  rotate_left
  · have hb := (hSw.block bx (lt_of_heap HB.out) (fun h => h)).trans HB.out; have c0 := cellAt hb 0; have c5 := cellAt hb 5; simp at c0 c5; clear hb; clear hSw; simp only [List.getElem_toArray, List.getElem_cons_zero]; go_simp; try rfl
  simp only [Act.put, List.getElem_toArray, List.getElem_cons_zero, List.setIfInBounds_toArray, List.set_cons_zero, List.set_cons_succ]
  refine z_take 1 (v := ?_) rfl (by kernel_rfl) (by kernel_rfl) (by kernel_rfl) (by kernel_rfl) (fun _ _ _ h => h) hHeld (by rfl) (fun w hSw => ?_) ?_
  rotate_left
  · have hb := (hSw.block bx (lt_of_heap HB.out) (fun h => h)).trans HB.out; have c0 := cellAt hb 0; have c5 := cellAt hb 5; simp at c0 c5; clear hb; clear hSw; simp only [List.getElem_toArray, List.getElem_cons_zero, List.getElem_cons_succ]; go_simp; try rfl
  simp only [Act.put, List.getElem_toArray, List.getElem_cons_zero, List.getElem_cons_succ, List.setIfInBounds_toArray, List.set_cons_zero, List.set_cons_succ]
  refine z_take 2 (v := ?_) rfl (by kernel_rfl) (by kernel_rfl) (by kernel_rfl) (by kernel_rfl) (fun _ _ _ h => h) hHeld (by rfl) (fun w hSw => ?_) ?_
  rotate_left
  · have hb := (hSw.block bx (lt_of_heap HB.out) (fun h => h)).trans HB.out; have c0 := cellAt hb 0; have c5 := cellAt hb 5; simp at c0 c5; clear hb; clear hSw; simp only [List.getElem_toArray, List.getElem_cons_zero, List.getElem_cons_succ]; go_simp; try rfl
  simp only [Act.put, List.getElem_toArray, List.getElem_cons_zero, List.getElem_cons_succ, List.setIfInBounds_toArray, List.set_cons_zero, List.set_cons_succ]
  refine z_take 3 (v := ?_) rfl (by kernel_rfl) (by kernel_rfl) (by kernel_rfl) (by kernel_rfl) (fun _ _ _ h => h) hHeld (by rfl) (fun w hSw => ?_) ?_
  rotate_left
  · have hb := (hSw.block bx (lt_of_heap HB.out) (fun h => h)).trans HB.out; have c0 := cellAt hb 0; have c5 := cellAt hb 5; simp at c0 c5; clear hb; clear hSw; simp only [List.getElem_toArray, List.getElem_cons_zero, List.getElem_cons_succ]; go_simp; try rfl
  simp only [Act.put, List.getElem_toArray, List.getElem_cons_zero, List.getElem_cons_succ, List.setIfInBounds_toArray, List.set_cons_zero, List.set_cons_succ]
  refine z_take 4 (v := ?_) rfl (by kernel_rfl) (by kernel_rfl) (by kernel_rfl) (by kernel_rfl) (fun _ _ _ h => h) hHeld (by rfl) (fun w hSw => ?_) ?_
  rotate_left
  · have hb := (hSw.block bx (lt_of_heap HB.out) (fun h => h)).trans HB.out; have c0 := cellAt hb 0; have c5 := cellAt hb 5; simp at c0 c5; clear hb; clear hSw; simp only [List.getElem_toArray, List.getElem_cons_zero, List.getElem_cons_succ]; go_simp; try rfl
  simp only [Act.put, List.getElem_toArray, List.getElem_cons_zero, List.getElem_cons_succ, List.setIfInBounds_toArray, List.set_cons_zero, List.set_cons_succ]
  refine z_take 5 (v := ?_) rfl (by kernel_rfl) (by kernel_rfl) (by kernel_rfl) (by kernel_rfl) (fun _ _ _ h => h) hHeld (by rfl) (fun w hSw => ?_) ?_
  rotate_left
  · clear hSw; simp only [List.getElem_toArray, List.getElem_cons_zero, List.getElem_cons_succ]; go_simp; try rfl
  simp only [Act.put, List.getElem_toArray, List.getElem_cons_zero, List.getElem_cons_succ, List.setIfInBounds_toArray, List.set_cons_zero, List.set_cons_succ]
  refine z_take 6 (v := ?_) rfl (by kernel_rfl) (by kernel_rfl) (by kernel_rfl) (by kernel_rfl) (fun _ _ _ h => h) hHeld (by rfl) (fun w hSw => ?_) ?_
  rotate_left
  · have hb := (hSw.block bx (lt_of_heap HB.out) (fun h => h)).trans HB.out; have c0 := cellAt hb 0; have c1 := cellAt hb 1; have c2 := cellAt hb 2; have c3 := cellAt hb 3; have c4 := cellAt hb 4; have c5 := cellAt hb 5; have c6 := cellAt hb 6; have c7 := cellAt hb 7; have c8 := cellAt hb 8; have c9 := cellAt hb 9; have c10 := cellAt hb 10; simp at c0 c1 c2 c3 c4 c5 c6 c7 c8 c9 c10; clear hb; clear hSw; simp only [List.getElem_toArray, List.getElem_cons_zero, List.getElem_cons_succ]; go_simp; try rfl
  simp only [Act.put, List.getElem_toArray, List.getElem_cons_zero, List.getElem_cons_succ, List.setIfInBounds_toArray, List.set_cons_zero, List.set_cons_succ]
  refine z_take 10 (v := ?_) rfl (by kernel_rfl) (by kernel_rfl) (by kernel_rfl) (by kernel_rfl) (fun _ _ _ h => h) hHeld (by rfl) (fun w hSw => ?_) ?_
  rotate_left
  · have hb := (hSw.block bx (lt_of_heap HB.out) (fun h => h)).trans HB.out; have c0 := cellAt hb 0; have c5 := cellAt hb 5; simp at c0 c5; clear hb; clear hSw; simp only [List.getElem_toArray, List.getElem_cons_zero, List.getElem_cons_succ]; go_simp; try rfl
  simp only [Act.put, List.getElem_toArray, List.getElem_cons_zero, List.getElem_cons_succ, List.setIfInBounds_toArray, List.set_cons_zero, List.set_cons_succ]
  refine z_take 11 (v := ?_) rfl (by kernel_rfl) (by kernel_rfl) (by kernel_rfl) (by kernel_rfl) (fun _ _ _ h => h) hHeld (by rfl) (fun w hSw => ?_) ?_
  rotate_left
  · have hb := (hSw.block bx (lt_of_heap HB.out) (fun h => h)).trans HB.out; have c0 := cellAt hb 0; have c5 := cellAt hb 5; simp at c0 c5; clear hb; clear hSw; simp only [List.getElem_toArray, List.getElem_cons_zero, List.getElem_cons_succ]; go_simp; try rfl
  simp only [Act.put, List.getElem_toArray, List.getElem_cons_zero, List.getElem_cons_succ, List.setIfInBounds_toArray, List.set_cons_zero, List.set_cons_succ]
  refine z_take 12 (v := ?_) rfl (by kernel_rfl) (by kernel_rfl) (by kernel_rfl) (by kernel_rfl) (fun _ _ _ h => h) hHeld (by rfl) (fun w hSw => ?_) ?_
  rotate_left
  · clear hSw; simp only [List.getElem_toArray, List.getElem_cons_zero, List.getElem_cons_succ]; go_simp; try rfl
  simp only [Act.put, List.getElem_toArray, List.getElem_cons_zero, List.getElem_cons_succ, List.setIfInBounds_toArray, List.set_cons_zero, List.set_cons_succ]
  refine z_take 13 (v := ?_) rfl (by kernel_rfl) (by kernel_rfl) (by kernel_rfl) (by kernel_rfl) (fun _ _ _ h => h) hHeld (by rfl) (fun w hSw => ?_) ?_
  rotate_left
  · have hb := (hSw.block bx (lt_of_heap HB.out) (fun h => h)).trans HB.out; have c0 := cellAt hb 0; have c1 := cellAt hb 1; have c2 := cellAt hb 2; have c3 := cellAt hb 3; have c4 := cellAt hb 4; have c5 := cellAt hb 5; have c6 := cellAt hb 6; have c7 := cellAt hb 7; have c8 := cellAt hb 8; have c9 := cellAt hb 9; have c10 := cellAt hb 10; simp at c0 c1 c2 c3 c4 c5 c6 c7 c8 c9 c10; clear hb; clear hSw; simp only [List.getElem_toArray, List.getElem_cons_zero, List.getElem_cons_succ]; go_simp; try rfl
  simp only [Act.put, List.getElem_toArray, List.getElem_cons_zero, List.getElem_cons_succ, List.setIfInBounds_toArray, List.set_cons_zero, List.set_cons_succ]
  refine z_take 17 (v := ?_) rfl (by kernel_rfl) (by kernel_rfl) (by kernel_rfl) (by kernel_rfl) (fun _ _ _ h => h) hHeld (by rfl) (fun w hSw => ?_) ?_
  rotate_left
  · have hb := (hSw.block bx (lt_of_heap HB.out) (fun h => h)).trans HB.out; have c0 := cellAt hb 0; have c1 := cellAt hb 1; have c2 := cellAt hb 2; have c3 := cellAt hb 3; have c4 := cellAt hb 4; have c5 := cellAt hb 5; have c6 := cellAt hb 6; have c7 := cellAt hb 7; have c8 := cellAt hb 8; have c9 := cellAt hb 9; have c10 := cellAt hb 10; simp at c0 c1 c2 c3 c4 c5 c6 c7 c8 c9 c10; clear hb; clear hSw; simp only [List.getElem_toArray, List.getElem_cons_zero, List.getElem_cons_succ]; go_simp; try rfl
  simp only [Act.put, List.getElem_toArray, List.getElem_cons_zero, List.getElem_cons_succ, List.setIfInBounds_toArray, List.set_cons_zero, List.set_cons_succ]
  refine z_one 7 rfl (by kernel_rfl) (by rfl) (fun K hK => ?_)
  simp only [List.getElem_toArray, List.getElem_cons_zero, List.getElem_cons_succ]
  go_simp
  refine (HS.out v0).mono ?_
  rintro e y1 ⟨rfl, hk⟩
  refine hK _ _ (Or.inr (hHeld.trans hk (fun _ _ h => h.elim))) (fun hHeld => ?_)
  clear hK K
  replace hHeld := hHeld.resolve_left (by decide)
  try simp only [Act.put, List.setIfInBounds_toArray, List.set_cons_zero, List.set_cons_succ]
  replace HK := Lib.hid (HK.out.quiet hk)
  replace HB := Lib.hid ((hk.block bx (lt_of_heap HB.out) (fun h => h)).trans HB.out)
  refine z_more (fun w' => Keeps (fun _ => False) y1 w') (fun w' h => hHeld.trans h (fun _ _ h => h)) _ _ _ _ ?_
  clear hHeld
  have hHeld : Keeps (fun _ => False) y1 y1 := Keeps.refl _ _
  clear hk
  refine z_take 8 (v := ?_) rfl (by kernel_rfl) (by kernel_rfl) (by kernel_rfl) (by kernel_rfl) (fun _ _ _ h => h) hHeld (by rfl) (fun w hSw => ?_) ?_
  rotate_left
  · clear hSw; simp only [List.getElem_toArray, List.getElem_cons_zero, List.getElem_cons_succ]; go_simp; try rfl
  simp only [Act.put, List.getElem_toArray, List.getElem_cons_zero, List.getElem_cons_succ, List.setIfInBounds_toArray, List.set_cons_zero, List.set_cons_succ]
  refine z_take 9 (v := ?_) rfl (by kernel_rfl) (by kernel_rfl) (by kernel_rfl) (by kernel_rfl) (fun _ _ _ h => h) hHeld (by rfl) (fun w hSw => ?_) ?_
  rotate_left
  · clear hSw; simp only [List.getElem_toArray, List.getElem_cons_zero, List.getElem_cons_succ]; go_simp; try rfl
  simp only [Act.put, List.getElem_toArray, List.getElem_cons_zero, List.getElem_cons_succ, List.setIfInBounds_toArray, List.set_cons_zero, List.set_cons_succ]
  refine z_one 14 rfl (by kernel_rfl) (by rfl) (fun K hK => ?_)
  simp only [List.getElem_toArray, List.getElem_cons_zero, List.getElem_cons_succ]
  go_simp
  refine (HS.out y1).mono ?_
  rintro e y2 ⟨rfl, hk⟩
  refine hK _ _ (Or.inr (hHeld.trans hk (fun _ _ h => h.elim))) (fun hHeld => ?_)
  clear hK K
  replace hHeld := hHeld.resolve_left (by decide)
  try simp only [Act.put, List.setIfInBounds_toArray, List.set_cons_zero, List.set_cons_succ]
  replace HK := Lib.hid (HK.out.quiet hk)
  replace HB := Lib.hid ((hk.block bx (lt_of_heap HB.out) (fun h => h)).trans HB.out)
  refine z_more (fun w' => Keeps (fun _ => False) y2 w') (fun w' h => hHeld.trans h (fun _ _ h => h)) _ _ _ _ ?_
  clear hHeld
  have hHeld : Keeps (fun _ => False) y2 y2 := Keeps.refl _ _
  clear hk
  refine z_take 15 (v := ?_) rfl (by kernel_rfl) (by kernel_rfl) (by kernel_rfl) (by kernel_rfl) (fun _ _ _ h => h) hHeld (by rfl) (fun w hSw => ?_) ?_
  rotate_left
  · clear hSw; simp only [List.getElem_toArray, List.getElem_cons_zero, List.getElem_cons_succ]; go_simp; try rfl
  simp only [Act.put, List.getElem_toArray, List.getElem_cons_zero, List.getElem_cons_succ, List.setIfInBounds_toArray, List.set_cons_zero, List.set_cons_succ]
  refine z_take 16 (v := ?_) rfl (by kernel_rfl) (by kernel_rfl) (by kernel_rfl) (by kernel_rfl) (fun _ _ _ h => h) hHeld (by rfl) (fun w hSw => ?_) ?_
  rotate_left
  · clear hSw; simp only [List.getElem_toArray, List.getElem_cons_zero, List.getElem_cons_succ]; go_simp; try rfl
  simp only [Act.put, List.getElem_toArray, List.getElem_cons_zero, List.getElem_cons_succ, List.setIfInBounds_toArray, List.set_cons_zero, List.set_cons_succ]
  refine z_one 18 rfl (by kernel_rfl) (by rfl) (fun K hK => ?_)
  simp only [List.getElem_toArray, List.getElem_cons_zero, List.getElem_cons_succ]
  go_simp
  refine (HS.out y2).mono ?_
  rintro e y3 ⟨rfl, hk⟩
  refine hK _ _ (Or.inr (hHeld.trans hk (fun _ _ h => h.elim))) (fun hHeld => ?_)
  clear hK K
  replace hHeld := hHeld.resolve_left (by decide)
  try simp only [Act.put, List.setIfInBounds_toArray, List.set_cons_zero, List.set_cons_succ]
  replace HK := Lib.hid (HK.out.quiet hk)
  replace HB := Lib.hid ((hk.block bx (lt_of_heap HB.out) (fun h => h)).trans HB.out)
  refine z_more (fun w' => Keeps (fun _ => False) y3 w') (fun w' h => hHeld.trans h (fun _ _ h => h)) _ _ _ _ ?_
  clear hHeld
  have hHeld : Keeps (fun _ => False) y3 y3 := Keeps.refl _ _
  clear hk
  refine z_take 19 (v := ?_) rfl (by kernel_rfl) (by kernel_rfl) (by kernel_rfl) (by kernel_rfl) (fun _ _ _ h => h) hHeld (by rfl) (fun w hSw => ?_) ?_
  rotate_left
  · clear hSw; simp only [List.getElem_toArray, List.getElem_cons_zero, List.getElem_cons_succ]; go_simp; try rfl
  simp only [Act.put, List.getElem_toArray, List.getElem_cons_zero, List.getElem_cons_succ, List.setIfInBounds_toArray, List.set_cons_zero, List.set_cons_succ]
  refine z_take 20 (v := ?_) rfl (by kernel_rfl) (by kernel_rfl) (by kernel_rfl) (by kernel_rfl) (fun _ _ _ h => h) hHeld (by rfl) (fun w hSw => ?_) ?_
  rotate_left
  · clear hSw; simp only [List.getElem_toArray, List.getElem_cons_zero, List.getElem_cons_succ]; go_simp; try rfl
  simp only [Act.put, List.getElem_toArray, List.getElem_cons_zero, List.getElem_cons_succ, List.setIfInBounds_toArray, List.set_cons_zero, List.set_cons_succ]
  refine z_take 21 (v := ?_) rfl (by kernel_rfl) (by kernel_rfl) (by kernel_rfl) (by kernel_rfl) (fun _ _ _ h => h) hHeld (by rfl) (fun w hSw => ?_) ?_
  rotate_left
  · clear hSw; simp only [List.getElem_toArray, List.getElem_cons_zero, List.getElem_cons_succ]; go_simp; try rfl
  simp only [Act.put, List.getElem_toArray, List.getElem_cons_zero, List.getElem_cons_succ, List.setIfInBounds_toArray, List.set_cons_zero, List.set_cons_succ]
  refine z_done (by kernel_rfl) ?_ _
  clear hHeld
  clear hw1 hbx HB HS m1 m2 m3 m4 m5 m6 n1 n2 n3 n4 n5 n6 n7
  obtain ⟨c, hc⟩ : ∃ c, cn - a = c := ⟨_, rfl⟩
  rw [hc] at HSB ⊢
  have hszc : sz ≤ c := by rw [← hc]; have := HSB.out.1.le; omega
  obtain ⟨off, hoff⟩ : ∃ c, on + a = c := ⟨_, rfl⟩
  rw [hoff] at HSB ⊢
  have HLG := Lib.hid (refLong_any (some ⟨gn, off, none⟩) sz c b y3 (HSB.out.1.quiet HK.out))
  clear hc hoff hac hcnb
  have hlb := longR_lt b
  obtain ⟨lg, hlg⟩ : ∃ x, longR b = x := ⟨_, rfl⟩
  rw [hlg] at HLG hlb
  have HSP := HSB.out.2.1
  rw [hlg] at HSP
  have HSPC := Lib.hid HSP
  clear HSP
  go_wp2_with fail
  refine HLG.out.mono ?_
  rintro e v1 ⟨rfl, hk⟩
  replace HK := Lib.hid (HK.out.quiet hk)
  clear HLG hk
  by_cases h0 : lg < 0
  · have hq : q = (0, []) := by rw [HSPC.out, if_pos (Or.inl h0)]
    clear hlg
    go_wp2
    go_ret3
    unfold PlacePost
    exact ⟨none, 0, 0, 0, false, rfl, by rw [hq]; rfl, (fun h => by cases h), HK.out⟩
  · obtain ⟨kk, rfl⟩ : ∃ k : Nat, lg = (k : Int) := ⟨lg.toNat, by omega⟩
    obtain ⟨k14, hk14⟩ : ∃ x, 14 + kk = x := ⟨_, rfl⟩
    have q1 : 14 + (kk : Int) = (k14 : Int) := by omega
    have q2 : IntKind.i64.wrap (k14 : Int) = (k14 : Int) := IntWalk.i64_in _ (by omega)
    have HK14 := Lib.hid (And.intro hk14 hlb)
    clear hk14 hlb
    by_cases h1 : (sz : Int) < (k14 : Int)
    · have hq : q = (0, []) := by rw [HSPC.out, if_pos (Or.inr (by have := HK14.out.1; omega))]
      clear hlg
      go_wp2
      go_ret3
      unfold PlacePost
      exact ⟨none, 0, 0, 0, false, rfl, by rw [hq]; rfl, (fun h => by cases h), HK.out⟩
    · clear hlg
      go_wp2_with fail
      have hbl := HSB.out.2.2
      have hk14 := HK14.out.1
      have hlb := HK14.out.2
      clear q1 q2
      obtain ⟨x0, x1, x2, x3, x4, x5, tl, hbx⟩ : ∃ x0 x1 x2 x3 x4 x5 t, b = x0 :: x1 :: x2 :: x3 :: x4 :: x5 :: t := by
        match b, hbl with
        | [], h => simp at h; omega
        | [_], h => simp at h; omega
        | [_, _], h => simp at h; omega
        | [_, _, _], h => simp at h; omega
        | [_, _, _, _], h => simp at h; omega
        | [_, _, _, _, _], h => simp at h; omega
        | x0 :: x1 :: x2 :: x3 :: x4 :: x5 :: t, _ => exact ⟨x0, x1, x2, x3, x4, x5, t, rfl⟩
      have hle : le (cut b 2 4) = x2.toNat + 256 * x3.toNat + 65536 * x4.toNat + 16777216 * x5.toNat := by
        rw [hbx]
        simp [cut, le]
        omega
      have D : ∀ (wx : World), Keeps (fun _ => False) w wx → wx.cell? ⟨gn, off + 2, none⟩ = some (.int .u8 (x2.toNat : Int)) ∧ wx.cell? ⟨gn, off + 3, none⟩ = some (.int .u8 (x3.toNat : Int)) ∧ wx.cell? ⟨gn, off + 4, none⟩ = some (.int .u8 (x4.toNat : Int)) ∧ wx.cell? ⟨gn, off + 5, none⟩ = some (.int .u8 (x5.toNat : Int)) := fun wx hx => by
        have hs := HSB.out.1.quiet hx
        refine ⟨hs.cell (j := 2) ?_, hs.cell (j := 3) ?_, hs.cell (j := 4) ?_, hs.cell (j := 5) ?_⟩ <;> (rw [hbx]; simp [BV])
      have HD := Lib.hid D
      obtain ⟨tn, htn⟩ : ∃ t, le (cut b 2 4) = t := ⟨_, rfl⟩
      rw [htn] at hle
      have hy := HSB.out.1.cut (i := 6) (k := kk) (by omega)
      obtain ⟨y, hyd⟩ : ∃ y, cut b 6 kk = y := ⟨_, rfl⟩
      have hyl : y.length = kk := by rw [← hyd]; exact cut_length _ _ _ (by omega)
      rw [hyd] at hy
      have hsp : q = if 0 < tn ∧ b.take (kk + 14) = keyF tn y then (tn, y) else (0, []) := by
        have := HSPC.out
        rw [if_neg (by omega), htn] at this
        simp only [Int.toNat_natCast] at this
        rw [hyd] at this
        exact this
      have HY := Lib.hid (And.intro hy (And.intro hsp hyl))
      have b2 := x2.toNat_lt
      have b3 := x3.toNat_lt
      have b4 := x4.toNat_lt
      have b5 := x5.toNat_lt
      generalize x2.toNat = v2 at *
      generalize x3.toNat = v3 at *
      generalize x4.toNat = v4 at *
      generalize x5.toNat = v5 at *
      obtain ⟨t3, ht3⟩ : ∃ x, 256 * v3 = x := ⟨_, rfl⟩
      obtain ⟨t4, ht4⟩ : ∃ x, 65536 * v4 = x := ⟨_, rfl⟩
      obtain ⟨t5, ht5⟩ : ∃ x, 16777216 * v5 = x := ⟨_, rfl⟩
      have i2 : IntKind.u64.wrap (v2 : Int) = (v2 : Int) := wrap_nat _ _ rfl (by omega)
      have i3 : IntKind.u64.wrap (v3 : Int) = (v3 : Int) := wrap_nat _ _ rfl (by omega)
      have i4 : IntKind.u64.wrap (v4 : Int) = (v4 : Int) := wrap_nat _ _ rfl (by omega)
      have i5 : IntKind.u64.wrap (v5 : Int) = (v5 : Int) := wrap_nat _ _ rfl (by omega)
      have j3 : 256 * (v3 : Int) = (t3 : Int) := by omega
      have j4 : 65536 * (v4 : Int) = (t4 : Int) := by omega
      have j5 : 16777216 * (v5 : Int) = (t5 : Int) := by omega
      have k3 : IntKind.u64.wrap (t3 : Int) = (t3 : Int) := wrap_nat _ _ rfl (by omega)
      have k4 : IntKind.u64.wrap (t4 : Int) = (t4 : Int) := wrap_nat _ _ rfl (by omega)
      have k5 : IntKind.u64.wrap (t5 : Int) = (t5 : Int) := wrap_nat _ _ rfl (by omega)
      obtain ⟨s3, hs3⟩ : ∃ x, v2 + t3 = x := ⟨_, rfl⟩
      obtain ⟨s4, hs4⟩ : ∃ x, s3 + t4 = x := ⟨_, rfl⟩
      have l3 : (v2 : Int) + (t3 : Int) = (s3 : Int) := by omega
      have l4 : (s3 : Int) + (t4 : Int) = (s4 : Int) := by omega
      have l5 : (s4 : Int) + (t5 : Int) = (tn : Int) := by omega
      have m3 : IntKind.u64.wrap (s3 : Int) = (s3 : Int) := wrap_nat _ _ rfl (by omega)
      have m4 : IntKind.u64.wrap (s4 : Int) = (s4 : Int) := wrap_nat _ _ rfl (by omega)
      have m5 : IntKind.u64.wrap (tn : Int) = (tn : Int) := wrap_nat _ _ rfl (by omega)
      have u2 : 2 < sz := by omega
      have u3 : 3 < sz := by omega
      have u4 : 4 < sz := by omega
      have u5 : 5 < sz := by omega
      have w2_ : (2 : Int) < (sz : Int) := by omega
      have w3_ : (3 : Int) < (sz : Int) := by omega
      have w4_ : (4 : Int) < (sz : Int) := by omega
      have w5_ : (5 : Int) < (sz : Int) := by omega
      have htb : Hid (tn < 4294967296) := Lib.hid (by omega)
      clear hle hbx hyd htn hy hsp hyl D b2 b3 b4 b5 ht3 ht4 ht5 hs3 hs4
      obtain ⟨k6, hk6⟩ : ∃ x, 6 + kk = x := ⟨_, rfl⟩
      have o1 : 6 + (kk : Int) = (k6 : Int) := by omega
      have o2 : IntKind.i64.wrap (k6 : Int) = (k6 : Int) := IntWalk.i64_in _ (by omega)
      have o3 : (6 : Int) ≤ (k6 : Int) := by omega
      have o4 : (k6 : Int) ≤ (c : Int) := by omega
      have o5 : 6 ≤ k6 := by omega
      have o6 : k6 ≤ c := by omega
      have o7 : k6 - 6 = kk := by omega
      have o8 : ¬ c = 6 := by omega
      have HKB : Hid (kk ≤ 65535) := Lib.hid (by omega)
      clear hlb hk14 h1 hk6
      obtain ⟨v7, hdr⟩ : ∃ v, World.drew v1 = v := ⟨_, rfl⟩
      have hk : Keeps (fun _ => False) v1 v7 := by rw [← hdr]; exact (Keeps.refl _ _).drew
      replace HK := Lib.hid (HK.out.quiet hk)
      refine z_begin (fun w' => Keeps (fun _ => False) (World.drew v1) w') 23 (by kernel_rfl) (Keeps.refl _ _) (fun hHeld => ?_)
      rw [hdr] at hHeld ⊢
      clear hk hdr
      refine z_take 0 (v := ?_) rfl (by kernel_rfl) (by kernel_rfl) (by kernel_rfl) (by kernel_rfl) (fun _ _ _ h => h) hHeld (by rfl) (fun w hSw => ?_) ?_
      rotate_left
      · clear hSw; simp only [List.getElem_toArray, List.getElem_cons_zero]; go_simp; try rfl
      simp only [Act.put, List.getElem_toArray, List.getElem_cons_zero, List.setIfInBounds_toArray, List.set_cons_zero, List.set_cons_succ]
      refine z_take 1 (v := ?_) rfl (by kernel_rfl) (by kernel_rfl) (by kernel_rfl) (by kernel_rfl) (fun _ _ _ h => h) hHeld (by rfl) (fun w hSw => ?_) ?_
      rotate_left
      · obtain ⟨e2, e3, e4, e5⟩ := HD.out w (HK.out.quiet hSw); clear hSw; simp only [List.getElem_toArray, List.getElem_cons_zero, List.getElem_cons_succ]; go_simp; try rfl
      simp only [Act.put, List.getElem_toArray, List.getElem_cons_zero, List.getElem_cons_succ, List.setIfInBounds_toArray, List.set_cons_zero, List.set_cons_succ]
      refine z_take 2 (v := ?_) rfl (by kernel_rfl) (by kernel_rfl) (by kernel_rfl) (by kernel_rfl) (fun _ _ _ h => h) hHeld (by rfl) (fun w hSw => ?_) ?_
      rotate_left
      · obtain ⟨e2, e3, e4, e5⟩ := HD.out w (HK.out.quiet hSw); clear hSw; simp only [List.getElem_toArray, List.getElem_cons_zero, List.getElem_cons_succ]; go_simp; try rfl
      simp only [Act.put, List.getElem_toArray, List.getElem_cons_zero, List.getElem_cons_succ, List.setIfInBounds_toArray, List.set_cons_zero, List.set_cons_succ]
      refine z_take 3 (v := ?_) rfl (by kernel_rfl) (by kernel_rfl) (by kernel_rfl) (by kernel_rfl) (fun _ _ _ h => h) hHeld (by rfl) (fun w hSw => ?_) ?_
      rotate_left
      · clear hSw; simp only [List.getElem_toArray, List.getElem_cons_zero, List.getElem_cons_succ]; go_simp; try rfl
      simp only [Act.put, List.getElem_toArray, List.getElem_cons_zero, List.getElem_cons_succ, List.setIfInBounds_toArray, List.set_cons_zero, List.set_cons_succ]
      refine z_take 4 (v := ?_) rfl (by kernel_rfl) (by kernel_rfl) (by kernel_rfl) (by kernel_rfl) (fun _ _ _ h => h) hHeld (by rfl) (fun w hSw => ?_) ?_
      rotate_left
      · clear hSw; simp only [List.getElem_toArray, List.getElem_cons_zero, List.getElem_cons_succ]; go_simp; try rfl
      simp only [Act.put, List.getElem_toArray, List.getElem_cons_zero, List.getElem_cons_succ, List.setIfInBounds_toArray, List.set_cons_zero, List.set_cons_succ]
      refine z_take 5 (v := ?_) rfl (by kernel_rfl) (by kernel_rfl) (by kernel_rfl) (by kernel_rfl) (fun _ _ _ h => h) hHeld (by rfl) (fun w hSw => ?_) ?_
      rotate_left
      · obtain ⟨e2, e3, e4, e5⟩ := HD.out w (HK.out.quiet hSw); clear hSw; simp only [List.getElem_toArray, List.getElem_cons_zero, List.getElem_cons_succ]; go_simp; try rfl
      simp only [Act.put, List.getElem_toArray, List.getElem_cons_zero, List.getElem_cons_succ, List.setIfInBounds_toArray, List.set_cons_zero, List.set_cons_succ]
      refine z_take 6 (v := ?_) rfl (by kernel_rfl) (by kernel_rfl) (by kernel_rfl) (by kernel_rfl) (fun _ _ _ h => h) hHeld (by rfl) (fun w hSw => ?_) ?_
      rotate_left
      · obtain ⟨e2, e3, e4, e5⟩ := HD.out w (HK.out.quiet hSw); clear hSw; simp only [List.getElem_toArray, List.getElem_cons_zero, List.getElem_cons_succ]; go_simp; try rfl
      simp only [Act.put, List.getElem_toArray, List.getElem_cons_zero, List.getElem_cons_succ, List.setIfInBounds_toArray, List.set_cons_zero, List.set_cons_succ]
      refine z_take 7 (v := ?_) rfl (by kernel_rfl) (by kernel_rfl) (by kernel_rfl) (by kernel_rfl) (fun _ _ _ h => h) hHeld (by rfl) (fun w hSw => ?_) ?_
      rotate_left
      · clear hSw; simp only [List.getElem_toArray, List.getElem_cons_zero, List.getElem_cons_succ]; go_simp; try rfl
      simp only [Act.put, List.getElem_toArray, List.getElem_cons_zero, List.getElem_cons_succ, List.setIfInBounds_toArray, List.set_cons_zero, List.set_cons_succ]
      refine z_take 8 (v := ?_) rfl (by kernel_rfl) (by kernel_rfl) (by kernel_rfl) (by kernel_rfl) (fun _ _ _ h => h) hHeld (by rfl) (fun w hSw => ?_) ?_
      rotate_left
      · clear hSw; simp only [List.getElem_toArray, List.getElem_cons_zero, List.getElem_cons_succ]; go_simp; try rfl
      simp only [Act.put, List.getElem_toArray, List.getElem_cons_zero, List.getElem_cons_succ, List.setIfInBounds_toArray, List.set_cons_zero, List.set_cons_succ]
      refine z_take 9 (v := ?_) rfl (by kernel_rfl) (by kernel_rfl) (by kernel_rfl) (by kernel_rfl) (fun _ _ _ h => h) hHeld (by rfl) (fun w hSw => ?_) ?_
      rotate_left
      · clear hSw; simp only [List.getElem_toArray, List.getElem_cons_zero, List.getElem_cons_succ]; go_simp; try rfl
      simp only [Act.put, List.getElem_toArray, List.getElem_cons_zero, List.getElem_cons_succ, List.setIfInBounds_toArray, List.set_cons_zero, List.set_cons_succ]
      refine z_take 10 (v := ?_) rfl (by kernel_rfl) (by kernel_rfl) (by kernel_rfl) (by kernel_rfl) (fun _ _ _ h => h) hHeld (by rfl) (fun w hSw => ?_) ?_
      rotate_left
      · clear hSw; simp only [List.getElem_toArray, List.getElem_cons_zero, List.getElem_cons_succ]; go_simp; try rfl
      simp only [Act.put, List.getElem_toArray, List.getElem_cons_zero, List.getElem_cons_succ, List.setIfInBounds_toArray, List.set_cons_zero, List.set_cons_succ]
      refine z_take 11 (v := ?_) rfl (by kernel_rfl) (by kernel_rfl) (by kernel_rfl) (by kernel_rfl) (fun _ _ _ h => h) hHeld (by rfl) (fun w hSw => ?_) ?_
      rotate_left
      · obtain ⟨e2, e3, e4, e5⟩ := HD.out w (HK.out.quiet hSw); clear hSw; simp only [List.getElem_toArray, List.getElem_cons_zero, List.getElem_cons_succ]; go_simp; try rfl
      simp only [Act.put, List.getElem_toArray, List.getElem_cons_zero, List.getElem_cons_succ, List.setIfInBounds_toArray, List.set_cons_zero, List.set_cons_succ]
      refine z_take 12 (v := ?_) rfl (by kernel_rfl) (by kernel_rfl) (by kernel_rfl) (by kernel_rfl) (fun _ _ _ h => h) hHeld (by rfl) (fun w hSw => ?_) ?_
      rotate_left
      · obtain ⟨e2, e3, e4, e5⟩ := HD.out w (HK.out.quiet hSw); clear hSw; simp only [List.getElem_toArray, List.getElem_cons_zero, List.getElem_cons_succ]; go_simp; try rfl
      simp only [Act.put, List.getElem_toArray, List.getElem_cons_zero, List.getElem_cons_succ, List.setIfInBounds_toArray, List.set_cons_zero, List.set_cons_succ]
      refine z_take 13 (v := ?_) rfl (by kernel_rfl) (by kernel_rfl) (by kernel_rfl) (by kernel_rfl) (fun _ _ _ h => h) hHeld (by rfl) (fun w hSw => ?_) ?_
      rotate_left
      · clear hSw; simp only [List.getElem_toArray, List.getElem_cons_zero, List.getElem_cons_succ]; go_simp; try rfl
      simp only [Act.put, List.getElem_toArray, List.getElem_cons_zero, List.getElem_cons_succ, List.setIfInBounds_toArray, List.set_cons_zero, List.set_cons_succ]
      refine z_take 14 (v := ?_) rfl (by kernel_rfl) (by kernel_rfl) (by kernel_rfl) (by kernel_rfl) (fun _ _ _ h => h) hHeld (by rfl) (fun w hSw => ?_) ?_
      rotate_left
      · clear hSw; simp only [List.getElem_toArray, List.getElem_cons_zero, List.getElem_cons_succ]; go_simp; try rfl
      simp only [Act.put, List.getElem_toArray, List.getElem_cons_zero, List.getElem_cons_succ, List.setIfInBounds_toArray, List.set_cons_zero, List.set_cons_succ]
      refine z_take 15 (v := ?_) rfl (by kernel_rfl) (by kernel_rfl) (by kernel_rfl) (by kernel_rfl) (fun _ _ _ h => h) hHeld (by rfl) (fun w hSw => ?_) ?_
      rotate_left
      · clear hSw; simp only [List.getElem_toArray, List.getElem_cons_zero, List.getElem_cons_succ]; go_simp; try rfl
      simp only [Act.put, List.getElem_toArray, List.getElem_cons_zero, List.getElem_cons_succ, List.setIfInBounds_toArray, List.set_cons_zero, List.set_cons_succ]
      refine z_take 16 (v := ?_) rfl (by kernel_rfl) (by kernel_rfl) (by kernel_rfl) (by kernel_rfl) (fun _ _ _ h => h) hHeld (by rfl) (fun w hSw => ?_) ?_
      rotate_left
      · clear hSw; simp only [List.getElem_toArray, List.getElem_cons_zero, List.getElem_cons_succ]; go_simp; try rfl
      simp only [Act.put, List.getElem_toArray, List.getElem_cons_zero, List.getElem_cons_succ, List.setIfInBounds_toArray, List.set_cons_zero, List.set_cons_succ]
      refine z_take 17 (v := ?_) rfl (by kernel_rfl) (by kernel_rfl) (by kernel_rfl) (by kernel_rfl) (fun _ _ _ h => h) hHeld (by rfl) (fun w hSw => ?_) ?_
      rotate_left
      · obtain ⟨e2, e3, e4, e5⟩ := HD.out w (HK.out.quiet hSw); clear hSw; simp only [List.getElem_toArray, List.getElem_cons_zero, List.getElem_cons_succ]; go_simp; try rfl
      simp only [Act.put, List.getElem_toArray, List.getElem_cons_zero, List.getElem_cons_succ, List.setIfInBounds_toArray, List.set_cons_zero, List.set_cons_succ]
      refine z_take 18 (v := ?_) rfl (by kernel_rfl) (by kernel_rfl) (by kernel_rfl) (by kernel_rfl) (fun _ _ _ h => h) hHeld (by rfl) (fun w hSw => ?_) ?_
      rotate_left
      · obtain ⟨e2, e3, e4, e5⟩ := HD.out w (HK.out.quiet hSw); clear hSw; simp only [List.getElem_toArray, List.getElem_cons_zero, List.getElem_cons_succ]; go_simp; try rfl
      simp only [Act.put, List.getElem_toArray, List.getElem_cons_zero, List.getElem_cons_succ, List.setIfInBounds_toArray, List.set_cons_zero, List.set_cons_succ]
      refine z_take 19 (v := ?_) rfl (by kernel_rfl) (by kernel_rfl) (by kernel_rfl) (by kernel_rfl) (fun _ _ _ h => h) hHeld (by rfl) (fun w hSw => ?_) ?_
      rotate_left
      · clear hSw; simp only [List.getElem_toArray, List.getElem_cons_zero, List.getElem_cons_succ]; go_simp; try rfl
      simp only [Act.put, List.getElem_toArray, List.getElem_cons_zero, List.getElem_cons_succ, List.setIfInBounds_toArray, List.set_cons_zero, List.set_cons_succ]
      refine z_take 20 (v := ?_) rfl (by kernel_rfl) (by kernel_rfl) (by kernel_rfl) (by kernel_rfl) (fun _ _ _ h => h) hHeld (by rfl) (fun w hSw => ?_) ?_
      rotate_left
      · clear hSw; simp only [List.getElem_toArray, List.getElem_cons_zero, List.getElem_cons_succ]; go_simp; try rfl
      simp only [Act.put, List.getElem_toArray, List.getElem_cons_zero, List.getElem_cons_succ, List.setIfInBounds_toArray, List.set_cons_zero, List.set_cons_succ]
      refine z_take 21 (v := ?_) rfl (by kernel_rfl) (by kernel_rfl) (by kernel_rfl) (by kernel_rfl) (fun _ _ _ h => h) hHeld (by rfl) (fun w hSw => ?_) ?_
      rotate_left
      · clear hSw; simp only [List.getElem_toArray, List.getElem_cons_zero, List.getElem_cons_succ]; go_simp; try rfl
      simp only [Act.put, List.getElem_toArray, List.getElem_cons_zero, List.getElem_cons_succ, List.setIfInBounds_toArray, List.set_cons_zero, List.set_cons_succ]
      refine z_take 22 (v := ?_) rfl (by kernel_rfl) (by kernel_rfl) (by kernel_rfl) (by kernel_rfl) (fun _ _ _ h => h) hHeld (by rfl) (fun w hSw => ?_) ?_
      rotate_left
      · clear hSw; simp only [List.getElem_toArray, List.getElem_cons_zero, List.getElem_cons_succ]; go_simp; try rfl
      simp only [Act.put, List.getElem_toArray, List.getElem_cons_zero, List.getElem_cons_succ, List.setIfInBounds_toArray, List.set_cons_zero, List.set_cons_succ]
      refine z_done (by kernel_rfl) ?_ _
      clear hHeld
      clear HD i2 i3 i4 i5 j3 j4 j5 k3 k4 k5 l3 l4 l5 m3 m4 m5 u2 u3 u4 u5 w2_ w3_ w4_ w5_
      by_cases ht0 : tn = 0
      · have tg : ¬ (tn : Int) > 0 := by omega
        have htz := Lib.hid ht0
        clear ht0
        go_wp2
        go_ret3
        have hq : q = (0, []) := by have := htz.out; rw [HY.out.2.1, if_neg (by omega)]
        unfold PlacePost
        rw [hq]
        exact ⟨_, _, _, tn, false, rfl, rfl, (fun h => by cases h), HK.out⟩
      · have tg : (tn : Int) > 0 := by omega
        have HKY := Lib.hid (refKeys_any tn (some ⟨gn, off + 6, none⟩) kk (c - 6) y v7 (by have := htb.out; unfold U64; omega) (HY.out.1.quiet HK.out) (by have := HKB.out; omega))
        go_wp2_with fail
        refine HKY.out.mono ?_
        rintro e v8 ⟨s8, c8, rfl, hown, hk⟩
        replace HK := Lib.hid (HK.out.quiet hk)
        have HBG := Lib.hid (refBegins_any (some ⟨gn, off, none⟩) s8 sz (kk + 14) c c8 b (keyF tn y) v8 (HSB.out.1.quiet HK.out) (Sl.of_own hown))
        rw [show (keyF tn y).length = kk + 14 by rw [keyF_length, HY.out.2.2]] at HBG
        clear HKY hown hk
        go_wp2_with fail
        refine HBG.out.mono ?_
        rintro e v9 ⟨rfl, hk⟩
        replace HK := Lib.hid (HK.out.quiet hk)
        clear HBG hk
        go_wp2
        go_ret3
        unfold PlacePost
        by_cases hd : b.take (kk + 14) = keyF tn y
        · have hq : q = (tn, y) := by rw [HY.out.2.1, if_pos ⟨by omega, hd⟩]
          exact ⟨_, _, _, tn, _, rfl, by rw [hq]; simp [hd]; omega, fun _ => ⟨by rw [hq], by rw [hq]; exact HY.out.2.2.symm, by rw [hq]; exact HY.out.1.quiet HK.out, _, rfl⟩, HK.out⟩
        · have hq : q = (0, []) := by rw [HY.out.2.1, if_neg (fun h => hd h.2)]
          exact ⟨_, _, _, tn, _, rfl, by rw [hq]; simp [hd], fun h => by simp [hd] at h, HK.out⟩
end Go.Proofs.Ytpojkhjenbbodaa
