/-
  Secrets that are drawn: New, Next, Below, Used: what they tell. Conditions: fewer than 10^9 that are said and drawn; the numbers are below 2^64.
-/
import Derived.Test.YtgmdiekjefgikaaOfArgs
import Derived.Test.YtgmdiekjefgikaaSecret
import Derived.Test.YtgmdiekjefgikaaPush
import Derived.Test.YtgmdiekjefgikaaRegion
namespace Go.Proofs.Ytgmdiekjefgikaa
open Go.RowKit

/-- "draw" -/
def sDraw : List UInt8 := [100, 114, 97, 119]
/-- The k-th that is drawn, of a seed, behind some that are said. -/
def drawn (seed : Nat) (own : List Nat) (k : Nat) : Nat := if k ≤ own.length then 1 + own.getD (k - 1) 0 % 2305843009213693949 else hsec sDraw [num seed, k - own.length]
theorem drawn_pos (seed : Nat) (own : List Nat) (k : Nat) : 1 ≤ drawn seed own k ∧ drawn seed own k ≤ 2305843009213693949 := by
  unfold drawn
  split
  · have := Nat.mod_lt (own.getD (k - 1) 0) (show 2305843009213693949 > 0 by decide); omega
  · exact hsec_pos _ _

structure DrAt (w : World) (db dv ov sv : Nat) (so : Option Addr) (co : Nat) (seed : Nat) (own : List Nat) (used : Nat) : Prop where
  blk : w.heap[db]? = some (.cells #[.func (.func 19) #[] #[.pointer (some ⟨dv, 0, none⟩), .pointer (some ⟨ov, 0, none⟩), .pointer (some ⟨sv, 0, none⟩)], .int .i64 (used : Int)] 42 (0, 0))
  dvb : w.heap[dv]? = some (.cells #[.pointer (some ⟨db, 0, none⟩)] 26 (0, 0))
  ovb : w.heap[ov]? = some (.cells #[.slice so own.length co] 23 (0, 0))
  svb : w.heap[sv]? = some (.cells #[.int .u64 (seed : Int)] 22 (0, 0))
  row : Sl w so own.length co (NV own)
  len : own.length ≤ 1000000000
  u64 : U64 seed
  ne : dv ≠ db ∧ ov ≠ db ∧ sv ≠ db ∧ ∀ ad, so = some ad → 0 < own.length → ad.block ≠ db
def DrFoot (db dv ov sv : Nat) (so : Option Addr) (n : Nat) : Nat → Prop := fun k => k = db ∨ k = dv ∨ k = ov ∨ k = sv ∨ ∃ ad, so = some ad ∧ 0 < n ∧ ad.block = k
/-- Draws, their blocks F. -/
def Dr (w : World) (db : Nat) (F : Nat → Prop) (seed : Nat) (own : List Nat) (used : Nat) : Prop := ∃ dv ov sv so co, DrAt w db dv ov sv so co seed own used ∧ F = DrFoot db dv ov sv so own.length

theorem DrAt.keep {w w' : World} {db dv ov sv : Nat} {so : Option Addr} {co seed : Nat} {own : List Nat} {used : Nat} {G : Nat → Prop} (h : DrAt w db dv ov sv so co seed own used) (hk : Keeps G w w') (hn : ∀ k, DrFoot db dv ov sv so own.length k → ¬ G k) : DrAt w' db dv ov sv so co seed own used where
  blk := (hk.block db (lt_of_heap h.blk) (hn db (Or.inl rfl))).trans h.blk
  dvb := (hk.block dv (lt_of_heap h.dvb) (hn dv (Or.inr (Or.inl rfl)))).trans h.dvb
  ovb := (hk.block ov (lt_of_heap h.ovb) (hn ov (Or.inr (Or.inr (Or.inl rfl))))).trans h.ovb
  svb := (hk.block sv (lt_of_heap h.svb) (hn sv (Or.inr (Or.inr (Or.inr (Or.inl rfl)))))).trans h.svb
  row := h.row.keep hk (fun ad e h0 _ hg => hn ad.block (Or.inr (Or.inr (Or.inr (Or.inr ⟨ad, e, h0, rfl⟩)))) hg)
  len := h.len
  u64 := h.u64
  ne := h.ne
theorem Dr.keep {w w' : World} {db : Nat} {F G : Nat → Prop} {seed : Nat} {own : List Nat} {used : Nat} (h : Dr w db F seed own used) (hk : Keeps G w w') (hn : ∀ k, F k → ¬ G k) : Dr w' db F seed own used := by
  obtain ⟨dv, ov, sv, so, co, h, rfl⟩ := h
  exact ⟨dv, ov, sv, so, co, h.keep hk hn, rfl⟩
theorem Dr.quiet {w w' : World} {db : Nat} {F : Nat → Prop} {seed : Nat} {own : List Nat} {used : Nat} (h : Dr w db F seed own used) (hk : Keeps (fun _ => False) w w') : Dr w' db F seed own used := h.keep hk (fun _ _ h => h)
theorem Dr.own_db {w : World} {db : Nat} {F : Nat → Prop} {seed : Nat} {own : List Nat} {used : Nat} (h : Dr w db F seed own used) : F db := by
  obtain ⟨dv, ov, sv, so, co, h, rfl⟩ := h
  exact Or.inl rfl
theorem Dr.lt {w : World} {db : Nat} {F : Nat → Prop} {seed : Nat} {own : List Nat} {used : Nat} (h : Dr w db F seed own used) : ∀ k, F k → k < w.heap.size := by
  obtain ⟨dv, ov, sv, so, co, h, rfl⟩ := h
  rintro k (rfl | rfl | rfl | rfl | ⟨ad, rfl, h0, rfl⟩)
  · exact lt_of_heap h.blk
  · exact lt_of_heap h.dvb
  · exact lt_of_heap h.ovb
  · exact lt_of_heap h.svb
  · obtain ⟨b, off, rfl⟩ := h.row.path h0 ad rfl
    obtain ⟨u, hu⟩ : ∃ u, (NV own)[0]? = some u := ⟨_, List.getElem?_eq_getElem (by simpa using h0)⟩
    exact World.block_lt_of_cell? w _ (h.row.cell hu)

theorem old_cell {w : World} {p : Addr} {v : Value} (h : w.cell? p = some v) (o : Obj) : (w.alloc o).cell? p = w.cell? p := ((Keeps.refl (fun _ => False) w).alloc o).cell (World.block_lt_of_cell? _ _ h) (fun h => h)
theorem secret_two (s : ByteArray) (x y : Nat) (w : World) (hs : s.size ≤ 1000000000) (hx : U64 x) (hy : U64 y) :
    Calls Try.prog 20 #[.string s, .slice (some ⟨w.heap.size, 0, none⟩) 2 2] (w.alloc (.cells #[.int .u64 (x : Int), .int .u64 (y : Int)] 22)) fun e w' => e = .returned (.int .u64 (hsec s.data.toList [x, y] : Int)) ∧ Keeps (fun _ => False) w w' :=
  (secret_any s _ 2 2 [x, y] _ hs (by omega) (lies_two w x y (0, 0)) (by simp [hx, hy])).mono fun _ _ ⟨h1, h2⟩ => ⟨h1, ((Keeps.refl _ w).alloc _).trans h2 (fun _ _ h => h)⟩

set_option maxHeartbeats 1000000 in
set_option maxRecDepth 10000 in
theorem next1_any (db dv ov sv : Nat) (so : Option Addr) (co seed : Nat) (own : List Nat) (used : Nat) (w : World) (h : DrAt w db dv ov sv so co seed own used) (hu : used ≤ 1000000000) (hown : ∀ x ∈ own, U64 x) :
    Calls Try.prog 19 #[.pointer (some ⟨dv, 0, none⟩), .pointer (some ⟨ov, 0, none⟩), .pointer (some ⟨sv, 0, none⟩)] w fun e w' => e = .returned (.int .u64 (drawn seed own (used + 1) : Int)) ∧ DrAt w' db dv ov sv so co seed own (used + 1) ∧ Keeps (fun k => k = db) w w' := by
  have c1 := cellAt h.dvb 0
  have c2 := cellAt h.blk 1
  have f2 := freeAt h.blk 1
  simp at c1 c2
  obtain ⟨u1, hu1⟩ : ∃ u1, used + 1 = u1 := ⟨_, rfl⟩
  have e1 : (used : Int) + 1 = (u1 : Int) := by omega
  have e2 : IntKind.i64.wrap ((used : Int) + 1) = (u1 : Int) := by rw [e1]; exact IntWalk.i64_in _ (by omega)
  have hW0 := heap_setCell_at h.blk 1 (.int .i64 (u1 : Int))
  have hk0 : Keeps (fun k => k = db) w (w.setCell ⟨db, 1, none⟩ (.int .i64 (u1 : Int))) := (Keeps.refl (fun k => k = db) w).setCell (p := ⟨db, 1, none⟩) (fun _ => rfl) _
  have hD : DrAt (w.setCell ⟨db, 1, none⟩ (.int .i64 (u1 : Int))) db dv ov sv so co seed own u1 := by
    refine ⟨by rw [hW0]; rfl, (hk0.block dv (lt_of_heap h.dvb) h.ne.1).trans h.dvb, (hk0.block ov (lt_of_heap h.ovb) h.ne.2.1).trans h.ovb, (hk0.block sv (lt_of_heap h.svb) h.ne.2.2.1).trans h.svb, h.row.keep hk0 (fun ad e h0 _ hg => h.ne.2.2.2 ad e h0 hg), h.len, h.u64, h.ne⟩
  obtain ⟨n, hn⟩ : ∃ n, own.length = n := ⟨_, rfl⟩
  have hnb : n ≤ 1000000000 := by rw [← hn]; exact h.len
  have HH := Lib.hid (And.intro hD (And.intro hk0 (And.intro hu1 (And.intro hn hown))))
  have hdb : db < w.heap.size := lt_of_heap h.blk
  rw [hu1]
  clear h hW0 hk0 hD hu1 hn hown
  go_enter Try.func19, Try.ntmps19
  go_wp2_with fail
  generalize hW : w.setCell ⟨db, 1, none⟩ (.int .i64 (u1 : Int)) = W at *
  clear hW c1 c2 f2
  have d1 := cellAt HH.out.1.dvb 0
  have d2 := cellAt HH.out.1.blk 1
  have d3 := cellAt HH.out.1.ovb 0
  have d4 := cellAt HH.out.1.svb 0
  simp at d1 d2 d3 d4
  rw [HH.out.2.2.2.1] at d3
  refine z_begin (fun w' => w'.cell? ⟨dv, 0, none⟩ = some (.pointer (some ⟨db, 0, none⟩)) ∧ w'.cell? ⟨db, 1, none⟩ = some (.int .i64 (u1 : Int)) ∧ w'.cell? ⟨ov, 0, none⟩ = some (.slice so n co)) 7 (by kernel_rfl) ⟨d1, d2, d3⟩ (fun hHeld => ?_)
  refine z_take 0 (v := ?_) rfl (by kernel_rfl) (by kernel_rfl) (by kernel_rfl) (by kernel_rfl) (fun _ _ _ h => h) hHeld (by rfl) (fun w hSw => ?_) ?_
  rotate_left
  · obtain ⟨hSw1, hSw2, hSw3⟩ := hSw; simp only [List.getElem_toArray, List.getElem_cons_zero]; go_simp; try rfl
  simp only [Act.put, List.getElem_toArray, List.getElem_cons_zero, List.setIfInBounds_toArray, List.set_cons_zero, List.set_cons_succ]
  refine z_take 1 (v := ?_) rfl (by kernel_rfl) (by kernel_rfl) (by kernel_rfl) (by kernel_rfl) (fun _ _ _ h => h) hHeld (by rfl) (fun w hSw => ?_) ?_
  rotate_left
  · obtain ⟨hSw1, hSw2, hSw3⟩ := hSw; simp only [List.getElem_toArray, List.getElem_cons_zero, List.getElem_cons_succ]; go_simp; try rfl
  simp only [Act.put, List.getElem_toArray, List.getElem_cons_zero, List.getElem_cons_succ, List.setIfInBounds_toArray, List.set_cons_zero, List.set_cons_succ]
  refine z_take 2 (v := ?_) rfl (by kernel_rfl) (by kernel_rfl) (by kernel_rfl) (by kernel_rfl) (fun _ _ _ h => h) hHeld (by rfl) (fun w hSw => ?_) ?_
  rotate_left
  · obtain ⟨hSw1, hSw2, hSw3⟩ := hSw; simp only [List.getElem_toArray, List.getElem_cons_zero, List.getElem_cons_succ]; go_simp; try rfl
  simp only [Act.put, List.getElem_toArray, List.getElem_cons_zero, List.getElem_cons_succ, List.setIfInBounds_toArray, List.set_cons_zero, List.set_cons_succ]
  refine z_take 3 (v := ?_) rfl (by kernel_rfl) (by kernel_rfl) (by kernel_rfl) (by kernel_rfl) (fun _ _ _ h => h) hHeld (by rfl) (fun w hSw => ?_) ?_
  rotate_left
  · obtain ⟨hSw1, hSw2, hSw3⟩ := hSw; simp only [List.getElem_toArray, List.getElem_cons_zero, List.getElem_cons_succ]; go_simp; try rfl
  simp only [Act.put, List.getElem_toArray, List.getElem_cons_zero, List.getElem_cons_succ, List.setIfInBounds_toArray, List.set_cons_zero, List.set_cons_succ]
  refine z_take 4 (v := ?_) rfl (by kernel_rfl) (by kernel_rfl) (by kernel_rfl) (by kernel_rfl) (fun _ _ _ h => h) hHeld (by rfl) (fun w hSw => ?_) ?_
  rotate_left
  · obtain ⟨hSw1, hSw2, hSw3⟩ := hSw; simp only [List.getElem_toArray, List.getElem_cons_zero, List.getElem_cons_succ]; go_simp; try rfl
  simp only [Act.put, List.getElem_toArray, List.getElem_cons_zero, List.getElem_cons_succ, List.setIfInBounds_toArray, List.set_cons_zero, List.set_cons_succ]
  refine z_take 5 (v := ?_) rfl (by kernel_rfl) (by kernel_rfl) (by kernel_rfl) (by kernel_rfl) (fun _ _ _ h => h) hHeld (by rfl) (fun w hSw => ?_) ?_
  rotate_left
  · obtain ⟨hSw1, hSw2, hSw3⟩ := hSw; simp only [List.getElem_toArray, List.getElem_cons_zero, List.getElem_cons_succ]; go_simp; try rfl
  simp only [Act.put, List.getElem_toArray, List.getElem_cons_zero, List.getElem_cons_succ, List.setIfInBounds_toArray, List.set_cons_zero, List.set_cons_succ]
  refine z_take 6 (v := ?_) rfl (by kernel_rfl) (by kernel_rfl) (by kernel_rfl) (by kernel_rfl) (fun _ _ _ h => h) hHeld (by rfl) (fun w hSw => ?_) ?_
  rotate_left
  · obtain ⟨hSw1, hSw2, hSw3⟩ := hSw; simp only [List.getElem_toArray, List.getElem_cons_zero, List.getElem_cons_succ]; go_simp; try rfl
  simp only [Act.put, List.getElem_toArray, List.getElem_cons_zero, List.getElem_cons_succ, List.setIfInBounds_toArray, List.set_cons_zero, List.set_cons_succ]
  refine z_done (by kernel_rfl) ?_ _
  clear hHeld
  replace HH := Lib.hid (And.intro (HH.out.1.keep (Keeps.refl (fun _ => False) W).drew (fun _ _ h => h)) (And.intro HH.out.2.1.drew HH.out.2.2))
  replace d1 : W.drew.cell? ⟨dv, 0, none⟩ = some (.pointer (some ⟨db, 0, none⟩)) := d1
  replace d2 : W.drew.cell? ⟨db, 1, none⟩ = some (.int .i64 (u1 : Int)) := d2
  replace d3 : W.drew.cell? ⟨ov, 0, none⟩ = some (.slice so n co) := d3
  replace d4 : W.drew.cell? ⟨sv, 0, none⟩ = some (.int .u64 (seed : Int)) := d4
  generalize W.drew = V at *
  by_cases hle : u1 ≤ n
  · have t1 : (u1 : Int) ≤ (n : Int) := by omega
    have t2 : decide ((u1 : Int) ≤ (n : Int)) = true := by simpa using t1
    have t3 : decide (u1 ≤ n) = true := by simpa using hle
    obtain ⟨x, hx⟩ : ∃ x, own[used]? = some x := ⟨_, List.getElem?_eq_getElem (by have := HH.out; omega)⟩
    obtain ⟨b, off, rfl⟩ := HH.out.1.row.isSome (by have := HH.out; omega)
    have d5 : V.cell? ⟨b, off + used, none⟩ = some (.int .u64 (x : Int)) := HH.out.1.row.cell (by rw [NV_get, hx]; rfl)
    have hdx : drawn seed own u1 = 1 + x % 2305843009213693949 := by
      unfold drawn
      rw [HH.out.2.2.2.1, if_pos hle, ← HH.out.2.2.1, Nat.add_sub_cancel]
      simp [List.getD, hx]
    obtain ⟨y, hy⟩ : ∃ y, x % 2305843009213693949 = y := ⟨_, rfl⟩
    have hyl : y < 2305843009213693949 := by rw [← hy]; exact Nat.mod_lt _ (by decide)
    have e3 : (x : Int).tmod 2305843009213693949 = (y : Int) := by rw [Int.tmod_eq_emod_of_nonneg (by omega)]; omega
    have e3' : (x : Int) % 2305843009213693949 = (y : Int) := by omega
    have e4 : IntKind.u64.wrap (1 + (y : Int)) = ((1 + y : Nat) : Int) := by rw [IntKind.wrap_u64]; omega
    have e5 : IntKind.i64.wrap ((u1 : Int) - 1) = (used : Int) := by have := HH.out; rw [show (u1 : Int) - 1 = (used : Int) by omega]; exact IntWalk.i64_in _ (by omega)
    have t4 : (0 : Int) ≤ (used : Int) := by omega
    have t5 : (used : Int) < (n : Int) := by have := HH.out; omega
    have HD := Lib.hid (And.intro hdx hy)
    clear hdx hy hx
    obtain ⟨z, hz⟩ : ∃ z, 1 + y = z := ⟨_, rfl⟩
    rw [hz] at e4
    have HZ := Lib.hid hz
    clear hz
    go_wp2_with fail
    refine z_begin (fun w' => w'.cell? ⟨dv, 0, none⟩ = some (.pointer (some ⟨db, 0, none⟩)) ∧ w'.cell? ⟨db, 1, none⟩ = some (.int .i64 (u1 : Int)) ∧ w'.cell? ⟨ov, 0, none⟩ = some (.slice (some ⟨b, off, none⟩) n co) ∧ w'.cell? ⟨b, off + used, none⟩ = some (.int .u64 (x : Int))) 11 (by kernel_rfl) ⟨d1, d2, d3, d5⟩ (fun hHeld => ?_)
    refine z_take 0 (v := ?_) rfl (by kernel_rfl) (by kernel_rfl) (by kernel_rfl) (by kernel_rfl) (fun _ _ _ h => h) hHeld (by rfl) (fun w hSw => ?_) ?_
    rotate_left
    · obtain ⟨hSw1, hSw2, hSw3, hSw4⟩ := hSw; simp only [List.getElem_toArray, List.getElem_cons_zero]; go_simp; try rfl
    simp only [Act.put, List.getElem_toArray, List.getElem_cons_zero, List.setIfInBounds_toArray, List.set_cons_zero, List.set_cons_succ]
    refine z_take 1 (v := ?_) rfl (by kernel_rfl) (by kernel_rfl) (by kernel_rfl) (by kernel_rfl) (fun _ _ _ h => h) hHeld (by rfl) (fun w hSw => ?_) ?_
    rotate_left
    · obtain ⟨hSw1, hSw2, hSw3, hSw4⟩ := hSw; simp only [List.getElem_toArray, List.getElem_cons_zero, List.getElem_cons_succ]; go_simp; try rfl
    simp only [Act.put, List.getElem_toArray, List.getElem_cons_zero, List.getElem_cons_succ, List.setIfInBounds_toArray, List.set_cons_zero, List.set_cons_succ]
    refine z_take 2 (v := ?_) rfl (by kernel_rfl) (by kernel_rfl) (by kernel_rfl) (by kernel_rfl) (fun _ _ _ h => h) hHeld (by rfl) (fun w hSw => ?_) ?_
    rotate_left
    · obtain ⟨hSw1, hSw2, hSw3, hSw4⟩ := hSw; simp only [List.getElem_toArray, List.getElem_cons_zero, List.getElem_cons_succ]; go_simp; try rfl
    simp only [Act.put, List.getElem_toArray, List.getElem_cons_zero, List.getElem_cons_succ, List.setIfInBounds_toArray, List.set_cons_zero, List.set_cons_succ]
    refine z_take 3 (v := ?_) rfl (by kernel_rfl) (by kernel_rfl) (by kernel_rfl) (by kernel_rfl) (fun _ _ _ h => h) hHeld (by rfl) (fun w hSw => ?_) ?_
    rotate_left
    · obtain ⟨hSw1, hSw2, hSw3, hSw4⟩ := hSw; simp only [List.getElem_toArray, List.getElem_cons_zero, List.getElem_cons_succ]; go_simp; try rfl
    simp only [Act.put, List.getElem_toArray, List.getElem_cons_zero, List.getElem_cons_succ, List.setIfInBounds_toArray, List.set_cons_zero, List.set_cons_succ]
    refine z_take 4 (v := ?_) rfl (by kernel_rfl) (by kernel_rfl) (by kernel_rfl) (by kernel_rfl) (fun _ _ _ h => h) hHeld (by rfl) (fun w hSw => ?_) ?_
    rotate_left
    · obtain ⟨hSw1, hSw2, hSw3, hSw4⟩ := hSw; simp only [List.getElem_toArray, List.getElem_cons_zero, List.getElem_cons_succ]; go_simp; try rfl
    simp only [Act.put, List.getElem_toArray, List.getElem_cons_zero, List.getElem_cons_succ, List.setIfInBounds_toArray, List.set_cons_zero, List.set_cons_succ]
    refine z_take 5 (v := ?_) rfl (by kernel_rfl) (by kernel_rfl) (by kernel_rfl) (by kernel_rfl) (fun _ _ _ h => h) hHeld (by rfl) (fun w hSw => ?_) ?_
    rotate_left
    · obtain ⟨hSw1, hSw2, hSw3, hSw4⟩ := hSw; simp only [List.getElem_toArray, List.getElem_cons_zero, List.getElem_cons_succ]; go_simp; try rfl
    simp only [Act.put, List.getElem_toArray, List.getElem_cons_zero, List.getElem_cons_succ, List.setIfInBounds_toArray, List.set_cons_zero, List.set_cons_succ]
    refine z_take 6 (v := ?_) rfl (by kernel_rfl) (by kernel_rfl) (by kernel_rfl) (by kernel_rfl) (fun _ _ _ h => h) hHeld (by rfl) (fun w hSw => ?_) ?_
    rotate_left
    · obtain ⟨hSw1, hSw2, hSw3, hSw4⟩ := hSw; simp only [List.getElem_toArray, List.getElem_cons_zero, List.getElem_cons_succ]; go_simp; try rfl
    simp only [Act.put, List.getElem_toArray, List.getElem_cons_zero, List.getElem_cons_succ, List.setIfInBounds_toArray, List.set_cons_zero, List.set_cons_succ]
    refine z_take 7 (v := ?_) rfl (by kernel_rfl) (by kernel_rfl) (by kernel_rfl) (by kernel_rfl) (fun _ _ _ h => h) hHeld (by rfl) (fun w hSw => ?_) ?_
    rotate_left
    · obtain ⟨hSw1, hSw2, hSw3, hSw4⟩ := hSw; simp only [List.getElem_toArray, List.getElem_cons_zero, List.getElem_cons_succ]; go_simp; try rfl
    simp only [Act.put, List.getElem_toArray, List.getElem_cons_zero, List.getElem_cons_succ, List.setIfInBounds_toArray, List.set_cons_zero, List.set_cons_succ]
    refine z_take 8 (v := ?_) rfl (by kernel_rfl) (by kernel_rfl) (by kernel_rfl) (by kernel_rfl) (fun _ _ _ h => h) hHeld (by rfl) (fun w hSw => ?_) ?_
    rotate_left
    · obtain ⟨hSw1, hSw2, hSw3, hSw4⟩ := hSw; simp only [List.getElem_toArray, List.getElem_cons_zero, List.getElem_cons_succ]; go_simp; try rfl
    simp only [Act.put, List.getElem_toArray, List.getElem_cons_zero, List.getElem_cons_succ, List.setIfInBounds_toArray, List.set_cons_zero, List.set_cons_succ]
    refine z_take 9 (v := ?_) rfl (by kernel_rfl) (by kernel_rfl) (by kernel_rfl) (by kernel_rfl) (fun _ _ _ h => h) hHeld (by rfl) (fun w hSw => ?_) ?_
    rotate_left
    · obtain ⟨hSw1, hSw2, hSw3, hSw4⟩ := hSw; simp only [List.getElem_toArray, List.getElem_cons_zero, List.getElem_cons_succ]; go_simp; try rfl
    simp only [Act.put, List.getElem_toArray, List.getElem_cons_zero, List.getElem_cons_succ, List.setIfInBounds_toArray, List.set_cons_zero, List.set_cons_succ]
    refine z_take 10 (v := ?_) rfl (by kernel_rfl) (by kernel_rfl) (by kernel_rfl) (by kernel_rfl) (fun _ _ _ h => h) hHeld (by rfl) (fun w hSw => ?_) ?_
    rotate_left
    · obtain ⟨hSw1, hSw2, hSw3, hSw4⟩ := hSw; simp only [List.getElem_toArray, List.getElem_cons_zero, List.getElem_cons_succ]; go_simp; try rfl
    simp only [Act.put, List.getElem_toArray, List.getElem_cons_zero, List.getElem_cons_succ, List.setIfInBounds_toArray, List.set_cons_zero, List.set_cons_succ]
    refine z_done (by kernel_rfl) ?_ _
    clear hHeld
    go_wp2
    go_ret
    refine ⟨by rw [HD.out.1, HD.out.2, HZ.out]; rfl, ?_, ?_⟩
    · exact HH.out.1.keep (Keeps.refl (fun _ => False) V).drew (fun _ _ h => h)
    · exact HH.out.2.1.drew
  · have t1 : ¬ (u1 : Int) ≤ (n : Int) := by omega
    have t2 : decide ((u1 : Int) ≤ (n : Int)) = false := by simpa using t1
    have t3 : decide (u1 ≤ n) = false := by simpa using hle
    obtain ⟨q, hq⟩ : ∃ q, u1 - n = q := ⟨_, rfl⟩
    have hdx : drawn seed own u1 = hsec sDraw [num seed, q] := by
      unfold drawn
      rw [HH.out.2.2.2.1, if_neg hle, hq]
    have hub : u1 ≤ 1000000001 := by have := HH.out.2.2.1; omega
    have e3 : (seed : Int).tmod 2305843009213693951 = (num seed : Int) := by unfold num; rw [Int.tmod_eq_emod_of_nonneg (by omega)]; omega
    have e3' : (seed : Int) % 2305843009213693951 = (num seed : Int) := by unfold num; omega
    have e4 : IntKind.i64.wrap ((u1 : Int) - (n : Int)) = (q : Int) := by rw [show (u1 : Int) - (n : Int) = (q : Int) by omega]; exact IntWalk.i64_in _ (by omega)
    have e5 : IntKind.u64.wrap (q : Int) = (q : Int) := wrap_nat _ _ rfl (by omega)
    have hns := num_lt seed
    have hqb : q ≤ 1000000001 := by omega
    have HD := Lib.hid hdx
    clear hdx hq
    generalize num seed = ns at *
    go_wp2_with fail
    refine z_begin (fun w' => w'.cell? ⟨dv, 0, none⟩ = some (.pointer (some ⟨db, 0, none⟩)) ∧ w'.cell? ⟨db, 1, none⟩ = some (.int .i64 (u1 : Int)) ∧ w'.cell? ⟨ov, 0, none⟩ = some (.slice so n co) ∧ w'.cell? ⟨sv, 0, none⟩ = some (.int .u64 (seed : Int))) 13 (by kernel_rfl) ⟨d1, d2, d3, d4⟩ (fun hHeld => ?_)
    replace HH := Lib.hid (And.intro (HH.out.1.keep (Keeps.refl (fun _ => False) V).drew (fun _ _ h => h)) (And.intro HH.out.2.1.drew HH.out.2.2))
    clear d1 d2 d3 d4
    have d1 := hHeld.1
    have d2 := hHeld.2.1
    have d3 := hHeld.2.2.1
    have d4 := hHeld.2.2.2
    generalize V.drew = V2 at *
    refine z_take 0 (v := ?_) rfl (by kernel_rfl) (by kernel_rfl) (by kernel_rfl) (by kernel_rfl) (fun _ _ _ h => h) hHeld (by rfl) (fun w hSw => ?_) ?_
    rotate_left
    · obtain ⟨hSw1, hSw2, hSw3, hSw4⟩ := hSw; simp only [List.getElem_toArray, List.getElem_cons_zero]; go_simp; try rfl
    simp only [Act.put, List.getElem_toArray, List.getElem_cons_zero, List.setIfInBounds_toArray, List.set_cons_zero, List.set_cons_succ]
    refine z_take 1 (v := ?_) rfl (by kernel_rfl) (by kernel_rfl) (by kernel_rfl) (by kernel_rfl) (fun _ _ _ h => h) hHeld (by rfl) (fun w hSw => ?_) ?_
    rotate_left
    · obtain ⟨hSw1, hSw2, hSw3, hSw4⟩ := hSw; simp only [List.getElem_toArray, List.getElem_cons_zero, List.getElem_cons_succ]; go_simp; try rfl
    simp only [Act.put, List.getElem_toArray, List.getElem_cons_zero, List.getElem_cons_succ, List.setIfInBounds_toArray, List.set_cons_zero, List.set_cons_succ]
    refine z_take 2 (v := ?_) rfl (by kernel_rfl) (by kernel_rfl) (by kernel_rfl) (by kernel_rfl) (fun _ _ _ h => h) hHeld (by rfl) (fun w hSw => ?_) ?_
    rotate_left
    · obtain ⟨hSw1, hSw2, hSw3, hSw4⟩ := hSw; simp only [List.getElem_toArray, List.getElem_cons_zero, List.getElem_cons_succ]; go_simp; try rfl
    simp only [Act.put, List.getElem_toArray, List.getElem_cons_zero, List.getElem_cons_succ, List.setIfInBounds_toArray, List.set_cons_zero, List.set_cons_succ]
    refine z_take 3 (v := ?_) rfl (by kernel_rfl) (by kernel_rfl) (by kernel_rfl) (by kernel_rfl) (fun _ _ _ h => h) hHeld (by rfl) (fun w hSw => ?_) ?_
    rotate_left
    · obtain ⟨hSw1, hSw2, hSw3, hSw4⟩ := hSw; simp only [List.getElem_toArray, List.getElem_cons_zero, List.getElem_cons_succ]; go_simp; try rfl
    simp only [Act.put, List.getElem_toArray, List.getElem_cons_zero, List.getElem_cons_succ, List.setIfInBounds_toArray, List.set_cons_zero, List.set_cons_succ]
    refine z_take 4 (v := ?_) rfl (by kernel_rfl) (by kernel_rfl) (by kernel_rfl) (by kernel_rfl) (fun _ _ _ h => h) hHeld (by rfl) (fun w hSw => ?_) ?_
    rotate_left
    · obtain ⟨hSw1, hSw2, hSw3, hSw4⟩ := hSw; simp only [List.getElem_toArray, List.getElem_cons_zero, List.getElem_cons_succ]; go_simp; try rfl
    simp only [Act.put, List.getElem_toArray, List.getElem_cons_zero, List.getElem_cons_succ, List.setIfInBounds_toArray, List.set_cons_zero, List.set_cons_succ]
    refine z_take 5 (v := ?_) rfl (by kernel_rfl) (by kernel_rfl) (by kernel_rfl) (by kernel_rfl) (fun _ _ _ h => h) hHeld (by rfl) (fun w hSw => ?_) ?_
    rotate_left
    · obtain ⟨hSw1, hSw2, hSw3, hSw4⟩ := hSw; simp only [List.getElem_toArray, List.getElem_cons_zero, List.getElem_cons_succ]; go_simp; try rfl
    simp only [Act.put, List.getElem_toArray, List.getElem_cons_zero, List.getElem_cons_succ, List.setIfInBounds_toArray, List.set_cons_zero, List.set_cons_succ]
    refine z_take 6 (v := ?_) rfl (by kernel_rfl) (by kernel_rfl) (by kernel_rfl) (by kernel_rfl) (fun _ _ _ h => h) hHeld (by rfl) (fun w hSw => ?_) ?_
    rotate_left
    · obtain ⟨hSw1, hSw2, hSw3, hSw4⟩ := hSw; simp only [List.getElem_toArray, List.getElem_cons_zero, List.getElem_cons_succ]; go_simp; try rfl
    simp only [Act.put, List.getElem_toArray, List.getElem_cons_zero, List.getElem_cons_succ, List.setIfInBounds_toArray, List.set_cons_zero, List.set_cons_succ]
    refine z_take 7 (v := ?_) rfl (by kernel_rfl) (by kernel_rfl) (by kernel_rfl) (by kernel_rfl) (fun _ _ _ h => h) hHeld (by rfl) (fun w hSw => ?_) ?_
    rotate_left
    · obtain ⟨hSw1, hSw2, hSw3, hSw4⟩ := hSw; simp only [List.getElem_toArray, List.getElem_cons_zero, List.getElem_cons_succ]; go_simp; try rfl
    simp only [Act.put, List.getElem_toArray, List.getElem_cons_zero, List.getElem_cons_succ, List.setIfInBounds_toArray, List.set_cons_zero, List.set_cons_succ]
    refine z_take 8 (v := ?_) rfl (by kernel_rfl) (by kernel_rfl) (by kernel_rfl) (by kernel_rfl) (fun _ _ _ h => h) hHeld (by rfl) (fun w hSw => ?_) ?_
    rotate_left
    · obtain ⟨hSw1, hSw2, hSw3, hSw4⟩ := hSw; simp only [List.getElem_toArray, List.getElem_cons_zero, List.getElem_cons_succ]; go_simp; try rfl
    simp only [Act.put, List.getElem_toArray, List.getElem_cons_zero, List.getElem_cons_succ, List.setIfInBounds_toArray, List.set_cons_zero, List.set_cons_succ]
    refine z_take 9 (v := ?_) rfl (by kernel_rfl) (by kernel_rfl) (by kernel_rfl) (by kernel_rfl) (fun _ _ _ h => h) hHeld (by rfl) (fun w hSw => ?_) ?_
    rotate_left
    · obtain ⟨hSw1, hSw2, hSw3, hSw4⟩ := hSw; simp only [List.getElem_toArray, List.getElem_cons_zero, List.getElem_cons_succ]; go_simp; try rfl
    simp only [Act.put, List.getElem_toArray, List.getElem_cons_zero, List.getElem_cons_succ, List.setIfInBounds_toArray, List.set_cons_zero, List.set_cons_succ]
    refine z_one 10 rfl (by kernel_rfl) (by rfl) (fun K hK => ?_)
    simp only [List.getElem_toArray, List.getElem_cons_zero, List.getElem_cons_succ]
    go_simp
    refine hK _ _ (Or.inr ?_) (fun hHeld => ?_)
    · exact ⟨(old_cell hHeld.1 _).trans hHeld.1, (old_cell hHeld.2.1 _).trans hHeld.2.1, (old_cell hHeld.2.2.1 _).trans hHeld.2.2.1, (old_cell hHeld.2.2.2 _).trans hHeld.2.2.2⟩
    clear hK K
    replace hHeld := hHeld.resolve_left (by decide)
    try simp only [Act.put, List.setIfInBounds_toArray, List.set_cons_zero, List.set_cons_succ]
    refine z_one 11 rfl (by kernel_rfl) (by rfl) (fun K hK => ?_)
    simp only [List.getElem_toArray, List.getElem_cons_zero, List.getElem_cons_succ]
    go_simp
    refine (secret_two ⟨#[100, 114, 97, 119]⟩ ns q _ (by decide) (by unfold U64; omega) (by unfold U64; omega)).mono ?_
    rintro e W2 ⟨rfl, hk2⟩
    have H2 := Lib.hid hk2
    refine hK _ _ (Or.inr ?_) (fun hHeld => ?_)
    · have hk3 := hk2
      exact ⟨(hk3.cell (World.block_lt_of_cell? _ _ d1) (fun h => h)).trans d1, (hk3.cell (World.block_lt_of_cell? _ _ d2) (fun h => h)).trans d2, (hk3.cell (World.block_lt_of_cell? _ _ d3) (fun h => h)).trans d3, (hk3.cell (World.block_lt_of_cell? _ _ d4) (fun h => h)).trans d4⟩
    clear hK K hk2
    replace hHeld := hHeld.resolve_left (by decide)
    try simp only [Act.put, List.setIfInBounds_toArray, List.set_cons_zero, List.set_cons_succ]
    refine z_one 12 rfl (by kernel_rfl) (by rfl) (fun K hK => ?_)
    simp only [List.getElem_toArray, List.getElem_cons_zero, List.getElem_cons_succ]
    go_simp
    refine hK _ _ (Or.inr ?_) (fun hHeld => ?_)
    · exact hHeld
    clear hK K
    replace hHeld := hHeld.resolve_left (by decide)
    try simp only [Act.put, List.setIfInBounds_toArray, List.set_cons_zero, List.set_cons_succ]
    refine z_done (by kernel_rfl) ?_ _
    clear hHeld
    go_wp2
    go_ret
    refine ⟨by rw [HD.out]; rfl, ?_, ?_⟩
    · exact HH.out.1.keep H2.out (fun _ _ h => h)
    · exact HH.out.2.1.quiet H2.out
end Go.Proofs.Ytgmdiekjefgikaa
