/-
  Where a chunk ends: chunk.Ends, and the document's. No conditions but that the slice reads as bytes.
-/
import Derived.Test.YtllpeenjfjobaaaOfArgs
import Derived.Test.YtllpeenjfjobaaaRefOfArgs
import Derived.Test.YtllpeenjfjobaaaRegion
import Derived.Test.YtllpeenjfjobaaaCopyB
namespace Go.Proofs.Ytllpeenjfjobaaa
open Go.RowKit

theorem Sl.from_ {w : World} {b off n cap : Nat} {xs : List Value} (h : Sl w (some ⟨b, off, none⟩) n cap xs) {k : Nat} (hk : k ≤ n) : Sl w (some ⟨b, off + k, none⟩) (n - k) (cap - k) (xs.drop k) := by
  have hl := h.len
  have hle := h.le
  have hc := h.capB
  refine ⟨by rw [List.length_drop]; omega, by omega, by omega, (fun e => by cases e), (fun _ ad e => ⟨b, off + k, by cases e; rfl⟩), fun ad e j u hu => ?_⟩
  cases e
  rw [List.getElem?_drop] at hu
  have := h.lies _ rfl _ u hu
  rw [addr_add] at this ⊢
  rwa [Nat.add_assoc]
theorem keep_cell {w w' : World} (hk : Keeps (fun _ => False) w w') {p : Addr} {v : Value} (h : w.cell? p = some v) : w'.cell? p = some v := by
  rw [hk.cell (World.block_lt_of_cell? _ _ h) (fun h => h)]; exact h
theorem four {α : Type} (l : List α) (h : l.length = 4) : ∃ a b c d, l = [a, b, c, d] := by
  match l, h with
  | [a, b, c, d], _ => exact ⟨a, b, c, d, rfl⟩
def sCut : List UInt8 := [99, 117, 116]
def endsB (b : List UInt8) : Bool := if 64 ≤ b.length then true else if b.length < 8 then false else hof sCut ((b.drop (b.length - 4)).map (·.toNat)) % 8 == 0

set_option maxHeartbeats 1000000 in
set_option maxRecDepth 10000 in
theorem ends_any (sa : Option Addr) (n c : Nat) (l : List UInt8) (w : World) (hl : Sl w sa n c (BV l)) :
    Calls Try.prog 15 #[.slice sa n c] w fun e w' => e = .returned (.bool (endsB l)) ∧ Keeps (fun _ => False) w w' := by
  have hll : l.length = n := by have := hl.len; simpa using this
  have hmc := hl.le
  have hcb := hl.capB
  by_cases h64 : 64 ≤ n
  · have HE : Hid (endsB l = true) := by show _ = _; unfold endsB; rw [hll, if_pos h64]
    have t1 : (n : Int) ≥ 64 := by omega
    have t2 : (64 : Int) ≤ (n : Int) := by omega
    clear hl hll
    go_enter Try.func15, Try.ntmps15
    go_wp2
    go_ret
    rw [HE.out]
    exact ⟨rfl, Keeps.refl _ _⟩
  have t1 : ¬ (64 : Int) ≤ (n : Int) := by omega
  by_cases h8 : n < 8
  · have HE : Hid (endsB l = false) := by show _ = _; unfold endsB; rw [hll, if_neg h64, if_pos h8]
    have t2 : (n : Int) < 8 := by omega
    clear hl hll
    go_enter Try.func15, Try.ntmps15
    go_wp2
    go_ret
    rw [HE.out]
    exact ⟨rfl, Keeps.refl _ _⟩
  have t2 : ¬ (n : Int) < 8 := by omega
  obtain ⟨x0, x1, x2, x3, hx⟩ := four (l.drop (n - 4)) (by rw [List.length_drop, hll]; omega)
  have hE : endsB l = (hof sCut [x0.toNat, x1.toNat, x2.toNat, x3.toNat] % 8 == 0) := by unfold endsB; rw [hll, if_neg h64, if_neg h8, hx]; rfl
  obtain ⟨q, hq⟩ : ∃ q, n - 4 = q := ⟨_, rfl⟩
  obtain ⟨bb, ob, rfl⟩ := hl.isSome (by omega)
  have hs := hl.from_ (k := n - 4) (by omega)
  rw [BV_drop, hx, hq] at hs
  have c0 : w.cell? ⟨bb, ob + q, none⟩ = some (.int .u8 (x0.toNat : Int)) := hs.cell (j := 0) rfl
  have c1 : w.cell? ⟨bb, ob + q + 1, none⟩ = some (.int .u8 (x1.toNat : Int)) := hs.cell (j := 1) rfl
  have c2 : w.cell? ⟨bb, ob + q + 2, none⟩ = some (.int .u8 (x2.toNat : Int)) := hs.cell (j := 2) rfl
  have c3 : w.cell? ⟨bb, ob + q + 3, none⟩ = some (.int .u8 (x3.toNat : Int)) := hs.cell (j := 3) rfl
  have b0 := x0.toNat_lt
  have b1 := x1.toNat_lt
  have b2 := x2.toNat_lt
  have b3 := x3.toNat_lt
  generalize x0.toNat = y0 at *
  generalize x1.toNat = y1 at *
  generalize x2.toNat = y2 at *
  generalize x3.toNat = y3 at *
  have m0 : IntKind.u64.wrap (y0 : Int) = (y0 : Int) := wrap_nat _ _ rfl (by omega)
  have m1 : IntKind.u64.wrap (y1 : Int) = (y1 : Int) := wrap_nat _ _ rfl (by omega)
  have m2 : IntKind.u64.wrap (y2 : Int) = (y2 : Int) := wrap_nat _ _ rfl (by omega)
  have m3 : IntKind.u64.wrap (y3 : Int) = (y3 : Int) := wrap_nat _ _ rfl (by omega)
  obtain ⟨X, hX⟩ : ∃ X, hof sCut [y0, y1, y2, y3] = X := ⟨_, rfl⟩
  rw [hX] at hE
  have HE := Lib.hid (And.intro hE hX)
  have e0 : (n : Int) - 4 = (q : Int) := by omega
  have i0 : (0 : Int) ≤ (q : Int) := by omega
  have i1 : (q : Int) ≤ (n : Int) := by omega
  have i2 : (q : Int) ≤ (c : Int) := by omega
  have i3 : (n : Int) ≤ (c : Int) := by omega
  have hcq : ¬ c = q := by omega
  have hmq : n - q = 4 := by omega
  clear hl hll hs hq hE hX hx
  go_enter Try.func15, Try.ntmps15
  go_wp2_with fail
  refine z_begin (fun w' => w'.cell? ⟨bb, ob + q, none⟩ = some (.int .u8 (y0 : Int)) ∧ w'.cell? ⟨bb, ob + q + 1, none⟩ = some (.int .u8 (y1 : Int)) ∧ w'.cell? ⟨bb, ob + q + 2, none⟩ = some (.int .u8 (y2 : Int)) ∧ w'.cell? ⟨bb, ob + q + 3, none⟩ = some (.int .u8 (y3 : Int))) 20 (by kernel_rfl) ⟨c0, c1, c2, c3⟩ (fun hHeld => ?_)
  have HK : Hid (Keeps (fun _ => False) w w.drew) := (Keeps.refl _ w).drew
  clear c0 c1 c2 c3
  generalize w.drew = w1 at *
  refine z_take 0 (v := ?_) rfl (by kernel_rfl) (by kernel_rfl) (by kernel_rfl) (by kernel_rfl) (fun _ _ _ h => h) hHeld (by rfl) (fun w hSw => ?_) ?_
  rotate_left
  · obtain ⟨hSw1, hSw2, hSw3, hSw4⟩ := hSw; simp only [List.getElem_toArray, List.getElem_cons_zero]; go_simp; try rfl
  simp only [Act.put, List.getElem_toArray, List.getElem_cons_zero, List.setIfInBounds_toArray, List.set_cons_zero, List.set_cons_succ]
  refine z_take 1 (v := ?_) rfl (by kernel_rfl) (by kernel_rfl) (by kernel_rfl) (by kernel_rfl) (fun _ _ _ h => h) hHeld (by rfl) (fun w hSw => ?_) ?_
  rotate_left
  · obtain ⟨hSw1, hSw2, hSw3, hSw4⟩ := hSw; simp only [List.getElem_toArray, List.getElem_cons_zero, List.getElem_cons_succ]; go_simp; try rfl
  simp only [Act.put, List.getElem_toArray, List.getElem_cons_zero, List.getElem_cons_succ, List.setIfInBounds_toArray, List.set_cons_zero, List.set_cons_succ]
  refine z_take 2 (v := ?_) rfl (by kernel_rfl) (by kernel_rfl) (by kernel_rfl) (by kernel_rfl) (fun _ _ _ h => h) hHeld (by rfl) (fun w hSw => ?_) ?_
  rotate_left
  · obtain ⟨hSw1, hSw2, hSw3, hSw4⟩ := hSw; simp only [List.getElem_toArray, List.getElem_cons_zero, List.getElem_cons_succ]; go_simp; try rfl
  simp only [Act.put, List.getElem_toArray, List.getElem_cons_zero, List.getElem_cons_succ, List.setIfInBounds_toArray, List.set_cons_zero, List.set_cons_succ]
  refine z_take 3 (v := ?_) rfl (by kernel_rfl) (by kernel_rfl) (by kernel_rfl) (by kernel_rfl) (fun _ _ _ h => h) hHeld (by rfl) (fun w hSw => ?_) ?_
  rotate_left
  · obtain ⟨hSw1, hSw2, hSw3, hSw4⟩ := hSw; simp only [List.getElem_toArray, List.getElem_cons_zero, List.getElem_cons_succ]; go_simp; try rfl
  simp only [Act.put, List.getElem_toArray, List.getElem_cons_zero, List.getElem_cons_succ, List.setIfInBounds_toArray, List.set_cons_zero, List.set_cons_succ]
  refine z_take 4 (v := ?_) rfl (by kernel_rfl) (by kernel_rfl) (by kernel_rfl) (by kernel_rfl) (fun _ _ _ h => h) hHeld (by rfl) (fun w hSw => ?_) ?_
  rotate_left
  · obtain ⟨hSw1, hSw2, hSw3, hSw4⟩ := hSw; simp only [List.getElem_toArray, List.getElem_cons_zero, List.getElem_cons_succ]; go_simp; try rfl
  simp only [Act.put, List.getElem_toArray, List.getElem_cons_zero, List.getElem_cons_succ, List.setIfInBounds_toArray, List.set_cons_zero, List.set_cons_succ]
  refine z_take 5 (v := ?_) rfl (by kernel_rfl) (by kernel_rfl) (by kernel_rfl) (by kernel_rfl) (fun _ _ _ h => h) hHeld (by rfl) (fun w hSw => ?_) ?_
  rotate_left
  · obtain ⟨hSw1, hSw2, hSw3, hSw4⟩ := hSw; simp only [List.getElem_toArray, List.getElem_cons_zero, List.getElem_cons_succ]; go_simp; try rfl
  simp only [Act.put, List.getElem_toArray, List.getElem_cons_zero, List.getElem_cons_succ, List.setIfInBounds_toArray, List.set_cons_zero, List.set_cons_succ]
  refine z_take 6 (v := ?_) rfl (by kernel_rfl) (by kernel_rfl) (by kernel_rfl) (by kernel_rfl) (fun _ _ _ h => h) hHeld (by rfl) (fun w hSw => ?_) ?_
  rotate_left
  · obtain ⟨hSw1, hSw2, hSw3, hSw4⟩ := hSw; simp only [List.getElem_toArray, List.getElem_cons_zero, List.getElem_cons_succ]; go_simp; try rfl
  simp only [Act.put, List.getElem_toArray, List.getElem_cons_zero, List.getElem_cons_succ, List.setIfInBounds_toArray, List.set_cons_zero, List.set_cons_succ]
  refine z_take 7 (v := ?_) rfl (by kernel_rfl) (by kernel_rfl) (by kernel_rfl) (by kernel_rfl) (fun _ _ _ h => h) hHeld (by rfl) (fun w hSw => ?_) ?_
  rotate_left
  · obtain ⟨hSw1, hSw2, hSw3, hSw4⟩ := hSw; simp only [List.getElem_toArray, List.getElem_cons_zero, List.getElem_cons_succ]; go_simp; try rfl
  simp only [Act.put, List.getElem_toArray, List.getElem_cons_zero, List.getElem_cons_succ, List.setIfInBounds_toArray, List.set_cons_zero, List.set_cons_succ]
  refine z_take 8 (v := ?_) rfl (by kernel_rfl) (by kernel_rfl) (by kernel_rfl) (by kernel_rfl) (fun _ _ _ h => h) hHeld (by rfl) (fun w hSw => ?_) ?_
  rotate_left
  · obtain ⟨hSw1, hSw2, hSw3, hSw4⟩ := hSw; simp only [List.getElem_toArray, List.getElem_cons_zero, List.getElem_cons_succ]; go_simp; try rfl
  simp only [Act.put, List.getElem_toArray, List.getElem_cons_zero, List.getElem_cons_succ, List.setIfInBounds_toArray, List.set_cons_zero, List.set_cons_succ]
  refine z_take 9 (v := ?_) rfl (by kernel_rfl) (by kernel_rfl) (by kernel_rfl) (by kernel_rfl) (fun _ _ _ h => h) hHeld (by rfl) (fun w hSw => ?_) ?_
  rotate_left
  · obtain ⟨hSw1, hSw2, hSw3, hSw4⟩ := hSw; simp only [List.getElem_toArray, List.getElem_cons_zero, List.getElem_cons_succ]; go_simp; try rfl
  simp only [Act.put, List.getElem_toArray, List.getElem_cons_zero, List.getElem_cons_succ, List.setIfInBounds_toArray, List.set_cons_zero, List.set_cons_succ]
  refine z_take 10 (v := ?_) rfl (by kernel_rfl) (by kernel_rfl) (by kernel_rfl) (by kernel_rfl) (fun _ _ _ h => h) hHeld (by rfl) (fun w hSw => ?_) ?_
  rotate_left
  · obtain ⟨hSw1, hSw2, hSw3, hSw4⟩ := hSw; simp only [List.getElem_toArray, List.getElem_cons_zero, List.getElem_cons_succ]; go_simp; try rfl
  simp only [Act.put, List.getElem_toArray, List.getElem_cons_zero, List.getElem_cons_succ, List.setIfInBounds_toArray, List.set_cons_zero, List.set_cons_succ]
  refine z_take 11 (v := ?_) rfl (by kernel_rfl) (by kernel_rfl) (by kernel_rfl) (by kernel_rfl) (fun _ _ _ h => h) hHeld (by rfl) (fun w hSw => ?_) ?_
  rotate_left
  · obtain ⟨hSw1, hSw2, hSw3, hSw4⟩ := hSw; simp only [List.getElem_toArray, List.getElem_cons_zero, List.getElem_cons_succ]; go_simp; try rfl
  simp only [Act.put, List.getElem_toArray, List.getElem_cons_zero, List.getElem_cons_succ, List.setIfInBounds_toArray, List.set_cons_zero, List.set_cons_succ]
  refine z_take 12 (v := ?_) rfl (by kernel_rfl) (by kernel_rfl) (by kernel_rfl) (by kernel_rfl) (fun _ _ _ h => h) hHeld (by rfl) (fun w hSw => ?_) ?_
  rotate_left
  · obtain ⟨hSw1, hSw2, hSw3, hSw4⟩ := hSw; simp only [List.getElem_toArray, List.getElem_cons_zero, List.getElem_cons_succ]; go_simp; try rfl
  simp only [Act.put, List.getElem_toArray, List.getElem_cons_zero, List.getElem_cons_succ, List.setIfInBounds_toArray, List.set_cons_zero, List.set_cons_succ]
  refine z_take 13 (v := ?_) rfl (by kernel_rfl) (by kernel_rfl) (by kernel_rfl) (by kernel_rfl) (fun _ _ _ h => h) hHeld (by rfl) (fun w hSw => ?_) ?_
  rotate_left
  · obtain ⟨hSw1, hSw2, hSw3, hSw4⟩ := hSw; simp only [List.getElem_toArray, List.getElem_cons_zero, List.getElem_cons_succ]; go_simp; try rfl
  simp only [Act.put, List.getElem_toArray, List.getElem_cons_zero, List.getElem_cons_succ, List.setIfInBounds_toArray, List.set_cons_zero, List.set_cons_succ]
  refine z_take 14 (v := ?_) rfl (by kernel_rfl) (by kernel_rfl) (by kernel_rfl) (by kernel_rfl) (fun _ _ _ h => h) hHeld (by rfl) (fun w hSw => ?_) ?_
  rotate_left
  · obtain ⟨hSw1, hSw2, hSw3, hSw4⟩ := hSw; simp only [List.getElem_toArray, List.getElem_cons_zero, List.getElem_cons_succ]; go_simp; try rfl
  simp only [Act.put, List.getElem_toArray, List.getElem_cons_zero, List.getElem_cons_succ, List.setIfInBounds_toArray, List.set_cons_zero, List.set_cons_succ]
  refine z_take 15 (v := ?_) rfl (by kernel_rfl) (by kernel_rfl) (by kernel_rfl) (by kernel_rfl) (fun _ _ _ h => h) hHeld (by rfl) (fun w hSw => ?_) ?_
  rotate_left
  · obtain ⟨hSw1, hSw2, hSw3, hSw4⟩ := hSw; simp only [List.getElem_toArray, List.getElem_cons_zero, List.getElem_cons_succ]; go_simp; try rfl
  simp only [Act.put, List.getElem_toArray, List.getElem_cons_zero, List.getElem_cons_succ, List.setIfInBounds_toArray, List.set_cons_zero, List.set_cons_succ]
  refine z_one 16 rfl (by kernel_rfl) (by rfl) (fun K hK => ?_)
  simp only [List.getElem_toArray, List.getElem_cons_zero, List.getElem_cons_succ]
  go_simp
  have S2 := Lib.hid (lies_four w1 y0 y1 y2 y3 (0, 0))
  have hk : Keeps (fun _ => False) w1 (w1.alloc (.cells #[.int .u64 (y0 : Int), .int .u64 (y1 : Int), .int .u64 (y2 : Int), .int .u64 (y3 : Int)] 38)) := (Keeps.refl _ w1).alloc _
  refine hK _ _ (Or.inr ?_) (fun hHeld => ?_)
  · obtain ⟨u0, u1, u2, u3⟩ := hHeld
    exact ⟨keep_cell hk u0, keep_cell hk u1, keep_cell hk u2, keep_cell hk u3⟩
  clear hK K
  replace hHeld := hHeld.resolve_left (by decide)
  replace HK := Lib.hid (HK.out.quiet hk)
  clear hk
  try simp only [Act.put, List.setIfInBounds_toArray, List.set_cons_zero, List.set_cons_succ]
  generalize w1.alloc (.cells #[.int .u64 (y0 : Int), .int .u64 (y1 : Int), .int .u64 (y2 : Int), .int .u64 (y3 : Int)] 38) = w2 at *
  refine z_one 17 rfl (by kernel_rfl) (by rfl) (fun K hK => ?_)
  simp only [List.getElem_toArray, List.getElem_cons_zero, List.getElem_cons_succ]
  go_simp
  refine (of_any ⟨#[99, 117, 116]⟩ _ 4 4 [y0, y1, y2, y3] w2 (by decide) (by omega) S2.out (by unfold U64; simp; omega)).mono ?_
  rw [show hof (⟨#[99, 117, 116]⟩ : ByteArray).data.toList [y0, y1, y2, y3] = X from HE.out.2]
  rintro e w3 ⟨rfl, hk⟩
  refine hK _ _ (Or.inr ?_) (fun hHeld => ?_)
  · obtain ⟨u0, u1, u2, u3⟩ := hHeld
    exact ⟨keep_cell hk u0, keep_cell hk u1, keep_cell hk u2, keep_cell hk u3⟩
  clear hK K
  replace hHeld := hHeld.resolve_left (by decide)
  replace HK := Lib.hid (HK.out.quiet hk)
  clear hk
  try simp only [Act.put, List.setIfInBounds_toArray, List.set_cons_zero, List.set_cons_succ]
  have d1 : (X : Int).tmod 8 = (X : Int) % 8 := Int.tmod_eq_emod_of_nonneg (by omega)
  have d2 : ((X : Int) % 8 == 0) = (X % 8 == 0) := by
    rw [Bool.eq_iff_iff]; simp; omega
  refine z_one 18 rfl (by kernel_rfl) (by rfl) (fun K hK => ?_)
  simp only [List.getElem_toArray, List.getElem_cons_zero, List.getElem_cons_succ]
  go_simp
  refine hK _ _ (Or.inr ?_) (fun hHeld => ?_)
  · exact hHeld
  clear hK K
  replace hHeld := hHeld.resolve_left (by decide)
  try simp only [Act.put, List.setIfInBounds_toArray, List.set_cons_zero, List.set_cons_succ]
  refine z_one 19 rfl (by kernel_rfl) (by rfl) (fun K hK => ?_)
  simp only [List.getElem_toArray, List.getElem_cons_zero, List.getElem_cons_succ]
  go_simp
  refine hK _ _ (Or.inr ?_) (fun hHeld => ?_)
  · exact hHeld
  clear hK K
  replace hHeld := hHeld.resolve_left (by decide)
  try simp only [Act.put, List.setIfInBounds_toArray, List.set_cons_zero, List.set_cons_succ]
  refine z_one 20 rfl (by kernel_rfl) (by rfl) (fun K hK => ?_)
  simp only [List.getElem_toArray, List.getElem_cons_zero, List.getElem_cons_succ]
  go_simp
  refine hK _ _ (Or.inl rfl) (fun _ => ?_)
  clear hK K hHeld
  try simp only [Act.put, List.setIfInBounds_toArray, List.set_cons_zero, List.set_cons_succ]
  refine z_done (by kernel_rfl) ?_ _
  go_wp2
  go_ret
  rw [HE.out.1]
  exact ⟨rfl, HK.out⟩
set_option maxHeartbeats 1000000 in
set_option maxRecDepth 10000 in
theorem refEnds_any (sa : Option Addr) (n c : Nat) (l : List UInt8) (w : World) (hl : Sl w sa n c (BV l)) :
    Calls Try.prog 16 #[.slice sa n c] w fun e w' => e = .returned (.bool (endsB l)) ∧ Keeps (fun _ => False) w w' := by
  have hll : l.length = n := by have := hl.len; simpa using this
  have hmc := hl.le
  have hcb := hl.capB
  by_cases h64 : 64 ≤ n
  · have HE : Hid (endsB l = true) := by show _ = _; unfold endsB; rw [hll, if_pos h64]
    have t1 : (n : Int) ≥ 64 := by omega
    have t2 : (64 : Int) ≤ (n : Int) := by omega
    clear hl hll
    go_enter Try.func16, Try.ntmps16
    go_wp2
    go_ret
    rw [HE.out]
    exact ⟨rfl, Keeps.refl _ _⟩
  have t1 : ¬ (64 : Int) ≤ (n : Int) := by omega
  by_cases h8 : n < 8
  · have HE : Hid (endsB l = false) := by show _ = _; unfold endsB; rw [hll, if_neg h64, if_pos h8]
    have t2 : (n : Int) < 8 := by omega
    clear hl hll
    go_enter Try.func16, Try.ntmps16
    go_wp2
    go_ret
    rw [HE.out]
    exact ⟨rfl, Keeps.refl _ _⟩
  have t2 : ¬ (n : Int) < 8 := by omega
  obtain ⟨x0, x1, x2, x3, hx⟩ := four (l.drop (n - 4)) (by rw [List.length_drop, hll]; omega)
  have hE : endsB l = (hof sCut [x0.toNat, x1.toNat, x2.toNat, x3.toNat] % 8 == 0) := by unfold endsB; rw [hll, if_neg h64, if_neg h8, hx]; rfl
  obtain ⟨q, hq⟩ : ∃ q, n - 4 = q := ⟨_, rfl⟩
  obtain ⟨bb, ob, rfl⟩ := hl.isSome (by omega)
  have hs := hl.from_ (k := n - 4) (by omega)
  rw [BV_drop, hx, hq] at hs
  obtain ⟨q1, hq1⟩ : ∃ q1, q + 1 = q1 := ⟨_, rfl⟩
  obtain ⟨q2, hq2⟩ : ∃ q2, q + 2 = q2 := ⟨_, rfl⟩
  obtain ⟨q3, hq3⟩ : ∃ q3, q + 3 = q3 := ⟨_, rfl⟩
  have c0 : w.cell? ⟨bb, ob + q, none⟩ = some (.int .u8 (x0.toNat : Int)) := hs.cell (j := 0) rfl
  have c1 : w.cell? ⟨bb, ob + q1, none⟩ = some (.int .u8 (x1.toNat : Int)) := by rw [← hq1]; exact hs.cell (j := 1) rfl
  have c2 : w.cell? ⟨bb, ob + q2, none⟩ = some (.int .u8 (x2.toNat : Int)) := by rw [← hq2]; exact hs.cell (j := 2) rfl
  have c3 : w.cell? ⟨bb, ob + q3, none⟩ = some (.int .u8 (x3.toNat : Int)) := by rw [← hq3]; exact hs.cell (j := 3) rfl
  have b0 := x0.toNat_lt
  have b1 := x1.toNat_lt
  have b2 := x2.toNat_lt
  have b3 := x3.toNat_lt
  generalize x0.toNat = y0 at *
  generalize x1.toNat = y1 at *
  generalize x2.toNat = y2 at *
  generalize x3.toNat = y3 at *
  have m0 : IntKind.u64.wrap (y0 : Int) = (y0 : Int) := wrap_nat _ _ rfl (by omega)
  have m1 : IntKind.u64.wrap (y1 : Int) = (y1 : Int) := wrap_nat _ _ rfl (by omega)
  have m2 : IntKind.u64.wrap (y2 : Int) = (y2 : Int) := wrap_nat _ _ rfl (by omega)
  have m3 : IntKind.u64.wrap (y3 : Int) = (y3 : Int) := wrap_nat _ _ rfl (by omega)
  obtain ⟨X, hX⟩ : ∃ X, hof sCut [y0, y1, y2, y3] = X := ⟨_, rfl⟩
  rw [hX] at hE
  have HE := Lib.hid (And.intro hE hX)
  have e0 : (n : Int) - 4 = (q : Int) := by omega
  have i0 : (0 : Int) ≤ (q : Int) := by omega
  have i1 : (q : Int) < (n : Int) := by omega
  have p0 : IntKind.i64.wrap (q : Int) = (q : Int) := IntWalk.i64_in _ (by omega)
  have p1 : IntKind.i64.wrap (q1 : Int) = (q1 : Int) := IntWalk.i64_in _ (by omega)
  have p2 : IntKind.i64.wrap (q2 : Int) = (q2 : Int) := IntWalk.i64_in _ (by omega)
  have p3 : IntKind.i64.wrap (q3 : Int) = (q3 : Int) := IntWalk.i64_in _ (by omega)
  have e1 : (n : Int) - 3 = (q1 : Int) := by omega
  have e2 : (n : Int) - 2 = (q2 : Int) := by omega
  have e3 : (n : Int) - 1 = (q3 : Int) := by omega
  have j1 : (0 : Int) ≤ (q1 : Int) := by omega
  have j2 : (0 : Int) ≤ (q2 : Int) := by omega
  have j3 : (0 : Int) ≤ (q3 : Int) := by omega
  have k1 : (q1 : Int) < (n : Int) := by omega
  have k2 : (q2 : Int) < (n : Int) := by omega
  have k3 : (q3 : Int) < (n : Int) := by omega
  clear hl hll hs hq hE hX hx hq1 hq2 hq3
  go_enter Try.func16, Try.ntmps16
  go_wp2_with fail
  refine z_begin (fun w' => w'.cell? ⟨bb, ob + q, none⟩ = some (.int .u8 (y0 : Int)) ∧ w'.cell? ⟨bb, ob + q1, none⟩ = some (.int .u8 (y1 : Int)) ∧ w'.cell? ⟨bb, ob + q2, none⟩ = some (.int .u8 (y2 : Int)) ∧ w'.cell? ⟨bb, ob + q3, none⟩ = some (.int .u8 (y3 : Int))) 28 (by kernel_rfl) ⟨c0, c1, c2, c3⟩ (fun hHeld => ?_)
  have HK : Hid (Keeps (fun _ => False) w w.drew) := (Keeps.refl _ w).drew
  clear c0 c1 c2 c3
  generalize w.drew = w1 at *
  refine z_take 0 (v := ?_) rfl (by kernel_rfl) (by kernel_rfl) (by kernel_rfl) (by kernel_rfl) (fun _ _ _ h => h) hHeld (by rfl) (fun w hSw => ?_) ?_
  rotate_left
  · obtain ⟨hSw1, hSw2, hSw3, hSw4⟩ := hSw; simp only [List.getElem_toArray, List.getElem_cons_zero]; go_simp; try rfl
  simp only [Act.put, List.getElem_toArray, List.getElem_cons_zero, List.setIfInBounds_toArray, List.set_cons_zero, List.set_cons_succ]
  refine z_take 1 (v := ?_) rfl (by kernel_rfl) (by kernel_rfl) (by kernel_rfl) (by kernel_rfl) (fun _ _ _ h => h) hHeld (by rfl) (fun w hSw => ?_) ?_
  rotate_left
  · obtain ⟨hSw1, hSw2, hSw3, hSw4⟩ := hSw; simp only [List.getElem_toArray, List.getElem_cons_zero, List.getElem_cons_succ]; go_simp; try rfl
  simp only [Act.put, List.getElem_toArray, List.getElem_cons_zero, List.getElem_cons_succ, List.setIfInBounds_toArray, List.set_cons_zero, List.set_cons_succ]
  refine z_take 2 (v := ?_) rfl (by kernel_rfl) (by kernel_rfl) (by kernel_rfl) (by kernel_rfl) (fun _ _ _ h => h) hHeld (by rfl) (fun w hSw => ?_) ?_
  rotate_left
  · obtain ⟨hSw1, hSw2, hSw3, hSw4⟩ := hSw; simp only [List.getElem_toArray, List.getElem_cons_zero, List.getElem_cons_succ]; go_simp; try rfl
  simp only [Act.put, List.getElem_toArray, List.getElem_cons_zero, List.getElem_cons_succ, List.setIfInBounds_toArray, List.set_cons_zero, List.set_cons_succ]
  refine z_take 3 (v := ?_) rfl (by kernel_rfl) (by kernel_rfl) (by kernel_rfl) (by kernel_rfl) (fun _ _ _ h => h) hHeld (by rfl) (fun w hSw => ?_) ?_
  rotate_left
  · obtain ⟨hSw1, hSw2, hSw3, hSw4⟩ := hSw; simp only [List.getElem_toArray, List.getElem_cons_zero, List.getElem_cons_succ]; go_simp; try rfl
  simp only [Act.put, List.getElem_toArray, List.getElem_cons_zero, List.getElem_cons_succ, List.setIfInBounds_toArray, List.set_cons_zero, List.set_cons_succ]
  refine z_take 4 (v := ?_) rfl (by kernel_rfl) (by kernel_rfl) (by kernel_rfl) (by kernel_rfl) (fun _ _ _ h => h) hHeld (by rfl) (fun w hSw => ?_) ?_
  rotate_left
  · obtain ⟨hSw1, hSw2, hSw3, hSw4⟩ := hSw; simp only [List.getElem_toArray, List.getElem_cons_zero, List.getElem_cons_succ]; go_simp; try rfl
  simp only [Act.put, List.getElem_toArray, List.getElem_cons_zero, List.getElem_cons_succ, List.setIfInBounds_toArray, List.set_cons_zero, List.set_cons_succ]
  refine z_take 5 (v := ?_) rfl (by kernel_rfl) (by kernel_rfl) (by kernel_rfl) (by kernel_rfl) (fun _ _ _ h => h) hHeld (by rfl) (fun w hSw => ?_) ?_
  rotate_left
  · obtain ⟨hSw1, hSw2, hSw3, hSw4⟩ := hSw; simp only [List.getElem_toArray, List.getElem_cons_zero, List.getElem_cons_succ]; go_simp; try rfl
  simp only [Act.put, List.getElem_toArray, List.getElem_cons_zero, List.getElem_cons_succ, List.setIfInBounds_toArray, List.set_cons_zero, List.set_cons_succ]
  refine z_take 6 (v := ?_) rfl (by kernel_rfl) (by kernel_rfl) (by kernel_rfl) (by kernel_rfl) (fun _ _ _ h => h) hHeld (by rfl) (fun w hSw => ?_) ?_
  rotate_left
  · obtain ⟨hSw1, hSw2, hSw3, hSw4⟩ := hSw; simp only [List.getElem_toArray, List.getElem_cons_zero, List.getElem_cons_succ]; go_simp; try rfl
  simp only [Act.put, List.getElem_toArray, List.getElem_cons_zero, List.getElem_cons_succ, List.setIfInBounds_toArray, List.set_cons_zero, List.set_cons_succ]
  refine z_take 7 (v := ?_) rfl (by kernel_rfl) (by kernel_rfl) (by kernel_rfl) (by kernel_rfl) (fun _ _ _ h => h) hHeld (by rfl) (fun w hSw => ?_) ?_
  rotate_left
  · obtain ⟨hSw1, hSw2, hSw3, hSw4⟩ := hSw; simp only [List.getElem_toArray, List.getElem_cons_zero, List.getElem_cons_succ]; go_simp; try rfl
  simp only [Act.put, List.getElem_toArray, List.getElem_cons_zero, List.getElem_cons_succ, List.setIfInBounds_toArray, List.set_cons_zero, List.set_cons_succ]
  refine z_take 8 (v := ?_) rfl (by kernel_rfl) (by kernel_rfl) (by kernel_rfl) (by kernel_rfl) (fun _ _ _ h => h) hHeld (by rfl) (fun w hSw => ?_) ?_
  rotate_left
  · obtain ⟨hSw1, hSw2, hSw3, hSw4⟩ := hSw; simp only [List.getElem_toArray, List.getElem_cons_zero, List.getElem_cons_succ]; go_simp; try rfl
  simp only [Act.put, List.getElem_toArray, List.getElem_cons_zero, List.getElem_cons_succ, List.setIfInBounds_toArray, List.set_cons_zero, List.set_cons_succ]
  refine z_take 9 (v := ?_) rfl (by kernel_rfl) (by kernel_rfl) (by kernel_rfl) (by kernel_rfl) (fun _ _ _ h => h) hHeld (by rfl) (fun w hSw => ?_) ?_
  rotate_left
  · obtain ⟨hSw1, hSw2, hSw3, hSw4⟩ := hSw; simp only [List.getElem_toArray, List.getElem_cons_zero, List.getElem_cons_succ]; go_simp; try rfl
  simp only [Act.put, List.getElem_toArray, List.getElem_cons_zero, List.getElem_cons_succ, List.setIfInBounds_toArray, List.set_cons_zero, List.set_cons_succ]
  refine z_take 10 (v := ?_) rfl (by kernel_rfl) (by kernel_rfl) (by kernel_rfl) (by kernel_rfl) (fun _ _ _ h => h) hHeld (by rfl) (fun w hSw => ?_) ?_
  rotate_left
  · obtain ⟨hSw1, hSw2, hSw3, hSw4⟩ := hSw; simp only [List.getElem_toArray, List.getElem_cons_zero, List.getElem_cons_succ]; go_simp; try rfl
  simp only [Act.put, List.getElem_toArray, List.getElem_cons_zero, List.getElem_cons_succ, List.setIfInBounds_toArray, List.set_cons_zero, List.set_cons_succ]
  refine z_take 11 (v := ?_) rfl (by kernel_rfl) (by kernel_rfl) (by kernel_rfl) (by kernel_rfl) (fun _ _ _ h => h) hHeld (by rfl) (fun w hSw => ?_) ?_
  rotate_left
  · obtain ⟨hSw1, hSw2, hSw3, hSw4⟩ := hSw; simp only [List.getElem_toArray, List.getElem_cons_zero, List.getElem_cons_succ]; go_simp; try rfl
  simp only [Act.put, List.getElem_toArray, List.getElem_cons_zero, List.getElem_cons_succ, List.setIfInBounds_toArray, List.set_cons_zero, List.set_cons_succ]
  refine z_take 12 (v := ?_) rfl (by kernel_rfl) (by kernel_rfl) (by kernel_rfl) (by kernel_rfl) (fun _ _ _ h => h) hHeld (by rfl) (fun w hSw => ?_) ?_
  rotate_left
  · obtain ⟨hSw1, hSw2, hSw3, hSw4⟩ := hSw; simp only [List.getElem_toArray, List.getElem_cons_zero, List.getElem_cons_succ]; go_simp; try rfl
  simp only [Act.put, List.getElem_toArray, List.getElem_cons_zero, List.getElem_cons_succ, List.setIfInBounds_toArray, List.set_cons_zero, List.set_cons_succ]
  refine z_take 13 (v := ?_) rfl (by kernel_rfl) (by kernel_rfl) (by kernel_rfl) (by kernel_rfl) (fun _ _ _ h => h) hHeld (by rfl) (fun w hSw => ?_) ?_
  rotate_left
  · obtain ⟨hSw1, hSw2, hSw3, hSw4⟩ := hSw; simp only [List.getElem_toArray, List.getElem_cons_zero, List.getElem_cons_succ]; go_simp; try rfl
  simp only [Act.put, List.getElem_toArray, List.getElem_cons_zero, List.getElem_cons_succ, List.setIfInBounds_toArray, List.set_cons_zero, List.set_cons_succ]
  refine z_take 14 (v := ?_) rfl (by kernel_rfl) (by kernel_rfl) (by kernel_rfl) (by kernel_rfl) (fun _ _ _ h => h) hHeld (by rfl) (fun w hSw => ?_) ?_
  rotate_left
  · obtain ⟨hSw1, hSw2, hSw3, hSw4⟩ := hSw; simp only [List.getElem_toArray, List.getElem_cons_zero, List.getElem_cons_succ]; go_simp; try rfl
  simp only [Act.put, List.getElem_toArray, List.getElem_cons_zero, List.getElem_cons_succ, List.setIfInBounds_toArray, List.set_cons_zero, List.set_cons_succ]
  refine z_take 15 (v := ?_) rfl (by kernel_rfl) (by kernel_rfl) (by kernel_rfl) (by kernel_rfl) (fun _ _ _ h => h) hHeld (by rfl) (fun w hSw => ?_) ?_
  rotate_left
  · obtain ⟨hSw1, hSw2, hSw3, hSw4⟩ := hSw; simp only [List.getElem_toArray, List.getElem_cons_zero, List.getElem_cons_succ]; go_simp; try rfl
  simp only [Act.put, List.getElem_toArray, List.getElem_cons_zero, List.getElem_cons_succ, List.setIfInBounds_toArray, List.set_cons_zero, List.set_cons_succ]
  refine z_take 16 (v := ?_) rfl (by kernel_rfl) (by kernel_rfl) (by kernel_rfl) (by kernel_rfl) (fun _ _ _ h => h) hHeld (by rfl) (fun w hSw => ?_) ?_
  rotate_left
  · obtain ⟨hSw1, hSw2, hSw3, hSw4⟩ := hSw; simp only [List.getElem_toArray, List.getElem_cons_zero, List.getElem_cons_succ]; go_simp; try rfl
  simp only [Act.put, List.getElem_toArray, List.getElem_cons_zero, List.getElem_cons_succ, List.setIfInBounds_toArray, List.set_cons_zero, List.set_cons_succ]
  refine z_take 17 (v := ?_) rfl (by kernel_rfl) (by kernel_rfl) (by kernel_rfl) (by kernel_rfl) (fun _ _ _ h => h) hHeld (by rfl) (fun w hSw => ?_) ?_
  rotate_left
  · obtain ⟨hSw1, hSw2, hSw3, hSw4⟩ := hSw; simp only [List.getElem_toArray, List.getElem_cons_zero, List.getElem_cons_succ]; go_simp; try rfl
  simp only [Act.put, List.getElem_toArray, List.getElem_cons_zero, List.getElem_cons_succ, List.setIfInBounds_toArray, List.set_cons_zero, List.set_cons_succ]
  refine z_take 18 (v := ?_) rfl (by kernel_rfl) (by kernel_rfl) (by kernel_rfl) (by kernel_rfl) (fun _ _ _ h => h) hHeld (by rfl) (fun w hSw => ?_) ?_
  rotate_left
  · obtain ⟨hSw1, hSw2, hSw3, hSw4⟩ := hSw; simp only [List.getElem_toArray, List.getElem_cons_zero, List.getElem_cons_succ]; go_simp; try rfl
  simp only [Act.put, List.getElem_toArray, List.getElem_cons_zero, List.getElem_cons_succ, List.setIfInBounds_toArray, List.set_cons_zero, List.set_cons_succ]
  refine z_take 19 (v := ?_) rfl (by kernel_rfl) (by kernel_rfl) (by kernel_rfl) (by kernel_rfl) (fun _ _ _ h => h) hHeld (by rfl) (fun w hSw => ?_) ?_
  rotate_left
  · obtain ⟨hSw1, hSw2, hSw3, hSw4⟩ := hSw; simp only [List.getElem_toArray, List.getElem_cons_zero, List.getElem_cons_succ]; go_simp; try rfl
  simp only [Act.put, List.getElem_toArray, List.getElem_cons_zero, List.getElem_cons_succ, List.setIfInBounds_toArray, List.set_cons_zero, List.set_cons_succ]
  refine z_take 20 (v := ?_) rfl (by kernel_rfl) (by kernel_rfl) (by kernel_rfl) (by kernel_rfl) (fun _ _ _ h => h) hHeld (by rfl) (fun w hSw => ?_) ?_
  rotate_left
  · obtain ⟨hSw1, hSw2, hSw3, hSw4⟩ := hSw; simp only [List.getElem_toArray, List.getElem_cons_zero, List.getElem_cons_succ]; go_simp; try rfl
  simp only [Act.put, List.getElem_toArray, List.getElem_cons_zero, List.getElem_cons_succ, List.setIfInBounds_toArray, List.set_cons_zero, List.set_cons_succ]
  refine z_take 21 (v := ?_) rfl (by kernel_rfl) (by kernel_rfl) (by kernel_rfl) (by kernel_rfl) (fun _ _ _ h => h) hHeld (by rfl) (fun w hSw => ?_) ?_
  rotate_left
  · obtain ⟨hSw1, hSw2, hSw3, hSw4⟩ := hSw; simp only [List.getElem_toArray, List.getElem_cons_zero, List.getElem_cons_succ]; go_simp; try rfl
  simp only [Act.put, List.getElem_toArray, List.getElem_cons_zero, List.getElem_cons_succ, List.setIfInBounds_toArray, List.set_cons_zero, List.set_cons_succ]
  refine z_take 22 (v := ?_) rfl (by kernel_rfl) (by kernel_rfl) (by kernel_rfl) (by kernel_rfl) (fun _ _ _ h => h) hHeld (by rfl) (fun w hSw => ?_) ?_
  rotate_left
  · obtain ⟨hSw1, hSw2, hSw3, hSw4⟩ := hSw; simp only [List.getElem_toArray, List.getElem_cons_zero, List.getElem_cons_succ]; go_simp; try rfl
  simp only [Act.put, List.getElem_toArray, List.getElem_cons_zero, List.getElem_cons_succ, List.setIfInBounds_toArray, List.set_cons_zero, List.set_cons_succ]
  refine z_take 23 (v := ?_) rfl (by kernel_rfl) (by kernel_rfl) (by kernel_rfl) (by kernel_rfl) (fun _ _ _ h => h) hHeld (by rfl) (fun w hSw => ?_) ?_
  rotate_left
  · obtain ⟨hSw1, hSw2, hSw3, hSw4⟩ := hSw; simp only [List.getElem_toArray, List.getElem_cons_zero, List.getElem_cons_succ]; go_simp; try rfl
  simp only [Act.put, List.getElem_toArray, List.getElem_cons_zero, List.getElem_cons_succ, List.setIfInBounds_toArray, List.set_cons_zero, List.set_cons_succ]
  refine z_one 24 rfl (by kernel_rfl) (by rfl) (fun K hK => ?_)
  simp only [List.getElem_toArray, List.getElem_cons_zero, List.getElem_cons_succ]
  go_simp
  have S2 := Lib.hid (lies_four w1 y0 y1 y2 y3 (0, 0))
  have hk : Keeps (fun _ => False) w1 (w1.alloc (.cells #[.int .u64 (y0 : Int), .int .u64 (y1 : Int), .int .u64 (y2 : Int), .int .u64 (y3 : Int)] 38)) := (Keeps.refl _ w1).alloc _
  refine hK _ _ (Or.inr ?_) (fun hHeld => ?_)
  · obtain ⟨u0, u1, u2, u3⟩ := hHeld
    exact ⟨keep_cell hk u0, keep_cell hk u1, keep_cell hk u2, keep_cell hk u3⟩
  clear hK K
  replace hHeld := hHeld.resolve_left (by decide)
  replace HK := Lib.hid (HK.out.quiet hk)
  clear hk
  try simp only [Act.put, List.setIfInBounds_toArray, List.set_cons_zero, List.set_cons_succ]
  generalize w1.alloc (.cells #[.int .u64 (y0 : Int), .int .u64 (y1 : Int), .int .u64 (y2 : Int), .int .u64 (y3 : Int)] 38) = w2 at *
  refine z_one 25 rfl (by kernel_rfl) (by rfl) (fun K hK => ?_)
  simp only [List.getElem_toArray, List.getElem_cons_zero, List.getElem_cons_succ]
  go_simp
  refine (refOf_any ⟨#[99, 117, 116]⟩ _ 4 4 [y0, y1, y2, y3] w2 (by decide) (by omega) S2.out (by unfold U64; simp; omega)).mono ?_
  rw [show hof (⟨#[99, 117, 116]⟩ : ByteArray).data.toList [y0, y1, y2, y3] = X from HE.out.2]
  rintro e w3 ⟨rfl, hk⟩
  refine hK _ _ (Or.inr ?_) (fun hHeld => ?_)
  · obtain ⟨u0, u1, u2, u3⟩ := hHeld
    exact ⟨keep_cell hk u0, keep_cell hk u1, keep_cell hk u2, keep_cell hk u3⟩
  clear hK K
  replace hHeld := hHeld.resolve_left (by decide)
  replace HK := Lib.hid (HK.out.quiet hk)
  clear hk
  try simp only [Act.put, List.setIfInBounds_toArray, List.set_cons_zero, List.set_cons_succ]
  have d1 : (X : Int).tmod 8 = (X : Int) % 8 := Int.tmod_eq_emod_of_nonneg (by omega)
  have d2 : ((X : Int) % 8 == 0) = (X % 8 == 0) := by
    rw [Bool.eq_iff_iff]; simp; omega
  refine z_one 26 rfl (by kernel_rfl) (by rfl) (fun K hK => ?_)
  simp only [List.getElem_toArray, List.getElem_cons_zero, List.getElem_cons_succ]
  go_simp
  refine hK _ _ (Or.inr ?_) (fun hHeld => ?_)
  · exact hHeld
  clear hK K
  replace hHeld := hHeld.resolve_left (by decide)
  try simp only [Act.put, List.setIfInBounds_toArray, List.set_cons_zero, List.set_cons_succ]
  refine z_one 27 rfl (by kernel_rfl) (by rfl) (fun K hK => ?_)
  simp only [List.getElem_toArray, List.getElem_cons_zero, List.getElem_cons_succ]
  go_simp
  refine hK _ _ (Or.inr ?_) (fun hHeld => ?_)
  · exact hHeld
  clear hK K
  replace hHeld := hHeld.resolve_left (by decide)
  try simp only [Act.put, List.setIfInBounds_toArray, List.set_cons_zero, List.set_cons_succ]
  refine z_one 28 rfl (by kernel_rfl) (by rfl) (fun K hK => ?_)
  simp only [List.getElem_toArray, List.getElem_cons_zero, List.getElem_cons_succ]
  go_simp
  refine hK _ _ (Or.inl rfl) (fun _ => ?_)
  clear hK K hHeld
  try simp only [Act.put, List.setIfInBounds_toArray, List.set_cons_zero, List.set_cons_succ]
  refine z_done (by kernel_rfl) ?_ _
  go_wp2
  go_ret
  rw [HE.out.1]
  exact ⟨rfl, HK.out⟩
end Go.Proofs.Ytllpeenjfjobaaa
