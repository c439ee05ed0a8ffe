/-
  The sum's take of one word: what it turns. Conditions: the word and the count stay below 2^64.
-/
import Derived.Test.YtllpeenjfjobaaaPow
import Derived.Test.YtllpeenjfjobaaaRegion
namespace Go.Proofs.Ytllpeenjfjobaaa
open Go.RowKit
/-- What a state becomes. -/
def hstep (s k x : Nat) : Nat := powm (addm (mulm 37 s) (num (x + k))) 17

def TkRel (w : World) (sb gs s k x : Nat) (i : Value) (wr : World) : Prop :=
  (i = .int .i64 0 ∧ wr.heap[sb]? = some (.cells #[.int .u64 (s : Int), .int .u64 (k : Int)] 51 (0, 0)) ∧ wr.cell? ⟨gs, 0, none⟩ = some (.int .u64 (x : Int)) ∧ Keeps (fun j => j = sb) w wr) ∨
  (i = .int .i64 1 ∧ wr.heap[sb]? = some (.cells #[.int .u64 (hstep s (k + 1) x : Int), .int .u64 ((k + 1 : Nat) : Int)] 51 (0, 0)) ∧ Keeps (fun j => j = sb) w wr)

set_option maxHeartbeats 1000000 in
set_option maxRecDepth 10000 in
theorem take_one (sb gs s k x : Nat) (cap : Nat) (w : World) (hb : w.heap[sb]? = some (.cells #[.int .u64 (s : Int), .int .u64 (k : Int)] 51 (0, 0))) (hx : w.cell? ⟨gs, 0, none⟩ = some (.int .u64 (x : Int))) (hs : s < 2305843009213693951) (hu : x + k + 1 < 18446744073709551616) :
    Calls Try.prog 28 #[.pointer (some ⟨sb, 0, none⟩), .slice (some ⟨gs, 0, none⟩) 1 cap] w fun e w' => (∃ v, e = .returned v) ∧ w'.heap[sb]? = some (.cells #[.int .u64 (hstep s (k + 1) x : Int), .int .u64 ((k + 1 : Nat) : Int)] 51 (0, 0)) ∧ Keeps (fun j => j = sb) w w' := by
  have H0 := Lib.hid (And.intro hb hx)
  have HU := Lib.hid (And.intro hs hu)
  clear hb hx hs hu
  go_enter Try.func28, Try.ntmps28
  go_wp2_with fail
  go_loopw [8] (fun i wr => TkRel w sb gs s k x i wr) (fun i _ => 1 - (intOf i).toNat)
  case atStart => exact Or.inl ⟨rfl, H0.out.1, H0.out.2, Keeps.refl _ _⟩
  case round =>
    rcases hrel with ⟨rfl, hb, hx, hk⟩ | ⟨rfl, hb, hk⟩
    · obtain ⟨k1, hk1⟩ : ∃ k1, k + 1 = k1 := ⟨_, rfl⟩
      have e1 : IntKind.u64.wrap ((k : Int) + 1) = (k1 : Int) := by have := HU.out; rw [IntKind.wrap_u64]; omega
      obtain ⟨xk, hxk⟩ : ∃ xk, x + k1 = xk := ⟨_, rfl⟩
      have e2 : IntKind.u64.wrap ((x : Int) + (k1 : Int)) = (xk : Int) := by have := HU.out; rw [IntKind.wrap_u64]; omega
      have c0 := cellAt hb 0
      have c1 := cellAt hb 1
      have f1 := freeAt hb 1
      simp at c0 c1
      have HH := Lib.hid (And.intro hb (And.intro hx (And.intro hk (And.intro hk1 hxk))))
      clear hb hk hk1 hxk
      go_wp2_with fail
      obtain ⟨W, hW⟩ : ∃ W, wr.setCell ⟨sb, 1, none⟩ (.int .u64 (k1 : Int)) = W := ⟨_, rfl⟩
      have hWb : W.heap[sb]? = some (.cells #[.int .u64 (s : Int), .int .u64 (k1 : Int)] 51 (0, 0)) := by rw [← hW, heap_setCell_at HH.out.1]; rfl
      have hWk : Keeps (fun j => j = sb) w W := by rw [← hW]; exact HH.out.2.2.1.trans ((Keeps.refl (fun j => j = sb) wr).setCell (p := ⟨sb, 1, none⟩) (fun _ => rfl) _) (fun _ _ h => h)
      rw [hW]
      have HW := Lib.hid (And.intro hWb hWk)
      clear hW hWb hWk c0 c1 f1
      refine z_begin (fun w' => w'.cell? ⟨sb, 0, none⟩ = some (.int .u64 (s : Int)) ∧ w'.cell? ⟨sb, 1, none⟩ = some (.int .u64 (k1 : Int))) 17 (by kernel_rfl) (⟨cellAt HW.out.1 0, cellAt HW.out.1 1⟩) (fun hHeld => ?_)
      refine z_take 0 (v := ?_) rfl (by kernel_rfl) (by kernel_rfl) (by kernel_rfl) (by kernel_rfl) (fun _ _ _ h => h) hHeld (by rfl) (fun w hSw => ?_) ?_
      rotate_left
      · obtain ⟨hSw1, hSw2⟩ := hSw; simp only [List.getElem_toArray, List.getElem_cons_zero]; go_simp; try rfl
      simp only [Act.put, List.getElem_toArray, List.getElem_cons_zero, List.setIfInBounds_toArray, List.set_cons_zero, List.set_cons_succ]
      refine z_take 1 (v := ?_) rfl (by kernel_rfl) (by kernel_rfl) (by kernel_rfl) (by kernel_rfl) (fun _ _ _ h => h) hHeld (by rfl) (fun w hSw => ?_) ?_
      rotate_left
      · obtain ⟨hSw1, hSw2⟩ := hSw; simp only [List.getElem_toArray, List.getElem_cons_zero, List.getElem_cons_succ]; go_simp; try rfl
      simp only [Act.put, List.getElem_toArray, List.getElem_cons_zero, List.getElem_cons_succ, List.setIfInBounds_toArray, List.set_cons_zero, List.set_cons_succ]
      refine z_take 2 (v := ?_) rfl (by kernel_rfl) (by kernel_rfl) (by kernel_rfl) (by kernel_rfl) (fun _ _ _ h => h) hHeld (by rfl) (fun w hSw => ?_) ?_
      rotate_left
      · obtain ⟨hSw1, hSw2⟩ := hSw; simp only [List.getElem_toArray, List.getElem_cons_zero, List.getElem_cons_succ]; go_simp; try rfl
      simp only [Act.put, List.getElem_toArray, List.getElem_cons_zero, List.getElem_cons_succ, List.setIfInBounds_toArray, List.set_cons_zero, List.set_cons_succ]
      refine z_take 3 (v := ?_) rfl (by kernel_rfl) (by kernel_rfl) (by kernel_rfl) (by kernel_rfl) (fun _ _ _ h => h) hHeld (by rfl) (fun w hSw => ?_) ?_
      rotate_left
      · obtain ⟨hSw1, hSw2⟩ := hSw; simp only [List.getElem_toArray, List.getElem_cons_zero, List.getElem_cons_succ]; go_simp; try rfl
      simp only [Act.put, List.getElem_toArray, List.getElem_cons_zero, List.getElem_cons_succ, List.setIfInBounds_toArray, List.set_cons_zero, List.set_cons_succ]
      refine z_take 4 (v := ?_) rfl (by kernel_rfl) (by kernel_rfl) (by kernel_rfl) (by kernel_rfl) (fun _ _ _ h => h) hHeld (by rfl) (fun w hSw => ?_) ?_
      rotate_left
      · obtain ⟨hSw1, hSw2⟩ := hSw; simp only [List.getElem_toArray, List.getElem_cons_zero, List.getElem_cons_succ]; go_simp; try rfl
      simp only [Act.put, List.getElem_toArray, List.getElem_cons_zero, List.getElem_cons_succ, List.setIfInBounds_toArray, List.set_cons_zero, List.set_cons_succ]
      refine z_take 6 (v := ?_) rfl (by kernel_rfl) (by kernel_rfl) (by kernel_rfl) (by kernel_rfl) (fun _ _ _ h => h) hHeld (by rfl) (fun w hSw => ?_) ?_
      rotate_left
      · obtain ⟨hSw1, hSw2⟩ := hSw; simp only [List.getElem_toArray, List.getElem_cons_zero, List.getElem_cons_succ]; go_simp; try rfl
      simp only [Act.put, List.getElem_toArray, List.getElem_cons_zero, List.getElem_cons_succ, List.setIfInBounds_toArray, List.set_cons_zero, List.set_cons_succ]
      refine z_take 7 (v := ?_) rfl (by kernel_rfl) (by kernel_rfl) (by kernel_rfl) (by kernel_rfl) (fun _ _ _ h => h) hHeld (by rfl) (fun w hSw => ?_) ?_
      rotate_left
      · obtain ⟨hSw1, hSw2⟩ := hSw; simp only [List.getElem_toArray, List.getElem_cons_zero, List.getElem_cons_succ]; go_simp; try rfl
      simp only [Act.put, List.getElem_toArray, List.getElem_cons_zero, List.getElem_cons_succ, List.setIfInBounds_toArray, List.set_cons_zero, List.set_cons_succ]
      refine z_take 8 (v := ?_) rfl (by kernel_rfl) (by kernel_rfl) (by kernel_rfl) (by kernel_rfl) (fun _ _ _ h => h) hHeld (by rfl) (fun w hSw => ?_) ?_
      rotate_left
      · obtain ⟨hSw1, hSw2⟩ := hSw; simp only [List.getElem_toArray, List.getElem_cons_zero, List.getElem_cons_succ]; go_simp; try rfl
      simp only [Act.put, List.getElem_toArray, List.getElem_cons_zero, List.getElem_cons_succ, List.setIfInBounds_toArray, List.set_cons_zero, List.set_cons_succ]
      refine z_take 9 (v := ?_) rfl (by kernel_rfl) (by kernel_rfl) (by kernel_rfl) (by kernel_rfl) (fun _ _ _ h => h) hHeld (by rfl) (fun w hSw => ?_) ?_
      rotate_left
      · obtain ⟨hSw1, hSw2⟩ := hSw; simp only [List.getElem_toArray, List.getElem_cons_zero, List.getElem_cons_succ]; go_simp; try rfl
      simp only [Act.put, List.getElem_toArray, List.getElem_cons_zero, List.getElem_cons_succ, List.setIfInBounds_toArray, List.set_cons_zero, List.set_cons_succ]
      refine z_take 10 (v := ?_) rfl (by kernel_rfl) (by kernel_rfl) (by kernel_rfl) (by kernel_rfl) (fun _ _ _ h => h) hHeld (by rfl) (fun w hSw => ?_) ?_
      rotate_left
      · obtain ⟨hSw1, hSw2⟩ := hSw; simp only [List.getElem_toArray, List.getElem_cons_zero, List.getElem_cons_succ]; go_simp; try rfl
      simp only [Act.put, List.getElem_toArray, List.getElem_cons_zero, List.getElem_cons_succ, List.setIfInBounds_toArray, List.set_cons_zero, List.set_cons_succ]
      refine z_take 11 (v := ?_) rfl (by kernel_rfl) (by kernel_rfl) (by kernel_rfl) (by kernel_rfl) (fun _ _ _ h => h) hHeld (by rfl) (fun w hSw => ?_) ?_
      rotate_left
      · obtain ⟨hSw1, hSw2⟩ := hSw; simp only [List.getElem_toArray, List.getElem_cons_zero, List.getElem_cons_succ]; go_simp; try rfl
      simp only [Act.put, List.getElem_toArray, List.getElem_cons_zero, List.getElem_cons_succ, List.setIfInBounds_toArray, List.set_cons_zero, List.set_cons_succ]
      refine z_one 5 rfl (by kernel_rfl) (by rfl) (fun K hK => ?_)
      simp only [List.getElem_toArray, List.getElem_cons_zero, List.getElem_cons_succ]
      go_simp
      refine (mul_any 37 s W.drew (by unfold U64; omega) (by have := HU.out; unfold U64; omega)).mono ?_
      rintro e _ ⟨rfl, rfl⟩
      refine hK _ _ (Or.inr ?_) (fun hHeld => ?_)
      · exact hHeld
      clear hK K
      replace hHeld := hHeld.resolve_left (by decide)
      try simp only [Act.put, List.setIfInBounds_toArray, List.set_cons_zero, List.set_cons_succ]
      refine z_one 12 rfl (by kernel_rfl) (by rfl) (fun K hK => ?_)
      simp only [List.getElem_toArray, List.getElem_cons_zero, List.getElem_cons_succ]
      go_simp
      refine (num_any xk W.drew (by have := HU.out; have := HH.out; unfold U64; omega)).mono ?_
      rintro e _ ⟨rfl, rfl⟩
      refine hK _ _ (Or.inr ?_) (fun hHeld => ?_)
      · exact hHeld
      clear hK K
      replace hHeld := hHeld.resolve_left (by decide)
      try simp only [Act.put, List.setIfInBounds_toArray, List.set_cons_zero, List.set_cons_succ]
      refine z_one 13 rfl (by kernel_rfl) (by rfl) (fun K hK => ?_)
      simp only [List.getElem_toArray, List.getElem_cons_zero, List.getElem_cons_succ]
      go_simp
      refine (add_any (mulm 37 s) (num xk) W.drew (by have := mulm_lt 37 s; unfold U64; omega) (num_u xk)).mono ?_
      rintro e _ ⟨rfl, rfl⟩
      refine hK _ _ (Or.inr ?_) (fun hHeld => ?_)
      · exact hHeld
      clear hK K
      replace hHeld := hHeld.resolve_left (by decide)
      try simp only [Act.put, List.setIfInBounds_toArray, List.set_cons_zero, List.set_cons_succ]
      refine z_one 14 rfl (by kernel_rfl) (by rfl) (fun K hK => ?_)
      simp only [List.getElem_toArray, List.getElem_cons_zero, List.getElem_cons_succ]
      go_simp
      refine (pow_any (addm (mulm 37 s) (num xk)) 17 W.drew (num_u _) (by unfold U64; omega)).mono ?_
      rintro e W2 ⟨rfl, hk2⟩
      have hb2 : W2.heap[sb]? = some (.cells #[.int .u64 (s : Int), .int .u64 (k1 : Int)] 51 (0, 0)) := (hk2.block sb (lt_of_heap HW.out.1) (fun h => h)).trans HW.out.1
      have H2 := Lib.hid (And.intro hb2 hk2)
      clear hb2 hk2
      refine hK _ _ (Or.inr ?_) (fun hHeld => ?_)
      · exact ⟨cellAt H2.out.1 0, cellAt H2.out.1 1⟩
      clear hK K
      replace hHeld := hHeld.resolve_left (by decide)
      try simp only [Act.put, List.setIfInBounds_toArray, List.set_cons_zero, List.set_cons_succ]
      refine z_one 15 rfl (by kernel_rfl) (by rfl) (fun K hK => ?_)
      simp only [List.getElem_toArray, List.getElem_cons_zero, List.getElem_cons_succ]
      go_simp
      refine hK _ _ (Or.inr ?_) (fun hHeld => ?_)
      · exact hHeld
      clear hK K
      replace hHeld := hHeld.resolve_left (by decide)
      try simp only [Act.put, List.setIfInBounds_toArray, List.set_cons_zero, List.set_cons_succ]
      refine z_one 16 rfl (by kernel_rfl) (by rfl) (fun K hK => ?_)
      simp only [List.getElem_toArray, List.getElem_cons_zero, List.getElem_cons_succ]
      go_simp
      refine hK _ _ (Or.inr ?_) (fun hHeld => ?_)
      · exact hHeld
      clear hK K
      replace hHeld := hHeld.resolve_left (by decide)
      try simp only [Act.put, List.setIfInBounds_toArray, List.set_cons_zero, List.set_cons_succ]
      refine z_one 17 rfl (by kernel_rfl) (by rfl) (fun K hK => ?_)
      simp only [List.getElem_toArray, List.getElem_cons_zero, List.getElem_cons_succ]
      have f0 := freeAt H2.out.1 0
      have d0 := hHeld.1
      go_simp
      refine hK _ _ (Or.inl rfl) (fun _ => ?_)
      clear hK K hHeld
      try simp only [Act.put, List.setIfInBounds_toArray, List.set_cons_zero, List.set_cons_succ]
      refine z_done (by kernel_rfl) ?_ _
      have HR : Hid (TkRel w sb gs s k x (.int .i64 1) (W2.setCell ⟨sb, 0, none⟩ (.int .u64 (powm (addm (mulm 37 s) (num xk)) 17 : Int)))) := by
        obtain ⟨_, _, _, h4, h5⟩ := HH.out
        subst h4 h5
        refine Or.inr ⟨rfl, ?_, ((HW.out.2.drew).trans H2.out.2 (fun _ _ h => h.elim)).trans ((Keeps.refl (fun j => j = sb) W2).setCell (p := ⟨sb, 0, none⟩) (fun _ => rfl) _) (fun _ _ h => h)⟩
        rw [heap_setCell_at H2.out.1]; rfl
      clear f0 d0
      go_wp2
      go_roundw
      case rel => exact HR.out
      case measure => decide
    · have HH := Lib.hid (And.intro hb hk)
      clear hb hk
      go_wp2
      go_end0
      exact ⟨⟨_, rfl⟩, HH.out.1, HH.out.2⟩
end Go.Proofs.Ytllpeenjfjobaaa
