/-
  The cells of the reference's disk and store: what stores of five and of eleven cells leave. Plain laws. Conditions: those that are named.
-/
import Derived.Test.YtpojkhjenbbodaaRefSt
namespace Go.Proofs.Ytpojkhjenbbodaa
open Go.RowKit

/-- Eleven cells are written one behind the other. -/
theorem heap_eleven {w : World} {b : Nat} {t : TypeId} {c0 c1 c2 c3 c4 c5 c6 c7 c8 c9 c10 : Value} (h : w.heap[b]? = some (.cells #[c0, c1, c2, c3, c4, c5, c6, c7, c8, c9, c10] t (0, 0))) (v0 v1 v2 v3 v4 v5 v6 v7 v8 v9 v10 : Value) :
    (((((((((((w.setCell ⟨b, 0, none⟩ v0).setCell ⟨b, 1, none⟩ v1).setCell ⟨b, 2, none⟩ v2).setCell ⟨b, 3, none⟩ v3).setCell ⟨b, 4, none⟩ v4).setCell ⟨b, 5, none⟩ v5).setCell ⟨b, 6, none⟩ v6).setCell ⟨b, 7, none⟩ v7).setCell ⟨b, 8, none⟩ v8).setCell ⟨b, 9, none⟩ v9).setCell ⟨b, 10, none⟩ v10).heap[b]? = some (.cells #[v0, v1, v2, v3, v4, v5, v6, v7, v8, v9, v10] t (0, 0)) := by
  have h0 := heap_setCell_at h 0 v0
  simp only [List.setIfInBounds_toArray, List.set_cons_zero] at h0
  have h1 := heap_setCell_at h0 1 v1
  simp only [List.setIfInBounds_toArray, List.set_cons_zero, List.set_cons_succ] at h1
  have h2 := heap_setCell_at h1 2 v2
  simp only [List.setIfInBounds_toArray, List.set_cons_zero, List.set_cons_succ] at h2
  have h3 := heap_setCell_at h2 3 v3
  simp only [List.setIfInBounds_toArray, List.set_cons_zero, List.set_cons_succ] at h3
  have h4 := heap_setCell_at h3 4 v4
  simp only [List.setIfInBounds_toArray, List.set_cons_zero, List.set_cons_succ] at h4
  have h5 := heap_setCell_at h4 5 v5
  simp only [List.setIfInBounds_toArray, List.set_cons_zero, List.set_cons_succ] at h5
  have h6 := heap_setCell_at h5 6 v6
  simp only [List.setIfInBounds_toArray, List.set_cons_zero, List.set_cons_succ] at h6
  have h7 := heap_setCell_at h6 7 v7
  simp only [List.setIfInBounds_toArray, List.set_cons_zero, List.set_cons_succ] at h7
  have h8 := heap_setCell_at h7 8 v8
  simp only [List.setIfInBounds_toArray, List.set_cons_zero, List.set_cons_succ] at h8
  have h9 := heap_setCell_at h8 9 v9
  simp only [List.setIfInBounds_toArray, List.set_cons_zero, List.set_cons_succ] at h9
  have h10 := heap_setCell_at h9 10 v10
  simp only [List.setIfInBounds_toArray, List.set_cons_zero, List.set_cons_succ] at h10
  exact h10
theorem keeps_eleven (w : World) (b : Nat) (v0 v1 v2 v3 v4 v5 v6 v7 v8 v9 v10 : Value) : Keeps (fun k => k = b) w (((((((((((w.setCell ⟨b, 0, none⟩ v0).setCell ⟨b, 1, none⟩ v1).setCell ⟨b, 2, none⟩ v2).setCell ⟨b, 3, none⟩ v3).setCell ⟨b, 4, none⟩ v4).setCell ⟨b, 5, none⟩ v5).setCell ⟨b, 6, none⟩ v6).setCell ⟨b, 7, none⟩ v7).setCell ⟨b, 8, none⟩ v8).setCell ⟨b, 9, none⟩ v9).setCell ⟨b, 10, none⟩ v10) := by
  iterate 11 refine Keeps.setCell (F := fun k => k = b) (p := ⟨b, _, none⟩) ?_ (fun _ => rfl) _
  exact Keeps.refl _ _

theorem heap_five {w : World} {b : Nat} {t : TypeId} {c0 c1 c2 c3 c4 : Value} (h : w.heap[b]? = some (.cells #[c0, c1, c2, c3, c4] t (0, 0))) (v0 v1 v2 v3 v4 : Value) :
    (((((w.setCell ⟨b, 0, none⟩ v0).setCell ⟨b, 1, none⟩ v1).setCell ⟨b, 2, none⟩ v2).setCell ⟨b, 3, none⟩ v3).setCell ⟨b, 4, none⟩ v4).heap[b]? = some (.cells #[v0, v1, v2, v3, v4] t (0, 0)) := by
  rw [heap_setCell_at (heap_setCell_at (heap_setCell_at (heap_setCell_at (heap_setCell_at h 0 v0) 1 v1) 2 v2) 3 v3) 4 v4]
  rfl
theorem keeps_five (w : World) (b : Nat) (v0 v1 v2 v3 v4 : Value) :
    Keeps (fun k => k = b) w (((((w.setCell ⟨b, 0, none⟩ v0).setCell ⟨b, 1, none⟩ v1).setCell ⟨b, 2, none⟩ v2).setCell ⟨b, 3, none⟩ v3).setCell ⟨b, 4, none⟩ v4) := by
  iterate 5 refine Keeps.setCell (F := fun k => k = b) (p := ⟨b, _, none⟩) ?_ (fun _ => rfl) _
  exact Keeps.refl _ _
/-- A disk's rows lie apart from a block of another kind. -/
theorem ref_apart {w : World} {v : Array Value} {D : DS} {b : Nat} {c : Array Value} (h : RefAt w 0 v D) (hb : w.heap[b]? = some (.cells c 38 (0, 0))) : RF (fun j => ¬ j = b) v := by
  obtain ⟨sn, cn, ss, cs, sa, ca, sb, cb, rfl, h1, h2, h3, h4⟩ := h.rows
  have key : ∀ {e : TypeId} {sx : Option Addr} {n cx m : Nat} {xs : List Value}, w.ownsRow 0 e 1 (.slice sx n cx) m xs → e ≠ 38 → ∀ j, Value.ownBlock (.slice sx n cx) = some j → ¬ j = b := fun ho hne j hj e => by
    obtain ⟨cur, hc⟩ := own_blk ho (form_own ho hj)
    rw [e, hb] at hc
    simp only [Option.some.injEq, Obj.cells.injEq] at hc
    exact hne hc.2.1.symm
  exact RF.five (key h1 (by decide)) (key h2 (by decide)) (key h3 (by decide)) (key h4 (by decide))
theorem heap_five11 {w : World} {b : Nat} {t : TypeId} {c0 c1 c2 c3 c4 c5 c6 c7 c8 c9 c10 : Value} (h : w.heap[b]? = some (.cells #[c0, c1, c2, c3, c4, c5, c6, c7, c8, c9, c10] t (0, 0))) (v0 v1 v2 v3 v4 : Value) :
    (((((w.setCell ⟨b, 0, none⟩ v0).setCell ⟨b, 1, none⟩ v1).setCell ⟨b, 2, none⟩ v2).setCell ⟨b, 3, none⟩ v3).setCell ⟨b, 4, none⟩ v4).heap[b]? = some (.cells #[v0, v1, v2, v3, v4, c5, c6, c7, c8, c9, c10] t (0, 0)) := by
  rw [heap_setCell_at (heap_setCell_at (heap_setCell_at (heap_setCell_at (heap_setCell_at h 0 v0) 1 v1) 2 v2) 3 v3) 4 v4]
  rfl
theorem ref_apartS {w : World} {v : Array Value} {D : DS} {b : Nat} {c : Array Value} (h : RefAt w 0 v D) (hb : w.heap[b]? = some (.cells c 41 (0, 0))) : RF (fun j => ¬ j = b) v := by
  obtain ⟨sn, cn, ss, cs, sa, ca, sb, cb, rfl, h1, h2, h3, h4⟩ := h.rows
  have key : ∀ {e : TypeId} {sx : Option Addr} {n cx m : Nat} {xs : List Value}, w.ownsRow 0 e 1 (.slice sx n cx) m xs → e ≠ 41 → ∀ j, Value.ownBlock (.slice sx n cx) = some j → ¬ j = b := fun ho hne j hj e => by
    obtain ⟨cur, hc⟩ := own_blk ho (form_own ho hj)
    rw [e, hb] at hc
    simp only [Option.some.injEq, Obj.cells.injEq] at hc
    exact hne hc.2.1.symm
  exact RF.five (key h1 (by decide)) (key h2 (by decide)) (key h3 (by decide)) (key h4 (by decide))
theorem RGrow.far {W w : World} {a b c : Array Value} (h1 : RGrow W a b) (h2 : RGrow w b c) (hs : W.heap.size ≤ w.heap.size) : RGrow W a c :=
  fun G ha hn => h2 G (h1 G ha hn) (fun j hj => hn j (Nat.le_trans hs hj))
theorem wpList_pushVat {ops : Array Oper} {rest : List Oper} {o : Oper} {a : Act} {Q : Exit → Act → World → Prop} (w0 : World) (sv : Option Addr) (nv cv : Nat) (hgd : o.guard = none) (s x : Operand)
    (ho : o.op = .call { callee := .builtin .append, args := #[s, x], argTypes := #[30, 30] }) (base : Nat)
    (sa : Option Addr) (n c : Nat) (xs : List Value) (hs : a.eval s = .slice sa n c) (hown : w0.ownsRow base 23 1 (.slice sa n c) n xs)
    (hx : a.eval x = .slice (some ⟨w0.heap.size, 0, none⟩) 1 1) (hn : n ≤ 4000000000) (hbase : base ≤ w0.heap.size)
    (h : ∀ sa' cap' w', w'.ownsRow base 23 1 (.slice sa' (n + 1) cap') (n + 1) (xs ++ [.slice sv nv cv]) → Keeps (fun k => sa = some ⟨k, 0, none⟩) w0 w' → (∀ k, sa' = some ⟨k, 0, none⟩ → sa = some ⟨k, 0, none⟩ ∨ w0.heap.size ≤ k) → wpList Try.prog ops Q rest (a.put o.dst (.slice sa' (n + 1) cap')) w') :
    wpList Try.prog ops Q (o :: rest) a (w0.alloc (.cells #[.slice sv nv cv] 23)) :=
  wpList_plain hgd fun _ hK => wp_pushV w0 sv nv cv s x ho base sa n c xs hs hown hx hn hbase (fun sa' cap' w' h1 h2 h3 => hK _ _ (h sa' cap' w' h1 h2 h3))
end Go.Proofs.Ytpojkhjenbbodaa
