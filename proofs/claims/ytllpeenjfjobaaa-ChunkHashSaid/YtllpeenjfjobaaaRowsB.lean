/-
  Rows of rows of bytes: the cells of the outer row are slices; each reads as a list (RowsS), or owns a block of its own (RowsO). Conditions: sizes that fit.
-/
import Derived.Test.YtllpeenjfjobaaaPush
import Derived.Test.YtllpeenjfjobaaaConv
namespace Go.Proofs.Ytllpeenjfjobaaa
open Go.RowKit

theorem infoRow : (Try.prog.info? 22).map (fun i => (i.zero, i.size, i.bytes)) = some (some (.slice none 0 0), 1, 24) := by kernel_rfl
theorem wpList_pushV {ops : Array Oper} {rest : List Oper} {o : Oper} {a : Act} {Q : Exit → Act → World → Prop} (w0 : World) (so : Option Addr) (no co : Nat) (hgd : o.guard = none) (s x : Operand)
    (ho : o.op = .call { callee := .builtin .append, args := #[s, x], argTypes := #[26, 26] }) (base : Nat)
    (sa : Option Addr) (n c : Nat) (xs : List Value) (hs : a.eval s = .slice sa n c) (hown : w0.ownsRow base 22 1 (.slice sa n c) n xs)
    (hx : a.eval x = .slice (some ⟨w0.heap.size, 0, none⟩) 1 1) (hn : n ≤ 4000000000) (hbase : base ≤ w0.heap.size)
    (h : ∀ sa' cap' w', w'.ownsRow base 22 1 (.slice sa' (n + 1) cap') (n + 1) (xs ++ [.slice so no co]) → Keeps (fun k => sa = some ⟨k, 0, none⟩) w0 w' → w0.heap.size < w'.heap.size → wpList Try.prog ops Q rest (a.put o.dst (.slice sa' (n + 1) cap')) w') :
    wpList Try.prog ops Q (o :: rest) a (w0.alloc (.cells #[.slice so no co] 22)) := by
  obtain ⟨i0, hi, hz0, hz1, hz2⟩ := info_parts infoRow
  exact wpList_push w0 _ hgd s x 26 ho base 22 i0 (.slice none 0 0) 24 Try.underlying26 hi hz0 hz1 hz2 rfl sa n c xs hs hown hx rfl (by unfold maxLen; omega) (by omega) hbase h

/-- Each value is a slice that reads as its row. -/
structure RowsS (w : World) (vs : List Value) (rs : List (List UInt8)) : Prop where
  len : vs.length = rs.length
  row : ∀ (i : Nat) r, rs[i]? = some r → ∃ sa cap, vs[i]? = some (.slice sa r.length cap) ∧ Sl w sa r.length cap (BV r)
/-- Each value is a slice that owns its row, in a block of its own. -/
structure RowsO (w : World) (base : Nat) (vs : List Value) (rs : List (List UInt8)) : Prop where
  len : vs.length = rs.length
  row : ∀ (i : Nat) r, rs[i]? = some r → ∃ sa cap, vs[i]? = some (.slice sa r.length cap) ∧ w.ownsRow base 5 1 (.slice sa r.length cap) r.length (BV r)
  apart : ∀ (i j : Nat) u v k, i ≠ j → vs[i]? = some u → vs[j]? = some v → u.ownBlock = some k → v.ownBlock = some k → False

theorem RowsS.nil (w : World) : RowsS w [] [] := ⟨rfl, fun _ _ h => by simp at h⟩
theorem RowsO.nil (w : World) (base : Nat) : RowsO w base [] [] := ⟨rfl, fun _ _ h => by simp at h, fun _ _ _ _ _ _ h => by simp at h⟩
theorem RowsO.reads {w : World} {base : Nat} {vs : List Value} {rs : List (List UInt8)} (h : RowsO w base vs rs) : RowsS w vs rs :=
  ⟨h.len, fun i r hr => by obtain ⟨sa, cap, h1, h2⟩ := h.row i r hr; exact ⟨sa, cap, h1, Sl.of_own h2⟩⟩
theorem RowsS.quiet {w w' : World} {vs : List Value} {rs : List (List UInt8)} (h : RowsS w vs rs) (hk : Keeps (fun _ => False) w w') : RowsS w' vs rs :=
  ⟨h.len, fun i r hr => by obtain ⟨sa, cap, h1, h2⟩ := h.row i r hr; exact ⟨sa, cap, h1, h2.quiet hk⟩⟩
theorem RowsO.keep {F : Nat → Prop} {w w' : World} {base : Nat} {vs : List Value} {rs : List (List UInt8)} (h : RowsO w base vs rs) (hk : Keeps F w w') (hn : ∀ k, base ≤ k → k < w.heap.size → (∃ (i : Nat) (v : Value), vs[i]? = some v ∧ v.ownBlock = some k) → ¬ F k) : RowsO w' base vs rs :=
  ⟨h.len, fun i r hr => by
    obtain ⟨sa, cap, h1, h2⟩ := h.row i r hr
    exact ⟨sa, cap, h1, own_keep h2 hk (fun k e => hn k (h2.lt k e).1 (h2.lt k e).2 ⟨i, _, h1, e⟩)⟩, h.apart⟩
theorem RowsO.quiet {w w' : World} {base : Nat} {vs : List Value} {rs : List (List UInt8)} (h : RowsO w base vs rs) (hk : Keeps (fun _ => False) w w') : RowsO w' base vs rs := h.keep hk (fun _ _ _ _ h => h)
theorem RowsO.rebase {w : World} {base base' : Nat} {vs : List Value} {rs : List (List UInt8)} (h : RowsO w base vs rs) (hb : base' ≤ base) : RowsO w base' vs rs :=
  ⟨h.len, fun i r hr => by
    obtain ⟨sa, cap, h1, h2⟩ := h.row i r hr
    exact ⟨sa, cap, h1, own_base h2 (fun k e => by have := (h2.lt k e).1; omega)⟩, h.apart⟩
theorem get_snoc {α : Type} {l : List α} {x y : α} {i : Nat} (h : (l ++ [x])[i]? = some y) : l[i]? = some y ∨ (i = l.length ∧ y = x) := by
  rw [List.getElem?_append] at h
  split at h
  · exact Or.inl h
  · rename_i hl
    obtain ⟨k, hk⟩ : ∃ k, i - l.length = k := ⟨_, rfl⟩
    rw [hk] at h
    cases k with
    | zero => simp at h; exact Or.inr ⟨by omega, h.symm⟩
    | succ k => simp at h
theorem RowsS.snoc {w : World} {vs : List Value} {rs : List (List UInt8)} (h : RowsS w vs rs) {sa : Option Addr} {cap : Nat} {r : List UInt8} {n : Nat} (hn : r.length = n) (hr : Sl w sa n cap (BV r)) : RowsS w (vs ++ [.slice sa n cap]) (rs ++ [r]) := by
  subst hn
  refine ⟨by simp [h.len], fun i x hx => ?_⟩
  rcases get_snoc hx with h1 | ⟨rfl, rfl⟩
  · obtain ⟨sa', cap', h2, h3⟩ := h.row i x h1
    exact ⟨sa', cap', by rw [List.getElem?_append_left (List.getElem?_eq_some_iff.1 h2).1, h2], h3⟩
  · exact ⟨sa, cap, by rw [List.getElem?_append_right (by rw [h.len]; exact Nat.le_refl _), h.len, Nat.sub_self]; rfl, hr⟩
theorem RowsO.snoc {w : World} {base b2 : Nat} {vs : List Value} {rs : List (List UInt8)} (h : RowsO w base vs rs) {sa : Option Addr} {cap : Nat} {r : List UInt8} {n : Nat} (hn : r.length = n) (hr : w.ownsRow b2 5 1 (.slice sa n cap) n (BV r)) (hb : base ≤ b2)
    (hlow : ∀ (i : Nat) v k, vs[i]? = some v → v.ownBlock = some k → k < b2) : RowsO w base (vs ++ [.slice sa n cap]) (rs ++ [r]) := by
  subst hn
  refine ⟨by simp [h.len], fun i x hx => ?_, fun i j u v k hij hu hv eu ev => ?_⟩
  · rcases get_snoc hx with h1 | ⟨rfl, rfl⟩
    · obtain ⟨sa', cap', h2, h3⟩ := h.row i x h1
      exact ⟨sa', cap', by rw [List.getElem?_append_left (List.getElem?_eq_some_iff.1 h2).1, h2], h3⟩
    · exact ⟨sa, cap, by rw [List.getElem?_append_right (by rw [h.len]; exact Nat.le_refl _), h.len, Nat.sub_self]; rfl, own_base hr (fun k e => by have := (hr.lt k e).1; omega)⟩
  · rcases get_snoc hu with h1 | ⟨rfl, rfl⟩
    · rcases get_snoc hv with h2 | ⟨rfl, rfl⟩
      · exact h.apart i j u v k hij h1 h2 eu ev
      · have h3 := hlow i u k h1 eu
        have h4 := (hr.lt k ev).1
        omega
    · rcases get_snoc hv with h2 | ⟨rfl, rfl⟩
      · have h3 := hlow j v k h2 ev
        have h4 := (hr.lt k eu).1
        omega
      · exact hij rfl
theorem RowsO.lt {w : World} {base : Nat} {vs : List Value} {rs : List (List UInt8)} (h : RowsO w base vs rs) {i : Nat} {v : Value} {k : Nat} (hv : vs[i]? = some v) (e : v.ownBlock = some k) : base ≤ k ∧ k < w.heap.size ∧ ∃ cur, w.heap[k]? = some (.cells cur 5 (0, 0)) := by
  have hi : i < rs.length := by rw [← h.len]; exact (List.getElem?_eq_some_iff.1 hv).1
  obtain ⟨sa, cap, h1, h2⟩ := h.row i _ (List.getElem?_eq_getElem hi)
  rw [hv] at h1
  cases h1
  refine ⟨(h2.lt k e).1, (h2.lt k e).2, ?_⟩
  rcases own_addr h2 with ⟨rfl, _⟩ | ⟨g, rfl⟩
  · simp [Value.ownBlock] at e
  · simp [Value.ownBlock] at e
    subst e
    exact own_blk h2 rfl
/-- A row of rows that is owned, and rows of their own, stand apart: their cells are of unlike types. -/
theorem RowsO.apartOuter {w : World} {base b2 : Nat} {vs xs : List Value} {rs : List (List UInt8)} {sa : Option Addr} {n c m : Nat} (h : RowsO w base vs rs) (ho : w.ownsRow b2 22 1 (.slice sa n c) m xs) {i : Nat} {v : Value} {k : Nat} (hv : vs[i]? = some v) (e : v.ownBlock = some k) (e2 : sa = some ⟨k, 0, none⟩) : False := by
  obtain ⟨cur, hc⟩ := own_blk ho e2
  obtain ⟨_, _, cur2, hc2⟩ := h.lt hv e
  rw [hc] at hc2
  simp at hc2
end Go.Proofs.Ytllpeenjfjobaaa
