/-
  A disk in memory: what its block and its three rows hold, and which blocks are its own.
  Nothing is walked here. No conditions.
-/
import Derived.Test.YtllfiplhfbbhaaaClone
namespace Go.Proofs.Ytllfiplhfbbhaaa
open Go.RowKit

/-- What a disk is: all bytes, what is sure, the loose bytes and their places, whether it has crashed. -/
structure DS where
  now : List UInt8
  sure : List UInt8
  lo : List (Nat × UInt8)
  cr : Bool

/-- Loose bytes as cells. -/
def LV (l : List (Nat × UInt8)) : List Value := l.flatMap fun x => [.int .i64 x.1, .int .u8 x.2.toNat]
theorem LV_length (l : List (Nat × UInt8)) : (LV l).length = l.length * 2 := by induction l with | nil => rfl | cons x l ih => simp [LV] at *; omega
theorem LV_append (a b : List (Nat × UInt8)) : LV (a ++ b) = LV a ++ LV b := by simp [LV]

structure DiskAt (w : World) (p : Nat) (D : DS) (gn cn gs cs : Nat) (sl : Option Addr) (cl : Nat) : Prop where
  blk : w.heap[p]? = some (.cells #[.slice (some ⟨gn, 0, none⟩) D.now.length cn, .slice (some ⟨gs, 0, none⟩) D.now.length cs, .slice sl D.lo.length cl, .bool D.cr] 64 (0, 0))
  now : w.ownsRow 0 5 1 (.slice (some ⟨gn, 0, none⟩) D.now.length cn) D.now.length (BV D.now)
  sure : w.ownsRow 0 5 1 (.slice (some ⟨gs, 0, none⟩) D.now.length cs) D.now.length (BV D.sure)
  lo : w.ownsRow 0 69 2 (.slice sl D.lo.length cl) D.lo.length (LV D.lo)
  ne : gn ≠ gs

/-- The disk's own blocks. -/
def Foot (p gn gs : Nat) (sl : Option Addr) : Nat → Prop := fun k => k = p ∨ k = gn ∨ k = gs ∨ sl = some ⟨k, 0, none⟩

/-- A disk, its own blocks F. -/
def Disk (w : World) (p : Nat) (D : DS) (F : Nat → Prop) : Prop := ∃ gn cn gs cs sl cl, DiskAt w p D gn cn gs cs sl cl ∧ F = Foot p gn gs sl

theorem own_lt {w : World} {base : Nat} {e : TypeId} {size : Nat} {sa : Option Addr} {n c m : Nat} {xs : List Value} {g : Nat} (h : w.ownsRow base e size (.slice sa n c) m xs) (hg : sa = some ⟨g, 0, none⟩) : base ≤ g ∧ g < w.heap.size :=
  h.lt g (by rw [hg]; rfl)
theorem own_addr {w : World} {base : Nat} {e : TypeId} {size : Nat} {sa : Option Addr} {n c m : Nat} {xs : List Value} (h : w.ownsRow base e size (.slice sa n c) m xs) : (sa = none ∧ n = 0 ∧ c = 0) ∨ ∃ g, sa = some ⟨g, 0, none⟩ := by
  rcases h.2 with ⟨h, _⟩ | ⟨g, _, _, h, _⟩
  · simp only [Value.slice.injEq] at h; exact Or.inl ⟨h.1, h.2.1, h.2.2⟩
  · simp only [Value.slice.injEq] at h; exact Or.inr ⟨g, h.1⟩
theorem own_blk {w : World} {base : Nat} {e : TypeId} {size : Nat} {sa : Option Addr} {n c m : Nat} {xs : List Value} {g : Nat} (h : w.ownsRow base e size (.slice sa n c) m xs) (hg : sa = some ⟨g, 0, none⟩) : ∃ cur, w.heap[g]? = some (.cells cur e (0, 0)) := by
  rcases h.2 with ⟨h, _⟩ | ⟨g', _, cur, h, _, hh, _⟩
  · simp only [Value.slice.injEq] at h; rw [h.1] at hg; cases hg
  · simp only [Value.slice.injEq] at h
    rw [h.1] at hg
    simp only [Option.some.injEq, Addr.mk.injEq, and_true] at hg
    subst hg
    exact ⟨cur, hh⟩
theorem own_keep {F : Nat → Prop} {w w' : World} {base : Nat} {e : TypeId} {size : Nat} {v : Value} {m : Nat} {xs : List Value} (h : w.ownsRow base e size v m xs) (hk : Keeps F w w') (hn : ∀ k, v.ownBlock = some k → ¬ F k) : w'.ownsRow base e size v m xs := by
  have hlt := h.lt
  obtain ⟨h1, h2⟩ := h
  refine ⟨h1, ?_⟩
  rcases h2 with h2 | ⟨g, cap, cur, rfl, hb, hh, r⟩
  · exact Or.inl h2
  · exact Or.inr ⟨g, cap, cur, rfl, hb, by rw [hk.block g (hlt g rfl).2 (hn g rfl)]; exact hh, r⟩
theorem own_base {w : World} {base base' : Nat} {e : TypeId} {size : Nat} {v : Value} {m : Nat} {xs : List Value} (h : w.ownsRow base e size v m xs) (hn : ∀ k, v.ownBlock = some k → base' ≤ k) : w.ownsRow base' e size v m xs := by
  obtain ⟨h1, h2⟩ := h
  refine ⟨h1, ?_⟩
  rcases h2 with h2 | ⟨g, cap, cur, rfl, hb, r⟩
  · exact Or.inl h2
  · exact Or.inr ⟨g, cap, cur, rfl, hn g rfl, r⟩

section
variable {w w' : World} {p : Nat} {D : DS} {gn cn gs cs : Nat} {sl : Option Addr} {cl : Nat}

theorem DiskAt.nlt (h : DiskAt w p D gn cn gs cs sl cl) : p < w.heap.size ∧ gn < w.heap.size ∧ gs < w.heap.size ∧ (∀ g, sl = some ⟨g, 0, none⟩ → g < w.heap.size) :=
  ⟨lt_of_heap h.blk, (own_lt h.now rfl).2, (own_lt h.sure rfl).2, fun _ hg => (own_lt h.lo hg).2⟩
theorem DiskAt.apart (h : DiskAt w p D gn cn gs cs sl cl) : p ≠ gn ∧ p ≠ gs ∧ gn ≠ gs ∧ (∀ g, sl = some ⟨g, 0, none⟩ → g ≠ p ∧ g ≠ gn ∧ g ≠ gs) := by
  obtain ⟨c1, h1⟩ := own_blk h.now rfl
  obtain ⟨c2, h2⟩ := own_blk h.sure rfl
  have hb := h.blk
  refine ⟨fun e => ?_, fun e => ?_, h.ne, fun g hg => ?_⟩
  · subst e; rw [hb] at h1; simp at h1
  · subst e; rw [hb] at h2; simp at h2
  · obtain ⟨c3, h3⟩ := own_blk h.lo hg
    refine ⟨fun e => ?_, fun e => ?_, fun e => ?_⟩
    · subst e; rw [hb] at h3; simp at h3
    · subst e; rw [h1] at h3; simp at h3
    · subst e; rw [h2] at h3; simp at h3
theorem DiskAt.foot_lt (h : DiskAt w p D gn cn gs cs sl cl) : ∀ k, Foot p gn gs sl k → k < w.heap.size := by
  intro k hk
  have := h.nlt
  rcases hk with rfl | rfl | rfl | hk
  · exact this.1
  · exact this.2.1
  · exact this.2.2.1
  · exact this.2.2.2 k hk
theorem Disk.foot_lt {F : Nat → Prop} (h : Disk w p D F) : ∀ k, F k → k < w.heap.size := by
  obtain ⟨gn, cn, gs, cs, sl, cl, h, rfl⟩ := h
  exact h.foot_lt
/-- A disk whose blocks are kept is as it was. -/
theorem DiskAt.keep {G : Nat → Prop} (h : DiskAt w p D gn cn gs cs sl cl) (hk : Keeps G w w') (hn : ∀ k, Foot p gn gs sl k → ¬ G k) : DiskAt w' p D gn cn gs cs sl cl where
  blk := by rw [hk.block p (lt_of_heap h.blk) (hn p (Or.inl rfl))]; exact h.blk
  now := own_keep h.now hk (fun k e => hn k (Or.inr (Or.inl (by simpa [Value.ownBlock] using e.symm))))
  sure := own_keep h.sure hk (fun k e => hn k (Or.inr (Or.inr (Or.inl (by simpa [Value.ownBlock] using e.symm)))))
  lo := own_keep h.lo hk (fun k e => hn k (Or.inr (Or.inr (Or.inr (by
    rcases own_addr h.lo with ⟨rfl, _⟩ | ⟨g, rfl⟩
    · simp [Value.ownBlock] at e
    · simp [Value.ownBlock] at e; rw [e])))))
  ne := h.ne
theorem Disk.keep {F G : Nat → Prop} (h : Disk w p D F) (hk : Keeps G w w') (hn : ∀ k, F k → ¬ G k) : Disk w' p D F := by
  obtain ⟨gn, cn, gs, cs, sl, cl, h, rfl⟩ := h
  exact ⟨gn, cn, gs, cs, sl, cl, h.keep hk hn, rfl⟩
end

theorem cellAt {w : World} {b : Nat} {c : Array Value} {t : TypeId} {fr : Nat × Nat} (h : w.heap[b]? = some (.cells c t fr)) (j : Nat) : w.cell? ⟨b, j, none⟩ = c[j]? := by
  simp [World.cell?, h]
theorem freeAt {w : World} {b : Nat} {c : Array Value} {t : TypeId} (h : w.heap[b]? = some (.cells c t (0, 0))) (j : Nat) : w.frozen? ⟨b, j, none⟩ = false := by
  simp [World.frozen?, h]
/-- A cell of what is owned. -/
theorem own_cell {w : World} {base : Nat} {e : TypeId} {size : Nat} {g n c m : Nat} {xs : List Value} (h : w.ownsRow base e size (.slice (some ⟨g, 0, none⟩) n c) m xs) (j : Nat) (u : Value) (hu : xs[j]? = some u) : w.cell? ⟨g, j, none⟩ = some u := by
  have := h.cells (g := g) rfl j u hu
  have hadd : (⟨g, 0, none⟩ : Addr).add j = ⟨g, j, none⟩ := by unfold Addr.add; split <;> simp_all
  rwa [hadd] at this
theorem addr_add (b off j : Nat) : (⟨b, off, none⟩ : Addr).add j = ⟨b, off + j, none⟩ := by unfold Addr.add; split <;> simp_all
end Go.Proofs.Ytllfiplhfbbhaaa
