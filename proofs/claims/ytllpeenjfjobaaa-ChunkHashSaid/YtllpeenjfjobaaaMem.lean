/-
  Plain tools for memory: cells of a block, rows that are owned, slices that read as a list. Nothing of the program stands here. No conditions.
-/
import Derived.Test.YtllpeenjfjobaaaLaws
namespace Go.Proofs.Ytllpeenjfjobaaa
open Go.RowKit

theorem cellAt {w : World} {b : Nat} {c : Array Value} {t : TypeId} {fr : Nat × Nat} (h : w.heap[b]? = some (.cells c t fr)) (j : Nat) : w.cell? ⟨b, j, none⟩ = c[j]? := by
  simp [World.cell?, h]
theorem freeAt {w : World} {b : Nat} {c : Array Value} {t : TypeId} (h : w.heap[b]? = some (.cells c t (0, 0))) (j : Nat) : w.frozen? ⟨b, j, none⟩ = false := by
  simp [World.frozen?, h]
theorem heap_setCell_at {w : World} {b : Nat} {c : Array Value} {t : TypeId} {fr : Nat × Nat} (h : w.heap[b]? = some (.cells c t fr)) (j : Nat) (v : Value) :
    (w.setCell ⟨b, j, none⟩ v).heap[b]? = some (.cells (c.setIfInBounds j v) t fr) := by
  simp [World.setCell, Array.getElem?_modify, h]
theorem addr_add (b off j : Nat) : (⟨b, off, none⟩ : Addr).add j = ⟨b, off + j, none⟩ := by unfold Addr.add; split <;> simp_all

theorem own_lt {w : World} {base : Nat} {e : TypeId} {size : Nat} {sa : Option Addr} {n c m : Nat} {xs : List Value} {g : Nat} (h : w.ownsRow base e size (.slice sa n c) m xs) (hg : sa = some ⟨g, 0, none⟩) : base ≤ g ∧ g < w.heap.size :=
  h.lt g (by rw [hg]; rfl)
theorem own_addr {w : World} {base : Nat} {e : TypeId} {size : Nat} {sa : Option Addr} {n c m : Nat} {xs : List Value} (h : w.ownsRow base e size (.slice sa n c) m xs) : (sa = none ∧ n = 0 ∧ c = 0) ∨ ∃ g, sa = some ⟨g, 0, none⟩ := by
  rcases h.2 with ⟨h, _⟩ | ⟨g, _, _, h, _⟩
  · simp only [Value.slice.injEq] at h; exact Or.inl ⟨h.1, h.2.1, h.2.2⟩
  · simp only [Value.slice.injEq] at h; exact Or.inr ⟨g, h.1⟩
theorem own_blk {w : World} {base : Nat} {e : TypeId} {size : Nat} {sa : Option Addr} {n c m : Nat} {xs : List Value} {g : Nat} (h : w.ownsRow base e size (.slice sa n c) m xs) (hg : sa = some ⟨g, 0, none⟩) : ∃ cur, w.heap[g]? = some (.cells cur e (0, 0)) := by
  rcases h.2 with ⟨h, _⟩ | ⟨g', _, cur, h, _, hh, _⟩
  · simp only [Value.slice.injEq] at h; rw [h.1] at hg; cases hg
  · simp only [Value.slice.injEq] at h
    rw [h.1] at hg
    simp only [Option.some.injEq, Addr.mk.injEq, and_true] at hg
    subst hg
    exact ⟨cur, hh⟩
theorem own_keep {F : Nat → Prop} {w w' : World} {base : Nat} {e : TypeId} {size : Nat} {v : Value} {m : Nat} {xs : List Value} (h : w.ownsRow base e size v m xs) (hk : Keeps F w w') (hn : ∀ k, v.ownBlock = some k → ¬ F k) : w'.ownsRow base e size v m xs := by
  have hlt := h.lt
  obtain ⟨h1, h2⟩ := h
  refine ⟨h1, ?_⟩
  rcases h2 with h2 | ⟨g, cap, cur, rfl, hb, hh, r⟩
  · exact Or.inl h2
  · exact Or.inr ⟨g, cap, cur, rfl, hb, by rw [hk.block g (hlt g rfl).2 (hn g rfl)]; exact hh, r⟩
theorem own_base {w : World} {base base' : Nat} {e : TypeId} {size : Nat} {v : Value} {m : Nat} {xs : List Value} (h : w.ownsRow base e size v m xs) (hn : ∀ k, v.ownBlock = some k → base' ≤ k) : w.ownsRow base' e size v m xs := by
  obtain ⟨h1, h2⟩ := h
  refine ⟨h1, ?_⟩
  rcases h2 with h2 | ⟨g, cap, cur, rfl, hb, r⟩
  · exact Or.inl h2
  · exact Or.inr ⟨g, cap, cur, rfl, hn g rfl, r⟩
/-- A cell of what is owned. -/
theorem own_cell {w : World} {base : Nat} {e : TypeId} {size : Nat} {g n c m : Nat} {xs : List Value} (h : w.ownsRow base e size (.slice (some ⟨g, 0, none⟩) n c) m xs) (j : Nat) (u : Value) (hu : xs[j]? = some u) : w.cell? ⟨g, j, none⟩ = some u := by
  have := h.cells (g := g) rfl j u hu
  rwa [addr_add, Nat.zero_add] at this

/-- What a slice holds: the cells of l lie at its address. -/
def Lies (w : World) (sa : Option Addr) (l : List Value) : Prop := ∀ ad, sa = some ad → ∀ j u, l[j]? = some u → w.cell? (ad.add j) = some u

/-- A slice of elements of one cell each reads as xs. -/
structure Sl (w : World) (sa : Option Addr) (n cap : Nat) (xs : List Value) : Prop where
  len : xs.length = n
  le : n ≤ cap
  capB : cap ≤ 9223372036854775807
  nil : sa = none → n = 0 ∧ cap = 0
  path : 0 < n → ∀ ad, sa = some ad → ∃ b off, ad = ⟨b, off, none⟩
  lies : Lies w sa xs

theorem Sl.none0 (w : World) : Sl w none 0 0 [] := ⟨rfl, Nat.le_refl _, by omega, fun _ => ⟨rfl, rfl⟩, fun h => by omega, fun _ h => by simp at h⟩
theorem Sl.of_own {w : World} {base : Nat} {e : TypeId} {sa : Option Addr} {n cap : Nat} {xs : List Value} (h : w.ownsRow base e 1 (.slice sa n cap) n xs) : Sl w sa n cap xs := by
  rcases own_addr h with ⟨rfl, rfl, rfl⟩ | ⟨g, rfl⟩
  · have := h.1
    obtain rfl : xs = [] := List.eq_nil_of_length_eq_zero (by simpa using this)
    exact Sl.none0 w
  · refine ⟨by simpa using h.1, ?_, ?_, fun h => (by cases h), fun _ ad e => ⟨g, 0, by cases e; rfl⟩, fun ad e j u hu => ?_⟩
    · rcases h.2 with ⟨h', _⟩ | ⟨g', cap', cur, h', hb, hh, hn, hm, r⟩
      · simp at h'
      · simp only [Value.slice.injEq] at h'
        omega
    · rcases h.2 with ⟨h', _⟩ | ⟨g', cap', cur, h', hb, hh, hn, hm, r⟩
      · simp at h'
      · simp only [Value.slice.injEq] at h'
        unfold maxLen at hm
        omega
    · cases e
      rw [addr_add, Nat.zero_add]
      exact own_cell h j u hu
theorem Sl.keep {F : Nat → Prop} {w w' : World} {sa : Option Addr} {n cap : Nat} {xs : List Value} (h : Sl w sa n cap xs) (hk : Keeps F w w') (hn : ∀ ad, sa = some ad → 0 < n → ad.block < w.heap.size → ¬ F ad.block) : Sl w' sa n cap xs :=
  ⟨h.len, h.le, h.capB, h.nil, h.path, fun ad e j u hu => by
    have hc := h.lies ad e j u hu
    have hn0 : 0 < n := by have := h.len; have := (List.getElem?_eq_some_iff.1 hu).1; omega
    obtain ⟨b, off, rfl⟩ := h.path hn0 ad e
    rw [addr_add] at hc ⊢
    have hb := World.block_lt_of_cell? w _ hc
    exact (hk.cell (p := ⟨b, off + j, none⟩) hb (hn ⟨b, off, none⟩ e hn0 hb)).trans hc⟩
theorem Sl.cell {w : World} {b off n cap : Nat} {xs : List Value} (h : Sl w (some ⟨b, off, none⟩) n cap xs) {j : Nat} {u : Value} (hu : xs[j]? = some u) : w.cell? ⟨b, off + j, none⟩ = some u := by
  have := h.lies _ rfl j u hu
  rwa [addr_add] at this
theorem Sl.isSome {w : World} {sa : Option Addr} {n cap : Nat} {xs : List Value} (h : Sl w sa n cap xs) (hn : 0 < n) : ∃ b off, sa = some ⟨b, off, none⟩ := by
  cases sa with
  | none => have := h.nil rfl; omega
  | some ad => obtain ⟨b, off, rfl⟩ := h.path hn ad rfl; exact ⟨b, off, rfl⟩

theorem Keeps.quiet {F : Nat → Prop} {a b c : World} (h : Keeps F a b) (hk : Keeps (fun _ => False) b c) : Keeps F a c := h.trans hk (fun _ _ h => h.elim)
theorem Sl.quiet {w w' : World} {sa : Option Addr} {n cap : Nat} {xs : List Value} (h : Sl w sa n cap xs) (hk : Keeps (fun _ => False) w w') : Sl w' sa n cap xs := h.keep hk (fun _ _ _ _ h => h)
theorem Sl.upto {w : World} {sa : Option Addr} {n cap : Nat} {xs : List Value} (h : Sl w sa n cap xs) {k : Nat} (hk : k ≤ n) : Sl w sa k cap (xs.take k) := by
  have hl := h.len
  have hle := h.le
  refine ⟨by rw [List.length_take]; omega, by omega, h.capB, fun e => ?_, fun h0 => h.path (by omega), fun ad e j u hu => h.lies ad e j u ?_⟩
  · have := h.nil e; omega
  · rw [List.getElem?_take] at hu
    split at hu
    · exact hu
    · cases hu
theorem BV_take (l : List UInt8) (k : Nat) : (BV l).take k = BV (l.take k) := by simp [BV, List.map_take]
theorem BV_drop (l : List UInt8) (k : Nat) : (BV l).drop k = BV (l.drop k) := by simp [BV, List.map_drop]

theorem blk_lt {w : World} {sa : Option Addr} {n cap : Nat} {xs : List Value} (h : Sl w sa n cap xs) {ad : Addr} (e : sa = some ad) (h0 : 0 < n) : ad.block < w.heap.size := by
  subst e
  obtain ⟨b, off, rfl⟩ := h.path h0 ad rfl
  obtain ⟨u, hu⟩ : ∃ u, xs[0]? = some u := ⟨_, List.getElem?_eq_getElem (by have := h.len; omega)⟩
  exact World.block_lt_of_cell? w _ (h.cell hu)
/-- One cell of what is owned is written. -/
theorem own_set {w : World} {base : Nat} {e : TypeId} {g n c : Nat} {xs : List Value} (h : w.ownsRow base e 1 (.slice (some ⟨g, 0, none⟩) n c) n xs) (k : Nat) (v : Value) : (w.setCell ⟨g, k, none⟩ v).ownsRow base e 1 (.slice (some ⟨g, 0, none⟩) n c) n (xs.set k v) := by
  obtain ⟨h1, h2⟩ := h
  rcases h2 with ⟨h, _⟩ | ⟨g2, cap2, cur2, h, hb, hh, hn, hm, hs, ht⟩
  · simp at h
  · simp only [Value.slice.injEq, Option.some.injEq, Addr.mk.injEq, and_true, true_and] at h
    obtain ⟨rfl, rfl⟩ := h
    refine ⟨by rw [List.length_set]; exact h1, Or.inr ⟨g, c, _, rfl, hb, heap_setCell_at hh k v, hn, hm, by simpa using hs, ?_⟩⟩
    rw [← ht, Array.toList_setIfInBounds, List.take_set]
theorem own_free {w : World} {base : Nat} {e : TypeId} {size : Nat} {g n c m : Nat} {xs : List Value} (h : w.ownsRow base e size (.slice (some ⟨g, 0, none⟩) n c) m xs) (j : Nat) : w.frozen? ⟨g, j, none⟩ = false := by
  obtain ⟨cur, hc⟩ := own_blk h rfl
  exact freeAt hc j
/-- Numbers without a sign, as cells. -/
def NV (l : List Nat) : List Value := l.map fun x : Nat => .int .u64 (x : Int)
@[simp] theorem NV_length (l : List Nat) : (NV l).length = l.length := by simp [NV]
theorem NV_append (a b : List Nat) : NV (a ++ b) = NV a ++ NV b := by simp [NV]
theorem NV_get (l : List Nat) (j : Nat) : (NV l)[j]? = l[j]?.map fun x : Nat => .int .u64 (x : Int) := by simp [NV]
theorem NV_set (l : List Nat) (k x : Nat) : (NV l).set k (.int .u64 (x : Int)) = NV (l.set k x) := by simp [NV, List.map_set]
theorem BV_set (l : List UInt8) (k : Nat) (x : UInt8) : (BV l).set k (.int .u8 (x.toNat : Int)) = BV (l.set k x) := by simp [BV, List.map_set]
theorem NV_one (l : List Nat) : ∀ u ∈ NV l, u.oneCell' = true := by
  intro u hu
  simp only [NV, List.mem_map] at hu
  obtain ⟨c, _, rfl⟩ := hu
  rfl
end Go.Proofs.Ytllpeenjfjobaaa
