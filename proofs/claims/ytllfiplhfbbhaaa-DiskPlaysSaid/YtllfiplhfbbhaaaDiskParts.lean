/-
  What the steps of a disk's methods do to its blocks: plain lemmas on worlds and lists. No conditions but those that are named.
-/
import Derived.Test.YtllfiplhfbbhaaaDiskNew
namespace Go.Proofs.Ytllfiplhfbbhaaa
open Go.RowKit

def mkLo (at_ : Nat) (l : List UInt8) : List (Nat × UInt8) := l.zipIdx.map fun x => (at_ + x.2, x.1)
def DS.write (D : DS) (at_ : Nat) (l : List UInt8) : DS := { D with now := splice D.now at_ l, lo := D.lo ++ mkLo at_ l }
theorem mkLo_length (at_ : Nat) (l : List UInt8) : (mkLo at_ l).length = l.length := by simp [mkLo]
theorem mkLo_take (at_ : Nat) (l : List UInt8) (k : Nat) (c : UInt8) (h : l[k]? = some c) : (mkLo at_ l).take (k + 1) = (mkLo at_ l).take k ++ [(at_ + k, c)] := by
  have hk : k < l.length := (List.getElem?_eq_some_iff.1 h).1
  rw [List.take_succ_eq_append_getElem (by rw [mkLo_length]; exact hk)]
  congr 2
  simp only [mkLo, List.getElem_map, List.getElem_zipIdx]
  rw [(List.getElem?_eq_some_iff.1 h).2]
  simp

/-- Behind k rounds of Write's loop. -/
def DS.wrote (D : DS) (at_ : Nat) (l : List UInt8) (k : Nat) : DS := { D with now := splice D.now at_ l, lo := D.lo ++ (mkLo at_ l).take k }
theorem wrote_all (D : DS) (at_ : Nat) (l : List UInt8) : D.wrote at_ l l.length = D.write at_ l := by
  simp only [DS.wrote, DS.write]
  rw [List.take_of_length_le (by rw [mkLo_length]; exact Nat.le_refl _)]
theorem wrote_lo (D : DS) (at_ : Nat) (l : List UInt8) (k : Nat) (h : k ≤ l.length) : (D.wrote at_ l k).lo.length = D.lo.length + k := by
  simp only [DS.wrote, List.length_append, List.length_take, mkLo_length]; omega
theorem BV_splice (a : List UInt8) (k : Nat) (b : List UInt8) : splice (BV a) k (BV b) = BV (splice a k b) := by
  simp [splice, BV]

section
variable {w w' : World} {p : Nat} {D : DS} {gn cn gs cs : Nat} {sl : Option Addr} {cl : Nat}

theorem DiskAt.cap (h : DiskAt w p D gn cn gs cs sl cl) : D.now.length ≤ cn ∧ D.now.length ≤ cs := by
  refine ⟨?_, ?_⟩
  · rcases h.now.2 with ⟨h', _⟩ | ⟨_, _, _, h', _, _, h'', _⟩
    · simp at h'
    · simp at h'; omega
  · rcases h.sure.2 with ⟨h', _⟩ | ⟨_, _, _, h', _, _, h'', _⟩
    · simp at h'
    · simp at h'; omega

theorem keeps_grown {F : Nat → Prop} {row : Option Nat} (hg : w.grownBy w' row) (hr : ∀ k, row = some k → F k) : Keeps F w w' :=
  (Keeps.refl _ _).grown hg (fun k hk _ => hr k hk)

/-- Behind the copy of a Write. -/
theorem DiskAt.wrote (h : DiskAt w p D gn cn gs cs sl cl) (at_ : Nat) (l : List UInt8) (hfit : at_ + l.length ≤ D.now.length)
    (hown : w'.ownsRow 0 5 1 (.slice (some ⟨gn, 0, none⟩) D.now.length cn) D.now.length (splice (BV D.now) at_ (BV l))) (hg : w.grownBy w' (some gn)) :
    DiskAt w' p (D.wrote at_ l 0) gn cn gs cs sl cl := by
  have ap := h.apart
  have hk : Keeps (fun k => k = gn) w w' := keeps_grown hg (fun k e => (Option.some.inj e).symm)
  have hl : (splice D.now at_ l).length = D.now.length := length_splice _ _ _ hfit
  constructor
  · rw [hk.block p (lt_of_heap h.blk) ap.1, h.blk]; simp [DS.wrote, hl]
  · rw [BV_splice] at hown; simpa [DS.wrote, hl] using hown
  · have := own_keep h.sure hk (fun k e => by simp [Value.ownBlock] at e; omega); simpa [DS.wrote, hl] using this
  · have := own_keep h.lo hk (fun k e => by
      rcases own_addr h.lo with ⟨rfl, _⟩ | ⟨g, rfl⟩
      · simp [Value.ownBlock] at e
      · simp [Value.ownBlock] at e; have := (ap.2.2.2 g rfl).2.1; omega)
    simpa [DS.wrote] using this
  · exact h.ne

theorem heap_setCell_at {b : Nat} {c : Array Value} {t : TypeId} {fr : Nat × Nat} (h : w.heap[b]? = some (.cells c t fr)) (j : Nat) (v : Value) :
    (w.setCell ⟨b, j, none⟩ v).heap[b]? = some (.cells (c.setIfInBounds j v) t fr) := by
  simp [World.setCell, Array.getElem?_modify, h]

/-- Behind one round's append and store. -/
theorem DiskAt.pushed (h : DiskAt w p D gn cn gs cs sl cl) (x : Nat × UInt8) {w0 w' : World} {sl' : Option Addr} {cl' : Nat} (h0 : Keeps (fun _ => False) w w0)
    (hown : w'.ownsRow 0 69 2 (.slice sl' (D.lo.length + 1) cl') (D.lo.length + 1) (LV D.lo ++ [.int .i64 x.1, .int .u8 x.2.toNat]))
    (hg : w0.grownBy w' (Value.ownBlock (.slice sl D.lo.length cl)))
    (hat : Value.ownBlock (.slice sl' (D.lo.length + 1) cl') = Value.ownBlock (.slice sl D.lo.length cl) ∨ Value.ownBlock (.slice sl' (D.lo.length + 1) cl') = some w0.heap.size) :
    DiskAt (w'.setCell ⟨p, 2, none⟩ (.slice sl' (D.lo.length + 1) cl')) p { D with lo := D.lo ++ [x] } gn cn gs cs sl' cl' ∧
      Keeps (Foot p gn gs sl) w (w'.setCell ⟨p, 2, none⟩ (.slice sl' (D.lo.length + 1) cl')) ∧ (∀ k, sl' = some ⟨k, 0, none⟩ → sl = some ⟨k, 0, none⟩ ∨ w.heap.size ≤ k) := by
  have ap := h.apart
  have nl := h.nlt
  have hrow : ∀ k, Value.ownBlock (.slice sl D.lo.length cl) = some k → sl = some ⟨k, 0, none⟩ := fun k e => by
    rcases own_addr h.lo with ⟨rfl, _⟩ | ⟨g, rfl⟩
    · simp [Value.ownBlock] at e
    · simp [Value.ownBlock] at e; rw [e]
  have hk : Keeps (fun k => sl = some ⟨k, 0, none⟩) w w' := (h0.mono (fun _ _ hf => hf.elim)).grown hg (fun k e _ => hrow k e)
  have hk2 : Keeps (fun k => k = p) w' (w'.setCell ⟨p, 2, none⟩ (.slice sl' (D.lo.length + 1) cl')) := (Keeps.refl (fun k => k = p) w').setCell (p := ⟨p, 2, none⟩) (fun _ => rfl) _
  have hk3 : Keeps (fun k => k = p ∨ sl = some ⟨k, 0, none⟩) w (w'.setCell ⟨p, 2, none⟩ (.slice sl' (D.lo.length + 1) cl')) :=
    (hk.mono (fun _ _ h => Or.inr h)).trans hk2 (fun _ _ h => Or.inl h)
  have hb' : w'.heap[p]? = w.heap[p]? := hk.block p nl.1 (fun e => (ap.2.2.2 p e).1 rfl)
  have hnew : ∀ k, sl' = some ⟨k, 0, none⟩ → sl = some ⟨k, 0, none⟩ ∨ w.heap.size ≤ k := by
    intro k e
    rcases hat with hat | hat
    · rw [e] at hat; exact Or.inl (hrow k (by rw [← hat]; rfl))
    · rw [e] at hat; simp [Value.ownBlock] at hat; right; rw [hat]; exact h0.size
  refine ⟨⟨?_, ?_, ?_, ?_, h.ne⟩, hk3.mono (fun k _ e => ?_), hnew⟩
  · rw [heap_setCell_at (hb'.trans h.blk)]; simp
  · exact own_keep h.now hk3 (fun k e => by
      simp [Value.ownBlock] at e; subst e
      rintro (e | e)
      · omega
      · exact (ap.2.2.2 _ e).2.1 rfl)
  · exact own_keep h.sure hk3 (fun k e => by
      simp [Value.ownBlock] at e; subst e
      rintro (e | e)
      · omega
      · exact (ap.2.2.2 _ e).2.2 rfl)
  · have := own_keep hown hk2 (fun k e => by
      rintro rfl
      rcases own_addr hown with ⟨rfl, _⟩ | ⟨g, rfl⟩
      · simp [Value.ownBlock] at e
      · simp [Value.ownBlock] at e
        rcases hnew g rfl with h' | h'
        · exact (ap.2.2.2 g h').1 e
        · omega)
    simpa [LV_append, LV] using this
  · rcases e with rfl | e
    · exact Or.inl rfl
    · exact Or.inr (Or.inr (Or.inr e))
end
end Go.Proofs.Ytllfiplhfbbhaaa
