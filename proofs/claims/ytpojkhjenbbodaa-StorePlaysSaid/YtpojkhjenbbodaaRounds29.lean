/-
  Rounds over acts: a store at the head of a round, and where the acts lie. Plain laws. Conditions: those that are named.
-/
import Derived.Test.YtpojkhjenbbodaaJGood
namespace Go.Proofs.Ytpojkhjenbbodaa
open Go.RowKit

theorem good_does {H Z R : Nat} {S : SS} (h : Good H Z R S) (ht : S.turn + 1 < 4294967296) (d : Int) (b : List UInt8) : Good H Z R (S.does d b).1 ∧ (S.does d b).1.turn ≤ S.turn + 1 := by
  unfold SS.does
  split
  · by_cases hk : b.length + 14 ≤ Z
    · obtain ⟨_, g, _, _, t, _⟩ := good_set h b hk ht
      exact ⟨g, by omega⟩
    · rw [set_full b (by rw [h.sz]; omega)]
      exact ⟨h, by simp⟩
  · by_cases hr : (b.length : Int) ≤ S.room
    · obtain ⟨_, g, _, _, t, _⟩ := good_append h b hr
      exact ⟨g, by omega⟩
    · rw [append_full b (by omega)]
      exact ⟨h, by simp⟩
theorem Good.few {H Z R : Nat} {S : SS} (h : Good H Z R S) : S.recs.length ≤ 65536 := by
  have h1 := frames_many S.recs
  have h2 := h.usedH
  have h3 := h.big
  rw [h.used] at h2
  omega
theorem Good.used_sum {H Z R : Nat} {S : SS} (h : Good H Z R S) : (frames S.recs).length ≤ H := by rw [← h.used]; exact h.usedH

theorem AV_at (l : List ARow) (i : Nat) (r : ARow) (h : l[i]? = some r) : (AV l)[i * 2]? = some (.int .i64 r.a.doo) ∧ (AV l)[i * 2 + 1]? = some (.slice r.sa r.a.b.length r.cap) := by
  induction l generalizing i with
  | nil => simp at h
  | cons y l ih =>
    cases i with
    | zero => simp at h; subst h; simp [AV, ARow.cells]
    | succ i =>
      have := ih i (by simpa using h)
      simp only [AV, List.flatMap_cons] at this ⊢
      rw [show (i + 1) * 2 = i * 2 + 2 by omega]
      simpa [ARow.cells] using this

/-- A store at the head of a round: where it lies, and that it is as it should be. -/
structure At29 (w w1 w2 wr : World) (H Z R k : Nat) (p pd : Nat) (S : SS) (F Q : Nat → Prop) : Prop where
  st : StoreAt wr p pd S F Q
  good : Good H Z R S
  turn : S.turn ≤ k
  inF : ∀ j, F j → (w.heap.size ≤ j ∧ j < w1.heap.size) ∨ w2.heap.size ≤ j
  inQ : ∀ j, Q j → (w.heap.size ≤ j ∧ j < w1.heap.size) ∨ w2.heap.size ≤ j
  kp : Keeps (fun j => w.heap.size ≤ j ∧ j < w1.heap.size) w2 wr
theorem At29.quiet {w w1 w2 wr wx : World} {H Z R k p pd : Nat} {S : SS} {F Q : Nat → Prop} (h : At29 w w1 w2 wr H Z R k p pd S F Q) (hk : Keeps (fun _ => False) wr wx) : At29 w w1 w2 wx H Z R k p pd S F Q :=
  ⟨h.st.quiet hk, h.good, h.turn, h.inF, h.inQ, h.kp.quiet hk⟩
theorem At29.next {w w1 w2 wr wx : World} {H Z R k p pd : Nat} {S S' : SS} {F Q F' Q' : Nat → Prop} {p' pd' : Nat} (h : At29 w w1 w2 wr H Z R k p pd S F Q) (hst : StoreAt wx p' pd' S' F' Q') (hg : Good H Z R S') (k' : Nat) (ht : S'.turn ≤ k')
    (hk : Keeps F wr wx) (hF : ∀ j, F' j → F j ∨ wr.heap.size ≤ j) (hQ : ∀ j, Q' j → Q j ∨ wr.heap.size ≤ j) : At29 w w1 w2 wx H Z R k' p' pd' S' F' Q' :=
  ⟨hst, hg, ht, fun j a => (hF j a).elim (h.inF j) (fun b => Or.inr (Nat.le_trans h.kp.size b)), fun j a => (hQ j a).elim (h.inQ j) (fun b => Or.inr (Nat.le_trans h.kp.size b)), h.kp.trans hk (fun j hj a => (h.inF j a).elim id (fun b => by omega))⟩

/-- Where acts lie that were made between two worlds, while none but blocks that are the store's turn. -/
structure RowsAt (w w1 w2 : World) (N : Nat) (sa : Option Addr) : Prop where
  at_ : ∀ k, k < N → ∃ (ga : Nat) (doo : Int) (sb : Option Addr) (nb cb : Nat) (bb : List UInt8), sa = some ⟨ga, 0, none⟩ ∧ nb ≤ 20 ∧ ∀ wx, Keeps (fun j => w.heap.size ≤ j ∧ j < w1.heap.size) w2 wx →
    wx.cell? ⟨ga, k * 2, none⟩ = some (.int .i64 doo) ∧ wx.cell? ⟨ga, k * 2 + 1, none⟩ = some (.slice sb nb cb) ∧ Sl wx sb nb cb (BV bb) ∧
    (∀ ad, sb = some ad → 0 < nb → ∀ G : Nat → Prop, (∀ j, G j → (w.heap.size ≤ j ∧ j < w1.heap.size) ∨ w2.heap.size ≤ j) → ¬ G ad.block)
theorem rows_of {w w1 w2 : World} {sa : Option Addr} {ca : Nat} {rows : List ARow} {zs : List Int} (hmap : rows.map ARow.a = (zs.take 14).map mkAct) (hat : ActsAt w2 w1.heap.size (.slice sa rows.length ca) rows) : RowsAt w w1 w2 rows.length sa := by
  refine ⟨fun k hk => ?_⟩
  obtain ⟨r, hr⟩ : ∃ r, rows[k]? = some r := ⟨_, List.getElem?_eq_getElem hk⟩
  obtain ⟨ga, rfl⟩ := own_some hat.row (by omega)
  have hmem : r ∈ rows := List.mem_of_getElem? hr
  have hob := hat.each r hmem
  obtain ⟨a0, a1⟩ := AV_at rows k r hr
  refine ⟨ga, r.a.doo, r.sa, r.a.b.length, r.cap, r.a.b, rfl, ?_, fun wx hx => ?_⟩
  · have h1 : r.a ∈ rows.map ARow.a := List.mem_map.2 ⟨r, hmem, rfl⟩
    rw [hmap] at h1
    obtain ⟨x, _, hx⟩ := List.mem_map.1 h1
    rw [← hx]
    exact mkAct_len x
  · have hrow := own_keep hat.row hx (fun j e h => by have := (hat.row.lt j e).1; omega)
    refine ⟨own_cell hrow _ _ a0, own_cell hrow _ _ a1, Sl.of_own (own_keep hob hx (fun j e h => by have := (hob.lt j e).1; omega)), fun ad e h0 G hG hg => ?_⟩
    obtain ⟨g, hg2⟩ := own_some hob h0
    rw [hg2] at e
    cases e
    have h1 := own_lt hob hg2
    have h2 := hG _ hg
    simp only at h2
    omega
theorem at_new {w w1 w2 : World} {H Z R N p pd : Nat} {F Q : Nat → Prop} (hg : Good H Z R (S0 N)) (hst : StoreAt w1 p pd (S0 N) F Q) (hF : ∀ j, F j → w.heap.size ≤ j) (hQ : ∀ j, Q j → w.heap.size ≤ j) (hk : Keeps (fun _ => False) w1 w2) : At29 w w1 w2 w2 H Z R 0 p pd (S0 N) F Q := by
  have h : ∀ j, F j ∨ Q j → j < w1.heap.size := fun j h => by obtain ⟨_, _, _, _, _, _, hs⟩ := hst; exact h.elim (hs.flt j) (hs.rlt j)
  exact ⟨hst.quiet hk, hg, Nat.le_refl _, fun j a => Or.inl ⟨hF j a, h j (Or.inl a)⟩, fun j a => Or.inl ⟨hQ j a, h j (Or.inr a)⟩, Keeps.refl _ _⟩
end Go.Proofs.Ytpojkhjenbbodaa
