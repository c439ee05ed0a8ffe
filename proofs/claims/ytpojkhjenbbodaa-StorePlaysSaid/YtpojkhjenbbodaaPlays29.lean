/-
  The reference's store in a box beside the program's store: what a round of StorePlays keeps. Plain laws. Conditions: those that are named.
-/
import Derived.Test.YtpojkhjenbbodaaRefDoes
import Derived.Test.YtpojkhjenbbodaaRefStands
import Derived.Test.YtpojkhjenbbodaaJTools
namespace Go.Proofs.Ytpojkhjenbbodaa
open Go.RowKit

/-- The reference's store in its box. -/
structure RSide (wr : World) (br : Nat) (F Q : Nat → Prop) (v : Array Value) (S : SS) : Prop where
  box : wr.heap[br]? = some (.cells v 41 (0, 0))
  ref : RsAt wr (fun j => ¬ F j ∧ j ≠ br) v S
  ap : ¬ F br ∧ ¬ Q br
theorem RSide.quiet {wr wx : World} {br : Nat} {F Q : Nat → Prop} {v : Array Value} {S : SS} (h : RSide wr br F Q v S) (hk : Keeps (fun _ => False) wr wx) : RSide wx br F Q v S :=
  ⟨(hk.block br (lt_of_heap h.box) (fun h => h)).trans h.box, h.ref.keep hk (fun _ a => a.elim), h.ap⟩
theorem RSide.turn {wr wx : World} {br : Nat} {F Q F' Q' : Nat → Prop} {v : Array Value} {S : SS} (h : RSide wr br F Q v S) (hk : Keeps F wr wx) (hF : ∀ j, F' j → F j ∨ wr.heap.size ≤ j) (hQ : ∀ j, Q' j → Q j ∨ wr.heap.size ≤ j) : RSide wx br F' Q' v S := by
  have hb := lt_of_heap h.box
  refine ⟨(hk.block br hb h.ap.1).trans h.box, ?_, fun a => (hF br a).elim h.ap.1 (fun b => by omega), fun a => (hQ br a).elim h.ap.2 (fun b => by omega)⟩
  have h1 := h.ref.here (P' := fun j => ¬ F j ∧ j ≠ br ∧ j < wr.heap.size) (fun j a b => ⟨a.1, a.2, b⟩)
  exact (h1.keep hk (fun j a b => b.1 a)).weak (fun j a => ⟨fun b => (hF j b).elim a.1 (fun c => by omega), a.2.1⟩)
theorem RSide.next {wr wx wy : World} {br : Nat} {F Q : Nat → Prop} {v v' : Array Value} {S S' : SS} (h : RSide wr br F Q v S) (hfl : ∀ j, F j → j < wr.heap.size) (hr : RsAt wx (fun j => (¬ F j ∧ j ≠ br) ∨ wr.heap.size ≤ j) v' S')
    (hb : wy.heap[br]? = some (.cells v' 41 (0, 0))) (hy : Keeps (fun j => j = br) wx wy) : RSide wy br F Q v' S' :=
  ⟨hb, (hr.weak (fun j a => a.elim id (fun b => ⟨fun c => by have := hfl j c; omega, by have := lt_of_heap h.box; omega⟩))).keep hy (fun j a b => b.2 a), h.ap⟩
theorem At29.box {w w1 w2 wr wx : World} {H Z R k p pd : Nat} {S : SS} {F Q : Nat → Prop} (h : At29 w w1 w2 wr H Z R k p pd S F Q) {br : Nat} (hy : Keeps (fun j => j = br) wr wx) (hb : ¬ F br ∧ ¬ Q br) (hr : w.heap.size ≤ br ∧ br < w1.heap.size) : At29 w w1 w2 wx H Z R k p pd S F Q :=
  ⟨h.st.keep hy (fun _ e => e ▸ hb.1) (fun _ e => e ▸ hb.2), h.good, h.turn, h.inF, h.inQ, h.kp.trans hy (fun _ _ e => e ▸ hr)⟩
theorem At29.more {w w1 w2 wr : World} {H Z R k p pd : Nat} {S : SS} {F Q : Nat → Prop} (h : At29 w w1 w2 wr H Z R k p pd S F Q) (k' : Nat) (hk : k ≤ k') : At29 w w1 w2 wr H Z R k' p pd S F Q :=
  ⟨h.st, h.good, Nat.le_trans h.turn hk, h.inF, h.inQ, h.kp⟩

/-- A store of the reference, its eleven values by name. -/
theorem rs_all {w : World} {P : Nat → Prop} {v : Array Value} {S : SS} (h : RsAt w P v S) : ∃ (a0 : Option Addr) (n0 e0 : Nat) (a1 : Option Addr) (n1 e1 : Nat) (a2 : Option Addr) (n2 e2 : Nat) (a3 : Option Addr) (e3 : Nat) (bc : Bool) (hf us : Nat) (a7 : Option Addr) (n7 e7 : Nat) (at_ : Int) (tn : Nat) (ak : Option Addr) (nk ek : Nat),
    v = #[.slice a0 n0 e0, .slice a1 n1 e1, .slice a2 n2 e2, .slice a3 n2 e3, .bool bc, .int .i64 (hf : Int), .int .i64 (us : Int), .slice a7 n7 e7, .int .i64 at_, .int .u64 (tn : Int), .slice ak nk ek] ∧
    RefAt w 0 #[.slice a0 n0 e0, .slice a1 n1 e1, .slice a2 n2 e2, .slice a3 n2 e3, .bool bc] S.d ∧ RF P #[.slice a0 n0 e0, .slice a1 n1 e1, .slice a2 n2 e2, .slice a3 n2 e3, .bool bc] ∧
    S.d.now.length = n0 ∧ S.half = hf ∧ S.used = us ∧ Sl w a0 n0 e0 (BV S.d.now) ∧ Sl w ak nk ek (BV S.keys) ∧ ∃ vs, Sl w a7 n7 e7 vs ∧ RowsS w vs S.recs := by
  obtain ⟨sn, cn, ss, cs, sa, ca, sb, cb, sl, cl, vs, sk, ck, h1, h2, h3, h4, h5, h6, h7, h8, h9⟩ := h.out
  refine ⟨_, _, _, _, _, _, _, _, _, _, _, _, _, _, _, _, _, _, _, _, _, _, h1, h2, h3, rfl, rfl, rfl, ?_, h6, vs, h4, h5⟩
  obtain ⟨n1, c1, n2, c2, n3, c3, n4, c4, e, o1, _⟩ := h2.rows
  simp only [Array.mk.injEq, List.cons.injEq, Value.slice.injEq, and_true, true_and] at e
  obtain ⟨⟨rfl, rfl⟩, _⟩ := e
  exact Sl.of_own o1

/-- Behind a call of the reference, its answer in a box of its own. -/
def PlN (wr : World) (P : Nat → Prop) (S2 : SS) (r2 : Int) (s12 s13 : Value) (wx : World) : Prop :=
  ∃ (b5 : Nat) (v' : Array Value), s12 = .pointer (some ⟨b5, 0, none⟩) ∧ s13 = .int .i64 r2 ∧ wx.heap[b5]? = some (.cells v' 41 (0, 0)) ∧ RsAt wx (fun j => P j ∨ wr.heap.size ≤ j) v' S2 ∧ Keeps (fun _ => False) wr wx ∧ wr.heap.size ≤ b5
/-- At the head of a round. -/
def PlRel (w w1 w2 : World) (H Z R N br : Nat) (s6 s7 i : Value) (wr : World) : Prop :=
  ∃ (k : Nat) (p pd : Nat) (S : SS) (F Q : Nat → Prop) (v : Array Value), k ≤ N ∧ i = .int .i64 (k : Int) ∧ s6 = .pointer (some ⟨pd, 0, none⟩) ∧ s7 = .pointer (some ⟨p, 0, none⟩) ∧ At29 w w1 w2 wr H Z R k p pd S F Q ∧ RSide wr br F Q v S
/-- Behind the act of a round. -/
def PlMid (w w1 w2 : World) (H Z R k br : Nat) (s6 s7 : Value) (wr : World) : Prop :=
  ∃ (p pd : Nat) (S : SS) (F Q : Nat → Prop) (v : Array Value), s6 = .pointer (some ⟨pd, 0, none⟩) ∧ s7 = .pointer (some ⟨p, 0, none⟩) ∧ At29 w w1 w2 wr H Z R k p pd S F Q ∧ RSide wr br F Q v S
end Go.Proofs.Ytpojkhjenbbodaa
