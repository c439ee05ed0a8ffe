/-
  A range over a function whose iterator yields values that are known only then (rows that it has just made): one law for the caller. No program in sight. No conditions.
-/
import Derived.Test.YtllpeenjfjobaaaRangeF
namespace Go.Proofs.Ytllpeenjfjobaaa
open Go.RowKit

/-- The iterator's word: it yields N values one by one, number i as V says of the world ahead of it, the value, and the world in which it is yielded; else as Seq. -/
def SeqR (P : Program) (g : Nat) (lb : Array Value) (N : Nat) (V : Nat → World → Array Value → World → Prop) (m : Nat) (T Rd : Nat → Prop) (w0 : World) : Prop :=
  ∀ (l : Nat) (J : Nat → World → Prop) (B : Nat → Prop) (W : World), Keeps (fun k => ¬ Rd k) w0 W → (∀ k, B k → ¬ Rd k ∧ ¬ (W.heap.size ≤ k ∧ k < W.heap.size + m)) →
    (∀ i A A', J i A → Keeps (fun k => T k ∨ (W.heap.size ≤ k ∧ k < W.heap.size + m)) A A' → J i A') →
    (∀ i A x W1, i < N → J i A → Keeps (fun k => T k ∨ (W.heap.size ≤ k ∧ k < W.heap.size + m)) A W1 → V i A x W1 → W.heap.size + m ≤ A.heap.size → YieldAt Fence.wide 0 P l x W1 fun e W' => e = .returned (.bool true) ∧ J (i + 1) W' ∧ Keeps B W1 W') →
    J 0 W → CallsIn Fence.wide 0 P g (#[.func (.yield l) #[] #[]] ++ lb) W fun e W' => (∃ v, e = .returned v) ∧ J N W'

theorem wpIn_seqR {P : Program} {g : Operand} {ps : Array Tmp} {assign body : Code} {Q : Exit → Act → World → Prop} {a : Act} {w : World} {gf : Nat} {lb : Array Value} {N : Nat} {V : Nat → World → Array Value → World → Prop} {m : Nat} {T Rd : Nat → Prop}
    (hg : a.eval g = .func (.func gf) #[] lb) (eg : ∀ args w, (callFunc gf args).run P w = .ok (.enter gf args) w) (hseq : SeqR P gf lb N V m T Rd w) (hRd : ∀ k, Rd k → k < w.heap.size) (hTR : ∀ k, T k → Rd k)
    (hps : ∀ i A x W, V i A x W → x.size = ps.size) (hV : ∀ i A x W W', V i A x W → w.heap.size + 2 + m ≤ A.heap.size → Keeps (fun k => k = w.heap.size + 1) W W' → V i A x W') (I : Nat → World → Prop) (B : Nat → Prop) (hB : ∀ k, B k → ¬ Rd k ∧ ¬ (w.heap.size ≤ k ∧ k < w.heap.size + 2 + m))
    (hI : ∀ i A A', I i A → Keeps (fun k => T k ∨ (w.heap.size ≤ k ∧ k < w.heap.size + 2 + m)) A A' → I i A') (h0 : I 0 w) (a₁ : Array Value → Act)
    (hassign : ∀ (l i : Nat) (A : World) (x : Array Value) (W : World) (K : Act → World → Prop), V i A x W → K (a₁ x) W →
      assign.wpIn (Fence.wide.inRound l) 0 P (Exit.then K (fun _ _ _ => False)) { tmps := (ps.zip x).foldl (fun t (p, v) => t.setIfInBounds p v) a.tmps, defers := [] } W)
    (hbody : ∀ (l i : Nat) (A : World) (x : Array Value) (W : World), i < N → I i A → Keeps (fun k => T k ∨ (w.heap.size ≤ k ∧ k < w.heap.size + 2 + m)) A W → V i A x W → I i W → w.heap.size + 2 + m ≤ A.heap.size → body.wpIn (Fence.wide.inRound l) 0 P (goesOn B I i W) (a₁ x) W)
    (hdone : ∀ W : World, I N W → w.heap.size < W.heap.size → W.heap[w.heap.size]? = some (.deferred (some [])) → Q .normal { a with defers := { target := .collected w.heap.size, args := #[] } :: a.defers } W) :
    (Code.rangeFunc g ps assign body).wpIn Fence.wide 0 P Q a w := by
  refine wpIn_rangeFunc ?_
  intro fn hfn
  obtain ⟨rec, hrec⟩ : ∃ rec : LoopState → Option Code → Loop, rec = fun st pe => { state := st, pending := pe, fn, tmps := a.tmps, params := ps, assign, body, defers := w.heap.size } := ⟨_, rfl⟩
  obtain ⟨W1, hW1⟩ : ∃ W1, (w.alloc (.deferred (some []))).alloc (.loop (rec .ready none)) = W1 := ⟨_, rfl⟩
  have hk01 : Keeps (fun _ => False) w W1 := by rw [← hW1]; exact ((Keeps.refl _ w).alloc _).alloc _
  have hs1 : W1.heap.size = w.heap.size + 2 := by rw [← hW1]; simp
  have hL1 : W1.heap[w.heap.size + 1]? = some (.loop (rec .ready none)) := by
    rw [← hW1]; have := World.alloc_heap_new (w.alloc (.deferred (some []))) (.loop (rec .ready none)); rwa [World.size_alloc] at this
  have hK1 : W1.heap[w.heap.size]? = some (.deferred (some [])) := by
    rw [← hW1]; exact (Below.heap_alloc _ _ _ (by simp)).trans (World.alloc_heap_new w _)
  refine ⟨w.heap.size + 1, [{ target := .collected w.heap.size, args := #[] }], W1, { target := .fn (.func gf) lb, args := #[.func (.yield (w.heap.size + 1)) #[] #[]] }, W1, gf,
    #[.func (.yield (w.heap.size + 1)) #[] #[]] ++ lb, W1, ?_, ?_, ?_, ?_, ?_, ?_⟩
  · rw [← hW1, hrec]; exact run_enterLoop_outer _ _ _ _ _
  · simp only [resolve, hg]
    simp [go_sem]
  · intro f' hf'; trivial
  · simp [invoke, go_sem, eg]
  · intro h; cases h
  · refine (hseq (w.heap.size + 1)
      (fun i W => I i W ∧ W.heap[w.heap.size + 1]? = some (.loop (rec .ready none)) ∧ W.heap[w.heap.size]? = some (.deferred (some [])))
      (fun k => B k ∨ k = w.heap.size + 1) W1 (hk01.mono (fun _ _ h => h.elim)) ?_ ?_ ?_ ⟨hI _ _ _ h0 (hk01.mono (fun _ _ h => h.elim)), hL1, hK1⟩).mono ?_
    · rintro k (h | h)
      · exact ⟨(hB k h).1, fun h' => (hB k h).2 (by omega)⟩
      · exact ⟨fun hr => by have := hRd k hr; omega, fun h' => by omega⟩
    · rintro i A A' ⟨hi, hl, hk⟩ hkp
      refine ⟨hI _ _ _ hi (hkp.mono (fun _ _ h => h.imp id (fun h => by omega))), (hkp.block _ (lt_of_heap hl) ?_).trans hl, (hkp.block _ (lt_of_heap hk) ?_).trans hk⟩
      · rintro (h | h)
        · have := hRd _ (hTR _ h); omega
        · omega
      · rintro (h | h)
        · have := hRd _ (hTR _ h); omega
        · omega
    · rintro i A x W hiN ⟨hiA, hlA, hkA⟩ hAW hx hWs
      have hAs := lt_of_heap hlA
      have hAW' : Keeps (fun k => T k ∨ (w.heap.size ≤ k ∧ k < w.heap.size + 2 + m)) A W := hAW.mono (fun _ _ h => h.imp id (fun h => by omega))
      have hi := hI _ _ _ hiA hAW'
      have hl := (hAW.block _ hAs (fun h => h.elim (fun h => by have := hRd _ (hTR _ h); omega) (fun h => by omega))).trans hlA
      have hk := (hAW.block _ (lt_of_heap hkA) (fun h => h.elim (fun h => by have := hRd _ (hTR _ h); omega) (fun h => by omega))).trans hkA
      have hlt : w.heap.size + 1 < W.heap.size := lt_of_heap hl
      have hy := run_yield (P := P) (args := x) hl (by rw [hrec]; exact hps i A x W hx)
      rw [hrec] at hy
      refine ⟨fn, _, assign, body, hy, roundIn_of_wpIn hfn (hassign _ i A x W _ hx ⟨_, run_beginRound hl (by rw [hrec]), ?_⟩)⟩
      have hl2 : (W.putObj (w.heap.size + 1) (.loop { rec .ready none with state := .busy })).heap[w.heap.size + 1]? = some (.loop { rec .ready none with state := .busy }) := World.putObj_heap_same hlt
      have hk2 : (W.putObj (w.heap.size + 1) (.loop { rec .ready none with state := .busy })).heap[w.heap.size]? = some (.deferred (some [])) := (World.putObj_heap_other (by omega)).trans hk
      have hkp2 : Keeps (fun k => k = w.heap.size + 1) W (W.putObj (w.heap.size + 1) (.loop { rec .ready none with state := .busy })) := (Keeps.refl (fun k => k = w.heap.size + 1) W).putObj _ (fun _ => rfl)
      refine wpIn_mono (hbody _ i A x _ hiN hiA (hAW'.trans (hkp2.mono (G := fun k => T k ∨ (w.heap.size ≤ k ∧ k < w.heap.size + 2 + m)) (fun _ _ h => Or.inr (by omega))) (fun _ _ h => h)) (hV _ _ _ _ _ hx (by omega) hkp2) (hI _ _ _ hi (hkp2.mono (fun _ _ h => Or.inr (by omega)))) (by omega)) ?_
      rintro e a3 W3 hp
      cases e with
      | normal =>
        obtain ⟨hk3, hi3⟩ := hp
        have hl3 := (hk3.block _ (lt_of_heap hl2) (fun h => (hB _ h).2 (by omega))).trans hl2
        have hd3 := (hk3.block _ (lt_of_heap hk2) (fun h => (hB _ h).2 (by omega))).trans hk2
        have hr := run_endRound (P := P) none hl3
        rw [hrec] at hr
        have hkp4 : Keeps (fun k => k = w.heap.size + 1) W3 (W3.putObj (w.heap.size + 1) (.loop (rec .ready none))) := (Keeps.refl (fun k => k = w.heap.size + 1) W3).putObj _ (fun _ => rfl)
        refine ⟨_, _, hr, rfl, ⟨?_, ?_, ?_⟩, ?_⟩
        · have := hI _ _ _ hi3 (hkp4.mono (fun _ _ h => Or.inr (by omega))); rw [hrec] at this; exact this
        · rw [hrec]; exact World.putObj_heap_same (lt_of_heap hl3)
        · exact (World.putObj_heap_other (by omega)).trans hd3
        · have := ((hkp2.mono (fun _ _ h => Or.inr h)).trans (hk3.mono (fun _ _ h => Or.inl h)) (fun _ _ h => h)).trans (hkp4.mono (G := fun k => B k ∨ k = w.heap.size + 1) (fun _ _ h => Or.inr h)) (fun _ _ h => h)
          rw [hrec] at this; exact this
      | ret => exact hp.elim
      | exit id => exact hp.elim
      | goto t => exact hp.elim
      | panic ch => exact hp.elim
      | outgrown => exact hp.elim
    · rintro e W2 ⟨⟨v, rfl⟩, hi, hl, hk⟩
      refine ⟨none, _, by have := run_endLoop (P := P) hl (by rw [hrec]; simp); rw [hrec] at this; exact this, hdone _ (hI _ _ _ hi (((Keeps.refl (fun k => k = w.heap.size + 1) W2).putObj _ (fun _ => rfl)).mono (fun _ _ h => Or.inr (by omega)))) ?_ ((World.putObj_heap_other (by omega)).trans hk)⟩
      have := lt_of_heap hk
      simpa using this
end Go.Proofs.Ytllpeenjfjobaaa
