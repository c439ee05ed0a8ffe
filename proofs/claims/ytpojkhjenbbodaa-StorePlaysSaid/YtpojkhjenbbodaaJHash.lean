/-
  Joined texts of the proofs of chapter 29: RangeF Field RefField RefPow Fermat Squares Pow Take Chunk7 Words Collect Of Bytes OfArgs RefWords RefOf RefOfArgs Open. Conditions: those that each theorem names.
-/
import Derived.RangeFuncNested
import Derived.RangeFuncBound
import Derived.RangeFuncCalls
import Derived.RangeFuncLeaves
import Derived.Shelf.Abstract
import Derived.Shelf.RegionOpen
import Derived.OwnWalkIn
import Derived.TacticsInMore
import Derived.LoopNIn
import Derived.LoopIn
import Derived.Test.YtpojkhjenbbodaaProg
import Derived.Laws.BitsLemmas
import Derived.Laws.Bits64
import Derived.Laws.BitsAllLaws
import Derived.Maps.OwnIn
import Derived.ProofKit
import Derived.OpenShut
import Derived.ChangeOld
import Derived.Test.YtpojkhjenbbodaaJTools
namespace Go.Proofs.Ytpojkhjenbbodaa
open Go.RowKit

/-- The iterator's word: it yields xs one by one; it lays m blocks of its own ahead of the first, and turns these and blocks in T alone; it reads blocks in Rd. -/
def Seq (P : Program) (g : Nat) (lb : Array Value) (xs : List (Array Value)) (m : Nat) (T Rd : Nat → Prop) (w0 : World) : Prop :=
  ∀ (l : Nat) (J : Nat → World → Prop) (B : Nat → Prop) (W : World), Keeps (fun k => ¬ Rd k) w0 W → (∀ k, B k → ¬ Rd k ∧ ¬ (W.heap.size ≤ k ∧ k < W.heap.size + m)) →
    (∀ i A A', J i A → Keeps (fun k => T k ∨ (W.heap.size ≤ k ∧ k < W.heap.size + m)) A A' → J i A') →
    (∀ i x W1, xs[i]? = some x → J i W1 → W.heap.size + m ≤ W1.heap.size → YieldAt Fence.wide 0 P l x W1 fun e W' => e = .returned (.bool true) ∧ J (i + 1) W' ∧ Keeps B W1 W') →
    J 0 W → CallsIn Fence.wide 0 P g (#[.func (.yield l) #[] #[]] ++ lb) W fun e W' => (∃ v, e = .returned v) ∧ J xs.length W'

theorem Keeps.putObj {F : Nat → Prop} {a w : World} (h : Keeps F a w) {l : Nat} (o : Obj) (hl : l < a.heap.size → F l) : Keeps F a (w.putObj l o) :=
  h.grown (grownBy_putObj' w l o) (fun k e hk => by cases e; exact hl hk)

/-- How the body ends: it goes on. -/
def goesOn (B : Nat → Prop) (I : Nat → World → Prop) (i : Nat) (W : World) : Exit → Act → World → Prop
  | .normal, _, W' => Keeps B W W' ∧ I (i + 1) W'
  | _, _, _ => False

theorem wpIn_seq {P : Program} {g : Operand} {ps : Array Tmp} {assign body : Code} {Q : Exit → Act → World → Prop} {a : Act} {w : World} {gf : Nat} {lb : Array Value} {xs : List (Array Value)} {m : Nat} {T Rd : Nat → Prop}
    (hg : a.eval g = .func (.func gf) #[] lb) (eg : ∀ args w, (callFunc gf args).run P w = .ok (.enter gf args) w) (hseq : Seq P gf lb xs m T Rd w) (hRd : ∀ k, Rd k → k < w.heap.size) (hTR : ∀ k, T k → Rd k)
    (hps : ∀ x ∈ xs, x.size = ps.size) (I : Nat → World → Prop) (B : Nat → Prop) (hB : ∀ k, B k → ¬ Rd k ∧ ¬ (w.heap.size ≤ k ∧ k < w.heap.size + 2 + m))
    (hI : ∀ i A A', I i A → Keeps (fun k => T k ∨ (w.heap.size ≤ k ∧ k < w.heap.size + 2 + m)) A A' → I i A') (h0 : I 0 w) (a₁ : Array Value → Act)
    (hassign : ∀ (l : Nat) (x : Array Value) (W : World) (K : Act → World → Prop), x ∈ xs → K (a₁ x) W →
      assign.wpIn (Fence.wide.inRound l) 0 P (Exit.then K (fun _ _ _ => False)) { tmps := (ps.zip x).foldl (fun t (p, v) => t.setIfInBounds p v) a.tmps, defers := [] } W)
    (hbody : ∀ (l i : Nat) (x : Array Value) (W : World), xs[i]? = some x → I i W → w.heap.size + 2 + m ≤ W.heap.size → body.wpIn (Fence.wide.inRound l) 0 P (goesOn B I i W) (a₁ x) W)
    (hdone : ∀ W : World, I xs.length W → w.heap.size < W.heap.size → W.heap[w.heap.size]? = some (.deferred (some [])) → Q .normal { a with defers := { target := .collected w.heap.size, args := #[] } :: a.defers } W) :
    (Code.rangeFunc g ps assign body).wpIn Fence.wide 0 P Q a w := by
  refine wpIn_rangeFunc ?_
  intro fn hfn
  obtain ⟨rec, hrec⟩ : ∃ rec : LoopState → Option Code → Loop, rec = fun st pe => { state := st, pending := pe, fn, tmps := a.tmps, params := ps, assign, body, defers := w.heap.size } := ⟨_, rfl⟩
  obtain ⟨W1, hW1⟩ : ∃ W1, (w.alloc (.deferred (some []))).alloc (.loop (rec .ready none)) = W1 := ⟨_, rfl⟩
  have hk01 : Keeps (fun _ => False) w W1 := by rw [← hW1]; exact ((Keeps.refl _ w).alloc _).alloc _
  have hs1 : W1.heap.size = w.heap.size + 2 := by rw [← hW1]; simp
  have hL1 : W1.heap[w.heap.size + 1]? = some (.loop (rec .ready none)) := by
    rw [← hW1]; have := World.alloc_heap_new (w.alloc (.deferred (some []))) (.loop (rec .ready none)); rwa [World.size_alloc] at this
  have hK1 : W1.heap[w.heap.size]? = some (.deferred (some [])) := by
    rw [← hW1]; exact (Below.heap_alloc _ _ _ (by simp)).trans (World.alloc_heap_new w _)
  refine ⟨w.heap.size + 1, [{ target := .collected w.heap.size, args := #[] }], W1, { target := .fn (.func gf) lb, args := #[.func (.yield (w.heap.size + 1)) #[] #[]] }, W1, gf,
    #[.func (.yield (w.heap.size + 1)) #[] #[]] ++ lb, W1, ?_, ?_, ?_, ?_, ?_, ?_⟩
  · rw [← hW1, hrec]; exact run_enterLoop_outer _ _ _ _ _
  · simp only [resolve, hg]
    simp [go_sem]
  · intro f' hf'; trivial
  · simp [invoke, go_sem, eg]
  · intro h; cases h
  · refine (hseq (w.heap.size + 1)
      (fun i W => I i W ∧ W.heap[w.heap.size + 1]? = some (.loop (rec .ready none)) ∧ W.heap[w.heap.size]? = some (.deferred (some [])))
      (fun k => B k ∨ k = w.heap.size + 1) W1 (hk01.mono (fun _ _ h => h.elim)) ?_ ?_ ?_ ⟨hI _ _ _ h0 (hk01.mono (fun _ _ h => h.elim)), hL1, hK1⟩).mono ?_
    · rintro k (h | h)
      · exact ⟨(hB k h).1, fun h' => (hB k h).2 (by omega)⟩
      · exact ⟨fun hr => by have := hRd k hr; omega, fun h' => by omega⟩
    · rintro i A A' ⟨hi, hl, hk⟩ hkp
      refine ⟨hI _ _ _ hi (hkp.mono (fun _ _ h => h.imp id (fun h => by omega))), (hkp.block _ (lt_of_heap hl) ?_).trans hl, (hkp.block _ (lt_of_heap hk) ?_).trans hk⟩
      · rintro (h | h)
        · have := hRd _ (hTR _ h); omega
        · omega
      · rintro (h | h)
        · have := hRd _ (hTR _ h); omega
        · omega
    · rintro i x W hx ⟨hi, hl, hk⟩ hWs
      have hmem : x ∈ xs := List.mem_of_getElem? hx
      have hlt : w.heap.size + 1 < W.heap.size := lt_of_heap hl
      have hy := run_yield (P := P) (args := x) hl (by rw [hrec]; exact hps x hmem)
      rw [hrec] at hy
      refine ⟨fn, _, assign, body, hy, roundIn_of_wpIn hfn (hassign _ x W _ hmem ⟨_, run_beginRound hl (by rw [hrec]), ?_⟩)⟩
      have hl2 : (W.putObj (w.heap.size + 1) (.loop { rec .ready none with state := .busy })).heap[w.heap.size + 1]? = some (.loop { rec .ready none with state := .busy }) := World.putObj_heap_same hlt
      have hk2 : (W.putObj (w.heap.size + 1) (.loop { rec .ready none with state := .busy })).heap[w.heap.size]? = some (.deferred (some [])) := (World.putObj_heap_other (by omega)).trans hk
      have hkp2 : Keeps (fun k => k = w.heap.size + 1) W (W.putObj (w.heap.size + 1) (.loop { rec .ready none with state := .busy })) := (Keeps.refl (fun k => k = w.heap.size + 1) W).putObj _ (fun _ => rfl)
      refine wpIn_mono (hbody _ i x _ hx (hI _ _ _ hi (hkp2.mono (fun _ _ h => Or.inr (by omega)))) (by rw [World.putObj_size]; omega)) ?_
      rintro e a3 W3 hp
      cases e with
      | normal =>
        obtain ⟨hk3, hi3⟩ := hp
        have hl3 := (hk3.block _ (lt_of_heap hl2) (fun h => (hB _ h).2 (by omega))).trans hl2
        have hd3 := (hk3.block _ (lt_of_heap hk2) (fun h => (hB _ h).2 (by omega))).trans hk2
        have hr := run_endRound (P := P) none hl3
        rw [hrec] at hr
        have hkp4 : Keeps (fun k => k = w.heap.size + 1) W3 (W3.putObj (w.heap.size + 1) (.loop (rec .ready none))) := (Keeps.refl (fun k => k = w.heap.size + 1) W3).putObj _ (fun _ => rfl)
        refine ⟨_, _, hr, rfl, ⟨?_, ?_, ?_⟩, ?_⟩
        · have := hI _ _ _ hi3 (hkp4.mono (fun _ _ h => Or.inr (by omega))); rw [hrec] at this; exact this
        · rw [hrec]; exact World.putObj_heap_same (lt_of_heap hl3)
        · exact (World.putObj_heap_other (by omega)).trans hd3
        · have := ((hkp2.mono (fun _ _ h => Or.inr h)).trans (hk3.mono (fun _ _ h => Or.inl h)) (fun _ _ h => h)).trans (hkp4.mono (G := fun k => B k ∨ k = w.heap.size + 1) (fun _ _ h => Or.inr h)) (fun _ _ h => h)
          rw [hrec] at this; exact this
      | ret => exact hp.elim
      | exit id => exact hp.elim
      | goto t => exact hp.elim
      | panic ch => exact hp.elim
      | outgrown => exact hp.elim
    · rintro e W2 ⟨⟨v, rfl⟩, hi, hl, hk⟩
      refine ⟨none, _, by have := run_endLoop (P := P) hl (by rw [hrec]; simp); rw [hrec] at this; exact this, hdone _ (hI _ _ _ hi (((Keeps.refl (fun k => k = w.heap.size + 1) W2).putObj _ (fun _ => rfl)).mono (fun _ _ h => Or.inr (by omega)))) ?_ ((World.putObj_heap_other (by omega)).trans hk)⟩
      have := lt_of_heap hk
      simpa using this
end Go.Proofs.Ytpojkhjenbbodaa

namespace Go.Proofs.Ytpojkhjenbbodaa
open Go.RowKit
def num (a : Nat) : Nat := a % 2305843009213693951
def U64 (a : Nat) : Prop := a < 18446744073709551616
theorem num_lt (a : Nat) : num a < 2305843009213693951 := Nat.mod_lt _ (by decide)
theorem num_u (a : Nat) : U64 (num a) := Nat.lt_of_lt_of_le (num_lt a) (by decide)
theorem wraps_u64 (n : Int) (h₀ : 0 ≤ n) (h₁ : n < 2 ^ 64) : IntKind.u64.wrap n = n := by rw [IntKind.wrap_u64]; omega
theorem wrap_nat (n m : Nat) (h : n = m) (hu : m < 18446744073709551616) : IntKind.u64.wrap (n : Int) = (m : Int) := by subst h; rw [IntKind.wrap_u64]; omega
theorem and_P (a : Nat) (h : U64 a) : bits .and .u64 (a : Int) 2305843009213693951 = ((a % 2305843009213693952 : Nat) : Int) := by
  have := bits_mask .u64 64 (by decide) wraps_u64 61 (by decide) (a : Int) (by omega) (by unfold U64 at h; omega)
  simpa using this
theorem and_32 (a : Nat) (h : U64 a) : bits .and .u64 (a : Int) 4294967295 = ((a % 4294967296 : Nat) : Int) := by
  have := bits_mask .u64 64 (by decide) wraps_u64 32 (by decide) (a : Int) (by omega) (by unfold U64 at h; omega)
  simpa using this

set_option maxRecDepth 10000 in
theorem num_any (a : Nat) (w : World) (h : U64 a) :
    Calls Try.prog 81 #[.int .u64 a] w fun e w' => e = .returned (.int .u64 (num a : Int)) ∧ w = w' := by
  have e1 := and_P a h
  generalize hx : ((a % 2305843009213693952 : Nat) : Int) = x at e1
  have e2 : IntKind.u64.wrap (x + (a : Int) / 2305843009213693952) = x + (a : Int) / 2305843009213693952 := by
    rw [IntKind.wrap_u64]; unfold U64 at h; omega
  generalize hs : x + (a : Int) / 2305843009213693952 = s at e2
  have HH := Lib.hid (And.intro h (And.intro hx hs))
  have e3 : x + (a : Int) / 2305843009213693952 = s := hs
  clear h hx hs
  go_enter Try.func81, Try.ntmps81
  go_wp2
  · rename_i hle
    have e4 : IntKind.u64.wrap (s - 2305843009213693951) = (num a : Int) := by
      obtain ⟨h, h1, h2⟩ := HH.out
      rw [IntKind.wrap_u64]; unfold U64 at h; unfold num; omega
    refine bodyPost_ret (v := .int .u64 (num a : Int)) (by simp [results, Try.results81, go_sem, e4]) rfl ⟨rfl, rfl⟩
  · rename_i hle
    have e4 : s = (num a : Int) := by
      obtain ⟨h, h1, h2⟩ := HH.out
      unfold U64 at h; unfold num; omega
    refine bodyPost_ret (v := .int .u64 (num a : Int)) (by simp [results, Try.results81, go_sem, e4]) rfl ⟨rfl, rfl⟩

def addm (a b : Nat) : Nat := num (num a + num b)
theorem add_any (a b : Nat) (w : World) (ha : U64 a) (hb : U64 b) :
    Calls Try.prog 87 #[.int .u64 a, .int .u64 b] w fun e w' => e = .returned (.int .u64 (addm a b : Int)) ∧ w = w' := by
  have e1 : IntKind.u64.wrap ((num a : Int) + (num b : Int)) = ((num a + num b : Nat) : Int) := by
    have := num_lt a; have := num_lt b
    rw [IntKind.wrap_u64]; omega
  have hu : U64 (num a + num b) := by have := num_lt a; have := num_lt b; unfold U64; omega
  have HH := Lib.hid (And.intro ha (And.intro hb hu))
  clear ha hb hu
  go_enter Try.func87, Try.ntmps87
  go_wp2_with fail
  refine (num_any a w HH.out.1).mono ?_
  rintro e _ ⟨rfl, rfl⟩
  go_wp2_with fail
  refine (num_any b w HH.out.2.1).mono ?_
  rintro e _ ⟨rfl, rfl⟩
  go_wp2_with fail
  have h3 := num_any (num a + num b) w HH.out.2.2
  rw [Int.natCast_add] at h3
  refine h3.mono ?_
  rintro e _ ⟨rfl, rfl⟩
  go_wp2
  go_ret
  exact ⟨rfl, rfl⟩

theorem mul_le (x y a b : Nat) (hx : x ≤ a) (hy : y ≤ b) : x * y ≤ a * b := Nat.mul_le_mul hx hy

set_option maxRecDepth 10000 in
theorem mul64_any (x y : Nat) (w : World) (hx : U64 x) (hy : U64 y) :
    Calls Try.prog 91 #[.int .u64 x, .int .u64 y] w fun e w' => e = .returned (.tuple #[.int .u64 ((x * y / 18446744073709551616 : Nat) : Int), .int .u64 ((x * y % 18446744073709551616 : Nat) : Int)]) ∧ w = w' := by
  have a1 := and_32 x hx
  have a2 := and_32 y hy
  obtain ⟨x0, hx0⟩ : ∃ k, x % 4294967296 = k := ⟨_, rfl⟩
  obtain ⟨x1, hx1⟩ : ∃ k, x / 4294967296 = k := ⟨_, rfl⟩
  obtain ⟨y0, hy0⟩ : ∃ k, y % 4294967296 = k := ⟨_, rfl⟩
  obtain ⟨y1, hy1⟩ : ∃ k, y / 4294967296 = k := ⟨_, rfl⟩
  rw [hx0] at a1
  rw [hy0] at a2
  unfold U64 at hx hy
  have s1 : (x : Int) / 4294967296 = (x1 : Int) := by omega
  have s2 : (y : Int) / 4294967296 = (y1 : Int) := by omega
  have lx0 : x0 ≤ 4294967295 := by omega
  have lx1 : x1 ≤ 4294967295 := by omega
  have ly0 : y0 ≤ 4294967295 := by omega
  have ly1 : y1 ≤ 4294967295 := by omega
  have p00 := mul_le x0 y0 _ _ lx0 ly0
  have p10 := mul_le x1 y0 _ _ lx1 ly0
  have p01 := mul_le x0 y1 _ _ lx0 ly1
  have p11 := mul_le x1 y1 _ _ lx1 ly1
  have hxy : x * y = x1 * y1 * 18446744073709551616 + (x1 * y0 + x0 * y1) * 4294967296 + x0 * y0 := by
    have h1 : x = x1 * 4294967296 + x0 := by omega
    have h2 : y = y1 * 4294967296 + y0 := by omega
    rw [h1, h2]
    simp only [Nat.add_mul, Nat.mul_add]
    rw [show x1 * 4294967296 * (y1 * 4294967296) = x1 * y1 * 18446744073709551616 by rw [Nat.mul_mul_mul_comm], show x1 * 4294967296 * y0 = x1 * y0 * 4294967296 by rw [Nat.mul_right_comm], show x0 * (y1 * 4294967296) = x0 * y1 * 4294967296 by rw [Nat.mul_assoc]]
    omega
  obtain ⟨A, hA⟩ : ∃ k, x0 * y0 = k := ⟨_, rfl⟩
  obtain ⟨B, hB⟩ : ∃ k, x1 * y0 = k := ⟨_, rfl⟩
  obtain ⟨C, hC⟩ : ∃ k, x0 * y1 = k := ⟨_, rfl⟩
  obtain ⟨D, hD⟩ : ∃ k, x1 * y1 = k := ⟨_, rfl⟩
  obtain ⟨E, hE⟩ : ∃ k, x * y = k := ⟨_, rfl⟩
  rw [hA, hB, hC, hD, hE] at hxy
  rw [hA] at p00
  rw [hB] at p10
  rw [hC] at p01
  rw [hD] at p11
  have m1 : IntKind.u64.wrap ((x0 : Int) * (y0 : Int)) = (A : Int) := by rw [IntKind.wrap_u64, ← Int.natCast_mul, hA]; omega
  have m2 : IntKind.u64.wrap ((x1 : Int) * (y0 : Int)) = (B : Int) := by rw [IntKind.wrap_u64, ← Int.natCast_mul, hB]; omega
  have m3 : IntKind.u64.wrap ((x0 : Int) * (y1 : Int)) = (C : Int) := by rw [IntKind.wrap_u64, ← Int.natCast_mul, hC]; omega
  have m4 : IntKind.u64.wrap ((x1 : Int) * (y1 : Int)) = (D : Int) := by rw [IntKind.wrap_u64, ← Int.natCast_mul, hD]; omega
  have m5 : IntKind.u64.wrap ((x : Int) * (y : Int)) = ((E % 18446744073709551616 : Nat) : Int) := by rw [IntKind.wrap_u64, ← Int.natCast_mul, hE]; omega
  obtain ⟨A1, hA1⟩ : ∃ k, A / 4294967296 = k := ⟨_, rfl⟩
  have s3 : (A : Int) / 4294967296 = (A1 : Int) := by omega
  obtain ⟨T, hT⟩ : ∃ k, B + A1 = k := ⟨_, rfl⟩
  have q1 : IntKind.u64.wrap ((B : Int) + (A1 : Int)) = (T : Int) := by rw [IntKind.wrap_u64]; omega
  have uT : U64 T := by unfold U64; omega
  have a3 := and_32 T uT
  obtain ⟨T0, hT0⟩ : ∃ k, T % 4294967296 = k := ⟨_, rfl⟩
  obtain ⟨T1, hT1⟩ : ∃ k, T / 4294967296 = k := ⟨_, rfl⟩
  rw [hT0] at a3
  have s4 : (T : Int) / 4294967296 = (T1 : Int) := by omega
  obtain ⟨U, hU⟩ : ∃ k, T0 + C = k := ⟨_, rfl⟩
  have q2 : IntKind.u64.wrap ((T0 : Int) + (C : Int)) = (U : Int) := by rw [IntKind.wrap_u64]; omega
  obtain ⟨U1, hU1⟩ : ∃ k, U / 4294967296 = k := ⟨_, rfl⟩
  have s5 : (U : Int) / 4294967296 = (U1 : Int) := by omega
  obtain ⟨V, hV⟩ : ∃ k, D + T1 = k := ⟨_, rfl⟩
  have q3 : IntKind.u64.wrap ((D : Int) + (T1 : Int)) = (V : Int) := by rw [IntKind.wrap_u64]; omega
  have q4 : IntKind.u64.wrap ((V : Int) + (U1 : Int)) = ((E / 18446744073709551616 : Nat) : Int) := by rw [IntKind.wrap_u64]; omega
  rw [hE]
  generalize E / 18446744073709551616 = hi at *
  generalize E % 18446744073709551616 = lo at *
  clear hx hy hx0 hx1 hy0 hy1 lx0 lx1 ly0 ly1 p00 p10 p01 p11 hxy hA hB hC hD hE hA1 hT uT hT0 hT1 hU hU1 hV
  go_enter Try.func91, Try.ntmps91
  go_wp2
  go_ret2
  exact ⟨rfl, rfl⟩

def mulm (a b : Nat) : Nat := a * b % 2305843009213693951
theorem mulm_lt (a b : Nat) : mulm a b < 2305843009213693951 := Nat.mod_lt _ (by decide)

theorem mul_any (a b : Nat) (w : World) (ha : U64 a) (hb : U64 b) :
    Calls Try.prog 88 #[.int .u64 a, .int .u64 b] w fun e w' => e = .returned (.int .u64 (mulm a b : Int)) ∧ w = w' := by
  have la := num_lt a
  have lb := num_lt b
  have pl := mul_le (num a) (num b) 2305843009213693950 2305843009213693950 (by omega) (by omega)
  have hm : mulm a b = num a * num b % 2305843009213693951 := by unfold mulm num; rw [← Nat.mul_mod]
  obtain ⟨E, hE⟩ : ∃ k, num a * num b = k := ⟨_, rfl⟩
  rw [hE] at pl hm
  obtain ⟨hi, hhi⟩ : ∃ k, E / 18446744073709551616 = k := ⟨_, rfl⟩
  obtain ⟨lo, hlo⟩ : ∃ k, E % 18446744073709551616 = k := ⟨_, rfl⟩
  have ll := num_lt lo
  have e1 : IntKind.u64.wrap ((hi : Int) * 8) = ((hi * 8 : Nat) : Int) := by rw [IntKind.wrap_u64]; omega
  have e2 : IntKind.u64.wrap ((num lo : Int) + ((hi * 8 : Nat) : Int)) = ((num lo + hi * 8 : Nat) : Int) := by rw [IntKind.wrap_u64]; omega
  have hu : U64 (num lo + hi * 8) := by unfold U64; omega
  have hlu : U64 lo := by unfold U64; omega
  have hfin : num (num lo + hi * 8) = mulm a b := by rw [hm]; unfold num; omega
  have HH := Lib.hid (And.intro ha (And.intro hb (And.intro hu (And.intro hlu (And.intro hfin (And.intro hE (And.intro hhi hlo)))))))
  generalize hi * 8 = h8 at *
  clear ha hb hu hlu hfin hE hhi hlo ll la lb pl hm
  go_enter Try.func88, Try.ntmps88
  go_wp2_with fail
  refine (num_any a w HH.out.1).mono ?_
  rintro e _ ⟨rfl, rfl⟩
  go_wp2_with fail
  refine (num_any b w HH.out.2.1).mono ?_
  rintro e _ ⟨rfl, rfl⟩
  go_wp2_with fail
  refine (mul64_any (num a) (num b) w (num_u a) (num_u b)).mono ?_
  rw [HH.out.2.2.2.2.2.1, HH.out.2.2.2.2.2.2.1, HH.out.2.2.2.2.2.2.2]
  rintro e _ ⟨rfl, rfl⟩
  go_wp2_with fail
  refine (num_any lo w HH.out.2.2.2.1).mono ?_
  rintro e _ ⟨rfl, rfl⟩
  go_wp2_with fail
  have h3 := num_any (num lo + h8) w HH.out.2.2.1
  refine h3.mono ?_
  rintro e _ ⟨rfl, rfl⟩
  go_wp2
  go_ret
  exact ⟨by rw [HH.out.2.2.2.2.1]; rfl, rfl⟩
end Go.Proofs.Ytpojkhjenbbodaa

namespace Go.Proofs.Ytpojkhjenbbodaa
open Go.RowKit
set_option maxRecDepth 10000 in
theorem refAdd_any (a b : Nat) (w : World) :
    Calls Try.prog 67 #[.int .u64 a, .int .u64 b] w fun e w' => e = .returned (.int .u64 (addm a b : Int)) ∧ w = w' := by
  have e4 : ((a : Int) % 2305843009213693951 + (b : Int) % 2305843009213693951) % 2305843009213693951 = (addm a b : Int) := by unfold addm num; omega
  have e5 : ((a : Int) + (b : Int)) % 2305843009213693951 = (addm a b : Int) := by unfold addm num; omega
  go_enter Try.func67, Try.ntmps67
  go_wp2
  go_ret
  exact ⟨by simp [e5], rfl⟩

set_option maxHeartbeats 1000000 in
set_option maxRecDepth 10000 in
theorem refMul_any (a b : Nat) (w : World) :
    Calls Try.prog 68 #[.int .u64 a, .int .u64 b] w fun e w' => e = .returned (.int .u64 (mulm a b : Int)) ∧ Keeps (fun _ => False) w w' := by
  obtain ⟨x, hx⟩ : ∃ k, num a = k := ⟨_, rfl⟩
  obtain ⟨y, hy⟩ : ∃ k, num b = k := ⟨_, rfl⟩
  have lx := num_lt a
  have ly := num_lt b
  have hm : mulm a b = x * y % 2305843009213693951 := by unfold mulm; rw [← hx, ← hy]; unfold num; rw [← Nat.mul_mod]
  rw [hx] at lx
  rw [hy] at ly
  have g1 : (a : Int) % 2305843009213693951 = (x : Int) := by unfold num at hx; omega
  have g2 : (b : Int) % 2305843009213693951 = (y : Int) := by unfold num at hy; omega
  obtain ⟨x0, hx0⟩ : ∃ k, x % 4294967296 = k := ⟨_, rfl⟩
  obtain ⟨x1, hx1⟩ : ∃ k, x / 4294967296 = k := ⟨_, rfl⟩
  have rx0' : (x : Int).tmod 4294967296 = (x0 : Int) := by rw [Int.tmod_eq_emod_of_nonneg (by omega)]; omega
  have wx1 : IntKind.u64.wrap (x1 : Int) = (x1 : Int) := by rw [IntKind.wrap_u64]; omega
  have rx0 : (x : Int) % 4294967296 = (x0 : Int) := by omega
  have rx1 : (x : Int) / 4294967296 = (x1 : Int) := by omega
  have lx0 : x0 ≤ 4294967295 := by omega
  have lx1 : x1 ≤ 536870911 := by omega
  obtain ⟨y0, hy0⟩ : ∃ k, y % 4294967296 = k := ⟨_, rfl⟩
  obtain ⟨y1, hy1⟩ : ∃ k, y / 4294967296 = k := ⟨_, rfl⟩
  have ry0' : (y : Int).tmod 4294967296 = (y0 : Int) := by rw [Int.tmod_eq_emod_of_nonneg (by omega)]; omega
  have wy1 : IntKind.u64.wrap (y1 : Int) = (y1 : Int) := by rw [IntKind.wrap_u64]; omega
  have ry0 : (y : Int) % 4294967296 = (y0 : Int) := by omega
  have ry1 : (y : Int) / 4294967296 = (y1 : Int) := by omega
  have ly0 : y0 ≤ 4294967295 := by omega
  have ly1 : y1 ≤ 536870911 := by omega
  have hxy : x * y = x1 * y1 * 18446744073709551616 + (x1 * y0 + x0 * y1) * 4294967296 + x0 * y0 := by
    have h1 : x = x1 * 4294967296 + x0 := by omega
    have h2 : y = y1 * 4294967296 + y0 := by omega
    rw [h1, h2]
    simp only [Nat.add_mul, Nat.mul_add]
    rw [show x1 * 4294967296 * (y1 * 4294967296) = x1 * y1 * 18446744073709551616 by rw [Nat.mul_mul_mul_comm], show x1 * 4294967296 * y0 = x1 * y0 * 4294967296 by rw [Nat.mul_right_comm], show x0 * (y1 * 4294967296) = x0 * y1 * 4294967296 by rw [Nat.mul_assoc]]
    omega
  have bA := mul_le x0 y0 _ _ lx0 ly0
  obtain ⟨A, hA⟩ : ∃ k, x0 * y0 = k := ⟨_, rfl⟩
  rw [hA] at bA hxy
  have mA : IntKind.u64.wrap ((x0 : Int) * (y0 : Int)) = (A : Int) := by rw [IntKind.wrap_u64, ← Int.natCast_mul, hA]; omega
  have bB := mul_le x1 y0 _ _ lx1 ly0
  obtain ⟨B, hB⟩ : ∃ k, x1 * y0 = k := ⟨_, rfl⟩
  rw [hB] at bB hxy
  have mB : IntKind.u64.wrap ((x1 : Int) * (y0 : Int)) = (B : Int) := by rw [IntKind.wrap_u64, ← Int.natCast_mul, hB]; omega
  have bC := mul_le x0 y1 _ _ lx0 ly1
  obtain ⟨C, hC⟩ : ∃ k, x0 * y1 = k := ⟨_, rfl⟩
  rw [hC] at bC hxy
  have mC : IntKind.u64.wrap ((x0 : Int) * (y1 : Int)) = (C : Int) := by rw [IntKind.wrap_u64, ← Int.natCast_mul, hC]; omega
  have bD := mul_le x1 y1 _ _ lx1 ly1
  obtain ⟨D, hD⟩ : ∃ k, x1 * y1 = k := ⟨_, rfl⟩
  rw [hD] at bD hxy
  have mD : IntKind.u64.wrap ((x1 : Int) * (y1 : Int)) = (D : Int) := by rw [IntKind.wrap_u64, ← Int.natCast_mul, hD]; omega
  rw [hxy] at hm
  obtain ⟨M, hM⟩ : ∃ k, B + C = k := ⟨_, rfl⟩
  have mM : IntKind.u64.wrap ((B : Int) + (C : Int)) = (M : Int) := by rw [IntKind.wrap_u64]; omega
  obtain ⟨M0, hM0⟩ : ∃ k, M % 536870912 = k := ⟨_, rfl⟩
  obtain ⟨M1, hM1⟩ : ∃ k, M / 536870912 = k := ⟨_, rfl⟩
  obtain ⟨A0, hA0⟩ : ∃ k, A % 2305843009213693951 = k := ⟨_, rfl⟩
  have rM0' : (M : Int).tmod 536870912 = (M0 : Int) := by rw [Int.tmod_eq_emod_of_nonneg (by omega)]; omega
  have rM1' : (M : Int).tdiv 536870912 = (M1 : Int) := by rw [Int.tdiv_eq_ediv_of_nonneg (by omega)]; omega
  have wM1 : IntKind.u64.wrap (M1 : Int) = (M1 : Int) := by rw [IntKind.wrap_u64]; omega
  have rA0' : (A : Int).tmod 2305843009213693951 = (A0 : Int) := by rw [Int.tmod_eq_emod_of_nonneg (by omega)]; omega
  have rM0 : (M : Int) % 536870912 = (M0 : Int) := by omega
  have rM1 : (M : Int) / 536870912 = (M1 : Int) := by omega
  have rA0 : (A : Int) % 2305843009213693951 = (A0 : Int) := by omega
  obtain ⟨N, hN⟩ : ∃ k, M0 * 4294967296 = k := ⟨_, rfl⟩
  have mN : IntKind.u64.wrap ((M0 : Int) * 4294967296) = (N : Int) := by rw [IntKind.wrap_u64]; omega
  obtain ⟨Q1, hQ1⟩ : ∃ k, A0 + N = k := ⟨_, rfl⟩
  have mQ1 : IntKind.u64.wrap ((A0 : Int) + (N : Int)) = (Q1 : Int) := by rw [IntKind.wrap_u64]; omega
  obtain ⟨Q2, hQ2⟩ : ∃ k, Q1 + M1 = k := ⟨_, rfl⟩
  have mQ2 : IntKind.u64.wrap ((Q1 : Int) + (M1 : Int)) = (Q2 : Int) := by rw [IntKind.wrap_u64]; omega
  obtain ⟨D8, hD8⟩ : ∃ k, 8 * D = k := ⟨_, rfl⟩
  have mD8 : IntKind.u64.wrap (8 * (D : Int)) = (D8 : Int) := by rw [IntKind.wrap_u64]; omega
  obtain ⟨Z, hZ⟩ : ∃ k, Q2 + D8 = k := ⟨_, rfl⟩
  have mZ : IntKind.u64.wrap ((Q2 : Int) + (D8 : Int)) = (Z : Int) := by rw [IntKind.wrap_u64]; omega
  have rZ' : (Z : Int).tmod 2305843009213693951 = (mulm a b : Int) := by rw [Int.tmod_eq_emod_of_nonneg (by omega), hm]; omega
  have rZ : (Z : Int) % 2305843009213693951 = (mulm a b : Int) := by rw [hm]; omega
  clear hx hy lx ly hm hx0 hx1 hy0 hy1 lx0 lx1 ly0 ly1 hxy bA hA bB hB bC hC bD hD hM hM0 hM1 hA0 hN hQ1 hQ2 hD8 hZ
  go_enter Try.func68, Try.ntmps68
  go_wp2_with fail
  refine z_begin (fun _ => True) 8 (by kernel_rfl) trivial (fun hHeld => ?_)
  refine z_take 0 (v := ?_) rfl (by kernel_rfl) (by kernel_rfl) (by kernel_rfl) (by kernel_rfl) (fun _ _ _ h => h) hHeld (by rfl) (fun w hSw => ?_) ?_
  rotate_left
  · have hSw1 := hSw; clear hSw; simp only [List.getElem_toArray, List.getElem_cons_zero]; go_simp; try rfl
  simp only [Act.put, List.getElem_toArray, List.getElem_cons_zero, List.setIfInBounds_toArray, List.set_cons_zero, List.set_cons_succ]
  refine z_take 1 (v := ?_) rfl (by kernel_rfl) (by kernel_rfl) (by kernel_rfl) (by kernel_rfl) (fun _ _ _ h => h) hHeld (by rfl) (fun w hSw => ?_) ?_
  rotate_left
  · have hSw1 := hSw; clear hSw; simp only [List.getElem_toArray, List.getElem_cons_zero, List.getElem_cons_succ]; go_simp; try rfl
  simp only [Act.put, List.getElem_toArray, List.getElem_cons_zero, List.getElem_cons_succ, List.setIfInBounds_toArray, List.set_cons_zero, List.set_cons_succ]
  refine z_take 2 (v := ?_) rfl (by kernel_rfl) (by kernel_rfl) (by kernel_rfl) (by kernel_rfl) (fun _ _ _ h => h) hHeld (by rfl) (fun w hSw => ?_) ?_
  rotate_left
  · have hSw1 := hSw; clear hSw; simp only [List.getElem_toArray, List.getElem_cons_zero, List.getElem_cons_succ]; go_simp; try rfl
  simp only [Act.put, List.getElem_toArray, List.getElem_cons_zero, List.getElem_cons_succ, List.setIfInBounds_toArray, List.set_cons_zero, List.set_cons_succ]
  refine z_take 3 (v := ?_) rfl (by kernel_rfl) (by kernel_rfl) (by kernel_rfl) (by kernel_rfl) (fun _ _ _ h => h) hHeld (by rfl) (fun w hSw => ?_) ?_
  rotate_left
  · have hSw1 := hSw; clear hSw; simp only [List.getElem_toArray, List.getElem_cons_zero, List.getElem_cons_succ]; go_simp; try rfl
  simp only [Act.put, List.getElem_toArray, List.getElem_cons_zero, List.getElem_cons_succ, List.setIfInBounds_toArray, List.set_cons_zero, List.set_cons_succ]
  refine z_take 4 (v := ?_) rfl (by kernel_rfl) (by kernel_rfl) (by kernel_rfl) (by kernel_rfl) (fun _ _ _ h => h) hHeld (by rfl) (fun w hSw => ?_) ?_
  rotate_left
  · have hSw1 := hSw; clear hSw; simp only [List.getElem_toArray, List.getElem_cons_zero, List.getElem_cons_succ]; go_simp; try rfl
  simp only [Act.put, List.getElem_toArray, List.getElem_cons_zero, List.getElem_cons_succ, List.setIfInBounds_toArray, List.set_cons_zero, List.set_cons_succ]
  refine z_take 5 (v := ?_) rfl (by kernel_rfl) (by kernel_rfl) (by kernel_rfl) (by kernel_rfl) (fun _ _ _ h => h) hHeld (by rfl) (fun w hSw => ?_) ?_
  rotate_left
  · have hSw1 := hSw; clear hSw; simp only [List.getElem_toArray, List.getElem_cons_zero, List.getElem_cons_succ]; go_simp; try rfl
  simp only [Act.put, List.getElem_toArray, List.getElem_cons_zero, List.getElem_cons_succ, List.setIfInBounds_toArray, List.set_cons_zero, List.set_cons_succ]
  refine z_take 6 (v := ?_) rfl (by kernel_rfl) (by kernel_rfl) (by kernel_rfl) (by kernel_rfl) (fun _ _ _ h => h) hHeld (by rfl) (fun w hSw => ?_) ?_
  rotate_left
  · have hSw1 := hSw; clear hSw; simp only [List.getElem_toArray, List.getElem_cons_zero, List.getElem_cons_succ]; go_simp; try rfl
  simp only [Act.put, List.getElem_toArray, List.getElem_cons_zero, List.getElem_cons_succ, List.setIfInBounds_toArray, List.set_cons_zero, List.set_cons_succ]
  refine z_take 7 (v := ?_) rfl (by kernel_rfl) (by kernel_rfl) (by kernel_rfl) (by kernel_rfl) (fun _ _ _ h => h) hHeld (by rfl) (fun w hSw => ?_) ?_
  rotate_left
  · have hSw1 := hSw; clear hSw; simp only [List.getElem_toArray, List.getElem_cons_zero, List.getElem_cons_succ]; go_simp; try rfl
  simp only [Act.put, List.getElem_toArray, List.getElem_cons_zero, List.getElem_cons_succ, List.setIfInBounds_toArray, List.set_cons_zero, List.set_cons_succ]
  refine z_done (by kernel_rfl) ?_ _
  clear hHeld
  go_wp2_with fail
  refine z_begin (fun _ => True) 16 (by kernel_rfl) trivial (fun hHeld => ?_)
  refine z_take 0 (v := ?_) rfl (by kernel_rfl) (by kernel_rfl) (by kernel_rfl) (by kernel_rfl) (fun _ _ _ h => h) hHeld (by rfl) (fun w hSw => ?_) ?_
  rotate_left
  · have hSw1 := hSw; clear hSw; simp only [List.getElem_toArray, List.getElem_cons_zero]; go_simp; try rfl
  simp only [Act.put, List.getElem_toArray, List.getElem_cons_zero, List.setIfInBounds_toArray, List.set_cons_zero, List.set_cons_succ]
  refine z_take 1 (v := ?_) rfl (by kernel_rfl) (by kernel_rfl) (by kernel_rfl) (by kernel_rfl) (fun _ _ _ h => h) hHeld (by rfl) (fun w hSw => ?_) ?_
  rotate_left
  · have hSw1 := hSw; clear hSw; simp only [List.getElem_toArray, List.getElem_cons_zero, List.getElem_cons_succ]; go_simp; try rfl
  simp only [Act.put, List.getElem_toArray, List.getElem_cons_zero, List.getElem_cons_succ, List.setIfInBounds_toArray, List.set_cons_zero, List.set_cons_succ]
  refine z_take 2 (v := ?_) rfl (by kernel_rfl) (by kernel_rfl) (by kernel_rfl) (by kernel_rfl) (fun _ _ _ h => h) hHeld (by rfl) (fun w hSw => ?_) ?_
  rotate_left
  · have hSw1 := hSw; clear hSw; simp only [List.getElem_toArray, List.getElem_cons_zero, List.getElem_cons_succ]; go_simp; try rfl
  simp only [Act.put, List.getElem_toArray, List.getElem_cons_zero, List.getElem_cons_succ, List.setIfInBounds_toArray, List.set_cons_zero, List.set_cons_succ]
  refine z_take 3 (v := ?_) rfl (by kernel_rfl) (by kernel_rfl) (by kernel_rfl) (by kernel_rfl) (fun _ _ _ h => h) hHeld (by rfl) (fun w hSw => ?_) ?_
  rotate_left
  · have hSw1 := hSw; clear hSw; simp only [List.getElem_toArray, List.getElem_cons_zero, List.getElem_cons_succ]; go_simp; try rfl
  simp only [Act.put, List.getElem_toArray, List.getElem_cons_zero, List.getElem_cons_succ, List.setIfInBounds_toArray, List.set_cons_zero, List.set_cons_succ]
  refine z_take 4 (v := ?_) rfl (by kernel_rfl) (by kernel_rfl) (by kernel_rfl) (by kernel_rfl) (fun _ _ _ h => h) hHeld (by rfl) (fun w hSw => ?_) ?_
  rotate_left
  · have hSw1 := hSw; clear hSw; simp only [List.getElem_toArray, List.getElem_cons_zero, List.getElem_cons_succ]; go_simp; try rfl
  simp only [Act.put, List.getElem_toArray, List.getElem_cons_zero, List.getElem_cons_succ, List.setIfInBounds_toArray, List.set_cons_zero, List.set_cons_succ]
  refine z_take 5 (v := ?_) rfl (by kernel_rfl) (by kernel_rfl) (by kernel_rfl) (by kernel_rfl) (fun _ _ _ h => h) hHeld (by rfl) (fun w hSw => ?_) ?_
  rotate_left
  · have hSw1 := hSw; clear hSw; simp only [List.getElem_toArray, List.getElem_cons_zero, List.getElem_cons_succ]; go_simp; try rfl
  simp only [Act.put, List.getElem_toArray, List.getElem_cons_zero, List.getElem_cons_succ, List.setIfInBounds_toArray, List.set_cons_zero, List.set_cons_succ]
  refine z_take 6 (v := ?_) rfl (by kernel_rfl) (by kernel_rfl) (by kernel_rfl) (by kernel_rfl) (fun _ _ _ h => h) hHeld (by rfl) (fun w hSw => ?_) ?_
  rotate_left
  · have hSw1 := hSw; clear hSw; simp only [List.getElem_toArray, List.getElem_cons_zero, List.getElem_cons_succ]; go_simp; try rfl
  simp only [Act.put, List.getElem_toArray, List.getElem_cons_zero, List.getElem_cons_succ, List.setIfInBounds_toArray, List.set_cons_zero, List.set_cons_succ]
  refine z_take 7 (v := ?_) rfl (by kernel_rfl) (by kernel_rfl) (by kernel_rfl) (by kernel_rfl) (fun _ _ _ h => h) hHeld (by rfl) (fun w hSw => ?_) ?_
  rotate_left
  · have hSw1 := hSw; clear hSw; simp only [List.getElem_toArray, List.getElem_cons_zero, List.getElem_cons_succ]; go_simp; try rfl
  simp only [Act.put, List.getElem_toArray, List.getElem_cons_zero, List.getElem_cons_succ, List.setIfInBounds_toArray, List.set_cons_zero, List.set_cons_succ]
  refine z_take 8 (v := ?_) rfl (by kernel_rfl) (by kernel_rfl) (by kernel_rfl) (by kernel_rfl) (fun _ _ _ h => h) hHeld (by rfl) (fun w hSw => ?_) ?_
  rotate_left
  · have hSw1 := hSw; clear hSw; simp only [List.getElem_toArray, List.getElem_cons_zero, List.getElem_cons_succ]; go_simp; try rfl
  simp only [Act.put, List.getElem_toArray, List.getElem_cons_zero, List.getElem_cons_succ, List.setIfInBounds_toArray, List.set_cons_zero, List.set_cons_succ]
  refine z_take 9 (v := ?_) rfl (by kernel_rfl) (by kernel_rfl) (by kernel_rfl) (by kernel_rfl) (fun _ _ _ h => h) hHeld (by rfl) (fun w hSw => ?_) ?_
  rotate_left
  · have hSw1 := hSw; clear hSw; simp only [List.getElem_toArray, List.getElem_cons_zero, List.getElem_cons_succ]; go_simp; try rfl
  simp only [Act.put, List.getElem_toArray, List.getElem_cons_zero, List.getElem_cons_succ, List.setIfInBounds_toArray, List.set_cons_zero, List.set_cons_succ]
  refine z_take 10 (v := ?_) rfl (by kernel_rfl) (by kernel_rfl) (by kernel_rfl) (by kernel_rfl) (fun _ _ _ h => h) hHeld (by rfl) (fun w hSw => ?_) ?_
  rotate_left
  · have hSw1 := hSw; clear hSw; simp only [List.getElem_toArray, List.getElem_cons_zero, List.getElem_cons_succ]; go_simp; try rfl
  simp only [Act.put, List.getElem_toArray, List.getElem_cons_zero, List.getElem_cons_succ, List.setIfInBounds_toArray, List.set_cons_zero, List.set_cons_succ]
  refine z_take 11 (v := ?_) rfl (by kernel_rfl) (by kernel_rfl) (by kernel_rfl) (by kernel_rfl) (fun _ _ _ h => h) hHeld (by rfl) (fun w hSw => ?_) ?_
  rotate_left
  · have hSw1 := hSw; clear hSw; simp only [List.getElem_toArray, List.getElem_cons_zero, List.getElem_cons_succ]; go_simp; try rfl
  simp only [Act.put, List.getElem_toArray, List.getElem_cons_zero, List.getElem_cons_succ, List.setIfInBounds_toArray, List.set_cons_zero, List.set_cons_succ]
  refine z_take 12 (v := ?_) rfl (by kernel_rfl) (by kernel_rfl) (by kernel_rfl) (by kernel_rfl) (fun _ _ _ h => h) hHeld (by rfl) (fun w hSw => ?_) ?_
  rotate_left
  · have hSw1 := hSw; clear hSw; simp only [List.getElem_toArray, List.getElem_cons_zero, List.getElem_cons_succ]; go_simp; try rfl
  simp only [Act.put, List.getElem_toArray, List.getElem_cons_zero, List.getElem_cons_succ, List.setIfInBounds_toArray, List.set_cons_zero, List.set_cons_succ]
  refine z_take 13 (v := ?_) rfl (by kernel_rfl) (by kernel_rfl) (by kernel_rfl) (by kernel_rfl) (fun _ _ _ h => h) hHeld (by rfl) (fun w hSw => ?_) ?_
  rotate_left
  · have hSw1 := hSw; clear hSw; simp only [List.getElem_toArray, List.getElem_cons_zero, List.getElem_cons_succ]; go_simp; try rfl
  simp only [Act.put, List.getElem_toArray, List.getElem_cons_zero, List.getElem_cons_succ, List.setIfInBounds_toArray, List.set_cons_zero, List.set_cons_succ]
  refine z_take 14 (v := ?_) rfl (by kernel_rfl) (by kernel_rfl) (by kernel_rfl) (by kernel_rfl) (fun _ _ _ h => h) hHeld (by rfl) (fun w hSw => ?_) ?_
  rotate_left
  · have hSw1 := hSw; clear hSw; simp only [List.getElem_toArray, List.getElem_cons_zero, List.getElem_cons_succ]; go_simp; try rfl
  simp only [Act.put, List.getElem_toArray, List.getElem_cons_zero, List.getElem_cons_succ, List.setIfInBounds_toArray, List.set_cons_zero, List.set_cons_succ]
  refine z_take 15 (v := ?_) rfl (by kernel_rfl) (by kernel_rfl) (by kernel_rfl) (by kernel_rfl) (fun _ _ _ h => h) hHeld (by rfl) (fun w hSw => ?_) ?_
  rotate_left
  · have hSw1 := hSw; clear hSw; simp only [List.getElem_toArray, List.getElem_cons_zero, List.getElem_cons_succ]; go_simp; try rfl
  simp only [Act.put, List.getElem_toArray, List.getElem_cons_zero, List.getElem_cons_succ, List.setIfInBounds_toArray, List.set_cons_zero, List.set_cons_succ]
  refine z_done (by kernel_rfl) ?_ _
  clear hHeld
  go_wp2_with fail
  refine z_begin (fun _ => True) 8 (by kernel_rfl) trivial (fun hHeld => ?_)
  refine z_take 0 (v := ?_) rfl (by kernel_rfl) (by kernel_rfl) (by kernel_rfl) (by kernel_rfl) (fun _ _ _ h => h) hHeld (by rfl) (fun w hSw => ?_) ?_
  rotate_left
  · have hSw1 := hSw; clear hSw; simp only [List.getElem_toArray, List.getElem_cons_zero]; go_simp; try rfl
  simp only [Act.put, List.getElem_toArray, List.getElem_cons_zero, List.setIfInBounds_toArray, List.set_cons_zero, List.set_cons_succ]
  refine z_take 1 (v := ?_) rfl (by kernel_rfl) (by kernel_rfl) (by kernel_rfl) (by kernel_rfl) (fun _ _ _ h => h) hHeld (by rfl) (fun w hSw => ?_) ?_
  rotate_left
  · have hSw1 := hSw; clear hSw; simp only [List.getElem_toArray, List.getElem_cons_zero, List.getElem_cons_succ]; go_simp; try rfl
  simp only [Act.put, List.getElem_toArray, List.getElem_cons_zero, List.getElem_cons_succ, List.setIfInBounds_toArray, List.set_cons_zero, List.set_cons_succ]
  refine z_take 2 (v := ?_) rfl (by kernel_rfl) (by kernel_rfl) (by kernel_rfl) (by kernel_rfl) (fun _ _ _ h => h) hHeld (by rfl) (fun w hSw => ?_) ?_
  rotate_left
  · have hSw1 := hSw; clear hSw; simp only [List.getElem_toArray, List.getElem_cons_zero, List.getElem_cons_succ]; go_simp; try rfl
  simp only [Act.put, List.getElem_toArray, List.getElem_cons_zero, List.getElem_cons_succ, List.setIfInBounds_toArray, List.set_cons_zero, List.set_cons_succ]
  refine z_take 3 (v := ?_) rfl (by kernel_rfl) (by kernel_rfl) (by kernel_rfl) (by kernel_rfl) (fun _ _ _ h => h) hHeld (by rfl) (fun w hSw => ?_) ?_
  rotate_left
  · have hSw1 := hSw; clear hSw; simp only [List.getElem_toArray, List.getElem_cons_zero, List.getElem_cons_succ]; go_simp; try rfl
  simp only [Act.put, List.getElem_toArray, List.getElem_cons_zero, List.getElem_cons_succ, List.setIfInBounds_toArray, List.set_cons_zero, List.set_cons_succ]
  refine z_take 4 (v := ?_) rfl (by kernel_rfl) (by kernel_rfl) (by kernel_rfl) (by kernel_rfl) (fun _ _ _ h => h) hHeld (by rfl) (fun w hSw => ?_) ?_
  rotate_left
  · have hSw1 := hSw; clear hSw; simp only [List.getElem_toArray, List.getElem_cons_zero, List.getElem_cons_succ]; go_simp; try rfl
  simp only [Act.put, List.getElem_toArray, List.getElem_cons_zero, List.getElem_cons_succ, List.setIfInBounds_toArray, List.set_cons_zero, List.set_cons_succ]
  refine z_take 5 (v := ?_) rfl (by kernel_rfl) (by kernel_rfl) (by kernel_rfl) (by kernel_rfl) (fun _ _ _ h => h) hHeld (by rfl) (fun w hSw => ?_) ?_
  rotate_left
  · have hSw1 := hSw; clear hSw; simp only [List.getElem_toArray, List.getElem_cons_zero, List.getElem_cons_succ]; go_simp; try rfl
  simp only [Act.put, List.getElem_toArray, List.getElem_cons_zero, List.getElem_cons_succ, List.setIfInBounds_toArray, List.set_cons_zero, List.set_cons_succ]
  refine z_take 6 (v := ?_) rfl (by kernel_rfl) (by kernel_rfl) (by kernel_rfl) (by kernel_rfl) (fun _ _ _ h => h) hHeld (by rfl) (fun w hSw => ?_) ?_
  rotate_left
  · have hSw1 := hSw; clear hSw; simp only [List.getElem_toArray, List.getElem_cons_zero, List.getElem_cons_succ]; go_simp; try rfl
  simp only [Act.put, List.getElem_toArray, List.getElem_cons_zero, List.getElem_cons_succ, List.setIfInBounds_toArray, List.set_cons_zero, List.set_cons_succ]
  refine z_take 7 (v := ?_) rfl (by kernel_rfl) (by kernel_rfl) (by kernel_rfl) (by kernel_rfl) (fun _ _ _ h => h) hHeld (by rfl) (fun w hSw => ?_) ?_
  rotate_left
  · have hSw1 := hSw; clear hSw; simp only [List.getElem_toArray, List.getElem_cons_zero, List.getElem_cons_succ]; go_simp; try rfl
  simp only [Act.put, List.getElem_toArray, List.getElem_cons_zero, List.getElem_cons_succ, List.setIfInBounds_toArray, List.set_cons_zero, List.set_cons_succ]
  refine z_done (by kernel_rfl) ?_ _
  clear hHeld
  go_wp2_with fail
  refine z_begin (fun _ => True) 17 (by kernel_rfl) trivial (fun hHeld => ?_)
  refine z_take 0 (v := ?_) rfl (by kernel_rfl) (by kernel_rfl) (by kernel_rfl) (by kernel_rfl) (fun _ _ _ h => h) hHeld (by rfl) (fun w hSw => ?_) ?_
  rotate_left
  · have hSw1 := hSw; clear hSw; simp only [List.getElem_toArray, List.getElem_cons_zero]; go_simp; try rfl
  simp only [Act.put, List.getElem_toArray, List.getElem_cons_zero, List.setIfInBounds_toArray, List.set_cons_zero, List.set_cons_succ]
  refine z_take 1 (v := ?_) rfl (by kernel_rfl) (by kernel_rfl) (by kernel_rfl) (by kernel_rfl) (fun _ _ _ h => h) hHeld (by rfl) (fun w hSw => ?_) ?_
  rotate_left
  · have hSw1 := hSw; clear hSw; simp only [List.getElem_toArray, List.getElem_cons_zero, List.getElem_cons_succ]; go_simp; try rfl
  simp only [Act.put, List.getElem_toArray, List.getElem_cons_zero, List.getElem_cons_succ, List.setIfInBounds_toArray, List.set_cons_zero, List.set_cons_succ]
  refine z_take 2 (v := ?_) rfl (by kernel_rfl) (by kernel_rfl) (by kernel_rfl) (by kernel_rfl) (fun _ _ _ h => h) hHeld (by rfl) (fun w hSw => ?_) ?_
  rotate_left
  · have hSw1 := hSw; clear hSw; simp only [List.getElem_toArray, List.getElem_cons_zero, List.getElem_cons_succ]; go_simp; try rfl
  simp only [Act.put, List.getElem_toArray, List.getElem_cons_zero, List.getElem_cons_succ, List.setIfInBounds_toArray, List.set_cons_zero, List.set_cons_succ]
  refine z_take 3 (v := ?_) rfl (by kernel_rfl) (by kernel_rfl) (by kernel_rfl) (by kernel_rfl) (fun _ _ _ h => h) hHeld (by rfl) (fun w hSw => ?_) ?_
  rotate_left
  · have hSw1 := hSw; clear hSw; simp only [List.getElem_toArray, List.getElem_cons_zero, List.getElem_cons_succ]; go_simp; try rfl
  simp only [Act.put, List.getElem_toArray, List.getElem_cons_zero, List.getElem_cons_succ, List.setIfInBounds_toArray, List.set_cons_zero, List.set_cons_succ]
  refine z_take 4 (v := ?_) rfl (by kernel_rfl) (by kernel_rfl) (by kernel_rfl) (by kernel_rfl) (fun _ _ _ h => h) hHeld (by rfl) (fun w hSw => ?_) ?_
  rotate_left
  · have hSw1 := hSw; clear hSw; simp only [List.getElem_toArray, List.getElem_cons_zero, List.getElem_cons_succ]; go_simp; try rfl
  simp only [Act.put, List.getElem_toArray, List.getElem_cons_zero, List.getElem_cons_succ, List.setIfInBounds_toArray, List.set_cons_zero, List.set_cons_succ]
  refine z_take 5 (v := ?_) rfl (by kernel_rfl) (by kernel_rfl) (by kernel_rfl) (by kernel_rfl) (fun _ _ _ h => h) hHeld (by rfl) (fun w hSw => ?_) ?_
  rotate_left
  · have hSw1 := hSw; clear hSw; simp only [List.getElem_toArray, List.getElem_cons_zero, List.getElem_cons_succ]; go_simp; try rfl
  simp only [Act.put, List.getElem_toArray, List.getElem_cons_zero, List.getElem_cons_succ, List.setIfInBounds_toArray, List.set_cons_zero, List.set_cons_succ]
  refine z_take 6 (v := ?_) rfl (by kernel_rfl) (by kernel_rfl) (by kernel_rfl) (by kernel_rfl) (fun _ _ _ h => h) hHeld (by rfl) (fun w hSw => ?_) ?_
  rotate_left
  · have hSw1 := hSw; clear hSw; simp only [List.getElem_toArray, List.getElem_cons_zero, List.getElem_cons_succ]; go_simp; try rfl
  simp only [Act.put, List.getElem_toArray, List.getElem_cons_zero, List.getElem_cons_succ, List.setIfInBounds_toArray, List.set_cons_zero, List.set_cons_succ]
  refine z_take 7 (v := ?_) rfl (by kernel_rfl) (by kernel_rfl) (by kernel_rfl) (by kernel_rfl) (fun _ _ _ h => h) hHeld (by rfl) (fun w hSw => ?_) ?_
  rotate_left
  · have hSw1 := hSw; clear hSw; simp only [List.getElem_toArray, List.getElem_cons_zero, List.getElem_cons_succ]; go_simp; try rfl
  simp only [Act.put, List.getElem_toArray, List.getElem_cons_zero, List.getElem_cons_succ, List.setIfInBounds_toArray, List.set_cons_zero, List.set_cons_succ]
  refine z_take 8 (v := ?_) rfl (by kernel_rfl) (by kernel_rfl) (by kernel_rfl) (by kernel_rfl) (fun _ _ _ h => h) hHeld (by rfl) (fun w hSw => ?_) ?_
  rotate_left
  · have hSw1 := hSw; clear hSw; simp only [List.getElem_toArray, List.getElem_cons_zero, List.getElem_cons_succ]; go_simp; try rfl
  simp only [Act.put, List.getElem_toArray, List.getElem_cons_zero, List.getElem_cons_succ, List.setIfInBounds_toArray, List.set_cons_zero, List.set_cons_succ]
  refine z_take 9 (v := ?_) rfl (by kernel_rfl) (by kernel_rfl) (by kernel_rfl) (by kernel_rfl) (fun _ _ _ h => h) hHeld (by rfl) (fun w hSw => ?_) ?_
  rotate_left
  · have hSw1 := hSw; clear hSw; simp only [List.getElem_toArray, List.getElem_cons_zero, List.getElem_cons_succ]; go_simp; try rfl
  simp only [Act.put, List.getElem_toArray, List.getElem_cons_zero, List.getElem_cons_succ, List.setIfInBounds_toArray, List.set_cons_zero, List.set_cons_succ]
  refine z_take 10 (v := ?_) rfl (by kernel_rfl) (by kernel_rfl) (by kernel_rfl) (by kernel_rfl) (fun _ _ _ h => h) hHeld (by rfl) (fun w hSw => ?_) ?_
  rotate_left
  · have hSw1 := hSw; clear hSw; simp only [List.getElem_toArray, List.getElem_cons_zero, List.getElem_cons_succ]; go_simp; try rfl
  simp only [Act.put, List.getElem_toArray, List.getElem_cons_zero, List.getElem_cons_succ, List.setIfInBounds_toArray, List.set_cons_zero, List.set_cons_succ]
  refine z_take 11 (v := ?_) rfl (by kernel_rfl) (by kernel_rfl) (by kernel_rfl) (by kernel_rfl) (fun _ _ _ h => h) hHeld (by rfl) (fun w hSw => ?_) ?_
  rotate_left
  · have hSw1 := hSw; clear hSw; simp only [List.getElem_toArray, List.getElem_cons_zero, List.getElem_cons_succ]; go_simp; try rfl
  simp only [Act.put, List.getElem_toArray, List.getElem_cons_zero, List.getElem_cons_succ, List.setIfInBounds_toArray, List.set_cons_zero, List.set_cons_succ]
  refine z_take 12 (v := ?_) rfl (by kernel_rfl) (by kernel_rfl) (by kernel_rfl) (by kernel_rfl) (fun _ _ _ h => h) hHeld (by rfl) (fun w hSw => ?_) ?_
  rotate_left
  · have hSw1 := hSw; clear hSw; simp only [List.getElem_toArray, List.getElem_cons_zero, List.getElem_cons_succ]; go_simp; try rfl
  simp only [Act.put, List.getElem_toArray, List.getElem_cons_zero, List.getElem_cons_succ, List.setIfInBounds_toArray, List.set_cons_zero, List.set_cons_succ]
  refine z_take 13 (v := ?_) rfl (by kernel_rfl) (by kernel_rfl) (by kernel_rfl) (by kernel_rfl) (fun _ _ _ h => h) hHeld (by rfl) (fun w hSw => ?_) ?_
  rotate_left
  · have hSw1 := hSw; clear hSw; simp only [List.getElem_toArray, List.getElem_cons_zero, List.getElem_cons_succ]; go_simp; try rfl
  simp only [Act.put, List.getElem_toArray, List.getElem_cons_zero, List.getElem_cons_succ, List.setIfInBounds_toArray, List.set_cons_zero, List.set_cons_succ]
  refine z_take 14 (v := ?_) rfl (by kernel_rfl) (by kernel_rfl) (by kernel_rfl) (by kernel_rfl) (fun _ _ _ h => h) hHeld (by rfl) (fun w hSw => ?_) ?_
  rotate_left
  · have hSw1 := hSw; clear hSw; simp only [List.getElem_toArray, List.getElem_cons_zero, List.getElem_cons_succ]; go_simp; try rfl
  simp only [Act.put, List.getElem_toArray, List.getElem_cons_zero, List.getElem_cons_succ, List.setIfInBounds_toArray, List.set_cons_zero, List.set_cons_succ]
  refine z_take 15 (v := ?_) rfl (by kernel_rfl) (by kernel_rfl) (by kernel_rfl) (by kernel_rfl) (fun _ _ _ h => h) hHeld (by rfl) (fun w hSw => ?_) ?_
  rotate_left
  · have hSw1 := hSw; clear hSw; simp only [List.getElem_toArray, List.getElem_cons_zero, List.getElem_cons_succ]; go_simp; try rfl
  simp only [Act.put, List.getElem_toArray, List.getElem_cons_zero, List.getElem_cons_succ, List.setIfInBounds_toArray, List.set_cons_zero, List.set_cons_succ]
  refine z_take 16 (v := ?_) rfl (by kernel_rfl) (by kernel_rfl) (by kernel_rfl) (by kernel_rfl) (fun _ _ _ h => h) hHeld (by rfl) (fun w hSw => ?_) ?_
  rotate_left
  · have hSw1 := hSw; clear hSw; simp only [List.getElem_toArray, List.getElem_cons_zero, List.getElem_cons_succ]; go_simp; try rfl
  simp only [Act.put, List.getElem_toArray, List.getElem_cons_zero, List.getElem_cons_succ, List.setIfInBounds_toArray, List.set_cons_zero, List.set_cons_succ]
  refine z_done (by kernel_rfl) ?_ _
  clear hHeld
  go_wp2
  go_ret
  exact ⟨by simp, (Keeps.refl _ w).drew.drew.drew.drew⟩
end Go.Proofs.Ytpojkhjenbbodaa

namespace Go.Proofs.Ytpojkhjenbbodaa
open Go.RowKit
def powm (a n : Nat) : Nat := a ^ n % 2305843009213693951
theorem powm_lt (a n : Nat) : powm a n < 2305843009213693951 := Nat.mod_lt _ (by decide)

/-- One step of squaring. -/
theorem pow_step (o b k : Nat) (P : Nat) : ((if k % 2 = 1 then o * b % P else o) * (b * b % P) ^ (k / 2)) % P = o * b ^ k % P := by
  have h2 : (b * b) ^ (k / 2) * b ^ (k % 2) = b ^ k := by
    rw [← Nat.pow_two, ← Nat.pow_mul, ← Nat.pow_add]
    congr 1
    omega
  split
  · rename_i h
    rw [Nat.mul_mod, Nat.mod_mod, ← Nat.pow_mod, ← Nat.mul_mod, ← h2, h, Nat.pow_one, Nat.mul_assoc, Nat.mul_comm b]
  · rename_i h
    have h0 : k % 2 = 0 := by omega
    rw [Nat.mul_mod, ← Nat.pow_mod, ← Nat.mul_mod, ← h2, h0, Nat.pow_zero, Nat.mul_one]

/-- What holds at the head of each round. -/
def PwRel (w : World) (a n : Nat) (out by_ n_ : Value) (wr : World) : Prop :=
  ∃ o b k : Nat, out = .int .u64 (o : Int) ∧ by_ = .int .u64 (b : Int) ∧ n_ = .int .u64 (k : Int) ∧ o < 2305843009213693951 ∧ b < 2305843009213693951 ∧ k ≤ n ∧ o * b ^ k % 2305843009213693951 = powm a n ∧ Keeps (fun _ => False) w wr

theorem half_u64 (k n : Nat) (hk : k ≤ n) (hn : U64 n) : IntKind.u64.wrap ((k : Int) / 2) = ((k / 2 : Nat) : Int) := by unfold U64 at hn; rw [IntKind.wrap_u64]; omega

set_option maxHeartbeats 1000000 in
set_option maxRecDepth 10000 in
theorem refPow_any (a n : Nat) (w : World) (hn : U64 n) :
    Calls Try.prog 69 #[.int .u64 a, .int .u64 n] w fun e w' => e = .returned (.int .u64 (powm a n : Int)) ∧ Keeps (fun _ => False) w w' := by
  have e1 : (a : Int) % 2305843009213693951 = (num a : Int) := by unfold num; omega
  have HN := Lib.hid hn
  have E1 := Lib.hid e1
  clear hn e1
  go_enter Try.func69, Try.ntmps69
  go_wp2_with fail
  go_loopw [5, 6, 7] (fun o b k wr => PwRel w a n o b k wr) (fun _ _ k _ => (intOf k).toNat)
  case atStart =>
    refine ⟨1, num a, n, rfl, by rw [E1.out], rfl, by decide, num_lt a, Nat.le_refl _, ?_, Keeps.refl _ _⟩
    rw [Nat.one_mul]; unfold num powm; rw [← Nat.pow_mod]
  case round =>
    obtain ⟨o, b, k, rfl, rfl, rfl, ho, hb, hk, hv, hkp⟩ := hrel
    have hst := pow_step o b k 2305843009213693951
    have HH := Lib.hid (And.intro ho (And.intro hb (And.intro hk (And.intro hv (And.intro hkp hst)))))
    clear ho hb hk hv hkp hst
    by_cases h0 : 0 < k
    · have t1 : (0 : Int) < (k : Int) := by omega
      obtain ⟨k2, hk2⟩ : ∃ k2, k / 2 = k2 := ⟨_, rfl⟩
      have hh := half_u64 k n HH.out.2.2.1 HN.out
      have hh' : (k : Int) / 2 = (k2 : Int) := by omega
      rw [hk2] at hh
      have HK2 := Lib.hid hk2
      rw [hh'] at hh
      clear hk2
      by_cases h1 : k % 2 = 1
      · have t2 : (k : Int) % 2 = 1 := by omega
        have t3 : ((k : Int) % 2 == 1) = true := by simp [t2]
        go_wp2_with fail
        refine (refMul_any o b wr).mono ?_
        rintro e w1 ⟨rfl, hk1⟩
        have H1 := Lib.hid hk1
        clear hk1
        go_wp2_with fail
        refine (refMul_any b b w1).mono ?_
        rintro e w2 ⟨rfl, hkq⟩
        have H2 := Lib.hid hkq
        clear hkq
        have HS : Hid (PwRel w a n (.int .u64 (mulm o b : Int)) (.int .u64 (mulm b b : Int)) (.int .u64 (k2 : Int)) w2) := by
          refine ⟨mulm o b, mulm b b, k2, rfl, rfl, rfl, mulm_lt _ _, mulm_lt _ _, by have := HH.out.2.2.1; have := HK2.out; omega, ?_, (HH.out.2.2.2.2.1.trans H1.out (fun _ _ h => h)).trans H2.out (fun _ _ h => h)⟩
          have := HH.out.2.2.2.2.2
          rw [if_pos h1, HK2.out] at this
          rw [← HH.out.2.2.2.1]
          exact this
        go_wp2
        go_roundw
        case rel => exact HS.out
        case measure => have := HK2.out; simp [intOf]; omega
      · have t2 : (k : Int) % 2 = 0 := by omega
        have t3 : ((k : Int) % 2 == 1) = false := by simp [t2]
        go_wp2_with fail
        refine (refMul_any b b wr).mono ?_
        rintro e w2 ⟨rfl, hkq⟩
        have H2 := Lib.hid hkq
        clear hkq
        have HS : Hid (PwRel w a n (.int .u64 (o : Int)) (.int .u64 (mulm b b : Int)) (.int .u64 (k2 : Int)) w2) := by
          refine ⟨o, mulm b b, k2, rfl, rfl, rfl, HH.out.1, mulm_lt _ _, by have := HH.out.2.2.1; have := HK2.out; omega, ?_, HH.out.2.2.2.2.1.trans H2.out (fun _ _ h => h)⟩
          have := HH.out.2.2.2.2.2
          rw [if_neg h1, HK2.out] at this
          rw [← HH.out.2.2.2.1]
          exact this
        go_wp2
        go_roundw
        case rel => exact HS.out
        case measure => have := HK2.out; simp [intOf]; omega
    · obtain rfl : k = 0 := by omega
      go_wp2_with fail
      go_ret
      refine ⟨?_, HH.out.2.2.2.2.1⟩
      have := HH.out.2.2.2.1
      rw [Nat.pow_zero, Nat.mul_one, Nat.mod_eq_of_lt HH.out.1] at this
      rw [this]
      rfl
end Go.Proofs.Ytpojkhjenbbodaa

namespace Go.Proofs.Ytpojkhjenbbodaa

/-- A power, by squares: the kernel reckons it. -/
def fpow : Nat → Nat → Nat → Nat → Nat
  | 0, o, _, _ => o
  | f + 1, o, b, k => if k = 0 then o else fpow f (if k % 2 = 1 then o * b % 2305843009213693951 else o) (b * b % 2305843009213693951) (k / 2)
theorem fpow_eq : ∀ (f o b k : Nat), k < 2 ^ f → o < 2305843009213693951 → fpow f o b k = o * b ^ k % 2305843009213693951
  | 0, o, b, k, h, ho => by
    obtain rfl : k = 0 := by simpa using h
    simp [fpow, Nat.mod_eq_of_lt ho]
  | f + 1, o, b, k, h, ho => by
    unfold fpow
    by_cases h0 : k = 0
    · subst h0; simp [Nat.mod_eq_of_lt ho]
    · rw [if_neg h0, fpow_eq f _ _ _ (by rw [Nat.pow_succ] at h; omega) ?_, pow_step]
      split
      · exact Nat.mod_lt _ (by decide)
      · exact ho
theorem powm_fast (b k : Nat) (h : k < 2 ^ 64) : powm b k = fpow 64 1 b k := by rw [fpow_eq 64 1 b k h (by decide), Nat.one_mul]; rfl

theorem powm_add (a m n : Nat) : powm a (m + n) = mulm (powm a m) (powm a n) := by unfold powm mulm; rw [Nat.pow_add, Nat.mul_mod]
theorem powm_mul (a m n : Nat) : powm a (m * n) = powm (powm a m) n := by unfold powm; rw [Nat.pow_mul, ← Nat.pow_mod]
theorem powm_num (a n : Nat) : powm (num a) n = powm a n := by unfold powm num; rw [← Nat.pow_mod]
theorem powm_one (n : Nat) : powm 1 n = 1 := by unfold powm; rw [Nat.one_pow]
theorem powm_pow_one {a n : Nat} (h : powm a n = 1) (t : Nat) : powm a (n * t) = 1 := by rw [powm_mul, h, powm_one]
theorem mulm_one {a : Nat} (h : a < 2305843009213693951) : mulm a 1 = a := by unfold mulm; rw [Nat.mul_one, Nat.mod_eq_of_lt h]
theorem one_mulm {a : Nat} (h : a < 2305843009213693951) : mulm 1 a = a := by unfold mulm; rw [Nat.one_mul, Nat.mod_eq_of_lt h]
theorem mulm_comm (a b : Nat) : mulm a b = mulm b a := by unfold mulm; rw [Nat.mul_comm]
theorem mulm_assoc (a b c : Nat) : mulm (mulm a b) c = mulm a (mulm b c) := by
  unfold mulm
  rw [Nat.mod_mul_mod, Nat.mul_mod_mod, Nat.mul_assoc]

theorem g_all : powm 37 2305843009213693950 = 1 := by rw [powm_fast _ _ (by decide)]; decide +kernel

/-- If two powers are 1, so is that of their greatest divisor. -/
theorem pow_gcd (a : Nat) : ∀ m n, powm a m = 1 → powm a n = 1 → powm a (Nat.gcd m n) = 1 := by
  intro m
  induction m using Nat.strongRecOn with
  | ind m ih =>
    intro n hm hn
    by_cases h0 : m = 0
    · subst h0; rwa [Nat.gcd_zero_left]
    · rw [Nat.gcd_rec]
      refine ih (n % m) (Nat.mod_lt _ (by omega)) m ?_ hm
      have h := powm_add a (m * (n / m)) (n % m)
      rw [Nat.div_add_mod, hn, powm_pow_one hm, one_mulm (powm_lt _ _)] at h
      exact h.symm

theorem dvd_prime (q m : Nat) (hq : ∀ d, d ∣ q → d = 1 ∨ d = q) (h : ¬ Nat.Coprime m q) : q ∣ m := by
  rcases hq _ (Nat.gcd_dvd_right m q) with e | e
  · exact (h e).elim
  · rw [← e]; exact Nat.gcd_dvd_left m q
theorem prime_of (q : Nat) (h0 : 0 < q) (h : (List.range (q + 1)).all (fun d => d == 0 || q % d != 0 || d == 1 || d == q) = true) : ∀ d, d ∣ q → d = 1 ∨ d = q := by
  intro d hd
  have hle := Nat.le_of_dvd h0 hd
  have := List.all_eq_true.1 h d (List.mem_range.2 (by omega))
  have hd0 : d ≠ 0 := fun e => by subst e; rw [Nat.zero_dvd] at hd; omega
  have hm : q % d = 0 := Nat.mod_eq_zero_of_dvd hd
  simp [hd0, hm] at this
  exact this

/-- The primes of 2^61 - 2. -/
theorem some_prime (m : Nat) (hm : m ∣ 2305843009213693950) (h1 : m ≠ 1) : ∃ q ∈ [2, 3, 5, 7, 11, 13, 31, 41, 61, 151, 331, 1321], q ∣ m := by
  by_cases h : ∃ q ∈ [2, 3, 5, 7, 11, 13, 31, 41, 61, 151, 331, 1321], q ∣ m
  · exact h
  · refine (h1 ?_).elim
    have hp : ∀ q ∈ [2, 3, 5, 7, 11, 13, 31, 41, 61, 151, 331, 1321], (∀ d, d ∣ q → d = 1 ∨ d = q) := by
      intro q hq
      simp only [List.mem_cons, List.not_mem_nil, or_false] at hq
      rcases hq with rfl | rfl | rfl | rfl | rfl | rfl | rfl | rfl | rfl | rfl | rfl | rfl <;> exact prime_of _ (by decide) (by decide +kernel)
    have hc : ∀ q ∈ [2, 3, 5, 7, 11, 13, 31, 41, 61, 151, 331, 1321], Nat.Coprime m q := by
      intro q hq
      by_cases hco : Nat.Coprime m q
      · exact hco
      · exact (h ⟨q, hq, dvd_prime q m (hp q hq) hco⟩).elim
    have e : 2305843009213693950 = 2 * (3 * (3 * (5 * (5 * (7 * (11 * (13 * (31 * (41 * (61 * (151 * (331 * (1321 * 1))))))))))))) := by decide
    rw [e] at hm
    have c2 := hc 2 (by simp)
    have c3 := hc 3 (by simp)
    have c5 := hc 5 (by simp)
    have c7 := hc 7 (by simp)
    have c11 := hc 11 (by simp)
    have c13 := hc 13 (by simp)
    have c31 := hc 31 (by simp)
    have c41 := hc 41 (by simp)
    have c61 := hc 61 (by simp)
    have c151 := hc 151 (by simp)
    have c331 := hc 331 (by simp)
    have c1321 := hc 1321 (by simp)
    have := c1321.dvd_of_dvd_mul_left (c331.dvd_of_dvd_mul_left (c151.dvd_of_dvd_mul_left (c61.dvd_of_dvd_mul_left (c41.dvd_of_dvd_mul_left (c31.dvd_of_dvd_mul_left (c13.dvd_of_dvd_mul_left (c11.dvd_of_dvd_mul_left (c7.dvd_of_dvd_mul_left (c5.dvd_of_dvd_mul_left (c5.dvd_of_dvd_mul_left (c3.dvd_of_dvd_mul_left (c3.dvd_of_dvd_mul_left (c2.dvd_of_dvd_mul_left hm)))))))))))))
    exact Nat.dvd_one.1 this

/-- No power of 37 below 2^61 - 2 is 1. -/
theorem g_order (d : Nat) (h0 : 0 < d) (h1 : d < 2305843009213693950) : powm 37 d ≠ 1 := by
  intro h
  have hg := pow_gcd 37 d 2305843009213693950 h g_all
  have hdv := Nat.gcd_dvd_right d 2305843009213693950
  have hle := Nat.le_of_dvd h0 (Nat.gcd_dvd_left d 2305843009213693950)
  generalize Nat.gcd d 2305843009213693950 = e at hg hdv hle
  obtain ⟨m, hm⟩ := hdv
  obtain ⟨q, hq, t, rfl⟩ := some_prime m ⟨e, by rw [hm, Nat.mul_comm]⟩ (fun h1 => by subst h1; omega)
  have key : ∀ q r, 2305843009213693950 = q * r → 0 < q → e * (q * t) = 2305843009213693950 → powm 37 r = 1 := by
    intro q r hqr hq0 he
    have : r = e * t := by
      refine Nat.eq_of_mul_eq_mul_left hq0 ?_
      rw [← hqr, ← he, Nat.mul_left_comm]
    rw [this]
    exact powm_pow_one hg t
  simp only [List.mem_cons, List.not_mem_nil, or_false] at hq
  rcases hq with rfl | rfl | rfl | rfl | rfl | rfl | rfl | rfl | rfl | rfl | rfl | rfl
  · exact absurd (key 2 1152921504606846975 (by decide) (by decide) hm.symm) (by rw [powm_fast _ _ (by decide)]; decide +kernel)
  · exact absurd (key 3 768614336404564650 (by decide) (by decide) hm.symm) (by rw [powm_fast _ _ (by decide)]; decide +kernel)
  · exact absurd (key 5 461168601842738790 (by decide) (by decide) hm.symm) (by rw [powm_fast _ _ (by decide)]; decide +kernel)
  · exact absurd (key 7 329406144173384850 (by decide) (by decide) hm.symm) (by rw [powm_fast _ _ (by decide)]; decide +kernel)
  · exact absurd (key 11 209622091746699450 (by decide) (by decide) hm.symm) (by rw [powm_fast _ _ (by decide)]; decide +kernel)
  · exact absurd (key 13 177372539170284150 (by decide) (by decide) hm.symm) (by rw [powm_fast _ _ (by decide)]; decide +kernel)
  · exact absurd (key 31 74382032555280450 (by decide) (by decide) hm.symm) (by rw [powm_fast _ _ (by decide)]; decide +kernel)
  · exact absurd (key 41 56240073395455950 (by decide) (by decide) hm.symm) (by rw [powm_fast _ _ (by decide)]; decide +kernel)
  · exact absurd (key 61 37800705069076950 (by decide) (by decide) hm.symm) (by rw [powm_fast _ _ (by decide)]; decide +kernel)
  · exact absurd (key 151 15270483504726450 (by decide) (by decide) hm.symm) (by rw [powm_fast _ _ (by decide)]; decide +kernel)
  · exact absurd (key 331 6966293079195450 (by decide) (by decide) hm.symm) (by rw [powm_fast _ _ (by decide)]; decide +kernel)
  · exact absurd (key 1321 1745528394559950 (by decide) (by decide) hm.symm) (by rw [powm_fast _ _ (by decide)]; decide +kernel)

/-- What is one to one, of so many into so many, tells each. -/
theorem pigeon : ∀ (n : Nat) (f : Nat → Nat), (∀ i, i < n → f i < n) → (∀ i j, i < n → j < n → f i = f j → i = j) → ∀ y, y < n → ∃ i, i < n ∧ f i = y
  | 0, _, _, _, y, hy => absurd hy (Nat.not_lt_zero y)
  | n + 1, f, hf, hi, y, hy => by
    have h1 : ∀ i, i < n → (if f i = n then f n else f i) < n := by
      intro i h
      have a := hf i (by omega)
      have b := hf n (by omega)
      split
      · rename_i e
        have : f n ≠ n := fun e' => by have := hi i n (by omega) (by omega) (e.trans e'.symm); omega
        omega
      · omega
    have h2 : ∀ i j, i < n → j < n → (if f i = n then f n else f i) = (if f j = n then f n else f j) → i = j := by
      intro i j h h' e
      split at e <;> split at e
      · rename_i a b; exact hi i j (by omega) (by omega) (a.trans b.symm)
      · have := hi n j (by omega) (by omega) e; omega
      · have := hi i n (by omega) (by omega) e; omega
      · exact hi i j (by omega) (by omega) e
    have ih := pigeon n _ h1 h2
    by_cases hm : y = f n
    · exact ⟨n, by omega, hm.symm⟩
    · by_cases hyn : y = n
      · have hb := hf n (by omega)
        obtain ⟨i, h, e⟩ := ih (f n) (by omega)
        split at e
        · rename_i a; exact ⟨i, by omega, a.trans hyn.symm⟩
        · have := hi i n (by omega) (by omega) e; omega
      · obtain ⟨i, h, e⟩ := ih y (by omega)
        split at e
        · exact (hm e.symm).elim
        · exact ⟨i, by omega, e⟩

theorem g_inv (i : Nat) (h : i ≤ 2305843009213693950) : mulm (powm 37 i) (powm 37 (2305843009213693950 - i)) = 1 := by
  rw [← powm_add, show i + (2305843009213693950 - i) = 2305843009213693950 by omega, g_all]
theorem zero_mulm (a : Nat) : mulm 0 a = 0 := by unfold mulm; rw [Nat.zero_mul]
theorem g_pos (i : Nat) (h : i ≤ 2305843009213693950) : powm 37 i ≠ 0 := fun e => by
  have := g_inv i h
  rw [e, zero_mulm] at this
  cases this
theorem g_inj (i j : Nat) (hi : i < 2305843009213693950) (hj : j < 2305843009213693950) (h : powm 37 i = powm 37 j) : i = j := by
  have key : ∀ i j, i < j → j < 2305843009213693950 → powm 37 i = powm 37 j → False := by
    intro i j hij hj h
    refine g_order (j - i) (by omega) (by omega) ?_
    have a := g_inv i (by omega)
    have b := powm_add 37 i (j - i)
    rw [show i + (j - i) = j by omega, ← h] at b
    have c : mulm (mulm (powm 37 (2305843009213693950 - i)) (powm 37 i)) (powm 37 (j - i)) = 1 := by
      rw [mulm_assoc, ← b, mulm_comm, a]
    rw [mulm_comm (powm 37 (2305843009213693950 - i)), a, one_mulm (powm_lt _ _)] at c
    exact c
  rcases Nat.lt_trichotomy i j with h' | h' | h'
  · exact (key i j h' hj h).elim
  · exact h'
  · exact (key j i h' hi h.symm).elim

/-- Each number that is not 0 is a power of 37. -/
theorem g_power (x : Nat) (h0 : x ≠ 0) (h : x < 2305843009213693951) : ∃ i, powm 37 i = x := by
  obtain ⟨i, hi, e⟩ := pigeon 2305843009213693950 (fun i => powm 37 i - 1) (fun i hi => by have := powm_lt 37 i; have := g_pos i (by omega); omega)
    (fun i j hi hj e => g_inj i j hi hj (by have := g_pos i (by omega); have := g_pos j (by omega); omega)) (x - 1) (by omega)
  have := g_pos i (by omega)
  exact ⟨i, by omega⟩

/-- Fermat. -/
theorem fermat (x : Nat) (h : num x ≠ 0) : powm x 2305843009213693950 = 1 := by
  obtain ⟨i, hi⟩ := g_power (num x) h (num_lt x)
  rw [← powm_num, ← hi, ← powm_mul, Nat.mul_comm, powm_pow_one g_all]

theorem mulm_num (a b : Nat) : mulm (num a) (num b) = mulm a b := by unfold mulm num; rw [← Nat.mul_mod]
theorem num_powm (a n : Nat) : num (powm a n) = powm a n := by unfold num; exact Nat.mod_eq_of_lt (powm_lt a n)
theorem num_of_lt {a : Nat} (h : a < 2305843009213693951) : num a = a := Nat.mod_eq_of_lt h

theorem powm_zero (k : Nat) : powm 0 (k + 1) = 0 := by unfold powm; rw [Nat.pow_succ, Nat.mul_zero]
/-- The 17th root: 17 times this is 1, modulo 2^61 - 2. -/
theorem root17 (x : Nat) : powm (powm x 17) 1763291712928118903 = num x := by
  rw [← powm_mul, show 17 * 1763291712928118903 = 2305843009213693950 * 13 + 1 by decide]
  by_cases h : num x = 0
  · rw [← powm_num, h]
    exact powm_zero _
  · rw [powm_add, powm_pow_one (fermat x h), one_mulm (powm_lt _ _)]
    unfold powm num
    rw [Nat.pow_one]
theorem pow17_inj (x y : Nat) (h : powm x 17 = powm y 17) : num x = num y := by rw [← root17 x, ← root17 y, h]
/-- 37 times a number tells the number. -/
theorem mul37_inj (x y : Nat) (h : mulm 37 x = mulm 37 y) : num x = num y := by
  have key : ∀ x, mulm 2181202846553494278 (mulm 37 x) = num x := by
    intro x
    unfold mulm num
    rw [Nat.mul_mod_mod, ← Nat.mul_assoc, Nat.mul_mod, show 2181202846553494278 * 37 % 2305843009213693951 = 1 by decide, Nat.one_mul, Nat.mod_mod]
  rw [← key x, ← key y, h]
theorem mulm_zero_or (a b : Nat) (h : mulm a b = 0) : num a = 0 ∨ num b = 0 := by
  by_cases ha : num a = 0
  · exact Or.inl ha
  · refine Or.inr ?_
    have := fermat a ha
    rw [show 2305843009213693950 = 2305843009213693949 + 1 by decide, powm_add] at this
    have h1 : powm a 1 = num a := by unfold powm num; rw [Nat.pow_one]
    rw [h1] at this
    have h2 : mulm (mulm (powm a 2305843009213693949) (num a)) (num b) = num b := by rw [this, one_mulm (num_lt b)]
    rw [mulm_assoc, mulm_num, h] at h2
    rw [← h2, mulm_comm, zero_mulm]
end Go.Proofs.Ytpojkhjenbbodaa

namespace Go.Proofs.Ytpojkhjenbbodaa
open Go.RowKit Go.Shelf
attribute [local go_sem] Oper.semAt_some

def sqs (b n : Nat) : List (Array Value) := if h : n = 0 then [] else #[.int .u64 (b : Int), .bool (n % 2 == 1)] :: sqs (mulm b b) (n / 2)
termination_by n
decreasing_by omega
theorem sqs_zero (b : Nat) : sqs b 0 = [] := by unfold sqs; simp
theorem sqs_pos (b n : Nat) (h : 0 < n) : sqs b n = #[.int .u64 (b : Int), .bool (n % 2 == 1)] :: sqs (mulm b b) (n / 2) := by rw [sqs, dif_neg (by omega)]
theorem and_1 (a : Nat) (h : U64 a) : bits .and .u64 (a : Int) 1 = ((a % 2 : Nat) : Int) := by
  have := bits_mask .u64 64 (by decide) wraps_u64 1 (by decide) (a : Int) (by omega) (by unfold U64 at h; omega)
  simpa using this

theorem squares_any (a n : Nat) (w : World) : Calls Try.prog 90 #[.int .u64 a, .int .u64 n] w fun e w' => e = .returned (.func (.func 92) #[] #[.pointer (some ⟨w.heap.size, 0, none⟩), .pointer (some ⟨w.heap.size + 1, 0, none⟩)]) ∧
    w' = (w.alloc (.cells #[.int .u64 a] 39)).alloc (.cells #[.int .u64 n] 39) := by
  go_enter Try.func90, Try.ntmps90
  go_wp2
  go_ret
  exact ⟨by simp, rfl⟩

/-- What holds at the head of each round. -/
def SqRel (W0 : World) (b2 a n : Nat) (J : Nat → World → Prop) (by_ : Value) (wr : World) : Prop :=
  ∃ (b k : Nat) (pre : List (Array Value)), by_ = .int .u64 (b : Int) ∧ b < 2305843009213693951 ∧ k ≤ n ∧ sqs (num a) n = pre ++ sqs b k ∧ (J pre.length wr ∧ W0.heap.size + 0 ≤ wr.heap.size) ∧ wr.heap[b2]? = some (.cells #[.int .u64 (k : Int)] 39 (0, 0))
def sqLeft (b2 : Nat) (wr : World) : Nat := match wr.cell? ⟨b2, 0, none⟩ with | some v => (intOf v).toNat | none => 0

set_option maxHeartbeats 1000000 in
set_option maxRecDepth 10000 in
theorem squares_seq (b1 b2 a n : Nat) (w0 : World) (ha : U64 a) (hn : U64 n) (h1 : w0.heap[b1]? = some (.cells #[.int .u64 a] 39 (0, 0))) (h2 : w0.heap[b2]? = some (.cells #[.int .u64 n] 39 (0, 0))) :
    Seq Try.prog 92 #[.pointer (some ⟨b1, 0, none⟩), .pointer (some ⟨b2, 0, none⟩)] (sqs (num a) n) 0 (fun k => k = b2) (fun k => k = b1 ∨ k = b2) w0 := by
  intro l J B W hW hB hJ hY h0
  have q1 := (hW.block b1 (lt_of_heap h1) (fun h => h (Or.inl rfl))).trans h1
  have q2 := (hW.block b2 (lt_of_heap h2) (fun h => h (Or.inr rfl))).trans h2
  have HJ := Lib.hid (And.intro hB (And.intro hJ (And.intro hY (And.intro h0 q2))))
  have c1 := cellAt q1 0
  have HN := Lib.hid (And.intro ha hn)
  clear h1 h2 hW hB hJ hY h0 ha hn q1 q2
  simp at c1
  refine callsIn_of_wp Try.func92 rfl trivial ?_ rfl
  simp only [Try.ntmps92, List.size_toArray, List.length_cons, List.length_nil, Nat.reduceAdd, Nat.reduceSub, Array.replicate_succ, Array.replicate_zero, List.push_toArray, List.append_toArray, List.nil_append, List.cons_append]
  gi_wp2_with fail
  refine ⟨trivial, rfl, (callsIn_wide.2 (num_any a W HN.out.1)).mono ?_⟩
  rintro e _ ⟨rfl, rfl⟩
  clear c1
  gi_wp2_with fail
  gi_loopw [4] (fun b wr => SqRel W b2 a n J b wr) (fun _ wr => sqLeft b2 wr)
  case atStart => exact ⟨num a, n, [], rfl, num_lt a, Nat.le_refl _, rfl, ⟨HJ.out.2.2.2.1, Nat.le_refl _⟩, HJ.out.2.2.2.2⟩
  case round =>
    obtain ⟨b, k, pre, rfl, hb, hk, hx, hj, hq⟩ := hrel
    have c2 := cellAt hq 0
    have f2 := freeAt hq 0
    simp at c2
    have HH := Lib.hid (And.intro hb (And.intro hk (And.intro hx (And.intro hj hq))))
    clear hb hk hx hj hq
    have hku : U64 k := by have := HH.out.2.1; have := HN.out.2; unfold U64 at *; omega
    have e1 := and_1 k hku
    have HKU := Lib.hid hku
    clear hku
    by_cases h0 : 0 < k
    · have t1 : (0 : Int) < (k : Int) := by omega
      have hget : (sqs (num a) n)[pre.length]? = some #[.int .u64 (b : Int), .bool (k % 2 == 1)] := by rw [HH.out.2.2.1, sqs_pos b k h0]; simp
      obtain ⟨fn, tmps, assign, body, hy, hR⟩ := HJ.out.2.2.1 pre.length _ wr hget HH.out.2.2.2.1.1 HH.out.2.2.2.1.2
      obtain ⟨k2, hk2⟩ : ∃ k2, k / 2 = k2 := ⟨_, rfl⟩
      have hh' : (k : Int) / 2 = (k2 : Int) := by omega
      obtain ⟨kb, hkb⟩ : ∃ kb, k % 2 = kb := ⟨_, rfl⟩
      rw [hkb] at e1 hy hget
      have e2 : ((kb : Int) == 1) = (kb == 1) := by
        rw [Bool.eq_iff_iff]; simp; omega
      have HK := Lib.hid (And.intro hk2 hkb)
      clear hk2 hkb hget
      generalize (kb == 1) = bit at *
      gi_wp2_with fail
      refine ⟨rfl, hR.mono ?_⟩
      rintro e W2 ⟨rfl, hJ2, hkB⟩
      have hq2 := (hkB.block b2 (lt_of_heap HH.out.2.2.2.2) (fun h => (HJ.out.1 b2 h).1 (Or.inr rfl))).trans HH.out.2.2.2.2
      have c3 := cellAt hq2 0
      have f3 := freeAt hq2 0
      simp at c3
      have H2 := Lib.hid (And.intro (And.intro hJ2 (Nat.le_trans HH.out.2.2.2.1.2 hkB.size)) hq2)
      clear hJ2 hkB hq2 hR hy c2 f2
      have hbu : U64 b := by have := HH.out.1; unfold U64; omega
      have HBU := Lib.hid hbu
      clear hbu
      gi_wp2_with fail
      refine ⟨trivial, rfl, (callsIn_wide.2 (mul_any b b W2 HBU.out HBU.out)).mono ?_⟩
      rintro e _ ⟨rfl, rfl⟩
      have HS : Hid (SqRel W b2 a n J (.int .u64 (mulm b b : Int)) (W2.setCell ⟨b2, 0, none⟩ (.int .u64 (k2 : Int)))) := by
        refine ⟨mulm b b, k2, pre ++ [#[.int .u64 (b : Int), .bool (k % 2 == 1)]], rfl, mulm_lt _ _, by have := HH.out.2.1; have := HK.out; omega, ?_, ?_, ?_⟩
        · rw [HH.out.2.2.1, sqs_pos b k h0, HK.out.1]; simp
        · rw [List.length_append]
          exact ⟨HJ.out.2.1 _ _ _ H2.out.1.1 (((Keeps.refl (fun k => k = b2) W2).setCell (p := ⟨b2, 0, none⟩) (fun _ => rfl) _).mono (fun _ _ h => Or.inl h)), by have := H2.out.1.2; simp [World.setCell] at *; omega⟩
        · rw [heap_setCell_at H2.out.2]; rfl
      have HLT : Hid (sqLeft b2 (W2.setCell ⟨b2, 0, none⟩ (.int .u64 (k2 : Int))) < sqLeft b2 wr) := by
        have g1 := cellAt (heap_setCell_at H2.out.2 0 (.int .u64 (k2 : Int))) 0
        have g2 := cellAt HH.out.2.2.2.2 0
        have := HK.out.1
        show sqLeft _ _ < sqLeft _ _
        unfold sqLeft
        rw [g1, g2]
        simp [intOf]
        omega
      gi_wp2
      go_roundw
      case rel => exact HS.out
      case measure => exact HLT.out
    · obtain rfl : k = 0 := by omega
      gi_wp2_with fail
      refine ⟨fun _ h => (by cases h), ?_⟩
      gi_wp2
      go_end0
      refine ⟨⟨_, rfl⟩, ?_⟩
      rw [HH.out.2.2.1, sqs_zero, List.append_nil]
      exact HH.out.2.2.2.1.1
end Go.Proofs.Ytpojkhjenbbodaa

namespace Go.Proofs.Ytpojkhjenbbodaa
open Go.RowKit Go.Shelf
attribute [local go_sem] Oper.semAt_some

def isT : Value → Bool
  | .bool b => b
  | _ => false
def pstep (o : Nat) (x : Array Value) : Nat := if isT (x.getD 1 undef) = true then mulm o (intOf (x.getD 0 undef)).toNat else o
theorem sqs_mem (k : Nat) : ∀ b, b < 2305843009213693951 → ∀ x ∈ sqs b k, ∃ (c : Nat) (t : Bool), x = #[.int .u64 (c : Int), .bool t] ∧ c < 2305843009213693951 := by
  induction k using Nat.strongRecOn with
  | ind k ih =>
    intro b hb x hx
    by_cases h : 0 < k
    · rw [sqs_pos b k h] at hx
      rcases List.mem_cons.1 hx with rfl | hx
      · exact ⟨b, _, rfl, hb⟩
      · exact ih (k / 2) (by omega) _ (mulm_lt _ _) x hx
    · obtain rfl : k = 0 := by omega
      rw [sqs_zero] at hx
      cases hx
theorem pstep_lt (o : Nat) (x : Array Value) (h : o < 2305843009213693951) : pstep o x < 2305843009213693951 := by
  unfold pstep; split
  · exact mulm_lt _ _
  · exact h
theorem sqs_fold (k : Nat) : ∀ b o, b < 2305843009213693951 → o < 2305843009213693951 → (sqs b k).foldl pstep o = o * b ^ k % 2305843009213693951 := by
  induction k using Nat.strongRecOn with
  | ind k ih =>
    intro b o hb ho
    by_cases h : 0 < k
    · rw [sqs_pos b k h, List.foldl_cons, ih (k / 2) (by omega) _ _ (mulm_lt _ _) (pstep_lt _ _ ho), ← pow_step o b k]
      congr 2
      unfold pstep
      by_cases h1 : k % 2 = 1
      · simp [h1, intOf, mulm, isT]
      · simp [h1, isT]
    · obtain rfl : k = 0 := by omega
      rw [sqs_zero, List.foldl_nil, Nat.pow_zero, Nat.mul_one, Nat.mod_eq_of_lt ho]
theorem pow_fold (a n : Nat) : (sqs (num a) n).foldl pstep 1 = powm a n := by
  rw [sqs_fold n _ _ (num_lt a) (by decide), Nat.one_mul]; unfold num powm; rw [← Nat.pow_mod]

set_option maxHeartbeats 1000000 in
set_option maxRecDepth 10000 in
theorem pow_any (a n : Nat) (w : World) (ha : U64 a) (hn : U64 n) :
    Calls Try.prog 86 #[.int .u64 a, .int .u64 n] w fun e w' => e = .returned (.int .u64 (powm a n : Int)) ∧ Keeps (fun _ => False) w w' := by
  have HN := Lib.hid (And.intro ha hn)
  clear ha hn
  refine (callsIn_wide (n := 0)).1 ?_
  refine callsIn_of_wp_marks Try.func86 rfl trivial ?_ rfl
  simp only [Try.ntmps86, List.size_toArray, List.length_cons, List.length_nil, Nat.reduceAdd, Nat.reduceSub, Array.replicate_succ, Array.replicate_zero, List.push_toArray, List.append_toArray, List.nil_append, List.cons_append]
  gi_wp2_with fail
  refine ⟨trivial, rfl, (callsIn_wide.2 (squares_any a n _)).mono ?_⟩
  rintro e w1 ⟨rfl, rfl⟩
  gi_wp2_with fail
  obtain ⟨bo, hbo⟩ : ∃ bo, w.heap.size = bo := ⟨_, rfl⟩
  obtain ⟨W0, hW0⟩ : ∃ W0, ((w.alloc (.cells #[.int .u64 1] 39)).alloc (.cells #[.int .u64 a] 39)).alloc (.cells #[.int .u64 n] 39) = W0 := ⟨_, rfl⟩
  have hk0 : Keeps (fun _ => False) w W0 := by rw [← hW0]; exact (((Keeps.refl _ w).alloc _).alloc _).alloc _
  have hsz : W0.heap.size = bo + 3 := by rw [← hW0, ← hbo]; simp
  have q0 : W0.heap[bo]? = some (.cells #[.int .u64 (1 : Nat)] 39 (0, 0)) := by
    rw [← hW0, ← hbo]
    exact (Below.heap_alloc _ _ _ (by simp; omega)).trans ((Below.heap_alloc _ _ _ (by simp)).trans (World.alloc_heap_new w _))
  have q1 : W0.heap[bo + 1]? = some (.cells #[.int .u64 a] 39 (0, 0)) := by
    rw [← hW0, ← hbo]
    refine (Below.heap_alloc _ _ _ (by simp)).trans ?_
    have := World.alloc_heap_new (w.alloc (.cells #[.int .u64 1] 39)) (.cells #[.int .u64 a] 39)
    rwa [World.size_alloc] at this
  have q2 : W0.heap[bo + 1 + 1]? = some (.cells #[.int .u64 n] 39 (0, 0)) := by
    rw [← hW0, ← hbo]
    have := World.alloc_heap_new ((w.alloc (.cells #[.int .u64 1] 39)).alloc (.cells #[.int .u64 a] 39)) (.cells #[.int .u64 n] 39)
    rwa [World.size_alloc, World.size_alloc] at this
  rw [hW0, hbo]
  have hW := Lib.hid hbo
  clear hW0 hbo
  refine wpIn_seq (gf := 92) (lb := #[.pointer (some ⟨bo + 1, 0, none⟩), .pointer (some ⟨bo + 1 + 1, 0, none⟩)]) (xs := sqs (num a) n) (T := fun k => k = bo + 1 + 1) (Rd := fun k => k = bo + 1 ∨ k = bo + 1 + 1) rfl (enters_of Try.func92 (by kernel_rfl) rfl)
    (squares_seq (bo + 1) (bo + 1 + 1) a n W0 HN.out.1 HN.out.2 q1 q2) (by rintro k (h | h) <;> omega) (fun k h => Or.inr h) ?hps
    (fun i W => W.heap[bo]? = some (.cells #[.int .u64 (((sqs (num a) n).take i).foldl pstep 1 : Nat)] 39 (0, 0)) ∧ Keeps (fun _ => False) w W)
    (fun k => k = bo) (by rintro k rfl; exact ⟨by omega, by omega⟩) ?hI ⟨q0, hk0⟩
    (fun x => { tmps := #[.int .u64 a, .int .u64 n, undef, undef, .int .u64 0, .pointer (some ⟨bo, 0, none⟩), x.getD 0 undef, x.getD 1 undef, .int .u64 a, .int .u64 n, .func (.func 92) #[] #[.pointer (some ⟨bo + 1, 0, none⟩), .pointer (some ⟨bo + 1 + 1, 0, none⟩)], x.getD 0 undef, x.getD 1 undef, undef, undef, undef, undef, undef], defers := [] }) ?assign ?body ?done
  case hps =>
    intro x hx
    obtain ⟨c, t, rfl, _⟩ := sqs_mem n _ (num_lt a) x hx
    rfl
  case hI =>
    rintro i A A' ⟨h1, h2⟩ hk
    have := hW.out
    exact ⟨(hk.block bo (lt_of_heap h1) (by omega)).trans h1, h2.trans hk (fun j hj h => by omega)⟩
  case assign =>
    intro l x W K hx hK
    obtain ⟨c, t, rfl, _⟩ := sqs_mem n _ (num_lt a) x hx
    gi_wp2
    exact hK
  case body =>
    rintro l i x W hx ⟨h1, h2⟩ -
    obtain ⟨c, t, rfl, hc⟩ := sqs_mem n _ (num_lt a) x (List.mem_of_getElem? hx)
    have hlt : ((sqs (num a) n).take i).foldl pstep 1 < 2305843009213693951 := by
      have : ∀ (m : List (Array Value)) (o : Nat), o < 2305843009213693951 → m.foldl pstep o < 2305843009213693951 := by
        intro m
        induction m with
        | nil => intro o h; exact h
        | cons x m ih => intro o h; exact ih _ (pstep_lt _ _ h)
      exact this _ _ (by decide)
    have hnext : ((sqs (num a) n).take (i + 1)).foldl pstep 1 = pstep (((sqs (num a) n).take i).foldl pstep 1) #[.int .u64 (c : Int), .bool t] := by
      rw [List.take_add_one, hx]; simp
    have hbw := hW.out
    have HX : Hid (∀ (ac : Act) (W' : World), W'.heap[bo]? = some (.cells #[.int .u64 (pstep (((sqs (num a) n).take i).foldl pstep 1) #[.int .u64 (c : Int), .bool t] : Nat)] 39 (0, 0)) → Keeps (fun k => k = bo) W W' → goesOn (fun k => k = bo) (fun i W => W.heap[bo]? = some (.cells #[.int .u64 (((sqs (num a) n).take i).foldl pstep 1 : Nat)] 39 (0, 0)) ∧ Keeps (fun _ => False) w W) i W .normal ac W') := by
      intro ac W' h3 h4
      refine ⟨h4, ?_, h2.trans h4 (fun j hj h => by omega)⟩
      rw [hnext]; exact h3
    generalize ((sqs (num a) n).take i).foldl pstep 1 = o at *
    have c1 := cellAt h1 0
    have f1 := freeAt h1 0
    simp at c1
    have HU : Hid (U64 o ∧ U64 c) := ⟨by unfold U64; omega, by unfold U64; omega⟩
    have H1 := Lib.hid h1
    clear h1 h2 hlt hnext hx hc hbw
    cases t with
    | true =>
      gi_wp2_with fail
      refine ⟨trivial, rfl, CallsIn.inRound l ((callsIn_wide.2 (mul_any o c W HU.out.1 HU.out.2)).mono ?_)⟩
      rintro e _ ⟨rfl, rfl⟩
      gi_wp2
      refine HX.out _ _ ?_ ((Keeps.refl (fun k => k = bo) W).setCell (p := ⟨bo, 0, none⟩) (fun _ => rfl) _)
      rw [heap_setCell_at H1.out]
      simp [pstep, isT, intOf]
    | false =>
      gi_wp2
      refine HX.out _ _ ?_ (Keeps.refl _ _)
      rw [H1.out]
      simp [pstep, isT]
  case done =>
    rintro W ⟨h1, h2⟩ hsW hK
    rw [List.take_length, pow_fold] at h1
    have c1 := cellAt h1 0
    simp at c1
    have hbw := hW.out
    have HF : Hid (Keeps (fun _ => False) w (W.putObj W0.heap.size (.deferred none))) := h2.putObj _ (fun h => by omega)
    have HK := Lib.hid hK
    clear h1 h2
    gi_wp2
    refine ⟨by simp, .inl ⟨_, _, rfl, run_takeDeferred HK.out, ?_⟩⟩
    exact ⟨_, results_tmp rfl _ _ _, rfl, HF.out⟩
end Go.Proofs.Ytpojkhjenbbodaa

namespace Go.Proofs.Ytpojkhjenbbodaa
open Go.RowKit
/-- What a state becomes. -/
def hstep (s k x : Nat) : Nat := powm (addm (mulm 37 s) (num (x + k))) 17

def TkRel (w : World) (sb gs s k x : Nat) (i : Value) (wr : World) : Prop :=
  (i = .int .i64 0 ∧ wr.heap[sb]? = some (.cells #[.int .u64 (s : Int), .int .u64 (k : Int)] 117 (0, 0)) ∧ wr.cell? ⟨gs, 0, none⟩ = some (.int .u64 (x : Int)) ∧ Keeps (fun j => j = sb) w wr) ∨
  (i = .int .i64 1 ∧ wr.heap[sb]? = some (.cells #[.int .u64 (hstep s (k + 1) x : Int), .int .u64 ((k + 1 : Nat) : Int)] 117 (0, 0)) ∧ Keeps (fun j => j = sb) w wr)

set_option maxHeartbeats 1000000 in
set_option maxRecDepth 10000 in
theorem take_one (sb gs s k x : Nat) (cap : Nat) (w : World) (hb : w.heap[sb]? = some (.cells #[.int .u64 (s : Int), .int .u64 (k : Int)] 117 (0, 0))) (hx : w.cell? ⟨gs, 0, none⟩ = some (.int .u64 (x : Int))) (hs : s < 2305843009213693951) (hu : x + k + 1 < 18446744073709551616) :
    Calls Try.prog 80 #[.pointer (some ⟨sb, 0, none⟩), .slice (some ⟨gs, 0, none⟩) 1 cap] w fun e w' => (∃ v, e = .returned v) ∧ w'.heap[sb]? = some (.cells #[.int .u64 (hstep s (k + 1) x : Int), .int .u64 ((k + 1 : Nat) : Int)] 117 (0, 0)) ∧ Keeps (fun j => j = sb) w w' := by
  have H0 := Lib.hid (And.intro hb hx)
  have HU := Lib.hid (And.intro hs hu)
  clear hb hx hs hu
  go_enter Try.func80, Try.ntmps80
  go_wp2_with fail
  go_loopw [8] (fun i wr => TkRel w sb gs s k x i wr) (fun i _ => 1 - (intOf i).toNat)
  case atStart => exact Or.inl ⟨rfl, H0.out.1, H0.out.2, Keeps.refl _ _⟩
  case round =>
    rcases hrel with ⟨rfl, hb, hx, hk⟩ | ⟨rfl, hb, hk⟩
    · obtain ⟨k1, hk1⟩ : ∃ k1, k + 1 = k1 := ⟨_, rfl⟩
      have e1 : IntKind.u64.wrap ((k : Int) + 1) = (k1 : Int) := by have := HU.out; rw [IntKind.wrap_u64]; omega
      obtain ⟨xk, hxk⟩ : ∃ xk, x + k1 = xk := ⟨_, rfl⟩
      have e2 : IntKind.u64.wrap ((x : Int) + (k1 : Int)) = (xk : Int) := by have := HU.out; rw [IntKind.wrap_u64]; omega
      have c0 := cellAt hb 0
      have c1 := cellAt hb 1
      have f1 := freeAt hb 1
      simp at c0 c1
      have HH := Lib.hid (And.intro hb (And.intro hx (And.intro hk (And.intro hk1 hxk))))
      clear hb hk hk1 hxk
      go_wp2_with fail
      obtain ⟨W, hW⟩ : ∃ W, wr.setCell ⟨sb, 1, none⟩ (.int .u64 (k1 : Int)) = W := ⟨_, rfl⟩
      have hWb : W.heap[sb]? = some (.cells #[.int .u64 (s : Int), .int .u64 (k1 : Int)] 117 (0, 0)) := by rw [← hW, heap_setCell_at HH.out.1]; rfl
      have hWk : Keeps (fun j => j = sb) w W := by rw [← hW]; exact HH.out.2.2.1.trans ((Keeps.refl (fun j => j = sb) wr).setCell (p := ⟨sb, 1, none⟩) (fun _ => rfl) _) (fun _ _ h => h)
      rw [hW]
      have HW := Lib.hid (And.intro hWb hWk)
      clear hW hWb hWk c0 c1 f1
      refine z_begin (fun w' => w'.cell? ⟨sb, 0, none⟩ = some (.int .u64 (s : Int)) ∧ w'.cell? ⟨sb, 1, none⟩ = some (.int .u64 (k1 : Int))) 17 (by kernel_rfl) (⟨cellAt HW.out.1 0, cellAt HW.out.1 1⟩) (fun hHeld => ?_)
      refine z_take 0 (v := ?_) rfl (by kernel_rfl) (by kernel_rfl) (by kernel_rfl) (by kernel_rfl) (fun _ _ _ h => h) hHeld (by rfl) (fun w hSw => ?_) ?_
      rotate_left
      · obtain ⟨hSw1, hSw2⟩ := hSw; simp only [List.getElem_toArray, List.getElem_cons_zero]; go_simp; try rfl
      simp only [Act.put, List.getElem_toArray, List.getElem_cons_zero, List.setIfInBounds_toArray, List.set_cons_zero, List.set_cons_succ]
      refine z_take 1 (v := ?_) rfl (by kernel_rfl) (by kernel_rfl) (by kernel_rfl) (by kernel_rfl) (fun _ _ _ h => h) hHeld (by rfl) (fun w hSw => ?_) ?_
      rotate_left
      · obtain ⟨hSw1, hSw2⟩ := hSw; simp only [List.getElem_toArray, List.getElem_cons_zero, List.getElem_cons_succ]; go_simp; try rfl
      simp only [Act.put, List.getElem_toArray, List.getElem_cons_zero, List.getElem_cons_succ, List.setIfInBounds_toArray, List.set_cons_zero, List.set_cons_succ]
      refine z_take 2 (v := ?_) rfl (by kernel_rfl) (by kernel_rfl) (by kernel_rfl) (by kernel_rfl) (fun _ _ _ h => h) hHeld (by rfl) (fun w hSw => ?_) ?_
      rotate_left
      · obtain ⟨hSw1, hSw2⟩ := hSw; simp only [List.getElem_toArray, List.getElem_cons_zero, List.getElem_cons_succ]; go_simp; try rfl
      simp only [Act.put, List.getElem_toArray, List.getElem_cons_zero, List.getElem_cons_succ, List.setIfInBounds_toArray, List.set_cons_zero, List.set_cons_succ]
      refine z_take 3 (v := ?_) rfl (by kernel_rfl) (by kernel_rfl) (by kernel_rfl) (by kernel_rfl) (fun _ _ _ h => h) hHeld (by rfl) (fun w hSw => ?_) ?_
      rotate_left
      · obtain ⟨hSw1, hSw2⟩ := hSw; simp only [List.getElem_toArray, List.getElem_cons_zero, List.getElem_cons_succ]; go_simp; try rfl
      simp only [Act.put, List.getElem_toArray, List.getElem_cons_zero, List.getElem_cons_succ, List.setIfInBounds_toArray, List.set_cons_zero, List.set_cons_succ]
      refine z_take 4 (v := ?_) rfl (by kernel_rfl) (by kernel_rfl) (by kernel_rfl) (by kernel_rfl) (fun _ _ _ h => h) hHeld (by rfl) (fun w hSw => ?_) ?_
      rotate_left
      · obtain ⟨hSw1, hSw2⟩ := hSw; simp only [List.getElem_toArray, List.getElem_cons_zero, List.getElem_cons_succ]; go_simp; try rfl
      simp only [Act.put, List.getElem_toArray, List.getElem_cons_zero, List.getElem_cons_succ, List.setIfInBounds_toArray, List.set_cons_zero, List.set_cons_succ]
      refine z_take 6 (v := ?_) rfl (by kernel_rfl) (by kernel_rfl) (by kernel_rfl) (by kernel_rfl) (fun _ _ _ h => h) hHeld (by rfl) (fun w hSw => ?_) ?_
      rotate_left
      · obtain ⟨hSw1, hSw2⟩ := hSw; simp only [List.getElem_toArray, List.getElem_cons_zero, List.getElem_cons_succ]; go_simp; try rfl
      simp only [Act.put, List.getElem_toArray, List.getElem_cons_zero, List.getElem_cons_succ, List.setIfInBounds_toArray, List.set_cons_zero, List.set_cons_succ]
      refine z_take 7 (v := ?_) rfl (by kernel_rfl) (by kernel_rfl) (by kernel_rfl) (by kernel_rfl) (fun _ _ _ h => h) hHeld (by rfl) (fun w hSw => ?_) ?_
      rotate_left
      · obtain ⟨hSw1, hSw2⟩ := hSw; simp only [List.getElem_toArray, List.getElem_cons_zero, List.getElem_cons_succ]; go_simp; try rfl
      simp only [Act.put, List.getElem_toArray, List.getElem_cons_zero, List.getElem_cons_succ, List.setIfInBounds_toArray, List.set_cons_zero, List.set_cons_succ]
      refine z_take 8 (v := ?_) rfl (by kernel_rfl) (by kernel_rfl) (by kernel_rfl) (by kernel_rfl) (fun _ _ _ h => h) hHeld (by rfl) (fun w hSw => ?_) ?_
      rotate_left
      · obtain ⟨hSw1, hSw2⟩ := hSw; simp only [List.getElem_toArray, List.getElem_cons_zero, List.getElem_cons_succ]; go_simp; try rfl
      simp only [Act.put, List.getElem_toArray, List.getElem_cons_zero, List.getElem_cons_succ, List.setIfInBounds_toArray, List.set_cons_zero, List.set_cons_succ]
      refine z_take 9 (v := ?_) rfl (by kernel_rfl) (by kernel_rfl) (by kernel_rfl) (by kernel_rfl) (fun _ _ _ h => h) hHeld (by rfl) (fun w hSw => ?_) ?_
      rotate_left
      · obtain ⟨hSw1, hSw2⟩ := hSw; simp only [List.getElem_toArray, List.getElem_cons_zero, List.getElem_cons_succ]; go_simp; try rfl
      simp only [Act.put, List.getElem_toArray, List.getElem_cons_zero, List.getElem_cons_succ, List.setIfInBounds_toArray, List.set_cons_zero, List.set_cons_succ]
      refine z_take 10 (v := ?_) rfl (by kernel_rfl) (by kernel_rfl) (by kernel_rfl) (by kernel_rfl) (fun _ _ _ h => h) hHeld (by rfl) (fun w hSw => ?_) ?_
      rotate_left
      · obtain ⟨hSw1, hSw2⟩ := hSw; simp only [List.getElem_toArray, List.getElem_cons_zero, List.getElem_cons_succ]; go_simp; try rfl
      simp only [Act.put, List.getElem_toArray, List.getElem_cons_zero, List.getElem_cons_succ, List.setIfInBounds_toArray, List.set_cons_zero, List.set_cons_succ]
      refine z_take 11 (v := ?_) rfl (by kernel_rfl) (by kernel_rfl) (by kernel_rfl) (by kernel_rfl) (fun _ _ _ h => h) hHeld (by rfl) (fun w hSw => ?_) ?_
      rotate_left
      · obtain ⟨hSw1, hSw2⟩ := hSw; simp only [List.getElem_toArray, List.getElem_cons_zero, List.getElem_cons_succ]; go_simp; try rfl
      simp only [Act.put, List.getElem_toArray, List.getElem_cons_zero, List.getElem_cons_succ, List.setIfInBounds_toArray, List.set_cons_zero, List.set_cons_succ]
      refine z_one 5 rfl (by kernel_rfl) (by rfl) (fun K hK => ?_)
      simp only [List.getElem_toArray, List.getElem_cons_zero, List.getElem_cons_succ]
      go_simp
      refine (mul_any 37 s W.drew (by unfold U64; omega) (by have := HU.out; unfold U64; omega)).mono ?_
      rintro e _ ⟨rfl, rfl⟩
      refine hK _ _ (Or.inr ?_) (fun hHeld => ?_)
      · exact hHeld
      clear hK K
      replace hHeld := hHeld.resolve_left (by decide)
      try simp only [Act.put, List.setIfInBounds_toArray, List.set_cons_zero, List.set_cons_succ]
      refine z_one 12 rfl (by kernel_rfl) (by rfl) (fun K hK => ?_)
      simp only [List.getElem_toArray, List.getElem_cons_zero, List.getElem_cons_succ]
      go_simp
      refine (num_any xk W.drew (by have := HU.out; have := HH.out; unfold U64; omega)).mono ?_
      rintro e _ ⟨rfl, rfl⟩
      refine hK _ _ (Or.inr ?_) (fun hHeld => ?_)
      · exact hHeld
      clear hK K
      replace hHeld := hHeld.resolve_left (by decide)
      try simp only [Act.put, List.setIfInBounds_toArray, List.set_cons_zero, List.set_cons_succ]
      refine z_one 13 rfl (by kernel_rfl) (by rfl) (fun K hK => ?_)
      simp only [List.getElem_toArray, List.getElem_cons_zero, List.getElem_cons_succ]
      go_simp
      refine (add_any (mulm 37 s) (num xk) W.drew (by have := mulm_lt 37 s; unfold U64; omega) (num_u xk)).mono ?_
      rintro e _ ⟨rfl, rfl⟩
      refine hK _ _ (Or.inr ?_) (fun hHeld => ?_)
      · exact hHeld
      clear hK K
      replace hHeld := hHeld.resolve_left (by decide)
      try simp only [Act.put, List.setIfInBounds_toArray, List.set_cons_zero, List.set_cons_succ]
      refine z_one 14 rfl (by kernel_rfl) (by rfl) (fun K hK => ?_)
      simp only [List.getElem_toArray, List.getElem_cons_zero, List.getElem_cons_succ]
      go_simp
      refine (pow_any (addm (mulm 37 s) (num xk)) 17 W.drew (num_u _) (by unfold U64; omega)).mono ?_
      rintro e W2 ⟨rfl, hk2⟩
      have hb2 : W2.heap[sb]? = some (.cells #[.int .u64 (s : Int), .int .u64 (k1 : Int)] 117 (0, 0)) := (hk2.block sb (lt_of_heap HW.out.1) (fun h => h)).trans HW.out.1
      have H2 := Lib.hid (And.intro hb2 hk2)
      clear hb2 hk2
      refine hK _ _ (Or.inr ?_) (fun hHeld => ?_)
      · exact ⟨cellAt H2.out.1 0, cellAt H2.out.1 1⟩
      clear hK K
      replace hHeld := hHeld.resolve_left (by decide)
      try simp only [Act.put, List.setIfInBounds_toArray, List.set_cons_zero, List.set_cons_succ]
      refine z_one 15 rfl (by kernel_rfl) (by rfl) (fun K hK => ?_)
      simp only [List.getElem_toArray, List.getElem_cons_zero, List.getElem_cons_succ]
      go_simp
      refine hK _ _ (Or.inr ?_) (fun hHeld => ?_)
      · exact hHeld
      clear hK K
      replace hHeld := hHeld.resolve_left (by decide)
      try simp only [Act.put, List.setIfInBounds_toArray, List.set_cons_zero, List.set_cons_succ]
      refine z_one 16 rfl (by kernel_rfl) (by rfl) (fun K hK => ?_)
      simp only [List.getElem_toArray, List.getElem_cons_zero, List.getElem_cons_succ]
      go_simp
      refine hK _ _ (Or.inr ?_) (fun hHeld => ?_)
      · exact hHeld
      clear hK K
      replace hHeld := hHeld.resolve_left (by decide)
      try simp only [Act.put, List.setIfInBounds_toArray, List.set_cons_zero, List.set_cons_succ]
      refine z_one 17 rfl (by kernel_rfl) (by rfl) (fun K hK => ?_)
      simp only [List.getElem_toArray, List.getElem_cons_zero, List.getElem_cons_succ]
      have f0 := freeAt H2.out.1 0
      have d0 := hHeld.1
      go_simp
      refine hK _ _ (Or.inl rfl) (fun _ => ?_)
      clear hK K hHeld
      try simp only [Act.put, List.setIfInBounds_toArray, List.set_cons_zero, List.set_cons_succ]
      refine z_done (by kernel_rfl) ?_ _
      have HR : Hid (TkRel w sb gs s k x (.int .i64 1) (W2.setCell ⟨sb, 0, none⟩ (.int .u64 (powm (addm (mulm 37 s) (num xk)) 17 : Int)))) := by
        obtain ⟨_, _, _, h4, h5⟩ := HH.out
        subst h4 h5
        refine Or.inr ⟨rfl, ?_, ((HW.out.2.drew).trans H2.out.2 (fun _ _ h => h.elim)).trans ((Keeps.refl (fun j => j = sb) W2).setCell (p := ⟨sb, 0, none⟩) (fun _ => rfl) _) (fun _ _ h => h)⟩
        rw [heap_setCell_at H2.out.1]; rfl
      clear f0 d0
      go_wp2
      go_roundw
      case rel => exact HR.out
      case measure => decide
    · have HH := Lib.hid (And.intro hb hk)
      clear hb hk
      go_wp2
      go_end0
      exact ⟨⟨_, rfl⟩, HH.out.1, HH.out.2⟩
end Go.Proofs.Ytpojkhjenbbodaa

namespace Go.Proofs.Ytpojkhjenbbodaa
open Go.RowKit Go.Shelf
attribute [local go_sem] Oper.semAt_some

def ch (b off n j : Nat) : Array Value := #[.slice (some ⟨b, off + 7 * j, none⟩) (min 7 (n - 7 * j)) (min 7 (n - 7 * j))]
def chs (b off n : Nat) : List (Array Value) := (List.range ((n + 6) / 7)).map (ch b off n)
theorem chs_length (b off n : Nat) : (chs b off n).length = (n + 6) / 7 := by simp [chs]
theorem chs_get (b off n j : Nat) (h : 7 * j < n) : (chs b off n)[j]? = some (ch b off n j) := by
  simp only [chs, List.getElem?_map]
  rw [List.getElem?_range (by omega)]
  rfl

theorem chunk_any (sa : Option Addr) (n cap : Nat) (w : World) : Calls Try.prog 84 #[.slice sa n cap, .int .i64 7] w fun e w' => e = .returned (.func (.func 89) #[] #[.pointer (some ⟨w.heap.size, 0, none⟩), .pointer (some ⟨w.heap.size + 1, 0, none⟩)]) ∧
    w' = (w.alloc (.cells #[.slice sa n cap] 23)).alloc (.cells #[.int .i64 7] 3) := by
  go_enter Try.func84, Try.ntmps84
  go_wp2
  go_ret
  exact ⟨by simp, rfl⟩

def ChRel (W : World) (b1 b2 : Nat) (sa : Option Addr) (n cap : Nat) (J : Nat → World → Prop) (i : Value) (wr : World) : Prop :=
  ∃ j : Nat, i = .int .i64 ((7 * j : Nat) : Int) ∧ j ≤ (n + 6) / 7 ∧ J j wr ∧ W.heap.size + 0 ≤ wr.heap.size ∧ wr.heap[b1]? = some (.cells #[.slice sa n cap] 23 (0, 0)) ∧ wr.heap[b2]? = some (.cells #[.int .i64 7] 3 (0, 0))

set_option maxHeartbeats 1000000 in
set_option maxRecDepth 10000 in
theorem chunk_seq (b1 b2 b off n cap : Nat) (sa : Option Addr) (w0 : World) (hn : n ≤ 1000000000) (hcap : n ≤ cap) (hcb : cap ≤ 9223372036854775807) (hsa : 0 < n → sa = some ⟨b, off, none⟩) (h1 : w0.heap[b1]? = some (.cells #[.slice sa n cap] 23 (0, 0))) (h2 : w0.heap[b2]? = some (.cells #[.int .i64 7] 3 (0, 0))) :
    Seq Try.prog 89 #[.pointer (some ⟨b1, 0, none⟩), .pointer (some ⟨b2, 0, none⟩)] (chs b off n) 0 (fun _ => False) (fun k => k = b1 ∨ k = b2) w0 := by
  intro l J B W hW hB hJ hY h0
  have q1 := (hW.block b1 (lt_of_heap h1) (fun h => h (Or.inl rfl))).trans h1
  have q2 := (hW.block b2 (lt_of_heap h2) (fun h => h (Or.inr rfl))).trans h2
  have HJ := Lib.hid (And.intro hB (And.intro hJ (And.intro hY (And.intro h0 (And.intro q1 q2)))))
  have HS := Lib.hid hsa
  clear h1 h2 hW hB hJ hY h0 q1 q2 hsa
  refine callsIn_of_wp Try.func89 rfl trivial ?_ rfl
  simp only [Try.ntmps89, List.size_toArray, List.length_cons, List.length_nil, Nat.reduceAdd, Nat.reduceSub, Array.replicate_succ, Array.replicate_zero, List.push_toArray, List.append_toArray, List.nil_append, List.cons_append]
  gi_wp2_with fail
  gi_loopw [4] (fun i wr => ChRel W b1 b2 sa n cap J i wr) (fun i _ => (n + 7) - (intOf i).toNat)
  case atStart => exact ⟨0, rfl, Nat.zero_le _, HJ.out.2.2.2.1, Nat.le_refl _, HJ.out.2.2.2.2.1, HJ.out.2.2.2.2.2⟩
  case round =>
    obtain ⟨j, rfl, hj, hJj, hsz, q1, q2⟩ := hrel
    have c1 := cellAt q1 0
    have c2 := cellAt q2 0
    simp at c1 c2
    have HH := Lib.hid (And.intro hj (And.intro hJj (And.intro hsz (And.intro q1 q2))))
    clear hj hJj hsz q1 q2
    by_cases hlt : 7 * j < n
    · obtain ⟨i, hi⟩ : ∃ i, 7 * j = i := ⟨_, rfl⟩
      rw [hi] at hlt ⊢
      obtain ⟨m, hm⟩ : ∃ m, min 7 (n - i) = m := ⟨_, rfl⟩
      have hsa := HS.out (by omega)
      subst hsa
      have e1 : (if ((n - i : Nat) : Int) < 7 then ((n - i : Nat) : Int) else (7 : Int)) = (m : Int) := by split <;> omega
      have i1 : (i : Int) < (n : Int) := by omega
      have i2 : (0 : Int) ≤ (i : Int) := by omega
      have i3 : (i : Int) ≤ (n : Int) := by omega
      have i4 : (n : Int) ≤ (cap : Int) := by omega
      have HI := Lib.hid (And.intro hi hm)
      clear hi hm
      gi_wp2_with fail
      refine wpIn_wide.2 ?_
      refine z_begin (fun w' => w'.cell? ⟨b1, 0, none⟩ = some (.slice (some ⟨b, off, none⟩) n cap) ∧ w'.cell? ⟨b2, 0, none⟩ = some (.int .i64 7)) 7 (by kernel_rfl) ⟨c1, c2⟩ (fun hHeld => ?_)
      refine z_take 0 (v := ?_) rfl (by kernel_rfl) (by kernel_rfl) (by kernel_rfl) (by kernel_rfl) (fun _ _ _ h => h) hHeld (by rfl) (fun w hSw => ?_) ?_
      rotate_left
      · obtain ⟨hSw1, hSw2⟩ := hSw; simp only [List.getElem_toArray, List.getElem_cons_zero]; go_simp; try rfl
      simp only [Act.put, List.getElem_toArray, List.getElem_cons_zero, List.setIfInBounds_toArray, List.set_cons_zero, List.set_cons_succ]
      refine z_take 1 (v := ?_) rfl (by kernel_rfl) (by kernel_rfl) (by kernel_rfl) (by kernel_rfl) (fun _ _ _ h => h) hHeld (by rfl) (fun w hSw => ?_) ?_
      rotate_left
      · obtain ⟨hSw1, hSw2⟩ := hSw; simp only [List.getElem_toArray, List.getElem_cons_zero, List.getElem_cons_succ]; go_simp; try rfl
      simp only [Act.put, List.getElem_toArray, List.getElem_cons_zero, List.getElem_cons_succ, List.setIfInBounds_toArray, List.set_cons_zero, List.set_cons_succ]
      refine z_take 2 (v := ?_) rfl (by kernel_rfl) (by kernel_rfl) (by kernel_rfl) (by kernel_rfl) (fun _ _ _ h => h) hHeld (by rfl) (fun w hSw => ?_) ?_
      rotate_left
      · obtain ⟨hSw1, hSw2⟩ := hSw; simp only [List.getElem_toArray, List.getElem_cons_zero, List.getElem_cons_succ]; go_simp; try rfl
      simp only [Act.put, List.getElem_toArray, List.getElem_cons_zero, List.getElem_cons_succ, List.setIfInBounds_toArray, List.set_cons_zero, List.set_cons_succ]
      refine z_take 3 (v := ?_) rfl (by kernel_rfl) (by kernel_rfl) (by kernel_rfl) (by kernel_rfl) (fun _ _ _ h => h) hHeld (by rfl) (fun w hSw => ?_) ?_
      rotate_left
      · obtain ⟨hSw1, hSw2⟩ := hSw; simp only [List.getElem_toArray, List.getElem_cons_zero, List.getElem_cons_succ]; go_simp; try rfl
      simp only [Act.put, List.getElem_toArray, List.getElem_cons_zero, List.getElem_cons_succ, List.setIfInBounds_toArray, List.set_cons_zero, List.set_cons_succ]
      refine z_take 4 (v := ?_) rfl (by kernel_rfl) (by kernel_rfl) (by kernel_rfl) (by kernel_rfl) (fun _ _ _ h => h) hHeld (by rfl) (fun w hSw => ?_) ?_
      rotate_left
      · obtain ⟨hSw1, hSw2⟩ := hSw; simp only [List.getElem_toArray, List.getElem_cons_zero, List.getElem_cons_succ]; go_simp; try rfl
      simp only [Act.put, List.getElem_toArray, List.getElem_cons_zero, List.getElem_cons_succ, List.setIfInBounds_toArray, List.set_cons_zero, List.set_cons_succ]
      refine z_take 5 (v := ?_) rfl (by kernel_rfl) (by kernel_rfl) (by kernel_rfl) (by kernel_rfl) (fun _ _ _ h => h) hHeld (by rfl) (fun w hSw => ?_) ?_
      rotate_left
      · obtain ⟨hSw1, hSw2⟩ := hSw; simp only [List.getElem_toArray, List.getElem_cons_zero, List.getElem_cons_succ]; go_simp; try rfl
      simp only [Act.put, List.getElem_toArray, List.getElem_cons_zero, List.getElem_cons_succ, List.setIfInBounds_toArray, List.set_cons_zero, List.set_cons_succ]
      refine z_take 6 (v := ?_) rfl (by kernel_rfl) (by kernel_rfl) (by kernel_rfl) (by kernel_rfl) (fun _ _ _ h => h) hHeld (by rfl) (fun w hSw => ?_) ?_
      rotate_left
      · obtain ⟨hSw1, hSw2⟩ := hSw; simp only [List.getElem_toArray, List.getElem_cons_zero, List.getElem_cons_succ]; go_simp; try rfl
      simp only [Act.put, List.getElem_toArray, List.getElem_cons_zero, List.getElem_cons_succ, List.setIfInBounds_toArray, List.set_cons_zero, List.set_cons_succ]
      refine z_done (by kernel_rfl) ?_ _
      try rw [e1]
      clear e1
      have hget := chs_get b off n j (by have := HI.out; omega)
      have hJd := HJ.out.2.1 j wr wr.drew HH.out.2.1 (Keeps.refl _ wr).drew
      obtain ⟨fn, tmps, assign, body, hy, hR⟩ := HJ.out.2.2.1 j _ wr.drew hget hJd (by have := HH.out.2.2.1; simpa using this)
      unfold ch at hy
      rw [HI.out.1, HI.out.2] at hy
      have hci : ¬ cap = i := by omega
      have hmi : ¬ m = 0 := by have := HI.out; omega
      have m1 : (0 : Int) ≤ (m : Int) := by omega
      have m2 : (i : Int) + (m : Int) ≤ (n : Int) := by have := HI.out; omega
      have m3 : (i : Int) + (m : Int) ≤ (cap : Int) := by omega
      have m4 : (i : Int) ≤ (i : Int) + (m : Int) := by omega
      clear hget hJd hHeld
      gi_wp2_with fail
      refine ⟨rfl, hR.mono ?_⟩
      rintro e W2 ⟨rfl, hJ2, hkB⟩
      have hq1 := (hkB.block b1 (lt_of_heap HH.out.2.2.2.1) (fun h => (HJ.out.1 b1 h).1 (Or.inl rfl))).trans HH.out.2.2.2.1
      have hq2 := (hkB.block b2 (lt_of_heap HH.out.2.2.2.2) (fun h => (HJ.out.1 b2 h).1 (Or.inr rfl))).trans HH.out.2.2.2.2
      have d1 := cellAt hq1 0
      have d2 := cellAt hq2 0
      simp at d1 d2
      have HR : Hid (ChRel W b1 b2 (some ⟨b, off, none⟩) n cap J (.int .i64 ((i : Int) + 7)) W2) := by
        have h1 := HI.out
        have h2 := HH.out.2.2.1
        have h3 := hkB.size
        refine ⟨j + 1, by congr 1; omega, by omega, hJ2, ?_, hq1, hq2⟩
        simp at h3 ⊢
        omega
      have HM : Hid (n + 7 - (i + 7) < n + 7 - i) := by show _ < _; omega
      clear hJ2 hkB hq1 hq2 hR hy c1 c2
      gi_wp2
      go_roundw
      case rel => exact HR.out
      case measure => simp [intOf]; omega
    · have i1 : ¬ ((7 * j : Nat) : Int) < (n : Int) := by omega
      have hj := HH.out.1
      obtain rfl : j = (n + 6) / 7 := by omega
      have HF : Hid (J (chs b off n).length wr) := by show J _ _; rw [chs_length]; exact HH.out.2.1
      generalize 7 * ((n + 6) / 7) = i at *
      gi_wp2
      go_end0
      exact ⟨⟨_, rfl⟩, HF.out⟩
end Go.Proofs.Ytpojkhjenbbodaa

namespace Go.Proofs.Ytpojkhjenbbodaa
open Go.RowKit Go.Shelf
attribute [local go_sem] Oper.semAt_some

/-- Bytes as a number, the least first. -/
def le : List UInt8 → Nat
  | [] => 0
  | c :: l => c.toNat + 256 * le l
theorem le_snoc (l : List UInt8) (c : UInt8) : le (l ++ [c]) = le l + c.toNat * 256 ^ l.length := by
  induction l with
  | nil => simp [le]
  | cons d l ih => simp only [List.cons_append, le, ih, List.length_cons, Nat.pow_succ]; rw [Nat.mul_add, Nat.mul_comm (256 ^ l.length) 256, ← Nat.mul_assoc, ← Nat.mul_assoc, Nat.mul_comm 256 c.toNat]; omega
theorem le_lt (l : List UInt8) : le l < 256 ^ l.length := by
  induction l with
  | nil => simp [le]
  | cons c l ih =>
    have := c.toNat_lt
    simp only [le, List.length_cons, Nat.pow_succ]
    omega
def wordAt (l : List UInt8) (j : Nat) : Nat := le ((l.drop (7 * j)).take 7)
def wordsOf (l : List UInt8) : List Nat := (List.range ((l.length + 6) / 7)).map (wordAt l)
theorem wordsOf_length (l : List UInt8) : (wordsOf l).length = (l.length + 6) / 7 := by simp [wordsOf]
theorem wordAt_lt (l : List UInt8) (j : Nat) : wordAt l j < 72057594037927936 := by
  unfold wordAt
  have h := le_lt ((l.drop (7 * j)).take 7)
  have h2 : ((l.drop (7 * j)).take 7).length ≤ 7 := by rw [List.length_take]; omega
  exact Nat.lt_of_lt_of_le h (Nat.le_trans (Nat.pow_le_pow_right (by decide) h2) (by decide))
def wds (l : List UInt8) : List (Array Value) := (wordsOf l).map fun x : Nat => #[.int .u64 (x : Int)]
theorem wds_length (l : List UInt8) : (wds l).length = (l.length + 6) / 7 := by simp [wds, wordsOf]
theorem wds_get (l : List UInt8) (j : Nat) (h : 7 * j < l.length) : (wds l)[j]? = some #[.int .u64 (wordAt l j : Int)] := by
  simp only [wds, wordsOf, List.getElem?_map]
  rw [List.getElem?_range (by omega)]
  rfl
theorem or_byte (a x i : Nat) (ha : a < 256 ^ i) (hx : x < 256) (hi : i ≤ 6) : bits .or .u64 (a : Int) ((x * 256 ^ i : Nat) : Int) = ((a + x * 256 ^ i : Nat) : Int) := by
  have h6 : 256 ^ i ≤ 281474976710656 := Nat.le_trans (Nat.pow_le_pow_right (by decide) hi) (by decide)
  have hm : x * 256 ^ i ≤ 255 * 281474976710656 := Nat.mul_le_mul (by omega) h6
  rw [u64_or_nat a (x * 256 ^ i) (by omega) (by omega)]
  have e : (256 : Nat) ^ i = 2 ^ (8 * i) := by rw [Nat.pow_mul]
  rw [e] at ha ⊢
  rw [Nat.or_comm, Nat.mul_comm x, ← Nat.two_pow_add_eq_or_of_lt ha, Nat.add_comm]

theorem words_any (sa : Option Addr) (n cap : Nat) (w : World) : Calls Try.prog 77 #[.slice sa n cap] w fun e w' => e = .returned (.func (.func 83) #[] #[.pointer (some ⟨w.heap.size, 0, none⟩)]) ∧
    w' = w.alloc (.cells #[.slice sa n cap] 23) := by
  go_enter Try.func77, Try.ntmps77
  go_wp2
  go_ret
  exact ⟨by simp, rfl⟩

/-- What holds at the head of each round of the inner loop. -/
def WdRel (p : List UInt8) (acc i : Value) : Prop := ∃ k : Nat, i = .int .i64 (k : Int) ∧ k ≤ p.length ∧ acc = .int .u64 (le (p.take k) : Int)

set_option maxHeartbeats 1000000 in
set_option maxRecDepth 10000 in
theorem words_seq (bb b off n cap : Nat) (sa : Option Addr) (l : List UInt8) (w0 : World) (hn : n ≤ 1000000000) (hl : Sl w0 sa n cap (BV l)) (hsa : 0 < n → sa = some ⟨b, off, none⟩) (h1 : w0.heap[bb]? = some (.cells #[.slice sa n cap] 23 (0, 0))) :
    Seq Try.prog 83 #[.pointer (some ⟨bb, 0, none⟩)] (wds l) 5 (fun _ => False) (fun k => k = bb ∨ (0 < n ∧ k = b)) w0 := by
  intro lp J B W hW hB hJ hY h0
  have q1 := (hW.block bb (lt_of_heap h1) (fun h => h (Or.inl rfl))).trans h1
  have hl' : Sl W sa n cap (BV l) := hl.keep hW (fun ad e hn0 _ h => by rw [hsa hn0] at e; cases e; exact h (Or.inr ⟨hn0, rfl⟩))
  have HJ := Lib.hid (And.intro hB (And.intro hJ (And.intro hY (And.intro h0 (And.intro q1 hl')))))
  have HS := Lib.hid (And.intro hsa hl.len)
  have hnc := hl.le
  have hcb := hl.capB
  have c1 := cellAt q1 0
  simp at c1
  have hbl := lt_of_heap q1
  clear h1 hW hB hJ hY h0 q1 hsa hl hl'
  refine callsIn_of_wp_marks Try.func83 rfl trivial ?_ rfl
  simp only [Try.ntmps83, List.size_toArray, List.length_cons, List.length_nil, Nat.reduceAdd, Nat.reduceSub, Array.replicate_succ, Array.replicate_zero, List.push_toArray, List.append_toArray, List.nil_append, List.cons_append]
  gi_wp2_with fail
  refine ⟨trivial, rfl, (callsIn_wide.2 (chunk_any sa n cap _)).mono ?_⟩
  rintro e w1 ⟨rfl, rfl⟩
  clear c1
  gi_wp2_with fail
  obtain ⟨yb, hyb⟩ : ∃ yb, W.heap.size = yb := ⟨_, rfl⟩
  obtain ⟨W0, hW0⟩ : ∃ W0, ((W.alloc (.cells #[.func (.yield lp) #[] #[]] 121)).alloc (.cells #[.slice sa n cap] 23)).alloc (.cells #[.int .i64 7] 3) = W0 := ⟨_, rfl⟩
  have hk0 : Keeps (fun _ => False) W W0 := by rw [← hW0]; exact (((Keeps.refl _ W).alloc _).alloc _).alloc _
  have hsz : W0.heap.size = yb + 3 := by rw [← hW0, ← hyb]; simp
  have q0 : W0.heap[yb]? = some (.cells #[.func (.yield lp) #[] #[]] 121 (0, 0)) := by
    rw [← hW0, ← hyb]
    exact (Below.heap_alloc _ _ _ (by simp; omega)).trans ((Below.heap_alloc _ _ _ (by simp)).trans (World.alloc_heap_new W _))
  have q1 : W0.heap[yb + 1]? = some (.cells #[.slice sa n cap] 23 (0, 0)) := by
    rw [← hW0, ← hyb]
    refine (Below.heap_alloc _ _ _ (by simp)).trans ?_
    have := World.alloc_heap_new (W.alloc (.cells #[.func (.yield lp) #[] #[]] 121)) (.cells #[.slice sa n cap] 23)
    rwa [World.size_alloc] at this
  have q2 : W0.heap[yb + 1 + 1]? = some (.cells #[.int .i64 7] 3 (0, 0)) := by
    rw [← hW0, ← hyb]
    have := World.alloc_heap_new ((W.alloc (.cells #[.func (.yield lp) #[] #[]] 121)).alloc (.cells #[.slice sa n cap] 23)) (.cells #[.int .i64 7] 3)
    rwa [World.size_alloc, World.size_alloc] at this
  rw [hW0, hyb]
  have hW := Lib.hid hyb
  have hbW : ∀ ad, sa = some ad → 0 < n → ad.block < yb := fun ad e hn0 => by
    have hc := HJ.out.2.2.2.2.2.lies ad e 0
    have hl := HS.out.2
    cases hll : l with
    | nil => rw [hll] at hl; simp at hl; omega
    | cons c t =>
      rw [hll] at hc
      have := World.block_lt_of_cell? W _ (hc _ (by simp [BV]; rfl))
      obtain ⟨b', o', rfl⟩ := HJ.out.2.2.2.2.2.path hn0 ad e
      rw [addr_add] at this
      rw [hyb] at this
      exact this
  have HBW := Lib.hid hbW
  clear hW0 hyb hbW
  refine wpIn_seq (gf := 89) (lb := #[.pointer (some ⟨yb + 1, 0, none⟩), .pointer (some ⟨yb + 1 + 1, 0, none⟩)]) (xs := chs b off n) (m := 0) (T := fun _ => False) (Rd := fun k => k = yb + 1 ∨ k = yb + 1 + 1) rfl (enters_of Try.func89 (by kernel_rfl) rfl)
    (chunk_seq (yb + 1) (yb + 1 + 1) b off n cap sa W0 hn hnc hcb HS.out.1 q1 q2) (by rintro k (h | h) <;> omega) (fun k h => h.elim) ?hps
    (fun i Wi => J i Wi ∧ Wi.heap[yb]? = some (.cells #[.func (.yield lp) #[] #[]] 121 (0, 0)) ∧ Sl Wi sa n cap (BV l))
    B ?hB ?hI ?h0
    (fun x => { tmps := #[.func (.yield lp) #[] #[], .pointer (some ⟨bb, 0, none⟩), .pointer (some ⟨yb, 0, none⟩), x.getD 0 undef, undef, undef, undef, .slice sa n cap, .func (.func 89) #[] #[.pointer (some ⟨yb + 1, 0, none⟩), .pointer (some ⟨yb + 1 + 1, 0, none⟩)], x.getD 0 undef, undef, undef, undef, undef, undef, undef, undef, undef, undef, undef, undef, undef, undef, undef, undef, undef, undef, undef, undef], defers := [] }) ?assign ?body ?done
  case hps =>
    intro x hx
    simp only [chs, List.mem_map] at hx
    obtain ⟨j, _, rfl⟩ := hx
    rfl
  case hB =>
    intro k hk
    have h1 := HJ.out.1 k hk
    have h2 := hW.out
    exact ⟨by rintro (h | h) <;> exact h1.2 (by omega), fun h => h1.2 (by omega)⟩
  case hI =>
    rintro i A A' ⟨h1, h2, h3⟩ hk
    have hw := hW.out
    refine ⟨HJ.out.2.1 _ _ _ h1 (hk.mono (fun k _ h => h.imp id (fun h => by omega))), (hk.block yb (lt_of_heap h2) ?_).trans h2, h3.keep hk (fun ad e hn0 _ h => ?_)⟩
    · rintro (h | h)
      · exact h
      · omega
    · have := HBW.out ad e hn0
      rcases h with h | h
      · exact h
      · omega
  case h0 =>
    refine ⟨HJ.out.2.1 _ _ _ HJ.out.2.2.2.1 (hk0.mono (fun _ _ h => h.elim)), q0, HJ.out.2.2.2.2.2.keep hk0 (fun _ _ _ _ h => h)⟩
  case assign =>
    intro l2 x Wx K hx hK
    simp only [chs, List.mem_map] at hx
    obtain ⟨j, _, rfl⟩ := hx
    unfold ch at hK ⊢
    gi_wp2
    exact hK
  case body =>
    rintro l2 j x Wx hx ⟨h1, h2, h3⟩ hsx
    have hj : j < (n + 6) / 7 := by rw [← chs_length b off n]; exact (List.getElem?_eq_some_iff.1 hx).1
    have hlt : 7 * j < n := by omega
    obtain rfl : ch b off n j = x := by rw [chs_get b off n j hlt] at hx; exact Option.some.inj hx
    have hsa := HS.out.1 (by omega)
    subst hsa
    obtain ⟨m, hm⟩ : ∃ m, min 7 (n - 7 * j) = m := ⟨_, rfl⟩
    obtain ⟨p, hp⟩ : ∃ p, (l.drop (7 * j)).take 7 = p := ⟨_, rfl⟩
    have hpl : p.length = m := by rw [← hp, List.length_take, List.length_drop, show l.length = n by simpa using HS.out.2]; omega
    have hpc : ∀ i c, p[i]? = some c → Wx.cell? ⟨b, off + 7 * j + i, none⟩ = some (.int .u8 c.toNat) := by
      intro i c hc
      rw [Nat.add_assoc]
      refine h3.cell ?_
      rw [BV_get]
      have : l[7 * j + i]? = some c := by
        rw [← hp, List.getElem?_take] at hc
        split at hc
        · rw [List.getElem?_drop] at hc; exact hc
        · cases hc
      rw [this]; rfl
    have hwd := wds_get l j (by rw [show l.length = n by simpa using HS.out.2]; exact hlt)
    have hwe : wordAt l j = le p := by unfold wordAt; rw [hp]
    rw [hwe] at hwd
    have hWs : W.heap.size + 5 ≤ Wx.heap.size := by have := hW.out; omega
    obtain ⟨fn, tmps, assign, body, hy, hR⟩ := HJ.out.2.2.1 j _ Wx hwd h1 hWs
    have HP := Lib.hid (And.intro hpl (And.intro hpc (And.intro hm hp)))
    have HB := Lib.hid (And.intro h1 (And.intro h2 h3))
    have c0 := cellAt h2 0
    simp at c0
    have hm7 : m ≤ 7 := by omega
    have HR : Hid (∀ (ac : Act) (W' : World), J (j + 1) W' → Keeps B Wx W' → goesOn B (fun i Wi => J i Wi ∧ Wi.heap[yb]? = some (.cells #[.func (.yield lp) #[] #[]] 121 (0, 0)) ∧ Sl Wi (some ⟨b, off, none⟩) n cap (BV l)) j Wx .normal ac W') := by
      intro ac W' hj2 hk2
      refine ⟨hk2, hj2, (hk2.block yb (lt_of_heap HB.out.2.1) (fun h => (HJ.out.1 yb h).2 (by have := hW.out; omega))).trans HB.out.2.1, HB.out.2.2.keep hk2 (fun ad e hn0 _ h => ?_)⟩
      cases e
      exact (HJ.out.1 b h).1 (Or.inr ⟨hn0, rfl⟩)
    unfold ch
    simp only [hm]
    obtain ⟨o7, ho7⟩ : ∃ o7, off + 7 * j = o7 := ⟨_, rfl⟩
    rw [ho7] at hpc ⊢
    have HPC := Lib.hid hpc
    clear h1 h2 h3 hpl hpc hp hwd hwe hm hWs hsx hx hj hlt hk0 q0 q1 q2 hsz hbl ho7
    gi_wp2_with fail
    gi_loopw [4, 12] (fun acc i wr => WdRel p acc i ∧ wr = Wx) (fun _ i _ => m - (intOf i).toNat)
    case atStart => exact ⟨⟨0, rfl, Nat.zero_le _, by simp [le]⟩, rfl⟩
    case round =>
      obtain ⟨⟨k, rfl, hk, rfl⟩, rfl⟩ := hrel
      by_cases hlt : k < m
      · obtain ⟨c, hc⟩ : ∃ c, p[k]? = some c := ⟨_, List.getElem?_eq_getElem (by have := HP.out.1; omega)⟩
        have hcell := HPC.out k c hc
        have hlen : (p.take k).length = k := by rw [List.length_take]; have := HP.out.1; omega
        have hacc := le_lt (p.take k)
        rw [hlen] at hacc
        have hor := or_byte (le (p.take k)) c.toNat k hacc c.toNat_lt (by omega)
        have hsn : le (p.take (k + 1)) = le (p.take k) + c.toNat * 256 ^ k := by
          rw [List.take_succ_eq_append_getElem (List.getElem?_eq_some_iff.1 hc).1, (List.getElem?_eq_some_iff.1 hc).2, le_snoc, hlen]
        have hsh : (c.toNat : Int) * 2 ^ (8 * k) = ((c.toNat * 256 ^ k : Nat) : Int) := by
          have e : (256 : Nat) ^ k = 2 ^ (8 * k) := by rw [Nat.pow_mul]
          rw [e, Int.natCast_mul, Int.natCast_pow]; rfl
        have hwc : IntKind.u64.wrap (c.toNat : Int) = (c.toNat : Int) := wrap_nat _ _ rfl (by have := c.toNat_lt; omega)
        have hwr : IntKind.u64.wrap ((c.toNat * 256 ^ k : Nat) : Int) = ((c.toNat * 256 ^ k : Nat) : Int) := by
          have h6 : 256 ^ k ≤ 281474976710656 := Nat.le_trans (Nat.pow_le_pow_right (by decide) (show k ≤ 6 by omega)) (by decide)
          have h7 : c.toNat * 256 ^ k ≤ 255 * 281474976710656 := Nat.mul_le_mul (by have := c.toNat_lt; omega) h6
          exact wrap_nat _ _ rfl (by omega)
        have HSN := Lib.hid hsn
        have HCC := Lib.hid hc
        clear hsn hc hlen hacc
        generalize c.toNat * 256 ^ k = sh at *
        generalize le (p.take k) = acc at *
        gi_wp2
        refine ⟨⟨⟨k + 1, by go_num, by have := HP.out.1; omega, ?_⟩, trivial⟩, by simp [intOf]; omega⟩
        rw [HSN.out]; go_num
      · obtain rfl : k = m := by have := HP.out.1; omega
        have hpt : p.take k = p := List.take_of_length_le (by have := HP.out.1; omega)
        rw [hpt]
        clear hpt
        generalize le p = acc at *
        gi_wp2_with fail
        refine ⟨rfl, RoundIn.mono hR ?_⟩
        rintro e W2 ⟨rfl, hJ2, hkB⟩
        have HF := Lib.hid (And.intro hJ2 hkB)
        clear hJ2 hkB hR hy
        gi_wp2
        exact HR.out _ _ HF.out.1 HF.out.2
  case done =>
    rintro Wx ⟨h1, h2, h3⟩ hsW hK
    have hw := hW.out
    rw [chs_length] at h1
    have HF : Hid (J (wds l).length (Wx.putObj W0.heap.size (.deferred none))) := by
      show J _ _
      rw [wds_length, show l.length = n by simpa using HS.out.2]
      exact HJ.out.2.1 _ _ _ h1 ((Keeps.refl _ Wx).putObj _ (fun _ => Or.inr (by omega)))
    have HK := Lib.hid hK
    clear h1 h2 h3
    gi_wp2
    refine ⟨by simp, .inl ⟨_, _, rfl, run_takeDeferred HK.out, ?_⟩⟩
    exact ⟨.tuple #[], by simp [results, Try.results83, go_sem], ⟨_, rfl⟩, HF.out⟩
end Go.Proofs.Ytpojkhjenbbodaa

namespace Go.Proofs.Ytpojkhjenbbodaa
open Go.RowKit Go.Shelf
attribute [local go_sem] Oper.semAt_some

theorem Seq.later {P : Program} {g : Nat} {lb : Array Value} {xs : List (Array Value)} {m : Nat} {T Rd : Nat → Prop} {w0 w1 : World} (h : Seq P g lb xs m T Rd w0) (hk : Keeps (fun k => ¬ Rd k) w0 w1) : Seq P g lb xs m T Rd w1 :=
  fun l J B W hW hB hJ hY h0 => h l J B W (hk.trans hW (fun _ _ h => h)) hB hJ hY h0

theorem wpListIn_push {P : Program} {F : Fence} {nF : Nat} {ops : Array Oper} {rest : List Oper} {o : Oper} {a : Act} {Q : Exit → Act → World → Prop} (w0 : World) (v : Value) (hgd : o.guard = none) (s x : Operand) (t : TypeId)
    (ho : o.op = .call { callee := .builtin .append, args := #[s, x], argTypes := #[t, t] })
    (base : Nat) (e : TypeId) (i : TypeInfo) (z : Value) (bytes : Nat) (ht : P.underlying t = some (.slice e)) (hi : P.info? e = some i) (hz : i.zero = some z)
    (hsize : i.size = 1) (hby : i.bytes = bytes) (hzs : z.cells.size = 1)
    (sa : Option Addr) (n c : Nat) (xs : List Value) (hs : a.eval s = .slice sa n c) (hown : w0.ownsRow base e 1 (.slice sa n c) n xs)
    (hx : a.eval x = .slice (some ⟨w0.heap.size, 0, none⟩) 1 1) (h1 : v.oneCell' = true)
    (h63 : n + 1 ≤ maxLen) (hbytes : (n + 1) * bytes ≤ 140737488355328) (hbase : base ≤ w0.heap.size)
    (h : ∀ sa' cap' w', w'.ownsRow base e 1 (.slice sa' (n + 1) cap') (n + 1) (xs ++ [v]) → Keeps (fun k => sa = some ⟨k, 0, none⟩) w0 w' → w0.heap.size < w'.heap.size → wpListIn F nF P ops Q rest (a.put o.dst (.slice sa' (n + 1) cap')) w') :
    wpListIn F nF P ops Q (o :: rest) a (w0.alloc (.cells #[v] e)) := by
  refine wpListIn_append_own_at _ hgd s x t ho base e i z 1 bytes ht hi hz hsize hby hzs (by decide) (.slice sa n c) n xs hs (hown.alloc _) ⟨w0.heap.size, 0, none⟩ 1 1 [v] hx rfl (news_one w0 v e (0, 0) _ rfl) (by simpa using h1) h63 hbytes (by simp; omega) ?_
  intro v' w' hown' hg _ _
  obtain ⟨sa', cap', rfl⟩ : ∃ sa' cap', v' = .slice sa' (n + 1) cap' := by
    rcases hown'.2 with ⟨_, h0⟩ | ⟨g, cap, cur, rfl, _⟩
    · omega
    · exact ⟨_, _, rfl⟩
  refine h sa' cap' w' hown' (keeps_app hown hg) ?_
  have := hg.size
  simp at this
  omega

set_option maxHeartbeats 1000000 in
theorem appendSeq_any (gf : Nat) (lb : Array Value) (l : List Nat) (m : Nat) (T Rd : Nat → Prop) (w : World) (eg : ∀ args w, (callFunc gf args).run Try.prog w = .ok (.enter gf args) w)
    (hseq : Seq Try.prog gf lb (l.map fun x : Nat => #[.int .u64 (x : Int)]) m T Rd w) (hRd : ∀ k, Rd k → k < w.heap.size) (hTR : ∀ k, T k → Rd k) (hl : l.length ≤ 1000000000) :
    Calls Try.prog 82 #[.slice none 0 0, .func (.func gf) #[] lb] w fun e w' => ∃ sa cap, e = .returned (.slice sa l.length cap) ∧ w'.ownsRow w.heap.size 39 1 (.slice sa l.length cap) l.length (NV l) ∧ Keeps T w w' := by
  have HS := Lib.hid (And.intro eg (And.intro hseq (And.intro hRd hTR)))
  clear eg hseq hRd hTR
  refine (callsIn_wide (n := 0)).1 ?_
  refine callsIn_of_wp_marks Try.func82 rfl trivial ?_ rfl
  simp only [Try.ntmps82, List.size_toArray, List.length_cons, List.length_nil, Nat.reduceAdd, Nat.reduceSub, Array.replicate_succ, Array.replicate_zero, List.push_toArray, List.append_toArray, List.nil_append, List.cons_append]
  gi_wp2_with fail
  obtain ⟨bx, hbx⟩ : ∃ bx, w.heap.size = bx := ⟨_, rfl⟩
  obtain ⟨W0, hW0⟩ : ∃ W0, w.alloc (.cells #[.slice none 0 0] 87) = W0 := ⟨_, rfl⟩
  have hk0 : Keeps (fun _ => False) w W0 := by rw [← hW0]; exact (Keeps.refl _ w).alloc _
  have hsz : W0.heap.size = bx + 1 := by rw [← hW0, ← hbx]; simp
  have q0 : W0.heap[bx]? = some (.cells #[.slice none 0 0] 87 (0, 0)) := by
    rw [← hW0, ← hbx]; exact World.alloc_heap_new w _
  rw [hW0, hbx]
  have HB := Lib.hid hbx
  clear hW0 hbx
  refine wpIn_seq (gf := gf) (lb := lb) (xs := l.map fun x : Nat => #[.int .u64 (x : Int)]) (m := m) (T := T) (Rd := Rd) rfl HS.out.1 (HS.out.2.1.later (hk0.mono (fun _ _ h => h.elim))) (fun k h => by have := HS.out.2.2.1 k h; have := HB.out; omega) HS.out.2.2.2 ?hps
    (fun i W => ∃ sa cap, W.heap[bx]? = some (.cells #[.slice sa i cap] 87 (0, 0)) ∧ W.ownsRow (bx + 3 + m) 39 1 (.slice sa i cap) i (NV (l.take i)) ∧ Keeps T w W)
    (fun k => k = bx ∨ bx + 3 + m ≤ k) ?hB ?hI ⟨none, 0, q0, by simpa [NV] using World.ownsRow_nil _ _ _ _, hk0.mono (fun _ _ h => h.elim)⟩
    (fun x => { tmps := #[.slice none 0 0, .func (.func gf) #[] lb, .pointer (some ⟨bx, 0, none⟩), undef, .slice none 0 0, x.getD 0 undef, .func (.func gf) #[] lb, x.getD 0 undef, undef, undef, undef, undef, undef], defers := [] }) ?assign ?body ?done
  case hps =>
    intro x hx
    simp only [List.mem_map] at hx
    obtain ⟨j, _, rfl⟩ := hx
    rfl
  case hB =>
    intro k hk
    have hb := HB.out
    refine ⟨fun h => ?_, fun h => ?_⟩
    · have := HS.out.2.2.1 k h; omega
    · omega
  case hI =>
    rintro i A A' ⟨sa, cap, h1, h2, h3⟩ hk
    have hb := HB.out
    refine ⟨sa, cap, (hk.block bx (lt_of_heap h1) ?_).trans h1, own_keep h2 hk (fun k e h => ?_), h3.trans hk (fun j hj h => ?_)⟩
    · rintro (h | h)
      · have := HS.out.2.2.1 _ (HS.out.2.2.2 _ h); omega
      · omega
    · have h4 := (h2.lt k e).1
      rcases h with h | h
      · have := HS.out.2.2.1 _ (HS.out.2.2.2 _ h); omega
      · omega
    · rcases h with h | h
      · exact h
      · omega
  case assign =>
    intro l2 x Wx K hx hK
    simp only [List.mem_map] at hx
    obtain ⟨j, _, rfl⟩ := hx
    gi_wp2
    exact hK
  case body =>
    rintro l2 j x Wx hx ⟨sa, cap, h1, h2, h3⟩ hsx
    have hj : j < l.length := by have := (List.getElem?_eq_some_iff.1 hx).1; simpa using this
    obtain ⟨y, hy⟩ : ∃ y, l[j]? = some y := ⟨_, List.getElem?_eq_getElem hj⟩
    obtain rfl : #[.int .u64 (y : Int)] = x := by rw [List.getElem?_map, hy] at hx; exact Option.some.inj hx
    have c1 := cellAt h1 0
    simp at c1
    have hbl := lt_of_heap h1
    have hb := HB.out
    have HX : Hid (∀ (ac : Act) (w2 : World) (sa' : Option Addr) (cap' : Nat), w2.ownsRow (bx + 3 + m) 39 1 (.slice sa' (j + 1) cap') (j + 1) (NV (l.take j) ++ [.int .u64 (y : Int)]) → Keeps (fun k => sa = some ⟨k, 0, none⟩) Wx w2 → w2.heap[bx]? = some (.cells #[.slice sa j cap] 87 (0, 0)) ∧ goesOn (fun k => k = bx ∨ bx + 3 + m ≤ k) (fun i W => ∃ sa cap, W.heap[bx]? = some (.cells #[.slice sa i cap] 87 (0, 0)) ∧ W.ownsRow (bx + 3 + m) 39 1 (.slice sa i cap) i (NV (l.take i)) ∧ Keeps T w W) j Wx .normal ac (w2.setCell ⟨bx, 0, none⟩ (.slice sa' (j + 1) cap'))) := by
      intro ac w2 sa' cap' h4 h5
      have hlow : ∀ k, sa = some ⟨k, 0, none⟩ → bx + 3 + m ≤ k := fun k e => (own_lt h2 e).1
      have h6 : w2.heap[bx]? = some (.cells #[.slice sa j cap] 87 (0, 0)) := (h5.block bx hbl (fun e => by have := hlow _ e; omega)).trans h1
      have h7 : Keeps (fun k => k = bx) w2 (w2.setCell ⟨bx, 0, none⟩ (.slice sa' (j + 1) cap')) := (Keeps.refl (fun k => k = bx) w2).setCell (p := ⟨bx, 0, none⟩) (fun _ => rfl) _
      refine ⟨h6, ((h5.mono (fun k _ e => Or.inr (hlow k e))).trans (h7.mono (fun k _ e => Or.inl e)) (fun _ _ h => h)), sa', cap', ?_, ?_, ?_⟩
      · rw [heap_setCell_at h6]; rfl
      · have e : NV (l.take (j + 1)) = NV (l.take j) ++ [.int .u64 (y : Int)] := by
          rw [List.take_succ_eq_append_getElem hj, NV_append, (List.getElem?_eq_some_iff.1 hy).2]; rfl
        rw [e]
        exact own_keep h4 h7 (fun k e' h => by have := (h4.lt k e').1; omega)
      · exact (h3.trans h5 (fun k hk e => by have := hlow _ e; omega)).trans h7 (fun k hk e => by omega)
    have HO := Lib.hid h2
    have hsx2 : bx + 3 + m ≤ Wx.heap.size := by omega
    obtain ⟨i0, hi, hz0, hz1, hz2⟩ := info_parts infoU64
    clear h1 h2 h3 hx hy
    gi_wp2_with (gi_at_builtin; refine wpListIn_push _ (.int .u64 (y : Int)) rfl _ _ 87 rfl (bx + 3 + m) 39 i0 (.int .u64 0) 8 Try.underlying87 hi hz0 hz1 hz2 rfl sa j cap (NV (l.take j)) rfl HO.out rfl rfl (by unfold maxLen; omega) (by omega) hsx2 ?_; intro sa2 cap2 w2 hown2 hk2 hs2; obtain ⟨g1, g2⟩ := HX.out { tmps := #[], defers := [] } _ _ _ hown2 hk2; have G := Lib.hid g2; have g3 := cellAt g1 0; have g4 := freeAt g1 0; simp at g3; clear hown2 hk2 g1 g2)
    exact G.out
  case done =>
    rintro W ⟨sa, cap, h1, h2, h3⟩ hsW hK
    rw [List.length_map] at h1 h2
    rw [List.take_length] at h2
    have c1 := cellAt h1 0
    simp at c1
    have hb := HB.out
    have HK := Lib.hid hK
    have HF : Hid (Keeps T w (W.putObj W0.heap.size (.deferred none)) ∧ (W.putObj W0.heap.size (.deferred none)).ownsRow w.heap.size 39 1 (.slice sa l.length cap) l.length (NV l)) := by
      have h4 : Keeps (fun k => k = W0.heap.size) W (W.putObj W0.heap.size (.deferred none)) := (Keeps.refl _ W).putObj _ (fun _ => rfl)
      refine ⟨h3.putObj _ (fun h => by omega), own_keep (own_base h2 (fun k e => by have := (h2.lt k e).1; omega)) h4 (fun k e h => by have := (h2.lt k e).1; omega)⟩
    clear h1 h2 h3
    gi_wp2
    refine ⟨by simp, .inl ⟨_, _, rfl, run_takeDeferred HK.out, ?_⟩⟩
    exact ⟨_, results_tmp rfl _ _ _, sa, cap, rfl, HF.out.2, HF.out.1⟩

theorem collect_any (gf : Nat) (lb : Array Value) (l : List Nat) (m : Nat) (T Rd : Nat → Prop) (w : World) (eg : ∀ args w, (callFunc gf args).run Try.prog w = .ok (.enter gf args) w)
    (hseq : Seq Try.prog gf lb (l.map fun x : Nat => #[.int .u64 (x : Int)]) m T Rd w) (hRd : ∀ k, Rd k → k < w.heap.size) (hTR : ∀ k, T k → Rd k) (hl : l.length ≤ 1000000000) :
    Calls Try.prog 76 #[.func (.func gf) #[] lb] w fun e w' => ∃ sa cap, e = .returned (.slice sa l.length cap) ∧ w'.ownsRow w.heap.size 39 1 (.slice sa l.length cap) l.length (NV l) ∧ Keeps T w w' := by
  have HT := Lib.hid (appendSeq_any gf lb l m T Rd w eg hseq hRd hTR hl)
  clear eg hseq hRd hTR
  go_enter Try.func76, Try.ntmps76
  go_wp2_with fail
  refine HT.out.mono ?_
  rintro e w1 ⟨sa, cap, rfl, h1, h2⟩
  have H := Lib.hid (And.intro h1 h2)
  clear h1 h2
  go_wp2
  go_ret
  exact ⟨sa, cap, rfl, H.out.1, H.out.2⟩
end Go.Proofs.Ytpojkhjenbbodaa

namespace Go.Proofs.Ytpojkhjenbbodaa
open Go.RowKit Go.Shelf
attribute [local go_sem] Oper.semAt_some

/-- The sum, from a state on. -/
def hrun : Nat → Nat → List Nat → Nat
  | s, _, [] => s
  | s, k, x :: l => hrun (hstep s (k + 1) x) (k + 1) l
theorem hrun_append (a b : List Nat) : ∀ s k, hrun s k (a ++ b) = hrun (hrun s k a) (k + a.length) b := by
  induction a with
  | nil => intro s k; rfl
  | cons x a ih => intro s k; simp only [List.cons_append, hrun, List.length_cons]; rw [ih]; congr 1; omega
theorem hrun_snoc (a : List Nat) (x s k : Nat) : hrun s k (a ++ [x]) = hstep (hrun s k a) (k + a.length + 1) x := by rw [hrun_append]; rfl
theorem hstep_lt (s k x : Nat) : hstep s k x < 2305843009213693951 := powm_lt _ _
theorem hrun_lt (l : List Nat) : ∀ s k, s < 2305843009213693951 → hrun s k l < 2305843009213693951 := by
  induction l with
  | nil => intro s k h; exact h
  | cons x l ih => intro s k _; exact ih _ _ (hstep_lt _ _ _)
def allOf (s : List UInt8) (l : List Nat) : List Nat := wordsOf s ++ [l.length] ++ l.map num ++ [0]
/-- The sum. -/
def hof (s : List UInt8) (l : List Nat) : Nat := hrun s.length 0 (allOf s l)
theorem hof_lt (s : List UInt8) (l : List Nat) : hof s l < 2305843009213693951 := by
  unfold hof allOf; rw [hrun_snoc]; exact hstep_lt _ _ _

/-- What holds at the head of each round. -/
def OfRel (w : World) (sb db n sz nw : Nat) (ls : List UInt8) (l : List Nat) (i : Value) (wr : World) : Prop :=
  ∃ k : Nat, k ≤ n ∧ i = .int .i64 (k : Int) ∧ wr.heap[sb]? = some (.cells #[.int .u64 (hrun sz 0 (wordsOf ls ++ [l.length] ++ (l.map num).take k) : Nat), .int .u64 ((nw + 1 + k : Nat) : Int)] 117 (0, 0)) ∧ Keeps (fun _ => False) w wr ∧ wr.heap[db]? = some (.deferred (some []))

set_option maxHeartbeats 1000000 in
set_option maxRecDepth 10000 in
theorem of_any (s : ByteArray) (sa : Option Addr) (n cap : Nat) (l : List Nat) (w : World) (hs : s.size ≤ 1000000000) (hn : n ≤ 1000000000) (hl : Sl w sa n cap (NV l)) (hu : ∀ x ∈ l, U64 x) :
    Calls Try.prog 75 #[.string s, .slice sa n cap] w fun e w' => e = .returned (.int .u64 (hof s.data.toList l : Int)) ∧ Keeps (fun _ => False) w w' := by
  have HL := Lib.hid (And.intro hl hu)
  have hnc := hl.le
  have hcb := hl.capB
  clear hl hu
  refine (callsIn_wide (n := 0)).1 ?_
  refine callsIn_of_wp_marks Try.func75 rfl trivial ?_ rfl
  simp only [Try.ntmps75, List.size_toArray, List.length_cons, List.length_nil, Nat.reduceAdd, Nat.reduceSub, Array.replicate_succ, Array.replicate_zero, List.push_toArray, List.append_toArray, List.nil_append, List.cons_append]
  obtain ⟨sb, hsb⟩ : ∃ sb, w.heap.size = sb := ⟨_, rfl⟩
  obtain ⟨ws, hws⟩ : ∃ ws, w.alloc (.cells #[.int .u64 (s.size : Int), .int .u64 0] 117) = ws := ⟨_, rfl⟩
  obtain ⟨capb, w1, hrun, hsl, hk1, hz1⟩ := run_bytes s hs ws
  have hws2 : ws.heap.size = sb + 1 := by rw [← hws, ← hsb]; simp
  have qs : ws.heap[sb]? = some (.cells #[.int .u64 (s.size : Int), .int .u64 0] 117 (0, 0)) := by rw [← hws, ← hsb]; exact World.alloc_heap_new w _
  have hkw : Keeps (fun _ => False) w ws := by rw [← hws]; exact (Keeps.refl _ w).alloc _
  rw [hws2] at hrun hsl hz1
  have qs1 : w1.heap[sb]? = some (.cells #[.int .u64 (s.size : Int), .int .u64 0] 117 (0, 0)) := (hk1.block sb (by omega) (fun h => h)).trans qs
  have hkw1 := hkw.trans hk1 (fun _ _ h => h)
  rw [← hws] at hrun
  have H1 := Lib.hid (And.intro hsl (And.intro hz1 (And.intro qs1 hkw1)))
  have HSB := Lib.hid (And.intro hsb (And.intro hws hws2))
  clear hsl hk1 hz1 hws2 qs hkw qs1 hkw1 hws hsb
  gi_wp2_with fail
  refine ⟨trivial, rfl, (callsIn_wide.2 (words_any _ _ _ _)).mono ?_⟩
  rintro e w2 ⟨rfl, rfl⟩
  clear hrun
  gi_wp2_with fail
  rw [HSB.out.1, H1.out.2.1]
  obtain ⟨W0, hW0⟩ : ∃ W0, w1.alloc (.cells #[.slice (some ⟨sb + 1, 0, none⟩) s.size capb] 23) = W0 := ⟨_, rfl⟩
  have hk0 : Keeps (fun _ => False) w W0 := by rw [← hW0]; exact H1.out.2.2.2.alloc _
  have hsz : W0.heap.size = sb + 3 := by rw [← hW0]; have := H1.out.2.1; simp; omega
  have q0 : W0.heap[sb]? = some (.cells #[.int .u64 (s.size : Int), .int .u64 0] 117 (0, 0)) := by
    rw [← hW0]; exact (Below.heap_alloc _ _ _ (lt_of_heap H1.out.2.2.1)).trans H1.out.2.2.1
  have q1 : W0.heap[sb + 1 + 1]? = some (.cells #[.slice (some ⟨sb + 1, 0, none⟩) s.size capb] 23 (0, 0)) := by
    rw [← hW0]
    have := World.alloc_heap_new w1 (.cells #[.slice (some ⟨sb + 1, 0, none⟩) s.size capb] 23)
    rwa [H1.out.2.1] at this
  have q2 : Sl W0 (some ⟨sb + 1, 0, none⟩) s.size capb (BV s.data.toList) := by
    rw [← hW0]; exact H1.out.1.keep ((Keeps.refl (fun _ => False) w1).alloc _) (fun _ _ _ _ h => h)
  rw [hW0]
  clear hW0
  obtain ⟨ls, hls⟩ : ∃ ls, s.data.toList = ls := ⟨_, rfl⟩
  have hlen : ls.length = s.size := by rw [← hls]; simp
  rw [hls] at q2
  refine wpIn_seq (gf := 83) (lb := #[.pointer (some ⟨sb + 1 + 1, 0, none⟩)]) (xs := wds ls) (m := 5) (T := fun _ => False) (Rd := fun k => k = sb + 1 + 1 ∨ (0 < s.size ∧ k = sb + 1)) rfl (enters_of Try.func83 (by kernel_rfl) rfl)
    (words_seq (sb + 1 + 1) (sb + 1) 0 s.size capb _ ls W0 hs q2 (fun _ => rfl) q1) (by rintro k (h | h) <;> omega) (fun k h => h.elim) ?hps
    (fun i W => W.heap[sb]? = some (.cells #[.int .u64 (hrun s.size 0 ((wordsOf ls).take i) : Nat), .int .u64 ((i : Nat) : Int)] 117 (0, 0)) ∧ Keeps (fun _ => False) w W)
    (fun k => k = sb) (by rintro k rfl; exact ⟨by omega, by omega⟩) ?hI ⟨q0, hk0⟩
    (fun x => { tmps := #[.string s, .slice sa n cap, undef, undef, .int .u64 0, .pointer (some ⟨sb, 0, none⟩), x.getD 0 undef, undef, undef, .string s, .int .i64 (s.size : Int), .int .u64 (s.size : Int), .agg #[.int .u64 (s.size : Int), .int .u64 0], .string s, .slice (some ⟨sb + 1, 0, none⟩) s.size capb, .func (.func 83) #[] #[.pointer (some ⟨sb + 1 + 1, 0, none⟩)], x.getD 0 undef, undef, undef, undef, undef, undef, undef, undef, undef, undef, undef, undef, undef, undef, undef, undef, undef, undef, undef, undef, undef, undef, undef, undef], defers := [] }) ?assign ?body ?done
  case hps =>
    intro x hx
    simp only [wds, List.mem_map] at hx
    obtain ⟨j, _, rfl⟩ := hx
    rfl
  case hI =>
    rintro i A A' ⟨h1, h2⟩ hk
    have := HSB.out.1
    refine ⟨(hk.block sb (lt_of_heap h1) ?_).trans h1, h2.trans hk (fun j hj h => ?_)⟩
    · rintro (h | h)
      · exact h
      · omega
    · rcases h with h | h
      · exact h
      · omega
  case assign =>
    intro l2 x Wx K hx hK
    simp only [wds, List.mem_map] at hx
    obtain ⟨j, _, rfl⟩ := hx
    gi_wp2
    exact hK
  case body =>
    rintro l2 j x Wx hx ⟨h1, h2⟩ hsx
    have hj : j < (wds ls).length := (List.getElem?_eq_some_iff.1 hx).1
    rw [wds_length] at hj
    have hlt : 7 * j < ls.length := by omega
    obtain rfl : #[.int .u64 (wordAt ls j : Int)] = x := by rw [wds_get ls j hlt] at hx; exact Option.some.inj hx
    have hwl := wordAt_lt ls j
    have hnext : hrun s.size 0 ((wordsOf ls).take (j + 1)) = hstep (hrun s.size 0 ((wordsOf ls).take j)) (j + 1) (wordAt ls j) := by
      have hjl : j < (wordsOf ls).length := by rw [wordsOf_length]; omega
      rw [List.take_succ_eq_append_getElem hjl, hrun_snoc, List.length_take, Nat.min_eq_left (by omega), Nat.zero_add]
      congr 1
      simp [wordsOf]
    have hrl := hrun_lt ((wordsOf ls).take j) s.size 0 (by omega)
    have hb2 : (Wx.alloc (.cells #[.int .u64 (wordAt ls j : Int)] 39)).heap[sb]? = some (.cells #[.int .u64 (hrun s.size 0 ((wordsOf ls).take j) : Nat), .int .u64 ((j : Nat) : Int)] 117 (0, 0)) := (Below.heap_alloc _ _ _ (lt_of_heap h1)).trans h1
    have hxc : (Wx.alloc (.cells #[.int .u64 (wordAt ls j : Int)] 39)).cell? ⟨Wx.heap.size, 0, none⟩ = some (.int .u64 (wordAt ls j : Int)) := cellAt (World.alloc_heap_new Wx _) 0
    have HT := Lib.hid (take_one sb Wx.heap.size (hrun s.size 0 ((wordsOf ls).take j)) j (wordAt ls j) 1 _ hb2 hxc hrl (by omega))
    have HX : Hid (∀ (ac : Act) (W' : World), W'.heap[sb]? = some (.cells #[.int .u64 (hstep (hrun s.size 0 ((wordsOf ls).take j)) (j + 1) (wordAt ls j) : Nat), .int .u64 ((j + 1 : Nat) : Int)] 117 (0, 0)) → Keeps (fun k => k = sb) Wx W' → goesOn (fun k => k = sb) (fun i W => W.heap[sb]? = some (.cells #[.int .u64 (hrun s.size 0 ((wordsOf ls).take i) : Nat), .int .u64 ((i : Nat) : Int)] 117 (0, 0)) ∧ Keeps (fun _ => False) w W) j Wx .normal ac W') := by
      intro ac W' h3 h4
      have := HSB.out.1
      refine ⟨h4, ?_, h2.trans h4 (fun j hj h => by omega)⟩
      rw [hnext]; exact h3
    clear hb2 hxc hrl hnext hwl h1 h2 hx hsx hj
    generalize wordAt ls j = x at *
    gi_wp2_with fail
    refine ⟨trivial, rfl, CallsIn.inRound l2 ((callsIn_wide.2 HT.out).mono ?_)⟩
    rintro e W2 ⟨⟨v, rfl⟩, hb3, hk3⟩
    have HF := Lib.hid (And.intro hb3 hk3)
    clear hb3 hk3 HT
    gi_wp2
    exact HX.out _ _ HF.out.1 (((Keeps.refl _ Wx).alloc _).trans HF.out.2 (fun _ _ h => h))
  case done =>
    rintro W ⟨h1, h2⟩ hsW hK
    obtain ⟨nw, hnw⟩ : ∃ nw, (wds ls).length = nw := ⟨_, rfl⟩
    have hnw2 : (wordsOf ls).length = nw := by rw [← hnw, wds_length, wordsOf_length]
    rw [hnw, List.take_of_length_le (by omega)] at h1
    have hnwb : nw ≤ 1000000000 := by rw [← hnw2, wordsOf_length]; omega
    obtain ⟨s1, hs1⟩ : ∃ s1, hrun s.size 0 (wordsOf ls) = s1 := ⟨_, rfl⟩
    have hs1l : s1 < 2305843009213693951 := by rw [← hs1]; exact hrun_lt _ _ _ (by omega)
    rw [hs1] at h1
    obtain ⟨db, hdb⟩ : ∃ db, W0.heap.size = db := ⟨_, rfl⟩
    rw [hdb] at hK ⊢
    have hdb2 : db ≠ sb := by omega
    have hdb3 : w.heap.size ≤ db := by have := HSB.out.1; omega
    have hnl : l.length = n := by have := HL.out.1.len; simpa using this
    have hb2 : (W.alloc (.cells #[.int .u64 (n : Int)] 39)).heap[sb]? = some (.cells #[.int .u64 (s1 : Int), .int .u64 (nw : Int)] 117 (0, 0)) := (Below.heap_alloc _ _ _ (lt_of_heap h1)).trans h1
    have hxc : (W.alloc (.cells #[.int .u64 (n : Int)] 39)).cell? ⟨W.heap.size, 0, none⟩ = some (.int .u64 (n : Int)) := cellAt (World.alloc_heap_new W _) 0
    have HT := Lib.hid (take_one sb W.heap.size s1 nw n 1 _ hb2 hxc hs1l (by omega))
    have HW := Lib.hid (And.intro h1 (And.intro h2 (And.intro hK (And.intro hs1 (And.intro hnw2 (And.intro hnl hls))))))
    clear h1 h2 hK hs1 hnw hnw2 hb2 hxc hs1l hnl hls hsz hdb hsW q0 q1 q2 hk0
    have hwn : IntKind.u64.wrap (n : Int) = (n : Int) := wrap_nat _ _ rfl (by omega)
    gi_wp2_with fail
    refine ⟨trivial, rfl, (callsIn_wide.2 HT.out).mono ?_⟩
    rintro e W2 ⟨⟨v, rfl⟩, hb3, hk3⟩
    have HF : Hid (W2.heap[sb]? = some (.cells #[.int .u64 (hstep s1 (nw + 1) n : Int), .int .u64 ((nw + 1 : Nat) : Int)] 117 (0, 0)) ∧ Keeps (fun _ => False) w W2 ∧ W2.heap[db]? = some (.deferred (some []))) := by
      have h5 := ((Keeps.refl (fun j => j = sb) W).alloc (.cells #[.int .u64 (n : Int)] 39)).trans hk3 (fun _ _ h => h)
      refine ⟨hb3, HW.out.2.1.trans h5 (fun j hj h => by have := HSB.out.1; omega), (h5.block db (lt_of_heap HW.out.2.2.1) (fun h => hdb2 h)).trans HW.out.2.2.1⟩
    clear hb3 hk3 HT hwn
    gi_wp2_with fail
    gi_loopw [27] (fun i wr => OfRel w sb db n s.size nw ls l i wr) (fun i _ => n - (intOf i).toNat)
    case atStart =>
      refine ⟨0, Nat.zero_le _, rfl, ?_, HF.out.2.1, HF.out.2.2⟩
      obtain ⟨_, _, _, hs1, hnw2, hnl, _⟩ := HW.out
      rw [List.take_zero, List.append_nil, hrun_snoc, hs1, hnl, hnw2, Nat.zero_add]
      exact HF.out.1
    case round =>
      obtain ⟨k, hk, rfl, hb, hkp, hdf⟩ := hrel
      obtain ⟨sk, hsk⟩ : ∃ sk, hrun s.size 0 (wordsOf ls ++ [l.length] ++ (l.map num).take k) = sk := ⟨_, rfl⟩
      have hskl : sk < 2305843009213693951 := by rw [← hsk]; exact hrun_lt _ _ _ (by omega)
      rw [hsk] at hb
      have HB := Lib.hid (And.intro hb (And.intro hkp (And.intro hdf hsk)))
      clear hb hkp hdf hsk
      by_cases hlt : k < n
      · obtain ⟨x, hx⟩ : ∃ x, l[k]? = some x := ⟨_, List.getElem?_eq_getElem (by have := HW.out.2.2.2.2.2.1; omega)⟩
        have hxu := HL.out.2 x (List.mem_of_getElem? hx)
        obtain ⟨ba, oa, rfl⟩ := HL.out.1.isSome (by omega)
        have hcell : wr.cell? ⟨ba, oa + k, none⟩ = some (.int .u64 (x : Int)) := (HL.out.1.keep HB.out.2.1 (fun _ _ _ _ h => h)).cell (by rw [NV_get, hx]; rfl)
        have hb2 : (wr.alloc (.cells #[.int .u64 (num x : Int)] 39)).heap[sb]? = some (.cells #[.int .u64 (sk : Int), .int .u64 ((nw + 1 + k : Nat) : Int)] 117 (0, 0)) := (Below.heap_alloc _ _ _ (lt_of_heap HB.out.1)).trans HB.out.1
        have hxc : (wr.alloc (.cells #[.int .u64 (num x : Int)] 39)).cell? ⟨wr.heap.size, 0, none⟩ = some (.int .u64 (num x : Int)) := cellAt (World.alloc_heap_new wr _) 0
        have HT := Lib.hid (take_one sb wr.heap.size sk (nw + 1 + k) (num x) 1 _ hb2 hxc hskl (by have := num_lt x; omega))
        have HX := Lib.hid (And.intro hx hxu)
        clear hb2 hxc hskl hx hxu
        gi_wp2_with fail
        refine ⟨trivial, rfl, (callsIn_wide.2 (num_any x wr HX.out.2)).mono ?_⟩
        rintro e _ ⟨rfl, rfl⟩
        gi_wp2_with fail
        refine ⟨trivial, rfl, (callsIn_wide.2 HT.out).mono ?_⟩
        rintro e W3 ⟨⟨v, rfl⟩, hb3, hk3⟩
        have HR : Hid (OfRel w sb db n s.size nw ls l (.int .i64 ((k : Int) + 1)) W3) := by
          have h5 := ((Keeps.refl (fun j => j = sb) wr).alloc (.cells #[.int .u64 (num x : Int)] 39)).trans hk3 (fun _ _ h => h)
          refine ⟨k + 1, by omega, rfl, ?_, HB.out.2.1.trans h5 (fun j hj h => by have := HSB.out.1; omega), (h5.block db (lt_of_heap HB.out.2.2.1) (fun h => hdb2 h)).trans HB.out.2.2.1⟩
          have e1 : (l.map num).take (k + 1) = (l.map num).take k ++ [num x] := by
            have hkl : k < (l.map num).length := by rw [List.length_map]; exact (List.getElem?_eq_some_iff.1 HX.out.1).1
            rw [List.take_succ_eq_append_getElem hkl]
            congr 2
            rw [List.getElem_map]
            congr 1
            exact (List.getElem?_eq_some_iff.1 HX.out.1).2
          have e2 : (wordsOf ls ++ [l.length] ++ (l.map num).take k).length = nw + 1 + k := by
            have h8 := HW.out.2.2.2.2.1
            have h9 := HW.out.2.2.2.2.2.1
            simp only [List.length_append, List.length_cons, List.length_nil, List.length_take, List.length_map]
            omega
          rw [e1, ← List.append_assoc, hrun_snoc, e2, HB.out.2.2.2, Nat.zero_add]
          exact hb3
        clear hb3 hk3 HT hcell
        gi_wp2
        go_roundw
        case rel => exact HR.out
        case measure => simp [intOf]; omega
      · obtain rfl : k = n := by omega
        have hb2 : (wr.alloc (.cells #[.int .u64 0] 39)).heap[sb]? = some (.cells #[.int .u64 (sk : Int), .int .u64 ((nw + 1 + k : Nat) : Int)] 117 (0, 0)) := (Below.heap_alloc _ _ _ (lt_of_heap HB.out.1)).trans HB.out.1
        have hxc : (wr.alloc (.cells #[.int .u64 0] 39)).cell? ⟨wr.heap.size, 0, none⟩ = some (.int .u64 ((0 : Nat) : Int)) := cellAt (World.alloc_heap_new wr _) 0
        have HT := Lib.hid (take_one sb wr.heap.size sk (nw + 1 + k) 0 1 _ hb2 hxc hskl (by omega))
        clear hb2 hxc hskl
        gi_wp2_with fail
        refine ⟨trivial, rfl, (callsIn_wide.2 HT.out).mono ?_⟩
        rintro e W3 ⟨⟨v, rfl⟩, hb3, hk3⟩
        have hfin : hstep sk (nw + 1 + k + 1) 0 = hof s.data.toList l := by
          obtain ⟨_, _, _, _, h8, h9, h10⟩ := HW.out
          unfold hof allOf
          rw [h10, hlen, hrun_snoc]
          have e2 : (wordsOf ls ++ [l.length] ++ l.map num).length = nw + 1 + k := by
            simp only [List.length_append, List.length_cons, List.length_nil, List.length_map]
            omega
          have h11 := HB.out.2.2.2
          rw [List.take_of_length_le (by rw [List.length_map]; omega)] at h11
          rw [e2, h11, Nat.zero_add]
        rw [hfin] at hb3
        have c1 := cellAt hb3 0
        simp at c1
        have HF2 : Hid (Keeps (fun _ => False) w (W3.putObj db (.deferred none)) ∧ W3.heap[db]? = some (.deferred (some []))) := by
          have h5 := ((Keeps.refl (fun j => j = sb) wr).alloc (.cells #[.int .u64 0] 39)).trans hk3 (fun _ _ h => h)
          refine ⟨(HB.out.2.1.trans h5 (fun j hj h => by have := HSB.out.1; omega)).putObj _ (fun h => by omega), (h5.block db (lt_of_heap HB.out.2.2.1) (fun h => hdb2 h)).trans HB.out.2.2.1⟩
        clear hb3 hk3 HT hfin
        gi_wp2
        refine ⟨by simp, .inl ⟨_, _, rfl, run_takeDeferred HF2.out.2, ?_⟩⟩
        exact ⟨_, results_tmp rfl _ _ _, rfl, HF2.out.1⟩
end Go.Proofs.Ytpojkhjenbbodaa

namespace Go.Proofs.Ytpojkhjenbbodaa
open Go.RowKit Go.Shelf

/-- The sum of bytes. -/
def hby (s l : List UInt8) : Nat := hof s (wordsOf l ++ [l.length])
theorem hby_lt (s l : List UInt8) : hby s l < 2305843009213693951 := hof_lt _ _
theorem wordsOf_lt (l : List UInt8) : ∀ x ∈ wordsOf l, x < 72057594037927936 := by
  intro x hx
  simp only [wordsOf, List.mem_map] at hx
  obtain ⟨j, _, rfl⟩ := hx
  exact wordAt_lt _ _

set_option maxHeartbeats 1000000 in
theorem bytes_any (s : ByteArray) (sa : Option Addr) (n cap : Nat) (l : List UInt8) (w : World) (hs : s.size ≤ 1000000000) (hn : n ≤ 1000000000) (hl : Sl w sa n cap (BV l)) :
    Calls Try.prog 60 #[.string s, .slice sa n cap] w fun e w' => e = .returned (.int .u64 (hby s.data.toList l : Int)) ∧ Keeps (fun _ => False) w w' := by
  have hll : l.length = n := by have := hl.len; simpa using this
  have hwn : IntKind.u64.wrap (n : Int) = (n : Int) := wrap_nat _ _ rfl (by omega)
  have HL := Lib.hid (And.intro hl hll)
  clear hl hll
  go_enter Try.func60, Try.ntmps60
  go_wp2_with fail
  refine (words_any sa n cap w).mono ?_
  rintro e _ ⟨rfl, rfl⟩
  obtain ⟨w1, hw1⟩ : ∃ w1, w.alloc (.cells #[.slice sa n cap] 23) = w1 := ⟨_, rfl⟩
  have hk1 : Keeps (fun _ => False) w w1 := by rw [← hw1]; exact (Keeps.refl _ w).alloc _
  have hq1 : w1.heap[w.heap.size]? = some (.cells #[.slice sa n cap] 23 (0, 0)) := by rw [← hw1]; exact World.alloc_heap_new w _
  have hs1 : w1.heap.size = w.heap.size + 1 := by rw [← hw1]; simp
  rw [hw1]
  have hbo : ∃ b off, 0 < n → sa = some ⟨b, off, none⟩ ∧ b < w.heap.size := by
    by_cases h0 : 0 < n
    · obtain ⟨b, off, rfl⟩ := HL.out.1.isSome h0
      obtain ⟨c, hc⟩ : ∃ c, l[0]? = some c := ⟨_, List.getElem?_eq_getElem (by have := HL.out.2; omega)⟩
      have := World.block_lt_of_cell? w _ (HL.out.1.cell (j := 0) (by rw [BV_get, hc]; rfl))
      exact ⟨b, off, fun _ => ⟨rfl, this⟩⟩
    · exact ⟨0, 0, fun h => (h0 h).elim⟩
  obtain ⟨b, off, hbo⟩ := hbo
  have hseq := words_seq w.heap.size b off n cap sa l w1 hn (HL.out.1.keep hk1 (fun _ _ _ _ h => h)) (fun h => (hbo h).1) hq1
  have HT := Lib.hid (collect_any 83 _ (wordsOf l) 5 _ _ w1 (enters_of Try.func83 (by kernel_rfl) rfl) hseq (by
    rintro k (h | ⟨h1, h2⟩)
    · omega
    · have := (hbo h1).2; omega) (fun _ h => h.elim) (by rw [wordsOf_length]; have := HL.out.2; omega))
  have H1 := Lib.hid (And.intro hk1 hs1)
  clear hw1 hk1 hq1 hs1 hbo hseq
  go_wp2_with fail
  refine HT.out.mono ?_
  rintro e w2 ⟨sb, cb, rfl, hown, hk2⟩
  obtain ⟨nw, hnw⟩ : ∃ nw, (wordsOf l).length = nw := ⟨_, rfl⟩
  have hnwb : nw ≤ 200000000 := by rw [← hnw, wordsOf_length]; have := HL.out.2; omega
  rw [hnw] at hown ⊢
  have H2 := Lib.hid (And.intro hown (And.intro hk2 hnw))
  have hsz := hk2.size
  clear hown hk2 hnw HT
  go_wp2_with (at_builtin; refine wpList_pushN _ (n : Int) rfl _ _ rfl w1.heap.size sb nw cb (NV (wordsOf l)) rfl H2.out.1 rfl (by omega) hsz ?_; intro sa3 cap3 w3 hown2 hk2 hs2; have H3 := Lib.hid (And.intro hown2 (H2.out.2.1.pushed H2.out.1 (Nat.le_refl _) hk2)); clear hown2 hk2)
  have hxl : (wordsOf l ++ [n]).length = nw + 1 := by rw [List.length_append, H2.out.2.2]; rfl
  have HX : Hid (Sl w3 sa3 (nw + 1) cap3 (NV (wordsOf l ++ [n])) ∧ ∀ x ∈ wordsOf l ++ [n], U64 x) := by
    refine ⟨?_, ?_⟩
    · rw [NV_append]; exact Sl.of_own H3.out.1
    · intro x hx
      rcases List.mem_append.1 hx with h | h
      · have := wordsOf_lt l x h; unfold U64; omega
      · simp at h; unfold U64; omega
  clear hxl hs2
  go_wp2_with fail
  refine (of_any s sa3 (nw + 1) cap3 (wordsOf l ++ [n]) w3 hs (by omega) HX.out.1 HX.out.2).mono ?_
  rintro e w4 ⟨rfl, hk4⟩
  have HF : Hid (hof s.data.toList (wordsOf l ++ [n]) = hby s.data.toList l ∧ Keeps (fun _ => False) w w4) := by
    refine ⟨?_, (H1.out.1.trans H3.out.2 (fun _ _ h => h)).trans hk4 (fun _ _ h => h)⟩
    unfold hby
    rw [HL.out.2]
  clear hk4 hwn
  go_wp2
  go_ret
  exact ⟨by rw [HF.out.1]; rfl, HF.out.2⟩
end Go.Proofs.Ytpojkhjenbbodaa

namespace Go.Proofs.Ytpojkhjenbbodaa
open Go.RowKit

theorem lies_one (w : World) (x : Int) (fr : Nat × Nat) : Sl (w.alloc (.cells #[.int .u64 x] 39 fr)) (some ⟨w.heap.size, 0, none⟩) 1 1 [.int .u64 x] :=
  ⟨rfl, Nat.le_refl _, by omega, fun h => by simp at h, fun _ ad e => ⟨_, _, by cases e; rfl⟩, fun ad e j u hu => by
    cases e
    rw [addr_add, Nat.zero_add, cellAt (World.alloc_heap_new w _)]
    simpa using hu⟩

theorem of_one (s : ByteArray) (x : Nat) (w : World) (hs : s.size ≤ 1000000000) (hx : U64 x) :
    Calls Try.prog 75 #[.string s, .slice (some ⟨w.heap.size, 0, none⟩) 1 1] (w.alloc (.cells #[.int .u64 (x : Int)] 39)) fun e w' => e = .returned (.int .u64 (hof s.data.toList [x] : Int)) ∧ Keeps (fun _ => False) w w' :=
  (of_any s _ 1 1 [x] _ hs (by omega) (lies_one w x (0, 0)) (by simpa using hx)).mono fun _ _ ⟨h1, h2⟩ => ⟨h1, ((Keeps.refl _ w).alloc _).trans h2 (fun _ _ h => h)⟩

theorem lies_two (w : World) (x y : Int) (fr : Nat × Nat) : Sl (w.alloc (.cells #[.int .u64 x, .int .u64 y] 39 fr)) (some ⟨w.heap.size, 0, none⟩) 2 2 [.int .u64 x, .int .u64 y] :=
  ⟨rfl, Nat.le_refl _, by omega, fun h => by simp at h, fun _ ad e => ⟨_, _, by cases e; rfl⟩, fun ad e j u hu => by
    cases e
    rw [addr_add, Nat.zero_add, cellAt (World.alloc_heap_new w _)]
    simpa using hu⟩
theorem lies_three (w : World) (x y z : Int) (fr : Nat × Nat) : Sl (w.alloc (.cells #[.int .u64 x, .int .u64 y, .int .u64 z] 39 fr)) (some ⟨w.heap.size, 0, none⟩) 3 3 [.int .u64 x, .int .u64 y, .int .u64 z] :=
  ⟨rfl, Nat.le_refl _, by omega, fun h => by simp at h, fun _ ad e => ⟨_, _, by cases e; rfl⟩, fun ad e j u hu => by
    cases e
    rw [addr_add, Nat.zero_add, cellAt (World.alloc_heap_new w _)]
    simpa using hu⟩
theorem lies_four (w : World) (x y z u : Int) (fr : Nat × Nat) : Sl (w.alloc (.cells #[.int .u64 x, .int .u64 y, .int .u64 z, .int .u64 u] 39 fr)) (some ⟨w.heap.size, 0, none⟩) 4 4 [.int .u64 x, .int .u64 y, .int .u64 z, .int .u64 u] :=
  ⟨rfl, Nat.le_refl _, by omega, fun h => by simp at h, fun _ ad e => ⟨_, _, by cases e; rfl⟩, fun ad e j v hu => by
    cases e
    rw [addr_add, Nat.zero_add, cellAt (World.alloc_heap_new w _)]
    simpa using hu⟩
theorem of_two (s : ByteArray) (x y : Nat) (w : World) (hs : s.size ≤ 1000000000) (hx : U64 x) (hy : U64 y) :
    Calls Try.prog 75 #[.string s, .slice (some ⟨w.heap.size, 0, none⟩) 2 2] (w.alloc (.cells #[.int .u64 (x : Int), .int .u64 (y : Int)] 39)) fun e w' => e = .returned (.int .u64 (hof s.data.toList [x, y] : Int)) ∧ Keeps (fun _ => False) w w' :=
  (of_any s _ 2 2 [x, y] _ hs (by omega) (lies_two w x y (0, 0)) (by simp [hx, hy])).mono fun _ _ ⟨h1, h2⟩ => ⟨h1, ((Keeps.refl _ w).alloc _).trans h2 (fun _ _ h => h)⟩
theorem of_three (s : ByteArray) (x y z : Nat) (w : World) (hs : s.size ≤ 1000000000) (hx : U64 x) (hy : U64 y) (hz : U64 z) :
    Calls Try.prog 75 #[.string s, .slice (some ⟨w.heap.size, 0, none⟩) 3 3] (w.alloc (.cells #[.int .u64 (x : Int), .int .u64 (y : Int), .int .u64 (z : Int)] 39)) fun e w' => e = .returned (.int .u64 (hof s.data.toList [x, y, z] : Int)) ∧ Keeps (fun _ => False) w w' :=
  (of_any s _ 3 3 [x, y, z] _ hs (by omega) (lies_three w x y z (0, 0)) (by simp [hx, hy, hz])).mono fun _ _ ⟨h1, h2⟩ => ⟨h1, ((Keeps.refl _ w).alloc _).trans h2 (fun _ _ h => h)⟩
end Go.Proofs.Ytpojkhjenbbodaa

namespace Go.Proofs.Ytpojkhjenbbodaa
open Go.RowKit

def RwOut (w : World) (l : List UInt8) (out i : Value) (wr : World) : Prop :=
  ∃ (j : Nat) (so : Option Addr) (co : Nat), i = .int .i64 ((7 * j : Nat) : Int) ∧ j ≤ (l.length + 6) / 7 ∧ out = .slice so j co ∧ wr.ownsRow w.heap.size 39 1 (.slice so j co) j (NV ((wordsOf l).take j)) ∧ Keeps (fun _ => False) w wr
def RwIn (p : List UInt8) (i : Nat) (x k : Value) : Prop := ∃ q : Nat, k = .int .i64 ((i : Int) + (q : Int) - 1) ∧ q ≤ p.length ∧ x = .int .u64 (le (p.drop q) : Int)

set_option maxHeartbeats 1000000 in
set_option maxRecDepth 10000 in
theorem refWords_any (sa : Option Addr) (n cap : Nat) (l : List UInt8) (w : World) (hl : Sl w sa n cap (BV l)) (hn : n ≤ 1000000000) :
    Calls Try.prog 66 #[.slice sa n cap] w fun e w' => ∃ sa' cap', e = .returned (.slice sa' (wordsOf l).length cap') ∧ w'.ownsRow w.heap.size 39 1 (.slice sa' (wordsOf l).length cap') (wordsOf l).length (NV (wordsOf l)) ∧ Keeps (fun _ => False) w w' := by
  have hll : l.length = n := by have := hl.len; simpa using this
  have HL := Lib.hid (And.intro hl hll)
  clear hl hll
  go_enter Try.func66, Try.ntmps66
  go_wp2_with fail
  go_loopw [3, 4] (fun out i wr => RwOut w l out i wr) (fun _ i _ => n + 7 - (intOf i).toNat)
  case atStart => exact ⟨0, none, 0, rfl, Nat.zero_le _, rfl, by simpa [NV] using World.ownsRow_nil w _ _ _, Keeps.refl _ _⟩
  case round =>
    obtain ⟨j, so, co, rfl, hj, rfl, hown, hk⟩ := hrel
    have hsz := hk.size
    have HB := Lib.hid (And.intro hj (And.intro hown hk))
    clear hown hk hj
    by_cases hlt : 7 * j < n
    · obtain ⟨i, hi⟩ : ∃ i, 7 * j = i := ⟨_, rfl⟩
      obtain ⟨p, hp⟩ : ∃ p, (l.drop (7 * j)).take 7 = p := ⟨_, rfl⟩
      obtain ⟨m, hm⟩ : ∃ m, p.length = m := ⟨_, rfl⟩
      have hm2 : m = min 7 (n - i) := by rw [← hm, ← hp, List.length_take, List.length_drop, HL.out.2, hi]
      obtain ⟨b, off, rfl⟩ := HL.out.1.isSome (by omega)
      have hpc : ∀ q c, p[q]? = some c → wr.cell? ⟨b, off + (i + q), none⟩ = some (.int .u8 c.toNat) := by
        intro q c hc
        refine (HL.out.1.keep HB.out.2.2 (fun _ _ _ _ h => h)).cell ?_
        rw [BV_get]
        have : l[i + q]? = some c := by
          rw [← hp, List.getElem?_take] at hc
          split at hc
          · rw [List.getElem?_drop, hi] at hc; exact hc
          · cases hc
        rw [this]; rfl
      have e1 : (if (i : Int) + 7 < (n : Int) then (i : Int) + 7 else (n : Int)) = (i : Int) + (m : Int) := by split <;> omega
      have hlt2 : (i : Int) < (n : Int) := by omega
      have hm7 : m ≤ 7 := by omega
      have him : i + m ≤ n := by omega
      have HP := Lib.hid (And.intro hpc (And.intro hp (And.intro hm (And.intro hi hm2))))
      rw [hi]
      clear hpc hp hm hi hm2
      obtain ⟨wo, hwo⟩ : ∃ wo : World, wr = wo := ⟨_, rfl⟩
      subst hwo
      obtain ⟨wo, hwo⟩ : ∃ wo : World, wo = wr := ⟨_, rfl⟩
      rw [← hwo] at HB HP hsz ⊢
      clear hwo wr
      go_wp2_with fail
      go_loopw [5, 6] (fun x k wx => RwIn p i x k ∧ wx = wo) (fun _ k _ => (intOf k + 1 - i).toNat)
      case atStart => exact ⟨⟨m, rfl, by rw [HP.out.2.2.1]; exact Nat.le_refl _, by rw [List.drop_of_length_le (by rw [HP.out.2.2.1]; exact Nat.le_refl _)]; rfl⟩, rfl⟩
      case round =>
        obtain ⟨⟨q, rfl, hq, rfl⟩, rfl⟩ := hrel
        cases q with
        | zero =>
          have t1 : ¬ (i : Int) ≤ (i : Int) + ((0 : Nat) : Int) - 1 := by omega
          have hw : le (p.drop 0) = wordAt l j := by rw [List.drop_zero]; unfold wordAt; rw [HP.out.2.1]
          have hwl := wordAt_lt l j
          rw [hw]
          obtain ⟨x, hx⟩ : ∃ x, wordAt l j = x := ⟨_, rfl⟩
          rw [hx]
          have HX := Lib.hid hx
          have HO := Lib.hid HB.out.2.1
          have hjb : j ≤ 1000000000 := by have := HB.out.1; have := HL.out.2; omega
          clear hw hwl hx
          generalize (i : Int) + ((0 : Nat) : Int) - 1 = kk at *
          go_wp2_with (at_builtin; refine wpList_pushN _ (x : Int) rfl _ _ rfl w.heap.size so j co (NV ((wordsOf l).take j)) rfl HO.out rfl (by omega) hsz ?_; intro sa2 cap2 w2 hown2 hk2 hs2; have HR := Lib.hid (And.intro hown2 hk2); clear hown2 hk2)
          go_roundw
          case rel =>
            obtain ⟨_, h2, h3, h4, h5⟩ := HP.out
            have hlt3 : j < (wordsOf l).length := by rw [wordsOf_length, HL.out.2]; omega
            refine ⟨j + 1, sa2, cap2, by rw [← h4]; go_num, by have := HL.out.2; omega, rfl, ?_, HB.out.2.2.pushed HO.out (Nat.le_refl _) HR.out.2⟩
            have e : NV ((wordsOf l).take (j + 1)) = NV ((wordsOf l).take j) ++ [.int .u64 (x : Int)] := by
              rw [List.take_succ_eq_append_getElem hlt3, NV_append]
              congr 1
              simp only [NV, List.map_cons, List.map_nil, wordsOf, List.getElem_map, List.getElem_range]
              rw [HX.out]
            rw [e]
            exact HR.out.1
          case measure => simp [intOf]; omega
        | succ q =>
          have e2 : (i : Int) + ((q + 1 : Nat) : Int) - 1 = ((i + q : Nat) : Int) := by omega
          have hqm : q < p.length := by omega
          have hqm2 : q < m := by have := HP.out.2.2.1; omega
          obtain ⟨c, hc⟩ : ∃ c, p[q]? = some c := ⟨_, List.getElem?_eq_getElem hqm⟩
          have hcell := HP.out.1 q c hc
          have hd : le (p.drop q) = c.toNat + 256 * le (p.drop (q + 1)) := by
            rw [List.drop_eq_getElem_cons hqm, (List.getElem?_eq_some_iff.1 hc).2]; rfl
          have hb1 := le_lt (p.drop (q + 1))
          have hb2 : (p.drop (q + 1)).length ≤ 6 := by have := HP.out.2.2.1; rw [List.length_drop]; omega
          have hb3 : 256 ^ (p.drop (q + 1)).length ≤ 281474976710656 := Nat.le_trans (Nat.pow_le_pow_right (by decide) hb2) (by decide)
          obtain ⟨x, hx⟩ : ∃ x, le (p.drop (q + 1)) = x := ⟨_, rfl⟩
          rw [hx] at hd hb1 ⊢
          have hcl := c.toNat_lt
          have e3 : IntKind.u64.wrap ((x : Int) * 256) = ((x * 256 : Nat) : Int) := by have := Nat.lt_of_lt_of_le hb1 hb3; rw [IntKind.wrap_u64]; omega
          have e4 : IntKind.u64.wrap (c.toNat : Int) = (c.toNat : Int) := wrap_nat _ _ rfl (by omega)
          have e5 : IntKind.u64.wrap (((x * 256 : Nat) : Int) + (c.toNat : Int)) = ((c.toNat + 256 * x : Nat) : Int) := by have := Nat.lt_of_lt_of_le hb1 hb3; rw [IntKind.wrap_u64]; omega
          have t1 : (i : Int) ≤ ((i + q : Nat) : Int) := by omega
          have t2 : ((i + q : Nat) : Int) < (n : Int) := by omega
          have t3 : (0 : Int) ≤ ((i + q : Nat) : Int) := by omega
          have HD := Lib.hid hd
          rw [e2]
          have E2 : ((i + q : Nat) : Int) - 1 = (i : Int) + (q : Int) - 1 := by omega
          have HE := Lib.hid E2
          clear hd hb1 hb2 hb3 hx hc e2 E2
          generalize x * 256 = x2 at *
          generalize c.toNat + 256 * x = x3 at *
          have HKK : Hid (∀ kk, kk = i + q → q < (kk : Int) - i + 1) := fun kk h => by omega
          obtain ⟨kk, hkk⟩ : ∃ kk, i + q = kk := ⟨_, rfl⟩
          have HK2 := Lib.hid hkk
          rw [hkk] at hcell t1 t2 t3 HE ⊢
          clear hkk
          go_wp2
          refine ⟨⟨⟨q, by rw [HE.out], by omega, by rw [HD.out]⟩, trivial⟩, ?_⟩
          have := HK2.out
          simp [intOf]
          omega
    · have hj : j = (wordsOf l).length := by have h1 := HB.out.1; have h2 := HL.out.2; rw [wordsOf_length]; omega
      have t1 : ¬ ((7 * j : Nat) : Int) < (n : Int) := by omega
      have HJ := Lib.hid hj
      clear hj
      generalize 7 * j = i at *
      go_wp2
      go_ret
      have h1 := HB.out.2
      rw [HJ.out, List.take_length] at h1
      rw [HJ.out]
      exact ⟨so, co, by simp, h1.1, h1.2⟩
end Go.Proofs.Ytpojkhjenbbodaa

namespace Go.Proofs.Ytpojkhjenbbodaa
open Go.RowKit

theorem addm_num (x k : Nat) : addm x k = num (x + k) := by unfold addm num; omega

def RoA (w : World) (l : List Nat) (xs : List Nat) (all i : Value) (wr : World) : Prop :=
  ∃ (k : Nat) (sa : Option Addr) (cap : Nat), k ≤ l.length ∧ i = .int .i64 (k : Int) ∧ all = .slice sa (xs.length + k) cap ∧ wr.ownsRow w.heap.size 39 1 (.slice sa (xs.length + k) cap) (xs.length + k) (NV (xs ++ (l.map num).take k)) ∧ Keeps (fun _ => False) w wr
def RoB (w : World) (sz : Nat) (all : List Nat) (v : Value) (s i : Value) (wr : World) : Prop :=
  ∃ k : Nat, k ≤ all.length ∧ i = .int .i64 (k : Int) ∧ s = .int .u64 (hrun sz 0 (all.take k) : Nat) ∧ wr.ownsRow w.heap.size 39 1 v all.length (NV all) ∧ Keeps (fun _ => False) w wr

set_option maxHeartbeats 1000000 in
set_option maxRecDepth 10000 in
theorem refOf_any (s : ByteArray) (sa : Option Addr) (n cap : Nat) (l : List Nat) (w : World) (hs : s.size ≤ 1000000000) (hn : n ≤ 1000000000) (hl : Sl w sa n cap (NV l)) (hu : ∀ x ∈ l, U64 x) :
    Calls Try.prog 45 #[.string s, .slice sa n cap] w fun e w' => e = .returned (.int .u64 (hof s.data.toList l : Int)) ∧ Keeps (fun _ => False) w w' := by
  have hnl : l.length = n := by have := hl.len; simpa using this
  obtain ⟨capb, w1, hrun, hsl, hk1, hz1⟩ := run_bytes s hs w
  have hls : s.data.toList.length = s.size := by simp
  have HT := Lib.hid (refWords_any (some ⟨w.heap.size, 0, none⟩) s.size capb s.data.toList w1 hsl hs)
  obtain ⟨ls, hlsd⟩ : ∃ ls, s.data.toList = ls := ⟨_, rfl⟩
  rw [hlsd] at HT hls
  have hwl := wordsOf_length ls
  have hwf : ∀ x ∈ wordsOf ls, x < 72057594037927936 := by
    intro x hx
    simp only [wordsOf, List.mem_map] at hx
    obtain ⟨j, _, rfl⟩ := hx
    exact wordAt_lt _ _
  have HL := Lib.hid (And.intro hl (And.intro hu (And.intro hnl (And.intro hk1 (And.intro hlsd (And.intro hls (And.intro hwl hwf)))))))
  clear hl hu hnl hk1 hlsd hls hsl hz1 hwl hwf
  obtain ⟨nw, hnw⟩ : ∃ nw, (wordsOf ls).length = nw := ⟨_, rfl⟩
  rw [hnw] at HT
  have hnwb : nw ≤ 1000000000 := by rw [← hnw]; have := HL.out; omega
  have HNW := Lib.hid hnw
  clear hnw
  have hwn : IntKind.u64.wrap (n : Int) = (n : Int) := wrap_nat _ _ rfl (by omega)
  go_enter Try.func45, Try.ntmps45
  go_wp2_with fail
  refine HT.out.mono ?_
  rintro e w2 ⟨sa2, cap2, rfl, hown, hk2⟩
  have hk3 : Keeps (fun _ => False) w w2 := HL.out.2.2.2.1.trans hk2 (fun _ _ h => h)
  have hown' := own_base (base' := w.heap.size) hown (fun k e => Nat.le_trans HL.out.2.2.2.1.size (hown.lt k e).1)
  have HB := Lib.hid (And.intro hown' hk3)
  have hsz := hk3.size
  clear hown hown' hk2 hk3 HT hrun
  go_wp2_with (at_builtin; refine wpList_pushN _ (n : Int) rfl _ _ rfl w.heap.size sa2 nw cap2 (NV (wordsOf ls)) rfl HB.out.1 rfl (by omega) hsz ?_; intro sa3 cap3 w3 hown2 hk2 hs2; have HR := Lib.hid (And.intro hown2 (HB.out.2.pushed HB.out.1 (Nat.le_refl _) hk2)); clear hown2 hk2)
  obtain ⟨xs, hxs⟩ : ∃ xs, wordsOf ls ++ [n] = xs := ⟨_, rfl⟩
  have hxl : xs.length = nw + 1 := by rw [← hxs, List.length_append, HNW.out]; rfl
  have HX := Lib.hid (And.intro hxs hxl)
  have HST : Hid (RoA w l xs (.slice sa3 (nw + 1) cap3) (.int .i64 0) w3) := by
    refine ⟨0, sa3, cap3, Nat.zero_le _, rfl, by rw [hxl], ?_, HR.out.2⟩
    rw [hxl, List.take_zero, List.append_nil, ← hxs, NV_append]
    exact HR.out.1
  clear hxs hxl HR hwn hs2
  go_wp2_with fail
  go_loopw [5, 6] (fun all i wr => RoA w l xs all i wr) (fun _ i _ => n - (intOf i).toNat)
  case atStart => exact HST.out
  case round =>
    clear HST
    obtain ⟨k, sa4, cap4, hk, rfl, rfl, hown, hkp⟩ := hrel
    have hszr := hkp.size
    obtain ⟨M, hM⟩ : ∃ M, xs.length + k = M := ⟨_, rfl⟩
    have hMb : M ≤ 2000000001 := by have := HX.out.2; have := HL.out.2.2.1; omega
    rw [hM] at hown ⊢
    have HO := Lib.hid (And.intro hown (And.intro hkp (And.intro hM hk)))
    clear hown hkp hM hk
    by_cases hlt : k < n
    · obtain ⟨x, hx⟩ : ∃ x, l[k]? = some x := ⟨_, List.getElem?_eq_getElem (by have := HL.out.2.2.1; omega)⟩
      obtain ⟨ba, oa, rfl⟩ := HL.out.1.isSome (by omega)
      have hcell : wr.cell? ⟨ba, oa + k, none⟩ = some (.int .u64 (x : Int)) := (HL.out.1.keep HO.out.2.1 (fun _ _ _ _ h => h)).cell (by rw [NV_get, hx]; rfl)
      have e1 : (x : Int) % 2305843009213693951 = (num x : Int) := by unfold num; omega
      have e2 : (x : Int).tmod 2305843009213693951 = (num x : Int) := by unfold num; rw [Int.tmod_eq_emod_of_nonneg (by omega)]; omega
      have HXX := Lib.hid hx
      clear hx
      go_wp2_with (at_builtin; refine wpList_pushN _ (num x : Int) rfl _ _ rfl w.heap.size sa4 M cap4 (NV (xs ++ (l.map num).take k)) rfl HO.out.1 rfl (by omega) hszr ?_; intro sa5 cap5 w5 hown2 hk2 hs2; have HR := Lib.hid (And.intro hown2 (HO.out.2.1.pushed HO.out.1 (Nat.le_refl _) hk2)); clear hown2 hk2)
      go_roundw
      case rel =>
        obtain ⟨h1, h2⟩ := HR.out
        refine ⟨k + 1, sa5, cap5, by have := HL.out.2.2.1; omega, by go_num, by rw [← HO.out.2.2.1]; rfl, ?_, h2⟩
        have e1 : (l.map num).take (k + 1) = (l.map num).take k ++ [num x] := by
          have hkl : k < (l.map num).length := by rw [List.length_map]; exact (List.getElem?_eq_some_iff.1 HXX.out).1
          rw [List.take_succ_eq_append_getElem hkl]
          congr 2
          rw [List.getElem_map]
          congr 1
          exact (List.getElem?_eq_some_iff.1 HXX.out).2
        rw [e1, ← List.append_assoc, NV_append, ← Nat.add_assoc, HO.out.2.2.1]
        exact h1
      case measure => simp [intOf]; omega
    · obtain rfl : k = n := by have := HO.out.2.2.2; have := HL.out.2.2.1; omega
      go_wp2_with (at_builtin; refine wpList_pushN _ 0 rfl _ _ rfl w.heap.size sa4 M cap4 (NV (xs ++ (l.map num).take k)) rfl HO.out.1 rfl (by omega) hszr ?_; intro sa5 cap5 w5 hown2 hk2 hs2; have HR := Lib.hid (And.intro hown2 (HO.out.2.1.pushed HO.out.1 (Nat.le_refl _) hk2)); clear hown2 hk2)
      have hwz : IntKind.u64.wrap (s.size : Int) = (s.size : Int) := wrap_nat _ _ rfl (by omega)
      obtain ⟨all, hall⟩ : ∃ all, allOf ls l = all := ⟨_, rfl⟩
      have hal : all = xs ++ (l.map num).take k ++ [0] := by
        rw [← hall, ← HX.out.1, List.take_of_length_le (by rw [List.length_map, HL.out.2.2.1]; exact Nat.le_refl _)]
        unfold allOf
        rw [HL.out.2.2.1]
      have hall2 : all.length = M + 1 := by
        rw [hal, List.length_append, List.length_append, List.length_take, List.length_map, HL.out.2.2.1, Nat.min_self, HO.out.2.2.1]; rfl
      have hbnd : ∀ x ∈ all, x < 2305843009213693952 := by
        intro x hx
        rw [← hall] at hx
        unfold allOf at hx
        simp only [List.mem_append, List.mem_singleton, List.mem_map] at hx
        rcases hx with ((h | h) | ⟨y, _, rfl⟩) | h
        · have := HL.out.2.2.2.2.2.2.2 x h; omega
        · have := HL.out.2.2.1; omega
        · have := num_lt y; omega
        · omega
      have HA := Lib.hid (And.intro hall (And.intro hall2 hbnd))
      have HST2 : Hid (RoB w s.size all (.slice sa5 (M + 1) cap5) (.int .u64 (s.size : Int)) (.int .i64 0) w5) := by
        refine ⟨0, Nat.zero_le _, rfl, by simp [hrun], ?_, HR.out.2⟩
        rw [hall2, hal, NV_append]
        exact HR.out.1
      have hg5 : ∃ g, sa5 = some ⟨g, 0, none⟩ := by
        rcases own_addr HR.out.1 with ⟨_, h, _⟩ | h
        · omega
        · exact h
      obtain ⟨g, rfl⟩ := hg5
      clear hall hal hall2 hbnd HR
      go_wp2_with fail
      go_loopw [7, 8] (fun s_ i wr => RoB w s.size all (.slice (some ⟨g, 0, none⟩) (M + 1) cap5) s_ i wr) (fun _ i _ => M + 1 - (intOf i).toNat)
      case atStart => exact HST2.out
      case round =>
        clear HST2
        obtain ⟨q, hq, rfl, rfl, hownq, hkq⟩ := hrel
        obtain ⟨sk, hsk⟩ : ∃ sk, hrun s.size 0 (all.take q) = sk := ⟨_, rfl⟩
        rw [hsk]
        have hskl : sk < 2305843009213693951 := by rw [← hsk]; exact hrun_lt _ _ _ (by omega)
        have HQ := Lib.hid (And.intro hownq (And.intro hkq (And.intro hsk (And.intro hq hskl))))
        clear hsk hq hskl
        by_cases hltq : q < M + 1
        · obtain ⟨x, hx⟩ : ∃ x, all[q]? = some x := ⟨_, List.getElem?_eq_getElem (by have := HA.out.2.1; omega)⟩
          have hxb := HA.out.2.2 x (List.mem_of_getElem? hx)
          have hcell : wr.cell? ⟨g, q, none⟩ = some (.int .u64 (x : Int)) := own_cell hownq q _ (by rw [NV_get, hx]; rfl)
          have HXX := Lib.hid (And.intro hx hxb)
          clear hownq hkq hx hxb
          have t1 : (q : Int) < (M : Int) + 1 := by omega
          have t0 : (0 : Int) ≤ (q : Int) := by omega
          have t2 : (q : Int) < ((M + 1 : Nat) : Int) := by omega
          obtain ⟨q1, hq1⟩ : ∃ q1, q + 1 = q1 := ⟨_, rfl⟩
          have e1 : IntKind.i64.wrap ((q : Int) + 1) = (q1 : Int) := by rw [← hq1]; exact IntWalk.i64_in _ (by omega)
          have e2 : IntKind.u64.wrap (q1 : Int) = (q1 : Int) := wrap_nat _ _ rfl (by omega)
          have HQ1 := Lib.hid hq1
          clear hq1
          obtain ⟨wo, hwo⟩ : ∃ wo : World, wr = wo := ⟨_, rfl⟩
          have HWO := Lib.hid hwo
          rw [hwo] at hcell ⊢
          have HQ2 : Hid (wo.ownsRow w.heap.size 39 1 (.slice (some ⟨g, 0, none⟩) (M + 1) cap5) all.length (NV all) ∧ Keeps (fun _ => False) w wo) := by rw [← hwo]; exact ⟨HQ.out.1, HQ.out.2.1⟩
          clear hwo
          go_wp2_with fail
          refine z_begin (fun w' => w'.cell? ⟨g, q, none⟩ = some (.int .u64 (x : Int))) 12 (by kernel_rfl) (hcell) (fun hHeld => ?_)
          refine z_take 0 (v := ?_) rfl (by kernel_rfl) (by kernel_rfl) (by kernel_rfl) (by kernel_rfl) (fun _ _ _ h => h) hHeld (by rfl) (fun w hSw => ?_) ?_
          rotate_left
          · have hSw1 := hSw; clear hSw; simp only [List.getElem_toArray, List.getElem_cons_zero]; go_simp; try rfl
          simp only [Act.put, List.getElem_toArray, List.getElem_cons_zero, List.setIfInBounds_toArray, List.set_cons_zero, List.set_cons_succ]
          refine z_take 2 (v := ?_) rfl (by kernel_rfl) (by kernel_rfl) (by kernel_rfl) (by kernel_rfl) (fun _ _ _ h => h) hHeld (by rfl) (fun w hSw => ?_) ?_
          rotate_left
          · have hSw1 := hSw; clear hSw; simp only [List.getElem_toArray, List.getElem_cons_zero, List.getElem_cons_succ]; go_simp; try rfl
          simp only [Act.put, List.getElem_toArray, List.getElem_cons_zero, List.getElem_cons_succ, List.setIfInBounds_toArray, List.set_cons_zero, List.set_cons_succ]
          refine z_take 3 (v := ?_) rfl (by kernel_rfl) (by kernel_rfl) (by kernel_rfl) (by kernel_rfl) (fun _ _ _ h => h) hHeld (by rfl) (fun w hSw => ?_) ?_
          rotate_left
          · have hSw1 := hSw; clear hSw; simp only [List.getElem_toArray, List.getElem_cons_zero, List.getElem_cons_succ]; go_simp; try rfl
          simp only [Act.put, List.getElem_toArray, List.getElem_cons_zero, List.getElem_cons_succ, List.setIfInBounds_toArray, List.set_cons_zero, List.set_cons_succ]
          refine z_take 4 (v := ?_) rfl (by kernel_rfl) (by kernel_rfl) (by kernel_rfl) (by kernel_rfl) (fun _ _ _ h => h) hHeld (by rfl) (fun w hSw => ?_) ?_
          rotate_left
          · have hSw1 := hSw; clear hSw; simp only [List.getElem_toArray, List.getElem_cons_zero, List.getElem_cons_succ]; go_simp; try rfl
          simp only [Act.put, List.getElem_toArray, List.getElem_cons_zero, List.getElem_cons_succ, List.setIfInBounds_toArray, List.set_cons_zero, List.set_cons_succ]
          refine z_take 5 (v := ?_) rfl (by kernel_rfl) (by kernel_rfl) (by kernel_rfl) (by kernel_rfl) (fun _ _ _ h => h) hHeld (by rfl) (fun w hSw => ?_) ?_
          rotate_left
          · have hSw1 := hSw; clear hSw; simp only [List.getElem_toArray, List.getElem_cons_zero, List.getElem_cons_succ]; go_simp; try rfl
          simp only [Act.put, List.getElem_toArray, List.getElem_cons_zero, List.getElem_cons_succ, List.setIfInBounds_toArray, List.set_cons_zero, List.set_cons_succ]
          refine z_take 6 (v := ?_) rfl (by kernel_rfl) (by kernel_rfl) (by kernel_rfl) (by kernel_rfl) (fun _ _ _ h => h) hHeld (by rfl) (fun w hSw => ?_) ?_
          rotate_left
          · have hSw1 := hSw; clear hSw; simp only [List.getElem_toArray, List.getElem_cons_zero, List.getElem_cons_succ]; go_simp; try rfl
          simp only [Act.put, List.getElem_toArray, List.getElem_cons_zero, List.getElem_cons_succ, List.setIfInBounds_toArray, List.set_cons_zero, List.set_cons_succ]
          refine z_take 7 (v := ?_) rfl (by kernel_rfl) (by kernel_rfl) (by kernel_rfl) (by kernel_rfl) (fun _ _ _ h => h) hHeld (by rfl) (fun w hSw => ?_) ?_
          rotate_left
          · have hSw1 := hSw; clear hSw; simp only [List.getElem_toArray, List.getElem_cons_zero, List.getElem_cons_succ]; go_simp; try rfl
          simp only [Act.put, List.getElem_toArray, List.getElem_cons_zero, List.getElem_cons_succ, List.setIfInBounds_toArray, List.set_cons_zero, List.set_cons_succ]
          refine z_take 8 (v := ?_) rfl (by kernel_rfl) (by kernel_rfl) (by kernel_rfl) (by kernel_rfl) (fun _ _ _ h => h) hHeld (by rfl) (fun w hSw => ?_) ?_
          rotate_left
          · have hSw1 := hSw; clear hSw; simp only [List.getElem_toArray, List.getElem_cons_zero, List.getElem_cons_succ]; go_simp; try rfl
          simp only [Act.put, List.getElem_toArray, List.getElem_cons_zero, List.getElem_cons_succ, List.setIfInBounds_toArray, List.set_cons_zero, List.set_cons_succ]
          refine z_one 1 rfl (by kernel_rfl) (by rfl) (fun K hK => ?_)
          simp only [List.getElem_toArray, List.getElem_cons_zero, List.getElem_cons_succ]
          go_simp
          refine (refMul_any 37 sk _).mono ?_
          rintro e wa ⟨rfl, hka⟩
          have HKA := Lib.hid hka
          clear hka
          refine hK _ _ (Or.inr ?_) (fun hHeld => ?_)
          · exact (HKA.out.cell (World.block_lt_of_cell? _ _ hHeld) (fun h => h)).trans hHeld
          clear hK K
          replace hHeld := hHeld.resolve_left (by decide)
          try simp only [Act.put, List.setIfInBounds_toArray, List.set_cons_zero, List.set_cons_succ]
          refine z_one 9 rfl (by kernel_rfl) (by rfl) (fun K hK => ?_)
          simp only [List.getElem_toArray, List.getElem_cons_zero, List.getElem_cons_succ]
          go_simp
          refine (refAdd_any x q1 _).mono ?_
          rintro e _ ⟨rfl, rfl⟩
          refine hK _ _ (Or.inr ?_) (fun hHeld => ?_)
          · exact hHeld
          clear hK K
          replace hHeld := hHeld.resolve_left (by decide)
          try simp only [Act.put, List.setIfInBounds_toArray, List.set_cons_zero, List.set_cons_succ]
          refine z_one 10 rfl (by kernel_rfl) (by rfl) (fun K hK => ?_)
          simp only [List.getElem_toArray, List.getElem_cons_zero, List.getElem_cons_succ]
          go_simp
          refine (refAdd_any (mulm 37 sk) (addm x q1) _).mono ?_
          rintro e _ ⟨rfl, rfl⟩
          refine hK _ _ (Or.inr ?_) (fun hHeld => ?_)
          · exact hHeld
          clear hK K
          replace hHeld := hHeld.resolve_left (by decide)
          try simp only [Act.put, List.setIfInBounds_toArray, List.set_cons_zero, List.set_cons_succ]
          refine z_one 11 rfl (by kernel_rfl) (by rfl) (fun K hK => ?_)
          simp only [List.getElem_toArray, List.getElem_cons_zero, List.getElem_cons_succ]
          go_simp
          refine hK _ _ (Or.inr ?_) (fun hHeld => ?_)
          · exact hHeld
          clear hK K
          replace hHeld := hHeld.resolve_left (by decide)
          try simp only [Act.put, List.setIfInBounds_toArray, List.set_cons_zero, List.set_cons_succ]
          refine z_done (by kernel_rfl) ?_ _
          obtain ⟨y, hy⟩ : ∃ y, addm (mulm 37 sk) (addm x q1) = y := ⟨_, rfl⟩
          rw [hy]
          have HY := Lib.hid hy
          clear hHeld hcell hy
          go_wp2_with fail
          refine (refPow_any y 17 wa (by unfold U64; omega)).mono ?_
          rintro e wb ⟨rfl, hkb⟩
          have HRB : Hid (RoB w s.size all (.slice (some ⟨g, 0, none⟩) (M + 1) cap5) (.int .u64 (powm y 17 : Int)) (.int .i64 (q1 : Int)) wb) := by
            have hql := (List.getElem?_eq_some_iff.1 HXX.out.1).1
            have kk := (((HQ2.out.2.drew).trans HKA.out (fun _ _ h => h)).trans hkb (fun _ _ h => h))
            refine ⟨q + 1, hql, by rw [HQ1.out], ?_, own_keep HQ2.out.1 (((Keeps.refl _ wo).drew.trans HKA.out (fun _ _ h => h)).trans hkb (fun _ _ h => h)) (fun _ _ h => h), kk⟩
            rw [List.take_succ_eq_append_getElem hql, hrun_snoc, HQ.out.2.2.1, (List.getElem?_eq_some_iff.1 HXX.out.1).2, List.length_take, Nat.min_eq_left (by omega), Nat.zero_add]
            unfold hstep
            rw [← HY.out, ← HQ1.out, addm_num x]
          clear hkb
          go_wp2
          go_roundw
          case rel => exact HRB.out
          case measure => have := HQ1.out; simp [intOf]; omega
        · obtain rfl : q = M + 1 := by have := HQ.out.2.2.2.1; have := HA.out.2.1; omega
          have hfin : sk = hof s.data.toList l := by
            have h1 := HQ.out.2.2.1
            rw [List.take_of_length_le (by rw [HA.out.2.1]; exact Nat.le_refl _)] at h1
            unfold hof
            rw [HL.out.2.2.2.2.1, HL.out.2.2.2.2.2.1, HA.out.1, h1]
          have HF := Lib.hid (And.intro hfin hkq)
          clear hfin hownq hkq
          go_wp2
          go_ret
          exact ⟨by rw [HF.out.1]; rfl, HF.out.2⟩
end Go.Proofs.Ytpojkhjenbbodaa

namespace Go.Proofs.Ytpojkhjenbbodaa
open Go.RowKit
theorem refOf_one (s : ByteArray) (x : Nat) (w : World) (hs : s.size ≤ 1000000000) (hx : U64 x) :
    Calls Try.prog 45 #[.string s, .slice (some ⟨w.heap.size, 0, none⟩) 1 1] (w.alloc (.cells #[.int .u64 (x : Int)] 39)) fun e w' => e = .returned (.int .u64 (hof s.data.toList [x] : Int)) ∧ Keeps (fun _ => False) w w' :=
  (refOf_any s _ 1 1 [x] _ hs (by omega) (lies_one w x (0, 0)) (by simpa using hx)).mono fun _ _ ⟨h1, h2⟩ => ⟨h1, ((Keeps.refl _ w).alloc _).trans h2 (fun _ _ h => h)⟩
theorem refOf_three (s : ByteArray) (x y z : Nat) (w : World) (hs : s.size ≤ 1000000000) (hx : U64 x) (hy : U64 y) (hz : U64 z) :
    Calls Try.prog 45 #[.string s, .slice (some ⟨w.heap.size, 0, none⟩) 3 3] (w.alloc (.cells #[.int .u64 (x : Int), .int .u64 (y : Int), .int .u64 (z : Int)] 39)) fun e w' => e = .returned (.int .u64 (hof s.data.toList [x, y, z] : Int)) ∧ Keeps (fun _ => False) w w' :=
  (refOf_any s _ 3 3 [x, y, z] _ hs (by omega) (lies_three w x y z (0, 0)) (by simp [hx, hy, hz])).mono fun _ _ ⟨h1, h2⟩ => ⟨h1, ((Keeps.refl _ w).alloc _).trans h2 (fun _ _ h => h)⟩
end Go.Proofs.Ytpojkhjenbbodaa

namespace Go.Proofs.Ytpojkhjenbbodaa
open Go.RowKit

/-- Numbers with a sign, as cells. -/
def IV (l : List Int) : List Value := l.map fun x => .int .i64 x
@[simp] theorem IV_length (l : List Int) : (IV l).length = l.length := by simp [IV]
theorem IV_append (a b : List Int) : IV (a ++ b) = IV a ++ IV b := by simp [IV]
theorem IV_get (l : List Int) (j : Nat) : (IV l)[j]? = l[j]?.map fun x => .int .i64 x := by simp [IV]

theorem wf_u64 {z : Int} (h : (Lit.int .u64 z).wf = true) : 0 ≤ z ∧ z < 18446744073709551616 := by have := bounds_u64 h; omega
theorem wf_u8 {z : Int} (h : (Lit.int .u8 z).wf = true) : 0 ≤ z ∧ z < 256 := by have := bounds_u8 h; omega
theorem wf_i64 {z : Int} (h : (Lit.int .i64 z).wf = true) : -9223372036854775808 ≤ z ∧ z ≤ 9223372036854775807 := bounds_i64 h

theorem sl_row {k : IntKind} {w : World} {a : Option Addr} {len cap : Nat} {zs : List Int}
    (h : (a = none ∧ len = 0 ∧ cap = 0 ∧ zs = []) ∨ ∃ x, a = some x ∧ len ≤ cap ∧ cap ≤ maxLen ∧ zs.length = cap ∧ (∀ i, i < zs.length → w.cell? (x.add i) = some (.int k (zs.getD i 0))) ∧ ∀ n ∈ zs, (Lit.int k n).wf = true) :
    Sl w a len cap ((zs.take len).map (Value.int k)) ∧ ∀ z ∈ zs.take len, (Lit.int k z).wf = true := by
  rcases h with ⟨rfl, rfl, rfl, rfl⟩ | ⟨x, rfl, hl, hm, hz, hc, hw⟩
  · exact ⟨Sl.none0 w, by simp⟩
  · unfold maxLen at hm
    refine ⟨⟨by simp; omega, hl, hm, (fun h => by cases h), fun hn ad e => ?_, fun ad e j u hu => ?_⟩, fun z h => hw z (List.mem_of_mem_take h)⟩
    · obtain ⟨b, off, rfl, _⟩ := ints_at hc (by omega)
      cases e
      exact ⟨b, off, rfl⟩
    · cases e
      simp only [List.getElem?_map, List.getElem?_take] at hu
      split at hu
      · cases hj : zs[j]? with
        | none => rw [hj] at hu; simp at hu
        | some z =>
          rw [hj] at hu
          rw [hc j (List.getElem?_eq_some_iff.1 hj).1]
          simp only [Option.map_some, Option.some.injEq] at hu
          rw [← hu]
          simp [List.getD, hj]
      · simp at hu

theorem sl_bytes {w : World} {a : Option Addr} {len cap : Nat} {zs : List Int}
    (h : (a = none ∧ len = 0 ∧ cap = 0 ∧ zs = []) ∨ ∃ x, a = some x ∧ len ≤ cap ∧ cap ≤ maxLen ∧ zs.length = cap ∧ (∀ i, i < zs.length → w.cell? (x.add i) = some (.int .u8 (zs.getD i 0))) ∧ ∀ n ∈ zs, (Lit.int .u8 n).wf = true) :
    ∃ l : List UInt8, Sl w a len cap (BV l) := by
  obtain ⟨h1, h2⟩ := sl_row h
  refine ⟨(zs.take len).map fun z => UInt8.ofNat z.toNat, ?_⟩
  have e : BV ((zs.take len).map fun z => UInt8.ofNat z.toNat) = (zs.take len).map (Value.int .u8) := by
    unfold BV
    rw [List.map_map]
    apply List.map_congr_left
    intro z hz
    have hb := wf_u8 (h2 z hz)
    simp only [Function.comp, UInt8.toNat_ofNat']
    congr 1
    omega
  rw [e]
  exact h1
theorem sl_nums {w : World} {a : Option Addr} {len cap : Nat} {zs : List Int}
    (h : (a = none ∧ len = 0 ∧ cap = 0 ∧ zs = []) ∨ ∃ x, a = some x ∧ len ≤ cap ∧ cap ≤ maxLen ∧ zs.length = cap ∧ (∀ i, i < zs.length → w.cell? (x.add i) = some (.int .u64 (zs.getD i 0))) ∧ ∀ n ∈ zs, (Lit.int .u64 n).wf = true) :
    ∃ l : List Nat, Sl w a len cap (NV l) ∧ ∀ x ∈ l, U64 x := by
  obtain ⟨h1, h2⟩ := sl_row h
  refine ⟨(zs.take len).map fun z => z.toNat, ?_, ?_⟩
  · have e : NV ((zs.take len).map fun z => z.toNat) = (zs.take len).map (Value.int .u64) := by
      unfold NV
      rw [List.map_map]
      apply List.map_congr_left
      intro z hz
      have hb := wf_u64 (h2 z hz)
      simp only [Function.comp]
      congr 1
      omega
    rw [e]
    exact h1
  · intro x hx
    simp only [List.mem_map] at hx
    obtain ⟨z, hz, rfl⟩ := hx
    have hb := wf_u64 (h2 z hz)
    unfold U64
    omega
theorem sl_ints {w : World} {a : Option Addr} {len cap : Nat} {zs : List Int}
    (h : (a = none ∧ len = 0 ∧ cap = 0 ∧ zs = []) ∨ ∃ x, a = some x ∧ len ≤ cap ∧ cap ≤ maxLen ∧ zs.length = cap ∧ (∀ i, i < zs.length → w.cell? (x.add i) = some (.int .i64 (zs.getD i 0))) ∧ ∀ n ∈ zs, (Lit.int .i64 n).wf = true) :
    ∃ l : List Int, Sl w a len cap (IV l) ∧ ∀ z ∈ l, -9223372036854775808 ≤ z ∧ z ≤ 9223372036854775807 := by
  obtain ⟨h1, h2⟩ := sl_row h
  exact ⟨zs.take len, h1, fun z hz => wf_i64 (h2 z hz)⟩
theorem nat_u64 {z : Int} (h : (Lit.int .u64 z).wf = true) : ∃ n : Nat, z = (n : Int) ∧ U64 n := by
  have := wf_u64 h
  exact ⟨z.toNat, by omega, by unfold U64; omega⟩
theorem nat_u8 {z : Int} (h : (Lit.int .u8 z).wf = true) : ∃ c : UInt8, z = (c.toNat : Int) := by
  have := wf_u8 h
  exact ⟨UInt8.ofNat z.toNat, by rw [UInt8.toNat_ofNat']; omega⟩
end Go.Proofs.Ytpojkhjenbbodaa
