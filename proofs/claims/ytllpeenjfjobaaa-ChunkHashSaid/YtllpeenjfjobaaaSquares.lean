/-
  The field's squares: the squares of a number, each with a bit: what it yields. Conditions: the numbers are below 2^64.
-/
import Derived.Test.YtllpeenjfjobaaaRangeF
import Derived.Test.YtllpeenjfjobaaaRefPow
import Derived.Test.YtllpeenjfjobaaaMem
namespace Go.Proofs.Ytllpeenjfjobaaa
open Go.RowKit Go.Shelf
attribute [local go_sem] Oper.semAt_some

def sqs (b n : Nat) : List (Array Value) := if h : n = 0 then [] else #[.int .u64 (b : Int), .bool (n % 2 == 1)] :: sqs (mulm b b) (n / 2)
termination_by n
decreasing_by omega
theorem sqs_zero (b : Nat) : sqs b 0 = [] := by unfold sqs; simp
theorem sqs_pos (b n : Nat) (h : 0 < n) : sqs b n = #[.int .u64 (b : Int), .bool (n % 2 == 1)] :: sqs (mulm b b) (n / 2) := by rw [sqs, dif_neg (by omega)]
theorem and_1 (a : Nat) (h : U64 a) : bits .and .u64 (a : Int) 1 = ((a % 2 : Nat) : Int) := by
  have := bits_mask .u64 64 (by decide) wraps_u64 1 (by decide) (a : Int) (by omega) (by unfold U64 at h; omega)
  simpa using this

theorem squares_any (a n : Nat) (w : World) : Calls Try.prog 45 #[.int .u64 a, .int .u64 n] w fun e w' => e = .returned (.func (.func 48) #[] #[.pointer (some ⟨w.heap.size, 0, none⟩), .pointer (some ⟨w.heap.size + 1, 0, none⟩)]) ∧
    w' = (w.alloc (.cells #[.int .u64 a] 38)).alloc (.cells #[.int .u64 n] 38) := by
  go_enter Try.func45, Try.ntmps45
  go_wp2
  go_ret
  exact ⟨by simp, rfl⟩

/-- What holds at the head of each round. -/
def SqRel (W0 : World) (b2 a n : Nat) (J : Nat → World → Prop) (by_ : Value) (wr : World) : Prop :=
  ∃ (b k : Nat) (pre : List (Array Value)), by_ = .int .u64 (b : Int) ∧ b < 2305843009213693951 ∧ k ≤ n ∧ sqs (num a) n = pre ++ sqs b k ∧ (J pre.length wr ∧ W0.heap.size + 0 ≤ wr.heap.size) ∧ wr.heap[b2]? = some (.cells #[.int .u64 (k : Int)] 38 (0, 0))
def sqLeft (b2 : Nat) (wr : World) : Nat := match wr.cell? ⟨b2, 0, none⟩ with | some v => (intOf v).toNat | none => 0

set_option maxHeartbeats 1000000 in
set_option maxRecDepth 10000 in
theorem squares_seq (b1 b2 a n : Nat) (w0 : World) (ha : U64 a) (hn : U64 n) (h1 : w0.heap[b1]? = some (.cells #[.int .u64 a] 38 (0, 0))) (h2 : w0.heap[b2]? = some (.cells #[.int .u64 n] 38 (0, 0))) :
    Seq Try.prog 48 #[.pointer (some ⟨b1, 0, none⟩), .pointer (some ⟨b2, 0, none⟩)] (sqs (num a) n) 0 (fun k => k = b2) (fun k => k = b1 ∨ k = b2) w0 := by
  intro l J B W hW hB hJ hY h0
  have q1 := (hW.block b1 (lt_of_heap h1) (fun h => h (Or.inl rfl))).trans h1
  have q2 := (hW.block b2 (lt_of_heap h2) (fun h => h (Or.inr rfl))).trans h2
  have HJ := Lib.hid (And.intro hB (And.intro hJ (And.intro hY (And.intro h0 q2))))
  have c1 := cellAt q1 0
  have HN := Lib.hid (And.intro ha hn)
  clear h1 h2 hW hB hJ hY h0 ha hn q1 q2
  simp at c1
  refine callsIn_of_wp Try.func48 rfl trivial ?_ rfl
  simp only [Try.ntmps48, List.size_toArray, List.length_cons, List.length_nil, Nat.reduceAdd, Nat.reduceSub, Array.replicate_succ, Array.replicate_zero, List.push_toArray, List.append_toArray, List.nil_append, List.cons_append]
  gi_wp2_with fail
  refine ⟨trivial, rfl, (callsIn_wide.2 (num_any a W HN.out.1)).mono ?_⟩
  rintro e _ ⟨rfl, rfl⟩
  clear c1
  gi_wp2_with fail
  gi_loopw [4] (fun b wr => SqRel W b2 a n J b wr) (fun _ wr => sqLeft b2 wr)
  case atStart => exact ⟨num a, n, [], rfl, num_lt a, Nat.le_refl _, rfl, ⟨HJ.out.2.2.2.1, Nat.le_refl _⟩, HJ.out.2.2.2.2⟩
  case round =>
    obtain ⟨b, k, pre, rfl, hb, hk, hx, hj, hq⟩ := hrel
    have c2 := cellAt hq 0
    have f2 := freeAt hq 0
    simp at c2
    have HH := Lib.hid (And.intro hb (And.intro hk (And.intro hx (And.intro hj hq))))
    clear hb hk hx hj hq
    have hku : U64 k := by have := HH.out.2.1; have := HN.out.2; unfold U64 at *; omega
    have e1 := and_1 k hku
    have HKU := Lib.hid hku
    clear hku
    by_cases h0 : 0 < k
    · have t1 : (0 : Int) < (k : Int) := by omega
      have hget : (sqs (num a) n)[pre.length]? = some #[.int .u64 (b : Int), .bool (k % 2 == 1)] := by rw [HH.out.2.2.1, sqs_pos b k h0]; simp
      obtain ⟨fn, tmps, assign, body, hy, hR⟩ := HJ.out.2.2.1 pre.length _ wr hget HH.out.2.2.2.1.1 HH.out.2.2.2.1.2
      obtain ⟨k2, hk2⟩ : ∃ k2, k / 2 = k2 := ⟨_, rfl⟩
      have hh' : (k : Int) / 2 = (k2 : Int) := by omega
      obtain ⟨kb, hkb⟩ : ∃ kb, k % 2 = kb := ⟨_, rfl⟩
      rw [hkb] at e1 hy hget
      have e2 : ((kb : Int) == 1) = (kb == 1) := by
        rw [Bool.eq_iff_iff]; simp; omega
      have HK := Lib.hid (And.intro hk2 hkb)
      clear hk2 hkb hget
      generalize (kb == 1) = bit at *
      gi_wp2_with fail
      refine ⟨rfl, hR.mono ?_⟩
      rintro e W2 ⟨rfl, hJ2, hkB⟩
      have hq2 := (hkB.block b2 (lt_of_heap HH.out.2.2.2.2) (fun h => (HJ.out.1 b2 h).1 (Or.inr rfl))).trans HH.out.2.2.2.2
      have c3 := cellAt hq2 0
      have f3 := freeAt hq2 0
      simp at c3
      have H2 := Lib.hid (And.intro (And.intro hJ2 (Nat.le_trans HH.out.2.2.2.1.2 hkB.size)) hq2)
      clear hJ2 hkB hq2 hR hy c2 f2
      have hbu : U64 b := by have := HH.out.1; unfold U64; omega
      have HBU := Lib.hid hbu
      clear hbu
      gi_wp2_with fail
      refine ⟨trivial, rfl, (callsIn_wide.2 (mul_any b b W2 HBU.out HBU.out)).mono ?_⟩
      rintro e _ ⟨rfl, rfl⟩
      have HS : Hid (SqRel W b2 a n J (.int .u64 (mulm b b : Int)) (W2.setCell ⟨b2, 0, none⟩ (.int .u64 (k2 : Int)))) := by
        refine ⟨mulm b b, k2, pre ++ [#[.int .u64 (b : Int), .bool (k % 2 == 1)]], rfl, mulm_lt _ _, by have := HH.out.2.1; have := HK.out; omega, ?_, ?_, ?_⟩
        · rw [HH.out.2.2.1, sqs_pos b k h0, HK.out.1]; simp
        · rw [List.length_append]
          exact ⟨HJ.out.2.1 _ _ _ H2.out.1.1 (((Keeps.refl (fun k => k = b2) W2).setCell (p := ⟨b2, 0, none⟩) (fun _ => rfl) _).mono (fun _ _ h => Or.inl h)), by have := H2.out.1.2; simp [World.setCell] at *; omega⟩
        · rw [heap_setCell_at H2.out.2]; rfl
      have HLT : Hid (sqLeft b2 (W2.setCell ⟨b2, 0, none⟩ (.int .u64 (k2 : Int))) < sqLeft b2 wr) := by
        have g1 := cellAt (heap_setCell_at H2.out.2 0 (.int .u64 (k2 : Int))) 0
        have g2 := cellAt HH.out.2.2.2.2 0
        have := HK.out.1
        show sqLeft _ _ < sqLeft _ _
        unfold sqLeft
        rw [g1, g2]
        simp [intOf]
        omega
      gi_wp2
      go_roundw
      case rel => exact HS.out
      case measure => exact HLT.out
    · obtain rfl : k = 0 := by omega
      gi_wp2_with fail
      refine ⟨fun _ h => (by cases h), ?_⟩
      gi_wp2
      go_end0
      refine ⟨⟨_, rfl⟩, ?_⟩
      rw [HH.out.2.2.1, sqs_zero, List.append_nil]
      exact HH.out.2.2.2.1.1
end Go.Proofs.Ytllpeenjfjobaaa
