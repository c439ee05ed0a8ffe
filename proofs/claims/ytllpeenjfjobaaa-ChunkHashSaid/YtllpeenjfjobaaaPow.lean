/-
  The field's Pow: what it tells. Conditions: the numbers are below 2^64.
-/
import Derived.Test.YtllpeenjfjobaaaSquares
namespace Go.Proofs.Ytllpeenjfjobaaa
open Go.RowKit Go.Shelf
attribute [local go_sem] Oper.semAt_some

def isT : Value → Bool
  | .bool b => b
  | _ => false
def pstep (o : Nat) (x : Array Value) : Nat := if isT (x.getD 1 undef) = true then mulm o (intOf (x.getD 0 undef)).toNat else o
theorem sqs_mem (k : Nat) : ∀ b, b < 2305843009213693951 → ∀ x ∈ sqs b k, ∃ (c : Nat) (t : Bool), x = #[.int .u64 (c : Int), .bool t] ∧ c < 2305843009213693951 := by
  induction k using Nat.strongRecOn with
  | ind k ih =>
    intro b hb x hx
    by_cases h : 0 < k
    · rw [sqs_pos b k h] at hx
      rcases List.mem_cons.1 hx with rfl | hx
      · exact ⟨b, _, rfl, hb⟩
      · exact ih (k / 2) (by omega) _ (mulm_lt _ _) x hx
    · obtain rfl : k = 0 := by omega
      rw [sqs_zero] at hx
      cases hx
theorem pstep_lt (o : Nat) (x : Array Value) (h : o < 2305843009213693951) : pstep o x < 2305843009213693951 := by
  unfold pstep; split
  · exact mulm_lt _ _
  · exact h
theorem sqs_fold (k : Nat) : ∀ b o, b < 2305843009213693951 → o < 2305843009213693951 → (sqs b k).foldl pstep o = o * b ^ k % 2305843009213693951 := by
  induction k using Nat.strongRecOn with
  | ind k ih =>
    intro b o hb ho
    by_cases h : 0 < k
    · rw [sqs_pos b k h, List.foldl_cons, ih (k / 2) (by omega) _ _ (mulm_lt _ _) (pstep_lt _ _ ho), ← pow_step o b k]
      congr 2
      unfold pstep
      by_cases h1 : k % 2 = 1
      · simp [h1, intOf, mulm, isT]
      · simp [h1, isT]
    · obtain rfl : k = 0 := by omega
      rw [sqs_zero, List.foldl_nil, Nat.pow_zero, Nat.mul_one, Nat.mod_eq_of_lt ho]
theorem pow_fold (a n : Nat) : (sqs (num a) n).foldl pstep 1 = powm a n := by
  rw [sqs_fold n _ _ (num_lt a) (by decide), Nat.one_mul]; unfold num powm; rw [← Nat.pow_mod]

set_option maxHeartbeats 1000000 in
set_option maxRecDepth 10000 in
theorem pow_any (a n : Nat) (w : World) (ha : U64 a) (hn : U64 n) :
    Calls Try.prog 40 #[.int .u64 a, .int .u64 n] w fun e w' => e = .returned (.int .u64 (powm a n : Int)) ∧ Keeps (fun _ => False) w w' := by
  have HN := Lib.hid (And.intro ha hn)
  clear ha hn
  refine (callsIn_wide (n := 0)).1 ?_
  refine callsIn_of_wp_marks Try.func40 rfl trivial ?_ rfl
  simp only [Try.ntmps40, List.size_toArray, List.length_cons, List.length_nil, Nat.reduceAdd, Nat.reduceSub, Array.replicate_succ, Array.replicate_zero, List.push_toArray, List.append_toArray, List.nil_append, List.cons_append]
  gi_wp2_with fail
  refine ⟨trivial, rfl, (callsIn_wide.2 (squares_any a n _)).mono ?_⟩
  rintro e w1 ⟨rfl, rfl⟩
  gi_wp2_with fail
  obtain ⟨bo, hbo⟩ : ∃ bo, w.heap.size = bo := ⟨_, rfl⟩
  obtain ⟨W0, hW0⟩ : ∃ W0, ((w.alloc (.cells #[.int .u64 1] 38)).alloc (.cells #[.int .u64 a] 38)).alloc (.cells #[.int .u64 n] 38) = W0 := ⟨_, rfl⟩
  have hk0 : Keeps (fun _ => False) w W0 := by rw [← hW0]; exact (((Keeps.refl _ w).alloc _).alloc _).alloc _
  have hsz : W0.heap.size = bo + 3 := by rw [← hW0, ← hbo]; simp
  have q0 : W0.heap[bo]? = some (.cells #[.int .u64 (1 : Nat)] 38 (0, 0)) := by
    rw [← hW0, ← hbo]
    exact (Below.heap_alloc _ _ _ (by simp; omega)).trans ((Below.heap_alloc _ _ _ (by simp)).trans (World.alloc_heap_new w _))
  have q1 : W0.heap[bo + 1]? = some (.cells #[.int .u64 a] 38 (0, 0)) := by
    rw [← hW0, ← hbo]
    refine (Below.heap_alloc _ _ _ (by simp)).trans ?_
    have := World.alloc_heap_new (w.alloc (.cells #[.int .u64 1] 38)) (.cells #[.int .u64 a] 38)
    rwa [World.size_alloc] at this
  have q2 : W0.heap[bo + 1 + 1]? = some (.cells #[.int .u64 n] 38 (0, 0)) := by
    rw [← hW0, ← hbo]
    have := World.alloc_heap_new ((w.alloc (.cells #[.int .u64 1] 38)).alloc (.cells #[.int .u64 a] 38)) (.cells #[.int .u64 n] 38)
    rwa [World.size_alloc, World.size_alloc] at this
  rw [hW0, hbo]
  have hW := Lib.hid hbo
  clear hW0 hbo
  refine wpIn_seq (gf := 48) (lb := #[.pointer (some ⟨bo + 1, 0, none⟩), .pointer (some ⟨bo + 1 + 1, 0, none⟩)]) (xs := sqs (num a) n) (T := fun k => k = bo + 1 + 1) (Rd := fun k => k = bo + 1 ∨ k = bo + 1 + 1) rfl (enters_of Try.func48 (by kernel_rfl) rfl)
    (squares_seq (bo + 1) (bo + 1 + 1) a n W0 HN.out.1 HN.out.2 q1 q2) (by rintro k (h | h) <;> omega) (fun k h => Or.inr h) ?hps
    (fun i W => W.heap[bo]? = some (.cells #[.int .u64 (((sqs (num a) n).take i).foldl pstep 1 : Nat)] 38 (0, 0)) ∧ Keeps (fun _ => False) w W)
    (fun k => k = bo) (by rintro k rfl; exact ⟨by omega, by omega⟩) ?hI ⟨q0, hk0⟩
    (fun x => { tmps := #[.int .u64 a, .int .u64 n, undef, undef, .int .u64 0, .pointer (some ⟨bo, 0, none⟩), x.getD 0 undef, x.getD 1 undef, .int .u64 a, .int .u64 n, .func (.func 48) #[] #[.pointer (some ⟨bo + 1, 0, none⟩), .pointer (some ⟨bo + 1 + 1, 0, none⟩)], x.getD 0 undef, x.getD 1 undef, undef, undef, undef, undef, undef], defers := [] }) ?assign ?body ?done
  case hps =>
    intro x hx
    obtain ⟨c, t, rfl, _⟩ := sqs_mem n _ (num_lt a) x hx
    rfl
  case hI =>
    rintro i A A' ⟨h1, h2⟩ hk
    have := hW.out
    exact ⟨(hk.block bo (lt_of_heap h1) (by omega)).trans h1, h2.trans hk (fun j hj h => by omega)⟩
  case assign =>
    intro l x W K hx hK
    obtain ⟨c, t, rfl, _⟩ := sqs_mem n _ (num_lt a) x hx
    gi_wp2
    exact hK
  case body =>
    rintro l i x W hx ⟨h1, h2⟩ -
    obtain ⟨c, t, rfl, hc⟩ := sqs_mem n _ (num_lt a) x (List.mem_of_getElem? hx)
    have hlt : ((sqs (num a) n).take i).foldl pstep 1 < 2305843009213693951 := by
      have : ∀ (m : List (Array Value)) (o : Nat), o < 2305843009213693951 → m.foldl pstep o < 2305843009213693951 := by
        intro m
        induction m with
        | nil => intro o h; exact h
        | cons x m ih => intro o h; exact ih _ (pstep_lt _ _ h)
      exact this _ _ (by decide)
    have hnext : ((sqs (num a) n).take (i + 1)).foldl pstep 1 = pstep (((sqs (num a) n).take i).foldl pstep 1) #[.int .u64 (c : Int), .bool t] := by
      rw [List.take_add_one, hx]; simp
    have hbw := hW.out
    have HX : Hid (∀ (ac : Act) (W' : World), W'.heap[bo]? = some (.cells #[.int .u64 (pstep (((sqs (num a) n).take i).foldl pstep 1) #[.int .u64 (c : Int), .bool t] : Nat)] 38 (0, 0)) → Keeps (fun k => k = bo) W W' → goesOn (fun k => k = bo) (fun i W => W.heap[bo]? = some (.cells #[.int .u64 (((sqs (num a) n).take i).foldl pstep 1 : Nat)] 38 (0, 0)) ∧ Keeps (fun _ => False) w W) i W .normal ac W') := by
      intro ac W' h3 h4
      refine ⟨h4, ?_, h2.trans h4 (fun j hj h => by omega)⟩
      rw [hnext]; exact h3
    generalize ((sqs (num a) n).take i).foldl pstep 1 = o at *
    have c1 := cellAt h1 0
    have f1 := freeAt h1 0
    simp at c1
    have HU : Hid (U64 o ∧ U64 c) := ⟨by unfold U64; omega, by unfold U64; omega⟩
    have H1 := Lib.hid h1
    clear h1 h2 hlt hnext hx hc hbw
    cases t with
    | true =>
      gi_wp2_with fail
      refine ⟨trivial, rfl, CallsIn.inRound l ((callsIn_wide.2 (mul_any o c W HU.out.1 HU.out.2)).mono ?_)⟩
      rintro e _ ⟨rfl, rfl⟩
      gi_wp2
      refine HX.out _ _ ?_ ((Keeps.refl (fun k => k = bo) W).setCell (p := ⟨bo, 0, none⟩) (fun _ => rfl) _)
      rw [heap_setCell_at H1.out]
      simp [pstep, isT, intOf]
    | false =>
      gi_wp2
      refine HX.out _ _ ?_ (Keeps.refl _ _)
      rw [H1.out]
      simp [pstep, isT]
  case done =>
    rintro W ⟨h1, h2⟩ hsW hK
    rw [List.take_length, pow_fold] at h1
    have c1 := cellAt h1 0
    simp at c1
    have hbw := hW.out
    have HF : Hid (Keeps (fun _ => False) w (W.putObj W0.heap.size (.deferred none))) := h2.putObj _ (fun h => by omega)
    have HK := Lib.hid hK
    clear h1 h2
    gi_wp2
    refine ⟨by simp, .inl ⟨_, _, rfl, run_takeDeferred HK.out, ?_⟩⟩
    exact ⟨_, results_tmp rfl _ _ _, rfl, HF.out⟩
end Go.Proofs.Ytllpeenjfjobaaa
