/-
  slices.Chunk of bytes at 7, as an iterator: what it yields. Conditions: the slice's length is an int.
-/
import Derived.Test.YtllpeenjfjobaaaTake
namespace Go.Proofs.Ytllpeenjfjobaaa
open Go.RowKit Go.Shelf
attribute [local go_sem] Oper.semAt_some

def ch (b off n j : Nat) : Array Value := #[.slice (some ⟨b, off + 7 * j, none⟩) (min 7 (n - 7 * j)) (min 7 (n - 7 * j))]
def chs (b off n : Nat) : List (Array Value) := (List.range ((n + 6) / 7)).map (ch b off n)
theorem chs_length (b off n : Nat) : (chs b off n).length = (n + 6) / 7 := by simp [chs]
theorem chs_get (b off n j : Nat) (h : 7 * j < n) : (chs b off n)[j]? = some (ch b off n j) := by
  simp only [chs, List.getElem?_map]
  rw [List.getElem?_range (by omega)]
  rfl

theorem chunk_any (sa : Option Addr) (n cap : Nat) (w : World) : Calls Try.prog 39 #[.slice sa n cap, .int .i64 7] w fun e w' => e = .returned (.func (.func 44) #[] #[.pointer (some ⟨w.heap.size, 0, none⟩), .pointer (some ⟨w.heap.size + 1, 0, none⟩)]) ∧
    w' = (w.alloc (.cells #[.slice sa n cap] 22)).alloc (.cells #[.int .i64 7] 3) := by
  go_enter Try.func39, Try.ntmps39
  go_wp2
  go_ret
  exact ⟨by simp, rfl⟩

def ChRel (W : World) (b1 b2 : Nat) (sa : Option Addr) (n cap : Nat) (J : Nat → World → Prop) (i : Value) (wr : World) : Prop :=
  ∃ j : Nat, i = .int .i64 ((7 * j : Nat) : Int) ∧ j ≤ (n + 6) / 7 ∧ J j wr ∧ W.heap.size + 0 ≤ wr.heap.size ∧ wr.heap[b1]? = some (.cells #[.slice sa n cap] 22 (0, 0)) ∧ wr.heap[b2]? = some (.cells #[.int .i64 7] 3 (0, 0))

set_option maxHeartbeats 1000000 in
set_option maxRecDepth 10000 in
theorem chunk_seq (b1 b2 b off n cap : Nat) (sa : Option Addr) (w0 : World) (hn : n ≤ 1000000000) (hcap : n ≤ cap) (hcb : cap ≤ 9223372036854775807) (hsa : 0 < n → sa = some ⟨b, off, none⟩) (h1 : w0.heap[b1]? = some (.cells #[.slice sa n cap] 22 (0, 0))) (h2 : w0.heap[b2]? = some (.cells #[.int .i64 7] 3 (0, 0))) :
    Seq Try.prog 44 #[.pointer (some ⟨b1, 0, none⟩), .pointer (some ⟨b2, 0, none⟩)] (chs b off n) 0 (fun _ => False) (fun k => k = b1 ∨ k = b2) w0 := by
  intro l J B W hW hB hJ hY h0
  have q1 := (hW.block b1 (lt_of_heap h1) (fun h => h (Or.inl rfl))).trans h1
  have q2 := (hW.block b2 (lt_of_heap h2) (fun h => h (Or.inr rfl))).trans h2
  have HJ := Lib.hid (And.intro hB (And.intro hJ (And.intro hY (And.intro h0 (And.intro q1 q2)))))
  have HS := Lib.hid hsa
  clear h1 h2 hW hB hJ hY h0 q1 q2 hsa
  refine callsIn_of_wp Try.func44 rfl trivial ?_ rfl
  simp only [Try.ntmps44, List.size_toArray, List.length_cons, List.length_nil, Nat.reduceAdd, Nat.reduceSub, Array.replicate_succ, Array.replicate_zero, List.push_toArray, List.append_toArray, List.nil_append, List.cons_append]
  gi_wp2_with fail
  gi_loopw [4] (fun i wr => ChRel W b1 b2 sa n cap J i wr) (fun i _ => (n + 7) - (intOf i).toNat)
  case atStart => exact ⟨0, rfl, Nat.zero_le _, HJ.out.2.2.2.1, Nat.le_refl _, HJ.out.2.2.2.2.1, HJ.out.2.2.2.2.2⟩
  case round =>
    obtain ⟨j, rfl, hj, hJj, hsz, q1, q2⟩ := hrel
    have c1 := cellAt q1 0
    have c2 := cellAt q2 0
    simp at c1 c2
    have HH := Lib.hid (And.intro hj (And.intro hJj (And.intro hsz (And.intro q1 q2))))
    clear hj hJj hsz q1 q2
    by_cases hlt : 7 * j < n
    · obtain ⟨i, hi⟩ : ∃ i, 7 * j = i := ⟨_, rfl⟩
      rw [hi] at hlt ⊢
      obtain ⟨m, hm⟩ : ∃ m, min 7 (n - i) = m := ⟨_, rfl⟩
      have hsa := HS.out (by omega)
      subst hsa
      have e1 : (if ((n - i : Nat) : Int) < 7 then ((n - i : Nat) : Int) else (7 : Int)) = (m : Int) := by split <;> omega
      have i1 : (i : Int) < (n : Int) := by omega
      have i2 : (0 : Int) ≤ (i : Int) := by omega
      have i3 : (i : Int) ≤ (n : Int) := by omega
      have i4 : (n : Int) ≤ (cap : Int) := by omega
      have HI := Lib.hid (And.intro hi hm)
      clear hi hm
      gi_wp2_with fail
      refine wpIn_wide.2 ?_
      refine z_begin (fun w' => w'.cell? ⟨b1, 0, none⟩ = some (.slice (some ⟨b, off, none⟩) n cap) ∧ w'.cell? ⟨b2, 0, none⟩ = some (.int .i64 7)) 7 (by kernel_rfl) ⟨c1, c2⟩ (fun hHeld => ?_)
      refine z_take 0 (v := ?_) rfl (by kernel_rfl) (by kernel_rfl) (by kernel_rfl) (by kernel_rfl) (fun _ _ _ h => h) hHeld (by rfl) (fun w hSw => ?_) ?_
      rotate_left
      · obtain ⟨hSw1, hSw2⟩ := hSw; simp only [List.getElem_toArray, List.getElem_cons_zero]; go_simp; try rfl
      simp only [Act.put, List.getElem_toArray, List.getElem_cons_zero, List.setIfInBounds_toArray, List.set_cons_zero, List.set_cons_succ]
      refine z_take 1 (v := ?_) rfl (by kernel_rfl) (by kernel_rfl) (by kernel_rfl) (by kernel_rfl) (fun _ _ _ h => h) hHeld (by rfl) (fun w hSw => ?_) ?_
      rotate_left
      · obtain ⟨hSw1, hSw2⟩ := hSw; simp only [List.getElem_toArray, List.getElem_cons_zero, List.getElem_cons_succ]; go_simp; try rfl
      simp only [Act.put, List.getElem_toArray, List.getElem_cons_zero, List.getElem_cons_succ, List.setIfInBounds_toArray, List.set_cons_zero, List.set_cons_succ]
      refine z_take 2 (v := ?_) rfl (by kernel_rfl) (by kernel_rfl) (by kernel_rfl) (by kernel_rfl) (fun _ _ _ h => h) hHeld (by rfl) (fun w hSw => ?_) ?_
      rotate_left
      · obtain ⟨hSw1, hSw2⟩ := hSw; simp only [List.getElem_toArray, List.getElem_cons_zero, List.getElem_cons_succ]; go_simp; try rfl
      simp only [Act.put, List.getElem_toArray, List.getElem_cons_zero, List.getElem_cons_succ, List.setIfInBounds_toArray, List.set_cons_zero, List.set_cons_succ]
      refine z_take 3 (v := ?_) rfl (by kernel_rfl) (by kernel_rfl) (by kernel_rfl) (by kernel_rfl) (fun _ _ _ h => h) hHeld (by rfl) (fun w hSw => ?_) ?_
      rotate_left
      · obtain ⟨hSw1, hSw2⟩ := hSw; simp only [List.getElem_toArray, List.getElem_cons_zero, List.getElem_cons_succ]; go_simp; try rfl
      simp only [Act.put, List.getElem_toArray, List.getElem_cons_zero, List.getElem_cons_succ, List.setIfInBounds_toArray, List.set_cons_zero, List.set_cons_succ]
      refine z_take 4 (v := ?_) rfl (by kernel_rfl) (by kernel_rfl) (by kernel_rfl) (by kernel_rfl) (fun _ _ _ h => h) hHeld (by rfl) (fun w hSw => ?_) ?_
      rotate_left
      · obtain ⟨hSw1, hSw2⟩ := hSw; simp only [List.getElem_toArray, List.getElem_cons_zero, List.getElem_cons_succ]; go_simp; try rfl
      simp only [Act.put, List.getElem_toArray, List.getElem_cons_zero, List.getElem_cons_succ, List.setIfInBounds_toArray, List.set_cons_zero, List.set_cons_succ]
      refine z_take 5 (v := ?_) rfl (by kernel_rfl) (by kernel_rfl) (by kernel_rfl) (by kernel_rfl) (fun _ _ _ h => h) hHeld (by rfl) (fun w hSw => ?_) ?_
      rotate_left
      · obtain ⟨hSw1, hSw2⟩ := hSw; simp only [List.getElem_toArray, List.getElem_cons_zero, List.getElem_cons_succ]; go_simp; try rfl
      simp only [Act.put, List.getElem_toArray, List.getElem_cons_zero, List.getElem_cons_succ, List.setIfInBounds_toArray, List.set_cons_zero, List.set_cons_succ]
      refine z_take 6 (v := ?_) rfl (by kernel_rfl) (by kernel_rfl) (by kernel_rfl) (by kernel_rfl) (fun _ _ _ h => h) hHeld (by rfl) (fun w hSw => ?_) ?_
      rotate_left
      · obtain ⟨hSw1, hSw2⟩ := hSw; simp only [List.getElem_toArray, List.getElem_cons_zero, List.getElem_cons_succ]; go_simp; try rfl
      simp only [Act.put, List.getElem_toArray, List.getElem_cons_zero, List.getElem_cons_succ, List.setIfInBounds_toArray, List.set_cons_zero, List.set_cons_succ]
      refine z_done (by kernel_rfl) ?_ _
      try rw [e1]
      clear e1
      have hget := chs_get b off n j (by have := HI.out; omega)
      have hJd := HJ.out.2.1 j wr wr.drew HH.out.2.1 (Keeps.refl _ wr).drew
      obtain ⟨fn, tmps, assign, body, hy, hR⟩ := HJ.out.2.2.1 j _ wr.drew hget hJd (by have := HH.out.2.2.1; simpa using this)
      unfold ch at hy
      rw [HI.out.1, HI.out.2] at hy
      have hci : ¬ cap = i := by omega
      have hmi : ¬ m = 0 := by have := HI.out; omega
      have m1 : (0 : Int) ≤ (m : Int) := by omega
      have m2 : (i : Int) + (m : Int) ≤ (n : Int) := by have := HI.out; omega
      have m3 : (i : Int) + (m : Int) ≤ (cap : Int) := by omega
      have m4 : (i : Int) ≤ (i : Int) + (m : Int) := by omega
      clear hget hJd hHeld
      gi_wp2_with fail
      refine ⟨rfl, hR.mono ?_⟩
      rintro e W2 ⟨rfl, hJ2, hkB⟩
      have hq1 := (hkB.block b1 (lt_of_heap HH.out.2.2.2.1) (fun h => (HJ.out.1 b1 h).1 (Or.inl rfl))).trans HH.out.2.2.2.1
      have hq2 := (hkB.block b2 (lt_of_heap HH.out.2.2.2.2) (fun h => (HJ.out.1 b2 h).1 (Or.inr rfl))).trans HH.out.2.2.2.2
      have d1 := cellAt hq1 0
      have d2 := cellAt hq2 0
      simp at d1 d2
      have HR : Hid (ChRel W b1 b2 (some ⟨b, off, none⟩) n cap J (.int .i64 ((i : Int) + 7)) W2) := by
        have h1 := HI.out
        have h2 := HH.out.2.2.1
        have h3 := hkB.size
        refine ⟨j + 1, by congr 1; omega, by omega, hJ2, ?_, hq1, hq2⟩
        simp at h3 ⊢
        omega
      have HM : Hid (n + 7 - (i + 7) < n + 7 - i) := by show _ < _; omega
      clear hJ2 hkB hq1 hq2 hR hy c1 c2
      gi_wp2
      go_roundw
      case rel => exact HR.out
      case measure => simp [intOf]; omega
    · have i1 : ¬ ((7 * j : Nat) : Int) < (n : Int) := by omega
      have hj := HH.out.1
      obtain rfl : j = (n + 6) / 7 := by omega
      have HF : Hid (J (chs b off n).length wr) := by show J _ _; rw [chs_length]; exact HH.out.2.1
      generalize 7 * ((n + 6) / 7) = i at *
      gi_wp2
      go_end0
      exact ⟨⟨_, rfl⟩, HF.out⟩
end Go.Proofs.Ytllpeenjfjobaaa
