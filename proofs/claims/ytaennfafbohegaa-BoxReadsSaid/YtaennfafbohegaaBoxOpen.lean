/-
  Boxes: Open: what it tells. Conditions: the numbers are below 2^64.
-/
import Derived.Test.YtaennfafbohegaaBox
namespace Go.Proofs.Ytaennfafbohegaa
open Go.RowKit

set_option maxHeartbeats 2000000 in
set_option maxRecDepth 10000 in
theorem open_any (s to eph body tag : Nat) (w : World) (hs : U64 s) (hb : Bx.ok ⟨to, eph, body, tag⟩) :
    Calls Try.prog 18 #[.int .u64 s, .agg #[.int .u64 (to : Int), .int .u64 (eph : Int), .int .u64 (body : Int), .int .u64 (tag : Int)]] w fun e w' => e = .returned (.tuple #[.int .u64 ((openBox s ⟨to, eph, body, tag⟩).1 : Int), .int .i64 (openBox s ⟨to, eph, body, tag⟩).2]) ∧ Keeps (fun _ => False) w w' := by
  obtain ⟨b0, hb0⟩ : ∃ b0, w.heap.size = b0 := ⟨_, rfl⟩
  obtain ⟨W0, hW0⟩ : ∃ W0, w.alloc (.cells #[.int .u64 (to : Int), .int .u64 (eph : Int), .int .u64 (body : Int), .int .u64 (tag : Int)] 25) = W0 := ⟨_, rfl⟩
  have hk0 : Keeps (fun _ => False) w W0 := by rw [← hW0]; exact (Keeps.refl _ w).alloc _
  have q0 : W0.heap[b0]? = some (.cells #[.int .u64 (to : Int), .int .u64 (eph : Int), .int .u64 (body : Int), .int .u64 (tag : Int)] 25 (0, 0)) := by rw [← hW0, ← hb0]; exact World.alloc_heap_new w _
  obtain ⟨p, hp⟩ : ∃ p, powm 37 s = p := ⟨_, rfl⟩
  obtain ⟨k, hk⟩ : ∃ k, powm eph s = k := ⟨_, rfl⟩
  have hkl : k < 2305843009213693951 := by rw [← hk]; exact powm_lt _ _
  obtain ⟨t, ht⟩ : ∃ t, hof sTag [k, body, to] = t := ⟨_, rfl⟩
  obtain ⟨m, hm⟩ : ∃ m, hof sMask [k] = m := ⟨_, rfl⟩
  have hml : m < 2305843009213693951 := by rw [← hm]; exact hof_lt _ _
  have hopen : openBox s ⟨to, eph, body, tag⟩ = if to ≠ p then (0, 20) else if t ≠ tag then (0, 21) else (subm body m, 0) := by
    unfold openBox withK
    simp only [hp, hk, ht, hm, Bx.mk.injEq, true_and, ne_eq]
  have HQ := Lib.hid (And.intro q0 (And.intro hk0 (And.intro hW0 hb0)))
  have HE := Lib.hid (And.intro hp (And.intro hk (And.intro ht (And.intro hm hopen))))
  have HU := Lib.hid (And.intro hs hb)
  clear q0 hk0 hW0 hb0 hp hk ht hm hopen hs hb
  go_enter Try.func18, Try.ntmps18
  go_wp2_with fail
  rw [HQ.out.2.2.2, HQ.out.2.2.1]
  have B0 := Lib.hid HQ.out.1
  have HK := Lib.hid HQ.out.2.1
  refine z_begin (fun w' => w'.heap[b0]? = some (.cells #[.int .u64 (to : Int), .int .u64 (eph : Int), .int .u64 (body : Int), .int .u64 (tag : Int)] 25 (0, 0))) 5 (by kernel_rfl) B0.out (fun hHeld => ?_)
  replace HK := Lib.hid HK.out.drew
  generalize W0.drew = W1 at *
  refine z_take 0 (v := ?_) rfl (by kernel_rfl) (by kernel_rfl) (by kernel_rfl) (by kernel_rfl) (fun _ _ _ h => h) hHeld (by rfl) (fun w hSw => ?_) ?_
  rotate_left
  · have q0 := cellAt hSw 0; have q1 := cellAt hSw 1; have q2 := cellAt hSw 2; have q3 := cellAt hSw 3; simp at q0 q1 q2 q3; clear hSw; simp only [List.getElem_toArray, List.getElem_cons_zero]; go_simp; try rfl
  simp only [Act.put, List.getElem_toArray, List.getElem_cons_zero, List.setIfInBounds_toArray, List.set_cons_zero, List.set_cons_succ]
  refine z_take 1 (v := ?_) rfl (by kernel_rfl) (by kernel_rfl) (by kernel_rfl) (by kernel_rfl) (fun _ _ _ h => h) hHeld (by rfl) (fun w hSw => ?_) ?_
  rotate_left
  · have q0 := cellAt hSw 0; have q1 := cellAt hSw 1; have q2 := cellAt hSw 2; have q3 := cellAt hSw 3; simp at q0 q1 q2 q3; clear hSw; simp only [List.getElem_toArray, List.getElem_cons_zero, List.getElem_cons_succ]; go_simp; try rfl
  simp only [Act.put, List.getElem_toArray, List.getElem_cons_zero, List.getElem_cons_succ, List.setIfInBounds_toArray, List.set_cons_zero, List.set_cons_succ]
  refine z_take 2 (v := ?_) rfl (by kernel_rfl) (by kernel_rfl) (by kernel_rfl) (by kernel_rfl) (fun _ _ _ h => h) hHeld (by rfl) (fun w hSw => ?_) ?_
  rotate_left
  · have q0 := cellAt hSw 0; have q1 := cellAt hSw 1; have q2 := cellAt hSw 2; have q3 := cellAt hSw 3; simp at q0 q1 q2 q3; clear hSw; simp only [List.getElem_toArray, List.getElem_cons_zero, List.getElem_cons_succ]; go_simp; try rfl
  simp only [Act.put, List.getElem_toArray, List.getElem_cons_zero, List.getElem_cons_succ, List.setIfInBounds_toArray, List.set_cons_zero, List.set_cons_succ]
  refine z_one 3 rfl (by kernel_rfl) (by rfl) (fun K hK => ?_)
  simp only [List.getElem_toArray, List.getElem_cons_zero, List.getElem_cons_succ]
  go_simp
  refine (pub_any s _ HU.out.1).mono ?_
  rw [HE.out.1]
  rintro e w1 ⟨rfl, hk⟩
  replace HK := Lib.hid (HK.out.quiet hk)
  refine hK _ _ (Or.inr ?_) (fun hHeld => ?_)
  · exact (hk.block _ (lt_of_heap hHeld) (fun h => h)).trans hHeld
  clear hK K hk
  replace hHeld := hHeld.resolve_left (by decide)
  try simp only [Act.put, List.setIfInBounds_toArray, List.set_cons_zero, List.set_cons_succ]
  by_cases hto : to = p
  · have e1 : ((to : Int) != (p : Int)) = false := by simp; omega
    have HTO := Lib.hid hto
    clear hto
    refine z_one 4 rfl (by kernel_rfl) (by rfl) (fun K hK => ?_)
    simp only [List.getElem_toArray, List.getElem_cons_zero, List.getElem_cons_succ]
    go_simp
    refine hK _ _ (Or.inr ?_) (fun hHeld => ?_)
    · exact hHeld
    clear hK K
    replace hHeld := hHeld.resolve_left (by decide)
    try simp only [Act.put, List.setIfInBounds_toArray, List.set_cons_zero, List.set_cons_succ]
    refine z_done (by kernel_rfl) ?_ _
    have B1 := Lib.hid hHeld
    have c1 := cellAt hHeld 1
    simp at c1
    clear hHeld
    go_wp2_with fail
    refine (pow_any eph s w1 HU.out.2.2.1 HU.out.1).mono ?_
    rw [HE.out.2.1]
    rintro e w2 ⟨rfl, hk⟩
    replace HK := Lib.hid (HK.out.quiet hk)
    replace B1 := Lib.hid ((hk.block b0 (lt_of_heap B1.out) (fun h => h)).trans B1.out)
    clear hk c1
    go_wp2_with fail
    refine z_begin (fun w' => w'.heap[b0]? = some (.cells #[.int .u64 (to : Int), .int .u64 (eph : Int), .int .u64 (body : Int), .int .u64 (tag : Int)] 25 (0, 0))) 6 (by kernel_rfl) B1.out (fun hHeld => ?_)
    replace HK := Lib.hid HK.out.drew
    generalize w2.drew = w3 at *
    refine z_take 0 (v := ?_) rfl (by kernel_rfl) (by kernel_rfl) (by kernel_rfl) (by kernel_rfl) (fun _ _ _ h => h) hHeld (by rfl) (fun w hSw => ?_) ?_
    rotate_left
    · have q0 := cellAt hSw 0; have q1 := cellAt hSw 1; have q2 := cellAt hSw 2; have q3 := cellAt hSw 3; simp at q0 q1 q2 q3; clear hSw; simp only [List.getElem_toArray, List.getElem_cons_zero]; go_simp; try rfl
    simp only [Act.put, List.getElem_toArray, List.getElem_cons_zero, List.setIfInBounds_toArray, List.set_cons_zero, List.set_cons_succ]
    refine z_take 2 (v := ?_) rfl (by kernel_rfl) (by kernel_rfl) (by kernel_rfl) (by kernel_rfl) (fun _ _ _ h => h) hHeld (by rfl) (fun w hSw => ?_) ?_
    rotate_left
    · have q0 := cellAt hSw 0; have q1 := cellAt hSw 1; have q2 := cellAt hSw 2; have q3 := cellAt hSw 3; simp at q0 q1 q2 q3; clear hSw; simp only [List.getElem_toArray, List.getElem_cons_zero, List.getElem_cons_succ]; go_simp; try rfl
    simp only [Act.put, List.getElem_toArray, List.getElem_cons_zero, List.getElem_cons_succ, List.setIfInBounds_toArray, List.set_cons_zero, List.set_cons_succ]
    refine z_take 4 (v := ?_) rfl (by kernel_rfl) (by kernel_rfl) (by kernel_rfl) (by kernel_rfl) (fun _ _ _ h => h) hHeld (by rfl) (fun w hSw => ?_) ?_
    rotate_left
    · have q0 := cellAt hSw 0; have q1 := cellAt hSw 1; have q2 := cellAt hSw 2; have q3 := cellAt hSw 3; simp at q0 q1 q2 q3; clear hSw; simp only [List.getElem_toArray, List.getElem_cons_zero, List.getElem_cons_succ]; go_simp; try rfl
    simp only [Act.put, List.getElem_toArray, List.getElem_cons_zero, List.getElem_cons_succ, List.setIfInBounds_toArray, List.set_cons_zero, List.set_cons_succ]
    refine z_one 1 rfl (by kernel_rfl) (by rfl) (fun K hK => ?_)
    simp only [List.getElem_toArray, List.getElem_cons_zero, List.getElem_cons_succ]
    go_simp
    refine (with_any k w3).mono ?_
    rintro e _ ⟨rfl, rfl⟩
    obtain ⟨kb, hkb⟩ : ∃ kb, w3.heap.size = kb := ⟨_, rfl⟩
    obtain ⟨w4, hw4⟩ : ∃ w4, w3.alloc (.cells #[.int .u64 (k : Int)] 22) = w4 := ⟨_, rfl⟩
    have hk : Keeps (fun _ => False) w3 w4 := by rw [← hw4]; exact (Keeps.refl _ w3).alloc _
    have KB : Hid (w4.heap[kb]? = some (.cells #[.int .u64 (k : Int)] 22 (0, 0))) := by rw [← hw4, ← hkb]; exact World.alloc_heap_new w3 _
    replace HK := Lib.hid (HK.out.quiet hk)
    rw [hw4, hkb]
    refine hK _ _ (Or.inr ?_) (fun hHeld => ?_)
    · exact (hk.block _ (lt_of_heap hHeld) (fun h => h)).trans hHeld
    clear hK K hk hw4 hkb
    replace hHeld := hHeld.resolve_left (by decide)
    try simp only [Act.put, List.setIfInBounds_toArray, List.set_cons_zero, List.set_cons_succ]
    refine z_one 3 rfl (by kernel_rfl) (by rfl) (fun K hK => ?_)
    simp only [List.getElem_toArray, List.getElem_cons_zero, List.getElem_cons_succ]
    go_simp
    refine (with1_any k to eph body tag kb w4 (cellAt KB.out 0) ⟨by unfold U64; omega, HU.out.2.2.2.1, HU.out.2.1⟩).mono ?_
    rw [HE.out.2.2.1]
    rintro e w5 ⟨rfl, hk⟩
    replace HK := Lib.hid (HK.out.quiet hk)
    refine hK _ _ (Or.inr ?_) (fun hHeld => ?_)
    · exact (hk.block _ (lt_of_heap hHeld) (fun h => h)).trans hHeld
    clear hK K hk
    replace hHeld := hHeld.resolve_left (by decide)
    try simp only [Act.put, List.setIfInBounds_toArray, List.set_cons_zero, List.set_cons_succ]
    by_cases htg : t = tag
    · have e2 : ((t : Int) != (tag : Int)) = false := by simp; omega
      have e2' : ((t : Int) == (tag : Int)) = true := by simp; omega
      have HTG := Lib.hid htg
      clear htg
      refine z_one 5 rfl (by kernel_rfl) (by rfl) (fun K hK => ?_)
      simp only [List.getElem_toArray, List.getElem_cons_zero, List.getElem_cons_succ]
      go_simp
      refine hK _ _ (Or.inr ?_) (fun hHeld => ?_)
      · exact hHeld
      clear hK K
      replace hHeld := hHeld.resolve_left (by decide)
      try simp only [Act.put, List.setIfInBounds_toArray, List.set_cons_zero, List.set_cons_succ]
      refine z_done (by kernel_rfl) ?_ _
      have B2 := Lib.hid hHeld
      clear hHeld
      go_wp2_with fail
      refine z_begin (fun w' => w'.heap[b0]? = some (.cells #[.int .u64 (to : Int), .int .u64 (eph : Int), .int .u64 (body : Int), .int .u64 (tag : Int)] 25 (0, 0))) 8 (by kernel_rfl) B2.out (fun hHeld => ?_)
      replace HK := Lib.hid HK.out.drew
      generalize w5.drew = w6 at *
      have B6 := Lib.hid hHeld
      refine z_take 0 (v := ?_) rfl (by kernel_rfl) (by kernel_rfl) (by kernel_rfl) (by kernel_rfl) (fun _ _ _ h => h) hHeld (by rfl) (fun w hSw => ?_) ?_
      rotate_left
      · have q0 := cellAt hSw 0; have q1 := cellAt hSw 1; have q2 := cellAt hSw 2; have q3 := cellAt hSw 3; simp at q0 q1 q2 q3; clear hSw; simp only [List.getElem_toArray, List.getElem_cons_zero]; go_simp; try rfl
      simp only [Act.put, List.getElem_toArray, List.getElem_cons_zero, List.setIfInBounds_toArray, List.set_cons_zero, List.set_cons_succ]
      refine z_take 1 (v := ?_) rfl (by kernel_rfl) (by kernel_rfl) (by kernel_rfl) (by kernel_rfl) (fun _ _ _ h => h) hHeld (by rfl) (fun w hSw => ?_) ?_
      rotate_left
      · have q0 := cellAt hSw 0; have q1 := cellAt hSw 1; have q2 := cellAt hSw 2; have q3 := cellAt hSw 3; simp at q0 q1 q2 q3; clear hSw; simp only [List.getElem_toArray, List.getElem_cons_zero, List.getElem_cons_succ]; go_simp; try rfl
      simp only [Act.put, List.getElem_toArray, List.getElem_cons_zero, List.getElem_cons_succ, List.setIfInBounds_toArray, List.set_cons_zero, List.set_cons_succ]
      refine z_take 2 (v := ?_) rfl (by kernel_rfl) (by kernel_rfl) (by kernel_rfl) (by kernel_rfl) (fun _ _ _ h => h) hHeld (by rfl) (fun w hSw => ?_) ?_
      rotate_left
      · have q0 := cellAt hSw 0; have q1 := cellAt hSw 1; have q2 := cellAt hSw 2; have q3 := cellAt hSw 3; simp at q0 q1 q2 q3; clear hSw; simp only [List.getElem_toArray, List.getElem_cons_zero, List.getElem_cons_succ]; go_simp; try rfl
      simp only [Act.put, List.getElem_toArray, List.getElem_cons_zero, List.getElem_cons_succ, List.setIfInBounds_toArray, List.set_cons_zero, List.set_cons_succ]
      refine z_one 3 rfl (by kernel_rfl) (by rfl) (fun K hK => ?_)
      simp only [List.getElem_toArray, List.getElem_cons_zero, List.getElem_cons_succ]
      go_simp
      refine hK _ _ (Or.inr ?_) (fun hHeld => ?_)
      · exact (((Keeps.refl (fun _ => False) w6).alloc _).block _ (lt_of_heap hHeld) (fun h => h)).trans hHeld
      clear hK K
      replace hHeld := hHeld.resolve_left (by decide)
      try simp only [Act.put, List.setIfInBounds_toArray, List.set_cons_zero, List.set_cons_succ]
      refine z_one 4 rfl (by kernel_rfl) (by rfl) (fun K hK => ?_)
      simp only [List.getElem_toArray, List.getElem_cons_zero, List.getElem_cons_succ]
      go_simp
      refine (of_one ⟨#[109, 97, 115, 107]⟩ k w6 (by decide) (by unfold U64; omega)).mono ?_
      rw [show hof (⟨#[109, 97, 115, 107]⟩ : ByteArray).data.toList [k] = m from HE.out.2.2.2.1]
      rintro e w7 ⟨rfl, hk⟩
      replace HK := Lib.hid (HK.out.quiet hk)
      refine hK _ _ (Or.inr ?_) (fun hHeld => ?_)
      · exact (hk.block _ (lt_of_heap (B6.out)) (fun h => h)).trans B6.out
      clear hK K hk
      replace hHeld := hHeld.resolve_left (by decide)
      try simp only [Act.put, List.setIfInBounds_toArray, List.set_cons_zero, List.set_cons_succ]
      refine z_one 5 rfl (by kernel_rfl) (by rfl) (fun K hK => ?_)
      simp only [List.getElem_toArray, List.getElem_cons_zero, List.getElem_cons_succ]
      go_simp
      refine (sub_any body m w7 HU.out.2.2.2.1 (by unfold U64; omega)).mono ?_
      rintro e _ ⟨rfl, rfl⟩
      refine hK _ _ (Or.inr ?_) (fun hHeld => ?_)
      · exact hHeld
      clear hK K
      replace hHeld := hHeld.resolve_left (by decide)
      try simp only [Act.put, List.setIfInBounds_toArray, List.set_cons_zero, List.set_cons_succ]
      refine z_one 6 rfl (by kernel_rfl) (by rfl) (fun K hK => ?_)
      simp only [List.getElem_toArray, List.getElem_cons_zero, List.getElem_cons_succ]
      go_simp
      refine hK _ _ (Or.inr ?_) (fun hHeld => ?_)
      · exact hHeld
      clear hK K
      replace hHeld := hHeld.resolve_left (by decide)
      try simp only [Act.put, List.setIfInBounds_toArray, List.set_cons_zero, List.set_cons_succ]
      refine z_one 7 rfl (by kernel_rfl) (by rfl) (fun K hK => ?_)
      simp only [List.getElem_toArray, List.getElem_cons_zero, List.getElem_cons_succ]
      go_simp
      refine hK _ _ (Or.inr ?_) (fun hHeld => ?_)
      · exact hHeld
      clear hK K
      replace hHeld := hHeld.resolve_left (by decide)
      try simp only [Act.put, List.setIfInBounds_toArray, List.set_cons_zero, List.set_cons_succ]
      refine z_done (by kernel_rfl) ?_ _
      clear hHeld
      go_wp2
      go_ret2
      refine ⟨?_, HK.out⟩
      have h1 := HTO.out
      have h2 := HTG.out
      rw [HE.out.2.2.2.2, if_neg (by simpa using h1), if_neg (by simpa using h2)]
      rfl
    · have e2 : ((t : Int) != (tag : Int)) = true := by simp; omega
      have e2' : ((t : Int) == (tag : Int)) = false := by simp; omega
      have HTG := Lib.hid htg
      clear htg
      refine z_one 5 rfl (by kernel_rfl) (by rfl) (fun K hK => ?_)
      simp only [List.getElem_toArray, List.getElem_cons_zero, List.getElem_cons_succ]
      go_simp
      refine hK _ _ (Or.inr ?_) (fun hHeld => ?_)
      · exact hHeld
      clear hK K
      replace hHeld := hHeld.resolve_left (by decide)
      try simp only [Act.put, List.setIfInBounds_toArray, List.set_cons_zero, List.set_cons_succ]
      refine z_done (by kernel_rfl) ?_ _
      clear hHeld
      go_wp2
      go_ret2
      refine ⟨?_, HK.out⟩
      have h1 := HTO.out
      rw [HE.out.2.2.2.2, if_neg (by simpa using h1), if_pos HTG.out]
      rfl
  · have e1 : ((to : Int) != (p : Int)) = true := by simp; omega
    refine z_one 4 rfl (by kernel_rfl) (by rfl) (fun K hK => ?_)
    simp only [List.getElem_toArray, List.getElem_cons_zero, List.getElem_cons_succ]
    go_simp
    refine hK _ _ (Or.inr ?_) (fun hHeld => ?_)
    · exact hHeld
    clear hK K
    replace hHeld := hHeld.resolve_left (by decide)
    try simp only [Act.put, List.setIfInBounds_toArray, List.set_cons_zero, List.set_cons_succ]
    refine z_done (by kernel_rfl) ?_ _
    clear hHeld
    go_wp2
    go_ret2
    refine ⟨?_, HK.out⟩
    rw [HE.out.2.2.2.2, if_pos hto]
    rfl
end Go.Proofs.Ytaennfafbohegaa
