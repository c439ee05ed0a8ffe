/-
  Boxes, the reference's: Secret, Num, Pub, Make, Open: what they tell. Conditions: the numbers are below 2^64.
-/
import Derived.Test.YtaennfafbohegaaBox
import Derived.Test.YtaennfafbohegaaRefOfArgs
namespace Go.Proofs.Ytaennfafbohegaa
open Go.RowKit

def sec (n : Nat) : Nat := 1 + n % 2305843009213693949
theorem sec_pos (n : Nat) : 1 ≤ sec n ∧ sec n ≤ 2305843009213693949 := by
  unfold sec
  have := Nat.mod_lt n (show 2305843009213693949 > 0 by decide)
  omega
theorem sec_u (n : Nat) : U64 (sec n) := by have := sec_pos n; unfold U64; omega
theorem sec_any (n : Nat) (w : World) : Calls Try.prog 10 #[.int .u64 n] w fun e w' => e = .returned (.int .u64 (sec n : Int)) ∧ w = w' := by
  obtain ⟨y, hy⟩ : ∃ y, n % 2305843009213693949 = y := ⟨_, rfl⟩
  have e1 : (n : Int) % 2305843009213693949 = (y : Int) := by omega
  have e2 : IntKind.u64.wrap (1 + (y : Int)) = ((1 + y : Nat) : Int) := by rw [IntKind.wrap_u64]; omega
  have HX : Hid (sec n = 1 + y) := by show _ = _; unfold sec; rw [hy]
  clear hy
  go_enter Try.func10, Try.ntmps10
  go_wp2
  go_ret
  exact ⟨by rw [HX.out]; rfl, rfl⟩
theorem refNum_any (n : Nat) (w : World) : Calls Try.prog 11 #[.int .u64 n] w fun e w' => e = .returned (.int .u64 (num n : Int)) ∧ w = w' := by
  have e1 : (n : Int) % 2305843009213693951 = (num n : Int) := by unfold num; omega
  generalize num n = y at *
  go_enter Try.func11, Try.ntmps11
  go_wp2
  go_ret
  exact ⟨by simp [e1], rfl⟩
set_option maxRecDepth 10000 in
theorem refSub_any (a b : Nat) (w : World) : Calls Try.prog 29 #[.int .u64 a, .int .u64 b] w fun e w' => e = .returned (.int .u64 (subm a b : Int)) ∧ w = w' := by
  have la := num_lt a
  have lb := num_lt b
  obtain ⟨x, hx⟩ : ∃ x, num a = x := ⟨_, rfl⟩
  obtain ⟨y, hy⟩ : ∃ y, num b = y := ⟨_, rfl⟩
  obtain ⟨s, hs⟩ : ∃ s, x + 2305843009213693951 = s := ⟨_, rfl⟩
  obtain ⟨d, hd⟩ : ∃ d, s - y = d := ⟨_, rfl⟩
  have r1 : (a : Int) % 2305843009213693951 = (x : Int) := by unfold num at hx; omega
  have r2 : (b : Int) % 2305843009213693951 = (y : Int) := by unfold num at hy; omega
  have e1 : IntKind.u64.wrap ((x : Int) + 2305843009213693951) = (s : Int) := by rw [IntKind.wrap_u64]; omega
  have e2 : IntKind.u64.wrap ((s : Int) - (y : Int)) = (d : Int) := by rw [IntKind.wrap_u64]; omega
  have hf : subm a b = num d := by unfold subm; rw [hx, hy, hs, hd]
  have r3 : (d : Int) % 2305843009213693951 = (num d : Int) := by unfold num; omega
  have HH := Lib.hid hf
  clear hf hs hd la lb hx hy
  generalize num d = z at *
  go_enter Try.func29, Try.ntmps29
  go_wp2
  go_ret
  exact ⟨by simp [HH.out, r3], rfl⟩
theorem refPub_any (s : Nat) (w : World) (hs : U64 s) : Calls Try.prog 13 #[.int .u64 s] w fun e w' => e = .returned (.int .u64 (powm 37 s : Int)) ∧ Keeps (fun _ => False) w w' := by
  have HT := Lib.hid (refPow_any 37 s w hs)
  clear hs
  go_enter Try.func13, Try.ntmps13
  go_wp2_with fail
  refine HT.out.mono ?_
  rintro e w1 ⟨rfl, hk⟩
  have H := Lib.hid hk
  clear hk HT
  go_wp2
  go_ret
  exact ⟨rfl, H.out⟩

set_option maxHeartbeats 1000000 in
theorem refMake_any (to once v : Nat) (w : World) (h1 : U64 to) (h2 : U64 once) :
    Calls Try.prog 15 #[.int .u64 to, .int .u64 once, .int .u64 v] w fun e w' => e = .returned (bxV (mkBox to once v)) ∧ Keeps (fun _ => False) w w' := by
  obtain ⟨b0, hb0⟩ : ∃ b0, w.heap.size = b0 := ⟨_, rfl⟩
  obtain ⟨W0, hW0⟩ : ∃ W0, w.alloc (.cells #[.int .u64 0, .int .u64 0, .int .u64 0, .int .u64 0] 25) = W0 := ⟨_, rfl⟩
  have hk0 : Keeps (fun _ => False) w W0 := by rw [← hW0]; exact (Keeps.refl _ w).alloc _
  have q0 : W0.heap[b0]? = some (.cells #[.int .u64 0, .int .u64 0, .int .u64 0, .int .u64 0] 25 (0, 0)) := by rw [← hW0, ← hb0]; exact World.alloc_heap_new w _
  obtain ⟨k, hk⟩ : ∃ k, powm to once = k := ⟨_, rfl⟩
  have hkl : k < 2305843009213693951 := by rw [← hk]; exact powm_lt _ _
  obtain ⟨m, hm⟩ : ∃ m, hof sMask [k] = m := ⟨_, rfl⟩
  have hml : m < 2305843009213693951 := by rw [← hm]; exact hof_lt _ _
  obtain ⟨p, hp⟩ : ∃ p, powm 37 once = p := ⟨_, rfl⟩
  obtain ⟨bd, hbd⟩ : ∃ bd, addm v m = bd := ⟨_, rfl⟩
  have hbl : bd < 2305843009213693951 := by rw [← hbd]; exact num_lt _
  obtain ⟨t, ht⟩ : ∃ t, hof sTag [k, bd, to] = t := ⟨_, rfl⟩
  have hfin : bxV (mkBox to once v) = .agg #[.int .u64 (to : Int), .int .u64 (p : Int), .int .u64 (bd : Int), .int .u64 (t : Int)] := by
    unfold mkBox withK bxV
    simp only [hk, hm, hp, hbd, ht]
  have HQ := Lib.hid (And.intro q0 (And.intro hk0 (And.intro hW0 hb0)))
  have HE := Lib.hid (And.intro hk (And.intro hm (And.intro hp (And.intro hbd (And.intro ht hfin)))))
  have HU := Lib.hid (And.intro h1 h2)
  clear q0 hk0 hW0 hb0 hk hm hp hbd ht hfin h1 h2
  go_enter Try.func15, Try.ntmps15
  go_wp2_with fail
  rw [HQ.out.2.2.2, HQ.out.2.2.1]
  refine (refPow_any to once W0 HU.out.2).mono ?_
  rw [HE.out.1]
  rintro e w1 ⟨rfl, hk1⟩
  have B1 := Lib.hid ((hk1.block b0 (lt_of_heap HQ.out.1) (fun h => h)).trans HQ.out.1)
  have HK := Lib.hid (HQ.out.2.1.quiet hk1)
  clear hk1
  go_wp2_with fail
  refine (refPub_any once w1 HU.out.2).mono ?_
  rw [HE.out.2.2.1]
  rintro e w3 ⟨rfl, hk3⟩
  replace B1 := Lib.hid ((hk3.block b0 (lt_of_heap B1.out) (fun h => h)).trans B1.out)
  replace HK := Lib.hid (HK.out.quiet hk3)
  clear hk3
  go_wp2_with fail
  refine (refOf_one ⟨#[109, 97, 115, 107]⟩ k w3 (by decide) (by unfold U64; omega)).mono ?_
  rw [show hof (⟨#[109, 97, 115, 107]⟩ : ByteArray).data.toList [k] = m from HE.out.2.1]
  rintro e w4 ⟨rfl, hk4⟩
  replace B1 := Lib.hid ((hk4.block b0 (lt_of_heap B1.out) (fun h => h)).trans B1.out)
  replace HK := Lib.hid (HK.out.quiet hk4)
  clear hk4
  go_wp2_with fail
  refine (refAdd_any v m w4).mono ?_
  rw [HE.out.2.2.2.1]
  rintro e _ ⟨rfl, rfl⟩
  obtain ⟨b4, hb4⟩ : ∃ b4, w4.heap.size = b4 := ⟨_, rfl⟩
  have hlt04 := lt_of_heap B1.out
  obtain ⟨W5, hW5⟩ : ∃ W5, w4.alloc (.cells #[.int .u64 (to : Int), .int .u64 (p : Int), .int .u64 (bd : Int), .int .u64 0] 25) = W5 := ⟨_, rfl⟩
  have hk5 : Keeps (fun _ => False) w4 W5 := by rw [← hW5]; exact (Keeps.refl _ w4).alloc _
  have q5 : W5.heap[b4]? = some (.cells #[.int .u64 (to : Int), .int .u64 (p : Int), .int .u64 (bd : Int), .int .u64 0] 25 (0, 0)) := by rw [← hW5, ← hb4]; exact World.alloc_heap_new w4 _
  have hz5 : W5.heap.size = b4 + 1 := by rw [← hW5, ← hb4]; simp
  have ht3 := refOf_three ⟨#[116, 97, 103]⟩ k bd to W5 (by decide) (by unfold U64; omega) (by unfold U64; omega) HU.out.1
  rw [hz5] at ht3
  replace B1 := Lib.hid ((hk5.block b0 (lt_of_heap B1.out) (fun h => h)).trans B1.out)
  replace HK := Lib.hid (HK.out.quiet hk5)
  have H5 := Lib.hid (And.intro hW5 (And.intro hb4 (And.intro q5 ht3)))
  have hb04 : b0 ≠ b4 := by omega
  have HB4 : Hid (w.heap.size ≤ b4) := by show _ ≤ _; have := HQ.out.2.2.2; omega
  clear hW5 hb4 q5 ht3 hk5 hz5
  go_wp2_with fail
  rw [H5.out.2.1, H5.out.1]
  refine H5.out.2.2.2.mono ?_
  rw [show hof (⟨#[116, 97, 103]⟩ : ByteArray).data.toList [k, bd, to] = t from HE.out.2.2.2.2.1]
  rintro e w6 ⟨rfl, hk6⟩
  have p1 := (hk6.block b0 (lt_of_heap B1.out) (fun h => h)).trans B1.out
  have p4 := (hk6.block b4 (lt_of_heap H5.out.2.2.1) (fun h => h)).trans H5.out.2.2.1
  replace HK := Lib.hid (HK.out.quiet hk6)
  have c0 := cellAt p4 0
  have c1 := cellAt p4 1
  have c2 := cellAt p4 2
  have c3 := cellAt p4 3
  have f3 := freeAt p4 3
  have d0 := cellAt p1 0
  have d1 := cellAt p1 1
  have d2 := cellAt p1 2
  have d3 := cellAt p1 3
  have g0 := freeAt p1 0
  have g1 := freeAt p1 1
  have g2 := freeAt p1 2
  have g3 := freeAt p1 3
  simp at c0 c1 c2 c3 d0 d1 d2 d3
  have hb40 : b4 ≠ b0 := fun h => hb04 h.symm
  clear hk6 p1 p4
  go_wp2
  have hb := HQ.out.2.2.2
  have hb4 := HB4.out
  refine bodyPost_ret (v := .agg #[.int .u64 (to : Int), .int .u64 (p : Int), .int .u64 (bd : Int), .int .u64 (t : Int)]) (by simp [results, Try.results15, go_sem, d0, d1, d2, d3]) rfl ⟨by rw [HE.out.2.2.2.2.2], ?_⟩
  exact (HK.out.set1 (by omega) 3 _).set4 (by omega) _ _ _ _

set_option maxHeartbeats 2000000 in
set_option maxRecDepth 10000 in
theorem refOpen_any (s to eph body tag : Nat) (w : World) (hs : U64 s) (hb : Bx.ok ⟨to, eph, body, tag⟩) :
    Calls Try.prog 19 #[.int .u64 s, .agg #[.int .u64 (to : Int), .int .u64 (eph : Int), .int .u64 (body : Int), .int .u64 (tag : Int)]] w fun e w' => e = .returned (.tuple #[.int .u64 ((openBox s ⟨to, eph, body, tag⟩).1 : Int), .int .i64 (openBox s ⟨to, eph, body, tag⟩).2]) ∧ Keeps (fun _ => False) w w' := by
  obtain ⟨b0, hb0⟩ : ∃ b0, w.heap.size = b0 := ⟨_, rfl⟩
  obtain ⟨W0, hW0⟩ : ∃ W0, w.alloc (.cells #[.int .u64 (to : Int), .int .u64 (eph : Int), .int .u64 (body : Int), .int .u64 (tag : Int)] 25) = W0 := ⟨_, rfl⟩
  have hk0 : Keeps (fun _ => False) w W0 := by rw [← hW0]; exact (Keeps.refl _ w).alloc _
  have q0 : W0.heap[b0]? = some (.cells #[.int .u64 (to : Int), .int .u64 (eph : Int), .int .u64 (body : Int), .int .u64 (tag : Int)] 25 (0, 0)) := by rw [← hW0, ← hb0]; exact World.alloc_heap_new w _
  obtain ⟨p, hp⟩ : ∃ p, powm 37 s = p := ⟨_, rfl⟩
  obtain ⟨k, hk⟩ : ∃ k, powm eph s = k := ⟨_, rfl⟩
  have hkl : k < 2305843009213693951 := by rw [← hk]; exact powm_lt _ _
  obtain ⟨t, ht⟩ : ∃ t, hof sTag [k, body, to] = t := ⟨_, rfl⟩
  obtain ⟨m, hm⟩ : ∃ m, hof sMask [k] = m := ⟨_, rfl⟩
  have hml : m < 2305843009213693951 := by rw [← hm]; exact hof_lt _ _
  have hopen : openBox s ⟨to, eph, body, tag⟩ = if to ≠ p then (0, 20) else if t ≠ tag then (0, 21) else (subm body m, 0) := by
    unfold openBox withK
    simp only [hp, hk, ht, hm, Bx.mk.injEq, true_and, ne_eq]
  have HQ := Lib.hid (And.intro q0 (And.intro hk0 (And.intro hW0 hb0)))
  have HE := Lib.hid (And.intro hp (And.intro hk (And.intro ht (And.intro hm hopen))))
  have HU := Lib.hid (And.intro hs hb)
  clear q0 hk0 hW0 hb0 hp hk ht hm hopen hs hb
  go_enter Try.func19, Try.ntmps19
  go_wp2_with fail
  rw [HQ.out.2.2.2, HQ.out.2.2.1]
  have B0 := Lib.hid HQ.out.1
  have HK := Lib.hid HQ.out.2.1
  refine z_begin (fun w' => w'.heap[b0]? = some (.cells #[.int .u64 (to : Int), .int .u64 (eph : Int), .int .u64 (body : Int), .int .u64 (tag : Int)] 25 (0, 0))) 5 (by kernel_rfl) B0.out (fun hHeld => ?_)
  replace HK := Lib.hid HK.out.drew
  generalize W0.drew = W1 at *
  refine z_take 0 (v := ?_) rfl (by kernel_rfl) (by kernel_rfl) (by kernel_rfl) (by kernel_rfl) (fun _ _ _ h => h) hHeld (by rfl) (fun w hSw => ?_) ?_
  rotate_left
  · have q0 := cellAt hSw 0; have q1 := cellAt hSw 1; have q2 := cellAt hSw 2; have q3 := cellAt hSw 3; simp at q0 q1 q2 q3; clear hSw; simp only [List.getElem_toArray, List.getElem_cons_zero]; go_simp; try rfl
  simp only [Act.put, List.getElem_toArray, List.getElem_cons_zero, List.setIfInBounds_toArray, List.set_cons_zero, List.set_cons_succ]
  refine z_take 1 (v := ?_) rfl (by kernel_rfl) (by kernel_rfl) (by kernel_rfl) (by kernel_rfl) (fun _ _ _ h => h) hHeld (by rfl) (fun w hSw => ?_) ?_
  rotate_left
  · have q0 := cellAt hSw 0; have q1 := cellAt hSw 1; have q2 := cellAt hSw 2; have q3 := cellAt hSw 3; simp at q0 q1 q2 q3; clear hSw; simp only [List.getElem_toArray, List.getElem_cons_zero, List.getElem_cons_succ]; go_simp; try rfl
  simp only [Act.put, List.getElem_toArray, List.getElem_cons_zero, List.getElem_cons_succ, List.setIfInBounds_toArray, List.set_cons_zero, List.set_cons_succ]
  refine z_take 2 (v := ?_) rfl (by kernel_rfl) (by kernel_rfl) (by kernel_rfl) (by kernel_rfl) (fun _ _ _ h => h) hHeld (by rfl) (fun w hSw => ?_) ?_
  rotate_left
  · have q0 := cellAt hSw 0; have q1 := cellAt hSw 1; have q2 := cellAt hSw 2; have q3 := cellAt hSw 3; simp at q0 q1 q2 q3; clear hSw; simp only [List.getElem_toArray, List.getElem_cons_zero, List.getElem_cons_succ]; go_simp; try rfl
  simp only [Act.put, List.getElem_toArray, List.getElem_cons_zero, List.getElem_cons_succ, List.setIfInBounds_toArray, List.set_cons_zero, List.set_cons_succ]
  refine z_one 3 rfl (by kernel_rfl) (by rfl) (fun K hK => ?_)
  simp only [List.getElem_toArray, List.getElem_cons_zero, List.getElem_cons_succ]
  go_simp
  refine (refPub_any s _ HU.out.1).mono ?_
  rw [HE.out.1]
  rintro e w1 ⟨rfl, hk⟩
  replace HK := Lib.hid (HK.out.quiet hk)
  refine hK _ _ (Or.inr ?_) (fun hHeld => ?_)
  · exact (hk.block _ (lt_of_heap hHeld) (fun h => h)).trans hHeld
  clear hK K hk
  replace hHeld := hHeld.resolve_left (by decide)
  try simp only [Act.put, List.setIfInBounds_toArray, List.set_cons_zero, List.set_cons_succ]
  by_cases hto : to = p
  · have e1 : ((to : Int) != (p : Int)) = false := by simp; omega
    have HTO := Lib.hid hto
    clear hto
    refine z_one 4 rfl (by kernel_rfl) (by rfl) (fun K hK => ?_)
    simp only [List.getElem_toArray, List.getElem_cons_zero, List.getElem_cons_succ]
    go_simp
    refine hK _ _ (Or.inr ?_) (fun hHeld => ?_)
    · exact hHeld
    clear hK K
    replace hHeld := hHeld.resolve_left (by decide)
    try simp only [Act.put, List.setIfInBounds_toArray, List.set_cons_zero, List.set_cons_succ]
    refine z_done (by kernel_rfl) ?_ _
    have B1 := Lib.hid hHeld
    have c1 := cellAt hHeld 1
    simp at c1
    clear hHeld
    go_wp2_with fail
    refine (refPow_any eph s w1 HU.out.1).mono ?_
    rw [HE.out.2.1]
    rintro e w2 ⟨rfl, hk⟩
    replace HK := Lib.hid (HK.out.quiet hk)
    replace B1 := Lib.hid ((hk.block b0 (lt_of_heap B1.out) (fun h => h)).trans B1.out)
    clear hk c1
    go_wp2_with fail
    refine z_begin (fun w' => w'.heap[b0]? = some (.cells #[.int .u64 (to : Int), .int .u64 (eph : Int), .int .u64 (body : Int), .int .u64 (tag : Int)] 25 (0, 0))) 10 (by kernel_rfl) B1.out (fun hHeld => ?_)
    replace HK := Lib.hid HK.out.drew
    generalize w2.drew = w3 at *
    have B3 := Lib.hid hHeld
    refine z_take 0 (v := ?_) rfl (by kernel_rfl) (by kernel_rfl) (by kernel_rfl) (by kernel_rfl) (fun _ _ _ h => h) hHeld (by rfl) (fun w hSw => ?_) ?_
    rotate_left
    · have q0 := cellAt hSw 0; have q1 := cellAt hSw 1; have q2 := cellAt hSw 2; have q3 := cellAt hSw 3; simp at q0 q1 q2 q3; clear hSw; simp only [List.getElem_toArray, List.getElem_cons_zero]; go_simp; try rfl
    simp only [Act.put, List.getElem_toArray, List.getElem_cons_zero, List.setIfInBounds_toArray, List.set_cons_zero, List.set_cons_succ]
    refine z_take 1 (v := ?_) rfl (by kernel_rfl) (by kernel_rfl) (by kernel_rfl) (by kernel_rfl) (fun _ _ _ h => h) hHeld (by rfl) (fun w hSw => ?_) ?_
    rotate_left
    · have q0 := cellAt hSw 0; have q1 := cellAt hSw 1; have q2 := cellAt hSw 2; have q3 := cellAt hSw 3; simp at q0 q1 q2 q3; clear hSw; simp only [List.getElem_toArray, List.getElem_cons_zero, List.getElem_cons_succ]; go_simp; try rfl
    simp only [Act.put, List.getElem_toArray, List.getElem_cons_zero, List.getElem_cons_succ, List.setIfInBounds_toArray, List.set_cons_zero, List.set_cons_succ]
    refine z_take 2 (v := ?_) rfl (by kernel_rfl) (by kernel_rfl) (by kernel_rfl) (by kernel_rfl) (fun _ _ _ h => h) hHeld (by rfl) (fun w hSw => ?_) ?_
    rotate_left
    · have q0 := cellAt hSw 0; have q1 := cellAt hSw 1; have q2 := cellAt hSw 2; have q3 := cellAt hSw 3; simp at q0 q1 q2 q3; clear hSw; simp only [List.getElem_toArray, List.getElem_cons_zero, List.getElem_cons_succ]; go_simp; try rfl
    simp only [Act.put, List.getElem_toArray, List.getElem_cons_zero, List.getElem_cons_succ, List.setIfInBounds_toArray, List.set_cons_zero, List.set_cons_succ]
    refine z_take 3 (v := ?_) rfl (by kernel_rfl) (by kernel_rfl) (by kernel_rfl) (by kernel_rfl) (fun _ _ _ h => h) hHeld (by rfl) (fun w hSw => ?_) ?_
    rotate_left
    · have q0 := cellAt hSw 0; have q1 := cellAt hSw 1; have q2 := cellAt hSw 2; have q3 := cellAt hSw 3; simp at q0 q1 q2 q3; clear hSw; simp only [List.getElem_toArray, List.getElem_cons_zero, List.getElem_cons_succ]; go_simp; try rfl
    simp only [Act.put, List.getElem_toArray, List.getElem_cons_zero, List.getElem_cons_succ, List.setIfInBounds_toArray, List.set_cons_zero, List.set_cons_succ]
    refine z_take 4 (v := ?_) rfl (by kernel_rfl) (by kernel_rfl) (by kernel_rfl) (by kernel_rfl) (fun _ _ _ h => h) hHeld (by rfl) (fun w hSw => ?_) ?_
    rotate_left
    · have q0 := cellAt hSw 0; have q1 := cellAt hSw 1; have q2 := cellAt hSw 2; have q3 := cellAt hSw 3; simp at q0 q1 q2 q3; clear hSw; simp only [List.getElem_toArray, List.getElem_cons_zero, List.getElem_cons_succ]; go_simp; try rfl
    simp only [Act.put, List.getElem_toArray, List.getElem_cons_zero, List.getElem_cons_succ, List.setIfInBounds_toArray, List.set_cons_zero, List.set_cons_succ]
    refine z_take 5 (v := ?_) rfl (by kernel_rfl) (by kernel_rfl) (by kernel_rfl) (by kernel_rfl) (fun _ _ _ h => h) hHeld (by rfl) (fun w hSw => ?_) ?_
    rotate_left
    · have q0 := cellAt hSw 0; have q1 := cellAt hSw 1; have q2 := cellAt hSw 2; have q3 := cellAt hSw 3; simp at q0 q1 q2 q3; clear hSw; simp only [List.getElem_toArray, List.getElem_cons_zero, List.getElem_cons_succ]; go_simp; try rfl
    simp only [Act.put, List.getElem_toArray, List.getElem_cons_zero, List.getElem_cons_succ, List.setIfInBounds_toArray, List.set_cons_zero, List.set_cons_succ]
    refine z_take 6 (v := ?_) rfl (by kernel_rfl) (by kernel_rfl) (by kernel_rfl) (by kernel_rfl) (fun _ _ _ h => h) hHeld (by rfl) (fun w hSw => ?_) ?_
    rotate_left
    · have q0 := cellAt hSw 0; have q1 := cellAt hSw 1; have q2 := cellAt hSw 2; have q3 := cellAt hSw 3; simp at q0 q1 q2 q3; clear hSw; simp only [List.getElem_toArray, List.getElem_cons_zero, List.getElem_cons_succ]; go_simp; try rfl
    simp only [Act.put, List.getElem_toArray, List.getElem_cons_zero, List.getElem_cons_succ, List.setIfInBounds_toArray, List.set_cons_zero, List.set_cons_succ]
    refine z_one 7 rfl (by kernel_rfl) (by rfl) (fun K hK => ?_)
    simp only [List.getElem_toArray, List.getElem_cons_zero, List.getElem_cons_succ]
    go_simp
    refine hK _ _ (Or.inr ?_) (fun hHeld => ?_)
    · exact (((Keeps.refl (fun _ => False) w3).alloc _).block _ (lt_of_heap hHeld) (fun h => h)).trans hHeld
    clear hK K
    replace hHeld := hHeld.resolve_left (by decide)
    try simp only [Act.put, List.setIfInBounds_toArray, List.set_cons_zero, List.set_cons_succ]
    refine z_one 8 rfl (by kernel_rfl) (by rfl) (fun K hK => ?_)
    simp only [List.getElem_toArray, List.getElem_cons_zero, List.getElem_cons_succ]
    go_simp
    refine (refOf_three ⟨#[116, 97, 103]⟩ k body to w3 (by decide) (by unfold U64; omega) HU.out.2.2.2.1 HU.out.2.1).mono ?_
    rw [show hof (⟨#[116, 97, 103]⟩ : ByteArray).data.toList [k, body, to] = t from HE.out.2.2.1]
    rintro e w5 ⟨rfl, hk⟩
    replace HK := Lib.hid (HK.out.quiet hk)
    refine hK _ _ (Or.inr ?_) (fun hHeld => ?_)
    · exact (hk.block _ (lt_of_heap B3.out) (fun h => h)).trans B3.out
    clear hK K hk
    replace hHeld := hHeld.resolve_left (by decide)
    try simp only [Act.put, List.setIfInBounds_toArray, List.set_cons_zero, List.set_cons_succ]
    by_cases htg : t = tag
    · have e2 : ((tag : Int) != (t : Int)) = false := by simp; omega
      have HTG := Lib.hid htg
      clear htg
      refine z_one 9 rfl (by kernel_rfl) (by rfl) (fun K hK => ?_)
      simp only [List.getElem_toArray, List.getElem_cons_zero, List.getElem_cons_succ]
      go_simp
      refine hK _ _ (Or.inr ?_) (fun hHeld => ?_)
      · exact hHeld
      clear hK K
      replace hHeld := hHeld.resolve_left (by decide)
      try simp only [Act.put, List.setIfInBounds_toArray, List.set_cons_zero, List.set_cons_succ]
      refine z_done (by kernel_rfl) ?_ _
      have B2 := Lib.hid hHeld
      clear hHeld
      go_wp2_with fail
      refine z_begin (fun w' => w'.heap[b0]? = some (.cells #[.int .u64 (to : Int), .int .u64 (eph : Int), .int .u64 (body : Int), .int .u64 (tag : Int)] 25 (0, 0))) 8 (by kernel_rfl) B2.out (fun hHeld => ?_)
      replace HK := Lib.hid HK.out.drew
      generalize w5.drew = w6 at *
      have B6 := Lib.hid hHeld
      refine z_take 0 (v := ?_) rfl (by kernel_rfl) (by kernel_rfl) (by kernel_rfl) (by kernel_rfl) (fun _ _ _ h => h) hHeld (by rfl) (fun w hSw => ?_) ?_
      rotate_left
      · have q0 := cellAt hSw 0; have q1 := cellAt hSw 1; have q2 := cellAt hSw 2; have q3 := cellAt hSw 3; simp at q0 q1 q2 q3; clear hSw; simp only [List.getElem_toArray, List.getElem_cons_zero]; go_simp; try rfl
      simp only [Act.put, List.getElem_toArray, List.getElem_cons_zero, List.setIfInBounds_toArray, List.set_cons_zero, List.set_cons_succ]
      refine z_take 1 (v := ?_) rfl (by kernel_rfl) (by kernel_rfl) (by kernel_rfl) (by kernel_rfl) (fun _ _ _ h => h) hHeld (by rfl) (fun w hSw => ?_) ?_
      rotate_left
      · have q0 := cellAt hSw 0; have q1 := cellAt hSw 1; have q2 := cellAt hSw 2; have q3 := cellAt hSw 3; simp at q0 q1 q2 q3; clear hSw; simp only [List.getElem_toArray, List.getElem_cons_zero, List.getElem_cons_succ]; go_simp; try rfl
      simp only [Act.put, List.getElem_toArray, List.getElem_cons_zero, List.getElem_cons_succ, List.setIfInBounds_toArray, List.set_cons_zero, List.set_cons_succ]
      refine z_take 2 (v := ?_) rfl (by kernel_rfl) (by kernel_rfl) (by kernel_rfl) (by kernel_rfl) (fun _ _ _ h => h) hHeld (by rfl) (fun w hSw => ?_) ?_
      rotate_left
      · have q0 := cellAt hSw 0; have q1 := cellAt hSw 1; have q2 := cellAt hSw 2; have q3 := cellAt hSw 3; simp at q0 q1 q2 q3; clear hSw; simp only [List.getElem_toArray, List.getElem_cons_zero, List.getElem_cons_succ]; go_simp; try rfl
      simp only [Act.put, List.getElem_toArray, List.getElem_cons_zero, List.getElem_cons_succ, List.setIfInBounds_toArray, List.set_cons_zero, List.set_cons_succ]
      refine z_one 3 rfl (by kernel_rfl) (by rfl) (fun K hK => ?_)
      simp only [List.getElem_toArray, List.getElem_cons_zero, List.getElem_cons_succ]
      go_simp
      refine hK _ _ (Or.inr ?_) (fun hHeld => ?_)
      · exact (((Keeps.refl (fun _ => False) w6).alloc _).block _ (lt_of_heap hHeld) (fun h => h)).trans hHeld
      clear hK K
      replace hHeld := hHeld.resolve_left (by decide)
      try simp only [Act.put, List.setIfInBounds_toArray, List.set_cons_zero, List.set_cons_succ]
      refine z_one 4 rfl (by kernel_rfl) (by rfl) (fun K hK => ?_)
      simp only [List.getElem_toArray, List.getElem_cons_zero, List.getElem_cons_succ]
      go_simp
      refine (refOf_one ⟨#[109, 97, 115, 107]⟩ k w6 (by decide) (by unfold U64; omega)).mono ?_
      rw [show hof (⟨#[109, 97, 115, 107]⟩ : ByteArray).data.toList [k] = m from HE.out.2.2.2.1]
      rintro e w7 ⟨rfl, hk⟩
      replace HK := Lib.hid (HK.out.quiet hk)
      refine hK _ _ (Or.inr ?_) (fun hHeld => ?_)
      · exact (hk.block _ (lt_of_heap B6.out) (fun h => h)).trans B6.out
      clear hK K hk
      replace hHeld := hHeld.resolve_left (by decide)
      try simp only [Act.put, List.setIfInBounds_toArray, List.set_cons_zero, List.set_cons_succ]
      refine z_one 5 rfl (by kernel_rfl) (by rfl) (fun K hK => ?_)
      simp only [List.getElem_toArray, List.getElem_cons_zero, List.getElem_cons_succ]
      go_simp
      refine (refSub_any body m w7).mono ?_
      rintro e _ ⟨rfl, rfl⟩
      refine hK _ _ (Or.inr ?_) (fun hHeld => ?_)
      · exact hHeld
      clear hK K
      replace hHeld := hHeld.resolve_left (by decide)
      try simp only [Act.put, List.setIfInBounds_toArray, List.set_cons_zero, List.set_cons_succ]
      refine z_one 6 rfl (by kernel_rfl) (by rfl) (fun K hK => ?_)
      simp only [List.getElem_toArray, List.getElem_cons_zero, List.getElem_cons_succ]
      go_simp
      refine hK _ _ (Or.inr ?_) (fun hHeld => ?_)
      · exact hHeld
      clear hK K
      replace hHeld := hHeld.resolve_left (by decide)
      try simp only [Act.put, List.setIfInBounds_toArray, List.set_cons_zero, List.set_cons_succ]
      refine z_one 7 rfl (by kernel_rfl) (by rfl) (fun K hK => ?_)
      simp only [List.getElem_toArray, List.getElem_cons_zero, List.getElem_cons_succ]
      go_simp
      refine hK _ _ (Or.inr ?_) (fun hHeld => ?_)
      · exact hHeld
      clear hK K
      replace hHeld := hHeld.resolve_left (by decide)
      try simp only [Act.put, List.setIfInBounds_toArray, List.set_cons_zero, List.set_cons_succ]
      refine z_done (by kernel_rfl) ?_ _
      clear hHeld
      go_wp2
      go_ret2
      refine ⟨?_, HK.out⟩
      have h1 := HTO.out
      have h2 := HTG.out
      rw [HE.out.2.2.2.2, if_neg (by simpa using h1), if_neg (by simpa using h2)]
      rfl
    · have e2 : ((tag : Int) != (t : Int)) = true := by simp; omega
      have HTG := Lib.hid htg
      clear htg
      refine z_one 9 rfl (by kernel_rfl) (by rfl) (fun K hK => ?_)
      simp only [List.getElem_toArray, List.getElem_cons_zero, List.getElem_cons_succ]
      go_simp
      refine hK _ _ (Or.inr ?_) (fun hHeld => ?_)
      · exact hHeld
      clear hK K
      replace hHeld := hHeld.resolve_left (by decide)
      try simp only [Act.put, List.setIfInBounds_toArray, List.set_cons_zero, List.set_cons_succ]
      refine z_done (by kernel_rfl) ?_ _
      clear hHeld
      go_wp2
      go_ret2
      refine ⟨?_, HK.out⟩
      have h1 := HTO.out
      rw [HE.out.2.2.2.2, if_neg (by simpa using h1), if_pos HTG.out]
      rfl
  · have e1 : ((to : Int) != (p : Int)) = true := by simp; omega
    refine z_one 4 rfl (by kernel_rfl) (by rfl) (fun K hK => ?_)
    simp only [List.getElem_toArray, List.getElem_cons_zero, List.getElem_cons_succ]
    go_simp
    refine hK _ _ (Or.inr ?_) (fun hHeld => ?_)
    · exact hHeld
    clear hK K
    replace hHeld := hHeld.resolve_left (by decide)
    try simp only [Act.put, List.setIfInBounds_toArray, List.set_cons_zero, List.set_cons_succ]
    refine z_done (by kernel_rfl) ?_ _
    clear hHeld
    go_wp2
    go_ret2
    refine ⟨?_, HK.out⟩
    rw [HE.out.2.2.2.2, if_pos hto]
    rfl
end Go.Proofs.Ytaennfafbohegaa
