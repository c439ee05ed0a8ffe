/-
  The law BoxReads: the walk. Conditions: the arguments are what came in.
-/
import Derived.Test.YtaennfafbohegaaLives06
import Derived.Test.YtaennfafbohegaaAround
import Derived.Test.YtaennfafbohegaaOpen
import Derived.Deep.DeepCutAuto
namespace Go.Proofs.Ytaennfafbohegaa
open Go.RowKit

def RdRel (w : World) (i : Value) (wr : World) : Prop := ∃ k : Nat, k ≤ 4 ∧ i = .int .i64 (k : Int) ∧ Keeps (fun _ => False) w wr

set_option maxHeartbeats 4000000 in
set_option maxRecDepth 10000 in
theorem boxReads_walk (s bt be by_ bg once v : Nat) (which : Int) (w : World) (h1 : -9223372036854775808 ≤ which) (h2 : which ≤ 9223372036854775807) :
    Calls Try.prog 4 #[.int .u64 s, .agg #[.int .u64 (bt : Int), .int .u64 (be : Int), .int .u64 (by_ : Int), .int .u64 (bg : Int)], .int .u64 once, .int .u64 v, .int .i64 which] w fun e w' => e = .returned (.bool true) ∧ Keeps (fun _ => False) w w' := by
  obtain ⟨r0, hr0⟩ : ∃ k, num bt = k := ⟨_, rfl⟩
  obtain ⟨r1, hr1⟩ : ∃ k, num be = k := ⟨_, rfl⟩
  obtain ⟨r2, hr2⟩ : ∃ k, num by_ = k := ⟨_, rfl⟩
  obtain ⟨r3, hr3⟩ : ∃ k, num bg = k := ⟨_, rfl⟩
  obtain ⟨a, ha⟩ : ∃ a, sec s = a := ⟨_, rfl⟩
  obtain ⟨o, ho⟩ : ∃ o, sec once = o := ⟨_, rfl⟩
  obtain ⟨n, hn⟩ : ∃ n, num v = n := ⟨_, rfl⟩
  obtain ⟨p, hp⟩ : ∃ p, powm 37 a = p := ⟨_, rfl⟩
  obtain ⟨t, e, y, g, hB⟩ := bx_parts (mkBox p o n)
  have hok : Bx.ok ⟨t, e, y, g⟩ := hB ▸ mkBox_ok p o n (hp ▸ pow_u _ _)
  have HR := Lib.hid (And.intro hr0 (And.intro hr1 (And.intro hr2 hr3)))
  have HE := Lib.hid (And.intro ha (And.intro ho (And.intro hn (And.intro hp hB))))
  have HU : Hid (U64 a ∧ U64 o ∧ U64 n ∧ U64 p) := ⟨ha ▸ sec_u s, ho ▸ sec_u once, hn ▸ num_u v, hp ▸ pow_u _ _⟩
  have HUR : Hid (U64 r0 ∧ U64 r1 ∧ U64 r2 ∧ U64 r3) := ⟨hr0 ▸ num_u _, hr1 ▸ num_u _, hr2 ▸ num_u _, hr3 ▸ num_u _⟩
  have HOK := Lib.hid hok
  have HW := Lib.hid (And.intro h1 h2)
  clear hr0 hr1 hr2 hr3 ha ho hn hp hB hok h1 h2
  go_enter Try.func4, Try.ntmps4
  have HK := Lib.hid (Keeps.refl (fun _ => False) w)
  obtain ⟨bp, hbp⟩ : ∃ b, w.heap.size = b := ⟨_, rfl⟩
  obtain ⟨W0, hW0⟩ : ∃ W, w.alloc (.cells #[.int .u64 (bt : Int), .int .u64 (be : Int), .int .u64 (by_ : Int), .int .u64 (bg : Int)] 25) = W := ⟨_, rfl⟩
  have hk : Keeps (fun _ => False) w W0 := by rw [← hW0]; exact (Keeps.refl _ w).alloc _
  have Bkp : Hid (W0.heap[bp]? = some (.cells #[.int .u64 (bt : Int), .int .u64 (be : Int), .int .u64 (by_ : Int), .int .u64 (bg : Int)] 25 (0, 0))) := by rw [← hW0, ← hbp]; exact World.alloc_heap_new w _
  replace HK := Lib.hid hk
  have E0 := Lib.hid (And.intro hW0 hbp)
  clear hW0 hbp hk
  go_wp2_with fail
  rw [E0.out.2, E0.out.1]
  refine (sec_any s W0).mono ?_
  rw [HE.out.1]
  rintro r _ ⟨rfl, rfl⟩
  go_upto_region 2 with (fail)
  go_cut [12] (fun s12 wx => ∃ br : Nat, s12 = .pointer (some ⟨br, 0, none⟩) ∧ wx.heap[br]? = some (.cells #[.int .u64 (r0 : Int), .int .u64 (r1 : Int), .int .u64 (r2 : Int), .int .u64 (r3 : Int)] 25 (0, 0)) ∧ Keeps (fun _ => False) w wx ∧ w.heap.size ≤ br)
  case first =>
    refine z_begin (fun w' => w'.heap[bp]? = some (.cells #[.int .u64 (bt : Int), .int .u64 (be : Int), .int .u64 (by_ : Int), .int .u64 (bg : Int)] 25 (0, 0))) 15 (by kernel_rfl) Bkp.out (fun hHeld => ?_)
    replace HK := Lib.hid HK.out.drew
    generalize W0.drew = W1 at *
    refine z_take 0 (v := ?_) rfl (by kernel_rfl) (by kernel_rfl) (by kernel_rfl) (by kernel_rfl) (fun _ _ _ h => h) hHeld (by rfl) (fun w hSw => ?_) ?_
    rotate_left
    · have q0 := cellAt hSw 0; have q1 := cellAt hSw 1; have q2 := cellAt hSw 2; have q3 := cellAt hSw 3; simp at q0 q1 q2 q3; clear hSw; simp only [List.getElem_toArray, List.getElem_cons_zero]; go_simp; try rfl
    simp only [Act.put, List.getElem_toArray, List.getElem_cons_zero, List.setIfInBounds_toArray, List.set_cons_zero, List.set_cons_succ]
    refine z_take 1 (v := ?_) rfl (by kernel_rfl) (by kernel_rfl) (by kernel_rfl) (by kernel_rfl) (fun _ _ _ h => h) hHeld (by rfl) (fun w hSw => ?_) ?_
    rotate_left
    · have q0 := cellAt hSw 0; have q1 := cellAt hSw 1; have q2 := cellAt hSw 2; have q3 := cellAt hSw 3; simp at q0 q1 q2 q3; clear hSw; simp only [List.getElem_toArray, List.getElem_cons_zero, List.getElem_cons_succ]; go_simp; try rfl
    simp only [Act.put, List.getElem_toArray, List.getElem_cons_zero, List.getElem_cons_succ, List.setIfInBounds_toArray, List.set_cons_zero, List.set_cons_succ]
    refine z_take 3 (v := ?_) rfl (by kernel_rfl) (by kernel_rfl) (by kernel_rfl) (by kernel_rfl) (fun _ _ _ h => h) hHeld (by rfl) (fun w hSw => ?_) ?_
    rotate_left
    · have q0 := cellAt hSw 0; have q1 := cellAt hSw 1; have q2 := cellAt hSw 2; have q3 := cellAt hSw 3; simp at q0 q1 q2 q3; clear hSw; simp only [List.getElem_toArray, List.getElem_cons_zero, List.getElem_cons_succ]; go_simp; try rfl
    simp only [Act.put, List.getElem_toArray, List.getElem_cons_zero, List.getElem_cons_succ, List.setIfInBounds_toArray, List.set_cons_zero, List.set_cons_succ]
    refine z_take 4 (v := ?_) rfl (by kernel_rfl) (by kernel_rfl) (by kernel_rfl) (by kernel_rfl) (fun _ _ _ h => h) hHeld (by rfl) (fun w hSw => ?_) ?_
    rotate_left
    · have q0 := cellAt hSw 0; have q1 := cellAt hSw 1; have q2 := cellAt hSw 2; have q3 := cellAt hSw 3; simp at q0 q1 q2 q3; clear hSw; simp only [List.getElem_toArray, List.getElem_cons_zero, List.getElem_cons_succ]; go_simp; try rfl
    simp only [Act.put, List.getElem_toArray, List.getElem_cons_zero, List.getElem_cons_succ, List.setIfInBounds_toArray, List.set_cons_zero, List.set_cons_succ]
    refine z_take 6 (v := ?_) rfl (by kernel_rfl) (by kernel_rfl) (by kernel_rfl) (by kernel_rfl) (fun _ _ _ h => h) hHeld (by rfl) (fun w hSw => ?_) ?_
    rotate_left
    · have q0 := cellAt hSw 0; have q1 := cellAt hSw 1; have q2 := cellAt hSw 2; have q3 := cellAt hSw 3; simp at q0 q1 q2 q3; clear hSw; simp only [List.getElem_toArray, List.getElem_cons_zero, List.getElem_cons_succ]; go_simp; try rfl
    simp only [Act.put, List.getElem_toArray, List.getElem_cons_zero, List.getElem_cons_succ, List.setIfInBounds_toArray, List.set_cons_zero, List.set_cons_succ]
    refine z_take 7 (v := ?_) rfl (by kernel_rfl) (by kernel_rfl) (by kernel_rfl) (by kernel_rfl) (fun _ _ _ h => h) hHeld (by rfl) (fun w hSw => ?_) ?_
    rotate_left
    · have q0 := cellAt hSw 0; have q1 := cellAt hSw 1; have q2 := cellAt hSw 2; have q3 := cellAt hSw 3; simp at q0 q1 q2 q3; clear hSw; simp only [List.getElem_toArray, List.getElem_cons_zero, List.getElem_cons_succ]; go_simp; try rfl
    simp only [Act.put, List.getElem_toArray, List.getElem_cons_zero, List.getElem_cons_succ, List.setIfInBounds_toArray, List.set_cons_zero, List.set_cons_succ]
    refine z_take 9 (v := ?_) rfl (by kernel_rfl) (by kernel_rfl) (by kernel_rfl) (by kernel_rfl) (fun _ _ _ h => h) hHeld (by rfl) (fun w hSw => ?_) ?_
    rotate_left
    · have q0 := cellAt hSw 0; have q1 := cellAt hSw 1; have q2 := cellAt hSw 2; have q3 := cellAt hSw 3; simp at q0 q1 q2 q3; clear hSw; simp only [List.getElem_toArray, List.getElem_cons_zero, List.getElem_cons_succ]; go_simp; try rfl
    simp only [Act.put, List.getElem_toArray, List.getElem_cons_zero, List.getElem_cons_succ, List.setIfInBounds_toArray, List.set_cons_zero, List.set_cons_succ]
    refine z_take 10 (v := ?_) rfl (by kernel_rfl) (by kernel_rfl) (by kernel_rfl) (by kernel_rfl) (fun _ _ _ h => h) hHeld (by rfl) (fun w hSw => ?_) ?_
    rotate_left
    · have q0 := cellAt hSw 0; have q1 := cellAt hSw 1; have q2 := cellAt hSw 2; have q3 := cellAt hSw 3; simp at q0 q1 q2 q3; clear hSw; simp only [List.getElem_toArray, List.getElem_cons_zero, List.getElem_cons_succ]; go_simp; try rfl
    simp only [Act.put, List.getElem_toArray, List.getElem_cons_zero, List.getElem_cons_succ, List.setIfInBounds_toArray, List.set_cons_zero, List.set_cons_succ]
    have HPA : Hid (bp < W1.heap.size) := lt_of_heap hHeld
    refine z_two 2 13 rfl rfl (by kernel_rfl) (by rfl) (by rfl) (fun K hK => ?_) (fun K hK => ?_)
    · skip
      simp only [List.getElem_toArray, List.getElem_cons_zero, List.getElem_cons_succ]
      go_simp
      refine (refNum_any bt W1).mono ?_
      rw [HR.out.1]
      rintro r _ ⟨rfl, rfl⟩
      refine hK _ _ (Or.inr ?_) (fun hHeld => ?_)
      · exact hHeld
      clear hK K
      replace hHeld := hHeld.resolve_left (by decide)
      try simp only [Act.put, List.setIfInBounds_toArray, List.set_cons_zero, List.set_cons_succ]
      refine z_two 5 13 rfl rfl (by kernel_rfl) (by rfl) (by rfl) (fun K hK => ?_) (fun K hK => ?_)
      · skip
        simp only [List.getElem_toArray, List.getElem_cons_zero, List.getElem_cons_succ]
        go_simp
        refine (refNum_any be W1).mono ?_
        rw [HR.out.2.1]
        rintro r _ ⟨rfl, rfl⟩
        refine hK _ _ (Or.inr ?_) (fun hHeld => ?_)
        · exact hHeld
        clear hK K
        replace hHeld := hHeld.resolve_left (by decide)
        try simp only [Act.put, List.setIfInBounds_toArray, List.set_cons_zero, List.set_cons_succ]
        refine z_two 8 13 rfl rfl (by kernel_rfl) (by rfl) (by rfl) (fun K hK => ?_) (fun K hK => ?_)
        · skip
          simp only [List.getElem_toArray, List.getElem_cons_zero, List.getElem_cons_succ]
          go_simp
          refine (refNum_any by_ W1).mono ?_
          rw [HR.out.2.2.1]
          rintro r _ ⟨rfl, rfl⟩
          refine hK _ _ (Or.inr ?_) (fun hHeld => ?_)
          · exact hHeld
          clear hK K
          replace hHeld := hHeld.resolve_left (by decide)
          try simp only [Act.put, List.setIfInBounds_toArray, List.set_cons_zero, List.set_cons_succ]
          refine z_two 11 13 rfl rfl (by kernel_rfl) (by rfl) (by rfl) (fun K hK => ?_) (fun K hK => ?_)
          · skip
            simp only [List.getElem_toArray, List.getElem_cons_zero, List.getElem_cons_succ]
            go_simp
            refine (refNum_any bg W1).mono ?_
            rw [HR.out.2.2.2]
            rintro r _ ⟨rfl, rfl⟩
            refine hK _ _ (Or.inr ?_) (fun hHeld => ?_)
            · exact hHeld
            clear hK K
            replace hHeld := hHeld.resolve_left (by decide)
            try simp only [Act.put, List.setIfInBounds_toArray, List.set_cons_zero, List.set_cons_succ]
            skip
            refine z_take 12 (v := ?_) rfl (by kernel_rfl) (by kernel_rfl) (by kernel_rfl) (by kernel_rfl) (fun _ _ _ h => h) hHeld (by rfl) (fun w hSw => ?_) ?_
            rotate_left
            · have q0 := cellAt hSw 0; have q1 := cellAt hSw 1; have q2 := cellAt hSw 2; have q3 := cellAt hSw 3; simp at q0 q1 q2 q3; clear hSw; simp only [List.getElem_toArray, List.getElem_cons_zero, List.getElem_cons_succ]; go_simp; try rfl
            simp only [Act.put, List.getElem_toArray, List.getElem_cons_zero, List.getElem_cons_succ, List.setIfInBounds_toArray, List.set_cons_zero, List.set_cons_succ]
            refine z_one 13 rfl (by kernel_rfl) (by rfl) (fun K hK => ?_)
            simp only [List.getElem_toArray, List.getElem_cons_zero, List.getElem_cons_succ]
            go_simp
            obtain ⟨ba, hba⟩ : ∃ b, W1.heap.size = b := ⟨_, rfl⟩
            obtain ⟨W2, hW2⟩ : ∃ W, W1.alloc (.cells #[.int .u64 0, .int .u64 0, .int .u64 0, .int .u64 0] 25) = W := ⟨_, rfl⟩
            have hk : Keeps (fun _ => False) W1 W2 := by rw [← hW2]; exact (Keeps.refl _ W1).alloc _
            have Bka : Hid (W2.heap[ba]? = some (.cells #[.int .u64 0, .int .u64 0, .int .u64 0, .int .u64 0] 25 (0, 0))) := by rw [← hW2, ← hba]; exact World.alloc_heap_new W1 _
            have La : Hid (w.heap.size ≤ ba) := by show _ ≤ _; rw [← hba]; exact HK.out.size
            have HBA : Hid (W1.heap.size = ba) := hba
            replace HK := Lib.hid (HK.out.quiet hk)
            rw [hW2, hba]
            refine hK _ _ (Or.inr ?_) (fun hHeld => ?_)
            · exact (hk.block _ (lt_of_heap hHeld) (fun h => h)).trans hHeld
            clear hK K hk hW2 hba
            replace hHeld := hHeld.resolve_left (by decide)
            try simp only [Act.put, List.setIfInBounds_toArray, List.set_cons_zero, List.set_cons_succ]
            have d0 := cellAt Bka.out 0
            have g0 := freeAt Bka.out 0
            have d1 := cellAt Bka.out 1
            have g1 := freeAt Bka.out 1
            have d2 := cellAt Bka.out 2
            have g2 := freeAt Bka.out 2
            have d3 := cellAt Bka.out 3
            have g3 := freeAt Bka.out 3
            simp at d0 d1 d2 d3
            refine z_one 14 rfl (by kernel_rfl) (by rfl) (fun K hK => ?_)
            simp only [List.getElem_toArray, List.getElem_cons_zero, List.getElem_cons_succ]
            go_simp
            refine hK _ _ (Or.inr ?_) (fun hHeld => ?_)
            · exact (Keeps.four W2 ba _ _ _ _).block bp (lt_of_heap hHeld) (fun h => by have h7 := HPA.out; have h8 := HBA.out; omega) |>.trans hHeld
            clear hK K
            replace hHeld := hHeld.resolve_left (by decide)
            try simp only [Act.put, List.setIfInBounds_toArray, List.set_cons_zero, List.set_cons_succ]
            refine z_done (by kernel_rfl) ?_ _
            clear hHeld d0 d1 d2 d3 g0 g1 g2 g3
            go_wp2_with fail
            go_meet
            exact ⟨ba, rfl, four_heap Bka.out _ _ _ _, HK.out.set4 La.out _ _ _ _, La.out⟩
          · skip
            simp only [List.getElem_toArray, List.getElem_cons_zero, List.getElem_cons_succ]
            go_simp
            obtain ⟨ba, hba⟩ : ∃ b, W1.heap.size = b := ⟨_, rfl⟩
            obtain ⟨W2, hW2⟩ : ∃ W, W1.alloc (.cells #[.int .u64 0, .int .u64 0, .int .u64 0, .int .u64 0] 25) = W := ⟨_, rfl⟩
            have hk : Keeps (fun _ => False) W1 W2 := by rw [← hW2]; exact (Keeps.refl _ W1).alloc _
            have Bka : Hid (W2.heap[ba]? = some (.cells #[.int .u64 0, .int .u64 0, .int .u64 0, .int .u64 0] 25 (0, 0))) := by rw [← hW2, ← hba]; exact World.alloc_heap_new W1 _
            have La : Hid (w.heap.size ≤ ba) := by show _ ≤ _; rw [← hba]; exact HK.out.size
            have HBA : Hid (W1.heap.size = ba) := hba
            replace HK := Lib.hid (HK.out.quiet hk)
            rw [hW2, hba]
            refine hK _ _ (Or.inr ?_) (fun hHeld => ?_)
            · exact (hk.block _ (lt_of_heap hHeld) (fun h => h)).trans hHeld
            clear hK K hk hW2 hba
            replace hHeld := hHeld.resolve_left (by decide)
            try simp only [Act.put, List.setIfInBounds_toArray, List.set_cons_zero, List.set_cons_succ]
            refine z_one 11 rfl (by kernel_rfl) (by rfl) (fun K hK => ?_)
            simp only [List.getElem_toArray, List.getElem_cons_zero, List.getElem_cons_succ]
            go_simp
            refine (refNum_any bg W2).mono ?_
            rw [HR.out.2.2.2]
            rintro r _ ⟨rfl, rfl⟩
            refine hK _ _ (Or.inr ?_) (fun hHeld => ?_)
            · exact hHeld
            clear hK K
            replace hHeld := hHeld.resolve_left (by decide)
            try simp only [Act.put, List.setIfInBounds_toArray, List.set_cons_zero, List.set_cons_succ]
            refine z_take 12 (v := ?_) rfl (by kernel_rfl) (by kernel_rfl) (by kernel_rfl) (by kernel_rfl) (fun _ _ _ h => h) hHeld (by rfl) (fun w hSw => ?_) ?_
            rotate_left
            · have q0 := cellAt hSw 0; have q1 := cellAt hSw 1; have q2 := cellAt hSw 2; have q3 := cellAt hSw 3; simp at q0 q1 q2 q3; clear hSw; simp only [List.getElem_toArray, List.getElem_cons_zero, List.getElem_cons_succ]; go_simp; try rfl
            simp only [Act.put, List.getElem_toArray, List.getElem_cons_zero, List.getElem_cons_succ, List.setIfInBounds_toArray, List.set_cons_zero, List.set_cons_succ]
            have d0 := cellAt Bka.out 0
            have g0 := freeAt Bka.out 0
            have d1 := cellAt Bka.out 1
            have g1 := freeAt Bka.out 1
            have d2 := cellAt Bka.out 2
            have g2 := freeAt Bka.out 2
            have d3 := cellAt Bka.out 3
            have g3 := freeAt Bka.out 3
            simp at d0 d1 d2 d3
            refine z_one 14 rfl (by kernel_rfl) (by rfl) (fun K hK => ?_)
            simp only [List.getElem_toArray, List.getElem_cons_zero, List.getElem_cons_succ]
            go_simp
            refine hK _ _ (Or.inr ?_) (fun hHeld => ?_)
            · exact (Keeps.four W2 ba _ _ _ _).block bp (lt_of_heap hHeld) (fun h => by have h7 := HPA.out; have h8 := HBA.out; omega) |>.trans hHeld
            clear hK K
            replace hHeld := hHeld.resolve_left (by decide)
            try simp only [Act.put, List.setIfInBounds_toArray, List.set_cons_zero, List.set_cons_succ]
            refine z_done (by kernel_rfl) ?_ _
            clear hHeld d0 d1 d2 d3 g0 g1 g2 g3
            go_wp2_with fail
            go_meet
            exact ⟨ba, rfl, four_heap Bka.out _ _ _ _, HK.out.set4 La.out _ _ _ _, La.out⟩
        · skip
          simp only [List.getElem_toArray, List.getElem_cons_zero, List.getElem_cons_succ]
          go_simp
          obtain ⟨ba, hba⟩ : ∃ b, W1.heap.size = b := ⟨_, rfl⟩
          obtain ⟨W2, hW2⟩ : ∃ W, W1.alloc (.cells #[.int .u64 0, .int .u64 0, .int .u64 0, .int .u64 0] 25) = W := ⟨_, rfl⟩
          have hk : Keeps (fun _ => False) W1 W2 := by rw [← hW2]; exact (Keeps.refl _ W1).alloc _
          have Bka : Hid (W2.heap[ba]? = some (.cells #[.int .u64 0, .int .u64 0, .int .u64 0, .int .u64 0] 25 (0, 0))) := by rw [← hW2, ← hba]; exact World.alloc_heap_new W1 _
          have La : Hid (w.heap.size ≤ ba) := by show _ ≤ _; rw [← hba]; exact HK.out.size
          have HBA : Hid (W1.heap.size = ba) := hba
          replace HK := Lib.hid (HK.out.quiet hk)
          rw [hW2, hba]
          refine hK _ _ (Or.inr ?_) (fun hHeld => ?_)
          · exact (hk.block _ (lt_of_heap hHeld) (fun h => h)).trans hHeld
          clear hK K hk hW2 hba
          replace hHeld := hHeld.resolve_left (by decide)
          try simp only [Act.put, List.setIfInBounds_toArray, List.set_cons_zero, List.set_cons_succ]
          refine z_one 8 rfl (by kernel_rfl) (by rfl) (fun K hK => ?_)
          simp only [List.getElem_toArray, List.getElem_cons_zero, List.getElem_cons_succ]
          go_simp
          refine (refNum_any by_ W2).mono ?_
          rw [HR.out.2.2.1]
          rintro r _ ⟨rfl, rfl⟩
          refine hK _ _ (Or.inr ?_) (fun hHeld => ?_)
          · exact hHeld
          clear hK K
          replace hHeld := hHeld.resolve_left (by decide)
          try simp only [Act.put, List.setIfInBounds_toArray, List.set_cons_zero, List.set_cons_succ]
          refine z_one 11 rfl (by kernel_rfl) (by rfl) (fun K hK => ?_)
          simp only [List.getElem_toArray, List.getElem_cons_zero, List.getElem_cons_succ]
          go_simp
          refine (refNum_any bg W2).mono ?_
          rw [HR.out.2.2.2]
          rintro r _ ⟨rfl, rfl⟩
          refine hK _ _ (Or.inr ?_) (fun hHeld => ?_)
          · exact hHeld
          clear hK K
          replace hHeld := hHeld.resolve_left (by decide)
          try simp only [Act.put, List.setIfInBounds_toArray, List.set_cons_zero, List.set_cons_succ]
          refine z_take 12 (v := ?_) rfl (by kernel_rfl) (by kernel_rfl) (by kernel_rfl) (by kernel_rfl) (fun _ _ _ h => h) hHeld (by rfl) (fun w hSw => ?_) ?_
          rotate_left
          · have q0 := cellAt hSw 0; have q1 := cellAt hSw 1; have q2 := cellAt hSw 2; have q3 := cellAt hSw 3; simp at q0 q1 q2 q3; clear hSw; simp only [List.getElem_toArray, List.getElem_cons_zero, List.getElem_cons_succ]; go_simp; try rfl
          simp only [Act.put, List.getElem_toArray, List.getElem_cons_zero, List.getElem_cons_succ, List.setIfInBounds_toArray, List.set_cons_zero, List.set_cons_succ]
          have d0 := cellAt Bka.out 0
          have g0 := freeAt Bka.out 0
          have d1 := cellAt Bka.out 1
          have g1 := freeAt Bka.out 1
          have d2 := cellAt Bka.out 2
          have g2 := freeAt Bka.out 2
          have d3 := cellAt Bka.out 3
          have g3 := freeAt Bka.out 3
          simp at d0 d1 d2 d3
          refine z_one 14 rfl (by kernel_rfl) (by rfl) (fun K hK => ?_)
          simp only [List.getElem_toArray, List.getElem_cons_zero, List.getElem_cons_succ]
          go_simp
          refine hK _ _ (Or.inr ?_) (fun hHeld => ?_)
          · exact (Keeps.four W2 ba _ _ _ _).block bp (lt_of_heap hHeld) (fun h => by have h7 := HPA.out; have h8 := HBA.out; omega) |>.trans hHeld
          clear hK K
          replace hHeld := hHeld.resolve_left (by decide)
          try simp only [Act.put, List.setIfInBounds_toArray, List.set_cons_zero, List.set_cons_succ]
          refine z_done (by kernel_rfl) ?_ _
          clear hHeld d0 d1 d2 d3 g0 g1 g2 g3
          go_wp2_with fail
          go_meet
          exact ⟨ba, rfl, four_heap Bka.out _ _ _ _, HK.out.set4 La.out _ _ _ _, La.out⟩
      · skip
        simp only [List.getElem_toArray, List.getElem_cons_zero, List.getElem_cons_succ]
        go_simp
        obtain ⟨ba, hba⟩ : ∃ b, W1.heap.size = b := ⟨_, rfl⟩
        obtain ⟨W2, hW2⟩ : ∃ W, W1.alloc (.cells #[.int .u64 0, .int .u64 0, .int .u64 0, .int .u64 0] 25) = W := ⟨_, rfl⟩
        have hk : Keeps (fun _ => False) W1 W2 := by rw [← hW2]; exact (Keeps.refl _ W1).alloc _
        have Bka : Hid (W2.heap[ba]? = some (.cells #[.int .u64 0, .int .u64 0, .int .u64 0, .int .u64 0] 25 (0, 0))) := by rw [← hW2, ← hba]; exact World.alloc_heap_new W1 _
        have La : Hid (w.heap.size ≤ ba) := by show _ ≤ _; rw [← hba]; exact HK.out.size
        have HBA : Hid (W1.heap.size = ba) := hba
        replace HK := Lib.hid (HK.out.quiet hk)
        rw [hW2, hba]
        refine hK _ _ (Or.inr ?_) (fun hHeld => ?_)
        · exact (hk.block _ (lt_of_heap hHeld) (fun h => h)).trans hHeld
        clear hK K hk hW2 hba
        replace hHeld := hHeld.resolve_left (by decide)
        try simp only [Act.put, List.setIfInBounds_toArray, List.set_cons_zero, List.set_cons_succ]
        refine z_one 5 rfl (by kernel_rfl) (by rfl) (fun K hK => ?_)
        simp only [List.getElem_toArray, List.getElem_cons_zero, List.getElem_cons_succ]
        go_simp
        refine (refNum_any be W2).mono ?_
        rw [HR.out.2.1]
        rintro r _ ⟨rfl, rfl⟩
        refine hK _ _ (Or.inr ?_) (fun hHeld => ?_)
        · exact hHeld
        clear hK K
        replace hHeld := hHeld.resolve_left (by decide)
        try simp only [Act.put, List.setIfInBounds_toArray, List.set_cons_zero, List.set_cons_succ]
        refine z_one 8 rfl (by kernel_rfl) (by rfl) (fun K hK => ?_)
        simp only [List.getElem_toArray, List.getElem_cons_zero, List.getElem_cons_succ]
        go_simp
        refine (refNum_any by_ W2).mono ?_
        rw [HR.out.2.2.1]
        rintro r _ ⟨rfl, rfl⟩
        refine hK _ _ (Or.inr ?_) (fun hHeld => ?_)
        · exact hHeld
        clear hK K
        replace hHeld := hHeld.resolve_left (by decide)
        try simp only [Act.put, List.setIfInBounds_toArray, List.set_cons_zero, List.set_cons_succ]
        refine z_one 11 rfl (by kernel_rfl) (by rfl) (fun K hK => ?_)
        simp only [List.getElem_toArray, List.getElem_cons_zero, List.getElem_cons_succ]
        go_simp
        refine (refNum_any bg W2).mono ?_
        rw [HR.out.2.2.2]
        rintro r _ ⟨rfl, rfl⟩
        refine hK _ _ (Or.inr ?_) (fun hHeld => ?_)
        · exact hHeld
        clear hK K
        replace hHeld := hHeld.resolve_left (by decide)
        try simp only [Act.put, List.setIfInBounds_toArray, List.set_cons_zero, List.set_cons_succ]
        refine z_take 12 (v := ?_) rfl (by kernel_rfl) (by kernel_rfl) (by kernel_rfl) (by kernel_rfl) (fun _ _ _ h => h) hHeld (by rfl) (fun w hSw => ?_) ?_
        rotate_left
        · have q0 := cellAt hSw 0; have q1 := cellAt hSw 1; have q2 := cellAt hSw 2; have q3 := cellAt hSw 3; simp at q0 q1 q2 q3; clear hSw; simp only [List.getElem_toArray, List.getElem_cons_zero, List.getElem_cons_succ]; go_simp; try rfl
        simp only [Act.put, List.getElem_toArray, List.getElem_cons_zero, List.getElem_cons_succ, List.setIfInBounds_toArray, List.set_cons_zero, List.set_cons_succ]
        have d0 := cellAt Bka.out 0
        have g0 := freeAt Bka.out 0
        have d1 := cellAt Bka.out 1
        have g1 := freeAt Bka.out 1
        have d2 := cellAt Bka.out 2
        have g2 := freeAt Bka.out 2
        have d3 := cellAt Bka.out 3
        have g3 := freeAt Bka.out 3
        simp at d0 d1 d2 d3
        refine z_one 14 rfl (by kernel_rfl) (by rfl) (fun K hK => ?_)
        simp only [List.getElem_toArray, List.getElem_cons_zero, List.getElem_cons_succ]
        go_simp
        refine hK _ _ (Or.inr ?_) (fun hHeld => ?_)
        · exact (Keeps.four W2 ba _ _ _ _).block bp (lt_of_heap hHeld) (fun h => by have h7 := HPA.out; have h8 := HBA.out; omega) |>.trans hHeld
        clear hK K
        replace hHeld := hHeld.resolve_left (by decide)
        try simp only [Act.put, List.setIfInBounds_toArray, List.set_cons_zero, List.set_cons_succ]
        refine z_done (by kernel_rfl) ?_ _
        clear hHeld d0 d1 d2 d3 g0 g1 g2 g3
        go_wp2_with fail
        go_meet
        exact ⟨ba, rfl, four_heap Bka.out _ _ _ _, HK.out.set4 La.out _ _ _ _, La.out⟩
    · skip
      simp only [List.getElem_toArray, List.getElem_cons_zero, List.getElem_cons_succ]
      go_simp
      obtain ⟨ba, hba⟩ : ∃ b, W1.heap.size = b := ⟨_, rfl⟩
      obtain ⟨W2, hW2⟩ : ∃ W, W1.alloc (.cells #[.int .u64 0, .int .u64 0, .int .u64 0, .int .u64 0] 25) = W := ⟨_, rfl⟩
      have hk : Keeps (fun _ => False) W1 W2 := by rw [← hW2]; exact (Keeps.refl _ W1).alloc _
      have Bka : Hid (W2.heap[ba]? = some (.cells #[.int .u64 0, .int .u64 0, .int .u64 0, .int .u64 0] 25 (0, 0))) := by rw [← hW2, ← hba]; exact World.alloc_heap_new W1 _
      have La : Hid (w.heap.size ≤ ba) := by show _ ≤ _; rw [← hba]; exact HK.out.size
      have HBA : Hid (W1.heap.size = ba) := hba
      replace HK := Lib.hid (HK.out.quiet hk)
      rw [hW2, hba]
      refine hK _ _ (Or.inr ?_) (fun hHeld => ?_)
      · exact (hk.block _ (lt_of_heap hHeld) (fun h => h)).trans hHeld
      clear hK K hk hW2 hba
      replace hHeld := hHeld.resolve_left (by decide)
      try simp only [Act.put, List.setIfInBounds_toArray, List.set_cons_zero, List.set_cons_succ]
      refine z_one 2 rfl (by kernel_rfl) (by rfl) (fun K hK => ?_)
      simp only [List.getElem_toArray, List.getElem_cons_zero, List.getElem_cons_succ]
      go_simp
      refine (refNum_any bt W2).mono ?_
      rw [HR.out.1]
      rintro r _ ⟨rfl, rfl⟩
      refine hK _ _ (Or.inr ?_) (fun hHeld => ?_)
      · exact hHeld
      clear hK K
      replace hHeld := hHeld.resolve_left (by decide)
      try simp only [Act.put, List.setIfInBounds_toArray, List.set_cons_zero, List.set_cons_succ]
      refine z_one 5 rfl (by kernel_rfl) (by rfl) (fun K hK => ?_)
      simp only [List.getElem_toArray, List.getElem_cons_zero, List.getElem_cons_succ]
      go_simp
      refine (refNum_any be W2).mono ?_
      rw [HR.out.2.1]
      rintro r _ ⟨rfl, rfl⟩
      refine hK _ _ (Or.inr ?_) (fun hHeld => ?_)
      · exact hHeld
      clear hK K
      replace hHeld := hHeld.resolve_left (by decide)
      try simp only [Act.put, List.setIfInBounds_toArray, List.set_cons_zero, List.set_cons_succ]
      refine z_one 8 rfl (by kernel_rfl) (by rfl) (fun K hK => ?_)
      simp only [List.getElem_toArray, List.getElem_cons_zero, List.getElem_cons_succ]
      go_simp
      refine (refNum_any by_ W2).mono ?_
      rw [HR.out.2.2.1]
      rintro r _ ⟨rfl, rfl⟩
      refine hK _ _ (Or.inr ?_) (fun hHeld => ?_)
      · exact hHeld
      clear hK K
      replace hHeld := hHeld.resolve_left (by decide)
      try simp only [Act.put, List.setIfInBounds_toArray, List.set_cons_zero, List.set_cons_succ]
      refine z_one 11 rfl (by kernel_rfl) (by rfl) (fun K hK => ?_)
      simp only [List.getElem_toArray, List.getElem_cons_zero, List.getElem_cons_succ]
      go_simp
      refine (refNum_any bg W2).mono ?_
      rw [HR.out.2.2.2]
      rintro r _ ⟨rfl, rfl⟩
      refine hK _ _ (Or.inr ?_) (fun hHeld => ?_)
      · exact hHeld
      clear hK K
      replace hHeld := hHeld.resolve_left (by decide)
      try simp only [Act.put, List.setIfInBounds_toArray, List.set_cons_zero, List.set_cons_succ]
      refine z_take 12 (v := ?_) rfl (by kernel_rfl) (by kernel_rfl) (by kernel_rfl) (by kernel_rfl) (fun _ _ _ h => h) hHeld (by rfl) (fun w hSw => ?_) ?_
      rotate_left
      · have q0 := cellAt hSw 0; have q1 := cellAt hSw 1; have q2 := cellAt hSw 2; have q3 := cellAt hSw 3; simp at q0 q1 q2 q3; clear hSw; simp only [List.getElem_toArray, List.getElem_cons_zero, List.getElem_cons_succ]; go_simp; try rfl
      simp only [Act.put, List.getElem_toArray, List.getElem_cons_zero, List.getElem_cons_succ, List.setIfInBounds_toArray, List.set_cons_zero, List.set_cons_succ]
      have d0 := cellAt Bka.out 0
      have g0 := freeAt Bka.out 0
      have d1 := cellAt Bka.out 1
      have g1 := freeAt Bka.out 1
      have d2 := cellAt Bka.out 2
      have g2 := freeAt Bka.out 2
      have d3 := cellAt Bka.out 3
      have g3 := freeAt Bka.out 3
      simp at d0 d1 d2 d3
      refine z_one 14 rfl (by kernel_rfl) (by rfl) (fun K hK => ?_)
      simp only [List.getElem_toArray, List.getElem_cons_zero, List.getElem_cons_succ]
      go_simp
      refine hK _ _ (Or.inr ?_) (fun hHeld => ?_)
      · exact (Keeps.four W2 ba _ _ _ _).block bp (lt_of_heap hHeld) (fun h => by have h7 := HPA.out; have h8 := HBA.out; omega) |>.trans hHeld
      clear hK K
      replace hHeld := hHeld.resolve_left (by decide)
      try simp only [Act.put, List.setIfInBounds_toArray, List.set_cons_zero, List.set_cons_succ]
      refine z_done (by kernel_rfl) ?_ _
      clear hHeld d0 d1 d2 d3 g0 g1 g2 g3
      go_wp2_with fail
      go_meet
      exact ⟨ba, rfl, four_heap Bka.out _ _ _ _, HK.out.set4 La.out _ _ _ _, La.out⟩
  case rest =>
    obtain ⟨br, rfl, hbr, hkr, hlr⟩ := hcut
    have Bkr := Lib.hid hbr
    have Lr := Lib.hid hlr
    replace HK := Lib.hid hkr
    clear hbr hlr hkr Bkp
    have cr0 := cellAt Bkr.out 0
    have cr1 := cellAt Bkr.out 1
    have cr2 := cellAt Bkr.out 2
    have cr3 := cellAt Bkr.out 3
    simp at cr0 cr1 cr2 cr3
    have hbr := lt_of_heap Bkr.out
    obtain ⟨bo, hb⟩ : ∃ b, wc.heap.size = b := ⟨_, rfl⟩
    obtain ⟨wo, hW⟩ : ∃ W, wc.alloc (.cells #[.int .u64 (r0 : Int), .int .u64 (r1 : Int), .int .u64 (r2 : Int), .int .u64 (r3 : Int)] 25) = W := ⟨_, rfl⟩
    have hk : Keeps (fun _ => False) wc wo := by rw [← hW]; exact (Keeps.refl _ wc).alloc _
    have Bko : Hid (wo.heap[bo]? = some (.cells #[.int .u64 (r0 : Int), .int .u64 (r1 : Int), .int .u64 (r2 : Int), .int .u64 (r3 : Int)] 25 (0, 0))) := by rw [← hW, ← hb]; exact World.alloc_heap_new wc _
    have Lo : Hid (w.heap.size ≤ bo) := by show _ ≤ _; rw [← hb]; exact HK.out.size
    have Nro : br ≠ bo := by have := lt_of_heap Bkr.out; omega
    have Nor : bo ≠ br := by omega
    replace HK := Lib.hid (HK.out.quiet hk)
    replace Bkr := Lib.hid ((hk.block _ (lt_of_heap Bkr.out) (fun h => h)).trans Bkr.out)
    have Eo := Lib.hid (And.intro hW hb)
    clear hW hb hk
    go_wp2_with fail
    rw [Eo.out.2, Eo.out.1]
    clear cr0 cr1 cr2 cr3
    clear hbr
    refine (pub_any a wo HU.out.1).mono ?_
    rw [HE.out.2.2.2.1]
    rintro r w2 ⟨rfl, hk⟩
    replace HK := Lib.hid (HK.out.quiet hk)
    replace Bkr := Lib.hid ((hk.block _ (lt_of_heap Bkr.out) (fun h => h)).trans Bkr.out)
    replace Bko := Lib.hid ((hk.block _ (lt_of_heap Bko.out) (fun h => h)).trans Bko.out)
    clear hk
    have co0 := cellAt Bko.out 0
    have co1 := cellAt Bko.out 1
    have co2 := cellAt Bko.out 2
    have co3 := cellAt Bko.out 3
    simp at co0 co1 co2 co3
    have fo0 := freeAt Bko.out 0
    obtain ⟨wO, hW2⟩ : ∃ W2, w2.setCell ⟨bo, 0, none⟩ (.int .u64 (p : Int)) = W2 := ⟨_, rfl⟩
    have hkp : Keeps (fun q => q = bo) w2 wO := by rw [← hW2]; exact (Keeps.refl (fun q => q = bo) w2).setCell (p := ⟨bo, 0, none⟩) (fun _ => rfl) _
    have BC2 : Hid (wO.heap[bo]? = some (.cells #[.int .u64 (p : Int), .int .u64 (r1 : Int), .int .u64 (r2 : Int), .int .u64 (r3 : Int)] 25 (0, 0))) := by rw [← hW2]; have := heap_setCell_at Bko.out 0 (.int .u64 (p : Int)); rw [this]; rfl
    replace HK := Lib.hid (HK.out.trans hkp (fun q hq h => by have := Lo.out; omega))
    replace Bkr := Lib.hid ((hkp.block br (lt_of_heap Bkr.out) Nro).trans Bkr.out)
    clear Bko
    have Bko := Lib.hid BC2.out
    have HW2 := Lib.hid hW2
    clear hW2 hkp BC2
    go_wp2_with fail
    rw [HW2.out]
    clear co0 co1 co2 co3 fo0
    clear HW2
    refine (refPub_any a wO HU.out.1).mono ?_
    rw [HE.out.2.2.2.1]
    rintro r w3 ⟨rfl, hk⟩
    replace HK := Lib.hid (HK.out.quiet hk)
    replace Bkr := Lib.hid ((hk.block _ (lt_of_heap Bkr.out) (fun h => h)).trans Bkr.out)
    replace Bko := Lib.hid ((hk.block _ (lt_of_heap Bko.out) (fun h => h)).trans Bko.out)
    clear hk
    go_wp2_with fail
    refine (sec_any once w3).mono ?_
    rw [HE.out.2.1]
    rintro e _ ⟨rfl, rfl⟩
    go_wp2_with fail
    refine (refNum_any v w3).mono ?_
    rw [HE.out.2.2.1]
    rintro e _ ⟨rfl, rfl⟩
    go_wp2_with fail
    refine (refMake_is w3 HU.out.2.2.2 HU.out.2.1 HE.out.2.2.2.2).mono ?_
    rintro e w4 ⟨rfl, hk⟩
    replace HK := Lib.hid (HK.out.quiet hk)
    replace Bkr := Lib.hid ((hk.block _ (lt_of_heap Bkr.out) (fun h => h)).trans Bkr.out)
    replace Bko := Lib.hid ((hk.block _ (lt_of_heap Bko.out) (fun h => h)).trans Bko.out)
    clear hk
    obtain ⟨bd, hb⟩ : ∃ b, w4.heap.size = b := ⟨_, rfl⟩
    obtain ⟨wd, hW⟩ : ∃ W, w4.alloc (.cells #[.int .u64 (t : Int), .int .u64 (e : Int), .int .u64 (y : Int), .int .u64 (g : Int)] 25) = W := ⟨_, rfl⟩
    have hk : Keeps (fun _ => False) w4 wd := by rw [← hW]; exact (Keeps.refl _ w4).alloc _
    have Bkd : Hid (wd.heap[bd]? = some (.cells #[.int .u64 (t : Int), .int .u64 (e : Int), .int .u64 (y : Int), .int .u64 (g : Int)] 25 (0, 0))) := by rw [← hW, ← hb]; exact World.alloc_heap_new w4 _
    have Ld : Hid (w.heap.size ≤ bd) := by show _ ≤ _; rw [← hb]; exact HK.out.size
    have Nrd : br ≠ bd := by have := lt_of_heap Bkr.out; omega
    have Ndr : bd ≠ br := by omega
    have Nod : bo ≠ bd := by have := lt_of_heap Bko.out; omega
    have Ndo : bd ≠ bo := by omega
    replace HK := Lib.hid (HK.out.quiet hk)
    replace Bkr := Lib.hid ((hk.block _ (lt_of_heap Bkr.out) (fun h => h)).trans Bkr.out)
    replace Bko := Lib.hid ((hk.block _ (lt_of_heap Bko.out) (fun h => h)).trans Bko.out)
    have Ed := Lib.hid (And.intro hW hb)
    clear hW hb hk
    obtain ⟨bf, hb⟩ : ∃ b, wd.heap.size = b := ⟨_, rfl⟩
    obtain ⟨wf, hW⟩ : ∃ W, wd.alloc (.cells #[.int .u64 (t : Int), .int .u64 (e : Int), .int .u64 (y : Int), .int .u64 (g : Int)] 25) = W := ⟨_, rfl⟩
    have hk : Keeps (fun _ => False) wd wf := by rw [← hW]; exact (Keeps.refl _ wd).alloc _
    have Bkf : Hid (wf.heap[bf]? = some (.cells #[.int .u64 (t : Int), .int .u64 (e : Int), .int .u64 (y : Int), .int .u64 (g : Int)] 25 (0, 0))) := by rw [← hW, ← hb]; exact World.alloc_heap_new wd _
    have Lf : Hid (w.heap.size ≤ bf) := by show _ ≤ _; rw [← hb]; exact HK.out.size
    have Nrf : br ≠ bf := by have := lt_of_heap Bkr.out; omega
    have Nfr : bf ≠ br := by omega
    have Nof : bo ≠ bf := by have := lt_of_heap Bko.out; omega
    have Nfo : bf ≠ bo := by omega
    have Ndf : bd ≠ bf := by have := lt_of_heap Bkd.out; omega
    have Nfd : bf ≠ bd := by omega
    replace HK := Lib.hid (HK.out.quiet hk)
    replace Bkr := Lib.hid ((hk.block _ (lt_of_heap Bkr.out) (fun h => h)).trans Bkr.out)
    replace Bko := Lib.hid ((hk.block _ (lt_of_heap Bko.out) (fun h => h)).trans Bko.out)
    replace Bkd := Lib.hid ((hk.block _ (lt_of_heap Bkd.out) (fun h => h)).trans Bkd.out)
    have Ef := Lib.hid (And.intro hW hb)
    clear hW hb hk
    have hS : bd + 1 = bf := by have h5 := Ed.out; have h6 := Ef.out; rw [← h6.2, ← h5.1, ← h5.2]; simp
    obtain ⟨k, hk3, _, hck⟩ := around_nat which 4 wf HW.out.1 HW.out.2 (by omega) (by omega)
    have HCK := Lib.hid hck
    have HSS := Lib.hid hS
    clear hck hS
    go_wp2_with fail
    rw [Ed.out.2, Ed.out.1, HSS.out, Ef.out.1]
    refine HCK.out.mono ?_
    rintro r _ ⟨rfl, rfl⟩
    clear HCK
    have hkc : k = 0 ∨ k = 1 ∨ k = 2 ∨ k = 3 := by omega
    clear hk3
    rcases hkc with rfl | rfl | rfl | rfl
    · skip
      have cr0 := cellAt Bkr.out 0
      have cr1 := cellAt Bkr.out 1
      have cr2 := cellAt Bkr.out 2
      have cr3 := cellAt Bkr.out 3
      simp at cr0 cr1 cr2 cr3
      have co0 := cellAt Bko.out 0
      have co1 := cellAt Bko.out 1
      have co2 := cellAt Bko.out 2
      have co3 := cellAt Bko.out 3
      simp at co0 co1 co2 co3
      have cd0 := cellAt Bkd.out 0
      have cd1 := cellAt Bkd.out 1
      have cd2 := cellAt Bkd.out 2
      have cd3 := cellAt Bkd.out 3
      simp at cd0 cd1 cd2 cd3
      have cf0 := cellAt Bkf.out 0
      have cf1 := cellAt Bkf.out 1
      have cf2 := cellAt Bkf.out 2
      have cf3 := cellAt Bkf.out 3
      simp at cf0 cf1 cf2 cf3
      have ff0 := freeAt Bkf.out 0
      obtain ⟨wF, hW2⟩ : ∃ W2, wf.setCell ⟨bf, 0, none⟩ (.int .u64 (r0 : Int)) = W2 := ⟨_, rfl⟩
      have hkp : Keeps (fun q => q = bf) wf wF := by rw [← hW2]; exact (Keeps.refl (fun q => q = bf) wf).setCell (p := ⟨bf, 0, none⟩) (fun _ => rfl) _
      have BC2 : Hid (wF.heap[bf]? = some (.cells #[.int .u64 (r0 : Int), .int .u64 (e : Int), .int .u64 (y : Int), .int .u64 (g : Int)] 25 (0, 0))) := by rw [← hW2]; have := heap_setCell_at Bkf.out 0 (.int .u64 (r0 : Int)); rw [this]; rfl
      replace HK := Lib.hid (HK.out.trans hkp (fun q hq h => by have := Lf.out; omega))
      replace Bkr := Lib.hid ((hkp.block br (lt_of_heap Bkr.out) Nrf).trans Bkr.out)
      replace Bko := Lib.hid ((hkp.block bo (lt_of_heap Bko.out) Nof).trans Bko.out)
      replace Bkd := Lib.hid ((hkp.block bd (lt_of_heap Bkd.out) Ndf).trans Bkd.out)
      clear Bkf
      have Bkf := Lib.hid BC2.out
      have HW2 := Lib.hid hW2
      clear hW2 hkp BC2
      obtain ⟨bl, hbl⟩ : ∃ b, wf.heap.size = b := ⟨_, rfl⟩
      have hblF : wF.heap.size = bl := by rw [← HW2.out, ← hbl]; simp [World.setCell]
      obtain ⟨wL, hwL⟩ : ∃ W, wF.alloc (.cells #[.int .u64 (r0 : Int), .int .u64 (r1 : Int), .int .u64 (r2 : Int), .int .u64 (r3 : Int), .int .u64 (p : Int), .int .u64 (r1 : Int), .int .u64 (r2 : Int), .int .u64 (r3 : Int), .int .u64 (t : Int), .int .u64 (e : Int), .int .u64 (y : Int), .int .u64 (g : Int), .int .u64 (r0 : Int), .int .u64 (e : Int), .int .u64 (y : Int), .int .u64 (g : Int)] 25) = W := ⟨_, rfl⟩
      have hk : Keeps (fun _ => False) wF wL := by rw [← hwL]; exact (Keeps.refl _ wF).alloc _
      have Bkl : Hid (wL.heap[bl]? = some (.cells #[.int .u64 (r0 : Int), .int .u64 (r1 : Int), .int .u64 (r2 : Int), .int .u64 (r3 : Int), .int .u64 (p : Int), .int .u64 (r1 : Int), .int .u64 (r2 : Int), .int .u64 (r3 : Int), .int .u64 (t : Int), .int .u64 (e : Int), .int .u64 (y : Int), .int .u64 (g : Int), .int .u64 (r0 : Int), .int .u64 (e : Int), .int .u64 (y : Int), .int .u64 (g : Int)] 25 (0, 0))) := by rw [← hwL, ← hblF]; exact World.alloc_heap_new wF _
      have EL := Lib.hid (And.intro hwL hbl)
      replace HK := Lib.hid (HK.out.quiet hk)
      clear hwL hbl hk hblF
      have O0 : Hid (Bx.ok ⟨r0, r1, r2, r3⟩) := ⟨HUR.out.1, HUR.out.2.1, HUR.out.2.2.1, HUR.out.2.2.2⟩
      have O1 : Hid (Bx.ok ⟨p, r1, r2, r3⟩) := ⟨HU.out.2.2.2, HUR.out.2.1, HUR.out.2.2.1, HUR.out.2.2.2⟩
      have O2 : Hid (Bx.ok ⟨t, e, y, g⟩) := ⟨HOK.out.1, HOK.out.2.1, HOK.out.2.2.1, HOK.out.2.2.2⟩
      have O3 : Hid (Bx.ok ⟨r0, e, y, g⟩) := ⟨HUR.out.1, HOK.out.2.1, HOK.out.2.2.1, HOK.out.2.2.2⟩
      go_wp2_with fail
      rw [HW2.out, EL.out.2, EL.out.1]
      clear cr0 cr1 cr2 cr3
      clear co0 co1 co2 co3
      clear cd0 cd1 cd2 cd3
      clear cf0 cf1 cf2 cf3 ff0
      clear HW2 EL Bkr Bko Bkd Bkf
      go_loopw [17] (fun i wr => RdRel wL i wr) (fun i _ => 4 - (intOf i).toNat)
      case atStart => exact ⟨0, by omega, rfl, Keeps.refl _ _⟩
      case round =>
        obtain ⟨q, hq, rfl, hkp⟩ := hrel
        have HB := Lib.hid ((hkp.block bl (lt_of_heap Bkl.out) (fun h => h)).trans Bkl.out)
        have HKP := Lib.hid hkp
        clear hkp
        have hqc : q = 0 ∨ q = 1 ∨ q = 2 ∨ q = 3 ∨ q = 4 := by omega
        clear hq
        rcases hqc with rfl | rfl | rfl | rfl | rfl
        · skip
          obtain ⟨⟨x, c⟩, hO⟩ : ∃ z : Nat × Int, openBox a ⟨r0, r1, r2, r3⟩ = z := ⟨_, rfl⟩
          have HO := Lib.hid hO
          clear hO
          have c0 := cellAt HB.out 0
          have c1 := cellAt HB.out 1
          have c2 := cellAt HB.out 2
          have c3 := cellAt HB.out 3
          simp at c0 c1 c2 c3
          go_wp2_with fail
          refine (open_is wr HU.out.1 O0.out HO.out).mono ?_
          rintro r wr1 ⟨rfl, hk⟩
          have HB1 := Lib.hid ((hk.block bl (lt_of_heap HB.out) (fun h => h)).trans HB.out)
          replace HKP := Lib.hid (HKP.out.quiet hk)
          clear hk c0 c1 c2 c3
          have c0 := cellAt HB1.out 0
          have c1 := cellAt HB1.out 1
          have c2 := cellAt HB1.out 2
          have c3 := cellAt HB1.out 3
          simp at c0 c1 c2 c3
          go_wp2_with fail
          refine (refOpen_is wr1 HU.out.1 O0.out HO.out).mono ?_
          rintro r wr2 ⟨rfl, hk⟩
          replace HKP := Lib.hid (HKP.out.quiet hk)
          clear hk c0 c1 c2 c3
          have q1 : ((x : Int) != (x : Int)) = false := by simp
          have q2 : (c != c) = false := by simp
          go_wp2
          go_roundw
          case rel => exact ⟨1, by omega, rfl, HKP.out⟩
          case measure => decide
        · skip
          obtain ⟨⟨x, c⟩, hO⟩ : ∃ z : Nat × Int, openBox a ⟨p, r1, r2, r3⟩ = z := ⟨_, rfl⟩
          have HO := Lib.hid hO
          clear hO
          have c0 := cellAt HB.out 4
          have c1 := cellAt HB.out 5
          have c2 := cellAt HB.out 6
          have c3 := cellAt HB.out 7
          simp at c0 c1 c2 c3
          go_wp2_with fail
          refine (open_is wr HU.out.1 O1.out HO.out).mono ?_
          rintro r wr1 ⟨rfl, hk⟩
          have HB1 := Lib.hid ((hk.block bl (lt_of_heap HB.out) (fun h => h)).trans HB.out)
          replace HKP := Lib.hid (HKP.out.quiet hk)
          clear hk c0 c1 c2 c3
          have c0 := cellAt HB1.out 4
          have c1 := cellAt HB1.out 5
          have c2 := cellAt HB1.out 6
          have c3 := cellAt HB1.out 7
          simp at c0 c1 c2 c3
          go_wp2_with fail
          refine (refOpen_is wr1 HU.out.1 O1.out HO.out).mono ?_
          rintro r wr2 ⟨rfl, hk⟩
          replace HKP := Lib.hid (HKP.out.quiet hk)
          clear hk c0 c1 c2 c3
          have q1 : ((x : Int) != (x : Int)) = false := by simp
          have q2 : (c != c) = false := by simp
          go_wp2
          go_roundw
          case rel => exact ⟨2, by omega, rfl, HKP.out⟩
          case measure => decide
        · skip
          obtain ⟨⟨x, c⟩, hO⟩ : ∃ z : Nat × Int, openBox a ⟨t, e, y, g⟩ = z := ⟨_, rfl⟩
          have HO := Lib.hid hO
          clear hO
          have c0 := cellAt HB.out 8
          have c1 := cellAt HB.out 9
          have c2 := cellAt HB.out 10
          have c3 := cellAt HB.out 11
          simp at c0 c1 c2 c3
          go_wp2_with fail
          refine (open_is wr HU.out.1 O2.out HO.out).mono ?_
          rintro r wr1 ⟨rfl, hk⟩
          have HB1 := Lib.hid ((hk.block bl (lt_of_heap HB.out) (fun h => h)).trans HB.out)
          replace HKP := Lib.hid (HKP.out.quiet hk)
          clear hk c0 c1 c2 c3
          have c0 := cellAt HB1.out 8
          have c1 := cellAt HB1.out 9
          have c2 := cellAt HB1.out 10
          have c3 := cellAt HB1.out 11
          simp at c0 c1 c2 c3
          go_wp2_with fail
          refine (refOpen_is wr1 HU.out.1 O2.out HO.out).mono ?_
          rintro r wr2 ⟨rfl, hk⟩
          replace HKP := Lib.hid (HKP.out.quiet hk)
          clear hk c0 c1 c2 c3
          have q1 : ((x : Int) != (x : Int)) = false := by simp
          have q2 : (c != c) = false := by simp
          go_wp2
          go_roundw
          case rel => exact ⟨3, by omega, rfl, HKP.out⟩
          case measure => decide
        · skip
          obtain ⟨⟨x, c⟩, hO⟩ : ∃ z : Nat × Int, openBox a ⟨r0, e, y, g⟩ = z := ⟨_, rfl⟩
          have HO := Lib.hid hO
          clear hO
          have c0 := cellAt HB.out 12
          have c1 := cellAt HB.out 13
          have c2 := cellAt HB.out 14
          have c3 := cellAt HB.out 15
          simp at c0 c1 c2 c3
          go_wp2_with fail
          refine (open_is wr HU.out.1 O3.out HO.out).mono ?_
          rintro r wr1 ⟨rfl, hk⟩
          have HB1 := Lib.hid ((hk.block bl (lt_of_heap HB.out) (fun h => h)).trans HB.out)
          replace HKP := Lib.hid (HKP.out.quiet hk)
          clear hk c0 c1 c2 c3
          have c0 := cellAt HB1.out 12
          have c1 := cellAt HB1.out 13
          have c2 := cellAt HB1.out 14
          have c3 := cellAt HB1.out 15
          simp at c0 c1 c2 c3
          go_wp2_with fail
          refine (refOpen_is wr1 HU.out.1 O3.out HO.out).mono ?_
          rintro r wr2 ⟨rfl, hk⟩
          replace HKP := Lib.hid (HKP.out.quiet hk)
          clear hk c0 c1 c2 c3
          have q1 : ((x : Int) != (x : Int)) = false := by simp
          have q2 : (c != c) = false := by simp
          go_wp2
          go_roundw
          case rel => exact ⟨4, by omega, rfl, HKP.out⟩
          case measure => decide
        · skip
          replace HK := Lib.hid (HK.out.quiet HKP.out)
          go_wp2_with fail
          refine (lives_any wr).mono ?_
          rintro e w41 ⟨rfl, hk⟩
          replace HK := Lib.hid (HK.out.quiet hk)
          clear hk
          go_wp2
          go_ret
          exact ⟨rfl, HK.out⟩
    · skip
      have cr0 := cellAt Bkr.out 0
      have cr1 := cellAt Bkr.out 1
      have cr2 := cellAt Bkr.out 2
      have cr3 := cellAt Bkr.out 3
      simp at cr0 cr1 cr2 cr3
      have co0 := cellAt Bko.out 0
      have co1 := cellAt Bko.out 1
      have co2 := cellAt Bko.out 2
      have co3 := cellAt Bko.out 3
      simp at co0 co1 co2 co3
      have cd0 := cellAt Bkd.out 0
      have cd1 := cellAt Bkd.out 1
      have cd2 := cellAt Bkd.out 2
      have cd3 := cellAt Bkd.out 3
      simp at cd0 cd1 cd2 cd3
      have cf0 := cellAt Bkf.out 0
      have cf1 := cellAt Bkf.out 1
      have cf2 := cellAt Bkf.out 2
      have cf3 := cellAt Bkf.out 3
      simp at cf0 cf1 cf2 cf3
      have ff1 := freeAt Bkf.out 1
      obtain ⟨wF, hW2⟩ : ∃ W2, wf.setCell ⟨bf, 1, none⟩ (.int .u64 (r1 : Int)) = W2 := ⟨_, rfl⟩
      have hkp : Keeps (fun q => q = bf) wf wF := by rw [← hW2]; exact (Keeps.refl (fun q => q = bf) wf).setCell (p := ⟨bf, 1, none⟩) (fun _ => rfl) _
      have BC2 : Hid (wF.heap[bf]? = some (.cells #[.int .u64 (t : Int), .int .u64 (r1 : Int), .int .u64 (y : Int), .int .u64 (g : Int)] 25 (0, 0))) := by rw [← hW2]; have := heap_setCell_at Bkf.out 1 (.int .u64 (r1 : Int)); rw [this]; rfl
      replace HK := Lib.hid (HK.out.trans hkp (fun q hq h => by have := Lf.out; omega))
      replace Bkr := Lib.hid ((hkp.block br (lt_of_heap Bkr.out) Nrf).trans Bkr.out)
      replace Bko := Lib.hid ((hkp.block bo (lt_of_heap Bko.out) Nof).trans Bko.out)
      replace Bkd := Lib.hid ((hkp.block bd (lt_of_heap Bkd.out) Ndf).trans Bkd.out)
      clear Bkf
      have Bkf := Lib.hid BC2.out
      have HW2 := Lib.hid hW2
      clear hW2 hkp BC2
      obtain ⟨bl, hbl⟩ : ∃ b, wf.heap.size = b := ⟨_, rfl⟩
      have hblF : wF.heap.size = bl := by rw [← HW2.out, ← hbl]; simp [World.setCell]
      obtain ⟨wL, hwL⟩ : ∃ W, wF.alloc (.cells #[.int .u64 (r0 : Int), .int .u64 (r1 : Int), .int .u64 (r2 : Int), .int .u64 (r3 : Int), .int .u64 (p : Int), .int .u64 (r1 : Int), .int .u64 (r2 : Int), .int .u64 (r3 : Int), .int .u64 (t : Int), .int .u64 (e : Int), .int .u64 (y : Int), .int .u64 (g : Int), .int .u64 (t : Int), .int .u64 (r1 : Int), .int .u64 (y : Int), .int .u64 (g : Int)] 25) = W := ⟨_, rfl⟩
      have hk : Keeps (fun _ => False) wF wL := by rw [← hwL]; exact (Keeps.refl _ wF).alloc _
      have Bkl : Hid (wL.heap[bl]? = some (.cells #[.int .u64 (r0 : Int), .int .u64 (r1 : Int), .int .u64 (r2 : Int), .int .u64 (r3 : Int), .int .u64 (p : Int), .int .u64 (r1 : Int), .int .u64 (r2 : Int), .int .u64 (r3 : Int), .int .u64 (t : Int), .int .u64 (e : Int), .int .u64 (y : Int), .int .u64 (g : Int), .int .u64 (t : Int), .int .u64 (r1 : Int), .int .u64 (y : Int), .int .u64 (g : Int)] 25 (0, 0))) := by rw [← hwL, ← hblF]; exact World.alloc_heap_new wF _
      have EL := Lib.hid (And.intro hwL hbl)
      replace HK := Lib.hid (HK.out.quiet hk)
      clear hwL hbl hk hblF
      have O0 : Hid (Bx.ok ⟨r0, r1, r2, r3⟩) := ⟨HUR.out.1, HUR.out.2.1, HUR.out.2.2.1, HUR.out.2.2.2⟩
      have O1 : Hid (Bx.ok ⟨p, r1, r2, r3⟩) := ⟨HU.out.2.2.2, HUR.out.2.1, HUR.out.2.2.1, HUR.out.2.2.2⟩
      have O2 : Hid (Bx.ok ⟨t, e, y, g⟩) := ⟨HOK.out.1, HOK.out.2.1, HOK.out.2.2.1, HOK.out.2.2.2⟩
      have O3 : Hid (Bx.ok ⟨t, r1, y, g⟩) := ⟨HOK.out.1, HUR.out.2.1, HOK.out.2.2.1, HOK.out.2.2.2⟩
      go_wp2_with fail
      rw [HW2.out, EL.out.2, EL.out.1]
      clear cr0 cr1 cr2 cr3
      clear co0 co1 co2 co3
      clear cd0 cd1 cd2 cd3
      clear cf0 cf1 cf2 cf3 ff1
      clear HW2 EL Bkr Bko Bkd Bkf
      go_loopw [17] (fun i wr => RdRel wL i wr) (fun i _ => 4 - (intOf i).toNat)
      case atStart => exact ⟨0, by omega, rfl, Keeps.refl _ _⟩
      case round =>
        obtain ⟨q, hq, rfl, hkp⟩ := hrel
        have HB := Lib.hid ((hkp.block bl (lt_of_heap Bkl.out) (fun h => h)).trans Bkl.out)
        have HKP := Lib.hid hkp
        clear hkp
        have hqc : q = 0 ∨ q = 1 ∨ q = 2 ∨ q = 3 ∨ q = 4 := by omega
        clear hq
        rcases hqc with rfl | rfl | rfl | rfl | rfl
        · skip
          obtain ⟨⟨x, c⟩, hO⟩ : ∃ z : Nat × Int, openBox a ⟨r0, r1, r2, r3⟩ = z := ⟨_, rfl⟩
          have HO := Lib.hid hO
          clear hO
          have c0 := cellAt HB.out 0
          have c1 := cellAt HB.out 1
          have c2 := cellAt HB.out 2
          have c3 := cellAt HB.out 3
          simp at c0 c1 c2 c3
          go_wp2_with fail
          refine (open_is wr HU.out.1 O0.out HO.out).mono ?_
          rintro r wr1 ⟨rfl, hk⟩
          have HB1 := Lib.hid ((hk.block bl (lt_of_heap HB.out) (fun h => h)).trans HB.out)
          replace HKP := Lib.hid (HKP.out.quiet hk)
          clear hk c0 c1 c2 c3
          have c0 := cellAt HB1.out 0
          have c1 := cellAt HB1.out 1
          have c2 := cellAt HB1.out 2
          have c3 := cellAt HB1.out 3
          simp at c0 c1 c2 c3
          go_wp2_with fail
          refine (refOpen_is wr1 HU.out.1 O0.out HO.out).mono ?_
          rintro r wr2 ⟨rfl, hk⟩
          replace HKP := Lib.hid (HKP.out.quiet hk)
          clear hk c0 c1 c2 c3
          have q1 : ((x : Int) != (x : Int)) = false := by simp
          have q2 : (c != c) = false := by simp
          go_wp2
          go_roundw
          case rel => exact ⟨1, by omega, rfl, HKP.out⟩
          case measure => decide
        · skip
          obtain ⟨⟨x, c⟩, hO⟩ : ∃ z : Nat × Int, openBox a ⟨p, r1, r2, r3⟩ = z := ⟨_, rfl⟩
          have HO := Lib.hid hO
          clear hO
          have c0 := cellAt HB.out 4
          have c1 := cellAt HB.out 5
          have c2 := cellAt HB.out 6
          have c3 := cellAt HB.out 7
          simp at c0 c1 c2 c3
          go_wp2_with fail
          refine (open_is wr HU.out.1 O1.out HO.out).mono ?_
          rintro r wr1 ⟨rfl, hk⟩
          have HB1 := Lib.hid ((hk.block bl (lt_of_heap HB.out) (fun h => h)).trans HB.out)
          replace HKP := Lib.hid (HKP.out.quiet hk)
          clear hk c0 c1 c2 c3
          have c0 := cellAt HB1.out 4
          have c1 := cellAt HB1.out 5
          have c2 := cellAt HB1.out 6
          have c3 := cellAt HB1.out 7
          simp at c0 c1 c2 c3
          go_wp2_with fail
          refine (refOpen_is wr1 HU.out.1 O1.out HO.out).mono ?_
          rintro r wr2 ⟨rfl, hk⟩
          replace HKP := Lib.hid (HKP.out.quiet hk)
          clear hk c0 c1 c2 c3
          have q1 : ((x : Int) != (x : Int)) = false := by simp
          have q2 : (c != c) = false := by simp
          go_wp2
          go_roundw
          case rel => exact ⟨2, by omega, rfl, HKP.out⟩
          case measure => decide
        · skip
          obtain ⟨⟨x, c⟩, hO⟩ : ∃ z : Nat × Int, openBox a ⟨t, e, y, g⟩ = z := ⟨_, rfl⟩
          have HO := Lib.hid hO
          clear hO
          have c0 := cellAt HB.out 8
          have c1 := cellAt HB.out 9
          have c2 := cellAt HB.out 10
          have c3 := cellAt HB.out 11
          simp at c0 c1 c2 c3
          go_wp2_with fail
          refine (open_is wr HU.out.1 O2.out HO.out).mono ?_
          rintro r wr1 ⟨rfl, hk⟩
          have HB1 := Lib.hid ((hk.block bl (lt_of_heap HB.out) (fun h => h)).trans HB.out)
          replace HKP := Lib.hid (HKP.out.quiet hk)
          clear hk c0 c1 c2 c3
          have c0 := cellAt HB1.out 8
          have c1 := cellAt HB1.out 9
          have c2 := cellAt HB1.out 10
          have c3 := cellAt HB1.out 11
          simp at c0 c1 c2 c3
          go_wp2_with fail
          refine (refOpen_is wr1 HU.out.1 O2.out HO.out).mono ?_
          rintro r wr2 ⟨rfl, hk⟩
          replace HKP := Lib.hid (HKP.out.quiet hk)
          clear hk c0 c1 c2 c3
          have q1 : ((x : Int) != (x : Int)) = false := by simp
          have q2 : (c != c) = false := by simp
          go_wp2
          go_roundw
          case rel => exact ⟨3, by omega, rfl, HKP.out⟩
          case measure => decide
        · skip
          obtain ⟨⟨x, c⟩, hO⟩ : ∃ z : Nat × Int, openBox a ⟨t, r1, y, g⟩ = z := ⟨_, rfl⟩
          have HO := Lib.hid hO
          clear hO
          have c0 := cellAt HB.out 12
          have c1 := cellAt HB.out 13
          have c2 := cellAt HB.out 14
          have c3 := cellAt HB.out 15
          simp at c0 c1 c2 c3
          go_wp2_with fail
          refine (open_is wr HU.out.1 O3.out HO.out).mono ?_
          rintro r wr1 ⟨rfl, hk⟩
          have HB1 := Lib.hid ((hk.block bl (lt_of_heap HB.out) (fun h => h)).trans HB.out)
          replace HKP := Lib.hid (HKP.out.quiet hk)
          clear hk c0 c1 c2 c3
          have c0 := cellAt HB1.out 12
          have c1 := cellAt HB1.out 13
          have c2 := cellAt HB1.out 14
          have c3 := cellAt HB1.out 15
          simp at c0 c1 c2 c3
          go_wp2_with fail
          refine (refOpen_is wr1 HU.out.1 O3.out HO.out).mono ?_
          rintro r wr2 ⟨rfl, hk⟩
          replace HKP := Lib.hid (HKP.out.quiet hk)
          clear hk c0 c1 c2 c3
          have q1 : ((x : Int) != (x : Int)) = false := by simp
          have q2 : (c != c) = false := by simp
          go_wp2
          go_roundw
          case rel => exact ⟨4, by omega, rfl, HKP.out⟩
          case measure => decide
        · skip
          replace HK := Lib.hid (HK.out.quiet HKP.out)
          go_wp2_with fail
          refine (lives_any wr).mono ?_
          rintro e w41 ⟨rfl, hk⟩
          replace HK := Lib.hid (HK.out.quiet hk)
          clear hk
          go_wp2
          go_ret
          exact ⟨rfl, HK.out⟩
    · skip
      have cr0 := cellAt Bkr.out 0
      have cr1 := cellAt Bkr.out 1
      have cr2 := cellAt Bkr.out 2
      have cr3 := cellAt Bkr.out 3
      simp at cr0 cr1 cr2 cr3
      have co0 := cellAt Bko.out 0
      have co1 := cellAt Bko.out 1
      have co2 := cellAt Bko.out 2
      have co3 := cellAt Bko.out 3
      simp at co0 co1 co2 co3
      have cd0 := cellAt Bkd.out 0
      have cd1 := cellAt Bkd.out 1
      have cd2 := cellAt Bkd.out 2
      have cd3 := cellAt Bkd.out 3
      simp at cd0 cd1 cd2 cd3
      have cf0 := cellAt Bkf.out 0
      have cf1 := cellAt Bkf.out 1
      have cf2 := cellAt Bkf.out 2
      have cf3 := cellAt Bkf.out 3
      simp at cf0 cf1 cf2 cf3
      have ff2 := freeAt Bkf.out 2
      obtain ⟨wF, hW2⟩ : ∃ W2, wf.setCell ⟨bf, 2, none⟩ (.int .u64 (r2 : Int)) = W2 := ⟨_, rfl⟩
      have hkp : Keeps (fun q => q = bf) wf wF := by rw [← hW2]; exact (Keeps.refl (fun q => q = bf) wf).setCell (p := ⟨bf, 2, none⟩) (fun _ => rfl) _
      have BC2 : Hid (wF.heap[bf]? = some (.cells #[.int .u64 (t : Int), .int .u64 (e : Int), .int .u64 (r2 : Int), .int .u64 (g : Int)] 25 (0, 0))) := by rw [← hW2]; have := heap_setCell_at Bkf.out 2 (.int .u64 (r2 : Int)); rw [this]; rfl
      replace HK := Lib.hid (HK.out.trans hkp (fun q hq h => by have := Lf.out; omega))
      replace Bkr := Lib.hid ((hkp.block br (lt_of_heap Bkr.out) Nrf).trans Bkr.out)
      replace Bko := Lib.hid ((hkp.block bo (lt_of_heap Bko.out) Nof).trans Bko.out)
      replace Bkd := Lib.hid ((hkp.block bd (lt_of_heap Bkd.out) Ndf).trans Bkd.out)
      clear Bkf
      have Bkf := Lib.hid BC2.out
      have HW2 := Lib.hid hW2
      clear hW2 hkp BC2
      obtain ⟨bl, hbl⟩ : ∃ b, wf.heap.size = b := ⟨_, rfl⟩
      have hblF : wF.heap.size = bl := by rw [← HW2.out, ← hbl]; simp [World.setCell]
      obtain ⟨wL, hwL⟩ : ∃ W, wF.alloc (.cells #[.int .u64 (r0 : Int), .int .u64 (r1 : Int), .int .u64 (r2 : Int), .int .u64 (r3 : Int), .int .u64 (p : Int), .int .u64 (r1 : Int), .int .u64 (r2 : Int), .int .u64 (r3 : Int), .int .u64 (t : Int), .int .u64 (e : Int), .int .u64 (y : Int), .int .u64 (g : Int), .int .u64 (t : Int), .int .u64 (e : Int), .int .u64 (r2 : Int), .int .u64 (g : Int)] 25) = W := ⟨_, rfl⟩
      have hk : Keeps (fun _ => False) wF wL := by rw [← hwL]; exact (Keeps.refl _ wF).alloc _
      have Bkl : Hid (wL.heap[bl]? = some (.cells #[.int .u64 (r0 : Int), .int .u64 (r1 : Int), .int .u64 (r2 : Int), .int .u64 (r3 : Int), .int .u64 (p : Int), .int .u64 (r1 : Int), .int .u64 (r2 : Int), .int .u64 (r3 : Int), .int .u64 (t : Int), .int .u64 (e : Int), .int .u64 (y : Int), .int .u64 (g : Int), .int .u64 (t : Int), .int .u64 (e : Int), .int .u64 (r2 : Int), .int .u64 (g : Int)] 25 (0, 0))) := by rw [← hwL, ← hblF]; exact World.alloc_heap_new wF _
      have EL := Lib.hid (And.intro hwL hbl)
      replace HK := Lib.hid (HK.out.quiet hk)
      clear hwL hbl hk hblF
      have O0 : Hid (Bx.ok ⟨r0, r1, r2, r3⟩) := ⟨HUR.out.1, HUR.out.2.1, HUR.out.2.2.1, HUR.out.2.2.2⟩
      have O1 : Hid (Bx.ok ⟨p, r1, r2, r3⟩) := ⟨HU.out.2.2.2, HUR.out.2.1, HUR.out.2.2.1, HUR.out.2.2.2⟩
      have O2 : Hid (Bx.ok ⟨t, e, y, g⟩) := ⟨HOK.out.1, HOK.out.2.1, HOK.out.2.2.1, HOK.out.2.2.2⟩
      have O3 : Hid (Bx.ok ⟨t, e, r2, g⟩) := ⟨HOK.out.1, HOK.out.2.1, HUR.out.2.2.1, HOK.out.2.2.2⟩
      go_wp2_with fail
      rw [HW2.out, EL.out.2, EL.out.1]
      clear cr0 cr1 cr2 cr3
      clear co0 co1 co2 co3
      clear cd0 cd1 cd2 cd3
      clear cf0 cf1 cf2 cf3 ff2
      clear HW2 EL Bkr Bko Bkd Bkf
      go_loopw [17] (fun i wr => RdRel wL i wr) (fun i _ => 4 - (intOf i).toNat)
      case atStart => exact ⟨0, by omega, rfl, Keeps.refl _ _⟩
      case round =>
        obtain ⟨q, hq, rfl, hkp⟩ := hrel
        have HB := Lib.hid ((hkp.block bl (lt_of_heap Bkl.out) (fun h => h)).trans Bkl.out)
        have HKP := Lib.hid hkp
        clear hkp
        have hqc : q = 0 ∨ q = 1 ∨ q = 2 ∨ q = 3 ∨ q = 4 := by omega
        clear hq
        rcases hqc with rfl | rfl | rfl | rfl | rfl
        · skip
          obtain ⟨⟨x, c⟩, hO⟩ : ∃ z : Nat × Int, openBox a ⟨r0, r1, r2, r3⟩ = z := ⟨_, rfl⟩
          have HO := Lib.hid hO
          clear hO
          have c0 := cellAt HB.out 0
          have c1 := cellAt HB.out 1
          have c2 := cellAt HB.out 2
          have c3 := cellAt HB.out 3
          simp at c0 c1 c2 c3
          go_wp2_with fail
          refine (open_is wr HU.out.1 O0.out HO.out).mono ?_
          rintro r wr1 ⟨rfl, hk⟩
          have HB1 := Lib.hid ((hk.block bl (lt_of_heap HB.out) (fun h => h)).trans HB.out)
          replace HKP := Lib.hid (HKP.out.quiet hk)
          clear hk c0 c1 c2 c3
          have c0 := cellAt HB1.out 0
          have c1 := cellAt HB1.out 1
          have c2 := cellAt HB1.out 2
          have c3 := cellAt HB1.out 3
          simp at c0 c1 c2 c3
          go_wp2_with fail
          refine (refOpen_is wr1 HU.out.1 O0.out HO.out).mono ?_
          rintro r wr2 ⟨rfl, hk⟩
          replace HKP := Lib.hid (HKP.out.quiet hk)
          clear hk c0 c1 c2 c3
          have q1 : ((x : Int) != (x : Int)) = false := by simp
          have q2 : (c != c) = false := by simp
          go_wp2
          go_roundw
          case rel => exact ⟨1, by omega, rfl, HKP.out⟩
          case measure => decide
        · skip
          obtain ⟨⟨x, c⟩, hO⟩ : ∃ z : Nat × Int, openBox a ⟨p, r1, r2, r3⟩ = z := ⟨_, rfl⟩
          have HO := Lib.hid hO
          clear hO
          have c0 := cellAt HB.out 4
          have c1 := cellAt HB.out 5
          have c2 := cellAt HB.out 6
          have c3 := cellAt HB.out 7
          simp at c0 c1 c2 c3
          go_wp2_with fail
          refine (open_is wr HU.out.1 O1.out HO.out).mono ?_
          rintro r wr1 ⟨rfl, hk⟩
          have HB1 := Lib.hid ((hk.block bl (lt_of_heap HB.out) (fun h => h)).trans HB.out)
          replace HKP := Lib.hid (HKP.out.quiet hk)
          clear hk c0 c1 c2 c3
          have c0 := cellAt HB1.out 4
          have c1 := cellAt HB1.out 5
          have c2 := cellAt HB1.out 6
          have c3 := cellAt HB1.out 7
          simp at c0 c1 c2 c3
          go_wp2_with fail
          refine (refOpen_is wr1 HU.out.1 O1.out HO.out).mono ?_
          rintro r wr2 ⟨rfl, hk⟩
          replace HKP := Lib.hid (HKP.out.quiet hk)
          clear hk c0 c1 c2 c3
          have q1 : ((x : Int) != (x : Int)) = false := by simp
          have q2 : (c != c) = false := by simp
          go_wp2
          go_roundw
          case rel => exact ⟨2, by omega, rfl, HKP.out⟩
          case measure => decide
        · skip
          obtain ⟨⟨x, c⟩, hO⟩ : ∃ z : Nat × Int, openBox a ⟨t, e, y, g⟩ = z := ⟨_, rfl⟩
          have HO := Lib.hid hO
          clear hO
          have c0 := cellAt HB.out 8
          have c1 := cellAt HB.out 9
          have c2 := cellAt HB.out 10
          have c3 := cellAt HB.out 11
          simp at c0 c1 c2 c3
          go_wp2_with fail
          refine (open_is wr HU.out.1 O2.out HO.out).mono ?_
          rintro r wr1 ⟨rfl, hk⟩
          have HB1 := Lib.hid ((hk.block bl (lt_of_heap HB.out) (fun h => h)).trans HB.out)
          replace HKP := Lib.hid (HKP.out.quiet hk)
          clear hk c0 c1 c2 c3
          have c0 := cellAt HB1.out 8
          have c1 := cellAt HB1.out 9
          have c2 := cellAt HB1.out 10
          have c3 := cellAt HB1.out 11
          simp at c0 c1 c2 c3
          go_wp2_with fail
          refine (refOpen_is wr1 HU.out.1 O2.out HO.out).mono ?_
          rintro r wr2 ⟨rfl, hk⟩
          replace HKP := Lib.hid (HKP.out.quiet hk)
          clear hk c0 c1 c2 c3
          have q1 : ((x : Int) != (x : Int)) = false := by simp
          have q2 : (c != c) = false := by simp
          go_wp2
          go_roundw
          case rel => exact ⟨3, by omega, rfl, HKP.out⟩
          case measure => decide
        · skip
          obtain ⟨⟨x, c⟩, hO⟩ : ∃ z : Nat × Int, openBox a ⟨t, e, r2, g⟩ = z := ⟨_, rfl⟩
          have HO := Lib.hid hO
          clear hO
          have c0 := cellAt HB.out 12
          have c1 := cellAt HB.out 13
          have c2 := cellAt HB.out 14
          have c3 := cellAt HB.out 15
          simp at c0 c1 c2 c3
          go_wp2_with fail
          refine (open_is wr HU.out.1 O3.out HO.out).mono ?_
          rintro r wr1 ⟨rfl, hk⟩
          have HB1 := Lib.hid ((hk.block bl (lt_of_heap HB.out) (fun h => h)).trans HB.out)
          replace HKP := Lib.hid (HKP.out.quiet hk)
          clear hk c0 c1 c2 c3
          have c0 := cellAt HB1.out 12
          have c1 := cellAt HB1.out 13
          have c2 := cellAt HB1.out 14
          have c3 := cellAt HB1.out 15
          simp at c0 c1 c2 c3
          go_wp2_with fail
          refine (refOpen_is wr1 HU.out.1 O3.out HO.out).mono ?_
          rintro r wr2 ⟨rfl, hk⟩
          replace HKP := Lib.hid (HKP.out.quiet hk)
          clear hk c0 c1 c2 c3
          have q1 : ((x : Int) != (x : Int)) = false := by simp
          have q2 : (c != c) = false := by simp
          go_wp2
          go_roundw
          case rel => exact ⟨4, by omega, rfl, HKP.out⟩
          case measure => decide
        · skip
          replace HK := Lib.hid (HK.out.quiet HKP.out)
          go_wp2_with fail
          refine (lives_any wr).mono ?_
          rintro e w41 ⟨rfl, hk⟩
          replace HK := Lib.hid (HK.out.quiet hk)
          clear hk
          go_wp2
          go_ret
          exact ⟨rfl, HK.out⟩
    · skip
      have cr0 := cellAt Bkr.out 0
      have cr1 := cellAt Bkr.out 1
      have cr2 := cellAt Bkr.out 2
      have cr3 := cellAt Bkr.out 3
      simp at cr0 cr1 cr2 cr3
      have co0 := cellAt Bko.out 0
      have co1 := cellAt Bko.out 1
      have co2 := cellAt Bko.out 2
      have co3 := cellAt Bko.out 3
      simp at co0 co1 co2 co3
      have cd0 := cellAt Bkd.out 0
      have cd1 := cellAt Bkd.out 1
      have cd2 := cellAt Bkd.out 2
      have cd3 := cellAt Bkd.out 3
      simp at cd0 cd1 cd2 cd3
      have cf0 := cellAt Bkf.out 0
      have cf1 := cellAt Bkf.out 1
      have cf2 := cellAt Bkf.out 2
      have cf3 := cellAt Bkf.out 3
      simp at cf0 cf1 cf2 cf3
      have ff3 := freeAt Bkf.out 3
      obtain ⟨wF, hW2⟩ : ∃ W2, wf.setCell ⟨bf, 3, none⟩ (.int .u64 (r3 : Int)) = W2 := ⟨_, rfl⟩
      have hkp : Keeps (fun q => q = bf) wf wF := by rw [← hW2]; exact (Keeps.refl (fun q => q = bf) wf).setCell (p := ⟨bf, 3, none⟩) (fun _ => rfl) _
      have BC2 : Hid (wF.heap[bf]? = some (.cells #[.int .u64 (t : Int), .int .u64 (e : Int), .int .u64 (y : Int), .int .u64 (r3 : Int)] 25 (0, 0))) := by rw [← hW2]; have := heap_setCell_at Bkf.out 3 (.int .u64 (r3 : Int)); rw [this]; rfl
      replace HK := Lib.hid (HK.out.trans hkp (fun q hq h => by have := Lf.out; omega))
      replace Bkr := Lib.hid ((hkp.block br (lt_of_heap Bkr.out) Nrf).trans Bkr.out)
      replace Bko := Lib.hid ((hkp.block bo (lt_of_heap Bko.out) Nof).trans Bko.out)
      replace Bkd := Lib.hid ((hkp.block bd (lt_of_heap Bkd.out) Ndf).trans Bkd.out)
      clear Bkf
      have Bkf := Lib.hid BC2.out
      have HW2 := Lib.hid hW2
      clear hW2 hkp BC2
      obtain ⟨bl, hbl⟩ : ∃ b, wf.heap.size = b := ⟨_, rfl⟩
      have hblF : wF.heap.size = bl := by rw [← HW2.out, ← hbl]; simp [World.setCell]
      obtain ⟨wL, hwL⟩ : ∃ W, wF.alloc (.cells #[.int .u64 (r0 : Int), .int .u64 (r1 : Int), .int .u64 (r2 : Int), .int .u64 (r3 : Int), .int .u64 (p : Int), .int .u64 (r1 : Int), .int .u64 (r2 : Int), .int .u64 (r3 : Int), .int .u64 (t : Int), .int .u64 (e : Int), .int .u64 (y : Int), .int .u64 (g : Int), .int .u64 (t : Int), .int .u64 (e : Int), .int .u64 (y : Int), .int .u64 (r3 : Int)] 25) = W := ⟨_, rfl⟩
      have hk : Keeps (fun _ => False) wF wL := by rw [← hwL]; exact (Keeps.refl _ wF).alloc _
      have Bkl : Hid (wL.heap[bl]? = some (.cells #[.int .u64 (r0 : Int), .int .u64 (r1 : Int), .int .u64 (r2 : Int), .int .u64 (r3 : Int), .int .u64 (p : Int), .int .u64 (r1 : Int), .int .u64 (r2 : Int), .int .u64 (r3 : Int), .int .u64 (t : Int), .int .u64 (e : Int), .int .u64 (y : Int), .int .u64 (g : Int), .int .u64 (t : Int), .int .u64 (e : Int), .int .u64 (y : Int), .int .u64 (r3 : Int)] 25 (0, 0))) := by rw [← hwL, ← hblF]; exact World.alloc_heap_new wF _
      have EL := Lib.hid (And.intro hwL hbl)
      replace HK := Lib.hid (HK.out.quiet hk)
      clear hwL hbl hk hblF
      have O0 : Hid (Bx.ok ⟨r0, r1, r2, r3⟩) := ⟨HUR.out.1, HUR.out.2.1, HUR.out.2.2.1, HUR.out.2.2.2⟩
      have O1 : Hid (Bx.ok ⟨p, r1, r2, r3⟩) := ⟨HU.out.2.2.2, HUR.out.2.1, HUR.out.2.2.1, HUR.out.2.2.2⟩
      have O2 : Hid (Bx.ok ⟨t, e, y, g⟩) := ⟨HOK.out.1, HOK.out.2.1, HOK.out.2.2.1, HOK.out.2.2.2⟩
      have O3 : Hid (Bx.ok ⟨t, e, y, r3⟩) := ⟨HOK.out.1, HOK.out.2.1, HOK.out.2.2.1, HUR.out.2.2.2⟩
      go_wp2_with fail
      rw [HW2.out, EL.out.2, EL.out.1]
      clear cr0 cr1 cr2 cr3
      clear co0 co1 co2 co3
      clear cd0 cd1 cd2 cd3
      clear cf0 cf1 cf2 cf3 ff3
      clear HW2 EL Bkr Bko Bkd Bkf
      go_loopw [17] (fun i wr => RdRel wL i wr) (fun i _ => 4 - (intOf i).toNat)
      case atStart => exact ⟨0, by omega, rfl, Keeps.refl _ _⟩
      case round =>
        obtain ⟨q, hq, rfl, hkp⟩ := hrel
        have HB := Lib.hid ((hkp.block bl (lt_of_heap Bkl.out) (fun h => h)).trans Bkl.out)
        have HKP := Lib.hid hkp
        clear hkp
        have hqc : q = 0 ∨ q = 1 ∨ q = 2 ∨ q = 3 ∨ q = 4 := by omega
        clear hq
        rcases hqc with rfl | rfl | rfl | rfl | rfl
        · skip
          obtain ⟨⟨x, c⟩, hO⟩ : ∃ z : Nat × Int, openBox a ⟨r0, r1, r2, r3⟩ = z := ⟨_, rfl⟩
          have HO := Lib.hid hO
          clear hO
          have c0 := cellAt HB.out 0
          have c1 := cellAt HB.out 1
          have c2 := cellAt HB.out 2
          have c3 := cellAt HB.out 3
          simp at c0 c1 c2 c3
          go_wp2_with fail
          refine (open_is wr HU.out.1 O0.out HO.out).mono ?_
          rintro r wr1 ⟨rfl, hk⟩
          have HB1 := Lib.hid ((hk.block bl (lt_of_heap HB.out) (fun h => h)).trans HB.out)
          replace HKP := Lib.hid (HKP.out.quiet hk)
          clear hk c0 c1 c2 c3
          have c0 := cellAt HB1.out 0
          have c1 := cellAt HB1.out 1
          have c2 := cellAt HB1.out 2
          have c3 := cellAt HB1.out 3
          simp at c0 c1 c2 c3
          go_wp2_with fail
          refine (refOpen_is wr1 HU.out.1 O0.out HO.out).mono ?_
          rintro r wr2 ⟨rfl, hk⟩
          replace HKP := Lib.hid (HKP.out.quiet hk)
          clear hk c0 c1 c2 c3
          have q1 : ((x : Int) != (x : Int)) = false := by simp
          have q2 : (c != c) = false := by simp
          go_wp2
          go_roundw
          case rel => exact ⟨1, by omega, rfl, HKP.out⟩
          case measure => decide
        · skip
          obtain ⟨⟨x, c⟩, hO⟩ : ∃ z : Nat × Int, openBox a ⟨p, r1, r2, r3⟩ = z := ⟨_, rfl⟩
          have HO := Lib.hid hO
          clear hO
          have c0 := cellAt HB.out 4
          have c1 := cellAt HB.out 5
          have c2 := cellAt HB.out 6
          have c3 := cellAt HB.out 7
          simp at c0 c1 c2 c3
          go_wp2_with fail
          refine (open_is wr HU.out.1 O1.out HO.out).mono ?_
          rintro r wr1 ⟨rfl, hk⟩
          have HB1 := Lib.hid ((hk.block bl (lt_of_heap HB.out) (fun h => h)).trans HB.out)
          replace HKP := Lib.hid (HKP.out.quiet hk)
          clear hk c0 c1 c2 c3
          have c0 := cellAt HB1.out 4
          have c1 := cellAt HB1.out 5
          have c2 := cellAt HB1.out 6
          have c3 := cellAt HB1.out 7
          simp at c0 c1 c2 c3
          go_wp2_with fail
          refine (refOpen_is wr1 HU.out.1 O1.out HO.out).mono ?_
          rintro r wr2 ⟨rfl, hk⟩
          replace HKP := Lib.hid (HKP.out.quiet hk)
          clear hk c0 c1 c2 c3
          have q1 : ((x : Int) != (x : Int)) = false := by simp
          have q2 : (c != c) = false := by simp
          go_wp2
          go_roundw
          case rel => exact ⟨2, by omega, rfl, HKP.out⟩
          case measure => decide
        · skip
          obtain ⟨⟨x, c⟩, hO⟩ : ∃ z : Nat × Int, openBox a ⟨t, e, y, g⟩ = z := ⟨_, rfl⟩
          have HO := Lib.hid hO
          clear hO
          have c0 := cellAt HB.out 8
          have c1 := cellAt HB.out 9
          have c2 := cellAt HB.out 10
          have c3 := cellAt HB.out 11
          simp at c0 c1 c2 c3
          go_wp2_with fail
          refine (open_is wr HU.out.1 O2.out HO.out).mono ?_
          rintro r wr1 ⟨rfl, hk⟩
          have HB1 := Lib.hid ((hk.block bl (lt_of_heap HB.out) (fun h => h)).trans HB.out)
          replace HKP := Lib.hid (HKP.out.quiet hk)
          clear hk c0 c1 c2 c3
          have c0 := cellAt HB1.out 8
          have c1 := cellAt HB1.out 9
          have c2 := cellAt HB1.out 10
          have c3 := cellAt HB1.out 11
          simp at c0 c1 c2 c3
          go_wp2_with fail
          refine (refOpen_is wr1 HU.out.1 O2.out HO.out).mono ?_
          rintro r wr2 ⟨rfl, hk⟩
          replace HKP := Lib.hid (HKP.out.quiet hk)
          clear hk c0 c1 c2 c3
          have q1 : ((x : Int) != (x : Int)) = false := by simp
          have q2 : (c != c) = false := by simp
          go_wp2
          go_roundw
          case rel => exact ⟨3, by omega, rfl, HKP.out⟩
          case measure => decide
        · skip
          obtain ⟨⟨x, c⟩, hO⟩ : ∃ z : Nat × Int, openBox a ⟨t, e, y, r3⟩ = z := ⟨_, rfl⟩
          have HO := Lib.hid hO
          clear hO
          have c0 := cellAt HB.out 12
          have c1 := cellAt HB.out 13
          have c2 := cellAt HB.out 14
          have c3 := cellAt HB.out 15
          simp at c0 c1 c2 c3
          go_wp2_with fail
          refine (open_is wr HU.out.1 O3.out HO.out).mono ?_
          rintro r wr1 ⟨rfl, hk⟩
          have HB1 := Lib.hid ((hk.block bl (lt_of_heap HB.out) (fun h => h)).trans HB.out)
          replace HKP := Lib.hid (HKP.out.quiet hk)
          clear hk c0 c1 c2 c3
          have c0 := cellAt HB1.out 12
          have c1 := cellAt HB1.out 13
          have c2 := cellAt HB1.out 14
          have c3 := cellAt HB1.out 15
          simp at c0 c1 c2 c3
          go_wp2_with fail
          refine (refOpen_is wr1 HU.out.1 O3.out HO.out).mono ?_
          rintro r wr2 ⟨rfl, hk⟩
          replace HKP := Lib.hid (HKP.out.quiet hk)
          clear hk c0 c1 c2 c3
          have q1 : ((x : Int) != (x : Int)) = false := by simp
          have q2 : (c != c) = false := by simp
          go_wp2
          go_roundw
          case rel => exact ⟨4, by omega, rfl, HKP.out⟩
          case measure => decide
        · skip
          replace HK := Lib.hid (HK.out.quiet HKP.out)
          go_wp2_with fail
          refine (lives_any wr).mono ?_
          rintro e w41 ⟨rfl, hk⟩
          replace HK := Lib.hid (HK.out.quiet hk)
          clear hk
          go_wp2
          go_ret
          exact ⟨rfl, HK.out⟩
end Go.Proofs.Ytaennfafbohegaa
