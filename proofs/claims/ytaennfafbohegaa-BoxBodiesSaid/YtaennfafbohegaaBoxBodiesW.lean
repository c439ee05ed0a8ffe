/-
  The law BoxBodies: the walk. Conditions: the arguments are what came in.
-/
import Derived.Test.YtaennfafbohegaaLives06
import Derived.Test.YtaennfafbohegaaAround
import Derived.Test.YtaennfafbohegaaOpen
namespace Go.Proofs.Ytaennfafbohegaa
open Go.RowKit

set_option maxHeartbeats 4000000 in
set_option maxRecDepth 10000 in
theorem boxBodies_walk (s once v v2 : Nat) (w : World)  :
    Calls Try.prog 9 #[.int .u64 s, .int .u64 once, .int .u64 v, .int .u64 v2] w fun e w' => e = .returned (.bool true) ∧ Keeps (fun _ => False) w w' := by
  obtain ⟨a, ha⟩ : ∃ a, sec s = a := ⟨_, rfl⟩
  obtain ⟨o, ho⟩ : ∃ o, sec once = o := ⟨_, rfl⟩
  obtain ⟨n, hn⟩ : ∃ n, num v = n := ⟨_, rfl⟩
  obtain ⟨m, hm⟩ : ∃ m, num v2 = m := ⟨_, rfl⟩
  obtain ⟨p, hp⟩ : ∃ p, powm 37 a = p := ⟨_, rfl⟩
  have hnl : n < 2305843009213693951 := hn ▸ num_lt v
  have hml : m < 2305843009213693951 := hm ▸ num_lt v2
  obtain ⟨t, e, y, g, hB⟩ := bx_parts (mkBox p o n)
  obtain ⟨t', e', y', g', hB'⟩ := bx_parts (mkBox p o m)
  have het : e' = e := by have h1 := congrArg Bx.eph hB; have h2 := congrArg Bx.eph hB'; rw [mkBox_eph] at h1 h2; exact h2.symm.trans h1
  subst het
  have htt : t' = t := by have h1 := congrArg Bx.to hB; have h2 := congrArg Bx.to hB'; rw [mkBox_to] at h1 h2; exact h2.symm.trans h1
  subst htt
  have hsub := bodies_sub p o n m
  have hbi := bodies_iff p o n m hnl hml
  have hti := bodies_tag p o n m hnl hml
  rw [hB, hB'] at hsub hbi hti
  simp only at hsub hbi hti
  obtain ⟨d, hd⟩ : ∃ d, subm n m = d := ⟨_, rfl⟩
  rw [hd] at hsub
  obtain ⟨b, hb⟩ : ∃ b : Bool, decide (n = m) = b := ⟨_, rfl⟩
  have q1 : ((g : Int) == (g' : Int)) = b := by rw [← hb, Bool.eq_iff_iff]; simp; omega
  have q2 : ((n : Int) == (m : Int)) = b := by rw [← hb, Bool.eq_iff_iff]; simp; omega
  have q3 : ((y : Int) == (y' : Int)) = b := by rw [← hb, Bool.eq_iff_iff]; simp; omega
  have HE := Lib.hid (And.intro ha (And.intro ho (And.intro hn (And.intro hm (And.intro hp (And.intro hB (And.intro hB' (And.intro hsub hd))))))))
  have ho1 : Bx.ok ⟨t', e', y, g⟩ := hB ▸ mkBox_ok p o n (hp ▸ pow_u _ _)
  have ho2 : Bx.ok ⟨t', e', y', g'⟩ := hB' ▸ mkBox_ok p o m (hp ▸ pow_u _ _)
  have HU : Hid (U64 a ∧ U64 o ∧ U64 n ∧ U64 m ∧ U64 p ∧ U64 y ∧ U64 y') := ⟨ha ▸ sec_u s, ho ▸ sec_u once, hn ▸ num_u v, hm ▸ num_u v2, hp ▸ pow_u _ _, ho1.2.2.1, ho2.2.2.1⟩
  clear ha ho hn hm hp hB hB' hsub hd hbi hti hb ho1 ho2 hnl hml
  cases b
  · skip
    go_enter Try.func9, Try.ntmps9
    have HK := Lib.hid (Keeps.refl (fun _ => False) w)
    go_wp2_with fail
    refine (sec_any s w).mono ?_
    rw [HE.out.1]
    rintro e _ ⟨rfl, rfl⟩
    go_wp2_with fail
    refine (pub_any a w HU.out.1).mono ?_
    rw [HE.out.2.2.2.2.1]
    rintro e w1 ⟨rfl, hk⟩
    replace HK := Lib.hid (HK.out.quiet hk)
    clear hk
    go_wp2_with fail
    refine (sec_any once w1).mono ?_
    rw [HE.out.2.1]
    rintro e _ ⟨rfl, rfl⟩
    go_wp2_with fail
    refine (refNum_any v w1).mono ?_
    rw [HE.out.2.2.1]
    rintro e _ ⟨rfl, rfl⟩
    go_wp2_with fail
    refine (refNum_any v2 w1).mono ?_
    rw [HE.out.2.2.2.1]
    rintro e _ ⟨rfl, rfl⟩
    go_wp2_with fail
    refine (make_is w1 HU.out.2.2.2.2.1 HU.out.2.1 HU.out.2.2.1 HE.out.2.2.2.2.2.1).mono ?_
    rintro e w2 ⟨rfl, hk⟩
    replace HK := Lib.hid (HK.out.quiet hk)
    clear hk
    obtain ⟨bx, hb⟩ : ∃ b, w2.heap.size = b := ⟨_, rfl⟩
    obtain ⟨wx, hW⟩ : ∃ W, w2.alloc (.cells #[.int .u64 (t' : Int), .int .u64 (e' : Int), .int .u64 (y : Int), .int .u64 (g : Int)] 25) = W := ⟨_, rfl⟩
    have hk : Keeps (fun _ => False) w2 wx := by rw [← hW]; exact (Keeps.refl _ w2).alloc _
    have Bkx : Hid (wx.heap[bx]? = some (.cells #[.int .u64 (t' : Int), .int .u64 (e' : Int), .int .u64 (y : Int), .int .u64 (g : Int)] 25 (0, 0))) := by rw [← hW, ← hb]; exact World.alloc_heap_new w2 _
    have Lx : Hid (w.heap.size ≤ bx) := by show _ ≤ _; rw [← hb]; exact HK.out.size
    replace HK := Lib.hid (HK.out.quiet hk)
    have Ex := Lib.hid (And.intro hW hb)
    clear hW hb hk
    go_wp2_with fail
    rw [Ex.out.2, Ex.out.1]
    refine (make_is wx HU.out.2.2.2.2.1 HU.out.2.1 HU.out.2.2.2.1 HE.out.2.2.2.2.2.2.1).mono ?_
    rintro r w3 ⟨rfl, hk⟩
    replace HK := Lib.hid (HK.out.quiet hk)
    replace Bkx := Lib.hid ((hk.block _ (lt_of_heap Bkx.out) (fun h => h)).trans Bkx.out)
    clear hk
    have cx0 := cellAt Bkx.out 0
    have cx1 := cellAt Bkx.out 1
    have cx2 := cellAt Bkx.out 2
    have cx3 := cellAt Bkx.out 3
    simp at cx0 cx1 cx2 cx3
    have hbx := lt_of_heap Bkx.out
    obtain ⟨bd, hb⟩ : ∃ b, w3.heap.size = b := ⟨_, rfl⟩
    obtain ⟨wd, hW⟩ : ∃ W, w3.alloc (.cells #[.int .u64 (t' : Int), .int .u64 (e' : Int), .int .u64 (y' : Int), .int .u64 (g' : Int)] 25) = W := ⟨_, rfl⟩
    have hk : Keeps (fun _ => False) w3 wd := by rw [← hW]; exact (Keeps.refl _ w3).alloc _
    have Bkd : Hid (wd.heap[bd]? = some (.cells #[.int .u64 (t' : Int), .int .u64 (e' : Int), .int .u64 (y' : Int), .int .u64 (g' : Int)] 25 (0, 0))) := by rw [← hW, ← hb]; exact World.alloc_heap_new w3 _
    have Ld : Hid (w.heap.size ≤ bd) := by show _ ≤ _; rw [← hb]; exact HK.out.size
    have Nxd : bx ≠ bd := by have := lt_of_heap Bkx.out; omega
    have Ndx : bd ≠ bx := by omega
    replace HK := Lib.hid (HK.out.quiet hk)
    replace Bkx := Lib.hid ((hk.block _ (lt_of_heap Bkx.out) (fun h => h)).trans Bkx.out)
    have Ed := Lib.hid (And.intro hW hb)
    clear hW hb hk
    go_wp2_with fail
    rw [Ed.out.2, Ed.out.1]
    refine (sub_any y y' wd HU.out.2.2.2.2.2.1 HU.out.2.2.2.2.2.2).mono ?_
    rw [HE.out.2.2.2.2.2.2.2.1]
    rintro r _ ⟨rfl, rfl⟩
    clear cx0 cx1 cx2 cx3
    go_wp2_with fail
    refine (sub_any n m wd HU.out.2.2.1 HU.out.2.2.2.1).mono ?_
    rw [HE.out.2.2.2.2.2.2.2.2]
    rintro e _ ⟨rfl, rfl⟩
    have cx0 := cellAt Bkx.out 0
    have cx1 := cellAt Bkx.out 1
    have cx2 := cellAt Bkx.out 2
    have cx3 := cellAt Bkx.out 3
    simp at cx0 cx1 cx2 cx3
    have cd0 := cellAt Bkd.out 0
    have cd1 := cellAt Bkd.out 1
    have cd2 := cellAt Bkd.out 2
    have cd3 := cellAt Bkd.out 3
    simp at cd0 cd1 cd2 cd3
    go_wp2_with fail
    refine (lives_any wd).mono ?_
    rintro e w4 ⟨rfl, hk⟩
    replace HK := Lib.hid (HK.out.quiet hk)
    replace Bkx := Lib.hid ((hk.block _ (lt_of_heap Bkx.out) (fun h => h)).trans Bkx.out)
    replace Bkd := Lib.hid ((hk.block _ (lt_of_heap Bkd.out) (fun h => h)).trans Bkd.out)
    clear hk
    go_wp2
    go_ret
    exact ⟨rfl, HK.out⟩
  · skip
    go_enter Try.func9, Try.ntmps9
    have HK := Lib.hid (Keeps.refl (fun _ => False) w)
    go_wp2_with fail
    refine (sec_any s w).mono ?_
    rw [HE.out.1]
    rintro e _ ⟨rfl, rfl⟩
    go_wp2_with fail
    refine (pub_any a w HU.out.1).mono ?_
    rw [HE.out.2.2.2.2.1]
    rintro e w1 ⟨rfl, hk⟩
    replace HK := Lib.hid (HK.out.quiet hk)
    clear hk
    go_wp2_with fail
    refine (sec_any once w1).mono ?_
    rw [HE.out.2.1]
    rintro e _ ⟨rfl, rfl⟩
    go_wp2_with fail
    refine (refNum_any v w1).mono ?_
    rw [HE.out.2.2.1]
    rintro e _ ⟨rfl, rfl⟩
    go_wp2_with fail
    refine (refNum_any v2 w1).mono ?_
    rw [HE.out.2.2.2.1]
    rintro e _ ⟨rfl, rfl⟩
    go_wp2_with fail
    refine (make_is w1 HU.out.2.2.2.2.1 HU.out.2.1 HU.out.2.2.1 HE.out.2.2.2.2.2.1).mono ?_
    rintro e w2 ⟨rfl, hk⟩
    replace HK := Lib.hid (HK.out.quiet hk)
    clear hk
    obtain ⟨bx, hb⟩ : ∃ b, w2.heap.size = b := ⟨_, rfl⟩
    obtain ⟨wx, hW⟩ : ∃ W, w2.alloc (.cells #[.int .u64 (t' : Int), .int .u64 (e' : Int), .int .u64 (y : Int), .int .u64 (g : Int)] 25) = W := ⟨_, rfl⟩
    have hk : Keeps (fun _ => False) w2 wx := by rw [← hW]; exact (Keeps.refl _ w2).alloc _
    have Bkx : Hid (wx.heap[bx]? = some (.cells #[.int .u64 (t' : Int), .int .u64 (e' : Int), .int .u64 (y : Int), .int .u64 (g : Int)] 25 (0, 0))) := by rw [← hW, ← hb]; exact World.alloc_heap_new w2 _
    have Lx : Hid (w.heap.size ≤ bx) := by show _ ≤ _; rw [← hb]; exact HK.out.size
    replace HK := Lib.hid (HK.out.quiet hk)
    have Ex := Lib.hid (And.intro hW hb)
    clear hW hb hk
    go_wp2_with fail
    rw [Ex.out.2, Ex.out.1]
    refine (make_is wx HU.out.2.2.2.2.1 HU.out.2.1 HU.out.2.2.2.1 HE.out.2.2.2.2.2.2.1).mono ?_
    rintro r w3 ⟨rfl, hk⟩
    replace HK := Lib.hid (HK.out.quiet hk)
    replace Bkx := Lib.hid ((hk.block _ (lt_of_heap Bkx.out) (fun h => h)).trans Bkx.out)
    clear hk
    have cx0 := cellAt Bkx.out 0
    have cx1 := cellAt Bkx.out 1
    have cx2 := cellAt Bkx.out 2
    have cx3 := cellAt Bkx.out 3
    simp at cx0 cx1 cx2 cx3
    have hbx := lt_of_heap Bkx.out
    obtain ⟨bd, hb⟩ : ∃ b, w3.heap.size = b := ⟨_, rfl⟩
    obtain ⟨wd, hW⟩ : ∃ W, w3.alloc (.cells #[.int .u64 (t' : Int), .int .u64 (e' : Int), .int .u64 (y' : Int), .int .u64 (g' : Int)] 25) = W := ⟨_, rfl⟩
    have hk : Keeps (fun _ => False) w3 wd := by rw [← hW]; exact (Keeps.refl _ w3).alloc _
    have Bkd : Hid (wd.heap[bd]? = some (.cells #[.int .u64 (t' : Int), .int .u64 (e' : Int), .int .u64 (y' : Int), .int .u64 (g' : Int)] 25 (0, 0))) := by rw [← hW, ← hb]; exact World.alloc_heap_new w3 _
    have Ld : Hid (w.heap.size ≤ bd) := by show _ ≤ _; rw [← hb]; exact HK.out.size
    have Nxd : bx ≠ bd := by have := lt_of_heap Bkx.out; omega
    have Ndx : bd ≠ bx := by omega
    replace HK := Lib.hid (HK.out.quiet hk)
    replace Bkx := Lib.hid ((hk.block _ (lt_of_heap Bkx.out) (fun h => h)).trans Bkx.out)
    have Ed := Lib.hid (And.intro hW hb)
    clear hW hb hk
    go_wp2_with fail
    rw [Ed.out.2, Ed.out.1]
    refine (sub_any y y' wd HU.out.2.2.2.2.2.1 HU.out.2.2.2.2.2.2).mono ?_
    rw [HE.out.2.2.2.2.2.2.2.1]
    rintro r _ ⟨rfl, rfl⟩
    clear cx0 cx1 cx2 cx3
    go_wp2_with fail
    refine (sub_any n m wd HU.out.2.2.1 HU.out.2.2.2.1).mono ?_
    rw [HE.out.2.2.2.2.2.2.2.2]
    rintro e _ ⟨rfl, rfl⟩
    have cx0 := cellAt Bkx.out 0
    have cx1 := cellAt Bkx.out 1
    have cx2 := cellAt Bkx.out 2
    have cx3 := cellAt Bkx.out 3
    simp at cx0 cx1 cx2 cx3
    have cd0 := cellAt Bkd.out 0
    have cd1 := cellAt Bkd.out 1
    have cd2 := cellAt Bkd.out 2
    have cd3 := cellAt Bkd.out 3
    simp at cd0 cd1 cd2 cd3
    go_wp2_with fail
    refine (lives_any wd).mono ?_
    rintro e w4 ⟨rfl, hk⟩
    replace HK := Lib.hid (HK.out.quiet hk)
    replace Bkx := Lib.hid ((hk.block _ (lt_of_heap Bkx.out) (fun h => h)).trans Bkx.out)
    replace Bkd := Lib.hid ((hk.block _ (lt_of_heap Bkd.out) (fun h => h)).trans Bkd.out)
    clear hk
    go_wp2
    go_ret
    exact ⟨rfl, HK.out⟩
end Go.Proofs.Ytaennfafbohegaa
