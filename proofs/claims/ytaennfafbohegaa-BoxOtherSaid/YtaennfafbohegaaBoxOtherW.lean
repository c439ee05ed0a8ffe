/-
  The law BoxOther: the walk. Conditions: the arguments are what came in.
-/
import Derived.Test.YtaennfafbohegaaLives06
import Derived.Test.YtaennfafbohegaaAround
import Derived.Test.YtaennfafbohegaaOpen
namespace Go.Proofs.Ytaennfafbohegaa
open Go.RowKit

set_option maxHeartbeats 4000000 in
set_option maxRecDepth 10000 in
theorem boxOther_walk (s t_ once v : Nat) (w : World)  :
    Calls Try.prog 7 #[.int .u64 s, .int .u64 t_, .int .u64 once, .int .u64 v] w fun e w' => e = .returned (.bool true) ∧ Keeps (fun _ => False) w w' := by
  obtain ⟨a, ha⟩ : ∃ a, sec s = a := ⟨_, rfl⟩
  obtain ⟨c, hc⟩ : ∃ c, sec t_ = c := ⟨_, rfl⟩
  obtain ⟨o, ho⟩ : ∃ o, sec once = o := ⟨_, rfl⟩
  obtain ⟨n, hn⟩ : ∃ n, num v = n := ⟨_, rfl⟩
  obtain ⟨p, hp⟩ : ∃ p, powm 37 a = p := ⟨_, rfl⟩
  obtain ⟨q, hq⟩ : ∃ q, powm 37 c = q := ⟨_, rfl⟩
  have hnl : n < 2305843009213693951 := hn ▸ num_lt v
  obtain ⟨t, e, y, g, hB⟩ := bx_parts (mkBox p o n)
  have HE := Lib.hid (And.intro ha (And.intro hc (And.intro ho (And.intro hn hp))))
  have HB1 := Lib.hid hB
  have hok : Bx.ok ⟨t, e, y, g⟩ := hB ▸ mkBox_ok p o n (hp ▸ pow_u _ _)
  have HOK := Lib.hid hok
  have HU : Hid (U64 a ∧ U64 c ∧ U64 o ∧ U64 n ∧ U64 p) := ⟨ha ▸ sec_u s, hc ▸ sec_u t_, ho ▸ sec_u once, hn ▸ num_u v, hp ▸ pow_u _ _⟩
  clear hok
  by_cases hpq : p = q
  · subst hpq
    have HQ := Lib.hid hq
    have HPU := Lib.hid HU.out.2.2.2.2
    have HO1 : Hid (openBox c ⟨t, e, y, g⟩ = (n, 0)) := by show _ = _; rw [← hB, ← hq]; exact open_make c o n hnl
    have HB2 := Lib.hid hB
    clear ha hc ho hn hp hq hB hnl
    go_enter Try.func7, Try.ntmps7
    have HK := Lib.hid (Keeps.refl (fun _ => False) w)
    go_wp2_with fail
    refine (sec_any s w).mono ?_
    rw [HE.out.1]
    rintro e _ ⟨rfl, rfl⟩
    go_wp2_with fail
    refine (sec_any t_ w).mono ?_
    rw [HE.out.2.1]
    rintro e _ ⟨rfl, rfl⟩
    go_wp2_with fail
    refine (sec_any once w).mono ?_
    rw [HE.out.2.2.1]
    rintro e _ ⟨rfl, rfl⟩
    go_wp2_with fail
    refine (refNum_any v w).mono ?_
    rw [HE.out.2.2.2.1]
    rintro e _ ⟨rfl, rfl⟩
    go_wp2_with fail
    refine (pub_any a w HU.out.1).mono ?_
    rw [HE.out.2.2.2.2]
    rintro e w1 ⟨rfl, hk⟩
    replace HK := Lib.hid (HK.out.quiet hk)
    clear hk
    go_wp2_with fail
    refine (make_is w1 HU.out.2.2.2.2 HU.out.2.2.1 HU.out.2.2.2.1 HB1.out).mono ?_
    rintro e w2 ⟨rfl, hk⟩
    replace HK := Lib.hid (HK.out.quiet hk)
    clear hk
    obtain ⟨bx, hb⟩ : ∃ b, w2.heap.size = b := ⟨_, rfl⟩
    obtain ⟨wx, hW⟩ : ∃ W, w2.alloc (.cells #[.int .u64 (t : Int), .int .u64 (e : Int), .int .u64 (y : Int), .int .u64 (g : Int)] 25) = W := ⟨_, rfl⟩
    have hk : Keeps (fun _ => False) w2 wx := by rw [← hW]; exact (Keeps.refl _ w2).alloc _
    have Bkx : Hid (wx.heap[bx]? = some (.cells #[.int .u64 (t : Int), .int .u64 (e : Int), .int .u64 (y : Int), .int .u64 (g : Int)] 25 (0, 0))) := by rw [← hW, ← hb]; exact World.alloc_heap_new w2 _
    have Lx : Hid (w.heap.size ≤ bx) := by show _ ≤ _; rw [← hb]; exact HK.out.size
    replace HK := Lib.hid (HK.out.quiet hk)
    have Ex := Lib.hid (And.intro hW hb)
    clear hW hb hk
    go_wp2_with fail
    rw [Ex.out.2, Ex.out.1]
    refine (open_is wx HU.out.2.1 HOK.out HO1.out).mono ?_
    rintro r w3 ⟨rfl, hk⟩
    replace HK := Lib.hid (HK.out.quiet hk)
    replace Bkx := Lib.hid ((hk.block _ (lt_of_heap Bkx.out) (fun h => h)).trans Bkx.out)
    clear hk
    go_wp2_with fail
    refine (pub_any c w3 HU.out.2.1).mono ?_
    rw [HQ.out]
    rintro e w4 ⟨rfl, hk⟩
    replace HK := Lib.hid (HK.out.quiet hk)
    replace Bkx := Lib.hid ((hk.block _ (lt_of_heap Bkx.out) (fun h => h)).trans Bkx.out)
    clear hk
    go_wp2_with fail
    refine (make_is w4 HPU.out HU.out.2.2.1 HU.out.2.2.2.1 HB2.out).mono ?_
    rintro e w5 ⟨rfl, hk⟩
    replace HK := Lib.hid (HK.out.quiet hk)
    replace Bkx := Lib.hid ((hk.block _ (lt_of_heap Bkx.out) (fun h => h)).trans Bkx.out)
    clear hk
    obtain ⟨bd, hb⟩ : ∃ b, w5.heap.size = b := ⟨_, rfl⟩
    obtain ⟨wd, hW⟩ : ∃ W, w5.alloc (.cells #[.int .u64 (t : Int), .int .u64 (e : Int), .int .u64 (y : Int), .int .u64 (g : Int)] 25) = W := ⟨_, rfl⟩
    have hk : Keeps (fun _ => False) w5 wd := by rw [← hW]; exact (Keeps.refl _ w5).alloc _
    have Bkd : Hid (wd.heap[bd]? = some (.cells #[.int .u64 (t : Int), .int .u64 (e : Int), .int .u64 (y : Int), .int .u64 (g : Int)] 25 (0, 0))) := by rw [← hW, ← hb]; exact World.alloc_heap_new w5 _
    have Ld : Hid (w.heap.size ≤ bd) := by show _ ≤ _; rw [← hb]; exact HK.out.size
    have Nxd : bx ≠ bd := by have := lt_of_heap Bkx.out; omega
    have Ndx : bd ≠ bx := by omega
    replace HK := Lib.hid (HK.out.quiet hk)
    replace Bkx := Lib.hid ((hk.block _ (lt_of_heap Bkx.out) (fun h => h)).trans Bkx.out)
    have Ed := Lib.hid (And.intro hW hb)
    clear hW hb hk
    go_wp2_with fail
    rw [Ed.out.2, Ed.out.1]
    refine (pub_any a wd HU.out.1).mono ?_
    rw [HE.out.2.2.2.2]
    rintro r w6 ⟨rfl, hk⟩
    replace HK := Lib.hid (HK.out.quiet hk)
    replace Bkx := Lib.hid ((hk.block _ (lt_of_heap Bkx.out) (fun h => h)).trans Bkx.out)
    replace Bkd := Lib.hid ((hk.block _ (lt_of_heap Bkd.out) (fun h => h)).trans Bkd.out)
    clear hk
    go_wp2_with fail
    refine (pub_any c w6 HU.out.2.1).mono ?_
    rw [HQ.out]
    rintro e w7 ⟨rfl, hk⟩
    replace HK := Lib.hid (HK.out.quiet hk)
    replace Bkx := Lib.hid ((hk.block _ (lt_of_heap Bkx.out) (fun h => h)).trans Bkx.out)
    replace Bkd := Lib.hid ((hk.block _ (lt_of_heap Bkd.out) (fun h => h)).trans Bkd.out)
    clear hk
    have cx0 := cellAt Bkx.out 0
    have cx1 := cellAt Bkx.out 1
    have cx2 := cellAt Bkx.out 2
    have cx3 := cellAt Bkx.out 3
    simp at cx0 cx1 cx2 cx3
    have cd0 := cellAt Bkd.out 0
    have cd1 := cellAt Bkd.out 1
    have cd2 := cellAt Bkd.out 2
    have cd3 := cellAt Bkd.out 3
    simp at cd0 cd1 cd2 cd3
    go_wp2_with fail
    refine (lives_any w7).mono ?_
    rintro e w8 ⟨rfl, hk⟩
    replace HK := Lib.hid (HK.out.quiet hk)
    replace Bkx := Lib.hid ((hk.block _ (lt_of_heap Bkx.out) (fun h => h)).trans Bkx.out)
    replace Bkd := Lib.hid ((hk.block _ (lt_of_heap Bkd.out) (fun h => h)).trans Bkd.out)
    clear hk
    go_wp2
    go_ret
    exact ⟨rfl, HK.out⟩
  · obtain ⟨t', e', y', g', hB'⟩ := bx_parts (mkBox q o n)
    have het : e' = e := by have h1 := congrArg Bx.eph hB; have h2 := congrArg Bx.eph hB'; rw [mkBox_eph] at h1 h2; exact h2.symm.trans h1
    subst het
    have htp : t = p := by have h1 := congrArg Bx.to hB; rw [mkBox_to] at h1; exact h1.symm
    have htq : t' = q := by have h1 := congrArg Bx.to hB'; rw [mkBox_to] at h1; exact h1.symm
    have q1 : ((t : Int) == (t' : Int)) = false := by simp; omega
    have q2 : ((p : Int) == (q : Int)) = false := by simp; omega
    have HQ := Lib.hid hq
    have HPU : Hid (U64 q) := hq ▸ pow_u _ _
    have HO1 : Hid (openBox c ⟨t, e', y, g⟩ = (0, 20)) := by show _ = _; rw [← hB, ← hp]; exact open_other a c o n (by rw [hp, hq]; exact hpq)
    have HB2 := Lib.hid hB'
    clear ha hc ho hn hp hq hB hB' hnl hpq htp htq
    obtain ⟨e, hee⟩ : ∃ e, e' = e := ⟨_, rfl⟩
    rw [hee] at HB1 HOK HO1 HB2
    clear hee
    go_enter Try.func7, Try.ntmps7
    have HK := Lib.hid (Keeps.refl (fun _ => False) w)
    go_wp2_with fail
    refine (sec_any s w).mono ?_
    rw [HE.out.1]
    rintro e _ ⟨rfl, rfl⟩
    go_wp2_with fail
    refine (sec_any t_ w).mono ?_
    rw [HE.out.2.1]
    rintro e _ ⟨rfl, rfl⟩
    go_wp2_with fail
    refine (sec_any once w).mono ?_
    rw [HE.out.2.2.1]
    rintro e _ ⟨rfl, rfl⟩
    go_wp2_with fail
    refine (refNum_any v w).mono ?_
    rw [HE.out.2.2.2.1]
    rintro e _ ⟨rfl, rfl⟩
    go_wp2_with fail
    refine (pub_any a w HU.out.1).mono ?_
    rw [HE.out.2.2.2.2]
    rintro e w1 ⟨rfl, hk⟩
    replace HK := Lib.hid (HK.out.quiet hk)
    clear hk
    go_wp2_with fail
    refine (make_is w1 HU.out.2.2.2.2 HU.out.2.2.1 HU.out.2.2.2.1 HB1.out).mono ?_
    rintro e w2 ⟨rfl, hk⟩
    replace HK := Lib.hid (HK.out.quiet hk)
    clear hk
    obtain ⟨bx, hb⟩ : ∃ b, w2.heap.size = b := ⟨_, rfl⟩
    obtain ⟨wx, hW⟩ : ∃ W, w2.alloc (.cells #[.int .u64 (t : Int), .int .u64 (e : Int), .int .u64 (y : Int), .int .u64 (g : Int)] 25) = W := ⟨_, rfl⟩
    have hk : Keeps (fun _ => False) w2 wx := by rw [← hW]; exact (Keeps.refl _ w2).alloc _
    have Bkx : Hid (wx.heap[bx]? = some (.cells #[.int .u64 (t : Int), .int .u64 (e : Int), .int .u64 (y : Int), .int .u64 (g : Int)] 25 (0, 0))) := by rw [← hW, ← hb]; exact World.alloc_heap_new w2 _
    have Lx : Hid (w.heap.size ≤ bx) := by show _ ≤ _; rw [← hb]; exact HK.out.size
    replace HK := Lib.hid (HK.out.quiet hk)
    have Ex := Lib.hid (And.intro hW hb)
    clear hW hb hk
    go_wp2_with fail
    rw [Ex.out.2, Ex.out.1]
    refine (open_is wx HU.out.2.1 HOK.out HO1.out).mono ?_
    rintro r w3 ⟨rfl, hk⟩
    replace HK := Lib.hid (HK.out.quiet hk)
    replace Bkx := Lib.hid ((hk.block _ (lt_of_heap Bkx.out) (fun h => h)).trans Bkx.out)
    clear hk
    go_wp2_with fail
    refine (pub_any c w3 HU.out.2.1).mono ?_
    rw [HQ.out]
    rintro e w4 ⟨rfl, hk⟩
    replace HK := Lib.hid (HK.out.quiet hk)
    replace Bkx := Lib.hid ((hk.block _ (lt_of_heap Bkx.out) (fun h => h)).trans Bkx.out)
    clear hk
    go_wp2_with fail
    refine (make_is w4 HPU.out HU.out.2.2.1 HU.out.2.2.2.1 HB2.out).mono ?_
    rintro e w5 ⟨rfl, hk⟩
    replace HK := Lib.hid (HK.out.quiet hk)
    replace Bkx := Lib.hid ((hk.block _ (lt_of_heap Bkx.out) (fun h => h)).trans Bkx.out)
    clear hk
    obtain ⟨bd, hb⟩ : ∃ b, w5.heap.size = b := ⟨_, rfl⟩
    obtain ⟨wd, hW⟩ : ∃ W, w5.alloc (.cells #[.int .u64 (t' : Int), .int .u64 (e : Int), .int .u64 (y' : Int), .int .u64 (g' : Int)] 25) = W := ⟨_, rfl⟩
    have hk : Keeps (fun _ => False) w5 wd := by rw [← hW]; exact (Keeps.refl _ w5).alloc _
    have Bkd : Hid (wd.heap[bd]? = some (.cells #[.int .u64 (t' : Int), .int .u64 (e : Int), .int .u64 (y' : Int), .int .u64 (g' : Int)] 25 (0, 0))) := by rw [← hW, ← hb]; exact World.alloc_heap_new w5 _
    have Ld : Hid (w.heap.size ≤ bd) := by show _ ≤ _; rw [← hb]; exact HK.out.size
    have Nxd : bx ≠ bd := by have := lt_of_heap Bkx.out; omega
    have Ndx : bd ≠ bx := by omega
    replace HK := Lib.hid (HK.out.quiet hk)
    replace Bkx := Lib.hid ((hk.block _ (lt_of_heap Bkx.out) (fun h => h)).trans Bkx.out)
    have Ed := Lib.hid (And.intro hW hb)
    clear hW hb hk
    go_wp2_with fail
    rw [Ed.out.2, Ed.out.1]
    refine (pub_any a wd HU.out.1).mono ?_
    rw [HE.out.2.2.2.2]
    rintro r w6 ⟨rfl, hk⟩
    replace HK := Lib.hid (HK.out.quiet hk)
    replace Bkx := Lib.hid ((hk.block _ (lt_of_heap Bkx.out) (fun h => h)).trans Bkx.out)
    replace Bkd := Lib.hid ((hk.block _ (lt_of_heap Bkd.out) (fun h => h)).trans Bkd.out)
    clear hk
    go_wp2_with fail
    refine (pub_any c w6 HU.out.2.1).mono ?_
    rw [HQ.out]
    rintro e w7 ⟨rfl, hk⟩
    replace HK := Lib.hid (HK.out.quiet hk)
    replace Bkx := Lib.hid ((hk.block _ (lt_of_heap Bkx.out) (fun h => h)).trans Bkx.out)
    replace Bkd := Lib.hid ((hk.block _ (lt_of_heap Bkd.out) (fun h => h)).trans Bkd.out)
    clear hk
    have cx0 := cellAt Bkx.out 0
    have cx1 := cellAt Bkx.out 1
    have cx2 := cellAt Bkx.out 2
    have cx3 := cellAt Bkx.out 3
    simp at cx0 cx1 cx2 cx3
    have cd0 := cellAt Bkd.out 0
    have cd1 := cellAt Bkd.out 1
    have cd2 := cellAt Bkd.out 2
    have cd3 := cellAt Bkd.out 3
    simp at cd0 cd1 cd2 cd3
    go_wp2_with fail
    refine (lives_any w7).mono ?_
    rintro e w8 ⟨rfl, hk⟩
    replace HK := Lib.hid (HK.out.quiet hk)
    replace Bkx := Lib.hid ((hk.block _ (lt_of_heap Bkx.out) (fun h => h)).trans Bkx.out)
    replace Bkd := Lib.hid ((hk.block _ (lt_of_heap Bkd.out) (fun h => h)).trans Bkd.out)
    clear hk
    go_wp2
    go_ret
    exact ⟨rfl, HK.out⟩
end Go.Proofs.Ytaennfafbohegaa
