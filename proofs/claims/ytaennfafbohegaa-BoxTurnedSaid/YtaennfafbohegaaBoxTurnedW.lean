/-
  The law BoxTurned: the walk. Conditions: the arguments are what came in.
-/
import Derived.Test.YtaennfafbohegaaLives06
import Derived.Test.YtaennfafbohegaaAround
import Derived.Test.YtaennfafbohegaaOpen
namespace Go.Proofs.Ytaennfafbohegaa
open Go.RowKit

set_option maxHeartbeats 4000000 in
set_option maxRecDepth 10000 in
theorem boxTurned_walk (s once v : Nat) (which : Int) (x : Nat) (w : World) (h1 : -9223372036854775808 ≤ which) (h2 : which ≤ 9223372036854775807) :
    Calls Try.prog 6 #[.int .u64 s, .int .u64 once, .int .u64 v, .int .i64 which, .int .u64 x] w fun e w' => e = .returned (.bool true) ∧ Keeps (fun _ => False) w w' := by
  obtain ⟨a, ha⟩ : ∃ a, sec s = a := ⟨_, rfl⟩
  obtain ⟨o, ho⟩ : ∃ o, sec once = o := ⟨_, rfl⟩
  obtain ⟨n, hn⟩ : ∃ n, num v = n := ⟨_, rfl⟩
  obtain ⟨X, hX⟩ : ∃ X, num x = X := ⟨_, rfl⟩
  obtain ⟨p, hp⟩ : ∃ p, powm 37 a = p := ⟨_, rfl⟩
  have hnl : n < 2305843009213693951 := hn ▸ num_lt v
  have hXl : X < 2305843009213693951 := hX ▸ num_lt x
  obtain ⟨t, e, y, g, hB⟩ := bx_parts (mkBox p o n)
  have hO : openBox a ⟨t, e, y, g⟩ = (n, 0) := by rw [← hB, ← hp]; exact open_make a o n hnl
  have k0 : X ≠ y → openBox a ⟨t, e, X, g⟩ = (0, 21) := fun h => by have h3 := open_body a o n X hXl (by rw [hp, hB]; exact h); rw [hp, hB] at h3; exact h3
  have k1 : X ≠ g → openBox a ⟨t, e, y, X⟩ = (0, 21) := fun h => by have h3 := open_tag a o n X (by rw [hp, hB]; exact h); rw [hp, hB] at h3; exact h3
  have k2 : openBox a ⟨t, X, y, g⟩ = (0, 21) ∨ openBox a ⟨t, X, y, g⟩ = (n, 0) := by have h3 := open_eph a o n X hnl; rw [hp, hB] at h3; exact h3
  have HE := Lib.hid (And.intro ha (And.intro ho (And.intro hn (And.intro hX (And.intro hp (And.intro hB hO))))))
  have KK := Lib.hid (And.intro k0 (And.intro k1 k2))
  have hok : Bx.ok ⟨t, e, y, g⟩ := hB ▸ mkBox_ok p o n (hp ▸ pow_u _ _)
  have HU : Hid (U64 a ∧ U64 o ∧ U64 n ∧ U64 X ∧ U64 p ∧ Bx.ok ⟨t, e, y, g⟩) := ⟨ha ▸ sec_u s, ho ▸ sec_u once, hn ▸ num_u v, hX ▸ num_u x, hp ▸ pow_u _ _, hok⟩
  have HW := Lib.hid (And.intro h1 h2)
  clear ha ho hn hX hp hB hO k0 k1 k2 hok h1 h2 hnl hXl
  go_enter Try.func6, Try.ntmps6
  have HK := Lib.hid (Keeps.refl (fun _ => False) w)
  go_wp2_with fail
  refine (sec_any s w).mono ?_
  rw [HE.out.1]
  rintro e _ ⟨rfl, rfl⟩
  go_wp2_with fail
  refine (refNum_any v w).mono ?_
  rw [HE.out.2.2.1]
  rintro e _ ⟨rfl, rfl⟩
  go_wp2_with fail
  refine (pub_any a w HU.out.1).mono ?_
  rw [HE.out.2.2.2.2.1]
  rintro e w1 ⟨rfl, hk⟩
  replace HK := Lib.hid (HK.out.quiet hk)
  clear hk
  go_wp2_with fail
  refine (sec_any once w1).mono ?_
  rw [HE.out.2.1]
  rintro e _ ⟨rfl, rfl⟩
  go_wp2_with fail
  refine (make_is w1 HU.out.2.2.2.2.1 HU.out.2.1 HU.out.2.2.1 HE.out.2.2.2.2.2.1).mono ?_
  rintro e w2 ⟨rfl, hk⟩
  replace HK := Lib.hid (HK.out.quiet hk)
  clear hk
  obtain ⟨bx, hb⟩ : ∃ b, w2.heap.size = b := ⟨_, rfl⟩
  obtain ⟨wx, hW⟩ : ∃ W, w2.alloc (.cells #[.int .u64 (t : Int), .int .u64 (e : Int), .int .u64 (y : Int), .int .u64 (g : Int)] 25) = W := ⟨_, rfl⟩
  have hk : Keeps (fun _ => False) w2 wx := by rw [← hW]; exact (Keeps.refl _ w2).alloc _
  have Bkx : Hid (wx.heap[bx]? = some (.cells #[.int .u64 (t : Int), .int .u64 (e : Int), .int .u64 (y : Int), .int .u64 (g : Int)] 25 (0, 0))) := by rw [← hW, ← hb]; exact World.alloc_heap_new w2 _
  have Lx : Hid (w.heap.size ≤ bx) := by show _ ≤ _; rw [← hb]; exact HK.out.size
  replace HK := Lib.hid (HK.out.quiet hk)
  have Ex := Lib.hid (And.intro hW hb)
  clear hW hb hk
  obtain ⟨bc, hb⟩ : ∃ b, wx.heap.size = b := ⟨_, rfl⟩
  obtain ⟨wc, hW⟩ : ∃ W, wx.alloc (.cells #[.int .u64 (t : Int), .int .u64 (e : Int), .int .u64 (y : Int), .int .u64 (g : Int)] 25) = W := ⟨_, rfl⟩
  have hk : Keeps (fun _ => False) wx wc := by rw [← hW]; exact (Keeps.refl _ wx).alloc _
  have Bkc : Hid (wc.heap[bc]? = some (.cells #[.int .u64 (t : Int), .int .u64 (e : Int), .int .u64 (y : Int), .int .u64 (g : Int)] 25 (0, 0))) := by rw [← hW, ← hb]; exact World.alloc_heap_new wx _
  have Lc : Hid (w.heap.size ≤ bc) := by show _ ≤ _; rw [← hb]; exact HK.out.size
  have Nxc : bx ≠ bc := by have := lt_of_heap Bkx.out; omega
  have Ncx : bc ≠ bx := by omega
  replace HK := Lib.hid (HK.out.quiet hk)
  replace Bkx := Lib.hid ((hk.block _ (lt_of_heap Bkx.out) (fun h => h)).trans Bkx.out)
  have Ec := Lib.hid (And.intro hW hb)
  clear hW hb hk
  have hS : bx + 1 = bc := by have h5 := Ex.out; have h6 := Ec.out; rw [← h6.2, ← h5.1, ← h5.2]; simp
  obtain ⟨k, hk3, _, hck⟩ := around_nat which 3 wc HW.out.1 HW.out.2 (by omega) (by omega)
  have HCK := Lib.hid hck
  have HSS := Lib.hid hS
  clear hck hS
  go_wp2_with fail
  rw [Ex.out.2, Ex.out.1, HSS.out, Ec.out.1]
  refine HCK.out.mono ?_
  rintro r _ ⟨rfl, rfl⟩
  clear HCK
  have hkc : k = 0 ∨ k = 1 ∨ k = 2 := by omega
  clear hk3
  rcases hkc with rfl | rfl | rfl
  · skip
    have cc0 := cellAt Bkc.out 0
    have cc1 := cellAt Bkc.out 1
    have cc2 := cellAt Bkc.out 2
    have cc3 := cellAt Bkc.out 3
    simp at cc0 cc1 cc2 cc3
    have fc2 := freeAt Bkc.out 2
    go_wp2_with fail
    refine (refNum_any x wc).mono ?_
    rw [HE.out.2.2.2.1]
    rintro e _ ⟨rfl, rfl⟩
    obtain ⟨W2, hW2⟩ : ∃ W2, wc.setCell ⟨bc, 2, none⟩ (.int .u64 (X : Int)) = W2 := ⟨_, rfl⟩
    have hkp : Keeps (fun q => q = bc) wc W2 := by rw [← hW2]; exact (Keeps.refl (fun q => q = bc) wc).setCell (p := ⟨bc, 2, none⟩) (fun _ => rfl) _
    have BC2 : Hid (W2.heap[bc]? = some (.cells #[.int .u64 (t : Int), .int .u64 (e : Int), .int .u64 (X : Int), .int .u64 (g : Int)] 25 (0, 0))) := by rw [← hW2]; have := heap_setCell_at Bkc.out 2 (.int .u64 (X : Int)); rw [this]; rfl
    replace HK := Lib.hid (HK.out.trans hkp (fun q hq h => by have := Lc.out; omega))
    replace Bkx := Lib.hid ((hkp.block bx (lt_of_heap Bkx.out) Nxc).trans Bkx.out)
    clear Bkc
    have Bkc := Lib.hid BC2.out
    have HW2 := Lib.hid hW2
    clear hW2 hkp BC2
    have hok2 : Bx.ok ⟨t, e, X, g⟩ := by obtain ⟨u1, u2, u3, u4⟩ := HU.out.2.2.2.2.2; exact ⟨u1, u2, HU.out.2.2.2.1, u4⟩
    have HOK := Lib.hid hok2
    clear hok2
    by_cases hXe : X = y
    · have q1 : ((X : Int) == (y : Int)) = true := by simp; omega
      have q2 : ((X : Int) != (y : Int)) = false := by simp; omega
      have HXE := Lib.hid hXe
      clear hXe
      have HO2 : Hid (openBox a ⟨t, e, X, g⟩ = (n, 0)) := by show _ = _; rw [HXE.out]; exact HE.out.2.2.2.2.2.2
      go_wp2_with fail
      rw [HW2.out]
      refine (open_is W2 HU.out.1 HOK.out HO2.out).mono ?_
      rintro r w3 ⟨rfl, hk⟩
      clear cc0 cc1 cc2 cc3 fc2
      replace HK := Lib.hid (HK.out.quiet hk)
      replace Bkx := Lib.hid ((hk.block _ (lt_of_heap Bkx.out) (fun h => h)).trans Bkx.out)
      replace Bkc := Lib.hid ((hk.block _ (lt_of_heap Bkc.out) (fun h => h)).trans Bkc.out)
      clear hk
      have cx0 := cellAt Bkx.out 0
      have cx1 := cellAt Bkx.out 1
      have cx2 := cellAt Bkx.out 2
      have cx3 := cellAt Bkx.out 3
      simp at cx0 cx1 cx2 cx3
      have cc0 := cellAt Bkc.out 0
      have cc1 := cellAt Bkc.out 1
      have cc2 := cellAt Bkc.out 2
      have cc3 := cellAt Bkc.out 3
      simp at cc0 cc1 cc2 cc3
      go_wp2_with fail
      refine (lives_any w3).mono ?_
      rintro e w4 ⟨rfl, hk⟩
      replace HK := Lib.hid (HK.out.quiet hk)
      replace Bkx := Lib.hid ((hk.block _ (lt_of_heap Bkx.out) (fun h => h)).trans Bkx.out)
      replace Bkc := Lib.hid ((hk.block _ (lt_of_heap Bkc.out) (fun h => h)).trans Bkc.out)
      clear hk
      go_wp2
      go_ret
      exact ⟨rfl, HK.out⟩
    · have q1 : ((X : Int) == (y : Int)) = false := by simp; omega
      have q2 : ((X : Int) != (y : Int)) = true := by simp; omega
      have HO2 := Lib.hid (KK.out.1 hXe)
      clear hXe
      go_wp2_with fail
      rw [HW2.out]
      refine (open_is W2 HU.out.1 HOK.out HO2.out).mono ?_
      rintro r w3 ⟨rfl, hk⟩
      clear cc0 cc1 cc2 cc3 fc2
      replace HK := Lib.hid (HK.out.quiet hk)
      replace Bkx := Lib.hid ((hk.block _ (lt_of_heap Bkx.out) (fun h => h)).trans Bkx.out)
      replace Bkc := Lib.hid ((hk.block _ (lt_of_heap Bkc.out) (fun h => h)).trans Bkc.out)
      clear hk
      have cx0 := cellAt Bkx.out 0
      have cx1 := cellAt Bkx.out 1
      have cx2 := cellAt Bkx.out 2
      have cx3 := cellAt Bkx.out 3
      simp at cx0 cx1 cx2 cx3
      have cc0 := cellAt Bkc.out 0
      have cc1 := cellAt Bkc.out 1
      have cc2 := cellAt Bkc.out 2
      have cc3 := cellAt Bkc.out 3
      simp at cc0 cc1 cc2 cc3
      go_wp2_with fail
      refine (lives_any w3).mono ?_
      rintro e w4 ⟨rfl, hk⟩
      replace HK := Lib.hid (HK.out.quiet hk)
      replace Bkx := Lib.hid ((hk.block _ (lt_of_heap Bkx.out) (fun h => h)).trans Bkx.out)
      replace Bkc := Lib.hid ((hk.block _ (lt_of_heap Bkc.out) (fun h => h)).trans Bkc.out)
      clear hk
      go_wp2
      go_ret
      exact ⟨rfl, HK.out⟩
  · skip
    have cc0 := cellAt Bkc.out 0
    have cc1 := cellAt Bkc.out 1
    have cc2 := cellAt Bkc.out 2
    have cc3 := cellAt Bkc.out 3
    simp at cc0 cc1 cc2 cc3
    have fc3 := freeAt Bkc.out 3
    go_wp2_with fail
    refine (refNum_any x wc).mono ?_
    rw [HE.out.2.2.2.1]
    rintro e _ ⟨rfl, rfl⟩
    obtain ⟨W2, hW2⟩ : ∃ W2, wc.setCell ⟨bc, 3, none⟩ (.int .u64 (X : Int)) = W2 := ⟨_, rfl⟩
    have hkp : Keeps (fun q => q = bc) wc W2 := by rw [← hW2]; exact (Keeps.refl (fun q => q = bc) wc).setCell (p := ⟨bc, 3, none⟩) (fun _ => rfl) _
    have BC2 : Hid (W2.heap[bc]? = some (.cells #[.int .u64 (t : Int), .int .u64 (e : Int), .int .u64 (y : Int), .int .u64 (X : Int)] 25 (0, 0))) := by rw [← hW2]; have := heap_setCell_at Bkc.out 3 (.int .u64 (X : Int)); rw [this]; rfl
    replace HK := Lib.hid (HK.out.trans hkp (fun q hq h => by have := Lc.out; omega))
    replace Bkx := Lib.hid ((hkp.block bx (lt_of_heap Bkx.out) Nxc).trans Bkx.out)
    clear Bkc
    have Bkc := Lib.hid BC2.out
    have HW2 := Lib.hid hW2
    clear hW2 hkp BC2
    have hok2 : Bx.ok ⟨t, e, y, X⟩ := by obtain ⟨u1, u2, u3, u4⟩ := HU.out.2.2.2.2.2; exact ⟨u1, u2, u3, HU.out.2.2.2.1⟩
    have HOK := Lib.hid hok2
    clear hok2
    by_cases hXe : X = g
    · have q1 : ((X : Int) == (g : Int)) = true := by simp; omega
      have q2 : ((X : Int) != (g : Int)) = false := by simp; omega
      have HXE := Lib.hid hXe
      clear hXe
      have HO2 : Hid (openBox a ⟨t, e, y, X⟩ = (n, 0)) := by show _ = _; rw [HXE.out]; exact HE.out.2.2.2.2.2.2
      go_wp2_with fail
      rw [HW2.out]
      refine (open_is W2 HU.out.1 HOK.out HO2.out).mono ?_
      rintro r w3 ⟨rfl, hk⟩
      clear cc0 cc1 cc2 cc3 fc3
      replace HK := Lib.hid (HK.out.quiet hk)
      replace Bkx := Lib.hid ((hk.block _ (lt_of_heap Bkx.out) (fun h => h)).trans Bkx.out)
      replace Bkc := Lib.hid ((hk.block _ (lt_of_heap Bkc.out) (fun h => h)).trans Bkc.out)
      clear hk
      have cx0 := cellAt Bkx.out 0
      have cx1 := cellAt Bkx.out 1
      have cx2 := cellAt Bkx.out 2
      have cx3 := cellAt Bkx.out 3
      simp at cx0 cx1 cx2 cx3
      have cc0 := cellAt Bkc.out 0
      have cc1 := cellAt Bkc.out 1
      have cc2 := cellAt Bkc.out 2
      have cc3 := cellAt Bkc.out 3
      simp at cc0 cc1 cc2 cc3
      go_wp2_with fail
      refine (lives_any w3).mono ?_
      rintro e w4 ⟨rfl, hk⟩
      replace HK := Lib.hid (HK.out.quiet hk)
      replace Bkx := Lib.hid ((hk.block _ (lt_of_heap Bkx.out) (fun h => h)).trans Bkx.out)
      replace Bkc := Lib.hid ((hk.block _ (lt_of_heap Bkc.out) (fun h => h)).trans Bkc.out)
      clear hk
      go_wp2
      go_ret
      exact ⟨rfl, HK.out⟩
    · have q1 : ((X : Int) == (g : Int)) = false := by simp; omega
      have q2 : ((X : Int) != (g : Int)) = true := by simp; omega
      have HO2 := Lib.hid (KK.out.2.1 hXe)
      clear hXe
      go_wp2_with fail
      rw [HW2.out]
      refine (open_is W2 HU.out.1 HOK.out HO2.out).mono ?_
      rintro r w3 ⟨rfl, hk⟩
      clear cc0 cc1 cc2 cc3 fc3
      replace HK := Lib.hid (HK.out.quiet hk)
      replace Bkx := Lib.hid ((hk.block _ (lt_of_heap Bkx.out) (fun h => h)).trans Bkx.out)
      replace Bkc := Lib.hid ((hk.block _ (lt_of_heap Bkc.out) (fun h => h)).trans Bkc.out)
      clear hk
      have cx0 := cellAt Bkx.out 0
      have cx1 := cellAt Bkx.out 1
      have cx2 := cellAt Bkx.out 2
      have cx3 := cellAt Bkx.out 3
      simp at cx0 cx1 cx2 cx3
      have cc0 := cellAt Bkc.out 0
      have cc1 := cellAt Bkc.out 1
      have cc2 := cellAt Bkc.out 2
      have cc3 := cellAt Bkc.out 3
      simp at cc0 cc1 cc2 cc3
      go_wp2_with fail
      refine (lives_any w3).mono ?_
      rintro e w4 ⟨rfl, hk⟩
      replace HK := Lib.hid (HK.out.quiet hk)
      replace Bkx := Lib.hid ((hk.block _ (lt_of_heap Bkx.out) (fun h => h)).trans Bkx.out)
      replace Bkc := Lib.hid ((hk.block _ (lt_of_heap Bkc.out) (fun h => h)).trans Bkc.out)
      clear hk
      go_wp2
      go_ret
      exact ⟨rfl, HK.out⟩
  · skip
    have cc0 := cellAt Bkc.out 0
    have cc1 := cellAt Bkc.out 1
    have cc2 := cellAt Bkc.out 2
    have cc3 := cellAt Bkc.out 3
    simp at cc0 cc1 cc2 cc3
    have fc1 := freeAt Bkc.out 1
    go_wp2_with fail
    refine (refNum_any x wc).mono ?_
    rw [HE.out.2.2.2.1]
    rintro e _ ⟨rfl, rfl⟩
    obtain ⟨W2, hW2⟩ : ∃ W2, wc.setCell ⟨bc, 1, none⟩ (.int .u64 (X : Int)) = W2 := ⟨_, rfl⟩
    have hkp : Keeps (fun q => q = bc) wc W2 := by rw [← hW2]; exact (Keeps.refl (fun q => q = bc) wc).setCell (p := ⟨bc, 1, none⟩) (fun _ => rfl) _
    have BC2 : Hid (W2.heap[bc]? = some (.cells #[.int .u64 (t : Int), .int .u64 (X : Int), .int .u64 (y : Int), .int .u64 (g : Int)] 25 (0, 0))) := by rw [← hW2]; have := heap_setCell_at Bkc.out 1 (.int .u64 (X : Int)); rw [this]; rfl
    replace HK := Lib.hid (HK.out.trans hkp (fun q hq h => by have := Lc.out; omega))
    replace Bkx := Lib.hid ((hkp.block bx (lt_of_heap Bkx.out) Nxc).trans Bkx.out)
    clear Bkc
    have Bkc := Lib.hid BC2.out
    have HW2 := Lib.hid hW2
    clear hW2 hkp BC2
    have hok2 : Bx.ok ⟨t, X, y, g⟩ := by obtain ⟨u1, u2, u3, u4⟩ := HU.out.2.2.2.2.2; exact ⟨u1, HU.out.2.2.2.1, u3, u4⟩
    have HOK := Lib.hid hok2
    clear hok2
    by_cases hXe : X = e
    · have q1 : ((X : Int) == (e : Int)) = true := by simp; omega
      have q2 : ((X : Int) != (e : Int)) = false := by simp; omega
      have HXE := Lib.hid hXe
      clear hXe
      have HO2 : Hid (openBox a ⟨t, X, y, g⟩ = (n, 0)) := by show _ = _; rw [HXE.out]; exact HE.out.2.2.2.2.2.2
      go_wp2_with fail
      rw [HW2.out]
      refine (open_is W2 HU.out.1 HOK.out HO2.out).mono ?_
      rintro r w3 ⟨rfl, hk⟩
      clear cc0 cc1 cc2 cc3 fc1
      replace HK := Lib.hid (HK.out.quiet hk)
      replace Bkx := Lib.hid ((hk.block _ (lt_of_heap Bkx.out) (fun h => h)).trans Bkx.out)
      replace Bkc := Lib.hid ((hk.block _ (lt_of_heap Bkc.out) (fun h => h)).trans Bkc.out)
      clear hk
      have cx0 := cellAt Bkx.out 0
      have cx1 := cellAt Bkx.out 1
      have cx2 := cellAt Bkx.out 2
      have cx3 := cellAt Bkx.out 3
      simp at cx0 cx1 cx2 cx3
      have cc0 := cellAt Bkc.out 0
      have cc1 := cellAt Bkc.out 1
      have cc2 := cellAt Bkc.out 2
      have cc3 := cellAt Bkc.out 3
      simp at cc0 cc1 cc2 cc3
      go_wp2_with fail
      refine (lives_any w3).mono ?_
      rintro e w4 ⟨rfl, hk⟩
      replace HK := Lib.hid (HK.out.quiet hk)
      replace Bkx := Lib.hid ((hk.block _ (lt_of_heap Bkx.out) (fun h => h)).trans Bkx.out)
      replace Bkc := Lib.hid ((hk.block _ (lt_of_heap Bkc.out) (fun h => h)).trans Bkc.out)
      clear hk
      go_wp2
      go_ret
      exact ⟨rfl, HK.out⟩
    · have q1 : ((X : Int) == (e : Int)) = false := by simp; omega
      have q2 : ((X : Int) != (e : Int)) = true := by simp; omega
      clear hXe
      rcases KK.out.2.2 with h5 | h5
      · have HO2 := Lib.hid h5
        clear h5
        go_wp2_with fail
        rw [HW2.out]
        refine (open_is W2 HU.out.1 HOK.out HO2.out).mono ?_
        rintro r w3 ⟨rfl, hk⟩
        clear cc0 cc1 cc2 cc3 fc1
        replace HK := Lib.hid (HK.out.quiet hk)
        replace Bkx := Lib.hid ((hk.block _ (lt_of_heap Bkx.out) (fun h => h)).trans Bkx.out)
        replace Bkc := Lib.hid ((hk.block _ (lt_of_heap Bkc.out) (fun h => h)).trans Bkc.out)
        clear hk
        have cx0 := cellAt Bkx.out 0
        have cx1 := cellAt Bkx.out 1
        have cx2 := cellAt Bkx.out 2
        have cx3 := cellAt Bkx.out 3
        simp at cx0 cx1 cx2 cx3
        have cc0 := cellAt Bkc.out 0
        have cc1 := cellAt Bkc.out 1
        have cc2 := cellAt Bkc.out 2
        have cc3 := cellAt Bkc.out 3
        simp at cc0 cc1 cc2 cc3
        go_wp2_with fail
        refine (lives_any w3).mono ?_
        rintro e w4 ⟨rfl, hk⟩
        replace HK := Lib.hid (HK.out.quiet hk)
        replace Bkx := Lib.hid ((hk.block _ (lt_of_heap Bkx.out) (fun h => h)).trans Bkx.out)
        replace Bkc := Lib.hid ((hk.block _ (lt_of_heap Bkc.out) (fun h => h)).trans Bkc.out)
        clear hk
        go_wp2
        go_ret
        exact ⟨rfl, HK.out⟩
      · have HO2 := Lib.hid h5
        clear h5
        go_wp2_with fail
        rw [HW2.out]
        refine (open_is W2 HU.out.1 HOK.out HO2.out).mono ?_
        rintro r w3 ⟨rfl, hk⟩
        clear cc0 cc1 cc2 cc3 fc1
        replace HK := Lib.hid (HK.out.quiet hk)
        replace Bkx := Lib.hid ((hk.block _ (lt_of_heap Bkx.out) (fun h => h)).trans Bkx.out)
        replace Bkc := Lib.hid ((hk.block _ (lt_of_heap Bkc.out) (fun h => h)).trans Bkc.out)
        clear hk
        have cx0 := cellAt Bkx.out 0
        have cx1 := cellAt Bkx.out 1
        have cx2 := cellAt Bkx.out 2
        have cx3 := cellAt Bkx.out 3
        simp at cx0 cx1 cx2 cx3
        have cc0 := cellAt Bkc.out 0
        have cc1 := cellAt Bkc.out 1
        have cc2 := cellAt Bkc.out 2
        have cc3 := cellAt Bkc.out 3
        simp at cc0 cc1 cc2 cc3
        go_wp2_with fail
        refine (lives_any w3).mono ?_
        rintro e w4 ⟨rfl, hk⟩
        replace HK := Lib.hid (HK.out.quiet hk)
        replace Bkx := Lib.hid ((hk.block _ (lt_of_heap Bkx.out) (fun h => h)).trans Bkx.out)
        replace Bkc := Lib.hid ((hk.block _ (lt_of_heap Bkc.out) (fun h => h)).trans Bkc.out)
        clear hk
        go_wp2
        go_ret
        exact ⟨rfl, HK.out⟩
end Go.Proofs.Ytaennfafbohegaa
