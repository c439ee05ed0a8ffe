/-
  The laws' own example (lives): it returns true. No conditions.
-/
import Derived.Test.YtaennfafbohegaaBoxLaw
namespace Go.Proofs.Ytaennfafbohegaa
open Go.RowKit

set_option maxHeartbeats 4000000 in
set_option maxRecDepth 10000 in
theorem lives_any  (w : World)  :
    Calls Try.prog 16 #[] w fun e w' => e = .returned (.bool true) ∧ Keeps (fun _ => False) w w' := by
  obtain ⟨p, hp⟩ : ∃ p, powm 37 5 = p := ⟨_, rfl⟩
  obtain ⟨t, e, y, g, hB⟩ := bx_parts (mkBox p 7 9)
  have hO : openBox 5 ⟨t, e, y, g⟩ = (9, 0) := by rw [← hB, ← hp]; exact open_make 5 7 9 (by decide)
  have hO6 : openBox 6 ⟨t, e, y, g⟩ = (0, 20) := by rw [← hB, ← hp]; exact open_other 5 6 7 9 (by decide)
  have hok : Bx.ok ⟨t, e, y, g⟩ := by rw [← hB]; exact mkBox_ok p 7 9 (by rw [← hp]; exact pow_u _ _)
  have hpu : U64 p := by rw [← hp]; exact pow_u _ _
  have HE := Lib.hid (And.intro hp (And.intro hB (And.intro hO (And.intro hO6 (And.intro hok hpu)))))
  clear hp hB hO hO6 hok hpu
  go_enter Try.func16, Try.ntmps16
  have HK := Lib.hid (Keeps.refl (fun _ => False) w)
  go_wp2_with fail
  refine (pub_any 5 w (by unfold U64; omega)).mono ?_
  rw [HE.out.1]
  rintro e w1 ⟨rfl, hk⟩
  replace HK := Lib.hid (HK.out.quiet hk)
  clear hk
  go_wp2_with fail
  refine (make_is w1 HE.out.2.2.2.2.2 (by unfold U64; omega) (by unfold U64; omega) HE.out.2.1).mono ?_
  rintro e w2 ⟨rfl, hk⟩
  replace HK := Lib.hid (HK.out.quiet hk)
  clear hk
  obtain ⟨bx, hb⟩ : ∃ b, w2.heap.size = b := ⟨_, rfl⟩
  obtain ⟨wx, hW⟩ : ∃ W, w2.alloc (.cells #[.int .u64 (t : Int), .int .u64 (e : Int), .int .u64 (y : Int), .int .u64 (g : Int)] 25) = W := ⟨_, rfl⟩
  have hk : Keeps (fun _ => False) w2 wx := by rw [← hW]; exact (Keeps.refl _ w2).alloc _
  have Bx : Hid (wx.heap[bx]? = some (.cells #[.int .u64 (t : Int), .int .u64 (e : Int), .int .u64 (y : Int), .int .u64 (g : Int)] 25 (0, 0))) := by rw [← hW, ← hb]; exact World.alloc_heap_new w2 _
  have Lx : Hid (w.heap.size ≤ bx) := by show _ ≤ _; rw [← hb]; exact HK.out.size
  replace HK := Lib.hid (HK.out.quiet hk)
  have Ex := Lib.hid (And.intro hW hb)
  clear hW hb hk
  go_wp2_with fail
  rw [Ex.out.2, Ex.out.1]
  refine (open_is wx (by unfold U64; omega) HE.out.2.2.2.2.1 HE.out.2.2.1).mono ?_
  rintro r w3 ⟨rfl, hk⟩
  replace HK := Lib.hid (HK.out.quiet hk)
  replace Bx := Lib.hid ((hk.block _ (lt_of_heap Bx.out) (fun h => h)).trans Bx.out)
  clear hk
  have cx0 := cellAt Bx.out 0
  have cx1 := cellAt Bx.out 1
  have cx2 := cellAt Bx.out 2
  have cx3 := cellAt Bx.out 3
  simp at cx0 cx1 cx2 cx3
  go_wp2_with fail
  refine (open_is w3 (by unfold U64; omega) HE.out.2.2.2.2.1 HE.out.2.2.2.1).mono ?_
  rintro e w4 ⟨rfl, hk⟩
  replace HK := Lib.hid (HK.out.quiet hk)
  replace Bx := Lib.hid ((hk.block _ (lt_of_heap Bx.out) (fun h => h)).trans Bx.out)
  clear hk
  clear cx0 cx1 cx2 cx3
  go_wp2_with fail
  refine (pub_any 1 w4 (by unfold U64; omega)).mono ?_
  rw [show powm 37 1 = 37 by decide]
  rintro e w5 ⟨rfl, hk⟩
  replace HK := Lib.hid (HK.out.quiet hk)
  replace Bx := Lib.hid ((hk.block _ (lt_of_heap Bx.out) (fun h => h)).trans Bx.out)
  clear hk
  go_wp2_with fail
  refine (pub_any 2 w5 (by unfold U64; omega)).mono ?_
  rw [show powm 37 2 = 1369 by decide]
  rintro e w6 ⟨rfl, hk⟩
  replace HK := Lib.hid (HK.out.quiet hk)
  replace Bx := Lib.hid ((hk.block _ (lt_of_heap Bx.out) (fun h => h)).trans Bx.out)
  clear hk
  go_wp2
  go_ret
  exact ⟨rfl, HK.out⟩
end Go.Proofs.Ytaennfafbohegaa
