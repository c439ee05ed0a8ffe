/-
  The laws' own example (lives): it returns true. No conditions.
-/
import Derived.Test.YtllpeenjfjobaaaCutC
import Derived.Test.YtllpeenjfjobaaaCutLaw
import Derived.Test.YtllpeenjfjobaaaSameR
import Derived.Test.YtllpeenjfjobaaaMake
import Derived.Lib.SlBytesConst
namespace Go.Proofs.Ytllpeenjfjobaaa
open Go.RowKit

theorem lies_lit (w : World) (l : List UInt8) (n : Nat) (h : l.length = n) (hn : n ≤ 1000000) (fr : Nat × Nat) : Sl (w.alloc (.cells (BV l).toArray 5 fr)) (some ⟨w.heap.size, 0, none⟩) n n (BV l) :=
  ⟨by rw [BV_length, h], Nat.le_refl _, by omega, fun h => by simp at h, fun _ ad e => ⟨_, _, by cases e; rfl⟩, fun ad e j u hu => by
    cases e
    rw [addr_add, Nat.zero_add, cellAt (World.alloc_heap_new w _)]
    simpa using hu⟩
def seven : List UInt8 := [115, 101, 118, 101, 110, 98, 121]
theorem cut_seven : cutL seven = [seven] := by
  refine Chunk.one ⟨by decide, by decide, fun i _ hi => ends_short ?_⟩
  have : seven.length = 7 := rfl
  rw [List.length_take]
  omega
theorem conv_seven (w : World) : (convert 22 22 (.slice (some ⟨w.heap.size, 0, none⟩) 7 7)).run Try.prog (w.alloc (.cells #[.int .u8 115, .int .u8 101, .int .u8 118, .int .u8 101, .int .u8 110, .int .u8 98, .int .u8 121] 5)) = .ok (.slice (some ⟨w.heap.size, 0, none⟩) 7 7) (w.alloc (.cells (BV seven).toArray 5 (7, 8))) :=
  Lib.run_convert_bytes_const w 22 5 _ 7 7 Try.underlying22 Try.underlying5
theorem own_some {w : World} {base : Nat} {e : TypeId} {size : Nat} {sa : Option Addr} {n c m : Nat} {xs : List Value} (h : w.ownsRow base e size (.slice sa n c) m xs) (hn : 0 < n) : ∃ g, sa = some ⟨g, 0, none⟩ := by
  rcases own_addr h with ⟨_, h, _⟩ | h
  · omega
  · exact h
theorem run_mk200 (u : World) : (Instr.makeSlice 22 (.int .i64 200) (.int .i64 200)).run Try.prog u = .ok (.slice (some ⟨u.heap.size, 0, none⟩) 200 200) (u.alloc (.cells (madeCells #[.int .u8 0] 200) 5)) := run_mk 200 (by omega) u
theorem run_mk64 (u : World) : (Instr.makeSlice 22 (.int .i64 64) (.int .i64 64)).run Try.prog u = .ok (.slice (some ⟨u.heap.size, 0, none⟩) 64 64) (u.alloc (.cells (madeCells #[.int .u8 0] 64) 5)) := run_mk 64 (by omega) u

set_option maxHeartbeats 4000000 in
set_option maxRecDepth 10000 in
theorem lives_any  (w : World)  :
    Calls Try.prog 17 #[] w fun e w' => e = .returned (.bool true) ∧ Keeps (fun _ => False) w w' := by
  go_enter Try.func17, Try.ntmps17
  have HK := Lib.hid (Keeps.refl (fun _ => False) w)
  have cv := conv_seven w
  obtain ⟨wa, hwa⟩ : ∃ wa, w.alloc (.cells (BV seven).toArray 5 (7, 8)) = wa := ⟨_, rfl⟩
  rw [hwa] at cv
  have sa1 : Sl wa (some ⟨w.heap.size, 0, none⟩) 7 7 (BV seven) := by rw [← hwa]; exact lies_lit w seven 7 rfl (by omega) _
  replace HK : Hid (Keeps (fun _ => False) w wa) := by show Keeps _ _ _; rw [← hwa]; exact (Keeps.refl _ w).alloc _
  have HT := Lib.hid (cut_any (some ⟨w.heap.size, 0, none⟩) 7 7 seven wa sa1 (by omega) (by rw [cut_seven]; decide))
  rw [cut_seven] at HT
  clear hwa sa1
  go_wp2_with fail
  refine HT.out.mono ?_
  rintro e w1 ⟨s1, c1, vs, rfl, hown, hrows, hk⟩
  replace HK := Lib.hid (HK.out.quiet hk)
  have H1 := Lib.hid (And.intro hown hrows.reads)
  clear hown hrows hk HT cv
  have cv := run_mk200 w1
  have hom := owns_made w1 200 (by omega)
  obtain ⟨wb, hwb⟩ : ∃ wb, World.alloc w1 (.cells (madeCells #[.int .u8 0] 200) 5) = wb := ⟨_, rfl⟩
  rw [hwb] at cv hom
  have hk : Keeps (fun _ => False) w1 wb := by rw [← hwb]; exact (Keeps.refl _ w1).alloc _
  replace HK := Lib.hid (HK.out.quiet hk)
  replace H1 := Lib.hid (And.intro (own_keep H1.out.1 hk (fun _ _ h => h)) (H1.out.2.quiet hk))
  obtain ⟨l2, hl2⟩ : ∃ l2 : List UInt8, List.replicate 200 0 = l2 := ⟨_, rfl⟩
  have hll : l2.length = 200 := by rw [← hl2]; simp
  rw [hl2] at hom
  have hcc := cut_count l2
  have hch := cut_chunk l2
  have HT := Lib.hid (cut_any (some ⟨w1.heap.size, 0, none⟩) 200 200 l2 wb (Sl.of_own hom) (by omega) (by omega))
  generalize cutL l2 = L at *
  obtain ⟨n2, hn2⟩ : ∃ n2, L.length = n2 := ⟨_, rfl⟩
  rw [hn2] at hcc HT
  have hn4 : 4 ≤ n2 := by omega
  obtain ⟨r0, hr0⟩ : ∃ r0, L[0]? = some r0 := ⟨_, List.getElem?_eq_getElem (by omega)⟩
  have h64 := (hch r0 (List.mem_of_getElem? hr0)).2.1
  have HR0 := Lib.hid hr0
  clear hwb hk hom hl2 hll hcc hch hr0 hn2
  go_wp2_with fail
  refine HT.out.mono ?_
  rintro e w2 ⟨s2, c2, vs2, rfl, hown, hrows, hk⟩
  replace HK := Lib.hid (HK.out.quiet hk)
  replace H1 := Lib.hid (And.intro (own_keep H1.out.1 hk (fun _ _ h => h)) (H1.out.2.quiet hk))
  obtain ⟨g2, rfl⟩ := own_some hown (by omega)
  obtain ⟨sr, cr, hvr, hsr⟩ := hrows.reads.row 0 r0 HR0.out
  have d2 := own_cell hown 0 _ hvr
  obtain ⟨g1, rfl⟩ := own_some H1.out.1 (by decide)
  obtain ⟨sq, cq, hvq, hsq⟩ := H1.out.2.row 0 seven rfl
  have d1 := own_cell H1.out.1 0 _ hvq
  have d3 := run_strSl hsq
  have e7 : seven.length = 7 := rfl
  rw [e7] at d1 d3
  have e1 : ((strOf seven).toList == [115, 101, 118, 101, 110, 98, 121]) = true := by rw [strl]; rfl
  obtain ⟨nr, hnr⟩ : ∃ nr, r0.length = nr := ⟨_, rfl⟩
  rw [hnr] at h64 d2
  have t1 : ¬ (n2 : Int) < 4 := by omega
  have t2 : (nr : Int) ≤ 64 := by omega
  have t3 : (0 : Int) < (n2 : Int) := by omega
  have t4 : 0 < n2 := by omega
  clear hown hrows hk HT cv hvr hsr hvq hsq H1 e7 hnr HR0
  have cv2 := conv_seven w2
  obtain ⟨wc, hwc⟩ : ∃ wc, World.alloc w2 (.cells (BV seven).toArray 5 (7, 8)) = wc := ⟨_, rfl⟩
  rw [hwc] at cv2
  have sa1 : Sl wc (some ⟨w2.heap.size, 0, none⟩) 7 7 (BV seven) := by rw [← hwc]; exact lies_lit w2 seven 7 rfl (by omega) _
  have hk : Keeps (fun _ => False) w2 wc := by rw [← hwc]; exact (Keeps.refl _ w2).alloc _
  replace HK := Lib.hid (HK.out.quiet hk)
  have HE := Lib.hid (ends_any (some ⟨w2.heap.size, 0, none⟩) 7 7 seven wc sa1)
  rw [ends_short (l := seven) (by decide)] at HE
  clear hwc sa1 hk
  go_wp2_with fail
  refine HE.out.mono ?_
  rintro e w3 ⟨rfl, hk⟩
  replace HK := Lib.hid (HK.out.quiet hk)
  clear HE hk d1 d2 d3 cv2 e1
  have cv := run_mk64 w3
  have hom := owns_made w3 64 (by omega)
  obtain ⟨wd, hwd⟩ : ∃ wb, World.alloc w3 (.cells (madeCells #[.int .u8 0] 64) 5) = wb := ⟨_, rfl⟩
  rw [hwd] at cv hom
  have hk : Keeps (fun _ => False) w3 wd := by rw [← hwd]; exact (Keeps.refl _ w3).alloc _
  replace HK := Lib.hid (HK.out.quiet hk)
  have HE := Lib.hid (ends_any (some ⟨w3.heap.size, 0, none⟩) 64 64 _ wd (Sl.of_own hom))
  rw [ends_long (l := List.replicate 64 0) (by simp)] at HE
  clear hwd hk hom
  go_wp2_with fail
  refine HE.out.mono ?_
  rintro e w4 ⟨rfl, hk⟩
  replace HK := Lib.hid (HK.out.quiet hk)
  clear HE hk cv
  have HT := Lib.hid (cut_any none 0 0 [] w4 (Sl.none0 w4) (by omega) (by rw [cut_nil]; decide))
  rw [cut_nil] at HT
  go_wp2_with fail
  refine HT.out.mono ?_
  rintro e w5 ⟨s5, c5, vs5, rfl, hown, hrows, hk⟩
  replace HK := Lib.hid (HK.out.quiet hk)
  clear hown hrows hk HT
  go_wp2
  go_ret
  exact ⟨rfl, HK.out⟩
end Go.Proofs.Ytllpeenjfjobaaa
