/-
  The laws' own example (lives): it returns true. No conditions.
-/
import Derived.Test.YtnnhndnckpnkmaaSealLaw
import Derived.Lib.SlBytesConst
namespace Go.Proofs.Ytnnhndnckpnkmaa
open Go.RowKit

theorem lies_byte (w : World) (x : UInt8) (fr : Nat × Nat) : Sl (w.alloc (.cells #[.int .u8 (x.toNat : Int)] 5 fr)) (some ⟨w.heap.size, 0, none⟩) 1 1 (BV [x]) :=
  ⟨rfl, Nat.le_refl _, by omega, fun h => by simp at h, fun _ ad e => ⟨_, _, by cases e; rfl⟩, fun ad e j u hu => by
    cases e
    rw [addr_add, Nat.zero_add, cellAt (World.alloc_heap_new w _)]
    simpa [BV] using hu⟩
theorem conv_byte (w : World) (x : Int) : (convert 23 23 (.slice (some ⟨w.heap.size, 0, none⟩) 1 1)).run Try.prog (w.alloc (.cells #[.int .u8 x] 5)) = .ok (.slice (some ⟨w.heap.size, 0, none⟩) 1 1) (w.alloc (.cells #[.int .u8 x] 5 (1, 2))) :=
  Lib.run_convert_bytes_const w 23 5 #[.int .u8 x] 1 1 Try.underlying23 Try.underlying5

set_option maxHeartbeats 4000000 in
set_option maxRecDepth 10000 in
theorem lives_any  (w : World)  :
    Calls Try.prog 18 #[] w fun e w' => e = .returned (.bool true) ∧ Keeps (fun _ => False) w w' := by
  have H1 := Lib.hid (open_seal 5 [97] [98])
  have H2 := Lib.hid lives_plain
  go_enter Try.func18, Try.ntmps18
  have HK := Lib.hid (Keeps.refl (fun _ => False) w)
  have cv := conv_byte w 97
  obtain ⟨wa, hwa⟩ : ∃ wa, w.alloc (.cells #[.int .u8 97] 5 (1, 2)) = wa := ⟨_, rfl⟩
  rw [hwa] at cv
  have sa1 : Sl wa (some ⟨w.heap.size, 0, none⟩) 1 1 (BV [97]) := by rw [← hwa]; exact lies_byte w 97 _
  replace HK : Hid (Keeps (fun _ => False) w wa) := by show Keeps _ _ _; rw [← hwa]; exact (Keeps.refl _ w).alloc _
  have S1 := Lib.hid sa1
  clear hwa sa1
  have cv2 := conv_byte wa 98
  obtain ⟨wb, hwb⟩ : ∃ wb, wa.alloc (.cells #[.int .u8 98] 5 (1, 2)) = wb := ⟨_, rfl⟩
  rw [hwb] at cv2
  have sa1 : Sl wb (some ⟨wa.heap.size, 0, none⟩) 1 1 (BV [98]) := by rw [← hwb]; exact lies_byte wa 98 _
  have hk : Keeps (fun _ => False) wa wb := by rw [← hwb]; exact (Keeps.refl _ wa).alloc _
  replace HK := Lib.hid (HK.out.quiet hk)
  replace S1 := Lib.hid (S1.out.quiet hk)
  have S2 := Lib.hid sa1
  clear hwb sa1 hk
  go_wp2_with fail
  refine (seal_any 5 _ 1 1 [97] _ 1 1 [98] wb (by unfold U64; omega) S1.out (by omega) S2.out (by omega)).mono ?_
  rintro e w1 ⟨sab, cab, rfl, hown, hk⟩
  replace HK := Lib.hid (HK.out.quiet hk)
  have Ob := Lib.hid hown
  have Sb := Lib.hid (Sl.of_own hown)
  clear hown hk
  clear cv cv2 S1 S2
  obtain ⟨b, hb⟩ : ∃ b, sealS 5 [97] [98] = b := ⟨_, rfl⟩
  rw [hb] at Sb Ob H1
  have H2 : Hid (openS 5 [99] b = ([], 21) ∧ openS 6 [97] b = ([], 21)) := by show _ ∧ _; rw [← hb]; exact lives_plain
  have hbl : b.length = 9 := by rw [← hb, sealS_length]; rfl
  clear Ob hb
  have cv := conv_byte w1 97
  obtain ⟨wax, hwa⟩ : ∃ wa, World.alloc w1 (.cells #[.int .u8 97] 5 (1, 2)) = wa := ⟨_, rfl⟩
  rw [hwa] at cv
  have sa1 : Sl wax (some ⟨w1.heap.size, 0, none⟩) 1 1 (BV [97]) := by rw [← hwa]; exact lies_byte w1 97 _
  have hk : Keeps (fun _ => False) w1 wax := by rw [← hwa]; exact (Keeps.refl _ w1).alloc _
  replace HK := Lib.hid (HK.out.quiet hk)
  replace Sb := Lib.hid (Sb.out.quiet hk)
  have S1 := Lib.hid sa1
  clear hwa sa1 hk
  go_wp2_with fail
  refine (sopen_any 5 _ 1 1 [97] _ _ _ b wax (by unfold U64; omega) S1.out (by omega) Sb.out (by omega)).mono ?_
  rw [H1.out]
  simp only [List.length_cons, List.length_nil]
  rintro e w2 ⟨sox, cox, rfl, hown, hk⟩
  replace HK := Lib.hid (HK.out.quiet hk)
  replace Sb := Lib.hid (Sb.out.quiet hk)
  have Sx := Lib.hid (Sl.of_own hown)
  clear cv S1 hown hk
  have cv := conv_byte w2 99
  obtain ⟨way, hwa⟩ : ∃ wa, World.alloc w2 (.cells #[.int .u8 99] 5 (1, 2)) = wa := ⟨_, rfl⟩
  rw [hwa] at cv
  have sa1 : Sl way (some ⟨w2.heap.size, 0, none⟩) 1 1 (BV [99]) := by rw [← hwa]; exact lies_byte w2 99 _
  have hk : Keeps (fun _ => False) w2 way := by rw [← hwa]; exact (Keeps.refl _ w2).alloc _
  replace HK := Lib.hid (HK.out.quiet hk)
  replace Sb := Lib.hid (Sb.out.quiet hk)
  replace Sx := Lib.hid (Sx.out.quiet hk)
  have S1 := Lib.hid sa1
  clear hwa sa1 hk
  go_wp2_with fail
  refine (sopen_any 5 _ 1 1 [99] _ _ _ b way (by unfold U64; omega) S1.out (by omega) Sb.out (by omega)).mono ?_
  rw [H2.out.1]
  simp only [List.length_nil]
  rintro e w3 ⟨soy, coy, rfl, hown, hk⟩
  replace HK := Lib.hid (HK.out.quiet hk)
  replace Sb := Lib.hid (Sb.out.quiet hk)
  replace Sx := Lib.hid (Sx.out.quiet hk)
  clear cv S1 hown hk
  have cv := conv_byte w3 97
  obtain ⟨waz, hwa⟩ : ∃ wa, World.alloc w3 (.cells #[.int .u8 97] 5 (1, 2)) = wa := ⟨_, rfl⟩
  rw [hwa] at cv
  have sa1 : Sl waz (some ⟨w3.heap.size, 0, none⟩) 1 1 (BV [97]) := by rw [← hwa]; exact lies_byte w3 97 _
  have hk : Keeps (fun _ => False) w3 waz := by rw [← hwa]; exact (Keeps.refl _ w3).alloc _
  replace HK := Lib.hid (HK.out.quiet hk)
  replace Sb := Lib.hid (Sb.out.quiet hk)
  replace Sx := Lib.hid (Sx.out.quiet hk)
  have S1 := Lib.hid sa1
  clear hwa sa1 hk
  go_wp2_with fail
  refine (sopen_any 6 _ 1 1 [97] _ _ _ b waz (by unfold U64; omega) S1.out (by omega) Sb.out (by omega)).mono ?_
  rw [H2.out.2]
  simp only [List.length_nil]
  rintro e w4 ⟨soz, coz, rfl, hown, hk⟩
  replace HK := Lib.hid (HK.out.quiet hk)
  replace Sb := Lib.hid (Sb.out.quiet hk)
  replace Sx := Lib.hid (Sx.out.quiet hk)
  clear cv S1 hown hk
  have q6 := run_strSl Sx.out
  have e1 : ((strOf [98]).toList == [98]) = true := by rw [str_list]; rfl
  go_wp2
  go_ret
  exact ⟨rfl, HK.out⟩
end Go.Proofs.Ytnnhndnckpnkmaa
