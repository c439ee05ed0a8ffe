/-
  A key's stream (the reference's Stream). Conditions: the key is below 2^64, fewer than 10^6 bytes.
-/
import Derived.Test.YtnnhndnckpnkmaaRefOf
import Derived.Test.YtnnhndnckpnkmaaStream
namespace Go.Proofs.Ytnnhndnckpnkmaa
open Go.RowKit

set_option maxHeartbeats 1000000 in
set_option maxRecDepth 10000 in
theorem refStream_any (key n : Nat) (w : World) (hkey : U64 key) (hn : n ≤ 1000000) :
    Calls Try.prog 30 #[.int .u64 key, .int .i64 n] w fun e w' => ∃ sa cap, e = .returned (.slice sa n cap) ∧ w'.ownsRow w.heap.size 5 1 (.slice sa n cap) n (BV (stream key n)) ∧ Keeps (fun _ => False) w w' := by
  have HU := Lib.hid hkey
  clear hkey
  go_enter Try.func30, Try.ntmps30
  go_wp2_with fail
  go_loopw [5, 6] (fun out k wr => StOut w key n .i64 out k wr) (fun _ k _ => n + 7 - 7 * (intOf k).toNat)
  case atStart => exact ⟨0, rfl, by omega, none, 0, by simp, by rw [show min n (7 * 0) = 0 by omega]; exact World.ownsRow_nil w _ _ _, Keeps.refl _ _⟩
  case round =>
    obtain ⟨j, rfl, hj, sa, cap, rfl, hown, hk⟩ := hrel
    by_cases hlt : 7 * j < n
    · rw [show min n (7 * j) = 7 * j by omega] at hown ⊢
      obtain ⟨m, hm⟩ : ∃ m, 7 * j = m := ⟨_, rfl⟩
      have i1 : (m : Int) < (n : Int) := by omega
      have hju : U64 j := by unfold U64; omega
      have HT := Lib.hid (refOf_any ⟨#[115, 116, 114, 101, 97, 109]⟩ (some ⟨wr.heap.size, 0, none⟩) 2 2 [key, j] (wr.alloc (.cells #[.int .u64 key, .int .u64 j] 22)) (by decide) (by omega) (lies_two wr key j (0, 0)) (by intro x hx; simp at hx; rcases hx with rfl | rfl; exact HU.out; exact hju))
      have HB := Lib.hid (And.intro hown (And.intro hk hm))
      obtain ⟨c, hc⟩ : ∃ c, min 7 (n - m) = c := ⟨_, rfl⟩
      have e2 : IntKind.u64.wrap (j : Int) = (j : Int) := wrap_nat _ _ rfl (by omega)
      have HC := Lib.hid hc
      have hc7 : c ≤ 7 := by omega
      rw [hm]
      clear hown hk hju hc
      go_wp2_with fail
      refine HT.out.mono ?_
      rintro e w1 ⟨rfl, hk1⟩
      have hWl := hof_lt sStream [key, j]
      obtain ⟨W, hW⟩ : ∃ W, hof sStream [key, j] = W := ⟨_, rfl⟩
      rw [hW] at hWl
      rw [show hof (⟨#[115, 116, 114, 101, 97, 109]⟩ : ByteArray).data.toList [key, j] = W from hW]
      have HS : Hid (StIn w key c j W (.slice sa m cap) (.int .u64 (W : Int)) (.int .i64 0) w1 ∧ hof sStream [key, j] = W) := by
        refine ⟨⟨0, rfl, Nat.zero_le _, by simp, sa, cap, ?_, ?_, ?_⟩, hW⟩
        · rw [← hm]; rfl
        · exact own_keep HB.out.1 (((Keeps.refl _ wr).alloc _).trans hk1 (fun _ _ h => h)) (fun _ _ h => h)
        · exact (HB.out.2.1.alloc _).trans hk1 (fun _ _ h => h)
      clear hk1 HT hm hW
      go_wp2_with fail
      obtain ⟨wo, hwo⟩ : ∃ wo : World, wr = wo := ⟨_, rfl⟩
      subst hwo
      go_loopw [5, 7, 8] (fun out x i wr => StIn w key c j W out x i wr) (fun _ _ i _ => c - (intOf i).toNat)
      case atStart => exact HS.out.1
      case round =>
        obtain ⟨q, rfl, hq, rfl, sa1, cap1, rfl, hown, hk⟩ := hrel
        have HB1 := Lib.hid (And.intro hown hk)
        have hsz := hk.size
        clear hown hk
        by_cases hqc : q < c
        · have i2 : (q : Int) < 7 := by omega
          have i3 : ((7 * j + q : Nat) : Int) < (n : Int) := by have := HB.out.2.2; have := HC.out; omega
          obtain ⟨x, hx⟩ : ∃ x, W / 256 ^ q = x := ⟨_, rfl⟩
          have hxl : x < 2305843009213693951 := by rw [← hx]; exact Nat.lt_of_le_of_lt (Nat.div_le_self _ _) hWl
          have hx1 : W / 256 ^ (q + 1) = x / 256 := by rw [← hx, Nat.pow_succ, Nat.div_div_eq_div_mul]
          obtain ⟨xb, hxb⟩ : ∃ xb, x % 256 = xb := ⟨_, rfl⟩
          obtain ⟨xd, hxd⟩ : ∃ xd, x / 256 = xd := ⟨_, rfl⟩
          have e3 : IntKind.u8.wrap (xb : Int) = (xb : Int) := by rw [IntKind.wrap_u8]; omega
          have e5 : (x : Int) % 256 = (xb : Int) := by omega
          have e4 : (x : Int) / 256 = (xd : Int) := by omega
          obtain ⟨M, hM⟩ : ∃ M, 7 * j + q = M := ⟨_, rfl⟩
          have hMb : M ≤ 1000000 := by have := HB.out.2.2; have := HC.out; omega
          have HX := Lib.hid (And.intro hx (And.intro hx1 (And.intro hM (And.intro hxb hxd))))
          have HB2 : Hid (wr.ownsRow w.heap.size 5 1 (.slice sa1 M cap1) M (BV (stream key M))) := by rw [← hM]; exact HB1.out.1
          rw [hM] at i3
          rw [hx, hM]
          clear hx hx1 hM hxb hxd
          go_wp2_with (at_builtin; refine wpList_pushB _ (xb : Int) rfl _ _ rfl w.heap.size sa1 M cap1 (BV (stream key M)) rfl HB2.out rfl (by omega) hsz ?_; intro sa2 cap2 w2 hown2 hk2 hs2; have HR := Lib.hid (And.intro hown2 hk2); clear hown2 hk2)
          go_roundw
          case rel =>
            obtain ⟨h1, h2, h3, h4, h5⟩ := HX.out
            refine ⟨q + 1, by go_num, by omega, by rw [h2, h5], ?_⟩
            have h6 := HR.out.1
            rw [← h3] at h6 ⊢
            exact st_step HS.out.2.symm (by omega) (by rw [h1, h4]) HB1.out.1 HB1.out.2 h6 HR.out.2
          case measure => simp [intOf]; omega
        · obtain rfl : q = c := by omega
          have HR : Hid (StOut w key n .i64 (.slice sa1 (7 * j + q) cap1) (.int .i64 ((j : Int) + 1)) wr) := by
            have h1 := HB.out.2.2
            have h2 := HC.out
            have e : 7 * j + q = min n (7 * (j + 1)) := by omega
            refine ⟨j + 1, rfl, by omega, sa1, cap1, by rw [e], ?_, HB1.out.2⟩
            rw [← e]
            exact HB1.out.1
          have HQ : Hid (q < 7 → n ≤ 7 * j + q) := fun h => by have := HB.out.2.2; have := HC.out; omega
          generalize 7 * j + q = M at *
          by_cases h7 : q < 7
          · have i2 : (q : Int) < 7 := by omega
            have i3 : ¬ (M : Int) < (n : Int) := by have := HQ.out h7; omega
            go_wp2
            go_roundw
            case rel => exact HR.out
            case measure => have := HB.out.2.2; simp [intOf]; omega
          · have i2 : ¬ (q : Int) < 7 := by omega
            go_wp2
            go_roundw
            case rel => exact HR.out
            case measure => have := HB.out.2.2; simp [intOf]; omega
    · have e : min n (7 * j) = n := by omega
      rw [e] at hown ⊢
      have HB := Lib.hid (And.intro hown hk)
      clear hown hk e
      go_wp2
      go_ret
      exact ⟨sa, cap, by simp, HB.out.1, HB.out.2⟩
end Go.Proofs.Ytnnhndnckpnkmaa
