/-
  The reference's Said and Number. Conditions: as for the program's.
-/
import Derived.Test.YtgmdiekjefgikaaDrawNext1
import Derived.Test.YtgmdiekjefgikaaRefSecret
namespace Go.Proofs.Ytgmdiekjefgikaa
open Go.RowKit

theorem refSecret_two (s : ByteArray) (x y : Nat) (w : World) (hs : s.size ≤ 1000000000) (hx : U64 x) (hy : U64 y) :
    Calls Try.prog 21 #[.string s, .slice (some ⟨w.heap.size, 0, none⟩) 2 2] (w.alloc (.cells #[.int .u64 (x : Int), .int .u64 (y : Int)] 22)) fun e w' => e = .returned (.int .u64 (hsec s.data.toList [x, y] : Int)) ∧ Keeps (fun _ => False) w w' :=
  (refSecret_any s _ 2 2 [x, y] _ hs (by omega) (lies_two w x y (0, 0)) (by simp [hx, hy])).mono fun _ _ ⟨h1, h2⟩ => ⟨h1, ((Keeps.refl _ w).alloc _).trans h2 (fun _ _ h => h)⟩

set_option maxHeartbeats 1000000 in
set_option maxRecDepth 10000 in
theorem number_any (seed : Nat) (sa : Option Addr) (n cap : Nat) (own : List Nat) (k : Nat) (w : World) (hl : Sl w sa n cap (NV own)) (hn : n ≤ 1000000000) (hk : k ≤ 1000000000) (hk0 : 1 ≤ k) :
    Calls Try.prog 13 #[.int .u64 seed, .slice sa n cap, .int .i64 k] w fun e w' => e = .returned (.int .u64 (drawn seed own k : Int)) ∧ Keeps (fun _ => False) w w' := by
  have hll : own.length = n := by have := hl.len; simpa using this
  by_cases hle : k ≤ n
  · have t1 : (k : Int) ≤ (n : Int) := by omega
    obtain ⟨u, hu⟩ : ∃ u, k = u + 1 := ⟨k - 1, by omega⟩
    obtain ⟨x, hx⟩ : ∃ x, own[u]? = some x := ⟨_, List.getElem?_eq_getElem (by omega)⟩
    obtain ⟨b, off, rfl⟩ := hl.isSome (by omega)
    have d5 : w.cell? ⟨b, off + u, none⟩ = some (.int .u64 (x : Int)) := hl.cell (by rw [NV_get, hx]; rfl)
    have hdx : drawn seed own k = 1 + x % 2305843009213693949 := by
      unfold drawn
      rw [hll, if_pos hle, hu, Nat.add_sub_cancel]
      simp [List.getD, hx]
    obtain ⟨y, hy⟩ : ∃ y, x % 2305843009213693949 = y := ⟨_, rfl⟩
    have hyl : y < 2305843009213693949 := by rw [← hy]; exact Nat.mod_lt _ (by decide)
    have e3 : (x : Int) % 2305843009213693949 = (y : Int) := by omega
    obtain ⟨z, hz⟩ : ∃ z, 1 + y = z := ⟨_, rfl⟩
    have e4 : IntKind.u64.wrap (1 + (y : Int)) = (z : Int) := by rw [← hz, IntKind.wrap_u64]; omega
    have e5 : (k : Int) - 1 = (u : Int) := by omega
    have t4 : (0 : Int) ≤ (u : Int) := by omega
    have t5 : (u : Int) < (n : Int) := by omega
    have HD := Lib.hid (And.intro hdx (And.intro hy hz))
    clear hdx hy hx hz hl hll hu
    go_enter Try.func13, Try.ntmps13
    go_wp2
    go_ret
    exact ⟨by rw [HD.out.1, HD.out.2.1, HD.out.2.2]; rfl, Keeps.refl _ _⟩
  · have t1 : ¬ (k : Int) ≤ (n : Int) := by omega
    obtain ⟨q, hq⟩ : ∃ q, k - n = q := ⟨_, rfl⟩
    have hdx : drawn seed own k = hsec sDraw [num seed, q] := by
      unfold drawn
      rw [hll, if_neg hle, hq]
    have e3 : (seed : Int) % 2305843009213693951 = (num seed : Int) := by unfold num; omega
    have e4 : (k : Int) - (n : Int) = (q : Int) := by omega
    have e5 : IntKind.u64.wrap (q : Int) = (q : Int) := wrap_nat _ _ rfl (by omega)
    have hns := num_lt seed
    have hqb : q ≤ 1000000001 := by omega
    have HD := Lib.hid hdx
    clear hdx hq hl hll
    generalize num seed = ns at *
    go_enter Try.func13, Try.ntmps13
    go_wp2_with fail
    refine (refSecret_two ⟨#[100, 114, 97, 119]⟩ ns q w (by decide) (by unfold U64; omega) (by unfold U64; omega)).mono ?_
    rintro e w1 ⟨rfl, hk1⟩
    have H := Lib.hid hk1
    clear hk1
    go_wp2
    go_ret
    exact ⟨by rw [HD.out]; rfl, H.out⟩

def SdRel (w : World) (l : List Nat) (m : Nat) (out i : Value) (wr : World) : Prop :=
  ∃ (k : Nat) (so : Option Addr) (co : Nat), k ≤ m ∧ i = .int .i64 (k : Int) ∧ out = .slice so k co ∧ wr.ownsRow w.heap.size 22 1 (.slice so k co) k (NV (l.take k)) ∧ Keeps (fun _ => False) w wr

set_option maxHeartbeats 1000000 in
theorem said_any (sa : Option Addr) (n cap : Nat) (l : List Nat) (w : World) (hl : Sl w sa n cap (NV l)) :
    Calls Try.prog 10 #[.slice sa n cap] w fun e w' => ∃ sa' cap', e = .returned (.slice sa' (l.take 8).length cap') ∧ w'.ownsRow w.heap.size 22 1 (.slice sa' (l.take 8).length cap') (l.take 8).length (NV (l.take 8)) ∧ Keeps (fun _ => False) w w' := by
  have hll : l.length = n := by have := hl.len; simpa using this
  obtain ⟨m, hm⟩ : ∃ m, min n 8 = m := ⟨_, rfl⟩
  have hm8 : m ≤ 8 := by omega
  have hmn : m ≤ n := by omega
  have hnb := Nat.le_trans hl.le hl.capB
  have HL := Lib.hid (And.intro hl (And.intro hll hm))
  clear hl hll hm
  go_enter Try.func10, Try.ntmps10
  go_wp2_with fail
  go_loopw [3, 4] (fun out i wr => SdRel w l m out i wr) (fun _ i _ => m - (intOf i).toNat)
  case atStart => exact ⟨0, none, 0, Nat.zero_le _, rfl, rfl, by simpa [NV] using World.ownsRow_nil w _ _ _, Keeps.refl _ _⟩
  case round =>
    obtain ⟨k, so, co, hk, rfl, rfl, hown, hkp⟩ := hrel
    have hsz := hkp.size
    have HB := Lib.hid (And.intro hown hkp)
    by_cases hlt : k < m
    · obtain ⟨x, hx⟩ : ∃ x, l[k]? = some x := ⟨_, List.getElem?_eq_getElem (by have := HL.out.2.1; omega)⟩
      obtain ⟨b, off, rfl⟩ := HL.out.1.isSome (by omega)
      have hcell : wr.cell? ⟨b, off + k, none⟩ = some (.int .u64 (x : Int)) := (HL.out.1.quiet hkp).cell (by rw [NV_get, hx]; rfl)
      have t1 : (k : Int) < (n : Int) := by omega
      have t2 : (k : Int) < 8 := by omega
      have HX := Lib.hid hx
      clear hown hkp hx
      go_wp2_with (at_builtin; refine wpList_pushN _ (x : Int) rfl _ _ rfl w.heap.size so k co (NV (l.take k)) rfl HB.out.1 rfl (by omega) hsz ?_; intro sa2 cap2 w2 hown2 hk2 hs2; have HR := Lib.hid (And.intro hown2 (HB.out.2.pushed HB.out.1 (Nat.le_refl _) hk2)); clear hown2 hk2)
      go_roundw
      case rel =>
        refine ⟨k + 1, sa2, cap2, by omega, by go_num, rfl, ?_, HR.out.2⟩
        rw [List.take_succ_eq_append_getElem (List.getElem?_eq_some_iff.1 HX.out).1, NV_append, (List.getElem?_eq_some_iff.1 HX.out).2]
        exact HR.out.1
      case measure => simp [intOf]; omega
    · obtain rfl : k = m := by omega
      have ht : l.take k = l.take 8 := by
        have h1 := HL.out.2.1
        have h2 := HL.out.2.2
        by_cases h8 : n ≤ 8
        · rw [List.take_of_length_le (by omega), List.take_of_length_le (by omega)]
        · rw [show k = 8 by omega]
      have hl8 : (l.take 8).length = k := by rw [← ht, List.length_take]; have := HL.out.2.1; omega
      have hl9 := hl8
      rw [List.length_take] at hl9
      have HL8 := Lib.hid hl9
      clear hl9
      rw [ht] at HB
      clear hown hkp ht hl8
      by_cases hkn : k < n
      · have t1 : (k : Int) < (n : Int) := by omega
        have t2 : ¬ (k : Int) < 8 := by have := HL.out.2.2; omega
        go_wp2
        go_ret
        rw [HL8.out]
        exact ⟨so, co, by simp, HB.out.1, HB.out.2⟩
      · have t1 : ¬ (k : Int) < (n : Int) := by omega
        go_wp2
        go_ret
        rw [HL8.out]
        exact ⟨so, co, by simp, HB.out.1, HB.out.2⟩
end Go.Proofs.Ytgmdiekjefgikaa
