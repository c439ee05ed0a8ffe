/-
  Powers in the field; the reference's Pow: what it tells. Conditions: the arguments are below 2^64.
-/
import Derived.Test.YtllpeenjfjobaaaRefField
namespace Go.Proofs.Ytllpeenjfjobaaa
open Go.RowKit
def powm (a n : Nat) : Nat := a ^ n % 2305843009213693951
theorem powm_lt (a n : Nat) : powm a n < 2305843009213693951 := Nat.mod_lt _ (by decide)

/-- One step of squaring. -/
theorem pow_step (o b k : Nat) (P : Nat) : ((if k % 2 = 1 then o * b % P else o) * (b * b % P) ^ (k / 2)) % P = o * b ^ k % P := by
  have h2 : (b * b) ^ (k / 2) * b ^ (k % 2) = b ^ k := by
    rw [← Nat.pow_two, ← Nat.pow_mul, ← Nat.pow_add]
    congr 1
    omega
  split
  · rename_i h
    rw [Nat.mul_mod, Nat.mod_mod, ← Nat.pow_mod, ← Nat.mul_mod, ← h2, h, Nat.pow_one, Nat.mul_assoc, Nat.mul_comm b]
  · rename_i h
    have h0 : k % 2 = 0 := by omega
    rw [Nat.mul_mod, ← Nat.pow_mod, ← Nat.mul_mod, ← h2, h0, Nat.pow_zero, Nat.mul_one]

/-- What holds at the head of each round. -/
def PwRel (w : World) (a n : Nat) (out by_ n_ : Value) (wr : World) : Prop :=
  ∃ o b k : Nat, out = .int .u64 (o : Int) ∧ by_ = .int .u64 (b : Int) ∧ n_ = .int .u64 (k : Int) ∧ o < 2305843009213693951 ∧ b < 2305843009213693951 ∧ k ≤ n ∧ o * b ^ k % 2305843009213693951 = powm a n ∧ Keeps (fun _ => False) w wr

theorem half_u64 (k n : Nat) (hk : k ≤ n) (hn : U64 n) : IntKind.u64.wrap ((k : Int) / 2) = ((k / 2 : Nat) : Int) := by unfold U64 at hn; rw [IntKind.wrap_u64]; omega

set_option maxHeartbeats 1000000 in
set_option maxRecDepth 10000 in
theorem refPow_any (a n : Nat) (w : World) (hn : U64 n) :
    Calls Try.prog 37 #[.int .u64 a, .int .u64 n] w fun e w' => e = .returned (.int .u64 (powm a n : Int)) ∧ Keeps (fun _ => False) w w' := by
  have e1 : (a : Int) % 2305843009213693951 = (num a : Int) := by unfold num; omega
  have HN := Lib.hid hn
  have E1 := Lib.hid e1
  clear hn e1
  go_enter Try.func37, Try.ntmps37
  go_wp2_with fail
  go_loopw [5, 6, 7] (fun o b k wr => PwRel w a n o b k wr) (fun _ _ k _ => (intOf k).toNat)
  case atStart =>
    refine ⟨1, num a, n, rfl, by rw [E1.out], rfl, by decide, num_lt a, Nat.le_refl _, ?_, Keeps.refl _ _⟩
    rw [Nat.one_mul]; unfold num powm; rw [← Nat.pow_mod]
  case round =>
    obtain ⟨o, b, k, rfl, rfl, rfl, ho, hb, hk, hv, hkp⟩ := hrel
    have hst := pow_step o b k 2305843009213693951
    have HH := Lib.hid (And.intro ho (And.intro hb (And.intro hk (And.intro hv (And.intro hkp hst)))))
    clear ho hb hk hv hkp hst
    by_cases h0 : 0 < k
    · have t1 : (0 : Int) < (k : Int) := by omega
      obtain ⟨k2, hk2⟩ : ∃ k2, k / 2 = k2 := ⟨_, rfl⟩
      have hh := half_u64 k n HH.out.2.2.1 HN.out
      have hh' : (k : Int) / 2 = (k2 : Int) := by omega
      rw [hk2] at hh
      have HK2 := Lib.hid hk2
      rw [hh'] at hh
      clear hk2
      by_cases h1 : k % 2 = 1
      · have t2 : (k : Int) % 2 = 1 := by omega
        have t3 : ((k : Int) % 2 == 1) = true := by simp [t2]
        go_wp2_with fail
        refine (refMul_any o b wr).mono ?_
        rintro e w1 ⟨rfl, hk1⟩
        have H1 := Lib.hid hk1
        clear hk1
        go_wp2_with fail
        refine (refMul_any b b w1).mono ?_
        rintro e w2 ⟨rfl, hkq⟩
        have H2 := Lib.hid hkq
        clear hkq
        have HS : Hid (PwRel w a n (.int .u64 (mulm o b : Int)) (.int .u64 (mulm b b : Int)) (.int .u64 (k2 : Int)) w2) := by
          refine ⟨mulm o b, mulm b b, k2, rfl, rfl, rfl, mulm_lt _ _, mulm_lt _ _, by have := HH.out.2.2.1; have := HK2.out; omega, ?_, (HH.out.2.2.2.2.1.trans H1.out (fun _ _ h => h)).trans H2.out (fun _ _ h => h)⟩
          have := HH.out.2.2.2.2.2
          rw [if_pos h1, HK2.out] at this
          rw [← HH.out.2.2.2.1]
          exact this
        go_wp2
        go_roundw
        case rel => exact HS.out
        case measure => have := HK2.out; simp [intOf]; omega
      · have t2 : (k : Int) % 2 = 0 := by omega
        have t3 : ((k : Int) % 2 == 1) = false := by simp [t2]
        go_wp2_with fail
        refine (refMul_any b b wr).mono ?_
        rintro e w2 ⟨rfl, hkq⟩
        have H2 := Lib.hid hkq
        clear hkq
        have HS : Hid (PwRel w a n (.int .u64 (o : Int)) (.int .u64 (mulm b b : Int)) (.int .u64 (k2 : Int)) w2) := by
          refine ⟨o, mulm b b, k2, rfl, rfl, rfl, HH.out.1, mulm_lt _ _, by have := HH.out.2.2.1; have := HK2.out; omega, ?_, HH.out.2.2.2.2.1.trans H2.out (fun _ _ h => h)⟩
          have := HH.out.2.2.2.2.2
          rw [if_neg h1, HK2.out] at this
          rw [← HH.out.2.2.2.1]
          exact this
        go_wp2
        go_roundw
        case rel => exact HS.out
        case measure => have := HK2.out; simp [intOf]; omega
    · obtain rfl : k = 0 := by omega
      go_wp2_with fail
      go_ret
      refine ⟨?_, HH.out.2.2.2.2.1⟩
      have := HH.out.2.2.2.1
      rw [Nat.pow_zero, Nat.mul_one, Nat.mod_eq_of_lt HH.out.1] at this
      rw [this]
      rfl
end Go.Proofs.Ytllpeenjfjobaaa
