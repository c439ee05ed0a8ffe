/-
  The field's Num, Add, Mul, and math/bits.Mul64: what they tell: numbers modulo 2^61 - 1. Conditions: the arguments are below 2^64.
-/
import Derived.Test.YtllpeenjfjobaaaLaws
import Derived.Test.YtllpeenjfjobaaaProg
import Derived.Laws.BitsLemmas
import Derived.Laws.Bits64
namespace Go.Proofs.Ytllpeenjfjobaaa
open Go.RowKit
def num (a : Nat) : Nat := a % 2305843009213693951
def U64 (a : Nat) : Prop := a < 18446744073709551616
theorem num_lt (a : Nat) : num a < 2305843009213693951 := Nat.mod_lt _ (by decide)
theorem num_u (a : Nat) : U64 (num a) := Nat.lt_of_lt_of_le (num_lt a) (by decide)
theorem wraps_u64 (n : Int) (h₀ : 0 ≤ n) (h₁ : n < 2 ^ 64) : IntKind.u64.wrap n = n := by rw [IntKind.wrap_u64]; omega
theorem wrap_nat (n m : Nat) (h : n = m) (hu : m < 18446744073709551616) : IntKind.u64.wrap (n : Int) = (m : Int) := by subst h; rw [IntKind.wrap_u64]; omega
theorem and_P (a : Nat) (h : U64 a) : bits .and .u64 (a : Int) 2305843009213693951 = ((a % 2305843009213693952 : Nat) : Int) := by
  have := bits_mask .u64 64 (by decide) wraps_u64 61 (by decide) (a : Int) (by omega) (by unfold U64 at h; omega)
  simpa using this
theorem and_32 (a : Nat) (h : U64 a) : bits .and .u64 (a : Int) 4294967295 = ((a % 4294967296 : Nat) : Int) := by
  have := bits_mask .u64 64 (by decide) wraps_u64 32 (by decide) (a : Int) (by omega) (by unfold U64 at h; omega)
  simpa using this

set_option maxRecDepth 10000 in
theorem num_any (a : Nat) (w : World) (h : U64 a) :
    Calls Try.prog 29 #[.int .u64 a] w fun e w' => e = .returned (.int .u64 (num a : Int)) ∧ w = w' := by
  have e1 := and_P a h
  generalize hx : ((a % 2305843009213693952 : Nat) : Int) = x at e1
  have e2 : IntKind.u64.wrap (x + (a : Int) / 2305843009213693952) = x + (a : Int) / 2305843009213693952 := by
    rw [IntKind.wrap_u64]; unfold U64 at h; omega
  generalize hs : x + (a : Int) / 2305843009213693952 = s at e2
  have HH := Lib.hid (And.intro h (And.intro hx hs))
  have e3 : x + (a : Int) / 2305843009213693952 = s := hs
  clear h hx hs
  go_enter Try.func29, Try.ntmps29
  go_wp2
  · rename_i hle
    have e4 : IntKind.u64.wrap (s - 2305843009213693951) = (num a : Int) := by
      obtain ⟨h, h1, h2⟩ := HH.out
      rw [IntKind.wrap_u64]; unfold U64 at h; unfold num; omega
    refine bodyPost_ret (v := .int .u64 (num a : Int)) (by simp [results, Try.results29, go_sem, e4]) rfl ⟨rfl, rfl⟩
  · rename_i hle
    have e4 : s = (num a : Int) := by
      obtain ⟨h, h1, h2⟩ := HH.out
      unfold U64 at h; unfold num; omega
    refine bodyPost_ret (v := .int .u64 (num a : Int)) (by simp [results, Try.results29, go_sem, e4]) rfl ⟨rfl, rfl⟩

def addm (a b : Nat) : Nat := num (num a + num b)
theorem add_any (a b : Nat) (w : World) (ha : U64 a) (hb : U64 b) :
    Calls Try.prog 41 #[.int .u64 a, .int .u64 b] w fun e w' => e = .returned (.int .u64 (addm a b : Int)) ∧ w = w' := by
  have e1 : IntKind.u64.wrap ((num a : Int) + (num b : Int)) = ((num a + num b : Nat) : Int) := by
    have := num_lt a; have := num_lt b
    rw [IntKind.wrap_u64]; omega
  have hu : U64 (num a + num b) := by have := num_lt a; have := num_lt b; unfold U64; omega
  have HH := Lib.hid (And.intro ha (And.intro hb hu))
  clear ha hb hu
  go_enter Try.func41, Try.ntmps41
  go_wp2_with fail
  refine (num_any a w HH.out.1).mono ?_
  rintro e _ ⟨rfl, rfl⟩
  go_wp2_with fail
  refine (num_any b w HH.out.2.1).mono ?_
  rintro e _ ⟨rfl, rfl⟩
  go_wp2_with fail
  have h3 := num_any (num a + num b) w HH.out.2.2
  rw [Int.natCast_add] at h3
  refine h3.mono ?_
  rintro e _ ⟨rfl, rfl⟩
  go_wp2
  go_ret
  exact ⟨rfl, rfl⟩

theorem mul_le (x y a b : Nat) (hx : x ≤ a) (hy : y ≤ b) : x * y ≤ a * b := Nat.mul_le_mul hx hy

set_option maxRecDepth 10000 in
theorem mul64_any (x y : Nat) (w : World) (hx : U64 x) (hy : U64 y) :
    Calls Try.prog 46 #[.int .u64 x, .int .u64 y] w fun e w' => e = .returned (.tuple #[.int .u64 ((x * y / 18446744073709551616 : Nat) : Int), .int .u64 ((x * y % 18446744073709551616 : Nat) : Int)]) ∧ w = w' := by
  have a1 := and_32 x hx
  have a2 := and_32 y hy
  obtain ⟨x0, hx0⟩ : ∃ k, x % 4294967296 = k := ⟨_, rfl⟩
  obtain ⟨x1, hx1⟩ : ∃ k, x / 4294967296 = k := ⟨_, rfl⟩
  obtain ⟨y0, hy0⟩ : ∃ k, y % 4294967296 = k := ⟨_, rfl⟩
  obtain ⟨y1, hy1⟩ : ∃ k, y / 4294967296 = k := ⟨_, rfl⟩
  rw [hx0] at a1
  rw [hy0] at a2
  unfold U64 at hx hy
  have s1 : (x : Int) / 4294967296 = (x1 : Int) := by omega
  have s2 : (y : Int) / 4294967296 = (y1 : Int) := by omega
  have lx0 : x0 ≤ 4294967295 := by omega
  have lx1 : x1 ≤ 4294967295 := by omega
  have ly0 : y0 ≤ 4294967295 := by omega
  have ly1 : y1 ≤ 4294967295 := by omega
  have p00 := mul_le x0 y0 _ _ lx0 ly0
  have p10 := mul_le x1 y0 _ _ lx1 ly0
  have p01 := mul_le x0 y1 _ _ lx0 ly1
  have p11 := mul_le x1 y1 _ _ lx1 ly1
  have hxy : x * y = x1 * y1 * 18446744073709551616 + (x1 * y0 + x0 * y1) * 4294967296 + x0 * y0 := by
    have h1 : x = x1 * 4294967296 + x0 := by omega
    have h2 : y = y1 * 4294967296 + y0 := by omega
    rw [h1, h2]
    simp only [Nat.add_mul, Nat.mul_add]
    rw [show x1 * 4294967296 * (y1 * 4294967296) = x1 * y1 * 18446744073709551616 by rw [Nat.mul_mul_mul_comm], show x1 * 4294967296 * y0 = x1 * y0 * 4294967296 by rw [Nat.mul_right_comm], show x0 * (y1 * 4294967296) = x0 * y1 * 4294967296 by rw [Nat.mul_assoc]]
    omega
  obtain ⟨A, hA⟩ : ∃ k, x0 * y0 = k := ⟨_, rfl⟩
  obtain ⟨B, hB⟩ : ∃ k, x1 * y0 = k := ⟨_, rfl⟩
  obtain ⟨C, hC⟩ : ∃ k, x0 * y1 = k := ⟨_, rfl⟩
  obtain ⟨D, hD⟩ : ∃ k, x1 * y1 = k := ⟨_, rfl⟩
  obtain ⟨E, hE⟩ : ∃ k, x * y = k := ⟨_, rfl⟩
  rw [hA, hB, hC, hD, hE] at hxy
  rw [hA] at p00
  rw [hB] at p10
  rw [hC] at p01
  rw [hD] at p11
  have m1 : IntKind.u64.wrap ((x0 : Int) * (y0 : Int)) = (A : Int) := by rw [IntKind.wrap_u64, ← Int.natCast_mul, hA]; omega
  have m2 : IntKind.u64.wrap ((x1 : Int) * (y0 : Int)) = (B : Int) := by rw [IntKind.wrap_u64, ← Int.natCast_mul, hB]; omega
  have m3 : IntKind.u64.wrap ((x0 : Int) * (y1 : Int)) = (C : Int) := by rw [IntKind.wrap_u64, ← Int.natCast_mul, hC]; omega
  have m4 : IntKind.u64.wrap ((x1 : Int) * (y1 : Int)) = (D : Int) := by rw [IntKind.wrap_u64, ← Int.natCast_mul, hD]; omega
  have m5 : IntKind.u64.wrap ((x : Int) * (y : Int)) = ((E % 18446744073709551616 : Nat) : Int) := by rw [IntKind.wrap_u64, ← Int.natCast_mul, hE]; omega
  obtain ⟨A1, hA1⟩ : ∃ k, A / 4294967296 = k := ⟨_, rfl⟩
  have s3 : (A : Int) / 4294967296 = (A1 : Int) := by omega
  obtain ⟨T, hT⟩ : ∃ k, B + A1 = k := ⟨_, rfl⟩
  have q1 : IntKind.u64.wrap ((B : Int) + (A1 : Int)) = (T : Int) := by rw [IntKind.wrap_u64]; omega
  have uT : U64 T := by unfold U64; omega
  have a3 := and_32 T uT
  obtain ⟨T0, hT0⟩ : ∃ k, T % 4294967296 = k := ⟨_, rfl⟩
  obtain ⟨T1, hT1⟩ : ∃ k, T / 4294967296 = k := ⟨_, rfl⟩
  rw [hT0] at a3
  have s4 : (T : Int) / 4294967296 = (T1 : Int) := by omega
  obtain ⟨U, hU⟩ : ∃ k, T0 + C = k := ⟨_, rfl⟩
  have q2 : IntKind.u64.wrap ((T0 : Int) + (C : Int)) = (U : Int) := by rw [IntKind.wrap_u64]; omega
  obtain ⟨U1, hU1⟩ : ∃ k, U / 4294967296 = k := ⟨_, rfl⟩
  have s5 : (U : Int) / 4294967296 = (U1 : Int) := by omega
  obtain ⟨V, hV⟩ : ∃ k, D + T1 = k := ⟨_, rfl⟩
  have q3 : IntKind.u64.wrap ((D : Int) + (T1 : Int)) = (V : Int) := by rw [IntKind.wrap_u64]; omega
  have q4 : IntKind.u64.wrap ((V : Int) + (U1 : Int)) = ((E / 18446744073709551616 : Nat) : Int) := by rw [IntKind.wrap_u64]; omega
  rw [hE]
  generalize E / 18446744073709551616 = hi at *
  generalize E % 18446744073709551616 = lo at *
  clear hx hy hx0 hx1 hy0 hy1 lx0 lx1 ly0 ly1 p00 p10 p01 p11 hxy hA hB hC hD hE hA1 hT uT hT0 hT1 hU hU1 hV
  go_enter Try.func46, Try.ntmps46
  go_wp2
  go_ret2
  exact ⟨rfl, rfl⟩

def mulm (a b : Nat) : Nat := a * b % 2305843009213693951
theorem mulm_lt (a b : Nat) : mulm a b < 2305843009213693951 := Nat.mod_lt _ (by decide)

theorem mul_any (a b : Nat) (w : World) (ha : U64 a) (hb : U64 b) :
    Calls Try.prog 42 #[.int .u64 a, .int .u64 b] w fun e w' => e = .returned (.int .u64 (mulm a b : Int)) ∧ w = w' := by
  have la := num_lt a
  have lb := num_lt b
  have pl := mul_le (num a) (num b) 2305843009213693950 2305843009213693950 (by omega) (by omega)
  have hm : mulm a b = num a * num b % 2305843009213693951 := by unfold mulm num; rw [← Nat.mul_mod]
  obtain ⟨E, hE⟩ : ∃ k, num a * num b = k := ⟨_, rfl⟩
  rw [hE] at pl hm
  obtain ⟨hi, hhi⟩ : ∃ k, E / 18446744073709551616 = k := ⟨_, rfl⟩
  obtain ⟨lo, hlo⟩ : ∃ k, E % 18446744073709551616 = k := ⟨_, rfl⟩
  have ll := num_lt lo
  have e1 : IntKind.u64.wrap ((hi : Int) * 8) = ((hi * 8 : Nat) : Int) := by rw [IntKind.wrap_u64]; omega
  have e2 : IntKind.u64.wrap ((num lo : Int) + ((hi * 8 : Nat) : Int)) = ((num lo + hi * 8 : Nat) : Int) := by rw [IntKind.wrap_u64]; omega
  have hu : U64 (num lo + hi * 8) := by unfold U64; omega
  have hlu : U64 lo := by unfold U64; omega
  have hfin : num (num lo + hi * 8) = mulm a b := by rw [hm]; unfold num; omega
  have HH := Lib.hid (And.intro ha (And.intro hb (And.intro hu (And.intro hlu (And.intro hfin (And.intro hE (And.intro hhi hlo)))))))
  generalize hi * 8 = h8 at *
  clear ha hb hu hlu hfin hE hhi hlo ll la lb pl hm
  go_enter Try.func42, Try.ntmps42
  go_wp2_with fail
  refine (num_any a w HH.out.1).mono ?_
  rintro e _ ⟨rfl, rfl⟩
  go_wp2_with fail
  refine (num_any b w HH.out.2.1).mono ?_
  rintro e _ ⟨rfl, rfl⟩
  go_wp2_with fail
  refine (mul64_any (num a) (num b) w (num_u a) (num_u b)).mono ?_
  rw [HH.out.2.2.2.2.2.1, HH.out.2.2.2.2.2.2.1, HH.out.2.2.2.2.2.2.2]
  rintro e _ ⟨rfl, rfl⟩
  go_wp2_with fail
  refine (num_any lo w HH.out.2.2.2.1).mono ?_
  rintro e _ ⟨rfl, rfl⟩
  go_wp2_with fail
  have h3 := num_any (num lo + h8) w HH.out.2.2.1
  refine h3.mono ?_
  rintro e _ ⟨rfl, rfl⟩
  go_wp2
  go_ret
  exact ⟨by rw [HH.out.2.2.2.2.1]; rfl, rfl⟩
end Go.Proofs.Ytllpeenjfjobaaa
