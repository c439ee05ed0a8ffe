/-
  Plain numbers: 2^61 - 1 is a prime (37's powers are all numbers that are not 0), and x to x^17 is one to one modulo it. Nothing of the program stands here. No conditions.
-/
import Derived.Test.YtnnhndnckpnkmaaRefPow
namespace Go.Proofs.Ytnnhndnckpnkmaa

/-- A power, by squares: the kernel reckons it. -/
def fpow : Nat → Nat → Nat → Nat → Nat
  | 0, o, _, _ => o
  | f + 1, o, b, k => if k = 0 then o else fpow f (if k % 2 = 1 then o * b % 2305843009213693951 else o) (b * b % 2305843009213693951) (k / 2)
theorem fpow_eq : ∀ (f o b k : Nat), k < 2 ^ f → o < 2305843009213693951 → fpow f o b k = o * b ^ k % 2305843009213693951
  | 0, o, b, k, h, ho => by
    obtain rfl : k = 0 := by simpa using h
    simp [fpow, Nat.mod_eq_of_lt ho]
  | f + 1, o, b, k, h, ho => by
    unfold fpow
    by_cases h0 : k = 0
    · subst h0; simp [Nat.mod_eq_of_lt ho]
    · rw [if_neg h0, fpow_eq f _ _ _ (by rw [Nat.pow_succ] at h; omega) ?_, pow_step]
      split
      · exact Nat.mod_lt _ (by decide)
      · exact ho
theorem powm_fast (b k : Nat) (h : k < 2 ^ 64) : powm b k = fpow 64 1 b k := by rw [fpow_eq 64 1 b k h (by decide), Nat.one_mul]; rfl

theorem powm_add (a m n : Nat) : powm a (m + n) = mulm (powm a m) (powm a n) := by unfold powm mulm; rw [Nat.pow_add, Nat.mul_mod]
theorem powm_mul (a m n : Nat) : powm a (m * n) = powm (powm a m) n := by unfold powm; rw [Nat.pow_mul, ← Nat.pow_mod]
theorem powm_num (a n : Nat) : powm (num a) n = powm a n := by unfold powm num; rw [← Nat.pow_mod]
theorem powm_one (n : Nat) : powm 1 n = 1 := by unfold powm; rw [Nat.one_pow]
theorem powm_pow_one {a n : Nat} (h : powm a n = 1) (t : Nat) : powm a (n * t) = 1 := by rw [powm_mul, h, powm_one]
theorem mulm_one {a : Nat} (h : a < 2305843009213693951) : mulm a 1 = a := by unfold mulm; rw [Nat.mul_one, Nat.mod_eq_of_lt h]
theorem one_mulm {a : Nat} (h : a < 2305843009213693951) : mulm 1 a = a := by unfold mulm; rw [Nat.one_mul, Nat.mod_eq_of_lt h]
theorem mulm_comm (a b : Nat) : mulm a b = mulm b a := by unfold mulm; rw [Nat.mul_comm]
theorem mulm_assoc (a b c : Nat) : mulm (mulm a b) c = mulm a (mulm b c) := by
  unfold mulm
  rw [Nat.mod_mul_mod, Nat.mul_mod_mod, Nat.mul_assoc]

theorem g_all : powm 37 2305843009213693950 = 1 := by rw [powm_fast _ _ (by decide)]; decide +kernel

/-- If two powers are 1, so is that of their greatest divisor. -/
theorem pow_gcd (a : Nat) : ∀ m n, powm a m = 1 → powm a n = 1 → powm a (Nat.gcd m n) = 1 := by
  intro m
  induction m using Nat.strongRecOn with
  | ind m ih =>
    intro n hm hn
    by_cases h0 : m = 0
    · subst h0; rwa [Nat.gcd_zero_left]
    · rw [Nat.gcd_rec]
      refine ih (n % m) (Nat.mod_lt _ (by omega)) m ?_ hm
      have h := powm_add a (m * (n / m)) (n % m)
      rw [Nat.div_add_mod, hn, powm_pow_one hm, one_mulm (powm_lt _ _)] at h
      exact h.symm

theorem dvd_prime (q m : Nat) (hq : ∀ d, d ∣ q → d = 1 ∨ d = q) (h : ¬ Nat.Coprime m q) : q ∣ m := by
  rcases hq _ (Nat.gcd_dvd_right m q) with e | e
  · exact (h e).elim
  · rw [← e]; exact Nat.gcd_dvd_left m q
theorem prime_of (q : Nat) (h0 : 0 < q) (h : (List.range (q + 1)).all (fun d => d == 0 || q % d != 0 || d == 1 || d == q) = true) : ∀ d, d ∣ q → d = 1 ∨ d = q := by
  intro d hd
  have hle := Nat.le_of_dvd h0 hd
  have := List.all_eq_true.1 h d (List.mem_range.2 (by omega))
  have hd0 : d ≠ 0 := fun e => by subst e; rw [Nat.zero_dvd] at hd; omega
  have hm : q % d = 0 := Nat.mod_eq_zero_of_dvd hd
  simp [hd0, hm] at this
  exact this

/-- The primes of 2^61 - 2. -/
theorem some_prime (m : Nat) (hm : m ∣ 2305843009213693950) (h1 : m ≠ 1) : ∃ q ∈ [2, 3, 5, 7, 11, 13, 31, 41, 61, 151, 331, 1321], q ∣ m := by
  by_cases h : ∃ q ∈ [2, 3, 5, 7, 11, 13, 31, 41, 61, 151, 331, 1321], q ∣ m
  · exact h
  · refine (h1 ?_).elim
    have hp : ∀ q ∈ [2, 3, 5, 7, 11, 13, 31, 41, 61, 151, 331, 1321], (∀ d, d ∣ q → d = 1 ∨ d = q) := by
      intro q hq
      simp only [List.mem_cons, List.not_mem_nil, or_false] at hq
      rcases hq with rfl | rfl | rfl | rfl | rfl | rfl | rfl | rfl | rfl | rfl | rfl | rfl <;> exact prime_of _ (by decide) (by decide +kernel)
    have hc : ∀ q ∈ [2, 3, 5, 7, 11, 13, 31, 41, 61, 151, 331, 1321], Nat.Coprime m q := by
      intro q hq
      by_cases hco : Nat.Coprime m q
      · exact hco
      · exact (h ⟨q, hq, dvd_prime q m (hp q hq) hco⟩).elim
    have e : 2305843009213693950 = 2 * (3 * (3 * (5 * (5 * (7 * (11 * (13 * (31 * (41 * (61 * (151 * (331 * (1321 * 1))))))))))))) := by decide
    rw [e] at hm
    have c2 := hc 2 (by simp)
    have c3 := hc 3 (by simp)
    have c5 := hc 5 (by simp)
    have c7 := hc 7 (by simp)
    have c11 := hc 11 (by simp)
    have c13 := hc 13 (by simp)
    have c31 := hc 31 (by simp)
    have c41 := hc 41 (by simp)
    have c61 := hc 61 (by simp)
    have c151 := hc 151 (by simp)
    have c331 := hc 331 (by simp)
    have c1321 := hc 1321 (by simp)
    have := c1321.dvd_of_dvd_mul_left (c331.dvd_of_dvd_mul_left (c151.dvd_of_dvd_mul_left (c61.dvd_of_dvd_mul_left (c41.dvd_of_dvd_mul_left (c31.dvd_of_dvd_mul_left (c13.dvd_of_dvd_mul_left (c11.dvd_of_dvd_mul_left (c7.dvd_of_dvd_mul_left (c5.dvd_of_dvd_mul_left (c5.dvd_of_dvd_mul_left (c3.dvd_of_dvd_mul_left (c3.dvd_of_dvd_mul_left (c2.dvd_of_dvd_mul_left hm)))))))))))))
    exact Nat.dvd_one.1 this

/-- No power of 37 below 2^61 - 2 is 1. -/
theorem g_order (d : Nat) (h0 : 0 < d) (h1 : d < 2305843009213693950) : powm 37 d ≠ 1 := by
  intro h
  have hg := pow_gcd 37 d 2305843009213693950 h g_all
  have hdv := Nat.gcd_dvd_right d 2305843009213693950
  have hle := Nat.le_of_dvd h0 (Nat.gcd_dvd_left d 2305843009213693950)
  generalize Nat.gcd d 2305843009213693950 = e at hg hdv hle
  obtain ⟨m, hm⟩ := hdv
  obtain ⟨q, hq, t, rfl⟩ := some_prime m ⟨e, by rw [hm, Nat.mul_comm]⟩ (fun h1 => by subst h1; omega)
  have key : ∀ q r, 2305843009213693950 = q * r → 0 < q → e * (q * t) = 2305843009213693950 → powm 37 r = 1 := by
    intro q r hqr hq0 he
    have : r = e * t := by
      refine Nat.eq_of_mul_eq_mul_left hq0 ?_
      rw [← hqr, ← he, Nat.mul_left_comm]
    rw [this]
    exact powm_pow_one hg t
  simp only [List.mem_cons, List.not_mem_nil, or_false] at hq
  rcases hq with rfl | rfl | rfl | rfl | rfl | rfl | rfl | rfl | rfl | rfl | rfl | rfl
  · exact absurd (key 2 1152921504606846975 (by decide) (by decide) hm.symm) (by rw [powm_fast _ _ (by decide)]; decide +kernel)
  · exact absurd (key 3 768614336404564650 (by decide) (by decide) hm.symm) (by rw [powm_fast _ _ (by decide)]; decide +kernel)
  · exact absurd (key 5 461168601842738790 (by decide) (by decide) hm.symm) (by rw [powm_fast _ _ (by decide)]; decide +kernel)
  · exact absurd (key 7 329406144173384850 (by decide) (by decide) hm.symm) (by rw [powm_fast _ _ (by decide)]; decide +kernel)
  · exact absurd (key 11 209622091746699450 (by decide) (by decide) hm.symm) (by rw [powm_fast _ _ (by decide)]; decide +kernel)
  · exact absurd (key 13 177372539170284150 (by decide) (by decide) hm.symm) (by rw [powm_fast _ _ (by decide)]; decide +kernel)
  · exact absurd (key 31 74382032555280450 (by decide) (by decide) hm.symm) (by rw [powm_fast _ _ (by decide)]; decide +kernel)
  · exact absurd (key 41 56240073395455950 (by decide) (by decide) hm.symm) (by rw [powm_fast _ _ (by decide)]; decide +kernel)
  · exact absurd (key 61 37800705069076950 (by decide) (by decide) hm.symm) (by rw [powm_fast _ _ (by decide)]; decide +kernel)
  · exact absurd (key 151 15270483504726450 (by decide) (by decide) hm.symm) (by rw [powm_fast _ _ (by decide)]; decide +kernel)
  · exact absurd (key 331 6966293079195450 (by decide) (by decide) hm.symm) (by rw [powm_fast _ _ (by decide)]; decide +kernel)
  · exact absurd (key 1321 1745528394559950 (by decide) (by decide) hm.symm) (by rw [powm_fast _ _ (by decide)]; decide +kernel)

/-- What is one to one, of so many into so many, tells each. -/
theorem pigeon : ∀ (n : Nat) (f : Nat → Nat), (∀ i, i < n → f i < n) → (∀ i j, i < n → j < n → f i = f j → i = j) → ∀ y, y < n → ∃ i, i < n ∧ f i = y
  | 0, _, _, _, y, hy => absurd hy (Nat.not_lt_zero y)
  | n + 1, f, hf, hi, y, hy => by
    have h1 : ∀ i, i < n → (if f i = n then f n else f i) < n := by
      intro i h
      have a := hf i (by omega)
      have b := hf n (by omega)
      split
      · rename_i e
        have : f n ≠ n := fun e' => by have := hi i n (by omega) (by omega) (e.trans e'.symm); omega
        omega
      · omega
    have h2 : ∀ i j, i < n → j < n → (if f i = n then f n else f i) = (if f j = n then f n else f j) → i = j := by
      intro i j h h' e
      split at e <;> split at e
      · rename_i a b; exact hi i j (by omega) (by omega) (a.trans b.symm)
      · have := hi n j (by omega) (by omega) e; omega
      · have := hi i n (by omega) (by omega) e; omega
      · exact hi i j (by omega) (by omega) e
    have ih := pigeon n _ h1 h2
    by_cases hm : y = f n
    · exact ⟨n, by omega, hm.symm⟩
    · by_cases hyn : y = n
      · have hb := hf n (by omega)
        obtain ⟨i, h, e⟩ := ih (f n) (by omega)
        split at e
        · rename_i a; exact ⟨i, by omega, a.trans hyn.symm⟩
        · have := hi i n (by omega) (by omega) e; omega
      · obtain ⟨i, h, e⟩ := ih y (by omega)
        split at e
        · exact (hm e.symm).elim
        · exact ⟨i, by omega, e⟩

theorem g_inv (i : Nat) (h : i ≤ 2305843009213693950) : mulm (powm 37 i) (powm 37 (2305843009213693950 - i)) = 1 := by
  rw [← powm_add, show i + (2305843009213693950 - i) = 2305843009213693950 by omega, g_all]
theorem zero_mulm (a : Nat) : mulm 0 a = 0 := by unfold mulm; rw [Nat.zero_mul]
theorem g_pos (i : Nat) (h : i ≤ 2305843009213693950) : powm 37 i ≠ 0 := fun e => by
  have := g_inv i h
  rw [e, zero_mulm] at this
  cases this
theorem g_inj (i j : Nat) (hi : i < 2305843009213693950) (hj : j < 2305843009213693950) (h : powm 37 i = powm 37 j) : i = j := by
  have key : ∀ i j, i < j → j < 2305843009213693950 → powm 37 i = powm 37 j → False := by
    intro i j hij hj h
    refine g_order (j - i) (by omega) (by omega) ?_
    have a := g_inv i (by omega)
    have b := powm_add 37 i (j - i)
    rw [show i + (j - i) = j by omega, ← h] at b
    have c : mulm (mulm (powm 37 (2305843009213693950 - i)) (powm 37 i)) (powm 37 (j - i)) = 1 := by
      rw [mulm_assoc, ← b, mulm_comm, a]
    rw [mulm_comm (powm 37 (2305843009213693950 - i)), a, one_mulm (powm_lt _ _)] at c
    exact c
  rcases Nat.lt_trichotomy i j with h' | h' | h'
  · exact (key i j h' hj h).elim
  · exact h'
  · exact (key j i h' hi h.symm).elim

/-- Each number that is not 0 is a power of 37. -/
theorem g_power (x : Nat) (h0 : x ≠ 0) (h : x < 2305843009213693951) : ∃ i, powm 37 i = x := by
  obtain ⟨i, hi, e⟩ := pigeon 2305843009213693950 (fun i => powm 37 i - 1) (fun i hi => by have := powm_lt 37 i; have := g_pos i (by omega); omega)
    (fun i j hi hj e => g_inj i j hi hj (by have := g_pos i (by omega); have := g_pos j (by omega); omega)) (x - 1) (by omega)
  have := g_pos i (by omega)
  exact ⟨i, by omega⟩

/-- Fermat. -/
theorem fermat (x : Nat) (h : num x ≠ 0) : powm x 2305843009213693950 = 1 := by
  obtain ⟨i, hi⟩ := g_power (num x) h (num_lt x)
  rw [← powm_num, ← hi, ← powm_mul, Nat.mul_comm, powm_pow_one g_all]

theorem mulm_num (a b : Nat) : mulm (num a) (num b) = mulm a b := by unfold mulm num; rw [← Nat.mul_mod]
theorem num_powm (a n : Nat) : num (powm a n) = powm a n := by unfold num; exact Nat.mod_eq_of_lt (powm_lt a n)
theorem num_of_lt {a : Nat} (h : a < 2305843009213693951) : num a = a := Nat.mod_eq_of_lt h

theorem powm_zero (k : Nat) : powm 0 (k + 1) = 0 := by unfold powm; rw [Nat.pow_succ, Nat.mul_zero]
/-- The 17th root: 17 times this is 1, modulo 2^61 - 2. -/
theorem root17 (x : Nat) : powm (powm x 17) 1763291712928118903 = num x := by
  rw [← powm_mul, show 17 * 1763291712928118903 = 2305843009213693950 * 13 + 1 by decide]
  by_cases h : num x = 0
  · rw [← powm_num, h]
    exact powm_zero _
  · rw [powm_add, powm_pow_one (fermat x h), one_mulm (powm_lt _ _)]
    unfold powm num
    rw [Nat.pow_one]
theorem pow17_inj (x y : Nat) (h : powm x 17 = powm y 17) : num x = num y := by rw [← root17 x, ← root17 y, h]
/-- 37 times a number tells the number. -/
theorem mul37_inj (x y : Nat) (h : mulm 37 x = mulm 37 y) : num x = num y := by
  have key : ∀ x, mulm 2181202846553494278 (mulm 37 x) = num x := by
    intro x
    unfold mulm num
    rw [Nat.mul_mod_mod, ← Nat.mul_assoc, Nat.mul_mod, show 2181202846553494278 * 37 % 2305843009213693951 = 1 by decide, Nat.one_mul, Nat.mod_mod]
  rw [← key x, ← key y, h]
theorem mulm_zero_or (a b : Nat) (h : mulm a b = 0) : num a = 0 ∨ num b = 0 := by
  by_cases ha : num a = 0
  · exact Or.inl ha
  · refine Or.inr ?_
    have := fermat a ha
    rw [show 2305843009213693950 = 2305843009213693949 + 1 by decide, powm_add] at this
    have h1 : powm a 1 = num a := by unfold powm num; rw [Nat.pow_one]
    rw [h1] at this
    have h2 : mulm (mulm (powm a 2305843009213693949) (num a)) (num b) = num b := by rw [this, one_mulm (num_lt b)]
    rw [mulm_assoc, mulm_num, h] at h2
    rw [← h2, mulm_comm, zero_mulm]
end Go.Proofs.Ytnnhndnckpnkmaa
