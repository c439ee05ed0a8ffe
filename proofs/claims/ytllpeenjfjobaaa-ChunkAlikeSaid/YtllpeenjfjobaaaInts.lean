/-
  The first numbers in a row of their own (the reference's Ints); where chunks begin (starts). Conditions: slices that are some.
-/
import Derived.Test.YtllpeenjfjobaaaCutLaw
import Derived.Test.YtllpeenjfjobaaaRowsB
import Derived.Test.YtllpeenjfjobaaaHas
import Derived.Test.YtllpeenjfjobaaaFew
namespace Go.Proofs.Ytllpeenjfjobaaa
open Go.RowKit

theorem IV_one (l : List Int) : ∀ u ∈ IV l, u.oneCell' = true := by
  intro u hu
  simp only [IV, List.mem_map] at hu
  obtain ⟨c, _, rfl⟩ := hu
  rfl

set_option maxHeartbeats 400000 in
theorem ints_any (sa : Option Addr) (len cap most : Nat) (l : List Int) (w : World) (hl : Sl w sa len cap (IV l)) (hmost : most ≤ 1000000) :
    Calls Try.prog 18 #[.slice sa len cap, .int .i64 most] w fun e w' => ∃ sa' cap', e = .returned (.slice sa' (l.take most).length cap') ∧
      w'.ownsRow w.heap.size 3 1 (.slice sa' (l.take most).length cap') (l.take most).length (IV (l.take most)) ∧ Keeps (fun _ => False) w w' := by
  have hll : l.length = len := by have := hl.len; simpa using this
  obtain ⟨k, hk⟩ : ∃ k, (l.take most).length = k := ⟨_, rfl⟩
  rw [hk]
  have hk' : k = min most len := by rw [← hk, List.length_take, hll]
  have hlc := hl.le
  have hcap := hl.capB
  have e1 : (if most < len then (most : Int) else (len : Int)) = (k : Int) := by split <;> omega
  have i1 : (0 : Int) ≤ (k : Int) := by omega
  have i2 : (k : Int) ≤ (len : Int) := by omega
  have i3 : (k : Int) ≤ (cap : Int) := by omega
  have i4 : (len : Int) ≤ (cap : Int) := by omega
  obtain ⟨i0, hi, hz0, hz1, hz2⟩ := info_parts infoInt
  have HT : Hid ((IV (l.take most)).length = k * 1) := by show _ = _; rw [IV_length, hk]; omega
  have HNil : Hid (sa = none → k = 0 ∧ cap = 0) := fun h => by have := hl.nil h; omega
  have HS : Hid (∀ ad, sa = some ad → ∀ (j : Nat) (u : Value), (IV (l.take most))[j]? = some u → w.cell? (ad.add j) = some u) := by
    intro ad had j u hu
    refine hl.lies ad had j u ?_
    rw [IV_get] at hu ⊢
    rw [List.getElem?_take] at hu
    split at hu
    · exact hu
    · cases hu
  have hkb : k ≤ 1000000 := by omega
  clear hk hl hll hk'
  go_enter Try.func18, Try.ntmps18
  go_wp2_with (at_builtin; refine wpList_app _ rfl _ _ 23 rfl w.heap.size 3 i0 (.int .i64 0) 1 8 Try.underlying23 hi hz0 hz1 hz2 rfl (by decide) (.slice none 0 0) 0 [] rfl (World.ownsRow_nil w _ _ _) sa k cap (IV (l.take most)) rfl HT.out HNil.out HS.out (IV_one _) (by unfold maxLen; omega) (by omega) (Nat.le_refl _) ?_; intro sa' cap' w' hown hg hat hnn; have HH := Lib.hid (And.intro hown hg); clear hown hg hat hnn)
  go_ret
  obtain ⟨hown, hg⟩ := HH.out
  rw [Nat.zero_add, List.nil_append] at hown
  exact ⟨sa', cap', by simp, hown, (Keeps.refl _ w).grown hg (fun k hk _ => by simp [Value.ownBlock] at hk)⟩

/-- All bytes of some rows. -/
def total : List (List UInt8) → Nat
  | [] => 0
  | c :: L => c.length + total L
theorem total_snoc (L : List (List UInt8)) (c : List UInt8) : total (L ++ [c]) = total L + c.length := by
  induction L with
  | nil => simp [total]
  | cons a L ih => simp only [List.cons_append, total, ih]; omega
def startsI (L : List (List UInt8)) : List Int := (List.range (L.length + 1)).map fun i => (total (L.take i) : Int)
theorem startsI_length (L : List (List UInt8)) : (startsI L).length = L.length + 1 := by simp [startsI]
theorem startsI_snoc (L : List (List UInt8)) (k : Nat) (h : k < L.length) : (startsI L).take (k + 2) = (startsI L).take (k + 1) ++ [(total (L.take (k + 1)) : Int)] := by
  rw [List.take_succ_eq_append_getElem (by rw [startsI_length]; omega)]
  simp [startsI]
theorem startsOf_get (L : List (List UInt8)) : ∀ n, startsOf n L = (List.range (L.length + 1)).map fun i => n + total (L.take i) := by
  induction L with
  | nil => intro n; simp [startsOf, total]
  | cons c L ih =>
    intro n
    rw [startsOf, ih (n + c.length), List.length_cons, List.range_succ_eq_map (n := L.length + 1), List.map_cons, List.map_map]
    simp only [List.take_zero, total, Nat.add_zero, List.cons.injEq, true_and]
    apply List.map_congr_left
    intro i _
    simp only [Function.comp, List.take_succ_cons, total]
    omega
theorem has_starts (L : List (List UInt8)) (k : Nat) : hasB (startsI L) (k : Int) = decide (k ∈ startsOf 0 L) := by
  rw [startsOf_get, Bool.eq_iff_iff]
  simp only [hasB, startsI, List.any_eq_true, List.mem_map, List.mem_range, decide_eq_true_eq, beq_iff_eq, Nat.zero_add]
  constructor
  · rintro ⟨x, ⟨i, hi, rfl⟩, hx⟩
    exact ⟨i, hi, by omega⟩
  · rintro ⟨i, hi, rfl⟩
    exact ⟨_, ⟨i, hi, rfl⟩, rfl⟩

def StRel (w : World) (base : Nat) (L : List (List UInt8)) (out n i : Value) (wr : World) : Prop :=
  ∃ (k : Nat) (so : Option Addr) (co : Nat), k ≤ L.length ∧ i = .int .i64 (k : Int) ∧ n = .int .i64 (total (L.take k) : Int) ∧ out = .slice so (k + 1) co ∧ wr.ownsRow base 3 1 (.slice so (k + 1) co) (k + 1) (IV ((startsI L).take (k + 1))) ∧ Keeps (fun _ => False) w wr

theorem total_take_le (L : List (List UInt8)) (m : Nat) (h : ∀ c ∈ L, c.length ≤ m) : ∀ k, total (L.take k) ≤ L.length * m := by
  induction L with
  | nil => intro k; simp [total]
  | cons c L ih =>
    intro k
    cases k with
    | zero => simp [total]
    | succ k =>
      have h1 := h c (by simp)
      have h2 := ih (fun x hx => h x (by simp [hx])) k
      simp only [List.take_succ_cons, total, List.length_cons, Nat.succ_mul]
      omega

set_option maxHeartbeats 1000000 in
theorem starts_any (sa : Option Addr) (n cap : Nat) (vs : List Value) (L : List (List UInt8)) (w : World) (hl : Sl w sa n cap vs) (hr : RowsS w vs L) (hn : n ≤ 1000000) (hm : ∀ c ∈ L, c.length ≤ 1000000) :
    Calls Try.prog 19 #[.slice sa n cap] w fun e w' => ∃ sa' cap', e = .returned (.slice sa' (n + 1) cap') ∧ w'.ownsRow w.heap.size 3 1 (.slice sa' (n + 1) cap') (n + 1) (IV (startsI L)) ∧ Keeps (fun _ => False) w w' := by
  have hLn : L.length = n := by rw [← hr.len]; exact hl.len
  have hle := hl.le
  have hcb := hl.capB
  have htot := total_take_le L 1000000 hm
  have HL := Lib.hid (And.intro hl (And.intro hr (And.intro hLn htot)))
  clear hl hr htot
  go_enter Try.func19, Try.ntmps19
  obtain ⟨w0, hw0⟩ : ∃ w0, w.alloc (.cells #[.int .i64 0] 3) = w0 := ⟨_, rfl⟩
  have hk0 : Keeps (fun _ => False) w w0 := by rw [← hw0]; exact (Keeps.refl _ w).alloc _
  have hown0 : w0.ownsRow w.heap.size 3 1 (.slice (some ⟨w.heap.size, 0, none⟩) 1 1) 1 (IV ((startsI L).take 1)) := by
    have e : (startsI L).take 1 = [0] := by
      rw [List.take_succ_eq_append_getElem (by rw [startsI_length]; omega)]
      simp [startsI, total]
    rw [e, ← hw0]
    exact ⟨rfl, Or.inr ⟨w.heap.size, 1, _, rfl, Nat.le_refl _, heap_alloc_new w _, Nat.le_refl _, by unfold maxLen; omega, by simp, by simp [IV]⟩⟩
  have H0 := Lib.hid (And.intro hk0 hown0)
  clear hk0 hown0
  obtain ⟨B, hB⟩ : ∃ B, w.heap.size = B := ⟨_, rfl⟩
  rw [hB] at H0
  go_wp2_with fail
  have HBB := Lib.hid hB
  clear hw0 hB
  go_loopw [3, 4, 5] (fun out m i wr => StRel w B L out m i wr) (fun _ _ i _ => n - (intOf i).toNat)
  case atStart => exact ⟨0, _, 1, Nat.zero_le _, rfl, by simp [total], rfl, H0.out.2, H0.out.1⟩
  case round =>
    obtain ⟨k, so, co, hkl, rfl, rfl, rfl, hown, hk⟩ := hrel
    have hsz := hk.size
    rw [HBB.out] at hsz
    have HB := Lib.hid (And.intro hown hk)
    clear hown hk
    by_cases hlt : k < n
    · obtain ⟨c, hc⟩ : ∃ c, L[k]? = some c := ⟨_, List.getElem?_eq_getElem (by omega)⟩
      obtain ⟨b, off, rfl⟩ := HL.out.1.isSome (by omega)
      obtain ⟨sc, cc, hvc, _⟩ := HL.out.2.1.row k c hc
      have d1 : wr.cell? ⟨b, off + k, none⟩ = some (.slice sc c.length cc) := (HL.out.1.quiet HB.out.2).cell hvc
      have ht : total (L.take (k + 1)) = total (L.take k) + c.length := by
        rw [List.take_succ_eq_append_getElem (by omega), (List.getElem?_eq_some_iff.1 hc).2, total_snoc]
      have hb1 := HL.out.2.2.2 (k + 1)
      have hsn := startsI_snoc L k (by omega)
      have hnb : L.length * 1000000 ≤ 1000000000000 := by have := Nat.mul_le_mul_right 1000000 (show L.length ≤ 1000000 by omega); omega
      have HT := Lib.hid (And.intro ht hsn)
      obtain ⟨m, hm2⟩ : ∃ m, c.length = m := ⟨_, rfl⟩
      obtain ⟨t, ht2⟩ : ∃ t, total (L.take k) = t := ⟨_, rfl⟩
      obtain ⟨t', ht3⟩ : ∃ t, total (L.take (k + 1)) = t := ⟨_, rfl⟩
      rw [hm2, ht2, ht3] at ht
      have e1 : (t : Int) + (m : Int) = (t' : Int) := by omega
      have t0 : (0 : Int) ≤ (k : Int) := by omega
      have t1 : (k : Int) < (n : Int) := by omega
      have hb2 : t' ≤ 1000000000000 := by omega
      rw [hm2] at d1
      rw [ht2]
      have HM := Lib.hid ht3
      clear hvc hc hm2 ht2 ht3 ht hb1 hsn hnb
      go_wp2_with (at_builtin; refine wpList_pushI _ (t' : Int) rfl _ _ rfl B so (k + 1) co _ rfl HB.out.1 rfl (by omega) hsz ?_; intro sa3 cap3 w3 hown2 hk2 hs2; have HR := Lib.hid (And.intro hown2 (HB.out.2.pushed HB.out.1 (by rw [HBB.out]; exact Nat.le_refl _) hk2)); clear hown2 hk2)
      go_roundw
      case rel =>
        refine ⟨k + 1, sa3, cap3, by omega, by go_num, by rw [HM.out], rfl, ?_, HR.out.2⟩
        have := HR.out.1
        rw [HT.out.2, HM.out, IV_append]
        exact this
      case measure => simp [intOf]; omega
    · obtain rfl : k = n := by omega
      have e1 : (startsI L).take (k + 1) = startsI L := List.take_of_length_le (by rw [startsI_length]; omega)
      have t0 : ¬ (k : Int) < (k : Int) := by omega
      rw [e1] at HB
      clear e1
      go_wp2
      go_ret
      rw [HBB.out]
      exact ⟨so, co, rfl, HB.out.1, HB.out.2⟩
end Go.Proofs.Ytllpeenjfjobaaa
