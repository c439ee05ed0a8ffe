/-
  Small helpers of the references: Around, Few, Has. Conditions: numbers that are int's, slices of fewer than 2^47 bytes.
-/
import Derived.Test.YtllfiplhfbbhaaaClone
namespace Go.Proofs.Ytllfiplhfbbhaaa
open Go.RowKit

/-- A number from 0 on, below most. -/
def around (n most : Int) : Int := (if n < 0 then -(n + 1) else n) % most
theorem around_pos (n most : Int) (h : 0 < most) : 0 ≤ around n most ∧ around n most < most := by
  unfold around
  exact ⟨Int.emod_nonneg _ (by omega), Int.emod_lt_of_pos _ h⟩

set_option maxHeartbeats 400000 in
theorem around_any (n most : Int) (w : World) (h1 : -9223372036854775808 ≤ n) (h2 : n ≤ 9223372036854775807) (hm : 0 < most) (hm2 : most ≤ 9223372036854775807) :
    Calls Try.prog 30 #[.int .i64 n, .int .i64 most] w fun e w' => e = .returned (.int .i64 (around n most)) ∧ w = w' := by
  have hz : (most == 0) = false := by simp; omega
  by_cases hn : n < 0
  · have hx : around n most = -((n + 1).tmod most) := by unfold around; rw [if_pos hn, ← Int.neg_tmod, Int.tmod_eq_emod_of_nonneg (by omega)]
    have H := Lib.hid hx
    clear hx
    go_enter Try.func30, Try.ntmps30
    go_wp2
    go_ret
    exact ⟨by rw [H.out]; rfl, rfl⟩
  · have hx : around n most = n % most := by unfold around; rw [if_neg hn]
    have H := Lib.hid hx
    clear hx
    have a1 : 0 ≤ n := by omega
    go_enter Try.func30, Try.ntmps30
    go_wp2
    go_ret
    exact ⟨by rw [H.out]; rfl, rfl⟩

/-- What a slice holds: the cells of l lie at its address. -/
def Lies (w : World) (sa : Option Addr) (l : List Value) : Prop := ∀ ad, sa = some ad → ∀ j u, l[j]? = some u → w.cell? (ad.add j) = some u

set_option maxHeartbeats 400000 in
/-- The first bytes, in a row of their own. -/
theorem few_any (sa : Option Addr) (len cap most : Nat) (l : List UInt8) (w : World) (hl : l.length = len) (hlc : len ≤ cap) (hcap : cap ≤ 9223372036854775807) (hmost : most ≤ 1000000)
    (hnil : sa = none → len = 0 ∧ cap = 0) (hsrc : Lies w sa (BV l)) :
    Calls Try.prog 29 #[.slice sa len cap, .int .i64 most] w fun e w' => ∃ sa' cap', e = .returned (.slice sa' (min len most) cap') ∧
      w'.ownsRow w.heap.size 5 1 (.slice sa' (min len most) cap') (min len most) (BV (l.take most)) ∧ Keeps (fun _ => False) w w' := by
  obtain ⟨k, hk⟩ : ∃ k, min len most = k := ⟨_, rfl⟩
  rw [hk]
  have e1 : (if most < len then (most : Int) else (len : Int)) = (k : Int) := by split <;> omega
  have i1 : (0 : Int) ≤ (k : Int) := by omega
  have i2 : (k : Int) ≤ (len : Int) := by omega
  have i3 : (k : Int) ≤ (cap : Int) := by omega
  have i4 : (len : Int) ≤ (cap : Int) := by omega
  obtain ⟨i0, hi, hz0, hz1, hz2⟩ := info_parts infoByte
  have HT : Hid ((BV (l.take most)).length = k * 1) := by show _ = _; simp; omega
  have HNil : Hid (sa = none → k = 0 ∧ cap = 0) := fun h => by have := hnil h; omega
  have HS : Hid (∀ ad, sa = some ad → ∀ (j : Nat) (u : Value), (BV (l.take most))[j]? = some u → w.cell? (ad.add j) = some u) := by
    intro ad had j u hu
    refine hsrc ad had j u ?_
    rw [BV_get] at hu ⊢
    rw [List.getElem?_take] at hu
    split at hu
    · exact hu
    · cases hu
  have hkb : k ≤ 1000000 := by omega
  clear hk hl hsrc hnil
  go_enter Try.func29, Try.ntmps29
  go_wp2_with (at_builtin; refine wpList_app _ rfl _ _ 27 rfl w.heap.size 5 i0 (.int .u8 0) 1 1 Try.underlying27 hi hz0 hz1 hz2 rfl (by decide) (.slice none 0 0) 0 [] rfl (World.ownsRow_nil w _ _ _) sa k cap (BV (l.take most)) rfl HT.out HNil.out HS.out (BV_one _) (by unfold maxLen; omega) (by omega) (Nat.le_refl _) ?_; intro sa' cap' w' hown hg hat hnn; have HH := Lib.hid (And.intro hown hg); clear hown hg hat hnn)
  go_ret
  obtain ⟨hown, hg⟩ := HH.out
  rw [Nat.zero_add, List.nil_append] at hown
  exact ⟨sa', cap', by simp, hown, (Keeps.refl _ w).grown hg (fun k hk _ => by simp [Value.ownBlock] at hk)⟩

/-- Is a number one of some? -/
def hasB (l : List Int) (n : Int) : Bool := l.any (· == n)
theorem hasB_snoc (l : List Int) (k : Nat) (n z : Int) (h : l[k]? = some z) : hasB (l.take (k + 1)) n = (hasB (l.take k) n || z == n) := by
  have hk := (List.getElem?_eq_some_iff.1 h).1
  rw [List.take_succ_eq_append_getElem hk, (List.getElem?_eq_some_iff.1 h).2]
  simp [hasB]

def HasRel (l : List Int) (n : Int) (m : Nat) (i : Value) : Prop := ∃ k : Nat, k ≤ m ∧ i = .int .i64 k ∧ hasB (l.take k) n = false

set_option maxHeartbeats 400000 in
theorem has_any (b off len cap : Nat) (l : List Int) (n : Int) (w : World) (hl : l.length = len) (hlen : len ≤ 1000000) (sa : Option Addr) (hsa : 0 < len → sa = some ⟨b, off, none⟩)
    (hsrc : ∀ j z, l[j]? = some z → w.cell? ⟨b, off + j, none⟩ = some (.int .i64 z)) :
    Calls Try.prog 31 #[.slice sa len cap, .int .i64 n] w fun e w' => e = .returned (.bool (hasB l n)) ∧ w = w' := by
  have HL := Lib.hid (And.intro hl (And.intro hsa hsrc))
  clear hl hsa hsrc
  go_enter Try.func31, Try.ntmps31
  go_wp2
  go_loop [5] (fun i => HasRel l n len i) (fun i => len - (intOf i).toNat)
  case atStart => exact ⟨0, Nat.zero_le _, rfl, by simp [hasB]⟩
  case round =>
    obtain ⟨k, hk, rfl, hrel⟩ := hrel
    have HR := Lib.hid hrel
    clear hrel
    by_cases hlt : k < len
    · obtain ⟨hl, hsa, hsrc⟩ := HL.out
      obtain rfl := hsa (by omega)
      obtain ⟨z, hz⟩ : ∃ z, l[k]? = some z := ⟨_, List.getElem?_eq_getElem (by omega)⟩
      have hc := hsrc k z hz
      have HS := Lib.hid (hasB_snoc l k n z hz)
      clear hl hsa hsrc
      have HZ := Lib.hid hz
      clear hz
      by_cases hzn : z = n
      · have hb : (z == n) = true := by simp [hzn]
        have hr : hasB l n = true := by
          have : z ∈ l := List.mem_of_getElem? HZ.out
          simp only [hasB, List.any_eq_true]
          exact ⟨z, this, hb⟩
        have H2 := Lib.hid hr
        clear hr hzn
        go_wp2
        go_ret
        exact ⟨by rw [H2.out]; rfl, rfl⟩
      · have hb : (z == n) = false := by simp [hzn]
        have H2 : Hid (hasB (l.take (k + 1)) n = false) := by show _ = _; rw [HS.out, HR.out, hb]; rfl
        clear hzn
        go_wp2
        go_round
        case rel => exact ⟨k + 1, by omega, by go_num, H2.out⟩
        case measure => simp [intOf]; omega
    · have hr : hasB l n = false := by
        have := HR.out
        rw [List.take_of_length_le (by rw [HL.out.1]; omega)] at this
        exact this
      have H2 := Lib.hid hr
      clear hr
      go_wp2
      go_ret
      exact ⟨by rw [H2.out]; rfl, rfl⟩
end Go.Proofs.Ytllfiplhfbbhaaa
