/-
  Bytes made of numbers (the reference's Bytes of layer 26). Conditions: a slice that is one.
-/
import Derived.Test.YtllpeenjfjobaaaPush
import Derived.Test.YtllpeenjfjobaaaOpen
import Derived.Test.YtllpeenjfjobaaaAround
namespace Go.Proofs.Ytllpeenjfjobaaa
open Go.RowKit

/-- One of the six bytes of a number. -/
def sixAt (n k : Nat) : UInt8 := UInt8.ofNat (n / 7 + k * (n % 7))
def six (z : Int) : List UInt8 := (List.range 6).map (sixAt (around z 1000000).toNat)
def sixes (l : List Int) : List UInt8 := l.flatMap six
def byt (l : List Int) : List UInt8 := sixes (l.take 50)
theorem six_length (z : Int) : (six z).length = 6 := by simp [six]
theorem sixes_length (l : List Int) : (sixes l).length = 6 * l.length := by
  unfold sixes
  induction l with
  | nil => rfl
  | cons a l ih => simp only [List.flatMap_cons, List.length_append, ih, six_length, List.length_cons]; omega
theorem byt_length (l : List Int) : (byt l).length = 6 * min 50 l.length := by unfold byt; rw [sixes_length, List.length_take]
theorem sixes_snoc (l : List Int) (j : Nat) (z : Int) (h : l[j]? = some z) : sixes (l.take (j + 1)) = sixes (l.take j) ++ six z := by
  rw [List.take_succ_eq_append_getElem (List.getElem?_eq_some_iff.1 h).1, (List.getElem?_eq_some_iff.1 h).2]
  simp [sixes]
theorem six_snoc (z : Int) (k : Nat) (hk : k < 6) : (six z).take (k + 1) = (six z).take k ++ [sixAt (around z 1000000).toNat k] := by
  rw [List.take_succ_eq_append_getElem (by rw [six_length]; exact hk)]
  simp [six]

def BytRel (w : World) (l : List Int) (out i : Value) (wr : World) : Prop :=
  ∃ (j : Nat) (so : Option Addr) (co : Nat), i = .int .i64 (j : Int) ∧ j ≤ l.length ∧ j ≤ 50 ∧ out = .slice so (6 * j) co ∧ wr.ownsRow w.heap.size 5 1 (.slice so (6 * j) co) (6 * j) (BV (sixes (l.take j))) ∧ Keeps (fun _ => False) w wr
def BytIn (w : World) (j : Nat) (b p : List UInt8) (out k : Value) (wr : World) : Prop :=
  ∃ (q : Nat) (so : Option Addr) (co : Nat), k = .int .i64 (q : Int) ∧ q ≤ 6 ∧ out = .slice so (6 * j + q) co ∧ wr.ownsRow w.heap.size 5 1 (.slice so (6 * j + q) co) (6 * j + q) (BV (b ++ p.take q)) ∧ Keeps (fun _ => False) w wr

set_option maxHeartbeats 1000000 in
set_option maxRecDepth 10000 in
theorem byt_any (sa : Option Addr) (n cap : Nat) (l : List Int) (w : World) (hl : Sl w sa n cap (IV l)) (hb : ∀ z ∈ l, -9223372036854775808 ≤ z ∧ z ≤ 9223372036854775807) :
    Calls Try.prog 11 #[.slice sa n cap] w fun e w' => ∃ sa' cap', e = .returned (.slice sa' (byt l).length cap') ∧ w'.ownsRow w.heap.size 5 1 (.slice sa' (byt l).length cap') (byt l).length (BV (byt l)) ∧ Keeps (fun _ => False) w w' := by
  have hll : l.length = n := by have := hl.len; simpa using this
  have hle := hl.le
  have hcb := hl.capB
  have HL := Lib.hid (And.intro hl (And.intro hll hb))
  clear hl hll hb
  go_enter Try.func11, Try.ntmps11
  go_wp2_with fail
  go_loopw [3, 4] (fun out i wr => BytRel w l out i wr) (fun _ i _ => 50 - (intOf i).toNat)
  case atStart => exact ⟨0, none, 0, rfl, Nat.zero_le _, Nat.zero_le _, rfl, by simpa [sixes, BV] using World.ownsRow_nil w _ _ _, Keeps.refl _ _⟩
  case round =>
    obtain ⟨j, so, co, rfl, hj, hj50, rfl, hown, hk⟩ := hrel
    have HB := Lib.hid (And.intro hj (And.intro hown hk))
    clear hown hk hj
    by_cases hlt : j < n
    · by_cases hlt2 : j < 50
      · obtain ⟨z, hz⟩ : ∃ z, l[j]? = some z := ⟨_, List.getElem?_eq_getElem (by have := HL.out.2.1; omega)⟩
        have hzb := HL.out.2.2 z (List.mem_of_getElem? hz)
        obtain ⟨b, off, rfl⟩ := HL.out.1.isSome (by omega)
        have hcell : wr.cell? ⟨b, off + j, none⟩ = some (.int .i64 z) := (HL.out.1.quiet HB.out.2.2).cell (by rw [IV_get, hz]; rfl)
        obtain ⟨x, hx, hxe, hcall⟩ := around_nat z 1000000 wr hzb.1 hzb.2 (by decide) (by decide)
        have t1 : (j : Int) < (n : Int) := by omega
        have t2 : (j : Int) < 50 := by omega
        have t3 : (0 : Int) ≤ (j : Int) := by omega
        have HC := Lib.hid hcall
        have HZ : Hid (l[j]? = some z ∧ (around z 1000000).toNat = x) := ⟨hz, by rw [show around z 1000000 = (x : Int) from hxe]; omega⟩
        clear hcall hz hxe hzb
        obtain ⟨wo, hwo⟩ : ∃ wo : World, wo = wr := ⟨_, rfl⟩
        rw [← hwo] at HB HC hcell ⊢
        clear hwo wr
        go_wp2_with fail
        refine HC.out.mono ?_
        rintro e _ ⟨rfl, rfl⟩
        clear HC
        go_wp2_with fail
        go_loopw [3, 6] (fun out k wr => BytIn w j (sixes (l.take j)) (six z) out k wr) (fun _ k _ => 6 - (intOf k).toNat)
        case atStart => exact ⟨0, so, co, rfl, by omega, rfl, by simpa using HB.out.2.1, HB.out.2.2⟩
        case round =>
          obtain ⟨q, so2, co2, rfl, hq, rfl, hown, hk⟩ := hrel
          have hsz := hk.size
          have HD := Lib.hid (And.intro hown hk)
          clear hown hk
          by_cases hlt3 : q < 6
          · have hw : IntKind.u8.wrap ((x : Int) / 7 + (q : Int) * ((x : Int) % 7)) = ((sixAt x q).toNat : Int) := by
              unfold sixAt
              rw [UInt8.toNat_ofNat', IntKind.wrap_u8]
              have e : (x : Int) / 7 + (q : Int) * ((x : Int) % 7) = ((x / 7 + q * (x % 7) : Nat) : Int) := by simp
              rw [e]
              omega
            obtain ⟨y, hy⟩ : ∃ y, sixAt x q = y := ⟨_, rfl⟩
            rw [hy] at hw
            have u1 : (q : Int) < 6 := by omega
            obtain ⟨r, hr⟩ : ∃ r, x % 7 = r := ⟨_, rfl⟩
            have hr7 : r < 7 := by omega
            have e1 : (x : Int) % 7 = (r : Int) := by omega
            have hm : q * r ≤ 36 := by
              have := Nat.mul_le_mul (show q ≤ 6 by omega) (show r ≤ 6 by omega)
              omega
            obtain ⟨s, hs⟩ : ∃ s, q * r = s := ⟨_, rfl⟩
            have e2 : (q : Int) * (r : Int) = (s : Int) := by rw [← hs]; simp
            obtain ⟨v, hv⟩ : ∃ v, x / 7 = v := ⟨_, rfl⟩
            have e3 : (x : Int) / 7 = (v : Int) := by omega
            rw [e1, e2, e3] at hw
            have HY := Lib.hid hy
            clear hy hr hs hv
            go_wp2_with (at_builtin; refine wpList_pushB _ (y.toNat : Int) rfl _ _ rfl w.heap.size so2 (6 * j + q) co2 _ rfl HD.out.1 rfl (by omega) hsz ?_; intro sa3 cap3 w3 hown2 hk2 hs2; have HR := Lib.hid (And.intro hown2 (HD.out.2.pushed HD.out.1 (Nat.le_refl _) hk2)); clear hown2 hk2)
            go_roundw
            case rel =>
              refine ⟨q + 1, sa3, cap3, rfl, by omega, rfl, ?_, HR.out.2⟩
              rw [six_snoc z q hlt3, HZ.out.2, HY.out, ← List.append_assoc, BV_append]
              exact HR.out.1
            case measure => simp [intOf]; omega
          · obtain rfl : q = 6 := by omega
            go_wp2
            go_roundw
            case rel =>
              refine ⟨j + 1, so2, co2, by go_num, by have := HL.out.2.1; omega, by omega, rfl, ?_, HD.out.2⟩
              rw [sixes_snoc l j z HZ.out.1, show 6 * (j + 1) = 6 * j + 6 by omega]
              have := HD.out.1
              rwa [List.take_of_length_le (l := six z) (by rw [six_length]; exact Nat.le_refl _)] at this
            case measure => simp [intOf]; omega
      · have t1 : (j : Int) < (n : Int) := by omega
        have t2 : ¬ (j : Int) < 50 := by omega
        have hF : Hid (sixes (l.take j) = byt l ∧ (byt l).length = 6 * j) := by
          obtain rfl : j = 50 := by omega
          exact ⟨rfl, by rw [byt_length, HL.out.2.1]; omega⟩
        go_wp2
        go_ret
        rw [hF.out.2]
        have := HB.out.2.1
        rw [hF.out.1] at this
        exact ⟨so, co, rfl, this, HB.out.2.2⟩
    · have t1 : ¬ (j : Int) < (n : Int) := by omega
      have hF : Hid (sixes (l.take j) = byt l ∧ (byt l).length = 6 * j) := by
        have h1 := HB.out.1
        have h2 := HL.out.2.1
        have e : j = l.length := by omega
        refine ⟨?_, by rw [byt_length]; omega⟩
        unfold byt
        rw [List.take_of_length_le (by omega), List.take_of_length_le (by omega)]
      go_wp2
      go_ret
      rw [hF.out.2]
      have := HB.out.2.1
      rw [hF.out.1] at this
      exact ⟨so, co, rfl, this, HB.out.2.2⟩
end Go.Proofs.Ytllpeenjfjobaaa
