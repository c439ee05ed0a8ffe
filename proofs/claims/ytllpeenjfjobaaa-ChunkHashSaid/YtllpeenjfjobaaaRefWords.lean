/-
  The words of bytes (the reference's Words). Condition: fewer than 10^9 bytes.
-/
import Derived.Test.YtllpeenjfjobaaaWords
import Derived.Test.YtllpeenjfjobaaaPush
namespace Go.Proofs.Ytllpeenjfjobaaa
open Go.RowKit

def RwOut (w : World) (l : List UInt8) (out i : Value) (wr : World) : Prop :=
  ∃ (j : Nat) (so : Option Addr) (co : Nat), i = .int .i64 ((7 * j : Nat) : Int) ∧ j ≤ (l.length + 6) / 7 ∧ out = .slice so j co ∧ wr.ownsRow w.heap.size 38 1 (.slice so j co) j (NV ((wordsOf l).take j)) ∧ Keeps (fun _ => False) w wr
def RwIn (p : List UInt8) (i : Nat) (x k : Value) : Prop := ∃ q : Nat, k = .int .i64 ((i : Int) + (q : Int) - 1) ∧ q ≤ p.length ∧ x = .int .u64 (le (p.drop q) : Int)

set_option maxHeartbeats 1000000 in
set_option maxRecDepth 10000 in
theorem refWords_any (sa : Option Addr) (n cap : Nat) (l : List UInt8) (w : World) (hl : Sl w sa n cap (BV l)) (hn : n ≤ 1000000000) :
    Calls Try.prog 34 #[.slice sa n cap] w fun e w' => ∃ sa' cap', e = .returned (.slice sa' (wordsOf l).length cap') ∧ w'.ownsRow w.heap.size 38 1 (.slice sa' (wordsOf l).length cap') (wordsOf l).length (NV (wordsOf l)) ∧ Keeps (fun _ => False) w w' := by
  have hll : l.length = n := by have := hl.len; simpa using this
  have HL := Lib.hid (And.intro hl hll)
  clear hl hll
  go_enter Try.func34, Try.ntmps34
  go_wp2_with fail
  go_loopw [3, 4] (fun out i wr => RwOut w l out i wr) (fun _ i _ => n + 7 - (intOf i).toNat)
  case atStart => exact ⟨0, none, 0, rfl, Nat.zero_le _, rfl, by simpa [NV] using World.ownsRow_nil w _ _ _, Keeps.refl _ _⟩
  case round =>
    obtain ⟨j, so, co, rfl, hj, rfl, hown, hk⟩ := hrel
    have hsz := hk.size
    have HB := Lib.hid (And.intro hj (And.intro hown hk))
    clear hown hk hj
    by_cases hlt : 7 * j < n
    · obtain ⟨i, hi⟩ : ∃ i, 7 * j = i := ⟨_, rfl⟩
      obtain ⟨p, hp⟩ : ∃ p, (l.drop (7 * j)).take 7 = p := ⟨_, rfl⟩
      obtain ⟨m, hm⟩ : ∃ m, p.length = m := ⟨_, rfl⟩
      have hm2 : m = min 7 (n - i) := by rw [← hm, ← hp, List.length_take, List.length_drop, HL.out.2, hi]
      obtain ⟨b, off, rfl⟩ := HL.out.1.isSome (by omega)
      have hpc : ∀ q c, p[q]? = some c → wr.cell? ⟨b, off + (i + q), none⟩ = some (.int .u8 c.toNat) := by
        intro q c hc
        refine (HL.out.1.keep HB.out.2.2 (fun _ _ _ _ h => h)).cell ?_
        rw [BV_get]
        have : l[i + q]? = some c := by
          rw [← hp, List.getElem?_take] at hc
          split at hc
          · rw [List.getElem?_drop, hi] at hc; exact hc
          · cases hc
        rw [this]; rfl
      have e1 : (if (i : Int) + 7 < (n : Int) then (i : Int) + 7 else (n : Int)) = (i : Int) + (m : Int) := by split <;> omega
      have hlt2 : (i : Int) < (n : Int) := by omega
      have hm7 : m ≤ 7 := by omega
      have him : i + m ≤ n := by omega
      have HP := Lib.hid (And.intro hpc (And.intro hp (And.intro hm (And.intro hi hm2))))
      rw [hi]
      clear hpc hp hm hi hm2
      obtain ⟨wo, hwo⟩ : ∃ wo : World, wr = wo := ⟨_, rfl⟩
      subst hwo
      obtain ⟨wo, hwo⟩ : ∃ wo : World, wo = wr := ⟨_, rfl⟩
      rw [← hwo] at HB HP hsz ⊢
      clear hwo wr
      go_wp2_with fail
      go_loopw [5, 6] (fun x k wx => RwIn p i x k ∧ wx = wo) (fun _ k _ => (intOf k + 1 - i).toNat)
      case atStart => exact ⟨⟨m, rfl, by rw [HP.out.2.2.1]; exact Nat.le_refl _, by rw [List.drop_of_length_le (by rw [HP.out.2.2.1]; exact Nat.le_refl _)]; rfl⟩, rfl⟩
      case round =>
        obtain ⟨⟨q, rfl, hq, rfl⟩, rfl⟩ := hrel
        cases q with
        | zero =>
          have t1 : ¬ (i : Int) ≤ (i : Int) + ((0 : Nat) : Int) - 1 := by omega
          have hw : le (p.drop 0) = wordAt l j := by rw [List.drop_zero]; unfold wordAt; rw [HP.out.2.1]
          have hwl := wordAt_lt l j
          rw [hw]
          obtain ⟨x, hx⟩ : ∃ x, wordAt l j = x := ⟨_, rfl⟩
          rw [hx]
          have HX := Lib.hid hx
          have HO := Lib.hid HB.out.2.1
          have hjb : j ≤ 1000000000 := by have := HB.out.1; have := HL.out.2; omega
          clear hw hwl hx
          generalize (i : Int) + ((0 : Nat) : Int) - 1 = kk at *
          go_wp2_with (at_builtin; refine wpList_pushN _ (x : Int) rfl _ _ rfl w.heap.size so j co (NV ((wordsOf l).take j)) rfl HO.out rfl (by omega) hsz ?_; intro sa2 cap2 w2 hown2 hk2 hs2; have HR := Lib.hid (And.intro hown2 hk2); clear hown2 hk2)
          go_roundw
          case rel =>
            obtain ⟨_, h2, h3, h4, h5⟩ := HP.out
            have hlt3 : j < (wordsOf l).length := by rw [wordsOf_length, HL.out.2]; omega
            refine ⟨j + 1, sa2, cap2, by rw [← h4]; go_num, by have := HL.out.2; omega, rfl, ?_, HB.out.2.2.pushed HO.out (Nat.le_refl _) HR.out.2⟩
            have e : NV ((wordsOf l).take (j + 1)) = NV ((wordsOf l).take j) ++ [.int .u64 (x : Int)] := by
              rw [List.take_succ_eq_append_getElem hlt3, NV_append]
              congr 1
              simp only [NV, List.map_cons, List.map_nil, wordsOf, List.getElem_map, List.getElem_range]
              rw [HX.out]
            rw [e]
            exact HR.out.1
          case measure => simp [intOf]; omega
        | succ q =>
          have e2 : (i : Int) + ((q + 1 : Nat) : Int) - 1 = ((i + q : Nat) : Int) := by omega
          have hqm : q < p.length := by omega
          have hqm2 : q < m := by have := HP.out.2.2.1; omega
          obtain ⟨c, hc⟩ : ∃ c, p[q]? = some c := ⟨_, List.getElem?_eq_getElem hqm⟩
          have hcell := HP.out.1 q c hc
          have hd : le (p.drop q) = c.toNat + 256 * le (p.drop (q + 1)) := by
            rw [List.drop_eq_getElem_cons hqm, (List.getElem?_eq_some_iff.1 hc).2]; rfl
          have hb1 := le_lt (p.drop (q + 1))
          have hb2 : (p.drop (q + 1)).length ≤ 6 := by have := HP.out.2.2.1; rw [List.length_drop]; omega
          have hb3 : 256 ^ (p.drop (q + 1)).length ≤ 281474976710656 := Nat.le_trans (Nat.pow_le_pow_right (by decide) hb2) (by decide)
          obtain ⟨x, hx⟩ : ∃ x, le (p.drop (q + 1)) = x := ⟨_, rfl⟩
          rw [hx] at hd hb1 ⊢
          have hcl := c.toNat_lt
          have e3 : IntKind.u64.wrap ((x : Int) * 256) = ((x * 256 : Nat) : Int) := by have := Nat.lt_of_lt_of_le hb1 hb3; rw [IntKind.wrap_u64]; omega
          have e4 : IntKind.u64.wrap (c.toNat : Int) = (c.toNat : Int) := wrap_nat _ _ rfl (by omega)
          have e5 : IntKind.u64.wrap (((x * 256 : Nat) : Int) + (c.toNat : Int)) = ((c.toNat + 256 * x : Nat) : Int) := by have := Nat.lt_of_lt_of_le hb1 hb3; rw [IntKind.wrap_u64]; omega
          have t1 : (i : Int) ≤ ((i + q : Nat) : Int) := by omega
          have t2 : ((i + q : Nat) : Int) < (n : Int) := by omega
          have t3 : (0 : Int) ≤ ((i + q : Nat) : Int) := by omega
          have HD := Lib.hid hd
          rw [e2]
          have E2 : ((i + q : Nat) : Int) - 1 = (i : Int) + (q : Int) - 1 := by omega
          have HE := Lib.hid E2
          clear hd hb1 hb2 hb3 hx hc e2 E2
          generalize x * 256 = x2 at *
          generalize c.toNat + 256 * x = x3 at *
          have HKK : Hid (∀ kk, kk = i + q → q < (kk : Int) - i + 1) := fun kk h => by omega
          obtain ⟨kk, hkk⟩ : ∃ kk, i + q = kk := ⟨_, rfl⟩
          have HK2 := Lib.hid hkk
          rw [hkk] at hcell t1 t2 t3 HE ⊢
          clear hkk
          go_wp2
          refine ⟨⟨⟨q, by rw [HE.out], by omega, by rw [HD.out]⟩, trivial⟩, ?_⟩
          have := HK2.out
          simp [intOf]
          omega
    · have hj : j = (wordsOf l).length := by have h1 := HB.out.1; have h2 := HL.out.2; rw [wordsOf_length]; omega
      have t1 : ¬ ((7 * j : Nat) : Int) < (n : Int) := by omega
      have HJ := Lib.hid hj
      clear hj
      generalize 7 * j = i at *
      go_wp2
      go_ret
      have h1 := HB.out.2
      rw [HJ.out, List.take_length] at h1
      rw [HJ.out]
      exact ⟨so, co, by simp, h1.1, h1.2⟩
end Go.Proofs.Ytllpeenjfjobaaa
