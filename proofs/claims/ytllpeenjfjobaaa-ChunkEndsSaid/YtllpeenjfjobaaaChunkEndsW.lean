/-
  The law ChunkEnds: the walk. Conditions: the arguments are what came in.
-/
import Derived.Test.YtllpeenjfjobaaaLives26
import Derived.Test.YtllpeenjfjobaaaByt
namespace Go.Proofs.Ytllpeenjfjobaaa
open Go.RowKit

def EnRel (w : World) (N : Nat) (i : Value) (wr : World) : Prop := ∃ k : Nat, k ≤ N ∧ i = .int .i64 (k : Int) ∧ Keeps (fun _ => False) w wr
def EnIn (w : World) (N : Nat) (i : Value) (wr : World) : Prop := ∃ k : Nat, 0 < k ∧ k ≤ N ∧ i = .int .i64 (k : Int) ∧ Keeps (fun _ => False) w wr

set_option maxHeartbeats 2000000 in
set_option maxRecDepth 10000 in
theorem chunkEnds_walk (sa : Option Addr) (n cap : Nat) (l : List Int) (w : World) (hl : Sl w sa n cap (IV l)) (hb : ∀ z ∈ l, -9223372036854775808 ≤ z ∧ z ≤ 9223372036854775807) :
    Calls Try.prog 4 #[.slice sa n cap] w fun e w' => e = .returned (.bool true) ∧ Keeps (fun _ => False) w w' := by
  have HA := Lib.hid (byt_any sa n cap l w hl hb)
  clear hl hb
  go_enter Try.func4, Try.ntmps4
  have HK := Lib.hid (Keeps.refl (fun _ => False) w)
  go_wp2_with fail
  refine HA.out.mono ?_
  rintro e w1 ⟨s1, c1, rfl, hown, hk⟩
  replace HK := Lib.hid (HK.out.quiet hk)
  have hlen := byt_length l
  generalize byt l = b at *
  obtain ⟨nb, hnb⟩ : ∃ nb, b.length = nb := ⟨_, rfl⟩
  rw [hnb] at hown hlen ⊢
  have hcc := cut_count b
  have hch := cut_chunk b
  have hce := cut_ends b
  have HT := Lib.hid (cut_any s1 nb c1 b w1 (Sl.of_own hown) (by omega) (by omega))
  generalize cutL b = L at *
  obtain ⟨N, hN⟩ : ∃ N, L.length = N := ⟨_, rfl⟩
  rw [hN] at hcc HT hce
  have HL := Lib.hid (And.intro hch (And.intro hce hN))
  have hN3 : N ≤ 300 := by omega
  clear HA hk hown hlen hnb hch hce hN hcc
  go_wp2_with fail
  refine HT.out.mono ?_
  rintro e w2 ⟨s2, c2, vs, rfl, hown, hrows, hk⟩
  replace HK := Lib.hid (HK.out.quiet hk)
  have HO := Lib.hid (And.intro (Sl.of_own hown) hrows.reads)
  clear HT hown hrows hk
  go_wp2_with fail
  go_loopw [4] (fun i wr => EnRel w2 N i wr) (fun i _ => N - (intOf i).toNat)
  case atStart => exact ⟨0, Nat.zero_le _, rfl, Keeps.refl _ _⟩
  case round =>
    obtain ⟨k, hkN, rfl, hkp⟩ := hrel
    by_cases hlt : k < N
    · obtain ⟨c, hc⟩ : ∃ c, L[k]? = some c := ⟨_, List.getElem?_eq_getElem (by have := HL.out.2.2; omega)⟩
      have hcc := HL.out.1 c (List.mem_of_getElem? hc)
      obtain ⟨sc, cc, hvc, hsc⟩ := HO.out.2.row k c hc
      obtain ⟨b2, o2, rfl⟩ := HO.out.1.isSome (by omega)
      have d1 : wr.cell? ⟨b2, o2 + k, none⟩ = some (.slice sc c.length cc) := (HO.out.1.quiet hkp).cell hvc
      have hcone := hcc.one
      have hc1 := hcc.1
      have hc2 := hcc.2.1
      have hlast : k + 1 < N → endsB c = true := fun h => HL.out.2.1 k c h hc
      obtain ⟨m, hm⟩ : ∃ m, c.length = m := ⟨_, rfl⟩
      rw [hm] at hsc d1 hc1 hc2
      have hmc := hsc.le
      have hmcc := hsc.capB
      have HC := Lib.hid (And.intro (hsc.quiet hkp) (And.intro hcc (And.intro hcone (And.intro hm hlast))))
      have HP := Lib.hid hkp
      have t0 : (0 : Int) ≤ (k : Int) := by omega
      have t1 : (k : Int) < (N : Int) := by omega
      have t2 : ¬ (m : Int) < 1 := by omega
      have t3 : ¬ (m : Int) > 64 := by omega
      have t3b : (m : Int) ≤ 64 := by omega
      clear hc hcc hvc hsc hcone hlast hm hkp
      by_cases hk1 : k + 1 < N
      · have he := HC.out.2.2.2.2 hk1
        have h8 := ends_len he
        have t4 : (k : Int) + 1 < (N : Int) := by omega
        have t5 : ¬ (m : Int) < 8 := by have := HC.out.2.2.2.1; omega
        have HE := Lib.hid (ends_any sc m cc c wr HC.out.1)
        rw [he] at HE
        clear he h8 hk1
        go_wp2_with fail
        refine HE.out.mono ?_
        rintro e w3 ⟨rfl, hk⟩
        have HP2 := Lib.hid (HP.out.quiet hk)
        have HS := Lib.hid (HC.out.1.quiet hk)
        clear HE hk d1 t4 t5
        go_wp2_with fail
        go_loopw [6] (fun i wr => EnIn w3 m i wr) (fun i _ => m - (intOf i).toNat)
        case atStart => exact ⟨1, by omega, by omega, rfl, Keeps.refl _ _⟩
        case round =>
          obtain ⟨q, hq0, hqm, rfl, hkq⟩ := hrel
          by_cases hq : q < m
          · have HE := Lib.hid (ends_any sc q cc (c.take q) _ (by rw [← BV_take]; exact (HS.out.quiet hkq).upto (by omega)))
            rw [HC.out.2.1.2.2 q hq0 (by have := HC.out.2.2.2.1; omega)] at HE
            have u0 : (q : Int) < (m : Int) := by omega
            have u1 : (0 : Int) ≤ (q : Int) := by omega
            have u2 : (q : Int) ≤ (cc : Int) := by omega
            have HQ := Lib.hid hkq
            clear hkq
            go_wp2_with fail
            refine HE.out.mono ?_
            rintro e w5 ⟨rfl, hk⟩
            replace HQ := Lib.hid (HQ.out.quiet hk)
            clear HE hk
            go_wp2
            go_roundw
            case rel => exact ⟨q + 1, by omega, by omega, by go_num, HQ.out⟩
            case measure => simp [intOf]; omega
          · have u0 : ¬ (q : Int) < (m : Int) := by omega
            have HT := Lib.hid (cut_any sc m cc c _ (HS.out.quiet hkq) (by omega) (by rw [HC.out.2.2.1]; simp))
            rw [HC.out.2.2.1] at HT
            have HQ := Lib.hid (HP2.out.quiet hkq)
            clear hkq
            go_wp2_with fail
            refine HT.out.mono ?_
            rintro e w5 ⟨s5, c5, vs5, rfl, hown, hrows, hk⟩
            replace HQ := Lib.hid (HQ.out.quiet hk)
            clear HT hown hrows hk
            go_wp2
            go_roundw
            case rel => exact ⟨k + 1, by omega, by go_num, HQ.out⟩
            case measure => simp [intOf]; omega
      · have t4 : ¬ (k : Int) + 1 < (N : Int) := by omega
        have HS := Lib.hid HC.out.1
        have HP2 := HP
        obtain ⟨w3, hw3⟩ : ∃ w3, w3 = wr := ⟨_, rfl⟩
        rw [← hw3] at HS HP2 d1 ⊢
        clear HP hk1 hw3
        go_wp2_with fail
        go_loopw [6] (fun i wr => EnIn w3 m i wr) (fun i _ => m - (intOf i).toNat)
        case atStart => exact ⟨1, by omega, by omega, rfl, Keeps.refl _ _⟩
        case round =>
          obtain ⟨q, hq0, hqm, rfl, hkq⟩ := hrel
          by_cases hq : q < m
          · have HE := Lib.hid (ends_any sc q cc (c.take q) _ (by rw [← BV_take]; exact (HS.out.quiet hkq).upto (by omega)))
            rw [HC.out.2.1.2.2 q hq0 (by have := HC.out.2.2.2.1; omega)] at HE
            have u0 : (q : Int) < (m : Int) := by omega
            have u1 : (0 : Int) ≤ (q : Int) := by omega
            have u2 : (q : Int) ≤ (cc : Int) := by omega
            have HQ := Lib.hid hkq
            clear hkq
            go_wp2_with fail
            refine HE.out.mono ?_
            rintro e w5 ⟨rfl, hk⟩
            replace HQ := Lib.hid (HQ.out.quiet hk)
            clear HE hk
            go_wp2
            go_roundw
            case rel => exact ⟨q + 1, by omega, by omega, by go_num, HQ.out⟩
            case measure => simp [intOf]; omega
          · have u0 : ¬ (q : Int) < (m : Int) := by omega
            have HT := Lib.hid (cut_any sc m cc c _ (HS.out.quiet hkq) (by omega) (by rw [HC.out.2.2.1]; simp))
            rw [HC.out.2.2.1] at HT
            have HQ := Lib.hid (HP2.out.quiet hkq)
            clear hkq
            go_wp2_with fail
            refine HT.out.mono ?_
            rintro e w5 ⟨s5, c5, vs5, rfl, hown, hrows, hk⟩
            replace HQ := Lib.hid (HQ.out.quiet hk)
            clear HT hown hrows hk
            go_wp2
            go_roundw
            case rel => exact ⟨k + 1, by omega, by go_num, HQ.out⟩
            case measure => simp [intOf]; omega
    · have t0 : ¬ (k : Int) < (N : Int) := by omega
      replace HK := Lib.hid (HK.out.quiet hkp)
      clear hkp
      go_wp2_with fail
      refine (lives_any wr).mono ?_
      rintro e w9 ⟨rfl, hk⟩
      replace HK := Lib.hid (HK.out.quiet hk)
      clear hk
      go_wp2
      go_ret
      exact ⟨rfl, HK.out⟩
end Go.Proofs.Ytllpeenjfjobaaa
