/-
  The law StoreAgain: the walk. Conditions: the arguments are what came in.
-/
import Derived.Test.YtpojkhjenbbodaaRounds29
namespace Go.Proofs.Ytpojkhjenbbodaa
open Go.RowKit

theorem good400 : Good 200 100 0 (S0 400) := S0_good (H := 200) (Z := 100) (R := 0) rfl rfl (by omega)
def ApRel (w w1 w2 : World) (N p pd : Nat) (i : Value) (wr : World) : Prop :=
  ∃ (k : Nat) (S : SS) (F Q : Nat → Prop), k ≤ N ∧ i = .int .i64 (k : Int) ∧ At29 w w1 w2 wr 200 100 0 k p pd S F Q
def AgRel (w w1 w2 : World) (N p pd q pe : Nat) (i : Value) (wr : World) : Prop :=
  ∃ (k : Nat) (S : SS) (F Q F' Q' : Nat → Prop), k ≤ N ∧ i = .int .i64 (k : Int) ∧ At29 w w1 w2 wr 200 100 0 (14 + k) p pd S F Q ∧ At29 w w1 w2 wr 200 100 0 (14 + k) q pe S F' Q' ∧ (∀ j, F j → ¬ F' j ∧ ¬ Q' j) ∧ (∀ j, F' j → ¬ F j ∧ ¬ Q j)
theorem copy_open {H Z R : Nat} {S : SS} (h : Good H Z R S) : openS (((S0 (H + Z + Z + R)).d.write 0 S.d.now).sync) = S := by
  have e : ((S0 (H + Z + Z + R)).d.write 0 S.d.now).sync = S.d := by
    have hl := h.len
    have h1 : splice (List.replicate (H + Z + Z + R) (0 : UInt8)) 0 S.d.now = S.d.now := splice_all _ _ (by rw [List.length_replicate, hl])
    have h2 : S.d = DS.of S.d.now := by
      have := h.d
      rw [this]
      rfl
    rw [h2]
    show (⟨splice (List.replicate (H + Z + Z + R) 0) 0 S.d.now, splice (List.replicate (H + Z + Z + R) 0) 0 S.d.now, [], false⟩ : DS) = ⟨S.d.now, S.d.now, [], false⟩
    rw [h1]
  rw [e, good_open h]

set_option maxHeartbeats 4000000 in
set_option maxRecDepth 10000 in
theorem storeAgain_walk (la : Option Addr) (len cap : Nat) (zs : List Int) (lb : Option Addr) (lenb capb : Nat) (ys : List Int) (w : World) (hs : Sl w la len cap (IV zs)) (hwf : ∀ z ∈ zs, -9223372036854775808 ≤ z ∧ z ≤ 9223372036854775807) (hs2 : Sl w lb lenb capb (IV ys)) (hwf2 : ∀ z ∈ ys, -9223372036854775808 ≤ z ∧ z ≤ 9223372036854775807) :
    Calls Try.prog 6 #[.slice la len cap, .slice lb lenb capb] w fun e w' => e = .returned (.bool true) ∧ Keeps (fun _ => False) w w' := by
  have HM := Lib.hid (made_any 400 w (by omega) (by omega))
  have HXY := Lib.hid (And.intro hs (And.intro hwf (And.intro hs2 hwf2)))
  clear hs hwf hs2 hwf2
  go_enter Try.func6, Try.ntmps6
  go_wp2_with fail
  refine HM.out.mono ?_
  rintro e w1 ⟨p, pd, F0, Q0, rfl, hst, hk, hF, hQ⟩
  have HK := Lib.hid hk
  have HA := Lib.hid (acts_any la len cap zs w1 (HXY.out.1.quiet hk) HXY.out.2.1)
  have H1 := Lib.hid (And.intro hst (And.intro hF hQ))
  clear HM hst hk hF hQ
  go_wp2_with fail
  refine HA.out.mono ?_
  rintro e w2 ⟨sa, ca, rows, rfl, hmap, hat, hk⟩
  have HAT0 : Hid (At29 w w1 w2 w2 200 100 0 0 p pd (S0 400) F0 Q0) := Lib.hid (at_new good400 H1.out.1 H1.out.2.1 H1.out.2.2 hk)
  have HK12 : Hid (Keeps (fun _ => False) w w2) := Lib.hid (HK.out.quiet hk)
  have HRW := Lib.hid (rows_of (w := w) hmap hat)
  have hrl : rows.length ≤ 14 := by
    have := congrArg List.length hmap
    simp at this
    omega
  obtain ⟨N, hN⟩ : ∃ n, rows.length = n := ⟨_, rfl⟩
  rw [hN] at hrl HRW ⊢
  clear HA H1 hmap hat hk hN HK
  go_wp2_with fail
  go_loopw [8] (fun i wr => ApRel w w1 w2 N p pd i wr) (fun i _ => N - (intOf i).toNat)
  case atStart => exact ⟨0, S0 400, F0, Q0, Nat.zero_le _, rfl, HAT0.out⟩
  case round =>
    clear HAT0
    obtain ⟨k, S, F, Q, hk, rfl, hat⟩ := hrel
    have HX := Lib.hid hat
    clear hat
    by_cases hlt : k < N
    · obtain ⟨ga, doo, sb, nb, cb, bb, rfl, hbl, hac⟩ := HRW.out.at_ k hlt
      obtain ⟨c0, c1, hsl, hbf⟩ := hac wr HX.out.kp
      have HB := Lib.hid (And.intro hsl hbf)
      clear hac hsl hbf
      have j1 : (0 : Int) ≤ (k : Int) := by omega
      have j2 : (k : Int) < (N : Int) := by omega
      by_cases h3 : doo < 3
      · have HG := good_does HX.out.good (by have := HX.out.turn; omega) doo bb
        have HC := Lib.hid (does_any p pd S F Q wr HX.out.st doo sb nb cb bb HB.out.1 (by omega) (fun ad e h0 => HB.out.2 ad e h0 F HX.out.inF) (by rw [HX.out.good.lo]; simp) (by have := HX.out.turn; omega) (by have := HX.out.good.few; omega))
        generalize S.does doo bb = Y at *
        obtain ⟨S2, r2⟩ := Y
        have HG2 := Lib.hid HG
        clear HG
        go_wp2_with fail
        refine HC.out.mono ?_
        rintro e w3 ⟨rfl, F3, Q3, hst, hk3, hF3, hQ3⟩
        have hnx := HX.out.next hst HG2.out.1 (k + 1) (by have := HX.out.turn; have h9 : S2.turn ≤ S.turn + 1 := HG2.out.2; omega) hk3 hF3 hQ3
        have HY := Lib.hid hnx
        clear HX HC HG2 hst hk3 hF3 hQ3 c0 c1 hnx
        go_wp2
        go_roundw
        case rel => exact ⟨k + 1, S2, F3, Q3, hlt, by go_num, HY.out⟩
        case measure => simp [intOf]; omega
      · have hnx : At29 w w1 w2 wr 200 100 0 (k + 1) p pd S F Q := ⟨HX.out.st, HX.out.good, by have := HX.out.turn; omega, HX.out.inF, HX.out.inQ, HX.out.kp⟩
        have HY := Lib.hid hnx
        clear hnx
        go_wp2
        go_roundw
        case rel => exact ⟨k + 1, S, F, Q, hlt, by go_num, HY.out⟩
        case measure => simp [intOf]; omega
    · have j2 : ¬ (k : Int) < (N : Int) := by omega
      have hwz : w.heap.size ≤ w2.heap.size := HK12.out.size
      have hkw : Keeps (fun _ => False) w wr := HK12.out.trans HX.out.kp (fun j hj h => by omega)
      have hlt3 : ∀ j, F j ∨ Q j → w.heap.size ≤ j ∧ j < wr.heap.size := fun j h => by
        obtain ⟨_, _, _, _, _, _, hs⟩ := HX.out.st
        rcases h with h | h
        · exact ⟨(HX.out.inF j h).elim (fun a => a.1) (fun a => by omega), hs.flt j h⟩
        · exact ⟨(HX.out.inQ j h).elim (fun a => a.1) (fun a => by omega), hs.rlt j h⟩
      have HX2 := Lib.hid (And.intro HX.out.st (And.intro HX.out.good (And.intro (show S.turn ≤ 14 by have := HX.out.turn; omega) hlt3)))
      have HM := Lib.hid (made_any 400 wr (by omega) (by omega))
      have HKW := Lib.hid hkw
      have HKX := Lib.hid hkw.size
      clear HX hlt3 hkw hwz HK12 HRW
      go_wp2_with fail
      refine HM.out.mono ?_
      rintro e w4 ⟨q, pe, Fe, Qe, rfl, hst, hk, hFe, hQe⟩
      obtain ⟨Fd, so, co, vs, sk, ck, hstA⟩ := HX2.out.1
      have HDS := Lib.hid (And.intro (hstA.disk.keep hk (fun _ _ h => h)) (fun j (h : Fd j) => (hstA.foot j).2 (Or.inr (Or.inl h))))
      have HR := Lib.hid (raw_any pd S.d Fd w4 HDS.out.1 (by rw [HX2.out.2.1.len]; omega))
      rw [show S.d.now.length = 400 from HX2.out.2.1.len] at HR
      have HST := Lib.hid (HX2.out.1.quiet hk)
      have HE := Lib.hid (And.intro hst hFe)
      replace HKW := Lib.hid (HKW.out.quiet hk)
      have HZ := Lib.hid hk.size
      clear HM hst hk hFe hQe hstA
      go_wp2_with fail
      refine HR.out.mono ?_
      rintro e w5 ⟨g5, c5, rfl, hown, hk⟩
      obtain ⟨Fde, soe, coe, vse, ske, cke, hstE⟩ := HE.out.1
      have hde := hstE.disk.keep hk (fun _ _ h => h)
      have hfe : ∀ j, Fde j → wr.heap.size ≤ j ∧ j < w4.heap.size := fun j h => ⟨HE.out.2 j ((hstE.foot j).2 (Or.inr (Or.inl h))), hstE.disk.lt j h⟩
      have hg5 := own_lt hown rfl
      have HW := Lib.hid (write_ok pe 0 S.d.now 400 (some ⟨g5, 0, none⟩) g5 0 c5 (S0 400).d Fde w5 hde rfl HX2.out.2.1.len (fun _ => rfl) (fun j c h => by rw [Nat.zero_add]; exact own_cell hown j _ (by rw [BV_get, h]; rfl)) (fun _ hf => by have := hfe g5 hf; omega) (by simp [S0, DS.of]) (by simp [S0, DS.of]) (by simp [S0, DS.of]))
      have HFE := Lib.hid hfe
      replace HST := Lib.hid (HST.out.quiet hk)
      replace HKW := Lib.hid (HKW.out.quiet hk)
      have HZ5 := Lib.hid (Nat.le_trans HZ.out hk.size)
      clear HR hown hk hstE hde hfe hg5 HE HDS
      go_wp2_with fail
      refine HW.out.mono ?_
      rintro e w6 ⟨rfl, F6, hd6, hk6, hf6⟩
      have hfe6 : ∀ j, F6 j → wr.heap.size ≤ j := fun j h => (hf6 j h).elim (fun h => (HFE.out j h).1) (fun h => by have := HZ5.out; omega)
      have hsp : ∀ (G : Nat → Prop), (∀ j, G j → wr.heap.size ≤ j) → (∀ j, G j → ¬ F j) ∧ (∀ j, G j → ¬ Q j) := fun G hG => ⟨fun j h h2 => by have h3 := (HX2.out.2.2.2 j (Or.inl h2)).2; have h4 := hG j h; omega, fun j h h2 => by have h3 := (HX2.out.2.2.2 j (Or.inr h2)).2; have h4 := hG j h; omega⟩
      have hfd5 := hsp Fde (fun j h => (HFE.out j h).1)
      replace HST := Lib.hid (HST.out.keep hk6 hfd5.1 hfd5.2)
      replace HKW := Lib.hid (HKW.out.trans hk6 (fun j hj h => by have := (HFE.out j h).1; have := HKX.out; omega))
      have HSP := Lib.hid hsp
      have HF6 := Lib.hid hfe6
      replace HZ5 := Lib.hid (Nat.le_trans HZ5.out hk6.size)
      have HY := Lib.hid (sync_ok pe _ F6 w6 hd6 rfl)
      clear HW hd6 hk6 hf6 hfe6 hsp hfd5 HFE HZ
      go_wp2_with fail
      refine HY.out.mono ?_
      rintro e w7 ⟨rfl, F7, hd7, hk7, hf7⟩
      have hfe7 : ∀ j, F7 j → wr.heap.size ≤ j := fun j h => (hf7 j h).elim (fun h => HF6.out j h) (fun h => by have := HZ5.out; omega)
      have hfd6 := HSP.out F6 HF6.out
      replace HST := Lib.hid (HST.out.keep hk7 hfd6.1 hfd6.2)
      replace HKW := Lib.hid (HKW.out.trans hk7 (fun j hj h => by have := HF6.out j h; have := HKX.out; omega))
      replace HZ5 := Lib.hid (Nat.le_trans HZ5.out hk7.size)
      have hlen7 : (((S0 400).d.write 0 S.d.now).sync).now.length = 400 := by
        show (splice _ _ _).length = 400
        rw [length_splice _ _ _ (by rw [HX2.out.2.1.len]; simp [S0, DS.of])]
        simp [S0, DS.of]
      have HO := Lib.hid (open_ok_ pe _ F7 w7 hd7 (by rw [hlen7]; omega) (by rw [hlen7]; omega) rfl (by simp [DS.sync]))
      rw [copy_open (H := 200) (Z := 100) (R := 0) HX2.out.2.1] at HO
      have HF7 := Lib.hid hfe7
      clear HY hd7 hk7 hf7 hfe7 hfd6 hlen7 HF6
      go_wp2_with fail
      refine HO.out.mono ?_
      rintro e w8 ⟨x, Fx, Qx, rfl, hst, hk8, hFx, hQx⟩
      have hfd7 := HSP.out F7 HF7.out
      replace HST := Lib.hid (HST.out.keep hk8 hfd7.1 hfd7.2)
      replace HKW := Lib.hid (HKW.out.trans hk8 (fun j hj h => by have := HF7.out j h; have := HKX.out; omega))
      have hin : ∀ j, Fx j ∨ Qx j → wr.heap.size ≤ j ∧ j < w8.heap.size := fun j h => by
        obtain ⟨_, _, _, _, _, _, hs⟩ := hst
        have hz := HZ5.out
        rcases h with h | h
        · exact ⟨(hFx j h).elim (HF7.out j) (fun h => by omega), hs.flt j h⟩
        · exact ⟨by have := hQx j h; omega, hs.rlt j h⟩
      have HIN := Lib.hid hin
      have HSX := Lib.hid hst
      have HZ8 := Lib.hid hk8.size
      have HA := Lib.hid (acts_any lb lenb capb ys w8 (HXY.out.2.2.1.quiet HKW.out) HXY.out.2.2.2)
      clear HO hst hk8 hFx hQx hfd7 hin
      go_wp2_with fail
      refine HA.out.mono ?_
      rintro e w9 ⟨sa2, ca2, rows2, rfl, hmap, hat, hk9⟩
      have HRW := Lib.hid (rows_of (w := w) hmap hat)
      have hrl : rows2.length ≤ 14 := by
        have := congrArg List.length hmap
        simp at this
        omega
      have h48 : wr.heap.size ≤ w8.heap.size := by have h1 := HZ5.out; have h2 := HZ8.out; omega
      have HAT1 : Hid (At29 w w8 w9 w9 200 100 0 (14 + 0) p pd S F Q) := Lib.hid ⟨HST.out.quiet hk9, HX2.out.2.1, HX2.out.2.2.1, fun j h => Or.inl (by have h1 := HX2.out.2.2.2 j (Or.inl h); omega), fun j h => Or.inl (by have h1 := HX2.out.2.2.2 j (Or.inr h); omega), Keeps.refl _ _⟩
      have HAT2 : Hid (At29 w w8 w9 w9 200 100 0 (14 + 0) x pe S Fx Qx) := Lib.hid ⟨HSX.out.quiet hk9, HX2.out.2.1, HX2.out.2.2.1, fun j h => Or.inl (by have h1 := HIN.out j (Or.inl h); have h2 := HKX.out; omega), fun j h => Or.inl (by have h1 := HIN.out j (Or.inr h); have h2 := HKX.out; omega), Keeps.refl _ _⟩
      have HAP : Hid ((∀ j, F j → ¬ Fx j ∧ ¬ Qx j) ∧ (∀ j, Fx j → ¬ F j ∧ ¬ Q j)) := Lib.hid ⟨fun j h => ⟨fun h2 => by have h3 := HX2.out.2.2.2 j (Or.inl h); have h4 := HIN.out j (Or.inl h2); omega, fun h2 => by have h3 := HX2.out.2.2.2 j (Or.inl h); have h4 := HIN.out j (Or.inr h2); omega⟩, fun j h => ⟨fun h2 => by have h3 := HX2.out.2.2.2 j (Or.inl h2); have h4 := HIN.out j (Or.inl h); omega, fun h2 => by have h3 := HX2.out.2.2.2 j (Or.inr h2); have h4 := HIN.out j (Or.inl h); omega⟩⟩
      have HK9 : Hid (Keeps (fun _ => False) w w9) := Lib.hid (HKW.out.quiet hk9)
      obtain ⟨M, hM⟩ : ∃ n, rows2.length = n := ⟨_, rfl⟩
      rw [hM] at hrl HRW ⊢
      clear HA hmap hat hk9 hM HST HKW HIN HSX HZ8 h48 HX2 HSP HF7 HZ5 HKX HXY
      go_wp2_with fail
      go_loopw [14] (fun i wx => AgRel w w8 w9 M p pd x pe i wx) (fun i _ => M - (intOf i).toNat)
      case atStart => exact ⟨0, S, F, Q, Fx, Qx, Nat.zero_le _, rfl, HAT1.out, HAT2.out, HAP.out.1, HAP.out.2⟩
      case round =>
        clear HAT1 HAT2 HAP
        rename World => wv
        obtain ⟨k, S, F, Q, G, P, hk, rfl, hat1, hat2, hap1, hap2⟩ := hrel
        have HX := Lib.hid hat1
        have HV := Lib.hid hat2
        have HAP := Lib.hid (And.intro hap1 hap2)
        clear hat1 hat2 hap1 hap2
        by_cases hlt : k < M
        · have j1 : (0 : Int) ≤ (k : Int) := by omega
          have j2 : (k : Int) < (M : Int) := by omega
          have HC := Lib.hid (records_any p pd S F Q wv HX.out.st)
          go_wp2_with fail
          refine HC.out.mono ?_
          rintro e z1 ⟨t1, d1, v1, rfl, hown, hrows, hk1⟩
          have HR1 := Lib.hid (And.intro (Sl.of_own hown) hrows.reads)
          replace HX := Lib.hid (HX.out.quiet hk1)
          replace HV := Lib.hid (HV.out.quiet hk1)
          have HC2 := Lib.hid (records_any x pe S G P z1 HV.out.st)
          clear HC hown hrows hk1
          go_wp2_with fail
          refine HC2.out.mono ?_
          rintro e z2 ⟨t2, d2, v2, rfl, hown, hrows, hk2⟩
          replace HX := Lib.hid (HX.out.quiet hk2)
          replace HV := Lib.hid (HV.out.quiet hk2)
          have HSM := Lib.hid (sameR_any t1 t2 S.recs.length S.recs.length d1 d2 v1 v2 S.recs S.recs z2 (HR1.out.1.quiet hk2) (HR1.out.2.quiet hk2) (Sl.of_own hown) hrows.reads)
          rw [show decide (S.recs = S.recs) = true by simp] at HSM
          clear HC2 hown hrows hk2 HR1
          go_wp2_with fail
          refine HSM.out.mono ?_
          rintro e z3 ⟨rfl, hk3⟩
          replace HX := Lib.hid (HX.out.quiet hk3)
          replace HV := Lib.hid (HV.out.quiet hk3)
          clear HSM hk3
          obtain ⟨K, hK0⟩ : ∃ K, S.keys = K := ⟨_, rfl⟩
          obtain ⟨rm, hrm⟩ : ∃ r, S.room = r := ⟨_, rfl⟩
          obtain ⟨lw, hlw⟩ : ∃ l, S.d.now = l := ⟨_, rfl⟩
          have HEQ := Lib.hid (And.intro hK0 (And.intro hrm hlw))
          have hlwl : lw.length = 400 := by rw [← hlw]; exact HX.out.good.len
          obtain ⟨nk, hnk⟩ : ∃ n, K.length = n := ⟨_, rfl⟩
          have HKC : Hid (∀ (p pd : Nat) (F Q : Nat → Prop) (u : World), StoreAt u p pd S F Q → Calls Try.prog 25 #[.pointer (some ⟨p, 0, none⟩)] u fun e w' => ∃ sa c, e = .returned (.slice sa nk c) ∧ Sl w' sa nk c (BV K) ∧ Keeps (fun _ => False) u w') := Lib.hid (fun p pd F Q u h => by
            have h2 := keys_any p pd S F Q u h
            rw [HEQ.out.1, hnk] at h2
            exact h2.mono fun e w' ⟨sa, c, a1, a2, a3⟩ => ⟨sa, c, a1, Sl.of_own a2, a3⟩)
          have HRC : Hid (∀ (p pd : Nat) (F Q : Nat → Prop) (u : World), StoreAt u p pd S F Q → Calls Try.prog 13 #[.pointer (some ⟨p, 0, none⟩)] u fun e w' => e = .returned (.int .i64 rm) ∧ Keeps (fun _ => False) u w') := Lib.hid (fun p pd F Q u h => by
            have h2 := room_any p pd S F Q u h
            rwa [HEQ.out.2.1] at h2)
          have HWC : Hid (∀ (p pd : Nat) (F Q : Nat → Prop) (u : World), StoreAt u p pd S F Q → Calls Try.prog 15 #[.pointer (some ⟨pd, 0, none⟩)] u fun e w' => ∃ g c, e = .returned (.slice (some ⟨g, 0, none⟩) 400 c) ∧ Sl w' (some ⟨g, 0, none⟩) 400 c (BV lw) ∧ Keeps (fun _ => False) u w') := Lib.hid (fun p pd F Q u h => by
            obtain ⟨Fd, _, _, _, _, _, hs⟩ := h
            have h2 := raw_any pd S.d Fd u hs.disk hs.size
            rw [HEQ.out.2.2, hlwl] at h2
            exact h2.mono fun e w' ⟨g, c, a1, a2, a3⟩ => ⟨g, c, a1, Sl.of_own a2, a3⟩)
          have eK : ((strOf K).toList != (strOf K).toList) = false := by simp
          have eR : (rm != rm) = false := by simp
          have eW : ((strOf lw).toList != (strOf lw).toList) = false := by simp
          clear hK0 hrm hlw hlwl hnk
          go_wp2_with fail
          obtain ⟨v0, hdr⟩ : ∃ v, World.drew z3 = v := ⟨_, rfl⟩
          have hk : Keeps (fun _ => False) z3 v0 := by rw [← hdr]; exact (Keeps.refl _ _).drew
          replace HX := Lib.hid (HX.out.quiet hk)
          replace HV := Lib.hid (HV.out.quiet hk)
          refine z_begin (fun w' => Keeps (fun _ => False) (World.drew z3) w') 27 (by kernel_rfl) (Keeps.refl _ _) (fun hHeld => ?_)
          rw [hdr] at hHeld ⊢
          clear hk hdr
          refine z_take 0 (v := ?_) rfl (by kernel_rfl) (by kernel_rfl) (by kernel_rfl) (by kernel_rfl) (fun _ _ _ h => h) hHeld (by rfl) (fun w hSw => ?_) ?_
          rotate_left
          · clear hSw; simp only [List.getElem_toArray, List.getElem_cons_zero]; go_simp; try rfl
          simp only [Act.put, List.getElem_toArray, List.getElem_cons_zero, List.setIfInBounds_toArray, List.set_cons_zero, List.set_cons_succ]
          refine z_take 1 (v := ?_) rfl (by kernel_rfl) (by kernel_rfl) (by kernel_rfl) (by kernel_rfl) (fun _ _ _ h => h) hHeld (by rfl) (fun w hSw => ?_) ?_
          rotate_left
          · clear hSw; simp only [List.getElem_toArray, List.getElem_cons_zero, List.getElem_cons_succ]; go_simp; try rfl
          simp only [Act.put, List.getElem_toArray, List.getElem_cons_zero, List.getElem_cons_succ, List.setIfInBounds_toArray, List.set_cons_zero, List.set_cons_succ]
          refine z_take 2 (v := ?_) rfl (by kernel_rfl) (by kernel_rfl) (by kernel_rfl) (by kernel_rfl) (fun _ _ _ h => h) hHeld (by rfl) (fun w hSw => ?_) ?_
          rotate_left
          · clear hSw; simp only [List.getElem_toArray, List.getElem_cons_zero, List.getElem_cons_succ]; go_simp; try rfl
          simp only [Act.put, List.getElem_toArray, List.getElem_cons_zero, List.getElem_cons_succ, List.setIfInBounds_toArray, List.set_cons_zero, List.set_cons_succ]
          refine z_take 3 (v := ?_) rfl (by kernel_rfl) (by kernel_rfl) (by kernel_rfl) (by kernel_rfl) (fun _ _ _ h => h) hHeld (by rfl) (fun w hSw => ?_) ?_
          rotate_left
          · clear hSw; simp only [List.getElem_toArray, List.getElem_cons_zero, List.getElem_cons_succ]; go_simp; try rfl
          simp only [Act.put, List.getElem_toArray, List.getElem_cons_zero, List.getElem_cons_succ, List.setIfInBounds_toArray, List.set_cons_zero, List.set_cons_succ]
          refine z_take 6 (v := ?_) rfl (by kernel_rfl) (by kernel_rfl) (by kernel_rfl) (by kernel_rfl) (fun _ _ _ h => h) hHeld (by rfl) (fun w hSw => ?_) ?_
          rotate_left
          · clear hSw; simp only [List.getElem_toArray, List.getElem_cons_zero, List.getElem_cons_succ]; go_simp; try rfl
          simp only [Act.put, List.getElem_toArray, List.getElem_cons_zero, List.getElem_cons_succ, List.setIfInBounds_toArray, List.set_cons_zero, List.set_cons_succ]
          refine z_one 4 rfl (by kernel_rfl) (by rfl) (fun K hK => ?_)
          simp only [List.getElem_toArray, List.getElem_cons_zero, List.getElem_cons_succ]
          go_simp
          refine (HKC.out p pd F Q v0 HX.out.st).mono ?_
          rintro e y1 ⟨s1, c1, rfl, hsl, hk⟩
          refine hK _ _ (Or.inr (hHeld.trans hk (fun _ _ h => h.elim))) (fun hHeld => ?_)
          clear hK K
          replace hHeld := hHeld.resolve_left (by decide)
          try simp only [Act.put, List.setIfInBounds_toArray, List.set_cons_zero, List.set_cons_succ]
          replace HX := Lib.hid (HX.out.quiet hk)
          replace HV := Lib.hid (HV.out.quiet hk)
          have L1 := Lib.hid hsl
          clear hsl
          refine z_more (fun w' => Keeps (fun _ => False) y1 w') (fun w' h => hHeld.trans h (fun _ _ h => h)) _ _ _ _ ?_
          clear hHeld
          have hHeld : Keeps (fun _ => False) y1 y1 := Keeps.refl _ _
          clear hk
          refine z_take 5 (v := ?_) rfl (by kernel_rfl) (by kernel_rfl) (by kernel_rfl) (by kernel_rfl) (fun _ _ _ h => h) hHeld (by rfl) (fun w hSw => ?_) ?_
          rotate_left
          · have cv := run_strSl (L1.out.quiet hSw); clear hSw; simp only [List.getElem_toArray, List.getElem_cons_zero, List.getElem_cons_succ]; go_simp; try rfl
          simp only [Act.put, List.getElem_toArray, List.getElem_cons_zero, List.getElem_cons_succ, List.setIfInBounds_toArray, List.set_cons_zero, List.set_cons_succ]
          refine z_one 7 rfl (by kernel_rfl) (by rfl) (fun K hK => ?_)
          simp only [List.getElem_toArray, List.getElem_cons_zero, List.getElem_cons_succ]
          go_simp
          refine (HKC.out x pe G P y1 HV.out.st).mono ?_
          rintro e y2 ⟨s2, c2, rfl, hsl, hk⟩
          refine hK _ _ (Or.inr (hHeld.trans hk (fun _ _ h => h.elim))) (fun hHeld => ?_)
          clear hK K
          replace hHeld := hHeld.resolve_left (by decide)
          try simp only [Act.put, List.setIfInBounds_toArray, List.set_cons_zero, List.set_cons_succ]
          replace HX := Lib.hid (HX.out.quiet hk)
          replace HV := Lib.hid (HV.out.quiet hk)
          have L2 := Lib.hid hsl
          clear hsl
          refine z_more (fun w' => Keeps (fun _ => False) y2 w') (fun w' h => hHeld.trans h (fun _ _ h => h)) _ _ _ _ ?_
          clear hHeld
          have hHeld : Keeps (fun _ => False) y2 y2 := Keeps.refl _ _
          clear hk
          refine z_take 8 (v := ?_) rfl (by kernel_rfl) (by kernel_rfl) (by kernel_rfl) (by kernel_rfl) (fun _ _ _ h => h) hHeld (by rfl) (fun w hSw => ?_) ?_
          rotate_left
          · have cv := run_strSl (L2.out.quiet hSw); clear hSw; simp only [List.getElem_toArray, List.getElem_cons_zero, List.getElem_cons_succ]; go_simp; try rfl
          simp only [Act.put, List.getElem_toArray, List.getElem_cons_zero, List.getElem_cons_succ, List.setIfInBounds_toArray, List.set_cons_zero, List.set_cons_succ]
          refine z_take 9 (v := ?_) rfl (by kernel_rfl) (by kernel_rfl) (by kernel_rfl) (by kernel_rfl) (fun _ _ _ h => h) hHeld (by rfl) (fun w hSw => ?_) ?_
          rotate_left
          · clear hSw; simp only [List.getElem_toArray, List.getElem_cons_zero, List.getElem_cons_succ]; go_simp; try rfl
          simp only [Act.put, List.getElem_toArray, List.getElem_cons_zero, List.getElem_cons_succ, List.setIfInBounds_toArray, List.set_cons_zero, List.set_cons_succ]
          refine z_take 10 (v := ?_) rfl (by kernel_rfl) (by kernel_rfl) (by kernel_rfl) (by kernel_rfl) (fun _ _ _ h => h) hHeld (by rfl) (fun w hSw => ?_) ?_
          rotate_left
          · clear hSw; simp only [List.getElem_toArray, List.getElem_cons_zero, List.getElem_cons_succ]; go_simp; try rfl
          simp only [Act.put, List.getElem_toArray, List.getElem_cons_zero, List.getElem_cons_succ, List.setIfInBounds_toArray, List.set_cons_zero, List.set_cons_succ]
          refine z_take 11 (v := ?_) rfl (by kernel_rfl) (by kernel_rfl) (by kernel_rfl) (by kernel_rfl) (fun _ _ _ h => h) hHeld (by rfl) (fun w hSw => ?_) ?_
          rotate_left
          · clear hSw; simp only [List.getElem_toArray, List.getElem_cons_zero, List.getElem_cons_succ]; go_simp; try rfl
          simp only [Act.put, List.getElem_toArray, List.getElem_cons_zero, List.getElem_cons_succ, List.setIfInBounds_toArray, List.set_cons_zero, List.set_cons_succ]
          refine z_take 12 (v := ?_) rfl (by kernel_rfl) (by kernel_rfl) (by kernel_rfl) (by kernel_rfl) (fun _ _ _ h => h) hHeld (by rfl) (fun w hSw => ?_) ?_
          rotate_left
          · clear hSw; simp only [List.getElem_toArray, List.getElem_cons_zero, List.getElem_cons_succ]; go_simp; try rfl
          simp only [Act.put, List.getElem_toArray, List.getElem_cons_zero, List.getElem_cons_succ, List.setIfInBounds_toArray, List.set_cons_zero, List.set_cons_succ]
          refine z_take 14 (v := ?_) rfl (by kernel_rfl) (by kernel_rfl) (by kernel_rfl) (by kernel_rfl) (fun _ _ _ h => h) hHeld (by rfl) (fun w hSw => ?_) ?_
          rotate_left
          · clear hSw; simp only [List.getElem_toArray, List.getElem_cons_zero, List.getElem_cons_succ]; go_simp; try rfl
          simp only [Act.put, List.getElem_toArray, List.getElem_cons_zero, List.getElem_cons_succ, List.setIfInBounds_toArray, List.set_cons_zero, List.set_cons_succ]
          refine z_one 13 rfl (by kernel_rfl) (by rfl) (fun K hK => ?_)
          simp only [List.getElem_toArray, List.getElem_cons_zero, List.getElem_cons_succ]
          go_simp
          refine (HRC.out p pd F Q y2 HX.out.st).mono ?_
          rintro e y3 ⟨rfl, hk⟩
          refine hK _ _ (Or.inr (hHeld.trans hk (fun _ _ h => h.elim))) (fun hHeld => ?_)
          clear hK K
          replace hHeld := hHeld.resolve_left (by decide)
          try simp only [Act.put, List.setIfInBounds_toArray, List.set_cons_zero, List.set_cons_succ]
          replace HX := Lib.hid (HX.out.quiet hk)
          replace HV := Lib.hid (HV.out.quiet hk)
          refine z_more (fun w' => Keeps (fun _ => False) y3 w') (fun w' h => hHeld.trans h (fun _ _ h => h)) _ _ _ _ ?_
          clear hHeld
          have hHeld : Keeps (fun _ => False) y3 y3 := Keeps.refl _ _
          clear hk
          refine z_one 15 rfl (by kernel_rfl) (by rfl) (fun K hK => ?_)
          simp only [List.getElem_toArray, List.getElem_cons_zero, List.getElem_cons_succ]
          go_simp
          refine (HRC.out x pe G P y3 HV.out.st).mono ?_
          rintro e y4 ⟨rfl, hk⟩
          refine hK _ _ (Or.inr (hHeld.trans hk (fun _ _ h => h.elim))) (fun hHeld => ?_)
          clear hK K
          replace hHeld := hHeld.resolve_left (by decide)
          try simp only [Act.put, List.setIfInBounds_toArray, List.set_cons_zero, List.set_cons_succ]
          replace HX := Lib.hid (HX.out.quiet hk)
          replace HV := Lib.hid (HV.out.quiet hk)
          refine z_more (fun w' => Keeps (fun _ => False) y4 w') (fun w' h => hHeld.trans h (fun _ _ h => h)) _ _ _ _ ?_
          clear hHeld
          have hHeld : Keeps (fun _ => False) y4 y4 := Keeps.refl _ _
          clear hk
          refine z_take 16 (v := ?_) rfl (by kernel_rfl) (by kernel_rfl) (by kernel_rfl) (by kernel_rfl) (fun _ _ _ h => h) hHeld (by rfl) (fun w hSw => ?_) ?_
          rotate_left
          · clear hSw; simp only [List.getElem_toArray, List.getElem_cons_zero, List.getElem_cons_succ]; go_simp; try rfl
          simp only [Act.put, List.getElem_toArray, List.getElem_cons_zero, List.getElem_cons_succ, List.setIfInBounds_toArray, List.set_cons_zero, List.set_cons_succ]
          refine z_take 17 (v := ?_) rfl (by kernel_rfl) (by kernel_rfl) (by kernel_rfl) (by kernel_rfl) (fun _ _ _ h => h) hHeld (by rfl) (fun w hSw => ?_) ?_
          rotate_left
          · clear hSw; simp only [List.getElem_toArray, List.getElem_cons_zero, List.getElem_cons_succ]; go_simp; try rfl
          simp only [Act.put, List.getElem_toArray, List.getElem_cons_zero, List.getElem_cons_succ, List.setIfInBounds_toArray, List.set_cons_zero, List.set_cons_succ]
          refine z_take 18 (v := ?_) rfl (by kernel_rfl) (by kernel_rfl) (by kernel_rfl) (by kernel_rfl) (fun _ _ _ h => h) hHeld (by rfl) (fun w hSw => ?_) ?_
          rotate_left
          · clear hSw; simp only [List.getElem_toArray, List.getElem_cons_zero, List.getElem_cons_succ]; go_simp; try rfl
          simp only [Act.put, List.getElem_toArray, List.getElem_cons_zero, List.getElem_cons_succ, List.setIfInBounds_toArray, List.set_cons_zero, List.set_cons_succ]
          refine z_take 19 (v := ?_) rfl (by kernel_rfl) (by kernel_rfl) (by kernel_rfl) (by kernel_rfl) (fun _ _ _ h => h) hHeld (by rfl) (fun w hSw => ?_) ?_
          rotate_left
          · clear hSw; simp only [List.getElem_toArray, List.getElem_cons_zero, List.getElem_cons_succ]; go_simp; try rfl
          simp only [Act.put, List.getElem_toArray, List.getElem_cons_zero, List.getElem_cons_succ, List.setIfInBounds_toArray, List.set_cons_zero, List.set_cons_succ]
          refine z_take 22 (v := ?_) rfl (by kernel_rfl) (by kernel_rfl) (by kernel_rfl) (by kernel_rfl) (fun _ _ _ h => h) hHeld (by rfl) (fun w hSw => ?_) ?_
          rotate_left
          · clear hSw; simp only [List.getElem_toArray, List.getElem_cons_zero, List.getElem_cons_succ]; go_simp; try rfl
          simp only [Act.put, List.getElem_toArray, List.getElem_cons_zero, List.getElem_cons_succ, List.setIfInBounds_toArray, List.set_cons_zero, List.set_cons_succ]
          refine z_one 20 rfl (by kernel_rfl) (by rfl) (fun K hK => ?_)
          simp only [List.getElem_toArray, List.getElem_cons_zero, List.getElem_cons_succ]
          go_simp
          refine (HWC.out p pd F Q y4 HX.out.st).mono ?_
          rintro e y5 ⟨g3, c3, rfl, hsl, hk⟩
          refine hK _ _ (Or.inr (hHeld.trans hk (fun _ _ h => h.elim))) (fun hHeld => ?_)
          clear hK K
          replace hHeld := hHeld.resolve_left (by decide)
          try simp only [Act.put, List.setIfInBounds_toArray, List.set_cons_zero, List.set_cons_succ]
          replace HX := Lib.hid (HX.out.quiet hk)
          replace HV := Lib.hid (HV.out.quiet hk)
          have L3 := Lib.hid hsl
          clear hsl
          refine z_more (fun w' => Keeps (fun _ => False) y5 w') (fun w' h => hHeld.trans h (fun _ _ h => h)) _ _ _ _ ?_
          clear hHeld
          have hHeld : Keeps (fun _ => False) y5 y5 := Keeps.refl _ _
          clear hk
          refine z_take 21 (v := ?_) rfl (by kernel_rfl) (by kernel_rfl) (by kernel_rfl) (by kernel_rfl) (fun _ _ _ h => h) hHeld (by rfl) (fun w hSw => ?_) ?_
          rotate_left
          · have cv := run_strSl (L3.out.quiet hSw); clear hSw; simp only [List.getElem_toArray, List.getElem_cons_zero, List.getElem_cons_succ]; go_simp; try rfl
          simp only [Act.put, List.getElem_toArray, List.getElem_cons_zero, List.getElem_cons_succ, List.setIfInBounds_toArray, List.set_cons_zero, List.set_cons_succ]
          refine z_one 23 rfl (by kernel_rfl) (by rfl) (fun K hK => ?_)
          simp only [List.getElem_toArray, List.getElem_cons_zero, List.getElem_cons_succ]
          go_simp
          refine (HWC.out x pe G P y5 HV.out.st).mono ?_
          rintro e y6 ⟨g4, c4, rfl, hsl, hk⟩
          refine hK _ _ (Or.inr (hHeld.trans hk (fun _ _ h => h.elim))) (fun hHeld => ?_)
          clear hK K
          replace hHeld := hHeld.resolve_left (by decide)
          try simp only [Act.put, List.setIfInBounds_toArray, List.set_cons_zero, List.set_cons_succ]
          replace HX := Lib.hid (HX.out.quiet hk)
          replace HV := Lib.hid (HV.out.quiet hk)
          have L4 := Lib.hid hsl
          clear hsl
          refine z_more (fun w' => Keeps (fun _ => False) y6 w') (fun w' h => hHeld.trans h (fun _ _ h => h)) _ _ _ _ ?_
          clear hHeld
          have hHeld : Keeps (fun _ => False) y6 y6 := Keeps.refl _ _
          clear hk
          refine z_take 24 (v := ?_) rfl (by kernel_rfl) (by kernel_rfl) (by kernel_rfl) (by kernel_rfl) (fun _ _ _ h => h) hHeld (by rfl) (fun w hSw => ?_) ?_
          rotate_left
          · have cv := run_strSl (L4.out.quiet hSw); clear hSw; simp only [List.getElem_toArray, List.getElem_cons_zero, List.getElem_cons_succ]; go_simp; try rfl
          simp only [Act.put, List.getElem_toArray, List.getElem_cons_zero, List.getElem_cons_succ, List.setIfInBounds_toArray, List.set_cons_zero, List.set_cons_succ]
          refine z_take 25 (v := ?_) rfl (by kernel_rfl) (by kernel_rfl) (by kernel_rfl) (by kernel_rfl) (fun _ _ _ h => h) hHeld (by rfl) (fun w hSw => ?_) ?_
          rotate_left
          · clear hSw; simp only [List.getElem_toArray, List.getElem_cons_zero, List.getElem_cons_succ]; go_simp; try rfl
          simp only [Act.put, List.getElem_toArray, List.getElem_cons_zero, List.getElem_cons_succ, List.setIfInBounds_toArray, List.set_cons_zero, List.set_cons_succ]
          refine z_take 26 (v := ?_) rfl (by kernel_rfl) (by kernel_rfl) (by kernel_rfl) (by kernel_rfl) (fun _ _ _ h => h) hHeld (by rfl) (fun w hSw => ?_) ?_
          rotate_left
          · clear hSw; simp only [List.getElem_toArray, List.getElem_cons_zero, List.getElem_cons_succ]; go_simp; try rfl
          simp only [Act.put, List.getElem_toArray, List.getElem_cons_zero, List.getElem_cons_succ, List.setIfInBounds_toArray, List.set_cons_zero, List.set_cons_succ]
          refine z_done (by kernel_rfl) ?_ _
          clear hHeld
          go_wp2_with fail
          obtain ⟨ga, doo, sb, nb, cb, bb, rfl, hbl, hac⟩ := HRW.out.at_ k hlt
          have HCA := Lib.hid hac
          clear hac eK eR eW HKC HRC HWC HEQ
          by_cases h3 : doo < 3
          · have HG := good_does HX.out.good (by have := HX.out.turn; omega) doo bb
            have HDC : Hid (∀ (p pd : Nat) (F Q : Nat → Prop) (u : World), At29 w w8 w9 u 200 100 0 (14 + k) p pd S F Q → Calls Try.prog 11 #[.pointer (some ⟨p, 0, none⟩), .agg #[.int .i64 doo, .slice sb nb cb]] u fun e w' => e = .returned (.int .i64 (S.does doo bb).2) ∧ ∃ F' Q', StoreAt w' p pd (S.does doo bb).1 F' Q' ∧ Keeps F u w' ∧ (∀ k, F' k → F k ∨ u.heap.size ≤ k) ∧ (∀ k, Q' k → Q k ∨ u.heap.size ≤ k)) := Lib.hid (fun p pd F Q u h => does_any p pd S F Q u h.st doo sb nb cb bb (HCA.out u h.kp).2.2.1 (by omega) (fun ad e h0 => (HCA.out u h.kp).2.2.2 ad e h0 F h.inF) (by rw [h.good.lo]; simp) (by have := h.turn; omega) (by have := h.good.few; omega))
            generalize S.does doo bb = Y at *
            obtain ⟨S2, r2⟩ := Y
            have HG2 : Hid (Good 200 100 0 S2 ∧ S2.turn ≤ 14 + (k + 1)) := Lib.hid ⟨HG.1, by have := HX.out.turn; have h9 : S2.turn ≤ S.turn + 1 := HG.2; omega⟩
            have eD : (r2 != r2) = false := by simp
            clear HG
            obtain ⟨v2, hdr⟩ : ∃ v, World.drew y6 = v := ⟨_, rfl⟩
            have hk : Keeps (fun _ => False) y6 v2 := by rw [← hdr]; exact (Keeps.refl _ _).drew
            replace HX := Lib.hid (HX.out.quiet hk)
            replace HV := Lib.hid (HV.out.quiet hk)
            have hSb : Keeps (fun j => w.heap.size ≤ j ∧ j < w8.heap.size) w9 v2 := HX.out.kp
            rw [← hdr] at hSb
            refine z_begin (fun w' => Keeps (fun j => w.heap.size ≤ j ∧ j < w8.heap.size) w9 w') 21 (by kernel_rfl) hSb (fun hHeld => ?_)
            clear hSb
            rw [hdr] at hHeld ⊢
            clear hk hdr
            refine z_take 0 (v := ?_) rfl (by kernel_rfl) (by kernel_rfl) (by kernel_rfl) (by kernel_rfl) (fun _ _ _ h => h) hHeld (by rfl) (fun w hSw => ?_) ?_
            rotate_left
            · clear hSw; simp only [List.getElem_toArray, List.getElem_cons_zero]; go_simp; try rfl
            simp only [Act.put, List.getElem_toArray, List.getElem_cons_zero, List.setIfInBounds_toArray, List.set_cons_zero, List.set_cons_succ]
            refine z_take 1 (v := ?_) rfl (by kernel_rfl) (by kernel_rfl) (by kernel_rfl) (by kernel_rfl) (fun _ _ _ h => h) hHeld (by rfl) (fun w hSw => ?_) ?_
            rotate_left
            · clear hSw; simp only [List.getElem_toArray, List.getElem_cons_zero, List.getElem_cons_succ]; go_simp; try rfl
            simp only [Act.put, List.getElem_toArray, List.getElem_cons_zero, List.getElem_cons_succ, List.setIfInBounds_toArray, List.set_cons_zero, List.set_cons_succ]
            refine z_take 2 (v := ?_) rfl (by kernel_rfl) (by kernel_rfl) (by kernel_rfl) (by kernel_rfl) (fun _ _ _ h => h) hHeld (by rfl) (fun w hSw => ?_) ?_
            rotate_left
            · obtain ⟨c0, c1, _, _⟩ := HCA.out w hSw; clear hSw; simp only [List.getElem_toArray, List.getElem_cons_zero, List.getElem_cons_succ]; go_simp; try rfl
            simp only [Act.put, List.getElem_toArray, List.getElem_cons_zero, List.getElem_cons_succ, List.setIfInBounds_toArray, List.set_cons_zero, List.set_cons_succ]
            refine z_take 3 (v := ?_) rfl (by kernel_rfl) (by kernel_rfl) (by kernel_rfl) (by kernel_rfl) (fun _ _ _ h => h) hHeld (by rfl) (fun w hSw => ?_) ?_
            rotate_left
            · obtain ⟨c0, c1, _, _⟩ := HCA.out w hSw; clear hSw; simp only [List.getElem_toArray, List.getElem_cons_zero, List.getElem_cons_succ]; go_simp; try rfl
            simp only [Act.put, List.getElem_toArray, List.getElem_cons_zero, List.getElem_cons_succ, List.setIfInBounds_toArray, List.set_cons_zero, List.set_cons_succ]
            refine z_take 4 (v := ?_) rfl (by kernel_rfl) (by kernel_rfl) (by kernel_rfl) (by kernel_rfl) (fun _ _ _ h => h) hHeld (by rfl) (fun w hSw => ?_) ?_
            rotate_left
            · obtain ⟨c0, c1, _, _⟩ := HCA.out w hSw; clear hSw; simp only [List.getElem_toArray, List.getElem_cons_zero, List.getElem_cons_succ]; go_simp; try rfl
            simp only [Act.put, List.getElem_toArray, List.getElem_cons_zero, List.getElem_cons_succ, List.setIfInBounds_toArray, List.set_cons_zero, List.set_cons_succ]
            refine z_take 5 (v := ?_) rfl (by kernel_rfl) (by kernel_rfl) (by kernel_rfl) (by kernel_rfl) (fun _ _ _ h => h) hHeld (by rfl) (fun w hSw => ?_) ?_
            rotate_left
            · clear hSw; simp only [List.getElem_toArray, List.getElem_cons_zero, List.getElem_cons_succ]; go_simp; try rfl
            simp only [Act.put, List.getElem_toArray, List.getElem_cons_zero, List.getElem_cons_succ, List.setIfInBounds_toArray, List.set_cons_zero, List.set_cons_succ]
            refine z_take 6 (v := ?_) rfl (by kernel_rfl) (by kernel_rfl) (by kernel_rfl) (by kernel_rfl) (fun _ _ _ h => h) hHeld (by rfl) (fun w hSw => ?_) ?_
            rotate_left
            · clear hSw; simp only [List.getElem_toArray, List.getElem_cons_zero, List.getElem_cons_succ]; go_simp; try rfl
            simp only [Act.put, List.getElem_toArray, List.getElem_cons_zero, List.getElem_cons_succ, List.setIfInBounds_toArray, List.set_cons_zero, List.set_cons_succ]
            refine z_take 7 (v := ?_) rfl (by kernel_rfl) (by kernel_rfl) (by kernel_rfl) (by kernel_rfl) (fun _ _ _ h => h) hHeld (by rfl) (fun w hSw => ?_) ?_
            rotate_left
            · clear hSw; simp only [List.getElem_toArray, List.getElem_cons_zero, List.getElem_cons_succ]; go_simp; try rfl
            simp only [Act.put, List.getElem_toArray, List.getElem_cons_zero, List.getElem_cons_succ, List.setIfInBounds_toArray, List.set_cons_zero, List.set_cons_succ]
            refine z_take 8 (v := ?_) rfl (by kernel_rfl) (by kernel_rfl) (by kernel_rfl) (by kernel_rfl) (fun _ _ _ h => h) hHeld (by rfl) (fun w hSw => ?_) ?_
            rotate_left
            · clear hSw; simp only [List.getElem_toArray, List.getElem_cons_zero, List.getElem_cons_succ]; go_simp; try rfl
            simp only [Act.put, List.getElem_toArray, List.getElem_cons_zero, List.getElem_cons_succ, List.setIfInBounds_toArray, List.set_cons_zero, List.set_cons_succ]
            refine z_take 9 (v := ?_) rfl (by kernel_rfl) (by kernel_rfl) (by kernel_rfl) (by kernel_rfl) (fun _ _ _ h => h) hHeld (by rfl) (fun w hSw => ?_) ?_
            rotate_left
            · clear hSw; simp only [List.getElem_toArray, List.getElem_cons_zero, List.getElem_cons_succ]; go_simp; try rfl
            simp only [Act.put, List.getElem_toArray, List.getElem_cons_zero, List.getElem_cons_succ, List.setIfInBounds_toArray, List.set_cons_zero, List.set_cons_succ]
            refine z_take 10 (v := ?_) rfl (by kernel_rfl) (by kernel_rfl) (by kernel_rfl) (by kernel_rfl) (fun _ _ _ h => h) hHeld (by rfl) (fun w hSw => ?_) ?_
            rotate_left
            · obtain ⟨c0, c1, _, _⟩ := HCA.out w hSw; clear hSw; simp only [List.getElem_toArray, List.getElem_cons_zero, List.getElem_cons_succ]; go_simp; try rfl
            simp only [Act.put, List.getElem_toArray, List.getElem_cons_zero, List.getElem_cons_succ, List.setIfInBounds_toArray, List.set_cons_zero, List.set_cons_succ]
            refine z_take 11 (v := ?_) rfl (by kernel_rfl) (by kernel_rfl) (by kernel_rfl) (by kernel_rfl) (fun _ _ _ h => h) hHeld (by rfl) (fun w hSw => ?_) ?_
            rotate_left
            · obtain ⟨c0, c1, _, _⟩ := HCA.out w hSw; clear hSw; simp only [List.getElem_toArray, List.getElem_cons_zero, List.getElem_cons_succ]; go_simp; try rfl
            simp only [Act.put, List.getElem_toArray, List.getElem_cons_zero, List.getElem_cons_succ, List.setIfInBounds_toArray, List.set_cons_zero, List.set_cons_succ]
            refine z_take 13 (v := ?_) rfl (by kernel_rfl) (by kernel_rfl) (by kernel_rfl) (by kernel_rfl) (fun _ _ _ h => h) hHeld (by rfl) (fun w hSw => ?_) ?_
            rotate_left
            · clear hSw; simp only [List.getElem_toArray, List.getElem_cons_zero, List.getElem_cons_succ]; go_simp; try rfl
            simp only [Act.put, List.getElem_toArray, List.getElem_cons_zero, List.getElem_cons_succ, List.setIfInBounds_toArray, List.set_cons_zero, List.set_cons_succ]
            refine z_take 14 (v := ?_) rfl (by kernel_rfl) (by kernel_rfl) (by kernel_rfl) (by kernel_rfl) (fun _ _ _ h => h) hHeld (by rfl) (fun w hSw => ?_) ?_
            rotate_left
            · clear hSw; simp only [List.getElem_toArray, List.getElem_cons_zero, List.getElem_cons_succ]; go_simp; try rfl
            simp only [Act.put, List.getElem_toArray, List.getElem_cons_zero, List.getElem_cons_succ, List.setIfInBounds_toArray, List.set_cons_zero, List.set_cons_succ]
            refine z_take 15 (v := ?_) rfl (by kernel_rfl) (by kernel_rfl) (by kernel_rfl) (by kernel_rfl) (fun _ _ _ h => h) hHeld (by rfl) (fun w hSw => ?_) ?_
            rotate_left
            · clear hSw; simp only [List.getElem_toArray, List.getElem_cons_zero, List.getElem_cons_succ]; go_simp; try rfl
            simp only [Act.put, List.getElem_toArray, List.getElem_cons_zero, List.getElem_cons_succ, List.setIfInBounds_toArray, List.set_cons_zero, List.set_cons_succ]
            refine z_take 16 (v := ?_) rfl (by kernel_rfl) (by kernel_rfl) (by kernel_rfl) (by kernel_rfl) (fun _ _ _ h => h) hHeld (by rfl) (fun w hSw => ?_) ?_
            rotate_left
            · obtain ⟨c0, c1, _, _⟩ := HCA.out w hSw; clear hSw; simp only [List.getElem_toArray, List.getElem_cons_zero, List.getElem_cons_succ]; go_simp; try rfl
            simp only [Act.put, List.getElem_toArray, List.getElem_cons_zero, List.getElem_cons_succ, List.setIfInBounds_toArray, List.set_cons_zero, List.set_cons_succ]
            refine z_take 17 (v := ?_) rfl (by kernel_rfl) (by kernel_rfl) (by kernel_rfl) (by kernel_rfl) (fun _ _ _ h => h) hHeld (by rfl) (fun w hSw => ?_) ?_
            rotate_left
            · obtain ⟨c0, c1, _, _⟩ := HCA.out w hSw; clear hSw; simp only [List.getElem_toArray, List.getElem_cons_zero, List.getElem_cons_succ]; go_simp; try rfl
            simp only [Act.put, List.getElem_toArray, List.getElem_cons_zero, List.getElem_cons_succ, List.setIfInBounds_toArray, List.set_cons_zero, List.set_cons_succ]
            refine z_one 12 rfl (by kernel_rfl) (by rfl) (fun K hK => ?_)
            simp only [List.getElem_toArray, List.getElem_cons_zero, List.getElem_cons_succ]
            go_simp
            refine (HDC.out p pd F Q v2 HX.out).mono ?_
            rintro e y11 ⟨rfl, F5, Q5, hst, hk, hF5, hQ5⟩
            refine hK _ _ (Or.inr (hHeld.trans hk (fun j hj h => (HX.out.inF j h).elim id (fun h => by omega)))) (fun hHeld => ?_)
            clear hK K
            replace hHeld := hHeld.resolve_left (by decide)
            have hgs := HV.out.st
            have hfl : ∀ j, G j ∨ P j → j < v2.heap.size := fun j h => by obtain ⟨_, _, _, _, _, _, hs⟩ := hgs; exact h.elim (hs.flt j) (hs.rlt j)
            replace HV : Hid (At29 w w8 w9 y11 200 100 0 (14 + k) x pe S G P) := Lib.hid ⟨HV.out.st.keep hk (fun j h => (HAP.out.1 j h).1) (fun j h => (HAP.out.1 j h).2), HV.out.good, HV.out.turn, HV.out.inF, HV.out.inQ, hHeld⟩
            replace HAP := Lib.hid (And.intro (fun j (h : F5 j) => (hF5 j h).elim (fun h => HAP.out.1 j h) (fun h => ⟨fun h2 => by have := hfl j (Or.inl h2); omega, fun h2 => by have := hfl j (Or.inr h2); omega⟩)) (fun j (h : G j) => And.intro (fun h2 => (hF5 j h2).elim (fun h3 => (HAP.out.2 j h).1 h3) (fun h3 => by have := hfl j (Or.inl h); omega)) (fun h2 => (hQ5 j h2).elim (fun h3 => (HAP.out.2 j h).2 h3) (fun h3 => by have := hfl j (Or.inl h); omega))))
            replace HX := Lib.hid (HX.out.next hst HG2.out.1 (14 + (k + 1)) HG2.out.2 hk hF5 hQ5)
            clear hst hF5 hQ5 hfl hgs
            clear hk
            refine z_one 18 rfl (by kernel_rfl) (by rfl) (fun K hK => ?_)
            simp only [List.getElem_toArray, List.getElem_cons_zero, List.getElem_cons_succ]
            go_simp
            refine (HDC.out x pe G P y11 HV.out).mono ?_
            rintro e y12 ⟨rfl, G6, P6, hst, hk, hF5, hQ5⟩
            refine hK _ _ (Or.inr (hHeld.trans hk (fun j hj h => (HV.out.inF j h).elim id (fun h => by omega)))) (fun hHeld => ?_)
            clear hK K
            replace hHeld := hHeld.resolve_left (by decide)
            have hgs := HX.out.st
            have hfl : ∀ j, F5 j ∨ Q5 j → j < y11.heap.size := fun j h => by obtain ⟨_, _, _, _, _, _, hs⟩ := hgs; exact h.elim (hs.flt j) (hs.rlt j)
            replace HX : Hid (At29 w w8 w9 y12 200 100 0 (14 + (k + 1)) p pd S2 F5 Q5) := Lib.hid ⟨HX.out.st.keep hk (fun j h => (HAP.out.2 j h).1) (fun j h => (HAP.out.2 j h).2), HX.out.good, HX.out.turn, HX.out.inF, HX.out.inQ, hHeld⟩
            replace HAP := Lib.hid (And.intro (fun j (h : F5 j) => And.intro (fun h2 => (hF5 j h2).elim (fun h3 => (HAP.out.1 j h).1 h3) (fun h3 => by have := hfl j (Or.inl h); omega)) (fun h2 => (hQ5 j h2).elim (fun h3 => (HAP.out.1 j h).2 h3) (fun h3 => by have := hfl j (Or.inl h); omega))) (fun j (h : G6 j) => (hF5 j h).elim (fun h => HAP.out.2 j h) (fun h => ⟨fun h2 => by have := hfl j (Or.inl h2); omega, fun h2 => by have := hfl j (Or.inr h2); omega⟩)))
            replace HV := Lib.hid (HV.out.next hst HG2.out.1 (14 + (k + 1)) HG2.out.2 hk hF5 hQ5)
            clear hst hF5 hQ5 hfl hgs
            clear hk
            refine z_take 19 (v := ?_) rfl (by kernel_rfl) (by kernel_rfl) (by kernel_rfl) (by kernel_rfl) (fun _ _ _ h => h) hHeld (by rfl) (fun w hSw => ?_) ?_
            rotate_left
            · clear hSw; simp only [List.getElem_toArray, List.getElem_cons_zero, List.getElem_cons_succ]; go_simp; try rfl
            simp only [Act.put, List.getElem_toArray, List.getElem_cons_zero, List.getElem_cons_succ, List.setIfInBounds_toArray, List.set_cons_zero, List.set_cons_succ]
            refine z_take 20 (v := ?_) rfl (by kernel_rfl) (by kernel_rfl) (by kernel_rfl) (by kernel_rfl) (fun _ _ _ h => h) hHeld (by rfl) (fun w hSw => ?_) ?_
            rotate_left
            · clear hSw; simp only [List.getElem_toArray, List.getElem_cons_zero, List.getElem_cons_succ]; go_simp; try rfl
            simp only [Act.put, List.getElem_toArray, List.getElem_cons_zero, List.getElem_cons_succ, List.setIfInBounds_toArray, List.set_cons_zero, List.set_cons_succ]
            refine z_done (by kernel_rfl) ?_ _
            clear hHeld
            go_wp2
            go_roundw
            case rel => exact ⟨k + 1, S2, F5, Q5, G6, P6, hlt, by go_num, HX.out, HV.out, HAP.out.1, HAP.out.2⟩
            case measure => simp [intOf]; omega
          · skip
            obtain ⟨v2, hdr⟩ : ∃ v, World.drew y6 = v := ⟨_, rfl⟩
            have hk : Keeps (fun _ => False) y6 v2 := by rw [← hdr]; exact (Keeps.refl _ _).drew
            replace HX := Lib.hid (HX.out.quiet hk)
            replace HV := Lib.hid (HV.out.quiet hk)
            have hSb : Keeps (fun j => w.heap.size ≤ j ∧ j < w8.heap.size) w9 v2 := HX.out.kp
            rw [← hdr] at hSb
            refine z_begin (fun w' => Keeps (fun j => w.heap.size ≤ j ∧ j < w8.heap.size) w9 w') 21 (by kernel_rfl) hSb (fun hHeld => ?_)
            clear hSb
            rw [hdr] at hHeld ⊢
            clear hk hdr
            refine z_take 0 (v := ?_) rfl (by kernel_rfl) (by kernel_rfl) (by kernel_rfl) (by kernel_rfl) (fun _ _ _ h => h) hHeld (by rfl) (fun w hSw => ?_) ?_
            rotate_left
            · clear hSw; simp only [List.getElem_toArray, List.getElem_cons_zero]; go_simp; try rfl
            simp only [Act.put, List.getElem_toArray, List.getElem_cons_zero, List.setIfInBounds_toArray, List.set_cons_zero, List.set_cons_succ]
            refine z_take 1 (v := ?_) rfl (by kernel_rfl) (by kernel_rfl) (by kernel_rfl) (by kernel_rfl) (fun _ _ _ h => h) hHeld (by rfl) (fun w hSw => ?_) ?_
            rotate_left
            · clear hSw; simp only [List.getElem_toArray, List.getElem_cons_zero, List.getElem_cons_succ]; go_simp; try rfl
            simp only [Act.put, List.getElem_toArray, List.getElem_cons_zero, List.getElem_cons_succ, List.setIfInBounds_toArray, List.set_cons_zero, List.set_cons_succ]
            refine z_take 2 (v := ?_) rfl (by kernel_rfl) (by kernel_rfl) (by kernel_rfl) (by kernel_rfl) (fun _ _ _ h => h) hHeld (by rfl) (fun w hSw => ?_) ?_
            rotate_left
            · obtain ⟨c0, c1, _, _⟩ := HCA.out w hSw; clear hSw; simp only [List.getElem_toArray, List.getElem_cons_zero, List.getElem_cons_succ]; go_simp; try rfl
            simp only [Act.put, List.getElem_toArray, List.getElem_cons_zero, List.getElem_cons_succ, List.setIfInBounds_toArray, List.set_cons_zero, List.set_cons_succ]
            refine z_take 3 (v := ?_) rfl (by kernel_rfl) (by kernel_rfl) (by kernel_rfl) (by kernel_rfl) (fun _ _ _ h => h) hHeld (by rfl) (fun w hSw => ?_) ?_
            rotate_left
            · obtain ⟨c0, c1, _, _⟩ := HCA.out w hSw; clear hSw; simp only [List.getElem_toArray, List.getElem_cons_zero, List.getElem_cons_succ]; go_simp; try rfl
            simp only [Act.put, List.getElem_toArray, List.getElem_cons_zero, List.getElem_cons_succ, List.setIfInBounds_toArray, List.set_cons_zero, List.set_cons_succ]
            refine z_take 4 (v := ?_) rfl (by kernel_rfl) (by kernel_rfl) (by kernel_rfl) (by kernel_rfl) (fun _ _ _ h => h) hHeld (by rfl) (fun w hSw => ?_) ?_
            rotate_left
            · obtain ⟨c0, c1, _, _⟩ := HCA.out w hSw; clear hSw; simp only [List.getElem_toArray, List.getElem_cons_zero, List.getElem_cons_succ]; go_simp; try rfl
            simp only [Act.put, List.getElem_toArray, List.getElem_cons_zero, List.getElem_cons_succ, List.setIfInBounds_toArray, List.set_cons_zero, List.set_cons_succ]
            refine z_take 5 (v := ?_) rfl (by kernel_rfl) (by kernel_rfl) (by kernel_rfl) (by kernel_rfl) (fun _ _ _ h => h) hHeld (by rfl) (fun w hSw => ?_) ?_
            rotate_left
            · clear hSw; simp only [List.getElem_toArray, List.getElem_cons_zero, List.getElem_cons_succ]; go_simp; try rfl
            simp only [Act.put, List.getElem_toArray, List.getElem_cons_zero, List.getElem_cons_succ, List.setIfInBounds_toArray, List.set_cons_zero, List.set_cons_succ]
            refine z_take 6 (v := ?_) rfl (by kernel_rfl) (by kernel_rfl) (by kernel_rfl) (by kernel_rfl) (fun _ _ _ h => h) hHeld (by rfl) (fun w hSw => ?_) ?_
            rotate_left
            · clear hSw; simp only [List.getElem_toArray, List.getElem_cons_zero, List.getElem_cons_succ]; go_simp; try rfl
            simp only [Act.put, List.getElem_toArray, List.getElem_cons_zero, List.getElem_cons_succ, List.setIfInBounds_toArray, List.set_cons_zero, List.set_cons_succ]
            refine z_skip 7 rfl (by kernel_rfl) (by kernel_rfl) (by kernel_rfl) (by kernel_rfl) (fun _ _ _ h => h) hHeld (by rfl) ?_
            simp only [Act.put, List.getElem_toArray, List.getElem_cons_zero, List.getElem_cons_succ, List.setIfInBounds_toArray, List.set_cons_zero, List.set_cons_succ]
            refine z_skip 8 rfl (by kernel_rfl) (by kernel_rfl) (by kernel_rfl) (by kernel_rfl) (fun _ _ _ h => h) hHeld (by rfl) ?_
            simp only [Act.put, List.getElem_toArray, List.getElem_cons_zero, List.getElem_cons_succ, List.setIfInBounds_toArray, List.set_cons_zero, List.set_cons_succ]
            refine z_skip 9 rfl (by kernel_rfl) (by kernel_rfl) (by kernel_rfl) (by kernel_rfl) (fun _ _ _ h => h) hHeld (by rfl) ?_
            simp only [Act.put, List.getElem_toArray, List.getElem_cons_zero, List.getElem_cons_succ, List.setIfInBounds_toArray, List.set_cons_zero, List.set_cons_succ]
            refine z_skip 10 rfl (by kernel_rfl) (by kernel_rfl) (by kernel_rfl) (by kernel_rfl) (fun _ _ _ h => h) hHeld (by rfl) ?_
            simp only [Act.put, List.getElem_toArray, List.getElem_cons_zero, List.getElem_cons_succ, List.setIfInBounds_toArray, List.set_cons_zero, List.set_cons_succ]
            refine z_skip 11 rfl (by kernel_rfl) (by kernel_rfl) (by kernel_rfl) (by kernel_rfl) (fun _ _ _ h => h) hHeld (by rfl) ?_
            simp only [Act.put, List.getElem_toArray, List.getElem_cons_zero, List.getElem_cons_succ, List.setIfInBounds_toArray, List.set_cons_zero, List.set_cons_succ]
            refine z_skip 12 rfl (by kernel_rfl) (by kernel_rfl) (by kernel_rfl) (by kernel_rfl) (fun _ _ _ h => h) hHeld (by rfl) ?_
            simp only [Act.put, List.getElem_toArray, List.getElem_cons_zero, List.getElem_cons_succ, List.setIfInBounds_toArray, List.set_cons_zero, List.set_cons_succ]
            refine z_skip 13 rfl (by kernel_rfl) (by kernel_rfl) (by kernel_rfl) (by kernel_rfl) (fun _ _ _ h => h) hHeld (by rfl) ?_
            simp only [Act.put, List.getElem_toArray, List.getElem_cons_zero, List.getElem_cons_succ, List.setIfInBounds_toArray, List.set_cons_zero, List.set_cons_succ]
            refine z_skip 14 rfl (by kernel_rfl) (by kernel_rfl) (by kernel_rfl) (by kernel_rfl) (fun _ _ _ h => h) hHeld (by rfl) ?_
            simp only [Act.put, List.getElem_toArray, List.getElem_cons_zero, List.getElem_cons_succ, List.setIfInBounds_toArray, List.set_cons_zero, List.set_cons_succ]
            refine z_skip 15 rfl (by kernel_rfl) (by kernel_rfl) (by kernel_rfl) (by kernel_rfl) (fun _ _ _ h => h) hHeld (by rfl) ?_
            simp only [Act.put, List.getElem_toArray, List.getElem_cons_zero, List.getElem_cons_succ, List.setIfInBounds_toArray, List.set_cons_zero, List.set_cons_succ]
            refine z_skip 16 rfl (by kernel_rfl) (by kernel_rfl) (by kernel_rfl) (by kernel_rfl) (fun _ _ _ h => h) hHeld (by rfl) ?_
            simp only [Act.put, List.getElem_toArray, List.getElem_cons_zero, List.getElem_cons_succ, List.setIfInBounds_toArray, List.set_cons_zero, List.set_cons_succ]
            refine z_skip 17 rfl (by kernel_rfl) (by kernel_rfl) (by kernel_rfl) (by kernel_rfl) (fun _ _ _ h => h) hHeld (by rfl) ?_
            simp only [Act.put, List.getElem_toArray, List.getElem_cons_zero, List.getElem_cons_succ, List.setIfInBounds_toArray, List.set_cons_zero, List.set_cons_succ]
            refine z_skip 18 rfl (by kernel_rfl) (by kernel_rfl) (by kernel_rfl) (by kernel_rfl) (fun _ _ _ h => h) hHeld (by rfl) ?_
            simp only [Act.put, List.getElem_toArray, List.getElem_cons_zero, List.getElem_cons_succ, List.setIfInBounds_toArray, List.set_cons_zero, List.set_cons_succ]
            refine z_skip 19 rfl (by kernel_rfl) (by kernel_rfl) (by kernel_rfl) (by kernel_rfl) (fun _ _ _ h => h) hHeld (by rfl) ?_
            simp only [Act.put, List.getElem_toArray, List.getElem_cons_zero, List.getElem_cons_succ, List.setIfInBounds_toArray, List.set_cons_zero, List.set_cons_succ]
            refine z_take 20 (v := ?_) rfl (by kernel_rfl) (by kernel_rfl) (by kernel_rfl) (by kernel_rfl) (fun _ _ _ h => h) hHeld (by rfl) (fun w hSw => ?_) ?_
            rotate_left
            · clear hSw; simp only [List.getElem_toArray, List.getElem_cons_zero, List.getElem_cons_succ]; go_simp; try rfl
            simp only [Act.put, List.getElem_toArray, List.getElem_cons_zero, List.getElem_cons_succ, List.setIfInBounds_toArray, List.set_cons_zero, List.set_cons_succ]
            refine z_done (by kernel_rfl) ?_ _
            clear hHeld
            have hx1 : At29 w w8 w9 v2 200 100 0 (14 + (k + 1)) p pd S F Q := ⟨HX.out.st, HX.out.good, by have := HX.out.turn; omega, HX.out.inF, HX.out.inQ, HX.out.kp⟩
            have hx2 : At29 w w8 w9 v2 200 100 0 (14 + (k + 1)) x pe S G P := ⟨HV.out.st, HV.out.good, by have := HV.out.turn; omega, HV.out.inF, HV.out.inQ, HV.out.kp⟩
            have HN1 := Lib.hid hx1
            have HN2 := Lib.hid hx2
            clear hx1 hx2
            go_wp2
            go_roundw
            case rel => exact ⟨k + 1, S, F, Q, G, P, hlt, by go_num, HN1.out, HN2.out, HAP.out.1, HAP.out.2⟩
            case measure => simp [intOf]; omega
        · have j2 : ¬ (k : Int) < (M : Int) := by omega
          have HF := Lib.hid (HK9.out.trans HX.out.kp (fun j hj h => by omega))
          go_wp2_with fail
          refine (lives_any _).mono ?_
          rintro e w99 ⟨rfl, hk99⟩
          replace HF := Lib.hid (HF.out.quiet hk99)
          go_wp2
          go_ret
          exact ⟨rfl, HF.out⟩
end Go.Proofs.Ytpojkhjenbbodaa
