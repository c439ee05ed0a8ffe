/-
  The law StoreErased: the walk. Conditions: the arguments are what came in.
-/
import Derived.Test.YtpojkhjenbbodaaRounds29
namespace Go.Proofs.Ytpojkhjenbbodaa
open Go.RowKit

/-- How many bytes are no noughts. -/
def nz (l : List UInt8) : Nat := l.countP (fun c => c != 0)
theorem nz_append (a b : List UInt8) : nz (a ++ b) = nz a + nz b := by simp [nz]
theorem nz_zeros (n : Nat) : nz (List.replicate n 0) = 0 := by simp [nz, List.countP_replicate]
theorem nz_le (l : List UInt8) : nz l ≤ l.length := List.countP_le_length
theorem nz_pad (n : Nat) (l : List UInt8) : nz (pad n l) ≤ l.length := by
  unfold pad
  rw [nz_append, nz_zeros]
  have := nz_le l
  omega
theorem nz_snoc (l : List UInt8) (k : Nat) (c : UInt8) (h : l[k]? = some c) : nz (l.take (k + 1)) = nz (l.take k) + (if c = 0 then 0 else 1) := by
  have hk := (List.getElem?_eq_some_iff.1 h).1
  rw [List.take_succ_eq_append_getElem hk, nz_append, (List.getElem?_eq_some_iff.1 h).2]
  congr 1
  unfold nz
  by_cases hc : c = 0 <;> simp [hc]
theorem good_nought {H Z R : Nat} {S : SS} (h : Good H Z R S) (k : Nat) (h1 : (frames S.recs).length ≤ k) (h2 : k < H) : S.d.now[k]? = some 0 := by
  rw [h.d]
  show (img H Z R S.recs (S.pl 0) (S.pl 1))[k]? = some 0
  unfold img
  have hl := pad_length H (frames S.recs) h.used_sum
  rw [List.getElem?_append_left (by omega)]
  unfold pad
  rw [List.getElem?_append_right h1, List.getElem?_replicate]
  rw [if_pos (by omega)]
theorem good_many {H Z R : Nat} {S : SS} (h : Good H Z R S) : nz (S.d.now.drop H) ≤ 14 + S.keys.length := by
  rw [h.d]
  show nz ((img H Z R S.recs (S.pl 0) (S.pl 1)).drop H) ≤ _
  unfold img
  have hl := pad_length H (frames S.recs) h.used_sum
  rw [List.drop_append, List.drop_eq_nil_of_le (by omega), List.nil_append, hl, Nat.sub_self, List.drop_zero, nz_append, nz_append, nz_zeros]
  have a0 := nz_pad Z (S.pl 0)
  have a1 := nz_pad Z (S.pl 1)
  have b0 : (S.pl 0).length + (S.pl 1).length ≤ 14 + S.keys.length := by
    unfold SS.pl
    by_cases c0 : S.now = 0 ∧ 0 < S.turn
    · rw [if_pos c0, if_neg (by omega), keyF_length]; simp; omega
    · rw [if_neg c0]
      split
      · rw [keyF_length]; simp; omega
      · simp
  omega

def ErRel (w w1 w2 : World) (N : Nat) (d s i : Value) (wr : World) : Prop :=
  ∃ (k p pd : Nat) (S : SS) (F Q : Nat → Prop), k ≤ N ∧ i = .int .i64 (k : Int) ∧ d = .pointer (some ⟨pd, 0, none⟩) ∧ s = .pointer (some ⟨p, 0, none⟩) ∧ At29 w w1 w2 wr 150 75 0 k p pd S F Q
def EoRel (rs : List (List UInt8)) (o k_ : Value) : Prop := ∃ k : Nat, k ≤ rs.length ∧ k_ = .int .i64 (k : Int) ∧ o = .int .i64 ((frames (rs.take k)).length : Int)
def EkRel (a b : Nat) (k_ : Value) : Prop := ∃ k : Nat, a ≤ k ∧ k ≤ b ∧ k_ = .int .i64 (k : Int)
def EmRel (l : List UInt8) (m k_ : Value) : Prop := ∃ k : Nat, k ≤ 150 ∧ k_ = .int .i64 ((150 + k : Nat) : Int) ∧ m = .int .i64 (nz (l.take k) : Int)
theorem frames_step (rs : List (List UInt8)) (k : Nat) (r : List UInt8) (h : rs[k]? = some r) : (frames (rs.take (k + 1))).length = (frames (rs.take k)).length + 10 + r.length := by
  have hk := (List.getElem?_eq_some_iff.1 h).1
  rw [List.take_succ_eq_append_getElem hk, frames_snoc, (List.getElem?_eq_some_iff.1 h).2, List.length_append, recF_length]
  omega

set_option maxHeartbeats 4000000 in
set_option maxRecDepth 10000 in
theorem storeErased_walk (la : Option Addr) (len cap : Nat) (zs : List Int) (left : Int) (w : World) (hs : Sl w la len cap (IV zs)) (hwf : ∀ z ∈ zs, -9223372036854775808 ≤ z ∧ z ≤ 9223372036854775807) :
    Calls Try.prog 4 #[.slice la len cap, .int .i64 left] w fun e w' => e = .returned (.bool true) ∧ Keeps (fun _ => False) w w' := by
  have HM := Lib.hid (made_any 300 w (by omega) (by omega))
  have HXY := Lib.hid (And.intro hs hwf)
  clear hs hwf
  go_enter Try.func4, Try.ntmps4
  go_wp2_with fail
  refine HM.out.mono ?_
  rintro e w1 ⟨p0, pd0, F0, Q0, rfl, hst, hk, hF, hQ⟩
  have HK := Lib.hid hk
  have hlt : ∀ j, F0 j ∨ Q0 j → j < w1.heap.size := fun j h => by obtain ⟨_, _, _, _, _, _, hs⟩ := hst; exact h.elim (hs.flt j) (hs.rlt j)
  have H1 := Lib.hid (And.intro hst (And.intro hF (And.intro hQ hlt)))
  have HA := Lib.hid (acts_any la len cap zs w1 (HXY.out.1.quiet hk) HXY.out.2)
  clear HM hst hk hF hQ hlt
  go_wp2_with fail
  refine HA.out.mono ?_
  rintro e w2 ⟨sa, ca, rows, rfl, hmap, hat, hk⟩
  have HAT0 : Hid (At29 w w1 w2 w2 150 75 0 0 p0 pd0 (S0 300) F0 Q0) := Lib.hid ⟨H1.out.1.quiet hk, S0_good (H := 150) (Z := 75) (R := 0) rfl rfl (by omega), Nat.le_refl _, fun j a => Or.inl ⟨H1.out.2.1 j a, H1.out.2.2.2 j (Or.inl a)⟩, fun j a => Or.inl ⟨H1.out.2.2.1 j a, H1.out.2.2.2 j (Or.inr a)⟩, Keeps.refl _ _⟩
  have HK12 : Hid (Keeps (fun _ => False) w w2) := Lib.hid (HK.out.quiet hk)
  have hrl : rows.length ≤ 14 := by
    have := congrArg List.length hmap
    simp at this
    omega
  have HRB : Hid (∀ r ∈ rows, r.a.b.length ≤ 20) := Lib.hid (fun r hr => by
    have h1 : r.a ∈ rows.map ARow.a := List.mem_map.2 ⟨r, hr, rfl⟩
    rw [hmap] at h1
    obtain ⟨x, _, hx⟩ := List.mem_map.1 h1
    rw [← hx]
    exact mkAct_len x)
  have HAC := Lib.hid hat
  obtain ⟨N, hN⟩ : ∃ n, rows.length = n := ⟨_, rfl⟩
  rw [hN] at hrl HAC ⊢
  have HN := Lib.hid hN
  clear HA H1 HXY hmap hat hk hN HK
  go_wp2_with fail
  go_loopw [5, 6, 8] (fun d s i wr => ErRel w w1 w2 N d s i wr) (fun _ _ i _ => N - (intOf i).toNat)
  case atStart => exact ⟨0, p0, pd0, S0 300, F0, Q0, Nat.zero_le _, rfl, rfl, rfl, HAT0.out⟩
  case round =>
    clear HAT0
    obtain ⟨k, p, pd, S, F, Q, hk, rfl, rfl, rfl, hat⟩ := hrel
    have HX := Lib.hid hat
    clear hat
    by_cases hlt : k < N
    · obtain ⟨r, hr⟩ : ∃ r, rows[k]? = some r := ⟨_, List.getElem?_eq_getElem (by rw [HN.out]; exact hlt)⟩
      obtain ⟨ga, rfl⟩ := own_some HAC.out.row (by omega)
      have hga := own_lt HAC.out.row rfl
      have hrow : wr.ownsRow w1.heap.size 32 2 (.slice (some ⟨ga, 0, none⟩) N ca) rows.length (AV rows) := by
        have h0 := HAC.out.row
        exact own_keep h0 HX.out.kp (fun j e h => by simp [Value.ownBlock] at e; omega)
      obtain ⟨a0, a1⟩ := AV_at rows k r hr
      have c0 := own_cell hrow _ _ a0
      have c1 := own_cell hrow _ _ a1
      have hmem : r ∈ rows := List.mem_of_getElem? hr
      have hob := HAC.out.each r hmem
      have HB : Hid (∀ wx, Keeps (fun j => w.heap.size ≤ j ∧ j < w1.heap.size) w2 wx → Sl wx r.sa r.a.b.length r.cap (BV r.a.b)) := Lib.hid (fun wx hx => Sl.of_own (own_keep hob hx (fun j e h => by have := (hob.lt j e).1; omega)))
      have HBL : Hid (∀ ad, r.sa = some ad → 0 < r.a.b.length → ∀ G : Nat → Prop, (∀ j, G j → (w.heap.size ≤ j ∧ j < w1.heap.size) ∨ w2.heap.size ≤ j) → ¬ G ad.block) := Lib.hid (fun ad e h0 G hG hg => by
        obtain ⟨g, hg2⟩ := own_some hob h0
        rw [hg2] at e
        cases e
        have h1 := own_lt hob hg2
        have h2 := hG _ hg
        simp only at h2
        omega)
      have hbl := HRB.out r hmem
      generalize r.a.doo = doo at *
      generalize r.a.b = bb at *
      obtain ⟨nb, hnb⟩ : ∃ n, bb.length = n := ⟨_, rfl⟩
      have HNB := Lib.hid hnb
      rw [hnb] at c1 HB HBL hbl
      generalize r.sa = sb at *
      generalize r.cap = cb at *
      clear hr hrow a0 a1 hmem hob hga hnb
      have j1 : (0 : Int) ≤ (k : Int) := by omega
      have j2 : (k : Int) < (N : Int) := by omega
      by_cases h3 : doo < 3
      · have HG := good_does HX.out.good (by have := HX.out.turn; omega) doo bb
        have HC := Lib.hid (does_any p pd S F Q wr HX.out.st doo sb nb cb bb (HB.out wr HX.out.kp) (by omega) (fun ad e h0 => HBL.out ad e h0 F HX.out.inF) (by rw [HX.out.good.lo]; simp) (by have := HX.out.turn; omega) (by have := HX.out.good.few; omega))
        generalize S.does doo bb = Y at *
        obtain ⟨S2, r2⟩ := Y
        have HG2 := Lib.hid HG
        clear HG
        go_wp2_with fail
        refine HC.out.mono ?_
        rintro e w3 ⟨rfl, F3, Q3, hst, hk3, hF3, hQ3⟩
        have hnx := HX.out.next hst HG2.out.1 (k + 1) (by have := HX.out.turn; have h9 : S2.turn ≤ S.turn + 1 := HG2.out.2; omega) hk3 hF3 hQ3
        clear HX HC HG2 hst hk3 hF3 hQ3 c0 c1
        have HX := Lib.hid hnx
        clear hnx
        by_cases h5 : k % 5 = 4
        · have h5i : (k : Int) % 5 = 4 := by omega
          obtain ⟨Fd, so, co, vs, sk, ck, hstA⟩ := HX.out.st
          have HC := Lib.hid (again_any pd left S2.d Fd w3 hstA.disk HX.out.good.cr (by rw [HX.out.good.lo]; simp) (by rw [HX.out.good.lo]; simp) (by rw [HX.out.good.d]; rfl) (by rw [HX.out.good.len]; omega) (by rw [HX.out.good.len]; omega))
          rw [good_crash HX.out.good left, good_open HX.out.good] at HC
          have HFd : Hid (∀ j, Fd j → F3 j) := Lib.hid (fun j h => (hstA.foot j).2 (Or.inr (Or.inl h)))
          clear hstA
          go_wp2_with fail
          refine HC.out.mono ?_
          rintro e w4 ⟨q, p4, F4, Q4, rfl, hst, hk4, hF4, hQ4⟩
          have hnx := HX.out.next hst HX.out.good (k + 1) HX.out.turn (hk4.mono (fun j _ h => HFd.out j h)) (fun j h => Or.inr (hF4 j h)) (fun j h => Or.inr (hQ4 j h))
          clear HX HC HFd hst hk4 hF4 hQ4
          have HX := Lib.hid hnx
          clear hnx
          obtain ⟨Fd, so, co, vs, sk, ck, hstA⟩ := HX.out.st
          have HR := Lib.hid (raw_any q S2.d Fd w4 hstA.disk (by rw [HX.out.good.len]; omega))
          rw [show S2.d.now.length = 300 from HX.out.good.len] at HR
          clear hstA
          go_wp2_with fail
          refine HR.out.mono ?_
          rintro e w5 ⟨g5, c5, rfl, hown, hk5⟩
          replace HX := Lib.hid (HX.out.quiet hk5)
          have HRW := Lib.hid hown
          have HC := Lib.hid (records_any p4 q S2 F4 Q4 w5 HX.out.st)
          clear HR hown hk5
          go_wp2_with fail
          refine HC.out.mono ?_
          rintro e w6 ⟨s6, c6, vs6, rfl, hown, hrows, hk6⟩
          replace HX := Lib.hid (HX.out.quiet hk6)
          replace HRW := Lib.hid (own_keep HRW.out hk6 (fun _ _ h => h))
          have HRS := Lib.hid (And.intro hown hrows)
          have hrn := HX.out.good.few
          obtain ⟨nr, hnr⟩ : ∃ n, S2.recs.length = n := ⟨_, rfl⟩
          have HNR := Lib.hid hnr
          rw [hnr] at hrn
          rw [hnr] at HRS ⊢
          have HUS := Lib.hid HX.out.good.used_sum
          clear HC hown hrows hk6 hnr
          go_wp2_with fail
          go_loop [12, 14] (fun o i => EoRel S2.recs o i) (fun _ i => nr - (intOf i).toNat)
          case atStart => exact ⟨0, Nat.zero_le _, rfl, by simp [frames]⟩
          case round =>
            obtain ⟨m, hm, rfl, rfl⟩ := hrel
            rw [HNR.out] at hm
            by_cases hlm : m < nr
            · obtain ⟨x, hx⟩ : ∃ x, S2.recs[m]? = some x := ⟨_, List.getElem?_eq_getElem (by rw [HNR.out]; exact hlm)⟩
              obtain ⟨sx, cx, hvx, hox⟩ := HRS.out.2.row m x hx
              obtain ⟨gs, rfl⟩ := own_some HRS.out.1 (by omega)
              have d1 := own_cell HRS.out.1 m _ hvx
              have hst := frames_step S2.recs m x hx
              have hfl : (frames (S2.recs.take (m + 1))).length ≤ (frames S2.recs).length := by
                have h0 := congrArg (fun l => (frames l).length) (List.take_append_drop (m + 1) S2.recs)
                simp only [frames, List.map_append, List.flatten_append, List.length_append] at h0 ⊢
                omega
              have hus := HUS.out
              have HST := Lib.hid hst
              have hfb : (frames (S2.recs.take m)).length + 10 + x.length ≤ 150 := by omega
              obtain ⟨fm, hfm⟩ : ∃ n, (frames (S2.recs.take m)).length = n := ⟨_, rfl⟩
              obtain ⟨lx, hlx⟩ : ∃ n, x.length = n := ⟨_, rfl⟩
              rw [hfm, hlx] at hfb
              rw [hlx] at d1
              rw [hfm]
              have HF := Lib.hid (And.intro hfm hlx)
              have u0 : (0 : Int) ≤ (m : Int) := by omega
              have u1 : (m : Int) < (nr : Int) := by omega
              clear hx hvx hox hst hfl hus hfm hlx
              go_wp2
              go_round
              case rel => exact ⟨m + 1, by rw [HNR.out]; exact hlm, by go_num, by rw [HST.out, HF.out.1, HF.out.2]; go_num⟩
              case measure => simp [intOf]; omega
            · obtain rfl : m = nr := by omega
              have u1 : ¬ (m : Int) < (m : Int) := by omega
              have hall : S2.recs.take m = S2.recs := List.take_of_length_le (by rw [HNR.out]; exact Nat.le_refl _)
              rw [hall]
              obtain ⟨us, hus⟩ : ∃ n, (frames S2.recs).length = n := ⟨_, rfl⟩
              have husb : us ≤ 150 := by rw [← hus]; exact HUS.out
              rw [hus]
              have HU := Lib.hid hus
              have u2 : ¬ (us : Int) > 150 := by omega
              have e300 : ((300 : Int) != 300) = false := by decide
              clear hall hus hlm
              go_wp2_with fail
              go_loop [15] (fun i => EkRel us 150 i) (fun i => 150 - (intOf i).toNat)
              case atStart => exact ⟨us, Nat.le_refl _, husb, rfl⟩
              case round =>
                obtain ⟨j, hj1, hj2, rfl⟩ := hrel
                by_cases hlj : j < 150
                · have hz := good_nought HX.out.good j (by rw [HU.out]; exact hj1) hlj
                  have d2 := own_cell HRW.out j (.int .u8 ((0 : UInt8).toNat : Int)) (by rw [BV_get, hz]; rfl)
                  rw [show (((0 : UInt8).toNat : Nat) : Int) = 0 from rfl] at d2
                  have e0 : ((0 : Int) != 0) = false := by decide
                  have u3 : (0 : Int) ≤ (j : Int) := by omega
                  have u4 : (j : Int) < 150 := by omega
                  have u5 : (j : Int) < 300 := by omega
                  clear hz
                  go_wp2
                  go_round
                  case rel => exact ⟨j + 1, by omega, by omega, by go_num⟩
                  case measure => simp [intOf]; omega
                · have u4 : ¬ (j : Int) < 150 := by omega
                  have HY := Lib.hid (keys_any p4 q S2 F4 Q4 w6 HX.out.st)
                  obtain ⟨nk, hnk⟩ : ∃ n, S2.keys.length = n := ⟨_, rfl⟩
                  rw [hnk] at HY
                  have HMN := Lib.hid (good_many HX.out.good)
                  rw [hnk] at HMN
                  have hkb : nk ≤ 65536 := by obtain ⟨_, _, _, _, _, _, hsq⟩ := HX.out.st; rw [← hnk]; exact hsq.small.2.2.1
                  clear hnk
                  go_wp2_with fail
                  refine HY.out.mono ?_
                  rintro e w7 ⟨s7, c7, rfl, _, hk7⟩
                  replace HX := Lib.hid (HX.out.quiet hk7)
                  replace HRW := Lib.hid (own_keep HRW.out hk7 (fun _ _ h => h))
                  clear HY hk7
                  obtain ⟨lq, hlq⟩ : ∃ l, S2.d.now.drop 150 = l := ⟨_, rfl⟩
                  have hll : lq.length = 150 := by rw [← hlq, List.length_drop, HX.out.good.len]
                  rw [hlq] at HMN
                  have HLQ := Lib.hid (And.intro hlq hll)
                  clear hlq hll
                  go_wp2_with fail
                  go_loop [17, 18] (fun m i => EmRel lq m i) (fun _ i => 300 - (intOf i).toNat)
                  case atStart => exact ⟨0, Nat.zero_le _, rfl, by simp [nz]⟩
                  case round =>
                    obtain ⟨t, ht, rfl, rfl⟩ := hrel
                    by_cases hlt2 : t < 150
                    · obtain ⟨c, hc⟩ : ∃ c, lq[t]? = some c := ⟨_, List.getElem?_eq_getElem (by rw [HLQ.out.2]; exact hlt2)⟩
                      have hc2 : S2.d.now[150 + t]? = some c := by rw [← HLQ.out.1, List.getElem?_drop] at hc; exact hc
                      have d3 := own_cell HRW.out (150 + t) (.int .u8 (c.toNat : Int)) (by rw [BV_get, hc2]; rfl)
                      have hsn := nz_snoc lq t c hc
                      have hnb2 : nz (lq.take t) ≤ 150 := by have := nz_le (lq.take t); rw [List.length_take] at this; omega
                      obtain ⟨q0, hq0⟩ : ∃ n, nz (lq.take t) = n := ⟨_, rfl⟩
                      rw [hq0] at hnb2 hsn
                      rw [hq0]
                      obtain ⟨kt, hkt⟩ : ∃ n, 150 + t = n := ⟨_, rfl⟩
                      rw [hkt] at d3
                      rw [hkt]
                      have u6 : (0 : Int) ≤ (kt : Int) := by omega
                      have u7 : (kt : Int) < 300 := by omega
                      by_cases hc0 : c = 0
                      · have e1 : ((c.toNat : Int) != 0) = false := by subst hc0; rfl
                        rw [if_pos hc0] at hsn
                        have HSN := Lib.hid (And.intro hsn hkt)
                        clear hc hc2 hsn hq0 hkt hc0
                        generalize c.toNat = cn at *
                        go_wp2
                        go_round
                        case rel => exact ⟨t + 1, by omega, by rw [← Nat.add_assoc, HSN.out.2]; go_num, by rw [HSN.out.1]; rfl⟩
                        case measure => simp [intOf]; omega
                      · have e1 : ((c.toNat : Int) != 0) = true := by
                          have : c.toNat ≠ 0 := fun h => hc0 (UInt8.toNat_inj.1 h)
                          simp; omega
                        rw [if_neg hc0] at hsn
                        have HSN := Lib.hid (And.intro hsn hkt)
                        clear hc hc2 hsn hq0 hkt hc0
                        generalize c.toNat = cn at *
                        go_wp2
                        go_round
                        case rel => exact ⟨t + 1, by omega, by rw [← Nat.add_assoc, HSN.out.2]; go_num, by rw [HSN.out.1]; go_num⟩
                        case measure => simp [intOf]; omega
                    · obtain rfl : t = 150 := by omega
                      have u7 : ¬ ((150 + 150 : Nat) : Int) < 300 := by omega
                      have htk : lq.take 150 = lq := List.take_of_length_le (by rw [HLQ.out.2]; exact Nat.le_refl _)
                      rw [htk]
                      have hmn := HMN.out
                      generalize nz lq = mq at *
                      have u8_ : ¬ (mq : Int) > 14 + (nk : Int) := by omega
                      clear htk hmn
                      go_wp2
                      go_roundw
                      case rel => exact ⟨k + 1, p4, q, S2, F4, Q4, hlt, by go_num, rfl, rfl, HX.out⟩
                      case measure => simp [intOf]; omega
        · have h5i : ¬ (k : Int) % 5 = 4 := by omega
          obtain ⟨Fd, so, co, vs, sk, ck, hstA⟩ := HX.out.st
          have HR := Lib.hid (raw_any pd S2.d Fd w3 hstA.disk (by rw [HX.out.good.len]; omega))
          rw [show S2.d.now.length = 300 from HX.out.good.len] at HR
          clear hstA
          go_wp2_with fail
          refine HR.out.mono ?_
          rintro e w5 ⟨g5, c5, rfl, hown, hk5⟩
          replace HX := Lib.hid (HX.out.quiet hk5)
          have HRW := Lib.hid hown
          have HC := Lib.hid (records_any p pd S2 F3 Q3 w5 HX.out.st)
          clear HR hown hk5
          go_wp2_with fail
          refine HC.out.mono ?_
          rintro e w6 ⟨s6, c6, vs6, rfl, hown, hrows, hk6⟩
          replace HX := Lib.hid (HX.out.quiet hk6)
          replace HRW := Lib.hid (own_keep HRW.out hk6 (fun _ _ h => h))
          have HRS := Lib.hid (And.intro hown hrows)
          have hrn := HX.out.good.few
          obtain ⟨nr, hnr⟩ : ∃ n, S2.recs.length = n := ⟨_, rfl⟩
          have HNR := Lib.hid hnr
          rw [hnr] at hrn
          rw [hnr] at HRS ⊢
          have HUS := Lib.hid HX.out.good.used_sum
          clear HC hown hrows hk6 hnr
          go_wp2_with fail
          go_loop [12, 14] (fun o i => EoRel S2.recs o i) (fun _ i => nr - (intOf i).toNat)
          case atStart => exact ⟨0, Nat.zero_le _, rfl, by simp [frames]⟩
          case round =>
            obtain ⟨m, hm, rfl, rfl⟩ := hrel
            rw [HNR.out] at hm
            by_cases hlm : m < nr
            · obtain ⟨x, hx⟩ : ∃ x, S2.recs[m]? = some x := ⟨_, List.getElem?_eq_getElem (by rw [HNR.out]; exact hlm)⟩
              obtain ⟨sx, cx, hvx, hox⟩ := HRS.out.2.row m x hx
              obtain ⟨gs, rfl⟩ := own_some HRS.out.1 (by omega)
              have d1 := own_cell HRS.out.1 m _ hvx
              have hst := frames_step S2.recs m x hx
              have hfl : (frames (S2.recs.take (m + 1))).length ≤ (frames S2.recs).length := by
                have h0 := congrArg (fun l => (frames l).length) (List.take_append_drop (m + 1) S2.recs)
                simp only [frames, List.map_append, List.flatten_append, List.length_append] at h0 ⊢
                omega
              have hus := HUS.out
              have HST := Lib.hid hst
              have hfb : (frames (S2.recs.take m)).length + 10 + x.length ≤ 150 := by omega
              obtain ⟨fm, hfm⟩ : ∃ n, (frames (S2.recs.take m)).length = n := ⟨_, rfl⟩
              obtain ⟨lx, hlx⟩ : ∃ n, x.length = n := ⟨_, rfl⟩
              rw [hfm, hlx] at hfb
              rw [hlx] at d1
              rw [hfm]
              have HF := Lib.hid (And.intro hfm hlx)
              have u0 : (0 : Int) ≤ (m : Int) := by omega
              have u1 : (m : Int) < (nr : Int) := by omega
              clear hx hvx hox hst hfl hus hfm hlx
              go_wp2
              go_round
              case rel => exact ⟨m + 1, by rw [HNR.out]; exact hlm, by go_num, by rw [HST.out, HF.out.1, HF.out.2]; go_num⟩
              case measure => simp [intOf]; omega
            · obtain rfl : m = nr := by omega
              have u1 : ¬ (m : Int) < (m : Int) := by omega
              have hall : S2.recs.take m = S2.recs := List.take_of_length_le (by rw [HNR.out]; exact Nat.le_refl _)
              rw [hall]
              obtain ⟨us, hus⟩ : ∃ n, (frames S2.recs).length = n := ⟨_, rfl⟩
              have husb : us ≤ 150 := by rw [← hus]; exact HUS.out
              rw [hus]
              have HU := Lib.hid hus
              have u2 : ¬ (us : Int) > 150 := by omega
              have e300 : ((300 : Int) != 300) = false := by decide
              clear hall hus hlm
              go_wp2_with fail
              go_loop [15] (fun i => EkRel us 150 i) (fun i => 150 - (intOf i).toNat)
              case atStart => exact ⟨us, Nat.le_refl _, husb, rfl⟩
              case round =>
                obtain ⟨j, hj1, hj2, rfl⟩ := hrel
                by_cases hlj : j < 150
                · have hz := good_nought HX.out.good j (by rw [HU.out]; exact hj1) hlj
                  have d2 := own_cell HRW.out j (.int .u8 ((0 : UInt8).toNat : Int)) (by rw [BV_get, hz]; rfl)
                  rw [show (((0 : UInt8).toNat : Nat) : Int) = 0 from rfl] at d2
                  have e0 : ((0 : Int) != 0) = false := by decide
                  have u3 : (0 : Int) ≤ (j : Int) := by omega
                  have u4 : (j : Int) < 150 := by omega
                  have u5 : (j : Int) < 300 := by omega
                  clear hz
                  go_wp2
                  go_round
                  case rel => exact ⟨j + 1, by omega, by omega, by go_num⟩
                  case measure => simp [intOf]; omega
                · have u4 : ¬ (j : Int) < 150 := by omega
                  have HY := Lib.hid (keys_any p pd S2 F3 Q3 w6 HX.out.st)
                  obtain ⟨nk, hnk⟩ : ∃ n, S2.keys.length = n := ⟨_, rfl⟩
                  rw [hnk] at HY
                  have HMN := Lib.hid (good_many HX.out.good)
                  rw [hnk] at HMN
                  have hkb : nk ≤ 65536 := by obtain ⟨_, _, _, _, _, _, hsq⟩ := HX.out.st; rw [← hnk]; exact hsq.small.2.2.1
                  clear hnk
                  go_wp2_with fail
                  refine HY.out.mono ?_
                  rintro e w7 ⟨s7, c7, rfl, _, hk7⟩
                  replace HX := Lib.hid (HX.out.quiet hk7)
                  replace HRW := Lib.hid (own_keep HRW.out hk7 (fun _ _ h => h))
                  clear HY hk7
                  obtain ⟨lq, hlq⟩ : ∃ l, S2.d.now.drop 150 = l := ⟨_, rfl⟩
                  have hll : lq.length = 150 := by rw [← hlq, List.length_drop, HX.out.good.len]
                  rw [hlq] at HMN
                  have HLQ := Lib.hid (And.intro hlq hll)
                  clear hlq hll
                  go_wp2_with fail
                  go_loop [17, 18] (fun m i => EmRel lq m i) (fun _ i => 300 - (intOf i).toNat)
                  case atStart => exact ⟨0, Nat.zero_le _, rfl, by simp [nz]⟩
                  case round =>
                    obtain ⟨t, ht, rfl, rfl⟩ := hrel
                    by_cases hlt2 : t < 150
                    · obtain ⟨c, hc⟩ : ∃ c, lq[t]? = some c := ⟨_, List.getElem?_eq_getElem (by rw [HLQ.out.2]; exact hlt2)⟩
                      have hc2 : S2.d.now[150 + t]? = some c := by rw [← HLQ.out.1, List.getElem?_drop] at hc; exact hc
                      have d3 := own_cell HRW.out (150 + t) (.int .u8 (c.toNat : Int)) (by rw [BV_get, hc2]; rfl)
                      have hsn := nz_snoc lq t c hc
                      have hnb2 : nz (lq.take t) ≤ 150 := by have := nz_le (lq.take t); rw [List.length_take] at this; omega
                      obtain ⟨q0, hq0⟩ : ∃ n, nz (lq.take t) = n := ⟨_, rfl⟩
                      rw [hq0] at hnb2 hsn
                      rw [hq0]
                      obtain ⟨kt, hkt⟩ : ∃ n, 150 + t = n := ⟨_, rfl⟩
                      rw [hkt] at d3
                      rw [hkt]
                      have u6 : (0 : Int) ≤ (kt : Int) := by omega
                      have u7 : (kt : Int) < 300 := by omega
                      by_cases hc0 : c = 0
                      · have e1 : ((c.toNat : Int) != 0) = false := by subst hc0; rfl
                        rw [if_pos hc0] at hsn
                        have HSN := Lib.hid (And.intro hsn hkt)
                        clear hc hc2 hsn hq0 hkt hc0
                        generalize c.toNat = cn at *
                        go_wp2
                        go_round
                        case rel => exact ⟨t + 1, by omega, by rw [← Nat.add_assoc, HSN.out.2]; go_num, by rw [HSN.out.1]; rfl⟩
                        case measure => simp [intOf]; omega
                      · have e1 : ((c.toNat : Int) != 0) = true := by
                          have : c.toNat ≠ 0 := fun h => hc0 (UInt8.toNat_inj.1 h)
                          simp; omega
                        rw [if_neg hc0] at hsn
                        have HSN := Lib.hid (And.intro hsn hkt)
                        clear hc hc2 hsn hq0 hkt hc0
                        generalize c.toNat = cn at *
                        go_wp2
                        go_round
                        case rel => exact ⟨t + 1, by omega, by rw [← Nat.add_assoc, HSN.out.2]; go_num, by rw [HSN.out.1]; go_num⟩
                        case measure => simp [intOf]; omega
                    · obtain rfl : t = 150 := by omega
                      have u7 : ¬ ((150 + 150 : Nat) : Int) < 300 := by omega
                      have htk : lq.take 150 = lq := List.take_of_length_le (by rw [HLQ.out.2]; exact Nat.le_refl _)
                      rw [htk]
                      have hmn := HMN.out
                      generalize nz lq = mq at *
                      have u8_ : ¬ (mq : Int) > 14 + (nk : Int) := by omega
                      clear htk hmn
                      go_wp2
                      go_roundw
                      case rel => exact ⟨k + 1, p, pd, S2, F3, Q3, hlt, by go_num, rfl, rfl, HX.out⟩
                      case measure => simp [intOf]; omega
      · have hnx : At29 w w1 w2 wr 150 75 0 (k + 1) p pd S F Q := ⟨HX.out.st, HX.out.good, by have := HX.out.turn; omega, HX.out.inF, HX.out.inQ, HX.out.kp⟩
        clear HX
        have HX := Lib.hid hnx
        clear hnx
        by_cases h5 : k % 5 = 4
        · have h5i : (k : Int) % 5 = 4 := by omega
          obtain ⟨Fd, so, co, vs, sk, ck, hstA⟩ := HX.out.st
          have HC := Lib.hid (again_any pd left S.d Fd wr hstA.disk HX.out.good.cr (by rw [HX.out.good.lo]; simp) (by rw [HX.out.good.lo]; simp) (by rw [HX.out.good.d]; rfl) (by rw [HX.out.good.len]; omega) (by rw [HX.out.good.len]; omega))
          rw [good_crash HX.out.good left, good_open HX.out.good] at HC
          have HFd : Hid (∀ j, Fd j → F j) := Lib.hid (fun j h => (hstA.foot j).2 (Or.inr (Or.inl h)))
          clear hstA
          go_wp2_with fail
          refine HC.out.mono ?_
          rintro e w4 ⟨q, p4, F4, Q4, rfl, hst, hk4, hF4, hQ4⟩
          have hnx := HX.out.next hst HX.out.good (k + 1) HX.out.turn (hk4.mono (fun j _ h => HFd.out j h)) (fun j h => Or.inr (hF4 j h)) (fun j h => Or.inr (hQ4 j h))
          clear HX HC HFd hst hk4 hF4 hQ4
          have HX := Lib.hid hnx
          clear hnx
          obtain ⟨Fd, so, co, vs, sk, ck, hstA⟩ := HX.out.st
          have HR := Lib.hid (raw_any q S.d Fd w4 hstA.disk (by rw [HX.out.good.len]; omega))
          rw [show S.d.now.length = 300 from HX.out.good.len] at HR
          clear hstA
          go_wp2_with fail
          refine HR.out.mono ?_
          rintro e w5 ⟨g5, c5, rfl, hown, hk5⟩
          replace HX := Lib.hid (HX.out.quiet hk5)
          have HRW := Lib.hid hown
          have HC := Lib.hid (records_any p4 q S F4 Q4 w5 HX.out.st)
          clear HR hown hk5
          go_wp2_with fail
          refine HC.out.mono ?_
          rintro e w6 ⟨s6, c6, vs6, rfl, hown, hrows, hk6⟩
          replace HX := Lib.hid (HX.out.quiet hk6)
          replace HRW := Lib.hid (own_keep HRW.out hk6 (fun _ _ h => h))
          have HRS := Lib.hid (And.intro hown hrows)
          have hrn := HX.out.good.few
          obtain ⟨nr, hnr⟩ : ∃ n, S.recs.length = n := ⟨_, rfl⟩
          have HNR := Lib.hid hnr
          rw [hnr] at hrn
          rw [hnr] at HRS ⊢
          have HUS := Lib.hid HX.out.good.used_sum
          clear HC hown hrows hk6 hnr
          go_wp2_with fail
          go_loop [12, 14] (fun o i => EoRel S.recs o i) (fun _ i => nr - (intOf i).toNat)
          case atStart => exact ⟨0, Nat.zero_le _, rfl, by simp [frames]⟩
          case round =>
            obtain ⟨m, hm, rfl, rfl⟩ := hrel
            rw [HNR.out] at hm
            by_cases hlm : m < nr
            · obtain ⟨x, hx⟩ : ∃ x, S.recs[m]? = some x := ⟨_, List.getElem?_eq_getElem (by rw [HNR.out]; exact hlm)⟩
              obtain ⟨sx, cx, hvx, hox⟩ := HRS.out.2.row m x hx
              obtain ⟨gs, rfl⟩ := own_some HRS.out.1 (by omega)
              have d1 := own_cell HRS.out.1 m _ hvx
              have hst := frames_step S.recs m x hx
              have hfl : (frames (S.recs.take (m + 1))).length ≤ (frames S.recs).length := by
                have h0 := congrArg (fun l => (frames l).length) (List.take_append_drop (m + 1) S.recs)
                simp only [frames, List.map_append, List.flatten_append, List.length_append] at h0 ⊢
                omega
              have hus := HUS.out
              have HST := Lib.hid hst
              have hfb : (frames (S.recs.take m)).length + 10 + x.length ≤ 150 := by omega
              obtain ⟨fm, hfm⟩ : ∃ n, (frames (S.recs.take m)).length = n := ⟨_, rfl⟩
              obtain ⟨lx, hlx⟩ : ∃ n, x.length = n := ⟨_, rfl⟩
              rw [hfm, hlx] at hfb
              rw [hlx] at d1
              rw [hfm]
              have HF := Lib.hid (And.intro hfm hlx)
              have u0 : (0 : Int) ≤ (m : Int) := by omega
              have u1 : (m : Int) < (nr : Int) := by omega
              clear hx hvx hox hst hfl hus hfm hlx
              go_wp2
              go_round
              case rel => exact ⟨m + 1, by rw [HNR.out]; exact hlm, by go_num, by rw [HST.out, HF.out.1, HF.out.2]; go_num⟩
              case measure => simp [intOf]; omega
            · obtain rfl : m = nr := by omega
              have u1 : ¬ (m : Int) < (m : Int) := by omega
              have hall : S.recs.take m = S.recs := List.take_of_length_le (by rw [HNR.out]; exact Nat.le_refl _)
              rw [hall]
              obtain ⟨us, hus⟩ : ∃ n, (frames S.recs).length = n := ⟨_, rfl⟩
              have husb : us ≤ 150 := by rw [← hus]; exact HUS.out
              rw [hus]
              have HU := Lib.hid hus
              have u2 : ¬ (us : Int) > 150 := by omega
              have e300 : ((300 : Int) != 300) = false := by decide
              clear hall hus hlm
              go_wp2_with fail
              go_loop [15] (fun i => EkRel us 150 i) (fun i => 150 - (intOf i).toNat)
              case atStart => exact ⟨us, Nat.le_refl _, husb, rfl⟩
              case round =>
                obtain ⟨j, hj1, hj2, rfl⟩ := hrel
                by_cases hlj : j < 150
                · have hz := good_nought HX.out.good j (by rw [HU.out]; exact hj1) hlj
                  have d2 := own_cell HRW.out j (.int .u8 ((0 : UInt8).toNat : Int)) (by rw [BV_get, hz]; rfl)
                  rw [show (((0 : UInt8).toNat : Nat) : Int) = 0 from rfl] at d2
                  have e0 : ((0 : Int) != 0) = false := by decide
                  have u3 : (0 : Int) ≤ (j : Int) := by omega
                  have u4 : (j : Int) < 150 := by omega
                  have u5 : (j : Int) < 300 := by omega
                  clear hz
                  go_wp2
                  go_round
                  case rel => exact ⟨j + 1, by omega, by omega, by go_num⟩
                  case measure => simp [intOf]; omega
                · have u4 : ¬ (j : Int) < 150 := by omega
                  have HY := Lib.hid (keys_any p4 q S F4 Q4 w6 HX.out.st)
                  obtain ⟨nk, hnk⟩ : ∃ n, S.keys.length = n := ⟨_, rfl⟩
                  rw [hnk] at HY
                  have HMN := Lib.hid (good_many HX.out.good)
                  rw [hnk] at HMN
                  have hkb : nk ≤ 65536 := by obtain ⟨_, _, _, _, _, _, hsq⟩ := HX.out.st; rw [← hnk]; exact hsq.small.2.2.1
                  clear hnk
                  go_wp2_with fail
                  refine HY.out.mono ?_
                  rintro e w7 ⟨s7, c7, rfl, _, hk7⟩
                  replace HX := Lib.hid (HX.out.quiet hk7)
                  replace HRW := Lib.hid (own_keep HRW.out hk7 (fun _ _ h => h))
                  clear HY hk7
                  obtain ⟨lq, hlq⟩ : ∃ l, S.d.now.drop 150 = l := ⟨_, rfl⟩
                  have hll : lq.length = 150 := by rw [← hlq, List.length_drop, HX.out.good.len]
                  rw [hlq] at HMN
                  have HLQ := Lib.hid (And.intro hlq hll)
                  clear hlq hll
                  go_wp2_with fail
                  go_loop [17, 18] (fun m i => EmRel lq m i) (fun _ i => 300 - (intOf i).toNat)
                  case atStart => exact ⟨0, Nat.zero_le _, rfl, by simp [nz]⟩
                  case round =>
                    obtain ⟨t, ht, rfl, rfl⟩ := hrel
                    by_cases hlt2 : t < 150
                    · obtain ⟨c, hc⟩ : ∃ c, lq[t]? = some c := ⟨_, List.getElem?_eq_getElem (by rw [HLQ.out.2]; exact hlt2)⟩
                      have hc2 : S.d.now[150 + t]? = some c := by rw [← HLQ.out.1, List.getElem?_drop] at hc; exact hc
                      have d3 := own_cell HRW.out (150 + t) (.int .u8 (c.toNat : Int)) (by rw [BV_get, hc2]; rfl)
                      have hsn := nz_snoc lq t c hc
                      have hnb2 : nz (lq.take t) ≤ 150 := by have := nz_le (lq.take t); rw [List.length_take] at this; omega
                      obtain ⟨q0, hq0⟩ : ∃ n, nz (lq.take t) = n := ⟨_, rfl⟩
                      rw [hq0] at hnb2 hsn
                      rw [hq0]
                      obtain ⟨kt, hkt⟩ : ∃ n, 150 + t = n := ⟨_, rfl⟩
                      rw [hkt] at d3
                      rw [hkt]
                      have u6 : (0 : Int) ≤ (kt : Int) := by omega
                      have u7 : (kt : Int) < 300 := by omega
                      by_cases hc0 : c = 0
                      · have e1 : ((c.toNat : Int) != 0) = false := by subst hc0; rfl
                        rw [if_pos hc0] at hsn
                        have HSN := Lib.hid (And.intro hsn hkt)
                        clear hc hc2 hsn hq0 hkt hc0
                        generalize c.toNat = cn at *
                        go_wp2
                        go_round
                        case rel => exact ⟨t + 1, by omega, by rw [← Nat.add_assoc, HSN.out.2]; go_num, by rw [HSN.out.1]; rfl⟩
                        case measure => simp [intOf]; omega
                      · have e1 : ((c.toNat : Int) != 0) = true := by
                          have : c.toNat ≠ 0 := fun h => hc0 (UInt8.toNat_inj.1 h)
                          simp; omega
                        rw [if_neg hc0] at hsn
                        have HSN := Lib.hid (And.intro hsn hkt)
                        clear hc hc2 hsn hq0 hkt hc0
                        generalize c.toNat = cn at *
                        go_wp2
                        go_round
                        case rel => exact ⟨t + 1, by omega, by rw [← Nat.add_assoc, HSN.out.2]; go_num, by rw [HSN.out.1]; go_num⟩
                        case measure => simp [intOf]; omega
                    · obtain rfl : t = 150 := by omega
                      have u7 : ¬ ((150 + 150 : Nat) : Int) < 300 := by omega
                      have htk : lq.take 150 = lq := List.take_of_length_le (by rw [HLQ.out.2]; exact Nat.le_refl _)
                      rw [htk]
                      have hmn := HMN.out
                      generalize nz lq = mq at *
                      have u8_ : ¬ (mq : Int) > 14 + (nk : Int) := by omega
                      clear htk hmn
                      go_wp2
                      go_roundw
                      case rel => exact ⟨k + 1, p4, q, S, F4, Q4, hlt, by go_num, rfl, rfl, HX.out⟩
                      case measure => simp [intOf]; omega
        · have h5i : ¬ (k : Int) % 5 = 4 := by omega
          obtain ⟨Fd, so, co, vs, sk, ck, hstA⟩ := HX.out.st
          have HR := Lib.hid (raw_any pd S.d Fd wr hstA.disk (by rw [HX.out.good.len]; omega))
          rw [show S.d.now.length = 300 from HX.out.good.len] at HR
          clear hstA
          go_wp2_with fail
          refine HR.out.mono ?_
          rintro e w5 ⟨g5, c5, rfl, hown, hk5⟩
          replace HX := Lib.hid (HX.out.quiet hk5)
          have HRW := Lib.hid hown
          have HC := Lib.hid (records_any p pd S F Q w5 HX.out.st)
          clear HR hown hk5
          go_wp2_with fail
          refine HC.out.mono ?_
          rintro e w6 ⟨s6, c6, vs6, rfl, hown, hrows, hk6⟩
          replace HX := Lib.hid (HX.out.quiet hk6)
          replace HRW := Lib.hid (own_keep HRW.out hk6 (fun _ _ h => h))
          have HRS := Lib.hid (And.intro hown hrows)
          have hrn := HX.out.good.few
          obtain ⟨nr, hnr⟩ : ∃ n, S.recs.length = n := ⟨_, rfl⟩
          have HNR := Lib.hid hnr
          rw [hnr] at hrn
          rw [hnr] at HRS ⊢
          have HUS := Lib.hid HX.out.good.used_sum
          clear HC hown hrows hk6 hnr
          go_wp2_with fail
          go_loop [12, 14] (fun o i => EoRel S.recs o i) (fun _ i => nr - (intOf i).toNat)
          case atStart => exact ⟨0, Nat.zero_le _, rfl, by simp [frames]⟩
          case round =>
            obtain ⟨m, hm, rfl, rfl⟩ := hrel
            rw [HNR.out] at hm
            by_cases hlm : m < nr
            · obtain ⟨x, hx⟩ : ∃ x, S.recs[m]? = some x := ⟨_, List.getElem?_eq_getElem (by rw [HNR.out]; exact hlm)⟩
              obtain ⟨sx, cx, hvx, hox⟩ := HRS.out.2.row m x hx
              obtain ⟨gs, rfl⟩ := own_some HRS.out.1 (by omega)
              have d1 := own_cell HRS.out.1 m _ hvx
              have hst := frames_step S.recs m x hx
              have hfl : (frames (S.recs.take (m + 1))).length ≤ (frames S.recs).length := by
                have h0 := congrArg (fun l => (frames l).length) (List.take_append_drop (m + 1) S.recs)
                simp only [frames, List.map_append, List.flatten_append, List.length_append] at h0 ⊢
                omega
              have hus := HUS.out
              have HST := Lib.hid hst
              have hfb : (frames (S.recs.take m)).length + 10 + x.length ≤ 150 := by omega
              obtain ⟨fm, hfm⟩ : ∃ n, (frames (S.recs.take m)).length = n := ⟨_, rfl⟩
              obtain ⟨lx, hlx⟩ : ∃ n, x.length = n := ⟨_, rfl⟩
              rw [hfm, hlx] at hfb
              rw [hlx] at d1
              rw [hfm]
              have HF := Lib.hid (And.intro hfm hlx)
              have u0 : (0 : Int) ≤ (m : Int) := by omega
              have u1 : (m : Int) < (nr : Int) := by omega
              clear hx hvx hox hst hfl hus hfm hlx
              go_wp2
              go_round
              case rel => exact ⟨m + 1, by rw [HNR.out]; exact hlm, by go_num, by rw [HST.out, HF.out.1, HF.out.2]; go_num⟩
              case measure => simp [intOf]; omega
            · obtain rfl : m = nr := by omega
              have u1 : ¬ (m : Int) < (m : Int) := by omega
              have hall : S.recs.take m = S.recs := List.take_of_length_le (by rw [HNR.out]; exact Nat.le_refl _)
              rw [hall]
              obtain ⟨us, hus⟩ : ∃ n, (frames S.recs).length = n := ⟨_, rfl⟩
              have husb : us ≤ 150 := by rw [← hus]; exact HUS.out
              rw [hus]
              have HU := Lib.hid hus
              have u2 : ¬ (us : Int) > 150 := by omega
              have e300 : ((300 : Int) != 300) = false := by decide
              clear hall hus hlm
              go_wp2_with fail
              go_loop [15] (fun i => EkRel us 150 i) (fun i => 150 - (intOf i).toNat)
              case atStart => exact ⟨us, Nat.le_refl _, husb, rfl⟩
              case round =>
                obtain ⟨j, hj1, hj2, rfl⟩ := hrel
                by_cases hlj : j < 150
                · have hz := good_nought HX.out.good j (by rw [HU.out]; exact hj1) hlj
                  have d2 := own_cell HRW.out j (.int .u8 ((0 : UInt8).toNat : Int)) (by rw [BV_get, hz]; rfl)
                  rw [show (((0 : UInt8).toNat : Nat) : Int) = 0 from rfl] at d2
                  have e0 : ((0 : Int) != 0) = false := by decide
                  have u3 : (0 : Int) ≤ (j : Int) := by omega
                  have u4 : (j : Int) < 150 := by omega
                  have u5 : (j : Int) < 300 := by omega
                  clear hz
                  go_wp2
                  go_round
                  case rel => exact ⟨j + 1, by omega, by omega, by go_num⟩
                  case measure => simp [intOf]; omega
                · have u4 : ¬ (j : Int) < 150 := by omega
                  have HY := Lib.hid (keys_any p pd S F Q w6 HX.out.st)
                  obtain ⟨nk, hnk⟩ : ∃ n, S.keys.length = n := ⟨_, rfl⟩
                  rw [hnk] at HY
                  have HMN := Lib.hid (good_many HX.out.good)
                  rw [hnk] at HMN
                  have hkb : nk ≤ 65536 := by obtain ⟨_, _, _, _, _, _, hsq⟩ := HX.out.st; rw [← hnk]; exact hsq.small.2.2.1
                  clear hnk
                  go_wp2_with fail
                  refine HY.out.mono ?_
                  rintro e w7 ⟨s7, c7, rfl, _, hk7⟩
                  replace HX := Lib.hid (HX.out.quiet hk7)
                  replace HRW := Lib.hid (own_keep HRW.out hk7 (fun _ _ h => h))
                  clear HY hk7
                  obtain ⟨lq, hlq⟩ : ∃ l, S.d.now.drop 150 = l := ⟨_, rfl⟩
                  have hll : lq.length = 150 := by rw [← hlq, List.length_drop, HX.out.good.len]
                  rw [hlq] at HMN
                  have HLQ := Lib.hid (And.intro hlq hll)
                  clear hlq hll
                  go_wp2_with fail
                  go_loop [17, 18] (fun m i => EmRel lq m i) (fun _ i => 300 - (intOf i).toNat)
                  case atStart => exact ⟨0, Nat.zero_le _, rfl, by simp [nz]⟩
                  case round =>
                    obtain ⟨t, ht, rfl, rfl⟩ := hrel
                    by_cases hlt2 : t < 150
                    · obtain ⟨c, hc⟩ : ∃ c, lq[t]? = some c := ⟨_, List.getElem?_eq_getElem (by rw [HLQ.out.2]; exact hlt2)⟩
                      have hc2 : S.d.now[150 + t]? = some c := by rw [← HLQ.out.1, List.getElem?_drop] at hc; exact hc
                      have d3 := own_cell HRW.out (150 + t) (.int .u8 (c.toNat : Int)) (by rw [BV_get, hc2]; rfl)
                      have hsn := nz_snoc lq t c hc
                      have hnb2 : nz (lq.take t) ≤ 150 := by have := nz_le (lq.take t); rw [List.length_take] at this; omega
                      obtain ⟨q0, hq0⟩ : ∃ n, nz (lq.take t) = n := ⟨_, rfl⟩
                      rw [hq0] at hnb2 hsn
                      rw [hq0]
                      obtain ⟨kt, hkt⟩ : ∃ n, 150 + t = n := ⟨_, rfl⟩
                      rw [hkt] at d3
                      rw [hkt]
                      have u6 : (0 : Int) ≤ (kt : Int) := by omega
                      have u7 : (kt : Int) < 300 := by omega
                      by_cases hc0 : c = 0
                      · have e1 : ((c.toNat : Int) != 0) = false := by subst hc0; rfl
                        rw [if_pos hc0] at hsn
                        have HSN := Lib.hid (And.intro hsn hkt)
                        clear hc hc2 hsn hq0 hkt hc0
                        generalize c.toNat = cn at *
                        go_wp2
                        go_round
                        case rel => exact ⟨t + 1, by omega, by rw [← Nat.add_assoc, HSN.out.2]; go_num, by rw [HSN.out.1]; rfl⟩
                        case measure => simp [intOf]; omega
                      · have e1 : ((c.toNat : Int) != 0) = true := by
                          have : c.toNat ≠ 0 := fun h => hc0 (UInt8.toNat_inj.1 h)
                          simp; omega
                        rw [if_neg hc0] at hsn
                        have HSN := Lib.hid (And.intro hsn hkt)
                        clear hc hc2 hsn hq0 hkt hc0
                        generalize c.toNat = cn at *
                        go_wp2
                        go_round
                        case rel => exact ⟨t + 1, by omega, by rw [← Nat.add_assoc, HSN.out.2]; go_num, by rw [HSN.out.1]; go_num⟩
                        case measure => simp [intOf]; omega
                    · obtain rfl : t = 150 := by omega
                      have u7 : ¬ ((150 + 150 : Nat) : Int) < 300 := by omega
                      have htk : lq.take 150 = lq := List.take_of_length_le (by rw [HLQ.out.2]; exact Nat.le_refl _)
                      rw [htk]
                      have hmn := HMN.out
                      generalize nz lq = mq at *
                      have u8_ : ¬ (mq : Int) > 14 + (nk : Int) := by omega
                      clear htk hmn
                      go_wp2
                      go_roundw
                      case rel => exact ⟨k + 1, p, pd, S, F, Q, hlt, by go_num, rfl, rfl, HX.out⟩
                      case measure => simp [intOf]; omega
    · have j2 : ¬ (k : Int) < (N : Int) := by omega
      go_wp2_with fail
      refine (lives_any _).mono ?_
      rintro e w9 ⟨rfl, hk9⟩
      have hf := (HK12.out.trans HX.out.kp (fun j hj h => by omega)).quiet hk9
      go_wp2
      go_ret
      exact ⟨rfl, hf⟩
end Go.Proofs.Ytpojkhjenbbodaa
