/-
  The reference's frames: number, Record, Keys, long, begins. Conditions: slices that read as bytes.
-/
import Derived.Test.YtpojkhjenbbodaaRefBytes
import Derived.Test.YtpojkhjenbbodaaJHash
import Derived.Test.YtpojkhjenbbodaaJTools
import Derived.Test.YtpojkhjenbbodaaJStore
import Derived.Test.YtpojkhjenbbodaaJGood
namespace Go.Proofs.Ytpojkhjenbbodaa
open Go.RowKit

def NbRel (w : World) (n size : Nat) (x out i : Value) (wr : World) : Prop :=
  ∃ (k : Nat) (sa : Option Addr) (ca : Nat), k ≤ size ∧ i = .int .i64 (k : Int) ∧ x = .int .u64 ((n / 256 ^ k : Nat) : Int) ∧ out = .slice sa k ca ∧ wr.ownsRow w.heap.size 5 1 (.slice sa k ca) k (BV (putB n k)) ∧ Keeps (fun _ => False) w wr
theorem putB_snoc (n k : Nat) : putB n (k + 1) = putB n k ++ [UInt8.ofNat (n / 256 ^ k)] := by simp [putB, List.range_succ]

set_option maxHeartbeats 1000000 in
set_option maxRecDepth 10000 in
theorem refNumber_any (n size : Nat) (w : World) (hn : U64 n) (hs : size ≤ 8) :
    Calls Try.prog 43 #[.int .u64 (n : Int), .int .i64 (size : Int)] w fun e w' => ∃ sa ca, e = .returned (.slice sa size ca) ∧ w'.ownsRow w.heap.size 5 1 (.slice sa size ca) size (BV (putB n size)) ∧ Keeps (fun _ => False) w w' := by
  unfold U64 at hn
  obtain ⟨B, hB⟩ : ∃ B, w.heap.size = B := ⟨_, rfl⟩
  have HB := Lib.hid hB
  clear hB
  go_enter Try.func43, Try.ntmps43
  go_wp2_with fail
  go_loopw [0, 5, 6] (fun x o i wr => NbRel w n size x o i wr) (fun _ _ i _ => size - (intOf i).toNat)
  case atStart => exact ⟨0, none, 0, Nat.zero_le _, rfl, by simp, rfl, World.ownsRow_nil _ _ _ _, Keeps.refl _ _⟩
  case round =>
    obtain ⟨k, sa, ca, hk, rfl, rfl, rfl, hown, hkp⟩ := hrel
    by_cases hlt : k < size
    · have hle : n / 256 ^ k ≤ n := Nat.div_le_self _ _
      have hsz := hkp.size
      have HX := Lib.hid (And.intro hown hkp)
      have hsn := putB_snoc n k
      have hdp := div_pow_succ n k
      clear hown hkp
      obtain ⟨x, hx⟩ : ∃ x, n / 256 ^ k = x := ⟨_, rfl⟩
      rw [hx] at hle hsn hdp ⊢
      obtain ⟨z, hz⟩ : ∃ z, x / 256 = z := ⟨_, rfl⟩
      obtain ⟨r, hr⟩ : ∃ r, x % 256 = r := ⟨_, rfl⟩
      have e1 : (x : Int) / 256 = (z : Int) := by omega
      have e3 : (x : Int) % 256 = (r : Int) := by omega
      have e4 : IntKind.u8.wrap (r : Int) = (r : Int) := by rw [IntKind.wrap_u8]; omega
      have hrv : (r : Int) = ((UInt8.ofNat x).toNat : Int) := by rw [UInt8.toNat_ofNat']; omega
      have HS := Lib.hid (And.intro hsn (And.intro hdp (And.intro hz hrv)))
      have t0 : (0 : Int) ≤ (k : Int) := by omega
      have t1 : (k : Int) < (size : Int) := by omega
      clear hx hz hr hsn hdp hrv
      go_wp2_with (at_builtin; refine wpList_pushB wr (r : Int) rfl _ _ rfl w.heap.size sa k ca (BV (putB n k)) rfl HX.out.1 rfl (by omega) hsz ?_; intro sa2 cap2 w2 hown2 hk2 hs2; have H3 := Lib.hid (And.intro hown2 (HX.out.2.trans hk2 (fun j hj e => by have := (own_lt HX.out.1 e).1; omega))); clear hown2 hk2)
      go_roundw
      case rel =>
        refine ⟨k + 1, sa2, cap2, by omega, by go_num, by rw [HS.out.2.1, HS.out.2.2.1], rfl, ?_, H3.out.2⟩
        rw [HS.out.1, BV_append]
        have e : BV [UInt8.ofNat x] = [.int .u8 (r : Int)] := by simp only [BV, List.map_cons, List.map_nil]; rw [HS.out.2.2.2]
        rw [e]
        exact H3.out.1
      case measure => simp [intOf]; omega
    · obtain rfl : k = size := by omega
      have t1 : ¬ (k : Int) < (k : Int) := by omega
      have HF := Lib.hid (And.intro hown hkp)
      clear hown hkp
      go_wp2
      go_ret
      exact ⟨_, _, rfl, HF.out.1, HF.out.2⟩

set_option maxHeartbeats 1000000 in
set_option maxRecDepth 10000 in
theorem refRecord_any (sa : Option Addr) (n cap : Nat) (l : List UInt8) (w : World) (hl : Sl w sa n cap (BV l)) (hn : n ≤ 100000) :
    Calls Try.prog 16 #[.slice sa n cap] w fun e w' => ∃ sb cb, e = .returned (.slice sb (n + 10) cb) ∧ w'.ownsRow w.heap.size 5 1 (.slice sb (n + 10) cb) (n + 10) (BV (recF l)) ∧ Keeps (fun _ => False) w w' := by
  have hll : l.length = n := by have := hl.len; simpa using this
  have HT := Lib.hid (refNumber_any (n + 1) 2 w (u64_small _ (by omega)) (by omega))
  rw [show (((n + 1 : Nat)) : Int) = (n : Int) + 1 by omega] at HT
  have HL := Lib.hid (And.intro hl hll)
  have t1 : IntKind.u64.wrap ((n : Int) + 1) = (n : Int) + 1 := by rw [show (n : Int) + 1 = ((n + 1 : Nat) : Int) by omega]; exact wrap_nat _ _ rfl (by omega)
  clear hl hll
  go_enter Try.func16, Try.ntmps16
  go_wp2_with fail
  refine HT.out.mono ?_
  rintro e w1 ⟨s1, c1, rfl, hown, hk⟩
  have H1 := Lib.hid (And.intro hown hk)
  have hsz := hk.size
  clear hown hk HT
  go_wp2_with (at_builtin; refine wpList_appB rfl _ _ rfl w.heap.size s1 2 c1 (BV (putB (n + 1) 2)) rfl H1.out.1 sa n cap l rfl (HL.out.1.quiet H1.out.2) (by omega) hsz ?_; intro s2 c2 w2 hown2 hk2; have H2 := Lib.hid (And.intro hown2 (H1.out.2.trans hk2 (fun j hj e => by have := (own_lt H1.out.1 e).1; omega))); clear hown2 hk2)
  have HB := Lib.hid (refBytes_any ⟨#[114, 101, 99, 111, 114, 100]⟩ sa n cap l w2 (by decide) (by omega) (HL.out.1.quiet H2.out.2))
  go_wp2_with fail
  refine HB.out.mono ?_
  rintro e w3 ⟨rfl, hk3⟩
  have H3 := Lib.hid (And.intro (own_keep H2.out.1 hk3 (fun _ _ h => h)) (H2.out.2.quiet hk3))
  have HN := Lib.hid (refNumber_any (hby sRecord l) 8 w3 (by have := hby_lt sRecord l; unfold U64; omega) (by omega))
  clear hk3 HB H2
  go_wp2_with fail
  refine HN.out.mono ?_
  rintro e w4 ⟨s4, c4, rfl, hown, hk⟩
  have H4 := Lib.hid (And.intro (own_keep H3.out.1 hk (fun _ _ h => h)) (And.intro (H3.out.2.quiet hk) (Sl.of_own hown)))
  have hsz4 := H4.out.2.1.size
  clear hown hk HN H3
  go_wp2_with (at_builtin; refine wpList_appB rfl _ _ rfl w.heap.size s2 (2 + n) c2 (BV (putB (n + 1) 2) ++ BV l) rfl H4.out.1 s4 8 c4 (putB (hby sRecord l) 8) rfl H4.out.2.2 (by omega) hsz4 ?_; intro s5 c5 w5 hown5 hk5; have H5 := Lib.hid (And.intro hown5 (H4.out.2.1.trans hk5 (fun j hj e => by have := (own_lt H4.out.1 e).1; omega))); clear hown5 hk5)
  go_ret
  have e1 : 2 + n + 8 = n + 10 := by omega
  have e2 : BV (recF l) = BV (putB (n + 1) 2) ++ BV l ++ BV (putB (hby sRecord l) 8) := by
    unfold recF recSum
    rw [HL.out.2, BV_append, BV_append]
  rw [e1]
  refine ⟨s5, c5, rfl, ?_, H5.out.2⟩
  rw [e2, ← e1]
  exact H5.out.1

set_option maxHeartbeats 1000000 in
set_option maxRecDepth 10000 in
theorem refKeys_any (t : Nat) (sa : Option Addr) (n cap : Nat) (l : List UInt8) (w : World) (ht : U64 t) (hl : Sl w sa n cap (BV l)) (hn : n ≤ 100000) :
    Calls Try.prog 17 #[.int .u64 (t : Int), .slice sa n cap] w fun e w' => ∃ sb cb, e = .returned (.slice sb (n + 14) cb) ∧ w'.ownsRow w.heap.size 5 1 (.slice sb (n + 14) cb) (n + 14) (BV (keyF t l)) ∧ Keeps (fun _ => False) w w' := by
  have hll : l.length = n := by have := hl.len; simpa using this
  have HT := Lib.hid (refNumber_any (n + 1) 2 w (u64_small _ (by omega)) (by omega))
  rw [show (((n + 1 : Nat)) : Int) = (n : Int) + 1 by omega] at HT
  have HL := Lib.hid (And.intro hl (And.intro hll ht))
  have t1 : IntKind.u64.wrap ((n : Int) + 1) = (n : Int) + 1 := by rw [show (n : Int) + 1 = ((n + 1 : Nat) : Int) by omega]; exact wrap_nat _ _ rfl (by omega)
  clear hl hll ht
  go_enter Try.func17, Try.ntmps17
  go_wp2_with fail
  refine HT.out.mono ?_
  rintro e w1 ⟨s1, c1, rfl, hown, hk⟩
  have H1 := Lib.hid (And.intro hown hk)
  have hsz := hk.size
  have HT2 := Lib.hid (refNumber_any t 4 w1 HL.out.2.2 (by omega))
  clear hown hk HT
  go_wp2_with fail
  refine HT2.out.mono ?_
  rintro e w1b ⟨s1b, c1b, rfl, hown, hk⟩
  replace H1 := Lib.hid (And.intro (own_keep H1.out.1 hk (fun _ _ h => h)) (And.intro (H1.out.2.quiet hk) (Sl.of_own hown)))
  have hsz1 := H1.out.2.1.size
  clear hown hk HT2 hsz
  go_wp2_with (at_builtin; first
    | (refine wpList_appB rfl _ _ rfl w.heap.size s1 2 c1 (BV (putB (n + 1) 2)) rfl H1.out.1 s1b 4 c1b (putB t 4) rfl H1.out.2.2 (by omega) hsz1 ?_; intro s2 c2 w2 hown2 hk2; have H2 := Lib.hid (And.intro hown2 (H1.out.2.1.trans hk2 (fun j hj e => by have := (own_lt H1.out.1 e).1; omega))); have hsz2 := H2.out.2.size; clear hown2 hk2)
    | (refine wpList_appB rfl _ _ rfl w.heap.size s2 (2 + 4) c2 (BV (putB (n + 1) 2) ++ BV (putB t 4)) rfl H2.out.1 sa n cap l rfl (HL.out.1.quiet H2.out.2) (by omega) hsz2 ?_; intro s3 c3 w3 hown3 hk3; have H3 := Lib.hid (And.intro hown3 (H2.out.2.trans hk3 (fun j hj e => by have := (own_lt H2.out.1 e).1; omega))); clear hown3 hk3))
  have HB := Lib.hid (refBytes_any ⟨#[107, 101, 121, 115]⟩ sa n cap l w3 (by decide) (by omega) (HL.out.1.quiet H3.out.2))
  go_wp2_with fail
  refine HB.out.mono ?_
  rintro e w4 ⟨rfl, hk4⟩
  obtain ⟨hb, hhb⟩ : ∃ h, hby sKeys l = h := ⟨_, rfl⟩
  have hhu : U64 hb := by have := hby_lt sKeys l; rw [hhb] at this; unfold U64; omega
  rw [show hby (ByteArray.mk #[107, 101, 121, 115]).data.toList l = hb from hhb]
  have HHB := Lib.hid hhb
  have hq4 : w4.alloc (.cells #[.int .u64 (t : Int), .int .u64 (hb : Int)] 39) = w4.alloc (.cells (NV [t, hb]).toArray 39) := rfl
  obtain ⟨w5, hw5⟩ : ∃ v, w4.alloc (.cells #[.int .u64 (t : Int), .int .u64 (hb : Int)] 39) = v := ⟨_, rfl⟩
  have hk5 : Keeps (fun _ => False) w4 w5 := by rw [← hw5]; exact (Keeps.refl _ w4).alloc _
  have hs5 : Sl w5 (some ⟨w4.heap.size, 0, none⟩) 2 2 (NV [t, hb]) := by rw [← hw5, hq4]; exact lies_vals w4 (NV [t, hb]) 2 39 rfl (by omega) _
  have HO := Lib.hid (refOf_any ⟨#[107, 101, 121, 115]⟩ (some ⟨w4.heap.size, 0, none⟩) 2 2 [t, hb] w5 (by decide) (by omega) hs5 (by intro x hx; simp at hx; rcases hx with rfl | rfl; exact HL.out.2.2; exact hhu))
  replace H3 := Lib.hid (And.intro (own_keep (own_keep H3.out.1 hk4 (fun _ _ h => h)) hk5 (fun _ _ h => h)) ((H3.out.2.quiet hk4).quiet hk5))
  clear hk4 hk5 hs5 hq4 HB hhb
  go_wp2_with fail
  refine HO.out.mono ?_
  rintro e w6 ⟨rfl, hk6⟩
  replace H3 := Lib.hid (And.intro (own_keep H3.out.1 hk6 (fun _ _ h => h)) (H3.out.2.quiet hk6))
  have HN := Lib.hid (refNumber_any (hof sKeys [t, hb]) 8 w6 (by have := hof_lt sKeys [t, hb]; unfold U64; omega) (by omega))
  clear hk6 HO hw5
  go_wp2_with fail
  refine HN.out.mono ?_
  rintro e w7 ⟨s7, c7, rfl, hown, hk⟩
  have H7 := Lib.hid (And.intro (own_keep H3.out.1 hk (fun _ _ h => h)) (And.intro (H3.out.2.quiet hk) (Sl.of_own hown)))
  have hsz7 := H7.out.2.1.size
  clear hown hk HN H3
  go_wp2_with (at_builtin; refine wpList_appB rfl _ _ rfl w.heap.size s3 (2 + 4 + n) c3 (BV (putB (n + 1) 2) ++ BV (putB t 4) ++ BV l) rfl H7.out.1 s7 8 c7 (putB (hof sKeys [t, hb]) 8) rfl H7.out.2.2 (by omega) hsz7 ?_; intro s8 c8 w8 hown8 hk8; have H8 := Lib.hid (And.intro hown8 (H7.out.2.1.trans hk8 (fun j hj e => by have := (own_lt H7.out.1 e).1; omega))); clear hown8 hk8)
  go_ret
  have e1 : 2 + 4 + n + 8 = n + 14 := by omega
  have e2 : BV (keyF t l) = BV (putB (n + 1) 2) ++ BV (putB t 4) ++ BV l ++ BV (putB (hof sKeys [t, hb]) 8) := by
    unfold keyF keySum
    rw [HL.out.2.1, HHB.out, BV_append, BV_append, BV_append]
  rw [e1]
  refine ⟨s8, c8, rfl, ?_, H8.out.2⟩
  rw [e2, ← e1]
  exact H8.out.1

/-- How long a frame tells that it is; below 0: none. -/
def longR (l : List UInt8) : Int := if l.length < 2 then -1 else (le (l.take 2) : Int) - 1

set_option maxHeartbeats 1000000 in
set_option maxRecDepth 10000 in
theorem refLong_any (sa : Option Addr) (n cap : Nat) (l : List UInt8) (w : World) (hl : Sl w sa n cap (BV l)) :
    Calls Try.prog 36 #[.slice sa n cap] w fun e w' => e = .returned (.int .i64 (longR l)) ∧ Keeps (fun _ => False) w w' := by
  have hll : l.length = n := by have := hl.len; simpa using this
  by_cases h2 : n < 2
  · have e : longR l = -1 := by unfold longR; rw [if_pos (by omega)]
    rw [e]
    have t1 : (n : Int) < 2 := by omega
    clear hl hll e
    go_enter Try.func36, Try.ntmps36
    go_wp2
    go_ret
    exact ⟨rfl, Keeps.refl _ _⟩
  · have t1 : ¬ (n : Int) < 2 := by omega
    obtain ⟨ad, off, rfl⟩ := hl.isSome (by omega)
    obtain ⟨a, b, t, rfl⟩ : ∃ a b t, l = a :: b :: t := by
      match l, hll with
      | [], h => simp at h; omega
      | [_], h => simp at h; omega
      | a :: b :: t, _ => exact ⟨a, b, t, rfl⟩
    have d0 : w.cell? ⟨ad, off + 0, none⟩ = some (.int .u8 (a.toNat : Int)) := hl.cell (by simp [BV])
    have d1 : w.cell? ⟨ad, off + 1, none⟩ = some (.int .u8 (b.toNat : Int)) := hl.cell (by simp [BV])
    rw [Nat.add_zero] at d0
    have hv : longR (a :: b :: t) = (a.toNat : Int) + 256 * (b.toNat : Int) - 1 := by
      unfold longR
      rw [if_neg (by simp)]
      simp [le]
    have HV := Lib.hid hv
    have ha := a.toNat_lt
    have hb := b.toNat_lt
    generalize a.toNat = x at *
    generalize b.toNat = y at *
    have w0 : IntKind.i64.wrap (256 * (y : Int)) = 256 * (y : Int) := IntWalk.i64_in _ (by omega)
    have w1 : IntKind.i64.wrap ((x : Int) + 256 * (y : Int)) = (x : Int) + 256 * (y : Int) := IntWalk.i64_in _ (by omega)
    have w2 : IntKind.i64.wrap ((x : Int) + 256 * (y : Int) - 1) = (x : Int) + 256 * (y : Int) - 1 := IntWalk.i64_in _ (by omega)
    have w3 : IntKind.i64.wrap (x : Int) = (x : Int) := IntWalk.i64_in _ (by omega)
    have w4 : IntKind.i64.wrap (y : Int) = (y : Int) := IntWalk.i64_in _ (by omega)
    have u0 : (0 : Int) < (n : Int) := by omega
    have u1 : (1 : Int) < (n : Int) := by omega
    have u0n : 0 < n := by omega
    have u1n : 1 < n := by omega
    clear hl hll hv
    go_enter Try.func36, Try.ntmps36
    go_wp2_with fail
    obtain ⟨v0, hdr⟩ : ∃ v, World.drew w = v := ⟨_, rfl⟩
    have hk : Keeps (fun _ => False) w v0 := by rw [← hdr]; exact (Keeps.refl _ _).drew
    have HK := Lib.hid hk
    refine z_begin (fun w' => Keeps (fun _ => False) (World.drew w) w') 12 (by kernel_rfl) (Keeps.refl _ _) (fun hHeld => ?_)
    rw [hdr] at hHeld ⊢
    clear hk hdr
    refine z_take 0 (v := ?_) rfl (by kernel_rfl) (by kernel_rfl) (by kernel_rfl) (by kernel_rfl) (fun _ _ _ h => h) hHeld (by rfl) (fun w hSw => ?_) ?_
    rotate_left
    · clear hSw; simp only [List.getElem_toArray, List.getElem_cons_zero]; go_simp; try rfl
    simp only [Act.put, List.getElem_toArray, List.getElem_cons_zero, List.setIfInBounds_toArray, List.set_cons_zero, List.set_cons_succ]
    refine z_take 1 (v := ?_) rfl (by kernel_rfl) (by kernel_rfl) (by kernel_rfl) (by kernel_rfl) (fun _ _ _ h => h) hHeld (by rfl) (fun w hSw => ?_) ?_
    rotate_left
    · have c0 := sc hSw (sc HK.out d0); have c1 := sc hSw (sc HK.out d1); clear hSw; simp only [List.getElem_toArray, List.getElem_cons_zero, List.getElem_cons_succ]; go_simp; try rfl
    simp only [Act.put, List.getElem_toArray, List.getElem_cons_zero, List.getElem_cons_succ, List.setIfInBounds_toArray, List.set_cons_zero, List.set_cons_succ]
    refine z_take 2 (v := ?_) rfl (by kernel_rfl) (by kernel_rfl) (by kernel_rfl) (by kernel_rfl) (fun _ _ _ h => h) hHeld (by rfl) (fun w hSw => ?_) ?_
    rotate_left
    · have c0 := sc hSw (sc HK.out d0); have c1 := sc hSw (sc HK.out d1); clear hSw; simp only [List.getElem_toArray, List.getElem_cons_zero, List.getElem_cons_succ]; go_simp; try rfl
    simp only [Act.put, List.getElem_toArray, List.getElem_cons_zero, List.getElem_cons_succ, List.setIfInBounds_toArray, List.set_cons_zero, List.set_cons_succ]
    refine z_take 3 (v := ?_) rfl (by kernel_rfl) (by kernel_rfl) (by kernel_rfl) (by kernel_rfl) (fun _ _ _ h => h) hHeld (by rfl) (fun w hSw => ?_) ?_
    rotate_left
    · clear hSw; simp only [List.getElem_toArray, List.getElem_cons_zero, List.getElem_cons_succ]; go_simp; try rfl
    simp only [Act.put, List.getElem_toArray, List.getElem_cons_zero, List.getElem_cons_succ, List.setIfInBounds_toArray, List.set_cons_zero, List.set_cons_succ]
    refine z_take 4 (v := ?_) rfl (by kernel_rfl) (by kernel_rfl) (by kernel_rfl) (by kernel_rfl) (fun _ _ _ h => h) hHeld (by rfl) (fun w hSw => ?_) ?_
    rotate_left
    · clear hSw; simp only [List.getElem_toArray, List.getElem_cons_zero, List.getElem_cons_succ]; go_simp; try rfl
    simp only [Act.put, List.getElem_toArray, List.getElem_cons_zero, List.getElem_cons_succ, List.setIfInBounds_toArray, List.set_cons_zero, List.set_cons_succ]
    refine z_take 5 (v := ?_) rfl (by kernel_rfl) (by kernel_rfl) (by kernel_rfl) (by kernel_rfl) (fun _ _ _ h => h) hHeld (by rfl) (fun w hSw => ?_) ?_
    rotate_left
    · have c0 := sc hSw (sc HK.out d0); have c1 := sc hSw (sc HK.out d1); clear hSw; simp only [List.getElem_toArray, List.getElem_cons_zero, List.getElem_cons_succ]; go_simp; try rfl
    simp only [Act.put, List.getElem_toArray, List.getElem_cons_zero, List.getElem_cons_succ, List.setIfInBounds_toArray, List.set_cons_zero, List.set_cons_succ]
    refine z_take 6 (v := ?_) rfl (by kernel_rfl) (by kernel_rfl) (by kernel_rfl) (by kernel_rfl) (fun _ _ _ h => h) hHeld (by rfl) (fun w hSw => ?_) ?_
    rotate_left
    · have c0 := sc hSw (sc HK.out d0); have c1 := sc hSw (sc HK.out d1); clear hSw; simp only [List.getElem_toArray, List.getElem_cons_zero, List.getElem_cons_succ]; go_simp; try rfl
    simp only [Act.put, List.getElem_toArray, List.getElem_cons_zero, List.getElem_cons_succ, List.setIfInBounds_toArray, List.set_cons_zero, List.set_cons_succ]
    refine z_take 7 (v := ?_) rfl (by kernel_rfl) (by kernel_rfl) (by kernel_rfl) (by kernel_rfl) (fun _ _ _ h => h) hHeld (by rfl) (fun w hSw => ?_) ?_
    rotate_left
    · clear hSw; simp only [List.getElem_toArray, List.getElem_cons_zero, List.getElem_cons_succ]; go_simp; try rfl
    simp only [Act.put, List.getElem_toArray, List.getElem_cons_zero, List.getElem_cons_succ, List.setIfInBounds_toArray, List.set_cons_zero, List.set_cons_succ]
    refine z_take 8 (v := ?_) rfl (by kernel_rfl) (by kernel_rfl) (by kernel_rfl) (by kernel_rfl) (fun _ _ _ h => h) hHeld (by rfl) (fun w hSw => ?_) ?_
    rotate_left
    · clear hSw; simp only [List.getElem_toArray, List.getElem_cons_zero, List.getElem_cons_succ]; go_simp; try rfl
    simp only [Act.put, List.getElem_toArray, List.getElem_cons_zero, List.getElem_cons_succ, List.setIfInBounds_toArray, List.set_cons_zero, List.set_cons_succ]
    refine z_take 9 (v := ?_) rfl (by kernel_rfl) (by kernel_rfl) (by kernel_rfl) (by kernel_rfl) (fun _ _ _ h => h) hHeld (by rfl) (fun w hSw => ?_) ?_
    rotate_left
    · clear hSw; simp only [List.getElem_toArray, List.getElem_cons_zero, List.getElem_cons_succ]; go_simp; try rfl
    simp only [Act.put, List.getElem_toArray, List.getElem_cons_zero, List.getElem_cons_succ, List.setIfInBounds_toArray, List.set_cons_zero, List.set_cons_succ]
    refine z_take 10 (v := ?_) rfl (by kernel_rfl) (by kernel_rfl) (by kernel_rfl) (by kernel_rfl) (fun _ _ _ h => h) hHeld (by rfl) (fun w hSw => ?_) ?_
    rotate_left
    · clear hSw; simp only [List.getElem_toArray, List.getElem_cons_zero, List.getElem_cons_succ]; go_simp; try rfl
    simp only [Act.put, List.getElem_toArray, List.getElem_cons_zero, List.getElem_cons_succ, List.setIfInBounds_toArray, List.set_cons_zero, List.set_cons_succ]
    refine z_take 11 (v := ?_) rfl (by kernel_rfl) (by kernel_rfl) (by kernel_rfl) (by kernel_rfl) (fun _ _ _ h => h) hHeld (by rfl) (fun w hSw => ?_) ?_
    rotate_left
    · clear hSw; simp only [List.getElem_toArray, List.getElem_cons_zero, List.getElem_cons_succ]; go_simp; try rfl
    simp only [Act.put, List.getElem_toArray, List.getElem_cons_zero, List.getElem_cons_succ, List.setIfInBounds_toArray, List.set_cons_zero, List.set_cons_succ]
    refine z_done (by kernel_rfl) ?_ _
    clear hHeld
    go_wp2
    go_ret
    exact ⟨by rw [HV.out]; rfl, HK.out⟩

set_option maxHeartbeats 1000000 in
set_option maxRecDepth 10000 in
theorem refBegins_any (sa sb : Option Addr) (n m ca cb : Nat) (a b : List UInt8) (w : World) (ha : Sl w sa n ca (BV a)) (hb : Sl w sb m cb (BV b)) :
    Calls Try.prog 37 #[.slice sa n ca, .slice sb m cb] w fun e w' => e = .returned (.bool (decide (a.take b.length = b))) ∧ Keeps (fun _ => False) w w' := by
  have hal : a.length = n := by have := ha.len; simpa using this
  have hbl : b.length = m := by have := hb.len; simpa using this
  have hnc := ha.le
  have hcb := ha.capB
  by_cases h : m ≤ n
  · have t1 : (n : Int) ≥ (m : Int) := by omega
    have hA : Sl w sa m ca (BV (a.take m)) := by rw [← BV_take]; exact ha.upto h
    have e0 : decide (a.take b.length = b) = decide (a.take m = b) := by rw [hbl]
    rw [e0]
    generalize a.take m = c at *
    have HS := Lib.hid (And.intro hA hb)
    obtain ⟨r, hr⟩ : ∃ r, decide (c = b) = r := ⟨_, rfl⟩
    have e1 : ((strOf c).toList == (strOf b).toList) = r := by
      rw [← hr]
      have h1 : (strOf c).toList = c := by rw [ByteArray.toList_eq, strOf_data]
      have h2 : (strOf b).toList = b := by rw [ByteArray.toList_eq, strOf_data]
      rw [h1, h2]
      by_cases hc : c = b
      · subst hc; simp
      · simp [hc]
    rw [hr]
    have u0 : (0 : Int) ≤ (m : Int) := by omega
    have u1 : (m : Int) ≤ (n : Int) := by omega
    have u2 : (m : Int) ≤ (ca : Int) := by omega
    cases sa with
    | none =>
      obtain ⟨rfl, rfl⟩ := ha.nil rfl
      obtain rfl : m = 0 := by omega
      clear ha hb hal hbl hA e0 hr
      go_enter Try.func37, Try.ntmps37
      go_wp2_with fail
      obtain ⟨v0, hdr⟩ : ∃ v, World.drew w = v := ⟨_, rfl⟩
      have hk : Keeps (fun _ => False) w v0 := by rw [← hdr]; exact (Keeps.refl _ _).drew
      have HK := Lib.hid hk
      refine z_begin (fun w' => Keeps (fun _ => False) (World.drew w) w') 16 (by kernel_rfl) (Keeps.refl _ _) (fun hHeld => ?_)
      rw [hdr] at hHeld ⊢
      clear hk hdr
      refine z_take 0 (v := ?_) rfl (by kernel_rfl) (by kernel_rfl) (by kernel_rfl) (by kernel_rfl) (fun _ _ _ h => h) hHeld (by rfl) (fun w hSw => ?_) ?_
      rotate_left
      · clear hSw; simp only [List.getElem_toArray, List.getElem_cons_zero]; go_simp; try rfl
      simp only [Act.put, List.getElem_toArray, List.getElem_cons_zero, List.setIfInBounds_toArray, List.set_cons_zero, List.set_cons_succ]
      refine z_take 1 (v := ?_) rfl (by kernel_rfl) (by kernel_rfl) (by kernel_rfl) (by kernel_rfl) (fun _ _ _ h => h) hHeld (by rfl) (fun w hSw => ?_) ?_
      rotate_left
      · clear hSw; simp only [List.getElem_toArray, List.getElem_cons_zero, List.getElem_cons_succ]; go_simp; try rfl
      simp only [Act.put, List.getElem_toArray, List.getElem_cons_zero, List.getElem_cons_succ, List.setIfInBounds_toArray, List.set_cons_zero, List.set_cons_succ]
      refine z_take 2 (v := ?_) rfl (by kernel_rfl) (by kernel_rfl) (by kernel_rfl) (by kernel_rfl) (fun _ _ _ h => h) hHeld (by rfl) (fun w hSw => ?_) ?_
      rotate_left
      · clear hSw; simp only [List.getElem_toArray, List.getElem_cons_zero, List.getElem_cons_succ]; go_simp; try rfl
      simp only [Act.put, List.getElem_toArray, List.getElem_cons_zero, List.getElem_cons_succ, List.setIfInBounds_toArray, List.set_cons_zero, List.set_cons_succ]
      refine z_take 3 (v := ?_) rfl (by kernel_rfl) (by kernel_rfl) (by kernel_rfl) (by kernel_rfl) (fun _ _ _ h => h) hHeld (by rfl) (fun w hSw => ?_) ?_
      rotate_left
      · clear hSw; simp only [List.getElem_toArray, List.getElem_cons_zero, List.getElem_cons_succ]; go_simp; try rfl
      simp only [Act.put, List.getElem_toArray, List.getElem_cons_zero, List.getElem_cons_succ, List.setIfInBounds_toArray, List.set_cons_zero, List.set_cons_succ]
      refine z_take 4 (v := ?_) rfl (by kernel_rfl) (by kernel_rfl) (by kernel_rfl) (by kernel_rfl) (fun _ _ _ h => h) hHeld (by rfl) (fun w hSw => ?_) ?_
      rotate_left
      · clear hSw; simp only [List.getElem_toArray, List.getElem_cons_zero, List.getElem_cons_succ]; go_simp; try rfl
      simp only [Act.put, List.getElem_toArray, List.getElem_cons_zero, List.getElem_cons_succ, List.setIfInBounds_toArray, List.set_cons_zero, List.set_cons_succ]
      refine z_take 5 (v := ?_) rfl (by kernel_rfl) (by kernel_rfl) (by kernel_rfl) (by kernel_rfl) (fun _ _ _ h => h) hHeld (by rfl) (fun w hSw => ?_) ?_
      rotate_left
      · clear hSw; simp only [List.getElem_toArray, List.getElem_cons_zero, List.getElem_cons_succ]; go_simp; try rfl
      simp only [Act.put, List.getElem_toArray, List.getElem_cons_zero, List.getElem_cons_succ, List.setIfInBounds_toArray, List.set_cons_zero, List.set_cons_succ]
      refine z_take 6 (v := ?_) rfl (by kernel_rfl) (by kernel_rfl) (by kernel_rfl) (by kernel_rfl) (fun _ _ _ h => h) hHeld (by rfl) (fun w hSw => ?_) ?_
      rotate_left
      · clear hSw; simp only [List.getElem_toArray, List.getElem_cons_zero, List.getElem_cons_succ]; go_simp; try rfl
      simp only [Act.put, List.getElem_toArray, List.getElem_cons_zero, List.getElem_cons_succ, List.setIfInBounds_toArray, List.set_cons_zero, List.set_cons_succ]
      refine z_take 7 (v := ?_) rfl (by kernel_rfl) (by kernel_rfl) (by kernel_rfl) (by kernel_rfl) (fun _ _ _ h => h) hHeld (by rfl) (fun w hSw => ?_) ?_
      rotate_left
      · clear hSw; simp only [List.getElem_toArray, List.getElem_cons_zero, List.getElem_cons_succ]; go_simp; try rfl
      simp only [Act.put, List.getElem_toArray, List.getElem_cons_zero, List.getElem_cons_succ, List.setIfInBounds_toArray, List.set_cons_zero, List.set_cons_succ]
      refine z_take 8 (v := ?_) rfl (by kernel_rfl) (by kernel_rfl) (by kernel_rfl) (by kernel_rfl) (fun _ _ _ h => h) hHeld (by rfl) (fun w hSw => ?_) ?_
      rotate_left
      · clear hSw; simp only [List.getElem_toArray, List.getElem_cons_zero, List.getElem_cons_succ]; go_simp; try rfl
      simp only [Act.put, List.getElem_toArray, List.getElem_cons_zero, List.getElem_cons_succ, List.setIfInBounds_toArray, List.set_cons_zero, List.set_cons_succ]
      refine z_take 9 (v := ?_) rfl (by kernel_rfl) (by kernel_rfl) (by kernel_rfl) (by kernel_rfl) (fun _ _ _ h => h) hHeld (by rfl) (fun w hSw => ?_) ?_
      rotate_left
      · clear hSw; simp only [List.getElem_toArray, List.getElem_cons_zero, List.getElem_cons_succ]; go_simp; try rfl
      simp only [Act.put, List.getElem_toArray, List.getElem_cons_zero, List.getElem_cons_succ, List.setIfInBounds_toArray, List.set_cons_zero, List.set_cons_succ]
      refine z_take 10 (v := ?_) rfl (by kernel_rfl) (by kernel_rfl) (by kernel_rfl) (by kernel_rfl) (fun _ _ _ h => h) hHeld (by rfl) (fun w hSw => ?_) ?_
      rotate_left
      · have c0 := run_strSl ((HS.out.1.quiet HK.out).quiet hSw); have c1 := run_strSl ((HS.out.2.quiet HK.out).quiet hSw); clear hSw; simp only [List.getElem_toArray, List.getElem_cons_zero, List.getElem_cons_succ]; go_simp; try rfl
      simp only [Act.put, List.getElem_toArray, List.getElem_cons_zero, List.getElem_cons_succ, List.setIfInBounds_toArray, List.set_cons_zero, List.set_cons_succ]
      refine z_take 11 (v := ?_) rfl (by kernel_rfl) (by kernel_rfl) (by kernel_rfl) (by kernel_rfl) (fun _ _ _ h => h) hHeld (by rfl) (fun w hSw => ?_) ?_
      rotate_left
      · clear hSw; simp only [List.getElem_toArray, List.getElem_cons_zero, List.getElem_cons_succ]; go_simp; try rfl
      simp only [Act.put, List.getElem_toArray, List.getElem_cons_zero, List.getElem_cons_succ, List.setIfInBounds_toArray, List.set_cons_zero, List.set_cons_succ]
      refine z_take 12 (v := ?_) rfl (by kernel_rfl) (by kernel_rfl) (by kernel_rfl) (by kernel_rfl) (fun _ _ _ h => h) hHeld (by rfl) (fun w hSw => ?_) ?_
      rotate_left
      · have c0 := run_strSl ((HS.out.1.quiet HK.out).quiet hSw); have c1 := run_strSl ((HS.out.2.quiet HK.out).quiet hSw); clear hSw; simp only [List.getElem_toArray, List.getElem_cons_zero, List.getElem_cons_succ]; go_simp; try rfl
      simp only [Act.put, List.getElem_toArray, List.getElem_cons_zero, List.getElem_cons_succ, List.setIfInBounds_toArray, List.set_cons_zero, List.set_cons_succ]
      refine z_take 13 (v := ?_) rfl (by kernel_rfl) (by kernel_rfl) (by kernel_rfl) (by kernel_rfl) (fun _ _ _ h => h) hHeld (by rfl) (fun w hSw => ?_) ?_
      rotate_left
      · clear hSw; simp only [List.getElem_toArray, List.getElem_cons_zero, List.getElem_cons_succ]; go_simp; try rfl
      simp only [Act.put, List.getElem_toArray, List.getElem_cons_zero, List.getElem_cons_succ, List.setIfInBounds_toArray, List.set_cons_zero, List.set_cons_succ]
      refine z_take 14 (v := ?_) rfl (by kernel_rfl) (by kernel_rfl) (by kernel_rfl) (by kernel_rfl) (fun _ _ _ h => h) hHeld (by rfl) (fun w hSw => ?_) ?_
      rotate_left
      · clear hSw; simp only [List.getElem_toArray, List.getElem_cons_zero, List.getElem_cons_succ]; go_simp; try rfl
      simp only [Act.put, List.getElem_toArray, List.getElem_cons_zero, List.getElem_cons_succ, List.setIfInBounds_toArray, List.set_cons_zero, List.set_cons_succ]
      refine z_take 15 (v := ?_) rfl (by kernel_rfl) (by kernel_rfl) (by kernel_rfl) (by kernel_rfl) (fun _ _ _ h => h) hHeld (by rfl) (fun w hSw => ?_) ?_
      rotate_left
      · clear hSw; simp only [List.getElem_toArray, List.getElem_cons_zero, List.getElem_cons_succ]; go_simp; try rfl
      simp only [Act.put, List.getElem_toArray, List.getElem_cons_zero, List.getElem_cons_succ, List.setIfInBounds_toArray, List.set_cons_zero, List.set_cons_succ]
      refine z_done (by kernel_rfl) ?_ _
      clear hHeld
      go_wp2
      go_ret
      exact ⟨rfl, HK.out⟩
    | some ad =>
      clear ha hb hal hbl hA e0 hr
      go_enter Try.func37, Try.ntmps37
      go_wp2_with fail
      obtain ⟨v0, hdr⟩ : ∃ v, World.drew w = v := ⟨_, rfl⟩
      have hk : Keeps (fun _ => False) w v0 := by rw [← hdr]; exact (Keeps.refl _ _).drew
      have HK := Lib.hid hk
      refine z_begin (fun w' => Keeps (fun _ => False) (World.drew w) w') 16 (by kernel_rfl) (Keeps.refl _ _) (fun hHeld => ?_)
      rw [hdr] at hHeld ⊢
      clear hk hdr
      refine z_take 0 (v := ?_) rfl (by kernel_rfl) (by kernel_rfl) (by kernel_rfl) (by kernel_rfl) (fun _ _ _ h => h) hHeld (by rfl) (fun w hSw => ?_) ?_
      rotate_left
      · clear hSw; simp only [List.getElem_toArray, List.getElem_cons_zero]; go_simp; try rfl
      simp only [Act.put, List.getElem_toArray, List.getElem_cons_zero, List.setIfInBounds_toArray, List.set_cons_zero, List.set_cons_succ]
      refine z_take 1 (v := ?_) rfl (by kernel_rfl) (by kernel_rfl) (by kernel_rfl) (by kernel_rfl) (fun _ _ _ h => h) hHeld (by rfl) (fun w hSw => ?_) ?_
      rotate_left
      · clear hSw; simp only [List.getElem_toArray, List.getElem_cons_zero, List.getElem_cons_succ]; go_simp; try rfl
      simp only [Act.put, List.getElem_toArray, List.getElem_cons_zero, List.getElem_cons_succ, List.setIfInBounds_toArray, List.set_cons_zero, List.set_cons_succ]
      refine z_take 2 (v := ?_) rfl (by kernel_rfl) (by kernel_rfl) (by kernel_rfl) (by kernel_rfl) (fun _ _ _ h => h) hHeld (by rfl) (fun w hSw => ?_) ?_
      rotate_left
      · clear hSw; simp only [List.getElem_toArray, List.getElem_cons_zero, List.getElem_cons_succ]; go_simp; try rfl
      simp only [Act.put, List.getElem_toArray, List.getElem_cons_zero, List.getElem_cons_succ, List.setIfInBounds_toArray, List.set_cons_zero, List.set_cons_succ]
      refine z_take 3 (v := ?_) rfl (by kernel_rfl) (by kernel_rfl) (by kernel_rfl) (by kernel_rfl) (fun _ _ _ h => h) hHeld (by rfl) (fun w hSw => ?_) ?_
      rotate_left
      · clear hSw; simp only [List.getElem_toArray, List.getElem_cons_zero, List.getElem_cons_succ]; go_simp; try rfl
      simp only [Act.put, List.getElem_toArray, List.getElem_cons_zero, List.getElem_cons_succ, List.setIfInBounds_toArray, List.set_cons_zero, List.set_cons_succ]
      refine z_take 4 (v := ?_) rfl (by kernel_rfl) (by kernel_rfl) (by kernel_rfl) (by kernel_rfl) (fun _ _ _ h => h) hHeld (by rfl) (fun w hSw => ?_) ?_
      rotate_left
      · clear hSw; simp only [List.getElem_toArray, List.getElem_cons_zero, List.getElem_cons_succ]; go_simp; try rfl
      simp only [Act.put, List.getElem_toArray, List.getElem_cons_zero, List.getElem_cons_succ, List.setIfInBounds_toArray, List.set_cons_zero, List.set_cons_succ]
      refine z_take 5 (v := ?_) rfl (by kernel_rfl) (by kernel_rfl) (by kernel_rfl) (by kernel_rfl) (fun _ _ _ h => h) hHeld (by rfl) (fun w hSw => ?_) ?_
      rotate_left
      · clear hSw; simp only [List.getElem_toArray, List.getElem_cons_zero, List.getElem_cons_succ]; go_simp; try rfl
      simp only [Act.put, List.getElem_toArray, List.getElem_cons_zero, List.getElem_cons_succ, List.setIfInBounds_toArray, List.set_cons_zero, List.set_cons_succ]
      refine z_take 6 (v := ?_) rfl (by kernel_rfl) (by kernel_rfl) (by kernel_rfl) (by kernel_rfl) (fun _ _ _ h => h) hHeld (by rfl) (fun w hSw => ?_) ?_
      rotate_left
      · clear hSw; simp only [List.getElem_toArray, List.getElem_cons_zero, List.getElem_cons_succ]; go_simp; try rfl
      simp only [Act.put, List.getElem_toArray, List.getElem_cons_zero, List.getElem_cons_succ, List.setIfInBounds_toArray, List.set_cons_zero, List.set_cons_succ]
      refine z_take 7 (v := ?_) rfl (by kernel_rfl) (by kernel_rfl) (by kernel_rfl) (by kernel_rfl) (fun _ _ _ h => h) hHeld (by rfl) (fun w hSw => ?_) ?_
      rotate_left
      · clear hSw; simp only [List.getElem_toArray, List.getElem_cons_zero, List.getElem_cons_succ]; go_simp; try rfl
      simp only [Act.put, List.getElem_toArray, List.getElem_cons_zero, List.getElem_cons_succ, List.setIfInBounds_toArray, List.set_cons_zero, List.set_cons_succ]
      refine z_take 8 (v := ?_) rfl (by kernel_rfl) (by kernel_rfl) (by kernel_rfl) (by kernel_rfl) (fun _ _ _ h => h) hHeld (by rfl) (fun w hSw => ?_) ?_
      rotate_left
      · clear hSw; simp only [List.getElem_toArray, List.getElem_cons_zero, List.getElem_cons_succ]; go_simp; try rfl
      simp only [Act.put, List.getElem_toArray, List.getElem_cons_zero, List.getElem_cons_succ, List.setIfInBounds_toArray, List.set_cons_zero, List.set_cons_succ]
      refine z_take 9 (v := ?_) rfl (by kernel_rfl) (by kernel_rfl) (by kernel_rfl) (by kernel_rfl) (fun _ _ _ h => h) hHeld (by rfl) (fun w hSw => ?_) ?_
      rotate_left
      · clear hSw; simp only [List.getElem_toArray, List.getElem_cons_zero, List.getElem_cons_succ]; go_simp; try rfl
      simp only [Act.put, List.getElem_toArray, List.getElem_cons_zero, List.getElem_cons_succ, List.setIfInBounds_toArray, List.set_cons_zero, List.set_cons_succ]
      refine z_take 10 (v := ?_) rfl (by kernel_rfl) (by kernel_rfl) (by kernel_rfl) (by kernel_rfl) (fun _ _ _ h => h) hHeld (by rfl) (fun w hSw => ?_) ?_
      rotate_left
      · have c0 := run_strSl ((HS.out.1.quiet HK.out).quiet hSw); have c1 := run_strSl ((HS.out.2.quiet HK.out).quiet hSw); clear hSw; simp only [List.getElem_toArray, List.getElem_cons_zero, List.getElem_cons_succ]; go_simp; try rfl
      simp only [Act.put, List.getElem_toArray, List.getElem_cons_zero, List.getElem_cons_succ, List.setIfInBounds_toArray, List.set_cons_zero, List.set_cons_succ]
      refine z_take 11 (v := ?_) rfl (by kernel_rfl) (by kernel_rfl) (by kernel_rfl) (by kernel_rfl) (fun _ _ _ h => h) hHeld (by rfl) (fun w hSw => ?_) ?_
      rotate_left
      · clear hSw; simp only [List.getElem_toArray, List.getElem_cons_zero, List.getElem_cons_succ]; go_simp; try rfl
      simp only [Act.put, List.getElem_toArray, List.getElem_cons_zero, List.getElem_cons_succ, List.setIfInBounds_toArray, List.set_cons_zero, List.set_cons_succ]
      refine z_take 12 (v := ?_) rfl (by kernel_rfl) (by kernel_rfl) (by kernel_rfl) (by kernel_rfl) (fun _ _ _ h => h) hHeld (by rfl) (fun w hSw => ?_) ?_
      rotate_left
      · have c0 := run_strSl ((HS.out.1.quiet HK.out).quiet hSw); have c1 := run_strSl ((HS.out.2.quiet HK.out).quiet hSw); clear hSw; simp only [List.getElem_toArray, List.getElem_cons_zero, List.getElem_cons_succ]; go_simp; try rfl
      simp only [Act.put, List.getElem_toArray, List.getElem_cons_zero, List.getElem_cons_succ, List.setIfInBounds_toArray, List.set_cons_zero, List.set_cons_succ]
      refine z_take 13 (v := ?_) rfl (by kernel_rfl) (by kernel_rfl) (by kernel_rfl) (by kernel_rfl) (fun _ _ _ h => h) hHeld (by rfl) (fun w hSw => ?_) ?_
      rotate_left
      · clear hSw; simp only [List.getElem_toArray, List.getElem_cons_zero, List.getElem_cons_succ]; go_simp; try rfl
      simp only [Act.put, List.getElem_toArray, List.getElem_cons_zero, List.getElem_cons_succ, List.setIfInBounds_toArray, List.set_cons_zero, List.set_cons_succ]
      refine z_take 14 (v := ?_) rfl (by kernel_rfl) (by kernel_rfl) (by kernel_rfl) (by kernel_rfl) (fun _ _ _ h => h) hHeld (by rfl) (fun w hSw => ?_) ?_
      rotate_left
      · clear hSw; simp only [List.getElem_toArray, List.getElem_cons_zero, List.getElem_cons_succ]; go_simp; try rfl
      simp only [Act.put, List.getElem_toArray, List.getElem_cons_zero, List.getElem_cons_succ, List.setIfInBounds_toArray, List.set_cons_zero, List.set_cons_succ]
      refine z_take 15 (v := ?_) rfl (by kernel_rfl) (by kernel_rfl) (by kernel_rfl) (by kernel_rfl) (fun _ _ _ h => h) hHeld (by rfl) (fun w hSw => ?_) ?_
      rotate_left
      · clear hSw; simp only [List.getElem_toArray, List.getElem_cons_zero, List.getElem_cons_succ]; go_simp; try rfl
      simp only [Act.put, List.getElem_toArray, List.getElem_cons_zero, List.getElem_cons_succ, List.setIfInBounds_toArray, List.set_cons_zero, List.set_cons_succ]
      refine z_done (by kernel_rfl) ?_ _
      clear hHeld
      go_wp2
      go_ret
      exact ⟨rfl, HK.out⟩
  · have t1 : ¬ (n : Int) ≥ (m : Int) := by omega
    have e0 : decide (a.take b.length = b) = false := by
      simp
      intro e
      have := congrArg List.length e
      rw [List.length_take, hal, hbl] at this
      omega
    rw [e0]
    clear ha hb hal hbl e0
    go_enter Try.func37, Try.ntmps37
    go_wp2_with fail
    obtain ⟨v0, hdr⟩ : ∃ v, World.drew w = v := ⟨_, rfl⟩
    have hk : Keeps (fun _ => False) w v0 := by rw [← hdr]; exact (Keeps.refl _ _).drew
    have HK := Lib.hid hk
    refine z_begin (fun w' => Keeps (fun _ => False) (World.drew w) w') 16 (by kernel_rfl) (Keeps.refl _ _) (fun hHeld => ?_)
    rw [hdr] at hHeld ⊢
    clear hk hdr
    refine z_take 0 (v := ?_) rfl (by kernel_rfl) (by kernel_rfl) (by kernel_rfl) (by kernel_rfl) (fun _ _ _ h => h) hHeld (by rfl) (fun w hSw => ?_) ?_
    rotate_left
    · clear hSw; simp only [List.getElem_toArray, List.getElem_cons_zero]; go_simp; try rfl
    simp only [Act.put, List.getElem_toArray, List.getElem_cons_zero, List.setIfInBounds_toArray, List.set_cons_zero, List.set_cons_succ]
    refine z_take 1 (v := ?_) rfl (by kernel_rfl) (by kernel_rfl) (by kernel_rfl) (by kernel_rfl) (fun _ _ _ h => h) hHeld (by rfl) (fun w hSw => ?_) ?_
    rotate_left
    · clear hSw; simp only [List.getElem_toArray, List.getElem_cons_zero, List.getElem_cons_succ]; go_simp; try rfl
    simp only [Act.put, List.getElem_toArray, List.getElem_cons_zero, List.getElem_cons_succ, List.setIfInBounds_toArray, List.set_cons_zero, List.set_cons_succ]
    refine z_take 2 (v := ?_) rfl (by kernel_rfl) (by kernel_rfl) (by kernel_rfl) (by kernel_rfl) (fun _ _ _ h => h) hHeld (by rfl) (fun w hSw => ?_) ?_
    rotate_left
    · clear hSw; simp only [List.getElem_toArray, List.getElem_cons_zero, List.getElem_cons_succ]; go_simp; try rfl
    simp only [Act.put, List.getElem_toArray, List.getElem_cons_zero, List.getElem_cons_succ, List.setIfInBounds_toArray, List.set_cons_zero, List.set_cons_succ]
    refine z_take 3 (v := ?_) rfl (by kernel_rfl) (by kernel_rfl) (by kernel_rfl) (by kernel_rfl) (fun _ _ _ h => h) hHeld (by rfl) (fun w hSw => ?_) ?_
    rotate_left
    · clear hSw; simp only [List.getElem_toArray, List.getElem_cons_zero, List.getElem_cons_succ]; go_simp; try rfl
    simp only [Act.put, List.getElem_toArray, List.getElem_cons_zero, List.getElem_cons_succ, List.setIfInBounds_toArray, List.set_cons_zero, List.set_cons_succ]
    refine z_take 4 (v := ?_) rfl (by kernel_rfl) (by kernel_rfl) (by kernel_rfl) (by kernel_rfl) (fun _ _ _ h => h) hHeld (by rfl) (fun w hSw => ?_) ?_
    rotate_left
    · clear hSw; simp only [List.getElem_toArray, List.getElem_cons_zero, List.getElem_cons_succ]; go_simp; try rfl
    simp only [Act.put, List.getElem_toArray, List.getElem_cons_zero, List.getElem_cons_succ, List.setIfInBounds_toArray, List.set_cons_zero, List.set_cons_succ]
    refine z_take 5 (v := ?_) rfl (by kernel_rfl) (by kernel_rfl) (by kernel_rfl) (by kernel_rfl) (fun _ _ _ h => h) hHeld (by rfl) (fun w hSw => ?_) ?_
    rotate_left
    · clear hSw; simp only [List.getElem_toArray, List.getElem_cons_zero, List.getElem_cons_succ]; go_simp; try rfl
    simp only [Act.put, List.getElem_toArray, List.getElem_cons_zero, List.getElem_cons_succ, List.setIfInBounds_toArray, List.set_cons_zero, List.set_cons_succ]
    refine z_skip 6 rfl (by kernel_rfl) (by kernel_rfl) (by kernel_rfl) (by kernel_rfl) (fun _ _ _ h => h) hHeld (by rfl) ?_
    simp only [Act.put, List.getElem_toArray, List.getElem_cons_zero, List.getElem_cons_succ, List.setIfInBounds_toArray, List.set_cons_zero, List.set_cons_succ]
    refine z_skip 7 rfl (by kernel_rfl) (by kernel_rfl) (by kernel_rfl) (by kernel_rfl) (fun _ _ _ h => h) hHeld (by rfl) ?_
    simp only [Act.put, List.getElem_toArray, List.getElem_cons_zero, List.getElem_cons_succ, List.setIfInBounds_toArray, List.set_cons_zero, List.set_cons_succ]
    refine z_skip 8 rfl (by kernel_rfl) (by kernel_rfl) (by kernel_rfl) (by kernel_rfl) (fun _ _ _ h => h) hHeld (by rfl) ?_
    simp only [Act.put, List.getElem_toArray, List.getElem_cons_zero, List.getElem_cons_succ, List.setIfInBounds_toArray, List.set_cons_zero, List.set_cons_succ]
    refine z_skip 9 rfl (by kernel_rfl) (by kernel_rfl) (by kernel_rfl) (by kernel_rfl) (fun _ _ _ h => h) hHeld (by rfl) ?_
    simp only [Act.put, List.getElem_toArray, List.getElem_cons_zero, List.getElem_cons_succ, List.setIfInBounds_toArray, List.set_cons_zero, List.set_cons_succ]
    refine z_skip 10 rfl (by kernel_rfl) (by kernel_rfl) (by kernel_rfl) (by kernel_rfl) (fun _ _ _ h => h) hHeld (by rfl) ?_
    simp only [Act.put, List.getElem_toArray, List.getElem_cons_zero, List.getElem_cons_succ, List.setIfInBounds_toArray, List.set_cons_zero, List.set_cons_succ]
    refine z_skip 11 rfl (by kernel_rfl) (by kernel_rfl) (by kernel_rfl) (by kernel_rfl) (fun _ _ _ h => h) hHeld (by rfl) ?_
    simp only [Act.put, List.getElem_toArray, List.getElem_cons_zero, List.getElem_cons_succ, List.setIfInBounds_toArray, List.set_cons_zero, List.set_cons_succ]
    refine z_skip 12 rfl (by kernel_rfl) (by kernel_rfl) (by kernel_rfl) (by kernel_rfl) (fun _ _ _ h => h) hHeld (by rfl) ?_
    simp only [Act.put, List.getElem_toArray, List.getElem_cons_zero, List.getElem_cons_succ, List.setIfInBounds_toArray, List.set_cons_zero, List.set_cons_succ]
    refine z_skip 13 rfl (by kernel_rfl) (by kernel_rfl) (by kernel_rfl) (by kernel_rfl) (fun _ _ _ h => h) hHeld (by rfl) ?_
    simp only [Act.put, List.getElem_toArray, List.getElem_cons_zero, List.getElem_cons_succ, List.setIfInBounds_toArray, List.set_cons_zero, List.set_cons_succ]
    refine z_take 14 (v := ?_) rfl (by kernel_rfl) (by kernel_rfl) (by kernel_rfl) (by kernel_rfl) (fun _ _ _ h => h) hHeld (by rfl) (fun w hSw => ?_) ?_
    rotate_left
    · clear hSw; simp only [List.getElem_toArray, List.getElem_cons_zero, List.getElem_cons_succ]; go_simp; try rfl
    simp only [Act.put, List.getElem_toArray, List.getElem_cons_zero, List.getElem_cons_succ, List.setIfInBounds_toArray, List.set_cons_zero, List.set_cons_succ]
    refine z_take 15 (v := ?_) rfl (by kernel_rfl) (by kernel_rfl) (by kernel_rfl) (by kernel_rfl) (fun _ _ _ h => h) hHeld (by rfl) (fun w hSw => ?_) ?_
    rotate_left
    · clear hSw; simp only [List.getElem_toArray, List.getElem_cons_zero, List.getElem_cons_succ]; go_simp; try rfl
    simp only [Act.put, List.getElem_toArray, List.getElem_cons_zero, List.getElem_cons_succ, List.setIfInBounds_toArray, List.set_cons_zero, List.set_cons_succ]
    refine z_done (by kernel_rfl) ?_ _
    clear hHeld
    go_wp2
    go_ret
    exact ⟨rfl, HK.out⟩
end Go.Proofs.Ytpojkhjenbbodaa
