/-
  The reference's Set. Conditions: a store of the reference in memory, a disk that is up.
-/
import Derived.Test.YtpojkhjenbbodaaRefAct
import Derived.Test.YtpojkhjenbbodaaLate
import Derived.Deep.DeepCutAuto
namespace Go.Proofs.Ytpojkhjenbbodaa
open Go.RowKit

/-- Behind a write into a disk of one's own. -/
def RsW (W : World) (D1 : DS) (vd : Array Value) (s8 : Value) (wx : World) : Prop :=
  ∃ (b4 : Nat) (v1 : Array Value), s8 = .pointer (some ⟨b4, 0, none⟩) ∧ wx.heap[b4]? = some (.cells v1 38 (0, 0)) ∧ RefAt wx 0 v1 D1 ∧ RGrow W vd v1 ∧ Keeps (fun _ => False) W wx ∧ W.heap.size ≤ b4

set_option maxHeartbeats 40000000 in
set_option maxRecDepth 10000 in
theorem refSet_raw (sn ss sa sb sl sk sx : Option Addr) (N cn ns cs na ca nb cb nl cl nk ck nx cx half used turn tt sz : Nat) (atr : Int) (D : DS) (x : List UInt8) (w : World) (hD : RefAt w 0 #[.slice sn N cn, .slice ss ns cs, .slice sa na ca, .slice sb nb cb, .bool false] D) (hcr : D.cr = false) (hN : D.now.length = N) (hN2 : N ≤ 65536) (hlo : D.lo.length ≤ 600000) (hhN : half ≤ N) (hsz : (N - half) / 2 = sz) (hsz0 : 0 < sz)
    (hx : Sl w sx nx cx (BV x)) (hnx : nx + 14 ≤ sz) (hto : (atr = 2 ∧ tt = 0) ∨ (atr = 0 ∧ tt = 1) ∨ (atr = 1 ∧ tt = 0)) (htn : turn + 1 ≤ 10000000000) :
    Calls Try.prog 33 #[.agg #[.slice sn N cn, .slice ss ns cs, .slice sa na ca, .slice sb nb cb, .bool false, .int .i64 (half : Int), .int .i64 (used : Int), .slice sl nl cl, .int .i64 atr, .int .u64 (turn : Int), .slice sk nk ck], .slice sx nx cx] w (ActPost w #[.slice sn N cn, .slice ss ns cs, .slice sa na ca, .slice sb nb cb, .bool false] (((D.write (half + tt * sz) (keyF (turn + 1) x)).sync.zero (half + (1 - tt) * sz) sz).sync) (fun _ => [.int .i64 (half : Int), .int .i64 (used : Int), .slice sl nl cl, .int .i64 (tt : Int), .int .u64 ((turn + 1 : Nat) : Int), .slice sx nx cx]) (fun _ _ => True)) := by
  have hxl : x.length = nx := by have := hx.len; simpa using this
  have hto1 : tt ≤ 1 := by omega
  have hfit : half + tt * sz + sz ≤ N ∧ half + (1 - tt) * sz + sz ≤ N := by rcases (show tt = 0 ∨ tt = 1 by omega) with rfl | rfl <;> omega
  have HSZ : Hid (∀ u : World, Calls Try.prog 40 #[.agg #[.slice sn N cn, .slice ss ns cs, .slice sa na ca, .slice sb nb cb, .bool false, .int .i64 (half : Int), .int .i64 (used : Int), .slice sl nl cl, .int .i64 atr, .int .u64 (turn : Int), .slice sk nk ck]] u fun e w' => e = .returned (.int .i64 (sz : Int)) ∧ Keeps (fun _ => False) u w') := Lib.hid (fun u => by
    have := refSize_any sn N cn half (.slice ss ns cs) (.slice sa na ca) (.slice sb nb cb) (.bool false) (.int .i64 (used : Int)) (.slice sl nl cl) (.int .i64 atr) (.int .u64 (turn : Int)) (.slice sk nk ck) u (by omega) hhN
    rwa [hsz] at this)
  obtain ⟨t2, ht2⟩ : ∃ t, turn + 1 = t := ⟨_, rfl⟩
  have g1 : (turn : Int) + 1 = (t2 : Int) := by omega
  have g2 : IntKind.u64.wrap (t2 : Int) = (t2 : Int) := wrap_nat _ _ rfl (by omega)
  have HKF : Hid (∀ u : World, Keeps (fun _ => False) w u → Calls Try.prog 17 #[.int .u64 (t2 : Int), .slice sx nx cx] u fun e w' => ∃ sb cb, e = .returned (.slice sb (nx + 14) cb) ∧ w'.ownsRow u.heap.size 5 1 (.slice sb (nx + 14) cb) (nx + 14) (BV (keyF t2 x)) ∧ Keeps (fun _ => False) u w') := Lib.hid (fun u h => refKeys_any t2 sx nx cx x u (by unfold U64; omega) (hx.quiet h) (by omega))
  obtain ⟨ts, hts⟩ : ∃ z, tt * sz = z := ⟨_, rfl⟩
  obtain ⟨zs, hzs⟩ : ∃ z, (1 - tt) * sz = z := ⟨_, rfl⟩
  obtain ⟨aw, haw⟩ : ∃ z, half + ts = z := ⟨_, rfl⟩
  obtain ⟨az, haz⟩ : ∃ z, half + zs = z := ⟨_, rfl⟩
  obtain ⟨tz, htz⟩ : ∃ z, 1 - tt = z := ⟨_, rfl⟩
  obtain ⟨f, hf⟩ : ∃ l, keyF t2 x = l := ⟨_, rfl⟩
  rw [ht2, hf, hts, haw, hzs, haz]
  rw [hf] at HKF
  rw [hts, hzs, haw, haz] at hfit
  have hfl : f.length = nx + 14 := by rw [← hf, keyF_length, hxl]
  have m1 : (tt : Int) * (sz : Int) = (ts : Int) := by rw [← hts]; simp
  have m2 : IntKind.i64.wrap (ts : Int) = (ts : Int) := IntWalk.i64_in _ (by omega)
  have m3 : (half : Int) + (ts : Int) = (aw : Int) := by omega
  have m4 : IntKind.i64.wrap (aw : Int) = (aw : Int) := IntWalk.i64_in _ (by omega)
  have HM5 : Hid ((1 : Int) - (tt : Int) = (tz : Int) ∧ IntKind.i64.wrap (tz : Int) = (tz : Int) ∧ (tz : Int) * (sz : Int) = (zs : Int) ∧ IntKind.i64.wrap (zs : Int) = (zs : Int) ∧ (half : Int) + (zs : Int) = (az : Int) ∧ IntKind.i64.wrap (az : Int) = (az : Int)) := Lib.hid ⟨by omega, IntWalk.i64_in _ (by omega), by rw [← hzs, ← htz]; simp, IntWalk.i64_in _ (by omega), by omega, IntWalk.i64_in _ (by omega)⟩
  have HDD := Lib.hid (And.intro hD (And.intro hcr (And.intro hN (And.intro hN2 hlo))))
  have HNN := Lib.hid (And.intro hfit (And.intro hnx (And.intro hsz0 (And.intro hfl hhN))))
  have HTO := Lib.hid (And.intro hto hto1)
  clear hD hcr hN hN2 hlo hhN hx hxl hnx hfit hfl hsz hsz0 ht2 hts hzs haw haz htz hf hto hto1 htn
  go_enter Try.func33, Try.ntmps33
  obtain ⟨b1, hb1⟩ : ∃ b, w.heap.size = b := ⟨_, rfl⟩
  obtain ⟨w1, hw1⟩ : ∃ v, w.alloc (.cells #[.slice sn N cn, .slice ss ns cs, .slice sa na ca, .slice sb nb cb, .bool false, .int .i64 (half : Int), .int .i64 (used : Int), .slice sl nl cl, .int .i64 atr, .int .u64 (turn : Int), .slice sk nk ck] 41) = v := ⟨_, rfl⟩
  obtain ⟨b2, hb2⟩ : ∃ b, w1.heap.size = b := ⟨_, rfl⟩
  obtain ⟨w2, hw2⟩ : ∃ v, w1.alloc (.cells #[.slice none 0 0, .slice none 0 0, .slice none 0 0, .slice none 0 0, .bool false, .int .i64 0, .int .i64 0, .slice none 0 0, .int .i64 0, .int .u64 0, .slice none 0 0] 41) = v := ⟨_, rfl⟩
  have q1 : w1.heap[b1]? = some (.cells #[.slice sn N cn, .slice ss ns cs, .slice sa na ca, .slice sb nb cb, .bool false, .int .i64 (half : Int), .int .i64 (used : Int), .slice sl nl cl, .int .i64 atr, .int .u64 (turn : Int), .slice sk nk ck] 41 (0, 0)) := by rw [← hw1, ← hb1]; exact World.alloc_heap_new w _
  have k1 : Keeps (fun _ => False) w w1 := by rw [← hw1]; exact (Keeps.refl _ w).alloc _
  have k2 : Keeps (fun _ => False) w1 w2 := by rw [← hw2]; exact (Keeps.refl _ w1).alloc _
  have q2 : w2.heap[b2]? = some (.cells #[.slice none 0 0, .slice none 0 0, .slice none 0 0, .slice none 0 0, .bool false, .int .i64 0, .int .i64 0, .slice none 0 0, .int .i64 0, .int .u64 0, .slice none 0 0] 41 (0, 0)) := by rw [← hw2, ← hb2]; exact World.alloc_heap_new w1 _
  have HQ : Hid (w2.heap[b1]? = some (.cells #[.slice sn N cn, .slice ss ns cs, .slice sa na ca, .slice sb nb cb, .bool false, .int .i64 (half : Int), .int .i64 (used : Int), .slice sl nl cl, .int .i64 atr, .int .u64 (turn : Int), .slice sk nk ck] 41 (0, 0)) ∧ w2.heap[b2]? = some (.cells #[.slice none 0 0, .slice none 0 0, .slice none 0 0, .slice none 0 0, .bool false, .int .i64 0, .int .i64 0, .slice none 0 0, .int .i64 0, .int .u64 0, .slice none 0 0] 41 (0, 0)) ∧ (w.heap.size = b1 ∧ b2 = b1 + 1 ∧ w2.heap.size = b1 + 2) ∧ Keeps (fun _ => False) w w2) := Lib.hid ⟨(k2.block b1 (lt_of_heap q1) (fun h => h)).trans q1, q2, ⟨hb1, by rw [← hb2, ← hw1, ← hb1]; simp, by rw [← hw2, World.size_alloc, hb2, ← hb2, ← hw1, World.size_alloc, hb1]⟩, k1.quiet k2⟩
  have c0 := cellAt HQ.out.1 0
  have c1 := cellAt HQ.out.1 1
  have c2 := cellAt HQ.out.1 2
  have c3 := cellAt HQ.out.1 3
  have c4 := cellAt HQ.out.1 4
  have c5 := cellAt HQ.out.1 5
  have c6 := cellAt HQ.out.1 6
  have c7 := cellAt HQ.out.1 7
  have c8 := cellAt HQ.out.1 8
  have c9 := cellAt HQ.out.1 9
  have c10 := cellAt HQ.out.1 10
  simp at c0 c1 c2 c3 c4 c5 c6 c7 c8 c9 c10
  clear q1 q2 k1 k2
  go_upto_region 2 with (fail)
  go_cut [12] (fun s12 wx => s12 = .bool (decide (atr < 2)) ∧ wx = w2)
  case first =>
    clear m1 m3
    go_wp2_with fail
    go_meet
    exact ⟨rfl, rfl⟩
  case rest =>
  obtain ⟨hs12, hwc⟩ := hcut
  subst hs12
  rw [hwc]
  clear hwc
  apply_assumption
  go_cut [6] (fun s6 wx => s6 = .int .i64 (tt : Int) ∧ wx = w2)
  case first =>
    rcases HTO.out.1 with ⟨rfl, rfl⟩ | ⟨rfl, rfl⟩ | ⟨rfl, rfl⟩
    all_goals
      clear m1 m3
      go_wp2_with fail
      go_meet
      exact ⟨rfl, rfl⟩
  case rest =>
    obtain ⟨hs6, hwc⟩ := hcut
    subst hs6
    rw [hwc]
    clear hwc hw1 hw2 hb1 hb2
    apply_assumption
    go_wp2_with fail
    refine (HKF.out w2 HQ.out.2.2.2).mono ?_
    rintro e w3 ⟨s7, e7, rfl, ho7, hk⟩
    have HK3 : Hid (Keeps (fun _ => False) w w3) := Lib.hid (HQ.out.2.2.2.quiet hk)
    have h13 := (hk.block b1 (lt_of_heap HQ.out.1) (fun h => h)).trans HQ.out.1
    have h23 := (hk.block b2 (lt_of_heap HQ.out.2.1) (fun h => h)).trans HQ.out.2.1
    have HQ3 := Lib.hid (And.intro h13 h23)
    obtain ⟨g7, hg7⟩ := own_some ho7 (by omega)
    subst hg7
    have HO7 := Lib.hid ho7
    have c0 := cellAt h13 0
    have c1 := cellAt h13 1
    have c2 := cellAt h13 2
    have c3 := cellAt h13 3
    have c4 := cellAt h13 4
    have c5 := cellAt h13 5
    have c6 := cellAt h13 6
    have c7 := cellAt h13 7
    have c8 := cellAt h13 8
    have c9 := cellAt h13 9
    have c10 := cellAt h13 10
    simp at c0 c1 c2 c3 c4 c5 c6 c7 c8 c9 c10
    obtain ⟨m14, hm14⟩ : ∃ z, nx + 14 = z := ⟨_, rfl⟩
    rw [hm14] at HO7 HNN ⊢
    have i1 : ¬ (m14 : Int) > (sz : Int) := by have := HNN.out.2.1; omega
    clear hk h13 h23 ho7 HKF hm14 
    go_wp2_with fail
    refine (HSZ.out w3).mono ?_
    rintro e wr ⟨rfl, hk⟩
    have HKR : Hid (Keeps (fun _ => False) w wr) := Lib.hid (HK3.out.quiet hk)
    have HB1 : Hid (wr.heap[b1]? = some (.cells #[.slice sn N cn, .slice ss ns cs, .slice sa na ca, .slice sb nb cb, .bool false, .int .i64 (half : Int), .int .i64 (used : Int), .slice sl nl cl, .int .i64 atr, .int .u64 (turn : Int), .slice sk nk ck] 41 (0, 0))) := Lib.hid ((hk.block b1 (lt_of_heap HQ3.out.1) (fun h => h)).trans HQ3.out.1)
    have HB2R : Hid (wr.heap[b2]? = some (.cells #[.slice none 0 0, .slice none 0 0, .slice none 0 0, .slice none 0 0, .bool false, .int .i64 0, .int .i64 0, .slice none 0 0, .int .i64 0, .int .u64 0, .slice none 0 0] 41 (0, 0))) := Lib.hid ((hk.block b2 (lt_of_heap HQ3.out.2) (fun h => h)).trans HQ3.out.2)
    have HO8 := Lib.hid (own_keep HO7.out hk (fun _ _ h => h))
    have HRD : Hid (RefAt wr 0 #[.slice sn N cn, .slice ss ns cs, .slice sa na ca, .slice sb nb cb, .bool false] D) := Lib.hid (HDD.out.1.keep HKR.out (fun _ _ _ h => h))
    have HWZ : Hid (∀ u : World, Keeps (fun _ => False) wr u → RefAt u 0 #[.slice sn N cn, .slice ss ns cs, .slice sa na ca, .slice sb nb cb, .bool false] D → Calls Try.prog 39 #[.agg #[.slice sn N cn, .slice ss ns cs, .slice sa na ca, .slice sb nb cb, .bool false], .int .i64 (aw : Int), .slice (some ⟨g7, 0, none⟩) m14 e7] u fun e w' => ∃ v', e = .returned (.tuple #[.agg v', .int .i64 0]) ∧ RefAt w' 0 v' (D.write aw f) ∧ Keeps (fun _ => False) u w' ∧ RGrow u #[.slice sn N cn, .slice ss ns cs, .slice sa na ca, .slice sb nb cb, .bool false] v') := Lib.hid (fun u hu h => refWrite_ok 0 aw m14 f HNN.out.2.2.2.1 (some ⟨g7, 0, none⟩) g7 0 e7 (fun _ => rfl) D _ u (fun j c hc => by rw [Nat.zero_add]; exact own_cell (own_keep HO8.out hu (fun _ _ h => h)) j _ (by rw [BV_get, hc]; rfl)) h HDD.out.2.1 N HDD.out.2.2.1 (by have h1 := HNN.out.1.1; have h2 := HNN.out.2.1; omega) HDD.out.2.2.2.1 (by have h1 := HNN.out.1.1; have h2 := HNN.out.2.2.1; omega) (by have := HDD.out.2.2.2.2; omega) (Nat.zero_le _))
    obtain ⟨D1, hD1⟩ : ∃ d, D.write aw f = d := ⟨_, rfl⟩
    rw [hD1] at HWZ
    have HD1 : Hid (D1.cr = false ∧ D1.now.length = N ∧ D1.lo.length ≤ 700000 ∧ D.write aw f = D1) := Lib.hid (by
      rw [← hD1]
      refine ⟨HDD.out.2.1, ?_, ?_, rfl⟩
      · rw [write_len D aw _ (by rw [HNN.out.2.2.2.1, HDD.out.2.2.1]; have h1 := HNN.out.1.1; have h2 := HNN.out.2.1; omega)]; exact HDD.out.2.2.1
      · show (D.lo ++ mkLo aw f).length ≤ _; rw [List.length_append, mkLo_length, HNN.out.2.2.2.1]; have h1 := HDD.out.2.2.2.2; have h2 := HNN.out.1.1; have h3 := HNN.out.2.1; have h4 := HDD.out.2.2.2.1; omega)
    clear hk hD1 HO7 c0 c1 c2 c3 c4 c5 c6 c7 c8 c9 c10
    go_upto_region 7 with (fail)
    go_cut [8, 9] (fun s8 s9 wx => s9 = .int .i64 0 ∧ RsW wr D1 #[.slice sn N cn, .slice ss ns cs, .slice sa na ca, .slice sb nb cb, .bool false] s8 wx)
    case first =>
      obtain ⟨v0, hdr⟩ : ∃ v, World.drew wr = v := ⟨_, rfl⟩
      have hk : Keeps (fun _ => False) wr v0 := by rw [← hdr]; exact (Keeps.refl _ _).drew
      refine z_begin (fun w' => Keeps (fun _ => False) (World.drew wr) w') 17 (by kernel_rfl) (Keeps.refl _ _) (fun hHeld => ?_)
      rw [hdr] at hHeld ⊢
      have RA := Lib.hid (HRD.out.keep hk (fun _ _ _ h => h))
      have HB := Lib.hid ((hk.block b1 (lt_of_heap HB1.out) (fun h => h)).trans HB1.out)
      have KV : Hid (Keeps (fun _ => False) wr v0) := Lib.hid hk
      have HV0 : Hid (v0.heap.size = wr.heap.size) := Lib.hid (by rw [← hdr]; rfl)
      clear hk hdr
      refine z_take 0 (v := ?_) rfl (by kernel_rfl) (by kernel_rfl) (by kernel_rfl) (by kernel_rfl) (fun _ _ _ h => h) hHeld (by rfl) (fun w hSw => ?_) ?_
      rotate_left
      · clear hSw; simp only [List.getElem_toArray, List.getElem_cons_zero]; go_simp; try rfl
      simp only [Act.put, List.getElem_toArray, List.getElem_cons_zero, List.setIfInBounds_toArray, List.set_cons_zero, List.set_cons_succ]
      refine z_take 1 (v := ?_) rfl (by kernel_rfl) (by kernel_rfl) (by kernel_rfl) (by kernel_rfl) (fun _ _ _ h => h) hHeld (by rfl) (fun w hSw => ?_) ?_
      rotate_left
      · have hb := (hSw.block b1 (lt_of_heap HB.out) (fun h => h)).trans HB.out; have c0 := cellAt hb 0; have c1 := cellAt hb 1; have c2 := cellAt hb 2; have c3 := cellAt hb 3; have c4 := cellAt hb 4; simp at c0 c1 c2 c3 c4; clear hb; clear hSw; simp only [List.getElem_toArray, List.getElem_cons_zero, List.getElem_cons_succ]; go_simp; try rfl
      simp only [Act.put, List.getElem_toArray, List.getElem_cons_zero, List.getElem_cons_succ, List.setIfInBounds_toArray, List.set_cons_zero, List.set_cons_succ]
      refine z_take 2 (v := ?_) rfl (by kernel_rfl) (by kernel_rfl) (by kernel_rfl) (by kernel_rfl) (fun _ _ _ h => h) hHeld (by rfl) (fun w hSw => ?_) ?_
      rotate_left
      · clear hSw; simp only [List.getElem_toArray, List.getElem_cons_zero, List.getElem_cons_succ]; go_simp; try rfl
      simp only [Act.put, List.getElem_toArray, List.getElem_cons_zero, List.getElem_cons_succ, List.setIfInBounds_toArray, List.set_cons_zero, List.set_cons_succ]
      refine z_take 3 (v := ?_) rfl (by kernel_rfl) (by kernel_rfl) (by kernel_rfl) (by kernel_rfl) (fun _ _ _ h => h) hHeld (by rfl) (fun w hSw => ?_) ?_
      rotate_left
      · have hb := (hSw.block b1 (lt_of_heap HB.out) (fun h => h)).trans HB.out; have c5 := cellAt hb 5; simp at c5; clear hb; clear hSw; simp only [List.getElem_toArray, List.getElem_cons_zero, List.getElem_cons_succ]; go_simp; try rfl
      simp only [Act.put, List.getElem_toArray, List.getElem_cons_zero, List.getElem_cons_succ, List.setIfInBounds_toArray, List.set_cons_zero, List.set_cons_succ]
      refine z_take 4 (v := ?_) rfl (by kernel_rfl) (by kernel_rfl) (by kernel_rfl) (by kernel_rfl) (fun _ _ _ h => h) hHeld (by rfl) (fun w hSw => ?_) ?_
      rotate_left
      · clear hSw; simp only [List.getElem_toArray, List.getElem_cons_zero, List.getElem_cons_succ]; go_simp; try rfl
      simp only [Act.put, List.getElem_toArray, List.getElem_cons_zero, List.getElem_cons_succ, List.setIfInBounds_toArray, List.set_cons_zero, List.set_cons_succ]
      refine z_take 5 (v := ?_) rfl (by kernel_rfl) (by kernel_rfl) (by kernel_rfl) (by kernel_rfl) (fun _ _ _ h => h) hHeld (by rfl) (fun w hSw => ?_) ?_
      rotate_left
      · have hb := (hSw.block b1 (lt_of_heap HB.out) (fun h => h)).trans HB.out; have c0 := cellAt hb 0; have c1 := cellAt hb 1; have c2 := cellAt hb 2; have c3 := cellAt hb 3; have c4 := cellAt hb 4; have c5 := cellAt hb 5; have c6 := cellAt hb 6; have c7 := cellAt hb 7; have c8 := cellAt hb 8; have c9 := cellAt hb 9; have c10 := cellAt hb 10; simp at c0 c1 c2 c3 c4 c5 c6 c7 c8 c9 c10; clear hb; clear hSw; simp only [List.getElem_toArray, List.getElem_cons_zero, List.getElem_cons_succ]; go_simp; try rfl
      simp only [Act.put, List.getElem_toArray, List.getElem_cons_zero, List.getElem_cons_succ, List.setIfInBounds_toArray, List.set_cons_zero, List.set_cons_succ]
      refine z_take 9 (v := ?_) rfl (by kernel_rfl) (by kernel_rfl) (by kernel_rfl) (by kernel_rfl) (fun _ _ _ h => h) hHeld (by rfl) (fun w hSw => ?_) ?_
      rotate_left
      · clear hSw; simp only [List.getElem_toArray, List.getElem_cons_zero, List.getElem_cons_succ]; go_simp; try rfl
      simp only [Act.put, List.getElem_toArray, List.getElem_cons_zero, List.getElem_cons_succ, List.setIfInBounds_toArray, List.set_cons_zero, List.set_cons_succ]
      refine z_two 6 14 rfl rfl (by kernel_rfl) (by rfl) (by rfl) (fun K hK => ?_) (fun K hK => ?_)
      · skip
        simp only [List.getElem_toArray, List.getElem_cons_zero, List.getElem_cons_succ]
        have hz := HSZ.out v0
        go_simp
        refine hz.mono ?_
        rintro e t1_ ⟨rfl, hk⟩
        clear hz
        replace RA := Lib.hid (RA.out.keep hk (fun _ _ _ h => h))
        replace KV := Lib.hid (KV.out.quiet hk)
        refine hK _ _ (Or.inr (hHeld.quiet hk)) (fun hHeld => ?_)
        clear hK K
        replace hHeld := hHeld.resolve_left (by decide)
        try simp only [Act.put, List.setIfInBounds_toArray, List.set_cons_zero, List.set_cons_succ]
        clear hk
        refine z_take 7 (v := ?_) rfl (by kernel_rfl) (by kernel_rfl) (by kernel_rfl) (by kernel_rfl) (fun _ _ _ h => h) hHeld (by rfl) (fun w hSw => ?_) ?_
        rotate_left
        · clear hSw; simp only [List.getElem_toArray, List.getElem_cons_zero, List.getElem_cons_succ]; go_simp; try rfl
        simp only [Act.put, List.getElem_toArray, List.getElem_cons_zero, List.getElem_cons_succ, List.setIfInBounds_toArray, List.set_cons_zero, List.set_cons_succ]
        refine z_take 8 (v := ?_) rfl (by kernel_rfl) (by kernel_rfl) (by kernel_rfl) (by kernel_rfl) (fun _ _ _ h => h) hHeld (by rfl) (fun w hSw => ?_) ?_
        rotate_left
        · clear hSw; simp only [List.getElem_toArray, List.getElem_cons_zero, List.getElem_cons_succ]; go_simp; try rfl
        simp only [Act.put, List.getElem_toArray, List.getElem_cons_zero, List.getElem_cons_succ, List.setIfInBounds_toArray, List.set_cons_zero, List.set_cons_succ]
        refine z_two 10 14 rfl rfl (by kernel_rfl) (by rfl) (by rfl) (fun K hK => ?_) (fun K hK => ?_)
        · skip
          simp only [List.getElem_toArray, List.getElem_cons_zero, List.getElem_cons_succ]
          have hw := HWZ.out t1_ KV.out RA.out
          go_simp
          refine hw.mono ?_
          have HSZ2 : Hid (wr.heap.size ≤ t1_.heap.size) := Lib.hid KV.out.size
          rintro e t2_ ⟨v1, rfl, hra, hk, hrg⟩
          obtain ⟨sn1, cn1, ss1, cs1, sa1, ca1, sb1, cb1, rfl, _⟩ := hra.rows
          clear hw
          replace RA := Lib.hid (RA.out.keep hk (fun _ _ _ h => h))
          replace KV := Lib.hid (KV.out.quiet hk)
          have RV := Lib.hid (And.intro hra hrg)
          have KVR : Hid (wr.heap.size ≤ t1_.heap.size) := Lib.hid HSZ2.out
          clear hra hrg
          refine hK _ _ (Or.inr (hHeld.quiet hk)) (fun hHeld => ?_)
          clear hK K
          replace hHeld := hHeld.resolve_left (by decide)
          try simp only [Act.put, List.setIfInBounds_toArray, List.set_cons_zero, List.set_cons_succ]
          clear hk
          refine z_take 11 (v := ?_) rfl (by kernel_rfl) (by kernel_rfl) (by kernel_rfl) (by kernel_rfl) (fun _ _ _ h => h) hHeld (by rfl) (fun w hSw => ?_) ?_
          rotate_left
          · clear hSw; simp only [List.getElem_toArray, List.getElem_cons_zero, List.getElem_cons_succ]; go_simp; try rfl
          simp only [Act.put, List.getElem_toArray, List.getElem_cons_zero, List.getElem_cons_succ, List.setIfInBounds_toArray, List.set_cons_zero, List.set_cons_succ]
          refine z_take 12 (v := ?_) rfl (by kernel_rfl) (by kernel_rfl) (by kernel_rfl) (by kernel_rfl) (fun _ _ _ h => h) hHeld (by rfl) (fun w hSw => ?_) ?_
          rotate_left
          · clear hSw; simp only [List.getElem_toArray, List.getElem_cons_zero, List.getElem_cons_succ]; go_simp; try rfl
          simp only [Act.put, List.getElem_toArray, List.getElem_cons_zero, List.getElem_cons_succ, List.setIfInBounds_toArray, List.set_cons_zero, List.set_cons_succ]
          refine z_take 13 (v := ?_) rfl (by kernel_rfl) (by kernel_rfl) (by kernel_rfl) (by kernel_rfl) (fun _ _ _ h => h) hHeld (by rfl) (fun w hSw => ?_) ?_
          rotate_left
          · clear hSw; simp only [List.getElem_toArray, List.getElem_cons_zero, List.getElem_cons_succ]; go_simp; try rfl
          simp only [Act.put, List.getElem_toArray, List.getElem_cons_zero, List.getElem_cons_succ, List.setIfInBounds_toArray, List.set_cons_zero, List.set_cons_succ]
          refine z_one 14 rfl (by kernel_rfl) (by rfl) (fun K hK => ?_)
          simp only [List.getElem_toArray, List.getElem_cons_zero, List.getElem_cons_succ]
          obtain ⟨b4, hb4⟩ : ∃ g, t2_.heap.size = g := ⟨_, rfl⟩
          obtain ⟨t3_, hy⟩ : ∃ v, World.alloc t2_ (.cells #[.slice none 0 0, .slice none 0 0, .slice none 0 0, .slice none 0 0, .bool false] 38) = v := ⟨_, rfl⟩
          have hk : Keeps (fun _ => False) t2_ t3_ := by rw [← hy]; exact (Keeps.refl _ t2_).alloc _
          have ha4 : t3_.heap[b4]? = some (.cells #[.slice none 0 0, .slice none 0 0, .slice none 0 0, .slice none 0 0, .bool false] 38 (0, 0)) := by rw [← hy, ← hb4]; exact World.alloc_heap_new t2_ _
          have hl4 : wr.heap.size ≤ b4 := by rw [← hb4]; exact KV.out.size
          go_simp
          clear hy hb4
          replace RA := Lib.hid (RA.out.keep hk (fun _ _ _ h => h))
          replace RV := Lib.hid (And.intro (RV.out.1.keep hk (fun _ _ _ h => h)) RV.out.2)
          replace KV := Lib.hid (KV.out.quiet hk)
          have A4 := Lib.hid ha4
          have L4 := Lib.hid hl4
          clear ha4 hl4
          refine hK _ _ (Or.inr (hHeld.quiet hk)) (fun hHeld => ?_)
          clear hK K
          replace hHeld := hHeld.resolve_left (by decide)
          try simp only [Act.put, List.setIfInBounds_toArray, List.set_cons_zero, List.set_cons_succ]
          clear hk
          have RVF := Lib.hid (ref_apart RV.out.1 A4.out)
          have j0 := cellAt A4.out 0
          have j1 := cellAt A4.out 1
          have j2 := cellAt A4.out 2
          have j3 := cellAt A4.out 3
          have j4 := cellAt A4.out 4
          have k0 := freeAt A4.out 0
          have k1 := freeAt A4.out 1
          have k2 := freeAt A4.out 2
          have k3 := freeAt A4.out 3
          have k4 := freeAt A4.out 4
          simp at j0 j1 j2 j3 j4
          refine z_one 15 rfl (by kernel_rfl) (by rfl) (fun K hK => ?_)
          simp only [List.getElem_toArray, List.getElem_cons_zero, List.getElem_cons_succ]
          have h5 := heap_five A4.out (.slice sn1 D1.now.length cn1) (.slice ss1 D1.sure.length cs1) (.slice sa1 D1.lo.length ca1) (.slice sb1 D1.lo.length cb1) (.bool D1.cr)
          have k5 := keeps_five t3_ b4 (.slice sn1 D1.now.length cn1) (.slice ss1 D1.sure.length cs1) (.slice sa1 D1.lo.length ca1) (.slice sb1 D1.lo.length cb1) (.bool D1.cr)
          have HF : Hid (RsW wr D1 #[.slice sn N cn, .slice ss ns cs, .slice sa na ca, .slice sb nb cb, .bool false] (.pointer (some ⟨b4, 0, none⟩)) (((((t3_.setCell ⟨b4, 0, none⟩ (.slice sn1 D1.now.length cn1)).setCell ⟨b4, 1, none⟩ (.slice ss1 D1.sure.length cs1)).setCell ⟨b4, 2, none⟩ (.slice sa1 D1.lo.length ca1)).setCell ⟨b4, 3, none⟩ (.slice sb1 D1.lo.length cb1)).setCell ⟨b4, 4, none⟩ (.bool D1.cr))) := Lib.hid ⟨b4, _, rfl, h5, RV.out.1.keep' k5 (RVF.out), fun G h1 h2 => RV.out.2 G h1 (fun j hj => h2 j (Nat.le_trans KVR.out hj)), KV.out.trans k5 (fun j hj e => by have := L4.out; have e' : j = b4 := e; omega), L4.out⟩
          have hS6 := Lib.hid (hHeld.trans k5 (fun j hj e => by have := L4.out; have h0 := HV0.out; have e' : j = b4 := e; omega))
          clear h5 k5
          generalize D1.now.length = l1_ at *
          generalize D1.sure.length = l2_ at *
          generalize D1.lo.length = l3_ at *
          generalize D1.cr = l4_ at *
          go_simp
          refine hK _ _ (Or.inr hS6.out) (fun hHeld => ?_)
          clear hK K
          replace hHeld := hS6.out
          clear hS6
          try simp only [Act.put, List.setIfInBounds_toArray, List.set_cons_zero, List.set_cons_succ]
          refine z_one 16 rfl (by kernel_rfl) (by rfl) (fun K hK => ?_)
          simp only [List.getElem_toArray, List.getElem_cons_zero, List.getElem_cons_succ]
          go_simp
          refine hK _ _ (Or.inr ?_) (fun hHeld => ?_)
          · exact hHeld
          clear hK K
          replace hHeld := hHeld.resolve_left (by decide)
          try simp only [Act.put, List.setIfInBounds_toArray, List.set_cons_zero, List.set_cons_succ]
          refine z_done (by kernel_rfl) ?_ _
          clear hHeld
          go_wp2_with fail
          go_meet
          exact ⟨rfl, HF.out⟩
        · skip
          simp only [List.getElem_toArray, List.getElem_cons_zero, List.getElem_cons_succ]
          obtain ⟨b4, hb4⟩ : ∃ g, t1_.heap.size = g := ⟨_, rfl⟩
          obtain ⟨t4_, hy⟩ : ∃ v, World.alloc t1_ (.cells #[.slice none 0 0, .slice none 0 0, .slice none 0 0, .slice none 0 0, .bool false] 38) = v := ⟨_, rfl⟩
          have hk : Keeps (fun _ => False) t1_ t4_ := by rw [← hy]; exact (Keeps.refl _ t1_).alloc _
          have ha4 : t4_.heap[b4]? = some (.cells #[.slice none 0 0, .slice none 0 0, .slice none 0 0, .slice none 0 0, .bool false] 38 (0, 0)) := by rw [← hy, ← hb4]; exact World.alloc_heap_new t1_ _
          have hl4 : wr.heap.size ≤ b4 := by rw [← hb4]; exact KV.out.size
          go_simp
          clear hy hb4
          replace RA := Lib.hid (RA.out.keep hk (fun _ _ _ h => h))
          replace KV := Lib.hid (KV.out.quiet hk)
          have A4 := Lib.hid ha4
          have L4 := Lib.hid hl4
          clear ha4 hl4
          refine hK _ _ (Or.inr (hHeld.quiet hk)) (fun hHeld => ?_)
          clear hK K
          replace hHeld := hHeld.resolve_left (by decide)
          try simp only [Act.put, List.setIfInBounds_toArray, List.set_cons_zero, List.set_cons_succ]
          clear hk
          refine z_one 10 rfl (by kernel_rfl) (by rfl) (fun K hK => ?_)
          simp only [List.getElem_toArray, List.getElem_cons_zero, List.getElem_cons_succ]
          have hw := HWZ.out t4_ KV.out RA.out
          go_simp
          refine hw.mono ?_
          have HSZ2 : Hid (wr.heap.size ≤ t4_.heap.size) := Lib.hid KV.out.size
          rintro e t5_ ⟨v1, rfl, hra, hk, hrg⟩
          obtain ⟨sn1, cn1, ss1, cs1, sa1, ca1, sb1, cb1, rfl, _⟩ := hra.rows
          clear hw
          replace RA := Lib.hid (RA.out.keep hk (fun _ _ _ h => h))
          replace A4 := Lib.hid ((hk.block b4 (lt_of_heap A4.out) (fun h => h)).trans A4.out)
          replace KV := Lib.hid (KV.out.quiet hk)
          have RV := Lib.hid (And.intro hra hrg)
          have KVR : Hid (wr.heap.size ≤ t4_.heap.size) := Lib.hid HSZ2.out
          clear hra hrg
          refine hK _ _ (Or.inr (hHeld.quiet hk)) (fun hHeld => ?_)
          clear hK K
          replace hHeld := hHeld.resolve_left (by decide)
          try simp only [Act.put, List.setIfInBounds_toArray, List.set_cons_zero, List.set_cons_succ]
          clear hk
          refine z_take 11 (v := ?_) rfl (by kernel_rfl) (by kernel_rfl) (by kernel_rfl) (by kernel_rfl) (fun _ _ _ h => h) hHeld (by rfl) (fun w hSw => ?_) ?_
          rotate_left
          · clear hSw; simp only [List.getElem_toArray, List.getElem_cons_zero, List.getElem_cons_succ]; go_simp; try rfl
          simp only [Act.put, List.getElem_toArray, List.getElem_cons_zero, List.getElem_cons_succ, List.setIfInBounds_toArray, List.set_cons_zero, List.set_cons_succ]
          refine z_take 12 (v := ?_) rfl (by kernel_rfl) (by kernel_rfl) (by kernel_rfl) (by kernel_rfl) (fun _ _ _ h => h) hHeld (by rfl) (fun w hSw => ?_) ?_
          rotate_left
          · clear hSw; simp only [List.getElem_toArray, List.getElem_cons_zero, List.getElem_cons_succ]; go_simp; try rfl
          simp only [Act.put, List.getElem_toArray, List.getElem_cons_zero, List.getElem_cons_succ, List.setIfInBounds_toArray, List.set_cons_zero, List.set_cons_succ]
          refine z_take 13 (v := ?_) rfl (by kernel_rfl) (by kernel_rfl) (by kernel_rfl) (by kernel_rfl) (fun _ _ _ h => h) hHeld (by rfl) (fun w hSw => ?_) ?_
          rotate_left
          · clear hSw; simp only [List.getElem_toArray, List.getElem_cons_zero, List.getElem_cons_succ]; go_simp; try rfl
          simp only [Act.put, List.getElem_toArray, List.getElem_cons_zero, List.getElem_cons_succ, List.setIfInBounds_toArray, List.set_cons_zero, List.set_cons_succ]
          have RVF := Lib.hid (ref_apart RV.out.1 A4.out)
          have j0 := cellAt A4.out 0
          have j1 := cellAt A4.out 1
          have j2 := cellAt A4.out 2
          have j3 := cellAt A4.out 3
          have j4 := cellAt A4.out 4
          have k0 := freeAt A4.out 0
          have k1 := freeAt A4.out 1
          have k2 := freeAt A4.out 2
          have k3 := freeAt A4.out 3
          have k4 := freeAt A4.out 4
          simp at j0 j1 j2 j3 j4
          refine z_one 15 rfl (by kernel_rfl) (by rfl) (fun K hK => ?_)
          simp only [List.getElem_toArray, List.getElem_cons_zero, List.getElem_cons_succ]
          have h5 := heap_five A4.out (.slice sn1 D1.now.length cn1) (.slice ss1 D1.sure.length cs1) (.slice sa1 D1.lo.length ca1) (.slice sb1 D1.lo.length cb1) (.bool D1.cr)
          have k5 := keeps_five t5_ b4 (.slice sn1 D1.now.length cn1) (.slice ss1 D1.sure.length cs1) (.slice sa1 D1.lo.length ca1) (.slice sb1 D1.lo.length cb1) (.bool D1.cr)
          have HF : Hid (RsW wr D1 #[.slice sn N cn, .slice ss ns cs, .slice sa na ca, .slice sb nb cb, .bool false] (.pointer (some ⟨b4, 0, none⟩)) (((((t5_.setCell ⟨b4, 0, none⟩ (.slice sn1 D1.now.length cn1)).setCell ⟨b4, 1, none⟩ (.slice ss1 D1.sure.length cs1)).setCell ⟨b4, 2, none⟩ (.slice sa1 D1.lo.length ca1)).setCell ⟨b4, 3, none⟩ (.slice sb1 D1.lo.length cb1)).setCell ⟨b4, 4, none⟩ (.bool D1.cr))) := Lib.hid ⟨b4, _, rfl, h5, RV.out.1.keep' k5 (RVF.out), fun G h1 h2 => RV.out.2 G h1 (fun j hj => h2 j (Nat.le_trans KVR.out hj)), KV.out.trans k5 (fun j hj e => by have := L4.out; have e' : j = b4 := e; omega), L4.out⟩
          have hS6 := Lib.hid (hHeld.trans k5 (fun j hj e => by have := L4.out; have h0 := HV0.out; have e' : j = b4 := e; omega))
          clear h5 k5
          generalize D1.now.length = l1_ at *
          generalize D1.sure.length = l2_ at *
          generalize D1.lo.length = l3_ at *
          generalize D1.cr = l4_ at *
          go_simp
          refine hK _ _ (Or.inr hS6.out) (fun hHeld => ?_)
          clear hK K
          replace hHeld := hS6.out
          clear hS6
          try simp only [Act.put, List.setIfInBounds_toArray, List.set_cons_zero, List.set_cons_succ]
          refine z_one 16 rfl (by kernel_rfl) (by rfl) (fun K hK => ?_)
          simp only [List.getElem_toArray, List.getElem_cons_zero, List.getElem_cons_succ]
          go_simp
          refine hK _ _ (Or.inr ?_) (fun hHeld => ?_)
          · exact hHeld
          clear hK K
          replace hHeld := hHeld.resolve_left (by decide)
          try simp only [Act.put, List.setIfInBounds_toArray, List.set_cons_zero, List.set_cons_succ]
          refine z_done (by kernel_rfl) ?_ _
          clear hHeld
          go_wp2_with fail
          go_meet
          exact ⟨rfl, HF.out⟩
      · skip
        simp only [List.getElem_toArray, List.getElem_cons_zero, List.getElem_cons_succ]
        obtain ⟨b4, hb4⟩ : ∃ g, v0.heap.size = g := ⟨_, rfl⟩
        obtain ⟨t6_, hy⟩ : ∃ v, World.alloc v0 (.cells #[.slice none 0 0, .slice none 0 0, .slice none 0 0, .slice none 0 0, .bool false] 38) = v := ⟨_, rfl⟩
        have hk : Keeps (fun _ => False) v0 t6_ := by rw [← hy]; exact (Keeps.refl _ v0).alloc _
        have ha4 : t6_.heap[b4]? = some (.cells #[.slice none 0 0, .slice none 0 0, .slice none 0 0, .slice none 0 0, .bool false] 38 (0, 0)) := by rw [← hy, ← hb4]; exact World.alloc_heap_new v0 _
        have hl4 : wr.heap.size ≤ b4 := by rw [← hb4]; exact KV.out.size
        go_simp
        clear hy hb4
        replace RA := Lib.hid (RA.out.keep hk (fun _ _ _ h => h))
        replace KV := Lib.hid (KV.out.quiet hk)
        have A4 := Lib.hid ha4
        have L4 := Lib.hid hl4
        clear ha4 hl4
        refine hK _ _ (Or.inr (hHeld.quiet hk)) (fun hHeld => ?_)
        clear hK K
        replace hHeld := hHeld.resolve_left (by decide)
        try simp only [Act.put, List.setIfInBounds_toArray, List.set_cons_zero, List.set_cons_succ]
        clear hk
        refine z_one 6 rfl (by kernel_rfl) (by rfl) (fun K hK => ?_)
        simp only [List.getElem_toArray, List.getElem_cons_zero, List.getElem_cons_succ]
        have hz := HSZ.out t6_
        go_simp
        refine hz.mono ?_
        rintro e t7_ ⟨rfl, hk⟩
        clear hz
        replace RA := Lib.hid (RA.out.keep hk (fun _ _ _ h => h))
        replace A4 := Lib.hid ((hk.block b4 (lt_of_heap A4.out) (fun h => h)).trans A4.out)
        replace KV := Lib.hid (KV.out.quiet hk)
        refine hK _ _ (Or.inr (hHeld.quiet hk)) (fun hHeld => ?_)
        clear hK K
        replace hHeld := hHeld.resolve_left (by decide)
        try simp only [Act.put, List.setIfInBounds_toArray, List.set_cons_zero, List.set_cons_succ]
        clear hk
        refine z_take 7 (v := ?_) rfl (by kernel_rfl) (by kernel_rfl) (by kernel_rfl) (by kernel_rfl) (fun _ _ _ h => h) hHeld (by rfl) (fun w hSw => ?_) ?_
        rotate_left
        · clear hSw; simp only [List.getElem_toArray, List.getElem_cons_zero, List.getElem_cons_succ]; go_simp; try rfl
        simp only [Act.put, List.getElem_toArray, List.getElem_cons_zero, List.getElem_cons_succ, List.setIfInBounds_toArray, List.set_cons_zero, List.set_cons_succ]
        refine z_take 8 (v := ?_) rfl (by kernel_rfl) (by kernel_rfl) (by kernel_rfl) (by kernel_rfl) (fun _ _ _ h => h) hHeld (by rfl) (fun w hSw => ?_) ?_
        rotate_left
        · clear hSw; simp only [List.getElem_toArray, List.getElem_cons_zero, List.getElem_cons_succ]; go_simp; try rfl
        simp only [Act.put, List.getElem_toArray, List.getElem_cons_zero, List.getElem_cons_succ, List.setIfInBounds_toArray, List.set_cons_zero, List.set_cons_succ]
        refine z_one 10 rfl (by kernel_rfl) (by rfl) (fun K hK => ?_)
        simp only [List.getElem_toArray, List.getElem_cons_zero, List.getElem_cons_succ]
        have hw := HWZ.out t7_ KV.out RA.out
        go_simp
        refine hw.mono ?_
        have HSZ2 : Hid (wr.heap.size ≤ t7_.heap.size) := Lib.hid KV.out.size
        rintro e t8_ ⟨v1, rfl, hra, hk, hrg⟩
        obtain ⟨sn1, cn1, ss1, cs1, sa1, ca1, sb1, cb1, rfl, _⟩ := hra.rows
        clear hw
        replace RA := Lib.hid (RA.out.keep hk (fun _ _ _ h => h))
        replace A4 := Lib.hid ((hk.block b4 (lt_of_heap A4.out) (fun h => h)).trans A4.out)
        replace KV := Lib.hid (KV.out.quiet hk)
        have RV := Lib.hid (And.intro hra hrg)
        have KVR : Hid (wr.heap.size ≤ t7_.heap.size) := Lib.hid HSZ2.out
        clear hra hrg
        refine hK _ _ (Or.inr (hHeld.quiet hk)) (fun hHeld => ?_)
        clear hK K
        replace hHeld := hHeld.resolve_left (by decide)
        try simp only [Act.put, List.setIfInBounds_toArray, List.set_cons_zero, List.set_cons_succ]
        clear hk
        refine z_take 11 (v := ?_) rfl (by kernel_rfl) (by kernel_rfl) (by kernel_rfl) (by kernel_rfl) (fun _ _ _ h => h) hHeld (by rfl) (fun w hSw => ?_) ?_
        rotate_left
        · clear hSw; simp only [List.getElem_toArray, List.getElem_cons_zero, List.getElem_cons_succ]; go_simp; try rfl
        simp only [Act.put, List.getElem_toArray, List.getElem_cons_zero, List.getElem_cons_succ, List.setIfInBounds_toArray, List.set_cons_zero, List.set_cons_succ]
        refine z_take 12 (v := ?_) rfl (by kernel_rfl) (by kernel_rfl) (by kernel_rfl) (by kernel_rfl) (fun _ _ _ h => h) hHeld (by rfl) (fun w hSw => ?_) ?_
        rotate_left
        · clear hSw; simp only [List.getElem_toArray, List.getElem_cons_zero, List.getElem_cons_succ]; go_simp; try rfl
        simp only [Act.put, List.getElem_toArray, List.getElem_cons_zero, List.getElem_cons_succ, List.setIfInBounds_toArray, List.set_cons_zero, List.set_cons_succ]
        refine z_take 13 (v := ?_) rfl (by kernel_rfl) (by kernel_rfl) (by kernel_rfl) (by kernel_rfl) (fun _ _ _ h => h) hHeld (by rfl) (fun w hSw => ?_) ?_
        rotate_left
        · clear hSw; simp only [List.getElem_toArray, List.getElem_cons_zero, List.getElem_cons_succ]; go_simp; try rfl
        simp only [Act.put, List.getElem_toArray, List.getElem_cons_zero, List.getElem_cons_succ, List.setIfInBounds_toArray, List.set_cons_zero, List.set_cons_succ]
        have RVF := Lib.hid (ref_apart RV.out.1 A4.out)
        have j0 := cellAt A4.out 0
        have j1 := cellAt A4.out 1
        have j2 := cellAt A4.out 2
        have j3 := cellAt A4.out 3
        have j4 := cellAt A4.out 4
        have k0 := freeAt A4.out 0
        have k1 := freeAt A4.out 1
        have k2 := freeAt A4.out 2
        have k3 := freeAt A4.out 3
        have k4 := freeAt A4.out 4
        simp at j0 j1 j2 j3 j4
        refine z_one 15 rfl (by kernel_rfl) (by rfl) (fun K hK => ?_)
        simp only [List.getElem_toArray, List.getElem_cons_zero, List.getElem_cons_succ]
        have h5 := heap_five A4.out (.slice sn1 D1.now.length cn1) (.slice ss1 D1.sure.length cs1) (.slice sa1 D1.lo.length ca1) (.slice sb1 D1.lo.length cb1) (.bool D1.cr)
        have k5 := keeps_five t8_ b4 (.slice sn1 D1.now.length cn1) (.slice ss1 D1.sure.length cs1) (.slice sa1 D1.lo.length ca1) (.slice sb1 D1.lo.length cb1) (.bool D1.cr)
        have HF : Hid (RsW wr D1 #[.slice sn N cn, .slice ss ns cs, .slice sa na ca, .slice sb nb cb, .bool false] (.pointer (some ⟨b4, 0, none⟩)) (((((t8_.setCell ⟨b4, 0, none⟩ (.slice sn1 D1.now.length cn1)).setCell ⟨b4, 1, none⟩ (.slice ss1 D1.sure.length cs1)).setCell ⟨b4, 2, none⟩ (.slice sa1 D1.lo.length ca1)).setCell ⟨b4, 3, none⟩ (.slice sb1 D1.lo.length cb1)).setCell ⟨b4, 4, none⟩ (.bool D1.cr))) := Lib.hid ⟨b4, _, rfl, h5, RV.out.1.keep' k5 (RVF.out), fun G h1 h2 => RV.out.2 G h1 (fun j hj => h2 j (Nat.le_trans KVR.out hj)), KV.out.trans k5 (fun j hj e => by have := L4.out; have e' : j = b4 := e; omega), L4.out⟩
        have hS6 := Lib.hid (hHeld.trans k5 (fun j hj e => by have := L4.out; have h0 := HV0.out; have e' : j = b4 := e; omega))
        clear h5 k5
        generalize D1.now.length = l1_ at *
        generalize D1.sure.length = l2_ at *
        generalize D1.lo.length = l3_ at *
        generalize D1.cr = l4_ at *
        go_simp
        refine hK _ _ (Or.inr hS6.out) (fun hHeld => ?_)
        clear hK K
        replace hHeld := hS6.out
        clear hS6
        try simp only [Act.put, List.setIfInBounds_toArray, List.set_cons_zero, List.set_cons_succ]
        refine z_one 16 rfl (by kernel_rfl) (by rfl) (fun K hK => ?_)
        simp only [List.getElem_toArray, List.getElem_cons_zero, List.getElem_cons_succ]
        go_simp
        refine hK _ _ (Or.inr ?_) (fun hHeld => ?_)
        · exact hHeld
        clear hK K
        replace hHeld := hHeld.resolve_left (by decide)
        try simp only [Act.put, List.setIfInBounds_toArray, List.set_cons_zero, List.set_cons_succ]
        refine z_done (by kernel_rfl) ?_ _
        clear hHeld
        go_wp2_with fail
        go_meet
        exact ⟨rfl, HF.out⟩
    case rest =>
      obtain ⟨rfl, b4, v1, rfl, h4, hra, hrg, hk5, hl4⟩ := hcut
      rename World => w5
      obtain ⟨sn1, cn1, ss1, cs1, sa1, ca1, sb1, cb1, rfl, _⟩ := hra.rows
      rw [HD1.out.1, HD1.out.2.1] at hra hrg h4
      obtain ⟨s1_, hs1_⟩ : ∃ n, D1.sure.length = n := ⟨_, rfl⟩
      obtain ⟨a1_, ha1_⟩ : ∃ n, D1.lo.length = n := ⟨_, rfl⟩
      rw [hs1_, ha1_] at hra hrg h4
      have HS := Lib.hid (refSync_any 0 D1 _ w5 hra HD1.out.1 (by rw [HD1.out.2.1]; exact HDD.out.2.2.2.1) (Nat.zero_le _))
      have HQ5 : Hid (w5.heap[b1]? = some (.cells #[.slice sn N cn, .slice ss ns cs, .slice sa na ca, .slice sb nb cb, .bool false, .int .i64 (half : Int), .int .i64 (used : Int), .slice sl nl cl, .int .i64 atr, .int .u64 (turn : Int), .slice sk nk ck] 41 (0, 0)) ∧ w5.heap[b2]? = some (.cells #[.slice none 0 0, .slice none 0 0, .slice none 0 0, .slice none 0 0, .bool false, .int .i64 0, .int .i64 0, .slice none 0 0, .int .i64 0, .int .u64 0, .slice none 0 0] 41 (0, 0)) ∧ w5.heap[b4]? = some (.cells #[.slice sn1 N cn1, .slice ss1 s1_ cs1, .slice sa1 a1_ ca1, .slice sb1 a1_ cb1, .bool false] 38 (0, 0))) := Lib.hid ⟨(hk5.block b1 (lt_of_heap HB1.out) (fun h => h)).trans HB1.out, (hk5.block b2 (lt_of_heap HB2R.out) (fun h => h)).trans HB2R.out, h4⟩
      have HK5 : Hid (Keeps (fun _ => False) w w5) := Lib.hid (HKR.out.quiet hk5)
      have HG1 := Lib.hid (And.intro hrg hk5.size)
      have HNE : Hid (b1 ≠ b4 ∧ b2 ≠ b4 ∧ b1 ≠ b2 ∧ w.heap.size ≤ b1 ∧ w.heap.size ≤ b4 ∧ w.heap.size ≤ b2) := Lib.hid (by have h1 := lt_of_heap HB1.out; have h2 := lt_of_heap HB2R.out; have h3 := HQ.out.2.2.1; omega)
      have q0 := cellAt h4 0
      have q1 := cellAt h4 1
      have q2 := cellAt h4 2
      have q3 := cellAt h4 3
      have q4 := cellAt h4 4
      simp at q0 q1 q2 q3 q4
      clear h4 hra hrg hk5 hl4 hs1_ ha1_ HO8 HRD HWZ m1 m2 m3 m4 i1
      apply_assumption
      go_wp2_with fail
      refine HS.out.mono ?_
      rintro e w6 ⟨v2, rfl, hra, hk, hrg⟩
      obtain ⟨sn2, cn2, ss2, cs2, sa2, ca2, sb2, cb2, rfl, _⟩ := hra.rows
      obtain ⟨D2, hD2⟩ : ∃ d, D1.sync = d := ⟨_, rfl⟩
      have HD2 : Hid (D2.cr = false ∧ D2.now.length = N ∧ D2.lo.length ≤ 700000 ∧ D1.sync = D2) := Lib.hid ⟨by rw [← hD2]; exact HD1.out.1, by rw [← hD2]; exact HD1.out.2.1, by rw [← hD2]; exact Nat.zero_le _, hD2⟩
      rw [hD2] at hra hrg ⊢
      rw [HD2.out.1, HD2.out.2.1] at hra hrg ⊢
      obtain ⟨s2_, hs2_⟩ : ∃ n, D2.sure.length = n := ⟨_, rfl⟩
      obtain ⟨a2_, ha2_⟩ : ∃ n, D2.lo.length = n := ⟨_, rfl⟩
      rw [hs2_, ha2_] at hra hrg ⊢
      have h46 := (hk.block b4 (lt_of_heap HQ5.out.2.2) (fun h => h)).trans HQ5.out.2.2
      have h16 := (hk.block b1 (lt_of_heap HQ5.out.1) (fun h => h)).trans HQ5.out.1
      have h26 := (hk.block b2 (lt_of_heap HQ5.out.2.1) (fun h => h)).trans HQ5.out.2.1
      have h43 := heap_five h46 (.slice sn2 N cn2) (.slice ss2 s2_ cs2) (.slice sa2 a2_ ca2) (.slice sb2 a2_ cb2) (.bool false)
      have k43 := keeps_five w6 b4 (.slice sn2 N cn2) (.slice ss2 s2_ cs2) (.slice sa2 a2_ ca2) (.slice sb2 a2_ cb2) (.bool false)
      obtain ⟨wx, hwx⟩ : ∃ v, (((((w6.setCell ⟨b4, 0, none⟩ (.slice sn2 N cn2)).setCell ⟨b4, 1, none⟩ (.slice ss2 s2_ cs2)).setCell ⟨b4, 2, none⟩ (.slice sa2 a2_ ca2)).setCell ⟨b4, 3, none⟩ (.slice sb2 a2_ cb2)).setCell ⟨b4, 4, none⟩ (.bool false)) = v := ⟨_, rfl⟩
      rw [hwx] at h43 k43
      have HR2 : Hid (RefAt wx 0 #[.slice sn2 N cn2, .slice ss2 s2_ cs2, .slice sa2 a2_ ca2, .slice sb2 a2_ cb2, .bool false] D2) := Lib.hid (hra.keep' k43 (ref_apart hra h46))
      have HH4 : Hid (wx.heap[b4]? = some (.cells #[.slice sn2 N cn2, .slice ss2 s2_ cs2, .slice sa2 a2_ ca2, .slice sb2 a2_ cb2, .bool false] 38 (0, 0))) := Lib.hid h43
      have HB2 : Hid (wx.heap[b1]? = some (.cells #[.slice sn N cn, .slice ss ns cs, .slice sa na ca, .slice sb nb cb, .bool false, .int .i64 (half : Int), .int .i64 (used : Int), .slice sl nl cl, .int .i64 atr, .int .u64 (turn : Int), .slice sk nk ck] 41 (0, 0))) := Lib.hid ((k43.block b1 (lt_of_heap h16) HNE.out.1).trans h16)
      have HZ2 : Hid (wx.heap[b2]? = some (.cells #[.slice none 0 0, .slice none 0 0, .slice none 0 0, .slice none 0 0, .bool false, .int .i64 0, .int .i64 0, .slice none 0 0, .int .i64 0, .int .u64 0, .slice none 0 0] 41 (0, 0))) := Lib.hid ((k43.block b2 (lt_of_heap h26) HNE.out.2.1).trans h26)
      have HKX : Hid (Keeps (fun _ => False) w wx) := Lib.hid ((HK5.out.quiet hk).trans k43 (fun j hj e => by have e' : j = b4 := e; have := HNE.out.2.2.2.2.1; omega))
      have HG2 := Lib.hid (And.intro (HG1.out.1.far hrg HG1.out.2) (Nat.le_trans HG1.out.2 (Nat.le_trans hk.size k43.size)))
      obtain ⟨D3, hD3⟩ : ∃ d, D2.zero az sz = d := ⟨_, rfl⟩
      have HD3 : Hid (D3.cr = false ∧ D3.now.length = N ∧ D2.zero az sz = D3) := Lib.hid ⟨by rw [← hD3]; exact HD2.out.1, by rw [← hD3, zero_len _ _ _ (by rw [HD2.out.2.1]; exact HNN.out.1.2)]; exact HD2.out.2.1, hD3⟩
      have HWZ2 : Hid (∀ (u : World) (gz : Nat), RefAt u 0 #[.slice sn2 N cn2, .slice ss2 s2_ cs2, .slice sa2 a2_ ca2, .slice sb2 a2_ cb2, .bool false] D2 → Sl u (some ⟨gz, 0, none⟩) sz sz (BV (List.replicate sz 0)) → Calls Try.prog 39 #[.agg #[.slice sn2 N cn2, .slice ss2 s2_ cs2, .slice sa2 a2_ ca2, .slice sb2 a2_ cb2, .bool false], .int .i64 (az : Int), .slice (some ⟨gz, 0, none⟩) sz sz] u fun e w' => ∃ v', e = .returned (.tuple #[.agg v', .int .i64 0]) ∧ RefAt w' 0 v' D3 ∧ Keeps (fun _ => False) u w' ∧ RGrow u #[.slice sn2 N cn2, .slice ss2 s2_ cs2, .slice sa2 a2_ ca2, .slice sb2 a2_ cb2, .bool false] v') := Lib.hid (fun u gz h hz => by
        have := refWrite_ok 0 az sz (List.replicate sz 0) (by simp) (some ⟨gz, 0, none⟩) gz 0 sz (fun _ => rfl) D2 _ u (fun j c hc => by have := hz.cell (j := j) (u := .int .u8 (c.toNat : Int)) (by rw [BV_get, hc]; rfl); exact this) h HD2.out.1 N HD2.out.2.1 HNN.out.1.2 HDD.out.2.2.2.1 (by have h1 := HNN.out.1.1; have h2 := HNN.out.2.2.1; omega) (by have := HD2.out.2.2.1; omega) (Nat.zero_le _)
        rw [← hD3]; exact this)
      obtain ⟨m1, m2, m3, m4, m5, m6⟩ := HM5.out
      have hszb : sz ≤ 65536 := by have h1 := HNN.out.1.1; have h2 := HDD.out.2.2.2.1; omega
      have p0 := cellAt h46 0
      have p1 := cellAt h46 1
      have p2 := cellAt h46 2
      have p3 := cellAt h46 3
      have p4 := cellAt h46 4
      have r0 := freeAt h46 0
      have r1 := freeAt h46 1
      have r2 := freeAt h46 2
      have r3 := freeAt h46 3
      have r4 := freeAt h46 4
      simp at p0 p1 p2 p3 p4
      clear hk hra hrg hD2 hs2_ ha2_ h46 h16 h26 h43 k43 hD3 HS q0 q1 q2 q3 q4
      go_wp2_with fail
      obtain ⟨v0, hdr⟩ : ∃ v, World.drew wx = v := ⟨_, rfl⟩
      have hk : Keeps (fun _ => False) wx v0 := by rw [← hdr]; exact (Keeps.refl _ _).drew
      refine y_begin (fun w' => Keeps (fun _ => False) (World.drew wx) w') 16 (by kernel_rfl) (Keeps.refl _ _) (fun hHeld => ?_)
      rw [hdr] at hHeld ⊢
      have RA := Lib.hid (HR2.out.keep hk (fun _ _ _ h => h))
      have A4 := Lib.hid ((hk.block b4 (lt_of_heap HH4.out) (fun h => h)).trans HH4.out)
      have HB := Lib.hid ((hk.block b1 (lt_of_heap HB2.out) (fun h => h)).trans HB2.out)
      have KV : Hid (Keeps (fun _ => False) wx v0) := Lib.hid hk
      clear hk hdr
      refine y_take 0 (v := ?_) rfl (by kernel_rfl) (by kernel_rfl) (by kernel_rfl) (by kernel_rfl) (fun _ _ _ h => h) hHeld (by rfl) (fun w hSw => ?_) ?_
      rotate_left
      · have hb := (hSw.block b4 (lt_of_heap A4.out) (fun h => h)).trans A4.out; have j0 := cellAt hb 0; have j1 := cellAt hb 1; have j2 := cellAt hb 2; have j3 := cellAt hb 3; have j4 := cellAt hb 4; simp at j0 j1 j2 j3 j4; clear hb; clear hSw; simp only [List.getElem_toArray, List.getElem_cons_zero]; go_simp; try rfl
      simp only [Act.put, List.getElem_toArray, List.getElem_cons_zero, List.setIfInBounds_toArray, List.set_cons_zero, List.set_cons_succ]
      refine y_take 1 (v := ?_) rfl (by kernel_rfl) (by kernel_rfl) (by kernel_rfl) (by kernel_rfl) (fun _ _ _ h => h) hHeld (by rfl) (fun w hSw => ?_) ?_
      rotate_left
      · clear hSw; simp only [List.getElem_toArray, List.getElem_cons_zero, List.getElem_cons_succ]; go_simp; try rfl
      simp only [Act.put, List.getElem_toArray, List.getElem_cons_zero, List.getElem_cons_succ, List.setIfInBounds_toArray, List.set_cons_zero, List.set_cons_succ]
      refine y_take 2 (v := ?_) rfl (by kernel_rfl) (by kernel_rfl) (by kernel_rfl) (by kernel_rfl) (fun _ _ _ h => h) hHeld (by rfl) (fun w hSw => ?_) ?_
      rotate_left
      · have hb := (hSw.block b1 (lt_of_heap HB.out) (fun h => h)).trans HB.out; have c5 := cellAt hb 5; simp at c5; clear hb; clear hSw; simp only [List.getElem_toArray, List.getElem_cons_zero, List.getElem_cons_succ]; go_simp; try rfl
      simp only [Act.put, List.getElem_toArray, List.getElem_cons_zero, List.getElem_cons_succ, List.setIfInBounds_toArray, List.set_cons_zero, List.set_cons_succ]
      refine y_take 3 (v := ?_) rfl (by kernel_rfl) (by kernel_rfl) (by kernel_rfl) (by kernel_rfl) (fun _ _ _ h => h) hHeld (by rfl) (fun w hSw => ?_) ?_
      rotate_left
      · clear hSw; simp only [List.getElem_toArray, List.getElem_cons_zero, List.getElem_cons_succ]; go_simp; try rfl
      simp only [Act.put, List.getElem_toArray, List.getElem_cons_zero, List.getElem_cons_succ, List.setIfInBounds_toArray, List.set_cons_zero, List.set_cons_succ]
      refine y_take 4 (v := ?_) rfl (by kernel_rfl) (by kernel_rfl) (by kernel_rfl) (by kernel_rfl) (fun _ _ _ h => h) hHeld (by rfl) (fun w hSw => ?_) ?_
      rotate_left
      · clear hSw; simp only [List.getElem_toArray, List.getElem_cons_zero, List.getElem_cons_succ]; go_simp; try rfl
      simp only [Act.put, List.getElem_toArray, List.getElem_cons_zero, List.getElem_cons_succ, List.setIfInBounds_toArray, List.set_cons_zero, List.set_cons_succ]
      refine y_take 5 (v := ?_) rfl (by kernel_rfl) (by kernel_rfl) (by kernel_rfl) (by kernel_rfl) (fun _ _ _ h => h) hHeld (by rfl) (fun w hSw => ?_) ?_
      rotate_left
      · have hb := (hSw.block b1 (lt_of_heap HB.out) (fun h => h)).trans HB.out; have c0 := cellAt hb 0; have c1 := cellAt hb 1; have c2 := cellAt hb 2; have c3 := cellAt hb 3; have c4 := cellAt hb 4; have c5 := cellAt hb 5; have c6 := cellAt hb 6; have c7 := cellAt hb 7; have c8 := cellAt hb 8; have c9 := cellAt hb 9; have c10 := cellAt hb 10; simp at c0 c1 c2 c3 c4 c5 c6 c7 c8 c9 c10; clear hb; clear hSw; simp only [List.getElem_toArray, List.getElem_cons_zero, List.getElem_cons_succ]; go_simp; try rfl
      simp only [Act.put, List.getElem_toArray, List.getElem_cons_zero, List.getElem_cons_succ, List.setIfInBounds_toArray, List.set_cons_zero, List.set_cons_succ]
      refine y_take 9 (v := ?_) rfl (by kernel_rfl) (by kernel_rfl) (by kernel_rfl) (by kernel_rfl) (fun _ _ _ h => h) hHeld (by rfl) (fun w hSw => ?_) ?_
      rotate_left
      · have hb := (hSw.block b1 (lt_of_heap HB.out) (fun h => h)).trans HB.out; have c0 := cellAt hb 0; have c1 := cellAt hb 1; have c2 := cellAt hb 2; have c3 := cellAt hb 3; have c4 := cellAt hb 4; have c5 := cellAt hb 5; have c6 := cellAt hb 6; have c7 := cellAt hb 7; have c8 := cellAt hb 8; have c9 := cellAt hb 9; have c10 := cellAt hb 10; simp at c0 c1 c2 c3 c4 c5 c6 c7 c8 c9 c10; clear hb; clear hSw; simp only [List.getElem_toArray, List.getElem_cons_zero, List.getElem_cons_succ]; go_simp; try rfl
      simp only [Act.put, List.getElem_toArray, List.getElem_cons_zero, List.getElem_cons_succ, List.setIfInBounds_toArray, List.set_cons_zero, List.set_cons_succ]
      refine y_one 6 rfl (by kernel_rfl) (by rfl) (fun K hK => ?_)
      simp only [List.getElem_toArray, List.getElem_cons_zero, List.getElem_cons_succ]
      have hz := HSZ.out v0
      go_simp
      refine hz.mono ?_
      rintro e t1_ ⟨rfl, hk⟩
      clear hz
      replace RA := Lib.hid (RA.out.keep hk (fun _ _ _ h => h))
      replace A4 := Lib.hid ((hk.block b4 (lt_of_heap A4.out) (fun h => h)).trans A4.out)
      replace KV := Lib.hid (KV.out.quiet hk)
      refine hK _ _ (hHeld.quiet hk) (fun hHeld => ?_)
      clear hK K
      try simp only [Act.put, List.setIfInBounds_toArray, List.set_cons_zero, List.set_cons_succ]
      clear hk
      refine y_take 7 (v := ?_) rfl (by kernel_rfl) (by kernel_rfl) (by kernel_rfl) (by kernel_rfl) (fun _ _ _ h => h) hHeld (by rfl) (fun w hSw => ?_) ?_
      rotate_left
      · clear hSw; simp only [List.getElem_toArray, List.getElem_cons_zero, List.getElem_cons_succ]; go_simp; try rfl
      simp only [Act.put, List.getElem_toArray, List.getElem_cons_zero, List.getElem_cons_succ, List.setIfInBounds_toArray, List.set_cons_zero, List.set_cons_succ]
      refine y_take 8 (v := ?_) rfl (by kernel_rfl) (by kernel_rfl) (by kernel_rfl) (by kernel_rfl) (fun _ _ _ h => h) hHeld (by rfl) (fun w hSw => ?_) ?_
      rotate_left
      · clear hSw; simp only [List.getElem_toArray, List.getElem_cons_zero, List.getElem_cons_succ]; go_simp; try rfl
      simp only [Act.put, List.getElem_toArray, List.getElem_cons_zero, List.getElem_cons_succ, List.setIfInBounds_toArray, List.set_cons_zero, List.set_cons_succ]
      refine y_one 10 rfl (by kernel_rfl) (by rfl) (fun K hK => ?_)
      simp only [List.getElem_toArray, List.getElem_cons_zero, List.getElem_cons_succ]
      have hz := HSZ.out t1_
      go_simp
      refine hz.mono ?_
      rintro e t2_ ⟨rfl, hk⟩
      clear hz
      replace RA := Lib.hid (RA.out.keep hk (fun _ _ _ h => h))
      replace A4 := Lib.hid ((hk.block b4 (lt_of_heap A4.out) (fun h => h)).trans A4.out)
      replace KV := Lib.hid (KV.out.quiet hk)
      refine hK _ _ (hHeld.quiet hk) (fun hHeld => ?_)
      clear hK K
      try simp only [Act.put, List.setIfInBounds_toArray, List.set_cons_zero, List.set_cons_succ]
      clear hk
      refine y_one 11 rfl (by kernel_rfl) (by rfl) (fun K hK => ?_)
      simp only [List.getElem_toArray, List.getElem_cons_zero, List.getElem_cons_succ]
      have cv := run_mk sz (by omega) t2_
      have hom := owns_made t2_ sz (by omega)
      obtain ⟨gz, hgz⟩ : ∃ g, t2_.heap.size = g := ⟨_, rfl⟩
      obtain ⟨t3_, hy⟩ : ∃ v, World.alloc t2_ (.cells (madeCells #[.int .u8 0] sz) 5) = v := ⟨_, rfl⟩
      have hk : Keeps (fun _ => False) t2_ t3_ := by rw [← hy]; exact (Keeps.refl _ t2_).alloc _
      rw [hy, hgz] at cv hom
      go_simp
      clear cv hgz hy
      replace RA := Lib.hid (RA.out.keep hk (fun _ _ _ h => h))
      replace A4 := Lib.hid ((hk.block b4 (lt_of_heap A4.out) (fun h => h)).trans A4.out)
      replace KV := Lib.hid (KV.out.quiet hk)
      have ZS := Lib.hid (Sl.of_own hom)
      clear hom
      refine hK _ _ (hHeld.quiet hk) (fun hHeld => ?_)
      clear hK K
      try simp only [Act.put, List.setIfInBounds_toArray, List.set_cons_zero, List.set_cons_succ]
      clear hk
      refine y_one 12 rfl (by kernel_rfl) (by rfl) (fun K hK => ?_)
      simp only [List.getElem_toArray, List.getElem_cons_zero, List.getElem_cons_succ]
      have hw := HWZ2.out t3_ gz RA.out ZS.out
      go_simp
      refine hw.mono ?_
      rintro e t4_ ⟨v3, rfl, hra, hk, hrg⟩
      obtain ⟨sn3, cn3, ss3, cs3, sa3, ca3, sb3, cb3, rfl, _⟩ := hra.rows
      rw [HD3.out.1, HD3.out.2.1] at hra hrg ⊢
      obtain ⟨s3_, hs3_⟩ : ∃ n, D3.sure.length = n := ⟨_, rfl⟩
      obtain ⟨a3_, ha3_⟩ : ∃ n, D3.lo.length = n := ⟨_, rfl⟩
      rw [hs3_, ha3_] at hra hrg ⊢
      clear hw hs3_ ha3_
      have HSZ3 : Hid (wx.heap.size ≤ t3_.heap.size) := Lib.hid KV.out.size
      replace RA := Lib.hid (RA.out.keep hk (fun _ _ _ h => h))
      replace A4 := Lib.hid ((hk.block b4 (lt_of_heap A4.out) (fun h => h)).trans A4.out)
      replace KV := Lib.hid (KV.out.quiet hk)
      replace ZS := Lib.hid (ZS.out.quiet hk)
      have RV := Lib.hid (And.intro hra hrg)
      clear hra hrg
      refine hK _ _ (hHeld.quiet hk) (fun hHeld => ?_)
      clear hK K
      try simp only [Act.put, List.setIfInBounds_toArray, List.set_cons_zero, List.set_cons_succ]
      clear hk
      refine y_take 13 (v := ?_) rfl (by kernel_rfl) (by kernel_rfl) (by kernel_rfl) (by kernel_rfl) (fun _ _ _ h => h) hHeld (by rfl) (fun w hSw => ?_) ?_
      rotate_left
      · clear hSw; simp only [List.getElem_toArray, List.getElem_cons_zero, List.getElem_cons_succ]; go_simp; try rfl
      simp only [Act.put, List.getElem_toArray, List.getElem_cons_zero, List.getElem_cons_succ, List.setIfInBounds_toArray, List.set_cons_zero, List.set_cons_succ]
      refine y_take 14 (v := ?_) rfl (by kernel_rfl) (by kernel_rfl) (by kernel_rfl) (by kernel_rfl) (fun _ _ _ h => h) hHeld (by rfl) (fun w hSw => ?_) ?_
      rotate_left
      · clear hSw; simp only [List.getElem_toArray, List.getElem_cons_zero, List.getElem_cons_succ]; go_simp; try rfl
      simp only [Act.put, List.getElem_toArray, List.getElem_cons_zero, List.getElem_cons_succ, List.setIfInBounds_toArray, List.set_cons_zero, List.set_cons_succ]
      refine y_pure 15 (v := ?_) rfl (by kernel_rfl) (by kernel_rfl) (by kernel_rfl) (by kernel_rfl) (fun _ _ _ h => h) hHeld (by rfl) (fun w => ?_) ?_
      rotate_left
      · simp only [List.getElem_toArray, List.getElem_cons_zero, List.getElem_cons_succ]; go_simp; try rfl
      simp only [Act.put, List.getElem_toArray, List.getElem_cons_zero, List.getElem_cons_succ, List.setIfInBounds_toArray, List.set_cons_zero, List.set_cons_succ]
      have j0 := cellAt A4.out 0
      have j1 := cellAt A4.out 1
      have j2 := cellAt A4.out 2
      have j3 := cellAt A4.out 3
      have j4 := cellAt A4.out 4
      have k0 := freeAt A4.out 0
      have k1 := freeAt A4.out 1
      have k2 := freeAt A4.out 2
      have k3 := freeAt A4.out 3
      have k4 := freeAt A4.out 4
      simp at j0 j1 j2 j3 j4
      refine y_last 16 rfl (by kernel_rfl) (by rfl) (by kernel_rfl) (fun K hK => ?_)
      simp only [List.getElem_toArray, List.getElem_cons_zero, List.getElem_cons_succ]
      have h5 := heap_five A4.out (.slice sn3 N cn3) (.slice ss3 s3_ cs3) (.slice sa3 a3_ ca3) (.slice sb3 a3_ cb3) (.bool false)
      have k5 := keeps_five t4_ b4 (.slice sn3 N cn3) (.slice ss3 s3_ cs3) (.slice sa3 a3_ ca3) (.slice sb3 a3_ cb3) (.bool false)
      have RVF := ref_apart RV.out.1 A4.out
      have HF : Hid (RefAt (((((t4_.setCell ⟨b4, 0, none⟩ (.slice sn3 N cn3)).setCell ⟨b4, 1, none⟩ (.slice ss3 s3_ cs3)).setCell ⟨b4, 2, none⟩ (.slice sa3 a3_ ca3)).setCell ⟨b4, 3, none⟩ (.slice sb3 a3_ cb3)).setCell ⟨b4, 4, none⟩ (.bool false)) 0 #[.slice sn3 N cn3, .slice ss3 s3_ cs3, .slice sa3 a3_ ca3, .slice sb3 a3_ cb3, .bool false] D3 ∧ (((((t4_.setCell ⟨b4, 0, none⟩ (.slice sn3 N cn3)).setCell ⟨b4, 1, none⟩ (.slice ss3 s3_ cs3)).setCell ⟨b4, 2, none⟩ (.slice sa3 a3_ ca3)).setCell ⟨b4, 3, none⟩ (.slice sb3 a3_ cb3)).setCell ⟨b4, 4, none⟩ (.bool false)).heap[b4]? = some (.cells #[.slice sn3 N cn3, .slice ss3 s3_ cs3, .slice sa3 a3_ ca3, .slice sb3 a3_ cb3, .bool false] 38 (0, 0)) ∧ RGrow wx #[.slice sn2 N cn2, .slice ss2 s2_ cs2, .slice sa2 a2_ ca2, .slice sb2 a2_ cb2, .bool false] #[.slice sn3 N cn3, .slice ss3 s3_ cs3, .slice sa3 a3_ ca3, .slice sb3 a3_ cb3, .bool false] ∧ Keeps (fun j => j = b4) wx (((((t4_.setCell ⟨b4, 0, none⟩ (.slice sn3 N cn3)).setCell ⟨b4, 1, none⟩ (.slice ss3 s3_ cs3)).setCell ⟨b4, 2, none⟩ (.slice sa3 a3_ ca3)).setCell ⟨b4, 3, none⟩ (.slice sb3 a3_ cb3)).setCell ⟨b4, 4, none⟩ (.bool false))) := Lib.hid ⟨RV.out.1.keep' k5 RVF, h5, fun G h1 h2 => RV.out.2 G h1 (fun j hj => h2 j (Nat.le_trans HSZ3.out hj)), (KV.out.mono (fun _ _ h => h.elim)).trans k5 (fun j _ e => e)⟩
      obtain ⟨w7, hw7⟩ : ∃ v, (((((t4_.setCell ⟨b4, 0, none⟩ (.slice sn3 N cn3)).setCell ⟨b4, 1, none⟩ (.slice ss3 s3_ cs3)).setCell ⟨b4, 2, none⟩ (.slice sa3 a3_ ca3)).setCell ⟨b4, 3, none⟩ (.slice sb3 a3_ cb3)).setCell ⟨b4, 4, none⟩ (.bool false)) = v := ⟨_, rfl⟩
      rw [hw7] at HF
      clear hHeld h5 k5 RVF
      go_simp
      refine hK _ _ ?_
      clear hK K
      try simp only [Act.put, List.setIfInBounds_toArray, List.set_cons_zero, List.set_cons_succ]
      refine y_done (by kernel_rfl) ?_ _
      clear hw7 j0 j1 j2 j3 j4 k0 k1 k2 k3 k4
      have HS3 := Lib.hid (refSync_any 0 D3 _ w7 HF.out.1 HD3.out.1 (by rw [HD3.out.2.1]; exact HDD.out.2.2.2.1) (Nat.zero_le _))
      have HQ7 : Hid (w7.heap[b1]? = some (.cells #[.slice sn N cn, .slice ss ns cs, .slice sa na ca, .slice sb nb cb, .bool false, .int .i64 (half : Int), .int .i64 (used : Int), .slice sl nl cl, .int .i64 atr, .int .u64 (turn : Int), .slice sk nk ck] 41 (0, 0)) ∧ w7.heap[b2]? = some (.cells #[.slice none 0 0, .slice none 0 0, .slice none 0 0, .slice none 0 0, .bool false, .int .i64 0, .int .i64 0, .slice none 0 0, .int .i64 0, .int .u64 0, .slice none 0 0] 41 (0, 0))) := Lib.hid ⟨(HF.out.2.2.2.block b1 (lt_of_heap HB2.out) HNE.out.1).trans HB2.out, (HF.out.2.2.2.block b2 (lt_of_heap HZ2.out) HNE.out.2.1).trans HZ2.out⟩
      have HK7 : Hid (Keeps (fun _ => False) w w7) := Lib.hid (HKX.out.trans HF.out.2.2.2 (fun j hj e => by have e' : j = b4 := e; have := HNE.out.2.2.2.2.1; omega))
      have j0 := cellAt HF.out.2.1 0
      have j1 := cellAt HF.out.2.1 1
      have j2 := cellAt HF.out.2.1 2
      have j3 := cellAt HF.out.2.1 3
      have j4 := cellAt HF.out.2.1 4
      simp at j0 j1 j2 j3 j4
      clear m1 m2 m3 m4 m5 m6 HWZ2
      go_wp2_with fail
      refine HS3.out.mono ?_
      rintro e w8 ⟨v4, rfl, hra, hk, hrg⟩
      obtain ⟨sn4, cn4, ss4, cs4, sa4, ca4, sb4, cb4, rfl, _⟩ := hra.rows
      obtain ⟨D4, hD4⟩ : ∃ d, D3.sync = d := ⟨_, rfl⟩
      have hcr4 : D4.cr = false := by rw [← hD4]; exact HD3.out.1
      have hln4 : D4.now.length = N := by rw [← hD4]; exact HD3.out.2.1
      rw [hD4] at hra hrg ⊢
      rw [hcr4, hln4] at hra hrg ⊢
      obtain ⟨s4_, hs4_⟩ : ∃ n, D4.sure.length = n := ⟨_, rfl⟩
      obtain ⟨a4_, ha4_⟩ : ∃ n, D4.lo.length = n := ⟨_, rfl⟩
      rw [hs4_, ha4_] at hra hrg ⊢
      have h48 := (hk.block b4 (lt_of_heap HF.out.2.1) (fun h => h)).trans HF.out.2.1
      have h18 := (hk.block b1 (lt_of_heap HQ7.out.1) (fun h => h)).trans HQ7.out.1
      have h28 := (hk.block b2 (lt_of_heap HQ7.out.2) (fun h => h)).trans HQ7.out.2
      have h49 := heap_five h48 (.slice sn4 N cn4) (.slice ss4 s4_ cs4) (.slice sa4 a4_ ca4) (.slice sb4 a4_ cb4) (.bool false)
      have k49 := keeps_five w8 b4 (.slice sn4 N cn4) (.slice ss4 s4_ cs4) (.slice sa4 a4_ ca4) (.slice sb4 a4_ cb4) (.bool false)
      obtain ⟨y8, hy8⟩ : ∃ v, (((((w8.setCell ⟨b4, 0, none⟩ (.slice sn4 N cn4)).setCell ⟨b4, 1, none⟩ (.slice ss4 s4_ cs4)).setCell ⟨b4, 2, none⟩ (.slice sa4 a4_ ca4)).setCell ⟨b4, 3, none⟩ (.slice sb4 a4_ cb4)).setCell ⟨b4, 4, none⟩ (.bool false)) = v := ⟨_, rfl⟩
      rw [hy8] at h49 k49
      have h19 := (k49.block b1 (lt_of_heap h18) HNE.out.1).trans h18
      have h29 := (k49.block b2 (lt_of_heap h28) HNE.out.2.1).trans h28
      have h1a := heap_five11 h19 (.slice sn4 N cn4) (.slice ss4 s4_ cs4) (.slice sa4 a4_ ca4) (.slice sb4 a4_ cb4) (.bool false)
      have k1a := keeps_five y8 b1 (.slice sn4 N cn4) (.slice ss4 s4_ cs4) (.slice sa4 a4_ ca4) (.slice sb4 a4_ cb4) (.bool false)
      obtain ⟨y9, hy9⟩ : ∃ v, (((((y8.setCell ⟨b1, 0, none⟩ (.slice sn4 N cn4)).setCell ⟨b1, 1, none⟩ (.slice ss4 s4_ cs4)).setCell ⟨b1, 2, none⟩ (.slice sa4 a4_ ca4)).setCell ⟨b1, 3, none⟩ (.slice sb4 a4_ cb4)).setCell ⟨b1, 4, none⟩ (.bool false)) = v := ⟨_, rfl⟩
      rw [hy9] at h1a k1a
      obtain ⟨y10, hy10⟩ : ∃ v, y9.setCell ⟨b1, 8, none⟩ (.int .i64 (tt : Int)) = v := ⟨_, rfl⟩
      have h1b : y10.heap[b1]? = some (.cells #[.slice sn4 N cn4, .slice ss4 s4_ cs4, .slice sa4 a4_ ca4, .slice sb4 a4_ cb4, .bool false, .int .i64 (half : Int), .int .i64 (used : Int), .slice sl nl cl, .int .i64 (tt : Int), .int .u64 (turn : Int), .slice sk nk ck] 41 (0, 0)) := by rw [← hy10, heap_setCell_at h1a]; rfl
      obtain ⟨y11, hy11⟩ : ∃ v, y10.setCell ⟨b1, 9, none⟩ (.int .u64 (t2 : Int)) = v := ⟨_, rfl⟩
      have h1c : y11.heap[b1]? = some (.cells #[.slice sn4 N cn4, .slice ss4 s4_ cs4, .slice sa4 a4_ ca4, .slice sb4 a4_ cb4, .bool false, .int .i64 (half : Int), .int .i64 (used : Int), .slice sl nl cl, .int .i64 (tt : Int), .int .u64 (t2 : Int), .slice sk nk ck] 41 (0, 0)) := by rw [← hy11, heap_setCell_at h1b]; rfl
      obtain ⟨y12, hy12⟩ : ∃ v, y11.setCell ⟨b1, 10, none⟩ (.slice sx nx cx) = v := ⟨_, rfl⟩
      have h1d : y12.heap[b1]? = some (.cells #[.slice sn4 N cn4, .slice ss4 s4_ cs4, .slice sa4 a4_ ca4, .slice sb4 a4_ cb4, .bool false, .int .i64 (half : Int), .int .i64 (used : Int), .slice sl nl cl, .int .i64 (tt : Int), .int .u64 (t2 : Int), .slice sx nx cx] 41 (0, 0)) := by rw [← hy12, heap_setCell_at h1c]; rfl
      have kbd : Keeps (fun j => j = b1) y9 y12 := by rw [← hy12, ← hy11, ← hy10]; exact (((Keeps.refl (fun j => j = b1) y9).setCell (p := ⟨b1, 8, none⟩) (fun _ => rfl) _).setCell (p := ⟨b1, 9, none⟩) (fun _ => rfl) _).setCell (p := ⟨b1, 10, none⟩) (fun _ => rfl) _
      have k1d : Keeps (fun j => j = b1) y8 y12 := k1a.trans kbd (fun j _ e => e)
      have h2d := (k1d.block b2 (lt_of_heap h29) (Ne.symm HNE.out.2.2.1)).trans h29
      have h2x := heap_eleven h2d (.slice sn4 N cn4) (.slice ss4 s4_ cs4) (.slice sa4 a4_ ca4) (.slice sb4 a4_ cb4) (.bool false) (.int .i64 (half : Int)) (.int .i64 (used : Int)) (.slice sl nl cl) (.int .i64 (tt : Int)) (.int .u64 (t2 : Int)) (.slice sx nx cx)
      have k2x := keeps_eleven y12 b2 (.slice sn4 N cn4) (.slice ss4 s4_ cs4) (.slice sa4 a4_ ca4) (.slice sb4 a4_ cb4) (.bool false) (.int .i64 (half : Int)) (.int .i64 (used : Int)) (.slice sl nl cl) (.int .i64 (tt : Int)) (.int .u64 (t2 : Int)) (.slice sx nx cx)
      obtain ⟨x1, hx1⟩ : ∃ v, (((((((((((y12.setCell ⟨b2, 0, none⟩ (.slice sn4 N cn4)).setCell ⟨b2, 1, none⟩ (.slice ss4 s4_ cs4)).setCell ⟨b2, 2, none⟩ (.slice sa4 a4_ ca4)).setCell ⟨b2, 3, none⟩ (.slice sb4 a4_ cb4)).setCell ⟨b2, 4, none⟩ (.bool false)).setCell ⟨b2, 5, none⟩ (.int .i64 (half : Int))).setCell ⟨b2, 6, none⟩ (.int .i64 (used : Int))).setCell ⟨b2, 7, none⟩ (.slice sl nl cl)).setCell ⟨b2, 8, none⟩ (.int .i64 (tt : Int))).setCell ⟨b2, 9, none⟩ (.int .u64 (t2 : Int))).setCell ⟨b2, 10, none⟩ (.slice sx nx cx)) = v := ⟨_, rfl⟩
      rw [hx1] at h2x k2x
      have k8x : Keeps (fun j => j = b4 ∨ j = b1 ∨ j = b2) w8 x1 := ((k49.mono (fun _ _ e => Or.inl e)).trans k1d (fun j _ e => Or.inr (Or.inl e))).trans k2x (fun j _ e => Or.inr (Or.inr e))
      have hww : Keeps (fun _ => False) w x1 := (HK7.out.quiet hk).trans k8x (fun j hj e => by have e' : j = b4 ∨ j = b1 ∨ j = b2 := e; have := HNE.out; omega)
      have hfin : ActPost w #[.slice sn N cn, .slice ss ns cs, .slice sa na ca, .slice sb nb cb, .bool false] D4 (fun _ => [.int .i64 (half : Int), .int .i64 (used : Int), .slice sl nl cl, .int .i64 (tt : Int), .int .u64 (t2 : Int), .slice sx nx cx]) (fun _ _ => True) (.returned (.tuple #[.agg #[.slice sn4 N cn4, .slice ss4 s4_ cs4, .slice sa4 a4_ ca4, .slice sb4 a4_ cb4, .bool false, .int .i64 (half : Int), .int .i64 (used : Int), .slice sl nl cl, .int .i64 (tt : Int), .int .u64 (t2 : Int), .slice sx nx cx], .int .i64 0])) x1 :=
        ⟨#[.slice sn4 N cn4, .slice ss4 s4_ cs4, .slice sa4 a4_ ca4, .slice sb4 a4_ cb4, .bool false], .bool false, rfl, hra.keep' k8x (fun s hs j e a => a.elim (ref_apart hra h48 s hs j e) (fun a => a.elim (ref_apartS hra h18 s hs j e) (ref_apartS hra h28 s hs j e))), RGrow.rfl'.far ((HG2.out.1.far HF.out.2.2.1 HG2.out.2).far hrg (Nat.le_trans HG2.out.2 HF.out.2.2.2.size)) HKR.out.size, trivial, hww⟩
      have HFIN := Lib.hid hfin
      have HD4 := Lib.hid hD4
      have p0 := cellAt h48 0
      have p1 := cellAt h48 1
      have p2 := cellAt h48 2
      have p3 := cellAt h48 3
      have p4 := cellAt h48 4
      have r0 := freeAt h48 0
      have r1 := freeAt h48 1
      have r2 := freeAt h48 2
      have r3 := freeAt h48 3
      have r4 := freeAt h48 4
      simp at p0 p1 p2 p3 p4
      have g0 := cellAt h49 0
      have g1 := cellAt h49 1
      have g2 := cellAt h49 2
      have g3 := cellAt h49 3
      have g4 := cellAt h49 4
      simp at g0 g1 g2 g3 g4
      have d0 := cellAt h19 0
      have d1 := cellAt h19 1
      have d2 := cellAt h19 2
      have d3 := cellAt h19 3
      have d4 := cellAt h19 4
      have f0 := freeAt h19 0
      have f1 := freeAt h19 1
      have f2 := freeAt h19 2
      have f3 := freeAt h19 3
      have f4 := freeAt h19 4
      simp at d0 d1 d2 d3 d4
      have e8 := cellAt h1a 8
      have ef8 := freeAt h1a 8
      simp at e8
      have e9 := cellAt h1b 9
      have ef9 := freeAt h1b 9
      simp at e9
      have e10 := cellAt h1c 10
      have ef10 := freeAt h1c 10
      simp at e10
      have c0 := cellAt h1d 0
      have c1 := cellAt h1d 1
      have c2 := cellAt h1d 2
      have c3 := cellAt h1d 3
      have c4 := cellAt h1d 4
      have c5 := cellAt h1d 5
      have c6 := cellAt h1d 6
      have c7 := cellAt h1d 7
      have c8 := cellAt h1d 8
      have c9 := cellAt h1d 9
      have c10 := cellAt h1d 10
      simp at c0 c1 c2 c3 c4 c5 c6 c7 c8 c9 c10
      have z0 := cellAt h2d 0
      have z1 := cellAt h2d 1
      have z2 := cellAt h2d 2
      have z3 := cellAt h2d 3
      have z4 := cellAt h2d 4
      have z5 := cellAt h2d 5
      have z6 := cellAt h2d 6
      have z7 := cellAt h2d 7
      have z8 := cellAt h2d 8
      have z9 := cellAt h2d 9
      have z10 := cellAt h2d 10
      have fz0 := freeAt h2d 0
      have fz1 := freeAt h2d 1
      have fz2 := freeAt h2d 2
      have fz3 := freeAt h2d 3
      have fz4 := freeAt h2d 4
      have fz5 := freeAt h2d 5
      have fz6 := freeAt h2d 6
      have fz7 := freeAt h2d 7
      have fz8 := freeAt h2d 8
      have fz9 := freeAt h2d 9
      have fz10 := freeAt h2d 10
      simp at z0 z1 z2 z3 z4 z5 z6 z7 z8 z9 z10
      have n0 := cellAt h2x 0
      have n1 := cellAt h2x 1
      have n2 := cellAt h2x 2
      have n3 := cellAt h2x 3
      have n4 := cellAt h2x 4
      have n5 := cellAt h2x 5
      have n6 := cellAt h2x 6
      have n7 := cellAt h2x 7
      have n8 := cellAt h2x 8
      have n9 := cellAt h2x 9
      have n10 := cellAt h2x 10
      simp at n0 n1 n2 n3 n4 n5 n6 n7 n8 n9 n10
      clear hk hra hrg hcr4 hln4 hs4_ ha4_ hD4 h48 h18 h28 h49 k49 h19 h29 h1a k1a h1b h1c h1d kbd k1d h2d h2x k2x k8x hww hfin HS3
      go_wp2
      refine bodyPost_ret (v := .tuple #[.agg #[.slice sn4 N cn4, .slice ss4 s4_ cs4, .slice sa4 a4_ ca4, .slice sb4 a4_ cb4, .bool false, .int .i64 (half : Int), .int .i64 (used : Int), .slice sl nl cl, .int .i64 (tt : Int), .int .u64 (t2 : Int), .slice sx nx cx], .int .i64 0]) (by simp [results, Try.results33, go_sem, n0, n1, n2, n3, n4, n5, n6, n7, n8, n9, n10]) rfl ?_
      rw [HD1.out.2.2.2, HD2.out.2.2.2, HD3.out.2.2, HD4.out]
      exact HFIN.out
set_option maxHeartbeats 40000000 in
set_option maxRecDepth 10000 in
theorem refSet_full (sn ss sa sb sl sk sx : Option Addr) (N cn ns cs na ca nb cb nl cl nk ck nx cx half used turn tt sz : Nat) (atr : Int) (x : List UInt8) (w : World) (hN2 : N ≤ 65536) (hhN : half ≤ N) (hsz : (N - half) / 2 = sz)
    (hx : Sl w sx nx cx (BV x)) (hn : nx ≤ 65536) (hnx : sz < nx + 14) (hto : (atr = 2 ∧ tt = 0) ∨ (atr = 0 ∧ tt = 1) ∨ (atr = 1 ∧ tt = 0)) (htn : turn + 1 ≤ 10000000000) :
    Calls Try.prog 33 #[.agg #[.slice sn N cn, .slice ss ns cs, .slice sa na ca, .slice sb nb cb, .bool false, .int .i64 (half : Int), .int .i64 (used : Int), .slice sl nl cl, .int .i64 atr, .int .u64 (turn : Int), .slice sk nk ck], .slice sx nx cx] w fun e w' => e = .returned (.tuple #[.agg #[.slice sn N cn, .slice ss ns cs, .slice sa na ca, .slice sb nb cb, .bool false, .int .i64 (half : Int), .int .i64 (used : Int), .slice sl nl cl, .int .i64 atr, .int .u64 (turn : Int), .slice sk nk ck], .int .i64 3]) ∧ Keeps (fun _ => False) w w' := by
  have HSZ : Hid (∀ u : World, Calls Try.prog 40 #[.agg #[.slice sn N cn, .slice ss ns cs, .slice sa na ca, .slice sb nb cb, .bool false, .int .i64 (half : Int), .int .i64 (used : Int), .slice sl nl cl, .int .i64 atr, .int .u64 (turn : Int), .slice sk nk ck]] u fun e w' => e = .returned (.int .i64 (sz : Int)) ∧ Keeps (fun _ => False) u w') := Lib.hid (fun u => by
    have := refSize_any sn N cn half (.slice ss ns cs) (.slice sa na ca) (.slice sb nb cb) (.bool false) (.int .i64 (used : Int)) (.slice sl nl cl) (.int .i64 atr) (.int .u64 (turn : Int)) (.slice sk nk ck) u (by omega) hhN
    rwa [hsz] at this)
  obtain ⟨t2, ht2⟩ : ∃ t, turn + 1 = t := ⟨_, rfl⟩
  have g1 : (turn : Int) + 1 = (t2 : Int) := by omega
  have g2 : IntKind.u64.wrap (t2 : Int) = (t2 : Int) := wrap_nat _ _ rfl (by omega)
  have HKF : Hid (∀ u : World, Keeps (fun _ => False) w u → Calls Try.prog 17 #[.int .u64 (t2 : Int), .slice sx nx cx] u fun e w' => ∃ sb cb, e = .returned (.slice sb (nx + 14) cb) ∧ w'.ownsRow u.heap.size 5 1 (.slice sb (nx + 14) cb) (nx + 14) (BV (keyF t2 x)) ∧ Keeps (fun _ => False) u w') := Lib.hid (fun u h => refKeys_any t2 sx nx cx x u (by unfold U64; omega) (hx.quiet h) (by omega))
  have HTO := Lib.hid (And.intro hto hnx)
  clear hhN hx hsz ht2 hto htn hN2 hn hnx
  go_enter Try.func33, Try.ntmps33
  obtain ⟨b1, hb1⟩ : ∃ b, w.heap.size = b := ⟨_, rfl⟩
  obtain ⟨w1, hw1⟩ : ∃ v, w.alloc (.cells #[.slice sn N cn, .slice ss ns cs, .slice sa na ca, .slice sb nb cb, .bool false, .int .i64 (half : Int), .int .i64 (used : Int), .slice sl nl cl, .int .i64 atr, .int .u64 (turn : Int), .slice sk nk ck] 41) = v := ⟨_, rfl⟩
  obtain ⟨b2, hb2⟩ : ∃ b, w1.heap.size = b := ⟨_, rfl⟩
  obtain ⟨w2, hw2⟩ : ∃ v, w1.alloc (.cells #[.slice none 0 0, .slice none 0 0, .slice none 0 0, .slice none 0 0, .bool false, .int .i64 0, .int .i64 0, .slice none 0 0, .int .i64 0, .int .u64 0, .slice none 0 0] 41) = v := ⟨_, rfl⟩
  have q1 : w1.heap[b1]? = some (.cells #[.slice sn N cn, .slice ss ns cs, .slice sa na ca, .slice sb nb cb, .bool false, .int .i64 (half : Int), .int .i64 (used : Int), .slice sl nl cl, .int .i64 atr, .int .u64 (turn : Int), .slice sk nk ck] 41 (0, 0)) := by rw [← hw1, ← hb1]; exact World.alloc_heap_new w _
  have k1 : Keeps (fun _ => False) w w1 := by rw [← hw1]; exact (Keeps.refl _ w).alloc _
  have k2 : Keeps (fun _ => False) w1 w2 := by rw [← hw2]; exact (Keeps.refl _ w1).alloc _
  have q2 : w2.heap[b2]? = some (.cells #[.slice none 0 0, .slice none 0 0, .slice none 0 0, .slice none 0 0, .bool false, .int .i64 0, .int .i64 0, .slice none 0 0, .int .i64 0, .int .u64 0, .slice none 0 0] 41 (0, 0)) := by rw [← hw2, ← hb2]; exact World.alloc_heap_new w1 _
  have HQ : Hid (w2.heap[b1]? = some (.cells #[.slice sn N cn, .slice ss ns cs, .slice sa na ca, .slice sb nb cb, .bool false, .int .i64 (half : Int), .int .i64 (used : Int), .slice sl nl cl, .int .i64 atr, .int .u64 (turn : Int), .slice sk nk ck] 41 (0, 0)) ∧ w2.heap[b2]? = some (.cells #[.slice none 0 0, .slice none 0 0, .slice none 0 0, .slice none 0 0, .bool false, .int .i64 0, .int .i64 0, .slice none 0 0, .int .i64 0, .int .u64 0, .slice none 0 0] 41 (0, 0)) ∧ (w.heap.size = b1 ∧ b2 = b1 + 1 ∧ w2.heap.size = b1 + 2) ∧ Keeps (fun _ => False) w w2) := Lib.hid ⟨(k2.block b1 (lt_of_heap q1) (fun h => h)).trans q1, q2, ⟨hb1, by rw [← hb2, ← hw1, ← hb1]; simp, by rw [← hw2, World.size_alloc, hb2, ← hb2, ← hw1, World.size_alloc, hb1]⟩, k1.quiet k2⟩
  have c0 := cellAt HQ.out.1 0
  have c1 := cellAt HQ.out.1 1
  have c2 := cellAt HQ.out.1 2
  have c3 := cellAt HQ.out.1 3
  have c4 := cellAt HQ.out.1 4
  have c5 := cellAt HQ.out.1 5
  have c6 := cellAt HQ.out.1 6
  have c7 := cellAt HQ.out.1 7
  have c8 := cellAt HQ.out.1 8
  have c9 := cellAt HQ.out.1 9
  have c10 := cellAt HQ.out.1 10
  simp at c0 c1 c2 c3 c4 c5 c6 c7 c8 c9 c10
  clear q1 q2 k1 k2
  go_upto_region 2 with (fail)
  go_cut [12] (fun s12 wx => s12 = .bool (decide (atr < 2)) ∧ wx = w2)
  case first =>
    go_wp2_with fail
    go_meet
    exact ⟨rfl, rfl⟩
  case rest =>
  obtain ⟨hs12, hwc⟩ := hcut
  subst hs12
  rw [hwc]
  clear hwc
  apply_assumption
  go_cut [6] (fun s6 wx => s6 = .int .i64 (tt : Int) ∧ wx = w2)
  case first =>
    rcases HTO.out.1 with ⟨rfl, rfl⟩ | ⟨rfl, rfl⟩ | ⟨rfl, rfl⟩
    all_goals
      go_wp2_with fail
      go_meet
      exact ⟨rfl, rfl⟩
  case rest =>
    obtain ⟨hs6, hwc⟩ := hcut
    subst hs6
    rw [hwc]
    clear hwc hw1 hw2 hb1 hb2
    apply_assumption
    go_wp2_with fail
    refine (HKF.out w2 HQ.out.2.2.2).mono ?_
    rintro e w3 ⟨s7, e7, rfl, ho7, hk⟩
    have HK3 : Hid (Keeps (fun _ => False) w w3) := Lib.hid (HQ.out.2.2.2.quiet hk)
    have h13 := (hk.block b1 (lt_of_heap HQ.out.1) (fun h => h)).trans HQ.out.1
    have h23 := (hk.block b2 (lt_of_heap HQ.out.2.1) (fun h => h)).trans HQ.out.2.1
    have HQ3 := Lib.hid (And.intro h13 h23)
    have c0 := cellAt h13 0
    have c1 := cellAt h13 1
    have c2 := cellAt h13 2
    have c3 := cellAt h13 3
    have c4 := cellAt h13 4
    have c5 := cellAt h13 5
    have c6 := cellAt h13 6
    have c7 := cellAt h13 7
    have c8 := cellAt h13 8
    have c9 := cellAt h13 9
    have c10 := cellAt h13 10
    simp at c0 c1 c2 c3 c4 c5 c6 c7 c8 c9 c10
    obtain ⟨m14, hm14⟩ : ∃ z, nx + 14 = z := ⟨_, rfl⟩
    rw [hm14] at HTO ⊢
    have i1 : (m14 : Int) > (sz : Int) := by have := HTO.out.2; omega
    clear hk h13 h23 ho7 HKF hm14
    go_wp2_with fail
    refine (HSZ.out w3).mono ?_
    rintro e wr ⟨rfl, hk⟩
    have h1r := (hk.block b1 (lt_of_heap HQ3.out.1) (fun h => h)).trans HQ3.out.1
    have h2r := (hk.block b2 (lt_of_heap HQ3.out.2) (fun h => h)).trans HQ3.out.2
    have h2x := heap_eleven h2r (.slice sn N cn) (.slice ss ns cs) (.slice sa na ca) (.slice sb nb cb) (.bool false) (.int .i64 (half : Int)) (.int .i64 (used : Int)) (.slice sl nl cl) (.int .i64 atr) (.int .u64 (turn : Int)) (.slice sk nk ck)
    have k2x := keeps_eleven wr b2 (.slice sn N cn) (.slice ss ns cs) (.slice sa na ca) (.slice sb nb cb) (.bool false) (.int .i64 (half : Int)) (.int .i64 (used : Int)) (.slice sl nl cl) (.int .i64 atr) (.int .u64 (turn : Int)) (.slice sk nk ck)
    obtain ⟨x1, hx1⟩ : ∃ v, (((((((((((wr.setCell ⟨b2, 0, none⟩ (.slice sn N cn)).setCell ⟨b2, 1, none⟩ (.slice ss ns cs)).setCell ⟨b2, 2, none⟩ (.slice sa na ca)).setCell ⟨b2, 3, none⟩ (.slice sb nb cb)).setCell ⟨b2, 4, none⟩ (.bool false)).setCell ⟨b2, 5, none⟩ (.int .i64 (half : Int))).setCell ⟨b2, 6, none⟩ (.int .i64 (used : Int))).setCell ⟨b2, 7, none⟩ (.slice sl nl cl)).setCell ⟨b2, 8, none⟩ (.int .i64 atr)).setCell ⟨b2, 9, none⟩ (.int .u64 (turn : Int))).setCell ⟨b2, 10, none⟩ (.slice sk nk ck)) = v := ⟨_, rfl⟩
    rw [hx1] at h2x k2x
    have HK : Hid (Keeps (fun _ => False) w x1) := Lib.hid ((HK3.out.quiet hk).trans k2x (fun j hj e => by have := HQ.out.2.2.1; omega))
    have d0 := cellAt h1r 0
    have d1 := cellAt h1r 1
    have d2 := cellAt h1r 2
    have d3 := cellAt h1r 3
    have d4 := cellAt h1r 4
    have d5 := cellAt h1r 5
    have d6 := cellAt h1r 6
    have d7 := cellAt h1r 7
    have d8 := cellAt h1r 8
    have d9 := cellAt h1r 9
    have d10 := cellAt h1r 10
    simp at d0 d1 d2 d3 d4 d5 d6 d7 d8 d9 d10
    have z0 := cellAt h2r 0
    have z1 := cellAt h2r 1
    have z2 := cellAt h2r 2
    have z3 := cellAt h2r 3
    have z4 := cellAt h2r 4
    have z5 := cellAt h2r 5
    have z6 := cellAt h2r 6
    have z7 := cellAt h2r 7
    have z8 := cellAt h2r 8
    have z9 := cellAt h2r 9
    have z10 := cellAt h2r 10
    have fz0 := freeAt h2r 0
    have fz1 := freeAt h2r 1
    have fz2 := freeAt h2r 2
    have fz3 := freeAt h2r 3
    have fz4 := freeAt h2r 4
    have fz5 := freeAt h2r 5
    have fz6 := freeAt h2r 6
    have fz7 := freeAt h2r 7
    have fz8 := freeAt h2r 8
    have fz9 := freeAt h2r 9
    have fz10 := freeAt h2r 10
    simp at z0 z1 z2 z3 z4 z5 z6 z7 z8 z9 z10
    have n0 := cellAt h2x 0
    have n1 := cellAt h2x 1
    have n2 := cellAt h2x 2
    have n3 := cellAt h2x 3
    have n4 := cellAt h2x 4
    have n5 := cellAt h2x 5
    have n6 := cellAt h2x 6
    have n7 := cellAt h2x 7
    have n8 := cellAt h2x 8
    have n9 := cellAt h2x 9
    have n10 := cellAt h2x 10
    simp at n0 n1 n2 n3 n4 n5 n6 n7 n8 n9 n10
    clear hk h1r h2r h2x k2x HSZ c0 c1 c2 c3 c4 c5 c6 c7 c8 c9 c10
    go_wp2
    refine bodyPost_ret (v := .tuple #[.agg #[.slice sn N cn, .slice ss ns cs, .slice sa na ca, .slice sb nb cb, .bool false, .int .i64 (half : Int), .int .i64 (used : Int), .slice sl nl cl, .int .i64 atr, .int .u64 (turn : Int), .slice sk nk ck], .int .i64 3]) (by simp [results, Try.results33, go_sem, n0, n1, n2, n3, n4, n5, n6, n7, n8, n9, n10]) rfl ⟨rfl, HK.out⟩
end Go.Proofs.Ytpojkhjenbbodaa
