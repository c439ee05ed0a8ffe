/-
  The law StorePlays: the walk. Conditions: the arguments are what came in.
-/
import Derived.Test.YtpojkhjenbbodaaPlays29
import Derived.Deep.DeepCutAuto
namespace Go.Proofs.Ytpojkhjenbbodaa
open Go.RowKit

/-- What is read of the reference's store. -/
structure RD (w : World) (a0 : Option Addr) (n0 e0 : Nat) (a7 : Option Addr) (n7 e7 : Nat) (ak : Option Addr) (nk ek : Nat) (S : SS) : Prop where
  now : Sl w a0 n0 e0 (BV S.d.now)
  keys : Sl w ak nk ek (BV S.keys)
  recs : ∃ vs, Sl w a7 n7 e7 vs ∧ RowsS w vs S.recs
theorem rd_quiet {w w' : World} {a0 a7 ak : Option Addr} {n0 e0 n7 e7 nk ek : Nat} {S : SS} (h : RD w a0 n0 e0 a7 n7 e7 ak nk ek S) (hk : Keeps (fun _ => False) w w') : RD w' a0 n0 e0 a7 n7 e7 ak nk ek S := by
  obtain ⟨vs, h1, h2⟩ := h.recs
  exact ⟨h.now.quiet hk, h.keys.quiet hk, vs, h1.quiet hk, h2.quiet hk⟩
theorem rd_keys {w w' : World} {a0 a7 ak : Option Addr} {n0 e0 n7 e7 nk ek : Nat} {S : SS} (h : RD w a0 n0 e0 a7 n7 e7 ak nk ek S) (hk : Keeps (fun _ => False) w w') : Sl w' ak nk ek (BV S.keys) := h.keys.quiet hk
theorem rd_now {w w' : World} {a0 a7 ak : Option Addr} {n0 e0 n7 e7 nk ek : Nat} {S : SS} (h : RD w a0 n0 e0 a7 n7 e7 ak nk ek S) (hk : Keeps (fun _ => False) w w') : Sl w' a0 n0 e0 (BV S.d.now) := h.now.quiet hk

set_option maxHeartbeats 40000000 in
set_option maxRecDepth 10000 in
theorem storePlays_walk (size : Int) (la : Option Addr) (len cap : Nat) (zs : List Int) (w : World) (hz1 : -9223372036854775808 ≤ size) (hz2 : size ≤ 9223372036854775807) (hs : Sl w la len cap (IV zs)) (hwf : ∀ z ∈ zs, -9223372036854775808 ≤ z ∧ z ≤ 9223372036854775807) :
    Calls Try.prog 8 #[.int .i64 size, .slice la len cap] w fun e w' => e = .returned (.bool true) ∧ Keeps (fun _ => False) w w' := by
  obtain ⟨kz, hkz, _, hAr⟩ := around_nat size 100 w hz1 hz2 (by omega) (by omega)
  obtain ⟨n, hn⟩ : ∃ z, 64 + kz = z := ⟨_, rfl⟩
  have g1 : (64 : Int) + (kz : Int) = (n : Int) := by omega
  have g2 : IntKind.i64.wrap (n : Int) = (n : Int) := IntWalk.i64_in _ (by omega)
  have H64 : Hid (64 ≤ n ∧ n ≤ 65536) := Lib.hid (by omega)
  have HAR := Lib.hid hAr
  have HXZ := Lib.hid (And.intro hs hwf)
  have HM := Lib.hid (made_any n w H64.out.1 H64.out.2)
  clear hAr hs hwf hz1 hz2 hkz hn
  go_enter Try.func8, Try.ntmps8
  go_wp2_with fail
  refine HAR.out.mono ?_
  rintro e _ ⟨rfl, rfl⟩
  go_wp2_with fail
  refine HM.out.mono ?_
  rintro e w1 ⟨pp0, ppd0, F0, Q0, rfl, hst, hk, hF, hQ⟩
  have HK1 := Lib.hid hk
  have H1 := Lib.hid (And.intro hst (And.intro hF hQ))
  have HN := Lib.hid (refNew_any n H64.out.2 w1)
  clear HM HAR hst hk hF hQ g1 g2
  go_wp2_with fail
  refine HN.out.mono ?_
  rintro e w2 ⟨vd, rfl, hra, hk⟩
  obtain ⟨D0, hD0⟩ : ∃ d, (⟨List.replicate n 0, List.replicate n 0, [], false⟩ : DS) = d := ⟨_, rfl⟩
  have hop : openS D0 = S0 n := by rw [← hD0]; exact open_new n H64.out.2
  have hfo := hra.foot
  rw [hD0] at hra
  have hra0 : RefAt w2 0 vd D0 := by
    obtain ⟨n1, c1, n2, c2, n3, c3, n4, c4, e, o1, o2, o3, o4⟩ := hra.rows
    exact ⟨n1, c1, n2, c2, n3, c3, n4, c4, e, own_base o1 (fun _ _ => Nat.zero_le _), own_base o2 (fun _ _ => Nat.zero_le _), own_base o3 (fun _ _ => Nat.zero_le _), own_base o4 (fun _ _ => Nat.zero_le _)⟩
  have HO := Lib.hid (refOpen_ok D0 vd w2 hra0 (by rw [← hD0]) (by rw [← hD0]; simp) (by rw [← hD0]; simpa using H64.out.1) (by rw [← hD0]; simpa using H64.out.2))
  have HFO := Lib.hid (And.intro hfo (And.intro hop hk))
  obtain ⟨n1, c1, n2, c2, n3, c3, n4, c4, hv, _⟩ := hra.rows
  generalize D0.now.length = l1_ at hv
  generalize D0.sure.length = l2_ at hv
  generalize D0.lo.length = l3_ at hv
  generalize D0.cr = l4_ at hv
  subst hv
  clear hra hra0 hfo hop hk HN hD0
  go_wp2_with fail
  refine HO.out.mono ?_
  rintro e w3 ⟨v3, rfl, hrs, hk⟩
  have hrs2 := hrs (fun j => w1.heap.size ≤ j) (HFO.out.1.weak (fun j a => a.1)) (fun j a => Nat.le_trans HFO.out.2.2.size a)
  rw [HFO.out.2.1] at hrs2
  obtain ⟨a0z, n0z, e0z, a1z, n1z, e1z, a2z, n2z, e2z, a3z, e3z, bcz, hfz, usz, a7z, n7z, e7z, atz, tnz, akz, nkz, ekz, rfl, _⟩ := rs_all hrs2
  have k13 : Keeps (fun _ => False) w1 w3 := HFO.out.2.2.quiet hk
  obtain ⟨br, hbr⟩ : ∃ b, w3.heap.size = b := ⟨_, rfl⟩
  obtain ⟨y1, hy1⟩ : ∃ v, w3.alloc (.cells #[.slice none 0 0, .slice none 0 0, .slice none 0 0, .slice none 0 0, .bool false, .int .i64 0, .int .i64 0, .slice none 0 0, .int .i64 0, .int .u64 0, .slice none 0 0] 41) = v := ⟨_, rfl⟩
  have h61 : y1.heap[br]? = some (.cells #[.slice none 0 0, .slice none 0 0, .slice none 0 0, .slice none 0 0, .bool false, .int .i64 0, .int .i64 0, .slice none 0 0, .int .i64 0, .int .u64 0, .slice none 0 0] 41 (0, 0)) := by rw [← hy1, ← hbr]; exact World.alloc_heap_new w3 _
  have ky1 : Keeps (fun _ => False) w3 y1 := by rw [← hy1]; exact (Keeps.refl _ w3).alloc _
  have h62 := heap_eleven h61 (.slice a0z n0z e0z) (.slice a1z n1z e1z) (.slice a2z n2z e2z) (.slice a3z n2z e3z) (.bool bcz) (.int .i64 (hfz : Int)) (.int .i64 (usz : Int)) (.slice a7z n7z e7z) (.int .i64 atz) (.int .u64 (tnz : Int)) (.slice akz nkz ekz)
  have k62 := keeps_eleven y1 br (.slice a0z n0z e0z) (.slice a1z n1z e1z) (.slice a2z n2z e2z) (.slice a3z n2z e3z) (.bool bcz) (.int .i64 (hfz : Int)) (.int .i64 (usz : Int)) (.slice a7z n7z e7z) (.int .i64 atz) (.int .u64 (tnz : Int)) (.slice akz nkz ekz)
  obtain ⟨y2, hy2⟩ : ∃ v, (((((((((((y1.setCell ⟨br, 0, none⟩ (.slice a0z n0z e0z)).setCell ⟨br, 1, none⟩ (.slice a1z n1z e1z)).setCell ⟨br, 2, none⟩ (.slice a2z n2z e2z)).setCell ⟨br, 3, none⟩ (.slice a3z n2z e3z)).setCell ⟨br, 4, none⟩ (.bool bcz)).setCell ⟨br, 5, none⟩ (.int .i64 (hfz : Int))).setCell ⟨br, 6, none⟩ (.int .i64 (usz : Int))).setCell ⟨br, 7, none⟩ (.slice a7z n7z e7z)).setCell ⟨br, 8, none⟩ (.int .i64 atz)).setCell ⟨br, 9, none⟩ (.int .u64 (tnz : Int))).setCell ⟨br, 10, none⟩ (.slice akz nkz ekz)) = v := ⟨_, rfl⟩
  rw [hy2] at h62 k62
  have ky2 : Keeps (fun _ => False) w3 y2 := ky1.trans k62 (fun j hj e => by have e' : j = br := e; omega)
  have k1y : Keeps (fun _ => False) w1 y2 := k13.quiet ky2
  have hfl : ∀ j, F0 j ∨ Q0 j → j < w1.heap.size := fun j h => by obtain ⟨_, _, _, _, _, _, hs⟩ := H1.out.1; exact h.elim (hs.flt j) (hs.rlt j)
  have hsz := k13.size
  have hsw := HK1.out.size
  have hbr2 : w1.heap.size ≤ br := by omega
  have HBR : Hid (w.heap.size ≤ br ∧ br < y2.heap.size) := Lib.hid ⟨by omega, lt_of_heap h62⟩
  have hrs3 : RsAt y2 (fun j => ¬ F0 j ∧ j ≠ br) _ (S0 n) := (hrs2.here (P' := fun j => ¬ F0 j ∧ j ≠ br) (fun j a b => ⟨fun c => by have := hfl j (Or.inl c); omega, by omega⟩)).keep ky2 (fun _ a => a.elim)
  have hrs4 : RSide y2 br F0 Q0 _ (S0 n) := ⟨h62, hrs3, fun c => by have := hfl br (Or.inl c); omega, fun c => by have := hfl br (Or.inr c); omega⟩
  have HA := Lib.hid (acts_any la len cap zs y2 (HXZ.out.1.quiet (HK1.out.quiet k1y)) HXZ.out.2)
  have HRS0 := Lib.hid hrs4
  have HST0 := Lib.hid (H1.out.1.quiet k1y)
  have HKY := Lib.hid (HK1.out.quiet k1y)
  have p0 := cellAt h61 0
  have p1 := cellAt h61 1
  have p2 := cellAt h61 2
  have p3 := cellAt h61 3
  have p4 := cellAt h61 4
  have p5 := cellAt h61 5
  have p6 := cellAt h61 6
  have p7 := cellAt h61 7
  have p8 := cellAt h61 8
  have p9 := cellAt h61 9
  have p10 := cellAt h61 10
  have q0 := freeAt h61 0
  have q1 := freeAt h61 1
  have q2 := freeAt h61 2
  have q3 := freeAt h61 3
  have q4 := freeAt h61 4
  have q5 := freeAt h61 5
  have q6 := freeAt h61 6
  have q7 := freeAt h61 7
  have q8 := freeAt h61 8
  have q9 := freeAt h61 9
  have q10 := freeAt h61 10
  simp at p0 p1 p2 p3 p4 p5 p6 p7 p8 p9 p10
  clear HO hrs hk hrs2 k13 h61 ky1 h62 k62 ky2 k1y hfl hsz hsw hbr2 hrs3 hrs4
  go_wp2_with fail
  refine HA.out.mono ?_
  rintro e w5 ⟨sa, ca, rows, rfl, hmap, hat, hk⟩
  obtain ⟨H, Z, R, hHZ, hH, hZ, hH2, hZ2⟩ := parts_of n
  have hgd : Good H Z R (S0 n) := by have := S0_good hH hZ (by have := H64.out.2; omega); rw [← hHZ] at this; exact this
  have HAT0 : Hid (At29 w y2 w5 w5 H Z R 0 pp0 ppd0 (S0 n) F0 Q0) := Lib.hid (at_new hgd HST0.out H1.out.2.1 H1.out.2.2 hk)
  have HRS1 := Lib.hid (HRS0.out.quiet hk)
  have HK5 : Hid (Keeps (fun _ => False) w w5) := Lib.hid (HKY.out.quiet hk)
  have HRW := Lib.hid (rows_of (w := w) hmap hat)
  have HHZ : Hid (n = H + Z + Z + R ∧ 0 < Z) := Lib.hid ⟨hHZ, by have := H64.out.1; omega⟩
  have hrl : rows.length ≤ 14 := by
    have := congrArg List.length hmap
    simp at this
    omega
  obtain ⟨N, hN⟩ : ∃ n, rows.length = n := ⟨_, rfl⟩
  rw [hN] at hrl HRW ⊢
  clear HA hmap hat hk hN hHZ hH hZ hH2 hZ2 hgd H1 HST0 HRS0 HKY hy1 hy2 hbr p0 q0 p1 q1 p2 q2 p3 q3 p4 q4 p5 q5 p6 q6 p7 q7 p8 q8 p9 q9 p10 q10
  go_wp2_with fail
  go_loopw [6, 7, 11] (fun s6 s7 i wr => PlRel w y2 w5 H Z R N br s6 s7 i wr) (fun _ _ i _ => N - (intOf i).toNat)
  case atStart => exact ⟨0, pp0, ppd0, S0 n, F0, Q0, _, Nat.zero_le _, rfl, rfl, rfl, HAT0.out, HRS1.out⟩
  case round =>
    clear HAT0 HRS1
    obtain ⟨k, p, pd, S, F, Q, v, hk, rfl, rfl, rfl, hat, hrs⟩ := hrel
    obtain ⟨a0r, n0r, e0r, a1r, n1r, e1r, a2r, n2r, e2r, a3r, e3r, bcr, hfr, usr, a7r, n7r, e7r, atr, tnr, akr, nkr, ekr, rfl, _⟩ := rs_all hrs.ref
    have HX := Lib.hid hat
    have HRS := Lib.hid hrs
    have HBX := Lib.hid hrs.box
    clear hat hrs
    by_cases hlt : k < N
    · obtain ⟨ga, doo, sb, nb, cb, bb, rfl, hbl, hac⟩ := HRW.out.at_ k hlt
      have HCA := Lib.hid hac
      obtain ⟨c0, c1, hsl0, hbf0⟩ := hac wr HX.out.kp
      have HBB : Hid (Sl wr sb nb cb (BV bb) ∧ InR (fun j => ¬ F j ∧ j ≠ br ∧ j < wr.heap.size) (.slice sb nb cb)) := Lib.hid ⟨hsl0, fun ad n c e h0 => by
        simp only [Value.slice.injEq] at e
        have h9 := hbf0 ad e.1 (by omega)
        refine ⟨h9 F HX.out.inF, fun a => ?_, blk_lt hsl0 e.1 (by omega)⟩
        exact h9 (fun j => j = br) (fun j a => Or.inl (a ▸ HBR.out)) a⟩
      have j1 : (0 : Int) ≤ (k : Int) := by omega
      have j2 : (k : Int) < (N : Int) := by omega
      clear hac hsl0 hbf0
      go_upto_region 10 with (fail)
      go_cut [53] (fun s53 wx => s53 = .int .i64 doo ∧ wx = wr)
      case first =>
        go_wp2_with fail
        go_meet
        exact ⟨rfl, rfl⟩
      case rest =>
      obtain ⟨hs53, hwc⟩ := hcut
      subst hs53
      rw [hwc]
      clear hwc
      apply_assumption
      go_cut [6, 7] (fun s6 s7 wx => PlMid w y2 w5 H Z R (k + 1) br s6 s7 wx)
      case first =>
        by_cases hd2 : doo = 2
        · subst hd2
          have hgs := good_does HX.out.good (by have := HX.out.turn; omega) 2 bb
          have hes : S.does 2 bb = S.set bb := by unfold SS.does; rw [if_pos rfl]
          rw [hes] at hgs
          have HCR : Hid (∀ u : World, Keeps (fun _ => False) wr u → Calls Try.prog 33 #[.agg #[.slice a0r n0r e0r, .slice a1r n1r e1r, .slice a2r n2r e2r, .slice a3r n2r e3r, .bool bcr, .int .i64 (hfr : Int), .int .i64 (usr : Int), .slice a7r n7r e7r, .int .i64 atr, .int .u64 (tnr : Int), .slice akr nkr ekr], .slice sb nb cb] u fun e w' => ∃ v', e = .returned (.tuple #[.agg v', .int .i64 (S.set bb).2]) ∧ RsAt w' (fun j => (¬ F j ∧ j ≠ br ∧ j < wr.heap.size) ∨ u.heap.size ≤ j) v' (S.set bb).1 ∧ Keeps (fun _ => False) u w') := Lib.hid (fun u hu => refSet_ok HX.out.good ((HRS.out.ref.here (P' := fun j => ¬ F j ∧ j ≠ br ∧ j < wr.heap.size) (fun j a b => ⟨a.1, a.2, b⟩)).keep hu (fun _ a => a.elim)) HHZ.out.2 (by have := HX.out.turn; omega) sb nb cb bb (HBB.out.1.quiet hu) HBB.out.2 (by omega))
          obtain ⟨Y, hY⟩ : ∃ y, S.set bb = y := ⟨_, rfl⟩
          rw [hY] at hgs HCR
          obtain ⟨S2, r2⟩ := Y
          have HG2 := Lib.hid hgs
          have HSE := Lib.hid hY
          have eD : (r2 != r2) = false := by simp
          clear hgs hes hY c0 c1
          go_upto_region 16 with (fail)
          go_cut [12, 13] (fun s12 s13 wx => PlN wr (fun j => ¬ F j ∧ j ≠ br) S2 r2 s12 s13 wx)
          case first =>
            obtain ⟨v0, hdr⟩ : ∃ v, World.drew wr = v := ⟨_, rfl⟩
            have hk : Keeps (fun _ => False) wr v0 := by rw [← hdr]; exact (Keeps.refl _ _).drew
            refine z_begin (fun w' => Keeps (fun _ => False) (World.drew wr) w') 13 (by kernel_rfl) (Keeps.refl _ _) (fun hHeld => ?_)
            rw [hdr] at hHeld ⊢
            have HB := Lib.hid ((hk.block br (lt_of_heap HBX.out) (fun h => h)).trans HBX.out)
            have HAC0 := Lib.hid (HX.out.kp.quiet hk)
            have KV : Hid (Keeps (fun _ => False) wr v0) := Lib.hid hk
            have HV0 : Hid (v0.heap.size = wr.heap.size) := Lib.hid (by rw [← hdr]; rfl)
            clear hk hdr
            refine z_take 0 (v := ?_) rfl (by kernel_rfl) (by kernel_rfl) (by kernel_rfl) (by kernel_rfl) (fun _ _ _ h => h) hHeld (by rfl) (fun w hSw => ?_) ?_
            rotate_left
            · have hb := (hSw.block br (lt_of_heap HB.out) (fun h => h)).trans HB.out; have c0 := cellAt hb 0; have c1 := cellAt hb 1; have c2 := cellAt hb 2; have c3 := cellAt hb 3; have c4 := cellAt hb 4; have c5 := cellAt hb 5; have c6 := cellAt hb 6; have c7 := cellAt hb 7; have c8 := cellAt hb 8; have c9 := cellAt hb 9; have c10 := cellAt hb 10; simp at c0 c1 c2 c3 c4 c5 c6 c7 c8 c9 c10; clear hb; clear hSw; simp only [List.getElem_toArray, List.getElem_cons_zero]; go_simp; try rfl
            simp only [Act.put, List.getElem_toArray, List.getElem_cons_zero, List.setIfInBounds_toArray, List.set_cons_zero, List.set_cons_succ]
            refine z_take 1 (v := ?_) rfl (by kernel_rfl) (by kernel_rfl) (by kernel_rfl) (by kernel_rfl) (fun _ _ _ h => h) hHeld (by rfl) (fun w hSw => ?_) ?_
            rotate_left
            · clear hSw; simp only [List.getElem_toArray, List.getElem_cons_zero, List.getElem_cons_succ]; go_simp; try rfl
            simp only [Act.put, List.getElem_toArray, List.getElem_cons_zero, List.getElem_cons_succ, List.setIfInBounds_toArray, List.set_cons_zero, List.set_cons_succ]
            refine z_take 2 (v := ?_) rfl (by kernel_rfl) (by kernel_rfl) (by kernel_rfl) (by kernel_rfl) (fun _ _ _ h => h) hHeld (by rfl) (fun w hSw => ?_) ?_
            rotate_left
            · clear hSw; simp only [List.getElem_toArray, List.getElem_cons_zero, List.getElem_cons_succ]; go_simp; try rfl
            simp only [Act.put, List.getElem_toArray, List.getElem_cons_zero, List.getElem_cons_succ, List.setIfInBounds_toArray, List.set_cons_zero, List.set_cons_succ]
            refine z_take 3 (v := ?_) rfl (by kernel_rfl) (by kernel_rfl) (by kernel_rfl) (by kernel_rfl) (fun _ _ _ h => h) hHeld (by rfl) (fun w hSw => ?_) ?_
            rotate_left
            · obtain ⟨c0, c1, _, _⟩ := HCA.out w (HAC0.out.quiet hSw); clear hSw; simp only [List.getElem_toArray, List.getElem_cons_zero, List.getElem_cons_succ]; go_simp; try rfl
            simp only [Act.put, List.getElem_toArray, List.getElem_cons_zero, List.getElem_cons_succ, List.setIfInBounds_toArray, List.set_cons_zero, List.set_cons_succ]
            refine z_take 4 (v := ?_) rfl (by kernel_rfl) (by kernel_rfl) (by kernel_rfl) (by kernel_rfl) (fun _ _ _ h => h) hHeld (by rfl) (fun w hSw => ?_) ?_
            rotate_left
            · obtain ⟨c0, c1, _, _⟩ := HCA.out w (HAC0.out.quiet hSw); clear hSw; simp only [List.getElem_toArray, List.getElem_cons_zero, List.getElem_cons_succ]; go_simp; try rfl
            simp only [Act.put, List.getElem_toArray, List.getElem_cons_zero, List.getElem_cons_succ, List.setIfInBounds_toArray, List.set_cons_zero, List.set_cons_succ]
            refine z_take 5 (v := ?_) rfl (by kernel_rfl) (by kernel_rfl) (by kernel_rfl) (by kernel_rfl) (fun _ _ _ h => h) hHeld (by rfl) (fun w hSw => ?_) ?_
            rotate_left
            · obtain ⟨c0, c1, _, _⟩ := HCA.out w (HAC0.out.quiet hSw); clear hSw; simp only [List.getElem_toArray, List.getElem_cons_zero, List.getElem_cons_succ]; go_simp; try rfl
            simp only [Act.put, List.getElem_toArray, List.getElem_cons_zero, List.getElem_cons_succ, List.setIfInBounds_toArray, List.set_cons_zero, List.set_cons_succ]
            refine z_two 6 10 rfl rfl (by kernel_rfl) (by rfl) (by rfl) (fun K hK => ?_) (fun K hK => ?_)
            · skip
              simp only [List.getElem_toArray, List.getElem_cons_zero, List.getElem_cons_succ]
              have hw := HCR.out v0 KV.out
              go_simp
              refine hw.mono ?_
              rintro e t1_ ⟨v1, rfl, hra, hk⟩
              obtain ⟨a0x, n0x, e0x, a1x, n1x, e1x, a2x, n2x, e2x, a3x, e3x, bcx, hfx, usx, a7x, n7x, e7x, atx, tnx, akx, nkx, ekx, rfl, _⟩ := rs_all hra
              clear hw
              have hrv := hra.here (P' := fun j => ((¬ F j ∧ j ≠ br) ∨ wr.heap.size ≤ j) ∧ j < t1_.heap.size) (fun j a c => ⟨a.elim (fun b => Or.inl ⟨b.1, b.2.1⟩) (fun b => Or.inr (Nat.le_trans KV.out.size b)), c⟩)
              replace KV := Lib.hid (KV.out.quiet hk)
              have RV := Lib.hid hrv
              clear hra hrv
              refine hK _ _ (Or.inr (hHeld.quiet hk)) (fun hHeld => ?_)
              clear hK K
              replace hHeld := hHeld.resolve_left (by decide)
              try simp only [Act.put, List.setIfInBounds_toArray, List.set_cons_zero, List.set_cons_succ]
              clear hk
              refine z_take 7 (v := ?_) rfl (by kernel_rfl) (by kernel_rfl) (by kernel_rfl) (by kernel_rfl) (fun _ _ _ h => h) hHeld (by rfl) (fun w hSw => ?_) ?_
              rotate_left
              · clear hSw; simp only [List.getElem_toArray, List.getElem_cons_zero, List.getElem_cons_succ]; go_simp; try rfl
              simp only [Act.put, List.getElem_toArray, List.getElem_cons_zero, List.getElem_cons_succ, List.setIfInBounds_toArray, List.set_cons_zero, List.set_cons_succ]
              refine z_take 8 (v := ?_) rfl (by kernel_rfl) (by kernel_rfl) (by kernel_rfl) (by kernel_rfl) (fun _ _ _ h => h) hHeld (by rfl) (fun w hSw => ?_) ?_
              rotate_left
              · clear hSw; simp only [List.getElem_toArray, List.getElem_cons_zero, List.getElem_cons_succ]; go_simp; try rfl
              simp only [Act.put, List.getElem_toArray, List.getElem_cons_zero, List.getElem_cons_succ, List.setIfInBounds_toArray, List.set_cons_zero, List.set_cons_succ]
              refine z_take 9 (v := ?_) rfl (by kernel_rfl) (by kernel_rfl) (by kernel_rfl) (by kernel_rfl) (fun _ _ _ h => h) hHeld (by rfl) (fun w hSw => ?_) ?_
              rotate_left
              · clear hSw; simp only [List.getElem_toArray, List.getElem_cons_zero, List.getElem_cons_succ]; go_simp; try rfl
              simp only [Act.put, List.getElem_toArray, List.getElem_cons_zero, List.getElem_cons_succ, List.setIfInBounds_toArray, List.set_cons_zero, List.set_cons_succ]
              refine z_one 10 rfl (by kernel_rfl) (by rfl) (fun K hK => ?_)
              simp only [List.getElem_toArray, List.getElem_cons_zero, List.getElem_cons_succ]
              obtain ⟨b5, hb5⟩ : ∃ g, t1_.heap.size = g := ⟨_, rfl⟩
              obtain ⟨t2_, hy⟩ : ∃ v, World.alloc t1_ (.cells #[.slice none 0 0, .slice none 0 0, .slice none 0 0, .slice none 0 0, .bool false, .int .i64 0, .int .i64 0, .slice none 0 0, .int .i64 0, .int .u64 0, .slice none 0 0] 41) = v := ⟨_, rfl⟩
              have hk : Keeps (fun _ => False) t1_ t2_ := by rw [← hy]; exact (Keeps.refl _ t1_).alloc _
              have ha4 : t2_.heap[b5]? = some (.cells #[.slice none 0 0, .slice none 0 0, .slice none 0 0, .slice none 0 0, .bool false, .int .i64 0, .int .i64 0, .slice none 0 0, .int .i64 0, .int .u64 0, .slice none 0 0] 41 (0, 0)) := by rw [← hy, ← hb5]; exact World.alloc_heap_new t1_ _
              have hl4 : wr.heap.size ≤ b5 := by rw [← hb5]; exact KV.out.size
              go_simp
              replace RV := Lib.hid (RV.out.weak (P' := fun j => ((¬ F j ∧ j ≠ br) ∨ wr.heap.size ≤ j) ∧ j ≠ b5) (fun j a => ⟨a.1, fun e => by have h9 := a.2; omega⟩))
              clear hy hb5
              replace KV := Lib.hid (KV.out.quiet hk)
              replace RV := Lib.hid (RV.out.keep hk (fun _ a => a.elim))
              have A4 := Lib.hid ha4
              have L4 := Lib.hid hl4
              clear ha4 hl4
              refine hK _ _ (Or.inr (hHeld.quiet hk)) (fun hHeld => ?_)
              clear hK K
              replace hHeld := hHeld.resolve_left (by decide)
              try simp only [Act.put, List.setIfInBounds_toArray, List.set_cons_zero, List.set_cons_succ]
              clear hk
              have j0 := cellAt A4.out 0
              have j1 := cellAt A4.out 1
              have j2 := cellAt A4.out 2
              have j3 := cellAt A4.out 3
              have j4 := cellAt A4.out 4
              have j5 := cellAt A4.out 5
              have j6 := cellAt A4.out 6
              have j7 := cellAt A4.out 7
              have j8 := cellAt A4.out 8
              have j9 := cellAt A4.out 9
              have j10 := cellAt A4.out 10
              have k0 := freeAt A4.out 0
              have k1 := freeAt A4.out 1
              have k2 := freeAt A4.out 2
              have k3 := freeAt A4.out 3
              have k4 := freeAt A4.out 4
              have k5 := freeAt A4.out 5
              have k6 := freeAt A4.out 6
              have k7 := freeAt A4.out 7
              have k8 := freeAt A4.out 8
              have k9 := freeAt A4.out 9
              have k10 := freeAt A4.out 10
              simp at j0 j1 j2 j3 j4 j5 j6 j7 j8 j9 j10
              refine z_one 11 rfl (by kernel_rfl) (by rfl) (fun K hK => ?_)
              simp only [List.getElem_toArray, List.getElem_cons_zero, List.getElem_cons_succ]
              have h5 := heap_eleven A4.out (.slice a0x n0x e0x) (.slice a1x n1x e1x) (.slice a2x n2x e2x) (.slice a3x n2x e3x) (.bool bcx) (.int .i64 (hfx : Int)) (.int .i64 (usx : Int)) (.slice a7x n7x e7x) (.int .i64 atx) (.int .u64 (tnx : Int)) (.slice akx nkx ekx)
              have k5 := keeps_eleven t2_ b5 (.slice a0x n0x e0x) (.slice a1x n1x e1x) (.slice a2x n2x e2x) (.slice a3x n2x e3x) (.bool bcx) (.int .i64 (hfx : Int)) (.int .i64 (usx : Int)) (.slice a7x n7x e7x) (.int .i64 atx) (.int .u64 (tnx : Int)) (.slice akx nkx ekx)
              obtain ⟨xx, hxx⟩ : ∃ v, (((((((((((t2_.setCell ⟨b5, 0, none⟩ (.slice a0x n0x e0x)).setCell ⟨b5, 1, none⟩ (.slice a1x n1x e1x)).setCell ⟨b5, 2, none⟩ (.slice a2x n2x e2x)).setCell ⟨b5, 3, none⟩ (.slice a3x n2x e3x)).setCell ⟨b5, 4, none⟩ (.bool bcx)).setCell ⟨b5, 5, none⟩ (.int .i64 (hfx : Int))).setCell ⟨b5, 6, none⟩ (.int .i64 (usx : Int))).setCell ⟨b5, 7, none⟩ (.slice a7x n7x e7x)).setCell ⟨b5, 8, none⟩ (.int .i64 atx)).setCell ⟨b5, 9, none⟩ (.int .u64 (tnx : Int))).setCell ⟨b5, 10, none⟩ (.slice akx nkx ekx)) = v := ⟨_, rfl⟩
              rw [hxx] at h5 k5
              have HF : Hid (PlN wr (fun j => ¬ F j ∧ j ≠ br) S2 r2 (.pointer (some ⟨b5, 0, none⟩)) (.int .i64 r2) xx) := Lib.hid ⟨b5, _, rfl, rfl, h5, (RV.out.keep k5 (fun j e a => a.2 e)).weak (fun j a => a.1), KV.out.trans k5 (fun j hj e => by have := L4.out; have e' : j = b5 := e; omega), L4.out⟩
              have hS6 := Lib.hid (hHeld.trans k5 (fun j hj e => by have := L4.out; have h0 := HV0.out; have e' : j = b5 := e; omega))
              clear h5 k5
              go_simp
              refine hK _ _ (Or.inr hS6.out) (fun hHeld => ?_)
              clear hK K hxx
              replace hHeld := hS6.out
              clear hS6
              try simp only [Act.put, List.setIfInBounds_toArray, List.set_cons_zero, List.set_cons_succ]
              refine z_one 12 rfl (by kernel_rfl) (by rfl) (fun K hK => ?_)
              simp only [List.getElem_toArray, List.getElem_cons_zero, List.getElem_cons_succ]
              go_simp
              refine hK _ _ (Or.inr ?_) (fun hHeld => ?_)
              · exact hHeld
              clear hK K
              replace hHeld := hHeld.resolve_left (by decide)
              try simp only [Act.put, List.setIfInBounds_toArray, List.set_cons_zero, List.set_cons_succ]
              refine z_done (by kernel_rfl) ?_ _
              clear hHeld
              go_wp2_with fail
              go_meet
              exact HF.out
            · skip
              simp only [List.getElem_toArray, List.getElem_cons_zero, List.getElem_cons_succ]
              obtain ⟨b5, hb5⟩ : ∃ g, v0.heap.size = g := ⟨_, rfl⟩
              obtain ⟨t3_, hy⟩ : ∃ v, World.alloc v0 (.cells #[.slice none 0 0, .slice none 0 0, .slice none 0 0, .slice none 0 0, .bool false, .int .i64 0, .int .i64 0, .slice none 0 0, .int .i64 0, .int .u64 0, .slice none 0 0] 41) = v := ⟨_, rfl⟩
              have hk : Keeps (fun _ => False) v0 t3_ := by rw [← hy]; exact (Keeps.refl _ v0).alloc _
              have ha4 : t3_.heap[b5]? = some (.cells #[.slice none 0 0, .slice none 0 0, .slice none 0 0, .slice none 0 0, .bool false, .int .i64 0, .int .i64 0, .slice none 0 0, .int .i64 0, .int .u64 0, .slice none 0 0] 41 (0, 0)) := by rw [← hy, ← hb5]; exact World.alloc_heap_new v0 _
              have hl4 : wr.heap.size ≤ b5 := by rw [← hb5]; exact KV.out.size
              go_simp
              clear hy hb5
              replace KV := Lib.hid (KV.out.quiet hk)
              have A4 := Lib.hid ha4
              have L4 := Lib.hid hl4
              clear ha4 hl4
              refine hK _ _ (Or.inr (hHeld.quiet hk)) (fun hHeld => ?_)
              clear hK K
              replace hHeld := hHeld.resolve_left (by decide)
              try simp only [Act.put, List.setIfInBounds_toArray, List.set_cons_zero, List.set_cons_succ]
              clear hk
              refine z_one 6 rfl (by kernel_rfl) (by rfl) (fun K hK => ?_)
              simp only [List.getElem_toArray, List.getElem_cons_zero, List.getElem_cons_succ]
              have hw := HCR.out t3_ KV.out
              go_simp
              refine hw.mono ?_
              rintro e t4_ ⟨v1, rfl, hra, hk⟩
              obtain ⟨a0x, n0x, e0x, a1x, n1x, e1x, a2x, n2x, e2x, a3x, e3x, bcx, hfx, usx, a7x, n7x, e7x, atx, tnx, akx, nkx, ekx, rfl, _⟩ := rs_all hra
              clear hw
              have hrv := hra.weak (P' := fun j => ((¬ F j ∧ j ≠ br) ∨ wr.heap.size ≤ j) ∧ j ≠ b5) (fun j a => ⟨a.elim (fun b => Or.inl ⟨b.1, b.2.1⟩) (fun b => Or.inr (Nat.le_trans KV.out.size b)), fun e => a.elim (fun b => by have := L4.out; have := b.2.2; omega) (fun b => by have := lt_of_heap A4.out; omega)⟩)
              replace KV := Lib.hid (KV.out.quiet hk)
              replace A4 := Lib.hid ((hk.block b5 (lt_of_heap A4.out) (fun h => h)).trans A4.out)
              have RV := Lib.hid hrv
              clear hra hrv
              refine hK _ _ (Or.inr (hHeld.quiet hk)) (fun hHeld => ?_)
              clear hK K
              replace hHeld := hHeld.resolve_left (by decide)
              try simp only [Act.put, List.setIfInBounds_toArray, List.set_cons_zero, List.set_cons_succ]
              clear hk
              refine z_take 7 (v := ?_) rfl (by kernel_rfl) (by kernel_rfl) (by kernel_rfl) (by kernel_rfl) (fun _ _ _ h => h) hHeld (by rfl) (fun w hSw => ?_) ?_
              rotate_left
              · clear hSw; simp only [List.getElem_toArray, List.getElem_cons_zero, List.getElem_cons_succ]; go_simp; try rfl
              simp only [Act.put, List.getElem_toArray, List.getElem_cons_zero, List.getElem_cons_succ, List.setIfInBounds_toArray, List.set_cons_zero, List.set_cons_succ]
              refine z_take 8 (v := ?_) rfl (by kernel_rfl) (by kernel_rfl) (by kernel_rfl) (by kernel_rfl) (fun _ _ _ h => h) hHeld (by rfl) (fun w hSw => ?_) ?_
              rotate_left
              · clear hSw; simp only [List.getElem_toArray, List.getElem_cons_zero, List.getElem_cons_succ]; go_simp; try rfl
              simp only [Act.put, List.getElem_toArray, List.getElem_cons_zero, List.getElem_cons_succ, List.setIfInBounds_toArray, List.set_cons_zero, List.set_cons_succ]
              refine z_take 9 (v := ?_) rfl (by kernel_rfl) (by kernel_rfl) (by kernel_rfl) (by kernel_rfl) (fun _ _ _ h => h) hHeld (by rfl) (fun w hSw => ?_) ?_
              rotate_left
              · clear hSw; simp only [List.getElem_toArray, List.getElem_cons_zero, List.getElem_cons_succ]; go_simp; try rfl
              simp only [Act.put, List.getElem_toArray, List.getElem_cons_zero, List.getElem_cons_succ, List.setIfInBounds_toArray, List.set_cons_zero, List.set_cons_succ]
              have j0 := cellAt A4.out 0
              have j1 := cellAt A4.out 1
              have j2 := cellAt A4.out 2
              have j3 := cellAt A4.out 3
              have j4 := cellAt A4.out 4
              have j5 := cellAt A4.out 5
              have j6 := cellAt A4.out 6
              have j7 := cellAt A4.out 7
              have j8 := cellAt A4.out 8
              have j9 := cellAt A4.out 9
              have j10 := cellAt A4.out 10
              have k0 := freeAt A4.out 0
              have k1 := freeAt A4.out 1
              have k2 := freeAt A4.out 2
              have k3 := freeAt A4.out 3
              have k4 := freeAt A4.out 4
              have k5 := freeAt A4.out 5
              have k6 := freeAt A4.out 6
              have k7 := freeAt A4.out 7
              have k8 := freeAt A4.out 8
              have k9 := freeAt A4.out 9
              have k10 := freeAt A4.out 10
              simp at j0 j1 j2 j3 j4 j5 j6 j7 j8 j9 j10
              refine z_one 11 rfl (by kernel_rfl) (by rfl) (fun K hK => ?_)
              simp only [List.getElem_toArray, List.getElem_cons_zero, List.getElem_cons_succ]
              have h5 := heap_eleven A4.out (.slice a0x n0x e0x) (.slice a1x n1x e1x) (.slice a2x n2x e2x) (.slice a3x n2x e3x) (.bool bcx) (.int .i64 (hfx : Int)) (.int .i64 (usx : Int)) (.slice a7x n7x e7x) (.int .i64 atx) (.int .u64 (tnx : Int)) (.slice akx nkx ekx)
              have k5 := keeps_eleven t4_ b5 (.slice a0x n0x e0x) (.slice a1x n1x e1x) (.slice a2x n2x e2x) (.slice a3x n2x e3x) (.bool bcx) (.int .i64 (hfx : Int)) (.int .i64 (usx : Int)) (.slice a7x n7x e7x) (.int .i64 atx) (.int .u64 (tnx : Int)) (.slice akx nkx ekx)
              obtain ⟨xx, hxx⟩ : ∃ v, (((((((((((t4_.setCell ⟨b5, 0, none⟩ (.slice a0x n0x e0x)).setCell ⟨b5, 1, none⟩ (.slice a1x n1x e1x)).setCell ⟨b5, 2, none⟩ (.slice a2x n2x e2x)).setCell ⟨b5, 3, none⟩ (.slice a3x n2x e3x)).setCell ⟨b5, 4, none⟩ (.bool bcx)).setCell ⟨b5, 5, none⟩ (.int .i64 (hfx : Int))).setCell ⟨b5, 6, none⟩ (.int .i64 (usx : Int))).setCell ⟨b5, 7, none⟩ (.slice a7x n7x e7x)).setCell ⟨b5, 8, none⟩ (.int .i64 atx)).setCell ⟨b5, 9, none⟩ (.int .u64 (tnx : Int))).setCell ⟨b5, 10, none⟩ (.slice akx nkx ekx)) = v := ⟨_, rfl⟩
              rw [hxx] at h5 k5
              have HF : Hid (PlN wr (fun j => ¬ F j ∧ j ≠ br) S2 r2 (.pointer (some ⟨b5, 0, none⟩)) (.int .i64 r2) xx) := Lib.hid ⟨b5, _, rfl, rfl, h5, (RV.out.keep k5 (fun j e a => a.2 e)).weak (fun j a => a.1), KV.out.trans k5 (fun j hj e => by have := L4.out; have e' : j = b5 := e; omega), L4.out⟩
              have hS6 := Lib.hid (hHeld.trans k5 (fun j hj e => by have := L4.out; have h0 := HV0.out; have e' : j = b5 := e; omega))
              clear h5 k5
              go_simp
              refine hK _ _ (Or.inr hS6.out) (fun hHeld => ?_)
              clear hK K hxx
              replace hHeld := hS6.out
              clear hS6
              try simp only [Act.put, List.setIfInBounds_toArray, List.set_cons_zero, List.set_cons_succ]
              refine z_one 12 rfl (by kernel_rfl) (by rfl) (fun K hK => ?_)
              simp only [List.getElem_toArray, List.getElem_cons_zero, List.getElem_cons_succ]
              go_simp
              refine hK _ _ (Or.inr ?_) (fun hHeld => ?_)
              · exact hHeld
              clear hK K
              replace hHeld := hHeld.resolve_left (by decide)
              try simp only [Act.put, List.setIfInBounds_toArray, List.set_cons_zero, List.set_cons_succ]
              refine z_done (by kernel_rfl) ?_ _
              clear hHeld
              go_wp2_with fail
              go_meet
              exact HF.out
          case rest =>
            obtain ⟨b5, v5, rfl, rfl, h5, hra, hk, hl5⟩ := hcut
            rename World => wx
            obtain ⟨a0y, n0y, e0y, a1y, n1y, e1y, a2y, n2y, e2y, a3y, e3y, bcy, hfy, usy, a7y, n7y, e7y, aty, tny, aky, nky, eky, rfl, _⟩ := rs_all hra
            have hbr := (hk.block br (lt_of_heap HBX.out) (fun h => h)).trans HBX.out
            have h6 := heap_eleven hbr (.slice a0y n0y e0y) (.slice a1y n1y e1y) (.slice a2y n2y e2y) (.slice a3y n2y e3y) (.bool bcy) (.int .i64 (hfy : Int)) (.int .i64 (usy : Int)) (.slice a7y n7y e7y) (.int .i64 aty) (.int .u64 (tny : Int)) (.slice aky nky eky)
            have k6 := keeps_eleven wx br (.slice a0y n0y e0y) (.slice a1y n1y e1y) (.slice a2y n2y e2y) (.slice a3y n2y e3y) (.bool bcy) (.int .i64 (hfy : Int)) (.int .i64 (usy : Int)) (.slice a7y n7y e7y) (.int .i64 aty) (.int .u64 (tny : Int)) (.slice aky nky eky)
            obtain ⟨wy, hwy⟩ : ∃ v, (((((((((((wx.setCell ⟨br, 0, none⟩ (.slice a0y n0y e0y)).setCell ⟨br, 1, none⟩ (.slice a1y n1y e1y)).setCell ⟨br, 2, none⟩ (.slice a2y n2y e2y)).setCell ⟨br, 3, none⟩ (.slice a3y n2y e3y)).setCell ⟨br, 4, none⟩ (.bool bcy)).setCell ⟨br, 5, none⟩ (.int .i64 (hfy : Int))).setCell ⟨br, 6, none⟩ (.int .i64 (usy : Int))).setCell ⟨br, 7, none⟩ (.slice a7y n7y e7y)).setCell ⟨br, 8, none⟩ (.int .i64 aty)).setCell ⟨br, 9, none⟩ (.int .u64 (tny : Int))).setCell ⟨br, 10, none⟩ (.slice aky nky eky)) = v := ⟨_, rfl⟩
            rw [hwy] at h6 k6
            have HRN := Lib.hid (HRS.out.next HX.out.st.flt hra h6 k6)
            have HXY := Lib.hid ((HX.out.quiet hk).box k6 HRS.out.ap HBR.out)
            obtain ⟨c0', c1', hsl, hbf⟩ := HCA.out wy HXY.out.kp
            have c0 := cellAt h5 0
            have c1 := cellAt h5 1
            have c2 := cellAt h5 2
            have c3 := cellAt h5 3
            have c4 := cellAt h5 4
            have c5 := cellAt h5 5
            have c6 := cellAt h5 6
            have c7 := cellAt h5 7
            have c8 := cellAt h5 8
            have c9 := cellAt h5 9
            have c10 := cellAt h5 10
            simp at c0 c1 c2 c3 c4 c5 c6 c7 c8 c9 c10
            have d0 := cellAt hbr 0
            have d1 := cellAt hbr 1
            have d2 := cellAt hbr 2
            have d3 := cellAt hbr 3
            have d4 := cellAt hbr 4
            have d5 := cellAt hbr 5
            have d6 := cellAt hbr 6
            have d7 := cellAt hbr 7
            have d8 := cellAt hbr 8
            have d9 := cellAt hbr 9
            have d10 := cellAt hbr 10
            have f0 := freeAt hbr 0
            have f1 := freeAt hbr 1
            have f2 := freeAt hbr 2
            have f3 := freeAt hbr 3
            have f4 := freeAt hbr 4
            have f5 := freeAt hbr 5
            have f6 := freeAt hbr 6
            have f7 := freeAt hbr 7
            have f8 := freeAt hbr 8
            have f9 := freeAt hbr 9
            have f10 := freeAt hbr 10
            simp at d0 d1 d2 d3 d4 d5 d6 d7 d8 d9 d10
            have HC := Lib.hid (set_any p pd S F Q wy HXY.out.st sb nb cb bb hsl (by omega) (fun ad e h0 => hbf ad e h0 F HXY.out.inF) (by rw [HX.out.good.lo]; simp) (by have := HX.out.turn; omega))
            rw [HSE.out] at HC
            have HH6 := Lib.hid h6
            clear h5 hra hbr h6 k6 hk hl5 hsl hbf
            apply_assumption
            go_wp2_with fail
            refine HC.out.mono ?_
            rintro e wz ⟨rfl, F3, Q3, hst, hk3, hF3, hQ3⟩
            have HNX := Lib.hid (HXY.out.next hst HG2.out.1 (k + 1) (by have := HX.out.turn; have := HG2.out.2; omega) hk3 hF3 hQ3)
            have HRZ := Lib.hid (HRN.out.turn hk3 hF3 hQ3)
            clear HC hst hk3 hF3 hQ3 c0' c1' hwy c0 d0 f0 c1 d1 f1 c2 d2 f2 c3 d3 f3 c4 d4 f4 c5 d5 f5 c6 d6 f6 c7 d7 f7 c8 d8 f8 c9 d9 f9 c10 d10 f10
            go_wp2_with fail
            go_meet
            exact ⟨p, pd, S2, F3, Q3, _, rfl, rfl, HNX.out, HRZ.out⟩
        · by_cases hd3 : doo = 3
          · subst hd3
            obtain ⟨Fd, so, co, vs, sk, ck, hstA⟩ := HX.out.st
            have hFd : ∀ j, Fd j → F j := fun j h => (hstA.foot j).2 (Or.inr (Or.inl h))
            have hgl := HX.out.good.len
            have hgb := HX.out.good.big
            have hgc := good_crash HX.out.good (k : Int)
            have HAG := Lib.hid (again_any pd (k : Int) S.d Fd wr hstA.disk HX.out.good.cr (by rw [HX.out.good.lo]; simp) (by rw [HX.out.good.lo]; intro x hx; simp at hx) (by rw [HX.out.good.d]; rfl) (by have := H64.out; have := HHZ.out.1; omega) (by omega))
            rw [hgc, good_open HX.out.good] at HAG
            have HFD := Lib.hid hFd
            clear hFd hstA hgl hgb hgc c0 c1
            go_wp2_with fail
            refine HAG.out.mono ?_
            rintro e wx ⟨qd, pz, F3, Q3, rfl, hst, hk, hF3, hQ3⟩
            have hkF : Keeps F wr wx := hk.mono (fun j _ a => HFD.out j a)
            have HNX := Lib.hid (HX.out.next hst HX.out.good (k + 1) (by have := HX.out.turn; omega) hkF (fun j a => Or.inr (hF3 j a)) (fun j a => Or.inr (hQ3 j a)))
            have HRT := Lib.hid (HRS.out.turn hkF (fun j a => Or.inr (hF3 j a)) (fun j a => Or.inr (hQ3 j a)))
            obtain ⟨a0y, n0y, e0y, a1y, n1y, e1y, a2y, n2y, e2y, a3y, e3y, bcy, hfy, usy, a7y, n7y, e7y, aty, tny, aky, nky, eky, hv, hra, hrf, _⟩ := rs_all HRT.out.ref
            have hbx := HRT.out.box
            rw [hv] at hbx
            have HOP := Lib.hid (refOpen_ok S.d _ wx hra HX.out.good.cr (by rw [HX.out.good.lo]; simp) (by have := HX.out.good.len; have := H64.out; have := HHZ.out.1; omega) (by have := HX.out.good.len; have := HX.out.good.big; omega))
            have HBX2 := Lib.hid hbx
            have HRF := Lib.hid hrf
            have c0 := cellAt hbx 0
            have c1 := cellAt hbx 1
            have c2 := cellAt hbx 2
            have c3 := cellAt hbx 3
            have c4 := cellAt hbx 4
            have c5 := cellAt hbx 5
            have c6 := cellAt hbx 6
            have c7 := cellAt hbx 7
            have c8 := cellAt hbx 8
            have c9 := cellAt hbx 9
            have c10 := cellAt hbx 10
            simp at c0 c1 c2 c3 c4 c5 c6 c7 c8 c9 c10
            clear hst hk hF3 hQ3 hkF hv hra hrf hbx HAG
            go_wp2_with fail
            refine HOP.out.mono ?_
            rintro e wy ⟨v6, rfl, hrs, hk⟩
            have hrs2 := hrs (fun j => (¬ F3 j ∧ j ≠ br) ∨ wx.heap.size ≤ j) (HRF.out.weak (fun j a => Or.inl a)) (fun j a => Or.inr a)
            rw [good_open HX.out.good] at hrs2
            obtain ⟨a0z, n0z, e0z, a1z, n1z, e1z, a2z, n2z, e2z, a3z, e3z, bcz, hfz, usz, a7z, n7z, e7z, atz, tnz, akz, nkz, ekz, rfl, _⟩ := rs_all hrs2
            have hbr := (hk.block br (lt_of_heap HBX2.out) (fun h => h)).trans HBX2.out
            obtain ⟨b6, hb6⟩ : ∃ b, wy.heap.size = b := ⟨_, rfl⟩
            obtain ⟨y1, hy1⟩ : ∃ v, wy.alloc (.cells #[.slice none 0 0, .slice none 0 0, .slice none 0 0, .slice none 0 0, .bool false, .int .i64 0, .int .i64 0, .slice none 0 0, .int .i64 0, .int .u64 0, .slice none 0 0] 41) = v := ⟨_, rfl⟩
            have h61 : y1.heap[b6]? = some (.cells #[.slice none 0 0, .slice none 0 0, .slice none 0 0, .slice none 0 0, .bool false, .int .i64 0, .int .i64 0, .slice none 0 0, .int .i64 0, .int .u64 0, .slice none 0 0] 41 (0, 0)) := by rw [← hy1, ← hb6]; exact World.alloc_heap_new wy _
            have ky1 : Keeps (fun _ => False) wy y1 := by rw [← hy1]; exact (Keeps.refl _ wy).alloc _
            have h62 := heap_eleven h61 (.slice a0z n0z e0z) (.slice a1z n1z e1z) (.slice a2z n2z e2z) (.slice a3z n2z e3z) (.bool bcz) (.int .i64 (hfz : Int)) (.int .i64 (usz : Int)) (.slice a7z n7z e7z) (.int .i64 atz) (.int .u64 (tnz : Int)) (.slice akz nkz ekz)
            have k62 := keeps_eleven y1 b6 (.slice a0z n0z e0z) (.slice a1z n1z e1z) (.slice a2z n2z e2z) (.slice a3z n2z e3z) (.bool bcz) (.int .i64 (hfz : Int)) (.int .i64 (usz : Int)) (.slice a7z n7z e7z) (.int .i64 atz) (.int .u64 (tnz : Int)) (.slice akz nkz ekz)
            obtain ⟨y2, hy2⟩ : ∃ v, (((((((((((y1.setCell ⟨b6, 0, none⟩ (.slice a0z n0z e0z)).setCell ⟨b6, 1, none⟩ (.slice a1z n1z e1z)).setCell ⟨b6, 2, none⟩ (.slice a2z n2z e2z)).setCell ⟨b6, 3, none⟩ (.slice a3z n2z e3z)).setCell ⟨b6, 4, none⟩ (.bool bcz)).setCell ⟨b6, 5, none⟩ (.int .i64 (hfz : Int))).setCell ⟨b6, 6, none⟩ (.int .i64 (usz : Int))).setCell ⟨b6, 7, none⟩ (.slice a7z n7z e7z)).setCell ⟨b6, 8, none⟩ (.int .i64 atz)).setCell ⟨b6, 9, none⟩ (.int .u64 (tnz : Int))).setCell ⟨b6, 10, none⟩ (.slice akz nkz ekz)) = v := ⟨_, rfl⟩
            rw [hy2] at h62 k62
            have ky2 : Keeps (fun _ => False) wy y2 := ky1.trans k62 (fun j hj e => by have e' : j = b6 := e; omega)
            have hbr2 := (ky2.block br (lt_of_heap hbr) (fun h => h)).trans hbr
            have h7 := heap_eleven hbr2 (.slice a0z n0z e0z) (.slice a1z n1z e1z) (.slice a2z n2z e2z) (.slice a3z n2z e3z) (.bool bcz) (.int .i64 (hfz : Int)) (.int .i64 (usz : Int)) (.slice a7z n7z e7z) (.int .i64 atz) (.int .u64 (tnz : Int)) (.slice akz nkz ekz)
            have k7 := keeps_eleven y2 br (.slice a0z n0z e0z) (.slice a1z n1z e1z) (.slice a2z n2z e2z) (.slice a3z n2z e3z) (.bool bcz) (.int .i64 (hfz : Int)) (.int .i64 (usz : Int)) (.slice a7z n7z e7z) (.int .i64 atz) (.int .u64 (tnz : Int)) (.slice akz nkz ekz)
            obtain ⟨wz, hwz⟩ : ∃ v, (((((((((((y2.setCell ⟨br, 0, none⟩ (.slice a0z n0z e0z)).setCell ⟨br, 1, none⟩ (.slice a1z n1z e1z)).setCell ⟨br, 2, none⟩ (.slice a2z n2z e2z)).setCell ⟨br, 3, none⟩ (.slice a3z n2z e3z)).setCell ⟨br, 4, none⟩ (.bool bcz)).setCell ⟨br, 5, none⟩ (.int .i64 (hfz : Int))).setCell ⟨br, 6, none⟩ (.int .i64 (usz : Int))).setCell ⟨br, 7, none⟩ (.slice a7z n7z e7z)).setCell ⟨br, 8, none⟩ (.int .i64 atz)).setCell ⟨br, 9, none⟩ (.int .u64 (tnz : Int))).setCell ⟨br, 10, none⟩ (.slice akz nkz ekz)) = v := ⟨_, rfl⟩
            rw [hwz] at h7 k7
            have kxy : Keeps (fun _ => False) wx y2 := hk.quiet ky2
            have HRZ := Lib.hid (HRT.out.next HNX.out.st.flt (hrs2.keep ky2 (fun _ a => a.elim)) h7 k7)
            have HNZ := Lib.hid ((HNX.out.quiet kxy).box k7 HRT.out.ap HBR.out)
            have p0 := cellAt h61 0
            have p1 := cellAt h61 1
            have p2 := cellAt h61 2
            have p3 := cellAt h61 3
            have p4 := cellAt h61 4
            have p5 := cellAt h61 5
            have p6 := cellAt h61 6
            have p7 := cellAt h61 7
            have p8 := cellAt h61 8
            have p9 := cellAt h61 9
            have p10 := cellAt h61 10
            have q0 := freeAt h61 0
            have q1 := freeAt h61 1
            have q2 := freeAt h61 2
            have q3 := freeAt h61 3
            have q4 := freeAt h61 4
            have q5 := freeAt h61 5
            have q6 := freeAt h61 6
            have q7 := freeAt h61 7
            have q8 := freeAt h61 8
            have q9 := freeAt h61 9
            have q10 := freeAt h61 10
            simp at p0 p1 p2 p3 p4 p5 p6 p7 p8 p9 p10
            have g0 := cellAt h62 0
            have g1 := cellAt h62 1
            have g2 := cellAt h62 2
            have g3 := cellAt h62 3
            have g4 := cellAt h62 4
            have g5 := cellAt h62 5
            have g6 := cellAt h62 6
            have g7 := cellAt h62 7
            have g8 := cellAt h62 8
            have g9 := cellAt h62 9
            have g10 := cellAt h62 10
            simp at g0 g1 g2 g3 g4 g5 g6 g7 g8 g9 g10
            have d0 := cellAt hbr2 0
            have d1 := cellAt hbr2 1
            have d2 := cellAt hbr2 2
            have d3 := cellAt hbr2 3
            have d4 := cellAt hbr2 4
            have d5 := cellAt hbr2 5
            have d6 := cellAt hbr2 6
            have d7 := cellAt hbr2 7
            have d8 := cellAt hbr2 8
            have d9 := cellAt hbr2 9
            have d10 := cellAt hbr2 10
            have f0 := freeAt hbr2 0
            have f1 := freeAt hbr2 1
            have f2 := freeAt hbr2 2
            have f3 := freeAt hbr2 3
            have f4 := freeAt hbr2 4
            have f5 := freeAt hbr2 5
            have f6 := freeAt hbr2 6
            have f7 := freeAt hbr2 7
            have f8 := freeAt hbr2 8
            have f9 := freeAt hbr2 9
            have f10 := freeAt hbr2 10
            simp at d0 d1 d2 d3 d4 d5 d6 d7 d8 d9 d10
            clear hrs hk hrs2 hbr h61 ky1 h62 k62 ky2 hbr2 h7 k7 kxy HOP c0 c1 c2 c3 c4 c5 c6 c7 c8 c9 c10
            go_wp2_with fail
            go_meet
            exact ⟨pz, qd, S, F3, Q3, _, rfl, rfl, HNZ.out, HRZ.out⟩
          · have hd2' : (doo == 2) = false := by simp [hd2]
            have hd3' : (doo == 3) = false := by simp [hd3]
            have hgs := good_does HX.out.good (by have := HX.out.turn; omega) doo bb
            have hes : S.does doo bb = S.append bb := by unfold SS.does; rw [if_neg hd2]
            rw [hes] at hgs
            have HCR : Hid (∀ u : World, Keeps (fun _ => False) wr u → Calls Try.prog 34 #[.agg #[.slice a0r n0r e0r, .slice a1r n1r e1r, .slice a2r n2r e2r, .slice a3r n2r e3r, .bool bcr, .int .i64 (hfr : Int), .int .i64 (usr : Int), .slice a7r n7r e7r, .int .i64 atr, .int .u64 (tnr : Int), .slice akr nkr ekr], .slice sb nb cb] u fun e w' => ∃ v', e = .returned (.tuple #[.agg v', .int .i64 (S.append bb).2]) ∧ RsAt w' (fun j => (¬ F j ∧ j ≠ br ∧ j < wr.heap.size) ∨ u.heap.size ≤ j) v' (S.append bb).1 ∧ Keeps (fun _ => False) u w') := Lib.hid (fun u hu => refAppend_ok HX.out.good ((HRS.out.ref.here (P' := fun j => ¬ F j ∧ j ≠ br ∧ j < wr.heap.size) (fun j a b => ⟨a.1, a.2, b⟩)).keep hu (fun _ a => a.elim)) sb nb cb bb (HBB.out.1.quiet hu) HBB.out.2)
            obtain ⟨Y, hY⟩ : ∃ y, S.append bb = y := ⟨_, rfl⟩
            rw [hY] at hgs HCR
            obtain ⟨S2, r2⟩ := Y
            have HG2 := Lib.hid hgs
            have HSE := Lib.hid hY
            have eD : (r2 != r2) = false := by simp
            clear hgs hes hY c0 c1
            go_upto_region 11 with (fail)
            go_cut [18, 19] (fun s12 s13 wx => PlN wr (fun j => ¬ F j ∧ j ≠ br) S2 r2 s12 s13 wx)
            case first =>
              obtain ⟨v0, hdr⟩ : ∃ v, World.drew wr = v := ⟨_, rfl⟩
              have hk : Keeps (fun _ => False) wr v0 := by rw [← hdr]; exact (Keeps.refl _ _).drew
              refine z_begin (fun w' => Keeps (fun _ => False) (World.drew wr) w') 13 (by kernel_rfl) (Keeps.refl _ _) (fun hHeld => ?_)
              rw [hdr] at hHeld ⊢
              have HB := Lib.hid ((hk.block br (lt_of_heap HBX.out) (fun h => h)).trans HBX.out)
              have HAC0 := Lib.hid (HX.out.kp.quiet hk)
              have KV : Hid (Keeps (fun _ => False) wr v0) := Lib.hid hk
              have HV0 : Hid (v0.heap.size = wr.heap.size) := Lib.hid (by rw [← hdr]; rfl)
              clear hk hdr
              refine z_take 0 (v := ?_) rfl (by kernel_rfl) (by kernel_rfl) (by kernel_rfl) (by kernel_rfl) (fun _ _ _ h => h) hHeld (by rfl) (fun w hSw => ?_) ?_
              rotate_left
              · have hb := (hSw.block br (lt_of_heap HB.out) (fun h => h)).trans HB.out; have c0 := cellAt hb 0; have c1 := cellAt hb 1; have c2 := cellAt hb 2; have c3 := cellAt hb 3; have c4 := cellAt hb 4; have c5 := cellAt hb 5; have c6 := cellAt hb 6; have c7 := cellAt hb 7; have c8 := cellAt hb 8; have c9 := cellAt hb 9; have c10 := cellAt hb 10; simp at c0 c1 c2 c3 c4 c5 c6 c7 c8 c9 c10; clear hb; clear hSw; simp only [List.getElem_toArray, List.getElem_cons_zero]; go_simp; try rfl
              simp only [Act.put, List.getElem_toArray, List.getElem_cons_zero, List.setIfInBounds_toArray, List.set_cons_zero, List.set_cons_succ]
              refine z_take 1 (v := ?_) rfl (by kernel_rfl) (by kernel_rfl) (by kernel_rfl) (by kernel_rfl) (fun _ _ _ h => h) hHeld (by rfl) (fun w hSw => ?_) ?_
              rotate_left
              · clear hSw; simp only [List.getElem_toArray, List.getElem_cons_zero, List.getElem_cons_succ]; go_simp; try rfl
              simp only [Act.put, List.getElem_toArray, List.getElem_cons_zero, List.getElem_cons_succ, List.setIfInBounds_toArray, List.set_cons_zero, List.set_cons_succ]
              refine z_take 2 (v := ?_) rfl (by kernel_rfl) (by kernel_rfl) (by kernel_rfl) (by kernel_rfl) (fun _ _ _ h => h) hHeld (by rfl) (fun w hSw => ?_) ?_
              rotate_left
              · clear hSw; simp only [List.getElem_toArray, List.getElem_cons_zero, List.getElem_cons_succ]; go_simp; try rfl
              simp only [Act.put, List.getElem_toArray, List.getElem_cons_zero, List.getElem_cons_succ, List.setIfInBounds_toArray, List.set_cons_zero, List.set_cons_succ]
              refine z_take 3 (v := ?_) rfl (by kernel_rfl) (by kernel_rfl) (by kernel_rfl) (by kernel_rfl) (fun _ _ _ h => h) hHeld (by rfl) (fun w hSw => ?_) ?_
              rotate_left
              · obtain ⟨c0, c1, _, _⟩ := HCA.out w (HAC0.out.quiet hSw); clear hSw; simp only [List.getElem_toArray, List.getElem_cons_zero, List.getElem_cons_succ]; go_simp; try rfl
              simp only [Act.put, List.getElem_toArray, List.getElem_cons_zero, List.getElem_cons_succ, List.setIfInBounds_toArray, List.set_cons_zero, List.set_cons_succ]
              refine z_take 4 (v := ?_) rfl (by kernel_rfl) (by kernel_rfl) (by kernel_rfl) (by kernel_rfl) (fun _ _ _ h => h) hHeld (by rfl) (fun w hSw => ?_) ?_
              rotate_left
              · obtain ⟨c0, c1, _, _⟩ := HCA.out w (HAC0.out.quiet hSw); clear hSw; simp only [List.getElem_toArray, List.getElem_cons_zero, List.getElem_cons_succ]; go_simp; try rfl
              simp only [Act.put, List.getElem_toArray, List.getElem_cons_zero, List.getElem_cons_succ, List.setIfInBounds_toArray, List.set_cons_zero, List.set_cons_succ]
              refine z_take 5 (v := ?_) rfl (by kernel_rfl) (by kernel_rfl) (by kernel_rfl) (by kernel_rfl) (fun _ _ _ h => h) hHeld (by rfl) (fun w hSw => ?_) ?_
              rotate_left
              · obtain ⟨c0, c1, _, _⟩ := HCA.out w (HAC0.out.quiet hSw); clear hSw; simp only [List.getElem_toArray, List.getElem_cons_zero, List.getElem_cons_succ]; go_simp; try rfl
              simp only [Act.put, List.getElem_toArray, List.getElem_cons_zero, List.getElem_cons_succ, List.setIfInBounds_toArray, List.set_cons_zero, List.set_cons_succ]
              refine z_two 6 10 rfl rfl (by kernel_rfl) (by rfl) (by rfl) (fun K hK => ?_) (fun K hK => ?_)
              · skip
                simp only [List.getElem_toArray, List.getElem_cons_zero, List.getElem_cons_succ]
                have hw := HCR.out v0 KV.out
                go_simp
                refine hw.mono ?_
                rintro e t1_ ⟨v1, rfl, hra, hk⟩
                obtain ⟨a0x, n0x, e0x, a1x, n1x, e1x, a2x, n2x, e2x, a3x, e3x, bcx, hfx, usx, a7x, n7x, e7x, atx, tnx, akx, nkx, ekx, rfl, _⟩ := rs_all hra
                clear hw
                have hrv := hra.here (P' := fun j => ((¬ F j ∧ j ≠ br) ∨ wr.heap.size ≤ j) ∧ j < t1_.heap.size) (fun j a c => ⟨a.elim (fun b => Or.inl ⟨b.1, b.2.1⟩) (fun b => Or.inr (Nat.le_trans KV.out.size b)), c⟩)
                replace KV := Lib.hid (KV.out.quiet hk)
                have RV := Lib.hid hrv
                clear hra hrv
                refine hK _ _ (Or.inr (hHeld.quiet hk)) (fun hHeld => ?_)
                clear hK K
                replace hHeld := hHeld.resolve_left (by decide)
                try simp only [Act.put, List.setIfInBounds_toArray, List.set_cons_zero, List.set_cons_succ]
                clear hk
                refine z_take 7 (v := ?_) rfl (by kernel_rfl) (by kernel_rfl) (by kernel_rfl) (by kernel_rfl) (fun _ _ _ h => h) hHeld (by rfl) (fun w hSw => ?_) ?_
                rotate_left
                · clear hSw; simp only [List.getElem_toArray, List.getElem_cons_zero, List.getElem_cons_succ]; go_simp; try rfl
                simp only [Act.put, List.getElem_toArray, List.getElem_cons_zero, List.getElem_cons_succ, List.setIfInBounds_toArray, List.set_cons_zero, List.set_cons_succ]
                refine z_take 8 (v := ?_) rfl (by kernel_rfl) (by kernel_rfl) (by kernel_rfl) (by kernel_rfl) (fun _ _ _ h => h) hHeld (by rfl) (fun w hSw => ?_) ?_
                rotate_left
                · clear hSw; simp only [List.getElem_toArray, List.getElem_cons_zero, List.getElem_cons_succ]; go_simp; try rfl
                simp only [Act.put, List.getElem_toArray, List.getElem_cons_zero, List.getElem_cons_succ, List.setIfInBounds_toArray, List.set_cons_zero, List.set_cons_succ]
                refine z_take 9 (v := ?_) rfl (by kernel_rfl) (by kernel_rfl) (by kernel_rfl) (by kernel_rfl) (fun _ _ _ h => h) hHeld (by rfl) (fun w hSw => ?_) ?_
                rotate_left
                · clear hSw; simp only [List.getElem_toArray, List.getElem_cons_zero, List.getElem_cons_succ]; go_simp; try rfl
                simp only [Act.put, List.getElem_toArray, List.getElem_cons_zero, List.getElem_cons_succ, List.setIfInBounds_toArray, List.set_cons_zero, List.set_cons_succ]
                refine z_one 10 rfl (by kernel_rfl) (by rfl) (fun K hK => ?_)
                simp only [List.getElem_toArray, List.getElem_cons_zero, List.getElem_cons_succ]
                obtain ⟨b5, hb5⟩ : ∃ g, t1_.heap.size = g := ⟨_, rfl⟩
                obtain ⟨t2_, hy⟩ : ∃ v, World.alloc t1_ (.cells #[.slice none 0 0, .slice none 0 0, .slice none 0 0, .slice none 0 0, .bool false, .int .i64 0, .int .i64 0, .slice none 0 0, .int .i64 0, .int .u64 0, .slice none 0 0] 41) = v := ⟨_, rfl⟩
                have hk : Keeps (fun _ => False) t1_ t2_ := by rw [← hy]; exact (Keeps.refl _ t1_).alloc _
                have ha4 : t2_.heap[b5]? = some (.cells #[.slice none 0 0, .slice none 0 0, .slice none 0 0, .slice none 0 0, .bool false, .int .i64 0, .int .i64 0, .slice none 0 0, .int .i64 0, .int .u64 0, .slice none 0 0] 41 (0, 0)) := by rw [← hy, ← hb5]; exact World.alloc_heap_new t1_ _
                have hl4 : wr.heap.size ≤ b5 := by rw [← hb5]; exact KV.out.size
                go_simp
                replace RV := Lib.hid (RV.out.weak (P' := fun j => ((¬ F j ∧ j ≠ br) ∨ wr.heap.size ≤ j) ∧ j ≠ b5) (fun j a => ⟨a.1, fun e => by have h9 := a.2; omega⟩))
                clear hy hb5
                replace KV := Lib.hid (KV.out.quiet hk)
                replace RV := Lib.hid (RV.out.keep hk (fun _ a => a.elim))
                have A4 := Lib.hid ha4
                have L4 := Lib.hid hl4
                clear ha4 hl4
                refine hK _ _ (Or.inr (hHeld.quiet hk)) (fun hHeld => ?_)
                clear hK K
                replace hHeld := hHeld.resolve_left (by decide)
                try simp only [Act.put, List.setIfInBounds_toArray, List.set_cons_zero, List.set_cons_succ]
                clear hk
                have j0 := cellAt A4.out 0
                have j1 := cellAt A4.out 1
                have j2 := cellAt A4.out 2
                have j3 := cellAt A4.out 3
                have j4 := cellAt A4.out 4
                have j5 := cellAt A4.out 5
                have j6 := cellAt A4.out 6
                have j7 := cellAt A4.out 7
                have j8 := cellAt A4.out 8
                have j9 := cellAt A4.out 9
                have j10 := cellAt A4.out 10
                have k0 := freeAt A4.out 0
                have k1 := freeAt A4.out 1
                have k2 := freeAt A4.out 2
                have k3 := freeAt A4.out 3
                have k4 := freeAt A4.out 4
                have k5 := freeAt A4.out 5
                have k6 := freeAt A4.out 6
                have k7 := freeAt A4.out 7
                have k8 := freeAt A4.out 8
                have k9 := freeAt A4.out 9
                have k10 := freeAt A4.out 10
                simp at j0 j1 j2 j3 j4 j5 j6 j7 j8 j9 j10
                refine z_one 11 rfl (by kernel_rfl) (by rfl) (fun K hK => ?_)
                simp only [List.getElem_toArray, List.getElem_cons_zero, List.getElem_cons_succ]
                have h5 := heap_eleven A4.out (.slice a0x n0x e0x) (.slice a1x n1x e1x) (.slice a2x n2x e2x) (.slice a3x n2x e3x) (.bool bcx) (.int .i64 (hfx : Int)) (.int .i64 (usx : Int)) (.slice a7x n7x e7x) (.int .i64 atx) (.int .u64 (tnx : Int)) (.slice akx nkx ekx)
                have k5 := keeps_eleven t2_ b5 (.slice a0x n0x e0x) (.slice a1x n1x e1x) (.slice a2x n2x e2x) (.slice a3x n2x e3x) (.bool bcx) (.int .i64 (hfx : Int)) (.int .i64 (usx : Int)) (.slice a7x n7x e7x) (.int .i64 atx) (.int .u64 (tnx : Int)) (.slice akx nkx ekx)
                obtain ⟨xx, hxx⟩ : ∃ v, (((((((((((t2_.setCell ⟨b5, 0, none⟩ (.slice a0x n0x e0x)).setCell ⟨b5, 1, none⟩ (.slice a1x n1x e1x)).setCell ⟨b5, 2, none⟩ (.slice a2x n2x e2x)).setCell ⟨b5, 3, none⟩ (.slice a3x n2x e3x)).setCell ⟨b5, 4, none⟩ (.bool bcx)).setCell ⟨b5, 5, none⟩ (.int .i64 (hfx : Int))).setCell ⟨b5, 6, none⟩ (.int .i64 (usx : Int))).setCell ⟨b5, 7, none⟩ (.slice a7x n7x e7x)).setCell ⟨b5, 8, none⟩ (.int .i64 atx)).setCell ⟨b5, 9, none⟩ (.int .u64 (tnx : Int))).setCell ⟨b5, 10, none⟩ (.slice akx nkx ekx)) = v := ⟨_, rfl⟩
                rw [hxx] at h5 k5
                have HF : Hid (PlN wr (fun j => ¬ F j ∧ j ≠ br) S2 r2 (.pointer (some ⟨b5, 0, none⟩)) (.int .i64 r2) xx) := Lib.hid ⟨b5, _, rfl, rfl, h5, (RV.out.keep k5 (fun j e a => a.2 e)).weak (fun j a => a.1), KV.out.trans k5 (fun j hj e => by have := L4.out; have e' : j = b5 := e; omega), L4.out⟩
                have hS6 := Lib.hid (hHeld.trans k5 (fun j hj e => by have := L4.out; have h0 := HV0.out; have e' : j = b5 := e; omega))
                clear h5 k5
                go_simp
                refine hK _ _ (Or.inr hS6.out) (fun hHeld => ?_)
                clear hK K hxx
                replace hHeld := hS6.out
                clear hS6
                try simp only [Act.put, List.setIfInBounds_toArray, List.set_cons_zero, List.set_cons_succ]
                refine z_one 12 rfl (by kernel_rfl) (by rfl) (fun K hK => ?_)
                simp only [List.getElem_toArray, List.getElem_cons_zero, List.getElem_cons_succ]
                go_simp
                refine hK _ _ (Or.inr ?_) (fun hHeld => ?_)
                · exact hHeld
                clear hK K
                replace hHeld := hHeld.resolve_left (by decide)
                try simp only [Act.put, List.setIfInBounds_toArray, List.set_cons_zero, List.set_cons_succ]
                refine z_done (by kernel_rfl) ?_ _
                clear hHeld
                go_wp2_with fail
                go_meet
                exact HF.out
              · skip
                simp only [List.getElem_toArray, List.getElem_cons_zero, List.getElem_cons_succ]
                obtain ⟨b5, hb5⟩ : ∃ g, v0.heap.size = g := ⟨_, rfl⟩
                obtain ⟨t3_, hy⟩ : ∃ v, World.alloc v0 (.cells #[.slice none 0 0, .slice none 0 0, .slice none 0 0, .slice none 0 0, .bool false, .int .i64 0, .int .i64 0, .slice none 0 0, .int .i64 0, .int .u64 0, .slice none 0 0] 41) = v := ⟨_, rfl⟩
                have hk : Keeps (fun _ => False) v0 t3_ := by rw [← hy]; exact (Keeps.refl _ v0).alloc _
                have ha4 : t3_.heap[b5]? = some (.cells #[.slice none 0 0, .slice none 0 0, .slice none 0 0, .slice none 0 0, .bool false, .int .i64 0, .int .i64 0, .slice none 0 0, .int .i64 0, .int .u64 0, .slice none 0 0] 41 (0, 0)) := by rw [← hy, ← hb5]; exact World.alloc_heap_new v0 _
                have hl4 : wr.heap.size ≤ b5 := by rw [← hb5]; exact KV.out.size
                go_simp
                clear hy hb5
                replace KV := Lib.hid (KV.out.quiet hk)
                have A4 := Lib.hid ha4
                have L4 := Lib.hid hl4
                clear ha4 hl4
                refine hK _ _ (Or.inr (hHeld.quiet hk)) (fun hHeld => ?_)
                clear hK K
                replace hHeld := hHeld.resolve_left (by decide)
                try simp only [Act.put, List.setIfInBounds_toArray, List.set_cons_zero, List.set_cons_succ]
                clear hk
                refine z_one 6 rfl (by kernel_rfl) (by rfl) (fun K hK => ?_)
                simp only [List.getElem_toArray, List.getElem_cons_zero, List.getElem_cons_succ]
                have hw := HCR.out t3_ KV.out
                go_simp
                refine hw.mono ?_
                rintro e t4_ ⟨v1, rfl, hra, hk⟩
                obtain ⟨a0x, n0x, e0x, a1x, n1x, e1x, a2x, n2x, e2x, a3x, e3x, bcx, hfx, usx, a7x, n7x, e7x, atx, tnx, akx, nkx, ekx, rfl, _⟩ := rs_all hra
                clear hw
                have hrv := hra.weak (P' := fun j => ((¬ F j ∧ j ≠ br) ∨ wr.heap.size ≤ j) ∧ j ≠ b5) (fun j a => ⟨a.elim (fun b => Or.inl ⟨b.1, b.2.1⟩) (fun b => Or.inr (Nat.le_trans KV.out.size b)), fun e => a.elim (fun b => by have := L4.out; have := b.2.2; omega) (fun b => by have := lt_of_heap A4.out; omega)⟩)
                replace KV := Lib.hid (KV.out.quiet hk)
                replace A4 := Lib.hid ((hk.block b5 (lt_of_heap A4.out) (fun h => h)).trans A4.out)
                have RV := Lib.hid hrv
                clear hra hrv
                refine hK _ _ (Or.inr (hHeld.quiet hk)) (fun hHeld => ?_)
                clear hK K
                replace hHeld := hHeld.resolve_left (by decide)
                try simp only [Act.put, List.setIfInBounds_toArray, List.set_cons_zero, List.set_cons_succ]
                clear hk
                refine z_take 7 (v := ?_) rfl (by kernel_rfl) (by kernel_rfl) (by kernel_rfl) (by kernel_rfl) (fun _ _ _ h => h) hHeld (by rfl) (fun w hSw => ?_) ?_
                rotate_left
                · clear hSw; simp only [List.getElem_toArray, List.getElem_cons_zero, List.getElem_cons_succ]; go_simp; try rfl
                simp only [Act.put, List.getElem_toArray, List.getElem_cons_zero, List.getElem_cons_succ, List.setIfInBounds_toArray, List.set_cons_zero, List.set_cons_succ]
                refine z_take 8 (v := ?_) rfl (by kernel_rfl) (by kernel_rfl) (by kernel_rfl) (by kernel_rfl) (fun _ _ _ h => h) hHeld (by rfl) (fun w hSw => ?_) ?_
                rotate_left
                · clear hSw; simp only [List.getElem_toArray, List.getElem_cons_zero, List.getElem_cons_succ]; go_simp; try rfl
                simp only [Act.put, List.getElem_toArray, List.getElem_cons_zero, List.getElem_cons_succ, List.setIfInBounds_toArray, List.set_cons_zero, List.set_cons_succ]
                refine z_take 9 (v := ?_) rfl (by kernel_rfl) (by kernel_rfl) (by kernel_rfl) (by kernel_rfl) (fun _ _ _ h => h) hHeld (by rfl) (fun w hSw => ?_) ?_
                rotate_left
                · clear hSw; simp only [List.getElem_toArray, List.getElem_cons_zero, List.getElem_cons_succ]; go_simp; try rfl
                simp only [Act.put, List.getElem_toArray, List.getElem_cons_zero, List.getElem_cons_succ, List.setIfInBounds_toArray, List.set_cons_zero, List.set_cons_succ]
                have j0 := cellAt A4.out 0
                have j1 := cellAt A4.out 1
                have j2 := cellAt A4.out 2
                have j3 := cellAt A4.out 3
                have j4 := cellAt A4.out 4
                have j5 := cellAt A4.out 5
                have j6 := cellAt A4.out 6
                have j7 := cellAt A4.out 7
                have j8 := cellAt A4.out 8
                have j9 := cellAt A4.out 9
                have j10 := cellAt A4.out 10
                have k0 := freeAt A4.out 0
                have k1 := freeAt A4.out 1
                have k2 := freeAt A4.out 2
                have k3 := freeAt A4.out 3
                have k4 := freeAt A4.out 4
                have k5 := freeAt A4.out 5
                have k6 := freeAt A4.out 6
                have k7 := freeAt A4.out 7
                have k8 := freeAt A4.out 8
                have k9 := freeAt A4.out 9
                have k10 := freeAt A4.out 10
                simp at j0 j1 j2 j3 j4 j5 j6 j7 j8 j9 j10
                refine z_one 11 rfl (by kernel_rfl) (by rfl) (fun K hK => ?_)
                simp only [List.getElem_toArray, List.getElem_cons_zero, List.getElem_cons_succ]
                have h5 := heap_eleven A4.out (.slice a0x n0x e0x) (.slice a1x n1x e1x) (.slice a2x n2x e2x) (.slice a3x n2x e3x) (.bool bcx) (.int .i64 (hfx : Int)) (.int .i64 (usx : Int)) (.slice a7x n7x e7x) (.int .i64 atx) (.int .u64 (tnx : Int)) (.slice akx nkx ekx)
                have k5 := keeps_eleven t4_ b5 (.slice a0x n0x e0x) (.slice a1x n1x e1x) (.slice a2x n2x e2x) (.slice a3x n2x e3x) (.bool bcx) (.int .i64 (hfx : Int)) (.int .i64 (usx : Int)) (.slice a7x n7x e7x) (.int .i64 atx) (.int .u64 (tnx : Int)) (.slice akx nkx ekx)
                obtain ⟨xx, hxx⟩ : ∃ v, (((((((((((t4_.setCell ⟨b5, 0, none⟩ (.slice a0x n0x e0x)).setCell ⟨b5, 1, none⟩ (.slice a1x n1x e1x)).setCell ⟨b5, 2, none⟩ (.slice a2x n2x e2x)).setCell ⟨b5, 3, none⟩ (.slice a3x n2x e3x)).setCell ⟨b5, 4, none⟩ (.bool bcx)).setCell ⟨b5, 5, none⟩ (.int .i64 (hfx : Int))).setCell ⟨b5, 6, none⟩ (.int .i64 (usx : Int))).setCell ⟨b5, 7, none⟩ (.slice a7x n7x e7x)).setCell ⟨b5, 8, none⟩ (.int .i64 atx)).setCell ⟨b5, 9, none⟩ (.int .u64 (tnx : Int))).setCell ⟨b5, 10, none⟩ (.slice akx nkx ekx)) = v := ⟨_, rfl⟩
                rw [hxx] at h5 k5
                have HF : Hid (PlN wr (fun j => ¬ F j ∧ j ≠ br) S2 r2 (.pointer (some ⟨b5, 0, none⟩)) (.int .i64 r2) xx) := Lib.hid ⟨b5, _, rfl, rfl, h5, (RV.out.keep k5 (fun j e a => a.2 e)).weak (fun j a => a.1), KV.out.trans k5 (fun j hj e => by have := L4.out; have e' : j = b5 := e; omega), L4.out⟩
                have hS6 := Lib.hid (hHeld.trans k5 (fun j hj e => by have := L4.out; have h0 := HV0.out; have e' : j = b5 := e; omega))
                clear h5 k5
                go_simp
                refine hK _ _ (Or.inr hS6.out) (fun hHeld => ?_)
                clear hK K hxx
                replace hHeld := hS6.out
                clear hS6
                try simp only [Act.put, List.setIfInBounds_toArray, List.set_cons_zero, List.set_cons_succ]
                refine z_one 12 rfl (by kernel_rfl) (by rfl) (fun K hK => ?_)
                simp only [List.getElem_toArray, List.getElem_cons_zero, List.getElem_cons_succ]
                go_simp
                refine hK _ _ (Or.inr ?_) (fun hHeld => ?_)
                · exact hHeld
                clear hK K
                replace hHeld := hHeld.resolve_left (by decide)
                try simp only [Act.put, List.setIfInBounds_toArray, List.set_cons_zero, List.set_cons_succ]
                refine z_done (by kernel_rfl) ?_ _
                clear hHeld
                go_wp2_with fail
                go_meet
                exact HF.out
            case rest =>
              obtain ⟨b5, v5, rfl, rfl, h5, hra, hk, hl5⟩ := hcut
              rename World => wx
              obtain ⟨a0y, n0y, e0y, a1y, n1y, e1y, a2y, n2y, e2y, a3y, e3y, bcy, hfy, usy, a7y, n7y, e7y, aty, tny, aky, nky, eky, rfl, _⟩ := rs_all hra
              have hbr := (hk.block br (lt_of_heap HBX.out) (fun h => h)).trans HBX.out
              have h6 := heap_eleven hbr (.slice a0y n0y e0y) (.slice a1y n1y e1y) (.slice a2y n2y e2y) (.slice a3y n2y e3y) (.bool bcy) (.int .i64 (hfy : Int)) (.int .i64 (usy : Int)) (.slice a7y n7y e7y) (.int .i64 aty) (.int .u64 (tny : Int)) (.slice aky nky eky)
              have k6 := keeps_eleven wx br (.slice a0y n0y e0y) (.slice a1y n1y e1y) (.slice a2y n2y e2y) (.slice a3y n2y e3y) (.bool bcy) (.int .i64 (hfy : Int)) (.int .i64 (usy : Int)) (.slice a7y n7y e7y) (.int .i64 aty) (.int .u64 (tny : Int)) (.slice aky nky eky)
              obtain ⟨wy, hwy⟩ : ∃ v, (((((((((((wx.setCell ⟨br, 0, none⟩ (.slice a0y n0y e0y)).setCell ⟨br, 1, none⟩ (.slice a1y n1y e1y)).setCell ⟨br, 2, none⟩ (.slice a2y n2y e2y)).setCell ⟨br, 3, none⟩ (.slice a3y n2y e3y)).setCell ⟨br, 4, none⟩ (.bool bcy)).setCell ⟨br, 5, none⟩ (.int .i64 (hfy : Int))).setCell ⟨br, 6, none⟩ (.int .i64 (usy : Int))).setCell ⟨br, 7, none⟩ (.slice a7y n7y e7y)).setCell ⟨br, 8, none⟩ (.int .i64 aty)).setCell ⟨br, 9, none⟩ (.int .u64 (tny : Int))).setCell ⟨br, 10, none⟩ (.slice aky nky eky)) = v := ⟨_, rfl⟩
              rw [hwy] at h6 k6
              have HRN := Lib.hid (HRS.out.next HX.out.st.flt hra h6 k6)
              have HXY := Lib.hid ((HX.out.quiet hk).box k6 HRS.out.ap HBR.out)
              obtain ⟨c0', c1', hsl, hbf⟩ := HCA.out wy HXY.out.kp
              have c0 := cellAt h5 0
              have c1 := cellAt h5 1
              have c2 := cellAt h5 2
              have c3 := cellAt h5 3
              have c4 := cellAt h5 4
              have c5 := cellAt h5 5
              have c6 := cellAt h5 6
              have c7 := cellAt h5 7
              have c8 := cellAt h5 8
              have c9 := cellAt h5 9
              have c10 := cellAt h5 10
              simp at c0 c1 c2 c3 c4 c5 c6 c7 c8 c9 c10
              have d0 := cellAt hbr 0
              have d1 := cellAt hbr 1
              have d2 := cellAt hbr 2
              have d3 := cellAt hbr 3
              have d4 := cellAt hbr 4
              have d5 := cellAt hbr 5
              have d6 := cellAt hbr 6
              have d7 := cellAt hbr 7
              have d8 := cellAt hbr 8
              have d9 := cellAt hbr 9
              have d10 := cellAt hbr 10
              have f0 := freeAt hbr 0
              have f1 := freeAt hbr 1
              have f2 := freeAt hbr 2
              have f3 := freeAt hbr 3
              have f4 := freeAt hbr 4
              have f5 := freeAt hbr 5
              have f6 := freeAt hbr 6
              have f7 := freeAt hbr 7
              have f8 := freeAt hbr 8
              have f9 := freeAt hbr 9
              have f10 := freeAt hbr 10
              simp at d0 d1 d2 d3 d4 d5 d6 d7 d8 d9 d10
              have HC := Lib.hid (append_any p pd S F Q wy HXY.out.st sb nb cb bb hsl (by omega) (fun ad e h0 => hbf ad e h0 F HXY.out.inF) (by rw [HX.out.good.lo]; simp) (by have := HX.out.good.few; omega))
              rw [HSE.out] at HC
              have HH6 := Lib.hid h6
              clear h5 hra hbr h6 k6 hk hl5 hsl hbf
              apply_assumption
              go_wp2_with fail
              refine HC.out.mono ?_
              rintro e wz ⟨rfl, F3, Q3, hst, hk3, hF3, hQ3⟩
              have HNX := Lib.hid (HXY.out.next hst HG2.out.1 (k + 1) (by have := HX.out.turn; have := HG2.out.2; omega) hk3 hF3 hQ3)
              have HRZ := Lib.hid (HRN.out.turn hk3 hF3 hQ3)
              clear HC hst hk3 hF3 hQ3 c0' c1' hwy c0 d0 f0 c1 d1 f1 c2 d2 f2 c3 d3 f3 c4 d4 f4 c5 d5 f5 c6 d6 f6 c7 d7 f7 c8 d8 f8 c9 d9 f9 c10 d10 f10
              go_wp2_with fail
              go_meet
              exact ⟨p, pd, S2, F3, Q3, _, rfl, rfl, HNX.out, HRZ.out⟩
      case rest =>
        obtain ⟨p, pd, S, F, Q, v, rfl, rfl, hat, hrs⟩ := hcut
        rename World => wv
        obtain ⟨a0q, n0q, e0q, a1q, n1q, e1q, a2q, n2q, e2q, a3q, e3q, bcq, hfq, usq, a7q, n7q, e7q, atq, tnq, akq, nkq, ekq, rfl, hra, hrf, hn0, hhf, hus, hnw, hky, hrc⟩ := rs_all hrs.ref
        replace HX := Lib.hid hat
        replace HRS := Lib.hid hrs
        have HRD : Hid (RD wv a0q n0q e0q a7q n7q e7q akq nkq ekq S) := Lib.hid ⟨hnw, hky, hrc⟩
        obtain ⟨K, hK0⟩ : ∃ K, S.keys = K := ⟨_, rfl⟩
        obtain ⟨rm, hrm⟩ : ∃ r, S.room = r := ⟨_, rfl⟩
        obtain ⟨lw, hlw⟩ : ∃ l, S.d.now = l := ⟨_, rfl⟩
        have hKn : K.length = nkq := by have := hky.len; rw [BV_length, hK0] at this; exact this
        have hln : lw.length = n0q := by rw [← hlw]; exact hn0
        have HKC : Hid (∀ u : World, StoreAt u p pd S F Q → Calls Try.prog 25 #[.pointer (some ⟨p, 0, none⟩)] u fun e w' => ∃ sa c, e = .returned (.slice sa nkq c) ∧ Sl w' sa nkq c (BV K) ∧ Keeps (fun _ => False) u w') := Lib.hid (fun u h => by
          have h2 := keys_any p pd S F Q u h
          rw [hK0, hKn] at h2
          exact h2.mono fun e w' ⟨sa, c, a1, a2, a3⟩ => ⟨sa, c, a1, Sl.of_own a2, a3⟩)
        have HRC : Hid (∀ u : World, StoreAt u p pd S F Q → Calls Try.prog 13 #[.pointer (some ⟨p, 0, none⟩)] u fun e w' => e = .returned (.int .i64 rm) ∧ Keeps (fun _ => False) u w') := Lib.hid (fun u h => by
          have h2 := room_any p pd S F Q u h
          rwa [hrm] at h2)
        have HRR : Hid (∀ u : World, Calls Try.prog 35 #[.agg #[.slice a0q n0q e0q, .slice a1q n1q e1q, .slice a2q n2q e2q, .slice a3q n2q e3q, .bool bcq, .int .i64 (hfq : Int), .int .i64 (usq : Int), .slice a7q n7q e7q, .int .i64 atq, .int .u64 (tnq : Int), .slice akq nkq ekq]] u fun e w' => e = .returned (.int .i64 rm) ∧ Keeps (fun _ => False) u w') := Lib.hid (fun u => by
          have h2 := refRoom_any (.slice a0q n0q e0q) (.slice a1q n1q e1q) (.slice a2q n2q e2q) (.slice a3q n2q e3q) (.bool bcq) (.slice a7q n7q e7q) (.int .i64 atq) (.int .u64 (tnq : Int)) (.slice akq nkq ekq) hfq usq u (by rw [← hhf, hat.good.half]; have := hat.good.big; omega) (by rw [← hhf, ← hus, hat.good.half]; exact hat.good.usedH)
          rw [← hhf, ← hus] at h2 ⊢
          rw [← hrm]
          exact h2)
        have HWC : Hid (∀ u : World, StoreAt u p pd S F Q → Calls Try.prog 15 #[.pointer (some ⟨pd, 0, none⟩)] u fun e w' => ∃ g c, e = .returned (.slice (some ⟨g, 0, none⟩) n0q c) ∧ Sl w' (some ⟨g, 0, none⟩) n0q c (BV lw) ∧ Keeps (fun _ => False) u w') := Lib.hid (fun u h => by
          obtain ⟨Fd, _, _, _, _, _, hs⟩ := h
          have h2 := raw_any pd S.d Fd u hs.disk hs.size
          rw [hlw, hln] at h2
          exact h2.mono fun e w' ⟨g, c, a1, a2, a3⟩ => ⟨g, c, a1, Sl.of_own a2, a3⟩)
        have HSM : Hid (∀ (u : World) {sx : Option Addr} {cx : Nat} {vx : List Value}, Sl u sx S.recs.length cx vx → RowsS u vx S.recs → RD u a0q n0q e0q a7q n7q e7q akq nkq ekq S → Calls Try.prog 24 #[.slice sx S.recs.length cx, .slice a7q n7q e7q] u fun e w' => e = .returned (.bool true) ∧ Keeps (fun _ => False) u w') := Lib.hid (fun u sx cx vx h1 h2 h3 => by
          obtain ⟨vs, h4, h5⟩ := h3.recs
          have h6 := sameR_any sx a7q S.recs.length n7q cx e7q vx vs S.recs S.recs u h1 h2 h4 h5
          rwa [show decide (S.recs = S.recs) = true by simp] at h6)
        have eK : ((strOf K).toList == (strOf S.keys).toList) = true := by rw [hK0]; exact beq_self_eq_true _
        have eR : (rm != rm) = false := by simp
        have eW : ((strOf lw).toList == (strOf S.d.now).toList) = true := by rw [hlw]; exact beq_self_eq_true _
        have HEQ := Lib.hid (And.intro hK0 hlw)
        clear hat hrs hra hrf hn0 hhf hus hnw hky hrc hK0 hrm hlw hKn hln HBX HCA HBB c0 c1
        apply_assumption
        go_wp2_with fail
        obtain ⟨v0, hdr⟩ : ∃ v, World.drew wv = v := ⟨_, rfl⟩
        have hk : Keeps (fun _ => False) wv v0 := by rw [← hdr]; exact (Keeps.refl _ _).drew
        replace HX := Lib.hid (HX.out.quiet hk)
        replace HRS := Lib.hid (HRS.out.quiet hk)
        replace HRD := Lib.hid (rd_quiet HRD.out hk)
        refine z_begin (fun w' => Keeps (fun _ => False) (World.drew wv) w') 6 (by kernel_rfl) (Keeps.refl _ _) (fun hHeld => ?_)
        rw [hdr] at hHeld ⊢
        clear hk hdr
        refine z_take 0 (v := ?_) rfl (by kernel_rfl) (by kernel_rfl) (by kernel_rfl) (by kernel_rfl) (fun _ _ _ h => h) hHeld (by rfl) (fun w hSw => ?_) ?_
        rotate_left
        · clear hSw; simp only [List.getElem_toArray, List.getElem_cons_zero]; go_simp; try rfl
        simp only [Act.put, List.getElem_toArray, List.getElem_cons_zero, List.setIfInBounds_toArray, List.set_cons_zero, List.set_cons_succ]
        refine z_take 2 (v := ?_) rfl (by kernel_rfl) (by kernel_rfl) (by kernel_rfl) (by kernel_rfl) (fun _ _ _ h => h) hHeld (by rfl) (fun w hSw => ?_) ?_
        rotate_left
        · clear hSw; simp only [List.getElem_toArray, List.getElem_cons_zero, List.getElem_cons_succ]; go_simp; try rfl
        simp only [Act.put, List.getElem_toArray, List.getElem_cons_zero, List.getElem_cons_succ, List.setIfInBounds_toArray, List.set_cons_zero, List.set_cons_succ]
        refine z_take 3 (v := ?_) rfl (by kernel_rfl) (by kernel_rfl) (by kernel_rfl) (by kernel_rfl) (fun _ _ _ h => h) hHeld (by rfl) (fun w hSw => ?_) ?_
        rotate_left
        · have hb := (hSw.block br (lt_of_heap HRS.out.box) (fun h => h)).trans HRS.out.box; have c0 := cellAt hb 0; have c1 := cellAt hb 1; have c2 := cellAt hb 2; have c3 := cellAt hb 3; have c4 := cellAt hb 4; have c5 := cellAt hb 5; have c6 := cellAt hb 6; have c7 := cellAt hb 7; have c8 := cellAt hb 8; have c9 := cellAt hb 9; have c10 := cellAt hb 10; simp at c0 c1 c2 c3 c4 c5 c6 c7 c8 c9 c10; clear hb; clear hSw; simp only [List.getElem_toArray, List.getElem_cons_zero, List.getElem_cons_succ]; go_simp; try rfl
        simp only [Act.put, List.getElem_toArray, List.getElem_cons_zero, List.getElem_cons_succ, List.setIfInBounds_toArray, List.set_cons_zero, List.set_cons_succ]
        refine z_one 1 rfl (by kernel_rfl) (by rfl) (fun K hK => ?_)
        simp only [List.getElem_toArray, List.getElem_cons_zero, List.getElem_cons_succ]
        go_simp
        refine (records_any p pd S F Q v0 HX.out.st).mono ?_
        rintro e y1 ⟨s1, d1, u1, rfl, hown, hrows, hk⟩
        refine hK _ _ (Or.inr (hHeld.trans hk (fun _ _ h => h.elim))) (fun hHeld => ?_)
        clear hK K
        replace hHeld := hHeld.resolve_left (by decide)
        try simp only [Act.put, List.setIfInBounds_toArray, List.set_cons_zero, List.set_cons_succ]
        have HR1 := Lib.hid (And.intro (Sl.of_own hown) hrows.reads)
        clear hown hrows
        replace HX := Lib.hid (HX.out.quiet hk)
        replace HRS := Lib.hid (HRS.out.quiet hk)
        replace HRD := Lib.hid (rd_quiet HRD.out hk)
        refine z_more (fun w' => Keeps (fun _ => False) y1 w') (fun w' h => hHeld.trans h (fun _ _ h => h)) _ _ _ _ ?_
        clear hHeld
        have hHeld : Keeps (fun _ => False) y1 y1 := Keeps.refl _ _
        clear hk
        refine z_one 4 rfl (by kernel_rfl) (by rfl) (fun K hK => ?_)
        simp only [List.getElem_toArray, List.getElem_cons_zero, List.getElem_cons_succ]
        go_simp
        refine (HSM.out y1 HR1.out.1 HR1.out.2 HRD.out).mono ?_
        rintro e y2 ⟨rfl, hk⟩
        refine hK _ _ (Or.inr (hHeld.trans hk (fun _ _ h => h.elim))) (fun hHeld => ?_)
        clear hK K
        replace hHeld := hHeld.resolve_left (by decide)
        try simp only [Act.put, List.setIfInBounds_toArray, List.set_cons_zero, List.set_cons_succ]
        replace HX := Lib.hid (HX.out.quiet hk)
        replace HRS := Lib.hid (HRS.out.quiet hk)
        replace HRD := Lib.hid (rd_quiet HRD.out hk)
        refine z_more (fun w' => Keeps (fun _ => False) y2 w') (fun w' h => hHeld.trans h (fun _ _ h => h)) _ _ _ _ ?_
        clear hHeld
        have hHeld : Keeps (fun _ => False) y2 y2 := Keeps.refl _ _
        clear hk
        refine z_take 5 (v := ?_) rfl (by kernel_rfl) (by kernel_rfl) (by kernel_rfl) (by kernel_rfl) (fun _ _ _ h => h) hHeld (by rfl) (fun w hSw => ?_) ?_
        rotate_left
        · clear hSw; simp only [List.getElem_toArray, List.getElem_cons_zero, List.getElem_cons_succ]; go_simp; try rfl
        simp only [Act.put, List.getElem_toArray, List.getElem_cons_zero, List.getElem_cons_succ, List.setIfInBounds_toArray, List.set_cons_zero, List.set_cons_succ]
        refine z_done (by kernel_rfl) ?_ _
        clear hHeld
        go_wp2_with fail
        obtain ⟨v9, hdr⟩ : ∃ v, World.drew y2 = v := ⟨_, rfl⟩
        have hk : Keeps (fun _ => False) y2 v9 := by rw [← hdr]; exact (Keeps.refl _ _).drew
        replace HX := Lib.hid (HX.out.quiet hk)
        replace HRS := Lib.hid (HRS.out.quiet hk)
        replace HRD := Lib.hid (rd_quiet HRD.out hk)
        refine z_begin (fun w' => Keeps (fun _ => False) (World.drew y2) w') 28 (by kernel_rfl) (Keeps.refl _ _) (fun hHeld => ?_)
        rw [hdr] at hHeld ⊢
        clear hk hdr
        refine z_take 0 (v := ?_) rfl (by kernel_rfl) (by kernel_rfl) (by kernel_rfl) (by kernel_rfl) (fun _ _ _ h => h) hHeld (by rfl) (fun w hSw => ?_) ?_
        rotate_left
        · clear hSw; simp only [List.getElem_toArray, List.getElem_cons_zero]; go_simp; try rfl
        simp only [Act.put, List.getElem_toArray, List.getElem_cons_zero, List.setIfInBounds_toArray, List.set_cons_zero, List.set_cons_succ]
        refine z_take 1 (v := ?_) rfl (by kernel_rfl) (by kernel_rfl) (by kernel_rfl) (by kernel_rfl) (fun _ _ _ h => h) hHeld (by rfl) (fun w hSw => ?_) ?_
        rotate_left
        · clear hSw; simp only [List.getElem_toArray, List.getElem_cons_zero, List.getElem_cons_succ]; go_simp; try rfl
        simp only [Act.put, List.getElem_toArray, List.getElem_cons_zero, List.getElem_cons_succ, List.setIfInBounds_toArray, List.set_cons_zero, List.set_cons_succ]
        refine z_take 2 (v := ?_) rfl (by kernel_rfl) (by kernel_rfl) (by kernel_rfl) (by kernel_rfl) (fun _ _ _ h => h) hHeld (by rfl) (fun w hSw => ?_) ?_
        rotate_left
        · clear hSw; simp only [List.getElem_toArray, List.getElem_cons_zero, List.getElem_cons_succ]; go_simp; try rfl
        simp only [Act.put, List.getElem_toArray, List.getElem_cons_zero, List.getElem_cons_succ, List.setIfInBounds_toArray, List.set_cons_zero, List.set_cons_succ]
        refine z_take 3 (v := ?_) rfl (by kernel_rfl) (by kernel_rfl) (by kernel_rfl) (by kernel_rfl) (fun _ _ _ h => h) hHeld (by rfl) (fun w hSw => ?_) ?_
        rotate_left
        · clear hSw; simp only [List.getElem_toArray, List.getElem_cons_zero, List.getElem_cons_succ]; go_simp; try rfl
        simp only [Act.put, List.getElem_toArray, List.getElem_cons_zero, List.getElem_cons_succ, List.setIfInBounds_toArray, List.set_cons_zero, List.set_cons_succ]
        refine z_take 6 (v := ?_) rfl (by kernel_rfl) (by kernel_rfl) (by kernel_rfl) (by kernel_rfl) (fun _ _ _ h => h) hHeld (by rfl) (fun w hSw => ?_) ?_
        rotate_left
        · clear hSw; simp only [List.getElem_toArray, List.getElem_cons_zero, List.getElem_cons_succ]; go_simp; try rfl
        simp only [Act.put, List.getElem_toArray, List.getElem_cons_zero, List.getElem_cons_succ, List.setIfInBounds_toArray, List.set_cons_zero, List.set_cons_succ]
        refine z_take 7 (v := ?_) rfl (by kernel_rfl) (by kernel_rfl) (by kernel_rfl) (by kernel_rfl) (fun _ _ _ h => h) hHeld (by rfl) (fun w hSw => ?_) ?_
        rotate_left
        · have hb := (hSw.block br (lt_of_heap HRS.out.box) (fun h => h)).trans HRS.out.box; have c10 := cellAt hb 10; simp at c10; clear hb; clear hSw; simp only [List.getElem_toArray, List.getElem_cons_zero, List.getElem_cons_succ]; go_simp; try rfl
        simp only [Act.put, List.getElem_toArray, List.getElem_cons_zero, List.getElem_cons_succ, List.setIfInBounds_toArray, List.set_cons_zero, List.set_cons_succ]
        refine z_take 8 (v := ?_) rfl (by kernel_rfl) (by kernel_rfl) (by kernel_rfl) (by kernel_rfl) (fun _ _ _ h => h) hHeld (by rfl) (fun w hSw => ?_) ?_
        rotate_left
        · have cv := run_strSl (rd_keys HRD.out hSw); clear hSw; simp only [List.getElem_toArray, List.getElem_cons_zero, List.getElem_cons_succ]; go_simp; try rfl
        simp only [Act.put, List.getElem_toArray, List.getElem_cons_zero, List.getElem_cons_succ, List.setIfInBounds_toArray, List.set_cons_zero, List.set_cons_succ]
        refine z_one 4 rfl (by kernel_rfl) (by rfl) (fun K hK => ?_)
        simp only [List.getElem_toArray, List.getElem_cons_zero, List.getElem_cons_succ]
        go_simp
        refine (HKC.out v9 HX.out.st).mono ?_
        rintro e y21 ⟨s2, c2, rfl, hsl, hk⟩
        refine hK _ _ (Or.inr (hHeld.trans hk (fun _ _ h => h.elim))) (fun hHeld => ?_)
        clear hK K
        replace hHeld := hHeld.resolve_left (by decide)
        try simp only [Act.put, List.setIfInBounds_toArray, List.set_cons_zero, List.set_cons_succ]
        replace HX := Lib.hid (HX.out.quiet hk)
        replace HRS := Lib.hid (HRS.out.quiet hk)
        replace HRD := Lib.hid (rd_quiet HRD.out hk)
        have L1 := Lib.hid hsl
        clear hsl
        refine z_more (fun w' => Keeps (fun _ => False) y21 w') (fun w' h => hHeld.trans h (fun _ _ h => h)) _ _ _ _ ?_
        clear hHeld
        have hHeld : Keeps (fun _ => False) y21 y21 := Keeps.refl _ _
        clear hk
        refine z_take 5 (v := ?_) rfl (by kernel_rfl) (by kernel_rfl) (by kernel_rfl) (by kernel_rfl) (fun _ _ _ h => h) hHeld (by rfl) (fun w hSw => ?_) ?_
        rotate_left
        · have cv := run_strSl (L1.out.quiet hSw); clear hSw; simp only [List.getElem_toArray, List.getElem_cons_zero, List.getElem_cons_succ]; go_simp; try rfl
        simp only [Act.put, List.getElem_toArray, List.getElem_cons_zero, List.getElem_cons_succ, List.setIfInBounds_toArray, List.set_cons_zero, List.set_cons_succ]
        refine z_take 9 (v := ?_) rfl (by kernel_rfl) (by kernel_rfl) (by kernel_rfl) (by kernel_rfl) (fun _ _ _ h => h) hHeld (by rfl) (fun w hSw => ?_) ?_
        rotate_left
        · clear hSw; simp only [List.getElem_toArray, List.getElem_cons_zero, List.getElem_cons_succ]; go_simp; try rfl
        simp only [Act.put, List.getElem_toArray, List.getElem_cons_zero, List.getElem_cons_succ, List.setIfInBounds_toArray, List.set_cons_zero, List.set_cons_succ]
        refine z_take 10 (v := ?_) rfl (by kernel_rfl) (by kernel_rfl) (by kernel_rfl) (by kernel_rfl) (fun _ _ _ h => h) hHeld (by rfl) (fun w hSw => ?_) ?_
        rotate_left
        · clear hSw; simp only [List.getElem_toArray, List.getElem_cons_zero, List.getElem_cons_succ]; go_simp; try rfl
        simp only [Act.put, List.getElem_toArray, List.getElem_cons_zero, List.getElem_cons_succ, List.setIfInBounds_toArray, List.set_cons_zero, List.set_cons_succ]
        refine z_take 11 (v := ?_) rfl (by kernel_rfl) (by kernel_rfl) (by kernel_rfl) (by kernel_rfl) (fun _ _ _ h => h) hHeld (by rfl) (fun w hSw => ?_) ?_
        rotate_left
        · clear hSw; simp only [List.getElem_toArray, List.getElem_cons_zero, List.getElem_cons_succ]; go_simp; try rfl
        simp only [Act.put, List.getElem_toArray, List.getElem_cons_zero, List.getElem_cons_succ, List.setIfInBounds_toArray, List.set_cons_zero, List.set_cons_succ]
        refine z_take 12 (v := ?_) rfl (by kernel_rfl) (by kernel_rfl) (by kernel_rfl) (by kernel_rfl) (fun _ _ _ h => h) hHeld (by rfl) (fun w hSw => ?_) ?_
        rotate_left
        · clear hSw; simp only [List.getElem_toArray, List.getElem_cons_zero, List.getElem_cons_succ]; go_simp; try rfl
        simp only [Act.put, List.getElem_toArray, List.getElem_cons_zero, List.getElem_cons_succ, List.setIfInBounds_toArray, List.set_cons_zero, List.set_cons_succ]
        refine z_take 14 (v := ?_) rfl (by kernel_rfl) (by kernel_rfl) (by kernel_rfl) (by kernel_rfl) (fun _ _ _ h => h) hHeld (by rfl) (fun w hSw => ?_) ?_
        rotate_left
        · have hb := (hSw.block br (lt_of_heap HRS.out.box) (fun h => h)).trans HRS.out.box; have c0 := cellAt hb 0; have c1 := cellAt hb 1; have c2 := cellAt hb 2; have c3 := cellAt hb 3; have c4 := cellAt hb 4; have c5 := cellAt hb 5; have c6 := cellAt hb 6; have c7 := cellAt hb 7; have c8 := cellAt hb 8; have c9 := cellAt hb 9; have c10 := cellAt hb 10; simp at c0 c1 c2 c3 c4 c5 c6 c7 c8 c9 c10; clear hb; clear hSw; simp only [List.getElem_toArray, List.getElem_cons_zero, List.getElem_cons_succ]; go_simp; try rfl
        simp only [Act.put, List.getElem_toArray, List.getElem_cons_zero, List.getElem_cons_succ, List.setIfInBounds_toArray, List.set_cons_zero, List.set_cons_succ]
        refine z_one 13 rfl (by kernel_rfl) (by rfl) (fun K hK => ?_)
        simp only [List.getElem_toArray, List.getElem_cons_zero, List.getElem_cons_succ]
        go_simp
        refine (HRC.out y21 HX.out.st).mono ?_
        rintro e y22 ⟨rfl, hk⟩
        refine hK _ _ (Or.inr (hHeld.trans hk (fun _ _ h => h.elim))) (fun hHeld => ?_)
        clear hK K
        replace hHeld := hHeld.resolve_left (by decide)
        try simp only [Act.put, List.setIfInBounds_toArray, List.set_cons_zero, List.set_cons_succ]
        replace HX := Lib.hid (HX.out.quiet hk)
        replace HRS := Lib.hid (HRS.out.quiet hk)
        replace HRD := Lib.hid (rd_quiet HRD.out hk)
        refine z_more (fun w' => Keeps (fun _ => False) y22 w') (fun w' h => hHeld.trans h (fun _ _ h => h)) _ _ _ _ ?_
        clear hHeld
        have hHeld : Keeps (fun _ => False) y22 y22 := Keeps.refl _ _
        clear hk
        refine z_one 15 rfl (by kernel_rfl) (by rfl) (fun K hK => ?_)
        simp only [List.getElem_toArray, List.getElem_cons_zero, List.getElem_cons_succ]
        go_simp
        refine (HRR.out y22).mono ?_
        rintro e y23 ⟨rfl, hk⟩
        refine hK _ _ (Or.inr (hHeld.trans hk (fun _ _ h => h.elim))) (fun hHeld => ?_)
        clear hK K
        replace hHeld := hHeld.resolve_left (by decide)
        try simp only [Act.put, List.setIfInBounds_toArray, List.set_cons_zero, List.set_cons_succ]
        replace HX := Lib.hid (HX.out.quiet hk)
        replace HRS := Lib.hid (HRS.out.quiet hk)
        replace HRD := Lib.hid (rd_quiet HRD.out hk)
        refine z_more (fun w' => Keeps (fun _ => False) y23 w') (fun w' h => hHeld.trans h (fun _ _ h => h)) _ _ _ _ ?_
        clear hHeld
        have hHeld : Keeps (fun _ => False) y23 y23 := Keeps.refl _ _
        clear hk
        refine z_take 16 (v := ?_) rfl (by kernel_rfl) (by kernel_rfl) (by kernel_rfl) (by kernel_rfl) (fun _ _ _ h => h) hHeld (by rfl) (fun w hSw => ?_) ?_
        rotate_left
        · clear hSw; simp only [List.getElem_toArray, List.getElem_cons_zero, List.getElem_cons_succ]; go_simp; try rfl
        simp only [Act.put, List.getElem_toArray, List.getElem_cons_zero, List.getElem_cons_succ, List.setIfInBounds_toArray, List.set_cons_zero, List.set_cons_succ]
        refine z_take 17 (v := ?_) rfl (by kernel_rfl) (by kernel_rfl) (by kernel_rfl) (by kernel_rfl) (fun _ _ _ h => h) hHeld (by rfl) (fun w hSw => ?_) ?_
        rotate_left
        · clear hSw; simp only [List.getElem_toArray, List.getElem_cons_zero, List.getElem_cons_succ]; go_simp; try rfl
        simp only [Act.put, List.getElem_toArray, List.getElem_cons_zero, List.getElem_cons_succ, List.setIfInBounds_toArray, List.set_cons_zero, List.set_cons_succ]
        refine z_take 18 (v := ?_) rfl (by kernel_rfl) (by kernel_rfl) (by kernel_rfl) (by kernel_rfl) (fun _ _ _ h => h) hHeld (by rfl) (fun w hSw => ?_) ?_
        rotate_left
        · clear hSw; simp only [List.getElem_toArray, List.getElem_cons_zero, List.getElem_cons_succ]; go_simp; try rfl
        simp only [Act.put, List.getElem_toArray, List.getElem_cons_zero, List.getElem_cons_succ, List.setIfInBounds_toArray, List.set_cons_zero, List.set_cons_succ]
        refine z_take 19 (v := ?_) rfl (by kernel_rfl) (by kernel_rfl) (by kernel_rfl) (by kernel_rfl) (fun _ _ _ h => h) hHeld (by rfl) (fun w hSw => ?_) ?_
        rotate_left
        · clear hSw; simp only [List.getElem_toArray, List.getElem_cons_zero, List.getElem_cons_succ]; go_simp; try rfl
        simp only [Act.put, List.getElem_toArray, List.getElem_cons_zero, List.getElem_cons_succ, List.setIfInBounds_toArray, List.set_cons_zero, List.set_cons_succ]
        refine z_take 22 (v := ?_) rfl (by kernel_rfl) (by kernel_rfl) (by kernel_rfl) (by kernel_rfl) (fun _ _ _ h => h) hHeld (by rfl) (fun w hSw => ?_) ?_
        rotate_left
        · clear hSw; simp only [List.getElem_toArray, List.getElem_cons_zero, List.getElem_cons_succ]; go_simp; try rfl
        simp only [Act.put, List.getElem_toArray, List.getElem_cons_zero, List.getElem_cons_succ, List.setIfInBounds_toArray, List.set_cons_zero, List.set_cons_succ]
        refine z_take 23 (v := ?_) rfl (by kernel_rfl) (by kernel_rfl) (by kernel_rfl) (by kernel_rfl) (fun _ _ _ h => h) hHeld (by rfl) (fun w hSw => ?_) ?_
        rotate_left
        · clear hSw; simp only [List.getElem_toArray, List.getElem_cons_zero, List.getElem_cons_succ]; go_simp; try rfl
        simp only [Act.put, List.getElem_toArray, List.getElem_cons_zero, List.getElem_cons_succ, List.setIfInBounds_toArray, List.set_cons_zero, List.set_cons_succ]
        refine z_take 24 (v := ?_) rfl (by kernel_rfl) (by kernel_rfl) (by kernel_rfl) (by kernel_rfl) (fun _ _ _ h => h) hHeld (by rfl) (fun w hSw => ?_) ?_
        rotate_left
        · have hb := (hSw.block br (lt_of_heap HRS.out.box) (fun h => h)).trans HRS.out.box; have c0 := cellAt hb 0; simp at c0; clear hb; clear hSw; simp only [List.getElem_toArray, List.getElem_cons_zero, List.getElem_cons_succ]; go_simp; try rfl
        simp only [Act.put, List.getElem_toArray, List.getElem_cons_zero, List.getElem_cons_succ, List.setIfInBounds_toArray, List.set_cons_zero, List.set_cons_succ]
        refine z_take 25 (v := ?_) rfl (by kernel_rfl) (by kernel_rfl) (by kernel_rfl) (by kernel_rfl) (fun _ _ _ h => h) hHeld (by rfl) (fun w hSw => ?_) ?_
        rotate_left
        · have cv := run_strSl (rd_now HRD.out hSw); clear hSw; simp only [List.getElem_toArray, List.getElem_cons_zero, List.getElem_cons_succ]; go_simp; try rfl
        simp only [Act.put, List.getElem_toArray, List.getElem_cons_zero, List.getElem_cons_succ, List.setIfInBounds_toArray, List.set_cons_zero, List.set_cons_succ]
        refine z_one 20 rfl (by kernel_rfl) (by rfl) (fun K hK => ?_)
        simp only [List.getElem_toArray, List.getElem_cons_zero, List.getElem_cons_succ]
        go_simp
        refine (HWC.out y23 HX.out.st).mono ?_
        rintro e y24 ⟨g3, c3, rfl, hsl, hk⟩
        refine hK _ _ (Or.inr (hHeld.trans hk (fun _ _ h => h.elim))) (fun hHeld => ?_)
        clear hK K
        replace hHeld := hHeld.resolve_left (by decide)
        try simp only [Act.put, List.setIfInBounds_toArray, List.set_cons_zero, List.set_cons_succ]
        replace HX := Lib.hid (HX.out.quiet hk)
        replace HRS := Lib.hid (HRS.out.quiet hk)
        replace HRD := Lib.hid (rd_quiet HRD.out hk)
        have L3 := Lib.hid hsl
        clear hsl
        refine z_more (fun w' => Keeps (fun _ => False) y24 w') (fun w' h => hHeld.trans h (fun _ _ h => h)) _ _ _ _ ?_
        clear hHeld
        have hHeld : Keeps (fun _ => False) y24 y24 := Keeps.refl _ _
        clear hk
        refine z_take 21 (v := ?_) rfl (by kernel_rfl) (by kernel_rfl) (by kernel_rfl) (by kernel_rfl) (fun _ _ _ h => h) hHeld (by rfl) (fun w hSw => ?_) ?_
        rotate_left
        · have cv := run_strSl (L3.out.quiet hSw); clear hSw; simp only [List.getElem_toArray, List.getElem_cons_zero, List.getElem_cons_succ]; go_simp; try rfl
        simp only [Act.put, List.getElem_toArray, List.getElem_cons_zero, List.getElem_cons_succ, List.setIfInBounds_toArray, List.set_cons_zero, List.set_cons_succ]
        refine z_take 26 (v := ?_) rfl (by kernel_rfl) (by kernel_rfl) (by kernel_rfl) (by kernel_rfl) (fun _ _ _ h => h) hHeld (by rfl) (fun w hSw => ?_) ?_
        rotate_left
        · clear hSw; simp only [List.getElem_toArray, List.getElem_cons_zero, List.getElem_cons_succ]; go_simp; try rfl
        simp only [Act.put, List.getElem_toArray, List.getElem_cons_zero, List.getElem_cons_succ, List.setIfInBounds_toArray, List.set_cons_zero, List.set_cons_succ]
        refine z_take 27 (v := ?_) rfl (by kernel_rfl) (by kernel_rfl) (by kernel_rfl) (by kernel_rfl) (fun _ _ _ h => h) hHeld (by rfl) (fun w hSw => ?_) ?_
        rotate_left
        · clear hSw; simp only [List.getElem_toArray, List.getElem_cons_zero, List.getElem_cons_succ]; go_simp; try rfl
        simp only [Act.put, List.getElem_toArray, List.getElem_cons_zero, List.getElem_cons_succ, List.setIfInBounds_toArray, List.set_cons_zero, List.set_cons_succ]
        refine z_done (by kernel_rfl) ?_ _
        clear hHeld
        have HXF := Lib.hid (And.intro HX.out HRS.out)
        clear eK eR eW
        go_wp2
        go_roundw
        case rel => exact ⟨k + 1, p, pd, S, F, Q, _, hlt, by go_num, rfl, rfl, HXF.out.1, HXF.out.2⟩
        case measure => simp [intOf]; omega
    · have j2 : ¬ (k : Int) < (N : Int) := by omega
      have HF := Lib.hid (HK5.out.trans HX.out.kp (fun j hj h => by omega))
      go_wp2_with fail
      refine (lives_any _).mono ?_
      rintro e w99 ⟨rfl, hk99⟩
      replace HF := Lib.hid (HF.out.quiet hk99)
      go_wp2
      go_ret
      exact ⟨rfl, HF.out⟩
end Go.Proofs.Ytpojkhjenbbodaa
