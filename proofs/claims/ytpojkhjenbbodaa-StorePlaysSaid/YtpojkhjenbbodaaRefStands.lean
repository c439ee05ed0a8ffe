/-
  The reference's Stands; its Open of any disk in memory. Conditions: bytes of a frame, from ten on.
-/
import Derived.Test.YtpojkhjenbbodaaRefOpen
import Derived.Test.YtpojkhjenbbodaaJTools
namespace Go.Proofs.Ytpojkhjenbbodaa
open Go.RowKit

theorem refOpen_ok (D : DS) (vd : Array Value) (w : World) (h : RefAt w 0 vd D) (hcr : D.cr = false) (hlo : D.lo.length ≤ 600000) (h64 : 64 ≤ D.now.length) (hN : D.now.length ≤ 65536) :
    Calls Try.prog 14 #[.agg vd] w (OpenPost w D vd) := by
  obtain ⟨sn, cn, ss, cs, sa, ca, sb, cb, rfl, h1, h2, h3, h4⟩ := h.rows
  obtain ⟨gn, rfl⟩ := own_some h1 (by omega)
  rw [hcr] at h ⊢
  exact refOpen_any gn cn D.now.length (D.now.length / 2) D.sure.length cs D.lo.length ca cb ss sa sb D D.now w h rfl hcr hlo (by omega) hN rfl (Sl.of_own h1)

set_option maxHeartbeats 1000000 in
set_option maxRecDepth 10000 in
theorem refStands_rec (sb : Option Addr) (n cb : Nat) (l : List UInt8) (w : World) (hl : Sl w sb n cb (BV l)) (hn : 10 ≤ n) (hn2 : n ≤ 100000) :
    Calls Try.prog 23 #[.slice sb n cb, .bool false] w fun e w' => e = .returned (.bool (parse 0 smRec l 0).isSome) ∧ Keeps (fun _ => False) w w' := by
  have hll : l.length = n := by have := hl.len; simpa using this
  obtain ⟨ad, off, rfl⟩ := hl.isSome (by omega)
  have hp := parse_rec0 l
  have hc := hl.le
  have HLG := Lib.hid (refLong_any (some ⟨ad, off, none⟩) n cb l w hl)
  obtain ⟨lg, hlg⟩ : ∃ x, longR l = x := ⟨_, rfl⟩
  have hlb := longR_lt l
  rw [hlg] at HLG hp hlb
  rw [hll] at hp
  have HS := Lib.hid (And.intro hl (And.intro hp hll))
  obtain ⟨res, hres⟩ : ∃ r, (parse 0 smRec l 0).isSome = r := ⟨_, rfl⟩
  rw [hres]
  have HRS := Lib.hid hres
  clear hl hp hll hlg hres
  go_enter Try.func23, Try.ntmps23
  go_wp2_with fail
  refine HLG.out.mono ?_
  rintro e y1 ⟨rfl, hk⟩
  have HK := Lib.hid hk
  clear HLG hk
  by_cases h0 : lg < 0
  · have t0 : ¬ lg ≥ 0 := by omega
    have HR : Hid (res = false) := Lib.hid (by rw [← HRS.out, HS.out.2.1, if_pos (Or.inl h0)]; rfl)
    clear hlb h0
    go_wp2
    go_ret
    exact ⟨by rw [HR.out]; rfl, HK.out⟩
  · obtain ⟨kk, rfl⟩ : ∃ k : Nat, lg = (k : Int) := ⟨lg.toNat, by omega⟩
    obtain ⟨k10, hk10⟩ : ∃ x, 10 + kk = x := ⟨_, rfl⟩
    have t0 : (kk : Int) ≥ 0 := by omega
    have q1 : 10 + (kk : Int) = (k10 : Int) := by omega
    have q2 : IntKind.i64.wrap (k10 : Int) = (k10 : Int) := IntWalk.i64_in _ (by omega)
    have HKB : Hid (kk < 65536) := Lib.hid (by omega)
    clear hlb h0
    by_cases h1 : (n : Int) ≥ (k10 : Int)
    · have hy := (HS.out.1.quiet HK.out).cut (i := 2) (k := kk) (by omega)
      obtain ⟨y, hyd⟩ : ∃ y, cut l 2 kk = y := ⟨_, rfl⟩
      rw [hyd] at hy
      have hyl : y.length = kk := by rw [← hyd]; exact cut_length _ _ _ (by have := HS.out.2.2; omega)
      have hpp : (parse 0 smRec l 0).isSome = decide (l.take (kk + 10) = recF y) := by
        rw [HS.out.2.1, if_neg (by omega)]
        simp only [Int.toNat_natCast]
        rw [hyd]
        split <;> simp [*]
      have HRC := Lib.hid (refRecord_any (some ⟨ad, off + 2, none⟩) kk (cb - 2) y y1 hy (by have := HKB.out; omega))
      have HY := Lib.hid (And.intro hy (And.intro hyl hpp))
      obtain ⟨k2, hk2⟩ : ∃ x, 2 + kk = x := ⟨_, rfl⟩
      have mx : (if (0 : Int) < (kk : Int) then (kk : Int) else 0) = (kk : Int) := by split <;> omega
      have mx2 : max (kk : Int) 0 = (kk : Int) := by omega
      have o1 : 2 + (kk : Int) = (k2 : Int) := by omega
      have o2 : IntKind.i64.wrap (k2 : Int) = (k2 : Int) := IntWalk.i64_in _ (by omega)
      have o3 : (2 : Int) ≤ (k2 : Int) := by omega
      have o4 : (k2 : Int) ≤ (cb : Int) := by omega
      have o5 : 2 ≤ k2 := by omega
      have o6 : k2 ≤ cb := by omega
      have o7 : k2 - 2 = kk := by omega
      have o8 : ¬ cb = 2 := by omega
      clear hk10 hk2 hy hyl hpp hyd
      go_wp2_with fail
      refine HRC.out.mono ?_
      rintro e y2 ⟨s7, c7, rfl, ho7, hk⟩
      have HBG := Lib.hid (refBegins_any (some ⟨ad, off, none⟩) s7 n (kk + 10) cb c7 l (recF y) y2 ((HS.out.1.quiet HK.out).quiet hk) (Sl.of_own ho7))
      rw [recF_length, HY.out.2.1] at HBG
      replace HK := Lib.hid (HK.out.quiet hk)
      clear HRC ho7 hk
      go_wp2_with fail
      refine HBG.out.mono ?_
      rintro e y3 ⟨rfl, hk⟩
      replace HK := Lib.hid (HK.out.quiet hk)
      clear HBG hk
      obtain ⟨rr, hrr⟩ : ∃ r, decide (l.take (kk + 10) = recF y) = r := ⟨_, rfl⟩
      rw [hrr]
      have HR : Hid (res = rr) := Lib.hid (by rw [← HRS.out, HY.out.2.2, hrr])
      clear hrr
      go_wp2
      go_ret
      exact ⟨by rw [HR.out]; rfl, HK.out⟩
    · have HR : Hid (res = false) := Lib.hid (by rw [← HRS.out, HS.out.2.1, if_pos (Or.inr (by omega))]; rfl)
      clear hk10
      go_wp2
      go_ret
      exact ⟨by rw [HR.out]; rfl, HK.out⟩

set_option maxHeartbeats 1000000 in
set_option maxRecDepth 10000 in
theorem refStands_key (sb : Option Addr) (n cb : Nat) (l : List UInt8) (w : World) (hl : Sl w sb n cb (BV l)) (hn : 10 ≤ n) (hn2 : n ≤ 100000) :
    Calls Try.prog 23 #[.slice sb n cb, .bool true] w fun e w' => e = .returned (.bool (decide (0 < (plOf l 0 n).1))) ∧ Keeps (fun _ => False) w w' := by
  have hll : l.length = n := by have := hl.len; simpa using this
  have HLG := Lib.hid (refLong_any sb n cb l w hl)
  have hpl : plOf (l ++ l) 0 n = plOf l 0 n := by
    unfold plOf
    have e1 : cut (l ++ l) 0 n = cut l 0 n := by unfold cut; rw [List.drop_zero, List.drop_zero, List.take_append_of_le_length (by omega)]
    rw [e1]
  have HL := Lib.hid (And.intro hl (And.intro hll hpl))
  clear hl hll hpl
  go_enter Try.func23, Try.ntmps23
  go_wp2_with fail
  refine HLG.out.mono ?_
  rintro e y1 ⟨rfl, hk⟩
  have HK := Lib.hid hk
  clear HLG hk
  go_wp2_with (at_builtin; first
    | (refine wpList_newB rfl _ _ rfl rfl sb n cb l rfl (HL.out.1.quiet HK.out) (by omega) ?_; intro s2 c2 w2 hown2 hk2; have H2 := Lib.hid (And.intro hown2 (HK.out.quiet hk2)); have hz2 := hk2.size; clear hown2 hk2)
    | (refine wpList_appB rfl _ _ rfl y1.heap.size s2 n c2 (BV l) rfl H2.out.1 sb n cb l rfl (HL.out.1.quiet H2.out.2) (by omega) hz2 ?_
       intro s3 c3 w3 hown3 hk3
       have H3 := Lib.hid (And.intro hown3 (H2.out.2.trans hk3 (fun j hj e => by have := (own_lt H2.out.1 e).1; have := HK.out.size; omega)))
       clear hown3 hk3
       obtain ⟨b6, hb6⟩ : ∃ b, w3.heap.size = b := ⟨_, rfl⟩
       obtain ⟨w6, hw6⟩ : ∃ v, w3.alloc (.cells #[.slice none 0 0, .slice none 0 0, .slice none 0 0, .slice none 0 0, .bool false, .int .i64 0, .int .i64 0, .slice none 0 0, .int .i64 0, .int .u64 0, .slice none 0 0] 41) = v := ⟨_, rfl⟩
       have q6 : w6.heap[b6]? = some (.cells #[.slice none 0 0, .slice none 0 0, .slice none 0 0, .slice none 0 0, .bool false, .int .i64 0, .int .i64 0, .slice none 0 0, .int .i64 0, .int .u64 0, .slice none 0 0] 41 (0, 0)) := by rw [← hw6, ← hb6]; exact World.alloc_heap_new w3 _
       have k6 : Keeps (fun _ => False) w3 w6 := by rw [← hw6]; exact (Keeps.refl _ w3).alloc _
       obtain ⟨x6, hx6⟩ : ∃ v, (((((((((((w6.setCell ⟨b6, 0, none⟩ (.slice s3 (n + n) c3)).setCell ⟨b6, 1, none⟩ (.slice none 0 0)).setCell ⟨b6, 2, none⟩ (.slice none 0 0)).setCell ⟨b6, 3, none⟩ (.slice none 0 0)).setCell ⟨b6, 4, none⟩ (.bool false)).setCell ⟨b6, 5, none⟩ (.int .i64 0)).setCell ⟨b6, 6, none⟩ (.int .i64 0)).setCell ⟨b6, 7, none⟩ (.slice none 0 0)).setCell ⟨b6, 8, none⟩ (.int .i64 0)).setCell ⟨b6, 9, none⟩ (.int .u64 0)).setCell ⟨b6, 10, none⟩ (.slice none 0 0)) = v := ⟨_, rfl⟩
       have h66 := heap_eleven q6 (.slice s3 (n + n) c3) (.slice none 0 0) (.slice none 0 0) (.slice none 0 0) (.bool false) (.int .i64 0) (.int .i64 0) (.slice none 0 0) (.int .i64 0) (.int .u64 0) (.slice none 0 0)
       have k7 := keeps_eleven w6 b6 (.slice s3 (n + n) c3) (.slice none 0 0) (.slice none 0 0) (.slice none 0 0) (.bool false) (.int .i64 0) (.int .i64 0) (.slice none 0 0) (.int .i64 0) (.int .u64 0) (.slice none 0 0)
       rw [hx6] at h66 k7
       have d0 := cellAt q6 0
       have f0 := freeAt q6 0
       have g0 := cellAt h66 0
       have d1 := cellAt q6 1
       have f1 := freeAt q6 1
       have g1 := cellAt h66 1
       have d2 := cellAt q6 2
       have f2 := freeAt q6 2
       have g2 := cellAt h66 2
       have d3 := cellAt q6 3
       have f3 := freeAt q6 3
       have g3 := cellAt h66 3
       have d4 := cellAt q6 4
       have f4 := freeAt q6 4
       have g4 := cellAt h66 4
       have d5 := cellAt q6 5
       have f5 := freeAt q6 5
       have g5 := cellAt h66 5
       have d6 := cellAt q6 6
       have f6 := freeAt q6 6
       have g6 := cellAt h66 6
       have d7 := cellAt q6 7
       have f7 := freeAt q6 7
       have g7 := cellAt h66 7
       have d8 := cellAt q6 8
       have f8 := freeAt q6 8
       have g8 := cellAt h66 8
       have d9 := cellAt q6 9
       have f9 := freeAt q6 9
       have g9 := cellAt h66 9
       have d10 := cellAt q6 10
       have f10 := freeAt q6 10
       have g10 := cellAt h66 10
       simp at d0 g0 d1 g1 d2 g2 d3 g3 d4 g4 d5 g5 d6 g6 d7 g7 d8 g8 d9 g9 d10 g10
       have hkw : Keeps (fun _ => False) w3 x6 := k6.trans k7 (fun j hj e => by have e' : j = b6 := e; omega)
       have H6 := Lib.hid (And.intro (own_keep H3.out.1 hkw (fun _ _ h => h)) (H3.out.2.quiet hkw))
       clear q6 k6 h66 k7 hkw))
  obtain ⟨gs, rfl⟩ := own_some H6.out.1 (by omega)
  have hsl : Sl x6 (some ⟨gs, 0, none⟩) (n + n) c3 (BV (l ++ l)) := by rw [BV_append]; exact Sl.of_own H6.out.1
  have HP := Lib.hid (refPlace_any gs 0 (n + n) c3 0 0 0 (l ++ l) (.slice none 0 0) (.slice none 0 0) (.slice none 0 0) (.bool false) (.int .i64 0) (.slice none 0 0) (.int .i64 0) (.int .u64 0) (.slice none 0 0) x6 hsl (by omega) (by omega) (by omega) (by simp) (by omega) (by omega))
  rw [show (n + n - 0) / 2 = n by omega, HL.out.2.2] at HP
  refine HP.out.mono ?_
  rintro e y9 ⟨sk, nk, ck, tn, is, rfl, his, _, hk⟩
  have HK9 := Lib.hid (H6.out.2.quiet hk)
  have HIS := Lib.hid his
  clear his hk HP d0 f0 g0 d1 f1 g1 d2 f2 g2 d3 f3 g3 d4 f4 g4 d5 f5 g5 d6 f6 g6 d7 f7 g7 d8 f8 g8 d9 f9 g9 d10 f10 g10 hw6 hx6 hb6
  go_wp2
  go_ret
  exact ⟨by rw [← HIS.out]; rfl, HK9.out⟩
end Go.Proofs.Ytpojkhjenbbodaa
