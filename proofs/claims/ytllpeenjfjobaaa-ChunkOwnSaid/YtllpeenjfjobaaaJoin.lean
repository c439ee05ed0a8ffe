/-
  bytes.Join of rows, nothing between them, and chunk.Join. Conditions: fewer than 10^6 rows, of fewer than 10^6 bytes in all.
-/
import Derived.Test.YtllpeenjfjobaaaRowsB
import Derived.Test.YtllpeenjfjobaaaCopyB
import Derived.Lib.MakeNoZero
import Derived.Laws.Externs
namespace Go.Proofs.Ytllpeenjfjobaaa
open Go.RowKit

theorem run_mnz (T : Nat) (hT : T ≤ 1000000000) (w : World) : ∃ cs : Array Value, (callFunc 47 #[.int .i64 (T : Int)]).run Try.prog w = .ok (.value (.slice (some ⟨w.heap.size, 0, none⟩) T cs.size)) (w.drew.drew.alloc (.cells cs 5)) ∧ T ≤ cs.size ∧ cs.size ≤ maxLen := by
  obtain ⟨cs, hr, h1, h2⟩ := Lib.run_makeNoZero (P := Try.prog) w #[3] 22 5 Try.underlying22 T (by omega)
  refine ⟨cs, ?_, h1, h2 (by unfold maxLen; omega)⟩
  rw [run_callFunc_extern Try.func47 (by kernel_rfl) (by kernel_rfl) (by kernel_rfl) (e := Extern.BytealgMakeNoZero.makeNoZero #[3] #[22]) (by kernel_rfl), hr]
  rfl

theorem flat_snoc (rs : List (List UInt8)) (k : Nat) (r : List UInt8) (h : rs[k]? = some r) : (rs.take (k + 1)).flatten = (rs.take k).flatten ++ r := by
  rw [List.take_succ_eq_append_getElem (List.getElem?_eq_some_iff.1 h).1, (List.getElem?_eq_some_iff.1 h).2, List.flatten_append]
  simp
theorem flat_le (rs : List (List UInt8)) (k : Nat) : (rs.take k).flatten.length ≤ rs.flatten.length := by
  have : rs.flatten = (rs.take k).flatten ++ (rs.drop k).flatten := by rw [← List.flatten_append, List.take_append_drop]
  rw [this, List.length_append]
  omega
theorem splice_nil {α : Type} (xs : List α) (k : Nat) : splice xs k [] = xs := by simp [splice]
theorem splice_take {α : Type} (xs : List α) (k : Nat) (cs : List α) (h : k + cs.length ≤ xs.length) : (splice xs k cs).take (k + cs.length) = xs.take k ++ cs := by
  unfold splice
  have e1 : (xs.take k).length = k := by rw [List.length_take]; omega
  have e2 : (xs.take k ++ cs).length = k + cs.length := by rw [List.length_append, e1]
  rw [← List.append_assoc, ← e2, List.take_left]

def JnRel (w : World) (rs : List (List UInt8)) (n i : Value) (wr : World) : Prop := ∃ k : Nat, k ≤ rs.length ∧ i = .int .i64 (k : Int) ∧ n = .int .i64 ((rs.take k).flatten.length : Int) ∧ w = wr
def JnCopy (w : World) (B g T cap : Nat) (rs : List (List UInt8)) (bp i : Value) (wr : World) : Prop :=
  ∃ (k : Nat) (xs : List Value), k + 1 ≤ rs.length ∧ i = .int .i64 (k : Int) ∧ bp = .int .i64 ((rs.take (k + 1)).flatten.length : Int) ∧ wr.ownsRow B 5 1 (.slice (some ⟨g, 0, none⟩) T cap) T xs ∧ xs.take (rs.take (k + 1)).flatten.length = BV (rs.take (k + 1)).flatten ∧ Keeps (fun _ => False) w wr

theorem infoB1 : (Try.prog.info? 5).map (·.size) = some 1 := by kernel_rfl

set_option maxHeartbeats 2000000 in
set_option maxRecDepth 10000 in
theorem bjoin_any (sa : Option Addr) (n cap : Nat) (vs : List Value) (rs : List (List UInt8)) (w : World) (hl : Sl w sa n cap vs) (hr : RowsS w vs rs) (hn : n ≤ 1000000) (ht : rs.flatten.length ≤ 1000000) :
    Calls Try.prog 43 #[.slice sa n cap, .slice none 0 0] w fun e w' => ∃ sb c c2, e = .returned (.slice sb rs.flatten.length c) ∧ w'.ownsRow w.heap.size 5 1 (.slice sb rs.flatten.length c2) rs.flatten.length (BV rs.flatten) ∧ c ≤ c2 ∧ rs.flatten.length ≤ c ∧ Keeps (fun _ => False) w w' := by
  have hrn : rs.length = n := by rw [← hr.len]; exact hl.len
  have hle := hl.le
  have hcb := hl.capB
  obtain ⟨T, hT⟩ : ∃ T, rs.flatten.length = T := ⟨_, rfl⟩
  rw [hT] at ht ⊢
  have HL := Lib.hid (And.intro hl (And.intro hr (And.intro hrn hT)))
  clear hl hr hrn hT
  match n with
  | 0 =>
    have e0 : rs = [] := List.eq_nil_of_length_eq_zero HL.out.2.2.1
    have e1 : T = 0 := by rw [← HL.out.2.2.2, e0]; rfl
    subst e1
    have H0 := Lib.hid e0
    clear e0
    go_enter Try.func43, Try.ntmps43
    go_wp2
    go_ret
    rw [H0.out]
    exact ⟨some ⟨w.heap.size, 0, none⟩, 0, 0, rfl, World.ownsRow_made (cap := 0) w #[] (Nat.le_refl _) (by decide) rfl, Nat.le_refl _, Nat.le_refl _, (Keeps.refl _ w).alloc _⟩
  | 1 =>
    obtain ⟨r, hr0⟩ : ∃ r, rs[0]? = some r := ⟨_, List.getElem?_eq_getElem (by have := HL.out.2.2.1; omega)⟩
    have e0 : rs = [r] := by
      have h1 := HL.out.2.2.1
      match rs, h1 with
      | [x], _ => simp at hr0; rw [hr0]
    obtain ⟨b, off, rfl⟩ := HL.out.1.isSome (by omega)
    obtain ⟨sr, cr, hvr, hsr⟩ := HL.out.2.1.row 0 r hr0
    have d1 : w.cell? ⟨b, off, none⟩ = some (.slice sr r.length cr) := HL.out.1.cell hvr
    have e1 : r.length = T := by rw [← HL.out.2.2.2, e0]; simp
    rw [e1] at d1 hsr
    have HS := Lib.hid hsr
    have H0 := Lib.hid e0
    clear hvr hsr hr0 e0 e1
    go_enter Try.func43, Try.ntmps43
    go_wp2_with (at_builtin; refine wpList_copyB rfl _ _ rfl rfl sr T cr r rfl HS.out (by omega) ?_; intro s2 c2 w2 hown hk; have HR := Lib.hid (And.intro hown hk); clear hown hk)
    go_ret
    rw [H0.out]
    exact ⟨s2, c2, c2, rfl, by simpa using HR.out.1, Nat.le_refl _, (Sl.of_own HR.out.1).le, HR.out.2⟩
  | m + 2 =>
    obtain ⟨b, off, rfl⟩ := HL.out.1.isSome (by omega)
    obtain ⟨n, hnm⟩ : ∃ n, m + 2 = n := ⟨_, rfl⟩
    have hn2 : 2 ≤ n := by omega
    rw [hnm] at hn HL hle ⊢
    clear hnm
    have f0 : ((n : Int) == 0) = false := by simp; omega
    have f1 : ((n : Int) == 1) = false := by simp; omega
    have f2 : ¬ n = 0 := by omega
    have f3 : ¬ n = 1 := by omega
    go_enter Try.func43, Try.ntmps43
    go_wp2_with fail
    go_loopw [5, 44] (fun s i wr => JnRel w rs s i wr) (fun _ i _ => n - (intOf i).toNat)
    case atStart => exact ⟨0, Nat.zero_le _, rfl, by simp, rfl⟩
    case round =>
      obtain ⟨k, hk, rfl, rfl, rfl⟩ := hrel
      by_cases hlt : k < n
      · obtain ⟨r, hr⟩ : ∃ r, rs[k]? = some r := ⟨_, List.getElem?_eq_getElem (by have := HL.out.2.2.1; omega)⟩
        obtain ⟨sr, cr, hvr, _⟩ := HL.out.2.1.row k r hr
        have d1 : w.cell? ⟨b, off + k, none⟩ = some (.slice sr r.length cr) := HL.out.1.cell hvr
        have hs := flat_snoc rs k r hr
        have hb := flat_le rs (k + 1)
        have hs2 := congrArg List.length hs
        rw [List.length_append] at hs2
        have hT := HL.out.2.2.2
        rw [hT] at hb
        obtain ⟨p, hp⟩ : ∃ p, (rs.take k).flatten.length = p := ⟨_, rfl⟩
        obtain ⟨q, hq⟩ : ∃ q, (rs.take (k + 1)).flatten.length = q := ⟨_, rfl⟩
        obtain ⟨u, hu⟩ : ∃ u, r.length = u := ⟨_, rfl⟩
        rw [hp, hq, hu] at hs2
        rw [hq] at hb
        rw [hu] at d1
        rw [hp]
        have t0 : (0 : Int) ≤ (k : Int) := by omega
        have t1 : (k : Int) < (n : Int) := by omega
        have t2 : ¬ (u : Int) > 9223372036854775807 - (p : Int) := by omega
        have e1 : (p : Int) + (u : Int) = (q : Int) := by omega
        have HQ := Lib.hid (And.intro hq (show k + 1 ≤ rs.length by have := HL.out.2.2.1; omega))
        clear hvr hs hs2 hT hp hq hu hr
        go_wp2
        go_roundw
        case rel => exact ⟨k + 1, HQ.out.2, by go_num, by rw [HQ.out.1], rfl⟩
        case measure => simp [intOf]; omega
      · obtain rfl : k = n := by have := HL.out.2.2.1; omega
        have t1 : ¬ (k : Int) < (k : Int) := by omega
        have e1 : (rs.take k).flatten.length = T := by rw [List.take_of_length_le (by rw [HL.out.2.2.1]; exact Nat.le_refl _)]; exact HL.out.2.2.2
        rw [e1]
        clear e1 hk
        obtain ⟨cs, hcall, hTc, hcm⟩ := run_mnz T (by omega) w
        obtain ⟨C, hC⟩ : ∃ C, cs.size = C := ⟨_, rfl⟩
        rw [hC] at hcall hTc hcm
        obtain ⟨w1, hw1⟩ : ∃ w1, w.drew.drew.alloc (.cells cs 5) = w1 := ⟨_, rfl⟩
        have hown1 : w1.ownsRow w.heap.size 5 1 (.slice (some ⟨w.heap.size, 0, none⟩) T C) T (cs.toList.take T) := by
          rw [← hw1]
          refine ⟨by rw [List.length_take, Array.length_toList, hC]; omega, Or.inr ⟨w.heap.size, C, cs, rfl, Nat.le_refl _, heap_alloc_new w.drew.drew _, hTc, hcm, by omega, by simp⟩⟩
        have hk1 : Keeps (fun _ => False) w w1 := by rw [← hw1]; exact (Keeps.refl _ w).drew.drew.alloc _
        rw [hw1] at hcall
        obtain ⟨g, hg⟩ : ∃ g, w.heap.size = g := ⟨_, rfl⟩
        rw [hg] at hown1 hcall
        obtain ⟨r0, hr0⟩ : ∃ r, rs[0]? = some r := ⟨_, List.getElem?_eq_getElem (by have := HL.out.2.2.1; omega)⟩
        obtain ⟨sr, cr, hvr, hsr⟩ := HL.out.2.1.row 0 r0 hr0
        have d1 : w1.cell? ⟨b, off, none⟩ = some (.slice sr r0.length cr) := (HL.out.1.quiet hk1).cell hvr
        have hs := flat_snoc rs 0 r0 hr0
        have hb := flat_le rs 1
        rw [HL.out.2.2.2, hs] at hb
        simp at hb
        obtain ⟨u, hu⟩ : ∃ u, r0.length = u := ⟨_, rfl⟩
        rw [hu] at d1 hb hsr
        have HO := Lib.hid (And.intro hown1 (And.intro hk1 (And.intro hg (And.intro (hsr.quiet hk1) (And.intro hs hu)))))
        have hmin : (BV r0).length = Nat.min u T := by rw [BV_length, hu]; exact (Nat.min_eq_left hb).symm
        have HM := Lib.hid hmin
        have t2 : ¬ cap = 1 := by omega
        have t3 : (1 : Int) ≤ (cap : Int) := by omega
        have t4 : (k : Int) ≤ (cap : Int) := by omega
        have t5 : (0 : Int) < (k : Int) := by omega
        have t6 : (1 : Int) ≤ (k : Int) := by omega
        have t7 : (0 : Int) ≤ (T : Int) := by omega
        have t8 : (T : Int) ≤ (C : Int) := by omega
        have t9 : 0 < k := by omega
        clear hown1 hk1 hw1 hC hvr hsr hr0 hs hmin hu hTc hcm
        go_wp2_with (refine wpList_copy _ rfl (.tmp 64) (.tmp 67) 22 22 rfl 5 Try.underlying22 infoB1 (some ⟨g, 0, none⟩) sr T T u cr rfl rfl g g T C _ HO.out.1 0 (BV r0) HM.out (by rw [BV_length, HO.out.2.2.2.2.2]; omega) (fun h => ⟨rfl, by obtain ⟨bb, oo, e⟩ := HO.out.2.2.2.1.isSome (by rw [BV_length, HO.out.2.2.2.2.2] at h; exact h); exact ⟨_, e, fun j v hv => HO.out.2.2.2.1.lies _ e j v hv⟩⟩) (BV_one _) ?_; intro w2 hown hgr; have HR := Lib.hid (And.intro hown hgr); clear hown hgr)
        have HK2 : Hid (w2.ownsRow g 5 1 (.slice (some ⟨g, 0, none⟩) T C) T (splice (cs.toList.take T) 0 (BV r0)) ∧ (splice (cs.toList.take T) 0 (BV r0)).take (rs.take (0 + 1)).flatten.length = BV (rs.take (0 + 1)).flatten ∧ (rs.take (0 + 1)).flatten.length = u ∧ Keeps (fun _ => False) w w2) := by
          have e := HO.out.2.2.2.2.1
          simp only [List.take_zero, List.flatten_nil, List.nil_append] at e
          rw [e, HO.out.2.2.2.2.2]
          refine ⟨HR.out.1, ?_, rfl, HO.out.2.1.grown HR.out.2 (fun k e hlt => ?_)⟩
          · have := splice_take (cs.toList.take T) 0 (BV r0) (by rw [BV_length, HO.out.2.2.2.2.2]; have := HO.out.1.1; omega)
            rw [BV_length, HO.out.2.2.2.2.2, Nat.zero_add] at this
            simpa using this
          · have := HO.out.2.2.1
            simp only [Option.some.injEq] at e
            omega
        have HG := Lib.hid HO.out.2.2.1
        have HU := Lib.hid HO.out.2.2.2.2.2
        clear HO HM HR d1 hcall hb hg
        go_loopw [9, 72] (fun bp i wr => JnCopy w g g T C rs bp i wr) (fun _ i _ => k - (intOf i).toNat)
        case atStart => exact ⟨0, _, by have := HL.out.2.2.1; omega, rfl, by rw [HK2.out.2.2.1, ← HU.out], HK2.out.1, HK2.out.2.1, HK2.out.2.2.2⟩
        case round =>
          clear HK2
          obtain ⟨j, xs, hj, rfl, rfl, hown, htk, hkp⟩ := hrel
          by_cases hlt : j + 1 < k
          · obtain ⟨r, hr⟩ : ∃ r, rs[j + 1]? = some r := ⟨_, List.getElem?_eq_getElem (by have := HL.out.2.2.1; omega)⟩
            obtain ⟨sx, cx, hvx, hsx⟩ := HL.out.2.1.row (j + 1) r hr
            have d1 := (HL.out.1.quiet hkp).cell hvx
            rw [show off + (j + 1) = off + 1 + j by omega] at d1
            have hs := flat_snoc rs (j + 1) r hr
            have hb := flat_le rs (j + 1 + 1)
            rw [HL.out.2.2.2] at hb
            have hs2 := congrArg List.length hs
            rw [List.length_append] at hs2
            obtain ⟨p, hp⟩ : ∃ p, (rs.take (j + 1)).flatten.length = p := ⟨_, rfl⟩
            obtain ⟨q, hq⟩ : ∃ q, (rs.take (j + 1 + 1)).flatten.length = q := ⟨_, rfl⟩
            obtain ⟨v, hv⟩ : ∃ u, r.length = u := ⟨_, rfl⟩
            rw [hp, hq, hv] at hs2
            rw [hq] at hb
            rw [hv] at d1 hsx
            rw [hp] at htk ⊢
            have HX := Lib.hid (And.intro hown (And.intro htk (And.intro hkp (And.intro hsx (And.intro hs (And.intro hp (And.intro hq hv)))))))
            have HJ : Hid (∀ (ys : List Value) (wz : World), wz.ownsRow g 5 1 (.slice (some ⟨g, 0, none⟩) T C) T ys → ys.take q = BV (rs.take (j + 1 + 1)).flatten → Keeps (fun k => k = g) w wz → JnCopy w g g T C rs (.int .i64 (q : Int)) (.int .i64 ((j : Int) + 1)) wz) := by
              intro ys wz h1 h2 h3
              refine ⟨j + 1, ys, by have := HL.out.2.2.1; omega, by go_num, by rw [HX.out.2.2.2.2.2.2.1], h1, by rw [HX.out.2.2.2.2.2.2.1]; exact h2, h3.mono (fun i hi e => ?_)⟩
              have := HG.out
              omega
            have t0 : (0 : Int) ≤ (j : Int) := by omega
            have t1 : (j : Int) < (k : Int) - 1 := by omega
            have t1b : (j : Int) < ((k - 1 : Nat) : Int) := by omega
            have t1c : j < k - 1 := by omega
            have u0 : (0 : Int) ≤ (p : Int) := by omega
            have u1 : (p : Int) ≤ (T : Int) := by omega
            have e1 : (p : Int) + (v : Int) = (q : Int) := by omega
            clear hvx hsx hs hv hp hq hr hown htk hkp hj
            have hqp : q = p + v := by omega
            have HQP := Lib.hid (And.intro hqp hb)
            clear hs2 hb
            by_cases hTp : T = p
            · have hv0 : v = 0 := by have := HQP.out.2; omega
              have hq0 : q = p := by omega
              have hr0 : BV r = [] := by have h := HX.out.2.2.2.2.2.2.2; rw [hv0] at h; rw [List.eq_nil_of_length_eq_zero h]; rfl
              clear hqp
              subst hv0 hq0 hTp
              clear e1
              go_wp2_with (first | (refine wpList_copy _ rfl (.tmp 79) (.tmp 80) 22 22 rfl 5 Try.underlying22 infoB1 _ none _ _ 0 0 rfl rfl g g T C _ HX.out.1 0 [] (by simp) (by simp) (fun h => by simp at h) (fun _ h => by simp at h) ?_; intro w3 hown hgr; have HR := Lib.hid (And.intro hown hgr); clear hown hgr; try simp only [List.length_nil]) | (refine wpList_copy _ rfl (.tmp 86) (.tmp 87) 22 22 rfl 5 Try.underlying22 infoB1 _ sx _ _ 0 cx rfl rfl g g T C _ HR.out.1 0 [] (by simp) (by simp) (fun h => by simp at h) (fun _ h => by simp at h) ?_; intro w4 hown hgr; have HR2 := Lib.hid (And.intro hown hgr); clear hown hgr; try simp only [List.length_nil]))
              go_roundw
              case rel => exact HJ.out xs w4 (by have := HR2.out.1; rwa [splice_nil, splice_nil] at this) (by rw [HX.out.2.2.2.2.1, BV_append, hr0, List.append_nil]; exact HX.out.2.1) (((HX.out.2.2.1.mono (G := fun k => k = g) (fun _ _ h => h.elim)).grown HR.out.2 (fun k e _ => by simpa using e.symm)).grown HR2.out.2 (fun k e _ => by simpa using e.symm))
              case measure => simp [intOf]; omega
            · clear hqp
              have t2 : ¬ T = p := hTp
              have hmin : Hid ((BV r).length = Nat.min v (T - p)) := by
                show _ = _
                rw [BV_length, HX.out.2.2.2.2.2.2.2]
                have := HQP.out
                exact (Nat.min_eq_left (by omega)).symm
              have hfit : Hid (p + (BV r).length ≤ T) := by
                show _ ≤ _
                rw [BV_length, HX.out.2.2.2.2.2.2.2]
                have := HQP.out
                omega
              have hrl : p + r.length ≤ 1000000 := by rw [HX.out.2.2.2.2.2.2.2]; have := HQP.out; omega
              clear hTp
              go_wp2_with (first | (refine wpList_copy _ rfl (.tmp 79) (.tmp 80) 22 22 rfl 5 Try.underlying22 infoB1 _ none _ _ 0 0 rfl rfl g g T C _ HX.out.1 0 [] (by simp) (by simp) (fun h => by simp at h) (fun _ h => by simp at h) ?_; intro w3 hown hgr; have HK3 := Lib.hid (HX.out.2.2.1.grown hgr (fun i e hi => by have := HG.out; simp only [Option.some.injEq] at e; omega)); have HS3 := Lib.hid (HX.out.2.2.2.1.quiet HK3.out); have HR := Lib.hid (And.intro hown hgr); clear hown hgr; try simp only [List.length_nil]) | (refine wpList_copy _ rfl (.tmp 86) (.tmp 87) 22 22 rfl 5 Try.underlying22 infoB1 (some ⟨g, p, none⟩) sx (T - p) _ v cx rfl rfl g g T C _ HR.out.1 p (BV r) hmin.out hfit.out (fun h => ⟨rfl, by obtain ⟨bb, oo, e⟩ := HS3.out.isSome (by rw [BV_length, HX.out.2.2.2.2.2.2.2] at h; exact h); exact ⟨_, e, fun j v hv => HS3.out.lies _ e j v hv⟩⟩) (BV_one _) ?_; intro w4 hown hgr; have HR2 := Lib.hid (And.intro hown hgr); clear hown hgr))
              go_roundw
              case rel =>
                have e : ((p : Int) + ((BV r).length : Int)) = (q : Int) := by rw [BV_length, HX.out.2.2.2.2.2.2.2]; have := HQP.out.1; omega
                rw [BV_length] at e
                rw [e]
                refine HJ.out _ w4 HR2.out.1 ?_ (((HX.out.2.2.1.mono (G := fun k => k = g) (fun _ _ h => h.elim)).grown HR.out.2 (fun k e _ => by simpa using e.symm)).grown HR2.out.2 (fun k e _ => by simpa using e.symm))
                have := splice_take xs p (BV r) (by have h1 := HX.out.1.1; have h2 := hfit.out; omega)
                rw [splice_nil, show q = p + (BV r).length by rw [BV_length, HX.out.2.2.2.2.2.2.2]; exact HQP.out.1, this, HX.out.2.1, HX.out.2.2.2.2.1, BV_append]
              case measure => simp [intOf]; omega
          · have hjk : j + 1 = k := by have := HL.out.2.2.1; omega
            have e1 : (rs.take (j + 1)).flatten = rs.flatten := by rw [List.take_of_length_le (by rw [HL.out.2.2.1]; omega)]
            rw [e1, HL.out.2.2.2] at htk
            have hxl := hown.1
            rw [List.take_of_length_le (by omega)] at htk
            subst htk
            have t0 : ¬ (j : Int) < (k : Int) - 1 := by omega
            have t1 : ¬ (j : Int) < ((k - 1 : Nat) : Int) := by omega
            have t1c : ¬ j < k - 1 := by omega
            have HF := Lib.hid (And.intro hown hkp)
            clear hown hkp hjk e1 hxl
            go_wp2
            go_ret
            rw [HG.out]
            exact ⟨some ⟨g, 0, none⟩, T, rfl, C, HF.out.1, by omega, Nat.le_refl _, HF.out.2⟩

theorem join_any (sa : Option Addr) (n cap : Nat) (vs : List Value) (rs : List (List UInt8)) (w : World) (hl : Sl w sa n cap vs) (hr : RowsS w vs rs) (hn : n ≤ 1000000) (ht : rs.flatten.length ≤ 1000000) :
    Calls Try.prog 22 #[.slice sa n cap] w fun e w' => ∃ sb c c2, e = .returned (.slice sb rs.flatten.length c) ∧ w'.ownsRow w.heap.size 5 1 (.slice sb rs.flatten.length c2) rs.flatten.length (BV rs.flatten) ∧ c ≤ c2 ∧ rs.flatten.length ≤ c ∧ Keeps (fun _ => False) w w' := by
  have HT := Lib.hid (bjoin_any sa n cap vs rs w hl hr hn ht)
  generalize hf : rs.flatten = fl at *
  generalize hT : fl.length = T at *
  clear hl hr hf
  have HG : Hid (Calls Try.prog 30 #[.slice sa n cap] w fun e w' => ∃ sb c c2, e = .returned (.slice sb T c) ∧ w'.ownsRow w.heap.size 5 1 (.slice sb T c2) T (BV fl) ∧ c ≤ c2 ∧ T ≤ c ∧ Keeps (fun _ => False) w w') := by
    show Calls _ _ _ _ _
    go_enter Try.func30, Try.ntmps30
    go_wp2_with fail
    refine HT.out.mono ?_
    rintro e w1 ⟨s1, c1, c2, rfl, h⟩
    have H := Lib.hid h
    clear h HT
    go_wp2
    go_ret
    exact ⟨s1, c1, c2, rfl, H.out⟩
  clear HT
  go_enter Try.func22, Try.ntmps22
  go_wp2_with fail
  refine HG.out.mono ?_
  rintro e w1 ⟨s1, c1, c2, rfl, h⟩
  have H := Lib.hid h
  clear h HG
  go_wp2
  go_ret
  exact ⟨s1, c1, c2, rfl, H.out⟩
end Go.Proofs.Ytllpeenjfjobaaa
