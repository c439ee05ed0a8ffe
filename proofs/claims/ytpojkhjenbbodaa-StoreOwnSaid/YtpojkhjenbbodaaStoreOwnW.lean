/-
  The law StoreOwn: the walk. Conditions: the arguments are what came in.
-/
import Derived.Test.YtpojkhjenbbodaaJGood
namespace Go.Proofs.Ytpojkhjenbbodaa
open Go.RowKit

theorem good200 : Good 100 50 0 (S0 200) := S0_good (H := 100) (Z := 50) (R := 0) rfl rfl (by omega)
theorem own_plain (la lb : List UInt8) (ha : la.length ≤ 20) (hb : lb.length ≤ 20) : ((S0 200).append la).2 = 0 ∧ (((S0 200).append la).1.set lb).2 = 0 ∧ (((S0 200).append la).1.set lb).1.recs = [la] ∧ (((S0 200).append la).1.set lb).1.keys = lb ∧ ((S0 200).append la).1.d.lo = [] ∧ ((S0 200).append la).1.turn = 0 := by
  obtain ⟨a1, a2, a3, a4, a5, a6⟩ := good_append good200 la (by rw [room_of good200]; show _ ≤ max (((100 : Nat) : Int) - ((0 : Nat) : Int) - 10) (-1); omega)
  have ht : ((S0 200).append la).1.turn = 0 := a5
  obtain ⟨b1, b2, b3, b4, _⟩ := good_set a2 lb (by omega) (by rw [ht]; omega)
  exact ⟨a1, b1, by rw [b3, a3]; rfl, b4, a2.lo, ht⟩

/-- Two rows of bytes are written over. -/
def OnRel (w0 : World) (sa sr : Option Addr) (n ca cr : Nat) (i : Value) (wr : World) : Prop :=
  ∃ (k : Nat) (la lr : List UInt8), k ≤ n ∧ i = .int .i64 (k : Int) ∧ wr.ownsRow 0 5 1 (.slice sa n ca) n (BV la) ∧ wr.ownsRow 0 5 1 (.slice sr n cr) n (BV lr) ∧ Keeps (fun k => sa = some ⟨k, 0, none⟩ ∨ sr = some ⟨k, 0, none⟩) w0 wr
theorem on_step {w0 wr : World} {sa sr : Option Addr} {n ca cr k ga gr : Nat} {la lr : List UInt8} (hk : k < n) (ea : sa = some ⟨ga, 0, none⟩) (er : sr = some ⟨gr, 0, none⟩) (hne : ga ≠ gr)
    (ha : wr.ownsRow 0 5 1 (.slice sa n ca) n (BV la)) (hr : wr.ownsRow 0 5 1 (.slice sr n cr) n (BV lr)) (kp : Keeps (fun k => sa = some ⟨k, 0, none⟩ ∨ sr = some ⟨k, 0, none⟩) w0 wr) :
    (∃ x, wr.cell? ⟨ga, k, none⟩ = some x) ∧ wr.frozen? ⟨ga, k, none⟩ = false ∧ (∃ x, (wr.setCell ⟨ga, k, none⟩ (.int .u8 77)).cell? ⟨gr, k, none⟩ = some x) ∧ (wr.setCell ⟨ga, k, none⟩ (.int .u8 77)).frozen? ⟨gr, k, none⟩ = false ∧
      OnRel w0 sa sr n ca cr (.int .i64 ((k : Int) + 1)) ((wr.setCell ⟨ga, k, none⟩ (.int .u8 77)).setCell ⟨gr, k, none⟩ (.int .u8 78)) := by
  subst ea er
  have hla : la.length = n := by have := ha.1; simpa using this
  have hlr : lr.length = n := by have := hr.1; simpa using this
  obtain ⟨x, hx⟩ : ∃ x, la[k]? = some x := ⟨_, List.getElem?_eq_getElem (by omega)⟩
  obtain ⟨y, hy⟩ : ∃ y, lr[k]? = some y := ⟨_, List.getElem?_eq_getElem (by omega)⟩
  have k1 : Keeps (fun b => b = ga) wr (wr.setCell ⟨ga, k, none⟩ (.int .u8 77)) := (Keeps.refl (fun b => b = ga) wr).setCell (p := ⟨ga, k, none⟩) (fun _ => rfl) _
  have ha1 := own_set ha k (.int .u8 77)
  have hr1 := own_keep hr k1 (fun b e hb => by simp [Value.ownBlock] at e; omega)
  have k2 : Keeps (fun b => b = gr) (wr.setCell ⟨ga, k, none⟩ (.int .u8 77)) ((wr.setCell ⟨ga, k, none⟩ (.int .u8 77)).setCell ⟨gr, k, none⟩ (.int .u8 78)) := (Keeps.refl (fun b => b = gr) _).setCell (p := ⟨gr, k, none⟩) (fun _ => rfl) _
  have ha2 := own_keep ha1 k2 (fun b e hb => by simp [Value.ownBlock] at e; omega)
  have hr2 := own_set hr1 k (.int .u8 78)
  rw [show (Value.int .u8 77) = .int .u8 (((77 : UInt8).toNat : Nat) : Int) from rfl, BV_set] at ha2
  rw [show (Value.int .u8 78) = .int .u8 (((78 : UInt8).toNat : Nat) : Int) from rfl, BV_set] at hr2
  refine ⟨⟨_, own_cell ha k _ (by rw [BV_get, hx]; rfl)⟩, own_free ha k, ⟨_, own_cell hr1 k _ (by rw [BV_get, hy]; rfl)⟩, own_free hr1 k, k + 1, _, _, hk, by go_num, ha2, hr2, (kp.trans k1 (fun b _ e => Or.inl (by rw [e]))).trans k2 (fun b _ e => Or.inr (by rw [e]))⟩

set_option maxHeartbeats 4000000 in
set_option maxRecDepth 10000 in
theorem storeOwn_walk (sx : Option Addr) (nx cx : Nat) (lx : List UInt8) (sy : Option Addr) (ny cy : Nat) (ly : List UInt8) (w : World) (hx : Sl w sx nx cx (BV lx)) (hy : Sl w sy ny cy (BV ly)) :
    Calls Try.prog 5 #[.slice sx nx cx, .slice sy ny cy] w fun e w' => e = .returned (.bool true) ∧ Keeps (fun _ => False) w w' := by
  have HM := Lib.hid (made_any 200 w (by omega) (by omega))
  have HXY := Lib.hid (And.intro hx hy)
  clear hx hy
  go_enter Try.func5, Try.ntmps5
  go_wp2_with fail
  refine HM.out.mono ?_
  rintro e w1 ⟨p, pd, F, R, rfl, hst, hk, hF, hR⟩
  have HK := Lib.hid hk
  have HZW := Lib.hid hk.size
  have HS := Lib.hid hst
  have HFR := Lib.hid (And.intro hF hR)
  have HA := Lib.hid (few_any sx nx cx 20 lx w1 (HXY.out.1.quiet hk) (by omega))
  clear HM hst hk hF hR
  go_wp2_with fail
  refine HA.out.mono ?_
  rintro e w2 ⟨sa, ca, rfl, hown, hk⟩
  obtain ⟨la, hla⟩ : ∃ l, lx.take 20 = l := ⟨_, rfl⟩
  have ha20 : la.length ≤ 20 := by rw [← hla, List.length_take]; omega
  rw [hla] at hown ⊢
  obtain ⟨na, hna⟩ : ∃ n, la.length = n := ⟨_, rfl⟩
  rw [hna] at hown ⊢
  have OA := Lib.hid hown
  have HLT0 : Hid (∀ k, F k ∨ R k → k < w1.heap.size) := Lib.hid (fun k h => by obtain ⟨_, _, _, _, _, _, hs⟩ := HS.out; exact h.elim (hs.flt k) (hs.rlt k))
  have HB := Lib.hid (few_any sy ny cy 20 ly w2 ((HXY.out.2.quiet HK.out).quiet hk) (by omega))
  replace HS := Lib.hid (HS.out.quiet hk)
  replace HK := Lib.hid (HK.out.quiet hk)
  have HZ12 := Lib.hid hk.size
  clear HA hown hk hla
  go_wp2_with fail
  refine HB.out.mono ?_
  rintro e w3 ⟨sb, cb, rfl, hown, hk⟩
  obtain ⟨lb, hlb⟩ : ∃ l, ly.take 20 = l := ⟨_, rfl⟩
  have hb20 : lb.length ≤ 20 := by rw [← hlb, List.length_take]; omega
  rw [hlb] at hown ⊢
  obtain ⟨nb, hnb⟩ : ∃ n, lb.length = n := ⟨_, rfl⟩
  rw [hnb] at hown ⊢
  have HAB : Hid (∀ k, sa = some ⟨k, 0, none⟩ ∨ sb = some ⟨k, 0, none⟩ → w1.heap.size ≤ k ∧ k < w3.heap.size) := Lib.hid (fun k h => by
    have hz := hk.size
    have hz2 := HZ12.out
    rcases h with h | h
    · have := own_lt OA.out h; omega
    · have := own_lt hown h; omega)
  have OBA : Hid (∀ k, sb = some ⟨k, 0, none⟩ → ¬ sa = some ⟨k, 0, none⟩) := Lib.hid (fun k e1 e2 => by have h1 := (own_lt hown e1).1; have h2 := (own_lt OA.out e2).2; omega)
  have OB := Lib.hid (own_base (base' := 0) hown (fun _ _ => Nat.zero_le _))
  replace OA := Lib.hid (own_base (base' := 0) (own_keep OA.out hk (fun _ _ h => h)) (fun _ _ => Nat.zero_le _))
  replace HS := Lib.hid (HS.out.quiet hk)
  have HZ0 : Hid (w.heap.size ≤ w3.heap.size ∧ w.heap.size ≤ w1.heap.size) := Lib.hid (And.intro (Nat.le_trans HK.out.size hk.size) HZW.out)
  replace HK := Lib.hid (HK.out.quiet hk)
  have cx1 := run_strSl (Sl.of_own OA.out)
  have cx2 := run_strSl (Sl.of_own OB.out)
  obtain ⟨f1, f2, f3, f4, f5, f6⟩ := own_plain la lb ha20 hb20
  have HFA := Lib.hid (And.intro f3 f4)
  have HP := Lib.hid (append_any p pd (S0 200) F R w3 HS.out sa na ca la (Sl.of_own OA.out) (by omega) (fun ad e h0 hf => by
    obtain ⟨g, hg⟩ := own_some OA.out h0
    rw [hg] at e
    cases e
    have h1 := HAB.out g (Or.inl hg)
    have h2 := HLT0.out g (Or.inl hf)
    omega) (by rw [good200.lo]; simp) (by show 0 + 1 ≤ _; omega))
  rw [f1] at HP
  have HN := Lib.hid (And.intro hna hnb)
  have hna20 : na ≤ 20 := by omega
  have hnb20 : nb ≤ 20 := by omega
  have HPL := Lib.hid (And.intro f2 (And.intro f5 f6))
  clear HB hown hk hlb HXY hna hnb f1 f2 f3 f4 f5 f6 ha20 hb20
  go_wp2_with fail
  refine HP.out.mono ?_
  rintro e w4 ⟨rfl, F4, R4, hst, hk, hf, hr⟩
  have HFR4 : Hid (∀ k, F4 k ∨ R4 k → (k < w1.heap.size ∧ w.heap.size ≤ k) ∨ w3.heap.size ≤ k) := Lib.hid (fun k h => by
    rcases h with h | h
    · exact (hf k h).elim (fun h => Or.inl ⟨HLT0.out k (Or.inl h), HFR.out.1 k h⟩) (fun h => Or.inr h)
    · exact (hr k h).elim (fun h => Or.inl ⟨HLT0.out k (Or.inr h), HFR.out.2 k h⟩) (fun h => Or.inr h))
  replace OA := Lib.hid (own_keep OA.out hk (fun k e h => by have h1 := HAB.out k (Or.inl (form_own OA.out e)); have h2 := HLT0.out k (Or.inl h); omega))
  replace OB := Lib.hid (own_keep OB.out hk (fun k e h => by have h1 := HAB.out k (Or.inr (form_own OB.out e)); have h2 := HLT0.out k (Or.inl h); omega))
  replace HK := Lib.hid (HK.out.trans hk (fun k hk h => by have := HFR.out.1 k h; omega))
  have HP2 := Lib.hid (set_any p pd _ F4 R4 w4 hst sb nb cb lb (Sl.of_own OB.out) (by omega) (fun ad e h0 hf => by
    obtain ⟨g, hg⟩ := own_some OB.out h0
    rw [hg] at e
    cases e
    have h1 := HAB.out g (Or.inr hg)
    have := HFR4.out g (Or.inl hf)
    omega) (by rw [HPL.out.2.1]; simp) (by rw [HPL.out.2.2]; omega))
  rw [HPL.out.1] at HP2
  have HS34 := Lib.hid hk.size
  obtain ⟨S, hS⟩ : ∃ S, (((S0 200).append la).1.set lb).1 = S := ⟨_, rfl⟩
  rw [hS] at HP2 HFA
  clear HP hst hk hf hr HS HFR HPL hS cx1 cx2
  go_wp2_with fail
  refine HP2.out.mono ?_
  rintro e w5 ⟨rfl, F5, R5, hst, hk, hf, hr⟩
  have HFR5 : Hid (∀ k, F5 k ∨ R5 k → ((k < w1.heap.size ∧ w.heap.size ≤ k) ∨ w3.heap.size ≤ k) ∧ k < w5.heap.size) := Lib.hid (fun k h => by
    obtain ⟨_, _, _, _, _, _, hs⟩ := hst
    have := HS34.out
    rcases h with h | h
    · exact ⟨(hf k h).elim (fun h => HFR4.out k (Or.inl h)) (fun h => Or.inr (by omega)), hs.flt k h⟩
    · exact ⟨(hr k h).elim (fun h => HFR4.out k (Or.inr h)) (fun h => Or.inr (by omega)), hs.rlt k h⟩)
  have HZ5 : Hid (w3.heap.size ≤ w5.heap.size) := Lib.hid (Nat.le_trans HS34.out hk.size)
  replace OA := Lib.hid (own_keep OA.out hk (fun k e h => by have h1 := HAB.out k (Or.inl (form_own OA.out e)); have h2 := HFR4.out k (Or.inl h); omega))
  replace OB := Lib.hid (own_keep OB.out hk (fun k e h => by have h1 := HAB.out k (Or.inr (form_own OB.out e)); have h2 := HFR4.out k (Or.inl h); omega))
  replace HK := Lib.hid (HK.out.trans hk (fun k hk h => by have h2 := HFR4.out k (Or.inl h); have h3 := HZ0.out; omega))
  have HS := Lib.hid hst
  have HR := Lib.hid (records_any p pd S F5 R5 w5 hst)
  rw [HFA.out.1, show [la].length = 1 from rfl] at HR
  clear HP2 hst hk hf hr HS34 HFR4
  go_wp2_with fail
  refine HR.out.mono ?_
  rintro e w6 ⟨so, co, vs, rfl, hown, hrows, hk⟩
  obtain ⟨go, rfl⟩ := own_some hown (by omega)
  obtain ⟨sr, cr, hv, hor⟩ := hrows.row 0 la rfl
  rw [HN.out.1] at hv hor
  have HGO : Hid (w5.heap.size ≤ go ∧ ∀ k, sr = some ⟨k, 0, none⟩ → w5.heap.size ≤ k ∧ k < w6.heap.size ∧ ¬ k = go) := Lib.hid ⟨(own_lt hown rfl).1, fun k e => by
    have h1 := own_lt hor e
    refine ⟨h1.1, h1.2, fun e2 => ?_⟩
    subst e2
    exact hrows.apartOuter hown hv (by rw [e]; rfl) rfl⟩
  have HO := Lib.hid (And.intro hown hv)
  have OR := Lib.hid (own_base (base' := 0) hor (fun _ _ => Nat.zero_le _))
  replace OA := Lib.hid (own_keep OA.out hk (fun _ _ h => h))
  replace OB := Lib.hid (own_keep OB.out hk (fun _ _ h => h))
  replace HK := Lib.hid (HK.out.quiet hk)
  replace HS := Lib.hid (HS.out.quiet hk)
  have HZ6 := Lib.hid hk.size
  have HY := Lib.hid (keys_any p pd S F5 R5 w6 HS.out)
  rw [HFA.out.2, HN.out.2] at HY
  clear HR hown hrows hv hor hk
  go_wp2_with fail
  refine HY.out.mono ?_
  rintro e w7 ⟨sk, ck, rfl, hown, hk⟩
  have HGK : Hid (∀ k, sk = some ⟨k, 0, none⟩ → w6.heap.size ≤ k) := Lib.hid (fun k e => (own_lt hown e).1)
  have OK := Lib.hid (own_base (base' := 0) hown (fun _ _ => Nat.zero_le _))
  replace OA := Lib.hid (own_keep OA.out hk (fun _ _ h => h))
  replace OB := Lib.hid (own_keep OB.out hk (fun _ _ h => h))
  replace OR := Lib.hid (own_keep OR.out hk (fun _ _ h => h))
  replace HO := Lib.hid (And.intro (own_keep HO.out.1 hk (fun _ _ h => h)) HO.out.2)
  replace HK := Lib.hid (HK.out.quiet hk)
  replace HS := Lib.hid (HS.out.quiet hk)
  clear HY hown hk
  have d1 := own_cell HO.out.1 0 _ HO.out.2
  have e1 : ((na : Int) != (na : Int)) = false := by simp
  have e2 : ((nb : Int) != (nb : Int)) = false := by simp
  go_wp2_with fail
  clear d1 e1 e2
  go_loopw [13] (fun i wr => OnRel w7 sa sr na ca cr i wr) (fun i _ => na - (intOf i).toNat)
  case atStart => exact ⟨0, la, la, Nat.zero_le _, rfl, OA.out, OR.out, Keeps.refl _ _⟩
  case round =>
    obtain ⟨k, xa, xr, hkn, rfl, oa, or, kp⟩ := hrel
    have hgo : ∀ x, Keeps (fun k => sa = some ⟨k, 0, none⟩ ∨ sr = some ⟨k, 0, none⟩) w7 x → x.cell? ⟨go, 0, none⟩ = some (.slice sr na cr) := fun x hx => by
      have h0 := own_cell HO.out.1 0 _ HO.out.2
      rw [hx.cell (World.block_lt_of_cell? _ _ h0) (fun h => ?_)]
      · exact h0
      · have h1 := HGO.out.1
        have h2 := HZ5.out
        rcases h with h | h
        · have := HAB.out go (Or.inl h); omega
        · exact (HGO.out.2 go h).2.2 rfl
    have HGC := Lib.hid hgo
    clear hgo
    by_cases hlt : k < na
    · obtain ⟨ga, ea⟩ := own_some oa (by omega)
      obtain ⟨gr, er⟩ := own_some or (by omega)
      have hne : ga ≠ gr := fun e => by
        have h1 := HAB.out ga (Or.inl ea)
        have h2 := (HGO.out.2 gr er).1
        have h3 := HZ5.out
        omega
      obtain ⟨⟨x, c1⟩, c2, ⟨y, c3⟩, c4, hnew⟩ := on_step hlt ea er hne oa or kp
      obtain ⟨x1, hx1⟩ : ∃ v, wr.setCell ⟨ga, k, none⟩ (.int .u8 77) = v := ⟨_, rfl⟩
      have hk1 : Keeps (fun k => sa = some ⟨k, 0, none⟩ ∨ sr = some ⟨k, 0, none⟩) w7 x1 := by
        rw [← hx1]
        exact kp.trans ((Keeps.refl (fun b => b = ga) wr).setCell (p := ⟨ga, k, none⟩) (fun _ => rfl) _) (fun b _ e => Or.inl (by rw [e]; exact ea))
      have d1 := HGC.out x1 hk1
      rw [hx1] at c3 c4 hnew
      obtain ⟨x2, hx2⟩ : ∃ v, x1.setCell ⟨gr, k, none⟩ (.int .u8 78) = v := ⟨_, rfl⟩
      rw [hx2] at hnew
      have HNW := Lib.hid hnew
      have t0 : (0 : Int) ≤ (k : Int) := by omega
      have t1 : (k : Int) < (na : Int) := by omega
      subst ea er
      clear oa or kp hne hk1 hnew hkn
      go_wp2
      go_roundw
      case rel => exact HNW.out
      case measure => simp [intOf]; omega
    · obtain rfl : k = na := by omega
      have t1 : ¬ (k : Int) < (k : Int) := by omega
      have hkG : ∀ b, (sa = some ⟨b, 0, none⟩ ∨ sr = some ⟨b, 0, none⟩) → ¬ F5 b ∧ ¬ R5 b ∧ ¬ sb = some ⟨b, 0, none⟩ ∧ ¬ sk = some ⟨b, 0, none⟩ ∧ w.heap.size ≤ b := fun b h => by
        have h2 := HZ5.out
        have h3 := HZ0.out
        rcases h with h | h
        · have h1 := HAB.out b (Or.inl h)
          refine ⟨fun f => ?_, fun f => ?_, fun f => OBA.out b f h, fun f => ?_, by omega⟩
          · have := HFR5.out b (Or.inl f); omega
          · have := HFR5.out b (Or.inr f); omega
          · have h4 := HGK.out b f; have h5 := HZ6.out; omega
        · have h1 := HGO.out.2 b h
          refine ⟨fun f => ?_, fun f => ?_, fun f => ?_, fun f => ?_, by omega⟩
          · have := HFR5.out b (Or.inl f); omega
          · have := HFR5.out b (Or.inr f); omega
          · have h4 := HAB.out b (Or.inr f); omega
          · have h4 := HGK.out b f; omega
      replace HS := Lib.hid (HS.out.keep kp (fun b h => (hkG b h).1) (fun b h => (hkG b h).2.1))
      replace OB := Lib.hid (own_keep OB.out kp (fun b e h => (hkG b h).2.2.1 (form_own OB.out e)))
      replace OK := Lib.hid (own_keep OK.out kp (fun b e h => (hkG b h).2.2.2.1 (form_own OK.out e)))
      replace HK := Lib.hid (HK.out.trans kp (fun b hb h => by have := (hkG b h).2.2.2.2; omega))
      clear oa or kp hkG HGC hkn
      go_wp2_with fail
      go_loopw [14] (fun i wx => OnRel wr sb sk nb cb ck i wx) (fun i _ => nb - (intOf i).toNat)
      case atStart => exact ⟨0, lb, lb, Nat.zero_le _, rfl, OB.out, OK.out, Keeps.refl _ _⟩
      case round =>
        obtain ⟨j, xa, xr, hjn, rfl, oa, or, kp⟩ := hrel
        rename World => wv
        by_cases hlt : j < nb
        · obtain ⟨ga, ea⟩ := own_some oa (by omega)
          obtain ⟨gr, er⟩ := own_some or (by omega)
          have hne : ga ≠ gr := fun e => by
            have h1 := HAB.out ga (Or.inr ea)
            have h2 := HGK.out gr er
            have h3 := HZ5.out
            have h5 := HZ6.out
            omega
          obtain ⟨⟨x, c1⟩, c2, ⟨y, c3⟩, c4, hnew⟩ := on_step hlt ea er hne oa or kp
          obtain ⟨x1, hx1⟩ : ∃ v, wv.setCell ⟨ga, j, none⟩ (.int .u8 77) = v := ⟨_, rfl⟩
          rw [hx1] at c3 c4 hnew
          obtain ⟨x2, hx2⟩ : ∃ v, x1.setCell ⟨gr, j, none⟩ (.int .u8 78) = v := ⟨_, rfl⟩
          rw [hx2] at hnew
          have HNW := Lib.hid hnew
          have t0 : (0 : Int) ≤ (j : Int) := by omega
          have t1 : (j : Int) < (nb : Int) := by omega
          subst ea er
          clear oa or kp hne hnew hjn
          go_wp2
          go_roundw
          case rel => exact HNW.out
          case measure => simp [intOf]; omega
        · obtain rfl : j = nb := by omega
          have t1 : ¬ (j : Int) < (j : Int) := by omega
          have hkG : ∀ b, (sb = some ⟨b, 0, none⟩ ∨ sk = some ⟨b, 0, none⟩) → ¬ F5 b ∧ ¬ R5 b ∧ w.heap.size ≤ b := fun b h => by
            have h2 := HZ5.out
            have h3 := HZ0.out
            have h6 := HZ6.out
            rcases h with h | h
            · have h1 := HAB.out b (Or.inr h)
              refine ⟨fun f => ?_, fun f => ?_, by omega⟩
              · have := HFR5.out b (Or.inl f); omega
              · have := HFR5.out b (Or.inr f); omega
            · have h1 := HGK.out b h
              refine ⟨fun f => ?_, fun f => ?_, by omega⟩
              · have := HFR5.out b (Or.inl f); omega
              · have := HFR5.out b (Or.inr f); omega
          have hst := HS.out.keep kp (fun b h => (hkG b h).1) (fun b h => (hkG b h).2.1)
          have HK2 := Lib.hid (HK.out.trans kp (fun b hb h => by have := (hkG b h).2.2; omega))
          have HR := Lib.hid (records_any p pd S F5 R5 wv hst)
          rw [HFA.out.1, show [la].length = 1 from rfl] at HR
          have HS2 := Lib.hid hst
          clear oa or kp hkG hst hjn HS HK
          go_wp2_with fail
          refine HR.out.mono ?_
          rintro e w9 ⟨so2, co2, vs2, rfl, hown, hrows, hk⟩
          obtain ⟨go2, rfl⟩ := own_some hown (by omega)
          obtain ⟨sr2, cr2, hv, hor⟩ := hrows.row 0 la rfl
          have d1 := own_cell hown 0 _ hv
          have cv1 := run_strSl (Sl.of_own hor)
          rw [HN.out.1] at d1 cv1
          replace HK2 := Lib.hid (HK2.out.quiet hk)
          have HY := Lib.hid (keys_any p pd S F5 R5 w9 (HS2.out.quiet hk))
          rw [HFA.out.2, HN.out.2] at HY
          have e1 : ((strOf la).toList == (strOf la).toList) = true := beq_self_eq_true _
          have e2 : ((strOf lb).toList == (strOf lb).toList) = true := beq_self_eq_true _
          clear HR hown hrows hv hor hk HS2
          go_wp2_with fail
          refine HY.out.mono ?_
          rintro e w10 ⟨sk2, ck2, rfl, hown, hk⟩
          have cv2 := run_strSl (Sl.of_own hown)
          replace HK2 := Lib.hid (HK2.out.quiet hk)
          clear HY hown hk cv1 d1
          go_wp2_with fail
          refine (lives_any w10).mono ?_
          rintro e w11 ⟨rfl, hk⟩
          replace HK2 := Lib.hid (HK2.out.quiet hk)
          go_wp2
          go_ret
          exact ⟨rfl, HK2.out⟩
end Go.Proofs.Ytpojkhjenbbodaa
