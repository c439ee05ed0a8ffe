/-
  The law SealTurned: the walk. Conditions: the arguments are what came in.
-/
import Derived.Test.YtnnhndnckpnkmaaLives07
import Derived.Test.YtnnhndnckpnkmaaFew
import Derived.Test.YtnnhndnckpnkmaaAround
import Derived.Test.YtnnhndnckpnkmaaSame
import Derived.Test.YtnnhndnckpnkmaaRegion
import Derived.Test.YtnnhndnckpnkmaaOpen
import Derived.Test.YtnnhndnckpnkmaaCopyB
namespace Go.Proofs.Ytnnhndnckpnkmaa
open Go.RowKit

theorem add_u8 (a b : UInt8) : ((a.toNat : Int) + (b.toNat : Int)) % 256 = ((a + b).toNat : Int) := by
  rw [UInt8.toNat_add]
  omega
theorem add_ne (a b : UInt8) (h : b.toNat ≠ 0) : a ≠ a + b := by
  intro e
  have := congrArg UInt8.toNat e
  rw [UInt8.toNat_add] at this
  have h1 := a.toNat_lt
  have h2 := b.toNat_lt
  omega

set_option maxHeartbeats 2000000 in
set_option maxRecDepth 10000 in
theorem sealTurned_walk (key : Nat) (sa : Option Addr) (n cap : Nat) (l : List UInt8) (sb : Option Addr) (m cb : Nat) (l2 : List UInt8) (at_ : Int) (by_ : UInt8) (w : World) (hkey : U64 key) (hl : Sl w sa n cap (BV l)) (hl2 : Sl w sb m cb (BV l2)) (h1 : -9223372036854775808 ≤ at_) (h2 : at_ ≤ 9223372036854775807) :
    Calls Try.prog 6 #[.int .u64 key, .slice sa n cap, .slice sb m cb, .int .i64 at_, .int .u8 by_.toNat] w fun e w' => e = .returned (.bool true) ∧ Keeps (fun _ => False) w w' := by
  have HI := Lib.hid (And.intro h1 h2)
  clear h1 h2
  have Sx := Lib.hid hl
  have Sy := Lib.hid hl2
  have HU := Lib.hid hkey
  clear hl hl2 hkey
  go_enter Try.func6, Try.ntmps6
  have HK := Lib.hid (Keeps.refl (fun _ => False) w)
  go_wp2_with fail
  refine (few_any sa n cap 40 l w Sx.out (by omega)).mono ?_
  rintro e w1 ⟨saa, caa, rfl, hown, hk⟩
  replace HK := Lib.hid (HK.out.quiet hk)
  replace Sx := Lib.hid (Sx.out.quiet hk)
  replace Sy := Lib.hid (Sy.out.quiet hk)
  have Oa := Lib.hid hown
  have Sa := Lib.hid (Sl.of_own hown)
  clear hown hk
  have hna : (l.take 40).length ≤ 40 := by rw [List.length_take]; omega
  generalize l.take 40 = la at *
  obtain ⟨na, hlna⟩ : ∃ na, la.length = na := ⟨_, rfl⟩
  rw [hlna] at hna Oa Sa ⊢
  have HLa := Lib.hid hlna
  clear hlna
  go_wp2_with fail
  refine (few_any sb m cb 40 l2 w1 Sy.out (by omega)).mono ?_
  rintro e w2 ⟨sab, cab, rfl, hown, hk⟩
  replace HK := Lib.hid (HK.out.quiet hk)
  replace Sx := Lib.hid (Sx.out.quiet hk)
  replace Sy := Lib.hid (Sy.out.quiet hk)
  replace Sa := Lib.hid (Sa.out.quiet hk)
  replace Oa := Lib.hid (own_keep Oa.out hk (fun _ _ h => h))
  have Ob := Lib.hid hown
  have Sb := Lib.hid (Sl.of_own hown)
  clear hown hk
  have hnb : (l2.take 40).length ≤ 40 := by rw [List.length_take]; omega
  generalize l2.take 40 = lb at *
  obtain ⟨nb, hlnb⟩ : ∃ na, lb.length = na := ⟨_, rfl⟩
  rw [hlnb] at hnb Ob Sb ⊢
  have HLb := Lib.hid hlnb
  clear hlnb
  clear Sx Sy Oa Ob
  go_wp2_with fail
  refine (seal_any key saa na caa la sab nb cab lb w2 HU.out Sa.out (by omega) Sb.out (by omega)).mono ?_
  rintro e w3 ⟨sac, cac, rfl, hown, hk⟩
  replace HK := Lib.hid (HK.out.quiet hk)
  replace Sa := Lib.hid (Sa.out.quiet hk)
  replace Sb := Lib.hid (Sb.out.quiet hk)
  have Oc := Lib.hid hown
  have Sc := Lib.hid (Sl.of_own hown)
  clear hown hk
  clear Oc Sb
  have t0 : ¬ (nb : Int) + 8 < 8 := by omega
  have hbl := by_.toNat_lt
  by_cases hb0 : by_.toNat = 0
  · have t1 : ((by_.toNat : Int) == 0) = true := by simp; omega
    go_wp2_with fail
    refine (lives_any w3).mono ?_
    rintro e w4 ⟨rfl, hk⟩
    replace HK := Lib.hid (HK.out.quiet hk)
    replace Sa := Lib.hid (Sa.out.quiet hk)
    replace Sc := Lib.hid (Sc.out.quiet hk)
    clear hk
    go_wp2
    go_ret
    exact ⟨rfl, HK.out⟩
  · have t1 : ((by_.toNat : Int) == 0) = false := by simp; omega
    have HS := Lib.hid (sealS_length key la lb)
    obtain ⟨sl, hsl⟩ : ∃ sl, sealS key la lb = sl := ⟨_, rfl⟩
    have HSL := Lib.hid hsl
    rw [hsl] at Sc HS
    clear hsl
    have HSZ0 : Hid (w.heap.size ≤ w3.heap.size) := HK.out.size
    have PSa := Lib.hid Sa.out
    have PSc := Lib.hid Sc.out
    go_wp2_with (at_builtin; refine wpList_copyB rfl _ _ rfl rfl sac (nb + 8) cac sl rfl Sc.out (by omega) ?_; intro sad cad wd hown hk; have OD := Lib.hid (And.intro hown hk); clear hown hk)
    have hk := OD.out.2
    replace HK := Lib.hid (HK.out.quiet hk)
    replace Sa := Lib.hid (Sa.out.quiet hk)
    replace Sc := Lib.hid (Sc.out.quiet hk)
    have Od := Lib.hid OD.out.1
    clear OD hk
    obtain ⟨gd, rfl⟩ : ∃ gc, sad = some ⟨gc, 0, none⟩ := by
      rcases own_addr Od.out with ⟨_, h, _⟩ | h
      · omega
      · exact h
    have hgd := (own_lt Od.out rfl).1
    obtain ⟨k, hk, _, hc1⟩ := around_nat at_ (nb + 8) wd HI.out.1 HI.out.2 (by omega) (by omega)
    have HC := Lib.hid hc1
    clear hc1
    go_wp2_with fail
    refine HC.out.mono ?_
    rintro e _ ⟨rfl, rfl⟩
    clear HC
    obtain ⟨x, hx⟩ : ∃ x, sl[k]? = some x := ⟨_, List.getElem?_eq_getElem (by rw [HS.out, HLb.out]; omega)⟩
    have c1 : wd.cell? ⟨gd, k, none⟩ = some (.int .u8 (x.toNat : Int)) := own_cell Od.out k _ (by rw [BV_get, hx]; rfl)
    have f1 := own_free Od.out k
    have u0 : (0 : Int) ≤ (k : Int) := by omega
    have u1 : (k : Int) < ((nb + 8 : Nat) : Int) := by omega
    have ex := add_u8 x by_
    have hxy := add_ne x by_ hb0
    generalize x + by_ = y at *
    obtain ⟨wds, hws⟩ : ∃ W, wd.setCell ⟨gd, k, none⟩ (.int .u8 (y.toNat : Int)) = W := ⟨_, rfl⟩
    have OD : Hid (wds.ownsRow w3.heap.size 5 1 (.slice (some ⟨gd, 0, none⟩) (nb + 8) cad) (nb + 8) (BV (sl.set k y))) := by show World.ownsRow _ _ _ _ _ _ _; rw [← BV_set, ← hws]; exact own_set Od.out k _
    have hkset : Keeps (fun j => j = gd) wd wds := by rw [← hws]; exact (Keeps.refl (fun j => j = gd) _).setCell (p := ⟨gd, k, none⟩) (fun _ => rfl) _
    have HSZ : Hid (w.heap.size ≤ w3.heap.size) := HSZ0.out
    replace Sa := Lib.hid (Sa.out.keep hkset (fun ad e h0 _ h => by have := blk_lt PSa.out e h0; omega))
    replace Sc := Lib.hid (Sc.out.keep hkset (fun ad e h0 _ h => by have := blk_lt PSc.out e h0; omega))
    replace HK := Lib.hid (HK.out.trans hkset (fun j hj h => by have := HSZ.out; omega))
    have Sd := Lib.hid (Sl.of_own OD.out)
    have HX := Lib.hid (And.intro hx hxy)
    clear hkset hx hxy Od OD HSZ
    go_wp2_with fail
    clear c1 f1 ex u0 u1 hws
    refine (sopen_any key saa na caa la (some ⟨gd, 0, none⟩) (nb + 8) cad _ wds HU.out Sa.out (by omega) Sd.out (by omega)).mono ?_
    rw [show openS key la (sl.set k y) = ([], 21) by have := open_turned key la lb k x y (by rw [HSL.out]; exact HX.out.1) HX.out.2; rwa [HSL.out] at this]
    simp only [List.length_nil]
    rintro e w4 ⟨sae, cae, rfl, hown, hk⟩
    clear Sd
    replace HK := Lib.hid (HK.out.quiet hk)
    replace Sa := Lib.hid (Sa.out.quiet hk)
    replace Sc := Lib.hid (Sc.out.quiet hk)
    clear hown hk HX HSZ0 PSa PSc
    by_cases hna : na = 0
    · have t2 : ¬ (na : Int) > 0 := by omega
      have t3 : ¬ (0 : Int) < (na : Int) := by omega
      go_wp2_with fail
      refine (lives_any w4).mono ?_
      rintro e w5 ⟨rfl, hk⟩
      replace HK := Lib.hid (HK.out.quiet hk)
      replace Sa := Lib.hid (Sa.out.quiet hk)
      replace Sc := Lib.hid (Sc.out.quiet hk)
      clear hk
      go_wp2
      go_ret
      exact ⟨rfl, HK.out⟩
    · have t2 : (na : Int) > 0 := by omega
      have t3 : (0 : Int) < (na : Int) := by omega
      have HSZ0 : Hid (w.heap.size ≤ w4.heap.size) := HK.out.size
      have PSa := Lib.hid Sa.out
      have PSc := Lib.hid Sc.out
      clear hgd
      go_wp2_with (at_builtin; refine wpList_copyB rfl _ _ rfl rfl saa na caa la rfl Sa.out (by omega) ?_; intro saf caf wf hown hk; have OD := Lib.hid (And.intro hown hk); clear hown hk)
      have hk := OD.out.2
      replace HK := Lib.hid (HK.out.quiet hk)
      replace Sa := Lib.hid (Sa.out.quiet hk)
      replace Sc := Lib.hid (Sc.out.quiet hk)
      have Of := Lib.hid OD.out.1
      clear OD hk
      obtain ⟨gf, rfl⟩ : ∃ gc, saf = some ⟨gc, 0, none⟩ := by
        rcases own_addr Of.out with ⟨_, h, _⟩ | h
        · omega
        · exact h
      have hgf := (own_lt Of.out rfl).1
      obtain ⟨q, hq, _, hc1⟩ := around_nat at_ (na) wf HI.out.1 HI.out.2 (by omega) (by omega)
      have HC := Lib.hid hc1
      clear hc1
      go_wp2_with fail
      refine HC.out.mono ?_
      rintro e _ ⟨rfl, rfl⟩
      clear HC
      obtain ⟨x, hx⟩ : ∃ x, la[q]? = some x := ⟨_, List.getElem?_eq_getElem (by rw [HLa.out]; omega)⟩
      have c1 : wf.cell? ⟨gf, q, none⟩ = some (.int .u8 (x.toNat : Int)) := own_cell Of.out q _ (by rw [BV_get, hx]; rfl)
      have f1 := own_free Of.out q
      have u0 : (0 : Int) ≤ (q : Int) := by omega
      have u1 : (q : Int) < ((na : Nat) : Int) := by omega
      have ex := add_u8 x by_
      have hxy := add_ne x by_ hb0
      generalize x + by_ = y at *
      obtain ⟨wfs, hws⟩ : ∃ W, wf.setCell ⟨gf, q, none⟩ (.int .u8 (y.toNat : Int)) = W := ⟨_, rfl⟩
      have OD : Hid (wfs.ownsRow w4.heap.size 5 1 (.slice (some ⟨gf, 0, none⟩) (na) caf) (na) (BV (la.set q y))) := by show World.ownsRow _ _ _ _ _ _ _; rw [← BV_set, ← hws]; exact own_set Of.out q _
      have hkset : Keeps (fun j => j = gf) wf wfs := by rw [← hws]; exact (Keeps.refl (fun j => j = gf) _).setCell (p := ⟨gf, q, none⟩) (fun _ => rfl) _
      have HSZ : Hid (w.heap.size ≤ w4.heap.size) := HSZ0.out
      replace Sa := Lib.hid (Sa.out.keep hkset (fun ad e h0 _ h => by have := blk_lt PSa.out e h0; omega))
      replace Sc := Lib.hid (Sc.out.keep hkset (fun ad e h0 _ h => by have := blk_lt PSc.out e h0; omega))
      replace HK := Lib.hid (HK.out.trans hkset (fun j hj h => by have := HSZ.out; omega))
      have Sf := Lib.hid (Sl.of_own OD.out)
      have HX := Lib.hid (And.intro hx hxy)
      clear hkset hx hxy Of OD HSZ
      go_wp2_with fail
      clear c1 f1 ex u0 u1 hws
      refine (sopen_any key (some ⟨gf, 0, none⟩) na caf _ sac (nb + 8) cac sl wfs HU.out Sf.out (by omega) Sc.out (by omega)).mono ?_
      rw [show openS key (la.set q y) sl = ([], 21) by rw [← HSL.out]; exact open_along key la _ lb (hby_set sAlong la q _ _ HX.out.1 HX.out.2)]
      simp only [List.length_nil]
      rintro e w5 ⟨sag, cag, rfl, hown, hk⟩
      replace HK := Lib.hid (HK.out.quiet hk)
      clear hown hk
      go_wp2_with fail
      refine (lives_any w5).mono ?_
      rintro e w6 ⟨rfl, hk⟩
      replace HK := Lib.hid (HK.out.quiet hk)
      clear hk
      go_wp2
      go_ret
      exact ⟨rfl, HK.out⟩
end Go.Proofs.Ytnnhndnckpnkmaa
