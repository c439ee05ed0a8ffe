/-
  The law HashByte: the walk. Conditions: the arguments are what came in.
-/
import Derived.Test.YtembkgpecdgpiaaLives02
import Derived.Test.YtembkgpecdgpiaaShort
import Derived.Test.YtembkgpecdgpiaaFew
import Derived.Test.YtembkgpecdgpiaaAround
import Derived.Test.YtembkgpecdgpiaaHashByte
import Derived.Test.YtembkgpecdgpiaaSame
import Derived.Test.YtembkgpecdgpiaaRegion
import Derived.Test.YtembkgpecdgpiaaOpen
import Derived.Laws.BitsAllLaws
namespace Go.Proofs.Ytembkgpecdgpiaa
open Go.RowKit

theorem xor_u8 (a b : UInt8) : bits .xor .u8 (a.toNat : Int) (b.toNat : Int) = ((a ^^^ b).toNat : Int) := by
  rw [u8_xor_nat _ _ a.toNat_lt b.toNat_lt, UInt8.toNat_xor]
theorem set_other (l : List UInt8) (k : Nat) (y : UInt8) (j t : Nat) (hk : k / 7 = j) (ht : t / 7 ≠ j) : (l.set k y)[t]? = l[t]? := List.getElem?_set_ne (by rintro rfl; exact ht hk)

set_option maxHeartbeats 4000000 in
set_option maxRecDepth 10000 in
theorem hashByte_walk (s : ByteArray) (sa : Option Addr) (n cap : Nat) (l : List UInt8) (at_ : Int) (by_ next : UInt8) (w : World) (hl : Sl w sa n cap (BV l)) (h1 : -9223372036854775808 ≤ at_) (h2 : at_ ≤ 9223372036854775807) :
    Calls Try.prog 8 #[.string s, .slice sa n cap, .int .i64 at_, .int .u8 by_.toNat, .int .u8 next.toNat] w fun e w' => e = .returned (.bool true) ∧ Keeps (fun _ => False) w w' := by
  have Sx := Lib.hid hl
  have HU := Lib.hid (And.intro h1 h2)
  clear hl h1 h2
  go_enter Try.func8, Try.ntmps8
  have HK := Lib.hid (Keeps.refl (fun _ => False) w)
  go_wp2_with fail
  refine (few_any sa n cap 29 l w Sx.out (by omega)).mono ?_
  rintro e w1 ⟨saa, caa, rfl, hown, hk⟩
  replace HK := Lib.hid (HK.out.quiet hk)
  replace Sx := Lib.hid (Sx.out.quiet hk)
  have Oa := Lib.hid hown
  clear hown hk
  have hna : (l.take 29).length ≤ 29 := by rw [List.length_take]; omega
  generalize l.take 29 = la at *
  obtain ⟨na, hlna⟩ : ∃ na, la.length = na := ⟨_, rfl⟩
  rw [hlna] at hna Oa ⊢
  have HLA := Lib.hid hlna
  have hszw := HK.out.size
  clear hlna
  go_wp2_with (at_builtin; refine wpList_pushB _ 65 rfl _ _ rfl w.heap.size saa na caa (BV la) rfl Oa.out rfl (by omega) hszw ?_; intro sab cab wb hownb hkb hsb; have HB := Lib.hid (And.intro hownb (HK.out.pushed Oa.out (Nat.le_refl _) hkb)); clear hownb hkb hsb)
  obtain ⟨as_, has⟩ : ∃ as_, la ++ [65] = as_ := ⟨_, rfl⟩
  have hnl : as_.length = na + 1 := by rw [← has, List.length_append, HLA.out]; rfl
  have Ob : Hid (wb.ownsRow w.heap.size 5 1 (.slice sab (na + 1) cab) (na + 1) (BV as_)) := by rw [← has, BV_append]; exact HB.out.1
  obtain ⟨ga, rfl⟩ : ∃ ga, sab = some ⟨ga, 0, none⟩ := by
    rcases own_addr Ob.out with ⟨_, h, _⟩ | h
    · omega
    · exact h
  replace HK := Lib.hid HB.out.2
  have HWB := Lib.hid HK.out.size
  have Sb := Lib.hid (Sl.of_own Ob.out)
  have hga := (own_lt Ob.out rfl).2
  have HNL := Lib.hid hnl
  clear HB has hnl Oa
  obtain ⟨k, hk30, _, hc1⟩ := around_nat at_ (na + 1) wb HU.out.1 HU.out.2 (by omega) (by omega)
  have HC := Lib.hid hc1
  clear hc1
  go_wp2_with fail
  refine (HC.out).mono ?_
  rintro e _ ⟨rfl, rfl⟩
  go_wp2_with fail
  refine (few_any (some ⟨ga, 0, none⟩) (na + 1) cab 30 as_ wb Sb.out (by omega)).mono ?_
  rintro e w2 ⟨sac, cac, rfl, hown, hk⟩
  replace HK := Lib.hid (HK.out.quiet hk)
  replace Sb := Lib.hid (Sb.out.quiet hk)
  have Oc := Lib.hid hown
  clear hown hk
  rw [show as_.take 30 = as_ from List.take_of_length_le (by rw [HNL.out]; omega), HNL.out] at Oc
  rw [show as_.take 30 = as_ from List.take_of_length_le (by rw [HNL.out]; omega), HNL.out]
  obtain ⟨gc, rfl⟩ : ∃ gc, sac = some ⟨gc, 0, none⟩ := by
    rcases own_addr Oc.out with ⟨_, h, _⟩ | h
    · omega
    · exact h
  have hgc := (own_lt Oc.out rfl).1
  obtain ⟨x, hx⟩ : ∃ x, as_[k]? = some x := ⟨_, List.getElem?_eq_getElem (by have := HNL.out; omega)⟩
  have c1 : w2.cell? ⟨gc, k, none⟩ = some (.int .u8 (x.toNat : Int)) := own_cell Oc.out k _ (by rw [BV_get, hx]; rfl)
  have f1 := own_free Oc.out k
  have t0 : (0 : Int) ≤ (k : Int) := by omega
  have t1 : (k : Int) < (na : Int) + 1 := by omega
  have t2 : (k : Int) < ((na + 1 : Nat) : Int) := by omega
  have ex := xor_u8 x by_
  generalize x ^^^ by_ = y at *
  have OD : Hid ((w2.setCell ⟨gc, k, none⟩ (.int .u8 (y.toNat : Int))).ownsRow wb.heap.size 5 1 (.slice (some ⟨gc, 0, none⟩) (na + 1) cac) (na + 1) (BV (as_.set k y))) := by rw [← BV_set]; exact own_set Oc.out k _
  have hkset : Keeps (fun j => j = gc) w2 (w2.setCell ⟨gc, k, none⟩ (.int .u8 (y.toNat : Int))) := (Keeps.refl (fun j => j = gc) _).setCell (p := ⟨gc, k, none⟩) (fun _ => rfl) _
  replace Sb := Lib.hid (Sb.out.keep hkset (fun ad e _ _ h => by cases e; simp only at h; omega))
  replace HK := Lib.hid (HK.out.trans hkset (fun j hj h => by have := HWB.out; omega))
  clear hkset hx Oc
  by_cases hd1 : k + 1 < na + 1
  · have d1 : (k : Int) + 1 < (na : Int) + 1 := by omega
    by_cases hd2 : (k + 1) % 7 = 0
    · have d2 : (((k : Int) + 1) % 7 != 0) = false := by simp; omega
      go_wp2_with fail
      clear ex c1 f1
      generalize hW : w2.setCell ⟨gc, k, none⟩ (.int .u8 (y.toNat : Int)) = W at *
      clear hW
      have OE := Lib.hid OD.out
      have HCS : Hid ((as_.set k y).length = na + 1 ∧ ∀ t, t / 7 ≠ k / 7 → as_[t]? = (as_.set k y)[t]?) := ⟨by rw [List.length_set, HNL.out], fun t ht => (set_other _ _ _ _ _ rfl ht).symm⟩
      clear OD
      generalize as_.set k y = cs at *
      have Sc := Lib.hid (Sl.of_own OE.out)
      obtain ⟨b, hb⟩ : ∃ b : Bool, decide (as_ = cs) = b := ⟨_, rfl⟩
      have HBB := Lib.hid hb
      clear hb OE
      go_wp2_with fail
      refine (same_any (some ⟨ga, 0, none⟩) (some ⟨gc, 0, none⟩) (na + 1) (na + 1) cab cac as_ cs W Sb.out Sc.out).mono ?_
      rw [HBB.out]
      rintro e w21 ⟨rfl, hk⟩
      replace HK := Lib.hid (HK.out.quiet hk)
      replace Sb := Lib.hid (Sb.out.quiet hk)
      replace Sc := Lib.hid (Sc.out.quiet hk)
      clear hk
      go_wp2_with fail
      refine (short_any s 20 w21).mono ?_
      rintro e _ ⟨rfl, rfl⟩
      have hsz := shortOf_size s 20
      generalize shortOf s 20 = t at *
      obtain ⟨x1, hx1⟩ : ∃ x1, hby t.data.toList as_ = x1 := ⟨_, rfl⟩
      obtain ⟨x2, hx2⟩ : ∃ x2, hby t.data.toList cs = x2 := ⟨_, rfl⟩
      obtain ⟨y1, hy1⟩ : ∃ y1, hof as_ [3] = y1 := ⟨_, rfl⟩
      obtain ⟨y2, hy2⟩ : ∃ y2, hof cs [3] = y2 := ⟨_, rfl⟩
      have hlen : as_.length = cs.length := by rw [HNL.out, HCS.out.1]
      have k1 := hby_tells t.data.toList as_ cs hlen (k / 7) (by rw [HNL.out]; omega) HCS.out.2
      have k2 := label_tells as_ cs [3] hlen (k / 7) (by rw [HNL.out]; omega) HCS.out.2
      rw [hx1, hx2] at k1
      rw [hy1, hy2] at k2
      have hb := HBB.out
      have e1 : ((x1 : Int) == (x2 : Int)) = b := by rw [← hb, Bool.eq_iff_iff]; simp; rw [← k1]; omega
      have e2 : ((y1 : Int) == (y2 : Int)) = b := by rw [← hb, Bool.eq_iff_iff]; simp; rw [← k2]; omega
      have HE := Lib.hid (And.intro hx1 (And.intro hx2 (And.intro hy1 hy2)))
      clear k1 k2 hb hx1 hx2 hy1 hy2 hlen
      go_wp2_with fail
      refine z_begin (fun w' => Sl w' (some ⟨ga, 0, none⟩) (na + 1) cab (BV as_) ∧ Sl w' (some ⟨gc, 0, none⟩) (na + 1) cac (BV cs)) 26 (by kernel_rfl) ⟨Sb.out.quiet (Keeps.refl _ _).drew, Sc.out.quiet (Keeps.refl _ _).drew⟩ (fun hHeld => ?_)
      replace HK := Lib.hid HK.out.drew
      clear Sb Sc
      generalize w21.drew = wz0 at *
      refine z_take 0 (v := ?_) rfl (by kernel_rfl) (by kernel_rfl) (by kernel_rfl) (by kernel_rfl) (fun _ _ _ h => h) hHeld (by rfl) (fun w hSw => ?_) ?_
      rotate_left
      · obtain ⟨hSw1, hSw2⟩ := hSw; simp only [List.getElem_toArray, List.getElem_cons_zero]; go_simp; try rfl
      simp only [Act.put, List.getElem_toArray, List.getElem_cons_zero, List.setIfInBounds_toArray, List.set_cons_zero, List.set_cons_succ]
      refine z_take 1 (v := ?_) rfl (by kernel_rfl) (by kernel_rfl) (by kernel_rfl) (by kernel_rfl) (fun _ _ _ h => h) hHeld (by rfl) (fun w hSw => ?_) ?_
      rotate_left
      · obtain ⟨hSw1, hSw2⟩ := hSw; simp only [List.getElem_toArray, List.getElem_cons_zero, List.getElem_cons_succ]; go_simp; try rfl
      simp only [Act.put, List.getElem_toArray, List.getElem_cons_zero, List.getElem_cons_succ, List.setIfInBounds_toArray, List.set_cons_zero, List.set_cons_succ]
      refine z_take 3 (v := ?_) rfl (by kernel_rfl) (by kernel_rfl) (by kernel_rfl) (by kernel_rfl) (fun _ _ _ h => h) hHeld (by rfl) (fun w hSw => ?_) ?_
      rotate_left
      · obtain ⟨hSw1, hSw2⟩ := hSw; simp only [List.getElem_toArray, List.getElem_cons_zero, List.getElem_cons_succ]; go_simp; try rfl
      simp only [Act.put, List.getElem_toArray, List.getElem_cons_zero, List.getElem_cons_succ, List.setIfInBounds_toArray, List.set_cons_zero, List.set_cons_succ]
      refine z_take 4 (v := ?_) rfl (by kernel_rfl) (by kernel_rfl) (by kernel_rfl) (by kernel_rfl) (fun _ _ _ h => h) hHeld (by rfl) (fun w hSw => ?_) ?_
      rotate_left
      · obtain ⟨hSw1, hSw2⟩ := hSw; simp only [List.getElem_toArray, List.getElem_cons_zero, List.getElem_cons_succ]; go_simp; try rfl
      simp only [Act.put, List.getElem_toArray, List.getElem_cons_zero, List.getElem_cons_succ, List.setIfInBounds_toArray, List.set_cons_zero, List.set_cons_succ]
      refine z_take 7 (v := ?_) rfl (by kernel_rfl) (by kernel_rfl) (by kernel_rfl) (by kernel_rfl) (fun _ _ _ h => h) hHeld (by rfl) (fun w hSw => ?_) ?_
      rotate_left
      · obtain ⟨hSw1, hSw2⟩ := hSw; simp only [List.getElem_toArray, List.getElem_cons_zero, List.getElem_cons_succ]; go_simp; try rfl
      simp only [Act.put, List.getElem_toArray, List.getElem_cons_zero, List.getElem_cons_succ, List.setIfInBounds_toArray, List.set_cons_zero, List.set_cons_succ]
      refine z_one 2 rfl (by kernel_rfl) (by rfl) (fun K hK => ?_)
      simp only [List.getElem_toArray, List.getElem_cons_zero, List.getElem_cons_succ]
      go_simp
      refine (bytes_any t (some ⟨ga, 0, none⟩) (na + 1) cab as_ _ (by omega) (by omega) hHeld.1).mono ?_
      rw [HE.out.1]
      rintro e wz1 ⟨rfl, hk⟩
      replace HK := Lib.hid (HK.out.quiet hk)
      refine hK _ _ (Or.inr ?_) (fun hHeld => ?_)
      · exact ⟨hHeld.1.quiet hk, hHeld.2.quiet hk⟩
      clear hK K hk
      replace hHeld := hHeld.resolve_left (by decide)
      try simp only [Act.put, List.setIfInBounds_toArray, List.set_cons_zero, List.set_cons_succ]
      refine z_one 5 rfl (by kernel_rfl) (by rfl) (fun K hK => ?_)
      simp only [List.getElem_toArray, List.getElem_cons_zero, List.getElem_cons_succ]
      go_simp
      refine (bytes_any t (some ⟨gc, 0, none⟩) (na + 1) cac cs _ (by omega) (by omega) hHeld.2).mono ?_
      rw [HE.out.2.1]
      rintro e wz2 ⟨rfl, hk⟩
      replace HK := Lib.hid (HK.out.quiet hk)
      refine hK _ _ (Or.inr ?_) (fun hHeld => ?_)
      · exact ⟨hHeld.1.quiet hk, hHeld.2.quiet hk⟩
      clear hK K hk
      replace hHeld := hHeld.resolve_left (by decide)
      try simp only [Act.put, List.setIfInBounds_toArray, List.set_cons_zero, List.set_cons_succ]
      refine z_one 6 rfl (by kernel_rfl) (by rfl) (fun K hK => ?_)
      simp only [List.getElem_toArray, List.getElem_cons_zero, List.getElem_cons_succ]
      go_simp
      refine hK _ _ (Or.inr ?_) (fun hHeld => ?_)
      · exact hHeld
      clear hK K
      replace hHeld := hHeld.resolve_left (by decide)
      try simp only [Act.put, List.setIfInBounds_toArray, List.set_cons_zero, List.set_cons_succ]
      refine z_one 8 rfl (by kernel_rfl) (by rfl) (fun K hK => ?_)
      simp only [List.getElem_toArray, List.getElem_cons_zero, List.getElem_cons_succ]
      go_simp
      refine hK _ _ (Or.inr ?_) (fun hHeld => ?_)
      · exact hHeld
      clear hK K
      replace hHeld := hHeld.resolve_left (by decide)
      try simp only [Act.put, List.setIfInBounds_toArray, List.set_cons_zero, List.set_cons_succ]
      refine z_one 9 rfl (by kernel_rfl) (by rfl) (fun K hK => ?_)
      simp only [List.getElem_toArray, List.getElem_cons_zero, List.getElem_cons_succ]
      go_simp
      refine hK _ _ (Or.inr ?_) (fun hHeld => ?_)
      · exact hHeld
      clear hK K
      replace hHeld := hHeld.resolve_left (by decide)
      try simp only [Act.put, List.setIfInBounds_toArray, List.set_cons_zero, List.set_cons_succ]
      refine z_take 10 (v := ?_) rfl (by kernel_rfl) (by kernel_rfl) (by kernel_rfl) (by kernel_rfl) (fun _ _ _ h => h) hHeld (by rfl) (fun w hSw => ?_) ?_
      rotate_left
      · obtain ⟨hSw1, hSw2⟩ := hSw; simp only [List.getElem_toArray, List.getElem_cons_zero, List.getElem_cons_succ]; go_simp; try rfl
      simp only [Act.put, List.getElem_toArray, List.getElem_cons_zero, List.getElem_cons_succ, List.setIfInBounds_toArray, List.set_cons_zero, List.set_cons_succ]
      refine z_take 11 (v := ?_) rfl (by kernel_rfl) (by kernel_rfl) (by kernel_rfl) (by kernel_rfl) (fun _ _ _ h => h) hHeld (by rfl) (fun w hSw => ?_) ?_
      rotate_left
      · have q := run_strSl hSw.1; clear hSw; simp only [List.getElem_toArray, List.getElem_cons_zero, List.getElem_cons_succ]; go_simp; try rfl
      simp only [Act.put, List.getElem_toArray, List.getElem_cons_zero, List.getElem_cons_succ, List.setIfInBounds_toArray, List.set_cons_zero, List.set_cons_succ]
      refine z_take 14 (v := ?_) rfl (by kernel_rfl) (by kernel_rfl) (by kernel_rfl) (by kernel_rfl) (fun _ _ _ h => h) hHeld (by rfl) (fun w hSw => ?_) ?_
      rotate_left
      · obtain ⟨hSw1, hSw2⟩ := hSw; simp only [List.getElem_toArray, List.getElem_cons_zero, List.getElem_cons_succ]; go_simp; try rfl
      simp only [Act.put, List.getElem_toArray, List.getElem_cons_zero, List.getElem_cons_succ, List.setIfInBounds_toArray, List.set_cons_zero, List.set_cons_succ]
      refine z_take 15 (v := ?_) rfl (by kernel_rfl) (by kernel_rfl) (by kernel_rfl) (by kernel_rfl) (fun _ _ _ h => h) hHeld (by rfl) (fun w hSw => ?_) ?_
      rotate_left
      · have q := run_strSl hSw.2; clear hSw; simp only [List.getElem_toArray, List.getElem_cons_zero, List.getElem_cons_succ]; go_simp; try rfl
      simp only [Act.put, List.getElem_toArray, List.getElem_cons_zero, List.getElem_cons_succ, List.setIfInBounds_toArray, List.set_cons_zero, List.set_cons_succ]
      refine z_take 19 (v := ?_) rfl (by kernel_rfl) (by kernel_rfl) (by kernel_rfl) (by kernel_rfl) (fun _ _ _ h => h) hHeld (by rfl) (fun w hSw => ?_) ?_
      rotate_left
      · obtain ⟨hSw1, hSw2⟩ := hSw; simp only [List.getElem_toArray, List.getElem_cons_zero, List.getElem_cons_succ]; go_simp; try rfl
      simp only [Act.put, List.getElem_toArray, List.getElem_cons_zero, List.getElem_cons_succ, List.setIfInBounds_toArray, List.set_cons_zero, List.set_cons_succ]
      refine z_two 12 16 rfl rfl (by kernel_rfl) (by rfl) (by rfl) (fun K hK => ?_) (fun K hK => ?_)
      · skip
        simp only [List.getElem_toArray, List.getElem_cons_zero, List.getElem_cons_succ]
        go_simp
        refine hK _ _ (Or.inr ?_) (fun hHeld => ?_)
        · exact ⟨hHeld.1.quiet ((Keeps.refl _ _).alloc _), hHeld.2.quiet ((Keeps.refl _ _).alloc _)⟩
        clear hK K
        replace hHeld := hHeld.resolve_left (by decide)
        have S12 := Lib.hid (lies_one _ 3 (0, 0) : Sl (World.alloc wz2 (.cells #[.int .u64 3] 25)) (some ⟨wz2.heap.size, 0, none⟩) 1 1 [.int .u64 3])
        replace HK := Lib.hid (HK.out.alloc (.cells #[.int .u64 3] 25))
        try simp only [Act.put, List.setIfInBounds_toArray, List.set_cons_zero, List.set_cons_succ]
        generalize (World.alloc wz2 (.cells #[.int .u64 3] 25)) = wz3 at *
        refine z_two 13 16 rfl rfl (by kernel_rfl) (by rfl) (by rfl) (fun K hK => ?_) (fun K hK => ?_)
        · skip
          simp only [List.getElem_toArray, List.getElem_cons_zero, List.getElem_cons_succ]
          go_simp
          refine (of_any (strOf as_) _ 1 1 [3] _ (by rw [strOf_size, HNL.out]; omega) (by omega) S12.out (by intro x hx; simp at hx; subst hx; unfold U64; omega)).mono ?_
          rw [strOf_data, HE.out.2.2.1]
          rintro e wz4 ⟨rfl, hk⟩
          replace HK := Lib.hid (HK.out.quiet hk)
          refine hK _ _ (Or.inr ?_) (fun hHeld => ?_)
          · exact ⟨hHeld.1.quiet hk, hHeld.2.quiet hk⟩
          clear hK K hk
          replace hHeld := hHeld.resolve_left (by decide)
          try simp only [Act.put, List.setIfInBounds_toArray, List.set_cons_zero, List.set_cons_succ]
          refine z_one 16 rfl (by kernel_rfl) (by rfl) (fun K hK => ?_)
          simp only [List.getElem_toArray, List.getElem_cons_zero, List.getElem_cons_succ]
          go_simp
          refine hK _ _ (Or.inr ?_) (fun hHeld => ?_)
          · exact ⟨hHeld.1.quiet ((Keeps.refl _ _).alloc _), hHeld.2.quiet ((Keeps.refl _ _).alloc _)⟩
          clear hK K
          replace hHeld := hHeld.resolve_left (by decide)
          have S16 := Lib.hid (lies_one _ 3 (0, 0) : Sl (World.alloc wz4 (.cells #[.int .u64 3] 25)) (some ⟨wz4.heap.size, 0, none⟩) 1 1 [.int .u64 3])
          replace HK := Lib.hid (HK.out.alloc (.cells #[.int .u64 3] 25))
          try simp only [Act.put, List.setIfInBounds_toArray, List.set_cons_zero, List.set_cons_succ]
          generalize (World.alloc wz4 (.cells #[.int .u64 3] 25)) = wz5 at *
          refine z_one 17 rfl (by kernel_rfl) (by rfl) (fun K hK => ?_)
          simp only [List.getElem_toArray, List.getElem_cons_zero, List.getElem_cons_succ]
          go_simp
          refine (of_any (strOf cs) _ 1 1 [3] _ (by rw [strOf_size, HCS.out.1]; omega) (by omega) S16.out (by intro x hx; simp at hx; subst hx; unfold U64; omega)).mono ?_
          rw [strOf_data, HE.out.2.2.2]
          rintro e wz6 ⟨rfl, hk⟩
          replace HK := Lib.hid (HK.out.quiet hk)
          refine hK _ _ (Or.inr ?_) (fun hHeld => ?_)
          · exact ⟨hHeld.1.quiet hk, hHeld.2.quiet hk⟩
          clear hK K hk
          replace hHeld := hHeld.resolve_left (by decide)
          try simp only [Act.put, List.setIfInBounds_toArray, List.set_cons_zero, List.set_cons_succ]
          refine z_one 18 rfl (by kernel_rfl) (by rfl) (fun K hK => ?_)
          simp only [List.getElem_toArray, List.getElem_cons_zero, List.getElem_cons_succ]
          go_simp
          refine hK _ _ (Or.inr ?_) (fun hHeld => ?_)
          · exact hHeld
          clear hK K
          replace hHeld := hHeld.resolve_left (by decide)
          try simp only [Act.put, List.setIfInBounds_toArray, List.set_cons_zero, List.set_cons_succ]
          refine z_one 20 rfl (by kernel_rfl) (by rfl) (fun K hK => ?_)
          simp only [List.getElem_toArray, List.getElem_cons_zero, List.getElem_cons_succ]
          go_simp
          refine hK _ _ (Or.inr ?_) (fun hHeld => ?_)
          · exact hHeld
          clear hK K
          replace hHeld := hHeld.resolve_left (by decide)
          try simp only [Act.put, List.setIfInBounds_toArray, List.set_cons_zero, List.set_cons_succ]
          refine z_one 21 rfl (by kernel_rfl) (by rfl) (fun K hK => ?_)
          simp only [List.getElem_toArray, List.getElem_cons_zero, List.getElem_cons_succ]
          go_simp
          refine hK _ _ (Or.inr ?_) (fun hHeld => ?_)
          · exact hHeld
          clear hK K
          replace hHeld := hHeld.resolve_left (by decide)
          try simp only [Act.put, List.setIfInBounds_toArray, List.set_cons_zero, List.set_cons_succ]
          refine z_one 22 rfl (by kernel_rfl) (by rfl) (fun K hK => ?_)
          simp only [List.getElem_toArray, List.getElem_cons_zero, List.getElem_cons_succ]
          go_simp
          refine hK _ _ (Or.inr ?_) (fun hHeld => ?_)
          · exact hHeld
          clear hK K
          replace hHeld := hHeld.resolve_left (by decide)
          try simp only [Act.put, List.setIfInBounds_toArray, List.set_cons_zero, List.set_cons_succ]
          refine z_one 23 rfl (by kernel_rfl) (by rfl) (fun K hK => ?_)
          simp only [List.getElem_toArray, List.getElem_cons_zero, List.getElem_cons_succ]
          go_simp
          refine (lives_any _).mono ?_
          rintro e wz7 ⟨rfl, hk⟩
          replace HK := Lib.hid (HK.out.quiet hk)
          refine hK _ _ (Or.inr ?_) (fun hHeld => ?_)
          · exact ⟨hHeld.1.quiet hk, hHeld.2.quiet hk⟩
          clear hK K hk
          replace hHeld := hHeld.resolve_left (by decide)
          try simp only [Act.put, List.setIfInBounds_toArray, List.set_cons_zero, List.set_cons_succ]
          refine z_one 24 rfl (by kernel_rfl) (by rfl) (fun K hK => ?_)
          simp only [List.getElem_toArray, List.getElem_cons_zero, List.getElem_cons_succ]
          go_simp
          refine hK _ _ (Or.inr ?_) (fun hHeld => ?_)
          · exact hHeld
          clear hK K
          replace hHeld := hHeld.resolve_left (by decide)
          try simp only [Act.put, List.setIfInBounds_toArray, List.set_cons_zero, List.set_cons_succ]
          refine z_one 25 rfl (by kernel_rfl) (by rfl) (fun K hK => ?_)
          simp only [List.getElem_toArray, List.getElem_cons_zero, List.getElem_cons_succ]
          go_simp
          refine hK _ _ (Or.inr ?_) (fun hHeld => ?_)
          · exact hHeld
          clear hK K
          replace hHeld := hHeld.resolve_left (by decide)
          try simp only [Act.put, List.setIfInBounds_toArray, List.set_cons_zero, List.set_cons_succ]
          refine z_done (by kernel_rfl) ?_ _
          clear hHeld
          go_wp2
          go_ret
          exact ⟨rfl, HK.out⟩
        · skip
          simp only [List.getElem_toArray, List.getElem_cons_zero, List.getElem_cons_succ]
          go_simp
          refine hK _ _ (Or.inr ?_) (fun hHeld => ?_)
          · exact ⟨hHeld.1.quiet ((Keeps.refl _ _).alloc _), hHeld.2.quiet ((Keeps.refl _ _).alloc _)⟩
          clear hK K
          replace hHeld := hHeld.resolve_left (by decide)
          have S16 := Lib.hid (lies_one _ 3 (0, 0) : Sl (World.alloc wz3 (.cells #[.int .u64 3] 25)) (some ⟨wz3.heap.size, 0, none⟩) 1 1 [.int .u64 3])
          replace HK := Lib.hid (HK.out.alloc (.cells #[.int .u64 3] 25))
          try simp only [Act.put, List.setIfInBounds_toArray, List.set_cons_zero, List.set_cons_succ]
          replace S12 := Lib.hid (S12.out.quiet ((Keeps.refl _ _).alloc (.cells #[.int .u64 3] 25)))
          generalize (World.alloc wz3 (.cells #[.int .u64 3] 25)) = wz4 at *
          refine z_one 13 rfl (by kernel_rfl) (by rfl) (fun K hK => ?_)
          simp only [List.getElem_toArray, List.getElem_cons_zero, List.getElem_cons_succ]
          go_simp
          refine (of_any (strOf as_) _ 1 1 [3] _ (by rw [strOf_size, HNL.out]; omega) (by omega) S12.out (by intro x hx; simp at hx; subst hx; unfold U64; omega)).mono ?_
          rw [strOf_data, HE.out.2.2.1]
          rintro e wz5 ⟨rfl, hk⟩
          replace HK := Lib.hid (HK.out.quiet hk)
          replace S16 := Lib.hid (S16.out.quiet hk)
          refine hK _ _ (Or.inr ?_) (fun hHeld => ?_)
          · exact ⟨hHeld.1.quiet hk, hHeld.2.quiet hk⟩
          clear hK K hk
          replace hHeld := hHeld.resolve_left (by decide)
          try simp only [Act.put, List.setIfInBounds_toArray, List.set_cons_zero, List.set_cons_succ]
          refine z_one 17 rfl (by kernel_rfl) (by rfl) (fun K hK => ?_)
          simp only [List.getElem_toArray, List.getElem_cons_zero, List.getElem_cons_succ]
          go_simp
          refine (of_any (strOf cs) _ 1 1 [3] _ (by rw [strOf_size, HCS.out.1]; omega) (by omega) S16.out (by intro x hx; simp at hx; subst hx; unfold U64; omega)).mono ?_
          rw [strOf_data, HE.out.2.2.2]
          rintro e wz6 ⟨rfl, hk⟩
          replace HK := Lib.hid (HK.out.quiet hk)
          refine hK _ _ (Or.inr ?_) (fun hHeld => ?_)
          · exact ⟨hHeld.1.quiet hk, hHeld.2.quiet hk⟩
          clear hK K hk
          replace hHeld := hHeld.resolve_left (by decide)
          try simp only [Act.put, List.setIfInBounds_toArray, List.set_cons_zero, List.set_cons_succ]
          refine z_one 18 rfl (by kernel_rfl) (by rfl) (fun K hK => ?_)
          simp only [List.getElem_toArray, List.getElem_cons_zero, List.getElem_cons_succ]
          go_simp
          refine hK _ _ (Or.inr ?_) (fun hHeld => ?_)
          · exact hHeld
          clear hK K
          replace hHeld := hHeld.resolve_left (by decide)
          try simp only [Act.put, List.setIfInBounds_toArray, List.set_cons_zero, List.set_cons_succ]
          refine z_one 20 rfl (by kernel_rfl) (by rfl) (fun K hK => ?_)
          simp only [List.getElem_toArray, List.getElem_cons_zero, List.getElem_cons_succ]
          go_simp
          refine hK _ _ (Or.inr ?_) (fun hHeld => ?_)
          · exact hHeld
          clear hK K
          replace hHeld := hHeld.resolve_left (by decide)
          try simp only [Act.put, List.setIfInBounds_toArray, List.set_cons_zero, List.set_cons_succ]
          refine z_one 21 rfl (by kernel_rfl) (by rfl) (fun K hK => ?_)
          simp only [List.getElem_toArray, List.getElem_cons_zero, List.getElem_cons_succ]
          go_simp
          refine hK _ _ (Or.inr ?_) (fun hHeld => ?_)
          · exact hHeld
          clear hK K
          replace hHeld := hHeld.resolve_left (by decide)
          try simp only [Act.put, List.setIfInBounds_toArray, List.set_cons_zero, List.set_cons_succ]
          refine z_one 22 rfl (by kernel_rfl) (by rfl) (fun K hK => ?_)
          simp only [List.getElem_toArray, List.getElem_cons_zero, List.getElem_cons_succ]
          go_simp
          refine hK _ _ (Or.inr ?_) (fun hHeld => ?_)
          · exact hHeld
          clear hK K
          replace hHeld := hHeld.resolve_left (by decide)
          try simp only [Act.put, List.setIfInBounds_toArray, List.set_cons_zero, List.set_cons_succ]
          refine z_one 23 rfl (by kernel_rfl) (by rfl) (fun K hK => ?_)
          simp only [List.getElem_toArray, List.getElem_cons_zero, List.getElem_cons_succ]
          go_simp
          refine (lives_any _).mono ?_
          rintro e wz7 ⟨rfl, hk⟩
          replace HK := Lib.hid (HK.out.quiet hk)
          refine hK _ _ (Or.inr ?_) (fun hHeld => ?_)
          · exact ⟨hHeld.1.quiet hk, hHeld.2.quiet hk⟩
          clear hK K hk
          replace hHeld := hHeld.resolve_left (by decide)
          try simp only [Act.put, List.setIfInBounds_toArray, List.set_cons_zero, List.set_cons_succ]
          refine z_one 24 rfl (by kernel_rfl) (by rfl) (fun K hK => ?_)
          simp only [List.getElem_toArray, List.getElem_cons_zero, List.getElem_cons_succ]
          go_simp
          refine hK _ _ (Or.inr ?_) (fun hHeld => ?_)
          · exact hHeld
          clear hK K
          replace hHeld := hHeld.resolve_left (by decide)
          try simp only [Act.put, List.setIfInBounds_toArray, List.set_cons_zero, List.set_cons_succ]
          refine z_one 25 rfl (by kernel_rfl) (by rfl) (fun K hK => ?_)
          simp only [List.getElem_toArray, List.getElem_cons_zero, List.getElem_cons_succ]
          go_simp
          refine hK _ _ (Or.inr ?_) (fun hHeld => ?_)
          · exact hHeld
          clear hK K
          replace hHeld := hHeld.resolve_left (by decide)
          try simp only [Act.put, List.setIfInBounds_toArray, List.set_cons_zero, List.set_cons_succ]
          refine z_done (by kernel_rfl) ?_ _
          clear hHeld
          go_wp2
          go_ret
          exact ⟨rfl, HK.out⟩
      · skip
        simp only [List.getElem_toArray, List.getElem_cons_zero, List.getElem_cons_succ]
        go_simp
        refine hK _ _ (Or.inr ?_) (fun hHeld => ?_)
        · exact ⟨hHeld.1.quiet ((Keeps.refl _ _).alloc _), hHeld.2.quiet ((Keeps.refl _ _).alloc _)⟩
        clear hK K
        replace hHeld := hHeld.resolve_left (by decide)
        have S16 := Lib.hid (lies_one _ 3 (0, 0) : Sl (World.alloc wz2 (.cells #[.int .u64 3] 25)) (some ⟨wz2.heap.size, 0, none⟩) 1 1 [.int .u64 3])
        replace HK := Lib.hid (HK.out.alloc (.cells #[.int .u64 3] 25))
        try simp only [Act.put, List.setIfInBounds_toArray, List.set_cons_zero, List.set_cons_succ]
        generalize (World.alloc wz2 (.cells #[.int .u64 3] 25)) = wz3 at *
        refine z_one 12 rfl (by kernel_rfl) (by rfl) (fun K hK => ?_)
        simp only [List.getElem_toArray, List.getElem_cons_zero, List.getElem_cons_succ]
        go_simp
        refine hK _ _ (Or.inr ?_) (fun hHeld => ?_)
        · exact ⟨hHeld.1.quiet ((Keeps.refl _ _).alloc _), hHeld.2.quiet ((Keeps.refl _ _).alloc _)⟩
        clear hK K
        replace hHeld := hHeld.resolve_left (by decide)
        have S12 := Lib.hid (lies_one _ 3 (0, 0) : Sl (World.alloc wz3 (.cells #[.int .u64 3] 25)) (some ⟨wz3.heap.size, 0, none⟩) 1 1 [.int .u64 3])
        replace HK := Lib.hid (HK.out.alloc (.cells #[.int .u64 3] 25))
        try simp only [Act.put, List.setIfInBounds_toArray, List.set_cons_zero, List.set_cons_succ]
        replace S16 := Lib.hid (S16.out.quiet ((Keeps.refl _ _).alloc (.cells #[.int .u64 3] 25)))
        generalize (World.alloc wz3 (.cells #[.int .u64 3] 25)) = wz4 at *
        refine z_one 13 rfl (by kernel_rfl) (by rfl) (fun K hK => ?_)
        simp only [List.getElem_toArray, List.getElem_cons_zero, List.getElem_cons_succ]
        go_simp
        refine (of_any (strOf as_) _ 1 1 [3] _ (by rw [strOf_size, HNL.out]; omega) (by omega) S12.out (by intro x hx; simp at hx; subst hx; unfold U64; omega)).mono ?_
        rw [strOf_data, HE.out.2.2.1]
        rintro e wz5 ⟨rfl, hk⟩
        replace HK := Lib.hid (HK.out.quiet hk)
        replace S16 := Lib.hid (S16.out.quiet hk)
        refine hK _ _ (Or.inr ?_) (fun hHeld => ?_)
        · exact ⟨hHeld.1.quiet hk, hHeld.2.quiet hk⟩
        clear hK K hk
        replace hHeld := hHeld.resolve_left (by decide)
        try simp only [Act.put, List.setIfInBounds_toArray, List.set_cons_zero, List.set_cons_succ]
        refine z_one 17 rfl (by kernel_rfl) (by rfl) (fun K hK => ?_)
        simp only [List.getElem_toArray, List.getElem_cons_zero, List.getElem_cons_succ]
        go_simp
        refine (of_any (strOf cs) _ 1 1 [3] _ (by rw [strOf_size, HCS.out.1]; omega) (by omega) S16.out (by intro x hx; simp at hx; subst hx; unfold U64; omega)).mono ?_
        rw [strOf_data, HE.out.2.2.2]
        rintro e wz6 ⟨rfl, hk⟩
        replace HK := Lib.hid (HK.out.quiet hk)
        refine hK _ _ (Or.inr ?_) (fun hHeld => ?_)
        · exact ⟨hHeld.1.quiet hk, hHeld.2.quiet hk⟩
        clear hK K hk
        replace hHeld := hHeld.resolve_left (by decide)
        try simp only [Act.put, List.setIfInBounds_toArray, List.set_cons_zero, List.set_cons_succ]
        refine z_one 18 rfl (by kernel_rfl) (by rfl) (fun K hK => ?_)
        simp only [List.getElem_toArray, List.getElem_cons_zero, List.getElem_cons_succ]
        go_simp
        refine hK _ _ (Or.inr ?_) (fun hHeld => ?_)
        · exact hHeld
        clear hK K
        replace hHeld := hHeld.resolve_left (by decide)
        try simp only [Act.put, List.setIfInBounds_toArray, List.set_cons_zero, List.set_cons_succ]
        refine z_one 20 rfl (by kernel_rfl) (by rfl) (fun K hK => ?_)
        simp only [List.getElem_toArray, List.getElem_cons_zero, List.getElem_cons_succ]
        go_simp
        refine hK _ _ (Or.inr ?_) (fun hHeld => ?_)
        · exact hHeld
        clear hK K
        replace hHeld := hHeld.resolve_left (by decide)
        try simp only [Act.put, List.setIfInBounds_toArray, List.set_cons_zero, List.set_cons_succ]
        refine z_one 21 rfl (by kernel_rfl) (by rfl) (fun K hK => ?_)
        simp only [List.getElem_toArray, List.getElem_cons_zero, List.getElem_cons_succ]
        go_simp
        refine hK _ _ (Or.inr ?_) (fun hHeld => ?_)
        · exact hHeld
        clear hK K
        replace hHeld := hHeld.resolve_left (by decide)
        try simp only [Act.put, List.setIfInBounds_toArray, List.set_cons_zero, List.set_cons_succ]
        refine z_one 22 rfl (by kernel_rfl) (by rfl) (fun K hK => ?_)
        simp only [List.getElem_toArray, List.getElem_cons_zero, List.getElem_cons_succ]
        go_simp
        refine hK _ _ (Or.inr ?_) (fun hHeld => ?_)
        · exact hHeld
        clear hK K
        replace hHeld := hHeld.resolve_left (by decide)
        try simp only [Act.put, List.setIfInBounds_toArray, List.set_cons_zero, List.set_cons_succ]
        refine z_one 23 rfl (by kernel_rfl) (by rfl) (fun K hK => ?_)
        simp only [List.getElem_toArray, List.getElem_cons_zero, List.getElem_cons_succ]
        go_simp
        refine (lives_any _).mono ?_
        rintro e wz7 ⟨rfl, hk⟩
        replace HK := Lib.hid (HK.out.quiet hk)
        refine hK _ _ (Or.inr ?_) (fun hHeld => ?_)
        · exact ⟨hHeld.1.quiet hk, hHeld.2.quiet hk⟩
        clear hK K hk
        replace hHeld := hHeld.resolve_left (by decide)
        try simp only [Act.put, List.setIfInBounds_toArray, List.set_cons_zero, List.set_cons_succ]
        refine z_one 24 rfl (by kernel_rfl) (by rfl) (fun K hK => ?_)
        simp only [List.getElem_toArray, List.getElem_cons_zero, List.getElem_cons_succ]
        go_simp
        refine hK _ _ (Or.inr ?_) (fun hHeld => ?_)
        · exact hHeld
        clear hK K
        replace hHeld := hHeld.resolve_left (by decide)
        try simp only [Act.put, List.setIfInBounds_toArray, List.set_cons_zero, List.set_cons_succ]
        refine z_one 25 rfl (by kernel_rfl) (by rfl) (fun K hK => ?_)
        simp only [List.getElem_toArray, List.getElem_cons_zero, List.getElem_cons_succ]
        go_simp
        refine hK _ _ (Or.inr ?_) (fun hHeld => ?_)
        · exact hHeld
        clear hK K
        replace hHeld := hHeld.resolve_left (by decide)
        try simp only [Act.put, List.setIfInBounds_toArray, List.set_cons_zero, List.set_cons_succ]
        refine z_done (by kernel_rfl) ?_ _
        clear hHeld
        go_wp2
        go_ret
        exact ⟨rfl, HK.out⟩
    · have d2 : (((k : Int) + 1) % 7 != 0) = true := by simp; omega
      obtain ⟨x', hx'⟩ : ∃ x', (as_.set k y)[k + 1]? = some x' := ⟨_, List.getElem?_eq_getElem (by rw [List.length_set, HNL.out]; omega)⟩
      have c2 : (w2.setCell ⟨gc, k, none⟩ (.int .u8 (y.toNat : Int))).cell? ⟨gc, k + 1, none⟩ = some (.int .u8 (x'.toNat : Int)) := own_cell OD.out (k + 1) _ (by rw [BV_get, hx']; rfl)
      have f2 := own_free OD.out (k + 1)
      have ex' := xor_u8 x' next
      generalize x' ^^^ next = y' at *
      have OE : Hid ((World.setCell (w2.setCell ⟨gc, k, none⟩ (.int .u8 (y.toNat : Int))) ⟨gc, k + 1, none⟩ (.int .u8 (y'.toNat : Int))).ownsRow wb.heap.size 5 1 (.slice (some ⟨gc, 0, none⟩) (na + 1) cac) (na + 1) (BV ((as_.set k y).set (k + 1) y'))) := by rw [← BV_set]; exact own_set OD.out (k + 1) _
      have hkset : Keeps (fun j => j = gc) (w2.setCell ⟨gc, k, none⟩ (.int .u8 (y.toNat : Int))) (World.setCell (w2.setCell ⟨gc, k, none⟩ (.int .u8 (y.toNat : Int))) ⟨gc, k + 1, none⟩ (.int .u8 (y'.toNat : Int))) := (Keeps.refl (fun j => j = gc) _).setCell (p := ⟨gc, k + 1, none⟩) (fun _ => rfl) _
      replace Sb := Lib.hid (Sb.out.keep hkset (fun ad e _ _ h => by cases e; simp only at h; omega))
      replace HK := Lib.hid (HK.out.trans hkset (fun j hj h => by have := HWB.out; omega))
      have HCS : Hid (((as_.set k y).set (k + 1) y').length = na + 1 ∧ ∀ t, t / 7 ≠ k / 7 → as_[t]? = ((as_.set k y).set (k + 1) y')[t]?) := ⟨by rw [List.length_set, List.length_set, HNL.out], fun t ht => by rw [set_other _ (k + 1) _ (k / 7) _ (by omega) ht, set_other _ k _ _ _ rfl ht]⟩
      clear hkset hx' OD
      go_wp2_with fail
      clear c1 f1 ex c2 f2 ex'
      generalize hW : World.setCell (w2.setCell ⟨gc, k, none⟩ (.int .u8 (y.toNat : Int))) ⟨gc, k + 1, none⟩ (.int .u8 (y'.toNat : Int)) = W at *
      clear hW
      generalize (as_.set k y).set (k + 1) y' = cs at *
      have Sc := Lib.hid (Sl.of_own OE.out)
      obtain ⟨b, hb⟩ : ∃ b : Bool, decide (as_ = cs) = b := ⟨_, rfl⟩
      have HBB := Lib.hid hb
      clear hb OE
      go_wp2_with fail
      refine (same_any (some ⟨ga, 0, none⟩) (some ⟨gc, 0, none⟩) (na + 1) (na + 1) cab cac as_ cs W Sb.out Sc.out).mono ?_
      rw [HBB.out]
      rintro e w21 ⟨rfl, hk⟩
      replace HK := Lib.hid (HK.out.quiet hk)
      replace Sb := Lib.hid (Sb.out.quiet hk)
      replace Sc := Lib.hid (Sc.out.quiet hk)
      clear hk
      go_wp2_with fail
      refine (short_any s 20 w21).mono ?_
      rintro e _ ⟨rfl, rfl⟩
      have hsz := shortOf_size s 20
      generalize shortOf s 20 = t at *
      obtain ⟨x1, hx1⟩ : ∃ x1, hby t.data.toList as_ = x1 := ⟨_, rfl⟩
      obtain ⟨x2, hx2⟩ : ∃ x2, hby t.data.toList cs = x2 := ⟨_, rfl⟩
      obtain ⟨y1, hy1⟩ : ∃ y1, hof as_ [3] = y1 := ⟨_, rfl⟩
      obtain ⟨y2, hy2⟩ : ∃ y2, hof cs [3] = y2 := ⟨_, rfl⟩
      have hlen : as_.length = cs.length := by rw [HNL.out, HCS.out.1]
      have k1 := hby_tells t.data.toList as_ cs hlen (k / 7) (by rw [HNL.out]; omega) HCS.out.2
      have k2 := label_tells as_ cs [3] hlen (k / 7) (by rw [HNL.out]; omega) HCS.out.2
      rw [hx1, hx2] at k1
      rw [hy1, hy2] at k2
      have hb := HBB.out
      have e1 : ((x1 : Int) == (x2 : Int)) = b := by rw [← hb, Bool.eq_iff_iff]; simp; rw [← k1]; omega
      have e2 : ((y1 : Int) == (y2 : Int)) = b := by rw [← hb, Bool.eq_iff_iff]; simp; rw [← k2]; omega
      have HE := Lib.hid (And.intro hx1 (And.intro hx2 (And.intro hy1 hy2)))
      clear k1 k2 hb hx1 hx2 hy1 hy2 hlen
      go_wp2_with fail
      refine z_begin (fun w' => Sl w' (some ⟨ga, 0, none⟩) (na + 1) cab (BV as_) ∧ Sl w' (some ⟨gc, 0, none⟩) (na + 1) cac (BV cs)) 26 (by kernel_rfl) ⟨Sb.out.quiet (Keeps.refl _ _).drew, Sc.out.quiet (Keeps.refl _ _).drew⟩ (fun hHeld => ?_)
      replace HK := Lib.hid HK.out.drew
      clear Sb Sc
      generalize w21.drew = wz0 at *
      refine z_take 0 (v := ?_) rfl (by kernel_rfl) (by kernel_rfl) (by kernel_rfl) (by kernel_rfl) (fun _ _ _ h => h) hHeld (by rfl) (fun w hSw => ?_) ?_
      rotate_left
      · obtain ⟨hSw1, hSw2⟩ := hSw; simp only [List.getElem_toArray, List.getElem_cons_zero]; go_simp; try rfl
      simp only [Act.put, List.getElem_toArray, List.getElem_cons_zero, List.setIfInBounds_toArray, List.set_cons_zero, List.set_cons_succ]
      refine z_take 1 (v := ?_) rfl (by kernel_rfl) (by kernel_rfl) (by kernel_rfl) (by kernel_rfl) (fun _ _ _ h => h) hHeld (by rfl) (fun w hSw => ?_) ?_
      rotate_left
      · obtain ⟨hSw1, hSw2⟩ := hSw; simp only [List.getElem_toArray, List.getElem_cons_zero, List.getElem_cons_succ]; go_simp; try rfl
      simp only [Act.put, List.getElem_toArray, List.getElem_cons_zero, List.getElem_cons_succ, List.setIfInBounds_toArray, List.set_cons_zero, List.set_cons_succ]
      refine z_take 3 (v := ?_) rfl (by kernel_rfl) (by kernel_rfl) (by kernel_rfl) (by kernel_rfl) (fun _ _ _ h => h) hHeld (by rfl) (fun w hSw => ?_) ?_
      rotate_left
      · obtain ⟨hSw1, hSw2⟩ := hSw; simp only [List.getElem_toArray, List.getElem_cons_zero, List.getElem_cons_succ]; go_simp; try rfl
      simp only [Act.put, List.getElem_toArray, List.getElem_cons_zero, List.getElem_cons_succ, List.setIfInBounds_toArray, List.set_cons_zero, List.set_cons_succ]
      refine z_take 4 (v := ?_) rfl (by kernel_rfl) (by kernel_rfl) (by kernel_rfl) (by kernel_rfl) (fun _ _ _ h => h) hHeld (by rfl) (fun w hSw => ?_) ?_
      rotate_left
      · obtain ⟨hSw1, hSw2⟩ := hSw; simp only [List.getElem_toArray, List.getElem_cons_zero, List.getElem_cons_succ]; go_simp; try rfl
      simp only [Act.put, List.getElem_toArray, List.getElem_cons_zero, List.getElem_cons_succ, List.setIfInBounds_toArray, List.set_cons_zero, List.set_cons_succ]
      refine z_take 7 (v := ?_) rfl (by kernel_rfl) (by kernel_rfl) (by kernel_rfl) (by kernel_rfl) (fun _ _ _ h => h) hHeld (by rfl) (fun w hSw => ?_) ?_
      rotate_left
      · obtain ⟨hSw1, hSw2⟩ := hSw; simp only [List.getElem_toArray, List.getElem_cons_zero, List.getElem_cons_succ]; go_simp; try rfl
      simp only [Act.put, List.getElem_toArray, List.getElem_cons_zero, List.getElem_cons_succ, List.setIfInBounds_toArray, List.set_cons_zero, List.set_cons_succ]
      refine z_one 2 rfl (by kernel_rfl) (by rfl) (fun K hK => ?_)
      simp only [List.getElem_toArray, List.getElem_cons_zero, List.getElem_cons_succ]
      go_simp
      refine (bytes_any t (some ⟨ga, 0, none⟩) (na + 1) cab as_ _ (by omega) (by omega) hHeld.1).mono ?_
      rw [HE.out.1]
      rintro e wz1 ⟨rfl, hk⟩
      replace HK := Lib.hid (HK.out.quiet hk)
      refine hK _ _ (Or.inr ?_) (fun hHeld => ?_)
      · exact ⟨hHeld.1.quiet hk, hHeld.2.quiet hk⟩
      clear hK K hk
      replace hHeld := hHeld.resolve_left (by decide)
      try simp only [Act.put, List.setIfInBounds_toArray, List.set_cons_zero, List.set_cons_succ]
      refine z_one 5 rfl (by kernel_rfl) (by rfl) (fun K hK => ?_)
      simp only [List.getElem_toArray, List.getElem_cons_zero, List.getElem_cons_succ]
      go_simp
      refine (bytes_any t (some ⟨gc, 0, none⟩) (na + 1) cac cs _ (by omega) (by omega) hHeld.2).mono ?_
      rw [HE.out.2.1]
      rintro e wz2 ⟨rfl, hk⟩
      replace HK := Lib.hid (HK.out.quiet hk)
      refine hK _ _ (Or.inr ?_) (fun hHeld => ?_)
      · exact ⟨hHeld.1.quiet hk, hHeld.2.quiet hk⟩
      clear hK K hk
      replace hHeld := hHeld.resolve_left (by decide)
      try simp only [Act.put, List.setIfInBounds_toArray, List.set_cons_zero, List.set_cons_succ]
      refine z_one 6 rfl (by kernel_rfl) (by rfl) (fun K hK => ?_)
      simp only [List.getElem_toArray, List.getElem_cons_zero, List.getElem_cons_succ]
      go_simp
      refine hK _ _ (Or.inr ?_) (fun hHeld => ?_)
      · exact hHeld
      clear hK K
      replace hHeld := hHeld.resolve_left (by decide)
      try simp only [Act.put, List.setIfInBounds_toArray, List.set_cons_zero, List.set_cons_succ]
      refine z_one 8 rfl (by kernel_rfl) (by rfl) (fun K hK => ?_)
      simp only [List.getElem_toArray, List.getElem_cons_zero, List.getElem_cons_succ]
      go_simp
      refine hK _ _ (Or.inr ?_) (fun hHeld => ?_)
      · exact hHeld
      clear hK K
      replace hHeld := hHeld.resolve_left (by decide)
      try simp only [Act.put, List.setIfInBounds_toArray, List.set_cons_zero, List.set_cons_succ]
      refine z_one 9 rfl (by kernel_rfl) (by rfl) (fun K hK => ?_)
      simp only [List.getElem_toArray, List.getElem_cons_zero, List.getElem_cons_succ]
      go_simp
      refine hK _ _ (Or.inr ?_) (fun hHeld => ?_)
      · exact hHeld
      clear hK K
      replace hHeld := hHeld.resolve_left (by decide)
      try simp only [Act.put, List.setIfInBounds_toArray, List.set_cons_zero, List.set_cons_succ]
      refine z_take 10 (v := ?_) rfl (by kernel_rfl) (by kernel_rfl) (by kernel_rfl) (by kernel_rfl) (fun _ _ _ h => h) hHeld (by rfl) (fun w hSw => ?_) ?_
      rotate_left
      · obtain ⟨hSw1, hSw2⟩ := hSw; simp only [List.getElem_toArray, List.getElem_cons_zero, List.getElem_cons_succ]; go_simp; try rfl
      simp only [Act.put, List.getElem_toArray, List.getElem_cons_zero, List.getElem_cons_succ, List.setIfInBounds_toArray, List.set_cons_zero, List.set_cons_succ]
      refine z_take 11 (v := ?_) rfl (by kernel_rfl) (by kernel_rfl) (by kernel_rfl) (by kernel_rfl) (fun _ _ _ h => h) hHeld (by rfl) (fun w hSw => ?_) ?_
      rotate_left
      · have q := run_strSl hSw.1; clear hSw; simp only [List.getElem_toArray, List.getElem_cons_zero, List.getElem_cons_succ]; go_simp; try rfl
      simp only [Act.put, List.getElem_toArray, List.getElem_cons_zero, List.getElem_cons_succ, List.setIfInBounds_toArray, List.set_cons_zero, List.set_cons_succ]
      refine z_take 14 (v := ?_) rfl (by kernel_rfl) (by kernel_rfl) (by kernel_rfl) (by kernel_rfl) (fun _ _ _ h => h) hHeld (by rfl) (fun w hSw => ?_) ?_
      rotate_left
      · obtain ⟨hSw1, hSw2⟩ := hSw; simp only [List.getElem_toArray, List.getElem_cons_zero, List.getElem_cons_succ]; go_simp; try rfl
      simp only [Act.put, List.getElem_toArray, List.getElem_cons_zero, List.getElem_cons_succ, List.setIfInBounds_toArray, List.set_cons_zero, List.set_cons_succ]
      refine z_take 15 (v := ?_) rfl (by kernel_rfl) (by kernel_rfl) (by kernel_rfl) (by kernel_rfl) (fun _ _ _ h => h) hHeld (by rfl) (fun w hSw => ?_) ?_
      rotate_left
      · have q := run_strSl hSw.2; clear hSw; simp only [List.getElem_toArray, List.getElem_cons_zero, List.getElem_cons_succ]; go_simp; try rfl
      simp only [Act.put, List.getElem_toArray, List.getElem_cons_zero, List.getElem_cons_succ, List.setIfInBounds_toArray, List.set_cons_zero, List.set_cons_succ]
      refine z_take 19 (v := ?_) rfl (by kernel_rfl) (by kernel_rfl) (by kernel_rfl) (by kernel_rfl) (fun _ _ _ h => h) hHeld (by rfl) (fun w hSw => ?_) ?_
      rotate_left
      · obtain ⟨hSw1, hSw2⟩ := hSw; simp only [List.getElem_toArray, List.getElem_cons_zero, List.getElem_cons_succ]; go_simp; try rfl
      simp only [Act.put, List.getElem_toArray, List.getElem_cons_zero, List.getElem_cons_succ, List.setIfInBounds_toArray, List.set_cons_zero, List.set_cons_succ]
      refine z_two 12 16 rfl rfl (by kernel_rfl) (by rfl) (by rfl) (fun K hK => ?_) (fun K hK => ?_)
      · skip
        simp only [List.getElem_toArray, List.getElem_cons_zero, List.getElem_cons_succ]
        go_simp
        refine hK _ _ (Or.inr ?_) (fun hHeld => ?_)
        · exact ⟨hHeld.1.quiet ((Keeps.refl _ _).alloc _), hHeld.2.quiet ((Keeps.refl _ _).alloc _)⟩
        clear hK K
        replace hHeld := hHeld.resolve_left (by decide)
        have S12 := Lib.hid (lies_one _ 3 (0, 0) : Sl (World.alloc wz2 (.cells #[.int .u64 3] 25)) (some ⟨wz2.heap.size, 0, none⟩) 1 1 [.int .u64 3])
        replace HK := Lib.hid (HK.out.alloc (.cells #[.int .u64 3] 25))
        try simp only [Act.put, List.setIfInBounds_toArray, List.set_cons_zero, List.set_cons_succ]
        generalize (World.alloc wz2 (.cells #[.int .u64 3] 25)) = wz3 at *
        refine z_two 13 16 rfl rfl (by kernel_rfl) (by rfl) (by rfl) (fun K hK => ?_) (fun K hK => ?_)
        · skip
          simp only [List.getElem_toArray, List.getElem_cons_zero, List.getElem_cons_succ]
          go_simp
          refine (of_any (strOf as_) _ 1 1 [3] _ (by rw [strOf_size, HNL.out]; omega) (by omega) S12.out (by intro x hx; simp at hx; subst hx; unfold U64; omega)).mono ?_
          rw [strOf_data, HE.out.2.2.1]
          rintro e wz4 ⟨rfl, hk⟩
          replace HK := Lib.hid (HK.out.quiet hk)
          refine hK _ _ (Or.inr ?_) (fun hHeld => ?_)
          · exact ⟨hHeld.1.quiet hk, hHeld.2.quiet hk⟩
          clear hK K hk
          replace hHeld := hHeld.resolve_left (by decide)
          try simp only [Act.put, List.setIfInBounds_toArray, List.set_cons_zero, List.set_cons_succ]
          refine z_one 16 rfl (by kernel_rfl) (by rfl) (fun K hK => ?_)
          simp only [List.getElem_toArray, List.getElem_cons_zero, List.getElem_cons_succ]
          go_simp
          refine hK _ _ (Or.inr ?_) (fun hHeld => ?_)
          · exact ⟨hHeld.1.quiet ((Keeps.refl _ _).alloc _), hHeld.2.quiet ((Keeps.refl _ _).alloc _)⟩
          clear hK K
          replace hHeld := hHeld.resolve_left (by decide)
          have S16 := Lib.hid (lies_one _ 3 (0, 0) : Sl (World.alloc wz4 (.cells #[.int .u64 3] 25)) (some ⟨wz4.heap.size, 0, none⟩) 1 1 [.int .u64 3])
          replace HK := Lib.hid (HK.out.alloc (.cells #[.int .u64 3] 25))
          try simp only [Act.put, List.setIfInBounds_toArray, List.set_cons_zero, List.set_cons_succ]
          generalize (World.alloc wz4 (.cells #[.int .u64 3] 25)) = wz5 at *
          refine z_one 17 rfl (by kernel_rfl) (by rfl) (fun K hK => ?_)
          simp only [List.getElem_toArray, List.getElem_cons_zero, List.getElem_cons_succ]
          go_simp
          refine (of_any (strOf cs) _ 1 1 [3] _ (by rw [strOf_size, HCS.out.1]; omega) (by omega) S16.out (by intro x hx; simp at hx; subst hx; unfold U64; omega)).mono ?_
          rw [strOf_data, HE.out.2.2.2]
          rintro e wz6 ⟨rfl, hk⟩
          replace HK := Lib.hid (HK.out.quiet hk)
          refine hK _ _ (Or.inr ?_) (fun hHeld => ?_)
          · exact ⟨hHeld.1.quiet hk, hHeld.2.quiet hk⟩
          clear hK K hk
          replace hHeld := hHeld.resolve_left (by decide)
          try simp only [Act.put, List.setIfInBounds_toArray, List.set_cons_zero, List.set_cons_succ]
          refine z_one 18 rfl (by kernel_rfl) (by rfl) (fun K hK => ?_)
          simp only [List.getElem_toArray, List.getElem_cons_zero, List.getElem_cons_succ]
          go_simp
          refine hK _ _ (Or.inr ?_) (fun hHeld => ?_)
          · exact hHeld
          clear hK K
          replace hHeld := hHeld.resolve_left (by decide)
          try simp only [Act.put, List.setIfInBounds_toArray, List.set_cons_zero, List.set_cons_succ]
          refine z_one 20 rfl (by kernel_rfl) (by rfl) (fun K hK => ?_)
          simp only [List.getElem_toArray, List.getElem_cons_zero, List.getElem_cons_succ]
          go_simp
          refine hK _ _ (Or.inr ?_) (fun hHeld => ?_)
          · exact hHeld
          clear hK K
          replace hHeld := hHeld.resolve_left (by decide)
          try simp only [Act.put, List.setIfInBounds_toArray, List.set_cons_zero, List.set_cons_succ]
          refine z_one 21 rfl (by kernel_rfl) (by rfl) (fun K hK => ?_)
          simp only [List.getElem_toArray, List.getElem_cons_zero, List.getElem_cons_succ]
          go_simp
          refine hK _ _ (Or.inr ?_) (fun hHeld => ?_)
          · exact hHeld
          clear hK K
          replace hHeld := hHeld.resolve_left (by decide)
          try simp only [Act.put, List.setIfInBounds_toArray, List.set_cons_zero, List.set_cons_succ]
          refine z_one 22 rfl (by kernel_rfl) (by rfl) (fun K hK => ?_)
          simp only [List.getElem_toArray, List.getElem_cons_zero, List.getElem_cons_succ]
          go_simp
          refine hK _ _ (Or.inr ?_) (fun hHeld => ?_)
          · exact hHeld
          clear hK K
          replace hHeld := hHeld.resolve_left (by decide)
          try simp only [Act.put, List.setIfInBounds_toArray, List.set_cons_zero, List.set_cons_succ]
          refine z_one 23 rfl (by kernel_rfl) (by rfl) (fun K hK => ?_)
          simp only [List.getElem_toArray, List.getElem_cons_zero, List.getElem_cons_succ]
          go_simp
          refine (lives_any _).mono ?_
          rintro e wz7 ⟨rfl, hk⟩
          replace HK := Lib.hid (HK.out.quiet hk)
          refine hK _ _ (Or.inr ?_) (fun hHeld => ?_)
          · exact ⟨hHeld.1.quiet hk, hHeld.2.quiet hk⟩
          clear hK K hk
          replace hHeld := hHeld.resolve_left (by decide)
          try simp only [Act.put, List.setIfInBounds_toArray, List.set_cons_zero, List.set_cons_succ]
          refine z_one 24 rfl (by kernel_rfl) (by rfl) (fun K hK => ?_)
          simp only [List.getElem_toArray, List.getElem_cons_zero, List.getElem_cons_succ]
          go_simp
          refine hK _ _ (Or.inr ?_) (fun hHeld => ?_)
          · exact hHeld
          clear hK K
          replace hHeld := hHeld.resolve_left (by decide)
          try simp only [Act.put, List.setIfInBounds_toArray, List.set_cons_zero, List.set_cons_succ]
          refine z_one 25 rfl (by kernel_rfl) (by rfl) (fun K hK => ?_)
          simp only [List.getElem_toArray, List.getElem_cons_zero, List.getElem_cons_succ]
          go_simp
          refine hK _ _ (Or.inr ?_) (fun hHeld => ?_)
          · exact hHeld
          clear hK K
          replace hHeld := hHeld.resolve_left (by decide)
          try simp only [Act.put, List.setIfInBounds_toArray, List.set_cons_zero, List.set_cons_succ]
          refine z_done (by kernel_rfl) ?_ _
          clear hHeld
          go_wp2
          go_ret
          exact ⟨rfl, HK.out⟩
        · skip
          simp only [List.getElem_toArray, List.getElem_cons_zero, List.getElem_cons_succ]
          go_simp
          refine hK _ _ (Or.inr ?_) (fun hHeld => ?_)
          · exact ⟨hHeld.1.quiet ((Keeps.refl _ _).alloc _), hHeld.2.quiet ((Keeps.refl _ _).alloc _)⟩
          clear hK K
          replace hHeld := hHeld.resolve_left (by decide)
          have S16 := Lib.hid (lies_one _ 3 (0, 0) : Sl (World.alloc wz3 (.cells #[.int .u64 3] 25)) (some ⟨wz3.heap.size, 0, none⟩) 1 1 [.int .u64 3])
          replace HK := Lib.hid (HK.out.alloc (.cells #[.int .u64 3] 25))
          try simp only [Act.put, List.setIfInBounds_toArray, List.set_cons_zero, List.set_cons_succ]
          replace S12 := Lib.hid (S12.out.quiet ((Keeps.refl _ _).alloc (.cells #[.int .u64 3] 25)))
          generalize (World.alloc wz3 (.cells #[.int .u64 3] 25)) = wz4 at *
          refine z_one 13 rfl (by kernel_rfl) (by rfl) (fun K hK => ?_)
          simp only [List.getElem_toArray, List.getElem_cons_zero, List.getElem_cons_succ]
          go_simp
          refine (of_any (strOf as_) _ 1 1 [3] _ (by rw [strOf_size, HNL.out]; omega) (by omega) S12.out (by intro x hx; simp at hx; subst hx; unfold U64; omega)).mono ?_
          rw [strOf_data, HE.out.2.2.1]
          rintro e wz5 ⟨rfl, hk⟩
          replace HK := Lib.hid (HK.out.quiet hk)
          replace S16 := Lib.hid (S16.out.quiet hk)
          refine hK _ _ (Or.inr ?_) (fun hHeld => ?_)
          · exact ⟨hHeld.1.quiet hk, hHeld.2.quiet hk⟩
          clear hK K hk
          replace hHeld := hHeld.resolve_left (by decide)
          try simp only [Act.put, List.setIfInBounds_toArray, List.set_cons_zero, List.set_cons_succ]
          refine z_one 17 rfl (by kernel_rfl) (by rfl) (fun K hK => ?_)
          simp only [List.getElem_toArray, List.getElem_cons_zero, List.getElem_cons_succ]
          go_simp
          refine (of_any (strOf cs) _ 1 1 [3] _ (by rw [strOf_size, HCS.out.1]; omega) (by omega) S16.out (by intro x hx; simp at hx; subst hx; unfold U64; omega)).mono ?_
          rw [strOf_data, HE.out.2.2.2]
          rintro e wz6 ⟨rfl, hk⟩
          replace HK := Lib.hid (HK.out.quiet hk)
          refine hK _ _ (Or.inr ?_) (fun hHeld => ?_)
          · exact ⟨hHeld.1.quiet hk, hHeld.2.quiet hk⟩
          clear hK K hk
          replace hHeld := hHeld.resolve_left (by decide)
          try simp only [Act.put, List.setIfInBounds_toArray, List.set_cons_zero, List.set_cons_succ]
          refine z_one 18 rfl (by kernel_rfl) (by rfl) (fun K hK => ?_)
          simp only [List.getElem_toArray, List.getElem_cons_zero, List.getElem_cons_succ]
          go_simp
          refine hK _ _ (Or.inr ?_) (fun hHeld => ?_)
          · exact hHeld
          clear hK K
          replace hHeld := hHeld.resolve_left (by decide)
          try simp only [Act.put, List.setIfInBounds_toArray, List.set_cons_zero, List.set_cons_succ]
          refine z_one 20 rfl (by kernel_rfl) (by rfl) (fun K hK => ?_)
          simp only [List.getElem_toArray, List.getElem_cons_zero, List.getElem_cons_succ]
          go_simp
          refine hK _ _ (Or.inr ?_) (fun hHeld => ?_)
          · exact hHeld
          clear hK K
          replace hHeld := hHeld.resolve_left (by decide)
          try simp only [Act.put, List.setIfInBounds_toArray, List.set_cons_zero, List.set_cons_succ]
          refine z_one 21 rfl (by kernel_rfl) (by rfl) (fun K hK => ?_)
          simp only [List.getElem_toArray, List.getElem_cons_zero, List.getElem_cons_succ]
          go_simp
          refine hK _ _ (Or.inr ?_) (fun hHeld => ?_)
          · exact hHeld
          clear hK K
          replace hHeld := hHeld.resolve_left (by decide)
          try simp only [Act.put, List.setIfInBounds_toArray, List.set_cons_zero, List.set_cons_succ]
          refine z_one 22 rfl (by kernel_rfl) (by rfl) (fun K hK => ?_)
          simp only [List.getElem_toArray, List.getElem_cons_zero, List.getElem_cons_succ]
          go_simp
          refine hK _ _ (Or.inr ?_) (fun hHeld => ?_)
          · exact hHeld
          clear hK K
          replace hHeld := hHeld.resolve_left (by decide)
          try simp only [Act.put, List.setIfInBounds_toArray, List.set_cons_zero, List.set_cons_succ]
          refine z_one 23 rfl (by kernel_rfl) (by rfl) (fun K hK => ?_)
          simp only [List.getElem_toArray, List.getElem_cons_zero, List.getElem_cons_succ]
          go_simp
          refine (lives_any _).mono ?_
          rintro e wz7 ⟨rfl, hk⟩
          replace HK := Lib.hid (HK.out.quiet hk)
          refine hK _ _ (Or.inr ?_) (fun hHeld => ?_)
          · exact ⟨hHeld.1.quiet hk, hHeld.2.quiet hk⟩
          clear hK K hk
          replace hHeld := hHeld.resolve_left (by decide)
          try simp only [Act.put, List.setIfInBounds_toArray, List.set_cons_zero, List.set_cons_succ]
          refine z_one 24 rfl (by kernel_rfl) (by rfl) (fun K hK => ?_)
          simp only [List.getElem_toArray, List.getElem_cons_zero, List.getElem_cons_succ]
          go_simp
          refine hK _ _ (Or.inr ?_) (fun hHeld => ?_)
          · exact hHeld
          clear hK K
          replace hHeld := hHeld.resolve_left (by decide)
          try simp only [Act.put, List.setIfInBounds_toArray, List.set_cons_zero, List.set_cons_succ]
          refine z_one 25 rfl (by kernel_rfl) (by rfl) (fun K hK => ?_)
          simp only [List.getElem_toArray, List.getElem_cons_zero, List.getElem_cons_succ]
          go_simp
          refine hK _ _ (Or.inr ?_) (fun hHeld => ?_)
          · exact hHeld
          clear hK K
          replace hHeld := hHeld.resolve_left (by decide)
          try simp only [Act.put, List.setIfInBounds_toArray, List.set_cons_zero, List.set_cons_succ]
          refine z_done (by kernel_rfl) ?_ _
          clear hHeld
          go_wp2
          go_ret
          exact ⟨rfl, HK.out⟩
      · skip
        simp only [List.getElem_toArray, List.getElem_cons_zero, List.getElem_cons_succ]
        go_simp
        refine hK _ _ (Or.inr ?_) (fun hHeld => ?_)
        · exact ⟨hHeld.1.quiet ((Keeps.refl _ _).alloc _), hHeld.2.quiet ((Keeps.refl _ _).alloc _)⟩
        clear hK K
        replace hHeld := hHeld.resolve_left (by decide)
        have S16 := Lib.hid (lies_one _ 3 (0, 0) : Sl (World.alloc wz2 (.cells #[.int .u64 3] 25)) (some ⟨wz2.heap.size, 0, none⟩) 1 1 [.int .u64 3])
        replace HK := Lib.hid (HK.out.alloc (.cells #[.int .u64 3] 25))
        try simp only [Act.put, List.setIfInBounds_toArray, List.set_cons_zero, List.set_cons_succ]
        generalize (World.alloc wz2 (.cells #[.int .u64 3] 25)) = wz3 at *
        refine z_one 12 rfl (by kernel_rfl) (by rfl) (fun K hK => ?_)
        simp only [List.getElem_toArray, List.getElem_cons_zero, List.getElem_cons_succ]
        go_simp
        refine hK _ _ (Or.inr ?_) (fun hHeld => ?_)
        · exact ⟨hHeld.1.quiet ((Keeps.refl _ _).alloc _), hHeld.2.quiet ((Keeps.refl _ _).alloc _)⟩
        clear hK K
        replace hHeld := hHeld.resolve_left (by decide)
        have S12 := Lib.hid (lies_one _ 3 (0, 0) : Sl (World.alloc wz3 (.cells #[.int .u64 3] 25)) (some ⟨wz3.heap.size, 0, none⟩) 1 1 [.int .u64 3])
        replace HK := Lib.hid (HK.out.alloc (.cells #[.int .u64 3] 25))
        try simp only [Act.put, List.setIfInBounds_toArray, List.set_cons_zero, List.set_cons_succ]
        replace S16 := Lib.hid (S16.out.quiet ((Keeps.refl _ _).alloc (.cells #[.int .u64 3] 25)))
        generalize (World.alloc wz3 (.cells #[.int .u64 3] 25)) = wz4 at *
        refine z_one 13 rfl (by kernel_rfl) (by rfl) (fun K hK => ?_)
        simp only [List.getElem_toArray, List.getElem_cons_zero, List.getElem_cons_succ]
        go_simp
        refine (of_any (strOf as_) _ 1 1 [3] _ (by rw [strOf_size, HNL.out]; omega) (by omega) S12.out (by intro x hx; simp at hx; subst hx; unfold U64; omega)).mono ?_
        rw [strOf_data, HE.out.2.2.1]
        rintro e wz5 ⟨rfl, hk⟩
        replace HK := Lib.hid (HK.out.quiet hk)
        replace S16 := Lib.hid (S16.out.quiet hk)
        refine hK _ _ (Or.inr ?_) (fun hHeld => ?_)
        · exact ⟨hHeld.1.quiet hk, hHeld.2.quiet hk⟩
        clear hK K hk
        replace hHeld := hHeld.resolve_left (by decide)
        try simp only [Act.put, List.setIfInBounds_toArray, List.set_cons_zero, List.set_cons_succ]
        refine z_one 17 rfl (by kernel_rfl) (by rfl) (fun K hK => ?_)
        simp only [List.getElem_toArray, List.getElem_cons_zero, List.getElem_cons_succ]
        go_simp
        refine (of_any (strOf cs) _ 1 1 [3] _ (by rw [strOf_size, HCS.out.1]; omega) (by omega) S16.out (by intro x hx; simp at hx; subst hx; unfold U64; omega)).mono ?_
        rw [strOf_data, HE.out.2.2.2]
        rintro e wz6 ⟨rfl, hk⟩
        replace HK := Lib.hid (HK.out.quiet hk)
        refine hK _ _ (Or.inr ?_) (fun hHeld => ?_)
        · exact ⟨hHeld.1.quiet hk, hHeld.2.quiet hk⟩
        clear hK K hk
        replace hHeld := hHeld.resolve_left (by decide)
        try simp only [Act.put, List.setIfInBounds_toArray, List.set_cons_zero, List.set_cons_succ]
        refine z_one 18 rfl (by kernel_rfl) (by rfl) (fun K hK => ?_)
        simp only [List.getElem_toArray, List.getElem_cons_zero, List.getElem_cons_succ]
        go_simp
        refine hK _ _ (Or.inr ?_) (fun hHeld => ?_)
        · exact hHeld
        clear hK K
        replace hHeld := hHeld.resolve_left (by decide)
        try simp only [Act.put, List.setIfInBounds_toArray, List.set_cons_zero, List.set_cons_succ]
        refine z_one 20 rfl (by kernel_rfl) (by rfl) (fun K hK => ?_)
        simp only [List.getElem_toArray, List.getElem_cons_zero, List.getElem_cons_succ]
        go_simp
        refine hK _ _ (Or.inr ?_) (fun hHeld => ?_)
        · exact hHeld
        clear hK K
        replace hHeld := hHeld.resolve_left (by decide)
        try simp only [Act.put, List.setIfInBounds_toArray, List.set_cons_zero, List.set_cons_succ]
        refine z_one 21 rfl (by kernel_rfl) (by rfl) (fun K hK => ?_)
        simp only [List.getElem_toArray, List.getElem_cons_zero, List.getElem_cons_succ]
        go_simp
        refine hK _ _ (Or.inr ?_) (fun hHeld => ?_)
        · exact hHeld
        clear hK K
        replace hHeld := hHeld.resolve_left (by decide)
        try simp only [Act.put, List.setIfInBounds_toArray, List.set_cons_zero, List.set_cons_succ]
        refine z_one 22 rfl (by kernel_rfl) (by rfl) (fun K hK => ?_)
        simp only [List.getElem_toArray, List.getElem_cons_zero, List.getElem_cons_succ]
        go_simp
        refine hK _ _ (Or.inr ?_) (fun hHeld => ?_)
        · exact hHeld
        clear hK K
        replace hHeld := hHeld.resolve_left (by decide)
        try simp only [Act.put, List.setIfInBounds_toArray, List.set_cons_zero, List.set_cons_succ]
        refine z_one 23 rfl (by kernel_rfl) (by rfl) (fun K hK => ?_)
        simp only [List.getElem_toArray, List.getElem_cons_zero, List.getElem_cons_succ]
        go_simp
        refine (lives_any _).mono ?_
        rintro e wz7 ⟨rfl, hk⟩
        replace HK := Lib.hid (HK.out.quiet hk)
        refine hK _ _ (Or.inr ?_) (fun hHeld => ?_)
        · exact ⟨hHeld.1.quiet hk, hHeld.2.quiet hk⟩
        clear hK K hk
        replace hHeld := hHeld.resolve_left (by decide)
        try simp only [Act.put, List.setIfInBounds_toArray, List.set_cons_zero, List.set_cons_succ]
        refine z_one 24 rfl (by kernel_rfl) (by rfl) (fun K hK => ?_)
        simp only [List.getElem_toArray, List.getElem_cons_zero, List.getElem_cons_succ]
        go_simp
        refine hK _ _ (Or.inr ?_) (fun hHeld => ?_)
        · exact hHeld
        clear hK K
        replace hHeld := hHeld.resolve_left (by decide)
        try simp only [Act.put, List.setIfInBounds_toArray, List.set_cons_zero, List.set_cons_succ]
        refine z_one 25 rfl (by kernel_rfl) (by rfl) (fun K hK => ?_)
        simp only [List.getElem_toArray, List.getElem_cons_zero, List.getElem_cons_succ]
        go_simp
        refine hK _ _ (Or.inr ?_) (fun hHeld => ?_)
        · exact hHeld
        clear hK K
        replace hHeld := hHeld.resolve_left (by decide)
        try simp only [Act.put, List.setIfInBounds_toArray, List.set_cons_zero, List.set_cons_succ]
        refine z_done (by kernel_rfl) ?_ _
        clear hHeld
        go_wp2
        go_ret
        exact ⟨rfl, HK.out⟩
  · have d1 : ¬ (k : Int) + 1 < (na : Int) + 1 := by omega
    go_wp2_with fail
    clear ex c1 f1
    generalize hW : w2.setCell ⟨gc, k, none⟩ (.int .u8 (y.toNat : Int)) = W at *
    clear hW
    have OE := Lib.hid OD.out
    have HCS : Hid ((as_.set k y).length = na + 1 ∧ ∀ t, t / 7 ≠ k / 7 → as_[t]? = (as_.set k y)[t]?) := ⟨by rw [List.length_set, HNL.out], fun t ht => (set_other _ _ _ _ _ rfl ht).symm⟩
    clear OD
    generalize as_.set k y = cs at *
    have Sc := Lib.hid (Sl.of_own OE.out)
    obtain ⟨b, hb⟩ : ∃ b : Bool, decide (as_ = cs) = b := ⟨_, rfl⟩
    have HBB := Lib.hid hb
    clear hb OE
    go_wp2_with fail
    refine (same_any (some ⟨ga, 0, none⟩) (some ⟨gc, 0, none⟩) (na + 1) (na + 1) cab cac as_ cs W Sb.out Sc.out).mono ?_
    rw [HBB.out]
    rintro e w21 ⟨rfl, hk⟩
    replace HK := Lib.hid (HK.out.quiet hk)
    replace Sb := Lib.hid (Sb.out.quiet hk)
    replace Sc := Lib.hid (Sc.out.quiet hk)
    clear hk
    go_wp2_with fail
    refine (short_any s 20 w21).mono ?_
    rintro e _ ⟨rfl, rfl⟩
    have hsz := shortOf_size s 20
    generalize shortOf s 20 = t at *
    obtain ⟨x1, hx1⟩ : ∃ x1, hby t.data.toList as_ = x1 := ⟨_, rfl⟩
    obtain ⟨x2, hx2⟩ : ∃ x2, hby t.data.toList cs = x2 := ⟨_, rfl⟩
    obtain ⟨y1, hy1⟩ : ∃ y1, hof as_ [3] = y1 := ⟨_, rfl⟩
    obtain ⟨y2, hy2⟩ : ∃ y2, hof cs [3] = y2 := ⟨_, rfl⟩
    have hlen : as_.length = cs.length := by rw [HNL.out, HCS.out.1]
    have k1 := hby_tells t.data.toList as_ cs hlen (k / 7) (by rw [HNL.out]; omega) HCS.out.2
    have k2 := label_tells as_ cs [3] hlen (k / 7) (by rw [HNL.out]; omega) HCS.out.2
    rw [hx1, hx2] at k1
    rw [hy1, hy2] at k2
    have hb := HBB.out
    have e1 : ((x1 : Int) == (x2 : Int)) = b := by rw [← hb, Bool.eq_iff_iff]; simp; rw [← k1]; omega
    have e2 : ((y1 : Int) == (y2 : Int)) = b := by rw [← hb, Bool.eq_iff_iff]; simp; rw [← k2]; omega
    have HE := Lib.hid (And.intro hx1 (And.intro hx2 (And.intro hy1 hy2)))
    clear k1 k2 hb hx1 hx2 hy1 hy2 hlen
    go_wp2_with fail
    refine z_begin (fun w' => Sl w' (some ⟨ga, 0, none⟩) (na + 1) cab (BV as_) ∧ Sl w' (some ⟨gc, 0, none⟩) (na + 1) cac (BV cs)) 26 (by kernel_rfl) ⟨Sb.out.quiet (Keeps.refl _ _).drew, Sc.out.quiet (Keeps.refl _ _).drew⟩ (fun hHeld => ?_)
    replace HK := Lib.hid HK.out.drew
    clear Sb Sc
    generalize w21.drew = wz0 at *
    refine z_take 0 (v := ?_) rfl (by kernel_rfl) (by kernel_rfl) (by kernel_rfl) (by kernel_rfl) (fun _ _ _ h => h) hHeld (by rfl) (fun w hSw => ?_) ?_
    rotate_left
    · obtain ⟨hSw1, hSw2⟩ := hSw; simp only [List.getElem_toArray, List.getElem_cons_zero]; go_simp; try rfl
    simp only [Act.put, List.getElem_toArray, List.getElem_cons_zero, List.setIfInBounds_toArray, List.set_cons_zero, List.set_cons_succ]
    refine z_take 1 (v := ?_) rfl (by kernel_rfl) (by kernel_rfl) (by kernel_rfl) (by kernel_rfl) (fun _ _ _ h => h) hHeld (by rfl) (fun w hSw => ?_) ?_
    rotate_left
    · obtain ⟨hSw1, hSw2⟩ := hSw; simp only [List.getElem_toArray, List.getElem_cons_zero, List.getElem_cons_succ]; go_simp; try rfl
    simp only [Act.put, List.getElem_toArray, List.getElem_cons_zero, List.getElem_cons_succ, List.setIfInBounds_toArray, List.set_cons_zero, List.set_cons_succ]
    refine z_take 3 (v := ?_) rfl (by kernel_rfl) (by kernel_rfl) (by kernel_rfl) (by kernel_rfl) (fun _ _ _ h => h) hHeld (by rfl) (fun w hSw => ?_) ?_
    rotate_left
    · obtain ⟨hSw1, hSw2⟩ := hSw; simp only [List.getElem_toArray, List.getElem_cons_zero, List.getElem_cons_succ]; go_simp; try rfl
    simp only [Act.put, List.getElem_toArray, List.getElem_cons_zero, List.getElem_cons_succ, List.setIfInBounds_toArray, List.set_cons_zero, List.set_cons_succ]
    refine z_take 4 (v := ?_) rfl (by kernel_rfl) (by kernel_rfl) (by kernel_rfl) (by kernel_rfl) (fun _ _ _ h => h) hHeld (by rfl) (fun w hSw => ?_) ?_
    rotate_left
    · obtain ⟨hSw1, hSw2⟩ := hSw; simp only [List.getElem_toArray, List.getElem_cons_zero, List.getElem_cons_succ]; go_simp; try rfl
    simp only [Act.put, List.getElem_toArray, List.getElem_cons_zero, List.getElem_cons_succ, List.setIfInBounds_toArray, List.set_cons_zero, List.set_cons_succ]
    refine z_take 7 (v := ?_) rfl (by kernel_rfl) (by kernel_rfl) (by kernel_rfl) (by kernel_rfl) (fun _ _ _ h => h) hHeld (by rfl) (fun w hSw => ?_) ?_
    rotate_left
    · obtain ⟨hSw1, hSw2⟩ := hSw; simp only [List.getElem_toArray, List.getElem_cons_zero, List.getElem_cons_succ]; go_simp; try rfl
    simp only [Act.put, List.getElem_toArray, List.getElem_cons_zero, List.getElem_cons_succ, List.setIfInBounds_toArray, List.set_cons_zero, List.set_cons_succ]
    refine z_one 2 rfl (by kernel_rfl) (by rfl) (fun K hK => ?_)
    simp only [List.getElem_toArray, List.getElem_cons_zero, List.getElem_cons_succ]
    go_simp
    refine (bytes_any t (some ⟨ga, 0, none⟩) (na + 1) cab as_ _ (by omega) (by omega) hHeld.1).mono ?_
    rw [HE.out.1]
    rintro e wz1 ⟨rfl, hk⟩
    replace HK := Lib.hid (HK.out.quiet hk)
    refine hK _ _ (Or.inr ?_) (fun hHeld => ?_)
    · exact ⟨hHeld.1.quiet hk, hHeld.2.quiet hk⟩
    clear hK K hk
    replace hHeld := hHeld.resolve_left (by decide)
    try simp only [Act.put, List.setIfInBounds_toArray, List.set_cons_zero, List.set_cons_succ]
    refine z_one 5 rfl (by kernel_rfl) (by rfl) (fun K hK => ?_)
    simp only [List.getElem_toArray, List.getElem_cons_zero, List.getElem_cons_succ]
    go_simp
    refine (bytes_any t (some ⟨gc, 0, none⟩) (na + 1) cac cs _ (by omega) (by omega) hHeld.2).mono ?_
    rw [HE.out.2.1]
    rintro e wz2 ⟨rfl, hk⟩
    replace HK := Lib.hid (HK.out.quiet hk)
    refine hK _ _ (Or.inr ?_) (fun hHeld => ?_)
    · exact ⟨hHeld.1.quiet hk, hHeld.2.quiet hk⟩
    clear hK K hk
    replace hHeld := hHeld.resolve_left (by decide)
    try simp only [Act.put, List.setIfInBounds_toArray, List.set_cons_zero, List.set_cons_succ]
    refine z_one 6 rfl (by kernel_rfl) (by rfl) (fun K hK => ?_)
    simp only [List.getElem_toArray, List.getElem_cons_zero, List.getElem_cons_succ]
    go_simp
    refine hK _ _ (Or.inr ?_) (fun hHeld => ?_)
    · exact hHeld
    clear hK K
    replace hHeld := hHeld.resolve_left (by decide)
    try simp only [Act.put, List.setIfInBounds_toArray, List.set_cons_zero, List.set_cons_succ]
    refine z_one 8 rfl (by kernel_rfl) (by rfl) (fun K hK => ?_)
    simp only [List.getElem_toArray, List.getElem_cons_zero, List.getElem_cons_succ]
    go_simp
    refine hK _ _ (Or.inr ?_) (fun hHeld => ?_)
    · exact hHeld
    clear hK K
    replace hHeld := hHeld.resolve_left (by decide)
    try simp only [Act.put, List.setIfInBounds_toArray, List.set_cons_zero, List.set_cons_succ]
    refine z_one 9 rfl (by kernel_rfl) (by rfl) (fun K hK => ?_)
    simp only [List.getElem_toArray, List.getElem_cons_zero, List.getElem_cons_succ]
    go_simp
    refine hK _ _ (Or.inr ?_) (fun hHeld => ?_)
    · exact hHeld
    clear hK K
    replace hHeld := hHeld.resolve_left (by decide)
    try simp only [Act.put, List.setIfInBounds_toArray, List.set_cons_zero, List.set_cons_succ]
    refine z_take 10 (v := ?_) rfl (by kernel_rfl) (by kernel_rfl) (by kernel_rfl) (by kernel_rfl) (fun _ _ _ h => h) hHeld (by rfl) (fun w hSw => ?_) ?_
    rotate_left
    · obtain ⟨hSw1, hSw2⟩ := hSw; simp only [List.getElem_toArray, List.getElem_cons_zero, List.getElem_cons_succ]; go_simp; try rfl
    simp only [Act.put, List.getElem_toArray, List.getElem_cons_zero, List.getElem_cons_succ, List.setIfInBounds_toArray, List.set_cons_zero, List.set_cons_succ]
    refine z_take 11 (v := ?_) rfl (by kernel_rfl) (by kernel_rfl) (by kernel_rfl) (by kernel_rfl) (fun _ _ _ h => h) hHeld (by rfl) (fun w hSw => ?_) ?_
    rotate_left
    · have q := run_strSl hSw.1; clear hSw; simp only [List.getElem_toArray, List.getElem_cons_zero, List.getElem_cons_succ]; go_simp; try rfl
    simp only [Act.put, List.getElem_toArray, List.getElem_cons_zero, List.getElem_cons_succ, List.setIfInBounds_toArray, List.set_cons_zero, List.set_cons_succ]
    refine z_take 14 (v := ?_) rfl (by kernel_rfl) (by kernel_rfl) (by kernel_rfl) (by kernel_rfl) (fun _ _ _ h => h) hHeld (by rfl) (fun w hSw => ?_) ?_
    rotate_left
    · obtain ⟨hSw1, hSw2⟩ := hSw; simp only [List.getElem_toArray, List.getElem_cons_zero, List.getElem_cons_succ]; go_simp; try rfl
    simp only [Act.put, List.getElem_toArray, List.getElem_cons_zero, List.getElem_cons_succ, List.setIfInBounds_toArray, List.set_cons_zero, List.set_cons_succ]
    refine z_take 15 (v := ?_) rfl (by kernel_rfl) (by kernel_rfl) (by kernel_rfl) (by kernel_rfl) (fun _ _ _ h => h) hHeld (by rfl) (fun w hSw => ?_) ?_
    rotate_left
    · have q := run_strSl hSw.2; clear hSw; simp only [List.getElem_toArray, List.getElem_cons_zero, List.getElem_cons_succ]; go_simp; try rfl
    simp only [Act.put, List.getElem_toArray, List.getElem_cons_zero, List.getElem_cons_succ, List.setIfInBounds_toArray, List.set_cons_zero, List.set_cons_succ]
    refine z_take 19 (v := ?_) rfl (by kernel_rfl) (by kernel_rfl) (by kernel_rfl) (by kernel_rfl) (fun _ _ _ h => h) hHeld (by rfl) (fun w hSw => ?_) ?_
    rotate_left
    · obtain ⟨hSw1, hSw2⟩ := hSw; simp only [List.getElem_toArray, List.getElem_cons_zero, List.getElem_cons_succ]; go_simp; try rfl
    simp only [Act.put, List.getElem_toArray, List.getElem_cons_zero, List.getElem_cons_succ, List.setIfInBounds_toArray, List.set_cons_zero, List.set_cons_succ]
    refine z_two 12 16 rfl rfl (by kernel_rfl) (by rfl) (by rfl) (fun K hK => ?_) (fun K hK => ?_)
    · skip
      simp only [List.getElem_toArray, List.getElem_cons_zero, List.getElem_cons_succ]
      go_simp
      refine hK _ _ (Or.inr ?_) (fun hHeld => ?_)
      · exact ⟨hHeld.1.quiet ((Keeps.refl _ _).alloc _), hHeld.2.quiet ((Keeps.refl _ _).alloc _)⟩
      clear hK K
      replace hHeld := hHeld.resolve_left (by decide)
      have S12 := Lib.hid (lies_one _ 3 (0, 0) : Sl (World.alloc wz2 (.cells #[.int .u64 3] 25)) (some ⟨wz2.heap.size, 0, none⟩) 1 1 [.int .u64 3])
      replace HK := Lib.hid (HK.out.alloc (.cells #[.int .u64 3] 25))
      try simp only [Act.put, List.setIfInBounds_toArray, List.set_cons_zero, List.set_cons_succ]
      generalize (World.alloc wz2 (.cells #[.int .u64 3] 25)) = wz3 at *
      refine z_two 13 16 rfl rfl (by kernel_rfl) (by rfl) (by rfl) (fun K hK => ?_) (fun K hK => ?_)
      · skip
        simp only [List.getElem_toArray, List.getElem_cons_zero, List.getElem_cons_succ]
        go_simp
        refine (of_any (strOf as_) _ 1 1 [3] _ (by rw [strOf_size, HNL.out]; omega) (by omega) S12.out (by intro x hx; simp at hx; subst hx; unfold U64; omega)).mono ?_
        rw [strOf_data, HE.out.2.2.1]
        rintro e wz4 ⟨rfl, hk⟩
        replace HK := Lib.hid (HK.out.quiet hk)
        refine hK _ _ (Or.inr ?_) (fun hHeld => ?_)
        · exact ⟨hHeld.1.quiet hk, hHeld.2.quiet hk⟩
        clear hK K hk
        replace hHeld := hHeld.resolve_left (by decide)
        try simp only [Act.put, List.setIfInBounds_toArray, List.set_cons_zero, List.set_cons_succ]
        refine z_one 16 rfl (by kernel_rfl) (by rfl) (fun K hK => ?_)
        simp only [List.getElem_toArray, List.getElem_cons_zero, List.getElem_cons_succ]
        go_simp
        refine hK _ _ (Or.inr ?_) (fun hHeld => ?_)
        · exact ⟨hHeld.1.quiet ((Keeps.refl _ _).alloc _), hHeld.2.quiet ((Keeps.refl _ _).alloc _)⟩
        clear hK K
        replace hHeld := hHeld.resolve_left (by decide)
        have S16 := Lib.hid (lies_one _ 3 (0, 0) : Sl (World.alloc wz4 (.cells #[.int .u64 3] 25)) (some ⟨wz4.heap.size, 0, none⟩) 1 1 [.int .u64 3])
        replace HK := Lib.hid (HK.out.alloc (.cells #[.int .u64 3] 25))
        try simp only [Act.put, List.setIfInBounds_toArray, List.set_cons_zero, List.set_cons_succ]
        generalize (World.alloc wz4 (.cells #[.int .u64 3] 25)) = wz5 at *
        refine z_one 17 rfl (by kernel_rfl) (by rfl) (fun K hK => ?_)
        simp only [List.getElem_toArray, List.getElem_cons_zero, List.getElem_cons_succ]
        go_simp
        refine (of_any (strOf cs) _ 1 1 [3] _ (by rw [strOf_size, HCS.out.1]; omega) (by omega) S16.out (by intro x hx; simp at hx; subst hx; unfold U64; omega)).mono ?_
        rw [strOf_data, HE.out.2.2.2]
        rintro e wz6 ⟨rfl, hk⟩
        replace HK := Lib.hid (HK.out.quiet hk)
        refine hK _ _ (Or.inr ?_) (fun hHeld => ?_)
        · exact ⟨hHeld.1.quiet hk, hHeld.2.quiet hk⟩
        clear hK K hk
        replace hHeld := hHeld.resolve_left (by decide)
        try simp only [Act.put, List.setIfInBounds_toArray, List.set_cons_zero, List.set_cons_succ]
        refine z_one 18 rfl (by kernel_rfl) (by rfl) (fun K hK => ?_)
        simp only [List.getElem_toArray, List.getElem_cons_zero, List.getElem_cons_succ]
        go_simp
        refine hK _ _ (Or.inr ?_) (fun hHeld => ?_)
        · exact hHeld
        clear hK K
        replace hHeld := hHeld.resolve_left (by decide)
        try simp only [Act.put, List.setIfInBounds_toArray, List.set_cons_zero, List.set_cons_succ]
        refine z_one 20 rfl (by kernel_rfl) (by rfl) (fun K hK => ?_)
        simp only [List.getElem_toArray, List.getElem_cons_zero, List.getElem_cons_succ]
        go_simp
        refine hK _ _ (Or.inr ?_) (fun hHeld => ?_)
        · exact hHeld
        clear hK K
        replace hHeld := hHeld.resolve_left (by decide)
        try simp only [Act.put, List.setIfInBounds_toArray, List.set_cons_zero, List.set_cons_succ]
        refine z_one 21 rfl (by kernel_rfl) (by rfl) (fun K hK => ?_)
        simp only [List.getElem_toArray, List.getElem_cons_zero, List.getElem_cons_succ]
        go_simp
        refine hK _ _ (Or.inr ?_) (fun hHeld => ?_)
        · exact hHeld
        clear hK K
        replace hHeld := hHeld.resolve_left (by decide)
        try simp only [Act.put, List.setIfInBounds_toArray, List.set_cons_zero, List.set_cons_succ]
        refine z_one 22 rfl (by kernel_rfl) (by rfl) (fun K hK => ?_)
        simp only [List.getElem_toArray, List.getElem_cons_zero, List.getElem_cons_succ]
        go_simp
        refine hK _ _ (Or.inr ?_) (fun hHeld => ?_)
        · exact hHeld
        clear hK K
        replace hHeld := hHeld.resolve_left (by decide)
        try simp only [Act.put, List.setIfInBounds_toArray, List.set_cons_zero, List.set_cons_succ]
        refine z_one 23 rfl (by kernel_rfl) (by rfl) (fun K hK => ?_)
        simp only [List.getElem_toArray, List.getElem_cons_zero, List.getElem_cons_succ]
        go_simp
        refine (lives_any _).mono ?_
        rintro e wz7 ⟨rfl, hk⟩
        replace HK := Lib.hid (HK.out.quiet hk)
        refine hK _ _ (Or.inr ?_) (fun hHeld => ?_)
        · exact ⟨hHeld.1.quiet hk, hHeld.2.quiet hk⟩
        clear hK K hk
        replace hHeld := hHeld.resolve_left (by decide)
        try simp only [Act.put, List.setIfInBounds_toArray, List.set_cons_zero, List.set_cons_succ]
        refine z_one 24 rfl (by kernel_rfl) (by rfl) (fun K hK => ?_)
        simp only [List.getElem_toArray, List.getElem_cons_zero, List.getElem_cons_succ]
        go_simp
        refine hK _ _ (Or.inr ?_) (fun hHeld => ?_)
        · exact hHeld
        clear hK K
        replace hHeld := hHeld.resolve_left (by decide)
        try simp only [Act.put, List.setIfInBounds_toArray, List.set_cons_zero, List.set_cons_succ]
        refine z_one 25 rfl (by kernel_rfl) (by rfl) (fun K hK => ?_)
        simp only [List.getElem_toArray, List.getElem_cons_zero, List.getElem_cons_succ]
        go_simp
        refine hK _ _ (Or.inr ?_) (fun hHeld => ?_)
        · exact hHeld
        clear hK K
        replace hHeld := hHeld.resolve_left (by decide)
        try simp only [Act.put, List.setIfInBounds_toArray, List.set_cons_zero, List.set_cons_succ]
        refine z_done (by kernel_rfl) ?_ _
        clear hHeld
        go_wp2
        go_ret
        exact ⟨rfl, HK.out⟩
      · skip
        simp only [List.getElem_toArray, List.getElem_cons_zero, List.getElem_cons_succ]
        go_simp
        refine hK _ _ (Or.inr ?_) (fun hHeld => ?_)
        · exact ⟨hHeld.1.quiet ((Keeps.refl _ _).alloc _), hHeld.2.quiet ((Keeps.refl _ _).alloc _)⟩
        clear hK K
        replace hHeld := hHeld.resolve_left (by decide)
        have S16 := Lib.hid (lies_one _ 3 (0, 0) : Sl (World.alloc wz3 (.cells #[.int .u64 3] 25)) (some ⟨wz3.heap.size, 0, none⟩) 1 1 [.int .u64 3])
        replace HK := Lib.hid (HK.out.alloc (.cells #[.int .u64 3] 25))
        try simp only [Act.put, List.setIfInBounds_toArray, List.set_cons_zero, List.set_cons_succ]
        replace S12 := Lib.hid (S12.out.quiet ((Keeps.refl _ _).alloc (.cells #[.int .u64 3] 25)))
        generalize (World.alloc wz3 (.cells #[.int .u64 3] 25)) = wz4 at *
        refine z_one 13 rfl (by kernel_rfl) (by rfl) (fun K hK => ?_)
        simp only [List.getElem_toArray, List.getElem_cons_zero, List.getElem_cons_succ]
        go_simp
        refine (of_any (strOf as_) _ 1 1 [3] _ (by rw [strOf_size, HNL.out]; omega) (by omega) S12.out (by intro x hx; simp at hx; subst hx; unfold U64; omega)).mono ?_
        rw [strOf_data, HE.out.2.2.1]
        rintro e wz5 ⟨rfl, hk⟩
        replace HK := Lib.hid (HK.out.quiet hk)
        replace S16 := Lib.hid (S16.out.quiet hk)
        refine hK _ _ (Or.inr ?_) (fun hHeld => ?_)
        · exact ⟨hHeld.1.quiet hk, hHeld.2.quiet hk⟩
        clear hK K hk
        replace hHeld := hHeld.resolve_left (by decide)
        try simp only [Act.put, List.setIfInBounds_toArray, List.set_cons_zero, List.set_cons_succ]
        refine z_one 17 rfl (by kernel_rfl) (by rfl) (fun K hK => ?_)
        simp only [List.getElem_toArray, List.getElem_cons_zero, List.getElem_cons_succ]
        go_simp
        refine (of_any (strOf cs) _ 1 1 [3] _ (by rw [strOf_size, HCS.out.1]; omega) (by omega) S16.out (by intro x hx; simp at hx; subst hx; unfold U64; omega)).mono ?_
        rw [strOf_data, HE.out.2.2.2]
        rintro e wz6 ⟨rfl, hk⟩
        replace HK := Lib.hid (HK.out.quiet hk)
        refine hK _ _ (Or.inr ?_) (fun hHeld => ?_)
        · exact ⟨hHeld.1.quiet hk, hHeld.2.quiet hk⟩
        clear hK K hk
        replace hHeld := hHeld.resolve_left (by decide)
        try simp only [Act.put, List.setIfInBounds_toArray, List.set_cons_zero, List.set_cons_succ]
        refine z_one 18 rfl (by kernel_rfl) (by rfl) (fun K hK => ?_)
        simp only [List.getElem_toArray, List.getElem_cons_zero, List.getElem_cons_succ]
        go_simp
        refine hK _ _ (Or.inr ?_) (fun hHeld => ?_)
        · exact hHeld
        clear hK K
        replace hHeld := hHeld.resolve_left (by decide)
        try simp only [Act.put, List.setIfInBounds_toArray, List.set_cons_zero, List.set_cons_succ]
        refine z_one 20 rfl (by kernel_rfl) (by rfl) (fun K hK => ?_)
        simp only [List.getElem_toArray, List.getElem_cons_zero, List.getElem_cons_succ]
        go_simp
        refine hK _ _ (Or.inr ?_) (fun hHeld => ?_)
        · exact hHeld
        clear hK K
        replace hHeld := hHeld.resolve_left (by decide)
        try simp only [Act.put, List.setIfInBounds_toArray, List.set_cons_zero, List.set_cons_succ]
        refine z_one 21 rfl (by kernel_rfl) (by rfl) (fun K hK => ?_)
        simp only [List.getElem_toArray, List.getElem_cons_zero, List.getElem_cons_succ]
        go_simp
        refine hK _ _ (Or.inr ?_) (fun hHeld => ?_)
        · exact hHeld
        clear hK K
        replace hHeld := hHeld.resolve_left (by decide)
        try simp only [Act.put, List.setIfInBounds_toArray, List.set_cons_zero, List.set_cons_succ]
        refine z_one 22 rfl (by kernel_rfl) (by rfl) (fun K hK => ?_)
        simp only [List.getElem_toArray, List.getElem_cons_zero, List.getElem_cons_succ]
        go_simp
        refine hK _ _ (Or.inr ?_) (fun hHeld => ?_)
        · exact hHeld
        clear hK K
        replace hHeld := hHeld.resolve_left (by decide)
        try simp only [Act.put, List.setIfInBounds_toArray, List.set_cons_zero, List.set_cons_succ]
        refine z_one 23 rfl (by kernel_rfl) (by rfl) (fun K hK => ?_)
        simp only [List.getElem_toArray, List.getElem_cons_zero, List.getElem_cons_succ]
        go_simp
        refine (lives_any _).mono ?_
        rintro e wz7 ⟨rfl, hk⟩
        replace HK := Lib.hid (HK.out.quiet hk)
        refine hK _ _ (Or.inr ?_) (fun hHeld => ?_)
        · exact ⟨hHeld.1.quiet hk, hHeld.2.quiet hk⟩
        clear hK K hk
        replace hHeld := hHeld.resolve_left (by decide)
        try simp only [Act.put, List.setIfInBounds_toArray, List.set_cons_zero, List.set_cons_succ]
        refine z_one 24 rfl (by kernel_rfl) (by rfl) (fun K hK => ?_)
        simp only [List.getElem_toArray, List.getElem_cons_zero, List.getElem_cons_succ]
        go_simp
        refine hK _ _ (Or.inr ?_) (fun hHeld => ?_)
        · exact hHeld
        clear hK K
        replace hHeld := hHeld.resolve_left (by decide)
        try simp only [Act.put, List.setIfInBounds_toArray, List.set_cons_zero, List.set_cons_succ]
        refine z_one 25 rfl (by kernel_rfl) (by rfl) (fun K hK => ?_)
        simp only [List.getElem_toArray, List.getElem_cons_zero, List.getElem_cons_succ]
        go_simp
        refine hK _ _ (Or.inr ?_) (fun hHeld => ?_)
        · exact hHeld
        clear hK K
        replace hHeld := hHeld.resolve_left (by decide)
        try simp only [Act.put, List.setIfInBounds_toArray, List.set_cons_zero, List.set_cons_succ]
        refine z_done (by kernel_rfl) ?_ _
        clear hHeld
        go_wp2
        go_ret
        exact ⟨rfl, HK.out⟩
    · skip
      simp only [List.getElem_toArray, List.getElem_cons_zero, List.getElem_cons_succ]
      go_simp
      refine hK _ _ (Or.inr ?_) (fun hHeld => ?_)
      · exact ⟨hHeld.1.quiet ((Keeps.refl _ _).alloc _), hHeld.2.quiet ((Keeps.refl _ _).alloc _)⟩
      clear hK K
      replace hHeld := hHeld.resolve_left (by decide)
      have S16 := Lib.hid (lies_one _ 3 (0, 0) : Sl (World.alloc wz2 (.cells #[.int .u64 3] 25)) (some ⟨wz2.heap.size, 0, none⟩) 1 1 [.int .u64 3])
      replace HK := Lib.hid (HK.out.alloc (.cells #[.int .u64 3] 25))
      try simp only [Act.put, List.setIfInBounds_toArray, List.set_cons_zero, List.set_cons_succ]
      generalize (World.alloc wz2 (.cells #[.int .u64 3] 25)) = wz3 at *
      refine z_one 12 rfl (by kernel_rfl) (by rfl) (fun K hK => ?_)
      simp only [List.getElem_toArray, List.getElem_cons_zero, List.getElem_cons_succ]
      go_simp
      refine hK _ _ (Or.inr ?_) (fun hHeld => ?_)
      · exact ⟨hHeld.1.quiet ((Keeps.refl _ _).alloc _), hHeld.2.quiet ((Keeps.refl _ _).alloc _)⟩
      clear hK K
      replace hHeld := hHeld.resolve_left (by decide)
      have S12 := Lib.hid (lies_one _ 3 (0, 0) : Sl (World.alloc wz3 (.cells #[.int .u64 3] 25)) (some ⟨wz3.heap.size, 0, none⟩) 1 1 [.int .u64 3])
      replace HK := Lib.hid (HK.out.alloc (.cells #[.int .u64 3] 25))
      try simp only [Act.put, List.setIfInBounds_toArray, List.set_cons_zero, List.set_cons_succ]
      replace S16 := Lib.hid (S16.out.quiet ((Keeps.refl _ _).alloc (.cells #[.int .u64 3] 25)))
      generalize (World.alloc wz3 (.cells #[.int .u64 3] 25)) = wz4 at *
      refine z_one 13 rfl (by kernel_rfl) (by rfl) (fun K hK => ?_)
      simp only [List.getElem_toArray, List.getElem_cons_zero, List.getElem_cons_succ]
      go_simp
      refine (of_any (strOf as_) _ 1 1 [3] _ (by rw [strOf_size, HNL.out]; omega) (by omega) S12.out (by intro x hx; simp at hx; subst hx; unfold U64; omega)).mono ?_
      rw [strOf_data, HE.out.2.2.1]
      rintro e wz5 ⟨rfl, hk⟩
      replace HK := Lib.hid (HK.out.quiet hk)
      replace S16 := Lib.hid (S16.out.quiet hk)
      refine hK _ _ (Or.inr ?_) (fun hHeld => ?_)
      · exact ⟨hHeld.1.quiet hk, hHeld.2.quiet hk⟩
      clear hK K hk
      replace hHeld := hHeld.resolve_left (by decide)
      try simp only [Act.put, List.setIfInBounds_toArray, List.set_cons_zero, List.set_cons_succ]
      refine z_one 17 rfl (by kernel_rfl) (by rfl) (fun K hK => ?_)
      simp only [List.getElem_toArray, List.getElem_cons_zero, List.getElem_cons_succ]
      go_simp
      refine (of_any (strOf cs) _ 1 1 [3] _ (by rw [strOf_size, HCS.out.1]; omega) (by omega) S16.out (by intro x hx; simp at hx; subst hx; unfold U64; omega)).mono ?_
      rw [strOf_data, HE.out.2.2.2]
      rintro e wz6 ⟨rfl, hk⟩
      replace HK := Lib.hid (HK.out.quiet hk)
      refine hK _ _ (Or.inr ?_) (fun hHeld => ?_)
      · exact ⟨hHeld.1.quiet hk, hHeld.2.quiet hk⟩
      clear hK K hk
      replace hHeld := hHeld.resolve_left (by decide)
      try simp only [Act.put, List.setIfInBounds_toArray, List.set_cons_zero, List.set_cons_succ]
      refine z_one 18 rfl (by kernel_rfl) (by rfl) (fun K hK => ?_)
      simp only [List.getElem_toArray, List.getElem_cons_zero, List.getElem_cons_succ]
      go_simp
      refine hK _ _ (Or.inr ?_) (fun hHeld => ?_)
      · exact hHeld
      clear hK K
      replace hHeld := hHeld.resolve_left (by decide)
      try simp only [Act.put, List.setIfInBounds_toArray, List.set_cons_zero, List.set_cons_succ]
      refine z_one 20 rfl (by kernel_rfl) (by rfl) (fun K hK => ?_)
      simp only [List.getElem_toArray, List.getElem_cons_zero, List.getElem_cons_succ]
      go_simp
      refine hK _ _ (Or.inr ?_) (fun hHeld => ?_)
      · exact hHeld
      clear hK K
      replace hHeld := hHeld.resolve_left (by decide)
      try simp only [Act.put, List.setIfInBounds_toArray, List.set_cons_zero, List.set_cons_succ]
      refine z_one 21 rfl (by kernel_rfl) (by rfl) (fun K hK => ?_)
      simp only [List.getElem_toArray, List.getElem_cons_zero, List.getElem_cons_succ]
      go_simp
      refine hK _ _ (Or.inr ?_) (fun hHeld => ?_)
      · exact hHeld
      clear hK K
      replace hHeld := hHeld.resolve_left (by decide)
      try simp only [Act.put, List.setIfInBounds_toArray, List.set_cons_zero, List.set_cons_succ]
      refine z_one 22 rfl (by kernel_rfl) (by rfl) (fun K hK => ?_)
      simp only [List.getElem_toArray, List.getElem_cons_zero, List.getElem_cons_succ]
      go_simp
      refine hK _ _ (Or.inr ?_) (fun hHeld => ?_)
      · exact hHeld
      clear hK K
      replace hHeld := hHeld.resolve_left (by decide)
      try simp only [Act.put, List.setIfInBounds_toArray, List.set_cons_zero, List.set_cons_succ]
      refine z_one 23 rfl (by kernel_rfl) (by rfl) (fun K hK => ?_)
      simp only [List.getElem_toArray, List.getElem_cons_zero, List.getElem_cons_succ]
      go_simp
      refine (lives_any _).mono ?_
      rintro e wz7 ⟨rfl, hk⟩
      replace HK := Lib.hid (HK.out.quiet hk)
      refine hK _ _ (Or.inr ?_) (fun hHeld => ?_)
      · exact ⟨hHeld.1.quiet hk, hHeld.2.quiet hk⟩
      clear hK K hk
      replace hHeld := hHeld.resolve_left (by decide)
      try simp only [Act.put, List.setIfInBounds_toArray, List.set_cons_zero, List.set_cons_succ]
      refine z_one 24 rfl (by kernel_rfl) (by rfl) (fun K hK => ?_)
      simp only [List.getElem_toArray, List.getElem_cons_zero, List.getElem_cons_succ]
      go_simp
      refine hK _ _ (Or.inr ?_) (fun hHeld => ?_)
      · exact hHeld
      clear hK K
      replace hHeld := hHeld.resolve_left (by decide)
      try simp only [Act.put, List.setIfInBounds_toArray, List.set_cons_zero, List.set_cons_succ]
      refine z_one 25 rfl (by kernel_rfl) (by rfl) (fun K hK => ?_)
      simp only [List.getElem_toArray, List.getElem_cons_zero, List.getElem_cons_succ]
      go_simp
      refine hK _ _ (Or.inr ?_) (fun hHeld => ?_)
      · exact hHeld
      clear hK K
      replace hHeld := hHeld.resolve_left (by decide)
      try simp only [Act.put, List.setIfInBounds_toArray, List.set_cons_zero, List.set_cons_succ]
      refine z_done (by kernel_rfl) ?_ _
      clear hHeld
      go_wp2
      go_ret
      exact ⟨rfl, HK.out⟩
end Go.Proofs.Ytembkgpecdgpiaa
