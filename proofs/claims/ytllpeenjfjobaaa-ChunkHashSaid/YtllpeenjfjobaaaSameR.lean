/-
  Are two rows of bytes the same (the reference's Same)? Conditions: rows that read as some.
-/
import Derived.Test.YtllpeenjfjobaaaRowsB
import Derived.Test.YtllpeenjfjobaaaRegion
namespace Go.Proofs.Ytllpeenjfjobaaa
open Go.RowKit

theorem strl (a : List UInt8) : (strOf a).toList = a := by rw [ByteArray.toList_eq, strOf_data]
def SrRel (w : World) (a b : List (List UInt8)) (i : Value) (wr : World) : Prop := ∃ k : Nat, i = .int .i64 (k : Int) ∧ k ≤ a.length ∧ a.take k = b.take k ∧ Keeps (fun _ => False) w wr

set_option maxHeartbeats 1000000 in
theorem sameR_any (sa sb : Option Addr) (n m ca cb : Nat) (va vb : List Value) (a b : List (List UInt8)) (w : World) (ha : Sl w sa n ca va) (hra : RowsS w va a) (hb : Sl w sb m cb vb) (hrb : RowsS w vb b) :
    Calls Try.prog 12 #[.slice sa n ca, .slice sb m cb] w fun e w' => e = .returned (.bool (decide (a = b))) ∧ Keeps (fun _ => False) w w' := by
  have hal : a.length = n := by rw [← hra.len]; exact ha.len
  have hbl : b.length = m := by rw [← hrb.len]; exact hb.len
  have hna := Nat.le_trans ha.le ha.capB
  by_cases hnm : n = m
  · subst hnm
    have HA := Lib.hid (And.intro ha (And.intro hb (And.intro hal (And.intro hbl (And.intro hra hrb)))))
    clear ha hb hal hbl hra hrb
    go_enter Try.func12, Try.ntmps12
    go_wp2_with fail
    go_loopw [5] (fun i wr => SrRel w a b i wr) (fun i _ => n - (intOf i).toNat)
    case atStart => exact ⟨0, rfl, Nat.zero_le _, by simp, Keeps.refl _ _⟩
    case round =>
      obtain ⟨k, rfl, hk, he, hkp⟩ := hrel
      have HR := Lib.hid (And.intro hk (And.intro he hkp))
      clear hk he hkp
      by_cases hlt : k < n
      · obtain ⟨c, hc⟩ : ∃ c, a[k]? = some c := ⟨_, List.getElem?_eq_getElem (by have := HA.out.2.2.1; omega)⟩
        obtain ⟨d, hd⟩ : ∃ d, b[k]? = some d := ⟨_, List.getElem?_eq_getElem (by have := HA.out.2.2.2.1; omega)⟩
        obtain ⟨ba, oa, rfl⟩ := HA.out.1.isSome (by omega)
        obtain ⟨bb, ob, rfl⟩ := HA.out.2.1.isSome (by omega)
        obtain ⟨sc, cc, hvc, hsc⟩ := HA.out.2.2.2.2.1.row k c hc
        obtain ⟨sd, cd, hvd, hsd⟩ := HA.out.2.2.2.2.2.row k d hd
        have c1 : wr.cell? ⟨ba, oa + k, none⟩ = some (.slice sc c.length cc) := (HA.out.1.quiet HR.out.2.2).cell hvc
        have c2 : wr.cell? ⟨bb, ob + k, none⟩ = some (.slice sd d.length cd) := (HA.out.2.1.quiet HR.out.2.2).cell hvd
        have c3 := run_strSl (hsc.quiet HR.out.2.2)
        have c4 := run_strSl (hsd.quiet HR.out.2.2)
        have HC := Lib.hid (And.intro hc hd)
        have t0 : (0 : Int) ≤ (k : Int) := by omega
        have t1 : (k : Int) < (n : Int) := by omega
        generalize c.length = lc at *
        generalize d.length = ld at *
        by_cases hcd : c = d
        · have e1 : ((strOf c).toList == (strOf d).toList) = true := by subst hcd; exact beq_self_eq_true _
          have HR2 : Hid (SrRel w a b (.int .i64 ((k : Int) + 1)) wr.drew) := by
            have l1 := (List.getElem?_eq_some_iff.1 HC.out.1).1
            have l2 := (List.getElem?_eq_some_iff.1 HC.out.2).1
            refine ⟨k + 1, rfl, l1, ?_, HR.out.2.2.drew⟩
            rw [List.take_succ_eq_append_getElem l1, List.take_succ_eq_append_getElem l2, HR.out.2.1, (List.getElem?_eq_some_iff.1 HC.out.1).2, (List.getElem?_eq_some_iff.1 HC.out.2).2, hcd]
          clear hcd hc hd hvc hvd c3 c4
          have HSS := Lib.hid (And.intro hsc hsd)
          clear hsc hsd
          go_wp2_with fail
          have z3 := run_strSl ((HSS.out.1.quiet HR.out.2.2).quiet (Keeps.refl _ _).drew)
          have z4 := run_strSl ((HSS.out.2.quiet HR.out.2.2).quiet (Keeps.refl _ _).drew)
          refine z_begin (fun w' => w'.cell? ⟨ba, oa + k, none⟩ = some (.slice sc lc cc) ∧ w'.cell? ⟨bb, ob + k, none⟩ = some (.slice sd ld cd) ∧ (convert 22 9 (.slice sc lc cc)).run Try.prog w' = .ok (.string (strOf c)) w' ∧ (convert 22 9 (.slice sd ld cd)).run Try.prog w' = .ok (.string (strOf d)) w') 11 (by kernel_rfl) ⟨c1, c2, z3, z4⟩ (fun hHeld => ?_)
          refine z_take 0 (v := ?_) rfl (by kernel_rfl) (by kernel_rfl) (by kernel_rfl) (by kernel_rfl) (fun _ _ _ h => h) hHeld (by rfl) (fun w hSw => ?_) ?_
          rotate_left
          · obtain ⟨hSw1, hSw2, hSw3, hSw4⟩ := hSw; simp only [List.getElem_toArray, List.getElem_cons_zero]; go_simp; try rfl
          simp only [Act.put, List.getElem_toArray, List.getElem_cons_zero, List.setIfInBounds_toArray, List.set_cons_zero, List.set_cons_succ]
          refine z_take 1 (v := ?_) rfl (by kernel_rfl) (by kernel_rfl) (by kernel_rfl) (by kernel_rfl) (fun _ _ _ h => h) hHeld (by rfl) (fun w hSw => ?_) ?_
          rotate_left
          · obtain ⟨hSw1, hSw2, hSw3, hSw4⟩ := hSw; simp only [List.getElem_toArray, List.getElem_cons_zero, List.getElem_cons_succ]; go_simp; try rfl
          simp only [Act.put, List.getElem_toArray, List.getElem_cons_zero, List.getElem_cons_succ, List.setIfInBounds_toArray, List.set_cons_zero, List.set_cons_succ]
          refine z_take 2 (v := ?_) rfl (by kernel_rfl) (by kernel_rfl) (by kernel_rfl) (by kernel_rfl) (fun _ _ _ h => h) hHeld (by rfl) (fun w hSw => ?_) ?_
          rotate_left
          · obtain ⟨hSw1, hSw2, hSw3, hSw4⟩ := hSw; simp only [List.getElem_toArray, List.getElem_cons_zero, List.getElem_cons_succ]; go_simp; try rfl
          simp only [Act.put, List.getElem_toArray, List.getElem_cons_zero, List.getElem_cons_succ, List.setIfInBounds_toArray, List.set_cons_zero, List.set_cons_succ]
          refine z_take 3 (v := ?_) rfl (by kernel_rfl) (by kernel_rfl) (by kernel_rfl) (by kernel_rfl) (fun _ _ _ h => h) hHeld (by rfl) (fun w hSw => ?_) ?_
          rotate_left
          · obtain ⟨hSw1, hSw2, hSw3, hSw4⟩ := hSw; simp only [List.getElem_toArray, List.getElem_cons_zero, List.getElem_cons_succ]; go_simp; try rfl
          simp only [Act.put, List.getElem_toArray, List.getElem_cons_zero, List.getElem_cons_succ, List.setIfInBounds_toArray, List.set_cons_zero, List.set_cons_succ]
          refine z_take 4 (v := ?_) rfl (by kernel_rfl) (by kernel_rfl) (by kernel_rfl) (by kernel_rfl) (fun _ _ _ h => h) hHeld (by rfl) (fun w hSw => ?_) ?_
          rotate_left
          · obtain ⟨hSw1, hSw2, hSw3, hSw4⟩ := hSw; simp only [List.getElem_toArray, List.getElem_cons_zero, List.getElem_cons_succ]; go_simp; try rfl
          simp only [Act.put, List.getElem_toArray, List.getElem_cons_zero, List.getElem_cons_succ, List.setIfInBounds_toArray, List.set_cons_zero, List.set_cons_succ]
          refine z_take 5 (v := ?_) rfl (by kernel_rfl) (by kernel_rfl) (by kernel_rfl) (by kernel_rfl) (fun _ _ _ h => h) hHeld (by rfl) (fun w hSw => ?_) ?_
          rotate_left
          · obtain ⟨hSw1, hSw2, hSw3, hSw4⟩ := hSw; simp only [List.getElem_toArray, List.getElem_cons_zero, List.getElem_cons_succ]; go_simp; try rfl
          simp only [Act.put, List.getElem_toArray, List.getElem_cons_zero, List.getElem_cons_succ, List.setIfInBounds_toArray, List.set_cons_zero, List.set_cons_succ]
          refine z_take 6 (v := ?_) rfl (by kernel_rfl) (by kernel_rfl) (by kernel_rfl) (by kernel_rfl) (fun _ _ _ h => h) hHeld (by rfl) (fun w hSw => ?_) ?_
          rotate_left
          · obtain ⟨hSw1, hSw2, hSw3, hSw4⟩ := hSw; simp only [List.getElem_toArray, List.getElem_cons_zero, List.getElem_cons_succ]; go_simp; try rfl
          simp only [Act.put, List.getElem_toArray, List.getElem_cons_zero, List.getElem_cons_succ, List.setIfInBounds_toArray, List.set_cons_zero, List.set_cons_succ]
          refine z_take 7 (v := ?_) rfl (by kernel_rfl) (by kernel_rfl) (by kernel_rfl) (by kernel_rfl) (fun _ _ _ h => h) hHeld (by rfl) (fun w hSw => ?_) ?_
          rotate_left
          · obtain ⟨hSw1, hSw2, hSw3, hSw4⟩ := hSw; simp only [List.getElem_toArray, List.getElem_cons_zero, List.getElem_cons_succ]; go_simp; try rfl
          simp only [Act.put, List.getElem_toArray, List.getElem_cons_zero, List.getElem_cons_succ, List.setIfInBounds_toArray, List.set_cons_zero, List.set_cons_succ]
          refine z_take 8 (v := ?_) rfl (by kernel_rfl) (by kernel_rfl) (by kernel_rfl) (by kernel_rfl) (fun _ _ _ h => h) hHeld (by rfl) (fun w hSw => ?_) ?_
          rotate_left
          · obtain ⟨hSw1, hSw2, hSw3, hSw4⟩ := hSw; simp only [List.getElem_toArray, List.getElem_cons_zero, List.getElem_cons_succ]; go_simp; try rfl
          simp only [Act.put, List.getElem_toArray, List.getElem_cons_zero, List.getElem_cons_succ, List.setIfInBounds_toArray, List.set_cons_zero, List.set_cons_succ]
          refine z_take 9 (v := ?_) rfl (by kernel_rfl) (by kernel_rfl) (by kernel_rfl) (by kernel_rfl) (fun _ _ _ h => h) hHeld (by rfl) (fun w hSw => ?_) ?_
          rotate_left
          · obtain ⟨hSw1, hSw2, hSw3, hSw4⟩ := hSw; simp only [List.getElem_toArray, List.getElem_cons_zero, List.getElem_cons_succ]; go_simp; try rfl
          simp only [Act.put, List.getElem_toArray, List.getElem_cons_zero, List.getElem_cons_succ, List.setIfInBounds_toArray, List.set_cons_zero, List.set_cons_succ]
          refine z_take 10 (v := ?_) rfl (by kernel_rfl) (by kernel_rfl) (by kernel_rfl) (by kernel_rfl) (fun _ _ _ h => h) hHeld (by rfl) (fun w hSw => ?_) ?_
          rotate_left
          · obtain ⟨hSw1, hSw2, hSw3, hSw4⟩ := hSw; simp only [List.getElem_toArray, List.getElem_cons_zero, List.getElem_cons_succ]; go_simp; try rfl
          simp only [Act.put, List.getElem_toArray, List.getElem_cons_zero, List.getElem_cons_succ, List.setIfInBounds_toArray, List.set_cons_zero, List.set_cons_succ]
          refine z_done (by kernel_rfl) ?_ _
          clear hHeld c1 c2 z3 z4
          go_wp2
          go_roundw
          case rel => exact HR2.out
          case measure => simp [intOf]; omega
        · have e1 : ((strOf c).toList == (strOf d).toList) = false := by rw [strl, strl]; exact beq_false_of_ne hcd
          have hne : decide (a = b) = false := by
            simp
            intro h
            subst h
            have := HC.out.1.symm.trans HC.out.2
            exact hcd (Option.some.inj this)
          have HN := Lib.hid hne
          clear hcd hne hc hd hvc hvd c3 c4
          have HSS := Lib.hid (And.intro hsc hsd)
          clear hsc hsd
          go_wp2_with fail
          have z3 := run_strSl ((HSS.out.1.quiet HR.out.2.2).quiet (Keeps.refl _ _).drew)
          have z4 := run_strSl ((HSS.out.2.quiet HR.out.2.2).quiet (Keeps.refl _ _).drew)
          refine z_begin (fun w' => w'.cell? ⟨ba, oa + k, none⟩ = some (.slice sc lc cc) ∧ w'.cell? ⟨bb, ob + k, none⟩ = some (.slice sd ld cd) ∧ (convert 22 9 (.slice sc lc cc)).run Try.prog w' = .ok (.string (strOf c)) w' ∧ (convert 22 9 (.slice sd ld cd)).run Try.prog w' = .ok (.string (strOf d)) w') 11 (by kernel_rfl) ⟨c1, c2, z3, z4⟩ (fun hHeld => ?_)
          refine z_take 0 (v := ?_) rfl (by kernel_rfl) (by kernel_rfl) (by kernel_rfl) (by kernel_rfl) (fun _ _ _ h => h) hHeld (by rfl) (fun w hSw => ?_) ?_
          rotate_left
          · obtain ⟨hSw1, hSw2, hSw3, hSw4⟩ := hSw; simp only [List.getElem_toArray, List.getElem_cons_zero]; go_simp; try rfl
          simp only [Act.put, List.getElem_toArray, List.getElem_cons_zero, List.setIfInBounds_toArray, List.set_cons_zero, List.set_cons_succ]
          refine z_take 1 (v := ?_) rfl (by kernel_rfl) (by kernel_rfl) (by kernel_rfl) (by kernel_rfl) (fun _ _ _ h => h) hHeld (by rfl) (fun w hSw => ?_) ?_
          rotate_left
          · obtain ⟨hSw1, hSw2, hSw3, hSw4⟩ := hSw; simp only [List.getElem_toArray, List.getElem_cons_zero, List.getElem_cons_succ]; go_simp; try rfl
          simp only [Act.put, List.getElem_toArray, List.getElem_cons_zero, List.getElem_cons_succ, List.setIfInBounds_toArray, List.set_cons_zero, List.set_cons_succ]
          refine z_take 2 (v := ?_) rfl (by kernel_rfl) (by kernel_rfl) (by kernel_rfl) (by kernel_rfl) (fun _ _ _ h => h) hHeld (by rfl) (fun w hSw => ?_) ?_
          rotate_left
          · obtain ⟨hSw1, hSw2, hSw3, hSw4⟩ := hSw; simp only [List.getElem_toArray, List.getElem_cons_zero, List.getElem_cons_succ]; go_simp; try rfl
          simp only [Act.put, List.getElem_toArray, List.getElem_cons_zero, List.getElem_cons_succ, List.setIfInBounds_toArray, List.set_cons_zero, List.set_cons_succ]
          refine z_take 3 (v := ?_) rfl (by kernel_rfl) (by kernel_rfl) (by kernel_rfl) (by kernel_rfl) (fun _ _ _ h => h) hHeld (by rfl) (fun w hSw => ?_) ?_
          rotate_left
          · obtain ⟨hSw1, hSw2, hSw3, hSw4⟩ := hSw; simp only [List.getElem_toArray, List.getElem_cons_zero, List.getElem_cons_succ]; go_simp; try rfl
          simp only [Act.put, List.getElem_toArray, List.getElem_cons_zero, List.getElem_cons_succ, List.setIfInBounds_toArray, List.set_cons_zero, List.set_cons_succ]
          refine z_take 4 (v := ?_) rfl (by kernel_rfl) (by kernel_rfl) (by kernel_rfl) (by kernel_rfl) (fun _ _ _ h => h) hHeld (by rfl) (fun w hSw => ?_) ?_
          rotate_left
          · obtain ⟨hSw1, hSw2, hSw3, hSw4⟩ := hSw; simp only [List.getElem_toArray, List.getElem_cons_zero, List.getElem_cons_succ]; go_simp; try rfl
          simp only [Act.put, List.getElem_toArray, List.getElem_cons_zero, List.getElem_cons_succ, List.setIfInBounds_toArray, List.set_cons_zero, List.set_cons_succ]
          refine z_take 5 (v := ?_) rfl (by kernel_rfl) (by kernel_rfl) (by kernel_rfl) (by kernel_rfl) (fun _ _ _ h => h) hHeld (by rfl) (fun w hSw => ?_) ?_
          rotate_left
          · obtain ⟨hSw1, hSw2, hSw3, hSw4⟩ := hSw; simp only [List.getElem_toArray, List.getElem_cons_zero, List.getElem_cons_succ]; go_simp; try rfl
          simp only [Act.put, List.getElem_toArray, List.getElem_cons_zero, List.getElem_cons_succ, List.setIfInBounds_toArray, List.set_cons_zero, List.set_cons_succ]
          refine z_take 6 (v := ?_) rfl (by kernel_rfl) (by kernel_rfl) (by kernel_rfl) (by kernel_rfl) (fun _ _ _ h => h) hHeld (by rfl) (fun w hSw => ?_) ?_
          rotate_left
          · obtain ⟨hSw1, hSw2, hSw3, hSw4⟩ := hSw; simp only [List.getElem_toArray, List.getElem_cons_zero, List.getElem_cons_succ]; go_simp; try rfl
          simp only [Act.put, List.getElem_toArray, List.getElem_cons_zero, List.getElem_cons_succ, List.setIfInBounds_toArray, List.set_cons_zero, List.set_cons_succ]
          refine z_take 7 (v := ?_) rfl (by kernel_rfl) (by kernel_rfl) (by kernel_rfl) (by kernel_rfl) (fun _ _ _ h => h) hHeld (by rfl) (fun w hSw => ?_) ?_
          rotate_left
          · obtain ⟨hSw1, hSw2, hSw3, hSw4⟩ := hSw; simp only [List.getElem_toArray, List.getElem_cons_zero, List.getElem_cons_succ]; go_simp; try rfl
          simp only [Act.put, List.getElem_toArray, List.getElem_cons_zero, List.getElem_cons_succ, List.setIfInBounds_toArray, List.set_cons_zero, List.set_cons_succ]
          refine z_take 8 (v := ?_) rfl (by kernel_rfl) (by kernel_rfl) (by kernel_rfl) (by kernel_rfl) (fun _ _ _ h => h) hHeld (by rfl) (fun w hSw => ?_) ?_
          rotate_left
          · obtain ⟨hSw1, hSw2, hSw3, hSw4⟩ := hSw; simp only [List.getElem_toArray, List.getElem_cons_zero, List.getElem_cons_succ]; go_simp; try rfl
          simp only [Act.put, List.getElem_toArray, List.getElem_cons_zero, List.getElem_cons_succ, List.setIfInBounds_toArray, List.set_cons_zero, List.set_cons_succ]
          refine z_take 9 (v := ?_) rfl (by kernel_rfl) (by kernel_rfl) (by kernel_rfl) (by kernel_rfl) (fun _ _ _ h => h) hHeld (by rfl) (fun w hSw => ?_) ?_
          rotate_left
          · obtain ⟨hSw1, hSw2, hSw3, hSw4⟩ := hSw; simp only [List.getElem_toArray, List.getElem_cons_zero, List.getElem_cons_succ]; go_simp; try rfl
          simp only [Act.put, List.getElem_toArray, List.getElem_cons_zero, List.getElem_cons_succ, List.setIfInBounds_toArray, List.set_cons_zero, List.set_cons_succ]
          refine z_take 10 (v := ?_) rfl (by kernel_rfl) (by kernel_rfl) (by kernel_rfl) (by kernel_rfl) (fun _ _ _ h => h) hHeld (by rfl) (fun w hSw => ?_) ?_
          rotate_left
          · obtain ⟨hSw1, hSw2, hSw3, hSw4⟩ := hSw; simp only [List.getElem_toArray, List.getElem_cons_zero, List.getElem_cons_succ]; go_simp; try rfl
          simp only [Act.put, List.getElem_toArray, List.getElem_cons_zero, List.getElem_cons_succ, List.setIfInBounds_toArray, List.set_cons_zero, List.set_cons_succ]
          refine z_done (by kernel_rfl) ?_ _
          clear hHeld c1 c2 z3 z4
          go_wp2
          go_ret
          exact ⟨by rw [HN.out]; rfl, HR.out.2.2.drew⟩
      · have heq : decide (a = b) = true := by
          have h1 := HR.out.2.1
          rw [List.take_of_length_le (by have := HA.out.2.2.1; omega), List.take_of_length_le (by have := HA.out.2.2.2.1; omega)] at h1
          simpa using h1
        have HN := Lib.hid heq
        have t1 : ¬ (k : Int) < (n : Int) := by omega
        clear heq
        go_wp2
        go_ret
        exact ⟨by rw [HN.out]; rfl, HR.out.2.2⟩
  · have hne : decide (a = b) = false := by
      simp
      intro h
      subst h
      omega
    have HN := Lib.hid hne
    have e1 : ((n : Int) != (m : Int)) = true := by simp; omega
    clear hne ha hb hal hbl hra hrb
    go_enter Try.func12, Try.ntmps12
    go_wp2
    go_ret
    exact ⟨by rw [HN.out]; rfl, Keeps.refl _ _⟩
end Go.Proofs.Ytllpeenjfjobaaa
