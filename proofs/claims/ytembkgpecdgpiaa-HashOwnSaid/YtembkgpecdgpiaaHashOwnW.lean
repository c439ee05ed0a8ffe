/-
  The law HashOwn: the walk. Conditions: the arguments are what came in.
-/
import Derived.Test.YtembkgpecdgpiaaLives02
import Derived.Test.YtembkgpecdgpiaaNums
import Derived.Test.YtembkgpecdgpiaaFew
import Derived.Test.YtembkgpecdgpiaaBytes
import Derived.Test.YtembkgpecdgpiaaRefStream
import Derived.Test.YtembkgpecdgpiaaSame
import Derived.Test.YtembkgpecdgpiaaOpen
namespace Go.Proofs.Ytembkgpecdgpiaa
open Go.RowKit

/-- The stream's bytes are written over. -/
def OwRel (ws : World) (gc cc base : Nat) (i : Value) (wr : World) : Prop := ∃ (k : Nat) (xs : List Value), k ≤ 20 ∧ i = .int .i64 (k : Int) ∧ wr.ownsRow base 5 1 (.slice (some ⟨gc, 0, none⟩) 20 cc) 20 xs ∧ Keeps (fun j => j = gc) ws wr
def OnRel (w : World) (na : Nat) (i : Value) (wr : World) : Prop := ∃ k : Nat, k ≤ na ∧ i = .int .i64 (k : Int) ∧ Keeps (fun _ => False) w wr

set_option maxHeartbeats 1000000 in
set_option maxRecDepth 10000 in
theorem hashOwn_walk (sa : Option Addr) (n cap : Nat) (l : List Nat) (sb : Option Addr) (m cb : Nat) (l2 : List UInt8) (key : Nat) (w : World) (hl : Sl w sa n cap (NV l)) (hu : ∀ x ∈ l, U64 x) (hl2 : Sl w sb m cb (BV l2)) (hkey : U64 key) :
    Calls Try.prog 9 #[.slice sa n cap, .slice sb m cb, .int .u64 key] w fun e w' => e = .returned (.bool true) ∧ Keeps (fun _ => False) w w' := by
  have Sx := Lib.hid hl
  have Sy := Lib.hid hl2
  have HU := Lib.hid (And.intro hu hkey)
  have hll : l.length = n := by have := hl.len; simpa using this
  have hnn := Nat.le_trans hl.le hl.capB
  clear hl hl2 hu hkey
  go_enter Try.func9, Try.ntmps9
  have HK := Lib.hid (Keeps.refl (fun _ => False) w)
  go_wp2_with fail
  refine (nums_any sa n cap 6 l w Sx.out (by omega)).mono ?_
  rintro e w1 ⟨saa, caa, rfl, hown, hk⟩
  replace HK := Lib.hid (HK.out.quiet hk)
  replace Sx := Lib.hid (Sx.out.quiet hk)
  replace Sy := Lib.hid (Sy.out.quiet hk)
  have Oa := Lib.hid hown
  have Sa := Lib.hid (Sl.of_own hown)
  clear hown hk
  have HU2 : Hid (∀ x ∈ l.take 6, U64 x) := fun x hx => HU.out.1 x (List.mem_of_mem_take hx)
  obtain ⟨ns, hns⟩ : ∃ ns, l.take 6 = ns := ⟨_, rfl⟩
  obtain ⟨na, hlna⟩ : ∃ na, ns.length = na := ⟨_, rfl⟩
  have hna : na ≤ 6 ∧ na ≤ n := by rw [← hlna, ← hns, List.length_take]; omega
  rw [hns, hlna] at Sa ⊢
  rw [hns] at HU2
  have HLA := Lib.hid (And.intro hlna hns)
  clear hlna hns hll Oa
  go_wp2_with fail
  refine (few_any sb m cb 30 l2 w1 Sy.out (by omega)).mono ?_
  rintro e w2 ⟨sab, cab, rfl, hown, hk⟩
  replace HK := Lib.hid (HK.out.quiet hk)
  replace Sx := Lib.hid (Sx.out.quiet hk)
  replace Sy := Lib.hid (Sy.out.quiet hk)
  replace Sa := Lib.hid (Sa.out.quiet hk)
  have Ob := Lib.hid hown
  have Sb := Lib.hid (Sl.of_own hown)
  clear hown hk
  have hnf : (l2.take 30).length ≤ 30 := by rw [List.length_take]; omega
  obtain ⟨lf, hlf⟩ : ∃ lf, l2.take 30 = lf := ⟨_, rfl⟩
  obtain ⟨nf, hlnf⟩ : ∃ nf, lf.length = nf := ⟨_, rfl⟩
  rw [hlf, hlnf] at Sb ⊢
  rw [hlf, hlnf] at hnf
  have HLF := Lib.hid (And.intro hlnf hlf)
  clear hlnf hlf Ob
  obtain ⟨x1, hx1⟩ : ∃ x1, hof [111, 119, 110] ns = x1 := ⟨_, rfl⟩
  obtain ⟨x2, hx2⟩ : ∃ x2, hby [111, 119, 110] lf = x2 := ⟨_, rfl⟩
  have HE := Lib.hid (And.intro hx1 hx2)
  clear hx1 hx2
  go_wp2_with fail
  refine (of_any ⟨#[111, 119, 110]⟩ saa na caa ns w2 (by decide) (by omega) Sa.out HU2.out).mono ?_
  rw [show hof (⟨#[111, 119, 110]⟩ : ByteArray).data.toList ns = x1 from HE.out.1]
  rintro e w3 ⟨rfl, hk⟩
  replace HK := Lib.hid (HK.out.quiet hk)
  replace Sx := Lib.hid (Sx.out.quiet hk)
  replace Sy := Lib.hid (Sy.out.quiet hk)
  replace Sa := Lib.hid (Sa.out.quiet hk)
  replace Sb := Lib.hid (Sb.out.quiet hk)
  clear hk
  go_wp2_with fail
  refine (bytes_any ⟨#[111, 119, 110]⟩ sab nf cab lf w3 (by decide) (by omega) Sb.out).mono ?_
  rw [show hby (⟨#[111, 119, 110]⟩ : ByteArray).data.toList lf = x2 from HE.out.2]
  rintro e w4 ⟨rfl, hk⟩
  replace HK := Lib.hid (HK.out.quiet hk)
  replace Sx := Lib.hid (Sx.out.quiet hk)
  replace Sy := Lib.hid (Sy.out.quiet hk)
  replace Sa := Lib.hid (Sa.out.quiet hk)
  replace Sb := Lib.hid (Sb.out.quiet hk)
  clear hk
  have hlow : ∀ ad : Addr, ad.block < w4.heap.size → ∀ g, w4.heap.size ≤ g → ¬ ad.block = g := fun ad h g h' e => by omega
  have HWB := Lib.hid HK.out.size
  clear hlow
  have PSx := Lib.hid Sx.out
  have PSy := Lib.hid Sy.out
  have PSa := Lib.hid Sa.out
  have PSb := Lib.hid Sb.out
  go_wp2_with fail
  refine (stream_any key 20 w4 HU.out.2 (by omega)).mono ?_
  rintro e w5 ⟨sac, cac, rfl, hown, hk⟩
  replace HK := Lib.hid (HK.out.quiet hk)
  replace Sx := Lib.hid (Sx.out.quiet hk)
  replace Sy := Lib.hid (Sy.out.quiet hk)
  replace Sa := Lib.hid (Sa.out.quiet hk)
  replace Sb := Lib.hid (Sb.out.quiet hk)
  have Oc := Lib.hid hown
  clear hown hk
  obtain ⟨gc, rfl⟩ : ∃ gc, sac = some ⟨gc, 0, none⟩ := by
    rcases own_addr Oc.out with ⟨_, h, _⟩ | h
    · omega
    · exact h
  have hgc := (own_lt Oc.out rfl).1
  go_wp2_with fail
  go_loopw [12] (fun i wr => OwRel w5 gc cac w4.heap.size i wr) (fun i _ => 20 - (intOf i).toNat)
  case atStart => exact ⟨0, _, by omega, rfl, Oc.out, Keeps.refl _ _⟩
  case round =>
    obtain ⟨k, xs, hk, rfl, hown, hkp⟩ := hrel
    by_cases hlt : k < 20
    · have hxl : xs.length = 20 := by have := hown.1; simpa using this
      obtain ⟨u, hu⟩ : ∃ u, xs[k]? = some u := ⟨_, List.getElem?_eq_getElem (by omega)⟩
      have c1 := own_cell hown k u hu
      have f1 := own_free hown k
      have HR : Hid (OwRel w5 gc cac w4.heap.size (.int .i64 ((k : Int) + 1)) (wr.setCell ⟨gc, k, none⟩ (.int .u8 7))) := ⟨k + 1, _, by omega, rfl, own_set hown k _, hkp.setCell (p := ⟨gc, k, none⟩) (fun _ => rfl) _⟩
      have t1 : (k : Int) < 20 := by omega
      clear hown hkp hu hxl
      go_wp2
      go_roundw
      case rel => exact HR.out
      case measure => simp [intOf]; omega
    · obtain rfl : k = 20 := by omega
      replace Sx := Lib.hid (Sx.out.keep hkp (fun ad e h0 _ h => by have := blk_lt PSx.out e h0; omega))
      replace Sy := Lib.hid (Sy.out.keep hkp (fun ad e h0 _ h => by have := blk_lt PSy.out e h0; omega))
      replace Sa := Lib.hid (Sa.out.keep hkp (fun ad e h0 _ h => by have := blk_lt PSa.out e h0; omega))
      replace Sb := Lib.hid (Sb.out.keep hkp (fun ad e h0 _ h => by have := blk_lt PSb.out e h0; omega))
      replace HK := Lib.hid (HK.out.trans hkp (fun j hj h => by have := HWB.out; omega))
      clear hown hkp hlt hk Oc
      obtain ⟨wq, hwq⟩ : ∃ wq : World, wr = wq := ⟨_, rfl⟩
      rw [hwq] at HK Sx Sy Sa Sb ⊢
      clear hwq wr xs
      go_wp2_with fail
      go_loopw [13] (fun i wr => OnRel wq na i wr) (fun i _ => na - (intOf i).toNat)
      case atStart => exact ⟨0, Nat.zero_le _, rfl, Keeps.refl _ _⟩
      case round =>
        obtain ⟨k, hk, rfl, hkp⟩ := hrel
        have HB := Lib.hid hkp
        by_cases hlt : k < na
        · obtain ⟨x, hx⟩ : ∃ x, ns[k]? = some x := ⟨_, List.getElem?_eq_getElem (by have := HLA.out.1; omega)⟩
          have hx2 : l[k]? = some x := by
            have h5 := hx
            rw [← HLA.out.2, List.getElem?_take] at h5
            split at h5
            · exact h5
            · cases h5
          obtain ⟨ba, oa, rfl⟩ := Sa.out.isSome (by omega)
          obtain ⟨bx, ox, rfl⟩ := Sx.out.isSome (by omega)
          have c1 : wr.cell? ⟨ba, oa + k, none⟩ = some (.int .u64 (x : Int)) := (Sa.out.quiet hkp).cell (by rw [NV_get, hx]; rfl)
          have c2 : wr.cell? ⟨bx, ox + k, none⟩ = some (.int .u64 (x : Int)) := (Sx.out.quiet hkp).cell (by rw [NV_get, hx2]; rfl)
          clear hkp hx hx2
          have t0 : (0 : Int) ≤ (k : Int) := by omega
          have t1 : (k : Int) < (na : Int) := by omega
          have t2 : (k : Int) < (n : Int) := by omega
          have e1 : ((x : Int) != (x : Int)) = false := by simp
          have HR : Hid (OnRel wq na (.int .i64 ((k : Int) + 1)) wr.drew) := ⟨k + 1, by omega, rfl, HB.out.drew⟩
          go_wp2_with fail
          refine z_begin (fun w' => w'.cell? ⟨ba, oa + k, none⟩ = some (.int .u64 (x : Int)) ∧ w'.cell? ⟨bx, ox + k, none⟩ = some (.int .u64 (x : Int))) 9 (by kernel_rfl) ⟨c1, c2⟩ (fun hHeld => ?_)
          refine z_take 0 (v := ?_) rfl (by kernel_rfl) (by kernel_rfl) (by kernel_rfl) (by kernel_rfl) (fun _ _ _ h => h) hHeld (by rfl) (fun w hSw => ?_) ?_
          rotate_left
          · obtain ⟨hSw1, hSw2⟩ := hSw; simp only [List.getElem_toArray, List.getElem_cons_zero]; go_simp; try rfl
          simp only [Act.put, List.getElem_toArray, List.getElem_cons_zero, List.setIfInBounds_toArray, List.set_cons_zero, List.set_cons_succ]
          refine z_take 1 (v := ?_) rfl (by kernel_rfl) (by kernel_rfl) (by kernel_rfl) (by kernel_rfl) (fun _ _ _ h => h) hHeld (by rfl) (fun w hSw => ?_) ?_
          rotate_left
          · obtain ⟨hSw1, hSw2⟩ := hSw; simp only [List.getElem_toArray, List.getElem_cons_zero, List.getElem_cons_succ]; go_simp; try rfl
          simp only [Act.put, List.getElem_toArray, List.getElem_cons_zero, List.getElem_cons_succ, List.setIfInBounds_toArray, List.set_cons_zero, List.set_cons_succ]
          refine z_take 2 (v := ?_) rfl (by kernel_rfl) (by kernel_rfl) (by kernel_rfl) (by kernel_rfl) (fun _ _ _ h => h) hHeld (by rfl) (fun w hSw => ?_) ?_
          rotate_left
          · obtain ⟨hSw1, hSw2⟩ := hSw; simp only [List.getElem_toArray, List.getElem_cons_zero, List.getElem_cons_succ]; go_simp; try rfl
          simp only [Act.put, List.getElem_toArray, List.getElem_cons_zero, List.getElem_cons_succ, List.setIfInBounds_toArray, List.set_cons_zero, List.set_cons_succ]
          refine z_take 3 (v := ?_) rfl (by kernel_rfl) (by kernel_rfl) (by kernel_rfl) (by kernel_rfl) (fun _ _ _ h => h) hHeld (by rfl) (fun w hSw => ?_) ?_
          rotate_left
          · obtain ⟨hSw1, hSw2⟩ := hSw; simp only [List.getElem_toArray, List.getElem_cons_zero, List.getElem_cons_succ]; go_simp; try rfl
          simp only [Act.put, List.getElem_toArray, List.getElem_cons_zero, List.getElem_cons_succ, List.setIfInBounds_toArray, List.set_cons_zero, List.set_cons_succ]
          refine z_take 4 (v := ?_) rfl (by kernel_rfl) (by kernel_rfl) (by kernel_rfl) (by kernel_rfl) (fun _ _ _ h => h) hHeld (by rfl) (fun w hSw => ?_) ?_
          rotate_left
          · obtain ⟨hSw1, hSw2⟩ := hSw; simp only [List.getElem_toArray, List.getElem_cons_zero, List.getElem_cons_succ]; go_simp; try rfl
          simp only [Act.put, List.getElem_toArray, List.getElem_cons_zero, List.getElem_cons_succ, List.setIfInBounds_toArray, List.set_cons_zero, List.set_cons_succ]
          refine z_take 5 (v := ?_) rfl (by kernel_rfl) (by kernel_rfl) (by kernel_rfl) (by kernel_rfl) (fun _ _ _ h => h) hHeld (by rfl) (fun w hSw => ?_) ?_
          rotate_left
          · obtain ⟨hSw1, hSw2⟩ := hSw; simp only [List.getElem_toArray, List.getElem_cons_zero, List.getElem_cons_succ]; go_simp; try rfl
          simp only [Act.put, List.getElem_toArray, List.getElem_cons_zero, List.getElem_cons_succ, List.setIfInBounds_toArray, List.set_cons_zero, List.set_cons_succ]
          refine z_take 6 (v := ?_) rfl (by kernel_rfl) (by kernel_rfl) (by kernel_rfl) (by kernel_rfl) (fun _ _ _ h => h) hHeld (by rfl) (fun w hSw => ?_) ?_
          rotate_left
          · obtain ⟨hSw1, hSw2⟩ := hSw; simp only [List.getElem_toArray, List.getElem_cons_zero, List.getElem_cons_succ]; go_simp; try rfl
          simp only [Act.put, List.getElem_toArray, List.getElem_cons_zero, List.getElem_cons_succ, List.setIfInBounds_toArray, List.set_cons_zero, List.set_cons_succ]
          refine z_take 7 (v := ?_) rfl (by kernel_rfl) (by kernel_rfl) (by kernel_rfl) (by kernel_rfl) (fun _ _ _ h => h) hHeld (by rfl) (fun w hSw => ?_) ?_
          rotate_left
          · obtain ⟨hSw1, hSw2⟩ := hSw; simp only [List.getElem_toArray, List.getElem_cons_zero, List.getElem_cons_succ]; go_simp; try rfl
          simp only [Act.put, List.getElem_toArray, List.getElem_cons_zero, List.getElem_cons_succ, List.setIfInBounds_toArray, List.set_cons_zero, List.set_cons_succ]
          refine z_take 8 (v := ?_) rfl (by kernel_rfl) (by kernel_rfl) (by kernel_rfl) (by kernel_rfl) (fun _ _ _ h => h) hHeld (by rfl) (fun w hSw => ?_) ?_
          rotate_left
          · obtain ⟨hSw1, hSw2⟩ := hSw; simp only [List.getElem_toArray, List.getElem_cons_zero, List.getElem_cons_succ]; go_simp; try rfl
          simp only [Act.put, List.getElem_toArray, List.getElem_cons_zero, List.getElem_cons_succ, List.setIfInBounds_toArray, List.set_cons_zero, List.set_cons_succ]
          refine z_done (by kernel_rfl) ?_ _
          clear hHeld c1 c2
          go_wp2
          go_roundw
          case rel => exact HR.out
          case measure => simp [intOf]; omega
        · obtain rfl : k = na := by omega
          replace HK := Lib.hid (HK.out.quiet hkp)
          replace Sx := Lib.hid (Sx.out.quiet hkp)
          replace Sy := Lib.hid (Sy.out.quiet hkp)
          replace Sa := Lib.hid (Sa.out.quiet hkp)
          replace Sb := Lib.hid (Sb.out.quiet hkp)
          clear hkp hk hlt HB Sx
          go_wp2_with fail
          refine (few_any sb m cb 30 l2 wr Sy.out (by omega)).mono ?_
          rintro e w6 ⟨sad, cad, rfl, hown, hk⟩
          replace HK := Lib.hid (HK.out.quiet hk)
          replace Sy := Lib.hid (Sy.out.quiet hk)
          replace Sa := Lib.hid (Sa.out.quiet hk)
          replace Sb := Lib.hid (Sb.out.quiet hk)
          have Od := Lib.hid hown
          have Sd := Lib.hid (Sl.of_own hown)
          clear hown hk
          rw [HLF.out.2, HLF.out.1] at Sd Od
          rw [HLF.out.2, HLF.out.1]
          clear Od
          go_wp2_with fail
          refine (same_any sab sad nf nf cab cad lf lf w6 Sb.out Sd.out).mono ?_
          rw [show decide (lf = lf) = true by simp]
          rintro e w7 ⟨rfl, hk⟩
          replace HK := Lib.hid (HK.out.quiet hk)
          replace Sy := Lib.hid (Sy.out.quiet hk)
          replace Sa := Lib.hid (Sa.out.quiet hk)
          replace Sb := Lib.hid (Sb.out.quiet hk)
          replace Sd := Lib.hid (Sd.out.quiet hk)
          clear hk
          go_wp2_with fail
          refine (of_any ⟨#[111, 119, 110]⟩ saa k caa ns w7 (by decide) (by omega) Sa.out HU2.out).mono ?_
          rw [show hof (⟨#[111, 119, 110]⟩ : ByteArray).data.toList ns = x1 from HE.out.1]
          rintro e w8 ⟨rfl, hk⟩
          replace HK := Lib.hid (HK.out.quiet hk)
          replace Sy := Lib.hid (Sy.out.quiet hk)
          replace Sa := Lib.hid (Sa.out.quiet hk)
          replace Sb := Lib.hid (Sb.out.quiet hk)
          replace Sd := Lib.hid (Sd.out.quiet hk)
          clear hk
          go_wp2_with fail
          refine (bytes_any ⟨#[111, 119, 110]⟩ sab nf cab lf w8 (by decide) (by omega) Sb.out).mono ?_
          rw [show hby (⟨#[111, 119, 110]⟩ : ByteArray).data.toList lf = x2 from HE.out.2]
          rintro e w9 ⟨rfl, hk⟩
          replace HK := Lib.hid (HK.out.quiet hk)
          replace Sy := Lib.hid (Sy.out.quiet hk)
          replace Sa := Lib.hid (Sa.out.quiet hk)
          replace Sb := Lib.hid (Sb.out.quiet hk)
          replace Sd := Lib.hid (Sd.out.quiet hk)
          clear hk
          go_wp2_with fail
          refine (stream_any key 20 w9 HU.out.2 (by omega)).mono ?_
          rintro e w10 ⟨sae, cae, rfl, hown, hk⟩
          replace HK := Lib.hid (HK.out.quiet hk)
          replace Sy := Lib.hid (Sy.out.quiet hk)
          replace Sa := Lib.hid (Sa.out.quiet hk)
          replace Sb := Lib.hid (Sb.out.quiet hk)
          replace Sd := Lib.hid (Sd.out.quiet hk)
          have Oe := Lib.hid hown
          have Se := Lib.hid (Sl.of_own hown)
          clear hown hk
          go_wp2_with fail
          refine (refStream_any key 20 w10 HU.out.2 (by omega)).mono ?_
          rintro e w11 ⟨saf, caf, rfl, hown, hk⟩
          replace HK := Lib.hid (HK.out.quiet hk)
          replace Sy := Lib.hid (Sy.out.quiet hk)
          replace Sa := Lib.hid (Sa.out.quiet hk)
          replace Sb := Lib.hid (Sb.out.quiet hk)
          replace Sd := Lib.hid (Sd.out.quiet hk)
          replace Se := Lib.hid (Se.out.quiet hk)
          replace Oe := Lib.hid (own_keep Oe.out hk (fun _ _ h => h))
          have Of := Lib.hid hown
          have Sf := Lib.hid (Sl.of_own hown)
          clear hown hk
          go_wp2_with fail
          refine (same_any sae saf 20 20 cae caf _ _ w11 Se.out Sf.out).mono ?_
          rw [show decide (stream key 20 = stream key 20) = true by simp]
          rintro e w12 ⟨rfl, hk⟩
          replace HK := Lib.hid (HK.out.quiet hk)
          replace Sy := Lib.hid (Sy.out.quiet hk)
          replace Sa := Lib.hid (Sa.out.quiet hk)
          replace Sb := Lib.hid (Sb.out.quiet hk)
          replace Sd := Lib.hid (Sd.out.quiet hk)
          replace Se := Lib.hid (Se.out.quiet hk)
          replace Oe := Lib.hid (own_keep Oe.out hk (fun _ _ h => h))
          replace Sf := Lib.hid (Sf.out.quiet hk)
          replace Of := Lib.hid (own_keep Of.out hk (fun _ _ h => h))
          clear hk
          go_wp2_with fail
          refine (lives_any w12).mono ?_
          rintro e w13 ⟨rfl, hk⟩
          replace HK := Lib.hid (HK.out.quiet hk)
          replace Sy := Lib.hid (Sy.out.quiet hk)
          replace Sa := Lib.hid (Sa.out.quiet hk)
          replace Sb := Lib.hid (Sb.out.quiet hk)
          replace Sd := Lib.hid (Sd.out.quiet hk)
          replace Se := Lib.hid (Se.out.quiet hk)
          replace Oe := Lib.hid (own_keep Oe.out hk (fun _ _ h => h))
          replace Sf := Lib.hid (Sf.out.quiet hk)
          replace Of := Lib.hid (own_keep Of.out hk (fun _ _ h => h))
          clear hk
          go_wp2
          go_ret
          exact ⟨rfl, HK.out⟩
end Go.Proofs.Ytembkgpecdgpiaa
