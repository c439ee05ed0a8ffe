/-
  The law HashWords: the walk. Conditions: the arguments are what came in.
-/
import Derived.Test.YtembkgpecdgpiaaLives02
import Derived.Test.YtembkgpecdgpiaaShort
import Derived.Test.YtembkgpecdgpiaaFew
import Derived.Test.YtembkgpecdgpiaaRefBytes
import Derived.Test.YtembkgpecdgpiaaHashOnto
import Derived.Test.YtembkgpecdgpiaaRegion
import Derived.Test.YtembkgpecdgpiaaOpen
namespace Go.Proofs.Ytembkgpecdgpiaa
open Go.RowKit

theorem ok_any (x : Nat) (w : World) (h : x < 2305843009213693951) : Calls Try.prog 26 #[.int .u64 x] w fun e w' => e = .returned (.bool true) ∧ w = w' := by
  have i1 : (x : Int) < 2305843009213693951 := by omega
  go_enter Try.func26, Try.ntmps26
  go_wp2
  go_ret
  exact ⟨rfl, rfl⟩
def WkRel (w : World) (na : Nat) (i : Value) (wr : World) : Prop := ∃ k : Nat, k ≤ na ∧ i = .int .i64 (k : Int) ∧ Keeps (fun _ => False) w wr

set_option maxHeartbeats 1000000 in
set_option maxRecDepth 10000 in
theorem hashWords_walk (s : ByteArray) (sa : Option Addr) (n cap : Nat) (l : List UInt8) (w : World) (hl : Sl w sa n cap (BV l)) :
    Calls Try.prog 10 #[.string s, .slice sa n cap] w fun e w' => e = .returned (.bool true) ∧ Keeps (fun _ => False) w w' := by
  have Sx := Lib.hid hl
  clear hl
  go_enter Try.func10, Try.ntmps10
  have HK := Lib.hid (Keeps.refl (fun _ => False) w)
  go_wp2_with fail
  refine (short_any s 20 w).mono ?_
  rintro e _ ⟨rfl, rfl⟩
  have hsz := shortOf_size s 20
  generalize shortOf s 20 = t at *
  go_wp2_with fail
  refine (few_any sa n cap 40 l w Sx.out (by omega)).mono ?_
  rintro e w1 ⟨saa, caa, rfl, hown, hk⟩
  replace HK := Lib.hid (HK.out.quiet hk)
  replace Sx := Lib.hid (Sx.out.quiet hk)
  have Oa := Lib.hid hown
  have Sa := Lib.hid (Sl.of_own hown)
  clear hown hk
  have hnf : (l.take 40).length ≤ 40 := by rw [List.length_take]; omega
  generalize l.take 40 = lf at *
  obtain ⟨nf, hlnf⟩ : ∃ nf, lf.length = nf := ⟨_, rfl⟩
  rw [hlnf] at hnf Sa ⊢
  have HLF := Lib.hid hlnf
  have HSW := Lib.hid HK.out.size
  have HAB : Hid (∀ ad : Addr, saa = some ad → 0 < nf → ad.block < w1.heap.size) := fun ad e h0 => by
    rcases own_addr Oa.out with ⟨rfl, _⟩ | ⟨g, rfl⟩
    · cases e
    · cases e; exact (own_lt Oa.out rfl).2
  clear hlnf Oa Sx
  go_wp2_with fail
  refine (refWords_any saa nf caa lf w1 Sa.out (by omega)).mono ?_
  rintro e w2 ⟨sab, cab, rfl, hown, hk⟩
  have HKQ := Lib.hid hk.size
  replace HK := Lib.hid (HK.out.quiet hk)
  replace Sa := Lib.hid (Sa.out.quiet hk)
  have Ob := Lib.hid hown
  clear hown hk
  obtain ⟨nw, hnw⟩ : ∃ nw, (wordsOf lf).length = nw := ⟨_, rfl⟩
  rw [hnw] at Ob ⊢
  have hnwb : nw ≤ 6 := by rw [← hnw, wordsOf_length]; have := HLF.out; omega
  have HNW := Lib.hid hnw
  have hszw : w1.heap.size ≤ w2.heap.size := HKQ.out
  have hwn : IntKind.u64.wrap (nf : Int) = (nf : Int) := wrap_nat _ _ rfl (by omega)
  clear hnw
  go_wp2_with (at_builtin; refine wpList_pushN _ (nf : Int) rfl _ _ rfl w1.heap.size sab nw cab (NV (wordsOf lf)) rfl Ob.out rfl (by omega) hszw ?_; intro sac cac w3 hown3 hk3 hs3; have H3 := Lib.hid (And.intro hown3 hk3); clear hown3 hk3)
  obtain ⟨ns, hns⟩ : ∃ ns, wordsOf lf ++ [nf] = ns := ⟨_, rfl⟩
  have hnl : ns.length = nw + 1 := by rw [← hns, List.length_append, HNW.out]; rfl
  have hub : ∀ x ∈ ns, x < 72057594037927936 := by
    intro x hx
    rw [← hns] at hx
    rcases List.mem_append.1 hx with h | h
    · exact wordsOf_lt lf x h
    · simp at h; omega
  have Oc : Hid (w3.ownsRow w1.heap.size 25 1 (.slice sac (nw + 1) cac) (nw + 1) (NV ns)) := by rw [← hns, NV_append]; exact H3.out.1
  obtain ⟨gn, rfl⟩ : ∃ gn, sac = some ⟨gn, 0, none⟩ := by
    rcases own_addr Oc.out with ⟨_, h, _⟩ | h
    · omega
    · exact h
  have Sc := Lib.hid (Sl.of_own Oc.out)
  have HNE : Hid (∀ k, sab = some ⟨k, 0, none⟩ → w1.heap.size ≤ k) := fun k e => (own_lt Ob.out e).1
  have hfe : hby t.data.toList lf = hof t.data.toList ns := by unfold hby; rw [HLF.out, hns]
  replace HK := Lib.hid (HK.out.trans H3.out.2 (fun j hj e => by have := HNE.out _ e; have := HSW.out; omega))
  replace Sa : Hid (Sl w3 saa nf caa (BV lf)) := Sa.out.keep H3.out.2 (fun ad e h0 hlt h => by
    cases e
    have h5 := HNE.out _ h
    have h6 := HAB.out _ rfl h0
    omega)
  have HN := Lib.hid (And.intro hnl (And.intro hub hfe))
  clear hnl hub hns hfe H3 hs3 Ob hwn hszw
  go_wp2_with fail
  go_loopw [8] (fun i wr => WkRel w3 (nw + 1) i wr) (fun i _ => nw + 1 - (intOf i).toNat)
  case atStart => exact ⟨0, Nat.zero_le _, rfl, Keeps.refl _ _⟩
  case round =>
    obtain ⟨k, hk, rfl, hkp⟩ := hrel
    have HB := Lib.hid hkp
    by_cases hlt : k < nw + 1
    · obtain ⟨x, hx⟩ : ∃ x, ns[k]? = some x := ⟨_, List.getElem?_eq_getElem (by have := HN.out.1; omega)⟩
      have hcell : wr.cell? ⟨gn, k, none⟩ = some (.int .u64 (x : Int)) := by have := (Sc.out.quiet hkp).cell (j := k) (u := .int .u64 (x : Int)) (by rw [NV_get, hx]; rfl); rwa [Nat.zero_add] at this
      have hxb := HN.out.2.1 x (List.mem_of_getElem? hx)
      clear hkp hx
      have t0 : (0 : Int) ≤ (k : Int) := by omega
      have t1 : (k : Int) < (nw : Int) + 1 := by omega
      have t2 : (k : Int) < ((nw + 1 : Nat) : Int) := by omega
      have hnx : num x = x := num_of_lt (by omega)
      have HNX := Lib.hid hnx
      clear hnx
      have e1 : ((x : Int) != (x : Int)) = false := by simp
      have HR : Hid (WkRel w3 (nw + 1) (.int .i64 ((k : Int) + 1)) wr.drew) := ⟨k + 1, by omega, rfl, HB.out.drew⟩
      go_wp2_with fail
      refine z_begin (fun w' => w'.cell? ⟨gn, k, none⟩ = some (.int .u64 (x : Int))) 18 (by kernel_rfl) (hcell) (fun hHeld => ?_)
      refine z_take 0 (v := ?_) rfl (by kernel_rfl) (by kernel_rfl) (by kernel_rfl) (by kernel_rfl) (fun _ _ _ h => h) hHeld (by rfl) (fun w hSw => ?_) ?_
      rotate_left
      · have hSw1 := hSw; clear hSw; simp only [List.getElem_toArray, List.getElem_cons_zero]; go_simp; try rfl
      simp only [Act.put, List.getElem_toArray, List.getElem_cons_zero, List.setIfInBounds_toArray, List.set_cons_zero, List.set_cons_succ]
      refine z_take 1 (v := ?_) rfl (by kernel_rfl) (by kernel_rfl) (by kernel_rfl) (by kernel_rfl) (fun _ _ _ h => h) hHeld (by rfl) (fun w hSw => ?_) ?_
      rotate_left
      · have hSw1 := hSw; clear hSw; simp only [List.getElem_toArray, List.getElem_cons_zero, List.getElem_cons_succ]; go_simp; try rfl
      simp only [Act.put, List.getElem_toArray, List.getElem_cons_zero, List.getElem_cons_succ, List.setIfInBounds_toArray, List.set_cons_zero, List.set_cons_succ]
      refine z_take 2 (v := ?_) rfl (by kernel_rfl) (by kernel_rfl) (by kernel_rfl) (by kernel_rfl) (fun _ _ _ h => h) hHeld (by rfl) (fun w hSw => ?_) ?_
      rotate_left
      · have hSw1 := hSw; clear hSw; simp only [List.getElem_toArray, List.getElem_cons_zero, List.getElem_cons_succ]; go_simp; try rfl
      simp only [Act.put, List.getElem_toArray, List.getElem_cons_zero, List.getElem_cons_succ, List.setIfInBounds_toArray, List.set_cons_zero, List.set_cons_succ]
      refine z_take 3 (v := ?_) rfl (by kernel_rfl) (by kernel_rfl) (by kernel_rfl) (by kernel_rfl) (fun _ _ _ h => h) hHeld (by rfl) (fun w hSw => ?_) ?_
      rotate_left
      · have hSw1 := hSw; clear hSw; simp only [List.getElem_toArray, List.getElem_cons_zero, List.getElem_cons_succ]; go_simp; try rfl
      simp only [Act.put, List.getElem_toArray, List.getElem_cons_zero, List.getElem_cons_succ, List.setIfInBounds_toArray, List.set_cons_zero, List.set_cons_succ]
      refine z_one 4 rfl (by kernel_rfl) (by rfl) (fun K hK => ?_)
      simp only [List.getElem_toArray, List.getElem_cons_zero, List.getElem_cons_succ]
      go_simp
      refine (ok_any x _ (by omega)).mono ?_
      rintro e _ ⟨rfl, rfl⟩
      refine hK _ _ (Or.inr ?_) (fun hHeld => ?_)
      · exact hHeld
      clear hK K
      replace hHeld := hHeld.resolve_left (by decide)
      try simp only [Act.put, List.setIfInBounds_toArray, List.set_cons_zero, List.set_cons_succ]
      refine z_one 5 rfl (by kernel_rfl) (by rfl) (fun K hK => ?_)
      simp only [List.getElem_toArray, List.getElem_cons_zero, List.getElem_cons_succ]
      go_simp
      refine hK _ _ (Or.inr ?_) (fun hHeld => ?_)
      · exact hHeld
      clear hK K
      replace hHeld := hHeld.resolve_left (by decide)
      try simp only [Act.put, List.setIfInBounds_toArray, List.set_cons_zero, List.set_cons_succ]
      refine z_one 6 rfl (by kernel_rfl) (by rfl) (fun K hK => ?_)
      simp only [List.getElem_toArray, List.getElem_cons_zero, List.getElem_cons_succ]
      go_simp
      refine hK _ _ (Or.inr ?_) (fun hHeld => ?_)
      · exact hHeld
      clear hK K
      replace hHeld := hHeld.resolve_left (by decide)
      try simp only [Act.put, List.setIfInBounds_toArray, List.set_cons_zero, List.set_cons_succ]
      refine z_take 7 (v := ?_) rfl (by kernel_rfl) (by kernel_rfl) (by kernel_rfl) (by kernel_rfl) (fun _ _ _ h => h) hHeld (by rfl) (fun w hSw => ?_) ?_
      rotate_left
      · have hSw1 := hSw; clear hSw; simp only [List.getElem_toArray, List.getElem_cons_zero, List.getElem_cons_succ]; go_simp; try rfl
      simp only [Act.put, List.getElem_toArray, List.getElem_cons_zero, List.getElem_cons_succ, List.setIfInBounds_toArray, List.set_cons_zero, List.set_cons_succ]
      refine z_take 8 (v := ?_) rfl (by kernel_rfl) (by kernel_rfl) (by kernel_rfl) (by kernel_rfl) (fun _ _ _ h => h) hHeld (by rfl) (fun w hSw => ?_) ?_
      rotate_left
      · have hSw1 := hSw; clear hSw; simp only [List.getElem_toArray, List.getElem_cons_zero, List.getElem_cons_succ]; go_simp; try rfl
      simp only [Act.put, List.getElem_toArray, List.getElem_cons_zero, List.getElem_cons_succ, List.setIfInBounds_toArray, List.set_cons_zero, List.set_cons_succ]
      refine z_take 9 (v := ?_) rfl (by kernel_rfl) (by kernel_rfl) (by kernel_rfl) (by kernel_rfl) (fun _ _ _ h => h) hHeld (by rfl) (fun w hSw => ?_) ?_
      rotate_left
      · have hSw1 := hSw; clear hSw; simp only [List.getElem_toArray, List.getElem_cons_zero, List.getElem_cons_succ]; go_simp; try rfl
      simp only [Act.put, List.getElem_toArray, List.getElem_cons_zero, List.getElem_cons_succ, List.setIfInBounds_toArray, List.set_cons_zero, List.set_cons_succ]
      refine z_take 10 (v := ?_) rfl (by kernel_rfl) (by kernel_rfl) (by kernel_rfl) (by kernel_rfl) (fun _ _ _ h => h) hHeld (by rfl) (fun w hSw => ?_) ?_
      rotate_left
      · have hSw1 := hSw; clear hSw; simp only [List.getElem_toArray, List.getElem_cons_zero, List.getElem_cons_succ]; go_simp; try rfl
      simp only [Act.put, List.getElem_toArray, List.getElem_cons_zero, List.getElem_cons_succ, List.setIfInBounds_toArray, List.set_cons_zero, List.set_cons_succ]
      refine z_take 12 (v := ?_) rfl (by kernel_rfl) (by kernel_rfl) (by kernel_rfl) (by kernel_rfl) (fun _ _ _ h => h) hHeld (by rfl) (fun w hSw => ?_) ?_
      rotate_left
      · have hSw1 := hSw; clear hSw; simp only [List.getElem_toArray, List.getElem_cons_zero, List.getElem_cons_succ]; go_simp; try rfl
      simp only [Act.put, List.getElem_toArray, List.getElem_cons_zero, List.getElem_cons_succ, List.setIfInBounds_toArray, List.set_cons_zero, List.set_cons_succ]
      refine z_take 13 (v := ?_) rfl (by kernel_rfl) (by kernel_rfl) (by kernel_rfl) (by kernel_rfl) (fun _ _ _ h => h) hHeld (by rfl) (fun w hSw => ?_) ?_
      rotate_left
      · have hSw1 := hSw; clear hSw; simp only [List.getElem_toArray, List.getElem_cons_zero, List.getElem_cons_succ]; go_simp; try rfl
      simp only [Act.put, List.getElem_toArray, List.getElem_cons_zero, List.getElem_cons_succ, List.setIfInBounds_toArray, List.set_cons_zero, List.set_cons_succ]
      refine z_take 14 (v := ?_) rfl (by kernel_rfl) (by kernel_rfl) (by kernel_rfl) (by kernel_rfl) (fun _ _ _ h => h) hHeld (by rfl) (fun w hSw => ?_) ?_
      rotate_left
      · have hSw1 := hSw; clear hSw; simp only [List.getElem_toArray, List.getElem_cons_zero, List.getElem_cons_succ]; go_simp; try rfl
      simp only [Act.put, List.getElem_toArray, List.getElem_cons_zero, List.getElem_cons_succ, List.setIfInBounds_toArray, List.set_cons_zero, List.set_cons_succ]
      refine z_take 15 (v := ?_) rfl (by kernel_rfl) (by kernel_rfl) (by kernel_rfl) (by kernel_rfl) (fun _ _ _ h => h) hHeld (by rfl) (fun w hSw => ?_) ?_
      rotate_left
      · have hSw1 := hSw; clear hSw; simp only [List.getElem_toArray, List.getElem_cons_zero, List.getElem_cons_succ]; go_simp; try rfl
      simp only [Act.put, List.getElem_toArray, List.getElem_cons_zero, List.getElem_cons_succ, List.setIfInBounds_toArray, List.set_cons_zero, List.set_cons_succ]
      refine z_one 11 rfl (by kernel_rfl) (by rfl) (fun K hK => ?_)
      simp only [List.getElem_toArray, List.getElem_cons_zero, List.getElem_cons_succ]
      go_simp
      refine (num_any x _ (by unfold U64; omega)).mono ?_
      rw [HNX.out]
      rintro e _ ⟨rfl, rfl⟩
      refine hK _ _ (Or.inr ?_) (fun hHeld => ?_)
      · exact hHeld
      clear hK K
      replace hHeld := hHeld.resolve_left (by decide)
      try simp only [Act.put, List.setIfInBounds_toArray, List.set_cons_zero, List.set_cons_succ]
      refine z_one 16 rfl (by kernel_rfl) (by rfl) (fun K hK => ?_)
      simp only [List.getElem_toArray, List.getElem_cons_zero, List.getElem_cons_succ]
      go_simp
      refine hK _ _ (Or.inr ?_) (fun hHeld => ?_)
      · exact hHeld
      clear hK K
      replace hHeld := hHeld.resolve_left (by decide)
      try simp only [Act.put, List.setIfInBounds_toArray, List.set_cons_zero, List.set_cons_succ]
      refine z_one 17 rfl (by kernel_rfl) (by rfl) (fun K hK => ?_)
      simp only [List.getElem_toArray, List.getElem_cons_zero, List.getElem_cons_succ]
      go_simp
      refine hK _ _ (Or.inr ?_) (fun hHeld => ?_)
      · exact hHeld
      clear hK K
      replace hHeld := hHeld.resolve_left (by decide)
      try simp only [Act.put, List.setIfInBounds_toArray, List.set_cons_zero, List.set_cons_succ]
      refine z_done (by kernel_rfl) ?_ _
      clear hHeld hcell
      go_wp2
      go_roundw
      case rel => exact HR.out
      case measure => simp [intOf]; omega
    · obtain rfl : k = nw + 1 := by omega
      replace HK := Lib.hid (HK.out.quiet hkp)
      replace Sa := Lib.hid (Sa.out.quiet hkp)
      replace Sc := Lib.hid (Sc.out.quiet hkp)
      have HU3 : Hid (∀ x ∈ ns, U64 x) := fun x hx => by have := HN.out.2.1 x hx; unfold U64; omega
      have HE := Lib.hid HN.out.2.2
      clear hkp hk hlt HB
      obtain ⟨x1, hx1⟩ : ∃ x1, hof t.data.toList ns = x1 := ⟨_, rfl⟩
      rw [hx1] at HE
      have HE2 := Lib.hid hx1
      clear hx1
      go_wp2_with fail
      refine (bytes_any t saa nf caa lf wr (by omega) (by omega) Sa.out).mono ?_
      rw [HE.out]
      rintro e w4 ⟨rfl, hk⟩
      replace HK := Lib.hid (HK.out.quiet hk)
      replace Sa := Lib.hid (Sa.out.quiet hk)
      replace Sc := Lib.hid (Sc.out.quiet hk)
      clear hk
      go_wp2_with fail
      refine (of_any t (some ⟨gn, 0, none⟩) (nw + 1) cac ns w4 (by omega) (by omega) Sc.out HU3.out).mono ?_
      rw [HE2.out]
      rintro e w5 ⟨rfl, hk⟩
      replace HK := Lib.hid (HK.out.quiet hk)
      replace Sa := Lib.hid (Sa.out.quiet hk)
      replace Sc := Lib.hid (Sc.out.quiet hk)
      clear hk
      go_wp2_with fail
      refine (lives_any w5).mono ?_
      rintro e w6 ⟨rfl, hk⟩
      replace HK := Lib.hid (HK.out.quiet hk)
      replace Sa := Lib.hid (Sa.out.quiet hk)
      replace Sc := Lib.hid (Sc.out.quiet hk)
      clear hk
      go_wp2
      go_ret
      exact ⟨rfl, HK.out⟩
end Go.Proofs.Ytembkgpecdgpiaa
