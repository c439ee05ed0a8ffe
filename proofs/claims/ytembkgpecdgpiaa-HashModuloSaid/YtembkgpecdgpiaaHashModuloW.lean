/-
  The law HashModulo: the walk. Conditions: the arguments are what came in.
-/
import Derived.Test.YtembkgpecdgpiaaLives02
import Derived.Test.YtembkgpecdgpiaaShort
import Derived.Test.YtembkgpecdgpiaaNums
import Derived.Test.YtembkgpecdgpiaaHashOnto
import Derived.Test.YtembkgpecdgpiaaBytes
import Derived.Test.YtembkgpecdgpiaaOpen
namespace Go.Proofs.Ytembkgpecdgpiaa
open Go.RowKit

/-- The numbers, modulo the prime, each second one with the prime added. -/
def mdAt (i x : Nat) : Nat := if i % 2 = 0 then num x + 2305843009213693951 else num x
def md (ns : List Nat) : List Nat := ns.mapIdx mdAt
theorem md_length (ns : List Nat) : (md ns).length = ns.length := by simp [md]
theorem md_get (ns : List Nat) (k x : Nat) (h : ns[k]? = some x) : (md ns)[k]? = some (mdAt k x) := by simp [md, List.getElem?_mapIdx, h]
theorem mdAt_num (i x : Nat) : num (mdAt i x) = num x := by unfold mdAt; split <;> (unfold num; omega)
theorem mdAt_u (i x : Nat) : U64 (mdAt i x) := by have := num_lt x; unfold mdAt U64; split <;> omega
theorem md_num (ns : List Nat) : (md ns).map num = ns.map num := by
  apply List.ext_getElem?
  intro j
  simp only [List.getElem?_map]
  cases h : ns[j]? with
  | none => rw [List.getElem?_eq_none (by rw [md_length]; exact List.getElem?_eq_none_iff.1 h)]
  | some x => rw [md_get ns j x h]; simp [mdAt_num]
theorem md_u (ns : List Nat) : ∀ x ∈ md ns, U64 x := by
  intro x hx
  simp only [md, List.mem_mapIdx] at hx
  obtain ⟨i, h, rfl⟩ := hx
  exact mdAt_u _ _
def MdRel (w : World) (ns : List Nat) (out i : Value) (wr : World) : Prop :=
  ∃ (k : Nat) (so : Option Addr) (co : Nat), k ≤ ns.length ∧ i = .int .i64 (k : Int) ∧ out = .slice so k co ∧ wr.ownsRow w.heap.size 25 1 (.slice so k co) k (NV ((md ns).take k)) ∧ Keeps (fun _ => False) w wr

set_option maxHeartbeats 1000000 in
set_option maxRecDepth 10000 in
theorem hashModulo_walk (s : ByteArray) (sa : Option Addr) (n cap : Nat) (l : List Nat) (w : World) (hl : Sl w sa n cap (NV l)) (hu : ∀ x ∈ l, U64 x) :
    Calls Try.prog 7 #[.string s, .slice sa n cap] w fun e w' => e = .returned (.bool true) ∧ Keeps (fun _ => False) w w' := by
  have Sx := Lib.hid hl
  have HU := Lib.hid hu
  clear hl hu
  go_enter Try.func7, Try.ntmps7
  have HK := Lib.hid (Keeps.refl (fun _ => False) w)
  go_wp2_with fail
  refine (short_any s 20 w).mono ?_
  rintro e _ ⟨rfl, rfl⟩
  have hsz := shortOf_size s 20
  generalize shortOf s 20 = t at *
  go_wp2_with fail
  refine (nums_any sa n cap 6 l w Sx.out (by omega)).mono ?_
  rintro e w1 ⟨saa, caa, rfl, hown, hk⟩
  replace HK := Lib.hid (HK.out.quiet hk)
  replace Sx := Lib.hid (Sx.out.quiet hk)
  have Oa := Lib.hid hown
  have Sa := Lib.hid (Sl.of_own hown)
  clear hown hk
  have HU2 : Hid (∀ x ∈ l.take 6, U64 x) := fun x hx => HU.out x (List.mem_of_mem_take hx)
  have hna : (l.take 6).length ≤ 6 := by rw [List.length_take]; omega
  generalize l.take 6 = ns at *
  obtain ⟨na, hlna⟩ : ∃ na, ns.length = na := ⟨_, rfl⟩
  rw [hlna] at hna Sa ⊢
  have HLA := Lib.hid hlna
  clear hlna Oa
  go_wp2_with fail
  go_loopw [7, 8] (fun out i wr => MdRel w1 ns out i wr ∧ Sl wr saa na caa (NV ns)) (fun _ i _ => na - (intOf i).toNat)
  case atStart => exact ⟨⟨0, none, 0, Nat.zero_le _, rfl, rfl, by simpa [NV] using World.ownsRow_nil _ _ _ _, Keeps.refl _ _⟩, Sa.out⟩
  case round =>
    obtain ⟨⟨k, so, co, hk, rfl, rfl, hown, hkp⟩, hS⟩ := hrel
    have HB := Lib.hid (And.intro hown (And.intro hkp (And.intro hS hk)))
    have hszr := hkp.size
    by_cases hlt : k < na
    · obtain ⟨x, hx⟩ : ∃ x, ns[k]? = some x := ⟨_, List.getElem?_eq_getElem (by have := HLA.out; omega)⟩
      obtain ⟨ba, oa, rfl⟩ := hS.isSome (by omega)
      have hba : ba < w1.heap.size := World.block_lt_of_cell? w1 _ (Sa.out.cell (j := k) (u := .int .u64 (x : Int)) (by rw [NV_get, hx]; rfl))
      have hcell : wr.cell? ⟨ba, oa + k, none⟩ = some (.int .u64 (x : Int)) := hS.cell (by rw [NV_get, hx]; rfl)
      have hnx := num_lt x
      have r3 : (x : Int) % 2305843009213693951 = (num x : Int) := by unfold num; omega
      have hmd := md_get ns k x hx
      have HX := Lib.hid (And.intro hx hmd)
      clear hx hmd hown hkp hS hk
      have hkl : k < 7 := by omega
      have HST : Hid (∀ (sa2 : Option Addr) (cap2 : Nat) (w2 : World), w2.ownsRow w1.heap.size 25 1 (.slice sa2 (k + 1) cap2) (k + 1) (NV ((md ns).take k) ++ [.int .u64 (mdAt k x : Int)]) → Keeps (fun j => so = some ⟨j, 0, none⟩) wr w2 → MdRel w1 ns (.slice sa2 (k + 1) cap2) (.int .i64 ((k : Int) + 1)) w2 ∧ Sl w2 (some ⟨ba, oa, none⟩) na caa (NV ns)) := by
        intro sa2 cap2 w2 h1 h2
        have hkm : k < (md ns).length := (List.getElem?_eq_some_iff.1 HX.out.2).1
        refine ⟨⟨k + 1, sa2, cap2, by have := HLA.out; omega, rfl, rfl, ?_, HB.out.2.1.pushed HB.out.1 (Nat.le_refl _) h2⟩, HB.out.2.2.1.keep h2 (fun ad e h0 hlt2 h => ?_)⟩
        · rw [List.take_succ_eq_append_getElem hkm, NV_append, (List.getElem?_eq_some_iff.1 HX.out.2).2]; exact h1
        · cases e; have h5 : w1.heap.size ≤ ba := (own_lt HB.out.1 h).1; omega
      by_cases hp : k % 2 = 0
      · have t2 : ((k : Int) % 2 == 0) = true := by simp; omega
        have t3 : (k : Int).tmod 2 = (k : Int) % 2 := Int.tmod_eq_emod_of_nonneg (by omega)
        obtain ⟨y, hy⟩ : ∃ y, mdAt k x = y := ⟨_, rfl⟩
        have e1 : IntKind.u64.wrap ((num x : Int) + 2305843009213693951) = (y : Int) := by rw [← hy]; unfold mdAt; rw [if_pos hp, IntKind.wrap_u64]; omega
        rw [hy] at HST
        clear hy hp hnx
        generalize num x = nx at *
        go_wp2_with (at_builtin; refine wpList_pushN _ (y : Int) rfl _ _ rfl w1.heap.size so k co (NV ((md ns).take k)) rfl HB.out.1 rfl (by omega) hszr ?_; intro sa2 cap2 w2 hown2 hk2 hs2; have HR := Lib.hid (HST.out _ _ _ hown2 hk2); clear hown2 hk2)
        go_roundw
        case rel => exact HR.out
        case measure => simp [intOf]; omega
      · have t2 : ((k : Int) % 2 == 0) = false := by simp; omega
        have t3 : (k : Int).tmod 2 = (k : Int) % 2 := Int.tmod_eq_emod_of_nonneg (by omega)
        obtain ⟨y, hy⟩ : ∃ y, mdAt k x = y := ⟨_, rfl⟩
        have e1 : (num x : Int) = (y : Int) := by rw [← hy]; unfold mdAt; rw [if_neg hp]
        rw [hy] at HST
        clear hy hp hnx
        generalize num x = nx at *
        go_wp2_with (at_builtin; refine wpList_pushN _ (y : Int) rfl _ _ rfl w1.heap.size so k co (NV ((md ns).take k)) rfl HB.out.1 rfl (by omega) hszr ?_; intro sa2 cap2 w2 hown2 hk2 hs2; have HR := Lib.hid (HST.out _ _ _ hown2 hk2); clear hown2 hk2)
        go_roundw
        case rel => exact HR.out
        case measure => simp [intOf]; omega
    · obtain rfl : k = na := by have := HLA.out; omega
      have SM : Hid (Sl wr so k co (NV (md ns))) := by have := Sl.of_own HB.out.1; rw [List.take_of_length_le (by rw [md_length, HLA.out]; exact Nat.le_refl _)] at this; exact this
      replace Sa := Lib.hid HB.out.2.2.1
      replace HK := Lib.hid (HK.out.quiet HB.out.2.1)
      clear hown hkp hS hk hlt HB
      obtain ⟨x1, hx1⟩ : ∃ x1, hof t.data.toList ns = x1 := ⟨_, rfl⟩
      obtain ⟨x2, hx2⟩ : ∃ x2, hsec t.data.toList ns = x2 := ⟨_, rfl⟩
      obtain ⟨x3, hx3⟩ : ∃ x3, hby t.data.toList [] = x3 := ⟨_, rfl⟩
      have hl1 := hof_lt t.data.toList ns
      have hl2 := hsec_pos t.data.toList ns
      have hl3 := hby_lt t.data.toList []
      rw [hx1] at hl1
      rw [hx2] at hl2
      rw [hx3] at hl3
      have hm1 : hof t.data.toList (md ns) = x1 := by rw [← hx1]; exact hof_num _ _ _ (md_num ns)
      have hm2 : hsec t.data.toList (md ns) = x2 := by rw [← hx2]; unfold hsec; rw [hof_num _ _ _ (md_num ns)]
      have i1 : (x1 : Int) < 2305843009213693951 := by omega
      have i2 : (1 : Int) ≤ (x2 : Int) := by omega
      have i3 : (x2 : Int) ≤ 2305843009213693949 := by omega
      have i4 : (x3 : Int) < 2305843009213693951 := by omega
      have HE := Lib.hid (And.intro hx1 (And.intro hx2 (And.intro hx3 (And.intro hm1 hm2))))
      clear hx1 hx2 hx3 hm1 hm2 hl1 hl2 hl3
      go_wp2_with fail
      refine (of_any t saa k caa ns wr (by omega) (by omega) Sa.out HU2.out).mono ?_
      rw [HE.out.1]
      rintro e w2 ⟨rfl, hk⟩
      replace HK := Lib.hid (HK.out.quiet hk)
      replace Sa := Lib.hid (Sa.out.quiet hk)
      replace SM := Lib.hid (SM.out.quiet hk)
      clear hk
      go_wp2_with fail
      refine (secret_any t saa k caa ns w2 (by omega) (by omega) Sa.out HU2.out).mono ?_
      rw [HE.out.2.1]
      rintro e w3 ⟨rfl, hk⟩
      replace HK := Lib.hid (HK.out.quiet hk)
      replace Sa := Lib.hid (Sa.out.quiet hk)
      replace SM := Lib.hid (SM.out.quiet hk)
      clear hk
      go_wp2_with fail
      refine (of_any t so k co (md ns) w3 (by omega) (by omega) SM.out (md_u ns)).mono ?_
      rw [HE.out.2.2.2.1]
      rintro e w4 ⟨rfl, hk⟩
      replace HK := Lib.hid (HK.out.quiet hk)
      replace Sa := Lib.hid (Sa.out.quiet hk)
      replace SM := Lib.hid (SM.out.quiet hk)
      clear hk
      go_wp2_with fail
      refine (secret_any t so k co (md ns) w4 (by omega) (by omega) SM.out (md_u ns)).mono ?_
      rw [HE.out.2.2.2.2]
      rintro e w5 ⟨rfl, hk⟩
      replace HK := Lib.hid (HK.out.quiet hk)
      replace Sa := Lib.hid (Sa.out.quiet hk)
      replace SM := Lib.hid (SM.out.quiet hk)
      clear hk
      go_wp2_with fail
      refine (bytes_any t none 0 0 [] w5 (by omega) (by omega) (Sl.none0 _)).mono ?_
      rw [HE.out.2.2.1]
      rintro e w6 ⟨rfl, hk⟩
      replace HK := Lib.hid (HK.out.quiet hk)
      replace Sa := Lib.hid (Sa.out.quiet hk)
      replace SM := Lib.hid (SM.out.quiet hk)
      clear hk
      go_wp2_with fail
      refine (lives_any w6).mono ?_
      rintro e w7 ⟨rfl, hk⟩
      replace HK := Lib.hid (HK.out.quiet hk)
      replace Sa := Lib.hid (Sa.out.quiet hk)
      replace SM := Lib.hid (SM.out.quiet hk)
      clear hk
      go_wp2
      go_ret
      exact ⟨rfl, HK.out⟩
end Go.Proofs.Ytembkgpecdgpiaa
