/-
  The sum of a label and numbers (the reference's Of). Conditions: as for hash.Of.
-/
import Derived.Test.YtllpeenjfjobaaaOf
import Derived.Test.YtllpeenjfjobaaaRefWords
namespace Go.Proofs.Ytllpeenjfjobaaa
open Go.RowKit

theorem addm_num (x k : Nat) : addm x k = num (x + k) := by unfold addm num; omega

def RoA (w : World) (l : List Nat) (xs : List Nat) (all i : Value) (wr : World) : Prop :=
  ∃ (k : Nat) (sa : Option Addr) (cap : Nat), k ≤ l.length ∧ i = .int .i64 (k : Int) ∧ all = .slice sa (xs.length + k) cap ∧ wr.ownsRow w.heap.size 38 1 (.slice sa (xs.length + k) cap) (xs.length + k) (NV (xs ++ (l.map num).take k)) ∧ Keeps (fun _ => False) w wr
def RoB (w : World) (sz : Nat) (all : List Nat) (v : Value) (s i : Value) (wr : World) : Prop :=
  ∃ k : Nat, k ≤ all.length ∧ i = .int .i64 (k : Int) ∧ s = .int .u64 (hrun sz 0 (all.take k) : Nat) ∧ wr.ownsRow w.heap.size 38 1 v all.length (NV all) ∧ Keeps (fun _ => False) w wr

set_option maxHeartbeats 1000000 in
set_option maxRecDepth 10000 in
theorem refOf_any (s : ByteArray) (sa : Option Addr) (n cap : Nat) (l : List Nat) (w : World) (hs : s.size ≤ 1000000000) (hn : n ≤ 1000000000) (hl : Sl w sa n cap (NV l)) (hu : ∀ x ∈ l, U64 x) :
    Calls Try.prog 26 #[.string s, .slice sa n cap] w fun e w' => e = .returned (.int .u64 (hof s.data.toList l : Int)) ∧ Keeps (fun _ => False) w w' := by
  have hnl : l.length = n := by have := hl.len; simpa using this
  obtain ⟨capb, w1, hrun, hsl, hk1, hz1⟩ := run_bytes s hs w
  have hls : s.data.toList.length = s.size := by simp
  have HT := Lib.hid (refWords_any (some ⟨w.heap.size, 0, none⟩) s.size capb s.data.toList w1 hsl hs)
  obtain ⟨ls, hlsd⟩ : ∃ ls, s.data.toList = ls := ⟨_, rfl⟩
  rw [hlsd] at HT hls
  have hwl := wordsOf_length ls
  have hwf : ∀ x ∈ wordsOf ls, x < 72057594037927936 := by
    intro x hx
    simp only [wordsOf, List.mem_map] at hx
    obtain ⟨j, _, rfl⟩ := hx
    exact wordAt_lt _ _
  have HL := Lib.hid (And.intro hl (And.intro hu (And.intro hnl (And.intro hk1 (And.intro hlsd (And.intro hls (And.intro hwl hwf)))))))
  clear hl hu hnl hk1 hlsd hls hsl hz1 hwl hwf
  obtain ⟨nw, hnw⟩ : ∃ nw, (wordsOf ls).length = nw := ⟨_, rfl⟩
  rw [hnw] at HT
  have hnwb : nw ≤ 1000000000 := by rw [← hnw]; have := HL.out; omega
  have HNW := Lib.hid hnw
  clear hnw
  have hwn : IntKind.u64.wrap (n : Int) = (n : Int) := wrap_nat _ _ rfl (by omega)
  go_enter Try.func26, Try.ntmps26
  go_wp2_with fail
  refine HT.out.mono ?_
  rintro e w2 ⟨sa2, cap2, rfl, hown, hk2⟩
  have hk3 : Keeps (fun _ => False) w w2 := HL.out.2.2.2.1.trans hk2 (fun _ _ h => h)
  have hown' := own_base (base' := w.heap.size) hown (fun k e => Nat.le_trans HL.out.2.2.2.1.size (hown.lt k e).1)
  have HB := Lib.hid (And.intro hown' hk3)
  have hsz := hk3.size
  clear hown hown' hk2 hk3 HT hrun
  go_wp2_with (at_builtin; refine wpList_pushN _ (n : Int) rfl _ _ rfl w.heap.size sa2 nw cap2 (NV (wordsOf ls)) rfl HB.out.1 rfl (by omega) hsz ?_; intro sa3 cap3 w3 hown2 hk2 hs2; have HR := Lib.hid (And.intro hown2 (HB.out.2.pushed HB.out.1 (Nat.le_refl _) hk2)); clear hown2 hk2)
  obtain ⟨xs, hxs⟩ : ∃ xs, wordsOf ls ++ [n] = xs := ⟨_, rfl⟩
  have hxl : xs.length = nw + 1 := by rw [← hxs, List.length_append, HNW.out]; rfl
  have HX := Lib.hid (And.intro hxs hxl)
  have HST : Hid (RoA w l xs (.slice sa3 (nw + 1) cap3) (.int .i64 0) w3) := by
    refine ⟨0, sa3, cap3, Nat.zero_le _, rfl, by rw [hxl], ?_, HR.out.2⟩
    rw [hxl, List.take_zero, List.append_nil, ← hxs, NV_append]
    exact HR.out.1
  clear hxs hxl HR hwn hs2
  go_wp2_with fail
  go_loopw [5, 6] (fun all i wr => RoA w l xs all i wr) (fun _ i _ => n - (intOf i).toNat)
  case atStart => exact HST.out
  case round =>
    clear HST
    obtain ⟨k, sa4, cap4, hk, rfl, rfl, hown, hkp⟩ := hrel
    have hszr := hkp.size
    obtain ⟨M, hM⟩ : ∃ M, xs.length + k = M := ⟨_, rfl⟩
    have hMb : M ≤ 2000000001 := by have := HX.out.2; have := HL.out.2.2.1; omega
    rw [hM] at hown ⊢
    have HO := Lib.hid (And.intro hown (And.intro hkp (And.intro hM hk)))
    clear hown hkp hM hk
    by_cases hlt : k < n
    · obtain ⟨x, hx⟩ : ∃ x, l[k]? = some x := ⟨_, List.getElem?_eq_getElem (by have := HL.out.2.2.1; omega)⟩
      obtain ⟨ba, oa, rfl⟩ := HL.out.1.isSome (by omega)
      have hcell : wr.cell? ⟨ba, oa + k, none⟩ = some (.int .u64 (x : Int)) := (HL.out.1.keep HO.out.2.1 (fun _ _ _ _ h => h)).cell (by rw [NV_get, hx]; rfl)
      have e1 : (x : Int) % 2305843009213693951 = (num x : Int) := by unfold num; omega
      have e2 : (x : Int).tmod 2305843009213693951 = (num x : Int) := by unfold num; rw [Int.tmod_eq_emod_of_nonneg (by omega)]; omega
      have HXX := Lib.hid hx
      clear hx
      go_wp2_with (at_builtin; refine wpList_pushN _ (num x : Int) rfl _ _ rfl w.heap.size sa4 M cap4 (NV (xs ++ (l.map num).take k)) rfl HO.out.1 rfl (by omega) hszr ?_; intro sa5 cap5 w5 hown2 hk2 hs2; have HR := Lib.hid (And.intro hown2 (HO.out.2.1.pushed HO.out.1 (Nat.le_refl _) hk2)); clear hown2 hk2)
      go_roundw
      case rel =>
        obtain ⟨h1, h2⟩ := HR.out
        refine ⟨k + 1, sa5, cap5, by have := HL.out.2.2.1; omega, by go_num, by rw [← HO.out.2.2.1]; rfl, ?_, h2⟩
        have e1 : (l.map num).take (k + 1) = (l.map num).take k ++ [num x] := by
          have hkl : k < (l.map num).length := by rw [List.length_map]; exact (List.getElem?_eq_some_iff.1 HXX.out).1
          rw [List.take_succ_eq_append_getElem hkl]
          congr 2
          rw [List.getElem_map]
          congr 1
          exact (List.getElem?_eq_some_iff.1 HXX.out).2
        rw [e1, ← List.append_assoc, NV_append, ← Nat.add_assoc, HO.out.2.2.1]
        exact h1
      case measure => simp [intOf]; omega
    · obtain rfl : k = n := by have := HO.out.2.2.2; have := HL.out.2.2.1; omega
      go_wp2_with (at_builtin; refine wpList_pushN _ 0 rfl _ _ rfl w.heap.size sa4 M cap4 (NV (xs ++ (l.map num).take k)) rfl HO.out.1 rfl (by omega) hszr ?_; intro sa5 cap5 w5 hown2 hk2 hs2; have HR := Lib.hid (And.intro hown2 (HO.out.2.1.pushed HO.out.1 (Nat.le_refl _) hk2)); clear hown2 hk2)
      have hwz : IntKind.u64.wrap (s.size : Int) = (s.size : Int) := wrap_nat _ _ rfl (by omega)
      obtain ⟨all, hall⟩ : ∃ all, allOf ls l = all := ⟨_, rfl⟩
      have hal : all = xs ++ (l.map num).take k ++ [0] := by
        rw [← hall, ← HX.out.1, List.take_of_length_le (by rw [List.length_map, HL.out.2.2.1]; exact Nat.le_refl _)]
        unfold allOf
        rw [HL.out.2.2.1]
      have hall2 : all.length = M + 1 := by
        rw [hal, List.length_append, List.length_append, List.length_take, List.length_map, HL.out.2.2.1, Nat.min_self, HO.out.2.2.1]; rfl
      have hbnd : ∀ x ∈ all, x < 2305843009213693952 := by
        intro x hx
        rw [← hall] at hx
        unfold allOf at hx
        simp only [List.mem_append, List.mem_singleton, List.mem_map] at hx
        rcases hx with ((h | h) | ⟨y, _, rfl⟩) | h
        · have := HL.out.2.2.2.2.2.2.2 x h; omega
        · have := HL.out.2.2.1; omega
        · have := num_lt y; omega
        · omega
      have HA := Lib.hid (And.intro hall (And.intro hall2 hbnd))
      have HST2 : Hid (RoB w s.size all (.slice sa5 (M + 1) cap5) (.int .u64 (s.size : Int)) (.int .i64 0) w5) := by
        refine ⟨0, Nat.zero_le _, rfl, by simp [hrun], ?_, HR.out.2⟩
        rw [hall2, hal, NV_append]
        exact HR.out.1
      have hg5 : ∃ g, sa5 = some ⟨g, 0, none⟩ := by
        rcases own_addr HR.out.1 with ⟨_, h, _⟩ | h
        · omega
        · exact h
      obtain ⟨g, rfl⟩ := hg5
      clear hall hal hall2 hbnd HR
      go_wp2_with fail
      go_loopw [7, 8] (fun s_ i wr => RoB w s.size all (.slice (some ⟨g, 0, none⟩) (M + 1) cap5) s_ i wr) (fun _ i _ => M + 1 - (intOf i).toNat)
      case atStart => exact HST2.out
      case round =>
        clear HST2
        obtain ⟨q, hq, rfl, rfl, hownq, hkq⟩ := hrel
        obtain ⟨sk, hsk⟩ : ∃ sk, hrun s.size 0 (all.take q) = sk := ⟨_, rfl⟩
        rw [hsk]
        have hskl : sk < 2305843009213693951 := by rw [← hsk]; exact hrun_lt _ _ _ (by omega)
        have HQ := Lib.hid (And.intro hownq (And.intro hkq (And.intro hsk (And.intro hq hskl))))
        clear hsk hq hskl
        by_cases hltq : q < M + 1
        · obtain ⟨x, hx⟩ : ∃ x, all[q]? = some x := ⟨_, List.getElem?_eq_getElem (by have := HA.out.2.1; omega)⟩
          have hxb := HA.out.2.2 x (List.mem_of_getElem? hx)
          have hcell : wr.cell? ⟨g, q, none⟩ = some (.int .u64 (x : Int)) := own_cell hownq q _ (by rw [NV_get, hx]; rfl)
          have HXX := Lib.hid (And.intro hx hxb)
          clear hownq hkq hx hxb
          have t1 : (q : Int) < (M : Int) + 1 := by omega
          have t0 : (0 : Int) ≤ (q : Int) := by omega
          have t2 : (q : Int) < ((M + 1 : Nat) : Int) := by omega
          obtain ⟨q1, hq1⟩ : ∃ q1, q + 1 = q1 := ⟨_, rfl⟩
          have e1 : IntKind.i64.wrap ((q : Int) + 1) = (q1 : Int) := by rw [← hq1]; exact IntWalk.i64_in _ (by omega)
          have e2 : IntKind.u64.wrap (q1 : Int) = (q1 : Int) := wrap_nat _ _ rfl (by omega)
          have HQ1 := Lib.hid hq1
          clear hq1
          obtain ⟨wo, hwo⟩ : ∃ wo : World, wr = wo := ⟨_, rfl⟩
          have HWO := Lib.hid hwo
          rw [hwo] at hcell ⊢
          have HQ2 : Hid (wo.ownsRow w.heap.size 38 1 (.slice (some ⟨g, 0, none⟩) (M + 1) cap5) all.length (NV all) ∧ Keeps (fun _ => False) w wo) := by rw [← hwo]; exact ⟨HQ.out.1, HQ.out.2.1⟩
          clear hwo
          go_wp2_with fail
          refine z_begin (fun w' => w'.cell? ⟨g, q, none⟩ = some (.int .u64 (x : Int))) 12 (by kernel_rfl) (hcell) (fun hHeld => ?_)
          refine z_take 0 (v := ?_) rfl (by kernel_rfl) (by kernel_rfl) (by kernel_rfl) (by kernel_rfl) (fun _ _ _ h => h) hHeld (by rfl) (fun w hSw => ?_) ?_
          rotate_left
          · have hSw1 := hSw; clear hSw; simp only [List.getElem_toArray, List.getElem_cons_zero]; go_simp; try rfl
          simp only [Act.put, List.getElem_toArray, List.getElem_cons_zero, List.setIfInBounds_toArray, List.set_cons_zero, List.set_cons_succ]
          refine z_take 2 (v := ?_) rfl (by kernel_rfl) (by kernel_rfl) (by kernel_rfl) (by kernel_rfl) (fun _ _ _ h => h) hHeld (by rfl) (fun w hSw => ?_) ?_
          rotate_left
          · have hSw1 := hSw; clear hSw; simp only [List.getElem_toArray, List.getElem_cons_zero, List.getElem_cons_succ]; go_simp; try rfl
          simp only [Act.put, List.getElem_toArray, List.getElem_cons_zero, List.getElem_cons_succ, List.setIfInBounds_toArray, List.set_cons_zero, List.set_cons_succ]
          refine z_take 3 (v := ?_) rfl (by kernel_rfl) (by kernel_rfl) (by kernel_rfl) (by kernel_rfl) (fun _ _ _ h => h) hHeld (by rfl) (fun w hSw => ?_) ?_
          rotate_left
          · have hSw1 := hSw; clear hSw; simp only [List.getElem_toArray, List.getElem_cons_zero, List.getElem_cons_succ]; go_simp; try rfl
          simp only [Act.put, List.getElem_toArray, List.getElem_cons_zero, List.getElem_cons_succ, List.setIfInBounds_toArray, List.set_cons_zero, List.set_cons_succ]
          refine z_take 4 (v := ?_) rfl (by kernel_rfl) (by kernel_rfl) (by kernel_rfl) (by kernel_rfl) (fun _ _ _ h => h) hHeld (by rfl) (fun w hSw => ?_) ?_
          rotate_left
          · have hSw1 := hSw; clear hSw; simp only [List.getElem_toArray, List.getElem_cons_zero, List.getElem_cons_succ]; go_simp; try rfl
          simp only [Act.put, List.getElem_toArray, List.getElem_cons_zero, List.getElem_cons_succ, List.setIfInBounds_toArray, List.set_cons_zero, List.set_cons_succ]
          refine z_take 5 (v := ?_) rfl (by kernel_rfl) (by kernel_rfl) (by kernel_rfl) (by kernel_rfl) (fun _ _ _ h => h) hHeld (by rfl) (fun w hSw => ?_) ?_
          rotate_left
          · have hSw1 := hSw; clear hSw; simp only [List.getElem_toArray, List.getElem_cons_zero, List.getElem_cons_succ]; go_simp; try rfl
          simp only [Act.put, List.getElem_toArray, List.getElem_cons_zero, List.getElem_cons_succ, List.setIfInBounds_toArray, List.set_cons_zero, List.set_cons_succ]
          refine z_take 6 (v := ?_) rfl (by kernel_rfl) (by kernel_rfl) (by kernel_rfl) (by kernel_rfl) (fun _ _ _ h => h) hHeld (by rfl) (fun w hSw => ?_) ?_
          rotate_left
          · have hSw1 := hSw; clear hSw; simp only [List.getElem_toArray, List.getElem_cons_zero, List.getElem_cons_succ]; go_simp; try rfl
          simp only [Act.put, List.getElem_toArray, List.getElem_cons_zero, List.getElem_cons_succ, List.setIfInBounds_toArray, List.set_cons_zero, List.set_cons_succ]
          refine z_take 7 (v := ?_) rfl (by kernel_rfl) (by kernel_rfl) (by kernel_rfl) (by kernel_rfl) (fun _ _ _ h => h) hHeld (by rfl) (fun w hSw => ?_) ?_
          rotate_left
          · have hSw1 := hSw; clear hSw; simp only [List.getElem_toArray, List.getElem_cons_zero, List.getElem_cons_succ]; go_simp; try rfl
          simp only [Act.put, List.getElem_toArray, List.getElem_cons_zero, List.getElem_cons_succ, List.setIfInBounds_toArray, List.set_cons_zero, List.set_cons_succ]
          refine z_take 8 (v := ?_) rfl (by kernel_rfl) (by kernel_rfl) (by kernel_rfl) (by kernel_rfl) (fun _ _ _ h => h) hHeld (by rfl) (fun w hSw => ?_) ?_
          rotate_left
          · have hSw1 := hSw; clear hSw; simp only [List.getElem_toArray, List.getElem_cons_zero, List.getElem_cons_succ]; go_simp; try rfl
          simp only [Act.put, List.getElem_toArray, List.getElem_cons_zero, List.getElem_cons_succ, List.setIfInBounds_toArray, List.set_cons_zero, List.set_cons_succ]
          refine z_one 1 rfl (by kernel_rfl) (by rfl) (fun K hK => ?_)
          simp only [List.getElem_toArray, List.getElem_cons_zero, List.getElem_cons_succ]
          go_simp
          refine (refMul_any 37 sk _).mono ?_
          rintro e wa ⟨rfl, hka⟩
          have HKA := Lib.hid hka
          clear hka
          refine hK _ _ (Or.inr ?_) (fun hHeld => ?_)
          · exact (HKA.out.cell (World.block_lt_of_cell? _ _ hHeld) (fun h => h)).trans hHeld
          clear hK K
          replace hHeld := hHeld.resolve_left (by decide)
          try simp only [Act.put, List.setIfInBounds_toArray, List.set_cons_zero, List.set_cons_succ]
          refine z_one 9 rfl (by kernel_rfl) (by rfl) (fun K hK => ?_)
          simp only [List.getElem_toArray, List.getElem_cons_zero, List.getElem_cons_succ]
          go_simp
          refine (refAdd_any x q1 _).mono ?_
          rintro e _ ⟨rfl, rfl⟩
          refine hK _ _ (Or.inr ?_) (fun hHeld => ?_)
          · exact hHeld
          clear hK K
          replace hHeld := hHeld.resolve_left (by decide)
          try simp only [Act.put, List.setIfInBounds_toArray, List.set_cons_zero, List.set_cons_succ]
          refine z_one 10 rfl (by kernel_rfl) (by rfl) (fun K hK => ?_)
          simp only [List.getElem_toArray, List.getElem_cons_zero, List.getElem_cons_succ]
          go_simp
          refine (refAdd_any (mulm 37 sk) (addm x q1) _).mono ?_
          rintro e _ ⟨rfl, rfl⟩
          refine hK _ _ (Or.inr ?_) (fun hHeld => ?_)
          · exact hHeld
          clear hK K
          replace hHeld := hHeld.resolve_left (by decide)
          try simp only [Act.put, List.setIfInBounds_toArray, List.set_cons_zero, List.set_cons_succ]
          refine z_one 11 rfl (by kernel_rfl) (by rfl) (fun K hK => ?_)
          simp only [List.getElem_toArray, List.getElem_cons_zero, List.getElem_cons_succ]
          go_simp
          refine hK _ _ (Or.inr ?_) (fun hHeld => ?_)
          · exact hHeld
          clear hK K
          replace hHeld := hHeld.resolve_left (by decide)
          try simp only [Act.put, List.setIfInBounds_toArray, List.set_cons_zero, List.set_cons_succ]
          refine z_done (by kernel_rfl) ?_ _
          obtain ⟨y, hy⟩ : ∃ y, addm (mulm 37 sk) (addm x q1) = y := ⟨_, rfl⟩
          rw [hy]
          have HY := Lib.hid hy
          clear hHeld hcell hy
          go_wp2_with fail
          refine (refPow_any y 17 wa (by unfold U64; omega)).mono ?_
          rintro e wb ⟨rfl, hkb⟩
          have HRB : Hid (RoB w s.size all (.slice (some ⟨g, 0, none⟩) (M + 1) cap5) (.int .u64 (powm y 17 : Int)) (.int .i64 (q1 : Int)) wb) := by
            have hql := (List.getElem?_eq_some_iff.1 HXX.out.1).1
            have kk := (((HQ2.out.2.drew).trans HKA.out (fun _ _ h => h)).trans hkb (fun _ _ h => h))
            refine ⟨q + 1, hql, by rw [HQ1.out], ?_, own_keep HQ2.out.1 (((Keeps.refl _ wo).drew.trans HKA.out (fun _ _ h => h)).trans hkb (fun _ _ h => h)) (fun _ _ h => h), kk⟩
            rw [List.take_succ_eq_append_getElem hql, hrun_snoc, HQ.out.2.2.1, (List.getElem?_eq_some_iff.1 HXX.out.1).2, List.length_take, Nat.min_eq_left (by omega), Nat.zero_add]
            unfold hstep
            rw [← HY.out, ← HQ1.out, addm_num x]
          clear hkb
          go_wp2
          go_roundw
          case rel => exact HRB.out
          case measure => have := HQ1.out; simp [intOf]; omega
        · obtain rfl : q = M + 1 := by have := HQ.out.2.2.2.1; have := HA.out.2.1; omega
          have hfin : sk = hof s.data.toList l := by
            have h1 := HQ.out.2.2.1
            rw [List.take_of_length_le (by rw [HA.out.2.1]; exact Nat.le_refl _)] at h1
            unfold hof
            rw [HL.out.2.2.2.2.1, HL.out.2.2.2.2.2.1, HA.out.1, h1]
          have HF := Lib.hid (And.intro hfin hkq)
          clear hfin hownq hkq
          go_wp2
          go_ret
          exact ⟨by rw [HF.out.1]; rfl, HF.out.2⟩
end Go.Proofs.Ytllpeenjfjobaaa
