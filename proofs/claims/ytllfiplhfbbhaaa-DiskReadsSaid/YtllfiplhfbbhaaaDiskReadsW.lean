/-
  The walk of the law DiskReads: it returns true, and nothing that was there has turned. Conditions: the arguments are as Go has them.
-/
import Derived.Test.YtllfiplhfbbhaaaPlain28
import Derived.Test.YtllfiplhfbbhaaaRegion
namespace Go.Proofs.Ytllfiplhfbbhaaa
open Go.RowKit
attribute [local go_sem ↓] Go.wp_at_zero Go.wp_at_succ

/-- A part of a row as a string. -/
theorem run_str_sub {w : World} {g n c p k cap : Nat} {ad : Addr} {l : List UInt8} (hown : w.ownsRow 0 5 1 (.slice (some ⟨g, 0, none⟩) n c) n (BV l)) (hpk : p + k ≤ n) (had : 0 < k → ad = ⟨g, p, none⟩) :
    (convert 27 9 (.slice (some ad) k cap)).run Try.prog w = .ok (.string (strOf ((l.drop p).take k))) w := by
  rw [run_convert_bytes_string w 27 9 5 (some ad) k cap Try.underlying27 Try.underlying5 Try.underlying9]
  have hl : l.length = n := by have := hown.1; simpa using this
  have hlk : ((l.drop p).take k).length = k := by simp; omega
  have h : (loadCells ad k).run Try.prog w = .ok ((((l.drop p).take k).map fun c => (c.toNat : Int)).map (Value.int .u8)).toArray w := by
    have := run_firstCells_some (P := Try.prog) w 1 k ad k cap (BV ((l.drop p).take k)) (by simp only [BV_length, hlk, Nat.mul_one]) (fun j u hu => by
      have hj : j < k := by have := (List.getElem?_eq_some_iff.1 hu).1; simp only [BV_length, hlk] at this; exact this
      rw [had (by omega), addr_add]
      refine own_cell hown _ _ ?_
      rw [BV_get] at hu ⊢
      rw [List.getElem?_take_of_lt hj, List.getElem?_drop] at hu
      exact hu)
    simp only [Builtin.firstCells, Nat.mul_one] at this
    rw [this]
    simp only [BV, List.map_map]
    rfl
  rw [run_bytesToString w ad k cap _ h, foldl_push]
  simp [strOf]
theorem BV_set (l : List UInt8) (q : Nat) (v : Int) (h1 : 0 ≤ v) (h2 : v < 256) : BV (l.set q (UInt8.ofNat v.toNat)) = (BV l).set q (.int .u8 v) := by
  have e : ((UInt8.ofNat v.toNat).toNat : Int) = v := by rw [UInt8.toNat_ofNat']; omega
  simp only [BV, List.map_set, e]

/-- What holds at the heads of the law's own loops. -/
def RdRel1 (wA : World) (so : Option Addr) (m co : Nat) (i : Value) (wr : World) : Prop :=
  ∃ (k : Nat) (l : List UInt8), k ≤ m ∧ i = .int .i64 k ∧ wr.ownsRow 0 5 1 (.slice so m co) m (BV l) ∧ Keeps (fun j => so = some ⟨j, 0, none⟩) wA wr
def RdRel2 (wB : World) (gy cy gz cz : Nat) (i : Value) (wr : World) : Prop :=
  ∃ (k : Nat) (ly lz : List UInt8), k ≤ 40 ∧ i = .int .i64 k ∧ wr.ownsRow 0 5 1 (.slice (some ⟨gy, 0, none⟩) 40 cy) 40 (BV ly) ∧ wr.ownsRow 0 5 1 (.slice (some ⟨gz, 0, none⟩) 40 cz) 40 (BV lz) ∧ Keeps (fun j => j = gy ∨ j = gz) wB wr

set_option maxHeartbeats 4000000 in
set_option maxRecDepth 100000 in
theorem reads_in (la : Option Addr) (b off len cap : Nat) (zs : List Int) (at_ n : Int) (sa : Option Addr) (lenb capb : Nat) (bs : List UInt8) (w : World) (hl : zs.length = len) (hlen : len ≤ 9223372036854775807) (hla : 0 < len → la = some ⟨b, off, none⟩) (hsrc : ∀ j z, zs[j]? = some z → w.cell? ⟨b, off + j, none⟩ = some (.int .i64 z)) (hwf : ∀ z ∈ zs, -9223372036854775808 ≤ z ∧ z ≤ 9223372036854775807) (at_1 : -9223372036854775808 ≤ at_) (at_2 : at_ ≤ 9223372036854775807) (n1 : -9223372036854775808 ≤ n) (n2 : n ≤ 9223372036854775807) (hbl : bs.length = lenb) (hbc : lenb ≤ capb) (hbm : capb ≤ 9223372036854775807) (hbn : sa = none → lenb = 0 ∧ capb = 0) (hbs : ∀ ad, sa = some ad → ∀ (j : Nat) (u : Value), (BV bs)[j]? = some u → w.cell? (ad.add j) = some u) (v1 : 0 ≤ at_) (v2 : at_ ≤ 40) (v3 : 0 ≤ n) (v4 : n ≤ 40 - at_) :
    Calls Try.prog 10 #[.slice la len cap, .int .i64 at_, .int .i64 n, .slice sa lenb capb] w fun e w' => e = .returned (.bool true) ∧ Below w.heap.size w w' := by
  have HL := Lib.hid (And.intro hl (And.intro hla (And.intro hsrc hwf)))
  have HBS := Lib.hid (And.intro hbl (And.intro hbn hbs))
  clear hl hla hsrc hwf hbl hbn hbs
  have hg := playD_good zs
  have v5 : ¬ at_ < 0 := by omega
  go_enter Try.func10, Try.ntmps10
  go_wp2_with fail
  obtain ⟨hl, hla, hsrc, hwf⟩ := HL.out
  refine (played_any la b off len cap zs w hl hlen hla hsrc hwf).mono ?_
  rintro e w1 ⟨x, F, rfl, hd, hk, hF⟩
  have H0 : Hid (One w w1 x (playD ((zs.take 20).map mkAct)) F) := ⟨hd, hk, hF⟩
  clear hd hk hF hl hla hsrc hwf HL
  generalize playD ((zs.take 20).map mkAct) = D at *
  have HG := Lib.hid hg
  have HLEN := Lib.hid hg.ok.len
  clear hg
  go_wp2_with fail
  refine (raw_any x _ F _ H0.out.disk (by rw [HLEN.out]; omega)).mono ?_
  rintro e w2 ⟨g2, c2, rfl, hown, hk⟩
  rw [HLEN.out] at hown
  rw [HLEN.out]
  have HR1 : Hid (Row w2 (.slice (some ⟨g2, 0, none⟩) 40 c2) 40 D.now F) := Row.mk' hown (H0.out.disk.foot_lt)
  have H2 := Lib.hid (H0.out.quiet hk)
  clear hown hk
  go_wp2_with fail
  refine (around_any at_ 41 _ at_1 at_2 (by omega) (by omega)).mono ?_
  rintro e _ ⟨rfl, rfl⟩
  obtain ⟨p, hp⟩ : ∃ k : Nat, around at_ 41 = k := ⟨(around at_ 41).toNat, by have := around_pos at_ 41 (by omega); omega⟩
  have bp : (p : Int) < 41 := by have := (around_pos at_ 41 (by omega)).2; rw [hp] at this; exact this
  rw [hp]
  clear hp
  go_wp2_with fail
  refine (around_any n (41 - (p : Int)) _ n1 n2 (by omega) (by omega)).mono ?_
  rintro e _ ⟨rfl, rfl⟩
  obtain ⟨k, hk⟩ : ∃ k : Nat, around n (41 - (p : Int)) = k := ⟨(around n (41 - (p : Int))).toNat, by have := around_pos n (41 - (p : Int)) (by omega); omega⟩
  have bk : (k : Int) < 41 - (p : Int) := by have := (around_pos n (41 - (p : Int)) (by omega)).2; rw [hk] at this; exact this
  rw [hk]
  clear hk
  have hpk : p + k ≤ 40 := by omega
  clear bp bk
  go_wp2_with fail
  refine (read_ok x p k D F _ H2.out.disk HG.out.ok.up (by rw [HLEN.out]; exact hpk) (by rw [HLEN.out]; omega)).mono ?_
  rintro e w3 ⟨gx, cx, rfl, hown, hk⟩
  have HRx : Hid (Row w3 (.slice (some ⟨gx, 0, none⟩) k cx) k ((D.now.drop p).take k) F) := Row.mk' hown H2.out.disk.foot_lt
  have H3 := Lib.hid (H2.out.quiet hk)
  have HR4 := Lib.hid (HR1.out.quiet hk)
  clear hown hk
  have hcall : 40 ≤ c2 := by rcases HR4.out.own.2 with ⟨h, h0⟩ | ⟨_, _, _, h, _, _, h', _⟩; omega; simp at h; omega
  obtain ⟨ad, had, hadp⟩ : ∃ ad : Addr, (if c2 = p then some (⟨g2, 0, none⟩ : Addr) else some ⟨g2, p, none⟩) = some ad ∧ (0 < k → ad = ⟨g2, p, none⟩) := by
    by_cases e : c2 = p
    · exact ⟨_, if_pos e, fun h => by omega⟩
    · exact ⟨_, if_neg e, fun _ => rfl⟩
  have j1 : (0 : Int) ≤ (p : Int) := by omega
  have j2 : (p : Int) ≤ (c2 : Int) := by omega
  have j3 : (p : Int) ≤ (p : Int) + (k : Int) := by omega
  have j4 : (p : Int) + (k : Int) ≤ (c2 : Int) := by omega
  have j5 : IntKind.i64.wrap ((p : Int) + (k : Int)) = (p : Int) + k := IntWalk.i64_in _ (by omega)
  have j6 : ((p : Int) + (k : Int)).toNat = p + k := by omega
  have j7 : p + k - p = k := by omega
  have HSUB : Hid (∀ w' : World, Row w' (.slice (some ⟨g2, 0, none⟩) 40 c2) 40 D.now F → (convert 27 9 (.slice (some ad) k (c2 - p))).run Try.prog w' = .ok (.string (strOf ((D.now.drop p).take k))) w') := fun w' h => run_str_sub h.own hpk hadp
  clear hadp
  go_wp2_with fail
  have H5 := Lib.hid (H3.out.quiet (Keeps.refl _ _).drew)
  have HR6 := Lib.hid (HR4.out.quiet (Keeps.refl _ _).drew)
  have HR7 := Lib.hid (HRx.out.quiet (Keeps.refl _ _).drew)
  refine z_begin (fun w' => (convert 27 9 (.slice (some ⟨gx, 0, none⟩) k cx)).run Try.prog w' = .ok (.string (strOf ((D.now.drop p).take k))) w' ∧ (convert 27 9 (.slice (some ad) k (c2 - p))).run Try.prog w' = .ok (.string (strOf ((D.now.drop p).take k))) w') 14 (by kernel_rfl) (⟨HR7.out.str, HSUB.out _ HR6.out⟩) (fun hHeld => ?_)
  refine z_take 0 (v := ?_) rfl (by kernel_rfl) (by kernel_rfl) (by kernel_rfl) (by kernel_rfl) (fun _ _ _ h => h) hHeld (by rfl) (fun w hSw => ?_) ?_
  rotate_left
  · obtain ⟨hSw1, hSw2⟩ := hSw; simp only [List.getElem_toArray, List.getElem_cons_zero]; go_simp; try rfl
  simp only [Act.put, List.getElem_toArray, List.getElem_cons_zero, List.setIfInBounds_toArray, List.set_cons_zero, List.set_cons_succ]
  refine z_take 1 (v := ?_) rfl (by kernel_rfl) (by kernel_rfl) (by kernel_rfl) (by kernel_rfl) (fun _ _ _ h => h) hHeld (by rfl) (fun w hSw => ?_) ?_
  rotate_left
  · obtain ⟨hSw1, hSw2⟩ := hSw; simp only [List.getElem_toArray, List.getElem_cons_zero, List.getElem_cons_succ]; go_simp; try rfl
  simp only [Act.put, List.getElem_toArray, List.getElem_cons_zero, List.getElem_cons_succ, List.setIfInBounds_toArray, List.set_cons_zero, List.set_cons_succ]
  refine z_take 2 (v := ?_) rfl (by kernel_rfl) (by kernel_rfl) (by kernel_rfl) (by kernel_rfl) (fun _ _ _ h => h) hHeld (by rfl) (fun w hSw => ?_) ?_
  rotate_left
  · obtain ⟨hSw1, hSw2⟩ := hSw; simp only [List.getElem_toArray, List.getElem_cons_zero, List.getElem_cons_succ]; go_simp; try rfl
  simp only [Act.put, List.getElem_toArray, List.getElem_cons_zero, List.getElem_cons_succ, List.setIfInBounds_toArray, List.set_cons_zero, List.set_cons_succ]
  refine z_take 3 (v := ?_) rfl (by kernel_rfl) (by kernel_rfl) (by kernel_rfl) (by kernel_rfl) (fun _ _ _ h => h) hHeld (by rfl) (fun w hSw => ?_) ?_
  rotate_left
  · obtain ⟨hSw1, hSw2⟩ := hSw; simp only [List.getElem_toArray, List.getElem_cons_zero, List.getElem_cons_succ]; go_simp; try rfl
  simp only [Act.put, List.getElem_toArray, List.getElem_cons_zero, List.getElem_cons_succ, List.setIfInBounds_toArray, List.set_cons_zero, List.set_cons_succ]
  refine z_take 4 (v := ?_) rfl (by kernel_rfl) (by kernel_rfl) (by kernel_rfl) (by kernel_rfl) (fun _ _ _ h => h) hHeld (by rfl) (fun w hSw => ?_) ?_
  rotate_left
  · obtain ⟨hSw1, hSw2⟩ := hSw; simp only [List.getElem_toArray, List.getElem_cons_zero, List.getElem_cons_succ]; go_simp; try rfl
  simp only [Act.put, List.getElem_toArray, List.getElem_cons_zero, List.getElem_cons_succ, List.setIfInBounds_toArray, List.set_cons_zero, List.set_cons_succ]
  refine z_take 5 (v := ?_) rfl (by kernel_rfl) (by kernel_rfl) (by kernel_rfl) (by kernel_rfl) (fun _ _ _ h => h) hHeld (by rfl) (fun w hSw => ?_) ?_
  rotate_left
  · obtain ⟨hSw1, hSw2⟩ := hSw; simp only [List.getElem_toArray, List.getElem_cons_zero, List.getElem_cons_succ]; go_simp; try rfl
  simp only [Act.put, List.getElem_toArray, List.getElem_cons_zero, List.getElem_cons_succ, List.setIfInBounds_toArray, List.set_cons_zero, List.set_cons_succ]
  refine z_take 6 (v := ?_) rfl (by kernel_rfl) (by kernel_rfl) (by kernel_rfl) (by kernel_rfl) (fun _ _ _ h => h) hHeld (by rfl) (fun w hSw => ?_) ?_
  rotate_left
  · obtain ⟨hSw1, hSw2⟩ := hSw; simp only [List.getElem_toArray, List.getElem_cons_zero, List.getElem_cons_succ]; go_simp; try rfl
  simp only [Act.put, List.getElem_toArray, List.getElem_cons_zero, List.getElem_cons_succ, List.setIfInBounds_toArray, List.set_cons_zero, List.set_cons_succ]
  refine z_take 7 (v := ?_) rfl (by kernel_rfl) (by kernel_rfl) (by kernel_rfl) (by kernel_rfl) (fun _ _ _ h => h) hHeld (by rfl) (fun w hSw => ?_) ?_
  rotate_left
  · obtain ⟨hSw1, hSw2⟩ := hSw; simp only [List.getElem_toArray, List.getElem_cons_zero, List.getElem_cons_succ]; go_simp; try rfl
  simp only [Act.put, List.getElem_toArray, List.getElem_cons_zero, List.getElem_cons_succ, List.setIfInBounds_toArray, List.set_cons_zero, List.set_cons_succ]
  refine z_take 8 (v := ?_) rfl (by kernel_rfl) (by kernel_rfl) (by kernel_rfl) (by kernel_rfl) (fun _ _ _ h => h) hHeld (by rfl) (fun w hSw => ?_) ?_
  rotate_left
  · obtain ⟨hSw1, hSw2⟩ := hSw; simp only [List.getElem_toArray, List.getElem_cons_zero, List.getElem_cons_succ]; go_simp; try rfl
  simp only [Act.put, List.getElem_toArray, List.getElem_cons_zero, List.getElem_cons_succ, List.setIfInBounds_toArray, List.set_cons_zero, List.set_cons_succ]
  refine z_take 9 (v := ?_) rfl (by kernel_rfl) (by kernel_rfl) (by kernel_rfl) (by kernel_rfl) (fun _ _ _ h => h) hHeld (by rfl) (fun w hSw => ?_) ?_
  rotate_left
  · obtain ⟨hSw1, hSw2⟩ := hSw; simp only [List.getElem_toArray, List.getElem_cons_zero, List.getElem_cons_succ]; go_simp; try rfl
  simp only [Act.put, List.getElem_toArray, List.getElem_cons_zero, List.getElem_cons_succ, List.setIfInBounds_toArray, List.set_cons_zero, List.set_cons_succ]
  refine z_take 10 (v := ?_) rfl (by kernel_rfl) (by kernel_rfl) (by kernel_rfl) (by kernel_rfl) (fun _ _ _ h => h) hHeld (by rfl) (fun w hSw => ?_) ?_
  rotate_left
  · obtain ⟨hSw1, hSw2⟩ := hSw; simp only [List.getElem_toArray, List.getElem_cons_zero, List.getElem_cons_succ]; go_simp; try rfl
  simp only [Act.put, List.getElem_toArray, List.getElem_cons_zero, List.getElem_cons_succ, List.setIfInBounds_toArray, List.set_cons_zero, List.set_cons_succ]
  refine z_take 11 (v := ?_) rfl (by kernel_rfl) (by kernel_rfl) (by kernel_rfl) (by kernel_rfl) (fun _ _ _ h => h) hHeld (by rfl) (fun w hSw => ?_) ?_
  rotate_left
  · obtain ⟨hSw1, hSw2⟩ := hSw; simp only [List.getElem_toArray, List.getElem_cons_zero, List.getElem_cons_succ]; go_simp; try rfl
  simp only [Act.put, List.getElem_toArray, List.getElem_cons_zero, List.getElem_cons_succ, List.setIfInBounds_toArray, List.set_cons_zero, List.set_cons_succ]
  refine z_take 12 (v := ?_) rfl (by kernel_rfl) (by kernel_rfl) (by kernel_rfl) (by kernel_rfl) (fun _ _ _ h => h) hHeld (by rfl) (fun w hSw => ?_) ?_
  rotate_left
  · obtain ⟨hSw1, hSw2⟩ := hSw; simp only [List.getElem_toArray, List.getElem_cons_zero, List.getElem_cons_succ]; go_simp; try rfl
  simp only [Act.put, List.getElem_toArray, List.getElem_cons_zero, List.getElem_cons_succ, List.setIfInBounds_toArray, List.set_cons_zero, List.set_cons_succ]
  refine z_take 13 (v := ?_) rfl (by kernel_rfl) (by kernel_rfl) (by kernel_rfl) (by kernel_rfl) (fun _ _ _ h => h) hHeld (by rfl) (fun w hSw => ?_) ?_
  rotate_left
  · obtain ⟨hSw1, hSw2⟩ := hSw; simp only [List.getElem_toArray, List.getElem_cons_zero, List.getElem_cons_succ]; go_simp; try rfl
  simp only [Act.put, List.getElem_toArray, List.getElem_cons_zero, List.getElem_cons_succ, List.setIfInBounds_toArray, List.set_cons_zero, List.set_cons_succ]
  refine z_done (by kernel_rfl) ?_ _
  clear had j1 j2 j3 j4 j5 j6 j7
  obtain ⟨an, rfl⟩ : ∃ k : Nat, at_ = k := ⟨at_.toNat, by omega⟩
  obtain ⟨nn, rfl⟩ : ∃ k : Nat, n = k := ⟨n.toNat, by omega⟩
  have hin : an + nn ≤ 40 := by omega
  go_wp2_with fail
  refine (read_ok x an nn D F _ H5.out.disk HG.out.ok.up (by rw [HLEN.out]; exact hin) (by rw [HLEN.out]; omega)).mono ?_
  rintro e w4 ⟨gq, cq, rfl, hown, hk⟩
  have H8 := Lib.hid (H5.out.quiet hk)
  clear hown hk
  go_wp2_with fail
  obtain ⟨hbl, hbn, hbs⟩ := HBS.out
  refine (few_any sa lenb capb 9 bs _ hbl hbc hbm (by omega) hbn (fun ad had j u hu => (H8.out.keep.cell (World.block_lt_of_cell? w _ (hbs ad had j u hu)) (fun h => h)).trans (hbs ad had j u hu))).mono ?_
  clear hbl hbn hbs
  rintro e w5 ⟨so, co, rfl, hown, hk⟩
  obtain ⟨m, hm⟩ : ∃ m, min lenb 9 = m := ⟨_, rfl⟩
  obtain ⟨lo, hlo⟩ : ∃ lo, lo = bs.take 9 := ⟨_, rfl⟩
  rw [← hlo] at hown
  rw [hm] at hown
  rw [hm]
  have hmb : m ≤ 9 := by omega
  have HLO : Hid (lo.length = m) := by show _ = _; rw [hlo, List.length_take, HBS.out.1]; omega
  have HRown : Hid (Row w5 (.slice so m co) m lo F) := Row.mk' hown (H8.out.disk.foot_lt)
  have HOB : Hid (∀ k, so = some ⟨k, 0, none⟩ → w.heap.size ≤ k) := fun k e => by have h1 := (own_lt hown e).1; have h2 := H8.out.keep.size; omega
  have H9 := Lib.hid (H8.out.quiet hk)
  clear hown hk hm hlo HBS hbc hbm
  have HOW : Hid ((D.write 0 lo).Ok 40 (220 + lo.length)) := write_okD HG.out.ok (by rw [HLO.out]; omega)
  have HLW := Lib.hid HOW.out.len
  have HWT : Hid (((D.write 0 lo).now.drop 0).take 40 = (D.write 0 lo).now) := by show _ = _; rw [List.drop_zero, List.take_of_length_le (by rw [HLW.out]; exact Nat.le_refl _)]
  go_wp2_with fail
  obtain ⟨sb, s1, s2, s3⟩ := HRown.out.src
  refine (write_ok x 0 lo m so sb 0 co D F _ H9.out.disk HG.out.ok.up HLO.out s1 s2 s3 (by rw [HLEN.out]; omega) (by rw [HLEN.out]; omega) (by have := HG.out.ok.lo; omega)).mono ?_
  rintro e w6 ⟨rfl, F6, hd, hk, hs⟩
  clear s1 s2 s3
  have H10 := Lib.hid (H9.out.step hd hk hs)
  have HR11 := Lib.hid (HRown.out.step hk hs)
  clear hd hk hs
  go_wp2_with fail
  refine (raw_any x (D.write 0 lo) F6 _ H10.out.disk (by rw [HLW.out]; omega)).mono ?_
  rintro e w7 ⟨gs, cs, rfl, hown, hk⟩
  rw [HLW.out] at hown
  rw [HLW.out]
  have HRs : Hid (Row w7 (.slice (some ⟨gs, 0, none⟩) 40 cs) 40 (D.write 0 lo).now (fun k => k < w6.heap.size)) := Row.mk' hown (fun k h => h)
  have H12 := Lib.hid (H10.out.quiet hk)
  have HR13 := Lib.hid (HR11.out.quiet hk)
  have hszs : w6.heap.size ≤ w7.heap.size := hk.size
  clear hown hk
  go_wp2_with fail
  refine (read_ok x 0 40 (D.write 0 lo) F6 _ H12.out.disk HOW.out.up (by rw [HLW.out]; omega) (by rw [HLW.out]; omega)).mono ?_
  rintro e w8 ⟨gy, cy, rfl, hown, hk⟩
  rw [HWT.out] at hown
  have HRy : Hid (Row w8 (.slice (some ⟨gy, 0, none⟩) 40 cy) 40 (D.write 0 lo).now (fun k => k < w7.heap.size)) := Row.mk' hown (fun k h => h)
  have H14 := Lib.hid (H12.out.quiet hk)
  have HR15 := Lib.hid (HR13.out.quiet hk)
  have HR16 := Lib.hid (HRs.out.quiet hk)
  have hszy : w7.heap.size ≤ w8.heap.size := hk.size
  clear hown hk
  go_wp2_with fail
  refine (raw_any x (D.write 0 lo) F6 _ H14.out.disk (by rw [HLW.out]; omega)).mono ?_
  rintro e w9 ⟨gz, cz, rfl, hown, hk⟩
  rw [HLW.out] at hown
  rw [HLW.out]
  have HRz : Hid (Row w9 (.slice (some ⟨gz, 0, none⟩) 40 cz) 40 (D.write 0 lo).now (fun k => k < w8.heap.size)) := Row.mk' hown (fun k h => h)
  have H17 := Lib.hid (H14.out.quiet hk)
  have HR18 := Lib.hid (HR15.out.quiet hk)
  have HR19 := Lib.hid (HR16.out.quiet hk)
  have HR20 := Lib.hid (HRy.out.quiet hk)
  have hszz : w8.heap.size ≤ w9.heap.size := hk.size
  clear hown hk
  have HBo : Hid (∀ k, so = some ⟨k, 0, none⟩ → k < w6.heap.size ∧ w.heap.size ≤ k ∧ ¬ F6 k) := fun k e => ⟨(own_lt HR11.out.own e).2, HOB.out k e, fun hf => HR18.out.ap k (by rw [e]; rfl) hf⟩
  have HBs : Hid (gs < w7.heap.size ∧ w6.heap.size ≤ gs) := ⟨(own_lt HRs.out.own rfl).2, Nat.le_of_not_lt (HRs.out.ap gs rfl)⟩
  have HBy : Hid (w7.heap.size ≤ gy) := Nat.le_of_not_lt (HRy.out.ap gy rfl)
  have HBz : Hid (w8.heap.size ≤ gz ∧ gy < w8.heap.size) := ⟨Nat.le_of_not_lt (HRz.out.ap gz rfl), (own_lt HRy.out.own rfl).2⟩
  have HFl : Hid (∀ k, F6 k → k < w6.heap.size) := H10.out.disk.foot_lt
  have hW0 : w.heap.size ≤ w6.heap.size := H10.out.keep.size
  go_wp2_with fail
  go_loopw [23] (fun i wr => RdRel1 w9 so m co i wr) (fun i _ => m - (intOf i).toNat)
  case atStart => exact ⟨0, lo, Nat.zero_le _, rfl, HR18.out.own, Keeps.refl _ _⟩
  case round =>
    obtain ⟨q, l', hq, rfl, hrow, hkp⟩ := hrel
    have HB := Lib.hid (And.intro hrow hkp)
    clear hrow hkp
    by_cases hlt : q < m
    · obtain ⟨gso, rfl⟩ : ∃ g, so = some ⟨g, 0, none⟩ := by
        rcases own_addr HB.out.1 with ⟨_, h, _⟩ | h
        · omega
        · exact h
      have hll : l'.length = m := by have := HB.out.1.1; simpa using this
      obtain ⟨c, hc⟩ : ∃ c, l'[q]? = some c := ⟨_, List.getElem?_eq_getElem (by omega)⟩
      have c1 := own_cell HB.out.1 q _ (show (BV l')[q]? = some (.int .u8 c.toNat) by rw [BV_get, hc]; rfl)
      have c2 := HB.out.1.frozenAt q
      have HS : Hid (∀ v : Int, 0 ≤ v → v < 256 → RdRel1 w9 (some ⟨gso, 0, none⟩) m co (.int .i64 ((q + 1 : Nat) : Int)) (wr.setCell ⟨gso, q, none⟩ (.int .u8 v))) := fun v h1 h2 => ⟨q + 1, l'.set q (UInt8.ofNat v.toNat), by omega, rfl, by rw [BV_set l' q v h1 h2]; exact (HB.out.1.stored q (.int .u8 v)).1, Keeps.setCell (F := fun j => some (⟨gso, 0, none⟩ : Addr) = some ⟨j, 0, none⟩) HB.out.2 (p := ⟨gso, q, none⟩) (fun _ => rfl) _⟩
      have hcb : c.toNat < 256 := c.toNat_lt
      have t1 : (0 : Int) ≤ (q : Int) := by omega
      have t2 : (q : Int) < (m : Int) := by omega
      clear hll hc
      go_wp2
      go_roundw
      case rel => exact HS.out _ (by omega) (by omega)
      case measure => simp [intOf]; omega
    · obtain rfl : q = m := by omega
      have HA : Hid (One w wr x (D.write 0 lo) F6) := H17.out.touch _ HB.out.2 (fun k e => (HBo.out k e).2.1) (fun k hf e => (HBo.out k e).2.2 hf)
      have HRs2 := Lib.hid (own_keep HR19.out.own HB.out.2 (fun k e hf => by simp [Value.ownBlock] at e; have := (HBo.out k hf).1; have := HBs.out.2; omega))
      have HRy2 := Lib.hid (own_keep HR20.out.own HB.out.2 (fun k e hf => by simp [Value.ownBlock] at e; have := (HBo.out k hf).1; have := HBy.out; omega))
      have HRz2 := Lib.hid (own_keep HRz.out.own HB.out.2 (fun k e hf => by simp [Value.ownBlock] at e; have := (HBo.out k hf).1; have := HBz.out.1; omega))
      clear HB
      obtain ⟨wB, rfl⟩ : ∃ wB : World, wB = wr := ⟨_, rfl⟩
      go_wp2_with fail
      go_loopw [24] (fun i wr => RdRel2 wB gy cy gz cz i wr) (fun i _ => 40 - (intOf i).toNat)
      case atStart => exact ⟨0, _, _, Nat.zero_le _, rfl, HRy2.out, HRz2.out, Keeps.refl _ _⟩
      case round =>
        obtain ⟨q2, ly, lz, hq2, rfl, hrowy, hrowz, hkp⟩ := hrel
        have HB := Lib.hid (And.intro hrowy (And.intro hrowz hkp))
        clear hrowy hrowz hkp
        by_cases hlt2 : q2 < 40
        · have hly : ly.length = 40 := by have := HB.out.1.1; simpa using this
          have hlz : lz.length = 40 := by have := HB.out.2.1.1; simpa using this
          obtain ⟨c, hc⟩ : ∃ c, ly[q2]? = some c := ⟨_, List.getElem?_eq_getElem (by omega)⟩
          obtain ⟨d, hd⟩ : ∃ c, lz[q2]? = some c := ⟨_, List.getElem?_eq_getElem (by omega)⟩
          have c1 := own_cell HB.out.1 q2 _ (show (BV ly)[q2]? = some (.int .u8 c.toNat) by rw [BV_get, hc]; rfl)
          have c2 := HB.out.1.frozenAt q2
          have hne : gy ≠ gz := by have := HBz.out; omega
          have HS1 : Hid (∀ v : Value, Keeps (fun j => j = gy) wr (wr.setCell ⟨gy, q2, none⟩ v)) := fun v => (Keeps.refl (fun j => j = gy) wr).setCell (p := ⟨gy, q2, none⟩) (fun _ => rfl) v
          have c3 : ∀ v : Value, (wr.setCell ⟨gy, q2, none⟩ v).cell? ⟨gz, q2, none⟩ = some (.int .u8 d.toNat) := fun v => ((HS1.out v).cell (p := ⟨gz, q2, none⟩) (own_lt HB.out.2.1 rfl).2 (fun e => hne e.symm)).trans (own_cell HB.out.2.1 q2 _ (show (BV lz)[q2]? = some (.int .u8 d.toNat) by rw [BV_get, hd]; rfl))
          have c4 : ∀ v : Value, (wr.setCell ⟨gy, q2, none⟩ v).frozen? ⟨gz, q2, none⟩ = false := fun v => ((HS1.out v).frozen (p := ⟨gz, q2, none⟩) (own_lt HB.out.2.1 rfl).2 (fun e => hne e.symm)).trans (HB.out.2.1.frozenAt q2)
          have HS : Hid (∀ v v' : Int, 0 ≤ v → v < 256 → 0 ≤ v' → v' < 256 → RdRel2 wB gy cy gz cz (.int .i64 ((q2 + 1 : Nat) : Int)) ((wr.setCell ⟨gy, q2, none⟩ (.int .u8 v)).setCell ⟨gz, q2, none⟩ (.int .u8 v'))) := fun v v' h1 h2 h3 h4 => by
            refine ⟨q2 + 1, ly.set q2 (UInt8.ofNat v.toNat), lz.set q2 (UInt8.ofNat v'.toNat), by omega, rfl, ?_, ?_, ?_⟩
            · rw [BV_set ly q2 v h1 h2]
              exact own_keep (HB.out.1.stored q2 (.int .u8 v)).1 ((Keeps.refl (fun j => j = gz) _).setCell (p := ⟨gz, q2, none⟩) (fun _ => rfl) _) (fun k e => by simp [Value.ownBlock] at e; omega)
            · rw [BV_set lz q2 v' h3 h4]
              exact ((own_keep HB.out.2.1 (HS1.out (.int .u8 v)) (fun k e => by simp [Value.ownBlock] at e; omega)).stored q2 (.int .u8 v')).1
            · exact Keeps.setCell (F := fun j => j = gy ∨ j = gz) (Keeps.setCell (F := fun j => j = gy ∨ j = gz) HB.out.2.2 (p := ⟨gy, q2, none⟩) (fun _ => Or.inl rfl) _) (p := ⟨gz, q2, none⟩) (fun _ => Or.inr rfl) _
          have hcb : c.toNat < 256 := c.toNat_lt
          have hdb : d.toNat < 256 := d.toNat_lt
          have t1 : (0 : Int) ≤ (q2 : Int) := by omega
          have t2 : (q2 : Int) < 40 := by omega
          clear hly hlz hc hd hne
          go_wp2
          go_roundw
          case rel => exact HS.out _ _ (by omega) (by omega) (by omega) (by omega)
          case measure => simp [intOf]; omega
        · obtain rfl : q2 = 40 := by omega
          have HA2 : Hid (One w wr x (D.write 0 lo) F6) := HA.out.touch _ HB.out.2.2 (fun k e => by have h1 := HBy.out; have h2 := HBz.out; omega) (fun k hf e => by have h1 := HFl.out k hf; have h2 := HBy.out; have h3 := HBz.out; have h4 := HBs.out; omega)
          have HRs3 : Hid (Row wr (.slice (some ⟨gs, 0, none⟩) 40 cs) 40 (D.write 0 lo).now F6) := ⟨own_keep HRs2.out HB.out.2.2 (fun k e hf => by simp [Value.ownBlock] at e; have h1 := HBs.out; have h2 := HBy.out; have h3 := HBz.out; omega), fun k e hf => by simp [Value.ownBlock] at e; have h1 := HFl.out k hf; have h2 := HBs.out; omega⟩
          clear HB
          go_wp2_with fail
          have H21 := Lib.hid (HA2.out.quiet (Keeps.refl _ _).drew)
          have HR22 := Lib.hid (HRs3.out.quiet (Keeps.refl _ _).drew)
          refine z_begin (fun w' => (convert 27 9 (.slice (some ⟨gs, 0, none⟩) 40 cs)).run Try.prog w' = .ok (.string (strOf (D.write 0 lo).now)) w' ∧ True) 10 (by kernel_rfl) (⟨HR22.out.str, trivial⟩) (fun hHeld => ?_)
          refine z_take 0 (v := ?_) rfl (by kernel_rfl) (by kernel_rfl) (by kernel_rfl) (by kernel_rfl) (fun _ _ _ h => h) hHeld (by rfl) (fun w hSw => ?_) ?_
          rotate_left
          · obtain ⟨hSw1, hSw2⟩ := hSw; simp only [List.getElem_toArray, List.getElem_cons_zero]; go_simp; try rfl
          simp only [Act.put, List.getElem_toArray, List.getElem_cons_zero, List.setIfInBounds_toArray, List.set_cons_zero, List.set_cons_succ]
          refine z_take 3 (v := ?_) rfl (by kernel_rfl) (by kernel_rfl) (by kernel_rfl) (by kernel_rfl) (fun _ _ _ h => h) hHeld (by rfl) (fun w hSw => ?_) ?_
          rotate_left
          · obtain ⟨hSw1, hSw2⟩ := hSw; simp only [List.getElem_toArray, List.getElem_cons_zero, List.getElem_cons_succ]; go_simp; try rfl
          simp only [Act.put, List.getElem_toArray, List.getElem_cons_zero, List.getElem_cons_succ, List.setIfInBounds_toArray, List.set_cons_zero, List.set_cons_succ]
          refine z_take 4 (v := ?_) rfl (by kernel_rfl) (by kernel_rfl) (by kernel_rfl) (by kernel_rfl) (fun _ _ _ h => h) hHeld (by rfl) (fun w hSw => ?_) ?_
          rotate_left
          · obtain ⟨hSw1, hSw2⟩ := hSw; simp only [List.getElem_toArray, List.getElem_cons_zero, List.getElem_cons_succ]; go_simp; try rfl
          simp only [Act.put, List.getElem_toArray, List.getElem_cons_zero, List.getElem_cons_succ, List.setIfInBounds_toArray, List.set_cons_zero, List.set_cons_succ]
          refine z_one 1 rfl (by kernel_rfl) (by rfl) (fun K hK => ?_)
          simp only [List.getElem_toArray, List.getElem_cons_zero, List.getElem_cons_succ]
          go_simp
          refine (raw_any x _ F6 _ H21.out.disk (by rw [HLW.out]; omega)).mono ?_
          rintro e w10 ⟨g10, c10, rfl, hown, hk⟩
          rw [HLW.out] at hown
          rw [HLW.out]
          have HR23 : Hid (Row w10 (.slice (some ⟨g10, 0, none⟩) 40 c10) 40 (D.write 0 lo).now F6) := Row.mk' hown (H21.out.disk.foot_lt)
          have H24 := Lib.hid (H21.out.quiet hk)
          have HR25 := Lib.hid (HR22.out.quiet hk)
          clear hown hk
          refine hK _ _ (Or.inr ?_) (fun hHeld => ?_)
          · exact ⟨HR25.out.str, trivial⟩
          clear hK K
          replace hHeld := hHeld.resolve_left (by decide)
          try simp only [Act.put, List.setIfInBounds_toArray, List.set_cons_zero, List.set_cons_succ]
          refine z_more (fun w' => (convert 27 9 (.slice (some ⟨g10, 0, none⟩) 40 c10)).run Try.prog w' = .ok (.string (strOf (D.write 0 lo).now)) w' ∧ (convert 27 9 (.slice (some ⟨gs, 0, none⟩) 40 cs)).run Try.prog w' = .ok (.string (strOf (D.write 0 lo).now)) w' ∧ True) (fun _ h => h.2) _ _ _ _ ?_
          replace hHeld : (convert 27 9 (.slice (some ⟨g10, 0, none⟩) 40 c10)).run Try.prog w10 = .ok (.string (strOf (D.write 0 lo).now)) w10 ∧ (convert 27 9 (.slice (some ⟨gs, 0, none⟩) 40 cs)).run Try.prog w10 = .ok (.string (strOf (D.write 0 lo).now)) w10 ∧ True := ⟨HR23.out.str, HR25.out.str, trivial⟩
          refine z_take 2 (v := ?_) rfl (by kernel_rfl) (by kernel_rfl) (by kernel_rfl) (by kernel_rfl) (fun _ _ _ h => h) hHeld (by rfl) (fun w hSw => ?_) ?_
          rotate_left
          · obtain ⟨hSw1, hSw2, hSw3⟩ := hSw; simp only [List.getElem_toArray, List.getElem_cons_zero, List.getElem_cons_succ]; go_simp; try rfl
          simp only [Act.put, List.getElem_toArray, List.getElem_cons_zero, List.getElem_cons_succ, List.setIfInBounds_toArray, List.set_cons_zero, List.set_cons_succ]
          refine z_take 5 (v := ?_) rfl (by kernel_rfl) (by kernel_rfl) (by kernel_rfl) (by kernel_rfl) (fun _ _ _ h => h) hHeld (by rfl) (fun w hSw => ?_) ?_
          rotate_left
          · obtain ⟨hSw1, hSw2, hSw3⟩ := hSw; simp only [List.getElem_toArray, List.getElem_cons_zero, List.getElem_cons_succ]; go_simp; try rfl
          simp only [Act.put, List.getElem_toArray, List.getElem_cons_zero, List.getElem_cons_succ, List.setIfInBounds_toArray, List.set_cons_zero, List.set_cons_succ]
          refine z_take 6 (v := ?_) rfl (by kernel_rfl) (by kernel_rfl) (by kernel_rfl) (by kernel_rfl) (fun _ _ _ h => h) hHeld (by rfl) (fun w hSw => ?_) ?_
          rotate_left
          · obtain ⟨hSw1, hSw2, hSw3⟩ := hSw; simp only [List.getElem_toArray, List.getElem_cons_zero, List.getElem_cons_succ]; go_simp; try rfl
          simp only [Act.put, List.getElem_toArray, List.getElem_cons_zero, List.getElem_cons_succ, List.setIfInBounds_toArray, List.set_cons_zero, List.set_cons_succ]
          refine z_one 7 rfl (by kernel_rfl) (by rfl) (fun K hK => ?_)
          simp only [List.getElem_toArray, List.getElem_cons_zero, List.getElem_cons_succ]
          go_simp
          refine (lives_any _).mono ?_
          rintro e w11 ⟨rfl, hk⟩
          have H26 := Lib.hid (H24.out.quiet hk)
          have HR27 := Lib.hid (HR25.out.quiet hk)
          have HR28 := Lib.hid (HR23.out.quiet hk)
          clear hk
          refine hK _ _ (Or.inr ?_) (fun hHeld => ?_)
          · exact ⟨HR28.out.str, HR27.out.str, trivial⟩
          clear hK K
          replace hHeld := hHeld.resolve_left (by decide)
          try simp only [Act.put, List.setIfInBounds_toArray, List.set_cons_zero, List.set_cons_succ]
          refine z_take 8 (v := ?_) rfl (by kernel_rfl) (by kernel_rfl) (by kernel_rfl) (by kernel_rfl) (fun _ _ _ h => h) hHeld (by rfl) (fun w hSw => ?_) ?_
          rotate_left
          · obtain ⟨hSw1, hSw2, hSw3⟩ := hSw; simp only [List.getElem_toArray, List.getElem_cons_zero, List.getElem_cons_succ]; go_simp; try rfl
          simp only [Act.put, List.getElem_toArray, List.getElem_cons_zero, List.getElem_cons_succ, List.setIfInBounds_toArray, List.set_cons_zero, List.set_cons_succ]
          refine z_one 9 rfl (by kernel_rfl) (by rfl) (fun K hK => ?_)
          simp only [List.getElem_toArray, List.getElem_cons_zero, List.getElem_cons_succ]
          go_simp
          refine hK _ _ (Or.inr ?_) (fun hHeld => ?_)
          · exact hHeld
          clear hK K
          replace hHeld := hHeld.resolve_left (by decide)
          try simp only [Act.put, List.setIfInBounds_toArray, List.set_cons_zero, List.set_cons_succ]
          refine z_done (by kernel_rfl) ?_ _
          go_wp2
          go_ret
          exact ⟨rfl, H26.out.below⟩
set_option maxHeartbeats 4000000 in
set_option maxRecDepth 100000 in
theorem reads_no1 (la : Option Addr) (b off len cap : Nat) (zs : List Int) (at_ n : Int) (sa : Option Addr) (lenb capb : Nat) (bs : List UInt8) (w : World) (hl : zs.length = len) (hlen : len ≤ 9223372036854775807) (hla : 0 < len → la = some ⟨b, off, none⟩) (hsrc : ∀ j z, zs[j]? = some z → w.cell? ⟨b, off + j, none⟩ = some (.int .i64 z)) (hwf : ∀ z ∈ zs, -9223372036854775808 ≤ z ∧ z ≤ 9223372036854775807) (at_1 : -9223372036854775808 ≤ at_) (at_2 : at_ ≤ 9223372036854775807) (n1 : -9223372036854775808 ≤ n) (n2 : n ≤ 9223372036854775807) (hbl : bs.length = lenb) (hbc : lenb ≤ capb) (hbm : capb ≤ 9223372036854775807) (hbn : sa = none → lenb = 0 ∧ capb = 0) (hbs : ∀ ad, sa = some ad → ∀ (j : Nat) (u : Value), (BV bs)[j]? = some u → w.cell? (ad.add j) = some u) (v1 : at_ < 0) :
    Calls Try.prog 10 #[.slice la len cap, .int .i64 at_, .int .i64 n, .slice sa lenb capb] w fun e w' => e = .returned (.bool true) ∧ Below w.heap.size w w' := by
  have HL := Lib.hid (And.intro hl (And.intro hla (And.intro hsrc hwf)))
  have HBS := Lib.hid (And.intro hbl (And.intro hbn hbs))
  clear hl hla hsrc hwf hbl hbn hbs
  have hg := playD_good zs
  have HIN : Hid (inB at_ n (playD ((zs.take 20).map mkAct)).now.length = false) := by show _ = _; rw [hg.ok.len]; unfold inB; simp; omega
  go_enter Try.func10, Try.ntmps10
  go_wp2_with fail
  obtain ⟨hl, hla, hsrc, hwf⟩ := HL.out
  refine (played_any la b off len cap zs w hl hlen hla hsrc hwf).mono ?_
  rintro e w1 ⟨x, F, rfl, hd, hk, hF⟩
  have H0 : Hid (One w w1 x (playD ((zs.take 20).map mkAct)) F) := ⟨hd, hk, hF⟩
  clear hd hk hF hl hla hsrc hwf HL
  generalize playD ((zs.take 20).map mkAct) = D at *
  have HG := Lib.hid hg
  have HLEN := Lib.hid hg.ok.len
  clear hg
  go_wp2_with fail
  refine (raw_any x _ F _ H0.out.disk (by rw [HLEN.out]; omega)).mono ?_
  rintro e w2 ⟨g2, c2, rfl, hown, hk⟩
  rw [HLEN.out] at hown
  rw [HLEN.out]
  have HR1 : Hid (Row w2 (.slice (some ⟨g2, 0, none⟩) 40 c2) 40 D.now F) := Row.mk' hown (H0.out.disk.foot_lt)
  have H2 := Lib.hid (H0.out.quiet hk)
  clear hown hk
  go_wp2_with fail
  refine (around_any at_ 41 _ at_1 at_2 (by omega) (by omega)).mono ?_
  rintro e _ ⟨rfl, rfl⟩
  obtain ⟨p, hp⟩ : ∃ k : Nat, around at_ 41 = k := ⟨(around at_ 41).toNat, by have := around_pos at_ 41 (by omega); omega⟩
  have bp : (p : Int) < 41 := by have := (around_pos at_ 41 (by omega)).2; rw [hp] at this; exact this
  rw [hp]
  clear hp
  go_wp2_with fail
  refine (around_any n (41 - (p : Int)) _ n1 n2 (by omega) (by omega)).mono ?_
  rintro e _ ⟨rfl, rfl⟩
  obtain ⟨k, hk⟩ : ∃ k : Nat, around n (41 - (p : Int)) = k := ⟨(around n (41 - (p : Int))).toNat, by have := around_pos n (41 - (p : Int)) (by omega); omega⟩
  have bk : (k : Int) < 41 - (p : Int) := by have := (around_pos n (41 - (p : Int)) (by omega)).2; rw [hk] at this; exact this
  rw [hk]
  clear hk
  have hpk : p + k ≤ 40 := by omega
  clear bp bk
  go_wp2_with fail
  refine (read_ok x p k D F _ H2.out.disk HG.out.ok.up (by rw [HLEN.out]; exact hpk) (by rw [HLEN.out]; omega)).mono ?_
  rintro e w3 ⟨gx, cx, rfl, hown, hk⟩
  have HRx : Hid (Row w3 (.slice (some ⟨gx, 0, none⟩) k cx) k ((D.now.drop p).take k) F) := Row.mk' hown H2.out.disk.foot_lt
  have H3 := Lib.hid (H2.out.quiet hk)
  have HR4 := Lib.hid (HR1.out.quiet hk)
  clear hown hk
  have hcall : 40 ≤ c2 := by rcases HR4.out.own.2 with ⟨h, h0⟩ | ⟨_, _, _, h, _, _, h', _⟩; omega; simp at h; omega
  obtain ⟨ad, had, hadp⟩ : ∃ ad : Addr, (if c2 = p then some (⟨g2, 0, none⟩ : Addr) else some ⟨g2, p, none⟩) = some ad ∧ (0 < k → ad = ⟨g2, p, none⟩) := by
    by_cases e : c2 = p
    · exact ⟨_, if_pos e, fun h => by omega⟩
    · exact ⟨_, if_neg e, fun _ => rfl⟩
  have j1 : (0 : Int) ≤ (p : Int) := by omega
  have j2 : (p : Int) ≤ (c2 : Int) := by omega
  have j3 : (p : Int) ≤ (p : Int) + (k : Int) := by omega
  have j4 : (p : Int) + (k : Int) ≤ (c2 : Int) := by omega
  have j5 : IntKind.i64.wrap ((p : Int) + (k : Int)) = (p : Int) + k := IntWalk.i64_in _ (by omega)
  have j6 : ((p : Int) + (k : Int)).toNat = p + k := by omega
  have j7 : p + k - p = k := by omega
  have HSUB : Hid (∀ w' : World, Row w' (.slice (some ⟨g2, 0, none⟩) 40 c2) 40 D.now F → (convert 27 9 (.slice (some ad) k (c2 - p))).run Try.prog w' = .ok (.string (strOf ((D.now.drop p).take k))) w') := fun w' h => run_str_sub h.own hpk hadp
  clear hadp
  go_wp2_with fail
  have H5 := Lib.hid (H3.out.quiet (Keeps.refl _ _).drew)
  have HR6 := Lib.hid (HR4.out.quiet (Keeps.refl _ _).drew)
  have HR7 := Lib.hid (HRx.out.quiet (Keeps.refl _ _).drew)
  refine z_begin (fun w' => (convert 27 9 (.slice (some ⟨gx, 0, none⟩) k cx)).run Try.prog w' = .ok (.string (strOf ((D.now.drop p).take k))) w' ∧ (convert 27 9 (.slice (some ad) k (c2 - p))).run Try.prog w' = .ok (.string (strOf ((D.now.drop p).take k))) w') 14 (by kernel_rfl) (⟨HR7.out.str, HSUB.out _ HR6.out⟩) (fun hHeld => ?_)
  refine z_take 0 (v := ?_) rfl (by kernel_rfl) (by kernel_rfl) (by kernel_rfl) (by kernel_rfl) (fun _ _ _ h => h) hHeld (by rfl) (fun w hSw => ?_) ?_
  rotate_left
  · obtain ⟨hSw1, hSw2⟩ := hSw; simp only [List.getElem_toArray, List.getElem_cons_zero]; go_simp; try rfl
  simp only [Act.put, List.getElem_toArray, List.getElem_cons_zero, List.setIfInBounds_toArray, List.set_cons_zero, List.set_cons_succ]
  refine z_take 1 (v := ?_) rfl (by kernel_rfl) (by kernel_rfl) (by kernel_rfl) (by kernel_rfl) (fun _ _ _ h => h) hHeld (by rfl) (fun w hSw => ?_) ?_
  rotate_left
  · obtain ⟨hSw1, hSw2⟩ := hSw; simp only [List.getElem_toArray, List.getElem_cons_zero, List.getElem_cons_succ]; go_simp; try rfl
  simp only [Act.put, List.getElem_toArray, List.getElem_cons_zero, List.getElem_cons_succ, List.setIfInBounds_toArray, List.set_cons_zero, List.set_cons_succ]
  refine z_take 2 (v := ?_) rfl (by kernel_rfl) (by kernel_rfl) (by kernel_rfl) (by kernel_rfl) (fun _ _ _ h => h) hHeld (by rfl) (fun w hSw => ?_) ?_
  rotate_left
  · obtain ⟨hSw1, hSw2⟩ := hSw; simp only [List.getElem_toArray, List.getElem_cons_zero, List.getElem_cons_succ]; go_simp; try rfl
  simp only [Act.put, List.getElem_toArray, List.getElem_cons_zero, List.getElem_cons_succ, List.setIfInBounds_toArray, List.set_cons_zero, List.set_cons_succ]
  refine z_take 3 (v := ?_) rfl (by kernel_rfl) (by kernel_rfl) (by kernel_rfl) (by kernel_rfl) (fun _ _ _ h => h) hHeld (by rfl) (fun w hSw => ?_) ?_
  rotate_left
  · obtain ⟨hSw1, hSw2⟩ := hSw; simp only [List.getElem_toArray, List.getElem_cons_zero, List.getElem_cons_succ]; go_simp; try rfl
  simp only [Act.put, List.getElem_toArray, List.getElem_cons_zero, List.getElem_cons_succ, List.setIfInBounds_toArray, List.set_cons_zero, List.set_cons_succ]
  refine z_take 4 (v := ?_) rfl (by kernel_rfl) (by kernel_rfl) (by kernel_rfl) (by kernel_rfl) (fun _ _ _ h => h) hHeld (by rfl) (fun w hSw => ?_) ?_
  rotate_left
  · obtain ⟨hSw1, hSw2⟩ := hSw; simp only [List.getElem_toArray, List.getElem_cons_zero, List.getElem_cons_succ]; go_simp; try rfl
  simp only [Act.put, List.getElem_toArray, List.getElem_cons_zero, List.getElem_cons_succ, List.setIfInBounds_toArray, List.set_cons_zero, List.set_cons_succ]
  refine z_take 5 (v := ?_) rfl (by kernel_rfl) (by kernel_rfl) (by kernel_rfl) (by kernel_rfl) (fun _ _ _ h => h) hHeld (by rfl) (fun w hSw => ?_) ?_
  rotate_left
  · obtain ⟨hSw1, hSw2⟩ := hSw; simp only [List.getElem_toArray, List.getElem_cons_zero, List.getElem_cons_succ]; go_simp; try rfl
  simp only [Act.put, List.getElem_toArray, List.getElem_cons_zero, List.getElem_cons_succ, List.setIfInBounds_toArray, List.set_cons_zero, List.set_cons_succ]
  refine z_take 6 (v := ?_) rfl (by kernel_rfl) (by kernel_rfl) (by kernel_rfl) (by kernel_rfl) (fun _ _ _ h => h) hHeld (by rfl) (fun w hSw => ?_) ?_
  rotate_left
  · obtain ⟨hSw1, hSw2⟩ := hSw; simp only [List.getElem_toArray, List.getElem_cons_zero, List.getElem_cons_succ]; go_simp; try rfl
  simp only [Act.put, List.getElem_toArray, List.getElem_cons_zero, List.getElem_cons_succ, List.setIfInBounds_toArray, List.set_cons_zero, List.set_cons_succ]
  refine z_take 7 (v := ?_) rfl (by kernel_rfl) (by kernel_rfl) (by kernel_rfl) (by kernel_rfl) (fun _ _ _ h => h) hHeld (by rfl) (fun w hSw => ?_) ?_
  rotate_left
  · obtain ⟨hSw1, hSw2⟩ := hSw; simp only [List.getElem_toArray, List.getElem_cons_zero, List.getElem_cons_succ]; go_simp; try rfl
  simp only [Act.put, List.getElem_toArray, List.getElem_cons_zero, List.getElem_cons_succ, List.setIfInBounds_toArray, List.set_cons_zero, List.set_cons_succ]
  refine z_take 8 (v := ?_) rfl (by kernel_rfl) (by kernel_rfl) (by kernel_rfl) (by kernel_rfl) (fun _ _ _ h => h) hHeld (by rfl) (fun w hSw => ?_) ?_
  rotate_left
  · obtain ⟨hSw1, hSw2⟩ := hSw; simp only [List.getElem_toArray, List.getElem_cons_zero, List.getElem_cons_succ]; go_simp; try rfl
  simp only [Act.put, List.getElem_toArray, List.getElem_cons_zero, List.getElem_cons_succ, List.setIfInBounds_toArray, List.set_cons_zero, List.set_cons_succ]
  refine z_take 9 (v := ?_) rfl (by kernel_rfl) (by kernel_rfl) (by kernel_rfl) (by kernel_rfl) (fun _ _ _ h => h) hHeld (by rfl) (fun w hSw => ?_) ?_
  rotate_left
  · obtain ⟨hSw1, hSw2⟩ := hSw; simp only [List.getElem_toArray, List.getElem_cons_zero, List.getElem_cons_succ]; go_simp; try rfl
  simp only [Act.put, List.getElem_toArray, List.getElem_cons_zero, List.getElem_cons_succ, List.setIfInBounds_toArray, List.set_cons_zero, List.set_cons_succ]
  refine z_take 10 (v := ?_) rfl (by kernel_rfl) (by kernel_rfl) (by kernel_rfl) (by kernel_rfl) (fun _ _ _ h => h) hHeld (by rfl) (fun w hSw => ?_) ?_
  rotate_left
  · obtain ⟨hSw1, hSw2⟩ := hSw; simp only [List.getElem_toArray, List.getElem_cons_zero, List.getElem_cons_succ]; go_simp; try rfl
  simp only [Act.put, List.getElem_toArray, List.getElem_cons_zero, List.getElem_cons_succ, List.setIfInBounds_toArray, List.set_cons_zero, List.set_cons_succ]
  refine z_take 11 (v := ?_) rfl (by kernel_rfl) (by kernel_rfl) (by kernel_rfl) (by kernel_rfl) (fun _ _ _ h => h) hHeld (by rfl) (fun w hSw => ?_) ?_
  rotate_left
  · obtain ⟨hSw1, hSw2⟩ := hSw; simp only [List.getElem_toArray, List.getElem_cons_zero, List.getElem_cons_succ]; go_simp; try rfl
  simp only [Act.put, List.getElem_toArray, List.getElem_cons_zero, List.getElem_cons_succ, List.setIfInBounds_toArray, List.set_cons_zero, List.set_cons_succ]
  refine z_take 12 (v := ?_) rfl (by kernel_rfl) (by kernel_rfl) (by kernel_rfl) (by kernel_rfl) (fun _ _ _ h => h) hHeld (by rfl) (fun w hSw => ?_) ?_
  rotate_left
  · obtain ⟨hSw1, hSw2⟩ := hSw; simp only [List.getElem_toArray, List.getElem_cons_zero, List.getElem_cons_succ]; go_simp; try rfl
  simp only [Act.put, List.getElem_toArray, List.getElem_cons_zero, List.getElem_cons_succ, List.setIfInBounds_toArray, List.set_cons_zero, List.set_cons_succ]
  refine z_take 13 (v := ?_) rfl (by kernel_rfl) (by kernel_rfl) (by kernel_rfl) (by kernel_rfl) (fun _ _ _ h => h) hHeld (by rfl) (fun w hSw => ?_) ?_
  rotate_left
  · obtain ⟨hSw1, hSw2⟩ := hSw; simp only [List.getElem_toArray, List.getElem_cons_zero, List.getElem_cons_succ]; go_simp; try rfl
  simp only [Act.put, List.getElem_toArray, List.getElem_cons_zero, List.getElem_cons_succ, List.setIfInBounds_toArray, List.set_cons_zero, List.set_cons_succ]
  refine z_done (by kernel_rfl) ?_ _
  clear had j1 j2 j3 j4 j5 j6 j7
  go_wp2_with fail
  refine (read_no x at_ n D F _ H5.out.disk HG.out.ok.up HIN.out (by rw [HLEN.out]; omega)).mono ?_
  rintro e w4 ⟨rfl, hk⟩
  have H8 := Lib.hid (H5.out.quiet hk)
  clear hk
  go_wp2_with fail
  obtain ⟨hbl, hbn, hbs⟩ := HBS.out
  refine (few_any sa lenb capb 9 bs _ hbl hbc hbm (by omega) hbn (fun ad had j u hu => (H8.out.keep.cell (World.block_lt_of_cell? w _ (hbs ad had j u hu)) (fun h => h)).trans (hbs ad had j u hu))).mono ?_
  clear hbl hbn hbs
  rintro e w5 ⟨so, co, rfl, hown, hk⟩
  obtain ⟨m, hm⟩ : ∃ m, min lenb 9 = m := ⟨_, rfl⟩
  obtain ⟨lo, hlo⟩ : ∃ lo, lo = bs.take 9 := ⟨_, rfl⟩
  rw [← hlo] at hown
  rw [hm] at hown
  rw [hm]
  have hmb : m ≤ 9 := by omega
  have HLO : Hid (lo.length = m) := by show _ = _; rw [hlo, List.length_take, HBS.out.1]; omega
  have HRown : Hid (Row w5 (.slice so m co) m lo F) := Row.mk' hown (H8.out.disk.foot_lt)
  have HOB : Hid (∀ k, so = some ⟨k, 0, none⟩ → w.heap.size ≤ k) := fun k e => by have h1 := (own_lt hown e).1; have h2 := H8.out.keep.size; omega
  have H9 := Lib.hid (H8.out.quiet hk)
  clear hown hk hm hlo HBS hbc hbm
  have HOW : Hid ((D.write 0 lo).Ok 40 (220 + lo.length)) := write_okD HG.out.ok (by rw [HLO.out]; omega)
  have HLW := Lib.hid HOW.out.len
  have HWT : Hid (((D.write 0 lo).now.drop 0).take 40 = (D.write 0 lo).now) := by show _ = _; rw [List.drop_zero, List.take_of_length_le (by rw [HLW.out]; exact Nat.le_refl _)]
  go_wp2_with fail
  obtain ⟨sb, s1, s2, s3⟩ := HRown.out.src
  refine (write_ok x 0 lo m so sb 0 co D F _ H9.out.disk HG.out.ok.up HLO.out s1 s2 s3 (by rw [HLEN.out]; omega) (by rw [HLEN.out]; omega) (by have := HG.out.ok.lo; omega)).mono ?_
  rintro e w6 ⟨rfl, F6, hd, hk, hs⟩
  clear s1 s2 s3
  have H10 := Lib.hid (H9.out.step hd hk hs)
  have HR11 := Lib.hid (HRown.out.step hk hs)
  clear hd hk hs
  go_wp2_with fail
  refine (raw_any x (D.write 0 lo) F6 _ H10.out.disk (by rw [HLW.out]; omega)).mono ?_
  rintro e w7 ⟨gs, cs, rfl, hown, hk⟩
  rw [HLW.out] at hown
  rw [HLW.out]
  have HRs : Hid (Row w7 (.slice (some ⟨gs, 0, none⟩) 40 cs) 40 (D.write 0 lo).now (fun k => k < w6.heap.size)) := Row.mk' hown (fun k h => h)
  have H12 := Lib.hid (H10.out.quiet hk)
  have HR13 := Lib.hid (HR11.out.quiet hk)
  have hszs : w6.heap.size ≤ w7.heap.size := hk.size
  clear hown hk
  go_wp2_with fail
  refine (read_ok x 0 40 (D.write 0 lo) F6 _ H12.out.disk HOW.out.up (by rw [HLW.out]; omega) (by rw [HLW.out]; omega)).mono ?_
  rintro e w8 ⟨gy, cy, rfl, hown, hk⟩
  rw [HWT.out] at hown
  have HRy : Hid (Row w8 (.slice (some ⟨gy, 0, none⟩) 40 cy) 40 (D.write 0 lo).now (fun k => k < w7.heap.size)) := Row.mk' hown (fun k h => h)
  have H14 := Lib.hid (H12.out.quiet hk)
  have HR15 := Lib.hid (HR13.out.quiet hk)
  have HR16 := Lib.hid (HRs.out.quiet hk)
  have hszy : w7.heap.size ≤ w8.heap.size := hk.size
  clear hown hk
  go_wp2_with fail
  refine (raw_any x (D.write 0 lo) F6 _ H14.out.disk (by rw [HLW.out]; omega)).mono ?_
  rintro e w9 ⟨gz, cz, rfl, hown, hk⟩
  rw [HLW.out] at hown
  rw [HLW.out]
  have HRz : Hid (Row w9 (.slice (some ⟨gz, 0, none⟩) 40 cz) 40 (D.write 0 lo).now (fun k => k < w8.heap.size)) := Row.mk' hown (fun k h => h)
  have H17 := Lib.hid (H14.out.quiet hk)
  have HR18 := Lib.hid (HR15.out.quiet hk)
  have HR19 := Lib.hid (HR16.out.quiet hk)
  have HR20 := Lib.hid (HRy.out.quiet hk)
  have hszz : w8.heap.size ≤ w9.heap.size := hk.size
  clear hown hk
  have HBo : Hid (∀ k, so = some ⟨k, 0, none⟩ → k < w6.heap.size ∧ w.heap.size ≤ k ∧ ¬ F6 k) := fun k e => ⟨(own_lt HR11.out.own e).2, HOB.out k e, fun hf => HR18.out.ap k (by rw [e]; rfl) hf⟩
  have HBs : Hid (gs < w7.heap.size ∧ w6.heap.size ≤ gs) := ⟨(own_lt HRs.out.own rfl).2, Nat.le_of_not_lt (HRs.out.ap gs rfl)⟩
  have HBy : Hid (w7.heap.size ≤ gy) := Nat.le_of_not_lt (HRy.out.ap gy rfl)
  have HBz : Hid (w8.heap.size ≤ gz ∧ gy < w8.heap.size) := ⟨Nat.le_of_not_lt (HRz.out.ap gz rfl), (own_lt HRy.out.own rfl).2⟩
  have HFl : Hid (∀ k, F6 k → k < w6.heap.size) := H10.out.disk.foot_lt
  have hW0 : w.heap.size ≤ w6.heap.size := H10.out.keep.size
  go_wp2_with fail
  go_loopw [23] (fun i wr => RdRel1 w9 so m co i wr) (fun i _ => m - (intOf i).toNat)
  case atStart => exact ⟨0, lo, Nat.zero_le _, rfl, HR18.out.own, Keeps.refl _ _⟩
  case round =>
    obtain ⟨q, l', hq, rfl, hrow, hkp⟩ := hrel
    have HB := Lib.hid (And.intro hrow hkp)
    clear hrow hkp
    by_cases hlt : q < m
    · obtain ⟨gso, rfl⟩ : ∃ g, so = some ⟨g, 0, none⟩ := by
        rcases own_addr HB.out.1 with ⟨_, h, _⟩ | h
        · omega
        · exact h
      have hll : l'.length = m := by have := HB.out.1.1; simpa using this
      obtain ⟨c, hc⟩ : ∃ c, l'[q]? = some c := ⟨_, List.getElem?_eq_getElem (by omega)⟩
      have c1 := own_cell HB.out.1 q _ (show (BV l')[q]? = some (.int .u8 c.toNat) by rw [BV_get, hc]; rfl)
      have c2 := HB.out.1.frozenAt q
      have HS : Hid (∀ v : Int, 0 ≤ v → v < 256 → RdRel1 w9 (some ⟨gso, 0, none⟩) m co (.int .i64 ((q + 1 : Nat) : Int)) (wr.setCell ⟨gso, q, none⟩ (.int .u8 v))) := fun v h1 h2 => ⟨q + 1, l'.set q (UInt8.ofNat v.toNat), by omega, rfl, by rw [BV_set l' q v h1 h2]; exact (HB.out.1.stored q (.int .u8 v)).1, Keeps.setCell (F := fun j => some (⟨gso, 0, none⟩ : Addr) = some ⟨j, 0, none⟩) HB.out.2 (p := ⟨gso, q, none⟩) (fun _ => rfl) _⟩
      have hcb : c.toNat < 256 := c.toNat_lt
      have t1 : (0 : Int) ≤ (q : Int) := by omega
      have t2 : (q : Int) < (m : Int) := by omega
      clear hll hc
      go_wp2
      go_roundw
      case rel => exact HS.out _ (by omega) (by omega)
      case measure => simp [intOf]; omega
    · obtain rfl : q = m := by omega
      have HA : Hid (One w wr x (D.write 0 lo) F6) := H17.out.touch _ HB.out.2 (fun k e => (HBo.out k e).2.1) (fun k hf e => (HBo.out k e).2.2 hf)
      have HRs2 := Lib.hid (own_keep HR19.out.own HB.out.2 (fun k e hf => by simp [Value.ownBlock] at e; have := (HBo.out k hf).1; have := HBs.out.2; omega))
      have HRy2 := Lib.hid (own_keep HR20.out.own HB.out.2 (fun k e hf => by simp [Value.ownBlock] at e; have := (HBo.out k hf).1; have := HBy.out; omega))
      have HRz2 := Lib.hid (own_keep HRz.out.own HB.out.2 (fun k e hf => by simp [Value.ownBlock] at e; have := (HBo.out k hf).1; have := HBz.out.1; omega))
      clear HB
      obtain ⟨wB, rfl⟩ : ∃ wB : World, wB = wr := ⟨_, rfl⟩
      go_wp2_with fail
      go_loopw [24] (fun i wr => RdRel2 wB gy cy gz cz i wr) (fun i _ => 40 - (intOf i).toNat)
      case atStart => exact ⟨0, _, _, Nat.zero_le _, rfl, HRy2.out, HRz2.out, Keeps.refl _ _⟩
      case round =>
        obtain ⟨q2, ly, lz, hq2, rfl, hrowy, hrowz, hkp⟩ := hrel
        have HB := Lib.hid (And.intro hrowy (And.intro hrowz hkp))
        clear hrowy hrowz hkp
        by_cases hlt2 : q2 < 40
        · have hly : ly.length = 40 := by have := HB.out.1.1; simpa using this
          have hlz : lz.length = 40 := by have := HB.out.2.1.1; simpa using this
          obtain ⟨c, hc⟩ : ∃ c, ly[q2]? = some c := ⟨_, List.getElem?_eq_getElem (by omega)⟩
          obtain ⟨d, hd⟩ : ∃ c, lz[q2]? = some c := ⟨_, List.getElem?_eq_getElem (by omega)⟩
          have c1 := own_cell HB.out.1 q2 _ (show (BV ly)[q2]? = some (.int .u8 c.toNat) by rw [BV_get, hc]; rfl)
          have c2 := HB.out.1.frozenAt q2
          have hne : gy ≠ gz := by have := HBz.out; omega
          have HS1 : Hid (∀ v : Value, Keeps (fun j => j = gy) wr (wr.setCell ⟨gy, q2, none⟩ v)) := fun v => (Keeps.refl (fun j => j = gy) wr).setCell (p := ⟨gy, q2, none⟩) (fun _ => rfl) v
          have c3 : ∀ v : Value, (wr.setCell ⟨gy, q2, none⟩ v).cell? ⟨gz, q2, none⟩ = some (.int .u8 d.toNat) := fun v => ((HS1.out v).cell (p := ⟨gz, q2, none⟩) (own_lt HB.out.2.1 rfl).2 (fun e => hne e.symm)).trans (own_cell HB.out.2.1 q2 _ (show (BV lz)[q2]? = some (.int .u8 d.toNat) by rw [BV_get, hd]; rfl))
          have c4 : ∀ v : Value, (wr.setCell ⟨gy, q2, none⟩ v).frozen? ⟨gz, q2, none⟩ = false := fun v => ((HS1.out v).frozen (p := ⟨gz, q2, none⟩) (own_lt HB.out.2.1 rfl).2 (fun e => hne e.symm)).trans (HB.out.2.1.frozenAt q2)
          have HS : Hid (∀ v v' : Int, 0 ≤ v → v < 256 → 0 ≤ v' → v' < 256 → RdRel2 wB gy cy gz cz (.int .i64 ((q2 + 1 : Nat) : Int)) ((wr.setCell ⟨gy, q2, none⟩ (.int .u8 v)).setCell ⟨gz, q2, none⟩ (.int .u8 v'))) := fun v v' h1 h2 h3 h4 => by
            refine ⟨q2 + 1, ly.set q2 (UInt8.ofNat v.toNat), lz.set q2 (UInt8.ofNat v'.toNat), by omega, rfl, ?_, ?_, ?_⟩
            · rw [BV_set ly q2 v h1 h2]
              exact own_keep (HB.out.1.stored q2 (.int .u8 v)).1 ((Keeps.refl (fun j => j = gz) _).setCell (p := ⟨gz, q2, none⟩) (fun _ => rfl) _) (fun k e => by simp [Value.ownBlock] at e; omega)
            · rw [BV_set lz q2 v' h3 h4]
              exact ((own_keep HB.out.2.1 (HS1.out (.int .u8 v)) (fun k e => by simp [Value.ownBlock] at e; omega)).stored q2 (.int .u8 v')).1
            · exact Keeps.setCell (F := fun j => j = gy ∨ j = gz) (Keeps.setCell (F := fun j => j = gy ∨ j = gz) HB.out.2.2 (p := ⟨gy, q2, none⟩) (fun _ => Or.inl rfl) _) (p := ⟨gz, q2, none⟩) (fun _ => Or.inr rfl) _
          have hcb : c.toNat < 256 := c.toNat_lt
          have hdb : d.toNat < 256 := d.toNat_lt
          have t1 : (0 : Int) ≤ (q2 : Int) := by omega
          have t2 : (q2 : Int) < 40 := by omega
          clear hly hlz hc hd hne
          go_wp2
          go_roundw
          case rel => exact HS.out _ _ (by omega) (by omega) (by omega) (by omega)
          case measure => simp [intOf]; omega
        · obtain rfl : q2 = 40 := by omega
          have HA2 : Hid (One w wr x (D.write 0 lo) F6) := HA.out.touch _ HB.out.2.2 (fun k e => by have h1 := HBy.out; have h2 := HBz.out; omega) (fun k hf e => by have h1 := HFl.out k hf; have h2 := HBy.out; have h3 := HBz.out; have h4 := HBs.out; omega)
          have HRs3 : Hid (Row wr (.slice (some ⟨gs, 0, none⟩) 40 cs) 40 (D.write 0 lo).now F6) := ⟨own_keep HRs2.out HB.out.2.2 (fun k e hf => by simp [Value.ownBlock] at e; have h1 := HBs.out; have h2 := HBy.out; have h3 := HBz.out; omega), fun k e hf => by simp [Value.ownBlock] at e; have h1 := HFl.out k hf; have h2 := HBs.out; omega⟩
          clear HB
          go_wp2_with fail
          have H21 := Lib.hid (HA2.out.quiet (Keeps.refl _ _).drew)
          have HR22 := Lib.hid (HRs3.out.quiet (Keeps.refl _ _).drew)
          refine z_begin (fun w' => (convert 27 9 (.slice (some ⟨gs, 0, none⟩) 40 cs)).run Try.prog w' = .ok (.string (strOf (D.write 0 lo).now)) w' ∧ True) 10 (by kernel_rfl) (⟨HR22.out.str, trivial⟩) (fun hHeld => ?_)
          refine z_take 0 (v := ?_) rfl (by kernel_rfl) (by kernel_rfl) (by kernel_rfl) (by kernel_rfl) (fun _ _ _ h => h) hHeld (by rfl) (fun w hSw => ?_) ?_
          rotate_left
          · obtain ⟨hSw1, hSw2⟩ := hSw; simp only [List.getElem_toArray, List.getElem_cons_zero]; go_simp; try rfl
          simp only [Act.put, List.getElem_toArray, List.getElem_cons_zero, List.setIfInBounds_toArray, List.set_cons_zero, List.set_cons_succ]
          refine z_take 3 (v := ?_) rfl (by kernel_rfl) (by kernel_rfl) (by kernel_rfl) (by kernel_rfl) (fun _ _ _ h => h) hHeld (by rfl) (fun w hSw => ?_) ?_
          rotate_left
          · obtain ⟨hSw1, hSw2⟩ := hSw; simp only [List.getElem_toArray, List.getElem_cons_zero, List.getElem_cons_succ]; go_simp; try rfl
          simp only [Act.put, List.getElem_toArray, List.getElem_cons_zero, List.getElem_cons_succ, List.setIfInBounds_toArray, List.set_cons_zero, List.set_cons_succ]
          refine z_take 4 (v := ?_) rfl (by kernel_rfl) (by kernel_rfl) (by kernel_rfl) (by kernel_rfl) (fun _ _ _ h => h) hHeld (by rfl) (fun w hSw => ?_) ?_
          rotate_left
          · obtain ⟨hSw1, hSw2⟩ := hSw; simp only [List.getElem_toArray, List.getElem_cons_zero, List.getElem_cons_succ]; go_simp; try rfl
          simp only [Act.put, List.getElem_toArray, List.getElem_cons_zero, List.getElem_cons_succ, List.setIfInBounds_toArray, List.set_cons_zero, List.set_cons_succ]
          refine z_one 1 rfl (by kernel_rfl) (by rfl) (fun K hK => ?_)
          simp only [List.getElem_toArray, List.getElem_cons_zero, List.getElem_cons_succ]
          go_simp
          refine (raw_any x _ F6 _ H21.out.disk (by rw [HLW.out]; omega)).mono ?_
          rintro e w10 ⟨g10, c10, rfl, hown, hk⟩
          rw [HLW.out] at hown
          rw [HLW.out]
          have HR23 : Hid (Row w10 (.slice (some ⟨g10, 0, none⟩) 40 c10) 40 (D.write 0 lo).now F6) := Row.mk' hown (H21.out.disk.foot_lt)
          have H24 := Lib.hid (H21.out.quiet hk)
          have HR25 := Lib.hid (HR22.out.quiet hk)
          clear hown hk
          refine hK _ _ (Or.inr ?_) (fun hHeld => ?_)
          · exact ⟨HR25.out.str, trivial⟩
          clear hK K
          replace hHeld := hHeld.resolve_left (by decide)
          try simp only [Act.put, List.setIfInBounds_toArray, List.set_cons_zero, List.set_cons_succ]
          refine z_more (fun w' => (convert 27 9 (.slice (some ⟨g10, 0, none⟩) 40 c10)).run Try.prog w' = .ok (.string (strOf (D.write 0 lo).now)) w' ∧ (convert 27 9 (.slice (some ⟨gs, 0, none⟩) 40 cs)).run Try.prog w' = .ok (.string (strOf (D.write 0 lo).now)) w' ∧ True) (fun _ h => h.2) _ _ _ _ ?_
          replace hHeld : (convert 27 9 (.slice (some ⟨g10, 0, none⟩) 40 c10)).run Try.prog w10 = .ok (.string (strOf (D.write 0 lo).now)) w10 ∧ (convert 27 9 (.slice (some ⟨gs, 0, none⟩) 40 cs)).run Try.prog w10 = .ok (.string (strOf (D.write 0 lo).now)) w10 ∧ True := ⟨HR23.out.str, HR25.out.str, trivial⟩
          refine z_take 2 (v := ?_) rfl (by kernel_rfl) (by kernel_rfl) (by kernel_rfl) (by kernel_rfl) (fun _ _ _ h => h) hHeld (by rfl) (fun w hSw => ?_) ?_
          rotate_left
          · obtain ⟨hSw1, hSw2, hSw3⟩ := hSw; simp only [List.getElem_toArray, List.getElem_cons_zero, List.getElem_cons_succ]; go_simp; try rfl
          simp only [Act.put, List.getElem_toArray, List.getElem_cons_zero, List.getElem_cons_succ, List.setIfInBounds_toArray, List.set_cons_zero, List.set_cons_succ]
          refine z_take 5 (v := ?_) rfl (by kernel_rfl) (by kernel_rfl) (by kernel_rfl) (by kernel_rfl) (fun _ _ _ h => h) hHeld (by rfl) (fun w hSw => ?_) ?_
          rotate_left
          · obtain ⟨hSw1, hSw2, hSw3⟩ := hSw; simp only [List.getElem_toArray, List.getElem_cons_zero, List.getElem_cons_succ]; go_simp; try rfl
          simp only [Act.put, List.getElem_toArray, List.getElem_cons_zero, List.getElem_cons_succ, List.setIfInBounds_toArray, List.set_cons_zero, List.set_cons_succ]
          refine z_take 6 (v := ?_) rfl (by kernel_rfl) (by kernel_rfl) (by kernel_rfl) (by kernel_rfl) (fun _ _ _ h => h) hHeld (by rfl) (fun w hSw => ?_) ?_
          rotate_left
          · obtain ⟨hSw1, hSw2, hSw3⟩ := hSw; simp only [List.getElem_toArray, List.getElem_cons_zero, List.getElem_cons_succ]; go_simp; try rfl
          simp only [Act.put, List.getElem_toArray, List.getElem_cons_zero, List.getElem_cons_succ, List.setIfInBounds_toArray, List.set_cons_zero, List.set_cons_succ]
          refine z_one 7 rfl (by kernel_rfl) (by rfl) (fun K hK => ?_)
          simp only [List.getElem_toArray, List.getElem_cons_zero, List.getElem_cons_succ]
          go_simp
          refine (lives_any _).mono ?_
          rintro e w11 ⟨rfl, hk⟩
          have H26 := Lib.hid (H24.out.quiet hk)
          have HR27 := Lib.hid (HR25.out.quiet hk)
          have HR28 := Lib.hid (HR23.out.quiet hk)
          clear hk
          refine hK _ _ (Or.inr ?_) (fun hHeld => ?_)
          · exact ⟨HR28.out.str, HR27.out.str, trivial⟩
          clear hK K
          replace hHeld := hHeld.resolve_left (by decide)
          try simp only [Act.put, List.setIfInBounds_toArray, List.set_cons_zero, List.set_cons_succ]
          refine z_take 8 (v := ?_) rfl (by kernel_rfl) (by kernel_rfl) (by kernel_rfl) (by kernel_rfl) (fun _ _ _ h => h) hHeld (by rfl) (fun w hSw => ?_) ?_
          rotate_left
          · obtain ⟨hSw1, hSw2, hSw3⟩ := hSw; simp only [List.getElem_toArray, List.getElem_cons_zero, List.getElem_cons_succ]; go_simp; try rfl
          simp only [Act.put, List.getElem_toArray, List.getElem_cons_zero, List.getElem_cons_succ, List.setIfInBounds_toArray, List.set_cons_zero, List.set_cons_succ]
          refine z_one 9 rfl (by kernel_rfl) (by rfl) (fun K hK => ?_)
          simp only [List.getElem_toArray, List.getElem_cons_zero, List.getElem_cons_succ]
          go_simp
          refine hK _ _ (Or.inr ?_) (fun hHeld => ?_)
          · exact hHeld
          clear hK K
          replace hHeld := hHeld.resolve_left (by decide)
          try simp only [Act.put, List.setIfInBounds_toArray, List.set_cons_zero, List.set_cons_succ]
          refine z_done (by kernel_rfl) ?_ _
          go_wp2
          go_ret
          exact ⟨rfl, H26.out.below⟩
set_option maxHeartbeats 4000000 in
set_option maxRecDepth 100000 in
theorem reads_no2 (la : Option Addr) (b off len cap : Nat) (zs : List Int) (at_ n : Int) (sa : Option Addr) (lenb capb : Nat) (bs : List UInt8) (w : World) (hl : zs.length = len) (hlen : len ≤ 9223372036854775807) (hla : 0 < len → la = some ⟨b, off, none⟩) (hsrc : ∀ j z, zs[j]? = some z → w.cell? ⟨b, off + j, none⟩ = some (.int .i64 z)) (hwf : ∀ z ∈ zs, -9223372036854775808 ≤ z ∧ z ≤ 9223372036854775807) (at_1 : -9223372036854775808 ≤ at_) (at_2 : at_ ≤ 9223372036854775807) (n1 : -9223372036854775808 ≤ n) (n2 : n ≤ 9223372036854775807) (hbl : bs.length = lenb) (hbc : lenb ≤ capb) (hbm : capb ≤ 9223372036854775807) (hbn : sa = none → lenb = 0 ∧ capb = 0) (hbs : ∀ ad, sa = some ad → ∀ (j : Nat) (u : Value), (BV bs)[j]? = some u → w.cell? (ad.add j) = some u) (v1 : 0 ≤ at_) (v2 : 40 < at_) :
    Calls Try.prog 10 #[.slice la len cap, .int .i64 at_, .int .i64 n, .slice sa lenb capb] w fun e w' => e = .returned (.bool true) ∧ Below w.heap.size w w' := by
  have HL := Lib.hid (And.intro hl (And.intro hla (And.intro hsrc hwf)))
  have HBS := Lib.hid (And.intro hbl (And.intro hbn hbs))
  clear hl hla hsrc hwf hbl hbn hbs
  have hg := playD_good zs
  have HIN : Hid (inB at_ n (playD ((zs.take 20).map mkAct)).now.length = false) := by show _ = _; rw [hg.ok.len]; unfold inB; simp; omega
  go_enter Try.func10, Try.ntmps10
  go_wp2_with fail
  obtain ⟨hl, hla, hsrc, hwf⟩ := HL.out
  refine (played_any la b off len cap zs w hl hlen hla hsrc hwf).mono ?_
  rintro e w1 ⟨x, F, rfl, hd, hk, hF⟩
  have H0 : Hid (One w w1 x (playD ((zs.take 20).map mkAct)) F) := ⟨hd, hk, hF⟩
  clear hd hk hF hl hla hsrc hwf HL
  generalize playD ((zs.take 20).map mkAct) = D at *
  have HG := Lib.hid hg
  have HLEN := Lib.hid hg.ok.len
  clear hg
  go_wp2_with fail
  refine (raw_any x _ F _ H0.out.disk (by rw [HLEN.out]; omega)).mono ?_
  rintro e w2 ⟨g2, c2, rfl, hown, hk⟩
  rw [HLEN.out] at hown
  rw [HLEN.out]
  have HR1 : Hid (Row w2 (.slice (some ⟨g2, 0, none⟩) 40 c2) 40 D.now F) := Row.mk' hown (H0.out.disk.foot_lt)
  have H2 := Lib.hid (H0.out.quiet hk)
  clear hown hk
  go_wp2_with fail
  refine (around_any at_ 41 _ at_1 at_2 (by omega) (by omega)).mono ?_
  rintro e _ ⟨rfl, rfl⟩
  obtain ⟨p, hp⟩ : ∃ k : Nat, around at_ 41 = k := ⟨(around at_ 41).toNat, by have := around_pos at_ 41 (by omega); omega⟩
  have bp : (p : Int) < 41 := by have := (around_pos at_ 41 (by omega)).2; rw [hp] at this; exact this
  rw [hp]
  clear hp
  go_wp2_with fail
  refine (around_any n (41 - (p : Int)) _ n1 n2 (by omega) (by omega)).mono ?_
  rintro e _ ⟨rfl, rfl⟩
  obtain ⟨k, hk⟩ : ∃ k : Nat, around n (41 - (p : Int)) = k := ⟨(around n (41 - (p : Int))).toNat, by have := around_pos n (41 - (p : Int)) (by omega); omega⟩
  have bk : (k : Int) < 41 - (p : Int) := by have := (around_pos n (41 - (p : Int)) (by omega)).2; rw [hk] at this; exact this
  rw [hk]
  clear hk
  have hpk : p + k ≤ 40 := by omega
  clear bp bk
  go_wp2_with fail
  refine (read_ok x p k D F _ H2.out.disk HG.out.ok.up (by rw [HLEN.out]; exact hpk) (by rw [HLEN.out]; omega)).mono ?_
  rintro e w3 ⟨gx, cx, rfl, hown, hk⟩
  have HRx : Hid (Row w3 (.slice (some ⟨gx, 0, none⟩) k cx) k ((D.now.drop p).take k) F) := Row.mk' hown H2.out.disk.foot_lt
  have H3 := Lib.hid (H2.out.quiet hk)
  have HR4 := Lib.hid (HR1.out.quiet hk)
  clear hown hk
  have hcall : 40 ≤ c2 := by rcases HR4.out.own.2 with ⟨h, h0⟩ | ⟨_, _, _, h, _, _, h', _⟩; omega; simp at h; omega
  obtain ⟨ad, had, hadp⟩ : ∃ ad : Addr, (if c2 = p then some (⟨g2, 0, none⟩ : Addr) else some ⟨g2, p, none⟩) = some ad ∧ (0 < k → ad = ⟨g2, p, none⟩) := by
    by_cases e : c2 = p
    · exact ⟨_, if_pos e, fun h => by omega⟩
    · exact ⟨_, if_neg e, fun _ => rfl⟩
  have j1 : (0 : Int) ≤ (p : Int) := by omega
  have j2 : (p : Int) ≤ (c2 : Int) := by omega
  have j3 : (p : Int) ≤ (p : Int) + (k : Int) := by omega
  have j4 : (p : Int) + (k : Int) ≤ (c2 : Int) := by omega
  have j5 : IntKind.i64.wrap ((p : Int) + (k : Int)) = (p : Int) + k := IntWalk.i64_in _ (by omega)
  have j6 : ((p : Int) + (k : Int)).toNat = p + k := by omega
  have j7 : p + k - p = k := by omega
  have HSUB : Hid (∀ w' : World, Row w' (.slice (some ⟨g2, 0, none⟩) 40 c2) 40 D.now F → (convert 27 9 (.slice (some ad) k (c2 - p))).run Try.prog w' = .ok (.string (strOf ((D.now.drop p).take k))) w') := fun w' h => run_str_sub h.own hpk hadp
  clear hadp
  go_wp2_with fail
  have H5 := Lib.hid (H3.out.quiet (Keeps.refl _ _).drew)
  have HR6 := Lib.hid (HR4.out.quiet (Keeps.refl _ _).drew)
  have HR7 := Lib.hid (HRx.out.quiet (Keeps.refl _ _).drew)
  refine z_begin (fun w' => (convert 27 9 (.slice (some ⟨gx, 0, none⟩) k cx)).run Try.prog w' = .ok (.string (strOf ((D.now.drop p).take k))) w' ∧ (convert 27 9 (.slice (some ad) k (c2 - p))).run Try.prog w' = .ok (.string (strOf ((D.now.drop p).take k))) w') 14 (by kernel_rfl) (⟨HR7.out.str, HSUB.out _ HR6.out⟩) (fun hHeld => ?_)
  refine z_take 0 (v := ?_) rfl (by kernel_rfl) (by kernel_rfl) (by kernel_rfl) (by kernel_rfl) (fun _ _ _ h => h) hHeld (by rfl) (fun w hSw => ?_) ?_
  rotate_left
  · obtain ⟨hSw1, hSw2⟩ := hSw; simp only [List.getElem_toArray, List.getElem_cons_zero]; go_simp; try rfl
  simp only [Act.put, List.getElem_toArray, List.getElem_cons_zero, List.setIfInBounds_toArray, List.set_cons_zero, List.set_cons_succ]
  refine z_take 1 (v := ?_) rfl (by kernel_rfl) (by kernel_rfl) (by kernel_rfl) (by kernel_rfl) (fun _ _ _ h => h) hHeld (by rfl) (fun w hSw => ?_) ?_
  rotate_left
  · obtain ⟨hSw1, hSw2⟩ := hSw; simp only [List.getElem_toArray, List.getElem_cons_zero, List.getElem_cons_succ]; go_simp; try rfl
  simp only [Act.put, List.getElem_toArray, List.getElem_cons_zero, List.getElem_cons_succ, List.setIfInBounds_toArray, List.set_cons_zero, List.set_cons_succ]
  refine z_take 2 (v := ?_) rfl (by kernel_rfl) (by kernel_rfl) (by kernel_rfl) (by kernel_rfl) (fun _ _ _ h => h) hHeld (by rfl) (fun w hSw => ?_) ?_
  rotate_left
  · obtain ⟨hSw1, hSw2⟩ := hSw; simp only [List.getElem_toArray, List.getElem_cons_zero, List.getElem_cons_succ]; go_simp; try rfl
  simp only [Act.put, List.getElem_toArray, List.getElem_cons_zero, List.getElem_cons_succ, List.setIfInBounds_toArray, List.set_cons_zero, List.set_cons_succ]
  refine z_take 3 (v := ?_) rfl (by kernel_rfl) (by kernel_rfl) (by kernel_rfl) (by kernel_rfl) (fun _ _ _ h => h) hHeld (by rfl) (fun w hSw => ?_) ?_
  rotate_left
  · obtain ⟨hSw1, hSw2⟩ := hSw; simp only [List.getElem_toArray, List.getElem_cons_zero, List.getElem_cons_succ]; go_simp; try rfl
  simp only [Act.put, List.getElem_toArray, List.getElem_cons_zero, List.getElem_cons_succ, List.setIfInBounds_toArray, List.set_cons_zero, List.set_cons_succ]
  refine z_take 4 (v := ?_) rfl (by kernel_rfl) (by kernel_rfl) (by kernel_rfl) (by kernel_rfl) (fun _ _ _ h => h) hHeld (by rfl) (fun w hSw => ?_) ?_
  rotate_left
  · obtain ⟨hSw1, hSw2⟩ := hSw; simp only [List.getElem_toArray, List.getElem_cons_zero, List.getElem_cons_succ]; go_simp; try rfl
  simp only [Act.put, List.getElem_toArray, List.getElem_cons_zero, List.getElem_cons_succ, List.setIfInBounds_toArray, List.set_cons_zero, List.set_cons_succ]
  refine z_take 5 (v := ?_) rfl (by kernel_rfl) (by kernel_rfl) (by kernel_rfl) (by kernel_rfl) (fun _ _ _ h => h) hHeld (by rfl) (fun w hSw => ?_) ?_
  rotate_left
  · obtain ⟨hSw1, hSw2⟩ := hSw; simp only [List.getElem_toArray, List.getElem_cons_zero, List.getElem_cons_succ]; go_simp; try rfl
  simp only [Act.put, List.getElem_toArray, List.getElem_cons_zero, List.getElem_cons_succ, List.setIfInBounds_toArray, List.set_cons_zero, List.set_cons_succ]
  refine z_take 6 (v := ?_) rfl (by kernel_rfl) (by kernel_rfl) (by kernel_rfl) (by kernel_rfl) (fun _ _ _ h => h) hHeld (by rfl) (fun w hSw => ?_) ?_
  rotate_left
  · obtain ⟨hSw1, hSw2⟩ := hSw; simp only [List.getElem_toArray, List.getElem_cons_zero, List.getElem_cons_succ]; go_simp; try rfl
  simp only [Act.put, List.getElem_toArray, List.getElem_cons_zero, List.getElem_cons_succ, List.setIfInBounds_toArray, List.set_cons_zero, List.set_cons_succ]
  refine z_take 7 (v := ?_) rfl (by kernel_rfl) (by kernel_rfl) (by kernel_rfl) (by kernel_rfl) (fun _ _ _ h => h) hHeld (by rfl) (fun w hSw => ?_) ?_
  rotate_left
  · obtain ⟨hSw1, hSw2⟩ := hSw; simp only [List.getElem_toArray, List.getElem_cons_zero, List.getElem_cons_succ]; go_simp; try rfl
  simp only [Act.put, List.getElem_toArray, List.getElem_cons_zero, List.getElem_cons_succ, List.setIfInBounds_toArray, List.set_cons_zero, List.set_cons_succ]
  refine z_take 8 (v := ?_) rfl (by kernel_rfl) (by kernel_rfl) (by kernel_rfl) (by kernel_rfl) (fun _ _ _ h => h) hHeld (by rfl) (fun w hSw => ?_) ?_
  rotate_left
  · obtain ⟨hSw1, hSw2⟩ := hSw; simp only [List.getElem_toArray, List.getElem_cons_zero, List.getElem_cons_succ]; go_simp; try rfl
  simp only [Act.put, List.getElem_toArray, List.getElem_cons_zero, List.getElem_cons_succ, List.setIfInBounds_toArray, List.set_cons_zero, List.set_cons_succ]
  refine z_take 9 (v := ?_) rfl (by kernel_rfl) (by kernel_rfl) (by kernel_rfl) (by kernel_rfl) (fun _ _ _ h => h) hHeld (by rfl) (fun w hSw => ?_) ?_
  rotate_left
  · obtain ⟨hSw1, hSw2⟩ := hSw; simp only [List.getElem_toArray, List.getElem_cons_zero, List.getElem_cons_succ]; go_simp; try rfl
  simp only [Act.put, List.getElem_toArray, List.getElem_cons_zero, List.getElem_cons_succ, List.setIfInBounds_toArray, List.set_cons_zero, List.set_cons_succ]
  refine z_take 10 (v := ?_) rfl (by kernel_rfl) (by kernel_rfl) (by kernel_rfl) (by kernel_rfl) (fun _ _ _ h => h) hHeld (by rfl) (fun w hSw => ?_) ?_
  rotate_left
  · obtain ⟨hSw1, hSw2⟩ := hSw; simp only [List.getElem_toArray, List.getElem_cons_zero, List.getElem_cons_succ]; go_simp; try rfl
  simp only [Act.put, List.getElem_toArray, List.getElem_cons_zero, List.getElem_cons_succ, List.setIfInBounds_toArray, List.set_cons_zero, List.set_cons_succ]
  refine z_take 11 (v := ?_) rfl (by kernel_rfl) (by kernel_rfl) (by kernel_rfl) (by kernel_rfl) (fun _ _ _ h => h) hHeld (by rfl) (fun w hSw => ?_) ?_
  rotate_left
  · obtain ⟨hSw1, hSw2⟩ := hSw; simp only [List.getElem_toArray, List.getElem_cons_zero, List.getElem_cons_succ]; go_simp; try rfl
  simp only [Act.put, List.getElem_toArray, List.getElem_cons_zero, List.getElem_cons_succ, List.setIfInBounds_toArray, List.set_cons_zero, List.set_cons_succ]
  refine z_take 12 (v := ?_) rfl (by kernel_rfl) (by kernel_rfl) (by kernel_rfl) (by kernel_rfl) (fun _ _ _ h => h) hHeld (by rfl) (fun w hSw => ?_) ?_
  rotate_left
  · obtain ⟨hSw1, hSw2⟩ := hSw; simp only [List.getElem_toArray, List.getElem_cons_zero, List.getElem_cons_succ]; go_simp; try rfl
  simp only [Act.put, List.getElem_toArray, List.getElem_cons_zero, List.getElem_cons_succ, List.setIfInBounds_toArray, List.set_cons_zero, List.set_cons_succ]
  refine z_take 13 (v := ?_) rfl (by kernel_rfl) (by kernel_rfl) (by kernel_rfl) (by kernel_rfl) (fun _ _ _ h => h) hHeld (by rfl) (fun w hSw => ?_) ?_
  rotate_left
  · obtain ⟨hSw1, hSw2⟩ := hSw; simp only [List.getElem_toArray, List.getElem_cons_zero, List.getElem_cons_succ]; go_simp; try rfl
  simp only [Act.put, List.getElem_toArray, List.getElem_cons_zero, List.getElem_cons_succ, List.setIfInBounds_toArray, List.set_cons_zero, List.set_cons_succ]
  refine z_done (by kernel_rfl) ?_ _
  clear had j1 j2 j3 j4 j5 j6 j7
  go_wp2_with fail
  refine (read_no x at_ n D F _ H5.out.disk HG.out.ok.up HIN.out (by rw [HLEN.out]; omega)).mono ?_
  rintro e w4 ⟨rfl, hk⟩
  have H8 := Lib.hid (H5.out.quiet hk)
  clear hk
  go_wp2_with fail
  obtain ⟨hbl, hbn, hbs⟩ := HBS.out
  refine (few_any sa lenb capb 9 bs _ hbl hbc hbm (by omega) hbn (fun ad had j u hu => (H8.out.keep.cell (World.block_lt_of_cell? w _ (hbs ad had j u hu)) (fun h => h)).trans (hbs ad had j u hu))).mono ?_
  clear hbl hbn hbs
  rintro e w5 ⟨so, co, rfl, hown, hk⟩
  obtain ⟨m, hm⟩ : ∃ m, min lenb 9 = m := ⟨_, rfl⟩
  obtain ⟨lo, hlo⟩ : ∃ lo, lo = bs.take 9 := ⟨_, rfl⟩
  rw [← hlo] at hown
  rw [hm] at hown
  rw [hm]
  have hmb : m ≤ 9 := by omega
  have HLO : Hid (lo.length = m) := by show _ = _; rw [hlo, List.length_take, HBS.out.1]; omega
  have HRown : Hid (Row w5 (.slice so m co) m lo F) := Row.mk' hown (H8.out.disk.foot_lt)
  have HOB : Hid (∀ k, so = some ⟨k, 0, none⟩ → w.heap.size ≤ k) := fun k e => by have h1 := (own_lt hown e).1; have h2 := H8.out.keep.size; omega
  have H9 := Lib.hid (H8.out.quiet hk)
  clear hown hk hm hlo HBS hbc hbm
  have HOW : Hid ((D.write 0 lo).Ok 40 (220 + lo.length)) := write_okD HG.out.ok (by rw [HLO.out]; omega)
  have HLW := Lib.hid HOW.out.len
  have HWT : Hid (((D.write 0 lo).now.drop 0).take 40 = (D.write 0 lo).now) := by show _ = _; rw [List.drop_zero, List.take_of_length_le (by rw [HLW.out]; exact Nat.le_refl _)]
  go_wp2_with fail
  obtain ⟨sb, s1, s2, s3⟩ := HRown.out.src
  refine (write_ok x 0 lo m so sb 0 co D F _ H9.out.disk HG.out.ok.up HLO.out s1 s2 s3 (by rw [HLEN.out]; omega) (by rw [HLEN.out]; omega) (by have := HG.out.ok.lo; omega)).mono ?_
  rintro e w6 ⟨rfl, F6, hd, hk, hs⟩
  clear s1 s2 s3
  have H10 := Lib.hid (H9.out.step hd hk hs)
  have HR11 := Lib.hid (HRown.out.step hk hs)
  clear hd hk hs
  go_wp2_with fail
  refine (raw_any x (D.write 0 lo) F6 _ H10.out.disk (by rw [HLW.out]; omega)).mono ?_
  rintro e w7 ⟨gs, cs, rfl, hown, hk⟩
  rw [HLW.out] at hown
  rw [HLW.out]
  have HRs : Hid (Row w7 (.slice (some ⟨gs, 0, none⟩) 40 cs) 40 (D.write 0 lo).now (fun k => k < w6.heap.size)) := Row.mk' hown (fun k h => h)
  have H12 := Lib.hid (H10.out.quiet hk)
  have HR13 := Lib.hid (HR11.out.quiet hk)
  have hszs : w6.heap.size ≤ w7.heap.size := hk.size
  clear hown hk
  go_wp2_with fail
  refine (read_ok x 0 40 (D.write 0 lo) F6 _ H12.out.disk HOW.out.up (by rw [HLW.out]; omega) (by rw [HLW.out]; omega)).mono ?_
  rintro e w8 ⟨gy, cy, rfl, hown, hk⟩
  rw [HWT.out] at hown
  have HRy : Hid (Row w8 (.slice (some ⟨gy, 0, none⟩) 40 cy) 40 (D.write 0 lo).now (fun k => k < w7.heap.size)) := Row.mk' hown (fun k h => h)
  have H14 := Lib.hid (H12.out.quiet hk)
  have HR15 := Lib.hid (HR13.out.quiet hk)
  have HR16 := Lib.hid (HRs.out.quiet hk)
  have hszy : w7.heap.size ≤ w8.heap.size := hk.size
  clear hown hk
  go_wp2_with fail
  refine (raw_any x (D.write 0 lo) F6 _ H14.out.disk (by rw [HLW.out]; omega)).mono ?_
  rintro e w9 ⟨gz, cz, rfl, hown, hk⟩
  rw [HLW.out] at hown
  rw [HLW.out]
  have HRz : Hid (Row w9 (.slice (some ⟨gz, 0, none⟩) 40 cz) 40 (D.write 0 lo).now (fun k => k < w8.heap.size)) := Row.mk' hown (fun k h => h)
  have H17 := Lib.hid (H14.out.quiet hk)
  have HR18 := Lib.hid (HR15.out.quiet hk)
  have HR19 := Lib.hid (HR16.out.quiet hk)
  have HR20 := Lib.hid (HRy.out.quiet hk)
  have hszz : w8.heap.size ≤ w9.heap.size := hk.size
  clear hown hk
  have HBo : Hid (∀ k, so = some ⟨k, 0, none⟩ → k < w6.heap.size ∧ w.heap.size ≤ k ∧ ¬ F6 k) := fun k e => ⟨(own_lt HR11.out.own e).2, HOB.out k e, fun hf => HR18.out.ap k (by rw [e]; rfl) hf⟩
  have HBs : Hid (gs < w7.heap.size ∧ w6.heap.size ≤ gs) := ⟨(own_lt HRs.out.own rfl).2, Nat.le_of_not_lt (HRs.out.ap gs rfl)⟩
  have HBy : Hid (w7.heap.size ≤ gy) := Nat.le_of_not_lt (HRy.out.ap gy rfl)
  have HBz : Hid (w8.heap.size ≤ gz ∧ gy < w8.heap.size) := ⟨Nat.le_of_not_lt (HRz.out.ap gz rfl), (own_lt HRy.out.own rfl).2⟩
  have HFl : Hid (∀ k, F6 k → k < w6.heap.size) := H10.out.disk.foot_lt
  have hW0 : w.heap.size ≤ w6.heap.size := H10.out.keep.size
  go_wp2_with fail
  go_loopw [23] (fun i wr => RdRel1 w9 so m co i wr) (fun i _ => m - (intOf i).toNat)
  case atStart => exact ⟨0, lo, Nat.zero_le _, rfl, HR18.out.own, Keeps.refl _ _⟩
  case round =>
    obtain ⟨q, l', hq, rfl, hrow, hkp⟩ := hrel
    have HB := Lib.hid (And.intro hrow hkp)
    clear hrow hkp
    by_cases hlt : q < m
    · obtain ⟨gso, rfl⟩ : ∃ g, so = some ⟨g, 0, none⟩ := by
        rcases own_addr HB.out.1 with ⟨_, h, _⟩ | h
        · omega
        · exact h
      have hll : l'.length = m := by have := HB.out.1.1; simpa using this
      obtain ⟨c, hc⟩ : ∃ c, l'[q]? = some c := ⟨_, List.getElem?_eq_getElem (by omega)⟩
      have c1 := own_cell HB.out.1 q _ (show (BV l')[q]? = some (.int .u8 c.toNat) by rw [BV_get, hc]; rfl)
      have c2 := HB.out.1.frozenAt q
      have HS : Hid (∀ v : Int, 0 ≤ v → v < 256 → RdRel1 w9 (some ⟨gso, 0, none⟩) m co (.int .i64 ((q + 1 : Nat) : Int)) (wr.setCell ⟨gso, q, none⟩ (.int .u8 v))) := fun v h1 h2 => ⟨q + 1, l'.set q (UInt8.ofNat v.toNat), by omega, rfl, by rw [BV_set l' q v h1 h2]; exact (HB.out.1.stored q (.int .u8 v)).1, Keeps.setCell (F := fun j => some (⟨gso, 0, none⟩ : Addr) = some ⟨j, 0, none⟩) HB.out.2 (p := ⟨gso, q, none⟩) (fun _ => rfl) _⟩
      have hcb : c.toNat < 256 := c.toNat_lt
      have t1 : (0 : Int) ≤ (q : Int) := by omega
      have t2 : (q : Int) < (m : Int) := by omega
      clear hll hc
      go_wp2
      go_roundw
      case rel => exact HS.out _ (by omega) (by omega)
      case measure => simp [intOf]; omega
    · obtain rfl : q = m := by omega
      have HA : Hid (One w wr x (D.write 0 lo) F6) := H17.out.touch _ HB.out.2 (fun k e => (HBo.out k e).2.1) (fun k hf e => (HBo.out k e).2.2 hf)
      have HRs2 := Lib.hid (own_keep HR19.out.own HB.out.2 (fun k e hf => by simp [Value.ownBlock] at e; have := (HBo.out k hf).1; have := HBs.out.2; omega))
      have HRy2 := Lib.hid (own_keep HR20.out.own HB.out.2 (fun k e hf => by simp [Value.ownBlock] at e; have := (HBo.out k hf).1; have := HBy.out; omega))
      have HRz2 := Lib.hid (own_keep HRz.out.own HB.out.2 (fun k e hf => by simp [Value.ownBlock] at e; have := (HBo.out k hf).1; have := HBz.out.1; omega))
      clear HB
      obtain ⟨wB, rfl⟩ : ∃ wB : World, wB = wr := ⟨_, rfl⟩
      go_wp2_with fail
      go_loopw [24] (fun i wr => RdRel2 wB gy cy gz cz i wr) (fun i _ => 40 - (intOf i).toNat)
      case atStart => exact ⟨0, _, _, Nat.zero_le _, rfl, HRy2.out, HRz2.out, Keeps.refl _ _⟩
      case round =>
        obtain ⟨q2, ly, lz, hq2, rfl, hrowy, hrowz, hkp⟩ := hrel
        have HB := Lib.hid (And.intro hrowy (And.intro hrowz hkp))
        clear hrowy hrowz hkp
        by_cases hlt2 : q2 < 40
        · have hly : ly.length = 40 := by have := HB.out.1.1; simpa using this
          have hlz : lz.length = 40 := by have := HB.out.2.1.1; simpa using this
          obtain ⟨c, hc⟩ : ∃ c, ly[q2]? = some c := ⟨_, List.getElem?_eq_getElem (by omega)⟩
          obtain ⟨d, hd⟩ : ∃ c, lz[q2]? = some c := ⟨_, List.getElem?_eq_getElem (by omega)⟩
          have c1 := own_cell HB.out.1 q2 _ (show (BV ly)[q2]? = some (.int .u8 c.toNat) by rw [BV_get, hc]; rfl)
          have c2 := HB.out.1.frozenAt q2
          have hne : gy ≠ gz := by have := HBz.out; omega
          have HS1 : Hid (∀ v : Value, Keeps (fun j => j = gy) wr (wr.setCell ⟨gy, q2, none⟩ v)) := fun v => (Keeps.refl (fun j => j = gy) wr).setCell (p := ⟨gy, q2, none⟩) (fun _ => rfl) v
          have c3 : ∀ v : Value, (wr.setCell ⟨gy, q2, none⟩ v).cell? ⟨gz, q2, none⟩ = some (.int .u8 d.toNat) := fun v => ((HS1.out v).cell (p := ⟨gz, q2, none⟩) (own_lt HB.out.2.1 rfl).2 (fun e => hne e.symm)).trans (own_cell HB.out.2.1 q2 _ (show (BV lz)[q2]? = some (.int .u8 d.toNat) by rw [BV_get, hd]; rfl))
          have c4 : ∀ v : Value, (wr.setCell ⟨gy, q2, none⟩ v).frozen? ⟨gz, q2, none⟩ = false := fun v => ((HS1.out v).frozen (p := ⟨gz, q2, none⟩) (own_lt HB.out.2.1 rfl).2 (fun e => hne e.symm)).trans (HB.out.2.1.frozenAt q2)
          have HS : Hid (∀ v v' : Int, 0 ≤ v → v < 256 → 0 ≤ v' → v' < 256 → RdRel2 wB gy cy gz cz (.int .i64 ((q2 + 1 : Nat) : Int)) ((wr.setCell ⟨gy, q2, none⟩ (.int .u8 v)).setCell ⟨gz, q2, none⟩ (.int .u8 v'))) := fun v v' h1 h2 h3 h4 => by
            refine ⟨q2 + 1, ly.set q2 (UInt8.ofNat v.toNat), lz.set q2 (UInt8.ofNat v'.toNat), by omega, rfl, ?_, ?_, ?_⟩
            · rw [BV_set ly q2 v h1 h2]
              exact own_keep (HB.out.1.stored q2 (.int .u8 v)).1 ((Keeps.refl (fun j => j = gz) _).setCell (p := ⟨gz, q2, none⟩) (fun _ => rfl) _) (fun k e => by simp [Value.ownBlock] at e; omega)
            · rw [BV_set lz q2 v' h3 h4]
              exact ((own_keep HB.out.2.1 (HS1.out (.int .u8 v)) (fun k e => by simp [Value.ownBlock] at e; omega)).stored q2 (.int .u8 v')).1
            · exact Keeps.setCell (F := fun j => j = gy ∨ j = gz) (Keeps.setCell (F := fun j => j = gy ∨ j = gz) HB.out.2.2 (p := ⟨gy, q2, none⟩) (fun _ => Or.inl rfl) _) (p := ⟨gz, q2, none⟩) (fun _ => Or.inr rfl) _
          have hcb : c.toNat < 256 := c.toNat_lt
          have hdb : d.toNat < 256 := d.toNat_lt
          have t1 : (0 : Int) ≤ (q2 : Int) := by omega
          have t2 : (q2 : Int) < 40 := by omega
          clear hly hlz hc hd hne
          go_wp2
          go_roundw
          case rel => exact HS.out _ _ (by omega) (by omega) (by omega) (by omega)
          case measure => simp [intOf]; omega
        · obtain rfl : q2 = 40 := by omega
          have HA2 : Hid (One w wr x (D.write 0 lo) F6) := HA.out.touch _ HB.out.2.2 (fun k e => by have h1 := HBy.out; have h2 := HBz.out; omega) (fun k hf e => by have h1 := HFl.out k hf; have h2 := HBy.out; have h3 := HBz.out; have h4 := HBs.out; omega)
          have HRs3 : Hid (Row wr (.slice (some ⟨gs, 0, none⟩) 40 cs) 40 (D.write 0 lo).now F6) := ⟨own_keep HRs2.out HB.out.2.2 (fun k e hf => by simp [Value.ownBlock] at e; have h1 := HBs.out; have h2 := HBy.out; have h3 := HBz.out; omega), fun k e hf => by simp [Value.ownBlock] at e; have h1 := HFl.out k hf; have h2 := HBs.out; omega⟩
          clear HB
          go_wp2_with fail
          have H21 := Lib.hid (HA2.out.quiet (Keeps.refl _ _).drew)
          have HR22 := Lib.hid (HRs3.out.quiet (Keeps.refl _ _).drew)
          refine z_begin (fun w' => (convert 27 9 (.slice (some ⟨gs, 0, none⟩) 40 cs)).run Try.prog w' = .ok (.string (strOf (D.write 0 lo).now)) w' ∧ True) 10 (by kernel_rfl) (⟨HR22.out.str, trivial⟩) (fun hHeld => ?_)
          refine z_take 0 (v := ?_) rfl (by kernel_rfl) (by kernel_rfl) (by kernel_rfl) (by kernel_rfl) (fun _ _ _ h => h) hHeld (by rfl) (fun w hSw => ?_) ?_
          rotate_left
          · obtain ⟨hSw1, hSw2⟩ := hSw; simp only [List.getElem_toArray, List.getElem_cons_zero]; go_simp; try rfl
          simp only [Act.put, List.getElem_toArray, List.getElem_cons_zero, List.setIfInBounds_toArray, List.set_cons_zero, List.set_cons_succ]
          refine z_take 3 (v := ?_) rfl (by kernel_rfl) (by kernel_rfl) (by kernel_rfl) (by kernel_rfl) (fun _ _ _ h => h) hHeld (by rfl) (fun w hSw => ?_) ?_
          rotate_left
          · obtain ⟨hSw1, hSw2⟩ := hSw; simp only [List.getElem_toArray, List.getElem_cons_zero, List.getElem_cons_succ]; go_simp; try rfl
          simp only [Act.put, List.getElem_toArray, List.getElem_cons_zero, List.getElem_cons_succ, List.setIfInBounds_toArray, List.set_cons_zero, List.set_cons_succ]
          refine z_take 4 (v := ?_) rfl (by kernel_rfl) (by kernel_rfl) (by kernel_rfl) (by kernel_rfl) (fun _ _ _ h => h) hHeld (by rfl) (fun w hSw => ?_) ?_
          rotate_left
          · obtain ⟨hSw1, hSw2⟩ := hSw; simp only [List.getElem_toArray, List.getElem_cons_zero, List.getElem_cons_succ]; go_simp; try rfl
          simp only [Act.put, List.getElem_toArray, List.getElem_cons_zero, List.getElem_cons_succ, List.setIfInBounds_toArray, List.set_cons_zero, List.set_cons_succ]
          refine z_one 1 rfl (by kernel_rfl) (by rfl) (fun K hK => ?_)
          simp only [List.getElem_toArray, List.getElem_cons_zero, List.getElem_cons_succ]
          go_simp
          refine (raw_any x _ F6 _ H21.out.disk (by rw [HLW.out]; omega)).mono ?_
          rintro e w10 ⟨g10, c10, rfl, hown, hk⟩
          rw [HLW.out] at hown
          rw [HLW.out]
          have HR23 : Hid (Row w10 (.slice (some ⟨g10, 0, none⟩) 40 c10) 40 (D.write 0 lo).now F6) := Row.mk' hown (H21.out.disk.foot_lt)
          have H24 := Lib.hid (H21.out.quiet hk)
          have HR25 := Lib.hid (HR22.out.quiet hk)
          clear hown hk
          refine hK _ _ (Or.inr ?_) (fun hHeld => ?_)
          · exact ⟨HR25.out.str, trivial⟩
          clear hK K
          replace hHeld := hHeld.resolve_left (by decide)
          try simp only [Act.put, List.setIfInBounds_toArray, List.set_cons_zero, List.set_cons_succ]
          refine z_more (fun w' => (convert 27 9 (.slice (some ⟨g10, 0, none⟩) 40 c10)).run Try.prog w' = .ok (.string (strOf (D.write 0 lo).now)) w' ∧ (convert 27 9 (.slice (some ⟨gs, 0, none⟩) 40 cs)).run Try.prog w' = .ok (.string (strOf (D.write 0 lo).now)) w' ∧ True) (fun _ h => h.2) _ _ _ _ ?_
          replace hHeld : (convert 27 9 (.slice (some ⟨g10, 0, none⟩) 40 c10)).run Try.prog w10 = .ok (.string (strOf (D.write 0 lo).now)) w10 ∧ (convert 27 9 (.slice (some ⟨gs, 0, none⟩) 40 cs)).run Try.prog w10 = .ok (.string (strOf (D.write 0 lo).now)) w10 ∧ True := ⟨HR23.out.str, HR25.out.str, trivial⟩
          refine z_take 2 (v := ?_) rfl (by kernel_rfl) (by kernel_rfl) (by kernel_rfl) (by kernel_rfl) (fun _ _ _ h => h) hHeld (by rfl) (fun w hSw => ?_) ?_
          rotate_left
          · obtain ⟨hSw1, hSw2, hSw3⟩ := hSw; simp only [List.getElem_toArray, List.getElem_cons_zero, List.getElem_cons_succ]; go_simp; try rfl
          simp only [Act.put, List.getElem_toArray, List.getElem_cons_zero, List.getElem_cons_succ, List.setIfInBounds_toArray, List.set_cons_zero, List.set_cons_succ]
          refine z_take 5 (v := ?_) rfl (by kernel_rfl) (by kernel_rfl) (by kernel_rfl) (by kernel_rfl) (fun _ _ _ h => h) hHeld (by rfl) (fun w hSw => ?_) ?_
          rotate_left
          · obtain ⟨hSw1, hSw2, hSw3⟩ := hSw; simp only [List.getElem_toArray, List.getElem_cons_zero, List.getElem_cons_succ]; go_simp; try rfl
          simp only [Act.put, List.getElem_toArray, List.getElem_cons_zero, List.getElem_cons_succ, List.setIfInBounds_toArray, List.set_cons_zero, List.set_cons_succ]
          refine z_take 6 (v := ?_) rfl (by kernel_rfl) (by kernel_rfl) (by kernel_rfl) (by kernel_rfl) (fun _ _ _ h => h) hHeld (by rfl) (fun w hSw => ?_) ?_
          rotate_left
          · obtain ⟨hSw1, hSw2, hSw3⟩ := hSw; simp only [List.getElem_toArray, List.getElem_cons_zero, List.getElem_cons_succ]; go_simp; try rfl
          simp only [Act.put, List.getElem_toArray, List.getElem_cons_zero, List.getElem_cons_succ, List.setIfInBounds_toArray, List.set_cons_zero, List.set_cons_succ]
          refine z_one 7 rfl (by kernel_rfl) (by rfl) (fun K hK => ?_)
          simp only [List.getElem_toArray, List.getElem_cons_zero, List.getElem_cons_succ]
          go_simp
          refine (lives_any _).mono ?_
          rintro e w11 ⟨rfl, hk⟩
          have H26 := Lib.hid (H24.out.quiet hk)
          have HR27 := Lib.hid (HR25.out.quiet hk)
          have HR28 := Lib.hid (HR23.out.quiet hk)
          clear hk
          refine hK _ _ (Or.inr ?_) (fun hHeld => ?_)
          · exact ⟨HR28.out.str, HR27.out.str, trivial⟩
          clear hK K
          replace hHeld := hHeld.resolve_left (by decide)
          try simp only [Act.put, List.setIfInBounds_toArray, List.set_cons_zero, List.set_cons_succ]
          refine z_take 8 (v := ?_) rfl (by kernel_rfl) (by kernel_rfl) (by kernel_rfl) (by kernel_rfl) (fun _ _ _ h => h) hHeld (by rfl) (fun w hSw => ?_) ?_
          rotate_left
          · obtain ⟨hSw1, hSw2, hSw3⟩ := hSw; simp only [List.getElem_toArray, List.getElem_cons_zero, List.getElem_cons_succ]; go_simp; try rfl
          simp only [Act.put, List.getElem_toArray, List.getElem_cons_zero, List.getElem_cons_succ, List.setIfInBounds_toArray, List.set_cons_zero, List.set_cons_succ]
          refine z_one 9 rfl (by kernel_rfl) (by rfl) (fun K hK => ?_)
          simp only [List.getElem_toArray, List.getElem_cons_zero, List.getElem_cons_succ]
          go_simp
          refine hK _ _ (Or.inr ?_) (fun hHeld => ?_)
          · exact hHeld
          clear hK K
          replace hHeld := hHeld.resolve_left (by decide)
          try simp only [Act.put, List.setIfInBounds_toArray, List.set_cons_zero, List.set_cons_succ]
          refine z_done (by kernel_rfl) ?_ _
          go_wp2
          go_ret
          exact ⟨rfl, H26.out.below⟩
set_option maxHeartbeats 4000000 in
set_option maxRecDepth 100000 in
theorem reads_no3 (la : Option Addr) (b off len cap : Nat) (zs : List Int) (at_ n : Int) (sa : Option Addr) (lenb capb : Nat) (bs : List UInt8) (w : World) (hl : zs.length = len) (hlen : len ≤ 9223372036854775807) (hla : 0 < len → la = some ⟨b, off, none⟩) (hsrc : ∀ j z, zs[j]? = some z → w.cell? ⟨b, off + j, none⟩ = some (.int .i64 z)) (hwf : ∀ z ∈ zs, -9223372036854775808 ≤ z ∧ z ≤ 9223372036854775807) (at_1 : -9223372036854775808 ≤ at_) (at_2 : at_ ≤ 9223372036854775807) (n1 : -9223372036854775808 ≤ n) (n2 : n ≤ 9223372036854775807) (hbl : bs.length = lenb) (hbc : lenb ≤ capb) (hbm : capb ≤ 9223372036854775807) (hbn : sa = none → lenb = 0 ∧ capb = 0) (hbs : ∀ ad, sa = some ad → ∀ (j : Nat) (u : Value), (BV bs)[j]? = some u → w.cell? (ad.add j) = some u) (v1 : 0 ≤ at_) (v2 : at_ ≤ 40) (v3 : n < 0) :
    Calls Try.prog 10 #[.slice la len cap, .int .i64 at_, .int .i64 n, .slice sa lenb capb] w fun e w' => e = .returned (.bool true) ∧ Below w.heap.size w w' := by
  have HL := Lib.hid (And.intro hl (And.intro hla (And.intro hsrc hwf)))
  have HBS := Lib.hid (And.intro hbl (And.intro hbn hbs))
  clear hl hla hsrc hwf hbl hbn hbs
  have hg := playD_good zs
  have HIN : Hid (inB at_ n (playD ((zs.take 20).map mkAct)).now.length = false) := by show _ = _; rw [hg.ok.len]; unfold inB; simp; omega
  go_enter Try.func10, Try.ntmps10
  go_wp2_with fail
  obtain ⟨hl, hla, hsrc, hwf⟩ := HL.out
  refine (played_any la b off len cap zs w hl hlen hla hsrc hwf).mono ?_
  rintro e w1 ⟨x, F, rfl, hd, hk, hF⟩
  have H0 : Hid (One w w1 x (playD ((zs.take 20).map mkAct)) F) := ⟨hd, hk, hF⟩
  clear hd hk hF hl hla hsrc hwf HL
  generalize playD ((zs.take 20).map mkAct) = D at *
  have HG := Lib.hid hg
  have HLEN := Lib.hid hg.ok.len
  clear hg
  go_wp2_with fail
  refine (raw_any x _ F _ H0.out.disk (by rw [HLEN.out]; omega)).mono ?_
  rintro e w2 ⟨g2, c2, rfl, hown, hk⟩
  rw [HLEN.out] at hown
  rw [HLEN.out]
  have HR1 : Hid (Row w2 (.slice (some ⟨g2, 0, none⟩) 40 c2) 40 D.now F) := Row.mk' hown (H0.out.disk.foot_lt)
  have H2 := Lib.hid (H0.out.quiet hk)
  clear hown hk
  go_wp2_with fail
  refine (around_any at_ 41 _ at_1 at_2 (by omega) (by omega)).mono ?_
  rintro e _ ⟨rfl, rfl⟩
  obtain ⟨p, hp⟩ : ∃ k : Nat, around at_ 41 = k := ⟨(around at_ 41).toNat, by have := around_pos at_ 41 (by omega); omega⟩
  have bp : (p : Int) < 41 := by have := (around_pos at_ 41 (by omega)).2; rw [hp] at this; exact this
  rw [hp]
  clear hp
  go_wp2_with fail
  refine (around_any n (41 - (p : Int)) _ n1 n2 (by omega) (by omega)).mono ?_
  rintro e _ ⟨rfl, rfl⟩
  obtain ⟨k, hk⟩ : ∃ k : Nat, around n (41 - (p : Int)) = k := ⟨(around n (41 - (p : Int))).toNat, by have := around_pos n (41 - (p : Int)) (by omega); omega⟩
  have bk : (k : Int) < 41 - (p : Int) := by have := (around_pos n (41 - (p : Int)) (by omega)).2; rw [hk] at this; exact this
  rw [hk]
  clear hk
  have hpk : p + k ≤ 40 := by omega
  clear bp bk
  go_wp2_with fail
  refine (read_ok x p k D F _ H2.out.disk HG.out.ok.up (by rw [HLEN.out]; exact hpk) (by rw [HLEN.out]; omega)).mono ?_
  rintro e w3 ⟨gx, cx, rfl, hown, hk⟩
  have HRx : Hid (Row w3 (.slice (some ⟨gx, 0, none⟩) k cx) k ((D.now.drop p).take k) F) := Row.mk' hown H2.out.disk.foot_lt
  have H3 := Lib.hid (H2.out.quiet hk)
  have HR4 := Lib.hid (HR1.out.quiet hk)
  clear hown hk
  have hcall : 40 ≤ c2 := by rcases HR4.out.own.2 with ⟨h, h0⟩ | ⟨_, _, _, h, _, _, h', _⟩; omega; simp at h; omega
  obtain ⟨ad, had, hadp⟩ : ∃ ad : Addr, (if c2 = p then some (⟨g2, 0, none⟩ : Addr) else some ⟨g2, p, none⟩) = some ad ∧ (0 < k → ad = ⟨g2, p, none⟩) := by
    by_cases e : c2 = p
    · exact ⟨_, if_pos e, fun h => by omega⟩
    · exact ⟨_, if_neg e, fun _ => rfl⟩
  have j1 : (0 : Int) ≤ (p : Int) := by omega
  have j2 : (p : Int) ≤ (c2 : Int) := by omega
  have j3 : (p : Int) ≤ (p : Int) + (k : Int) := by omega
  have j4 : (p : Int) + (k : Int) ≤ (c2 : Int) := by omega
  have j5 : IntKind.i64.wrap ((p : Int) + (k : Int)) = (p : Int) + k := IntWalk.i64_in _ (by omega)
  have j6 : ((p : Int) + (k : Int)).toNat = p + k := by omega
  have j7 : p + k - p = k := by omega
  have HSUB : Hid (∀ w' : World, Row w' (.slice (some ⟨g2, 0, none⟩) 40 c2) 40 D.now F → (convert 27 9 (.slice (some ad) k (c2 - p))).run Try.prog w' = .ok (.string (strOf ((D.now.drop p).take k))) w') := fun w' h => run_str_sub h.own hpk hadp
  clear hadp
  go_wp2_with fail
  have H5 := Lib.hid (H3.out.quiet (Keeps.refl _ _).drew)
  have HR6 := Lib.hid (HR4.out.quiet (Keeps.refl _ _).drew)
  have HR7 := Lib.hid (HRx.out.quiet (Keeps.refl _ _).drew)
  refine z_begin (fun w' => (convert 27 9 (.slice (some ⟨gx, 0, none⟩) k cx)).run Try.prog w' = .ok (.string (strOf ((D.now.drop p).take k))) w' ∧ (convert 27 9 (.slice (some ad) k (c2 - p))).run Try.prog w' = .ok (.string (strOf ((D.now.drop p).take k))) w') 14 (by kernel_rfl) (⟨HR7.out.str, HSUB.out _ HR6.out⟩) (fun hHeld => ?_)
  refine z_take 0 (v := ?_) rfl (by kernel_rfl) (by kernel_rfl) (by kernel_rfl) (by kernel_rfl) (fun _ _ _ h => h) hHeld (by rfl) (fun w hSw => ?_) ?_
  rotate_left
  · obtain ⟨hSw1, hSw2⟩ := hSw; simp only [List.getElem_toArray, List.getElem_cons_zero]; go_simp; try rfl
  simp only [Act.put, List.getElem_toArray, List.getElem_cons_zero, List.setIfInBounds_toArray, List.set_cons_zero, List.set_cons_succ]
  refine z_take 1 (v := ?_) rfl (by kernel_rfl) (by kernel_rfl) (by kernel_rfl) (by kernel_rfl) (fun _ _ _ h => h) hHeld (by rfl) (fun w hSw => ?_) ?_
  rotate_left
  · obtain ⟨hSw1, hSw2⟩ := hSw; simp only [List.getElem_toArray, List.getElem_cons_zero, List.getElem_cons_succ]; go_simp; try rfl
  simp only [Act.put, List.getElem_toArray, List.getElem_cons_zero, List.getElem_cons_succ, List.setIfInBounds_toArray, List.set_cons_zero, List.set_cons_succ]
  refine z_take 2 (v := ?_) rfl (by kernel_rfl) (by kernel_rfl) (by kernel_rfl) (by kernel_rfl) (fun _ _ _ h => h) hHeld (by rfl) (fun w hSw => ?_) ?_
  rotate_left
  · obtain ⟨hSw1, hSw2⟩ := hSw; simp only [List.getElem_toArray, List.getElem_cons_zero, List.getElem_cons_succ]; go_simp; try rfl
  simp only [Act.put, List.getElem_toArray, List.getElem_cons_zero, List.getElem_cons_succ, List.setIfInBounds_toArray, List.set_cons_zero, List.set_cons_succ]
  refine z_take 3 (v := ?_) rfl (by kernel_rfl) (by kernel_rfl) (by kernel_rfl) (by kernel_rfl) (fun _ _ _ h => h) hHeld (by rfl) (fun w hSw => ?_) ?_
  rotate_left
  · obtain ⟨hSw1, hSw2⟩ := hSw; simp only [List.getElem_toArray, List.getElem_cons_zero, List.getElem_cons_succ]; go_simp; try rfl
  simp only [Act.put, List.getElem_toArray, List.getElem_cons_zero, List.getElem_cons_succ, List.setIfInBounds_toArray, List.set_cons_zero, List.set_cons_succ]
  refine z_take 4 (v := ?_) rfl (by kernel_rfl) (by kernel_rfl) (by kernel_rfl) (by kernel_rfl) (fun _ _ _ h => h) hHeld (by rfl) (fun w hSw => ?_) ?_
  rotate_left
  · obtain ⟨hSw1, hSw2⟩ := hSw; simp only [List.getElem_toArray, List.getElem_cons_zero, List.getElem_cons_succ]; go_simp; try rfl
  simp only [Act.put, List.getElem_toArray, List.getElem_cons_zero, List.getElem_cons_succ, List.setIfInBounds_toArray, List.set_cons_zero, List.set_cons_succ]
  refine z_take 5 (v := ?_) rfl (by kernel_rfl) (by kernel_rfl) (by kernel_rfl) (by kernel_rfl) (fun _ _ _ h => h) hHeld (by rfl) (fun w hSw => ?_) ?_
  rotate_left
  · obtain ⟨hSw1, hSw2⟩ := hSw; simp only [List.getElem_toArray, List.getElem_cons_zero, List.getElem_cons_succ]; go_simp; try rfl
  simp only [Act.put, List.getElem_toArray, List.getElem_cons_zero, List.getElem_cons_succ, List.setIfInBounds_toArray, List.set_cons_zero, List.set_cons_succ]
  refine z_take 6 (v := ?_) rfl (by kernel_rfl) (by kernel_rfl) (by kernel_rfl) (by kernel_rfl) (fun _ _ _ h => h) hHeld (by rfl) (fun w hSw => ?_) ?_
  rotate_left
  · obtain ⟨hSw1, hSw2⟩ := hSw; simp only [List.getElem_toArray, List.getElem_cons_zero, List.getElem_cons_succ]; go_simp; try rfl
  simp only [Act.put, List.getElem_toArray, List.getElem_cons_zero, List.getElem_cons_succ, List.setIfInBounds_toArray, List.set_cons_zero, List.set_cons_succ]
  refine z_take 7 (v := ?_) rfl (by kernel_rfl) (by kernel_rfl) (by kernel_rfl) (by kernel_rfl) (fun _ _ _ h => h) hHeld (by rfl) (fun w hSw => ?_) ?_
  rotate_left
  · obtain ⟨hSw1, hSw2⟩ := hSw; simp only [List.getElem_toArray, List.getElem_cons_zero, List.getElem_cons_succ]; go_simp; try rfl
  simp only [Act.put, List.getElem_toArray, List.getElem_cons_zero, List.getElem_cons_succ, List.setIfInBounds_toArray, List.set_cons_zero, List.set_cons_succ]
  refine z_take 8 (v := ?_) rfl (by kernel_rfl) (by kernel_rfl) (by kernel_rfl) (by kernel_rfl) (fun _ _ _ h => h) hHeld (by rfl) (fun w hSw => ?_) ?_
  rotate_left
  · obtain ⟨hSw1, hSw2⟩ := hSw; simp only [List.getElem_toArray, List.getElem_cons_zero, List.getElem_cons_succ]; go_simp; try rfl
  simp only [Act.put, List.getElem_toArray, List.getElem_cons_zero, List.getElem_cons_succ, List.setIfInBounds_toArray, List.set_cons_zero, List.set_cons_succ]
  refine z_take 9 (v := ?_) rfl (by kernel_rfl) (by kernel_rfl) (by kernel_rfl) (by kernel_rfl) (fun _ _ _ h => h) hHeld (by rfl) (fun w hSw => ?_) ?_
  rotate_left
  · obtain ⟨hSw1, hSw2⟩ := hSw; simp only [List.getElem_toArray, List.getElem_cons_zero, List.getElem_cons_succ]; go_simp; try rfl
  simp only [Act.put, List.getElem_toArray, List.getElem_cons_zero, List.getElem_cons_succ, List.setIfInBounds_toArray, List.set_cons_zero, List.set_cons_succ]
  refine z_take 10 (v := ?_) rfl (by kernel_rfl) (by kernel_rfl) (by kernel_rfl) (by kernel_rfl) (fun _ _ _ h => h) hHeld (by rfl) (fun w hSw => ?_) ?_
  rotate_left
  · obtain ⟨hSw1, hSw2⟩ := hSw; simp only [List.getElem_toArray, List.getElem_cons_zero, List.getElem_cons_succ]; go_simp; try rfl
  simp only [Act.put, List.getElem_toArray, List.getElem_cons_zero, List.getElem_cons_succ, List.setIfInBounds_toArray, List.set_cons_zero, List.set_cons_succ]
  refine z_take 11 (v := ?_) rfl (by kernel_rfl) (by kernel_rfl) (by kernel_rfl) (by kernel_rfl) (fun _ _ _ h => h) hHeld (by rfl) (fun w hSw => ?_) ?_
  rotate_left
  · obtain ⟨hSw1, hSw2⟩ := hSw; simp only [List.getElem_toArray, List.getElem_cons_zero, List.getElem_cons_succ]; go_simp; try rfl
  simp only [Act.put, List.getElem_toArray, List.getElem_cons_zero, List.getElem_cons_succ, List.setIfInBounds_toArray, List.set_cons_zero, List.set_cons_succ]
  refine z_take 12 (v := ?_) rfl (by kernel_rfl) (by kernel_rfl) (by kernel_rfl) (by kernel_rfl) (fun _ _ _ h => h) hHeld (by rfl) (fun w hSw => ?_) ?_
  rotate_left
  · obtain ⟨hSw1, hSw2⟩ := hSw; simp only [List.getElem_toArray, List.getElem_cons_zero, List.getElem_cons_succ]; go_simp; try rfl
  simp only [Act.put, List.getElem_toArray, List.getElem_cons_zero, List.getElem_cons_succ, List.setIfInBounds_toArray, List.set_cons_zero, List.set_cons_succ]
  refine z_take 13 (v := ?_) rfl (by kernel_rfl) (by kernel_rfl) (by kernel_rfl) (by kernel_rfl) (fun _ _ _ h => h) hHeld (by rfl) (fun w hSw => ?_) ?_
  rotate_left
  · obtain ⟨hSw1, hSw2⟩ := hSw; simp only [List.getElem_toArray, List.getElem_cons_zero, List.getElem_cons_succ]; go_simp; try rfl
  simp only [Act.put, List.getElem_toArray, List.getElem_cons_zero, List.getElem_cons_succ, List.setIfInBounds_toArray, List.set_cons_zero, List.set_cons_succ]
  refine z_done (by kernel_rfl) ?_ _
  clear had j1 j2 j3 j4 j5 j6 j7
  go_wp2_with fail
  refine (read_no x at_ n D F _ H5.out.disk HG.out.ok.up HIN.out (by rw [HLEN.out]; omega)).mono ?_
  rintro e w4 ⟨rfl, hk⟩
  have H8 := Lib.hid (H5.out.quiet hk)
  clear hk
  go_wp2_with fail
  obtain ⟨hbl, hbn, hbs⟩ := HBS.out
  refine (few_any sa lenb capb 9 bs _ hbl hbc hbm (by omega) hbn (fun ad had j u hu => (H8.out.keep.cell (World.block_lt_of_cell? w _ (hbs ad had j u hu)) (fun h => h)).trans (hbs ad had j u hu))).mono ?_
  clear hbl hbn hbs
  rintro e w5 ⟨so, co, rfl, hown, hk⟩
  obtain ⟨m, hm⟩ : ∃ m, min lenb 9 = m := ⟨_, rfl⟩
  obtain ⟨lo, hlo⟩ : ∃ lo, lo = bs.take 9 := ⟨_, rfl⟩
  rw [← hlo] at hown
  rw [hm] at hown
  rw [hm]
  have hmb : m ≤ 9 := by omega
  have HLO : Hid (lo.length = m) := by show _ = _; rw [hlo, List.length_take, HBS.out.1]; omega
  have HRown : Hid (Row w5 (.slice so m co) m lo F) := Row.mk' hown (H8.out.disk.foot_lt)
  have HOB : Hid (∀ k, so = some ⟨k, 0, none⟩ → w.heap.size ≤ k) := fun k e => by have h1 := (own_lt hown e).1; have h2 := H8.out.keep.size; omega
  have H9 := Lib.hid (H8.out.quiet hk)
  clear hown hk hm hlo HBS hbc hbm
  have HOW : Hid ((D.write 0 lo).Ok 40 (220 + lo.length)) := write_okD HG.out.ok (by rw [HLO.out]; omega)
  have HLW := Lib.hid HOW.out.len
  have HWT : Hid (((D.write 0 lo).now.drop 0).take 40 = (D.write 0 lo).now) := by show _ = _; rw [List.drop_zero, List.take_of_length_le (by rw [HLW.out]; exact Nat.le_refl _)]
  go_wp2_with fail
  obtain ⟨sb, s1, s2, s3⟩ := HRown.out.src
  refine (write_ok x 0 lo m so sb 0 co D F _ H9.out.disk HG.out.ok.up HLO.out s1 s2 s3 (by rw [HLEN.out]; omega) (by rw [HLEN.out]; omega) (by have := HG.out.ok.lo; omega)).mono ?_
  rintro e w6 ⟨rfl, F6, hd, hk, hs⟩
  clear s1 s2 s3
  have H10 := Lib.hid (H9.out.step hd hk hs)
  have HR11 := Lib.hid (HRown.out.step hk hs)
  clear hd hk hs
  go_wp2_with fail
  refine (raw_any x (D.write 0 lo) F6 _ H10.out.disk (by rw [HLW.out]; omega)).mono ?_
  rintro e w7 ⟨gs, cs, rfl, hown, hk⟩
  rw [HLW.out] at hown
  rw [HLW.out]
  have HRs : Hid (Row w7 (.slice (some ⟨gs, 0, none⟩) 40 cs) 40 (D.write 0 lo).now (fun k => k < w6.heap.size)) := Row.mk' hown (fun k h => h)
  have H12 := Lib.hid (H10.out.quiet hk)
  have HR13 := Lib.hid (HR11.out.quiet hk)
  have hszs : w6.heap.size ≤ w7.heap.size := hk.size
  clear hown hk
  go_wp2_with fail
  refine (read_ok x 0 40 (D.write 0 lo) F6 _ H12.out.disk HOW.out.up (by rw [HLW.out]; omega) (by rw [HLW.out]; omega)).mono ?_
  rintro e w8 ⟨gy, cy, rfl, hown, hk⟩
  rw [HWT.out] at hown
  have HRy : Hid (Row w8 (.slice (some ⟨gy, 0, none⟩) 40 cy) 40 (D.write 0 lo).now (fun k => k < w7.heap.size)) := Row.mk' hown (fun k h => h)
  have H14 := Lib.hid (H12.out.quiet hk)
  have HR15 := Lib.hid (HR13.out.quiet hk)
  have HR16 := Lib.hid (HRs.out.quiet hk)
  have hszy : w7.heap.size ≤ w8.heap.size := hk.size
  clear hown hk
  go_wp2_with fail
  refine (raw_any x (D.write 0 lo) F6 _ H14.out.disk (by rw [HLW.out]; omega)).mono ?_
  rintro e w9 ⟨gz, cz, rfl, hown, hk⟩
  rw [HLW.out] at hown
  rw [HLW.out]
  have HRz : Hid (Row w9 (.slice (some ⟨gz, 0, none⟩) 40 cz) 40 (D.write 0 lo).now (fun k => k < w8.heap.size)) := Row.mk' hown (fun k h => h)
  have H17 := Lib.hid (H14.out.quiet hk)
  have HR18 := Lib.hid (HR15.out.quiet hk)
  have HR19 := Lib.hid (HR16.out.quiet hk)
  have HR20 := Lib.hid (HRy.out.quiet hk)
  have hszz : w8.heap.size ≤ w9.heap.size := hk.size
  clear hown hk
  have HBo : Hid (∀ k, so = some ⟨k, 0, none⟩ → k < w6.heap.size ∧ w.heap.size ≤ k ∧ ¬ F6 k) := fun k e => ⟨(own_lt HR11.out.own e).2, HOB.out k e, fun hf => HR18.out.ap k (by rw [e]; rfl) hf⟩
  have HBs : Hid (gs < w7.heap.size ∧ w6.heap.size ≤ gs) := ⟨(own_lt HRs.out.own rfl).2, Nat.le_of_not_lt (HRs.out.ap gs rfl)⟩
  have HBy : Hid (w7.heap.size ≤ gy) := Nat.le_of_not_lt (HRy.out.ap gy rfl)
  have HBz : Hid (w8.heap.size ≤ gz ∧ gy < w8.heap.size) := ⟨Nat.le_of_not_lt (HRz.out.ap gz rfl), (own_lt HRy.out.own rfl).2⟩
  have HFl : Hid (∀ k, F6 k → k < w6.heap.size) := H10.out.disk.foot_lt
  have hW0 : w.heap.size ≤ w6.heap.size := H10.out.keep.size
  go_wp2_with fail
  go_loopw [23] (fun i wr => RdRel1 w9 so m co i wr) (fun i _ => m - (intOf i).toNat)
  case atStart => exact ⟨0, lo, Nat.zero_le _, rfl, HR18.out.own, Keeps.refl _ _⟩
  case round =>
    obtain ⟨q, l', hq, rfl, hrow, hkp⟩ := hrel
    have HB := Lib.hid (And.intro hrow hkp)
    clear hrow hkp
    by_cases hlt : q < m
    · obtain ⟨gso, rfl⟩ : ∃ g, so = some ⟨g, 0, none⟩ := by
        rcases own_addr HB.out.1 with ⟨_, h, _⟩ | h
        · omega
        · exact h
      have hll : l'.length = m := by have := HB.out.1.1; simpa using this
      obtain ⟨c, hc⟩ : ∃ c, l'[q]? = some c := ⟨_, List.getElem?_eq_getElem (by omega)⟩
      have c1 := own_cell HB.out.1 q _ (show (BV l')[q]? = some (.int .u8 c.toNat) by rw [BV_get, hc]; rfl)
      have c2 := HB.out.1.frozenAt q
      have HS : Hid (∀ v : Int, 0 ≤ v → v < 256 → RdRel1 w9 (some ⟨gso, 0, none⟩) m co (.int .i64 ((q + 1 : Nat) : Int)) (wr.setCell ⟨gso, q, none⟩ (.int .u8 v))) := fun v h1 h2 => ⟨q + 1, l'.set q (UInt8.ofNat v.toNat), by omega, rfl, by rw [BV_set l' q v h1 h2]; exact (HB.out.1.stored q (.int .u8 v)).1, Keeps.setCell (F := fun j => some (⟨gso, 0, none⟩ : Addr) = some ⟨j, 0, none⟩) HB.out.2 (p := ⟨gso, q, none⟩) (fun _ => rfl) _⟩
      have hcb : c.toNat < 256 := c.toNat_lt
      have t1 : (0 : Int) ≤ (q : Int) := by omega
      have t2 : (q : Int) < (m : Int) := by omega
      clear hll hc
      go_wp2
      go_roundw
      case rel => exact HS.out _ (by omega) (by omega)
      case measure => simp [intOf]; omega
    · obtain rfl : q = m := by omega
      have HA : Hid (One w wr x (D.write 0 lo) F6) := H17.out.touch _ HB.out.2 (fun k e => (HBo.out k e).2.1) (fun k hf e => (HBo.out k e).2.2 hf)
      have HRs2 := Lib.hid (own_keep HR19.out.own HB.out.2 (fun k e hf => by simp [Value.ownBlock] at e; have := (HBo.out k hf).1; have := HBs.out.2; omega))
      have HRy2 := Lib.hid (own_keep HR20.out.own HB.out.2 (fun k e hf => by simp [Value.ownBlock] at e; have := (HBo.out k hf).1; have := HBy.out; omega))
      have HRz2 := Lib.hid (own_keep HRz.out.own HB.out.2 (fun k e hf => by simp [Value.ownBlock] at e; have := (HBo.out k hf).1; have := HBz.out.1; omega))
      clear HB
      obtain ⟨wB, rfl⟩ : ∃ wB : World, wB = wr := ⟨_, rfl⟩
      go_wp2_with fail
      go_loopw [24] (fun i wr => RdRel2 wB gy cy gz cz i wr) (fun i _ => 40 - (intOf i).toNat)
      case atStart => exact ⟨0, _, _, Nat.zero_le _, rfl, HRy2.out, HRz2.out, Keeps.refl _ _⟩
      case round =>
        obtain ⟨q2, ly, lz, hq2, rfl, hrowy, hrowz, hkp⟩ := hrel
        have HB := Lib.hid (And.intro hrowy (And.intro hrowz hkp))
        clear hrowy hrowz hkp
        by_cases hlt2 : q2 < 40
        · have hly : ly.length = 40 := by have := HB.out.1.1; simpa using this
          have hlz : lz.length = 40 := by have := HB.out.2.1.1; simpa using this
          obtain ⟨c, hc⟩ : ∃ c, ly[q2]? = some c := ⟨_, List.getElem?_eq_getElem (by omega)⟩
          obtain ⟨d, hd⟩ : ∃ c, lz[q2]? = some c := ⟨_, List.getElem?_eq_getElem (by omega)⟩
          have c1 := own_cell HB.out.1 q2 _ (show (BV ly)[q2]? = some (.int .u8 c.toNat) by rw [BV_get, hc]; rfl)
          have c2 := HB.out.1.frozenAt q2
          have hne : gy ≠ gz := by have := HBz.out; omega
          have HS1 : Hid (∀ v : Value, Keeps (fun j => j = gy) wr (wr.setCell ⟨gy, q2, none⟩ v)) := fun v => (Keeps.refl (fun j => j = gy) wr).setCell (p := ⟨gy, q2, none⟩) (fun _ => rfl) v
          have c3 : ∀ v : Value, (wr.setCell ⟨gy, q2, none⟩ v).cell? ⟨gz, q2, none⟩ = some (.int .u8 d.toNat) := fun v => ((HS1.out v).cell (p := ⟨gz, q2, none⟩) (own_lt HB.out.2.1 rfl).2 (fun e => hne e.symm)).trans (own_cell HB.out.2.1 q2 _ (show (BV lz)[q2]? = some (.int .u8 d.toNat) by rw [BV_get, hd]; rfl))
          have c4 : ∀ v : Value, (wr.setCell ⟨gy, q2, none⟩ v).frozen? ⟨gz, q2, none⟩ = false := fun v => ((HS1.out v).frozen (p := ⟨gz, q2, none⟩) (own_lt HB.out.2.1 rfl).2 (fun e => hne e.symm)).trans (HB.out.2.1.frozenAt q2)
          have HS : Hid (∀ v v' : Int, 0 ≤ v → v < 256 → 0 ≤ v' → v' < 256 → RdRel2 wB gy cy gz cz (.int .i64 ((q2 + 1 : Nat) : Int)) ((wr.setCell ⟨gy, q2, none⟩ (.int .u8 v)).setCell ⟨gz, q2, none⟩ (.int .u8 v'))) := fun v v' h1 h2 h3 h4 => by
            refine ⟨q2 + 1, ly.set q2 (UInt8.ofNat v.toNat), lz.set q2 (UInt8.ofNat v'.toNat), by omega, rfl, ?_, ?_, ?_⟩
            · rw [BV_set ly q2 v h1 h2]
              exact own_keep (HB.out.1.stored q2 (.int .u8 v)).1 ((Keeps.refl (fun j => j = gz) _).setCell (p := ⟨gz, q2, none⟩) (fun _ => rfl) _) (fun k e => by simp [Value.ownBlock] at e; omega)
            · rw [BV_set lz q2 v' h3 h4]
              exact ((own_keep HB.out.2.1 (HS1.out (.int .u8 v)) (fun k e => by simp [Value.ownBlock] at e; omega)).stored q2 (.int .u8 v')).1
            · exact Keeps.setCell (F := fun j => j = gy ∨ j = gz) (Keeps.setCell (F := fun j => j = gy ∨ j = gz) HB.out.2.2 (p := ⟨gy, q2, none⟩) (fun _ => Or.inl rfl) _) (p := ⟨gz, q2, none⟩) (fun _ => Or.inr rfl) _
          have hcb : c.toNat < 256 := c.toNat_lt
          have hdb : d.toNat < 256 := d.toNat_lt
          have t1 : (0 : Int) ≤ (q2 : Int) := by omega
          have t2 : (q2 : Int) < 40 := by omega
          clear hly hlz hc hd hne
          go_wp2
          go_roundw
          case rel => exact HS.out _ _ (by omega) (by omega) (by omega) (by omega)
          case measure => simp [intOf]; omega
        · obtain rfl : q2 = 40 := by omega
          have HA2 : Hid (One w wr x (D.write 0 lo) F6) := HA.out.touch _ HB.out.2.2 (fun k e => by have h1 := HBy.out; have h2 := HBz.out; omega) (fun k hf e => by have h1 := HFl.out k hf; have h2 := HBy.out; have h3 := HBz.out; have h4 := HBs.out; omega)
          have HRs3 : Hid (Row wr (.slice (some ⟨gs, 0, none⟩) 40 cs) 40 (D.write 0 lo).now F6) := ⟨own_keep HRs2.out HB.out.2.2 (fun k e hf => by simp [Value.ownBlock] at e; have h1 := HBs.out; have h2 := HBy.out; have h3 := HBz.out; omega), fun k e hf => by simp [Value.ownBlock] at e; have h1 := HFl.out k hf; have h2 := HBs.out; omega⟩
          clear HB
          go_wp2_with fail
          have H21 := Lib.hid (HA2.out.quiet (Keeps.refl _ _).drew)
          have HR22 := Lib.hid (HRs3.out.quiet (Keeps.refl _ _).drew)
          refine z_begin (fun w' => (convert 27 9 (.slice (some ⟨gs, 0, none⟩) 40 cs)).run Try.prog w' = .ok (.string (strOf (D.write 0 lo).now)) w' ∧ True) 10 (by kernel_rfl) (⟨HR22.out.str, trivial⟩) (fun hHeld => ?_)
          refine z_take 0 (v := ?_) rfl (by kernel_rfl) (by kernel_rfl) (by kernel_rfl) (by kernel_rfl) (fun _ _ _ h => h) hHeld (by rfl) (fun w hSw => ?_) ?_
          rotate_left
          · obtain ⟨hSw1, hSw2⟩ := hSw; simp only [List.getElem_toArray, List.getElem_cons_zero]; go_simp; try rfl
          simp only [Act.put, List.getElem_toArray, List.getElem_cons_zero, List.setIfInBounds_toArray, List.set_cons_zero, List.set_cons_succ]
          refine z_take 3 (v := ?_) rfl (by kernel_rfl) (by kernel_rfl) (by kernel_rfl) (by kernel_rfl) (fun _ _ _ h => h) hHeld (by rfl) (fun w hSw => ?_) ?_
          rotate_left
          · obtain ⟨hSw1, hSw2⟩ := hSw; simp only [List.getElem_toArray, List.getElem_cons_zero, List.getElem_cons_succ]; go_simp; try rfl
          simp only [Act.put, List.getElem_toArray, List.getElem_cons_zero, List.getElem_cons_succ, List.setIfInBounds_toArray, List.set_cons_zero, List.set_cons_succ]
          refine z_take 4 (v := ?_) rfl (by kernel_rfl) (by kernel_rfl) (by kernel_rfl) (by kernel_rfl) (fun _ _ _ h => h) hHeld (by rfl) (fun w hSw => ?_) ?_
          rotate_left
          · obtain ⟨hSw1, hSw2⟩ := hSw; simp only [List.getElem_toArray, List.getElem_cons_zero, List.getElem_cons_succ]; go_simp; try rfl
          simp only [Act.put, List.getElem_toArray, List.getElem_cons_zero, List.getElem_cons_succ, List.setIfInBounds_toArray, List.set_cons_zero, List.set_cons_succ]
          refine z_one 1 rfl (by kernel_rfl) (by rfl) (fun K hK => ?_)
          simp only [List.getElem_toArray, List.getElem_cons_zero, List.getElem_cons_succ]
          go_simp
          refine (raw_any x _ F6 _ H21.out.disk (by rw [HLW.out]; omega)).mono ?_
          rintro e w10 ⟨g10, c10, rfl, hown, hk⟩
          rw [HLW.out] at hown
          rw [HLW.out]
          have HR23 : Hid (Row w10 (.slice (some ⟨g10, 0, none⟩) 40 c10) 40 (D.write 0 lo).now F6) := Row.mk' hown (H21.out.disk.foot_lt)
          have H24 := Lib.hid (H21.out.quiet hk)
          have HR25 := Lib.hid (HR22.out.quiet hk)
          clear hown hk
          refine hK _ _ (Or.inr ?_) (fun hHeld => ?_)
          · exact ⟨HR25.out.str, trivial⟩
          clear hK K
          replace hHeld := hHeld.resolve_left (by decide)
          try simp only [Act.put, List.setIfInBounds_toArray, List.set_cons_zero, List.set_cons_succ]
          refine z_more (fun w' => (convert 27 9 (.slice (some ⟨g10, 0, none⟩) 40 c10)).run Try.prog w' = .ok (.string (strOf (D.write 0 lo).now)) w' ∧ (convert 27 9 (.slice (some ⟨gs, 0, none⟩) 40 cs)).run Try.prog w' = .ok (.string (strOf (D.write 0 lo).now)) w' ∧ True) (fun _ h => h.2) _ _ _ _ ?_
          replace hHeld : (convert 27 9 (.slice (some ⟨g10, 0, none⟩) 40 c10)).run Try.prog w10 = .ok (.string (strOf (D.write 0 lo).now)) w10 ∧ (convert 27 9 (.slice (some ⟨gs, 0, none⟩) 40 cs)).run Try.prog w10 = .ok (.string (strOf (D.write 0 lo).now)) w10 ∧ True := ⟨HR23.out.str, HR25.out.str, trivial⟩
          refine z_take 2 (v := ?_) rfl (by kernel_rfl) (by kernel_rfl) (by kernel_rfl) (by kernel_rfl) (fun _ _ _ h => h) hHeld (by rfl) (fun w hSw => ?_) ?_
          rotate_left
          · obtain ⟨hSw1, hSw2, hSw3⟩ := hSw; simp only [List.getElem_toArray, List.getElem_cons_zero, List.getElem_cons_succ]; go_simp; try rfl
          simp only [Act.put, List.getElem_toArray, List.getElem_cons_zero, List.getElem_cons_succ, List.setIfInBounds_toArray, List.set_cons_zero, List.set_cons_succ]
          refine z_take 5 (v := ?_) rfl (by kernel_rfl) (by kernel_rfl) (by kernel_rfl) (by kernel_rfl) (fun _ _ _ h => h) hHeld (by rfl) (fun w hSw => ?_) ?_
          rotate_left
          · obtain ⟨hSw1, hSw2, hSw3⟩ := hSw; simp only [List.getElem_toArray, List.getElem_cons_zero, List.getElem_cons_succ]; go_simp; try rfl
          simp only [Act.put, List.getElem_toArray, List.getElem_cons_zero, List.getElem_cons_succ, List.setIfInBounds_toArray, List.set_cons_zero, List.set_cons_succ]
          refine z_take 6 (v := ?_) rfl (by kernel_rfl) (by kernel_rfl) (by kernel_rfl) (by kernel_rfl) (fun _ _ _ h => h) hHeld (by rfl) (fun w hSw => ?_) ?_
          rotate_left
          · obtain ⟨hSw1, hSw2, hSw3⟩ := hSw; simp only [List.getElem_toArray, List.getElem_cons_zero, List.getElem_cons_succ]; go_simp; try rfl
          simp only [Act.put, List.getElem_toArray, List.getElem_cons_zero, List.getElem_cons_succ, List.setIfInBounds_toArray, List.set_cons_zero, List.set_cons_succ]
          refine z_one 7 rfl (by kernel_rfl) (by rfl) (fun K hK => ?_)
          simp only [List.getElem_toArray, List.getElem_cons_zero, List.getElem_cons_succ]
          go_simp
          refine (lives_any _).mono ?_
          rintro e w11 ⟨rfl, hk⟩
          have H26 := Lib.hid (H24.out.quiet hk)
          have HR27 := Lib.hid (HR25.out.quiet hk)
          have HR28 := Lib.hid (HR23.out.quiet hk)
          clear hk
          refine hK _ _ (Or.inr ?_) (fun hHeld => ?_)
          · exact ⟨HR28.out.str, HR27.out.str, trivial⟩
          clear hK K
          replace hHeld := hHeld.resolve_left (by decide)
          try simp only [Act.put, List.setIfInBounds_toArray, List.set_cons_zero, List.set_cons_succ]
          refine z_take 8 (v := ?_) rfl (by kernel_rfl) (by kernel_rfl) (by kernel_rfl) (by kernel_rfl) (fun _ _ _ h => h) hHeld (by rfl) (fun w hSw => ?_) ?_
          rotate_left
          · obtain ⟨hSw1, hSw2, hSw3⟩ := hSw; simp only [List.getElem_toArray, List.getElem_cons_zero, List.getElem_cons_succ]; go_simp; try rfl
          simp only [Act.put, List.getElem_toArray, List.getElem_cons_zero, List.getElem_cons_succ, List.setIfInBounds_toArray, List.set_cons_zero, List.set_cons_succ]
          refine z_one 9 rfl (by kernel_rfl) (by rfl) (fun K hK => ?_)
          simp only [List.getElem_toArray, List.getElem_cons_zero, List.getElem_cons_succ]
          go_simp
          refine hK _ _ (Or.inr ?_) (fun hHeld => ?_)
          · exact hHeld
          clear hK K
          replace hHeld := hHeld.resolve_left (by decide)
          try simp only [Act.put, List.setIfInBounds_toArray, List.set_cons_zero, List.set_cons_succ]
          refine z_done (by kernel_rfl) ?_ _
          go_wp2
          go_ret
          exact ⟨rfl, H26.out.below⟩
set_option maxHeartbeats 4000000 in
set_option maxRecDepth 100000 in
theorem reads_no4 (la : Option Addr) (b off len cap : Nat) (zs : List Int) (at_ n : Int) (sa : Option Addr) (lenb capb : Nat) (bs : List UInt8) (w : World) (hl : zs.length = len) (hlen : len ≤ 9223372036854775807) (hla : 0 < len → la = some ⟨b, off, none⟩) (hsrc : ∀ j z, zs[j]? = some z → w.cell? ⟨b, off + j, none⟩ = some (.int .i64 z)) (hwf : ∀ z ∈ zs, -9223372036854775808 ≤ z ∧ z ≤ 9223372036854775807) (at_1 : -9223372036854775808 ≤ at_) (at_2 : at_ ≤ 9223372036854775807) (n1 : -9223372036854775808 ≤ n) (n2 : n ≤ 9223372036854775807) (hbl : bs.length = lenb) (hbc : lenb ≤ capb) (hbm : capb ≤ 9223372036854775807) (hbn : sa = none → lenb = 0 ∧ capb = 0) (hbs : ∀ ad, sa = some ad → ∀ (j : Nat) (u : Value), (BV bs)[j]? = some u → w.cell? (ad.add j) = some u) (v1 : 0 ≤ at_) (v2 : at_ ≤ 40) (v3 : 0 ≤ n) (v4 : 40 - at_ < n) :
    Calls Try.prog 10 #[.slice la len cap, .int .i64 at_, .int .i64 n, .slice sa lenb capb] w fun e w' => e = .returned (.bool true) ∧ Below w.heap.size w w' := by
  have HL := Lib.hid (And.intro hl (And.intro hla (And.intro hsrc hwf)))
  have HBS := Lib.hid (And.intro hbl (And.intro hbn hbs))
  clear hl hla hsrc hwf hbl hbn hbs
  have hg := playD_good zs
  have HIN : Hid (inB at_ n (playD ((zs.take 20).map mkAct)).now.length = false) := by show _ = _; rw [hg.ok.len]; unfold inB; simp; omega
  have v5 : ¬ at_ < 0 := by omega
  go_enter Try.func10, Try.ntmps10
  go_wp2_with fail
  obtain ⟨hl, hla, hsrc, hwf⟩ := HL.out
  refine (played_any la b off len cap zs w hl hlen hla hsrc hwf).mono ?_
  rintro e w1 ⟨x, F, rfl, hd, hk, hF⟩
  have H0 : Hid (One w w1 x (playD ((zs.take 20).map mkAct)) F) := ⟨hd, hk, hF⟩
  clear hd hk hF hl hla hsrc hwf HL
  generalize playD ((zs.take 20).map mkAct) = D at *
  have HG := Lib.hid hg
  have HLEN := Lib.hid hg.ok.len
  clear hg
  go_wp2_with fail
  refine (raw_any x _ F _ H0.out.disk (by rw [HLEN.out]; omega)).mono ?_
  rintro e w2 ⟨g2, c2, rfl, hown, hk⟩
  rw [HLEN.out] at hown
  rw [HLEN.out]
  have HR1 : Hid (Row w2 (.slice (some ⟨g2, 0, none⟩) 40 c2) 40 D.now F) := Row.mk' hown (H0.out.disk.foot_lt)
  have H2 := Lib.hid (H0.out.quiet hk)
  clear hown hk
  go_wp2_with fail
  refine (around_any at_ 41 _ at_1 at_2 (by omega) (by omega)).mono ?_
  rintro e _ ⟨rfl, rfl⟩
  obtain ⟨p, hp⟩ : ∃ k : Nat, around at_ 41 = k := ⟨(around at_ 41).toNat, by have := around_pos at_ 41 (by omega); omega⟩
  have bp : (p : Int) < 41 := by have := (around_pos at_ 41 (by omega)).2; rw [hp] at this; exact this
  rw [hp]
  clear hp
  go_wp2_with fail
  refine (around_any n (41 - (p : Int)) _ n1 n2 (by omega) (by omega)).mono ?_
  rintro e _ ⟨rfl, rfl⟩
  obtain ⟨k, hk⟩ : ∃ k : Nat, around n (41 - (p : Int)) = k := ⟨(around n (41 - (p : Int))).toNat, by have := around_pos n (41 - (p : Int)) (by omega); omega⟩
  have bk : (k : Int) < 41 - (p : Int) := by have := (around_pos n (41 - (p : Int)) (by omega)).2; rw [hk] at this; exact this
  rw [hk]
  clear hk
  have hpk : p + k ≤ 40 := by omega
  clear bp bk
  go_wp2_with fail
  refine (read_ok x p k D F _ H2.out.disk HG.out.ok.up (by rw [HLEN.out]; exact hpk) (by rw [HLEN.out]; omega)).mono ?_
  rintro e w3 ⟨gx, cx, rfl, hown, hk⟩
  have HRx : Hid (Row w3 (.slice (some ⟨gx, 0, none⟩) k cx) k ((D.now.drop p).take k) F) := Row.mk' hown H2.out.disk.foot_lt
  have H3 := Lib.hid (H2.out.quiet hk)
  have HR4 := Lib.hid (HR1.out.quiet hk)
  clear hown hk
  have hcall : 40 ≤ c2 := by rcases HR4.out.own.2 with ⟨h, h0⟩ | ⟨_, _, _, h, _, _, h', _⟩; omega; simp at h; omega
  obtain ⟨ad, had, hadp⟩ : ∃ ad : Addr, (if c2 = p then some (⟨g2, 0, none⟩ : Addr) else some ⟨g2, p, none⟩) = some ad ∧ (0 < k → ad = ⟨g2, p, none⟩) := by
    by_cases e : c2 = p
    · exact ⟨_, if_pos e, fun h => by omega⟩
    · exact ⟨_, if_neg e, fun _ => rfl⟩
  have j1 : (0 : Int) ≤ (p : Int) := by omega
  have j2 : (p : Int) ≤ (c2 : Int) := by omega
  have j3 : (p : Int) ≤ (p : Int) + (k : Int) := by omega
  have j4 : (p : Int) + (k : Int) ≤ (c2 : Int) := by omega
  have j5 : IntKind.i64.wrap ((p : Int) + (k : Int)) = (p : Int) + k := IntWalk.i64_in _ (by omega)
  have j6 : ((p : Int) + (k : Int)).toNat = p + k := by omega
  have j7 : p + k - p = k := by omega
  have HSUB : Hid (∀ w' : World, Row w' (.slice (some ⟨g2, 0, none⟩) 40 c2) 40 D.now F → (convert 27 9 (.slice (some ad) k (c2 - p))).run Try.prog w' = .ok (.string (strOf ((D.now.drop p).take k))) w') := fun w' h => run_str_sub h.own hpk hadp
  clear hadp
  go_wp2_with fail
  have H5 := Lib.hid (H3.out.quiet (Keeps.refl _ _).drew)
  have HR6 := Lib.hid (HR4.out.quiet (Keeps.refl _ _).drew)
  have HR7 := Lib.hid (HRx.out.quiet (Keeps.refl _ _).drew)
  refine z_begin (fun w' => (convert 27 9 (.slice (some ⟨gx, 0, none⟩) k cx)).run Try.prog w' = .ok (.string (strOf ((D.now.drop p).take k))) w' ∧ (convert 27 9 (.slice (some ad) k (c2 - p))).run Try.prog w' = .ok (.string (strOf ((D.now.drop p).take k))) w') 14 (by kernel_rfl) (⟨HR7.out.str, HSUB.out _ HR6.out⟩) (fun hHeld => ?_)
  refine z_take 0 (v := ?_) rfl (by kernel_rfl) (by kernel_rfl) (by kernel_rfl) (by kernel_rfl) (fun _ _ _ h => h) hHeld (by rfl) (fun w hSw => ?_) ?_
  rotate_left
  · obtain ⟨hSw1, hSw2⟩ := hSw; simp only [List.getElem_toArray, List.getElem_cons_zero]; go_simp; try rfl
  simp only [Act.put, List.getElem_toArray, List.getElem_cons_zero, List.setIfInBounds_toArray, List.set_cons_zero, List.set_cons_succ]
  refine z_take 1 (v := ?_) rfl (by kernel_rfl) (by kernel_rfl) (by kernel_rfl) (by kernel_rfl) (fun _ _ _ h => h) hHeld (by rfl) (fun w hSw => ?_) ?_
  rotate_left
  · obtain ⟨hSw1, hSw2⟩ := hSw; simp only [List.getElem_toArray, List.getElem_cons_zero, List.getElem_cons_succ]; go_simp; try rfl
  simp only [Act.put, List.getElem_toArray, List.getElem_cons_zero, List.getElem_cons_succ, List.setIfInBounds_toArray, List.set_cons_zero, List.set_cons_succ]
  refine z_take 2 (v := ?_) rfl (by kernel_rfl) (by kernel_rfl) (by kernel_rfl) (by kernel_rfl) (fun _ _ _ h => h) hHeld (by rfl) (fun w hSw => ?_) ?_
  rotate_left
  · obtain ⟨hSw1, hSw2⟩ := hSw; simp only [List.getElem_toArray, List.getElem_cons_zero, List.getElem_cons_succ]; go_simp; try rfl
  simp only [Act.put, List.getElem_toArray, List.getElem_cons_zero, List.getElem_cons_succ, List.setIfInBounds_toArray, List.set_cons_zero, List.set_cons_succ]
  refine z_take 3 (v := ?_) rfl (by kernel_rfl) (by kernel_rfl) (by kernel_rfl) (by kernel_rfl) (fun _ _ _ h => h) hHeld (by rfl) (fun w hSw => ?_) ?_
  rotate_left
  · obtain ⟨hSw1, hSw2⟩ := hSw; simp only [List.getElem_toArray, List.getElem_cons_zero, List.getElem_cons_succ]; go_simp; try rfl
  simp only [Act.put, List.getElem_toArray, List.getElem_cons_zero, List.getElem_cons_succ, List.setIfInBounds_toArray, List.set_cons_zero, List.set_cons_succ]
  refine z_take 4 (v := ?_) rfl (by kernel_rfl) (by kernel_rfl) (by kernel_rfl) (by kernel_rfl) (fun _ _ _ h => h) hHeld (by rfl) (fun w hSw => ?_) ?_
  rotate_left
  · obtain ⟨hSw1, hSw2⟩ := hSw; simp only [List.getElem_toArray, List.getElem_cons_zero, List.getElem_cons_succ]; go_simp; try rfl
  simp only [Act.put, List.getElem_toArray, List.getElem_cons_zero, List.getElem_cons_succ, List.setIfInBounds_toArray, List.set_cons_zero, List.set_cons_succ]
  refine z_take 5 (v := ?_) rfl (by kernel_rfl) (by kernel_rfl) (by kernel_rfl) (by kernel_rfl) (fun _ _ _ h => h) hHeld (by rfl) (fun w hSw => ?_) ?_
  rotate_left
  · obtain ⟨hSw1, hSw2⟩ := hSw; simp only [List.getElem_toArray, List.getElem_cons_zero, List.getElem_cons_succ]; go_simp; try rfl
  simp only [Act.put, List.getElem_toArray, List.getElem_cons_zero, List.getElem_cons_succ, List.setIfInBounds_toArray, List.set_cons_zero, List.set_cons_succ]
  refine z_take 6 (v := ?_) rfl (by kernel_rfl) (by kernel_rfl) (by kernel_rfl) (by kernel_rfl) (fun _ _ _ h => h) hHeld (by rfl) (fun w hSw => ?_) ?_
  rotate_left
  · obtain ⟨hSw1, hSw2⟩ := hSw; simp only [List.getElem_toArray, List.getElem_cons_zero, List.getElem_cons_succ]; go_simp; try rfl
  simp only [Act.put, List.getElem_toArray, List.getElem_cons_zero, List.getElem_cons_succ, List.setIfInBounds_toArray, List.set_cons_zero, List.set_cons_succ]
  refine z_take 7 (v := ?_) rfl (by kernel_rfl) (by kernel_rfl) (by kernel_rfl) (by kernel_rfl) (fun _ _ _ h => h) hHeld (by rfl) (fun w hSw => ?_) ?_
  rotate_left
  · obtain ⟨hSw1, hSw2⟩ := hSw; simp only [List.getElem_toArray, List.getElem_cons_zero, List.getElem_cons_succ]; go_simp; try rfl
  simp only [Act.put, List.getElem_toArray, List.getElem_cons_zero, List.getElem_cons_succ, List.setIfInBounds_toArray, List.set_cons_zero, List.set_cons_succ]
  refine z_take 8 (v := ?_) rfl (by kernel_rfl) (by kernel_rfl) (by kernel_rfl) (by kernel_rfl) (fun _ _ _ h => h) hHeld (by rfl) (fun w hSw => ?_) ?_
  rotate_left
  · obtain ⟨hSw1, hSw2⟩ := hSw; simp only [List.getElem_toArray, List.getElem_cons_zero, List.getElem_cons_succ]; go_simp; try rfl
  simp only [Act.put, List.getElem_toArray, List.getElem_cons_zero, List.getElem_cons_succ, List.setIfInBounds_toArray, List.set_cons_zero, List.set_cons_succ]
  refine z_take 9 (v := ?_) rfl (by kernel_rfl) (by kernel_rfl) (by kernel_rfl) (by kernel_rfl) (fun _ _ _ h => h) hHeld (by rfl) (fun w hSw => ?_) ?_
  rotate_left
  · obtain ⟨hSw1, hSw2⟩ := hSw; simp only [List.getElem_toArray, List.getElem_cons_zero, List.getElem_cons_succ]; go_simp; try rfl
  simp only [Act.put, List.getElem_toArray, List.getElem_cons_zero, List.getElem_cons_succ, List.setIfInBounds_toArray, List.set_cons_zero, List.set_cons_succ]
  refine z_take 10 (v := ?_) rfl (by kernel_rfl) (by kernel_rfl) (by kernel_rfl) (by kernel_rfl) (fun _ _ _ h => h) hHeld (by rfl) (fun w hSw => ?_) ?_
  rotate_left
  · obtain ⟨hSw1, hSw2⟩ := hSw; simp only [List.getElem_toArray, List.getElem_cons_zero, List.getElem_cons_succ]; go_simp; try rfl
  simp only [Act.put, List.getElem_toArray, List.getElem_cons_zero, List.getElem_cons_succ, List.setIfInBounds_toArray, List.set_cons_zero, List.set_cons_succ]
  refine z_take 11 (v := ?_) rfl (by kernel_rfl) (by kernel_rfl) (by kernel_rfl) (by kernel_rfl) (fun _ _ _ h => h) hHeld (by rfl) (fun w hSw => ?_) ?_
  rotate_left
  · obtain ⟨hSw1, hSw2⟩ := hSw; simp only [List.getElem_toArray, List.getElem_cons_zero, List.getElem_cons_succ]; go_simp; try rfl
  simp only [Act.put, List.getElem_toArray, List.getElem_cons_zero, List.getElem_cons_succ, List.setIfInBounds_toArray, List.set_cons_zero, List.set_cons_succ]
  refine z_take 12 (v := ?_) rfl (by kernel_rfl) (by kernel_rfl) (by kernel_rfl) (by kernel_rfl) (fun _ _ _ h => h) hHeld (by rfl) (fun w hSw => ?_) ?_
  rotate_left
  · obtain ⟨hSw1, hSw2⟩ := hSw; simp only [List.getElem_toArray, List.getElem_cons_zero, List.getElem_cons_succ]; go_simp; try rfl
  simp only [Act.put, List.getElem_toArray, List.getElem_cons_zero, List.getElem_cons_succ, List.setIfInBounds_toArray, List.set_cons_zero, List.set_cons_succ]
  refine z_take 13 (v := ?_) rfl (by kernel_rfl) (by kernel_rfl) (by kernel_rfl) (by kernel_rfl) (fun _ _ _ h => h) hHeld (by rfl) (fun w hSw => ?_) ?_
  rotate_left
  · obtain ⟨hSw1, hSw2⟩ := hSw; simp only [List.getElem_toArray, List.getElem_cons_zero, List.getElem_cons_succ]; go_simp; try rfl
  simp only [Act.put, List.getElem_toArray, List.getElem_cons_zero, List.getElem_cons_succ, List.setIfInBounds_toArray, List.set_cons_zero, List.set_cons_succ]
  refine z_done (by kernel_rfl) ?_ _
  clear had j1 j2 j3 j4 j5 j6 j7
  go_wp2_with fail
  refine (read_no x at_ n D F _ H5.out.disk HG.out.ok.up HIN.out (by rw [HLEN.out]; omega)).mono ?_
  rintro e w4 ⟨rfl, hk⟩
  have H8 := Lib.hid (H5.out.quiet hk)
  clear hk
  go_wp2_with fail
  obtain ⟨hbl, hbn, hbs⟩ := HBS.out
  refine (few_any sa lenb capb 9 bs _ hbl hbc hbm (by omega) hbn (fun ad had j u hu => (H8.out.keep.cell (World.block_lt_of_cell? w _ (hbs ad had j u hu)) (fun h => h)).trans (hbs ad had j u hu))).mono ?_
  clear hbl hbn hbs
  rintro e w5 ⟨so, co, rfl, hown, hk⟩
  obtain ⟨m, hm⟩ : ∃ m, min lenb 9 = m := ⟨_, rfl⟩
  obtain ⟨lo, hlo⟩ : ∃ lo, lo = bs.take 9 := ⟨_, rfl⟩
  rw [← hlo] at hown
  rw [hm] at hown
  rw [hm]
  have hmb : m ≤ 9 := by omega
  have HLO : Hid (lo.length = m) := by show _ = _; rw [hlo, List.length_take, HBS.out.1]; omega
  have HRown : Hid (Row w5 (.slice so m co) m lo F) := Row.mk' hown (H8.out.disk.foot_lt)
  have HOB : Hid (∀ k, so = some ⟨k, 0, none⟩ → w.heap.size ≤ k) := fun k e => by have h1 := (own_lt hown e).1; have h2 := H8.out.keep.size; omega
  have H9 := Lib.hid (H8.out.quiet hk)
  clear hown hk hm hlo HBS hbc hbm
  have HOW : Hid ((D.write 0 lo).Ok 40 (220 + lo.length)) := write_okD HG.out.ok (by rw [HLO.out]; omega)
  have HLW := Lib.hid HOW.out.len
  have HWT : Hid (((D.write 0 lo).now.drop 0).take 40 = (D.write 0 lo).now) := by show _ = _; rw [List.drop_zero, List.take_of_length_le (by rw [HLW.out]; exact Nat.le_refl _)]
  go_wp2_with fail
  obtain ⟨sb, s1, s2, s3⟩ := HRown.out.src
  refine (write_ok x 0 lo m so sb 0 co D F _ H9.out.disk HG.out.ok.up HLO.out s1 s2 s3 (by rw [HLEN.out]; omega) (by rw [HLEN.out]; omega) (by have := HG.out.ok.lo; omega)).mono ?_
  rintro e w6 ⟨rfl, F6, hd, hk, hs⟩
  clear s1 s2 s3
  have H10 := Lib.hid (H9.out.step hd hk hs)
  have HR11 := Lib.hid (HRown.out.step hk hs)
  clear hd hk hs
  go_wp2_with fail
  refine (raw_any x (D.write 0 lo) F6 _ H10.out.disk (by rw [HLW.out]; omega)).mono ?_
  rintro e w7 ⟨gs, cs, rfl, hown, hk⟩
  rw [HLW.out] at hown
  rw [HLW.out]
  have HRs : Hid (Row w7 (.slice (some ⟨gs, 0, none⟩) 40 cs) 40 (D.write 0 lo).now (fun k => k < w6.heap.size)) := Row.mk' hown (fun k h => h)
  have H12 := Lib.hid (H10.out.quiet hk)
  have HR13 := Lib.hid (HR11.out.quiet hk)
  have hszs : w6.heap.size ≤ w7.heap.size := hk.size
  clear hown hk
  go_wp2_with fail
  refine (read_ok x 0 40 (D.write 0 lo) F6 _ H12.out.disk HOW.out.up (by rw [HLW.out]; omega) (by rw [HLW.out]; omega)).mono ?_
  rintro e w8 ⟨gy, cy, rfl, hown, hk⟩
  rw [HWT.out] at hown
  have HRy : Hid (Row w8 (.slice (some ⟨gy, 0, none⟩) 40 cy) 40 (D.write 0 lo).now (fun k => k < w7.heap.size)) := Row.mk' hown (fun k h => h)
  have H14 := Lib.hid (H12.out.quiet hk)
  have HR15 := Lib.hid (HR13.out.quiet hk)
  have HR16 := Lib.hid (HRs.out.quiet hk)
  have hszy : w7.heap.size ≤ w8.heap.size := hk.size
  clear hown hk
  go_wp2_with fail
  refine (raw_any x (D.write 0 lo) F6 _ H14.out.disk (by rw [HLW.out]; omega)).mono ?_
  rintro e w9 ⟨gz, cz, rfl, hown, hk⟩
  rw [HLW.out] at hown
  rw [HLW.out]
  have HRz : Hid (Row w9 (.slice (some ⟨gz, 0, none⟩) 40 cz) 40 (D.write 0 lo).now (fun k => k < w8.heap.size)) := Row.mk' hown (fun k h => h)
  have H17 := Lib.hid (H14.out.quiet hk)
  have HR18 := Lib.hid (HR15.out.quiet hk)
  have HR19 := Lib.hid (HR16.out.quiet hk)
  have HR20 := Lib.hid (HRy.out.quiet hk)
  have hszz : w8.heap.size ≤ w9.heap.size := hk.size
  clear hown hk
  have HBo : Hid (∀ k, so = some ⟨k, 0, none⟩ → k < w6.heap.size ∧ w.heap.size ≤ k ∧ ¬ F6 k) := fun k e => ⟨(own_lt HR11.out.own e).2, HOB.out k e, fun hf => HR18.out.ap k (by rw [e]; rfl) hf⟩
  have HBs : Hid (gs < w7.heap.size ∧ w6.heap.size ≤ gs) := ⟨(own_lt HRs.out.own rfl).2, Nat.le_of_not_lt (HRs.out.ap gs rfl)⟩
  have HBy : Hid (w7.heap.size ≤ gy) := Nat.le_of_not_lt (HRy.out.ap gy rfl)
  have HBz : Hid (w8.heap.size ≤ gz ∧ gy < w8.heap.size) := ⟨Nat.le_of_not_lt (HRz.out.ap gz rfl), (own_lt HRy.out.own rfl).2⟩
  have HFl : Hid (∀ k, F6 k → k < w6.heap.size) := H10.out.disk.foot_lt
  have hW0 : w.heap.size ≤ w6.heap.size := H10.out.keep.size
  go_wp2_with fail
  go_loopw [23] (fun i wr => RdRel1 w9 so m co i wr) (fun i _ => m - (intOf i).toNat)
  case atStart => exact ⟨0, lo, Nat.zero_le _, rfl, HR18.out.own, Keeps.refl _ _⟩
  case round =>
    obtain ⟨q, l', hq, rfl, hrow, hkp⟩ := hrel
    have HB := Lib.hid (And.intro hrow hkp)
    clear hrow hkp
    by_cases hlt : q < m
    · obtain ⟨gso, rfl⟩ : ∃ g, so = some ⟨g, 0, none⟩ := by
        rcases own_addr HB.out.1 with ⟨_, h, _⟩ | h
        · omega
        · exact h
      have hll : l'.length = m := by have := HB.out.1.1; simpa using this
      obtain ⟨c, hc⟩ : ∃ c, l'[q]? = some c := ⟨_, List.getElem?_eq_getElem (by omega)⟩
      have c1 := own_cell HB.out.1 q _ (show (BV l')[q]? = some (.int .u8 c.toNat) by rw [BV_get, hc]; rfl)
      have c2 := HB.out.1.frozenAt q
      have HS : Hid (∀ v : Int, 0 ≤ v → v < 256 → RdRel1 w9 (some ⟨gso, 0, none⟩) m co (.int .i64 ((q + 1 : Nat) : Int)) (wr.setCell ⟨gso, q, none⟩ (.int .u8 v))) := fun v h1 h2 => ⟨q + 1, l'.set q (UInt8.ofNat v.toNat), by omega, rfl, by rw [BV_set l' q v h1 h2]; exact (HB.out.1.stored q (.int .u8 v)).1, Keeps.setCell (F := fun j => some (⟨gso, 0, none⟩ : Addr) = some ⟨j, 0, none⟩) HB.out.2 (p := ⟨gso, q, none⟩) (fun _ => rfl) _⟩
      have hcb : c.toNat < 256 := c.toNat_lt
      have t1 : (0 : Int) ≤ (q : Int) := by omega
      have t2 : (q : Int) < (m : Int) := by omega
      clear hll hc
      go_wp2
      go_roundw
      case rel => exact HS.out _ (by omega) (by omega)
      case measure => simp [intOf]; omega
    · obtain rfl : q = m := by omega
      have HA : Hid (One w wr x (D.write 0 lo) F6) := H17.out.touch _ HB.out.2 (fun k e => (HBo.out k e).2.1) (fun k hf e => (HBo.out k e).2.2 hf)
      have HRs2 := Lib.hid (own_keep HR19.out.own HB.out.2 (fun k e hf => by simp [Value.ownBlock] at e; have := (HBo.out k hf).1; have := HBs.out.2; omega))
      have HRy2 := Lib.hid (own_keep HR20.out.own HB.out.2 (fun k e hf => by simp [Value.ownBlock] at e; have := (HBo.out k hf).1; have := HBy.out; omega))
      have HRz2 := Lib.hid (own_keep HRz.out.own HB.out.2 (fun k e hf => by simp [Value.ownBlock] at e; have := (HBo.out k hf).1; have := HBz.out.1; omega))
      clear HB
      obtain ⟨wB, rfl⟩ : ∃ wB : World, wB = wr := ⟨_, rfl⟩
      go_wp2_with fail
      go_loopw [24] (fun i wr => RdRel2 wB gy cy gz cz i wr) (fun i _ => 40 - (intOf i).toNat)
      case atStart => exact ⟨0, _, _, Nat.zero_le _, rfl, HRy2.out, HRz2.out, Keeps.refl _ _⟩
      case round =>
        obtain ⟨q2, ly, lz, hq2, rfl, hrowy, hrowz, hkp⟩ := hrel
        have HB := Lib.hid (And.intro hrowy (And.intro hrowz hkp))
        clear hrowy hrowz hkp
        by_cases hlt2 : q2 < 40
        · have hly : ly.length = 40 := by have := HB.out.1.1; simpa using this
          have hlz : lz.length = 40 := by have := HB.out.2.1.1; simpa using this
          obtain ⟨c, hc⟩ : ∃ c, ly[q2]? = some c := ⟨_, List.getElem?_eq_getElem (by omega)⟩
          obtain ⟨d, hd⟩ : ∃ c, lz[q2]? = some c := ⟨_, List.getElem?_eq_getElem (by omega)⟩
          have c1 := own_cell HB.out.1 q2 _ (show (BV ly)[q2]? = some (.int .u8 c.toNat) by rw [BV_get, hc]; rfl)
          have c2 := HB.out.1.frozenAt q2
          have hne : gy ≠ gz := by have := HBz.out; omega
          have HS1 : Hid (∀ v : Value, Keeps (fun j => j = gy) wr (wr.setCell ⟨gy, q2, none⟩ v)) := fun v => (Keeps.refl (fun j => j = gy) wr).setCell (p := ⟨gy, q2, none⟩) (fun _ => rfl) v
          have c3 : ∀ v : Value, (wr.setCell ⟨gy, q2, none⟩ v).cell? ⟨gz, q2, none⟩ = some (.int .u8 d.toNat) := fun v => ((HS1.out v).cell (p := ⟨gz, q2, none⟩) (own_lt HB.out.2.1 rfl).2 (fun e => hne e.symm)).trans (own_cell HB.out.2.1 q2 _ (show (BV lz)[q2]? = some (.int .u8 d.toNat) by rw [BV_get, hd]; rfl))
          have c4 : ∀ v : Value, (wr.setCell ⟨gy, q2, none⟩ v).frozen? ⟨gz, q2, none⟩ = false := fun v => ((HS1.out v).frozen (p := ⟨gz, q2, none⟩) (own_lt HB.out.2.1 rfl).2 (fun e => hne e.symm)).trans (HB.out.2.1.frozenAt q2)
          have HS : Hid (∀ v v' : Int, 0 ≤ v → v < 256 → 0 ≤ v' → v' < 256 → RdRel2 wB gy cy gz cz (.int .i64 ((q2 + 1 : Nat) : Int)) ((wr.setCell ⟨gy, q2, none⟩ (.int .u8 v)).setCell ⟨gz, q2, none⟩ (.int .u8 v'))) := fun v v' h1 h2 h3 h4 => by
            refine ⟨q2 + 1, ly.set q2 (UInt8.ofNat v.toNat), lz.set q2 (UInt8.ofNat v'.toNat), by omega, rfl, ?_, ?_, ?_⟩
            · rw [BV_set ly q2 v h1 h2]
              exact own_keep (HB.out.1.stored q2 (.int .u8 v)).1 ((Keeps.refl (fun j => j = gz) _).setCell (p := ⟨gz, q2, none⟩) (fun _ => rfl) _) (fun k e => by simp [Value.ownBlock] at e; omega)
            · rw [BV_set lz q2 v' h3 h4]
              exact ((own_keep HB.out.2.1 (HS1.out (.int .u8 v)) (fun k e => by simp [Value.ownBlock] at e; omega)).stored q2 (.int .u8 v')).1
            · exact Keeps.setCell (F := fun j => j = gy ∨ j = gz) (Keeps.setCell (F := fun j => j = gy ∨ j = gz) HB.out.2.2 (p := ⟨gy, q2, none⟩) (fun _ => Or.inl rfl) _) (p := ⟨gz, q2, none⟩) (fun _ => Or.inr rfl) _
          have hcb : c.toNat < 256 := c.toNat_lt
          have hdb : d.toNat < 256 := d.toNat_lt
          have t1 : (0 : Int) ≤ (q2 : Int) := by omega
          have t2 : (q2 : Int) < 40 := by omega
          clear hly hlz hc hd hne
          go_wp2
          go_roundw
          case rel => exact HS.out _ _ (by omega) (by omega) (by omega) (by omega)
          case measure => simp [intOf]; omega
        · obtain rfl : q2 = 40 := by omega
          have HA2 : Hid (One w wr x (D.write 0 lo) F6) := HA.out.touch _ HB.out.2.2 (fun k e => by have h1 := HBy.out; have h2 := HBz.out; omega) (fun k hf e => by have h1 := HFl.out k hf; have h2 := HBy.out; have h3 := HBz.out; have h4 := HBs.out; omega)
          have HRs3 : Hid (Row wr (.slice (some ⟨gs, 0, none⟩) 40 cs) 40 (D.write 0 lo).now F6) := ⟨own_keep HRs2.out HB.out.2.2 (fun k e hf => by simp [Value.ownBlock] at e; have h1 := HBs.out; have h2 := HBy.out; have h3 := HBz.out; omega), fun k e hf => by simp [Value.ownBlock] at e; have h1 := HFl.out k hf; have h2 := HBs.out; omega⟩
          clear HB
          go_wp2_with fail
          have H21 := Lib.hid (HA2.out.quiet (Keeps.refl _ _).drew)
          have HR22 := Lib.hid (HRs3.out.quiet (Keeps.refl _ _).drew)
          refine z_begin (fun w' => (convert 27 9 (.slice (some ⟨gs, 0, none⟩) 40 cs)).run Try.prog w' = .ok (.string (strOf (D.write 0 lo).now)) w' ∧ True) 10 (by kernel_rfl) (⟨HR22.out.str, trivial⟩) (fun hHeld => ?_)
          refine z_take 0 (v := ?_) rfl (by kernel_rfl) (by kernel_rfl) (by kernel_rfl) (by kernel_rfl) (fun _ _ _ h => h) hHeld (by rfl) (fun w hSw => ?_) ?_
          rotate_left
          · obtain ⟨hSw1, hSw2⟩ := hSw; simp only [List.getElem_toArray, List.getElem_cons_zero]; go_simp; try rfl
          simp only [Act.put, List.getElem_toArray, List.getElem_cons_zero, List.setIfInBounds_toArray, List.set_cons_zero, List.set_cons_succ]
          refine z_take 3 (v := ?_) rfl (by kernel_rfl) (by kernel_rfl) (by kernel_rfl) (by kernel_rfl) (fun _ _ _ h => h) hHeld (by rfl) (fun w hSw => ?_) ?_
          rotate_left
          · obtain ⟨hSw1, hSw2⟩ := hSw; simp only [List.getElem_toArray, List.getElem_cons_zero, List.getElem_cons_succ]; go_simp; try rfl
          simp only [Act.put, List.getElem_toArray, List.getElem_cons_zero, List.getElem_cons_succ, List.setIfInBounds_toArray, List.set_cons_zero, List.set_cons_succ]
          refine z_take 4 (v := ?_) rfl (by kernel_rfl) (by kernel_rfl) (by kernel_rfl) (by kernel_rfl) (fun _ _ _ h => h) hHeld (by rfl) (fun w hSw => ?_) ?_
          rotate_left
          · obtain ⟨hSw1, hSw2⟩ := hSw; simp only [List.getElem_toArray, List.getElem_cons_zero, List.getElem_cons_succ]; go_simp; try rfl
          simp only [Act.put, List.getElem_toArray, List.getElem_cons_zero, List.getElem_cons_succ, List.setIfInBounds_toArray, List.set_cons_zero, List.set_cons_succ]
          refine z_one 1 rfl (by kernel_rfl) (by rfl) (fun K hK => ?_)
          simp only [List.getElem_toArray, List.getElem_cons_zero, List.getElem_cons_succ]
          go_simp
          refine (raw_any x _ F6 _ H21.out.disk (by rw [HLW.out]; omega)).mono ?_
          rintro e w10 ⟨g10, c10, rfl, hown, hk⟩
          rw [HLW.out] at hown
          rw [HLW.out]
          have HR23 : Hid (Row w10 (.slice (some ⟨g10, 0, none⟩) 40 c10) 40 (D.write 0 lo).now F6) := Row.mk' hown (H21.out.disk.foot_lt)
          have H24 := Lib.hid (H21.out.quiet hk)
          have HR25 := Lib.hid (HR22.out.quiet hk)
          clear hown hk
          refine hK _ _ (Or.inr ?_) (fun hHeld => ?_)
          · exact ⟨HR25.out.str, trivial⟩
          clear hK K
          replace hHeld := hHeld.resolve_left (by decide)
          try simp only [Act.put, List.setIfInBounds_toArray, List.set_cons_zero, List.set_cons_succ]
          refine z_more (fun w' => (convert 27 9 (.slice (some ⟨g10, 0, none⟩) 40 c10)).run Try.prog w' = .ok (.string (strOf (D.write 0 lo).now)) w' ∧ (convert 27 9 (.slice (some ⟨gs, 0, none⟩) 40 cs)).run Try.prog w' = .ok (.string (strOf (D.write 0 lo).now)) w' ∧ True) (fun _ h => h.2) _ _ _ _ ?_
          replace hHeld : (convert 27 9 (.slice (some ⟨g10, 0, none⟩) 40 c10)).run Try.prog w10 = .ok (.string (strOf (D.write 0 lo).now)) w10 ∧ (convert 27 9 (.slice (some ⟨gs, 0, none⟩) 40 cs)).run Try.prog w10 = .ok (.string (strOf (D.write 0 lo).now)) w10 ∧ True := ⟨HR23.out.str, HR25.out.str, trivial⟩
          refine z_take 2 (v := ?_) rfl (by kernel_rfl) (by kernel_rfl) (by kernel_rfl) (by kernel_rfl) (fun _ _ _ h => h) hHeld (by rfl) (fun w hSw => ?_) ?_
          rotate_left
          · obtain ⟨hSw1, hSw2, hSw3⟩ := hSw; simp only [List.getElem_toArray, List.getElem_cons_zero, List.getElem_cons_succ]; go_simp; try rfl
          simp only [Act.put, List.getElem_toArray, List.getElem_cons_zero, List.getElem_cons_succ, List.setIfInBounds_toArray, List.set_cons_zero, List.set_cons_succ]
          refine z_take 5 (v := ?_) rfl (by kernel_rfl) (by kernel_rfl) (by kernel_rfl) (by kernel_rfl) (fun _ _ _ h => h) hHeld (by rfl) (fun w hSw => ?_) ?_
          rotate_left
          · obtain ⟨hSw1, hSw2, hSw3⟩ := hSw; simp only [List.getElem_toArray, List.getElem_cons_zero, List.getElem_cons_succ]; go_simp; try rfl
          simp only [Act.put, List.getElem_toArray, List.getElem_cons_zero, List.getElem_cons_succ, List.setIfInBounds_toArray, List.set_cons_zero, List.set_cons_succ]
          refine z_take 6 (v := ?_) rfl (by kernel_rfl) (by kernel_rfl) (by kernel_rfl) (by kernel_rfl) (fun _ _ _ h => h) hHeld (by rfl) (fun w hSw => ?_) ?_
          rotate_left
          · obtain ⟨hSw1, hSw2, hSw3⟩ := hSw; simp only [List.getElem_toArray, List.getElem_cons_zero, List.getElem_cons_succ]; go_simp; try rfl
          simp only [Act.put, List.getElem_toArray, List.getElem_cons_zero, List.getElem_cons_succ, List.setIfInBounds_toArray, List.set_cons_zero, List.set_cons_succ]
          refine z_one 7 rfl (by kernel_rfl) (by rfl) (fun K hK => ?_)
          simp only [List.getElem_toArray, List.getElem_cons_zero, List.getElem_cons_succ]
          go_simp
          refine (lives_any _).mono ?_
          rintro e w11 ⟨rfl, hk⟩
          have H26 := Lib.hid (H24.out.quiet hk)
          have HR27 := Lib.hid (HR25.out.quiet hk)
          have HR28 := Lib.hid (HR23.out.quiet hk)
          clear hk
          refine hK _ _ (Or.inr ?_) (fun hHeld => ?_)
          · exact ⟨HR28.out.str, HR27.out.str, trivial⟩
          clear hK K
          replace hHeld := hHeld.resolve_left (by decide)
          try simp only [Act.put, List.setIfInBounds_toArray, List.set_cons_zero, List.set_cons_succ]
          refine z_take 8 (v := ?_) rfl (by kernel_rfl) (by kernel_rfl) (by kernel_rfl) (by kernel_rfl) (fun _ _ _ h => h) hHeld (by rfl) (fun w hSw => ?_) ?_
          rotate_left
          · obtain ⟨hSw1, hSw2, hSw3⟩ := hSw; simp only [List.getElem_toArray, List.getElem_cons_zero, List.getElem_cons_succ]; go_simp; try rfl
          simp only [Act.put, List.getElem_toArray, List.getElem_cons_zero, List.getElem_cons_succ, List.setIfInBounds_toArray, List.set_cons_zero, List.set_cons_succ]
          refine z_one 9 rfl (by kernel_rfl) (by rfl) (fun K hK => ?_)
          simp only [List.getElem_toArray, List.getElem_cons_zero, List.getElem_cons_succ]
          go_simp
          refine hK _ _ (Or.inr ?_) (fun hHeld => ?_)
          · exact hHeld
          clear hK K
          replace hHeld := hHeld.resolve_left (by decide)
          try simp only [Act.put, List.setIfInBounds_toArray, List.set_cons_zero, List.set_cons_succ]
          refine z_done (by kernel_rfl) ?_ _
          go_wp2
          go_ret
          exact ⟨rfl, H26.out.below⟩
theorem diskReads_walk (la : Option Addr) (b off len cap : Nat) (zs : List Int) (at_ n : Int) (sa : Option Addr) (lenb capb : Nat) (bs : List UInt8) (w : World) (hl : zs.length = len) (hlen : len ≤ 9223372036854775807) (hla : 0 < len → la = some ⟨b, off, none⟩) (hsrc : ∀ j z, zs[j]? = some z → w.cell? ⟨b, off + j, none⟩ = some (.int .i64 z)) (hwf : ∀ z ∈ zs, -9223372036854775808 ≤ z ∧ z ≤ 9223372036854775807) (at_1 : -9223372036854775808 ≤ at_) (at_2 : at_ ≤ 9223372036854775807) (n1 : -9223372036854775808 ≤ n) (n2 : n ≤ 9223372036854775807) (hbl : bs.length = lenb) (hbc : lenb ≤ capb) (hbm : capb ≤ 9223372036854775807) (hbn : sa = none → lenb = 0 ∧ capb = 0) (hbs : ∀ ad, sa = some ad → ∀ (j : Nat) (u : Value), (BV bs)[j]? = some u → w.cell? (ad.add j) = some u) :
    Calls Try.prog 10 #[.slice la len cap, .int .i64 at_, .int .i64 n, .slice sa lenb capb] w fun e w' => e = .returned (.bool true) ∧ Below w.heap.size w w' := by
  rcases (show at_ < 0 ∨ (0 ≤ at_ ∧ 40 < at_) ∨ (0 ≤ at_ ∧ at_ ≤ 40 ∧ n < 0) ∨ (0 ≤ at_ ∧ at_ ≤ 40 ∧ 0 ≤ n ∧ 40 - at_ < n) ∨ (0 ≤ at_ ∧ at_ ≤ 40 ∧ 0 ≤ n ∧ n ≤ 40 - at_) from by omega) with h | ⟨h1, h2⟩ | ⟨h1, h2, h3⟩ | ⟨h1, h2, h3, h4⟩ | ⟨h1, h2, h3, h4⟩
  · exact reads_no1 la b off len cap zs at_ n sa lenb capb bs w hl hlen hla hsrc hwf at_1 at_2 n1 n2 hbl hbc hbm hbn hbs h
  · exact reads_no2 la b off len cap zs at_ n sa lenb capb bs w hl hlen hla hsrc hwf at_1 at_2 n1 n2 hbl hbc hbm hbn hbs h1 h2
  · exact reads_no3 la b off len cap zs at_ n sa lenb capb bs w hl hlen hla hsrc hwf at_1 at_2 n1 n2 hbl hbc hbm hbn hbs h1 h2 h3
  · exact reads_no4 la b off len cap zs at_ n sa lenb capb bs w hl hlen hla hsrc hwf at_1 at_2 n1 n2 hbl hbc hbm hbn hbs h1 h2 h3 h4
  · exact reads_in la b off len cap zs at_ n sa lenb capb bs w hl hlen hla hsrc hwf at_1 at_2 n1 n2 hbl hbc hbm hbn hbs h1 h2 h3 h4
end Go.Proofs.Ytllfiplhfbbhaaa
