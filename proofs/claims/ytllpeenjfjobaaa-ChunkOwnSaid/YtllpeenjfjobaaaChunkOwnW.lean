/-
  The law ChunkOwn: the walk. Conditions: the arguments are what came in.
-/
import Derived.Test.YtllpeenjfjobaaaLives26
import Derived.Test.YtllpeenjfjobaaaByt
import Derived.Test.YtllpeenjfjobaaaJoin
import Derived.Test.YtllpeenjfjobaaaRowsIn
namespace Go.Proofs.Ytllpeenjfjobaaa
open Go.RowKit

/-- One cell of one row is written. -/
theorem RowsO.set {w : World} {base : Nat} {vs : List Value} {rs : List (List UInt8)} (h : RowsO w base vs rs) {i : Nat} {r : List UInt8} {g n cap : Nat} (hv : vs[i]? = some (.slice (some ⟨g, 0, none⟩) n cap)) (hr : rs[i]? = some r) (k : Nat) (y : UInt8) :
    RowsO (w.setCell ⟨g, k, none⟩ (.int .u8 (y.toNat : Int))) base vs (rs.set i (r.set k y)) := by
  refine ⟨by rw [List.length_set]; exact h.len, fun j x hx => ?_, h.apart⟩
  by_cases hij : i = j
  · subst hij
    obtain ⟨sa, c, h1, h2⟩ := h.row i r hr
    rw [hv] at h1
    cases h1
    have hl : i < rs.length := (List.getElem?_eq_some_iff.1 hr).1
    rw [List.getElem?_set_self hl] at hx
    cases hx
    rw [List.length_set]
    refine ⟨some ⟨g, 0, none⟩, cap, hv, ?_⟩
    have := own_set h2 k (.int .u8 (y.toNat : Int))
    rwa [BV_set] at this
  · rw [List.getElem?_set_ne hij] at hx
    obtain ⟨sa, c, h1, h2⟩ := h.row j x hx
    refine ⟨sa, c, h1, own_keep h2 ((Keeps.refl (fun b => b = g) w).setCell (p := ⟨g, k, none⟩) (fun _ => rfl) _) (fun b e hb => ?_)⟩
    subst hb
    exact h.apart i j _ _ b hij hv h1 rfl e
theorem lens_set {rs : List (List UInt8)} {i : Nat} {r : List UInt8} (hr : rs[i]? = some r) (k : Nat) (y : UInt8) : (rs.set i (r.set k y)).map List.length = rs.map List.length := by
  rw [List.map_set, List.length_set]
  have h := List.getElem?_eq_some_iff.1 hr
  apply List.ext_getElem?
  intro j
  rw [List.getElem?_set]
  split
  · rename_i e
    subst e
    rw [if_pos (by rw [List.length_map]; exact h.1), List.getElem?_map, hr]
    rfl
  · rfl

def OwRel (w : World) (base N : Nat) (vs : List Value) (L : List (List UInt8)) (so : Option Addr) (co : Nat) (m : Nat) (i : Value) (wr : World) : Prop :=
  ∃ (k : Nat) (rs : List (List UInt8)), k ≤ m ∧ i = .int .i64 (k : Int) ∧ RowsO wr base vs rs ∧ rs.map List.length = L.map List.length ∧ wr.ownsRow base 22 1 (.slice so N co) N vs ∧ Keeps (fun g => base ≤ g) w wr

theorem u8_inv (x : UInt8) : IntKind.u8.wrap (255 - (x.toNat : Int)) = ((255 - x).toNat : Int) := by
  have := x.toNat_lt
  rw [IntKind.wrap_u8, UInt8.toNat_sub]
  simp
  omega
theorem u8_next (x : UInt8) : ∃ y : Nat, IntKind.u8.wrap ((x.toNat : Int) + 1) = (y : Int) ∧ y ≠ x.toNat := by
  have := x.toNat_lt
  refine ⟨(x.toNat + 1) % 256, ?_, by omega⟩
  rw [IntKind.wrap_u8]
  omega

theorem kc {w w' : World} (hk : Keeps (fun _ => False) w w') {p : Addr} {v : Value} (h : w.cell? p = some v) : w'.cell? p = some v := by
  rw [hk.cell (World.block_lt_of_cell? _ _ h) (fun h => h)]; exact h

set_option maxHeartbeats 2000000 in
set_option maxRecDepth 10000 in
theorem chunkOwn_walk (sa : Option Addr) (n cap : Nat) (l : List Int) (w : World) (hl : Sl w sa n cap (IV l)) (hb : ∀ z ∈ l, -9223372036854775808 ≤ z ∧ z ≤ 9223372036854775807) :
    Calls Try.prog 9 #[.slice sa n cap] w fun e w' => e = .returned (.bool true) ∧ Keeps (fun _ => False) w w' := by
  have HA := Lib.hid (byt_any sa n cap l w hl hb)
  clear hl hb
  go_enter Try.func9, Try.ntmps9
  go_wp2_with fail
  refine HA.out.mono ?_
  rintro e w1 ⟨s1, c1, rfl, hown, hk⟩
  have HK1 := Lib.hid hk
  have hlen := byt_length l
  generalize byt l = b at *
  obtain ⟨nb, hnb⟩ : ∃ nb, b.length = nb := ⟨_, rfl⟩
  rw [hnb] at hown hlen ⊢
  have hb3 : nb ≤ 300 := by omega
  have O1 := Lib.hid hown
  have hcc := cut_count b
  have hch := cut_chunk b
  have hcj := cut_join b
  have d1 := run_strSl (Sl.of_own hown)
  have HT := Lib.hid (cut_any s1 nb c1 b w1 (Sl.of_own hown) (by omega) (by omega))
  obtain ⟨L, hL⟩ : ∃ L, cutL b = L := ⟨_, rfl⟩
  rw [hL] at HT hcc hch hcj
  obtain ⟨N, hN⟩ : ∃ N, L.length = N := ⟨_, rfl⟩
  rw [hN] at hcc HT
  have HL := Lib.hid (And.intro hch (And.intro hcj (And.intro hN (And.intro hnb hcc))))
  have hN3 : N ≤ 300 := by omega
  clear HA hk hown hlen hnb hch hcj hN hcc hL
  go_wp2_with fail
  refine HT.out.mono ?_
  rintro e w2 ⟨so, co, vs, rfl, hown, hrows, hk⟩
  obtain ⟨B, hB⟩ : ∃ B, w1.heap.size = B := ⟨_, rfl⟩
  rw [hB] at hown hrows
  have H2 := Lib.hid (And.intro hown (And.intro hrows (And.intro hk hB)))
  clear HT hown hrows hk hB d1
  go_wp2_with fail
  go_loopw [6] (fun i wr => OwRel w1 B N vs L so co N i wr) (fun i _ => N - (intOf i).toNat)
  case atStart => exact ⟨0, L, Nat.zero_le _, rfl, H2.out.2.1, rfl, H2.out.1, H2.out.2.2.1.mono (fun _ _ h => h.elim)⟩
  case round =>
    obtain ⟨i, rs, hi, rfl, hrows, hlens, hown, hkp⟩ := hrel
    by_cases hlt : i < N
    · have HR := Lib.hid (And.intro hrows (And.intro hlens (And.intro hown hkp)))
      clear hrows hlens hown hkp
      obtain ⟨c, hc⟩ : ∃ c, L[i]? = some c := ⟨_, List.getElem?_eq_getElem (by have := HL.out.2.2.1; omega)⟩
      have hck := HL.out.1 c (List.mem_of_getElem? hc)
      obtain ⟨m, hm⟩ : ∃ m, c.length = m := ⟨_, rfl⟩
      have hm0 : 0 < m := by rw [← hm]; exact hck.1
      have hm64 : m ≤ 64 := by rw [← hm]; exact hck.2.1
      obtain ⟨si, ci, hvi, hoi⟩ := H2.out.2.1.row i c hc
      rw [hm] at hvi hoi
      obtain ⟨g, rfl⟩ := own_some hoi hm0
      obtain ⟨go, rfl⟩ := own_some H2.out.1 (by omega)
      have hrow : ∀ rs' : List (List UInt8), rs'.map List.length = L.map List.length → ∃ r, rs'[i]? = some r ∧ r.length = m := by
        intro rs' h
        have h1 := congrArg (fun x => x[i]?) h
        simp only [List.getElem?_map, hc, Option.map_some, hm] at h1
        cases hr : rs'[i]? with
        | none => rw [hr] at h1; simp at h1
        | some r => rw [hr] at h1; exact ⟨r, rfl, by simpa using h1⟩
      have hig : g ≠ go := by
        intro e
        subst e
        exact H2.out.2.1.apartOuter H2.out.1 hvi rfl rfl
      have hgB := (own_lt hoi rfl).1
      have HI := Lib.hid (And.intro hvi (And.intro hrow (And.intro hig hgB)))
      have t0 : (0 : Int) ≤ (i : Int) := by omega
      have t1 : (i : Int) < (N : Int) := by omega
      clear hc hck hm hvi hoi hrow hig hgB
      go_wp2_with fail
      go_loopw [7] (fun k wx => OwRel w1 B N vs L (some ⟨go, 0, none⟩) co m k wx) (fun k _ => m - (intOf k).toNat)
      case atStart => exact ⟨0, rs, Nat.zero_le _, rfl, HR.out⟩
      case round =>
        clear HR
        obtain ⟨k, rs2, hk, rfl, hrows, hlens, hown, hkp⟩ := hrel
        have d1 := own_cell hown i _ HI.out.1
        by_cases hlk : k < m
        · obtain ⟨r, hr, hrl⟩ := HI.out.2.1 rs2 hlens
          obtain ⟨x, hx⟩ : ∃ x, r[k]? = some x := ⟨_, List.getElem?_eq_getElem (by omega)⟩
          obtain ⟨sq, cq, hvq, hoq⟩ := hrows.row i r hr
          rw [HI.out.1] at hvq
          simp only [Option.some.injEq, Value.slice.injEq] at hvq
          obtain ⟨rfl, hq2, rfl⟩ := hvq
          rw [← hq2] at hoq
          have d2 : wr.cell? ⟨g, k, none⟩ = some (.int .u8 (x.toNat : Int)) := own_cell hoq k _ (by rw [BV_get, hx]; rfl)
          have d3 := own_free hoq k
          have e1 := u8_inv x
          have HX : Hid (OwRel w1 B N vs L (some ⟨go, 0, none⟩) co m (.int .i64 ((k : Int) + 1)) ((wr).setCell ⟨g, k, none⟩ (.int .u8 ((255 - x).toNat : Int)))) := by
            have hk2 : Keeps (fun b => b = g) wr (wr.setCell ⟨g, k, none⟩ (.int .u8 ((255 - x).toNat : Int))) := (Keeps.refl (fun b => b = g) wr).setCell (p := ⟨g, k, none⟩) (fun _ => rfl) _
            refine ⟨k + 1, rs2.set i (r.set k (255 - x)), by omega, by go_num, hrows.set HI.out.1 hr k (255 - x), by rw [lens_set hr]; exact hlens, own_keep hown hk2 (fun b e hb => ?_), hkp.trans hk2 (fun b _ e => ?_)⟩
            · simp only [Value.ownBlock, Option.some.injEq] at e
              have := HI.out.2.2.1
              omega
            · have := HI.out.2.2.2
              omega
          have hd1 := (Keeps.refl (fun _ => False) wr).drew
          obtain ⟨y, hy⟩ : ∃ y, ((255 - x).toNat : Int) = y := ⟨_, rfl⟩
          rw [hy] at e1 HX
          obtain ⟨x0, hx0⟩ : ∃ x0 : Nat, x.toNat = x0 := ⟨_, rfl⟩
          rw [hx0] at d2 e1
          have u0 : (0 : Int) ≤ (k : Int) := by omega
          have u1 : (k : Int) < (m : Int) := by omega
          clear hr hrl hx hoq hy hx0 hrows hlens hown hkp hq2 hd1
          go_wp2_with fail
          refine z_begin (fun w' => w'.cell? ⟨go, i, none⟩ = some (.slice (some ⟨g, 0, none⟩) m ci) ∧ w'.cell? ⟨g, k, none⟩ = some (.int .u8 (x0 : Int)) ∧ w'.frozen? ⟨g, k, none⟩ = false) 14 (by kernel_rfl) (⟨d1, d2, d3⟩) (fun hHeld => ?_)
          refine z_take 0 (v := ?_) rfl (by kernel_rfl) (by kernel_rfl) (by kernel_rfl) (by kernel_rfl) (fun _ _ _ h => h) hHeld (by rfl) (fun w hSw => ?_) ?_
          rotate_left
          · obtain ⟨hSw1, hSw2, hSw3⟩ := hSw; simp only [List.getElem_toArray, List.getElem_cons_zero]; go_simp; try rfl
          simp only [Act.put, List.getElem_toArray, List.getElem_cons_zero, List.setIfInBounds_toArray, List.set_cons_zero, List.set_cons_succ]
          refine z_take 1 (v := ?_) rfl (by kernel_rfl) (by kernel_rfl) (by kernel_rfl) (by kernel_rfl) (fun _ _ _ h => h) hHeld (by rfl) (fun w hSw => ?_) ?_
          rotate_left
          · obtain ⟨hSw1, hSw2, hSw3⟩ := hSw; simp only [List.getElem_toArray, List.getElem_cons_zero, List.getElem_cons_succ]; go_simp; try rfl
          simp only [Act.put, List.getElem_toArray, List.getElem_cons_zero, List.getElem_cons_succ, List.setIfInBounds_toArray, List.set_cons_zero, List.set_cons_succ]
          refine z_take 2 (v := ?_) rfl (by kernel_rfl) (by kernel_rfl) (by kernel_rfl) (by kernel_rfl) (fun _ _ _ h => h) hHeld (by rfl) (fun w hSw => ?_) ?_
          rotate_left
          · obtain ⟨hSw1, hSw2, hSw3⟩ := hSw; simp only [List.getElem_toArray, List.getElem_cons_zero, List.getElem_cons_succ]; go_simp; try rfl
          simp only [Act.put, List.getElem_toArray, List.getElem_cons_zero, List.getElem_cons_succ, List.setIfInBounds_toArray, List.set_cons_zero, List.set_cons_succ]
          refine z_take 3 (v := ?_) rfl (by kernel_rfl) (by kernel_rfl) (by kernel_rfl) (by kernel_rfl) (fun _ _ _ h => h) hHeld (by rfl) (fun w hSw => ?_) ?_
          rotate_left
          · obtain ⟨hSw1, hSw2, hSw3⟩ := hSw; simp only [List.getElem_toArray, List.getElem_cons_zero, List.getElem_cons_succ]; go_simp; try rfl
          simp only [Act.put, List.getElem_toArray, List.getElem_cons_zero, List.getElem_cons_succ, List.setIfInBounds_toArray, List.set_cons_zero, List.set_cons_succ]
          refine z_take 4 (v := ?_) rfl (by kernel_rfl) (by kernel_rfl) (by kernel_rfl) (by kernel_rfl) (fun _ _ _ h => h) hHeld (by rfl) (fun w hSw => ?_) ?_
          rotate_left
          · obtain ⟨hSw1, hSw2, hSw3⟩ := hSw; simp only [List.getElem_toArray, List.getElem_cons_zero, List.getElem_cons_succ]; go_simp; try rfl
          simp only [Act.put, List.getElem_toArray, List.getElem_cons_zero, List.getElem_cons_succ, List.setIfInBounds_toArray, List.set_cons_zero, List.set_cons_succ]
          refine z_take 5 (v := ?_) rfl (by kernel_rfl) (by kernel_rfl) (by kernel_rfl) (by kernel_rfl) (fun _ _ _ h => h) hHeld (by rfl) (fun w hSw => ?_) ?_
          rotate_left
          · obtain ⟨hSw1, hSw2, hSw3⟩ := hSw; simp only [List.getElem_toArray, List.getElem_cons_zero, List.getElem_cons_succ]; go_simp; try rfl
          simp only [Act.put, List.getElem_toArray, List.getElem_cons_zero, List.getElem_cons_succ, List.setIfInBounds_toArray, List.set_cons_zero, List.set_cons_succ]
          refine z_take 6 (v := ?_) rfl (by kernel_rfl) (by kernel_rfl) (by kernel_rfl) (by kernel_rfl) (fun _ _ _ h => h) hHeld (by rfl) (fun w hSw => ?_) ?_
          rotate_left
          · obtain ⟨hSw1, hSw2, hSw3⟩ := hSw; simp only [List.getElem_toArray, List.getElem_cons_zero, List.getElem_cons_succ]; go_simp; try rfl
          simp only [Act.put, List.getElem_toArray, List.getElem_cons_zero, List.getElem_cons_succ, List.setIfInBounds_toArray, List.set_cons_zero, List.set_cons_succ]
          refine z_take 7 (v := ?_) rfl (by kernel_rfl) (by kernel_rfl) (by kernel_rfl) (by kernel_rfl) (fun _ _ _ h => h) hHeld (by rfl) (fun w hSw => ?_) ?_
          rotate_left
          · obtain ⟨hSw1, hSw2, hSw3⟩ := hSw; simp only [List.getElem_toArray, List.getElem_cons_zero, List.getElem_cons_succ]; go_simp; try rfl
          simp only [Act.put, List.getElem_toArray, List.getElem_cons_zero, List.getElem_cons_succ, List.setIfInBounds_toArray, List.set_cons_zero, List.set_cons_succ]
          refine z_take 8 (v := ?_) rfl (by kernel_rfl) (by kernel_rfl) (by kernel_rfl) (by kernel_rfl) (fun _ _ _ h => h) hHeld (by rfl) (fun w hSw => ?_) ?_
          rotate_left
          · obtain ⟨hSw1, hSw2, hSw3⟩ := hSw; simp only [List.getElem_toArray, List.getElem_cons_zero, List.getElem_cons_succ]; go_simp; try rfl
          simp only [Act.put, List.getElem_toArray, List.getElem_cons_zero, List.getElem_cons_succ, List.setIfInBounds_toArray, List.set_cons_zero, List.set_cons_succ]
          refine z_take 9 (v := ?_) rfl (by kernel_rfl) (by kernel_rfl) (by kernel_rfl) (by kernel_rfl) (fun _ _ _ h => h) hHeld (by rfl) (fun w hSw => ?_) ?_
          rotate_left
          · obtain ⟨hSw1, hSw2, hSw3⟩ := hSw; simp only [List.getElem_toArray, List.getElem_cons_zero, List.getElem_cons_succ]; go_simp; try rfl
          simp only [Act.put, List.getElem_toArray, List.getElem_cons_zero, List.getElem_cons_succ, List.setIfInBounds_toArray, List.set_cons_zero, List.set_cons_succ]
          refine z_take 10 (v := ?_) rfl (by kernel_rfl) (by kernel_rfl) (by kernel_rfl) (by kernel_rfl) (fun _ _ _ h => h) hHeld (by rfl) (fun w hSw => ?_) ?_
          rotate_left
          · obtain ⟨hSw1, hSw2, hSw3⟩ := hSw; simp only [List.getElem_toArray, List.getElem_cons_zero, List.getElem_cons_succ]; go_simp; try rfl
          simp only [Act.put, List.getElem_toArray, List.getElem_cons_zero, List.getElem_cons_succ, List.setIfInBounds_toArray, List.set_cons_zero, List.set_cons_succ]
          refine z_take 11 (v := ?_) rfl (by kernel_rfl) (by kernel_rfl) (by kernel_rfl) (by kernel_rfl) (fun _ _ _ h => h) hHeld (by rfl) (fun w hSw => ?_) ?_
          rotate_left
          · obtain ⟨hSw1, hSw2, hSw3⟩ := hSw; simp only [List.getElem_toArray, List.getElem_cons_zero, List.getElem_cons_succ]; go_simp; try rfl
          simp only [Act.put, List.getElem_toArray, List.getElem_cons_zero, List.getElem_cons_succ, List.setIfInBounds_toArray, List.set_cons_zero, List.set_cons_succ]
          refine z_take 12 (v := ?_) rfl (by kernel_rfl) (by kernel_rfl) (by kernel_rfl) (by kernel_rfl) (fun _ _ _ h => h) hHeld (by rfl) (fun w hSw => ?_) ?_
          rotate_left
          · obtain ⟨hSw1, hSw2, hSw3⟩ := hSw; simp only [List.getElem_toArray, List.getElem_cons_zero, List.getElem_cons_succ]; go_simp; try rfl
          simp only [Act.put, List.getElem_toArray, List.getElem_cons_zero, List.getElem_cons_succ, List.setIfInBounds_toArray, List.set_cons_zero, List.set_cons_succ]
          refine z_take 13 (v := ?_) rfl (by kernel_rfl) (by kernel_rfl) (by kernel_rfl) (by kernel_rfl) (fun _ _ _ h => h) hHeld (by rfl) (fun w hSw => ?_) ?_
          rotate_left
          · obtain ⟨hSw1, hSw2, hSw3⟩ := hSw; simp only [List.getElem_toArray, List.getElem_cons_zero, List.getElem_cons_succ]; go_simp; try rfl
          simp only [Act.put, List.getElem_toArray, List.getElem_cons_zero, List.getElem_cons_succ, List.setIfInBounds_toArray, List.set_cons_zero, List.set_cons_succ]
          refine z_one 14 rfl (by kernel_rfl) (by rfl) (fun K hK => ?_)
          simp only [List.getElem_toArray, List.getElem_cons_zero, List.getElem_cons_succ]
          obtain ⟨q1, q2, q3⟩ := hHeld
          go_simp
          refine hK _ _ (Or.inl rfl) (fun _ => ?_)
          clear hK K
          try simp only [Act.put, List.setIfInBounds_toArray, List.set_cons_zero, List.set_cons_succ]
          refine z_done (by kernel_rfl) ?_ _
          go_wp2
          go_roundw
          case rel =>
            obtain ⟨k', rs', a1, a2, a3, a4, a5, a6⟩ := HX.out
            have hd := (Keeps.refl (fun _ => False) (wr.setCell ⟨g, k, none⟩ (.int .u8 y))).drew
            exact ⟨k', rs', a1, a2, a3.quiet hd, a4, own_keep a5 hd (fun _ _ h => h), a6.drew⟩
          case measure => simp [intOf]; omega
        · have u0 : (0 : Int) ≤ (k : Int) := by omega
          have u1 : ¬ (k : Int) < (m : Int) := by omega
          have HR := Lib.hid (And.intro hrows (And.intro hlens (And.intro hown hkp)))
          clear hrows hlens hown hkp
          go_wp2
          go_roundw
          case rel => exact ⟨i + 1, rs2, by omega, by go_num, HR.out⟩
          case measure => simp [intOf]; omega
    · have t1 : ¬ (i : Int) < (N : Int) := by omega
      have d1 := run_strSl ((Sl.of_own O1.out).keep hkp (fun ad e h0 hlt2 hB => by
        have h1 := H2.out.2.2.2
        omega))
      have e1 : ((strOf b).toList == (strOf b).toList) = true := beq_self_eq_true _
      have hKw : Keeps (fun _ => False) w _ := HK1.out.trans hkp (fun k hk h => by have := H2.out.2.2.2; have := HK1.out.size; omega)
      have htot : rs.flatten.length = nb := by
        rw [List.length_flatten, hlens, ← List.length_flatten, HL.out.2.1]
        exact HL.out.2.2.2.1
      have hrl : rs.length = N := by rw [← HL.out.2.2.1]; have := congrArg List.length hlens; simpa using this
      have HT := Lib.hid (join_any so N co vs rs _ (Sl.of_own hown) hrows.reads (by omega) (by omega))
      rw [htot] at HT
      have HR := Lib.hid (And.intro hrows (And.intro hlens (And.intro hown (And.intro hKw (And.intro htot hrl)))))
      have hbs : (strOf b).size = nb := by rw [strOf_size]; exact HL.out.2.2.2.1
      clear hrows hlens hown hkp hKw htot hrl
      go_wp2_with fail
      refine HT.out.mono ?_
      rintro e w3 ⟨sj, cj, cj2, rfl, hown, hc1, hc2, hk⟩
      have HJ := Lib.hid (And.intro hown (And.intro hc1 (And.intro hc2 hk)))
      clear hown hc1 hc2 hk HT d1
      by_cases hnb0 : nb = 0
      · have hN0 : N = 0 := by have := HL.out.2.2.2.2; have := HL.out.2.2.2.1; omega
        have HKF := Lib.hid (HR.out.2.2.2.1.quiet HJ.out.2.2.2)
        have f0 : ((nb : Int) == 0) = true := by simp; omega
        have f1 : ((N : Int) == 0) = true := by simp; omega
        clear hnb0 hN0 hb3
        go_wp2_with fail
        refine (lives_any w3).mono ?_
        rintro e w9 ⟨rfl, hk⟩
        replace HKF := Lib.hid (HKF.out.quiet hk)
        clear hk
        go_wp2
        go_ret
        exact ⟨rfl, HKF.out⟩
      · have hN0 : 0 < N := by have := HL.out.2.2.2.2; have := HL.out.2.2.2.1; omega
        obtain ⟨gj, rfl⟩ := own_some HJ.out.1 (by omega)
        obtain ⟨go, rfl⟩ := own_some HR.out.2.2.1 hN0
        obtain ⟨r, hr⟩ : ∃ r, rs[0]? = some r := ⟨_, List.getElem?_eq_getElem (by have := HR.out.2.2.2.2.2; omega)⟩
        have hr1 : 0 < r.length := by
          obtain ⟨c, hc⟩ : ∃ c, L[0]? = some c := ⟨_, List.getElem?_eq_getElem (by have := HL.out.2.2.1; omega)⟩
          have h1 := congrArg (fun x => x[0]?) HR.out.2.1
          simp only [List.getElem?_map, hc, hr, Option.map_some, Option.some.injEq] at h1
          rw [h1]
          exact (HL.out.1 c (List.mem_of_getElem? hc)).1
        obtain ⟨y, hy⟩ : ∃ y, r[0]? = some y := ⟨_, List.getElem?_eq_getElem hr1⟩
        have hfl : rs.flatten[0]? = some y := by
          cases hrs : rs with
          | nil => rw [hrs] at hr; simp at hr
          | cons a t =>
            rw [hrs] at hr
            simp at hr
            subst hr
            rw [List.flatten_cons, List.getElem?_append_left hr1]
            exact hy
        obtain ⟨si, ci, hvi, hoi⟩ := HR.out.1.row 0 r hr
        obtain ⟨g, rfl⟩ := own_some hoi hr1
        have hgj := (own_lt HJ.out.1 rfl).1
        have hg := (own_lt hoi rfl).2
        have hgo := (own_lt HR.out.2.2.1 rfl).2
        have hoi3 := own_keep hoi HJ.out.2.2.2 (fun _ _ h => h)
        have hoo3 := own_keep HR.out.2.2.1 HJ.out.2.2.2 (fun _ _ h => h)
        have d1 := own_cell hoo3 0 _ hvi
        have d2 : w3.cell? ⟨g, 0, none⟩ = some (.int .u8 (y.toNat : Int)) := own_cell hoi3 0 _ (by rw [BV_get, hy]; rfl)
        have d3 : w3.cell? ⟨gj, 0, none⟩ = some (.int .u8 (y.toNat : Int)) := own_cell HJ.out.1 0 _ (by rw [BV_get, hfl]; rfl)
        have d4 := own_free HJ.out.1 0
        obtain ⟨y1, hy1, hyn⟩ := u8_next y
        obtain ⟨y0, hy0⟩ : ∃ y0 : Nat, y.toNat = y0 := ⟨_, rfl⟩
        rw [hy0] at hy1 hyn d2 d3
        have e2 : ((y0 : Int) != (y1 : Int)) = true := by simp; omega
        have hset : Keeps (fun b => b = gj) w3 (w3.setCell ⟨gj, 0, none⟩ (.int .u8 (y1 : Int))) := (Keeps.refl (fun b => b = gj) w3).setCell (p := ⟨gj, 0, none⟩) (fun _ => rfl) _
        have q1 : (w3.setCell ⟨gj, 0, none⟩ (.int .u8 (y1 : Int))).cell? ⟨go, 0, none⟩ = some (.slice (some ⟨g, 0, none⟩) r.length ci) := by
          rw [hset.cell (World.block_lt_of_cell? _ _ d1) (fun h => by have h' : go = gj := h; omega)]; exact d1
        have q2 : (w3.setCell ⟨gj, 0, none⟩ (.int .u8 (y1 : Int))).cell? ⟨g, 0, none⟩ = some (.int .u8 (y0 : Int)) := by
          rw [hset.cell (World.block_lt_of_cell? _ _ d2) (fun h => by have h' : g = gj := h; omega)]; exact d2
        have q3 : (w3.setCell ⟨gj, 0, none⟩ (.int .u8 (y1 : Int))).cell? ⟨gj, 0, none⟩ = some (.int .u8 (y1 : Int)) := by
          have h := own_cell (own_set HJ.out.1 0 (.int .u8 (y1 : Int))) 0 (.int .u8 (y1 : Int)) (by
            cases hf : rs.flatten with
            | nil => rw [hf] at hfl; simp at hfl
            | cons a t => simp [BV])
          exact h
        have HKF : Hid (Keeps (fun _ => False) w (w3.setCell ⟨gj, 0, none⟩ (.int .u8 (y1 : Int)))) := by
          refine (HR.out.2.2.2.1.quiet HJ.out.2.2.2).trans hset (fun k hk e => ?_)
          have h1 := HR.out.2.2.2.1.size
          have e' : k = gj := e
          omega
        have f0 : ((nb : Int) == 0) = false := by rw [beq_eq_false_iff_ne]; omega
        have f1 : ((N : Int) == 0) = false := by rw [beq_eq_false_iff_ne]; omega
        have f2 : ((r.length : Int) == 0) = false := by rw [beq_eq_false_iff_ne]; omega
        have u0 : (0 : Int) < (N : Int) := by omega
        have u1 : (0 : Int) < (nb : Int) := by omega
        have u2 : (0 : Int) < (r.length : Int) := by omega
        have u3 : 0 < nb := by omega
        have u5 : 0 < r.length := hr1
        generalize r.length = rl at *
        obtain ⟨w4, hw4⟩ : ∃ w4, w3.setCell ⟨gj, 0, none⟩ (.int .u8 (y1 : Int)) = w4 := ⟨_, rfl⟩
        rw [hw4] at q1 q2 q3 HKF
        clear hr hr1 hy hfl hvi hoi hgj hg hgo hoi3 hoo3 hyn hy0 hset d2
        go_wp2_with fail
        refine z_begin (fun w' => w'.cell? ⟨go, 0, none⟩ = some (.slice (some ⟨g, 0, none⟩) rl ci) ∧ w'.cell? ⟨g, 0, none⟩ = some (.int .u8 (y0 : Int)) ∧ w'.cell? ⟨gj, 0, none⟩ = some (.int .u8 (y1 : Int))) 13 (by kernel_rfl) (⟨q1, q2, q3⟩) (fun hHeld => ?_)
        have hk : Keeps (fun _ => False) w4 (World.drew w4) := (Keeps.refl _ _).drew
        replace HKF := Lib.hid (HKF.out.quiet hk)
        clear hk q1 q2 q3 hw4
        generalize World.drew w4 = v4 at *
        refine z_take 0 (v := ?_) rfl (by kernel_rfl) (by kernel_rfl) (by kernel_rfl) (by kernel_rfl) (fun _ _ _ h => h) hHeld (by rfl) (fun w hSw => ?_) ?_
        rotate_left
        · obtain ⟨hSw1, hSw2, hSw3⟩ := hSw; simp only [List.getElem_toArray, List.getElem_cons_zero]; go_simp; try rfl
        simp only [Act.put, List.getElem_toArray, List.getElem_cons_zero, List.setIfInBounds_toArray, List.set_cons_zero, List.set_cons_succ]
        refine z_take 1 (v := ?_) rfl (by kernel_rfl) (by kernel_rfl) (by kernel_rfl) (by kernel_rfl) (fun _ _ _ h => h) hHeld (by rfl) (fun w hSw => ?_) ?_
        rotate_left
        · obtain ⟨hSw1, hSw2, hSw3⟩ := hSw; simp only [List.getElem_toArray, List.getElem_cons_zero, List.getElem_cons_succ]; go_simp; try rfl
        simp only [Act.put, List.getElem_toArray, List.getElem_cons_zero, List.getElem_cons_succ, List.setIfInBounds_toArray, List.set_cons_zero, List.set_cons_succ]
        refine z_take 2 (v := ?_) rfl (by kernel_rfl) (by kernel_rfl) (by kernel_rfl) (by kernel_rfl) (fun _ _ _ h => h) hHeld (by rfl) (fun w hSw => ?_) ?_
        rotate_left
        · obtain ⟨hSw1, hSw2, hSw3⟩ := hSw; simp only [List.getElem_toArray, List.getElem_cons_zero, List.getElem_cons_succ]; go_simp; try rfl
        simp only [Act.put, List.getElem_toArray, List.getElem_cons_zero, List.getElem_cons_succ, List.setIfInBounds_toArray, List.set_cons_zero, List.set_cons_succ]
        refine z_take 3 (v := ?_) rfl (by kernel_rfl) (by kernel_rfl) (by kernel_rfl) (by kernel_rfl) (fun _ _ _ h => h) hHeld (by rfl) (fun w hSw => ?_) ?_
        rotate_left
        · obtain ⟨hSw1, hSw2, hSw3⟩ := hSw; simp only [List.getElem_toArray, List.getElem_cons_zero, List.getElem_cons_succ]; go_simp; try rfl
        simp only [Act.put, List.getElem_toArray, List.getElem_cons_zero, List.getElem_cons_succ, List.setIfInBounds_toArray, List.set_cons_zero, List.set_cons_succ]
        refine z_take 4 (v := ?_) rfl (by kernel_rfl) (by kernel_rfl) (by kernel_rfl) (by kernel_rfl) (fun _ _ _ h => h) hHeld (by rfl) (fun w hSw => ?_) ?_
        rotate_left
        · obtain ⟨hSw1, hSw2, hSw3⟩ := hSw; simp only [List.getElem_toArray, List.getElem_cons_zero, List.getElem_cons_succ]; go_simp; try rfl
        simp only [Act.put, List.getElem_toArray, List.getElem_cons_zero, List.getElem_cons_succ, List.setIfInBounds_toArray, List.set_cons_zero, List.set_cons_succ]
        refine z_take 5 (v := ?_) rfl (by kernel_rfl) (by kernel_rfl) (by kernel_rfl) (by kernel_rfl) (fun _ _ _ h => h) hHeld (by rfl) (fun w hSw => ?_) ?_
        rotate_left
        · obtain ⟨hSw1, hSw2, hSw3⟩ := hSw; simp only [List.getElem_toArray, List.getElem_cons_zero, List.getElem_cons_succ]; go_simp; try rfl
        simp only [Act.put, List.getElem_toArray, List.getElem_cons_zero, List.getElem_cons_succ, List.setIfInBounds_toArray, List.set_cons_zero, List.set_cons_succ]
        refine z_take 6 (v := ?_) rfl (by kernel_rfl) (by kernel_rfl) (by kernel_rfl) (by kernel_rfl) (fun _ _ _ h => h) hHeld (by rfl) (fun w hSw => ?_) ?_
        rotate_left
        · obtain ⟨hSw1, hSw2, hSw3⟩ := hSw; simp only [List.getElem_toArray, List.getElem_cons_zero, List.getElem_cons_succ]; go_simp; try rfl
        simp only [Act.put, List.getElem_toArray, List.getElem_cons_zero, List.getElem_cons_succ, List.setIfInBounds_toArray, List.set_cons_zero, List.set_cons_succ]
        refine z_take 7 (v := ?_) rfl (by kernel_rfl) (by kernel_rfl) (by kernel_rfl) (by kernel_rfl) (fun _ _ _ h => h) hHeld (by rfl) (fun w hSw => ?_) ?_
        rotate_left
        · obtain ⟨hSw1, hSw2, hSw3⟩ := hSw; simp only [List.getElem_toArray, List.getElem_cons_zero, List.getElem_cons_succ]; go_simp; try rfl
        simp only [Act.put, List.getElem_toArray, List.getElem_cons_zero, List.getElem_cons_succ, List.setIfInBounds_toArray, List.set_cons_zero, List.set_cons_succ]
        refine z_take 8 (v := ?_) rfl (by kernel_rfl) (by kernel_rfl) (by kernel_rfl) (by kernel_rfl) (fun _ _ _ h => h) hHeld (by rfl) (fun w hSw => ?_) ?_
        rotate_left
        · obtain ⟨hSw1, hSw2, hSw3⟩ := hSw; simp only [List.getElem_toArray, List.getElem_cons_zero, List.getElem_cons_succ]; go_simp; try rfl
        simp only [Act.put, List.getElem_toArray, List.getElem_cons_zero, List.getElem_cons_succ, List.setIfInBounds_toArray, List.set_cons_zero, List.set_cons_succ]
        refine z_take 9 (v := ?_) rfl (by kernel_rfl) (by kernel_rfl) (by kernel_rfl) (by kernel_rfl) (fun _ _ _ h => h) hHeld (by rfl) (fun w hSw => ?_) ?_
        rotate_left
        · obtain ⟨hSw1, hSw2, hSw3⟩ := hSw; simp only [List.getElem_toArray, List.getElem_cons_zero, List.getElem_cons_succ]; go_simp; try rfl
        simp only [Act.put, List.getElem_toArray, List.getElem_cons_zero, List.getElem_cons_succ, List.setIfInBounds_toArray, List.set_cons_zero, List.set_cons_succ]
        refine z_one 10 rfl (by kernel_rfl) (by rfl) (fun K hK => ?_)
        simp only [List.getElem_toArray, List.getElem_cons_zero, List.getElem_cons_succ]
        go_simp
        refine (lives_any v4).mono ?_
        rintro e v5 ⟨rfl, hk⟩
        replace HKF := Lib.hid (HKF.out.quiet hk)
        refine hK _ _ (Or.inr ?_) (fun hHeld => ?_)
        · exact ⟨kc hk hHeld.1, kc hk hHeld.2.1, kc hk hHeld.2.2⟩
        clear hK K hk
        replace hHeld := hHeld.resolve_left (by decide)
        try simp only [Act.put, List.setIfInBounds_toArray, List.set_cons_zero, List.set_cons_succ]
        refine z_one 11 rfl (by kernel_rfl) (by rfl) (fun K hK => ?_)
        simp only [List.getElem_toArray, List.getElem_cons_zero, List.getElem_cons_succ]
        go_simp
        refine hK _ _ (Or.inr ?_) (fun hHeld => ?_)
        · exact hHeld
        clear hK K
        replace hHeld := hHeld.resolve_left (by decide)
        try simp only [Act.put, List.setIfInBounds_toArray, List.set_cons_zero, List.set_cons_succ]
        refine z_one 12 rfl (by kernel_rfl) (by rfl) (fun K hK => ?_)
        simp only [List.getElem_toArray, List.getElem_cons_zero, List.getElem_cons_succ]
        go_simp
        refine hK _ _ (Or.inr hHeld) (fun _ => ?_)
        clear hK K
        try simp only [Act.put, List.setIfInBounds_toArray, List.set_cons_zero, List.set_cons_succ]
        refine z_done (by kernel_rfl) ?_ _
        clear hHeld
        go_wp2
        go_ret
        exact ⟨rfl, HKF.out⟩
end Go.Proofs.Ytllpeenjfjobaaa
