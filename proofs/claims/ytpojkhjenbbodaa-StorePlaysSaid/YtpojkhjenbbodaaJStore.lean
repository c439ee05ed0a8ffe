/-
  Joined texts of the proofs of chapter 29: Concat Put Get Frames Reader Frame StoreM StoreR StoreW StoreA. Conditions: those that each theorem names.
-/
import Derived.Lib.AppendZerosOnto
import Derived.Lib.Walk
import Derived.Lib.SliceRun
import Derived.Test.YtpojkhjenbbodaaJTools
import Derived.Test.YtpojkhjenbbodaaJHash
namespace Go.Proofs.Ytpojkhjenbbodaa
open Go.RowKit

set_option maxHeartbeats 1000000 in
set_option maxRecDepth 10000 in
theorem grow_nil (n : Nat) (w : World) (h0 : 0 < n) (hn : n ≤ 1000000) :
    Calls Try.prog 79 #[.slice none 0 0, .int .i64 (n : Int)] w fun e w' => ∃ g cap, e = .returned (.slice (some ⟨g, 0, none⟩) 0 cap) ∧ w'.ownsRow w.heap.size 5 1 (.slice (some ⟨g, 0, none⟩) 0 cap) 0 [] ∧ Keeps (fun _ => False) w w' := by
  obtain ⟨i0, hi, hz0, hz1, hz2⟩ := info_parts infoByte
  have hold : (Builtin.firstCells i0.size 0 (.slice none 0 0)).run Try.prog w.drew = .ok ([] : List Value).toArray w.drew := run_firstCells_none w.drew i0.size 0 0 0
  have hrz : ∀ ty, (Builtin.append_ #[23, 3] ty #[.slice none 0 0, .int .i64 (n : Int)]).run Try.prog w =
      .ok (.slice (some ⟨w.heap.size, 0, none⟩) n (grownCap w n 0 5)) (w.drew.alloc (.cells (#[] ++ Builtin.zeroCells (Value.int .u8 0).cells n ++ Builtin.zeroCells (Value.int .u8 0).cells (grownCap w n 0 5 - n)) 5)) := fun ty => by
    have h := Lib.run_append_grow_zeros (P := Try.prog) w 23 3 ty 5 i0 (.int .u8 0) .i64 .i64 Try.underlying23 Try.underlying3 hi hz0 none 0 0 [] hold n h0 (by omega) (by omega) (by omega) (by rw [hz2]; omega)
      (by rw [Nat.zero_add]; exact growslice_fits (by omega) (by rw [hz2]; omega))
    simpa using h
  have hGn : n ≤ grownCap w n 0 5 := grownCap_ge w _ _ _
  have hGm := grownCap_le_maxLen w n 0 5 (by unfold maxLen; omega)
  obtain ⟨G, hG⟩ : ∃ G, grownCap w n 0 5 = G := ⟨_, rfl⟩
  rw [hG] at hGn hGm
  rw [hG] at hrz
  have hown : (w.drew.alloc (.cells (#[] ++ Builtin.zeroCells (Value.int .u8 0).cells n ++ Builtin.zeroCells (Value.int .u8 0).cells (G - n)) 5)).ownsRow w.heap.size 5 1 (.slice (some ⟨w.heap.size, 0, none⟩) 0 G) 0 [] := by
    refine World.ownsRow_made (cap := G) w.drew _ (Nat.le_refl _) hGm ?_
    simp [Builtin.zeroCells, Value.cells]
    omega
  have HO := Lib.hid hown
  have hk : Keeps (fun _ => False) w (w.drew.alloc (.cells (#[] ++ Builtin.zeroCells (Value.int .u8 0).cells n ++ Builtin.zeroCells (Value.int .u8 0).cells (G - n)) 5)) := (Keeps.refl _ w).drew.alloc _
  have HK := Lib.hid hk
  obtain ⟨w1, hw1⟩ : ∃ w1, w.drew.alloc (.cells (#[] ++ Builtin.zeroCells (Value.int .u8 0).cells n ++ Builtin.zeroCells (Value.int .u8 0).cells (G - n)) 5) = w1 := ⟨_, rfl⟩
  rw [hw1] at hrz HO HK
  have t0 : ¬ (n : Int) < 0 := by omega
  have t1 : (n : Int) > 0 := by omega
  have t2 : (0 : Int) ≤ (G : Int) := by omega
  unfold maxLen at hGm
  clear hold hG hw1 hown hk
  go_enter Try.func79, Try.ntmps79
  go_wp2_with (at_builtin; refine Lib.wpList_append_run _ rfl _ _ _ _ rfl _ _ rfl rfl _ _ (hrz _) ?_)
  go_ret
  exact ⟨w.heap.size, G, rfl, HO.out, HK.out⟩

theorem flat_snoc (rs : List (List UInt8)) (k : Nat) (r : List UInt8) (h : rs[k]? = some r) : (rs.take (k + 1)).flatten = (rs.take k).flatten ++ r := by
  rw [List.take_succ_eq_append_getElem (List.getElem?_eq_some_iff.1 h).1, (List.getElem?_eq_some_iff.1 h).2, List.flatten_append]
  simp
theorem flat_le (rs : List (List UInt8)) (k : Nat) : (rs.take k).flatten.length ≤ rs.flatten.length := by
  have : rs.flatten = (rs.take k).flatten ++ (rs.drop k).flatten := by rw [← List.flatten_append, List.take_append_drop]
  rw [this, List.length_append]
  omega

def CnSum (w : World) (rs : List (List UInt8)) (n i : Value) (wr : World) : Prop := ∃ k : Nat, k ≤ rs.length ∧ i = .int .i64 (k : Int) ∧ n = .int .i64 ((rs.take k).flatten.length : Int) ∧ w = wr
def CnCat (w : World) (B : Nat) (rs : List (List UInt8)) (out i : Value) (wr : World) : Prop :=
  ∃ (k T : Nat) (so : Option Addr) (co : Nat), k ≤ rs.length ∧ i = .int .i64 (k : Int) ∧ (rs.take k).flatten.length = T ∧ out = .slice so T co ∧ wr.ownsRow B 5 1 (.slice so T co) T (BV (rs.take k).flatten) ∧ Keeps (fun _ => False) w wr

set_option maxHeartbeats 1000000 in
set_option maxRecDepth 10000 in
theorem concat_any (sa : Option Addr) (n cap : Nat) (vs : List Value) (rs : List (List UInt8)) (w : World) (hl : Sl w sa n cap vs) (hr : RowsS w vs rs) (hn : n ≤ 1000) (hn0 : 0 < n) (h0 : 0 < rs.flatten.length) (ht : rs.flatten.length ≤ 1000000) :
    Calls Try.prog 70 #[.slice sa n cap] w fun e w' => ∃ sb c, e = .returned (.slice sb rs.flatten.length c) ∧ w'.ownsRow w.heap.size 5 1 (.slice sb rs.flatten.length c) rs.flatten.length (BV rs.flatten) ∧ Keeps (fun _ => False) w w' := by
  have hrn : rs.length = n := by rw [← hr.len]; exact hl.len
  have hle := hl.le
  have hcb := hl.capB
  obtain ⟨b, off, rfl⟩ := hl.isSome hn0
  obtain ⟨T, hT⟩ : ∃ T, rs.flatten.length = T := ⟨_, rfl⟩
  rw [hT] at h0 ht ⊢
  have HL := Lib.hid (And.intro hl (And.intro hr (And.intro hrn hT)))
  clear hl hr hrn hT
  go_enter Try.func70, Try.ntmps70
  go_wp2_with fail
  go_loopw [3, 11] (fun s i wr => CnSum w rs s i wr) (fun _ i _ => n - (intOf i).toNat)
  case atStart => exact ⟨0, Nat.zero_le _, rfl, by simp, rfl⟩
  case round =>
    obtain ⟨k, hk, rfl, rfl, rfl⟩ := hrel
    by_cases hlt : k < n
    · obtain ⟨r, hr⟩ : ∃ r, rs[k]? = some r := ⟨_, List.getElem?_eq_getElem (by have := HL.out.2.2.1; omega)⟩
      obtain ⟨sr, cr, hvr, _⟩ := HL.out.2.1.row k r hr
      have d1 : w.cell? ⟨b, off + k, none⟩ = some (.slice sr r.length cr) := HL.out.1.cell hvr
      have hs := flat_snoc rs k r hr
      have hb := flat_le rs (k + 1)
      have hs2 := congrArg List.length hs
      rw [List.length_append] at hs2
      have hT := HL.out.2.2.2
      rw [hT] at hb
      obtain ⟨p, hp⟩ : ∃ p, (rs.take k).flatten.length = p := ⟨_, rfl⟩
      obtain ⟨q, hq⟩ : ∃ q, (rs.take (k + 1)).flatten.length = q := ⟨_, rfl⟩
      obtain ⟨u, hu⟩ : ∃ u, r.length = u := ⟨_, rfl⟩
      rw [hp, hq, hu] at hs2
      rw [hq] at hb
      rw [hu] at d1
      rw [hp]
      have t0 : (0 : Int) ≤ (k : Int) := by omega
      have t1 : (k : Int) < (n : Int) := by omega
      have e1 : (p : Int) + (u : Int) = (q : Int) := by omega
      have t2 : ¬ (q : Int) < 0 := by omega
      have HQ := Lib.hid (And.intro hq (show k + 1 ≤ rs.length by have := HL.out.2.2.1; omega))
      clear hvr hs hs2 hT hp hq hu hr
      go_wp2
      go_roundw
      case rel => exact ⟨k + 1, HQ.out.2, by go_num, by rw [HQ.out.1], rfl⟩
      case measure => simp [intOf]; omega
    · obtain rfl : k = n := by have := HL.out.2.2.1; omega
      have t1 : ¬ (k : Int) < (k : Int) := by omega
      have e1 : (rs.take k).flatten.length = T := by rw [List.take_of_length_le (by rw [HL.out.2.2.1]; exact Nat.le_refl _)]; exact HL.out.2.2.2
      rw [e1]
      clear e1 hk
      have HG := Lib.hid (grow_nil T w h0 ht)
      go_wp2_with fail
      refine HG.out.mono ?_
      rintro e w1 ⟨g, cg, rfl, hown, hk1⟩
      have H1 := Lib.hid (And.intro hown hk1)
      clear hown hk1 HG
      obtain ⟨B, hB⟩ : ∃ B, w.heap.size = B := ⟨_, rfl⟩
      rw [hB] at H1
      have HB := Lib.hid hB
      clear hB
      go_wp2_with fail
      go_loopw [6, 27] (fun out i wr => CnCat w B rs out i wr) (fun _ i _ => k - (intOf i).toNat)
      case atStart => exact ⟨0, 0, _, cg, Nat.zero_le _, rfl, by simp, rfl, by simpa [BV] using H1.out.1, H1.out.2⟩
      case round =>
        clear H1
        obtain ⟨j, t, so, co, hj, rfl, ht2, rfl, hown, hkp⟩ := hrel
        have hsz := hkp.size
        rw [HB.out] at hsz
        have HR := Lib.hid (And.intro hown (And.intro hkp ht2))
        have hb := flat_le rs j
        rw [HL.out.2.2.2, ht2] at hb
        clear hown hkp ht2
        by_cases hlt : j < k
        · obtain ⟨r, hr⟩ : ∃ r, rs[j]? = some r := ⟨_, List.getElem?_eq_getElem (by have := HL.out.2.2.1; omega)⟩
          obtain ⟨sx, cx, hvx, hsx⟩ := HL.out.2.1.row j r hr
          have d1 := (HL.out.1.quiet HR.out.2.1).cell hvx
          have hs := flat_snoc rs j r hr
          have hb2 := flat_le rs (j + 1)
          rw [HL.out.2.2.2, hs, List.length_append, HR.out.2.2] at hb2
          obtain ⟨v, hv⟩ : ∃ u, r.length = u := ⟨_, rfl⟩
          rw [hv] at d1 hsx hb2
          have HX := Lib.hid (And.intro (hsx.quiet HR.out.2.1) (And.intro hs hv))
          have t0 : (0 : Int) ≤ (j : Int) := by omega
          have t1 : (j : Int) < (k : Int) := by omega
          clear hvx hsx hs hv hr
          go_wp2_with (at_builtin; refine wpList_appB rfl _ _ rfl B so t co _ rfl HR.out.1 sx v cx r rfl HX.out.1 (by omega) hsz ?_; intro s3 c3 w3 hown2 hk2; have H3 := Lib.hid (And.intro hown2 (HR.out.2.1.pushed HR.out.1 (by rw [HB.out]; exact Nat.le_refl _) hk2)); clear hown2 hk2)
          go_roundw
          case rel =>
            refine ⟨j + 1, t + v, s3, c3, by have := HL.out.2.2.1; omega, by go_num, ?_, rfl, ?_, H3.out.2⟩
            · rw [HX.out.2.1, List.length_append, HR.out.2.2, HX.out.2.2]
            · rw [HX.out.2.1, BV_append]; exact H3.out.1
          case measure => simp [intOf]; omega
        · obtain rfl : j = k := by have := HL.out.2.2.1; omega
          have t1 : ¬ (j : Int) < (j : Int) := by omega
          have e1 : (rs.take j).flatten = rs.flatten := by rw [List.take_of_length_le (by rw [HL.out.2.2.1]; exact Nat.le_refl _)]
          have e2 : t = T := by have := HR.out.2.2; rw [e1, HL.out.2.2.2] at this; omega
          subst e2
          have HF := Lib.hid (And.intro HR.out.1 HR.out.2.1)
          rw [e1] at HF
          clear e1
          go_wp2
          go_ret
          rw [HB.out]
          exact ⟨so, co, rfl, HF.out.1, HF.out.2⟩
end Go.Proofs.Ytpojkhjenbbodaa

namespace Go.Proofs.Ytpojkhjenbbodaa
open Go.RowKit Go.Shelf
attribute [local go_sem] Oper.semAt_some

/-- A number in some bytes. -/
def putB (n size : Nat) : List UInt8 := (List.range size).map fun i => UInt8.ofNat (n / 256 ^ i)
theorem putB_length (n size : Nat) : (putB n size).length = size := by simp [putB]
theorem div_pow_succ (n i : Nat) : n / 256 ^ (i + 1) = n / 256 ^ i / 256 := by rw [Nat.pow_succ, Nat.div_div_eq_div_mul]
theorem putB_set (n size k : Nat) (hk : k < size) : (((putB n size).take k) ++ List.replicate (size - k) 0).set k (UInt8.ofNat (n / 256 ^ k)) = (putB n size).take (k + 1) ++ List.replicate (size - (k + 1)) 0 := by
  have h1 : ((putB n size).take k).length = k := by rw [List.length_take, putB_length]; omega
  rw [List.set_append_right _ _ (by omega), h1, Nat.sub_self]
  obtain ⟨m, hm⟩ : ∃ m, size - k = m + 1 := ⟨size - k - 1, by omega⟩
  rw [hm, List.replicate_succ, List.set_cons_zero, show size - (k + 1) = m by omega]
  rw [List.take_succ_eq_append_getElem (by rw [putB_length]; omega), List.append_assoc]
  simp [putB]

def PtRel (w : World) (B n size g : Nat) (x i : Value) (wr : World) : Prop :=
  ∃ k : Nat, k ≤ size ∧ i = .int .i64 (k : Int) ∧ x = .int .u64 ((n / 256 ^ k : Nat) : Int) ∧ wr.ownsRow B 5 1 (.slice (some ⟨g, 0, none⟩) size size) size (BV ((putB n size).take k ++ List.replicate (size - k) 0)) ∧ Keeps (fun _ => False) w wr

set_option maxHeartbeats 1000000 in
set_option maxRecDepth 10000 in
theorem put_any (n size : Nat) (w : World) (hn : U64 n) (hs : size ≤ 8) :
    Calls Try.prog 59 #[.int .u64 (n : Int), .int .i64 (size : Int)] w fun e w' => ∃ sa, e = .returned (.slice sa size size) ∧ w'.ownsRow w.heap.size 5 1 (.slice sa size size) size (BV (putB n size)) ∧ Keeps (fun _ => False) w w' := by
  unfold U64 at hn
  have hmk := run_mk size (by omega) w
  have hown := owns_made w size (by omega)
  obtain ⟨g, hg⟩ : ∃ g, w.heap.size = g := ⟨_, rfl⟩
  obtain ⟨W0, hW0⟩ : ∃ W0, w.alloc (.cells (madeCells #[.int .u8 0] size) 5) = W0 := ⟨_, rfl⟩
  have hk : Keeps (fun _ => False) w W0 := by rw [← hW0]; exact (Keeps.refl _ w).alloc _
  rw [hW0, hg] at hmk hown
  have H0 := Lib.hid (And.intro hown (And.intro hk hg))
  clear hown hk hg hW0
  go_enter Try.func59, Try.ntmps59
  go_wp2_with fail
  clear hmk
  go_loopw [0, 11] (fun x i wr => PtRel w g n size g x i wr) (fun _ i _ => size - (intOf i).toNat)
  case atStart => exact ⟨0, Nat.zero_le _, rfl, by simp, by simpa using H0.out.1, H0.out.2.1⟩
  case round =>
    obtain ⟨k, hk, rfl, rfl, hown, hkp⟩ := hrel
    by_cases hlt : k < size
    · have d4 := own_free hown k
      have d5 : wr.cell? ⟨g, k, none⟩ = some (.int .u8 0) := own_cell hown k _ (by
        have h1 : ((putB n size).take k).length = k := by rw [List.length_take, putB_length]; omega
        rw [BV_get, List.getElem?_append_right (by omega), h1, Nat.sub_self, List.getElem?_replicate, if_pos (by omega)]
        rfl)
      have hle : n / 256 ^ k ≤ n := Nat.div_le_self _ _
      have hw : IntKind.u8.wrap ((n / 256 ^ k : Nat) : Int) = ((UInt8.ofNat (n / 256 ^ k)).toNat : Int) := by rw [UInt8.toNat_ofNat', IntKind.wrap_u8]; omega
      have hset := own_set hown k (.int .u8 ((UInt8.ofNat (n / 256 ^ k)).toNat : Int))
      rw [BV_set, putB_set n size k hlt] at hset
      have hk2 : Keeps (fun b => b = g) wr (wr.setCell ⟨g, k, none⟩ (.int .u8 ((UInt8.ofNat (n / 256 ^ k)).toNat : Int))) := (Keeps.refl (fun b => b = g) wr).setCell (p := ⟨g, k, none⟩) (fun _ => rfl) _
      have hdp := div_pow_succ n k
      have HS : Hid ((wr.setCell ⟨g, k, none⟩ (.int .u8 ((UInt8.ofNat (n / 256 ^ k)).toNat : Int))).ownsRow g 5 1 (.slice (some ⟨g, 0, none⟩) size size) size (BV ((putB n size).take (k + 1) ++ List.replicate (size - (k + 1)) 0)) ∧ Keeps (fun _ => False) w (wr.setCell ⟨g, k, none⟩ (.int .u8 ((UInt8.ofNat (n / 256 ^ k)).toNat : Int))) ∧ n / 256 ^ (k + 1) = n / 256 ^ k / 256) :=
        ⟨hset, hkp.trans hk2 (fun b hb e => by have := H0.out.2.2; omega), hdp⟩
      clear hset hk2 hdp hown hkp
      obtain ⟨x, hx⟩ : ∃ x, n / 256 ^ k = x := ⟨_, rfl⟩
      rw [hx] at hw HS hle ⊢
      obtain ⟨y, hy⟩ : ∃ y, ((UInt8.ofNat x).toNat : Int) = y := ⟨_, rfl⟩
      rw [hy] at hw HS
      obtain ⟨z, hz⟩ : ∃ z, x / 256 = z := ⟨_, rfl⟩
      have e1 : (x : Int) / 256 = (z : Int) := by omega
      have e2 : IntKind.u64.wrap (z : Int) = (z : Int) := wrap_nat _ _ rfl (by omega)
      rw [hz] at HS
      have t0 : (0 : Int) ≤ (k : Int) := by omega
      have t1 : (k : Int) < (size : Int) := by omega
      clear hx hy hz hle
      go_wp2
      go_roundw
      case rel => exact ⟨k + 1, by omega, by go_num, by rw [HS.out.2.2], HS.out.1, HS.out.2.1⟩
      case measure => simp [intOf]; omega
    · obtain rfl : k = size := by omega
      have t1 : ¬ (k : Int) < (k : Int) := by omega
      rw [List.take_of_length_le (by rw [putB_length]; exact Nat.le_refl _), Nat.sub_self, List.replicate_zero, List.append_nil] at hown
      have HF := Lib.hid (And.intro hown hkp)
      clear hown hkp
      go_wp2
      go_ret
      rw [H0.out.2.2]
      exact ⟨_, rfl, HF.out.1, HF.out.2⟩

/-- bytes.Equal. -/
theorem equal_any (sa sb : Option Addr) (n m ca cb : Nat) (a b : List UInt8) (w : World) (ha : Sl w sa n ca (BV a)) (hb : Sl w sb m cb (BV b)) :
    Calls Try.prog 74 #[.slice sa n ca, .slice sb m cb] w fun e w' => e = .returned (.bool (decide (a = b))) ∧ w = w' := by
  have d1 := run_strSl ha
  have d2 := run_strSl hb
  have e1 : ((strOf a).toList == (strOf b).toList) = decide (a = b) := by
    rw [ByteArray.toList_eq, strOf_data, ByteArray.toList_eq, strOf_data, Bool.eq_iff_iff]
    simp
  clear ha hb
  obtain ⟨v, hv⟩ : ∃ v, decide (a = b) = v := ⟨_, rfl⟩
  rw [hv] at e1
  have HV := Lib.hid hv
  clear hv
  go_enter Try.func74, Try.ntmps74
  go_wp2
  go_ret
  exact ⟨by rw [HV.out]; rfl, rfl⟩
end Go.Proofs.Ytpojkhjenbbodaa

namespace Go.Proofs.Ytpojkhjenbbodaa
open Go.RowKit Go.Shelf
attribute [local go_sem] Oper.semAt_some

theorem backward_any (sa : Option Addr) (n cap : Nat) (w : World) : Calls Try.prog 78 #[.slice sa n cap] w fun e w' => e = .returned (.func (.func 85) #[] #[.pointer (some ⟨w.heap.size, 0, none⟩)]) ∧
    w' = w.alloc (.cells #[.slice sa n cap] 23) := by
  go_enter Try.func78, Try.ntmps78
  go_wp2
  go_ret
  exact ⟨by simp, rfl⟩

/-- What is yielded: places and bytes, the last first. -/
def bwAt (l : List UInt8) (j : Nat) : Array Value := #[.int .i64 ((l.length - 1 - j : Nat) : Int), .int .u8 ((l.getD (l.length - 1 - j) 0).toNat : Int)]
def bws (l : List UInt8) : List (Array Value) := (List.range l.length).map (bwAt l)
theorem bws_length (l : List UInt8) : (bws l).length = l.length := by simp [bws]
theorem bws_get (l : List UInt8) (j : Nat) (h : j < l.length) : (bws l)[j]? = some (bwAt l j) := by
  simp only [bws, List.getElem?_map]
  rw [List.getElem?_range h]
  rfl

def BwRel (W : World) (bb : Nat) (sa : Option Addr) (n cap : Nat) (l : List UInt8) (J : Nat → World → Prop) (i : Value) (wr : World) : Prop :=
  ∃ j : Nat, i = .int .i64 ((n : Int) - 1 - (j : Int)) ∧ j ≤ n ∧ J j wr ∧ W.heap.size + 0 ≤ wr.heap.size ∧ wr.heap[bb]? = some (.cells #[.slice sa n cap] 23 (0, 0)) ∧ Sl wr sa n cap (BV l)

set_option maxHeartbeats 1000000 in
set_option maxRecDepth 10000 in
theorem backward_seq (bb b off n cap : Nat) (sa : Option Addr) (l : List UInt8) (w0 : World) (hn : n ≤ 1000000000) (hl : Sl w0 sa n cap (BV l)) (hsa : 0 < n → sa = some ⟨b, off, none⟩) (h1 : w0.heap[bb]? = some (.cells #[.slice sa n cap] 23 (0, 0))) :
    Seq Try.prog 85 #[.pointer (some ⟨bb, 0, none⟩)] (bws l) 0 (fun _ => False) (fun k => k = bb ∨ (0 < n ∧ k = b)) w0 := by
  intro lp J B W hW hB hJ hY h0
  have q1 := (hW.block bb (lt_of_heap h1) (fun h => h (Or.inl rfl))).trans h1
  have hl' : Sl W sa n cap (BV l) := hl.keep hW (fun ad e hn0 _ h => by rw [hsa hn0] at e; cases e; exact h (Or.inr ⟨hn0, rfl⟩))
  have HJ := Lib.hid (And.intro hB (And.intro hJ (And.intro hY (And.intro h0 (And.intro q1 hl')))))
  have hll : l.length = n := by have := hl.len; simpa using this
  have HS := Lib.hid (And.intro hsa hll)
  have c1 := cellAt q1 0
  simp at c1
  clear h1 hW hB hJ hY h0 q1 hsa hl hl' hll
  refine callsIn_of_wp Try.func85 rfl trivial ?_ rfl
  simp only [Try.ntmps85, List.size_toArray, List.length_cons, List.length_nil, Nat.reduceAdd, Nat.reduceSub, Array.replicate_succ, Array.replicate_zero, List.push_toArray, List.append_toArray, List.nil_append, List.cons_append]
  gi_wp2_with fail
  clear c1
  gi_loopw [3] (fun i wr => BwRel W bb sa n cap l J i wr) (fun i _ => (intOf i + 1).toNat)
  case atStart => exact ⟨0, by simp, Nat.zero_le _, HJ.out.2.2.2.1, Nat.le_refl _, HJ.out.2.2.2.2.1, HJ.out.2.2.2.2.2⟩
  case round =>
    obtain ⟨j, rfl, hj, hJj, hsz, q1, hsl⟩ := hrel
    have c1 := cellAt q1 0
    simp at c1
    have HH := Lib.hid (And.intro hJj (And.intro hsz (And.intro q1 hsl)))
    clear hJj hsz q1
    by_cases hlt : j < n
    · obtain ⟨q, hq⟩ : ∃ q, n - 1 - j = q := ⟨_, rfl⟩
      have hqi : (n : Int) - 1 - (j : Int) = (q : Int) := by omega
      have hqn : q < n := by omega
      obtain ⟨x, hx⟩ : ∃ x, l[q]? = some x := ⟨_, List.getElem?_eq_getElem (by have := HS.out.2; omega)⟩
      have hsa := HS.out.1 (by omega)
      subst hsa
      have d1 : wr.cell? ⟨b, off + q, none⟩ = some (.int .u8 (x.toNat : Int)) := hsl.cell (by rw [BV_get, hx]; rfl)
      have hget := bws_get l j (by have := HS.out.2; omega)
      have hbw : bwAt l j = #[.int .i64 (q : Int), .int .u8 (x.toNat : Int)] := by
        unfold bwAt
        rw [HS.out.2, hq, List.getD_eq_getElem?_getD, hx]
        rfl
      rw [hbw] at hget
      obtain ⟨fn, tmps, assign, body, hy, hR⟩ := HJ.out.2.2.1 j _ wr hget HH.out.1 HH.out.2.1
      rw [hqi]
      have t0 : (q : Int) ≥ 0 := by omega
      have t0b : (0 : Int) ≤ (q : Int) := by omega
      have t1 : (q : Int) < (n : Int) := by omega
      have HQ := Lib.hid (And.intro hq hqi)
      clear hget hbw hx hsl hq hqi
      gi_wp2_with fail
      refine ⟨rfl, RoundIn.mono hR ?_⟩
      rintro e W2 ⟨rfl, hJ2, hkB⟩
      have hq1 := (hkB.block bb (lt_of_heap HH.out.2.2.1) (fun h => (HJ.out.1 bb h).1 (Or.inl rfl))).trans HH.out.2.2.1
      have HR : Hid (BwRel W bb (some ⟨b, off, none⟩) n cap l J (.int .i64 ((q : Int) - 1)) W2) := by
        have h2 := HH.out.2.1
        have h3 := hkB.size
        have h4 := HQ.out
        refine ⟨j + 1, by congr 1; omega, by omega, hJ2, by omega, hq1, HH.out.2.2.2.keep hkB (fun ad e hn0 _ h => ?_)⟩
        cases e
        exact (HJ.out.1 b h).1 (Or.inr ⟨hn0, rfl⟩)
      clear hJ2 hkB hq1 hR hy c1 d1
      gi_wp2
      go_roundw
      case rel => exact HR.out
      case measure => simp [intOf]
    · obtain rfl : j = n := by omega
      have t0 : ¬ ((j : Int) - 1 - (j : Int)) ≥ 0 := by omega
      have e0 : (j : Int) - 1 - (j : Int) = -1 := by omega
      have HF : Hid (J (bws l).length wr) := by show J _ _; rw [bws_length, HS.out.2]; exact HH.out.1
      rw [e0]
      clear hsl e0 t0
      gi_wp2
      go_end0
      exact ⟨⟨_, rfl⟩, HF.out⟩

theorem or_low (a x : Nat) (hx : x < 256) (ha : a < 72057594037927936) : bits .or .u64 ((a * 256 : Nat) : Int) (x : Int) = ((a * 256 + x : Nat) : Int) := by
  rw [u64_or_nat (a * 256) x (by omega) (by omega)]
  have := Nat.two_pow_add_eq_or_of_lt (i := 8) (b := x) (by omega) a
  rw [show a * 256 = 2 ^ 8 * a by omega, this]

theorem le_step (l : List UInt8) (j : Nat) (h : j < l.length) : le (l.drop (l.length - (j + 1))) = le (l.drop (l.length - j)) * 256 + (l.getD (l.length - 1 - j) 0).toNat := by
  have h1 : l.length - 1 - j < l.length := by omega
  rw [show l.length - (j + 1) = l.length - 1 - j by omega, List.drop_eq_getElem_cons h1, show l.length - 1 - j + 1 = l.length - j by omega]
  simp only [le, List.getD_eq_getElem?_getD, List.getElem?_eq_getElem h1, Option.getD_some]
  omega

set_option maxHeartbeats 1000000 in
set_option maxRecDepth 10000 in
theorem get_any (sa : Option Addr) (n cap : Nat) (l : List UInt8) (w : World) (hl : Sl w sa n cap (BV l)) (hn : n ≤ 8) :
    Calls Try.prog 63 #[.slice sa n cap] w fun e w' => e = .returned (.int .u64 (le l : Int)) ∧ Keeps (fun _ => False) w w' := by
  have hll : l.length = n := by have := hl.len; simpa using this
  have hbo : ∃ b off, 0 < n → sa = some ⟨b, off, none⟩ ∧ b < w.heap.size := by
    by_cases h0 : 0 < n
    · obtain ⟨b, off, rfl⟩ := hl.isSome h0
      exact ⟨b, off, fun _ => ⟨rfl, blk_lt hl rfl h0⟩⟩
    · exact ⟨0, 0, fun h => (h0 h).elim⟩
  obtain ⟨b, off, hbo⟩ := hbo
  have HL := Lib.hid (And.intro hl (And.intro hll hbo))
  clear hl hll hbo
  refine (callsIn_wide (n := 0)).1 ?_
  refine callsIn_of_wp_marks Try.func63 rfl trivial ?_ rfl
  simp only [Try.ntmps63, List.size_toArray, List.length_cons, List.length_nil, Nat.reduceAdd, Nat.reduceSub, Array.replicate_succ, Array.replicate_zero, List.push_toArray, List.append_toArray, List.nil_append, List.cons_append]
  gi_wp2_with fail
  refine ⟨trivial, rfl, (callsIn_wide.2 (backward_any sa n cap _)).mono ?_⟩
  rintro e _ ⟨rfl, rfl⟩
  gi_wp2_with fail
  obtain ⟨nb, hnb⟩ : ∃ g, w.heap.size = g := ⟨_, rfl⟩
  obtain ⟨W0, hW0⟩ : ∃ W0, (w.alloc (.cells #[.int .u64 0] 39)).alloc (.cells #[.slice sa n cap] 23) = W0 := ⟨_, rfl⟩
  have hk0 : Keeps (fun _ => False) w W0 := by rw [← hW0]; exact ((Keeps.refl _ w).alloc _).alloc _
  have hsz : W0.heap.size = nb + 2 := by rw [← hW0, ← hnb]; simp
  have q0 : W0.heap[nb]? = some (.cells #[.int .u64 0] 39 (0, 0)) := by
    rw [← hW0, ← hnb]; exact (Below.heap_alloc _ _ _ (by simp)).trans (World.alloc_heap_new w _)
  have q1 : W0.heap[nb + 1]? = some (.cells #[.slice sa n cap] 23 (0, 0)) := by
    rw [← hW0, ← hnb]
    have := World.alloc_heap_new (w.alloc (.cells #[.int .u64 0] 39)) (.cells #[.slice sa n cap] 23)
    rwa [World.size_alloc] at this
  have hseq := backward_seq (nb + 1) b off n cap sa l W0 (by omega) (HL.out.1.quiet hk0) (fun h => (HL.out.2.2 h).1) q1
  rw [hW0, hnb]
  have HB := Lib.hid (And.intro hnb (fun h => (HL.out.2.2 h).2))
  clear hW0 hnb q1
  refine wpIn_seq (gf := 85) (lb := #[.pointer (some ⟨nb + 1, 0, none⟩)]) (xs := bws l) (m := 0) (T := fun _ => False) (Rd := fun k => k = nb + 1 ∨ (0 < n ∧ k = b)) rfl (enters_of Try.func85 (by kernel_rfl) rfl) hseq
    (by
      rintro k (h | ⟨h1, h2⟩)
      · omega
      · have := HB.out.2 h1; have := HB.out.1; omega) (fun _ h => h.elim) ?hps
    (fun i W => W.heap[nb]? = some (.cells #[.int .u64 (le (l.drop (n - i)) : Int)] 39 (0, 0)) ∧ Keeps (fun _ => False) w W)
    (fun k => k = nb) ?hB ?hI ⟨by rw [q0, List.drop_of_length_le (by have := HL.out.2.1; omega)]; rfl, hk0⟩
    (fun x => { tmps := #[.slice sa n cap, undef, .int .u64 0, .pointer (some ⟨nb, 0, none⟩), undef, x.getD 1 undef, .slice sa n cap, .func (.func 85) #[] #[.pointer (some ⟨nb + 1, 0, none⟩)], x.getD 0 undef, x.getD 1 undef, undef, undef, undef, undef, undef, undef], defers := [] }) ?assign ?body ?done
  case hps =>
    intro x hx
    simp only [bws, List.mem_map] at hx
    obtain ⟨j, _, rfl⟩ := hx
    rfl
  case hB =>
    rintro k rfl
    have hb := HB.out.1
    refine ⟨?_, by omega⟩
    rintro (h | ⟨h1, h2⟩)
    · omega
    · have := HB.out.2 h1; omega
  case hI =>
    rintro i A A' ⟨h1, h2⟩ hk
    have hb := HB.out.1
    have hk' : Keeps (fun k => nb + 2 ≤ k) A A' := hk.mono (fun k _ h => by rcases h with h | h; exact h.elim; omega)
    exact ⟨(hk'.block nb (lt_of_heap h1) (by omega)).trans h1, h2.trans hk' (fun k hk h => by omega)⟩
  case assign =>
    intro l2 x Wx K hx hK
    simp only [bws, List.mem_map] at hx
    obtain ⟨j, _, rfl⟩ := hx
    unfold bwAt at hK ⊢
    gi_wp2
    exact hK
  case body =>
    rintro l2 j x Wx hx ⟨h1, h2⟩ hsx
    have hj : j < n := by have := (List.getElem?_eq_some_iff.1 hx).1; rw [bws_length] at this; have := HL.out.2.1; omega
    have hll := HL.out.2.1
    obtain rfl : bwAt l j = x := by rw [bws_get l j (by omega)] at hx; exact Option.some.inj hx
    have hst := le_step l j (by omega)
    have hacc := le_lt (l.drop (n - j))
    have hdl : (l.drop (n - j)).length = j := by rw [List.length_drop]; omega
    have hp7 : 256 ^ (l.drop (n - j)).length ≤ 72057594037927936 := by rw [hdl]; exact Nat.le_trans (Nat.pow_le_pow_right (by decide) (show j ≤ 7 by omega)) (by decide)
    rw [hll] at hst
    obtain ⟨y, hy⟩ : ∃ y, (l.getD (n - 1 - j) 0).toNat = y := ⟨_, rfl⟩
    have hyl : y < 256 := by rw [← hy]; exact UInt8.toNat_lt _
    obtain ⟨a, ha⟩ : ∃ a, le (l.drop (n - j)) = a := ⟨_, rfl⟩
    rw [ha] at hst hacc h1
    rw [hy] at hst
    have hor := or_low a y hyl (by omega)
    have e1 : IntKind.u64.wrap ((a : Int) * 256) = ((a * 256 : Nat) : Int) := by rw [IntKind.wrap_u64]; omega
    have e2 : IntKind.u64.wrap (y : Int) = (y : Int) := wrap_nat _ _ rfl (by omega)
    have c1 := cellAt h1 0
    simp at c1
    have c2 := freeAt h1 0
    have HF : Hid (∀ ac, goesOn (fun k => k = nb) (fun i W => W.heap[nb]? = some (.cells #[.int .u64 (le (l.drop (n - i)) : Int)] 39 (0, 0)) ∧ Keeps (fun _ => False) w W) j Wx .normal ac (Wx.setCell ⟨nb, 0, none⟩ (.int .u64 ((a * 256 + y : Nat) : Int)))) := by
      intro ac
      have h7 : Keeps (fun k => k = nb) Wx (Wx.setCell ⟨nb, 0, none⟩ (.int .u64 ((a * 256 + y : Nat) : Int))) := (Keeps.refl (fun k => k = nb) Wx).setCell (p := ⟨nb, 0, none⟩) (fun _ => rfl) _
      refine ⟨h7, ?_, h2.trans h7 (fun k hk e => by have := HB.out.1; omega)⟩
      rw [heap_setCell_at h1, hst]
      rfl
    obtain ⟨z, hz⟩ : ∃ z, a * 256 + y = z := ⟨_, rfl⟩
    rw [hz] at hor HF
    obtain ⟨a2, ha2⟩ : ∃ a2, a * 256 = a2 := ⟨_, rfl⟩
    rw [ha2] at hor e1
    unfold bwAt
    rw [hll, hy]
    clear hst hacc hdl hp7 hy ha h1 h2 hx hz ha2 hseq q0 hsz hk0
    gi_wp2
    exact HF.out _
  case done =>
    rintro W ⟨h1, h2⟩ hsW hK
    rw [bws_length, HL.out.2.1, Nat.sub_self, List.drop_zero] at h1
    have c1 := cellAt h1 0
    simp at c1
    have HK := Lib.hid hK
    have HF : Hid (Keeps (fun _ => False) w (W.putObj W0.heap.size (.deferred none))) := h2.putObj _ (fun h => by have := hk0.size; omega)
    clear h1 h2 hseq q0 hsz hk0
    gi_wp2
    refine ⟨by simp, .inl ⟨_, _, rfl, run_takeDeferred HK.out, ?_⟩⟩
    exact ⟨_, results_tmp rfl _ _ _, rfl, HF.out⟩
end Go.Proofs.Ytpojkhjenbbodaa

namespace Go.Proofs.Ytpojkhjenbbodaa
open Go.RowKit

def sRecord : List UInt8 := [114, 101, 99, 111, 114, 100]
def sKeys : List UInt8 := [107, 101, 121, 115]
def recSum (b : List UInt8) : List UInt8 := putB (hby sRecord b) 8
def keySum (t : Nat) (b : List UInt8) : List UInt8 := putB (hof sKeys [t, hby sKeys b]) 8
def recF (b : List UInt8) : List UInt8 := putB (b.length + 1) 2 ++ b ++ recSum b
def keyF (t : Nat) (b : List UInt8) : List UInt8 := putB (b.length + 1) 2 ++ putB t 4 ++ b ++ keySum t b
theorem recSum_length (b : List UInt8) : (recSum b).length = 8 := putB_length _ _
theorem keySum_length (t : Nat) (b : List UInt8) : (keySum t b).length = 8 := putB_length _ _
theorem recF_length (b : List UInt8) : (recF b).length = b.length + 10 := by simp [recF, putB_length, recSum_length]; omega
theorem keyF_length (t : Nat) (b : List UInt8) : (keyF t b).length = b.length + 14 := by simp [keyF, putB_length, keySum_length]; omega

theorem lies_vals (w : World) (vs : List Value) (n : Nat) (t : TypeId) (h : vs.length = n) (hn : n ≤ 1000000) (fr : Nat × Nat) : Sl (w.alloc (.cells vs.toArray t fr)) (some ⟨w.heap.size, 0, none⟩) n n vs :=
  ⟨h, Nat.le_refl _, by omega, fun h => by simp at h, fun _ ad e => ⟨_, _, by cases e; rfl⟩, fun ad e j u hu => by
    cases e
    rw [addr_add, Nat.zero_add, cellAt (World.alloc_heap_new w _)]
    simpa using hu⟩
theorem u64_small (n : Nat) (h : n ≤ 1000000000) : U64 n := by unfold U64; omega

set_option maxHeartbeats 1000000 in
theorem recSum_any (sx : Option Addr) (nx cx : Nat) (sa : Option Addr) (n cap : Nat) (l : List UInt8) (w : World) (hl : Sl w sa n cap (BV l)) (hn : n ≤ 1000000) :
    Calls Try.prog 58 #[.slice sx nx cx, .slice sa n cap] w fun e w' => ∃ sb, e = .returned (.slice sb 8 8) ∧ w'.ownsRow w.heap.size 5 1 (.slice sb 8 8) 8 (BV (recSum l)) ∧ Keeps (fun _ => False) w w' := by
  have HS := Lib.hid hl
  have hlt := hby_lt sRecord l
  obtain ⟨X, hX⟩ : ∃ X, hby sRecord l = X := ⟨_, rfl⟩
  have hX2 : hby (⟨#[114, 101, 99, 111, 114, 100]⟩ : ByteArray).data.toList l = X := hX
  have HX := Lib.hid (And.intro hX hX2)
  rw [hX] at hlt
  clear hl hX hX2
  go_enter Try.func58, Try.ntmps58
  go_wp2_with fail
  refine (bytes_any ⟨#[114, 101, 99, 111, 114, 100]⟩ sa n cap l w (by decide) (by omega) HS.out).mono ?_
  rw [HX.out.2]
  rintro e w1 ⟨rfl, hk⟩
  have HK := Lib.hid hk
  clear hk
  go_wp2_with fail
  refine (put_any X 8 w1 (by unfold U64; omega) (by omega)).mono ?_
  rintro e w2 ⟨sb, rfl, hown, hk⟩
  have HF := Lib.hid (And.intro hown (HK.out.quiet hk))
  have hsz := HK.out.size
  clear hown hk
  go_wp2
  go_ret
  unfold recSum
  rw [HX.out.1]
  exact ⟨sb, rfl, own_base HF.out.1 (fun k e => by have := (HF.out.1.lt k e).1; omega), HF.out.2⟩

set_option maxHeartbeats 1000000 in
theorem keysSum_any (t : Nat) (sa : Option Addr) (n cap : Nat) (l : List UInt8) (w : World) (ht : U64 t) (hl : Sl w sa n cap (BV l)) (hn : n ≤ 1000000) :
    Calls Try.prog 62 #[.int .u64 (t : Int), .slice sa n cap] w fun e w' => ∃ sb, e = .returned (.slice sb 8 8) ∧ w'.ownsRow w.heap.size 5 1 (.slice sb 8 8) 8 (BV (keySum t l)) ∧ Keeps (fun _ => False) w w' := by
  have HS := Lib.hid hl
  have hlt := hby_lt sKeys l
  obtain ⟨X, hX⟩ : ∃ X, hby sKeys l = X := ⟨_, rfl⟩
  have hX2 : hby (⟨#[107, 101, 121, 115]⟩ : ByteArray).data.toList l = X := hX
  rw [hX] at hlt
  have hlt2 := hof_lt sKeys [t, X]
  obtain ⟨Y, hY⟩ : ∃ Y, hof sKeys [t, X] = Y := ⟨_, rfl⟩
  have hY2 : hof (⟨#[107, 101, 121, 115]⟩ : ByteArray).data.toList [t, X] = Y := hY
  have HX := Lib.hid (And.intro hX (And.intro hX2 (And.intro hY hY2)))
  rw [hY] at hlt2
  have HT := Lib.hid ht
  clear hl hX hX2 hY hY2 ht
  go_enter Try.func62, Try.ntmps62
  go_wp2_with fail
  refine (bytes_any ⟨#[107, 101, 121, 115]⟩ sa n cap l w (by decide) (by omega) HS.out).mono ?_
  rw [HX.out.2.1]
  rintro e w1 ⟨rfl, hk⟩
  have HK := Lib.hid hk
  clear hk
  go_wp2_with fail
  refine (of_two ⟨#[107, 101, 121, 115]⟩ t X w1 (by decide) HT.out (by unfold U64; omega)).mono ?_
  rw [HX.out.2.2.2]
  rintro e w2 ⟨rfl, hk⟩
  replace HK := Lib.hid (HK.out.quiet hk)
  clear hk
  go_wp2_with fail
  refine (put_any Y 8 w2 (by unfold U64; omega) (by omega)).mono ?_
  rintro e w3 ⟨sb, rfl, hown, hk⟩
  have HF := Lib.hid (And.intro hown (HK.out.quiet hk))
  have hsz := HK.out.size
  clear hown hk
  go_wp2
  go_ret
  unfold keySum
  rw [HX.out.1, HX.out.2.2.1]
  exact ⟨sb, rfl, own_base HF.out.1 (fun k e => by have := (HF.out.1.lt k e).1; omega), HF.out.2⟩

set_option maxHeartbeats 1000000 in
theorem keySum_any (sx : Option Addr) (nx cx : Nat) (x : List UInt8) (sa : Option Addr) (n cap : Nat) (l : List UInt8) (w : World) (hx : Sl w sx nx cx (BV x)) (hnx : nx ≤ 8) (hl : Sl w sa n cap (BV l)) (hn : n ≤ 1000000) :
    Calls Try.prog 61 #[.slice sx nx cx, .slice sa n cap] w fun e w' => ∃ sb, e = .returned (.slice sb 8 8) ∧ w'.ownsRow w.heap.size 5 1 (.slice sb 8 8) 8 (BV (keySum (le x) l)) ∧ Keeps (fun _ => False) w w' := by
  have HS := Lib.hid hl
  have HG := Lib.hid (get_any sx nx cx x w hx hnx)
  have hxl : x.length = nx := by have := hx.len; simpa using this
  have hle := le_lt x
  have hp : 256 ^ x.length ≤ 18446744073709551616 := by rw [hxl]; exact Nat.le_trans (Nat.pow_le_pow_right (by decide) hnx) (by decide)
  have hu : Hid (U64 (le x)) := by show U64 _; unfold U64; omega
  clear hx hl hxl hle hp
  generalize le x = t at *
  go_enter Try.func61, Try.ntmps61
  go_wp2_with fail
  refine HG.out.mono ?_
  rintro e w1 ⟨rfl, hk⟩
  have HK := Lib.hid hk
  replace HS := Lib.hid (HS.out.quiet hk)
  clear hk HG
  go_wp2_with fail
  refine (keysSum_any t sa n cap l w1 hu.out HS.out hn).mono ?_
  rintro e w2 ⟨sb, rfl, hown, hk⟩
  have HF := Lib.hid (And.intro hown (HK.out.quiet hk))
  have hsz := HK.out.size
  clear hown hk
  go_wp2
  go_ret
  exact ⟨sb, rfl, own_base HF.out.1 (fun k e => by have := (HF.out.1.lt k e).1; omega), HF.out.2⟩

set_option maxHeartbeats 1000000 in
theorem record_any (sa : Option Addr) (n cap : Nat) (l : List UInt8) (w : World) (hl : Sl w sa n cap (BV l)) (hn : n ≤ 100000) :
    Calls Try.prog 50 #[.slice sa n cap] w fun e w' => ∃ sb c, e = .returned (.slice sb (n + 10) c) ∧ w'.ownsRow w.heap.size 5 1 (.slice sb (n + 10) c) (n + 10) (BV (recF l)) ∧ Keeps (fun _ => False) w w' := by
  have hll : l.length = n := by have := hl.len; simpa using this
  have HS := Lib.hid hl
  have hlt := hby_lt sRecord l
  obtain ⟨X, hX⟩ : ∃ X, hby sRecord l = X := ⟨_, rfl⟩
  have hX2 : hby (⟨#[114, 101, 99, 111, 114, 100]⟩ : ByteArray).data.toList l = X := hX
  have HX := Lib.hid (And.intro hX (And.intro hX2 hll))
  rw [hX] at hlt
  have HP := Lib.hid (put_any (n + 1) 2 w (by unfold U64; omega) (by omega))
  have e1 : IntKind.u64.wrap ((n : Int) + 1) = ((n + 1 : Nat) : Int) := by rw [IntKind.wrap_u64]; omega
  clear hl hX hX2 hll
  go_enter Try.func50, Try.ntmps50
  go_wp2_with fail
  refine HP.out.mono ?_
  rintro e w1 ⟨s1, rfl, hown, hk⟩
  have HK := Lib.hid hk
  replace HS := Lib.hid (HS.out.quiet hk)
  have S1 := Lib.hid (Sl.of_own hown)
  clear hown hk HP
  go_wp2_with fail
  refine (bytes_any ⟨#[114, 101, 99, 111, 114, 100]⟩ sa n cap l w1 (by decide) (by omega) HS.out).mono ?_
  rw [HX.out.2.1]
  rintro e w2 ⟨rfl, hk⟩
  replace HK := Lib.hid (HK.out.quiet hk)
  replace HS := Lib.hid (HS.out.quiet hk)
  replace S1 := Lib.hid (S1.out.quiet hk)
  clear hk
  go_wp2_with fail
  refine (put_any X 8 w2 (by unfold U64; omega) (by omega)).mono ?_
  rintro e w3 ⟨s3, rfl, hown, hk⟩
  replace HK := Lib.hid (HK.out.quiet hk)
  replace HS := Lib.hid (HS.out.quiet hk)
  replace S1 := Lib.hid (S1.out.quiet hk)
  have S3 := Lib.hid (Sl.of_own hown)
  clear hown hk
  obtain ⟨w4, hw4⟩ : ∃ w4, w3.alloc (.cells #[.slice s1 2 2, .slice sa n cap, .slice s3 8 8] 23) = w4 := ⟨_, rfl⟩
  have hk : Keeps (fun _ => False) w3 w4 := by rw [← hw4]; exact (Keeps.refl _ w3).alloc _
  have hso : Sl w4 (some ⟨w3.heap.size, 0, none⟩) 3 3 [.slice s1 2 2, .slice sa n cap, .slice s3 8 8] := by rw [← hw4]; exact lies_vals w3 _ 3 _ rfl (by omega) _
  have hrs : RowsS w4 [.slice s1 2 2, .slice sa n cap, .slice s3 8 8] [putB (n + 1) 2, l, putB X 8] :=
    (((RowsS.nil w4).snoc (putB_length _ _) (S1.out.quiet hk)).snoc HX.out.2.2 (HS.out.quiet hk)).snoc (putB_length _ _) (S3.out.quiet hk)
  have hfl : [putB (n + 1) 2, l, putB X 8].flatten = recF l := by
    unfold recF recSum
    rw [HX.out.1, HX.out.2.2]
    simp
  have hlen : (recF l).length = n + 10 := by rw [recF_length, HX.out.2.2]
  have HC := Lib.hid (concat_any (some ⟨w3.heap.size, 0, none⟩) 3 3 _ _ w4 hso hrs (by omega) (by omega) (by rw [hfl, hlen]; omega) (by rw [hfl, hlen]; omega))
  rw [hfl, hlen] at HC
  replace HK := Lib.hid (HK.out.quiet hk)
  have hsz := HK.out.size
  clear hk hso hrs hfl hlen
  go_wp2_with fail
  refine HC.out.mono ?_
  rintro e w5 ⟨s5, c5, rfl, hown, hk⟩
  have HF := Lib.hid (And.intro hown (HK.out.quiet hk))
  clear hown hk HC hw4
  go_wp2
  go_ret
  exact ⟨s5, c5, rfl, own_base HF.out.1 (fun k e => by have := (HF.out.1.lt k e).1; omega), HF.out.2⟩

set_option maxHeartbeats 1000000 in
theorem keysFrame_any (t : Nat) (sa : Option Addr) (n cap : Nat) (l : List UInt8) (w : World) (ht : U64 t) (hl : Sl w sa n cap (BV l)) (hn : n ≤ 100000) :
    Calls Try.prog 51 #[.int .u64 (t : Int), .slice sa n cap] w fun e w' => ∃ sb c, e = .returned (.slice sb (n + 14) c) ∧ w'.ownsRow w.heap.size 5 1 (.slice sb (n + 14) c) (n + 14) (BV (keyF t l)) ∧ Keeps (fun _ => False) w w' := by
  have hll : l.length = n := by have := hl.len; simpa using this
  have HS := Lib.hid hl
  have HX := Lib.hid (And.intro hll ht)
  have HP := Lib.hid (put_any (n + 1) 2 w (by unfold U64; omega) (by omega))
  have e1 : IntKind.u64.wrap ((n : Int) + 1) = ((n + 1 : Nat) : Int) := by rw [IntKind.wrap_u64]; omega
  clear hl hll ht
  go_enter Try.func51, Try.ntmps51
  go_wp2_with fail
  refine HP.out.mono ?_
  rintro e w1 ⟨s1, rfl, hown, hk⟩
  have HK := Lib.hid hk
  replace HS := Lib.hid (HS.out.quiet hk)
  have S1 := Lib.hid (Sl.of_own hown)
  clear hown hk HP
  go_wp2_with fail
  refine (put_any t 4 w1 HX.out.2 (by omega)).mono ?_
  rintro e w2 ⟨s2, rfl, hown, hk⟩
  replace HK := Lib.hid (HK.out.quiet hk)
  replace HS := Lib.hid (HS.out.quiet hk)
  replace S1 := Lib.hid (S1.out.quiet hk)
  have S2 := Lib.hid (Sl.of_own hown)
  clear hown hk
  go_wp2_with fail
  refine (keysSum_any t sa n cap l w2 HX.out.2 HS.out (by omega)).mono ?_
  rintro e w3 ⟨s3, rfl, hown, hk⟩
  replace HK := Lib.hid (HK.out.quiet hk)
  replace HS := Lib.hid (HS.out.quiet hk)
  replace S1 := Lib.hid (S1.out.quiet hk)
  replace S2 := Lib.hid (S2.out.quiet hk)
  have S3 := Lib.hid (Sl.of_own hown)
  clear hown hk
  obtain ⟨w4, hw4⟩ : ∃ w4, w3.alloc (.cells #[.slice s1 2 2, .slice s2 4 4, .slice sa n cap, .slice s3 8 8] 23) = w4 := ⟨_, rfl⟩
  have hk : Keeps (fun _ => False) w3 w4 := by rw [← hw4]; exact (Keeps.refl _ w3).alloc _
  have hso : Sl w4 (some ⟨w3.heap.size, 0, none⟩) 4 4 [.slice s1 2 2, .slice s2 4 4, .slice sa n cap, .slice s3 8 8] := by rw [← hw4]; exact lies_vals w3 _ 4 _ rfl (by omega) _
  have hrs : RowsS w4 [.slice s1 2 2, .slice s2 4 4, .slice sa n cap, .slice s3 8 8] [putB (n + 1) 2, putB t 4, l, keySum t l] :=
    ((((RowsS.nil w4).snoc (putB_length _ _) (S1.out.quiet hk)).snoc (putB_length _ _) (S2.out.quiet hk)).snoc HX.out.1 (HS.out.quiet hk)).snoc (keySum_length _ _) (S3.out.quiet hk)
  have hfl : [putB (n + 1) 2, putB t 4, l, keySum t l].flatten = keyF t l := by
    unfold keyF
    rw [HX.out.1]
    simp
  have hlen : (keyF t l).length = n + 14 := by rw [keyF_length, HX.out.1]
  have HC := Lib.hid (concat_any (some ⟨w3.heap.size, 0, none⟩) 4 4 _ _ w4 hso hrs (by omega) (by omega) (by rw [hfl, hlen]; omega) (by rw [hfl, hlen]; omega))
  rw [hfl, hlen] at HC
  replace HK := Lib.hid (HK.out.quiet hk)
  have hsz := HK.out.size
  clear hk hso hrs hfl hlen
  go_wp2_with fail
  refine HC.out.mono ?_
  rintro e w5 ⟨s5, c5, rfl, hown, hk⟩
  have HF := Lib.hid (And.intro hown (HK.out.quiet hk))
  clear hown hk HC hw4
  go_wp2
  go_ret
  exact ⟨s5, c5, rfl, own_base HF.out.1 (fun k e => by have := (HF.out.1.lt k e).1; omega), HF.out.2⟩
end Go.Proofs.Ytpojkhjenbbodaa

namespace Go.Proofs.Ytpojkhjenbbodaa
open Go.RowKit

theorem Sl.from_ {w : World} {b off n cap : Nat} {xs : List Value} (h : Sl w (some ⟨b, off, none⟩) n cap xs) {k : Nat} (hk : k ≤ n) : Sl w (some ⟨b, off + k, none⟩) (n - k) (cap - k) (xs.drop k) := by
  have hl := h.len
  have hle := h.le
  have hc := h.capB
  refine ⟨by rw [List.length_drop]; omega, by omega, by omega, (fun e => by cases e), (fun _ ad e => ⟨b, off + k, by cases e; rfl⟩), fun ad e j u hu => ?_⟩
  cases e
  rw [List.getElem?_drop] at hu
  have := h.lies _ rfl _ u hu
  rw [addr_add] at this ⊢
  rwa [Nat.add_assoc]
/-- So many bytes from a place on. -/
def cut (l : List UInt8) (i k : Nat) : List UInt8 := (l.drop i).take k
theorem cut_length (l : List UInt8) (i k : Nat) (h : i + k ≤ l.length) : (cut l i k).length = k := by unfold cut; rw [List.length_take, List.length_drop]; omega
theorem Sl.cut {w : World} {b off n cap : Nat} {l : List UInt8} (h : Sl w (some ⟨b, off, none⟩) n cap (BV l)) {i k : Nat} (hk : i + k ≤ n) : Sl w (some ⟨b, off + i, none⟩) k (cap - i) (BV (cut l i k)) := by
  have := (h.from_ (k := i) (by omega)).upto (k := k) (by omega)
  rw [BV_drop, BV_take] at this
  exact this
theorem Sl.empty (w : World) (ad : Addr) (c : Nat) (h : c ≤ 9223372036854775807) : Sl w (some ad) 0 c [] := ⟨rfl, Nat.zero_le _, h, (fun h => by cases h), (fun h => by omega), fun _ _ j u hu => by simp at hu⟩

theorem reader_any (sa : Option Addr) (n cap : Nat) (w : World) :
    Calls Try.prog 56 #[.slice sa n cap] w fun e w' => e = .returned (.tuple #[.func (.func 72) #[] #[.pointer (some ⟨w.heap.size, 0, none⟩), .pointer (some ⟨w.heap.size + 1, 0, none⟩)], .func (.func 73) #[] #[.pointer (some ⟨w.heap.size + 1, 0, none⟩)]]) ∧
      w' = (w.alloc (.cells #[.slice sa n cap] 23)).alloc (.cells #[.int .i64 0] 3) := by
  go_enter Try.func56, Try.ntmps56
  go_wp2
  go_ret2
  exact ⟨by simp, rfl⟩

theorem at_any (bf fr : Nat) (w : World) (q2 : w.heap[bf]? = some (.cells #[.int .i64 (fr : Int)] 3 (0, 0))) :
    Calls Try.prog 73 #[.pointer (some ⟨bf, 0, none⟩)] w fun e w' => e = .returned (.int .i64 (fr : Int)) ∧ w = w' := by
  have c2 := cellAt q2 0
  simp at c2
  clear q2
  go_enter Try.func73, Try.ntmps73
  go_wp2
  go_ret
  exact ⟨rfl, rfl⟩

set_option maxHeartbeats 1000000 in
set_option maxRecDepth 10000 in
theorem take_no (bb bf n cap fr k : Nat) (sa : Option Addr) (w : World) (q1 : w.heap[bb]? = some (.cells #[.slice sa n cap] 23 (0, 0))) (q2 : w.heap[bf]? = some (.cells #[.int .i64 (fr : Int)] 3 (0, 0))) (hfn : fr ≤ n) (_hn : n ≤ 1000000000) (hk : n < fr + k) (hkb : k ≤ 1000000000) :
    Calls Try.prog 72 #[.int .i64 (k : Int), .pointer (some ⟨bb, 0, none⟩), .pointer (some ⟨bf, 0, none⟩)] w fun e w' => e = .returned (.tuple #[.slice none 0 0, .bool false]) ∧ w = w' := by
  have c1 := cellAt q1 0
  have c2 := cellAt q2 0
  simp at c1 c2
  clear q1 q2
  have t0 : ¬ (k : Int) < 0 := by omega
  have t1 : (k : Int) > (n : Int) - (fr : Int) := by omega
  go_enter Try.func72, Try.ntmps72
  go_wp2
  go_ret2
  exact ⟨rfl, rfl⟩

set_option maxHeartbeats 1000000 in
set_option maxRecDepth 10000 in
theorem take_yes (bb bf b off n cap fr k : Nat) (l : List UInt8) (w : World) (q1 : w.heap[bb]? = some (.cells #[.slice (some ⟨b, off, none⟩) n cap] 23 (0, 0))) (q2 : w.heap[bf]? = some (.cells #[.int .i64 (fr : Int)] 3 (0, 0))) (hl : Sl w (some ⟨b, off, none⟩) n cap (BV l)) (hbf : bf ≠ b) (hbb : bf ≠ bb) (hn : n ≤ 1000000000) (hk : fr + k ≤ n) :
    Calls Try.prog 72 #[.int .i64 (k : Int), .pointer (some ⟨bb, 0, none⟩), .pointer (some ⟨bf, 0, none⟩)] w fun e w' => ∃ s c, e = .returned (.tuple #[.slice s k c, .bool true]) ∧ Sl w' s k c (BV (cut l fr k)) ∧ (∀ ad, s = some ad → ad.block = b) ∧ w'.heap[bf]? = some (.cells #[.int .i64 ((fr + k : Nat) : Int)] 3 (0, 0)) ∧ Keeps (fun x => x = bf) w w' := by
  have c1 := cellAt q1 0
  have c2 := cellAt q2 0
  have c3 := freeAt q2 0
  simp at c1 c2
  have hle := hl.le
  have hcb := hl.capB
  obtain ⟨w1, hw1⟩ : ∃ w1, w.setCell ⟨bf, 0, none⟩ (.int .i64 ((fr + k : Nat) : Int)) = w1 := ⟨_, rfl⟩
  have hk1 : Keeps (fun x => x = bf) w w1 := by rw [← hw1]; exact (Keeps.refl (fun x => x = bf) w).setCell (p := ⟨bf, 0, none⟩) (fun _ => rfl) _
  have q3 : w1.heap[bf]? = some (.cells #[.int .i64 ((fr + k : Nat) : Int)] 3 (0, 0)) := by rw [← hw1, heap_setCell_at q2]; rfl
  have hl1 : Sl w1 (some ⟨b, off, none⟩) n cap (BV l) := hl.keep hk1 (fun ad e _ _ h => by cases e; exact hbf h.symm)
  have d1 : w1.cell? ⟨bb, 0, none⟩ = some (.slice (some ⟨b, off, none⟩) n cap) := by
    rw [hk1.cell (World.block_lt_of_cell? w _ c1) (fun h => hbb h.symm)]; exact c1
  have d2 := cellAt q3 0
  simp at d2
  have hll : l.length = n := by have := hl.len; simpa using this
  have H := Lib.hid (And.intro hl1 (And.intro q3 (And.intro hk1 hll)))
  clear q1 q2 hl hbf hbb hk1 q3 hl1 hll
  have t0 : ¬ (k : Int) < 0 := by omega
  have t1 : ¬ (k : Int) > (n : Int) - (fr : Int) := by omega
  obtain ⟨j, hj⟩ : ∃ j, fr + k = j := ⟨_, rfl⟩
  rw [hj] at hw1 H ⊢
  have e1 : (fr : Int) + (k : Int) = (j : Int) := by omega
  have e2 : (j : Int) - (k : Int) = (fr : Int) := by omega
  have t2 : (0 : Int) ≤ (fr : Int) := by omega
  have t3 : (fr : Int) ≤ (j : Int) := by omega
  have t4 : (j : Int) ≤ (cap : Int) := by omega
  have e3 : j - fr = k := by omega
  by_cases hcf : cap = fr
  · have hk0 : k = 0 := by omega
    have hn0 : n = fr := by omega
    have HF : Hid (∀ (ad : Addr) (c : Nat), c ≤ 9223372036854775807 → Sl w1 (some ad) 0 c (BV (cut l fr 0))) := fun ad c hc => by
      have : cut l fr 0 = [] := by simp [cut]
      rw [this]
      exact Sl.empty w1 ad c hc
    have HJ := Lib.hid hj
    subst hk0
    clear hn0
    have hjf : j = fr := by omega
    subst hjf
    subst hcf
    clear hj e1 e2 e3 t0
    go_enter Try.func72, Try.ntmps72
    go_wp2
    go_ret2
    exact ⟨_, _, rfl, HF.out _ _ (by omega), (fun ad e => by cases e; rfl), H.out.2.1, H.out.2.2.1⟩
  · have t5 : ¬ cap = fr := hcf
    clear hcf hj
    go_enter Try.func72, Try.ntmps72
    go_wp2
    go_ret2
    exact ⟨_, _, rfl, H.out.1.cut (by omega), (fun ad e => by cases e; rfl), H.out.2.1, H.out.2.2.1⟩

/-- A reader: its bytes, and how far it is. -/
structure RdAt (w : World) (bb bf b off n cap : Nat) (l : List UInt8) (fr : Nat) : Prop where
  bytes : w.heap[bb]? = some (.cells #[.slice (some ⟨b, off, none⟩) n cap] 23 (0, 0))
  far : w.heap[bf]? = some (.cells #[.int .i64 (fr : Int)] 3 (0, 0))
  sl : Sl w (some ⟨b, off, none⟩) n cap (BV l)
  nb : bf ≠ b
  nbb : bf ≠ bb
  small : n ≤ 1000000
  le : fr ≤ n
theorem RdAt.quiet {w w' : World} {bb bf b off n cap : Nat} {l : List UInt8} {fr : Nat} (h : RdAt w bb bf b off n cap l fr) (hk : Keeps (fun _ => False) w w') : RdAt w' bb bf b off n cap l fr :=
  ⟨(hk.block bb (lt_of_heap h.bytes) (fun h => h)).trans h.bytes, (hk.block bf (lt_of_heap h.far) (fun h => h)).trans h.far, h.sl.quiet hk, h.nb, h.nbb, h.small, h.le⟩
theorem RdAt.no {w : World} {bb bf b off n cap : Nat} {l : List UInt8} {fr : Nat} (h : RdAt w bb bf b off n cap l fr) {k : Nat} (hk : n < fr + k) (hkb : k ≤ 1000000000) :
    Calls Try.prog 72 #[.int .i64 (k : Int), .pointer (some ⟨bb, 0, none⟩), .pointer (some ⟨bf, 0, none⟩)] w fun e w' => e = .returned (.tuple #[.slice none 0 0, .bool false]) ∧ w = w' :=
  take_no bb bf n cap fr k _ w h.bytes h.far h.le (by have := h.small; omega) hk hkb
theorem RdAt.yes {w : World} {bb bf b off n cap : Nat} {l : List UInt8} {fr : Nat} (h : RdAt w bb bf b off n cap l fr) {k : Nat} (hk : fr + k ≤ n) :
    Calls Try.prog 72 #[.int .i64 (k : Int), .pointer (some ⟨bb, 0, none⟩), .pointer (some ⟨bf, 0, none⟩)] w fun e w' => ∃ s c, e = .returned (.tuple #[.slice s k c, .bool true]) ∧ Sl w' s k c (BV (cut l fr k)) ∧ (∀ ad, s = some ad → ad.block = b) ∧ RdAt w' bb bf b off n cap l (fr + k) ∧ Keeps (fun x => x = bf) w w' :=
  (take_yes bb bf b off n cap fr k l w h.bytes h.far h.sl h.nb h.nbb (by have := h.small; omega) hk).mono fun e w' ⟨s, c, h1, h2, h0, h3, h4⟩ => ⟨s, c, h1, h2, h0,
    ⟨(h4.block bb (lt_of_heap h.bytes) (fun e => h.nbb e.symm)).trans h.bytes, h3, h.sl.keep h4 (fun ad e _ _ x => by cases e; exact h.nb x.symm), h.nb, h.nbb, h.small, hk⟩, h4⟩

/-- What a frame holds that begins at a place: what stands between, its bytes, where it ends. -/
def parse (btw : Nat) (sm : List UInt8 → List UInt8 → List UInt8) (l : List UInt8) (fr : Nat) : Option (List UInt8 × List UInt8 × Nat) :=
  if l.length < fr + 2 ∨ le (cut l fr 2) = 0 then none
  else if l.length < fr + 2 + btw + (le (cut l fr 2) - 1) + 8 then none
  else if cut l (fr + 2 + btw + (le (cut l fr 2) - 1)) 8 = sm (cut l (fr + 2) btw) (cut l (fr + 2 + btw) (le (cut l fr 2) - 1)) then
    some (cut l (fr + 2) btw, cut l (fr + 2 + btw) (le (cut l fr 2) - 1), fr + 2 + btw + (le (cut l fr 2) - 1) + 8) else none
end Go.Proofs.Ytpojkhjenbbodaa

namespace Go.Proofs.Ytpojkhjenbbodaa
open Go.RowKit

def smRec (_ b : List UInt8) : List UInt8 := recSum b
def smKey (a b : List UInt8) : List UInt8 := keySum (le a) b

set_option maxHeartbeats 2000000 in
set_option maxRecDepth 10000 in
theorem frame_rec (bb bf b off n cap : Nat) (l : List UInt8) (fr : Nat) (w : World) (h : RdAt w bb bf b off n cap l fr) :
    Calls Try.prog 57 #[.func (.func 72) #[] #[.pointer (some ⟨bb, 0, none⟩), .pointer (some ⟨bf, 0, none⟩)], .int .i64 0, .func (.func 58) #[] #[]] w fun e w' =>
      ∃ s1 n1 c1 s2 n2 c2 t fr', e = .returned (.tuple #[.slice s1 n1 c1, .slice s2 n2 c2, .bool t]) ∧ RdAt w' bb bf b off n cap l fr' ∧ Keeps (fun x => x = bf) w w' ∧
        ((parse 0 smRec l fr = none ∧ t = false) ∨ ∃ x y, parse 0 smRec l fr = some (x, y, fr') ∧ t = true ∧ Sl w' s1 n1 c1 (BV x) ∧ Sl w' s2 n2 c2 (BV y)) := by
  have hll : l.length = n := by have := h.sl.len; simpa using this
  have hns := h.small
  have HR := Lib.hid h
  have HN0 := Lib.hid h.nb
  have hfn := h.le
  by_cases h2 : n < fr + 2
  · have hp : Hid (parse 0 smRec l fr = none) := by show _ = _; unfold parse; rw [if_pos (Or.inl (by omega))]
    have HC := Lib.hid (h.no h2 (by omega))
    clear h hll
    go_enter Try.func57, Try.ntmps57
    go_wp2_with fail
    refine HC.out.mono ?_
    rintro e _ ⟨rfl, rfl⟩
    clear HC
    go_wp2
    go_ret3
    exact ⟨_, _, _, _, _, _, _, fr, rfl, HR.out, Keeps.refl _ _, Or.inl ⟨hp.out, rfl⟩⟩
  · obtain ⟨K, hK⟩ : ∃ K, le (cut l fr 2) = K := ⟨_, rfl⟩
    have hcl := cut_length l fr 2 (by omega)
    have hKl := le_lt (cut l fr 2)
    rw [hK, hcl, show (256 : Nat) ^ 2 = 65536 from rfl] at hKl
    have HC := Lib.hid (h.yes (k := 2) (by omega))
    have hparse : Hid (parse 0 smRec l fr = if K = 0 then none else if n < fr + 2 + 0 + (K - 1) + 8 then none else if cut l (fr + 2 + 0 + (K - 1)) 8 = smRec (cut l (fr + 2) 0) (cut l (fr + 2 + 0) (K - 1)) then some (cut l (fr + 2) 0, cut l (fr + 2 + 0) (K - 1), fr + 2 + 0 + (K - 1) + 8) else none) := by
      show _ = _
      unfold parse
      rw [hK, hll]
      by_cases h0 : K = 0
      · rw [if_pos (Or.inr h0), if_pos h0]
      · rw [if_neg (by omega), if_neg h0]
    have HL := Lib.hid (And.intro hK hll)
    clear h hK hcl hll HR
    go_enter Try.func57, Try.ntmps57
    go_wp2_with fail
    refine HC.out.mono ?_
    rintro e w1 ⟨s0, c0, rfl, hs0, hb0, hr1, hk⟩
    have HR := Lib.hid hr1
    have HK := Lib.hid hk
    have S0 := Lib.hid hs0
    have HNB := Lib.hid hb0
    clear HC hs0 hr1 hk hb0
    have HG := Lib.hid (get_any s0 2 c0 _ w1 S0.out (by omega))
    rw [HL.out.1] at HG
    go_wp2_with fail
    refine HG.out.mono ?_
    rintro e w2 ⟨rfl, hk⟩
    replace HR := Lib.hid (HR.out.quiet hk)
    replace S0 := Lib.hid (S0.out.quiet hk)
    replace HK := Lib.hid (HK.out.trans hk (fun _ _ h => h.elim))
    clear hk HG
    by_cases hK0 : K = 0
    · have hp : Hid (parse 0 smRec l fr = none) := by show _ = _; rw [hparse.out, if_pos hK0]
      have e0 : ((K : Int) == 0) = true := by simp; omega
      clear hK0
      go_wp2
      go_ret3
      exact ⟨_, _, _, _, _, _, _, _, rfl, HR.out, HK.out, Or.inl ⟨hp.out, rfl⟩⟩
    · have e0 : ((K : Int) == 0) = false := by rw [beq_eq_false_iff_ne]; omega
      have hparse2 : Hid (parse 0 smRec l fr = if n < fr + 2 + 0 + (K - 1) + 8 then none else if cut l (fr + 2 + 0 + (K - 1)) 8 = smRec (cut l (fr + 2) 0) (cut l (fr + 2 + 0) (K - 1)) then some (cut l (fr + 2) 0, cut l (fr + 2 + 0) (K - 1), fr + 2 + 0 + (K - 1) + 8) else none) := by show _ = _; rw [hparse.out, if_neg hK0]
      clear hparse
      by_cases h4 : n < fr + 2 + 0
      · exfalso; omega
      · have HC := Lib.hid (HR.out.yes (k := 0) (by omega))
        go_wp2_with fail
        refine HC.out.mono ?_
        rintro e w3 ⟨s1, c1, rfl, hs1, hb1, hr1, hk⟩
        replace HR := Lib.hid hr1
        replace S0 := Lib.hid (S0.out.keep hk (fun ad e _ _ x => HN0.out (x.symm.trans (HNB.out ad e))))
        replace HK := Lib.hid (HK.out.trans hk (fun _ _ h => h))
        have S1 := Lib.hid hs1
        have HNB1 := Lib.hid hb1
        clear HC hs1 hr1 hk hb1
        have HG := Lib.hid (get_any s0 2 c0 _ w3 S0.out (by omega))
        rw [HL.out.1] at HG
        have e1 : IntKind.i64.wrap (K : Int) = (K : Int) := IntWalk.i64_in _ (by omega)
        obtain ⟨M, hM⟩ : ∃ M, K - 1 = M := ⟨_, rfl⟩
        have e2 : (K : Int) - 1 = (M : Int) := by omega
        go_wp2_with fail
        refine HG.out.mono ?_
        rintro e w4 ⟨rfl, hk⟩
        replace HR := Lib.hid (HR.out.quiet hk)
        replace S1 := Lib.hid (S1.out.quiet hk)
        replace HK := Lib.hid (HK.out.trans hk (fun _ _ h => h.elim))
        clear hk HG S0
        rw [hM] at hparse2
        by_cases h5 : n < fr + 2 + 0 + M
        · have hp : Hid (parse 0 smRec l fr = none) := by show _ = _; rw [hparse2.out, if_pos (by omega)]
          have HC := Lib.hid (HR.out.no (k := M) (by omega) (by omega))
          go_wp2_with fail
          refine HC.out.mono ?_
          rintro e _ ⟨rfl, rfl⟩
          clear HC
          go_wp2
          go_ret3
          exact ⟨_, _, _, _, _, _, _, _, rfl, HR.out, HK.out, Or.inl ⟨hp.out, rfl⟩⟩
        · have HC := Lib.hid (HR.out.yes (k := M) (by omega))
          go_wp2_with fail
          refine HC.out.mono ?_
          rintro e w5 ⟨s2, c2, rfl, hs2, hb2, hr1, hk⟩
          replace HR := Lib.hid hr1
          replace S1 := Lib.hid (S1.out.keep hk (fun ad e _ _ x => HN0.out (x.symm.trans (HNB1.out ad e))))
          replace HK := Lib.hid (HK.out.trans hk (fun _ _ h => h))
          have S2 := Lib.hid hs2
          have HNB2 := Lib.hid hb2
          clear HC hs2 hr1 hk hb2
          by_cases h6 : n < fr + 2 + 0 + M + 8
          · have hp : Hid (parse 0 smRec l fr = none) := by show _ = _; rw [hparse2.out, if_pos (by omega)]
            have HC := Lib.hid (HR.out.no (k := 8) (by omega) (by omega))
            go_wp2_with fail
            refine HC.out.mono ?_
            rintro e _ ⟨rfl, rfl⟩
            clear HC
            go_wp2
            go_ret3
            exact ⟨_, _, _, _, _, _, _, _, rfl, HR.out, HK.out, Or.inl ⟨hp.out, rfl⟩⟩
          · have hparse3 : Hid (parse 0 smRec l fr = if cut l (fr + 2 + 0 + M) 8 = smRec (cut l (fr + 2) 0) (cut l (fr + 2 + 0) M) then some (cut l (fr + 2) 0, cut l (fr + 2 + 0) M, fr + 2 + 0 + M + 8) else none) := by show _ = _; rw [hparse2.out, if_neg (by omega)]
            have HC := Lib.hid (HR.out.yes (k := 8) (by omega))
            go_wp2_with fail
            refine HC.out.mono ?_
            rintro e w6 ⟨s3, c3, rfl, hs3, hb3, hr1, hk⟩
            replace HR := Lib.hid hr1
            replace S1 := Lib.hid (S1.out.keep hk (fun ad e _ _ x => HN0.out (x.symm.trans (HNB1.out ad e))))
            replace S2 := Lib.hid (S2.out.keep hk (fun ad e _ _ x => HN0.out (x.symm.trans (HNB2.out ad e))))
            replace HK := Lib.hid (HK.out.trans hk (fun _ _ h => h))
            have S3 := Lib.hid hs3
            clear HC hs3 hr1 hk hb3
            have HC := Lib.hid (recSum_any s1 0 c1 s2 M c2 (cut l (fr + 2 + 0) M) w6 S2.out (by omega))
            go_wp2_with fail
            refine HC.out.mono ?_
            rintro e w7 ⟨s4, rfl, hown, hk⟩
            replace HR := Lib.hid (HR.out.quiet hk)
            replace S1 := Lib.hid (S1.out.quiet hk)
            replace S2 := Lib.hid (S2.out.quiet hk)
            replace S3 := Lib.hid (S3.out.quiet hk)
            replace HK := Lib.hid (HK.out.trans hk (fun _ _ h => h.elim))
            have S4 := Lib.hid (Sl.of_own hown)
            clear HC hown hk
            have HC := Lib.hid (equal_any s3 s4 8 8 c3 8 _ _ w7 S3.out S4.out)
            obtain ⟨v, hv⟩ : ∃ v, decide (cut l (fr + 2 + 0 + M) 8 = smRec (cut l (fr + 2) 0) (cut l (fr + 2 + 0) M)) = v := ⟨_, rfl⟩
            rw [show decide (cut l (fr + 2 + 0 + M) 8 = recSum (cut l (fr + 2 + 0) M)) = v from hv] at HC
            have HV := Lib.hid hv
            clear hv
            go_wp2_with fail
            refine HC.out.mono ?_
            rintro e _ ⟨rfl, rfl⟩
            clear HC
            go_wp2
            go_ret3
            refine ⟨_, _, _, _, _, _, _, _, rfl, HR.out, HK.out, ?_⟩
            cases v with
            | false => exact Or.inl ⟨by rw [hparse3.out, if_neg (of_decide_eq_false HV.out)], rfl⟩
            | true => exact Or.inr ⟨_, _, by rw [hparse3.out, if_pos (of_decide_eq_true HV.out)], rfl, S1.out, S2.out⟩

set_option maxHeartbeats 2000000 in
set_option maxRecDepth 10000 in
theorem frame_key (bb bf b off n cap : Nat) (l : List UInt8) (fr : Nat) (w : World) (h : RdAt w bb bf b off n cap l fr) :
    Calls Try.prog 57 #[.func (.func 72) #[] #[.pointer (some ⟨bb, 0, none⟩), .pointer (some ⟨bf, 0, none⟩)], .int .i64 4, .func (.func 61) #[] #[]] w fun e w' =>
      ∃ s1 n1 c1 s2 n2 c2 t fr', e = .returned (.tuple #[.slice s1 n1 c1, .slice s2 n2 c2, .bool t]) ∧ RdAt w' bb bf b off n cap l fr' ∧ Keeps (fun x => x = bf) w w' ∧
        ((parse 4 smKey l fr = none ∧ t = false) ∨ ∃ x y, parse 4 smKey l fr = some (x, y, fr') ∧ t = true ∧ Sl w' s1 n1 c1 (BV x) ∧ Sl w' s2 n2 c2 (BV y)) := by
  have hll : l.length = n := by have := h.sl.len; simpa using this
  have hns := h.small
  have HR := Lib.hid h
  have HN0 := Lib.hid h.nb
  have hfn := h.le
  by_cases h2 : n < fr + 2
  · have hp : Hid (parse 4 smKey l fr = none) := by show _ = _; unfold parse; rw [if_pos (Or.inl (by omega))]
    have HC := Lib.hid (h.no h2 (by omega))
    clear h hll
    go_enter Try.func57, Try.ntmps57
    go_wp2_with fail
    refine HC.out.mono ?_
    rintro e _ ⟨rfl, rfl⟩
    clear HC
    go_wp2
    go_ret3
    exact ⟨_, _, _, _, _, _, _, fr, rfl, HR.out, Keeps.refl _ _, Or.inl ⟨hp.out, rfl⟩⟩
  · obtain ⟨K, hK⟩ : ∃ K, le (cut l fr 2) = K := ⟨_, rfl⟩
    have hcl := cut_length l fr 2 (by omega)
    have hKl := le_lt (cut l fr 2)
    rw [hK, hcl, show (256 : Nat) ^ 2 = 65536 from rfl] at hKl
    have HC := Lib.hid (h.yes (k := 2) (by omega))
    have hparse : Hid (parse 4 smKey l fr = if K = 0 then none else if n < fr + 2 + 4 + (K - 1) + 8 then none else if cut l (fr + 2 + 4 + (K - 1)) 8 = smKey (cut l (fr + 2) 4) (cut l (fr + 2 + 4) (K - 1)) then some (cut l (fr + 2) 4, cut l (fr + 2 + 4) (K - 1), fr + 2 + 4 + (K - 1) + 8) else none) := by
      show _ = _
      unfold parse
      rw [hK, hll]
      by_cases h0 : K = 0
      · rw [if_pos (Or.inr h0), if_pos h0]
      · rw [if_neg (by omega), if_neg h0]
    have HL := Lib.hid (And.intro hK hll)
    clear h hK hcl hll HR
    go_enter Try.func57, Try.ntmps57
    go_wp2_with fail
    refine HC.out.mono ?_
    rintro e w1 ⟨s0, c0, rfl, hs0, hb0, hr1, hk⟩
    have HR := Lib.hid hr1
    have HK := Lib.hid hk
    have S0 := Lib.hid hs0
    have HNB := Lib.hid hb0
    clear HC hs0 hr1 hk hb0
    have HG := Lib.hid (get_any s0 2 c0 _ w1 S0.out (by omega))
    rw [HL.out.1] at HG
    go_wp2_with fail
    refine HG.out.mono ?_
    rintro e w2 ⟨rfl, hk⟩
    replace HR := Lib.hid (HR.out.quiet hk)
    replace S0 := Lib.hid (S0.out.quiet hk)
    replace HK := Lib.hid (HK.out.trans hk (fun _ _ h => h.elim))
    clear hk HG
    by_cases hK0 : K = 0
    · have hp : Hid (parse 4 smKey l fr = none) := by show _ = _; rw [hparse.out, if_pos hK0]
      have e0 : ((K : Int) == 0) = true := by simp; omega
      clear hK0
      go_wp2
      go_ret3
      exact ⟨_, _, _, _, _, _, _, _, rfl, HR.out, HK.out, Or.inl ⟨hp.out, rfl⟩⟩
    · have e0 : ((K : Int) == 0) = false := by rw [beq_eq_false_iff_ne]; omega
      have hparse2 : Hid (parse 4 smKey l fr = if n < fr + 2 + 4 + (K - 1) + 8 then none else if cut l (fr + 2 + 4 + (K - 1)) 8 = smKey (cut l (fr + 2) 4) (cut l (fr + 2 + 4) (K - 1)) then some (cut l (fr + 2) 4, cut l (fr + 2 + 4) (K - 1), fr + 2 + 4 + (K - 1) + 8) else none) := by show _ = _; rw [hparse.out, if_neg hK0]
      clear hparse
      by_cases h4 : n < fr + 2 + 4
      · have hp : Hid (parse 4 smKey l fr = none) := by show _ = _; rw [hparse2.out, if_pos (by omega)]
        have HC := Lib.hid (HR.out.no (k := 4) (by omega) (by omega))
        go_wp2_with fail
        refine HC.out.mono ?_
        rintro e _ ⟨rfl, rfl⟩
        clear HC
        go_wp2
        go_ret3
        exact ⟨_, _, _, _, _, _, _, _, rfl, HR.out, HK.out, Or.inl ⟨hp.out, rfl⟩⟩
      · have HC := Lib.hid (HR.out.yes (k := 4) (by omega))
        go_wp2_with fail
        refine HC.out.mono ?_
        rintro e w3 ⟨s1, c1, rfl, hs1, hb1, hr1, hk⟩
        replace HR := Lib.hid hr1
        replace S0 := Lib.hid (S0.out.keep hk (fun ad e _ _ x => HN0.out (x.symm.trans (HNB.out ad e))))
        replace HK := Lib.hid (HK.out.trans hk (fun _ _ h => h))
        have S1 := Lib.hid hs1
        have HNB1 := Lib.hid hb1
        clear HC hs1 hr1 hk hb1
        have HG := Lib.hid (get_any s0 2 c0 _ w3 S0.out (by omega))
        rw [HL.out.1] at HG
        have e1 : IntKind.i64.wrap (K : Int) = (K : Int) := IntWalk.i64_in _ (by omega)
        obtain ⟨M, hM⟩ : ∃ M, K - 1 = M := ⟨_, rfl⟩
        have e2 : (K : Int) - 1 = (M : Int) := by omega
        go_wp2_with fail
        refine HG.out.mono ?_
        rintro e w4 ⟨rfl, hk⟩
        replace HR := Lib.hid (HR.out.quiet hk)
        replace S1 := Lib.hid (S1.out.quiet hk)
        replace HK := Lib.hid (HK.out.trans hk (fun _ _ h => h.elim))
        clear hk HG S0
        rw [hM] at hparse2
        by_cases h5 : n < fr + 2 + 4 + M
        · have hp : Hid (parse 4 smKey l fr = none) := by show _ = _; rw [hparse2.out, if_pos (by omega)]
          have HC := Lib.hid (HR.out.no (k := M) (by omega) (by omega))
          go_wp2_with fail
          refine HC.out.mono ?_
          rintro e _ ⟨rfl, rfl⟩
          clear HC
          go_wp2
          go_ret3
          exact ⟨_, _, _, _, _, _, _, _, rfl, HR.out, HK.out, Or.inl ⟨hp.out, rfl⟩⟩
        · have HC := Lib.hid (HR.out.yes (k := M) (by omega))
          go_wp2_with fail
          refine HC.out.mono ?_
          rintro e w5 ⟨s2, c2, rfl, hs2, hb2, hr1, hk⟩
          replace HR := Lib.hid hr1
          replace S1 := Lib.hid (S1.out.keep hk (fun ad e _ _ x => HN0.out (x.symm.trans (HNB1.out ad e))))
          replace HK := Lib.hid (HK.out.trans hk (fun _ _ h => h))
          have S2 := Lib.hid hs2
          have HNB2 := Lib.hid hb2
          clear HC hs2 hr1 hk hb2
          by_cases h6 : n < fr + 2 + 4 + M + 8
          · have hp : Hid (parse 4 smKey l fr = none) := by show _ = _; rw [hparse2.out, if_pos (by omega)]
            have HC := Lib.hid (HR.out.no (k := 8) (by omega) (by omega))
            go_wp2_with fail
            refine HC.out.mono ?_
            rintro e _ ⟨rfl, rfl⟩
            clear HC
            go_wp2
            go_ret3
            exact ⟨_, _, _, _, _, _, _, _, rfl, HR.out, HK.out, Or.inl ⟨hp.out, rfl⟩⟩
          · have hparse3 : Hid (parse 4 smKey l fr = if cut l (fr + 2 + 4 + M) 8 = smKey (cut l (fr + 2) 4) (cut l (fr + 2 + 4) M) then some (cut l (fr + 2) 4, cut l (fr + 2 + 4) M, fr + 2 + 4 + M + 8) else none) := by show _ = _; rw [hparse2.out, if_neg (by omega)]
            have HC := Lib.hid (HR.out.yes (k := 8) (by omega))
            go_wp2_with fail
            refine HC.out.mono ?_
            rintro e w6 ⟨s3, c3, rfl, hs3, hb3, hr1, hk⟩
            replace HR := Lib.hid hr1
            replace S1 := Lib.hid (S1.out.keep hk (fun ad e _ _ x => HN0.out (x.symm.trans (HNB1.out ad e))))
            replace S2 := Lib.hid (S2.out.keep hk (fun ad e _ _ x => HN0.out (x.symm.trans (HNB2.out ad e))))
            replace HK := Lib.hid (HK.out.trans hk (fun _ _ h => h))
            have S3 := Lib.hid hs3
            clear HC hs3 hr1 hk hb3
            have HC := Lib.hid (keySum_any s1 4 c1 (cut l (fr + 2) 4) s2 M c2 (cut l (fr + 2 + 4) M) w6 S1.out (by omega) S2.out (by omega))
            go_wp2_with fail
            refine HC.out.mono ?_
            rintro e w7 ⟨s4, rfl, hown, hk⟩
            replace HR := Lib.hid (HR.out.quiet hk)
            replace S1 := Lib.hid (S1.out.quiet hk)
            replace S2 := Lib.hid (S2.out.quiet hk)
            replace S3 := Lib.hid (S3.out.quiet hk)
            replace HK := Lib.hid (HK.out.trans hk (fun _ _ h => h.elim))
            have S4 := Lib.hid (Sl.of_own hown)
            clear HC hown hk
            have HC := Lib.hid (equal_any s3 s4 8 8 c3 8 _ _ w7 S3.out S4.out)
            obtain ⟨v, hv⟩ : ∃ v, decide (cut l (fr + 2 + 4 + M) 8 = smKey (cut l (fr + 2) 4) (cut l (fr + 2 + 4) M)) = v := ⟨_, rfl⟩
            rw [show decide (cut l (fr + 2 + 4 + M) 8 = keySum (le (cut l (fr + 2) 4)) (cut l (fr + 2 + 4) M)) = v from hv] at HC
            have HV := Lib.hid hv
            clear hv
            go_wp2_with fail
            refine HC.out.mono ?_
            rintro e _ ⟨rfl, rfl⟩
            clear HC
            go_wp2
            go_ret3
            refine ⟨_, _, _, _, _, _, _, _, rfl, HR.out, HK.out, ?_⟩
            cases v with
            | false => exact Or.inl ⟨by rw [hparse3.out, if_neg (of_decide_eq_false HV.out)], rfl⟩
            | true => exact Or.inr ⟨_, _, by rw [hparse3.out, if_pos (of_decide_eq_true HV.out)], rfl, S1.out, S2.out⟩
end Go.Proofs.Ytpojkhjenbbodaa

namespace Go.Proofs.Ytpojkhjenbbodaa
open Go.RowKit

/-- What a store is: its disk, how many bytes of records are used, these, which place has the keys, their turn, these. -/
structure SS where
  d : DS
  used : Nat
  recs : List (List UInt8)
  now : Nat
  turn : Nat
  keys : List UInt8
def SS.half (S : SS) : Nat := S.d.now.length / 2
def SS.sz (S : SS) : Nat := (S.d.now.length - S.d.now.length / 2) / 2
/-- A store's cells. -/
def stCells (pd half used : Nat) (recs : Value) (sz now turn : Nat) (keys : Value) : Array Value :=
  if now = 0 then #[.pointer (some ⟨pd, 0, none⟩), .int .i64 (half : Int), .int .i64 (used : Int), recs, .int .i64 (half : Int), .int .i64 (sz : Int), .int .u64 (turn : Int), keys, .int .i64 ((half + sz : Nat) : Int), .int .i64 (sz : Int), .int .u64 0, .slice none 0 0, .int .i64 0]
  else #[.pointer (some ⟨pd, 0, none⟩), .int .i64 (half : Int), .int .i64 (used : Int), recs, .int .i64 (half : Int), .int .i64 (sz : Int), .int .u64 0, .slice none 0 0, .int .i64 ((half + sz : Nat) : Int), .int .i64 (sz : Int), .int .u64 (turn : Int), keys, .int .i64 1]
/-- A slice that is not empty lies in a block of R. -/
def InR (R : Nat → Prop) (v : Value) : Prop := ∀ ad n c, v = .slice (some ad) n c → 0 < n → R ad.block

structure StAt (w : World) (p pd : Nat) (S : SS) (F R : Nat → Prop) (Fd : Nat → Prop) (so : Option Addr) (co : Nat) (vs : List Value) (sk : Option Addr) (ck : Nat) : Prop where
  blk : w.heap[p]? = some (.cells (stCells pd S.half S.used (.slice so S.recs.length co) S.sz S.now S.turn (.slice sk S.keys.length ck)) 74 (0, 0))
  disk : Disk w pd S.d Fd
  out : w.ownsRow 0 23 1 (.slice so S.recs.length co) S.recs.length vs
  rows : RowsS w vs S.recs
  keys : Sl w sk S.keys.length ck (BV S.keys)
  rin : ∀ v ∈ vs, InR R v
  kin : InR R (.slice sk S.keys.length ck)
  apart : ∀ k, R k → ¬ F k
  pd_ : ¬ Fd p
  od : ∀ k, so = some ⟨k, 0, none⟩ → ¬ Fd k
  foot : ∀ k, F k ↔ (k = p ∨ Fd k ∨ so = some ⟨k, 0, none⟩)
  rlt : ∀ k, R k → k < w.heap.size
  flt : ∀ k, F k → k < w.heap.size
  now1 : S.now ≤ 1
  nowT : S.now = 1 → 0 < S.turn
  turn0 : S.turn = 0 → S.keys = []
  usedH : S.used ≤ S.half
  size : S.d.now.length ≤ 65536
  small : S.recs.length ≤ 100000 ∧ S.turn ≤ 10000000000 ∧ S.keys.length ≤ 65536 ∧ ∀ r ∈ S.recs, r.length ≤ 65536
def StoreAt (w : World) (p pd : Nat) (S : SS) (F R : Nat → Prop) : Prop := ∃ Fd so co vs sk ck, StAt w p pd S F R Fd so co vs sk ck

theorem sl_keep {G : Nat → Prop} {w w' : World} {R : Nat → Prop} {sa : Option Addr} {n c : Nat} {l : List UInt8} (h : Sl w sa n c (BV l)) (hin : InR R (.slice sa n c)) (hk : Keeps G w w') (hg : ∀ k, G k → ¬ R k) : Sl w' sa n c (BV l) :=
  h.keep hk (fun ad e h0 _ hG => hg _ hG (hin ad n c (by rw [e]) h0))
theorem rows_keep {G : Nat → Prop} {w w' : World} {R : Nat → Prop} {vs : List Value} {rs : List (List UInt8)} (h : RowsS w vs rs) (hin : ∀ v ∈ vs, InR R v) (hk : Keeps G w w') (hg : ∀ k, G k → ¬ R k) : RowsS w' vs rs :=
  ⟨h.len, fun i r hr => by
    obtain ⟨sa, c, h1, h2⟩ := h.row i r hr
    exact ⟨sa, c, h1, sl_keep h2 (hin _ (List.mem_of_getElem? h1)) hk hg⟩⟩
theorem StAt.keep {G : Nat → Prop} {w w' : World} {p pd : Nat} {S : SS} {F R Fd : Nat → Prop} {so : Option Addr} {co : Nat} {vs : List Value} {sk : Option Addr} {ck : Nat} (h : StAt w p pd S F R Fd so co vs sk ck) (hk : Keeps G w w') (hF : ∀ k, G k → ¬ F k) (hR : ∀ k, G k → ¬ R k) : StAt w' p pd S F R Fd so co vs sk ck := by
  have hp : F p := (h.foot p).2 (Or.inl rfl)
  refine ⟨(hk.block p (lt_of_heap h.blk) (fun g => hF p g hp)).trans h.blk, h.disk.keep hk (fun k hd g => hF k g ((h.foot k).2 (Or.inr (Or.inl hd)))), own_keep h.out hk (fun k e g => hF k g ((h.foot k).2 (Or.inr (Or.inr ?_)))), rows_keep h.rows h.rin hk hR, sl_keep h.keys h.kin hk hR, h.rin, h.kin, h.apart, h.pd_, h.od, h.foot, (fun k hk' => Nat.lt_of_lt_of_le (h.rlt k hk') hk.size), (fun k hk' => Nat.lt_of_lt_of_le (h.flt k hk') hk.size), h.now1, h.nowT, h.turn0, h.usedH, h.size, h.small⟩
  rcases own_addr h.out with ⟨rfl, _⟩ | ⟨g', rfl⟩
  · simp [Value.ownBlock] at e
  · simp [Value.ownBlock] at e; rw [e]
theorem StoreAt.keep {G : Nat → Prop} {w w' : World} {p pd : Nat} {S : SS} {F R : Nat → Prop} (h : StoreAt w p pd S F R) (hk : Keeps G w w') (hF : ∀ k, G k → ¬ F k) (hR : ∀ k, G k → ¬ R k) : StoreAt w' p pd S F R := by
  obtain ⟨Fd, so, co, vs, sk, ck, h⟩ := h
  exact ⟨Fd, so, co, vs, sk, ck, h.keep hk hF hR⟩
theorem StoreAt.quiet {w w' : World} {p pd : Nat} {S : SS} {F R : Nat → Prop} (h : StoreAt w p pd S F R) (hk : Keeps (fun _ => False) w w') : StoreAt w' p pd S F R := h.keep hk (fun _ h => h.elim) (fun _ h => h.elim)
theorem sc {w w' : World} (hk : Keeps (fun _ => False) w w') {p : Addr} {v : Value} (h : w.cell? p = some v) : w'.cell? p = some v := by
  rw [hk.cell (World.block_lt_of_cell? _ _ h) (fun h => h)]; exact h
theorem stCells_get (pd half used : Nat) (recs : Value) (sz now turn : Nat) (keys : Value) : ∃ t0 k0 t1 k1 nw, stCells pd half used recs sz now turn keys = #[.pointer (some ⟨pd, 0, none⟩), .int .i64 (half : Int), .int .i64 (used : Int), recs, .int .i64 (half : Int), .int .i64 (sz : Int), t0, k0, .int .i64 ((half + sz : Nat) : Int), .int .i64 (sz : Int), t1, k1, nw] := by
  unfold stCells
  split
  · exact ⟨_, _, _, _, _, rfl⟩
  · exact ⟨_, _, _, _, _, rfl⟩

/-- How many bytes a record may have. -/
def SS.room (S : SS) : Int := max ((S.half : Int) - (S.used : Int) - 10) (-1)

set_option maxHeartbeats 1000000 in
set_option maxRecDepth 10000 in
theorem room_any (p pd : Nat) (S : SS) (F R : Nat → Prop) (w : World) (h : StoreAt w p pd S F R) :
    Calls Try.prog 13 #[.pointer (some ⟨p, 0, none⟩)] w fun e w' => e = .returned (.int .i64 S.room) ∧ Keeps (fun _ => False) w w' := by
  obtain ⟨Fd, so, co, vs, sk, ck, h⟩ := h
  obtain ⟨t0, k0, t1, k1, nw, hc⟩ := stCells_get pd S.half S.used (.slice so S.recs.length co) S.sz S.now S.turn (.slice sk S.keys.length ck)
  have hb := h.blk
  rw [hc] at hb
  have c1 := cellAt hb 1
  have c2 := cellAt hb 2
  simp at c1 c2
  have hh : S.half ≤ 65536 := by have := h.size; unfold SS.half; omega
  have hu := h.usedH
  have hR : Hid (S.room = max ((S.half : Int) - (S.used : Int) - 10) (-1)) := rfl
  generalize S.half = a at *
  generalize S.used = b at *
  clear hb hc h
  go_enter Try.func13, Try.ntmps13
  go_wp2_with fail
  refine z_begin (fun w' => w'.cell? ⟨p, 1, none⟩ = some (.int .i64 (a : Int)) ∧ w'.cell? ⟨p, 2, none⟩ = some (.int .i64 (b : Int))) 13 (by kernel_rfl) (⟨c1, c2⟩) (fun hHeld => ?_)
  have HK := Lib.hid (Keeps.refl (fun _ => False) w).drew
  clear c1 c2
  refine z_take 0 (v := ?_) rfl (by kernel_rfl) (by kernel_rfl) (by kernel_rfl) (by kernel_rfl) (fun _ _ _ h => h) hHeld (by rfl) (fun w hSw => ?_) ?_
  rotate_left
  · obtain ⟨hSw1, hSw2⟩ := hSw; simp only [List.getElem_toArray, List.getElem_cons_zero]; go_simp; try rfl
  simp only [Act.put, List.getElem_toArray, List.getElem_cons_zero, List.setIfInBounds_toArray, List.set_cons_zero, List.set_cons_succ]
  refine z_take 1 (v := ?_) rfl (by kernel_rfl) (by kernel_rfl) (by kernel_rfl) (by kernel_rfl) (fun _ _ _ h => h) hHeld (by rfl) (fun w hSw => ?_) ?_
  rotate_left
  · obtain ⟨hSw1, hSw2⟩ := hSw; simp only [List.getElem_toArray, List.getElem_cons_zero, List.getElem_cons_succ]; go_simp; try rfl
  simp only [Act.put, List.getElem_toArray, List.getElem_cons_zero, List.getElem_cons_succ, List.setIfInBounds_toArray, List.set_cons_zero, List.set_cons_succ]
  refine z_take 2 (v := ?_) rfl (by kernel_rfl) (by kernel_rfl) (by kernel_rfl) (by kernel_rfl) (fun _ _ _ h => h) hHeld (by rfl) (fun w hSw => ?_) ?_
  rotate_left
  · obtain ⟨hSw1, hSw2⟩ := hSw; simp only [List.getElem_toArray, List.getElem_cons_zero, List.getElem_cons_succ]; go_simp; try rfl
  simp only [Act.put, List.getElem_toArray, List.getElem_cons_zero, List.getElem_cons_succ, List.setIfInBounds_toArray, List.set_cons_zero, List.set_cons_succ]
  refine z_take 3 (v := ?_) rfl (by kernel_rfl) (by kernel_rfl) (by kernel_rfl) (by kernel_rfl) (fun _ _ _ h => h) hHeld (by rfl) (fun w hSw => ?_) ?_
  rotate_left
  · obtain ⟨hSw1, hSw2⟩ := hSw; simp only [List.getElem_toArray, List.getElem_cons_zero, List.getElem_cons_succ]; go_simp; try rfl
  simp only [Act.put, List.getElem_toArray, List.getElem_cons_zero, List.getElem_cons_succ, List.setIfInBounds_toArray, List.set_cons_zero, List.set_cons_succ]
  refine z_take 4 (v := ?_) rfl (by kernel_rfl) (by kernel_rfl) (by kernel_rfl) (by kernel_rfl) (fun _ _ _ h => h) hHeld (by rfl) (fun w hSw => ?_) ?_
  rotate_left
  · obtain ⟨hSw1, hSw2⟩ := hSw; simp only [List.getElem_toArray, List.getElem_cons_zero, List.getElem_cons_succ]; go_simp; try rfl
  simp only [Act.put, List.getElem_toArray, List.getElem_cons_zero, List.getElem_cons_succ, List.setIfInBounds_toArray, List.set_cons_zero, List.set_cons_succ]
  refine z_take 5 (v := ?_) rfl (by kernel_rfl) (by kernel_rfl) (by kernel_rfl) (by kernel_rfl) (fun _ _ _ h => h) hHeld (by rfl) (fun w hSw => ?_) ?_
  rotate_left
  · obtain ⟨hSw1, hSw2⟩ := hSw; simp only [List.getElem_toArray, List.getElem_cons_zero, List.getElem_cons_succ]; go_simp; try rfl
  simp only [Act.put, List.getElem_toArray, List.getElem_cons_zero, List.getElem_cons_succ, List.setIfInBounds_toArray, List.set_cons_zero, List.set_cons_succ]
  refine z_take 6 (v := ?_) rfl (by kernel_rfl) (by kernel_rfl) (by kernel_rfl) (by kernel_rfl) (fun _ _ _ h => h) hHeld (by rfl) (fun w hSw => ?_) ?_
  rotate_left
  · obtain ⟨hSw1, hSw2⟩ := hSw; simp only [List.getElem_toArray, List.getElem_cons_zero, List.getElem_cons_succ]; go_simp; try rfl
  simp only [Act.put, List.getElem_toArray, List.getElem_cons_zero, List.getElem_cons_succ, List.setIfInBounds_toArray, List.set_cons_zero, List.set_cons_succ]
  refine z_take 7 (v := ?_) rfl (by kernel_rfl) (by kernel_rfl) (by kernel_rfl) (by kernel_rfl) (fun _ _ _ h => h) hHeld (by rfl) (fun w hSw => ?_) ?_
  rotate_left
  · obtain ⟨hSw1, hSw2⟩ := hSw; simp only [List.getElem_toArray, List.getElem_cons_zero, List.getElem_cons_succ]; go_simp; try rfl
  simp only [Act.put, List.getElem_toArray, List.getElem_cons_zero, List.getElem_cons_succ, List.setIfInBounds_toArray, List.set_cons_zero, List.set_cons_succ]
  refine z_take 8 (v := ?_) rfl (by kernel_rfl) (by kernel_rfl) (by kernel_rfl) (by kernel_rfl) (fun _ _ _ h => h) hHeld (by rfl) (fun w hSw => ?_) ?_
  rotate_left
  · obtain ⟨hSw1, hSw2⟩ := hSw; simp only [List.getElem_toArray, List.getElem_cons_zero, List.getElem_cons_succ]; go_simp; try rfl
  simp only [Act.put, List.getElem_toArray, List.getElem_cons_zero, List.getElem_cons_succ, List.setIfInBounds_toArray, List.set_cons_zero, List.set_cons_succ]
  refine z_take 9 (v := ?_) rfl (by kernel_rfl) (by kernel_rfl) (by kernel_rfl) (by kernel_rfl) (fun _ _ _ h => h) hHeld (by rfl) (fun w hSw => ?_) ?_
  rotate_left
  · obtain ⟨hSw1, hSw2⟩ := hSw; simp only [List.getElem_toArray, List.getElem_cons_zero, List.getElem_cons_succ]; go_simp; try rfl
  simp only [Act.put, List.getElem_toArray, List.getElem_cons_zero, List.getElem_cons_succ, List.setIfInBounds_toArray, List.set_cons_zero, List.set_cons_succ]
  refine z_take 10 (v := ?_) rfl (by kernel_rfl) (by kernel_rfl) (by kernel_rfl) (by kernel_rfl) (fun _ _ _ h => h) hHeld (by rfl) (fun w hSw => ?_) ?_
  rotate_left
  · obtain ⟨hSw1, hSw2⟩ := hSw; simp only [List.getElem_toArray, List.getElem_cons_zero, List.getElem_cons_succ]; go_simp; try rfl
  simp only [Act.put, List.getElem_toArray, List.getElem_cons_zero, List.getElem_cons_succ, List.setIfInBounds_toArray, List.set_cons_zero, List.set_cons_succ]
  refine z_take 11 (v := ?_) rfl (by kernel_rfl) (by kernel_rfl) (by kernel_rfl) (by kernel_rfl) (fun _ _ _ h => h) hHeld (by rfl) (fun w hSw => ?_) ?_
  rotate_left
  · obtain ⟨hSw1, hSw2⟩ := hSw; simp only [List.getElem_toArray, List.getElem_cons_zero, List.getElem_cons_succ]; go_simp; try rfl
  simp only [Act.put, List.getElem_toArray, List.getElem_cons_zero, List.getElem_cons_succ, List.setIfInBounds_toArray, List.set_cons_zero, List.set_cons_succ]
  refine z_take 12 (v := ?_) rfl (by kernel_rfl) (by kernel_rfl) (by kernel_rfl) (by kernel_rfl) (fun _ _ _ h => h) hHeld (by rfl) (fun w hSw => ?_) ?_
  rotate_left
  · obtain ⟨hSw1, hSw2⟩ := hSw; simp only [List.getElem_toArray, List.getElem_cons_zero, List.getElem_cons_succ]; go_simp; try rfl
  simp only [Act.put, List.getElem_toArray, List.getElem_cons_zero, List.getElem_cons_succ, List.setIfInBounds_toArray, List.set_cons_zero, List.set_cons_succ]
  refine z_done (by kernel_rfl) ?_ _
  clear hHeld
  go_wp2
  go_ret
  rw [hR.out]
  have q1 : IntKind.i64.wrap ((a : Int) - (b : Int)) = (a : Int) - (b : Int) := IntWalk.i64_in _ (by omega)
  have q2 : IntKind.i64.wrap ((a : Int) - (b : Int) - 2) = (a : Int) - (b : Int) - 2 := IntWalk.i64_in _ (by omega)
  have q3 : IntKind.i64.wrap ((a : Int) - (b : Int) - 2 - 8) = (a : Int) - (b : Int) - 10 := by rw [show (a : Int) - (b : Int) - 2 - 8 = (a : Int) - (b : Int) - 10 by omega]; exact IntWalk.i64_in _ (by omega)
  refine ⟨?_, HK.out⟩
  simp [q1, q2, q3]
end Go.Proofs.Ytpojkhjenbbodaa

namespace Go.Proofs.Ytpojkhjenbbodaa
open Go.RowKit

set_option maxHeartbeats 1000000 in
set_option maxRecDepth 10000 in
theorem keys_any (p pd : Nat) (S : SS) (F R : Nat → Prop) (w : World) (h : StoreAt w p pd S F R) :
    Calls Try.prog 25 #[.pointer (some ⟨p, 0, none⟩)] w fun e w' => ∃ sa c, e = .returned (.slice sa S.keys.length c) ∧ w'.ownsRow w.heap.size 5 1 (.slice sa S.keys.length c) S.keys.length (BV S.keys) ∧ Keeps (fun _ => False) w w' := by
  obtain ⟨Fd, so, co, vs, sk, ck, h⟩ := h
  have hb := h.blk
  have HS := Lib.hid h.keys
  have hks := h.small.2.2.1
  have h1 := h.now1
  have hlen : S.keys.length ≤ 1000000000 := by omega
  generalize S.keys = ks at *
  obtain ⟨n, hn⟩ : ∃ n, ks.length = n := ⟨_, rfl⟩
  rw [hn] at HS hlen hb ⊢
  clear hn
  rcases (show S.now = 0 ∨ S.now = 1 by omega) with h0 | h0
  · rw [h0] at hb
    have c1 := cellAt hb 7
    have c2 := cellAt hb 12
    simp [stCells] at c1 c2
    clear hb h h0 h1 hks
    go_enter Try.func25, Try.ntmps25
    go_wp2_with fail
    refine z_begin (fun w' => w'.cell? ⟨p, 7, none⟩ = some (.slice sk n ck) ∧ w'.cell? ⟨p, 12, none⟩ = some (.int .i64 0)) 12 (by kernel_rfl) (⟨c1, c2⟩) (fun hHeld => ?_)
    have hk : Keeps (fun _ => False) w (World.drew w) := (Keeps.refl _ _).drew
    have HK := Lib.hid hk
    replace HS := Lib.hid (HS.out.quiet hk)
    clear hk c1 c2
    have hsz : w.heap.size = w.drew.heap.size := rfl
    generalize World.drew w = v0 at *
    refine z_take 0 (v := ?_) rfl (by kernel_rfl) (by kernel_rfl) (by kernel_rfl) (by kernel_rfl) (fun _ _ _ h => h) hHeld (by rfl) (fun w hSw => ?_) ?_
    rotate_left
    · obtain ⟨hSw1, hSw2⟩ := hSw; simp only [List.getElem_toArray, List.getElem_cons_zero]; go_simp; try rfl
    simp only [Act.put, List.getElem_toArray, List.getElem_cons_zero, List.setIfInBounds_toArray, List.set_cons_zero, List.set_cons_succ]
    refine z_take 1 (v := ?_) rfl (by kernel_rfl) (by kernel_rfl) (by kernel_rfl) (by kernel_rfl) (fun _ _ _ h => h) hHeld (by rfl) (fun w hSw => ?_) ?_
    rotate_left
    · obtain ⟨hSw1, hSw2⟩ := hSw; simp only [List.getElem_toArray, List.getElem_cons_zero, List.getElem_cons_succ]; go_simp; try rfl
    simp only [Act.put, List.getElem_toArray, List.getElem_cons_zero, List.getElem_cons_succ, List.setIfInBounds_toArray, List.set_cons_zero, List.set_cons_succ]
    refine z_take 2 (v := ?_) rfl (by kernel_rfl) (by kernel_rfl) (by kernel_rfl) (by kernel_rfl) (fun _ _ _ h => h) hHeld (by rfl) (fun w hSw => ?_) ?_
    rotate_left
    · obtain ⟨hSw1, hSw2⟩ := hSw; simp only [List.getElem_toArray, List.getElem_cons_zero, List.getElem_cons_succ]; go_simp; try rfl
    simp only [Act.put, List.getElem_toArray, List.getElem_cons_zero, List.getElem_cons_succ, List.setIfInBounds_toArray, List.set_cons_zero, List.set_cons_succ]
    refine z_take 3 (v := ?_) rfl (by kernel_rfl) (by kernel_rfl) (by kernel_rfl) (by kernel_rfl) (fun _ _ _ h => h) hHeld (by rfl) (fun w hSw => ?_) ?_
    rotate_left
    · obtain ⟨hSw1, hSw2⟩ := hSw; simp only [List.getElem_toArray, List.getElem_cons_zero, List.getElem_cons_succ]; go_simp; try rfl
    simp only [Act.put, List.getElem_toArray, List.getElem_cons_zero, List.getElem_cons_succ, List.setIfInBounds_toArray, List.set_cons_zero, List.set_cons_succ]
    refine z_take 4 (v := ?_) rfl (by kernel_rfl) (by kernel_rfl) (by kernel_rfl) (by kernel_rfl) (fun _ _ _ h => h) hHeld (by rfl) (fun w hSw => ?_) ?_
    rotate_left
    · obtain ⟨hSw1, hSw2⟩ := hSw; simp only [List.getElem_toArray, List.getElem_cons_zero, List.getElem_cons_succ]; go_simp; try rfl
    simp only [Act.put, List.getElem_toArray, List.getElem_cons_zero, List.getElem_cons_succ, List.setIfInBounds_toArray, List.set_cons_zero, List.set_cons_succ]
    refine z_take 5 (v := ?_) rfl (by kernel_rfl) (by kernel_rfl) (by kernel_rfl) (by kernel_rfl) (fun _ _ _ h => h) hHeld (by rfl) (fun w hSw => ?_) ?_
    rotate_left
    · obtain ⟨hSw1, hSw2⟩ := hSw; simp only [List.getElem_toArray, List.getElem_cons_zero, List.getElem_cons_succ]; go_simp; try rfl
    simp only [Act.put, List.getElem_toArray, List.getElem_cons_zero, List.getElem_cons_succ, List.setIfInBounds_toArray, List.set_cons_zero, List.set_cons_succ]
    refine z_take 6 (v := ?_) rfl (by kernel_rfl) (by kernel_rfl) (by kernel_rfl) (by kernel_rfl) (fun _ _ _ h => h) hHeld (by rfl) (fun w hSw => ?_) ?_
    rotate_left
    · obtain ⟨hSw1, hSw2⟩ := hSw; simp only [List.getElem_toArray, List.getElem_cons_zero, List.getElem_cons_succ]; go_simp; try rfl
    simp only [Act.put, List.getElem_toArray, List.getElem_cons_zero, List.getElem_cons_succ, List.setIfInBounds_toArray, List.set_cons_zero, List.set_cons_succ]
    refine z_take 7 (v := ?_) rfl (by kernel_rfl) (by kernel_rfl) (by kernel_rfl) (by kernel_rfl) (fun _ _ _ h => h) hHeld (by rfl) (fun w hSw => ?_) ?_
    rotate_left
    · obtain ⟨hSw1, hSw2⟩ := hSw; simp only [List.getElem_toArray, List.getElem_cons_zero, List.getElem_cons_succ]; go_simp; try rfl
    simp only [Act.put, List.getElem_toArray, List.getElem_cons_zero, List.getElem_cons_succ, List.setIfInBounds_toArray, List.set_cons_zero, List.set_cons_succ]
    refine z_take 8 (v := ?_) rfl (by kernel_rfl) (by kernel_rfl) (by kernel_rfl) (by kernel_rfl) (fun _ _ _ h => h) hHeld (by rfl) (fun w hSw => ?_) ?_
    rotate_left
    · obtain ⟨hSw1, hSw2⟩ := hSw; simp only [List.getElem_toArray, List.getElem_cons_zero, List.getElem_cons_succ]; go_simp; try rfl
    simp only [Act.put, List.getElem_toArray, List.getElem_cons_zero, List.getElem_cons_succ, List.setIfInBounds_toArray, List.set_cons_zero, List.set_cons_succ]
    refine z_take 9 (v := ?_) rfl (by kernel_rfl) (by kernel_rfl) (by kernel_rfl) (by kernel_rfl) (fun _ _ _ h => h) hHeld (by rfl) (fun w hSw => ?_) ?_
    rotate_left
    · obtain ⟨hSw1, hSw2⟩ := hSw; simp only [List.getElem_toArray, List.getElem_cons_zero, List.getElem_cons_succ]; go_simp; try rfl
    simp only [Act.put, List.getElem_toArray, List.getElem_cons_zero, List.getElem_cons_succ, List.setIfInBounds_toArray, List.set_cons_zero, List.set_cons_succ]
    refine z_one 10 rfl (by kernel_rfl) (by rfl) (fun K hK => ?_)
    simp only [List.getElem_toArray, List.getElem_cons_zero, List.getElem_cons_succ]
    go_simp
    refine (clone_any sk n ck ks v0 HS.out hlen).mono ?_
    rintro e v1 ⟨sb, cb, rfl, hown, hk⟩
    rw [← hsz] at hown
    have HO := Lib.hid (And.intro hown (HK.out.quiet hk))
    refine hK _ _ (Or.inr ?_) (fun hHeld => ?_)
    · exact ⟨sc hk hHeld.1, sc hk hHeld.2⟩
    clear hK K hk hown
    replace hHeld := hHeld.resolve_left (by decide)
    try simp only [Act.put, List.setIfInBounds_toArray, List.set_cons_zero, List.set_cons_succ]
    refine z_one 11 rfl (by kernel_rfl) (by rfl) (fun K hK => ?_)
    simp only [List.getElem_toArray, List.getElem_cons_zero, List.getElem_cons_succ]
    go_simp
    refine hK _ _ (Or.inr hHeld) (fun _ => ?_)
    clear hK K
    try simp only [Act.put, List.setIfInBounds_toArray, List.set_cons_zero, List.set_cons_succ]
    refine z_done (by kernel_rfl) ?_ _
    clear hHeld
    go_wp2
    go_ret
    exact ⟨sb, cb, rfl, HO.out⟩
  · rw [h0] at hb
    have c1 := cellAt hb 11
    have c2 := cellAt hb 12
    simp [stCells] at c1 c2
    clear hb h h0 h1 hks
    go_enter Try.func25, Try.ntmps25
    go_wp2_with fail
    refine z_begin (fun w' => w'.cell? ⟨p, 11, none⟩ = some (.slice sk n ck) ∧ w'.cell? ⟨p, 12, none⟩ = some (.int .i64 1)) 12 (by kernel_rfl) (⟨c1, c2⟩) (fun hHeld => ?_)
    have hk : Keeps (fun _ => False) w (World.drew w) := (Keeps.refl _ _).drew
    have HK := Lib.hid hk
    replace HS := Lib.hid (HS.out.quiet hk)
    clear hk c1 c2
    have hsz : w.heap.size = w.drew.heap.size := rfl
    generalize World.drew w = v0 at *
    refine z_take 0 (v := ?_) rfl (by kernel_rfl) (by kernel_rfl) (by kernel_rfl) (by kernel_rfl) (fun _ _ _ h => h) hHeld (by rfl) (fun w hSw => ?_) ?_
    rotate_left
    · obtain ⟨hSw1, hSw2⟩ := hSw; simp only [List.getElem_toArray, List.getElem_cons_zero]; go_simp; try rfl
    simp only [Act.put, List.getElem_toArray, List.getElem_cons_zero, List.setIfInBounds_toArray, List.set_cons_zero, List.set_cons_succ]
    refine z_take 1 (v := ?_) rfl (by kernel_rfl) (by kernel_rfl) (by kernel_rfl) (by kernel_rfl) (fun _ _ _ h => h) hHeld (by rfl) (fun w hSw => ?_) ?_
    rotate_left
    · obtain ⟨hSw1, hSw2⟩ := hSw; simp only [List.getElem_toArray, List.getElem_cons_zero, List.getElem_cons_succ]; go_simp; try rfl
    simp only [Act.put, List.getElem_toArray, List.getElem_cons_zero, List.getElem_cons_succ, List.setIfInBounds_toArray, List.set_cons_zero, List.set_cons_succ]
    refine z_take 2 (v := ?_) rfl (by kernel_rfl) (by kernel_rfl) (by kernel_rfl) (by kernel_rfl) (fun _ _ _ h => h) hHeld (by rfl) (fun w hSw => ?_) ?_
    rotate_left
    · obtain ⟨hSw1, hSw2⟩ := hSw; simp only [List.getElem_toArray, List.getElem_cons_zero, List.getElem_cons_succ]; go_simp; try rfl
    simp only [Act.put, List.getElem_toArray, List.getElem_cons_zero, List.getElem_cons_succ, List.setIfInBounds_toArray, List.set_cons_zero, List.set_cons_succ]
    refine z_take 3 (v := ?_) rfl (by kernel_rfl) (by kernel_rfl) (by kernel_rfl) (by kernel_rfl) (fun _ _ _ h => h) hHeld (by rfl) (fun w hSw => ?_) ?_
    rotate_left
    · obtain ⟨hSw1, hSw2⟩ := hSw; simp only [List.getElem_toArray, List.getElem_cons_zero, List.getElem_cons_succ]; go_simp; try rfl
    simp only [Act.put, List.getElem_toArray, List.getElem_cons_zero, List.getElem_cons_succ, List.setIfInBounds_toArray, List.set_cons_zero, List.set_cons_succ]
    refine z_take 4 (v := ?_) rfl (by kernel_rfl) (by kernel_rfl) (by kernel_rfl) (by kernel_rfl) (fun _ _ _ h => h) hHeld (by rfl) (fun w hSw => ?_) ?_
    rotate_left
    · obtain ⟨hSw1, hSw2⟩ := hSw; simp only [List.getElem_toArray, List.getElem_cons_zero, List.getElem_cons_succ]; go_simp; try rfl
    simp only [Act.put, List.getElem_toArray, List.getElem_cons_zero, List.getElem_cons_succ, List.setIfInBounds_toArray, List.set_cons_zero, List.set_cons_succ]
    refine z_take 5 (v := ?_) rfl (by kernel_rfl) (by kernel_rfl) (by kernel_rfl) (by kernel_rfl) (fun _ _ _ h => h) hHeld (by rfl) (fun w hSw => ?_) ?_
    rotate_left
    · obtain ⟨hSw1, hSw2⟩ := hSw; simp only [List.getElem_toArray, List.getElem_cons_zero, List.getElem_cons_succ]; go_simp; try rfl
    simp only [Act.put, List.getElem_toArray, List.getElem_cons_zero, List.getElem_cons_succ, List.setIfInBounds_toArray, List.set_cons_zero, List.set_cons_succ]
    refine z_take 6 (v := ?_) rfl (by kernel_rfl) (by kernel_rfl) (by kernel_rfl) (by kernel_rfl) (fun _ _ _ h => h) hHeld (by rfl) (fun w hSw => ?_) ?_
    rotate_left
    · obtain ⟨hSw1, hSw2⟩ := hSw; simp only [List.getElem_toArray, List.getElem_cons_zero, List.getElem_cons_succ]; go_simp; try rfl
    simp only [Act.put, List.getElem_toArray, List.getElem_cons_zero, List.getElem_cons_succ, List.setIfInBounds_toArray, List.set_cons_zero, List.set_cons_succ]
    refine z_take 7 (v := ?_) rfl (by kernel_rfl) (by kernel_rfl) (by kernel_rfl) (by kernel_rfl) (fun _ _ _ h => h) hHeld (by rfl) (fun w hSw => ?_) ?_
    rotate_left
    · obtain ⟨hSw1, hSw2⟩ := hSw; simp only [List.getElem_toArray, List.getElem_cons_zero, List.getElem_cons_succ]; go_simp; try rfl
    simp only [Act.put, List.getElem_toArray, List.getElem_cons_zero, List.getElem_cons_succ, List.setIfInBounds_toArray, List.set_cons_zero, List.set_cons_succ]
    refine z_take 8 (v := ?_) rfl (by kernel_rfl) (by kernel_rfl) (by kernel_rfl) (by kernel_rfl) (fun _ _ _ h => h) hHeld (by rfl) (fun w hSw => ?_) ?_
    rotate_left
    · obtain ⟨hSw1, hSw2⟩ := hSw; simp only [List.getElem_toArray, List.getElem_cons_zero, List.getElem_cons_succ]; go_simp; try rfl
    simp only [Act.put, List.getElem_toArray, List.getElem_cons_zero, List.getElem_cons_succ, List.setIfInBounds_toArray, List.set_cons_zero, List.set_cons_succ]
    refine z_take 9 (v := ?_) rfl (by kernel_rfl) (by kernel_rfl) (by kernel_rfl) (by kernel_rfl) (fun _ _ _ h => h) hHeld (by rfl) (fun w hSw => ?_) ?_
    rotate_left
    · obtain ⟨hSw1, hSw2⟩ := hSw; simp only [List.getElem_toArray, List.getElem_cons_zero, List.getElem_cons_succ]; go_simp; try rfl
    simp only [Act.put, List.getElem_toArray, List.getElem_cons_zero, List.getElem_cons_succ, List.setIfInBounds_toArray, List.set_cons_zero, List.set_cons_succ]
    refine z_one 10 rfl (by kernel_rfl) (by rfl) (fun K hK => ?_)
    simp only [List.getElem_toArray, List.getElem_cons_zero, List.getElem_cons_succ]
    go_simp
    refine (clone_any sk n ck ks v0 HS.out hlen).mono ?_
    rintro e v1 ⟨sb, cb, rfl, hown, hk⟩
    rw [← hsz] at hown
    have HO := Lib.hid (And.intro hown (HK.out.quiet hk))
    refine hK _ _ (Or.inr ?_) (fun hHeld => ?_)
    · exact ⟨sc hk hHeld.1, sc hk hHeld.2⟩
    clear hK K hk hown
    replace hHeld := hHeld.resolve_left (by decide)
    try simp only [Act.put, List.setIfInBounds_toArray, List.set_cons_zero, List.set_cons_succ]
    refine z_one 11 rfl (by kernel_rfl) (by rfl) (fun K hK => ?_)
    simp only [List.getElem_toArray, List.getElem_cons_zero, List.getElem_cons_succ]
    go_simp
    refine hK _ _ (Or.inr hHeld) (fun _ => ?_)
    clear hK K
    try simp only [Act.put, List.setIfInBounds_toArray, List.set_cons_zero, List.set_cons_succ]
    refine z_done (by kernel_rfl) ?_ _
    clear hHeld
    go_wp2
    go_ret
    exact ⟨sb, cb, rfl, HO.out⟩

def RcRel (w : World) (B : Nat) (rs : List (List UInt8)) (out i : Value) (wr : World) : Prop :=
  ∃ (k : Nat) (so : Option Addr) (co : Nat) (vs : List Value), k ≤ rs.length ∧ i = .int .i64 (k : Int) ∧ out = .slice so k co ∧ wr.ownsRow B 23 1 (.slice so k co) k vs ∧ RowsO wr B vs (rs.take k) ∧ Keeps (fun _ => False) w wr

set_option maxHeartbeats 1000000 in
set_option maxRecDepth 10000 in
theorem records_any (p pd : Nat) (S : SS) (F R : Nat → Prop) (w : World) (h : StoreAt w p pd S F R) :
    Calls Try.prog 22 #[.pointer (some ⟨p, 0, none⟩)] w fun e w' => ∃ sa c vs, e = .returned (.slice sa S.recs.length c) ∧ w'.ownsRow w.heap.size 23 1 (.slice sa S.recs.length c) S.recs.length vs ∧ RowsO w' w.heap.size vs S.recs ∧ Keeps (fun _ => False) w w' := by
  obtain ⟨Fd, so, co, vs, sk, ck, h⟩ := h
  obtain ⟨t0, k0, t1, k1, nw, hc⟩ := stCells_get pd S.half S.used (.slice so S.recs.length co) S.sz S.now S.turn (.slice sk S.keys.length ck)
  have hb := h.blk
  rw [hc] at hb
  have c1 := cellAt hb 3
  simp at c1
  have HO := Lib.hid (Sl.of_own h.out)
  have HR := Lib.hid (And.intro h.rows h.small.2.2.2)
  have hsm := h.small.1
  clear hb hc h
  generalize S.recs = rs at *
  obtain ⟨N, hN⟩ : ∃ N, rs.length = N := ⟨_, rfl⟩
  rw [hN] at c1 HO hsm ⊢
  have HN := Lib.hid hN
  have hco := HO.out.le
  have hcb := HO.out.capB
  clear hN
  obtain ⟨B, hB⟩ : ∃ B, w.heap.size = B := ⟨_, rfl⟩
  have HB := Lib.hid hB
  clear hB
  go_enter Try.func22, Try.ntmps22
  go_wp2_with fail
  clear c1
  go_loopw [3, 11] (fun out i wr => RcRel w B rs out i wr) (fun _ i _ => N - (intOf i).toNat)
  case atStart => exact ⟨0, none, 0, [], Nat.zero_le _, rfl, rfl, World.ownsRow_nil _ _ _ _, by rw [List.take_zero]; exact RowsO.nil _ _, Keeps.refl _ _⟩
  case round =>
    obtain ⟨k, s1, d1, ws, hk, rfl, rfl, hown, hrows, hkp⟩ := hrel
    have hsz := hkp.size
    rw [HB.out] at hsz
    have HX := Lib.hid (And.intro hown (And.intro hrows hkp))
    clear hown hrows hkp
    by_cases hlt : k < N
    · obtain ⟨r, hr⟩ : ∃ r, rs[k]? = some r := ⟨_, List.getElem?_eq_getElem (by have := HN.out; omega)⟩
      obtain ⟨b2, o2, rfl⟩ := HO.out.isSome (by omega)
      obtain ⟨sx, cx, hvx, hsx⟩ := HR.out.1.row k r hr
      have d3 := (HO.out.quiet HX.out.2.2).cell hvx
      have hrl := HR.out.2 r (List.mem_of_getElem? hr)
      have HC := Lib.hid (clone_any sx r.length cx r wr (hsx.quiet HX.out.2.2) (by omega))
      obtain ⟨n3, hn3⟩ : ∃ q, r.length = q := ⟨_, rfl⟩
      rw [hn3] at HC d3
      have t0 : (0 : Int) ≤ (k : Int) := by omega
      have t1 : (k : Int) < (N : Int) := by omega
      have HQ := Lib.hid (And.intro hr hn3)
      clear hr hvx hsx hn3 hrl
      go_wp2_with fail
      refine HC.out.mono ?_
      rintro e w2 ⟨s3, c3, rfl, hown, hk2⟩
      have h1 := HX.out.1
      have h2 := HX.out.2.1
      have hlow : ∀ (i : Nat) v kk, ws[i]? = some v → v.ownBlock = some kk → kk < wr.heap.size := fun i v kk hv e => (h2.lt hv e).2.1
      have h3 := (h2.quiet hk2).snoc HQ.out.2 hown hsz hlow
      rw [← show rs.take (k + 1) = rs.take k ++ [r] by rw [List.take_succ_eq_append_getElem (List.getElem?_eq_some_iff.1 HQ.out.1).1, (List.getElem?_eq_some_iff.1 HQ.out.1).2]] at h3
      have HS := Lib.hid (And.intro (own_keep h1 hk2 (fun _ _ h => h)) (And.intro h3 (HX.out.2.2.quiet hk2)))
      have hsz2 : B ≤ w2.heap.size := Nat.le_trans hsz hk2.size
      have HC2 : Hid (∀ w3, Keeps (fun k => s1 = some ⟨k, 0, none⟩) w2 w3 → RowsO w3 B (ws ++ [.slice s3 n3 c3]) (rs.take (k + 1))) := by
        intro w3 hk3
        refine HS.out.2.1.keep hk3 (fun kk _ _ => ?_)
        rintro ⟨i, v, hv, ev⟩ e2
        exact HS.out.2.1.apartOuter HS.out.1 hv ev e2
      clear h1 h2 hlow h3 hown hk2 HC d3
      go_wp2_with (at_builtin; refine wpList_pushV _ s3 n3 c3 rfl _ _ rfl B s1 k d1 ws rfl HS.out.1 rfl (by omega) hsz2 ?_; intro sa5 cap5 w5 hown2 hk2 hs5; have H5 := Lib.hid (And.intro hown2 (And.intro (HC2.out w5 hk2) (HS.out.2.2.pushed HS.out.1 (by rw [HB.out]; exact Nat.le_refl _) hk2))); clear hown2 hk2)
      go_roundw
      case rel => exact ⟨k + 1, sa5, cap5, _, by have := HN.out; omega, by go_num, rfl, H5.out.1, H5.out.2.1, H5.out.2.2⟩
      case measure => simp [intOf]; omega
    · obtain rfl : k = N := by have := HN.out; omega
      have t1 : ¬ (k : Int) < (k : Int) := by omega
      have e1 : rs.take k = rs := List.take_of_length_le (by rw [HN.out]; exact Nat.le_refl _)
      rw [e1] at HX
      clear e1
      go_wp2
      go_ret
      rw [HB.out]
      exact ⟨s1, d1, rfl, ws, HX.out.1, HX.out.2.1, HX.out.2.2⟩
end Go.Proofs.Ytpojkhjenbbodaa

namespace Go.Proofs.Ytpojkhjenbbodaa
open Go.RowKit

/-- Noughts on the disk. -/
def DS.zero (D : DS) (at_ n : Nat) : DS := D.write at_ (List.replicate n 0)

set_option maxHeartbeats 1000000 in
set_option maxRecDepth 10000 in
theorem clear_ok (p pd at_ n : Nat) (D : DS) (Fd : Nat → Prop) (w : World) (hc : w.cell? ⟨p, 0, none⟩ = some (.pointer (some ⟨pd, 0, none⟩))) (hd : Disk w pd D Fd) (hcr : D.cr = false) (hfit : at_ + n ≤ D.now.length) (hD : D.now.length ≤ 65536) (hlo : D.lo.length ≤ 1000000) (hnp : ¬ Fd p) (hlt : ∀ k, Fd k → k < w.heap.size) :
    Calls Try.prog 52 #[.pointer (some ⟨p, 0, none⟩), .int .i64 (at_ : Int), .int .i64 (n : Int)] w fun e w' => e = .returned (.int .i64 0) ∧
      ∃ F', Disk w' pd (D.zero at_ n) F' ∧ Keeps Fd w w' ∧ (∀ k, F' k → Fd k ∨ w.heap.size ≤ k) := by
  have hmk := run_mk n (by omega) w.drew
  have HD := Lib.hid (hd.keep (Keeps.refl (fun _ => False) w).drew (fun _ _ h => h))
  have HH := Lib.hid (And.intro hcr (And.intro hfit (And.intro hD (And.intro hlo (And.intro hnp hlt)))))
  clear hd hcr hnp hlt
  go_enter Try.func52, Try.ntmps52
  go_wp2_with fail
  refine z_begin (fun w' => w'.cell? ⟨p, 0, none⟩ = some (.pointer (some ⟨pd, 0, none⟩))) 9 (by kernel_rfl) (hc) (fun hHeld => ?_)
  have hk0 : Keeps (fun _ => False) w w.drew := (Keeps.refl _ w).drew
  have hsz : w.heap.size = w.drew.heap.size := rfl
  have HK := Lib.hid (And.intro hk0 hsz)
  clear hc hk0 hsz
  generalize World.drew w = v0 at *
  refine z_take 0 (v := ?_) rfl (by kernel_rfl) (by kernel_rfl) (by kernel_rfl) (by kernel_rfl) (fun _ _ _ h => h) hHeld (by rfl) (fun w hSw => ?_) ?_
  rotate_left
  · have hSw1 := hSw; clear hSw; simp only [List.getElem_toArray, List.getElem_cons_zero]; go_simp; try rfl
  simp only [Act.put, List.getElem_toArray, List.getElem_cons_zero, List.setIfInBounds_toArray, List.set_cons_zero, List.set_cons_succ]
  refine z_take 1 (v := ?_) rfl (by kernel_rfl) (by kernel_rfl) (by kernel_rfl) (by kernel_rfl) (fun _ _ _ h => h) hHeld (by rfl) (fun w hSw => ?_) ?_
  rotate_left
  · have hSw1 := hSw; clear hSw; simp only [List.getElem_toArray, List.getElem_cons_zero, List.getElem_cons_succ]; go_simp; try rfl
  simp only [Act.put, List.getElem_toArray, List.getElem_cons_zero, List.getElem_cons_succ, List.setIfInBounds_toArray, List.set_cons_zero, List.set_cons_succ]
  refine z_take 2 (v := ?_) rfl (by kernel_rfl) (by kernel_rfl) (by kernel_rfl) (by kernel_rfl) (fun _ _ _ h => h) hHeld (by rfl) (fun w hSw => ?_) ?_
  rotate_left
  · have hSw1 := hSw; clear hSw; simp only [List.getElem_toArray, List.getElem_cons_zero, List.getElem_cons_succ]; go_simp; try rfl
  simp only [Act.put, List.getElem_toArray, List.getElem_cons_zero, List.getElem_cons_succ, List.setIfInBounds_toArray, List.set_cons_zero, List.set_cons_succ]
  refine z_take 3 (v := ?_) rfl (by kernel_rfl) (by kernel_rfl) (by kernel_rfl) (by kernel_rfl) (fun _ _ _ h => h) hHeld (by rfl) (fun w hSw => ?_) ?_
  rotate_left
  · have hSw1 := hSw; clear hSw; simp only [List.getElem_toArray, List.getElem_cons_zero, List.getElem_cons_succ]; go_simp; try rfl
  simp only [Act.put, List.getElem_toArray, List.getElem_cons_zero, List.getElem_cons_succ, List.setIfInBounds_toArray, List.set_cons_zero, List.set_cons_succ]
  refine z_take 4 (v := ?_) rfl (by kernel_rfl) (by kernel_rfl) (by kernel_rfl) (by kernel_rfl) (fun _ _ _ h => h) hHeld (by rfl) (fun w hSw => ?_) ?_
  rotate_left
  · have hSw1 := hSw; clear hSw; simp only [List.getElem_toArray, List.getElem_cons_zero, List.getElem_cons_succ]; go_simp; try rfl
  simp only [Act.put, List.getElem_toArray, List.getElem_cons_zero, List.getElem_cons_succ, List.setIfInBounds_toArray, List.set_cons_zero, List.set_cons_succ]
  refine z_take 5 (v := ?_) rfl (by kernel_rfl) (by kernel_rfl) (by kernel_rfl) (by kernel_rfl) (fun _ _ _ h => h) hHeld (by rfl) (fun w hSw => ?_) ?_
  rotate_left
  · have hSw1 := hSw; clear hSw; simp only [List.getElem_toArray, List.getElem_cons_zero, List.getElem_cons_succ]; go_simp; try rfl
  simp only [Act.put, List.getElem_toArray, List.getElem_cons_zero, List.getElem_cons_succ, List.setIfInBounds_toArray, List.set_cons_zero, List.set_cons_succ]
  refine z_one 6 rfl (by kernel_rfl) (by rfl) (fun K hK => ?_)
  simp only [List.getElem_toArray, List.getElem_cons_zero, List.getElem_cons_succ]
  go_simp
  have hown := owns_made v0 n (by have := HH.out.2.2.1; omega)
  have hk : Keeps (fun _ => False) v0 (v0.alloc (.cells (madeCells #[.int .u8 0] n) 5)) := (Keeps.refl _ v0).alloc _
  refine hK _ _ (Or.inr ?_) (fun hHeld => ?_)
  · exact sc hk hHeld
  clear hK K
  replace hHeld := hHeld.resolve_left (by decide)
  try simp only [Act.put, List.setIfInBounds_toArray, List.set_cons_zero, List.set_cons_succ]
  obtain ⟨v1, hv1⟩ : ∃ v, v0.alloc (.cells (madeCells #[.int .u8 0] n) 5) = v := ⟨_, rfl⟩
  obtain ⟨g, hg⟩ : ∃ g, v0.heap.size = g := ⟨_, rfl⟩
  rw [hv1] at hown hk hHeld ⊢
  rw [hg] at hown ⊢
  have HO := Lib.hid (And.intro hown (And.intro hk hg))
  clear hown hk hmk
  refine z_one 7 rfl (by kernel_rfl) (by rfl) (fun K hK => ?_)
  simp only [List.getElem_toArray, List.getElem_cons_zero, List.getElem_cons_succ]
  go_simp
  have hd1 := HD.out.keep HO.out.2.1 (fun _ _ h => h)
  refine (write_ok pd at_ (List.replicate n 0) n (some ⟨g, 0, none⟩) g 0 n D Fd v1 hd1 HH.out.1 (by simp) (fun _ => rfl) (fun j c hj => by rw [Nat.zero_add]; exact own_cell HO.out.1 j _ (by rw [BV_get, hj]; rfl)) (fun _ hf => by have h1 := HH.out.2.2.2.2.2 g hf; have h2 := HK.out.2; have h3 := HO.out.2.2; omega) HH.out.2.1 HH.out.2.2.1 HH.out.2.2.2.1).mono ?_
  rintro e v2 ⟨rfl, F', h1, h2, h3⟩
  have HF : Hid (∃ F', Disk v2 pd (D.zero at_ n) F' ∧ Keeps Fd w v2 ∧ (∀ k, F' k → Fd k ∨ w.heap.size ≤ k)) := by
    refine ⟨F', h1, ((HK.out.1.quiet HO.out.2.1).mono (G := Fd) (fun _ _ h => h.elim)).trans h2 (fun _ _ h => h), fun k hk => (h3 k hk).imp id (fun h => by have := HO.out.2.1.size; have := HK.out.2; omega)⟩
  refine hK _ _ (Or.inr ?_) (fun hHeld => ?_)
  · rw [h2.cell (World.block_lt_of_cell? _ _ hHeld) HH.out.2.2.2.2.1]; exact hHeld
  clear hK K h1 h2 h3 hd1
  replace hHeld := hHeld.resolve_left (by decide)
  try simp only [Act.put, List.setIfInBounds_toArray, List.set_cons_zero, List.set_cons_succ]
  refine z_one 8 rfl (by kernel_rfl) (by rfl) (fun K hK => ?_)
  simp only [List.getElem_toArray, List.getElem_cons_zero, List.getElem_cons_succ]
  go_simp
  refine hK _ _ (Or.inr hHeld) (fun _ => ?_)
  clear hK K
  try simp only [Act.put, List.setIfInBounds_toArray, List.set_cons_zero, List.set_cons_succ]
  refine z_done (by kernel_rfl) ?_ _
  clear hHeld
  go_wp2
  go_ret
  exact ⟨rfl, HF.out⟩
end Go.Proofs.Ytpojkhjenbbodaa

namespace Go.Proofs.Ytpojkhjenbbodaa
open Go.RowKit

/-- A slice put behind a row of slices, as one operation; where the row is then. -/
theorem wp_pushV {o : Oper} {a : Act} {K : Act → World → Prop} {Q : Exit → Act → World → Prop} (w0 : World) (sv : Option Addr) (nv cv : Nat) (s x : Operand)
    (ho : o.op = .call { callee := .builtin .append, args := #[s, x], argTypes := #[30, 30] }) (base : Nat)
    (sa : Option Addr) (n c : Nat) (xs : List Value) (hs : a.eval s = .slice sa n c) (hown : w0.ownsRow base 23 1 (.slice sa n c) n xs)
    (hx : a.eval x = .slice (some ⟨w0.heap.size, 0, none⟩) 1 1) (hn : n ≤ 4000000000) (hbase : base ≤ w0.heap.size)
    (h : ∀ sa' cap' w', w'.ownsRow base 23 1 (.slice sa' (n + 1) cap') (n + 1) (xs ++ [.slice sv nv cv]) → Keeps (fun k => sa = some ⟨k, 0, none⟩) w0 w' → (∀ k, sa' = some ⟨k, 0, none⟩ → sa = some ⟨k, 0, none⟩ ∨ w0.heap.size ≤ k) → K (a.put o.dst (.slice sa' (n + 1) cap')) w') :
    o.wp Try.prog a (w0.alloc (.cells #[.slice sv nv cv] 23)) K Q := by
  obtain ⟨i0, hi, hz0, hz1, hz2⟩ := info_parts infoRow
  refine wp_app _ s x 30 ho base 23 i0 (.slice none 0 0) 1 24 Try.underlying30 hi hz0 hz1 hz2 rfl (by decide) (.slice sa n c) n xs hs (hown.alloc _) (some ⟨w0.heap.size, 0, none⟩) 1 1 [.slice sv nv cv] hx rfl (fun h => by cases h) (news_one w0 _ _ (0, 0)) (by simp [Value.oneCell']) (by unfold maxLen; omega) (by omega) (by simp; omega) ?_
  intro sa' cap' w' hown' hg hat _
  refine h sa' cap' w' hown' (keeps_app hown hg) (fun k e => ?_)
  subst e
  rcases hat with hat | hat
  · rcases own_addr hown with ⟨rfl, _⟩ | ⟨g, rfl⟩
    · simp [Value.ownBlock] at hat
    · simp [Value.ownBlock] at hat; subst hat; exact Or.inl rfl
  · simp [Value.ownBlock] at hat; exact Or.inr (by omega)

theorem Disk.lt {w : World} {p : Nat} {D : DS} {F : Nat → Prop} (h : Disk w p D F) : ∀ k, F k → k < w.heap.size := by
  obtain ⟨gn, cn, gs, cs, sl, cl, h, rfl⟩ := h
  rintro k (h1 | h1 | h1 | h1)
  · rw [h1]; exact lt_of_heap h.blk
  · rw [h1]; exact (own_lt h.now rfl).2
  · rw [h1]; exact (own_lt h.sure rfl).2
  · exact (own_lt h.lo h1).2

theorem stCells_used (pd half used u2 : Nat) (recs : Value) (sz now turn : Nat) (keys : Value) : (stCells pd half used recs sz now turn keys).setIfInBounds 2 (.int .i64 (u2 : Int)) = stCells pd half u2 recs sz now turn keys := by
  unfold stCells; split <;> rfl
theorem stCells_recs (pd half used : Nat) (recs r2 : Value) (sz now turn : Nat) (keys : Value) : (stCells pd half used recs sz now turn keys).setIfInBounds 3 r2 = stCells pd half used r2 sz now turn keys := by
  unfold stCells; split <;> rfl

/-- What Append leaves, and tells. -/
def SS.append (S : SS) (r : List UInt8) : SS × Int :=
  if S.room < (r.length : Int) then (S, 3) else if S.d.cr then (S, 30)
  else ({ S with d := (S.d.write S.used (recF r)).sync, used := S.used + (r.length + 10), recs := S.recs ++ [r] }, 0)

theorem own_some {w : World} {base : Nat} {e : TypeId} {size : Nat} {sa : Option Addr} {n c m : Nat} {xs : List Value} (h : w.ownsRow base e size (.slice sa n c) m xs) (hn : 0 < n) : ∃ g, sa = some ⟨g, 0, none⟩ := by
  rcases own_addr h with ⟨_, h, _⟩ | h
  · omega
  · exact h
theorem write_len (D : DS) (a : Nat) (l : List UInt8) (h : a + l.length ≤ D.now.length) : (D.write a l).now.length = D.now.length := by
  simp only [DS.write]
  exact length_splice _ _ _ h
theorem mem_snoc {α : Type} {a b : α} {l : List α} (h : a ∈ l ++ [b]) : a ∈ l ∨ a = b := by simpa using h

set_option maxHeartbeats 4000000 in
set_option maxRecDepth 10000 in
theorem append_any (p pd : Nat) (S : SS) (F R : Nat → Prop) (w : World) (h : StoreAt w p pd S F R) (sa : Option Addr) (n cap : Nat) (l : List UInt8) (hl : Sl w sa n cap (BV l)) (hn : n ≤ 65536) (hav : ∀ ad, sa = some ad → 0 < n → ¬ F ad.block) (hlo : S.d.lo.length ≤ 1000000) (hrn : S.recs.length + 1 ≤ 100000) :
    Calls Try.prog 26 #[.pointer (some ⟨p, 0, none⟩), .slice sa n cap] w fun e w' => e = .returned (.int .i64 (S.append l).2) ∧
      ∃ F' R', StoreAt w' p pd (S.append l).1 F' R' ∧ Keeps F w w' ∧ (∀ k, F' k → F k ∨ w.heap.size ≤ k) ∧ (∀ k, R' k → R k ∨ w.heap.size ≤ k) := by
  have hll : l.length = n := by have := hl.len; simpa using this
  have HRM := Lib.hid (room_any p pd S F R w h)
  obtain ⟨rm, hrm⟩ : ∃ rm, S.room = rm := ⟨_, rfl⟩
  rw [hrm] at HRM
  by_cases hfull : rm < (n : Int)
  · have hA : Hid (S.append l = (S, 3)) := by show _ = _; unfold SS.append; rw [hrm, hll, if_pos hfull]
    have HS := Lib.hid h
    have t0 : (n : Int) > rm := hfull
    clear h hl hav hll hrm
    go_enter Try.func26, Try.ntmps26
    go_wp2_with fail
    refine HRM.out.mono ?_
    rintro e w1 ⟨rfl, hk⟩
    have HK := Lib.hid hk
    clear hk HRM
    go_wp2
    go_ret
    rw [hA.out]
    exact ⟨rfl, F, R, HS.out.quiet HK.out, HK.out.mono (fun _ _ h => h.elim), fun _ h => Or.inl h, fun _ h => Or.inl h⟩
  have t0 : ¬ (n : Int) > rm := hfull
  have hfull2 : ¬ S.room < (n : Int) := by rw [hrm]; exact hfull
  have HFU := Lib.hid hfull2
  clear hfull2
  have hfit : S.used + (n + 10) ≤ S.half := by
    have : ¬ S.room < (n : Int) := by rw [hrm]; exact hfull
    unfold SS.room at this
    have h2 : (S.half : Int) - (S.used : Int) - 10 ≥ (n : Int) := by
      rcases Int.le_total ((S.half : Int) - (S.used : Int) - 10) (-1) with h3 | h3
      · rw [Int.max_eq_right h3] at this; omega
      · rw [Int.max_eq_left h3] at this; omega
    omega
  obtain ⟨Fd, so, co, vs, sk, ck, h⟩ := h
  have hhalf : S.half ≤ S.d.now.length := by unfold SS.half; omega
  have hsize := h.size
  have HC := Lib.hid (record_any sa n cap l)
  have HAV := Lib.hid hav
  have HL := Lib.hid hl
  have HLL := Lib.hid hll
  have HB := Lib.hid hlo
  clear hav hl hrm hlo
  obtain ⟨q0, q1, q2, q3, q4, hc⟩ := stCells_get pd S.half S.used (.slice so S.recs.length co) S.sz S.now S.turn (.slice sk S.keys.length ck)
  have hb := h.blk
  have hb' := h.blk
  rw [hc] at hb'
  have c0 := cellAt hb' 0
  have c2 := cellAt hb' 2
  simp at c0 c2
  have hus : S.used ≤ 65536 := by omega
  have HS := Lib.hid (And.intro h hb)
  have hplt := lt_of_heap hb
  clear hb hb' hc
  by_cases hcr : S.d.cr = true
  · have hA : Hid (S.append l = (S, 30)) := by
      show _ = _
      unfold SS.append
      rw [if_neg (by rw [HLL.out]; exact HFU.out), if_pos hcr]
    have hcr2 := Lib.hid hcr
    clear h hcr
    go_enter Try.func26, Try.ntmps26
    go_wp2_with fail
    refine HRM.out.mono ?_
    rintro e w1 ⟨rfl, hk⟩
    have HK := Lib.hid hk
    have HCR := Lib.hid (HC.out w1 (HL.out.quiet hk) (by omega))
    clear hk HRM HC
    go_wp2_with fail
    refine HCR.out.mono ?_
    rintro e w2 ⟨sf, cf, rfl, hown, hk⟩
    replace HK := Lib.hid (HK.out.quiet hk)
    replace c0 := sc HK.out c0
    replace c2 := sc HK.out c2
    clear hown hk HCR
    go_wp2_with fail
    refine z_begin (fun w' => w'.cell? ⟨p, 0, none⟩ = some (.pointer (some ⟨pd, 0, none⟩)) ∧ w'.cell? ⟨p, 2, none⟩ = some (.int .i64 (S.used : Int))) 11 (by kernel_rfl) (⟨c0, c2⟩) (fun hHeld => ?_)
    have hk : Keeps (fun _ => False) w2 (World.drew w2) := (Keeps.refl _ _).drew
    replace HK := Lib.hid (HK.out.quiet hk)
    have hk20 := Lib.hid hk
    clear hk c0 c2
    generalize World.drew w2 = v0 at *
    refine z_take 0 (v := ?_) rfl (by kernel_rfl) (by kernel_rfl) (by kernel_rfl) (by kernel_rfl) (fun _ _ _ h => h) hHeld (by rfl) (fun w hSw => ?_) ?_
    rotate_left
    · obtain ⟨hSw1, hSw2⟩ := hSw; simp only [List.getElem_toArray, List.getElem_cons_zero]; go_simp; try rfl
    simp only [Act.put, List.getElem_toArray, List.getElem_cons_zero, List.setIfInBounds_toArray, List.set_cons_zero, List.set_cons_succ]
    refine z_take 1 (v := ?_) rfl (by kernel_rfl) (by kernel_rfl) (by kernel_rfl) (by kernel_rfl) (fun _ _ _ h => h) hHeld (by rfl) (fun w hSw => ?_) ?_
    rotate_left
    · obtain ⟨hSw1, hSw2⟩ := hSw; simp only [List.getElem_toArray, List.getElem_cons_zero, List.getElem_cons_succ]; go_simp; try rfl
    simp only [Act.put, List.getElem_toArray, List.getElem_cons_zero, List.getElem_cons_succ, List.setIfInBounds_toArray, List.set_cons_zero, List.set_cons_succ]
    refine z_take 2 (v := ?_) rfl (by kernel_rfl) (by kernel_rfl) (by kernel_rfl) (by kernel_rfl) (fun _ _ _ h => h) hHeld (by rfl) (fun w hSw => ?_) ?_
    rotate_left
    · obtain ⟨hSw1, hSw2⟩ := hSw; simp only [List.getElem_toArray, List.getElem_cons_zero, List.getElem_cons_succ]; go_simp; try rfl
    simp only [Act.put, List.getElem_toArray, List.getElem_cons_zero, List.getElem_cons_succ, List.setIfInBounds_toArray, List.set_cons_zero, List.set_cons_succ]
    refine z_take 3 (v := ?_) rfl (by kernel_rfl) (by kernel_rfl) (by kernel_rfl) (by kernel_rfl) (fun _ _ _ h => h) hHeld (by rfl) (fun w hSw => ?_) ?_
    rotate_left
    · obtain ⟨hSw1, hSw2⟩ := hSw; simp only [List.getElem_toArray, List.getElem_cons_zero, List.getElem_cons_succ]; go_simp; try rfl
    simp only [Act.put, List.getElem_toArray, List.getElem_cons_zero, List.getElem_cons_succ, List.setIfInBounds_toArray, List.set_cons_zero, List.set_cons_succ]
    refine z_take 4 (v := ?_) rfl (by kernel_rfl) (by kernel_rfl) (by kernel_rfl) (by kernel_rfl) (fun _ _ _ h => h) hHeld (by rfl) (fun w hSw => ?_) ?_
    rotate_left
    · obtain ⟨hSw1, hSw2⟩ := hSw; simp only [List.getElem_toArray, List.getElem_cons_zero, List.getElem_cons_succ]; go_simp; try rfl
    simp only [Act.put, List.getElem_toArray, List.getElem_cons_zero, List.getElem_cons_succ, List.setIfInBounds_toArray, List.set_cons_zero, List.set_cons_succ]
    refine z_take 5 (v := ?_) rfl (by kernel_rfl) (by kernel_rfl) (by kernel_rfl) (by kernel_rfl) (fun _ _ _ h => h) hHeld (by rfl) (fun w hSw => ?_) ?_
    rotate_left
    · obtain ⟨hSw1, hSw2⟩ := hSw; simp only [List.getElem_toArray, List.getElem_cons_zero, List.getElem_cons_succ]; go_simp; try rfl
    simp only [Act.put, List.getElem_toArray, List.getElem_cons_zero, List.getElem_cons_succ, List.setIfInBounds_toArray, List.set_cons_zero, List.set_cons_succ]
    refine z_take 6 (v := ?_) rfl (by kernel_rfl) (by kernel_rfl) (by kernel_rfl) (by kernel_rfl) (fun _ _ _ h => h) hHeld (by rfl) (fun w hSw => ?_) ?_
    rotate_left
    · obtain ⟨hSw1, hSw2⟩ := hSw; simp only [List.getElem_toArray, List.getElem_cons_zero, List.getElem_cons_succ]; go_simp; try rfl
    simp only [Act.put, List.getElem_toArray, List.getElem_cons_zero, List.getElem_cons_succ, List.setIfInBounds_toArray, List.set_cons_zero, List.set_cons_succ]
    refine z_take 7 (v := ?_) rfl (by kernel_rfl) (by kernel_rfl) (by kernel_rfl) (by kernel_rfl) (fun _ _ _ h => h) hHeld (by rfl) (fun w hSw => ?_) ?_
    rotate_left
    · obtain ⟨hSw1, hSw2⟩ := hSw; simp only [List.getElem_toArray, List.getElem_cons_zero, List.getElem_cons_succ]; go_simp; try rfl
    simp only [Act.put, List.getElem_toArray, List.getElem_cons_zero, List.getElem_cons_succ, List.setIfInBounds_toArray, List.set_cons_zero, List.set_cons_succ]
    refine z_take 8 (v := ?_) rfl (by kernel_rfl) (by kernel_rfl) (by kernel_rfl) (by kernel_rfl) (fun _ _ _ h => h) hHeld (by rfl) (fun w hSw => ?_) ?_
    rotate_left
    · obtain ⟨hSw1, hSw2⟩ := hSw; simp only [List.getElem_toArray, List.getElem_cons_zero, List.getElem_cons_succ]; go_simp; try rfl
    simp only [Act.put, List.getElem_toArray, List.getElem_cons_zero, List.getElem_cons_succ, List.setIfInBounds_toArray, List.set_cons_zero, List.set_cons_succ]
    refine z_one 9 rfl (by kernel_rfl) (by rfl) (fun K hK => ?_)
    simp only [List.getElem_toArray, List.getElem_cons_zero, List.getElem_cons_succ]
    go_simp
    refine (write_down pd (S.used : Int) sf (n + 10) cf S.d Fd v0 ((HS.out.1.disk).keep HK.out (fun _ _ h => h)) hcr2.out).mono ?_
    rintro e v1 ⟨rfl, hk⟩
    replace HK := Lib.hid (HK.out.quiet hk)
    refine hK _ _ (Or.inr ?_) (fun hHeld => ?_)
    · exact ⟨sc hk hHeld.1, sc hk hHeld.2⟩
    clear hK K hk
    replace hHeld := hHeld.resolve_left (by decide)
    try simp only [Act.put, List.setIfInBounds_toArray, List.set_cons_zero, List.set_cons_succ]
    refine z_one 10 rfl (by kernel_rfl) (by rfl) (fun K hK => ?_)
    simp only [List.getElem_toArray, List.getElem_cons_zero, List.getElem_cons_succ]
    go_simp
    refine hK _ _ (Or.inr hHeld) (fun _ => ?_)
    clear hK K
    try simp only [Act.put, List.setIfInBounds_toArray, List.set_cons_zero, List.set_cons_succ]
    refine z_done (by kernel_rfl) ?_ _
    clear hHeld
    have e30 : ((30 : Int) != 0) = true := by decide
    go_wp2
    go_ret
    rw [hA.out]
    exact ⟨rfl, F, R, StoreAt.quiet ⟨Fd, so, co, vs, sk, ck, HS.out.1⟩ HK.out, HK.out.mono (fun _ _ h => h.elim), fun _ h => Or.inl h, fun _ h => Or.inl h⟩
  · have hA : Hid (S.append l = ({ S with d := (S.d.write S.used (recF l)).sync, used := S.used + (n + 10), recs := S.recs ++ [l] }, 0)) := by
      show _ = _
      unfold SS.append
      rw [if_neg (by rw [HLL.out]; exact HFU.out), if_neg hcr, HLL.out]
    have hcr2 := Lib.hid (show S.d.cr = false by simpa using hcr)
    clear h hcr
    go_enter Try.func26, Try.ntmps26
    go_wp2_with fail
    refine HRM.out.mono ?_
    rintro e w1 ⟨rfl, hk⟩
    have HK := Lib.hid hk
    have HCR := Lib.hid (HC.out w1 (HL.out.quiet hk) (by omega))
    clear hk HRM HC
    go_wp2_with fail
    refine HCR.out.mono ?_
    rintro e w2 ⟨sf, cf, rfl, hown, hk⟩
    have hw1 := HK.out.size
    replace HK := Lib.hid (HK.out.quiet hk)
    replace c0 := sc HK.out c0
    replace c2 := sc HK.out c2
    obtain ⟨gf, rfl⟩ := own_some hown (by omega)
    have hgf := (own_lt hown rfl).1
    have HO := Lib.hid hown
    have HG := Lib.hid (show w.heap.size ≤ gf by omega)
    clear hown hk HCR hgf hw1
    go_wp2_with fail
    refine z_begin (fun w' => w'.cell? ⟨p, 0, none⟩ = some (.pointer (some ⟨pd, 0, none⟩)) ∧ w'.cell? ⟨p, 2, none⟩ = some (.int .i64 (S.used : Int))) 11 (by kernel_rfl) (⟨c0, c2⟩) (fun hHeld => ?_)
    have hk : Keeps (fun _ => False) w2 (World.drew w2) := (Keeps.refl _ _).drew
    replace HK := Lib.hid (HK.out.quiet hk)
    have hk20 := Lib.hid hk
    clear hk c0 c2
    generalize World.drew w2 = v0 at *
    refine z_take 0 (v := ?_) rfl (by kernel_rfl) (by kernel_rfl) (by kernel_rfl) (by kernel_rfl) (fun _ _ _ h => h) hHeld (by rfl) (fun w hSw => ?_) ?_
    rotate_left
    · obtain ⟨hSw1, hSw2⟩ := hSw; simp only [List.getElem_toArray, List.getElem_cons_zero]; go_simp; try rfl
    simp only [Act.put, List.getElem_toArray, List.getElem_cons_zero, List.setIfInBounds_toArray, List.set_cons_zero, List.set_cons_succ]
    refine z_take 1 (v := ?_) rfl (by kernel_rfl) (by kernel_rfl) (by kernel_rfl) (by kernel_rfl) (fun _ _ _ h => h) hHeld (by rfl) (fun w hSw => ?_) ?_
    rotate_left
    · obtain ⟨hSw1, hSw2⟩ := hSw; simp only [List.getElem_toArray, List.getElem_cons_zero, List.getElem_cons_succ]; go_simp; try rfl
    simp only [Act.put, List.getElem_toArray, List.getElem_cons_zero, List.getElem_cons_succ, List.setIfInBounds_toArray, List.set_cons_zero, List.set_cons_succ]
    refine z_take 2 (v := ?_) rfl (by kernel_rfl) (by kernel_rfl) (by kernel_rfl) (by kernel_rfl) (fun _ _ _ h => h) hHeld (by rfl) (fun w hSw => ?_) ?_
    rotate_left
    · obtain ⟨hSw1, hSw2⟩ := hSw; simp only [List.getElem_toArray, List.getElem_cons_zero, List.getElem_cons_succ]; go_simp; try rfl
    simp only [Act.put, List.getElem_toArray, List.getElem_cons_zero, List.getElem_cons_succ, List.setIfInBounds_toArray, List.set_cons_zero, List.set_cons_succ]
    refine z_take 3 (v := ?_) rfl (by kernel_rfl) (by kernel_rfl) (by kernel_rfl) (by kernel_rfl) (fun _ _ _ h => h) hHeld (by rfl) (fun w hSw => ?_) ?_
    rotate_left
    · obtain ⟨hSw1, hSw2⟩ := hSw; simp only [List.getElem_toArray, List.getElem_cons_zero, List.getElem_cons_succ]; go_simp; try rfl
    simp only [Act.put, List.getElem_toArray, List.getElem_cons_zero, List.getElem_cons_succ, List.setIfInBounds_toArray, List.set_cons_zero, List.set_cons_succ]
    refine z_take 4 (v := ?_) rfl (by kernel_rfl) (by kernel_rfl) (by kernel_rfl) (by kernel_rfl) (fun _ _ _ h => h) hHeld (by rfl) (fun w hSw => ?_) ?_
    rotate_left
    · obtain ⟨hSw1, hSw2⟩ := hSw; simp only [List.getElem_toArray, List.getElem_cons_zero, List.getElem_cons_succ]; go_simp; try rfl
    simp only [Act.put, List.getElem_toArray, List.getElem_cons_zero, List.getElem_cons_succ, List.setIfInBounds_toArray, List.set_cons_zero, List.set_cons_succ]
    refine z_take 5 (v := ?_) rfl (by kernel_rfl) (by kernel_rfl) (by kernel_rfl) (by kernel_rfl) (fun _ _ _ h => h) hHeld (by rfl) (fun w hSw => ?_) ?_
    rotate_left
    · obtain ⟨hSw1, hSw2⟩ := hSw; simp only [List.getElem_toArray, List.getElem_cons_zero, List.getElem_cons_succ]; go_simp; try rfl
    simp only [Act.put, List.getElem_toArray, List.getElem_cons_zero, List.getElem_cons_succ, List.setIfInBounds_toArray, List.set_cons_zero, List.set_cons_succ]
    refine z_take 6 (v := ?_) rfl (by kernel_rfl) (by kernel_rfl) (by kernel_rfl) (by kernel_rfl) (fun _ _ _ h => h) hHeld (by rfl) (fun w hSw => ?_) ?_
    rotate_left
    · obtain ⟨hSw1, hSw2⟩ := hSw; simp only [List.getElem_toArray, List.getElem_cons_zero, List.getElem_cons_succ]; go_simp; try rfl
    simp only [Act.put, List.getElem_toArray, List.getElem_cons_zero, List.getElem_cons_succ, List.setIfInBounds_toArray, List.set_cons_zero, List.set_cons_succ]
    refine z_take 7 (v := ?_) rfl (by kernel_rfl) (by kernel_rfl) (by kernel_rfl) (by kernel_rfl) (fun _ _ _ h => h) hHeld (by rfl) (fun w hSw => ?_) ?_
    rotate_left
    · obtain ⟨hSw1, hSw2⟩ := hSw; simp only [List.getElem_toArray, List.getElem_cons_zero, List.getElem_cons_succ]; go_simp; try rfl
    simp only [Act.put, List.getElem_toArray, List.getElem_cons_zero, List.getElem_cons_succ, List.setIfInBounds_toArray, List.set_cons_zero, List.set_cons_succ]
    refine z_take 8 (v := ?_) rfl (by kernel_rfl) (by kernel_rfl) (by kernel_rfl) (by kernel_rfl) (fun _ _ _ h => h) hHeld (by rfl) (fun w hSw => ?_) ?_
    rotate_left
    · obtain ⟨hSw1, hSw2⟩ := hSw; simp only [List.getElem_toArray, List.getElem_cons_zero, List.getElem_cons_succ]; go_simp; try rfl
    simp only [Act.put, List.getElem_toArray, List.getElem_cons_zero, List.getElem_cons_succ, List.setIfInBounds_toArray, List.set_cons_zero, List.set_cons_succ]
    refine z_one 9 rfl (by kernel_rfl) (by rfl) (fun K hK => ?_)
    simp only [List.getElem_toArray, List.getElem_cons_zero, List.getElem_cons_succ]
    go_simp
    refine (write_ok pd S.used (recF l) (n + 10) (some ⟨gf, 0, none⟩) gf 0 cf S.d Fd v0 ((HS.out.1.disk).keep HK.out (fun _ _ h => h)) hcr2.out (by rw [recF_length, HLL.out]) (fun _ => rfl) (fun j c hj => by rw [Nat.zero_add]; exact own_cell (own_keep HO.out hk20.out (fun _ _ h => h)) j _ (by rw [BV_get, hj]; rfl)) (fun _ hf => by have h1 := HS.out.1.disk.lt gf hf; have h2 := HG.out; omega) (by omega) hsize HB.out).mono ?_
    rintro e v1 ⟨rfl, F1, h1, h2, h3⟩
    have HW : Hid (∃ F1, Disk v1 pd (S.d.write S.used (recF l)) F1 ∧ Keeps Fd v0 v1 ∧ ∀ k, F1 k → Fd k ∨ v0.heap.size ≤ k) := ⟨F1, h1, h2, h3⟩
    have HKV := Lib.hid h2
    refine hK _ _ (Or.inr ?_) (fun hHeld => ?_)
    · exact ⟨by rw [h2.cell (World.block_lt_of_cell? _ _ hHeld.1) HS.out.1.pd_]; exact hHeld.1, by rw [h2.cell (World.block_lt_of_cell? _ _ hHeld.2) HS.out.1.pd_]; exact hHeld.2⟩
    clear hK K h1 h2 h3
    replace hHeld := hHeld.resolve_left (by decide)
    try simp only [Act.put, List.setIfInBounds_toArray, List.set_cons_zero, List.set_cons_succ]
    refine z_one 10 rfl (by kernel_rfl) (by rfl) (fun K hK => ?_)
    simp only [List.getElem_toArray, List.getElem_cons_zero, List.getElem_cons_succ]
    go_simp
    refine hK _ _ (Or.inr hHeld) (fun _ => ?_)
    clear hK K
    try simp only [Act.put, List.setIfInBounds_toArray, List.set_cons_zero, List.set_cons_succ]
    refine z_done (by kernel_rfl) ?_ _
    obtain ⟨F1, h1, h2, h3⟩ := HW.out
    have KG1 : Keeps (fun k => k = p ∨ Fd k) w v1 := (HK.out.mono (fun _ _ h => h.elim)).trans h2 (fun k _ h => Or.inr h)
    have hnp1 : ¬ F1 p := fun hf => (h3 p hf).elim HS.out.1.pd_ (fun h => by have := HK.out.size; omega)
    have HSY := Lib.hid (sync_ok pd _ F1 v1 h1 hcr2.out)
    have HW1 := Lib.hid (And.intro KG1 (And.intro hnp1 h3))
    obtain ⟨c0, c2⟩ := hHeld
    clear HW KG1 hnp1 h1 h2 h3
    have e00 : ((0 : Int) != 0) = false := by decide
    go_wp2_with fail
    refine HSY.out.mono ?_
    rintro e v2 ⟨rfl, F2, h4, h5, h6⟩
    have hK2 : Hid (Keeps (fun k => k = p ∨ Fd k) w v2 ∧ ¬ F2 p ∧ ∀ k, F2 k → Fd k ∨ w.heap.size ≤ k) := by
      obtain ⟨k1, k2, k3⟩ := HW1.out
      have hs1 := HK.out.size
      have hs2 := k1.size
      have hf2 : ∀ k, F2 k → Fd k ∨ w.heap.size ≤ k := fun k hf => (h6 k hf).elim (fun h => (k3 k h).imp id (fun h => by omega)) (fun h => Or.inr (by omega))
      refine ⟨k1.trans h5 (fun k hk hf => (k3 k hf).elim Or.inr (fun h => by omega)), fun hf => (hf2 p hf).elim HS.out.1.pd_ (fun h => by omega), hf2⟩
    have HD2 := Lib.hid h4
    have hb2 : v2.heap[p]? = some (.cells (stCells pd S.half S.used (.slice so S.recs.length co) S.sz S.now S.turn (.slice sk S.keys.length ck)) 74 (0, 0)) := by
      rw [h5.block p (by have := HW1.out.1.size; omega) HW1.out.2.1]
      exact (HKV.out.block p (by have := HK.out.size; omega) HS.out.1.pd_).trans ((HK.out.block p hplt (fun h => h)).trans HS.out.2)
    have d2 : v2.cell? ⟨p, 2, none⟩ = some (.int .i64 (S.used : Int)) := by
      rw [h5.cell (World.block_lt_of_cell? _ _ c2) HW1.out.2.1]; exact c2
    have d2f := freeAt hb2 2
    have hb3 : (v2.setCell ⟨p, 2, none⟩ (.int .i64 ((S.used + (n + 10) : Nat) : Int))).heap[p]? = some (.cells (stCells pd S.half (S.used + (n + 10)) (.slice so S.recs.length co) S.sz S.now S.turn (.slice sk S.keys.length ck)) 74 (0, 0)) := by
      rw [heap_setCell_at hb2, stCells_used]
    have hk3 : Keeps (fun k => k = p) v2 (v2.setCell ⟨p, 2, none⟩ (.int .i64 ((S.used + (n + 10) : Nat) : Int))) := (Keeps.refl (fun k => k = p) v2).setCell (p := ⟨p, 2, none⟩) (fun _ => rfl) _
    obtain ⟨v3, hv3⟩ : ∃ v, v2.setCell ⟨p, 2, none⟩ (.int .i64 ((S.used + (n + 10) : Nat) : Int)) = v := ⟨_, rfl⟩
    rw [hv3] at hb3 hk3
    have H3 := Lib.hid (And.intro hb3 hk3)
    obtain ⟨q0, q1, q2, q3, q4, hc⟩ := stCells_get pd S.half (S.used + (n + 10)) (.slice so S.recs.length co) S.sz S.now S.turn (.slice sk S.keys.length ck)
    have hb4 := hb3
    rw [hc] at hb4
    have c3 := cellAt hb4 3
    have c3f := freeAt hb4 3
    simp at c3
    have KG3 : Hid (Keeps (fun k => k = p ∨ Fd k) w v3) := hK2.out.1.trans hk3 (fun k _ h => Or.inl h)
    obtain ⟨nu, hnu⟩ : ∃ nu, S.used + (n + 10) = nu := ⟨_, rfl⟩
    have enu : (S.used : Int) + ((n : Int) + 10) = (nu : Int) := by omega
    rw [hnu] at hv3
    have HNU := Lib.hid hnu
    clear hHeld c0 c2 h4 h5 h6 HSY hb2 hb3 hk3 hc hb4 hnu HO
    go_wp2_with fail
    clear hv3 d2 d2f
    refine z_begin (fun w' => w'.cell? ⟨p, 3, none⟩ = some (.slice so S.recs.length co) ∧ w'.frozen? ⟨p, 3, none⟩ = false) 11 (by kernel_rfl) (⟨c3, c3f⟩) (fun hHeld => ?_)
    have hk : Keeps (fun _ => False) v3 (World.drew v3) := (Keeps.refl _ _).drew
    have HK3 := Lib.hid hk
    clear hk c3 c3f
    generalize World.drew v3 = u0 at *
    refine z_take 0 (v := ?_) rfl (by kernel_rfl) (by kernel_rfl) (by kernel_rfl) (by kernel_rfl) (fun _ _ _ h => h) hHeld (by rfl) (fun w hSw => ?_) ?_
    rotate_left
    · obtain ⟨hSw1, hSw2⟩ := hSw; simp only [List.getElem_toArray, List.getElem_cons_zero]; go_simp; try rfl
    simp only [Act.put, List.getElem_toArray, List.getElem_cons_zero, List.setIfInBounds_toArray, List.set_cons_zero, List.set_cons_succ]
    refine z_take 1 (v := ?_) rfl (by kernel_rfl) (by kernel_rfl) (by kernel_rfl) (by kernel_rfl) (fun _ _ _ h => h) hHeld (by rfl) (fun w hSw => ?_) ?_
    rotate_left
    · obtain ⟨hSw1, hSw2⟩ := hSw; simp only [List.getElem_toArray, List.getElem_cons_zero, List.getElem_cons_succ]; go_simp; try rfl
    simp only [Act.put, List.getElem_toArray, List.getElem_cons_zero, List.getElem_cons_succ, List.setIfInBounds_toArray, List.set_cons_zero, List.set_cons_succ]
    refine z_take 2 (v := ?_) rfl (by kernel_rfl) (by kernel_rfl) (by kernel_rfl) (by kernel_rfl) (fun _ _ _ h => h) hHeld (by rfl) (fun w hSw => ?_) ?_
    rotate_left
    · obtain ⟨hSw1, hSw2⟩ := hSw; simp only [List.getElem_toArray, List.getElem_cons_zero, List.getElem_cons_succ]; go_simp; try rfl
    simp only [Act.put, List.getElem_toArray, List.getElem_cons_zero, List.getElem_cons_succ, List.setIfInBounds_toArray, List.set_cons_zero, List.set_cons_succ]
    refine z_take 3 (v := ?_) rfl (by kernel_rfl) (by kernel_rfl) (by kernel_rfl) (by kernel_rfl) (fun _ _ _ h => h) hHeld (by rfl) (fun w hSw => ?_) ?_
    rotate_left
    · obtain ⟨hSw1, hSw2⟩ := hSw; simp only [List.getElem_toArray, List.getElem_cons_zero, List.getElem_cons_succ]; go_simp; try rfl
    simp only [Act.put, List.getElem_toArray, List.getElem_cons_zero, List.getElem_cons_succ, List.setIfInBounds_toArray, List.set_cons_zero, List.set_cons_succ]
    refine z_take 4 (v := ?_) rfl (by kernel_rfl) (by kernel_rfl) (by kernel_rfl) (by kernel_rfl) (fun _ _ _ h => h) hHeld (by rfl) (fun w hSw => ?_) ?_
    rotate_left
    · obtain ⟨hSw1, hSw2⟩ := hSw; simp only [List.getElem_toArray, List.getElem_cons_zero, List.getElem_cons_succ]; go_simp; try rfl
    simp only [Act.put, List.getElem_toArray, List.getElem_cons_zero, List.getElem_cons_succ, List.setIfInBounds_toArray, List.set_cons_zero, List.set_cons_succ]
    refine z_take 5 (v := ?_) rfl (by kernel_rfl) (by kernel_rfl) (by kernel_rfl) (by kernel_rfl) (fun _ _ _ h => h) hHeld (by rfl) (fun w hSw => ?_) ?_
    rotate_left
    · obtain ⟨hSw1, hSw2⟩ := hSw; simp only [List.getElem_toArray, List.getElem_cons_zero, List.getElem_cons_succ]; go_simp; try rfl
    simp only [Act.put, List.getElem_toArray, List.getElem_cons_zero, List.getElem_cons_succ, List.setIfInBounds_toArray, List.set_cons_zero, List.set_cons_succ]
    refine z_one 6 rfl (by kernel_rfl) (by rfl) (fun K hK => ?_)
    simp only [List.getElem_toArray, List.getElem_cons_zero, List.getElem_cons_succ]
    go_simp
    have hls : Sl u0 sa n cap (BV l) := (HL.out.keep KG3.out (fun ad e h0 _ hG => HAV.out ad e h0 ((HS.out.1.foot _).2 (hG.imp id Or.inl)))).quiet HK3.out
    refine (clone_any sa n cap l u0 hls (by omega)).mono ?_
    rintro e u1 ⟨sc_, cc, rfl, hown, hk⟩
    have HC := Lib.hid (And.intro hown hk)
    refine hK _ _ (Or.inr ?_) (fun hHeld => ?_)
    · refine ⟨sc hk hHeld.1, ?_⟩
      rw [hk.frozen (World.block_lt_of_cell? _ _ hHeld.1) (fun h => h)]; exact hHeld.2
    clear hK K hk hown hls
    replace hHeld := hHeld.resolve_left (by decide)
    try simp only [Act.put, List.setIfInBounds_toArray, List.set_cons_zero, List.set_cons_succ]
    refine z_one 7 rfl (by kernel_rfl) (by rfl) (fun K hK => ?_)
    simp only [List.getElem_toArray, List.getElem_cons_zero, List.getElem_cons_succ]
    go_simp
    have hk : Keeps (fun _ => False) u1 (u1.alloc (.cells #[.slice sc_ n cc] 23)) := (Keeps.refl _ u1).alloc _
    refine hK _ _ (Or.inr ?_) (fun hHeld => ?_)
    · refine ⟨sc hk hHeld.1, ?_⟩
      rw [hk.frozen (World.block_lt_of_cell? _ _ hHeld.1) (fun h => h)]; exact hHeld.2
    clear hK K hk
    replace hHeld := hHeld.resolve_left (by decide)
    try simp only [Act.put, List.setIfInBounds_toArray, List.set_cons_zero, List.set_cons_succ]
    refine z_one 8 rfl (by kernel_rfl) (by rfl) (fun K hK => ?_)
    simp only [List.getElem_toArray, List.getElem_cons_zero, List.getElem_cons_succ]
    have hsop : so ≠ some ⟨p, 0, none⟩ := by
      intro e
      obtain ⟨cur, hcur⟩ := own_blk HS.out.1.out e
      rw [HS.out.2] at hcur
      simp at hcur
    have hown1 : u1.ownsRow 0 23 1 (.slice so S.recs.length co) S.recs.length vs := by
      refine own_keep (own_keep (own_keep HS.out.1.out KG3.out (fun k e h => ?_)) HK3.out (fun _ _ h => h)) HC.out.2 (fun _ _ h => h)
      have e2 : so = some ⟨k, 0, none⟩ := by
        rcases own_addr HS.out.1.out with ⟨rfl, _⟩ | ⟨g', rfl⟩
        · simp [Value.ownBlock] at e
        · simp [Value.ownBlock] at e; rw [e]
      rcases h with h | h
      · subst h; exact hsop e2
      · exact HS.out.1.od k e2 h
    refine wp_pushV u1 sc_ n cc (.tmp 49) (.tmp 52) rfl 0 so S.recs.length co vs rfl hown1 rfl (by omega) (Nat.zero_le _) ?_
    intro s2 cap2 u3 hown2 hk2 hat
    have hlow : ∀ k, so = some ⟨k, 0, none⟩ → k < w.heap.size := fun k e => (own_lt HS.out.1.out e).2
    have hsz3 : w.heap.size ≤ v3.heap.size := KG3.out.size
    have hszu : v3.heap.size ≤ u0.heap.size := HK3.out.size
    have hszu1 : u0.heap.size ≤ u1.heap.size := HC.out.2.size
    have hpo : ¬ (so = some ⟨p, 0, none⟩) := hsop
    have hcell : ∀ v, u1.cell? ⟨p, 3, none⟩ = some v → u3.cell? ⟨p, 3, none⟩ = some v := fun v hv => by
      rw [hk2.cell (World.block_lt_of_cell? _ _ hv) hpo]; exact hv
    have HA2 := Lib.hid (And.intro hown2 (And.intro hk2 (And.intro hat (And.intro hlow (And.intro hsz3 (And.intro hszu (And.intro hszu1 hpo)))))))
    have h1c : u1.cell? ⟨p, 3, none⟩ = some (.slice so S.recs.length co) := by
      have hb6 : u1.heap[p]? = v3.heap[p]? := (HC.out.2.block p (by omega) (fun h => h)).trans (HK3.out.block p (by omega) (fun h => h))
      have := hHeld.1
      rw [World.cell?_of_block (w := u1) (Below.heap_alloc _ _ _ (by show p < _; omega))] at this
      exact this
    have h1f : u1.frozen? ⟨p, 3, none⟩ = false := by
      have := hHeld.2
      rw [World.frozen?_of_block (w := u1) (Below.heap_alloc _ _ _ (by show p < _; omega))] at this
      exact this
    refine hK _ _ (Or.inr ?_) (fun hHeld => ?_)
    · refine ⟨hcell _ h1c, ?_⟩
      rw [hk2.frozen (World.block_lt_of_cell? _ _ h1c) hpo]; exact h1f
    clear hK K hown1 hown2 hk2 hat hlow hsz3 hszu hszu1 hpo hcell h1c h1f hsop
    replace hHeld := hHeld.resolve_left (by decide)
    try simp only [Act.put, List.setIfInBounds_toArray, List.set_cons_zero, List.set_cons_succ]
    refine z_one 9 rfl (by kernel_rfl) (by rfl) (fun K hK => ?_)
    simp only [List.getElem_toArray, List.getElem_cons_zero, List.getElem_cons_succ]
    go_simp
    refine hK _ _ (Or.inr ?_) (fun hHeld => ?_)
    · exact hHeld
    clear hK K
    replace hHeld := hHeld.resolve_left (by decide)
    try simp only [Act.put, List.setIfInBounds_toArray, List.set_cons_zero, List.set_cons_succ]
    refine z_one 10 rfl (by kernel_rfl) (by rfl) (fun K hK => ?_)
    simp only [List.getElem_toArray, List.getElem_cons_zero, List.getElem_cons_succ]
    go_simp
    refine hK _ _ (Or.inr ?_) (fun hHeld => ?_)
    · exact hHeld
    clear hK K
    replace hHeld := hHeld.resolve_left (by decide)
    try simp only [Act.put, List.setIfInBounds_toArray, List.set_cons_zero, List.set_cons_succ]
    refine z_one 11 rfl (by kernel_rfl) (by rfl) (fun K hK => ?_)
    simp only [List.getElem_toArray, List.getElem_cons_zero, List.getElem_cons_succ]
    obtain ⟨g3, g3f⟩ := hHeld
    go_simp
    have HFIN : Hid (∃ F' R', StoreAt (u3.setCell ⟨p, 3, none⟩ (.slice s2 (S.recs.length + 1) cap2)) p pd { S with d := (S.d.write S.used (recF l)).sync, used := S.used + (n + 10), recs := S.recs ++ [l] } F' R' ∧ Keeps F w (u3.setCell ⟨p, 3, none⟩ (.slice s2 (S.recs.length + 1) cap2)) ∧ (∀ k, F' k → F k ∨ w.heap.size ≤ k) ∧ (∀ k, R' k → R k ∨ w.heap.size ≤ k)) := by
      obtain ⟨a1, a2, a3, a4, a5, a6, a7, a8⟩ := HA2.out
      obtain ⟨b1, b2, b3⟩ := hK2.out
      have hst := HS.out.1
      have hcl := HC.out.1
      have k4 : Keeps (fun k => k = p) u3 (u3.setCell ⟨p, 3, none⟩ (.slice s2 (S.recs.length + 1) cap2)) := (Keeps.refl (fun k => k = p) u3).setCell (p := ⟨p, 3, none⟩) (fun _ => rfl) _
      obtain ⟨u4, hu4⟩ : ∃ u, u3.setCell ⟨p, 3, none⟩ (.slice s2 (S.recs.length + 1) cap2) = u := ⟨_, rfl⟩
      have hF2lt : ∀ k, F2 k → k < v2.heap.size := HD2.out.lt
      have hv23 : v2.heap.size ≤ v3.heap.size := H3.out.2.size
      have hu13 : u1.heap.size ≤ u3.heap.size := a2.size
      have kvu : Keeps (fun _ => False) v3 u1 := HK3.out.quiet HC.out.2
      -- the block of the store
      have hb7 : u3.heap[p]? = some (.cells (stCells pd S.half (S.used + (n + 10)) (.slice so S.recs.length co) S.sz S.now S.turn (.slice sk S.keys.length ck)) 74 (0, 0)) :=
        (a2.block p (by omega) a8).trans ((kvu.block p (by omega) (fun h => h)).trans H3.out.1)
      have hb8 : u4.heap[p]? = some (.cells (stCells pd S.half (S.used + (n + 10)) (.slice s2 (S.recs.length + 1) cap2) S.sz S.now S.turn (.slice sk S.keys.length ck)) 74 (0, 0)) := by
        rw [← hu4, heap_setCell_at hb7, stCells_recs]
      rw [hu4] at k4 ⊢
      have hu34 : u3.heap.size ≤ u4.heap.size := k4.size
      have kA : Keeps (fun k => k = p ∨ so = some ⟨k, 0, none⟩) v2 u4 :=
        (((H3.out.2.mono (fun _ _ h => Or.inl h)).quiet kvu).trans a2 (fun k _ h => Or.inr h)).trans k4 (fun k _ h => Or.inl h)
      have kT : Keeps (fun k => k = p ∨ Fd k ∨ so = some ⟨k, 0, none⟩) w u4 :=
        (b1.mono (fun k _ h => h.imp id Or.inl)).trans kA (fun k _ h => h.elim Or.inl (fun h => Or.inr (Or.inr h)))
      have kTF : Keeps F w u4 := kT.mono (fun k _ h => (hst.foot k).2 h)
      have hsof2 : ∀ k, so = some ⟨k, 0, none⟩ → ¬ F2 k := fun k e hf => (b3 k hf).elim (hst.od k e) (fun h => by have := a4 k e; omega)
      have hs2f2 : ∀ k, s2 = some ⟨k, 0, none⟩ → ¬ F2 k := fun k e hf => (a3 k e).elim (fun h => hsof2 k h hf) (fun h => by have := hF2lt k hf; omega)
      have hscb : ∀ k, sc_ = some ⟨k, 0, none⟩ → u0.heap.size ≤ k ∧ k < u1.heap.size := fun k e => own_lt hcl e
      have hscs : ∀ k, sc_ = some ⟨k, 0, none⟩ → ¬ so = some ⟨k, 0, none⟩ := fun k e e2 => by have := (hscb k e).1; have := a4 k e2; omega
      have hclu : u4.ownsRow u0.heap.size 5 1 (.slice sc_ n cc) n (BV l) := by
        refine own_keep (own_keep hcl a2 (fun k e h => ?_)) k4 (fun k e h => ?_)
        · rcases own_addr hcl with ⟨rfl, _⟩ | ⟨g', rfl⟩
          · simp [Value.ownBlock] at e
          · simp [Value.ownBlock] at e; exact hscs k (by rw [e]) h
        · have := (hcl.lt k e).1; omega
      have hlen : ({ S with d := (S.d.write S.used (recF l)).sync, used := S.used + (n + 10), recs := S.recs ++ [l] } : SS).d.now.length = S.d.now.length := write_len S.d S.used (recF l) (by rw [recF_length, HLL.out]; omega)
      have hhalf2 : ({ S with d := (S.d.write S.used (recF l)).sync, used := S.used + (n + 10), recs := S.recs ++ [l] } : SS).half = S.half := by unfold SS.half; rw [hlen]
      have hsz2 : ({ S with d := (S.d.write S.used (recF l)).sync, used := S.used + (n + 10), recs := S.recs ++ [l] } : SS).sz = S.sz := by unfold SS.sz; rw [hlen]
      have hRno : ∀ k, R k → ¬ (k = p ∨ Fd k ∨ so = some ⟨k, 0, none⟩) := fun k hr hf => hst.apart k hr ((hst.foot k).2 hf)
      have hGR : ∀ k, (k = p ∨ Fd k ∨ so = some ⟨k, 0, none⟩) → ¬ R k := fun k hf hr => hRno k hr hf
      refine ⟨fun k => k = p ∨ F2 k ∨ s2 = some ⟨k, 0, none⟩, fun k => R k ∨ sc_ = some ⟨k, 0, none⟩, ⟨F2, s2, cap2, vs ++ [.slice sc_ n cc], sk, ck, ?_⟩, kTF, ?_, ?_⟩
      · refine { blk := ?_, disk := ?_, out := ?_, rows := ?_, keys := ?_, rin := ?_, kin := ?_, apart := ?_, pd_ := b2, od := hs2f2, foot := fun k => Iff.rfl, rlt := ?_, flt := ?_, now1 := hst.now1, nowT := hst.nowT, turn0 := hst.turn0, usedH := ?_, size := ?_, small := ?_ }
        · rw [hhalf2, hsz2, hb8]; simp
        · exact HD2.out.keep kA (fun k hf h => h.elim (fun h => by subst h; exact b2 hf) (fun h => hsof2 k h hf))
        · have := own_keep a1 k4 (fun k e h => by
            subst h
            have e2 : s2 = some ⟨k, 0, none⟩ := by
              rcases own_addr a1 with ⟨rfl, _⟩ | ⟨g', rfl⟩
              · simp [Value.ownBlock] at e
              · simp [Value.ownBlock] at e; rw [e]
            exact (a3 k e2).elim a8 (fun h => by omega))
          simpa using this
        · exact (rows_keep hst.rows hst.rin kT hGR).snoc HLL.out (Sl.of_own hclu)
        · exact sl_keep hst.keys hst.kin kT hGR
        · intro v hv
          rcases mem_snoc hv with hv | rfl
          · exact fun ad m c e h0 => Or.inl (hst.rin v hv ad m c e h0)
          · intro ad m c e h0
            simp only [Value.slice.injEq] at e
            obtain ⟨e1, rfl, rfl⟩ := e
            obtain ⟨g', hg'⟩ := own_some hcl h0
            rw [hg'] at e1
            cases e1
            exact Or.inr hg'
        · exact fun ad m c e h0 => Or.inl (hst.kin ad m c e h0)
        · rintro k (hr | hr) hf
          · have hkw := hst.rlt k hr
            rcases hf with hf | hf | hf
            · exact hRno k hr (Or.inl hf)
            · exact (b3 k hf).elim (fun h => hRno k hr (Or.inr (Or.inl h))) (fun h => by omega)
            · exact (a3 k hf).elim (fun h => hRno k hr (Or.inr (Or.inr h))) (fun h => by omega)
          · have hkb := hscb k hr
            rcases hf with hf | hf | hf
            · omega
            · have := hF2lt k hf; omega
            · exact (a3 k hf).elim (fun h => hscs k hr h) (fun h => by omega)
        · rintro k (hr | hr)
          · have := hst.rlt k hr; have := kT.size; omega
          · have := (hscb k hr).2; omega
        · rintro k (hf | hf | hf)
          · have := kT.size; omega
          · have := hF2lt k hf; omega
          · have := (own_lt a1 hf).2; omega
        · rw [hhalf2]; exact hfit
        · rw [hlen]; exact hst.size
        · refine ⟨by simp; omega, hst.small.2.1, hst.small.2.2.1, fun r hr => ?_⟩
          rcases mem_snoc hr with hr | rfl
          · exact hst.small.2.2.2 r hr
          · rw [HLL.out]; exact hn
      · rintro k (hf | hf | hf)
        · exact Or.inl ((hst.foot k).2 (Or.inl hf))
        · exact (b3 k hf).imp (fun h => (hst.foot k).2 (Or.inr (Or.inl h))) id
        · exact (a3 k hf).imp (fun h => (hst.foot k).2 (Or.inr (Or.inr h))) (fun h => by omega)
      · rintro k (hr | hr)
        · exact Or.inl hr
        · exact Or.inr (by have := (hscb k hr).1; omega)
    refine hK _ _ (Or.inl rfl) (fun _ => ?_)
    clear hK K
    try simp only [Act.put, List.setIfInBounds_toArray, List.set_cons_zero, List.set_cons_succ]
    refine z_done (by kernel_rfl) ?_ _
    have hHeld := True.intro
    clear hHeld
    go_wp2
    go_ret
    rw [hA.out]
    exact ⟨rfl, HFIN.out⟩
end Go.Proofs.Ytpojkhjenbbodaa
