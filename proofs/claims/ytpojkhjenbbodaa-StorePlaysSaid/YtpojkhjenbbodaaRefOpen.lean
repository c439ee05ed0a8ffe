/-
  The reference's Open. Conditions: a disk of the reference of 64 to 65536 bytes that is up.
-/
import Derived.Test.YtpojkhjenbbodaaRefCells
import Derived.Test.YtpojkhjenbbodaaLate
import Derived.Deep.DeepCutAuto
namespace Go.Proofs.Ytpojkhjenbbodaa
open Go.RowKit

/-- How far the records are used, as a number. -/
def usedOf (w : World) (b : Nat) : Nat := match w.cell? ⟨b, 6, none⟩ with
  | some (.int _ z) => z.toNat
  | _ => 0
theorem parse_cut (l : List UInt8) (half fr : Nat) (h1 : fr ≤ half) (h2 : half ≤ l.length) : parse 0 smRec (l.take half) fr = (parse 0 smRec (cut l fr (half - fr)) 0).map fun v => (v.1, v.2.1, fr + v.2.2) := by
  have e : l.take half = l.take fr ++ cut l fr (half - fr) := by
    rw [← take_cut]
    congr 1
    omega
  have hl : (l.take fr).length = fr := by rw [List.length_take]; omega
  rw [e]
  have := parse_at 0 smRec (l.take fr) (cut l fr (half - fr))
  rw [hl] at this
  exact this

/-- At the head of the loop that reads records. -/
def RfA (W : World) (now : List UInt8) (half b3 : Nat) (C : Int → Value → Array Value) (gn : Nat) (wr : World) : Prop :=
  ∃ (fr k : Nat) (rs : List (List UInt8)) (so : Option Addr) (co : Nat) (vs : List Value), wr.heap[b3]? = some (.cells (C (fr : Int) (.slice so rs.length co)) 41 (0, 0)) ∧
    wr.ownsRow (b3 + 1) 23 1 (.slice so rs.length co) rs.length vs ∧ RowsS wr vs rs ∧ (∀ x ∈ vs, ∃ o n c, x = .slice (some ⟨gn, o, none⟩) n c) ∧ Keeps (fun j => j = b3) W wr ∧
    half < fr + k ∧ (rs ++ (recsF (now.take half) k fr).1, (recsF (now.take half) k fr).2) = recsOf (now.take half) ∧ 10 * rs.length ≤ fr ∧ fr ≤ half
/-- Behind it. -/
def RfE (W : World) (now : List UInt8) (half b3 : Nat) (C : Int → Value → Array Value) (gn : Nat) (wr : World) : Prop :=
  ∃ (fr : Nat) (rs : List (List UInt8)) (so : Option Addr) (co : Nat) (vs : List Value), wr.heap[b3]? = some (.cells (C (fr : Int) (.slice so rs.length co)) 41 (0, 0)) ∧
    wr.ownsRow (b3 + 1) 23 1 (.slice so rs.length co) rs.length vs ∧ RowsS wr vs rs ∧ (∀ x ∈ vs, ∃ o n c, x = .slice (some ⟨gn, o, none⟩) n c) ∧ Keeps (fun j => j = b3) W wr ∧
    (rs, fr) = recsOf (now.take half) ∧ 10 * rs.length ≤ fr ∧ fr ≤ half
theorem RfA.done {W : World} {now : List UInt8} {half b3 gn : Nat} {C : Int → Value → Array Value} {wr wx : World} {fr k : Nat} {rs : List (List UInt8)} {so : Option Addr} {co : Nat} {vs : List Value} (hb : wr.heap[b3]? = some (.cells (C (fr : Int) (.slice so rs.length co)) 41 (0, 0)))
    (ho : wr.ownsRow (b3 + 1) 23 1 (.slice so rs.length co) rs.length vs) (hr : RowsS wr vs rs) (hg : ∀ x ∈ vs, ∃ o n c, x = .slice (some ⟨gn, o, none⟩) n c) (hk : Keeps (fun j => j = b3) W wr)
    (he : (rs ++ (recsF (now.take half) k fr).1, (recsF (now.take half) k fr).2) = recsOf (now.take half)) (ht : 10 * rs.length ≤ fr) (hf : fr ≤ half) (hq : Keeps (fun _ => False) wr wx) (hp : parse 0 smRec (now.take half) fr = none) : RfE W now half b3 C gn wx := by
  rw [recsF_none _ k fr hp, List.append_nil] at he
  exact ⟨fr, rs, so, co, vs, (hq.block b3 (lt_of_heap hb) (fun h => h)).trans hb, own_keep ho hq (fun _ _ h => h), hr.quiet hq, hg, hk.quiet hq, he, ht, hf⟩

/-- Behind a write into a disk of one's own. -/
def RfW (W : World) (D1 : DS) (vd : Array Value) (s12 : Value) (wx : World) : Prop :=
  ∃ (b4 : Nat) (v1 : Array Value), s12 = .pointer (some ⟨b4, 0, none⟩) ∧ wx.heap[b4]? = some (.cells v1 38 (0, 0)) ∧ RefAt wx 0 v1 D1 ∧ RGrow W vd v1 ∧ Keeps (fun _ => False) W wx ∧ W.heap.size ≤ b4
/-- What the reference's Open leaves. -/
def OpenPost (w : World) (D : DS) (vd : Array Value) (e : Ending) (w' : World) : Prop := ∃ v, e = .returned (.tuple #[.agg v, .int .i64 0]) ∧ (∀ P : Nat → Prop, RF P vd → (∀ j, w.heap.size ≤ j → P j) → RsAt w' P v (openS D)) ∧ Keeps (fun _ => False) w w'
/-- At the head of the loop that clears the places. -/
def RfC (W : World) (b4 : Nat) (vd : Array Value) (D0 D1 D2 : DS) (i : Value) (wx : World) : Prop :=
  ∃ v1 : Array Value, ((i = .int .i64 0 ∧ RefAt wx 0 v1 D0) ∨ (i = .int .i64 1 ∧ RefAt wx 0 v1 D1) ∨ (i = .int .i64 2 ∧ RefAt wx 0 v1 D2)) ∧ wx.heap[b4]? = some (.cells v1 38 (0, 0)) ∧ RGrow W vd v1 ∧ Keeps (fun j => j = b4) W wx
def RfX (W : World) (b4 : Nat) (vk : Array Value) (D2 : DS) (wx : World) : Prop :=
  ∃ v2 : Array Value, RefAt wx 0 v2 D2 ∧ wx.heap[b4]? = some (.cells v2 38 (0, 0)) ∧ RGrow W vk v2 ∧ Keeps (fun j => j = b4) W wx
theorem RfC.next0 {W wx wy : World} {b4 : Nat} {vd vk v2 : Array Value} {D0 D1 D2 E : DS} (h1 : RGrow W vd vk) (h2 : Keeps (fun j => j = b4) W wx) (h3 : RefAt wy 0 v2 E) (h4 : wy.heap[b4]? = some (.cells v2 38 (0, 0))) (h5 : RGrow wx vk v2) (h6 : Keeps (fun j => j = b4) wx wy) (he : D1 = E) : RfC W b4 vd D0 D1 D2 (.int .i64 1) wy :=
  ⟨v2, Or.inr (Or.inl ⟨rfl, he ▸ h3⟩), h4, h1.far h5 h2.size, h2.trans h6 (fun _ _ e => e)⟩
theorem RfC.next1 {W wx wy : World} {b4 : Nat} {vd vk v2 : Array Value} {D0 D1 D2 E : DS} (h1 : RGrow W vd vk) (h2 : Keeps (fun j => j = b4) W wx) (h3 : RefAt wy 0 v2 E) (h4 : wy.heap[b4]? = some (.cells v2 38 (0, 0))) (h5 : RGrow wx vk v2) (h6 : Keeps (fun j => j = b4) wx wy) (he : D2 = E) : RfC W b4 vd D0 D1 D2 (.int .i64 2) wy :=
  ⟨v2, Or.inr (Or.inr ⟨rfl, he ▸ h3⟩), h4, h1.far h5 h2.size, h2.trans h6 (fun _ _ e => e)⟩
theorem zeroed {D : DS} {a n N m : Nat} (h : D.cr = false ∧ D.now.length = N ∧ D.lo.length ≤ m) (hf : a + n ≤ N) : (D.zero a n).cr = false ∧ (D.zero a n).now.length = N ∧ (D.zero a n).lo.length ≤ m + n :=
  ⟨h.1, by rw [zero_len _ _ _ (by rw [h.2.1]; exact hf)]; exact h.2.1, by rw [zero_lo]; omega⟩
/-- At the head of the loop that reads the places. -/
def RfB (W : World) (b3 gn : Nat) (C : Value → Value → Value → Array Value) (s0 s1 s2 : Int × Nat × List UInt8) (i : Value) (wr : World) : Prop :=
  ∃ (s : Int × Nat × List UInt8) (sk : Option Addr) (ck : Nat), ((i = .int .i64 0 ∧ s = s0) ∨ (i = .int .i64 1 ∧ s = s1) ∨ (i = .int .i64 2 ∧ s = s2)) ∧
    wr.heap[b3]? = some (.cells (C (.int .i64 s.1) (.int .u64 (s.2.1 : Int)) (.slice sk s.2.2.length ck)) 41 (0, 0)) ∧ Sl wr sk s.2.2.length ck (BV s.2.2) ∧ (∀ ad, sk = some ad → ad.block = gn) ∧ Keeps (fun j => j = b3) W wr

set_option maxHeartbeats 40000000 in
set_option maxRecDepth 10000 in
theorem refOpen_any (gn cn N half ns cs na ca cb : Nat) (ss sa sb : Option Addr) (D : DS) (now : List UInt8) (w : World) (hD : RefAt w 0 #[.slice (some ⟨gn, 0, none⟩) N cn, .slice ss ns cs, .slice sa na ca, .slice sb na cb, .bool false] D) (hDn : D.now = now) (hcr : D.cr = false) (hlo : D.lo.length ≤ 600000) (h64 : ¬ (N : Int) < 64) (hN : N ≤ 65536) (hhalf : N / 2 = half) (hnow : Sl w (some ⟨gn, 0, none⟩) N cn (BV now)) :
    Calls Try.prog 14 #[.agg #[.slice (some ⟨gn, 0, none⟩) N cn, .slice ss ns cs, .slice sa na ca, .slice sb na cb, .bool false]] w (OpenPost w D #[.slice (some ⟨gn, 0, none⟩) N cn, .slice ss ns cs, .slice sa na ca, .slice sb na cb, .bool false]) := by
  have eh : (N : Int) / 2 = (half : Int) := by omega
  have wh : IntKind.i64.wrap (half : Int) = (half : Int) := IntWalk.i64_in _ (by omega)
  have hnl : now.length = N := by have := hnow.len; simpa using this
  have hcn := hnow.le
  have hcb := hnow.capB
  have HNOW := Lib.hid (And.intro hnow hnl)
  have HD0 := Lib.hid hD
  have HDF : Hid (D.cr = false ∧ D.now.length = N ∧ D.lo.length ≤ 1000000) := Lib.hid ⟨hcr, by rw [hDn]; exact hnl, by omega⟩
  have HDN := Lib.hid hDn
  have HDF6 : Hid (D.cr = false ∧ D.now.length = N ∧ D.lo.length ≤ 600000) := Lib.hid ⟨hcr, by rw [hDn]; exact hnl, hlo⟩
  clear hD hDn hcr hlo
  have HGN0 : gn < w.heap.size := blk_lt hnow rfl (by omega)
  clear hnow hnl
  go_enter Try.func14, Try.ntmps14
  obtain ⟨b1, hb1⟩ : ∃ b, w.heap.size = b := ⟨_, rfl⟩
  obtain ⟨w1, hw1⟩ : ∃ v, w.alloc (.cells #[.slice (some ⟨gn, 0, none⟩) N cn, .slice ss ns cs, .slice sa na ca, .slice sb na cb, .bool false] 38) = v := ⟨_, rfl⟩
  obtain ⟨b2, hb2⟩ : ∃ b, w1.heap.size = b := ⟨_, rfl⟩
  obtain ⟨w2, hw2⟩ : ∃ v, w1.alloc (.cells #[.slice none 0 0, .slice none 0 0, .slice none 0 0, .slice none 0 0, .bool false, .int .i64 0, .int .i64 0, .slice none 0 0, .int .i64 0, .int .u64 0, .slice none 0 0] 41) = v := ⟨_, rfl⟩
  obtain ⟨b3, hb3⟩ : ∃ b, w2.heap.size = b := ⟨_, rfl⟩
  obtain ⟨w3, hw3⟩ : ∃ v, w2.alloc (.cells #[.slice none 0 0, .slice none 0 0, .slice none 0 0, .slice none 0 0, .bool false, .int .i64 0, .int .i64 0, .slice none 0 0, .int .i64 0, .int .u64 0, .slice none 0 0] 41) = v := ⟨_, rfl⟩
  have q1 : w1.heap[b1]? = some (.cells #[.slice (some ⟨gn, 0, none⟩) N cn, .slice ss ns cs, .slice sa na ca, .slice sb na cb, .bool false] 38 (0, 0)) := by rw [← hw1, ← hb1]; exact World.alloc_heap_new w _
  have k1 : Keeps (fun _ => False) w w1 := by rw [← hw1]; exact (Keeps.refl _ w).alloc _
  have k2 : Keeps (fun _ => False) w1 w2 := by rw [← hw2]; exact (Keeps.refl _ w1).alloc _
  have k3 : Keeps (fun _ => False) w2 w3 := by rw [← hw3]; exact (Keeps.refl _ w2).alloc _
  have q1b := (k2.block b1 (lt_of_heap q1) (fun h => h)).trans q1
  have q2 : w2.heap[b2]? = some (.cells #[.slice none 0 0, .slice none 0 0, .slice none 0 0, .slice none 0 0, .bool false, .int .i64 0, .int .i64 0, .slice none 0 0, .int .i64 0, .int .u64 0, .slice none 0 0] 41 (0, 0)) := by rw [← hw2, ← hb2]; exact World.alloc_heap_new w1 _
  have q3 : w3.heap[b3]? = some (.cells #[.slice none 0 0, .slice none 0 0, .slice none 0 0, .slice none 0 0, .bool false, .int .i64 0, .int .i64 0, .slice none 0 0, .int .i64 0, .int .u64 0, .slice none 0 0] 41 (0, 0)) := by rw [← hw3, ← hb3]; exact World.alloc_heap_new w2 _
  have s1 : b2 = b1 + 1 := by rw [← hb2, ← hw1, ← hb1]; simp
  have s2 : b3 = b1 + 2 := by rw [← hb3, ← hw2, World.size_alloc, hb2, s1]
  have s3 : w3.heap.size = b1 + 3 := by rw [← hw3, World.size_alloc, hb3, s2]
  have HBS := Lib.hid (And.intro s1 (And.intro s2 (And.intro s3 hb1)))
  have HGN : Hid (gn < b1) := Lib.hid (by omega)
  clear HGN0
  have c0 := cellAt q1b 0
  have c1 := cellAt q1b 1
  have c2 := cellAt q1b 2
  have c3 := cellAt q1b 3
  have c4 := cellAt q1b 4
  have d0 := cellAt q3 0
  have f0 := freeAt q3 0
  have d1 := cellAt q3 1
  have f1 := freeAt q3 1
  have d2 := cellAt q3 2
  have f2 := freeAt q3 2
  have d3 := cellAt q3 3
  have f3 := freeAt q3 3
  have d4 := cellAt q3 4
  have f4 := freeAt q3 4
  have d5 := cellAt q3 5
  have f5 := freeAt q3 5
  have d6 := cellAt q3 6
  have f6 := freeAt q3 6
  have d7 := cellAt q3 7
  have f7 := freeAt q3 7
  have d8 := cellAt q3 8
  have f8 := freeAt q3 8
  have d9 := cellAt q3 9
  have f9 := freeAt q3 9
  have d10 := cellAt q3 10
  have f10 := freeAt q3 10
  simp at c0 c1 c2 c3 c4 d0 d1 d2 d3 d4 d5 d6 d7 d8 d9 d10
  obtain ⟨W, hW⟩ : ∃ v, (((((((((((w3.setCell ⟨b3, 0, none⟩ (.slice (some ⟨gn, 0, none⟩) N cn)).setCell ⟨b3, 1, none⟩ (.slice ss ns cs)).setCell ⟨b3, 2, none⟩ (.slice sa na ca)).setCell ⟨b3, 3, none⟩ (.slice sb na cb)).setCell ⟨b3, 4, none⟩ (.bool false)).setCell ⟨b3, 5, none⟩ (.int .i64 (half : Int))).setCell ⟨b3, 6, none⟩ (.int .i64 0)).setCell ⟨b3, 7, none⟩ (.slice none 0 0)).setCell ⟨b3, 8, none⟩ (.int .i64 2)).setCell ⟨b3, 9, none⟩ (.int .u64 0)).setCell ⟨b3, 10, none⟩ (.slice none 0 0)) = v := ⟨_, rfl⟩
  have hE := heap_eleven q3 (.slice (some ⟨gn, 0, none⟩) N cn) (.slice ss ns cs) (.slice sa na ca) (.slice sb na cb) (.bool false) (.int .i64 (half : Int)) (.int .i64 0) (.slice none 0 0) (.int .i64 2) (.int .u64 0) (.slice none 0 0)
  have kE := keeps_eleven w3 b3 (.slice (some ⟨gn, 0, none⟩) N cn) (.slice ss ns cs) (.slice sa na ca) (.slice sb na cb) (.bool false) (.int .i64 (half : Int)) (.int .i64 0) (.slice none 0 0) (.int .i64 2) (.int .u64 0) (.slice none 0 0)
  rw [hW] at hE kE
  have KW : Hid (Keeps (fun _ => False) w W) := Lib.hid ((((k1.quiet k2).quiet k3)).trans kE (fun j hj e => by omega))
  have HW1 : Hid (W.heap[b1]? = some (.cells #[.slice (some ⟨gn, 0, none⟩) N cn, .slice ss ns cs, .slice sa na ca, .slice sb na cb, .bool false] 38 (0, 0))) := Lib.hid ((kE.block b1 (by omega) (by omega)).trans ((k3.block b1 (lt_of_heap q1b) (fun h => h)).trans q1b))
  have HW2 : Hid (W.heap[b2]? = some (.cells #[.slice none 0 0, .slice none 0 0, .slice none 0 0, .slice none 0 0, .bool false, .int .i64 0, .int .i64 0, .slice none 0 0, .int .i64 0, .int .u64 0, .slice none 0 0] 41 (0, 0))) := Lib.hid ((kE.block b2 (by omega) (by omega)).trans ((k3.block b2 (lt_of_heap q2) (fun h => h)).trans q2))
  have HWS : Hid (W.heap.size = b1 + 3) := Lib.hid (by rw [← hW]; simp [World.setCell, s3])
  have H0 : Hid (RfA W now half b3 (fun f v => #[.slice (some ⟨gn, 0, none⟩) N cn, .slice ss ns cs, .slice sa na ca, .slice sb na cb, .bool false, .int .i64 (half : Int), .int .i64 f, v, .int .i64 2, .int .u64 0, .slice none 0 0]) gn W) := Lib.hid ⟨0, (now.take half).length + 1, [], none, 0, [], hE, World.ownsRow_nil _ _ _ _, RowsS.nil _, by simp, Keeps.refl _ _, by have := HNOW.out.2; rw [List.length_take]; omega, rfl, by simp, Nat.zero_le _⟩
  clear q1 k1 k2 k3 q1b q2 q3 s1 s2 s3 hE kE
  go_upto_region 3 with (fail)
  go_cut [4] (fun s4 wx => s4 = .pointer (some ⟨b3, 0, none⟩) ∧ wx = W)
  case first =>
    go_wp2_with fail
    go_meet
    exact ⟨rfl, rfl⟩
  obtain ⟨hs4, hwc⟩ := hcut
  subst hs4
  rw [hwc]
  clear hwc
  clear hw1 hw2 hw3 hW hb1 hb2 hb3 c0 c1 c2 c3 c4 d0 d1 d2 d3 d4 d5 d6 d7 d8 d9 d10 f0 f1 f2 f3 f4 f5 f6 f7 f8 f9 f10
  apply_assumption
  refine wp_seq_k ?_
  intro KX hKX
  go_cut [] (fun wx => RfE W now half b3 (fun f v => #[.slice (some ⟨gn, 0, none⟩) N cn, .slice ss ns cs, .slice sa na ca, .slice sb na cb, .bool false, .int .i64 (half : Int), .int .i64 f, v, .int .i64 2, .int .u64 0, .slice none 0 0]) gn wx)
  case first =>
    go_wp2_with fail
    go_loopw [5] (fun _ wr => RfA W now half b3 (fun f v => #[.slice (some ⟨gn, 0, none⟩) N cn, .slice ss ns cs, .slice sa na ca, .slice sb na cb, .bool false, .int .i64 (half : Int), .int .i64 f, v, .int .i64 2, .int .u64 0, .slice none 0 0]) gn wr) (fun _ wr => half - usedOf wr b3)
    case atStart => exact H0.out
    case round =>
      clear H0
      obtain ⟨fr, k, rs, so, co, vs, hb, hown, hrows, hgs, hkp, hfu, heq, hten, hfh⟩ := hrel
      have hkW : Keeps (fun _ => False) w wr := KW.out.trans hkp (fun j hj e => by have h1 := HBS.out; omega)
      have hb1' := (hkp.block b1 (by have := HWS.out; omega) (by have := HBS.out; omega)).trans HW1.out
      have c0 := cellAt hb1' 0
      have d5 := cellAt hb 5
      have d6 := cellAt hb 6
      have f6 := freeAt hb 6
      have d7 := cellAt hb 7
      have f7 := freeAt hb 7
      simp at c0 d5 d6 d7
      have hus : usedOf wr b3 = fr := by unfold usedOf; rw [d6]; simp
      have hpc := parse_cut now half fr hfh (by have := HNOW.out.2; omega)
      obtain ⟨hl, hhl⟩ : ∃ z, half - fr = z := ⟨_, rfl⟩
      obtain ⟨cl, hcl⟩ : ∃ z, cn - fr = z := ⟨_, rfl⟩
      rw [hhl] at hpc
      have hsub := ((HNOW.out.1.quiet hkW).cut (i := fr) (k := hl) (by omega))
      rw [Nat.zero_add, hcl] at hsub
      have hbl : (cut now fr hl).length = hl := cut_length _ _ _ (by have := HNOW.out.2; omega)
      obtain ⟨b, hbb⟩ : ∃ b, cut now fr hl = b := ⟨_, rfl⟩
      rw [hbb] at hsub hbl hpc
      rw [parse_rec0 b] at hpc
      have HLG := Lib.hid (refLong_any (some ⟨gn, fr, none⟩) hl cl b wr hsub)
      obtain ⟨lg, hlg⟩ : ∃ x, longR b = x := ⟨_, rfl⟩
      have hlb := longR_lt b
      rw [hlg] at HLG hpc hlb
      rw [hbl] at hpc
      have HR := Lib.hid (And.intro hb (And.intro hown (And.intro hrows (And.intro hgs (And.intro hkp (And.intro hfu (And.intro heq (And.intro hten hfh))))))))
      have HS := Lib.hid (And.intro hsub (And.intro hbl (And.intro hpc (And.intro hkW (And.intro hus hbb)))))
      have n1 : (0 : Int) ≤ (fr : Int) := by omega
      have n2 : (fr : Int) ≤ (half : Int) := by omega
      have n3 : (half : Int) ≤ (cn : Int) := by omega
      have n4 : fr ≤ half := by omega
      have n5 : half ≤ cn := by omega
      have n6 : ¬ cn = fr := by omega
      have n7 : hl ≤ cl := by omega
      have HHL := Lib.hid hhl
      clear hb hown hrows hgs hkp hfu heq hten hfh hkW hb1' hus hpc hsub hbl hbb hlg
      go_wp2_with fail
      refine HLG.out.mono ?_
      rintro e y1 ⟨rfl, hk⟩
      have HK := Lib.hid hk
      clear HLG hk
      by_cases h0 : lg < 0
      · have HX := Lib.hid (RfA.done (C := fun f v => #[.slice (some ⟨gn, 0, none⟩) N cn, .slice ss ns cs, .slice sa na ca, .slice sb na cb, .bool false, .int .i64 (half : Int), .int .i64 f, v, .int .i64 2, .int .u64 0, .slice none 0 0]) HR.out.1 HR.out.2.1 HR.out.2.2.1 HR.out.2.2.2.1 HR.out.2.2.2.2.1 HR.out.2.2.2.2.2.2.1 HR.out.2.2.2.2.2.2.2.1 HR.out.2.2.2.2.2.2.2.2 HK.out (by rw [HS.out.2.2.1, if_pos (Or.inl h0)]; rfl))
        go_wp2
        go_meet
        exact HX.out
      · obtain ⟨kk, rfl⟩ : ∃ k : Nat, lg = (k : Int) := ⟨lg.toNat, by omega⟩
        obtain ⟨k10, hk10⟩ : ∃ x, 10 + kk = x := ⟨_, rfl⟩
        have q1 : 10 + (kk : Int) = (k10 : Int) := by omega
        have q2 : IntKind.i64.wrap (k10 : Int) = (k10 : Int) := IntWalk.i64_in _ (by omega)
        have hkb : Hid (kk < 65536) := Lib.hid (by omega)
        clear hlb
        by_cases h1 : (hl : Int) < (k10 : Int)
        · have HX := Lib.hid (RfA.done (C := fun f v => #[.slice (some ⟨gn, 0, none⟩) N cn, .slice ss ns cs, .slice sa na ca, .slice sb na cb, .bool false, .int .i64 (half : Int), .int .i64 f, v, .int .i64 2, .int .u64 0, .slice none 0 0]) HR.out.1 HR.out.2.1 HR.out.2.2.1 HR.out.2.2.2.1 HR.out.2.2.2.2.1 HR.out.2.2.2.2.2.2.1 HR.out.2.2.2.2.2.2.2.1 HR.out.2.2.2.2.2.2.2.2 HK.out (by rw [HS.out.2.2.1, if_pos (Or.inr (by omega))]; rfl))
          clear hk10
          go_wp2
          go_meet
          exact HX.out
        · have hy := (HS.out.1.quiet HK.out).cut (i := 2) (k := kk) (by omega)
          obtain ⟨y, hyd⟩ : ∃ y, cut b 2 kk = y := ⟨_, rfl⟩
          rw [hyd] at hy
          have hyl : y.length = kk := by rw [← hyd]; exact cut_length _ _ _ (by have := HS.out.2.1; omega)
          have hpp : parse 0 smRec (now.take half) fr = if b.take (kk + 10) = recF y then some ([], y, fr + (kk + 10)) else none := by
            rw [HS.out.2.2.1, if_neg (by omega)]
            simp only [Int.toNat_natCast]
            rw [hyd]
            split <;> rfl
          have HRC := Lib.hid (refRecord_any (some ⟨gn, fr + 2, none⟩) kk (cl - 2) y y1 hy (by have := hkb.out; omega))
          have HY := Lib.hid (And.intro hy (And.intro hyl hpp))
          obtain ⟨k2, hk2⟩ : ∃ x, 2 + kk = x := ⟨_, rfl⟩
          have o1 : 2 + (kk : Int) = (k2 : Int) := by omega
          have o2 : IntKind.i64.wrap (k2 : Int) = (k2 : Int) := IntWalk.i64_in _ (by omega)
          have o3 : (2 : Int) ≤ (k2 : Int) := by omega
          have o4 : (k2 : Int) ≤ (cl : Int) := by omega
          have o5 : 2 ≤ k2 := by omega
          have o6 : k2 ≤ cl := by omega
          have o7 : k2 - 2 = kk := by omega
          have o8 : ¬ cl = 2 := by omega
          have HKK := Lib.hid (And.intro hk10 (And.intro hk2 h1))
          clear hk10 hk2 hy hyl hpp hyd
          go_wp2_with fail
          refine HRC.out.mono ?_
          rintro e y2 ⟨s7, c7, rfl, ho7, hk⟩
          have HBG := Lib.hid (refBegins_any (some ⟨gn, fr, none⟩) s7 hl (kk + 10) cl c7 b (recF y) y2 ((HS.out.1.quiet HK.out).quiet hk) (Sl.of_own ho7))
          rw [recF_length, HY.out.2.1] at HBG
          replace HK := Lib.hid (HK.out.quiet hk)
          have HK2 := Lib.hid hk
          clear HRC ho7 hk
          go_wp2_with fail
          refine HBG.out.mono ?_
          rintro e y3 ⟨rfl, hk⟩
          replace HK := Lib.hid (HK.out.quiet hk)
          replace HK2 := Lib.hid (HK2.out.quiet hk)
          clear HBG hk
          by_cases hrec : b.take (kk + 10) = recF y
          · have e1 : decide (b.take (kk + 10) = recF y) = true := by simp [hrec]
            rw [e1]
            have hsome : parse 0 smRec (now.take half) fr = some ([], y, fr + (kk + 10)) := by rw [HY.out.2.2, if_pos hrec]
            obtain ⟨_, hm2, _, _⟩ := parse_some hsome
            rw [List.length_take] at hm2
            obtain ⟨kp, hkp⟩ : ∃ z, k = z + 1 := ⟨k - 1, by have := HR.out.2.2.2.2.2.1; omega⟩
            obtain ⟨fr2, hfr2⟩ : ∃ z, fr + (kk + 10) = z := ⟨_, rfl⟩
            rw [hfr2] at hsome hm2
            have heq2 : ((rs ++ [y]) ++ (recsF (now.take half) kp fr2).1, (recsF (now.take half) kp fr2).2) = recsOf (now.take half) := by
              have := HR.out.2.2.2.2.2.2.1
              rw [hkp, recsF_some _ kp fr hsome] at this
              rw [List.append_assoc]
              exact this
            have hr100 : rs.length ≤ 100000 := by have := HR.out.2.2.2.2.2.2.2.1; omega
            have HM : Hid (half < fr2 + kp ∧ 10 * (rs.length + 1) ≤ fr2 ∧ fr2 ≤ half ∧ half - fr2 < half - fr) := Lib.hid (by have h1 := HR.out.2.2.2.2.2.1; have h2 := HR.out.2.2.2.2.2.2.2.1; have h3 := HR.out.2.2.2.2.2.2.2.2; omega)
            have HEQ2 := Lib.hid heq2
            have r1 : (fr : Int) + ((kk : Int) + 10) = (fr2 : Int) := by omega
            have r2 : IntKind.i64.wrap (fr2 : Int) = (fr2 : Int) := IntWalk.i64_in _ (by omega)
            have hby := (HK.out.block b3 (lt_of_heap HR.out.1) (fun h => h)).trans HR.out.1
            have g7 := cellAt hby 7
            have g7f := freeAt hby 7
            simp at g7
            have HBY := Lib.hid hby
            clear hsome hm2 hkp heq2 hrec e1 hby c0 d5 d6 f6 d7 f7 hfr2
            go_wp2_with fail
            refine z_begin (fun w' => w'.cell? ⟨b3, 7, none⟩ = some (.slice so rs.length co) ∧ w'.frozen? ⟨b3, 7, none⟩ = false) 9 (by kernel_rfl) (⟨g7, g7f⟩) (fun hHeld => ?_)
            have hk : Keeps (fun _ => False) y3 (World.drew y3) := (Keeps.refl _ _).drew
            have HK0 := Lib.hid hk
            clear hk g7 g7f
            generalize World.drew y3 = u0 at *
            refine z_take 0 (v := ?_) rfl (by kernel_rfl) (by kernel_rfl) (by kernel_rfl) (by kernel_rfl) (fun _ _ _ h => h) hHeld (by rfl) (fun w hSw => ?_) ?_
            rotate_left
            · obtain ⟨hSw1, hSw2⟩ := hSw; simp only [List.getElem_toArray, List.getElem_cons_zero]; go_simp; try rfl
            simp only [Act.put, List.getElem_toArray, List.getElem_cons_zero, List.setIfInBounds_toArray, List.set_cons_zero, List.set_cons_succ]
            refine z_take 1 (v := ?_) rfl (by kernel_rfl) (by kernel_rfl) (by kernel_rfl) (by kernel_rfl) (fun _ _ _ h => h) hHeld (by rfl) (fun w hSw => ?_) ?_
            rotate_left
            · obtain ⟨hSw1, hSw2⟩ := hSw; simp only [List.getElem_toArray, List.getElem_cons_zero, List.getElem_cons_succ]; go_simp; try rfl
            simp only [Act.put, List.getElem_toArray, List.getElem_cons_zero, List.getElem_cons_succ, List.setIfInBounds_toArray, List.set_cons_zero, List.set_cons_succ]
            refine z_take 2 (v := ?_) rfl (by kernel_rfl) (by kernel_rfl) (by kernel_rfl) (by kernel_rfl) (fun _ _ _ h => h) hHeld (by rfl) (fun w hSw => ?_) ?_
            rotate_left
            · obtain ⟨hSw1, hSw2⟩ := hSw; simp only [List.getElem_toArray, List.getElem_cons_zero, List.getElem_cons_succ]; go_simp; try rfl
            simp only [Act.put, List.getElem_toArray, List.getElem_cons_zero, List.getElem_cons_succ, List.setIfInBounds_toArray, List.set_cons_zero, List.set_cons_succ]
            refine z_take 3 (v := ?_) rfl (by kernel_rfl) (by kernel_rfl) (by kernel_rfl) (by kernel_rfl) (fun _ _ _ h => h) hHeld (by rfl) (fun w hSw => ?_) ?_
            rotate_left
            · obtain ⟨hSw1, hSw2⟩ := hSw; simp only [List.getElem_toArray, List.getElem_cons_zero, List.getElem_cons_succ]; go_simp; try rfl
            simp only [Act.put, List.getElem_toArray, List.getElem_cons_zero, List.getElem_cons_succ, List.setIfInBounds_toArray, List.set_cons_zero, List.set_cons_succ]
            refine z_take 4 (v := ?_) rfl (by kernel_rfl) (by kernel_rfl) (by kernel_rfl) (by kernel_rfl) (fun _ _ _ h => h) hHeld (by rfl) (fun w hSw => ?_) ?_
            rotate_left
            · obtain ⟨hSw1, hSw2⟩ := hSw; simp only [List.getElem_toArray, List.getElem_cons_zero, List.getElem_cons_succ]; go_simp; try rfl
            simp only [Act.put, List.getElem_toArray, List.getElem_cons_zero, List.getElem_cons_succ, List.setIfInBounds_toArray, List.set_cons_zero, List.set_cons_succ]
            refine z_take 5 (v := ?_) rfl (by kernel_rfl) (by kernel_rfl) (by kernel_rfl) (by kernel_rfl) (fun _ _ _ h => h) hHeld (by rfl) (fun w hSw => ?_) ?_
            rotate_left
            · obtain ⟨hSw1, hSw2⟩ := hSw; simp only [List.getElem_toArray, List.getElem_cons_zero, List.getElem_cons_succ]; go_simp; try rfl
            simp only [Act.put, List.getElem_toArray, List.getElem_cons_zero, List.getElem_cons_succ, List.setIfInBounds_toArray, List.set_cons_zero, List.set_cons_succ]
            refine z_one 6 rfl (by kernel_rfl) (by rfl) (fun K hK => ?_)
            simp only [List.getElem_toArray, List.getElem_cons_zero, List.getElem_cons_succ]
            go_simp
            have hk : Keeps (fun _ => False) u0 (u0.alloc (.cells #[.slice (some ⟨gn, fr + 2, none⟩) kk (cl - 2)] 23)) := (Keeps.refl _ u0).alloc _
            refine hK _ _ (Or.inr ?_) (fun hHeld => ?_)
            · refine ⟨sc hk hHeld.1, ?_⟩
              rw [hk.frozen (World.block_lt_of_cell? _ _ hHeld.1) (fun h => h)]; exact hHeld.2
            clear hK K hk
            replace hHeld := hHeld.resolve_left (by decide)
            try simp only [Act.put, List.setIfInBounds_toArray, List.set_cons_zero, List.set_cons_succ]
            refine z_one 7 rfl (by kernel_rfl) (by rfl) (fun K hK => ?_)
            simp only [List.getElem_toArray, List.getElem_cons_zero, List.getElem_cons_succ]
            have hown1 : u0.ownsRow (b3 + 1) 23 1 (.slice so rs.length co) rs.length vs := own_keep (own_keep HR.out.2.1 HK.out (fun _ _ h => h)) HK0.out (fun _ _ h => h)
            refine wp_pushV u0 (some ⟨gn, fr + 2, none⟩) kk (cl - 2) (.tmp 54) (.tmp 59) rfl (b3 + 1) so rs.length co vs rfl hown1 rfl (by omega) (by have h1 := HK.out.size; have h2 := HK0.out.size; have h3 := lt_of_heap HR.out.1; omega) ?_
            intro s5 cap5 u3 hown2 hk2 hat
            have hpo : ¬ (so = some ⟨b3, 0, none⟩) := fun e => by have := (own_lt HR.out.2.1 e).1; omega
            have HA2 := Lib.hid (And.intro hown2 (And.intro hk2 hat))
            have hpu : b3 < u0.heap.size := by have h1 := HK.out.size; have h2 := HK0.out.size; have h3 := lt_of_heap HR.out.1; omega
            have h1c : u0.cell? ⟨b3, 7, none⟩ = some (.slice so rs.length co) := by
              have := hHeld.1
              rw [World.cell?_of_block (w := u0) (Below.heap_alloc _ _ _ (by show b3 < _; omega))] at this
              exact this
            have h1f : u0.frozen? ⟨b3, 7, none⟩ = false := by
              have := hHeld.2
              rw [World.frozen?_of_block (w := u0) (Below.heap_alloc _ _ _ (by show b3 < _; omega))] at this
              exact this
            refine hK _ _ (Or.inr ?_) (fun hHeld => ?_)
            · exact ⟨by rw [hk2.cell (World.block_lt_of_cell? _ _ h1c) hpo]; exact h1c, by rw [hk2.frozen (World.block_lt_of_cell? _ _ h1c) hpo]; exact h1f⟩
            clear hK K hown1 hown2 hk2 hat hpo h1c h1f hpu
            replace hHeld := hHeld.resolve_left (by decide)
            try simp only [Act.put, List.setIfInBounds_toArray, List.set_cons_zero, List.set_cons_succ]
            refine z_one 8 rfl (by kernel_rfl) (by rfl) (fun K hK => ?_)
            simp only [List.getElem_toArray, List.getElem_cons_zero, List.getElem_cons_succ]
            go_simp
            refine hK _ _ (Or.inr ?_) (fun hHeld => ?_)
            · exact hHeld
            clear hK K
            replace hHeld := hHeld.resolve_left (by decide)
            try simp only [Act.put, List.setIfInBounds_toArray, List.set_cons_zero, List.set_cons_succ]
            refine z_one 9 rfl (by kernel_rfl) (by rfl) (fun K hK => ?_)
            simp only [List.getElem_toArray, List.getElem_cons_zero, List.getElem_cons_succ]
            obtain ⟨g3, g3f⟩ := hHeld
            go_simp
            refine hK _ _ (Or.inl rfl) (fun _ => ?_)
            clear hK K
            try simp only [Act.put, List.setIfInBounds_toArray, List.set_cons_zero, List.set_cons_succ]
            refine z_done (by kernel_rfl) ?_ _
            have hHeld := True.intro
            obtain ⟨x1, hx1⟩ : ∃ v, u3.setCell ⟨b3, 7, none⟩ (.slice s5 (rs.length + 1) cap5) = v := ⟨_, rfl⟩
            have hk13 : Keeps (fun j => j = b3) u3 x1 := by rw [← hx1]; exact (Keeps.refl (fun j => j = b3) u3).setCell (p := ⟨b3, 7, none⟩) (fun _ => rfl) _
            have hlow : ∀ j, so = some ⟨j, 0, none⟩ → b3 + 1 ≤ j := fun j e => (own_lt HR.out.2.1 e).1
            have kq : Keeps (fun _ => False) wr u0 := HK.out.quiet HK0.out
            have hbx3 : u3.heap[b3]? = some (.cells #[.slice (some ⟨gn, 0, none⟩) N cn, .slice ss ns cs, .slice sa na ca, .slice sb na cb, .bool false, .int .i64 (half : Int), .int .i64 (fr : Int), .slice so rs.length co, .int .i64 2, .int .u64 0, .slice none 0 0] 41 (0, 0)) :=
              (HA2.out.2.1.block b3 (Nat.lt_of_lt_of_le (lt_of_heap HR.out.1) kq.size) (fun e => by have := hlow b3 e; omega)).trans ((kq.block b3 (lt_of_heap HR.out.1) (fun h => h)).trans HR.out.1)
            have hbx1 : x1.heap[b3]? = some (.cells #[.slice (some ⟨gn, 0, none⟩) N cn, .slice ss ns cs, .slice sa na ca, .slice sb na cb, .bool false, .int .i64 (half : Int), .int .i64 (fr : Int), .slice s5 (rs.length + 1) cap5, .int .i64 2, .int .u64 0, .slice none 0 0] 41 (0, 0)) := by rw [← hx1, heap_setCell_at hbx3]; rfl
            have e6 := cellAt hbx1 6
            have e6f := freeAt hbx1 6
            simp at e6
            obtain ⟨x2, hx2⟩ : ∃ v, x1.setCell ⟨b3, 6, none⟩ (.int .i64 (fr2 : Int)) = v := ⟨_, rfl⟩
            have hk12 : Keeps (fun j => j = b3) x1 x2 := by rw [← hx2]; exact (Keeps.refl (fun j => j = b3) x1).setCell (p := ⟨b3, 6, none⟩) (fun _ => rfl) _
            have hbx2 : x2.heap[b3]? = some (.cells #[.slice (some ⟨gn, 0, none⟩) N cn, .slice ss ns cs, .slice sa na ca, .slice sb na cb, .bool false, .int .i64 (half : Int), .int .i64 (fr2 : Int), .slice s5 (rs.length + 1) cap5, .int .i64 2, .int .u64 0, .slice none 0 0] 41 (0, 0)) := by rw [← hx2, heap_setCell_at hbx1]; rfl
            have HNEW : Hid (RfA W now half b3 (fun f v => #[.slice (some ⟨gn, 0, none⟩) N cn, .slice ss ns cs, .slice sa na ca, .slice sb na cb, .bool false, .int .i64 (half : Int), .int .i64 f, v, .int .i64 2, .int .u64 0, .slice none 0 0]) gn x2 ∧ usedOf x2 b3 = fr2) := by
              have hin : ∀ x ∈ vs, InR (fun j => j = gn) x := fun x hx ad n c e h0 => by
                obtain ⟨o, n', c', e'⟩ := HR.out.2.2.2.1 x hx
                rw [e'] at e
                simp only [Value.slice.injEq, Option.some.injEq] at e
                rw [← e.1]
              have hgb := HGN.out
              have hbs := HBS.out
              have hap : ∀ j, so = some ⟨j, 0, none⟩ → ¬ j = gn := fun j e => by have := hlow j e; omega
              have hk2' : Keeps (fun j => j = b3) u3 x2 := hk13.trans hk12 (fun _ _ h => h)
              have hr2 := rows_keep (rows_keep (HR.out.2.2.1.quiet kq) hin HA2.out.2.1 (fun j e => hap j e)) hin hk2' (fun j e => by omega)
              have hy2 := ((((HY.out.1.quiet HK2.out).quiet HK0.out).keep HA2.out.2.1 (fun ad e _ _ h => by cases e; exact hap _ h rfl)).keep hk2' (fun ad e _ _ h => by cases e; have h' : gn = b3 := h; omega))
              refine Lib.hid ⟨⟨fr2, kp, rs ++ [y], s5, cap5, vs ++ [.slice (some ⟨gn, fr + 2, none⟩) kk (cl - 2)], ?_, ?_, hr2.snoc HY.out.2.1 hy2, ?_, ?_, HM.out.1, HEQ2.out, ?_, HM.out.2.2.1⟩, ?_⟩
              · rw [List.length_append]; exact hbx2
              · have := own_keep HA2.out.1 hk2' (fun j e h => by have := (HA2.out.1.lt j e).1; omega)
                rw [List.length_append]
                exact this
              · intro x hx
                rcases List.mem_append.1 hx with h | h
                · exact HR.out.2.2.2.1 x h
                · simp at h; exact ⟨_, _, _, h⟩
              · exact ((HR.out.2.2.2.2.1.quiet kq).trans HA2.out.2.1 (fun j hj e => by have := hlow j e; have := HWS.out; omega)).trans hk2' (fun j _ h => h)
              · rw [List.length_append]; exact HM.out.2.1
              · unfold usedOf; rw [cellAt hbx2 6]; simp
            rw [hx1]
            clear hHeld hx1 hk13 hlow kq hbx3 hbx1 hk12 hbx2
            go_wp2_with fail
            go_roundw
            case rel => exact HNEW.out.1
            case measure => rw [HNEW.out.2, HS.out.2.2.2.2.1]; exact HM.out.2.2.2
          · have HX := Lib.hid (RfA.done (C := fun f v => #[.slice (some ⟨gn, 0, none⟩) N cn, .slice ss ns cs, .slice sa na ca, .slice sb na cb, .bool false, .int .i64 (half : Int), .int .i64 f, v, .int .i64 2, .int .u64 0, .slice none 0 0]) HR.out.1 HR.out.2.1 HR.out.2.2.1 HR.out.2.2.2.1 HR.out.2.2.2.2.1 HR.out.2.2.2.2.2.2.1 HR.out.2.2.2.2.2.2.2.1 HR.out.2.2.2.2.2.2.2.2 HK.out (by rw [HY.out.2.2, if_neg hrec]))
            have e1 : decide (b.take (kk + 10) = recF y) = false := by simp [hrec]
            rw [e1]
            clear hrec e1
            go_wp2
            go_meet
            exact HX.out
  case rest =>
    obtain ⟨fr, rs, so, co, vs, hb, hown, hrows, hgs, hkp, hrec, hten, hfh⟩ := hcut
    obtain ⟨sz, hsz⟩ : ∃ z, (N - half) / 2 = z := ⟨_, rfl⟩
    obtain ⟨a1, ha1⟩ : ∃ z, half + sz = z := ⟨_, rfl⟩
    have hz16 : 16 ≤ sz := by omega
    have haN : a1 + sz ≤ N := by omega
    have KC : Hid (Keeps (fun _ => False) w wc) := Lib.hid (KW.out.trans hkp (fun j hj e => by have h1 := HBS.out; omega))
    have HC1 : Hid (wc.heap[b2]? = some (.cells #[.slice none 0 0, .slice none 0 0, .slice none 0 0, .slice none 0 0, .bool false, .int .i64 0, .int .i64 0, .slice none 0 0, .int .i64 0, .int .u64 0, .slice none 0 0] 41 (0, 0)) ∧ b1 + 3 ≤ wc.heap.size) := Lib.hid ⟨(hkp.block b2 (by have := HWS.out; have := HBS.out; omega) (by have := HBS.out; omega)).trans HW2.out, by have h1 := hkp.size; have h2 := HWS.out; omega⟩
    have HRW := Lib.hid (And.intro hown (And.intro hrows (And.intro hgs (And.intro hrec (And.intro hten hfh)))))
    obtain ⟨q0, hq0⟩ : ∃ q, plOf now half sz = q := ⟨_, rfl⟩
    obtain ⟨q1, hq1⟩ : ∃ q, plOf now a1 sz = q := ⟨_, rfl⟩
    have HQ := Lib.hid (And.intro hq0 (And.intro hq1 (And.intro hsz ha1)))
    have HB0 : Hid (RfB wc b3 gn (fun x y z => #[.slice (some ⟨gn, 0, none⟩) N cn, .slice ss ns cs, .slice sa na ca, .slice sb na cb, .bool false, .int .i64 (half : Int), .int .i64 (fr : Int), .slice so rs.length co, x, y, z]) (2, 0, []) (stp 0 q0 (2, 0, [])) (stp 1 q1 (stp 0 q0 (2, 0, []))) (.int .i64 0) wc) := Lib.hid ⟨(2, 0, []), none, 0, Or.inl ⟨rfl, rfl⟩, hb, Sl.none0 _, (fun ad e => by cases e), Keeps.refl _ _⟩
    have HPL : Hid (∀ (i a : Nat) (u : World), i ≤ 1 → half + i * sz = a → Keeps (fun j => j = b3) wc u → ∀ (at_ tn ky : Value), Calls Try.prog 38 #[.agg #[.slice (some ⟨gn, 0, none⟩) N cn, .slice ss ns cs, .slice sa na ca, .slice sb na cb, .bool false, .int .i64 (half : Int), .int .i64 (fr : Int), .slice so rs.length co, at_, tn, ky], .int .i64 (i : Int)] u (PlacePost u gn (plOf now a sz))) := Lib.hid (fun i a u hi ha hu at_ tn ky => by
      have hs := (HNOW.out.1.quiet KC.out).keep hu (fun ad e _ _ h => by cases e; have h1 : gn = b3 := h; have h2 := HGN.out; have h3 := HBS.out; omega)
      have := refPlace_any gn 0 N cn half i a now (.slice ss ns cs) (.slice sa na ca) (.slice sb na cb) (.bool false) (.int .i64 (fr : Int)) (.slice so rs.length co) at_ tn ky u hs (by omega) (by omega) hi (by rw [hsz]; exact ha) (by rw [hsz]; rcases (show i = 0 ∨ i = 1 by omega) with rfl | rfl <;> omega) (by rw [hsz]; omega)
      rwa [hsz] at this)
    clear hb hown hrows hgs hkp hrec hten hfh hq0 hq1 hsz ha1
    first | apply hKX | skip
    clear hKX
    go_wp2_with fail
    go_loopw [8] (fun i wr => RfB wc b3 gn (fun x y z => #[.slice (some ⟨gn, 0, none⟩) N cn, .slice ss ns cs, .slice sa na ca, .slice sb na cb, .bool false, .int .i64 (half : Int), .int .i64 (fr : Int), .slice so rs.length co, x, y, z]) (2, 0, []) (stp 0 q0 (2, 0, [])) (stp 1 q1 (stp 0 q0 (2, 0, []))) i wr) (fun i _ => 2 - (intOf i).toNat)
    case atStart => exact HB0.out
    case round =>
      clear HB0
      obtain ⟨⟨sat, stn, sky⟩, sk, ck, hi, hb, hsk, hbk, hkp⟩ := hrel
      dsimp only at hb hsk
      obtain ⟨nk, hnk⟩ : ∃ n, sky.length = n := ⟨_, rfl⟩
      rw [hnk] at hb hsk
      have HX := Lib.hid (And.intro hb (And.intro hsk (And.intro hbk (And.intro hkp hnk))))
      have d0 := cellAt hb 0
      have d1 := cellAt hb 1
      have d2 := cellAt hb 2
      have d3 := cellAt hb 3
      have d4 := cellAt hb 4
      have d5 := cellAt hb 5
      have d6 := cellAt hb 6
      have d7 := cellAt hb 7
      have d8 := cellAt hb 8
      have d9 := cellAt hb 9
      have d10 := cellAt hb 10
      have f8 := freeAt hb 8
      have f9 := freeAt hb 9
      have f10 := freeAt hb 10
      simp at d0 d1 d2 d3 d4 d5 d6 d7 d8 d9 d10
      clear hb hsk hbk hkp hnk
      rcases hi with ⟨rfl, hst⟩ | ⟨rfl, hst⟩ | ⟨rfl, hst⟩
      · have HP := HPL.out 0 half wr (by omega) (by omega) HX.out.2.2.2.1 (.int .i64 sat) (.int .u64 (stn : Int)) (.slice sk nk ck)
        rw [HQ.out.1] at HP
        have HPH := Lib.hid HP
        have HST := Lib.hid hst
        clear HP hst
        go_wp2_with fail
        refine HPH.out.mono ?_
        rintro e y1 ⟨s9, n9, c9, t9, is, rfl, his, hq9, hk⟩
        have hby := (hk.block b3 (lt_of_heap HX.out.1) (fun h => h)).trans HX.out.1
        have d9y := cellAt hby 9
        simp at d9y
        clear HPH
        by_cases hlt : stn < q0.1
        · have hist : is = true := by rw [his]; simp; omega
          obtain ⟨r1, r2, r3, o9, r4⟩ := hq9 hist
          subst hist r1
          have tg : ((q0.1 : Nat) : Int) > (stn : Int) := by omega
          have hsb := Lib.hid (And.intro r2 (And.intro r3 r4))
          have hstp : stp 0 q0 (sat, stn, sky) = (0, q0.1, q0.2) := by unfold stp; rw [if_pos hlt]
          have g8f := freeAt hby 8
          have g8 := cellAt hby 8
          simp at g8
          obtain ⟨x1, hx1⟩ : ∃ v, y1.setCell ⟨b3, 8, none⟩ (.int .i64 0) = v := ⟨_, rfl⟩
          have hb1 : x1.heap[b3]? = some (.cells #[.slice (some ⟨gn, 0, none⟩) N cn, .slice ss ns cs, .slice sa na ca, .slice sb na cb, .bool false, .int .i64 (half : Int), .int .i64 (fr : Int), .slice so rs.length co, .int .i64 0, .int .u64 (stn : Int), .slice sk nk ck] 41 (0, 0)) := by rw [← hx1, heap_setCell_at hby]; rfl
          have g9f := freeAt hb1 9
          have g9 := cellAt hb1 9
          simp at g9
          obtain ⟨x2, hx2⟩ : ∃ v, x1.setCell ⟨b3, 9, none⟩ (.int .u64 ((q0.1 : Nat) : Int)) = v := ⟨_, rfl⟩
          have hb2 : x2.heap[b3]? = some (.cells #[.slice (some ⟨gn, 0, none⟩) N cn, .slice ss ns cs, .slice sa na ca, .slice sb na cb, .bool false, .int .i64 (half : Int), .int .i64 (fr : Int), .slice so rs.length co, .int .i64 0, .int .u64 ((q0.1 : Nat) : Int), .slice sk nk ck] 41 (0, 0)) := by rw [← hx2, heap_setCell_at hb1]; rfl
          have g10f := freeAt hb2 10
          have g10 := cellAt hb2 10
          simp at g10
          obtain ⟨x3, hx3⟩ : ∃ v, x2.setCell ⟨b3, 10, none⟩ (.slice s9 n9 c9) = v := ⟨_, rfl⟩
          have hb3 : x3.heap[b3]? = some (.cells #[.slice (some ⟨gn, 0, none⟩) N cn, .slice ss ns cs, .slice sa na ca, .slice sb na cb, .bool false, .int .i64 (half : Int), .int .i64 (fr : Int), .slice so rs.length co, .int .i64 0, .int .u64 ((q0.1 : Nat) : Int), .slice s9 n9 c9] 41 (0, 0)) := by rw [← hx3, heap_setCell_at hb2]; rfl
          have hkx : Keeps (fun j => j = b3) y1 x3 := by rw [← hx3, ← hx2, ← hx1]; exact (((Keeps.refl (fun j => j = b3) y1).setCell (p := ⟨b3, 8, none⟩) (fun _ => rfl) _).setCell (p := ⟨b3, 9, none⟩) (fun _ => rfl) _).setCell (p := ⟨b3, 10, none⟩) (fun _ => rfl) _
          have HNEW : Hid (RfB wc b3 gn (fun x y z => #[.slice (some ⟨gn, 0, none⟩) N cn, .slice ss ns cs, .slice sa na ca, .slice sb na cb, .bool false, .int .i64 (half : Int), .int .i64 (fr : Int), .slice so rs.length co, x, y, z]) (2, 0, []) (stp 0 q0 (2, 0, [])) (stp 1 q1 (stp 0 q0 (2, 0, []))) (.int .i64 1) x3) := by
            refine Lib.hid ⟨(0, q0.1, q0.2), s9, c9, Or.inr (Or.inl ⟨rfl, ?_⟩), ?_, ?_, ?_, (HX.out.2.2.2.1.quiet hk).trans hkx (fun _ _ h => h)⟩
            · rw [← hstp, HST.out]
            · have := hb3; rw [hsb.out.1] at this; exact this
            · have := hsb.out.2.1.keep hkx (fun ad e _ _ h => by rw [hsb.out.2.2] at e; cases e; have h1 : gn = b3 := h; have h2 := HGN.out; have h3 := HBS.out; omega)
              rw [hsb.out.1] at this
              exact this
            · intro ad e
              rw [hsb.out.2.2] at e
              cases e
              rfl
          clear hby hb1 hb2 hb3 hkx hk hq9 his r2 r3 r4 hstp hlt d0 d1 d2 d3 d4 d5 d6 d7 d8 d9 d10 f8 f9 f10
          go_wp2
          go_roundw
          case rel => exact HNEW.out
          case measure => simp [intOf]
        · have hstp : stp 0 q0 (sat, stn, sky) = (sat, stn, sky) := by unfold stp; rw [if_neg hlt]
          have HNEW : Hid (RfB wc b3 gn (fun x y z => #[.slice (some ⟨gn, 0, none⟩) N cn, .slice ss ns cs, .slice sa na ca, .slice sb na cb, .bool false, .int .i64 (half : Int), .int .i64 (fr : Int), .slice so rs.length co, x, y, z]) (2, 0, []) (stp 0 q0 (2, 0, [])) (stp 1 q1 (stp 0 q0 (2, 0, []))) (.int .i64 1) y1) := by
            refine Lib.hid ⟨(sat, stn, sky), sk, ck, Or.inr (Or.inl ⟨rfl, ?_⟩), ?_, ?_, HX.out.2.2.1, HX.out.2.2.2.1.quiet hk⟩
            · rw [← hstp, HST.out]
            · have := hby; rw [← HX.out.2.2.2.2] at this; exact this
            · have := HX.out.2.1.quiet hk; rw [← HX.out.2.2.2.2] at this; exact this
          cases is with
          | false =>
            clear hby hk hq9 his hstp hlt d0 d1 d2 d3 d4 d5 d6 d7 d8 d9 d10 f8 f9 f10
            go_wp2
            go_roundw
            case rel => exact HNEW.out
            case measure => simp [intOf]
          | true =>
            obtain ⟨r1, _⟩ := hq9 rfl
            have tg : ¬ ((t9 : Nat) : Int) > (stn : Int) := by omega
            clear hby hk hq9 his hstp hlt r1 d0 d1 d2 d3 d4 d5 d6 d7 d8 d9 d10 f8 f9 f10
            go_wp2
            go_roundw
            case rel => exact HNEW.out
            case measure => simp [intOf]
      · have HP := HPL.out 1 a1 wr (by omega) (by have := HQ.out.2.2.2; omega) HX.out.2.2.2.1 (.int .i64 sat) (.int .u64 (stn : Int)) (.slice sk nk ck)
        rw [HQ.out.2.1] at HP
        have HPH := Lib.hid HP
        have HST := Lib.hid hst
        clear HP hst
        go_wp2_with fail
        refine HPH.out.mono ?_
        rintro e y1 ⟨s9, n9, c9, t9, is, rfl, his, hq9, hk⟩
        have hby := (hk.block b3 (lt_of_heap HX.out.1) (fun h => h)).trans HX.out.1
        have d9y := cellAt hby 9
        simp at d9y
        clear HPH
        by_cases hlt : stn < q1.1
        · have hist : is = true := by rw [his]; simp; omega
          obtain ⟨r1, r2, r3, o9, r4⟩ := hq9 hist
          subst hist r1
          have tg : ((q1.1 : Nat) : Int) > (stn : Int) := by omega
          have hsb := Lib.hid (And.intro r2 (And.intro r3 r4))
          have hstp : stp 1 q1 (sat, stn, sky) = (1, q1.1, q1.2) := by unfold stp; rw [if_pos hlt]
          have g8f := freeAt hby 8
          have g8 := cellAt hby 8
          simp at g8
          obtain ⟨x1, hx1⟩ : ∃ v, y1.setCell ⟨b3, 8, none⟩ (.int .i64 1) = v := ⟨_, rfl⟩
          have hb1 : x1.heap[b3]? = some (.cells #[.slice (some ⟨gn, 0, none⟩) N cn, .slice ss ns cs, .slice sa na ca, .slice sb na cb, .bool false, .int .i64 (half : Int), .int .i64 (fr : Int), .slice so rs.length co, .int .i64 1, .int .u64 (stn : Int), .slice sk nk ck] 41 (0, 0)) := by rw [← hx1, heap_setCell_at hby]; rfl
          have g9f := freeAt hb1 9
          have g9 := cellAt hb1 9
          simp at g9
          obtain ⟨x2, hx2⟩ : ∃ v, x1.setCell ⟨b3, 9, none⟩ (.int .u64 ((q1.1 : Nat) : Int)) = v := ⟨_, rfl⟩
          have hb2 : x2.heap[b3]? = some (.cells #[.slice (some ⟨gn, 0, none⟩) N cn, .slice ss ns cs, .slice sa na ca, .slice sb na cb, .bool false, .int .i64 (half : Int), .int .i64 (fr : Int), .slice so rs.length co, .int .i64 1, .int .u64 ((q1.1 : Nat) : Int), .slice sk nk ck] 41 (0, 0)) := by rw [← hx2, heap_setCell_at hb1]; rfl
          have g10f := freeAt hb2 10
          have g10 := cellAt hb2 10
          simp at g10
          obtain ⟨x3, hx3⟩ : ∃ v, x2.setCell ⟨b3, 10, none⟩ (.slice s9 n9 c9) = v := ⟨_, rfl⟩
          have hb3 : x3.heap[b3]? = some (.cells #[.slice (some ⟨gn, 0, none⟩) N cn, .slice ss ns cs, .slice sa na ca, .slice sb na cb, .bool false, .int .i64 (half : Int), .int .i64 (fr : Int), .slice so rs.length co, .int .i64 1, .int .u64 ((q1.1 : Nat) : Int), .slice s9 n9 c9] 41 (0, 0)) := by rw [← hx3, heap_setCell_at hb2]; rfl
          have hkx : Keeps (fun j => j = b3) y1 x3 := by rw [← hx3, ← hx2, ← hx1]; exact (((Keeps.refl (fun j => j = b3) y1).setCell (p := ⟨b3, 8, none⟩) (fun _ => rfl) _).setCell (p := ⟨b3, 9, none⟩) (fun _ => rfl) _).setCell (p := ⟨b3, 10, none⟩) (fun _ => rfl) _
          have HNEW : Hid (RfB wc b3 gn (fun x y z => #[.slice (some ⟨gn, 0, none⟩) N cn, .slice ss ns cs, .slice sa na ca, .slice sb na cb, .bool false, .int .i64 (half : Int), .int .i64 (fr : Int), .slice so rs.length co, x, y, z]) (2, 0, []) (stp 0 q0 (2, 0, [])) (stp 1 q1 (stp 0 q0 (2, 0, []))) (.int .i64 2) x3) := by
            refine Lib.hid ⟨(1, q1.1, q1.2), s9, c9, Or.inr (Or.inr ⟨rfl, ?_⟩), ?_, ?_, ?_, (HX.out.2.2.2.1.quiet hk).trans hkx (fun _ _ h => h)⟩
            · rw [← hstp, HST.out]
            · have := hb3; rw [hsb.out.1] at this; exact this
            · have := hsb.out.2.1.keep hkx (fun ad e _ _ h => by rw [hsb.out.2.2] at e; cases e; have h1 : gn = b3 := h; have h2 := HGN.out; have h3 := HBS.out; omega)
              rw [hsb.out.1] at this
              exact this
            · intro ad e
              rw [hsb.out.2.2] at e
              cases e
              rfl
          clear hby hb1 hb2 hb3 hkx hk hq9 his r2 r3 r4 hstp hlt d0 d1 d2 d3 d4 d5 d6 d7 d8 d9 d10 f8 f9 f10
          go_wp2
          go_roundw
          case rel => exact HNEW.out
          case measure => simp [intOf]
        · have hstp : stp 1 q1 (sat, stn, sky) = (sat, stn, sky) := by unfold stp; rw [if_neg hlt]
          have HNEW : Hid (RfB wc b3 gn (fun x y z => #[.slice (some ⟨gn, 0, none⟩) N cn, .slice ss ns cs, .slice sa na ca, .slice sb na cb, .bool false, .int .i64 (half : Int), .int .i64 (fr : Int), .slice so rs.length co, x, y, z]) (2, 0, []) (stp 0 q0 (2, 0, [])) (stp 1 q1 (stp 0 q0 (2, 0, []))) (.int .i64 2) y1) := by
            refine Lib.hid ⟨(sat, stn, sky), sk, ck, Or.inr (Or.inr ⟨rfl, ?_⟩), ?_, ?_, HX.out.2.2.1, HX.out.2.2.2.1.quiet hk⟩
            · rw [← hstp, HST.out]
            · have := hby; rw [← HX.out.2.2.2.2] at this; exact this
            · have := HX.out.2.1.quiet hk; rw [← HX.out.2.2.2.2] at this; exact this
          cases is with
          | false =>
            clear hby hk hq9 his hstp hlt d0 d1 d2 d3 d4 d5 d6 d7 d8 d9 d10 f8 f9 f10
            go_wp2
            go_roundw
            case rel => exact HNEW.out
            case measure => simp [intOf]
          | true =>
            obtain ⟨r1, _⟩ := hq9 rfl
            have tg : ¬ ((t9 : Nat) : Int) > (stn : Int) := by omega
            clear hby hk hq9 his hstp hlt r1 d0 d1 d2 d3 d4 d5 d6 d7 d8 d9 d10 f8 f9 f10
            go_wp2
            go_roundw
            case rel => exact HNEW.out
            case measure => simp [intOf]
      · have HST := Lib.hid hst
        clear hst
        have hfh2 : fr ≤ half := HRW.out.2.2.2.2.2
        obtain ⟨hf, hhf⟩ : ∃ z, half - fr = z := ⟨_, rfl⟩
        have z1 : (half : Int) - (fr : Int) = (hf : Int) := by omega
        have z2 : IntKind.i64.wrap (hf : Int) = (hf : Int) := IntWalk.i64_in _ (by omega)
        have hff : fr + hf ≤ N := by omega
        have HHF := Lib.hid (And.intro hhf hff)
        have hkWr : Keeps (fun j => j = b3) wc wr := HX.out.2.2.2.1
        have HRD : Hid (RefAt wr 0 #[.slice (some ⟨gn, 0, none⟩) N cn, .slice ss ns cs, .slice sa na ca, .slice sb na cb, .bool false] D) := Lib.hid ((HD0.out.keep KC.out (fun _ _ _ h => h)).keep' hkWr (RF.weak HD0.out.foot (fun j hj e => by have h1 := HBS.out; have e' : j = b3 := e; omega)))
        have HWZ : Hid (∀ (u : World) (gz : Nat), RefAt u 0 #[.slice (some ⟨gn, 0, none⟩) N cn, .slice ss ns cs, .slice sa na ca, .slice sb na cb, .bool false] D → Sl u (some ⟨gz, 0, none⟩) hf hf (BV (List.replicate hf 0)) → Calls Try.prog 39 #[.agg #[.slice (some ⟨gn, 0, none⟩) N cn, .slice ss ns cs, .slice sa na ca, .slice sb na cb, .bool false], .int .i64 (fr : Int), .slice (some ⟨gz, 0, none⟩) hf hf] u fun e w' => ∃ v', e = .returned (.tuple #[.agg v', .int .i64 0]) ∧ RefAt w' 0 v' (D.zero fr hf) ∧ Keeps (fun _ => False) u w' ∧ RGrow u #[.slice (some ⟨gn, 0, none⟩) N cn, .slice ss ns cs, .slice sa na ca, .slice sb na cb, .bool false] v') := Lib.hid (fun u gz h hz => refWrite_ok 0 fr hf (List.replicate hf 0) (by simp) (some ⟨gz, 0, none⟩) gz 0 hf (fun _ => rfl) D _ u (fun j c hc => by have := hz.cell (j := j) (u := .int .u8 (c.toNat : Int)) (by rw [BV_get, hc]; rfl); exact this) h HDF.out.1 N HDF.out.2.1 HHF.out.2 hN (by omega) HDF.out.2.2 (Nat.zero_le _))
        clear hfh2 hhf hff hkWr
        go_upto_region 19 with (fail)
        go_cut [12] (fun s12 wx => RfW wr (D.zero fr hf) #[.slice (some ⟨gn, 0, none⟩) N cn, .slice ss ns cs, .slice sa na ca, .slice sb na cb, .bool false] s12 wx)
        case first =>
          obtain ⟨v0, hdr⟩ : ∃ v, World.drew wr = v := ⟨_, rfl⟩
          have hk : Keeps (fun _ => False) wr v0 := by rw [← hdr]; exact (Keeps.refl _ _).drew
          refine z_begin (fun w' => Keeps (fun _ => False) (World.drew wr) w') 17 (by kernel_rfl) (Keeps.refl _ _) (fun hHeld => ?_)
          rw [hdr] at hHeld ⊢
          have RA := Lib.hid (HRD.out.keep hk (fun _ _ _ h => h))
          have HB := Lib.hid ((hk.block b3 (lt_of_heap HX.out.1) (fun h => h)).trans HX.out.1)
          have KV : Hid (Keeps (fun _ => False) wr v0) := Lib.hid hk
          have HV0 : Hid (v0.heap.size = wr.heap.size) := Lib.hid (by rw [← hdr]; rfl)
          clear hk hdr
          refine z_take 0 (v := ?_) rfl (by kernel_rfl) (by kernel_rfl) (by kernel_rfl) (by kernel_rfl) (fun _ _ _ h => h) hHeld (by rfl) (fun w hSw => ?_) ?_
          rotate_left
          · clear hSw; simp only [List.getElem_toArray, List.getElem_cons_zero]; go_simp; try rfl
          simp only [Act.put, List.getElem_toArray, List.getElem_cons_zero, List.setIfInBounds_toArray, List.set_cons_zero, List.set_cons_succ]
          refine z_take 1 (v := ?_) rfl (by kernel_rfl) (by kernel_rfl) (by kernel_rfl) (by kernel_rfl) (fun _ _ _ h => h) hHeld (by rfl) (fun w hSw => ?_) ?_
          rotate_left
          · have hb := (hSw.block b3 (lt_of_heap HB.out) (fun h => h)).trans HB.out; have c0 := cellAt hb 0; have c1 := cellAt hb 1; have c2 := cellAt hb 2; have c3 := cellAt hb 3; have c4 := cellAt hb 4; simp at c0 c1 c2 c3 c4; clear hb; clear hSw; simp only [List.getElem_toArray, List.getElem_cons_zero, List.getElem_cons_succ]; go_simp; try rfl
          simp only [Act.put, List.getElem_toArray, List.getElem_cons_zero, List.getElem_cons_succ, List.setIfInBounds_toArray, List.set_cons_zero, List.set_cons_succ]
          refine z_take 2 (v := ?_) rfl (by kernel_rfl) (by kernel_rfl) (by kernel_rfl) (by kernel_rfl) (fun _ _ _ h => h) hHeld (by rfl) (fun w hSw => ?_) ?_
          rotate_left
          · clear hSw; simp only [List.getElem_toArray, List.getElem_cons_zero, List.getElem_cons_succ]; go_simp; try rfl
          simp only [Act.put, List.getElem_toArray, List.getElem_cons_zero, List.getElem_cons_succ, List.setIfInBounds_toArray, List.set_cons_zero, List.set_cons_succ]
          refine z_take 3 (v := ?_) rfl (by kernel_rfl) (by kernel_rfl) (by kernel_rfl) (by kernel_rfl) (fun _ _ _ h => h) hHeld (by rfl) (fun w hSw => ?_) ?_
          rotate_left
          · have hb := (hSw.block b3 (lt_of_heap HB.out) (fun h => h)).trans HB.out; have c6 := cellAt hb 6; simp at c6; clear hb; clear hSw; simp only [List.getElem_toArray, List.getElem_cons_zero, List.getElem_cons_succ]; go_simp; try rfl
          simp only [Act.put, List.getElem_toArray, List.getElem_cons_zero, List.getElem_cons_succ, List.setIfInBounds_toArray, List.set_cons_zero, List.set_cons_succ]
          refine z_take 4 (v := ?_) rfl (by kernel_rfl) (by kernel_rfl) (by kernel_rfl) (by kernel_rfl) (fun _ _ _ h => h) hHeld (by rfl) (fun w hSw => ?_) ?_
          rotate_left
          · clear hSw; simp only [List.getElem_toArray, List.getElem_cons_zero, List.getElem_cons_succ]; go_simp; try rfl
          simp only [Act.put, List.getElem_toArray, List.getElem_cons_zero, List.getElem_cons_succ, List.setIfInBounds_toArray, List.set_cons_zero, List.set_cons_succ]
          refine z_take 5 (v := ?_) rfl (by kernel_rfl) (by kernel_rfl) (by kernel_rfl) (by kernel_rfl) (fun _ _ _ h => h) hHeld (by rfl) (fun w hSw => ?_) ?_
          rotate_left
          · have hb := (hSw.block b3 (lt_of_heap HB.out) (fun h => h)).trans HB.out; have c5 := cellAt hb 5; simp at c5; clear hb; clear hSw; simp only [List.getElem_toArray, List.getElem_cons_zero, List.getElem_cons_succ]; go_simp; try rfl
          simp only [Act.put, List.getElem_toArray, List.getElem_cons_zero, List.getElem_cons_succ, List.setIfInBounds_toArray, List.set_cons_zero, List.set_cons_succ]
          refine z_take 6 (v := ?_) rfl (by kernel_rfl) (by kernel_rfl) (by kernel_rfl) (by kernel_rfl) (fun _ _ _ h => h) hHeld (by rfl) (fun w hSw => ?_) ?_
          rotate_left
          · clear hSw; simp only [List.getElem_toArray, List.getElem_cons_zero, List.getElem_cons_succ]; go_simp; try rfl
          simp only [Act.put, List.getElem_toArray, List.getElem_cons_zero, List.getElem_cons_succ, List.setIfInBounds_toArray, List.set_cons_zero, List.set_cons_succ]
          refine z_take 7 (v := ?_) rfl (by kernel_rfl) (by kernel_rfl) (by kernel_rfl) (by kernel_rfl) (fun _ _ _ h => h) hHeld (by rfl) (fun w hSw => ?_) ?_
          rotate_left
          · have hb := (hSw.block b3 (lt_of_heap HB.out) (fun h => h)).trans HB.out; have c6 := cellAt hb 6; simp at c6; clear hb; clear hSw; simp only [List.getElem_toArray, List.getElem_cons_zero, List.getElem_cons_succ]; go_simp; try rfl
          simp only [Act.put, List.getElem_toArray, List.getElem_cons_zero, List.getElem_cons_succ, List.setIfInBounds_toArray, List.set_cons_zero, List.set_cons_succ]
          refine z_take 8 (v := ?_) rfl (by kernel_rfl) (by kernel_rfl) (by kernel_rfl) (by kernel_rfl) (fun _ _ _ h => h) hHeld (by rfl) (fun w hSw => ?_) ?_
          rotate_left
          · clear hSw; simp only [List.getElem_toArray, List.getElem_cons_zero, List.getElem_cons_succ]; go_simp; try rfl
          simp only [Act.put, List.getElem_toArray, List.getElem_cons_zero, List.getElem_cons_succ, List.setIfInBounds_toArray, List.set_cons_zero, List.set_cons_succ]
          refine z_two 9 14 rfl rfl (by kernel_rfl) (by rfl) (by rfl) (fun K hK => ?_) (fun K hK => ?_)
          · skip
            simp only [List.getElem_toArray, List.getElem_cons_zero, List.getElem_cons_succ]
            have cv := run_mk hf (by omega) v0
            have hom := owns_made v0 hf (by omega)
            obtain ⟨gz, hgz⟩ : ∃ g, v0.heap.size = g := ⟨_, rfl⟩
            obtain ⟨t1_, hy⟩ : ∃ v, World.alloc v0 (.cells (madeCells #[.int .u8 0] hf) 5) = v := ⟨_, rfl⟩
            have hk : Keeps (fun _ => False) v0 t1_ := by rw [← hy]; exact (Keeps.refl _ v0).alloc _
            rw [hy, hgz] at cv hom
            go_simp
            clear cv hgz hy
            replace RA := Lib.hid (RA.out.keep hk (fun _ _ _ h => h))
            replace KV := Lib.hid (KV.out.quiet hk)
            have ZS := Lib.hid (Sl.of_own hom)
            clear hom
            refine hK _ _ (Or.inr (hHeld.quiet hk)) (fun hHeld => ?_)
            clear hK K
            replace hHeld := hHeld.resolve_left (by decide)
            try simp only [Act.put, List.setIfInBounds_toArray, List.set_cons_zero, List.set_cons_succ]
            clear hk
            refine z_two 10 14 rfl rfl (by kernel_rfl) (by rfl) (by rfl) (fun K hK => ?_) (fun K hK => ?_)
            · skip
              simp only [List.getElem_toArray, List.getElem_cons_zero, List.getElem_cons_succ]
              have hw := HWZ.out t1_ gz RA.out ZS.out
              go_simp
              refine hw.mono ?_
              have HSZ : Hid (wr.heap.size ≤ t1_.heap.size) := Lib.hid KV.out.size
              rintro e t2_ ⟨v1, rfl, hra, hk, hrg⟩
              obtain ⟨sn1, cn1, ss1, cs1, sa1, ca1, sb1, cb1, rfl, _⟩ := hra.rows
              clear hw
              replace RA := Lib.hid (RA.out.keep hk (fun _ _ _ h => h))
              replace ZS := Lib.hid (ZS.out.quiet hk)
              replace KV := Lib.hid (KV.out.quiet hk)
              have RV := Lib.hid (And.intro hra hrg)
              have KVR : Hid (wr.heap.size ≤ t1_.heap.size) := Lib.hid HSZ.out
              clear hra hrg
              refine hK _ _ (Or.inr (hHeld.quiet hk)) (fun hHeld => ?_)
              clear hK K
              replace hHeld := hHeld.resolve_left (by decide)
              try simp only [Act.put, List.setIfInBounds_toArray, List.set_cons_zero, List.set_cons_succ]
              clear hk
              refine z_take 11 (v := ?_) rfl (by kernel_rfl) (by kernel_rfl) (by kernel_rfl) (by kernel_rfl) (fun _ _ _ h => h) hHeld (by rfl) (fun w hSw => ?_) ?_
              rotate_left
              · clear hSw; simp only [List.getElem_toArray, List.getElem_cons_zero, List.getElem_cons_succ]; go_simp; try rfl
              simp only [Act.put, List.getElem_toArray, List.getElem_cons_zero, List.getElem_cons_succ, List.setIfInBounds_toArray, List.set_cons_zero, List.set_cons_succ]
              refine z_take 12 (v := ?_) rfl (by kernel_rfl) (by kernel_rfl) (by kernel_rfl) (by kernel_rfl) (fun _ _ _ h => h) hHeld (by rfl) (fun w hSw => ?_) ?_
              rotate_left
              · clear hSw; simp only [List.getElem_toArray, List.getElem_cons_zero, List.getElem_cons_succ]; go_simp; try rfl
              simp only [Act.put, List.getElem_toArray, List.getElem_cons_zero, List.getElem_cons_succ, List.setIfInBounds_toArray, List.set_cons_zero, List.set_cons_succ]
              refine z_take 13 (v := ?_) rfl (by kernel_rfl) (by kernel_rfl) (by kernel_rfl) (by kernel_rfl) (fun _ _ _ h => h) hHeld (by rfl) (fun w hSw => ?_) ?_
              rotate_left
              · clear hSw; simp only [List.getElem_toArray, List.getElem_cons_zero, List.getElem_cons_succ]; go_simp; try rfl
              simp only [Act.put, List.getElem_toArray, List.getElem_cons_zero, List.getElem_cons_succ, List.setIfInBounds_toArray, List.set_cons_zero, List.set_cons_succ]
              refine z_one 14 rfl (by kernel_rfl) (by rfl) (fun K hK => ?_)
              simp only [List.getElem_toArray, List.getElem_cons_zero, List.getElem_cons_succ]
              obtain ⟨b4, hb4⟩ : ∃ g, t2_.heap.size = g := ⟨_, rfl⟩
              obtain ⟨t3_, hy⟩ : ∃ v, World.alloc t2_ (.cells #[.slice none 0 0, .slice none 0 0, .slice none 0 0, .slice none 0 0, .bool false] 38) = v := ⟨_, rfl⟩
              have hk : Keeps (fun _ => False) t2_ t3_ := by rw [← hy]; exact (Keeps.refl _ t2_).alloc _
              have ha4 : t3_.heap[b4]? = some (.cells #[.slice none 0 0, .slice none 0 0, .slice none 0 0, .slice none 0 0, .bool false] 38 (0, 0)) := by rw [← hy, ← hb4]; exact World.alloc_heap_new t2_ _
              have hl4 : wr.heap.size ≤ b4 := by rw [← hb4]; exact KV.out.size
              go_simp
              clear hy hb4
              replace RA := Lib.hid (RA.out.keep hk (fun _ _ _ h => h))
              replace ZS := Lib.hid (ZS.out.quiet hk)
              replace RV := Lib.hid (And.intro (RV.out.1.keep hk (fun _ _ _ h => h)) RV.out.2)
              replace KV := Lib.hid (KV.out.quiet hk)
              have A4 := Lib.hid ha4
              have L4 := Lib.hid hl4
              clear ha4 hl4
              refine hK _ _ (Or.inr (hHeld.quiet hk)) (fun hHeld => ?_)
              clear hK K
              replace hHeld := hHeld.resolve_left (by decide)
              try simp only [Act.put, List.setIfInBounds_toArray, List.set_cons_zero, List.set_cons_succ]
              clear hk
              have RVF : Hid (RF (fun j => ¬ j = b4) #[.slice sn1 (D.zero fr hf).now.length cn1, .slice ss1 (D.zero fr hf).sure.length cs1, .slice sa1 (D.zero fr hf).lo.length ca1, .slice sb1 (D.zero fr hf).lo.length cb1, .bool (D.zero fr hf).cr]) := Lib.hid (ref_apart RV.out.1 A4.out)
              have j0 := cellAt A4.out 0
              have j1 := cellAt A4.out 1
              have j2 := cellAt A4.out 2
              have j3 := cellAt A4.out 3
              have j4 := cellAt A4.out 4
              have k0 := freeAt A4.out 0
              have k1 := freeAt A4.out 1
              have k2 := freeAt A4.out 2
              have k3 := freeAt A4.out 3
              have k4 := freeAt A4.out 4
              simp at j0 j1 j2 j3 j4
              refine z_one 15 rfl (by kernel_rfl) (by rfl) (fun K hK => ?_)
              simp only [List.getElem_toArray, List.getElem_cons_zero, List.getElem_cons_succ]
              have h5 := heap_five A4.out (.slice sn1 (D.zero fr hf).now.length cn1) (.slice ss1 (D.zero fr hf).sure.length cs1) (.slice sa1 (D.zero fr hf).lo.length ca1) (.slice sb1 (D.zero fr hf).lo.length cb1) (.bool (D.zero fr hf).cr)
              have k5 := keeps_five t3_ b4 (.slice sn1 (D.zero fr hf).now.length cn1) (.slice ss1 (D.zero fr hf).sure.length cs1) (.slice sa1 (D.zero fr hf).lo.length ca1) (.slice sb1 (D.zero fr hf).lo.length cb1) (.bool (D.zero fr hf).cr)
              have HF : Hid (RfW wr (D.zero fr hf) #[.slice (some ⟨gn, 0, none⟩) N cn, .slice ss ns cs, .slice sa na ca, .slice sb na cb, .bool false] (.pointer (some ⟨b4, 0, none⟩)) (((((t3_.setCell ⟨b4, 0, none⟩ (.slice sn1 (D.zero fr hf).now.length cn1)).setCell ⟨b4, 1, none⟩ (.slice ss1 (D.zero fr hf).sure.length cs1)).setCell ⟨b4, 2, none⟩ (.slice sa1 (D.zero fr hf).lo.length ca1)).setCell ⟨b4, 3, none⟩ (.slice sb1 (D.zero fr hf).lo.length cb1)).setCell ⟨b4, 4, none⟩ (.bool (D.zero fr hf).cr))) := Lib.hid ⟨b4, _, rfl, h5, RV.out.1.keep' k5 (RVF.out), fun G h1 h2 => RV.out.2 G h1 (fun j hj => h2 j (Nat.le_trans KVR.out hj)), KV.out.trans k5 (fun j hj e => by have := L4.out; have e' : j = b4 := e; omega), L4.out⟩
              have HF5 := Lib.hid k5
              have hS6 := Lib.hid (hHeld.trans k5 (fun j hj e => by have := L4.out; have h0 := HV0.out; have e' : j = b4 := e; omega))
              clear h5 k5
              generalize (D.zero fr hf).now.length = l1_ at *
              generalize (D.zero fr hf).sure.length = l2_ at *
              generalize (D.zero fr hf).lo.length = l3_ at *
              generalize (D.zero fr hf).cr = l4_ at *
              clear HF5
              go_simp
              refine hK _ _ (Or.inr hS6.out) (fun hHeld => ?_)
              clear hK K
              replace hHeld := hS6.out
              clear hS6
              try simp only [Act.put, List.setIfInBounds_toArray, List.set_cons_zero, List.set_cons_succ]
              refine z_one 16 rfl (by kernel_rfl) (by rfl) (fun K hK => ?_)
              simp only [List.getElem_toArray, List.getElem_cons_zero, List.getElem_cons_succ]
              go_simp
              refine hK _ _ (Or.inr ?_) (fun hHeld => ?_)
              · exact hHeld
              clear hK K
              replace hHeld := hHeld.resolve_left (by decide)
              try simp only [Act.put, List.setIfInBounds_toArray, List.set_cons_zero, List.set_cons_succ]
              refine z_done (by kernel_rfl) ?_ _
              clear hHeld
              go_wp2_with fail
              go_meet
              exact HF.out
            · skip
              simp only [List.getElem_toArray, List.getElem_cons_zero, List.getElem_cons_succ]
              obtain ⟨b4, hb4⟩ : ∃ g, t1_.heap.size = g := ⟨_, rfl⟩
              obtain ⟨t5_, hy⟩ : ∃ v, World.alloc t1_ (.cells #[.slice none 0 0, .slice none 0 0, .slice none 0 0, .slice none 0 0, .bool false] 38) = v := ⟨_, rfl⟩
              have hk : Keeps (fun _ => False) t1_ t5_ := by rw [← hy]; exact (Keeps.refl _ t1_).alloc _
              have ha4 : t5_.heap[b4]? = some (.cells #[.slice none 0 0, .slice none 0 0, .slice none 0 0, .slice none 0 0, .bool false] 38 (0, 0)) := by rw [← hy, ← hb4]; exact World.alloc_heap_new t1_ _
              have hl4 : wr.heap.size ≤ b4 := by rw [← hb4]; exact KV.out.size
              go_simp
              clear hy hb4
              replace RA := Lib.hid (RA.out.keep hk (fun _ _ _ h => h))
              replace ZS := Lib.hid (ZS.out.quiet hk)
              replace KV := Lib.hid (KV.out.quiet hk)
              have A4 := Lib.hid ha4
              have L4 := Lib.hid hl4
              clear ha4 hl4
              refine hK _ _ (Or.inr (hHeld.quiet hk)) (fun hHeld => ?_)
              clear hK K
              replace hHeld := hHeld.resolve_left (by decide)
              try simp only [Act.put, List.setIfInBounds_toArray, List.set_cons_zero, List.set_cons_succ]
              clear hk
              refine z_one 10 rfl (by kernel_rfl) (by rfl) (fun K hK => ?_)
              simp only [List.getElem_toArray, List.getElem_cons_zero, List.getElem_cons_succ]
              have hw := HWZ.out t5_ gz RA.out ZS.out
              go_simp
              refine hw.mono ?_
              have HSZ : Hid (wr.heap.size ≤ t5_.heap.size) := Lib.hid KV.out.size
              rintro e t6_ ⟨v1, rfl, hra, hk, hrg⟩
              obtain ⟨sn1, cn1, ss1, cs1, sa1, ca1, sb1, cb1, rfl, _⟩ := hra.rows
              clear hw
              replace RA := Lib.hid (RA.out.keep hk (fun _ _ _ h => h))
              replace ZS := Lib.hid (ZS.out.quiet hk)
              replace A4 := Lib.hid ((hk.block b4 (lt_of_heap A4.out) (fun h => h)).trans A4.out)
              replace KV := Lib.hid (KV.out.quiet hk)
              have RV := Lib.hid (And.intro hra hrg)
              have KVR : Hid (wr.heap.size ≤ t5_.heap.size) := Lib.hid HSZ.out
              clear hra hrg
              refine hK _ _ (Or.inr (hHeld.quiet hk)) (fun hHeld => ?_)
              clear hK K
              replace hHeld := hHeld.resolve_left (by decide)
              try simp only [Act.put, List.setIfInBounds_toArray, List.set_cons_zero, List.set_cons_succ]
              clear hk
              refine z_take 11 (v := ?_) rfl (by kernel_rfl) (by kernel_rfl) (by kernel_rfl) (by kernel_rfl) (fun _ _ _ h => h) hHeld (by rfl) (fun w hSw => ?_) ?_
              rotate_left
              · clear hSw; simp only [List.getElem_toArray, List.getElem_cons_zero, List.getElem_cons_succ]; go_simp; try rfl
              simp only [Act.put, List.getElem_toArray, List.getElem_cons_zero, List.getElem_cons_succ, List.setIfInBounds_toArray, List.set_cons_zero, List.set_cons_succ]
              refine z_take 12 (v := ?_) rfl (by kernel_rfl) (by kernel_rfl) (by kernel_rfl) (by kernel_rfl) (fun _ _ _ h => h) hHeld (by rfl) (fun w hSw => ?_) ?_
              rotate_left
              · clear hSw; simp only [List.getElem_toArray, List.getElem_cons_zero, List.getElem_cons_succ]; go_simp; try rfl
              simp only [Act.put, List.getElem_toArray, List.getElem_cons_zero, List.getElem_cons_succ, List.setIfInBounds_toArray, List.set_cons_zero, List.set_cons_succ]
              refine z_take 13 (v := ?_) rfl (by kernel_rfl) (by kernel_rfl) (by kernel_rfl) (by kernel_rfl) (fun _ _ _ h => h) hHeld (by rfl) (fun w hSw => ?_) ?_
              rotate_left
              · clear hSw; simp only [List.getElem_toArray, List.getElem_cons_zero, List.getElem_cons_succ]; go_simp; try rfl
              simp only [Act.put, List.getElem_toArray, List.getElem_cons_zero, List.getElem_cons_succ, List.setIfInBounds_toArray, List.set_cons_zero, List.set_cons_succ]
              have RVF : Hid (RF (fun j => ¬ j = b4) #[.slice sn1 (D.zero fr hf).now.length cn1, .slice ss1 (D.zero fr hf).sure.length cs1, .slice sa1 (D.zero fr hf).lo.length ca1, .slice sb1 (D.zero fr hf).lo.length cb1, .bool (D.zero fr hf).cr]) := Lib.hid (ref_apart RV.out.1 A4.out)
              have j0 := cellAt A4.out 0
              have j1 := cellAt A4.out 1
              have j2 := cellAt A4.out 2
              have j3 := cellAt A4.out 3
              have j4 := cellAt A4.out 4
              have k0 := freeAt A4.out 0
              have k1 := freeAt A4.out 1
              have k2 := freeAt A4.out 2
              have k3 := freeAt A4.out 3
              have k4 := freeAt A4.out 4
              simp at j0 j1 j2 j3 j4
              refine z_one 15 rfl (by kernel_rfl) (by rfl) (fun K hK => ?_)
              simp only [List.getElem_toArray, List.getElem_cons_zero, List.getElem_cons_succ]
              have h5 := heap_five A4.out (.slice sn1 (D.zero fr hf).now.length cn1) (.slice ss1 (D.zero fr hf).sure.length cs1) (.slice sa1 (D.zero fr hf).lo.length ca1) (.slice sb1 (D.zero fr hf).lo.length cb1) (.bool (D.zero fr hf).cr)
              have k5 := keeps_five t6_ b4 (.slice sn1 (D.zero fr hf).now.length cn1) (.slice ss1 (D.zero fr hf).sure.length cs1) (.slice sa1 (D.zero fr hf).lo.length ca1) (.slice sb1 (D.zero fr hf).lo.length cb1) (.bool (D.zero fr hf).cr)
              have HF : Hid (RfW wr (D.zero fr hf) #[.slice (some ⟨gn, 0, none⟩) N cn, .slice ss ns cs, .slice sa na ca, .slice sb na cb, .bool false] (.pointer (some ⟨b4, 0, none⟩)) (((((t6_.setCell ⟨b4, 0, none⟩ (.slice sn1 (D.zero fr hf).now.length cn1)).setCell ⟨b4, 1, none⟩ (.slice ss1 (D.zero fr hf).sure.length cs1)).setCell ⟨b4, 2, none⟩ (.slice sa1 (D.zero fr hf).lo.length ca1)).setCell ⟨b4, 3, none⟩ (.slice sb1 (D.zero fr hf).lo.length cb1)).setCell ⟨b4, 4, none⟩ (.bool (D.zero fr hf).cr))) := Lib.hid ⟨b4, _, rfl, h5, RV.out.1.keep' k5 (RVF.out), fun G h1 h2 => RV.out.2 G h1 (fun j hj => h2 j (Nat.le_trans KVR.out hj)), KV.out.trans k5 (fun j hj e => by have := L4.out; have e' : j = b4 := e; omega), L4.out⟩
              have HF5 := Lib.hid k5
              have hS6 := Lib.hid (hHeld.trans k5 (fun j hj e => by have := L4.out; have h0 := HV0.out; have e' : j = b4 := e; omega))
              clear h5 k5
              generalize (D.zero fr hf).now.length = l1_ at *
              generalize (D.zero fr hf).sure.length = l2_ at *
              generalize (D.zero fr hf).lo.length = l3_ at *
              generalize (D.zero fr hf).cr = l4_ at *
              clear HF5
              go_simp
              refine hK _ _ (Or.inr hS6.out) (fun hHeld => ?_)
              clear hK K
              replace hHeld := hS6.out
              clear hS6
              try simp only [Act.put, List.setIfInBounds_toArray, List.set_cons_zero, List.set_cons_succ]
              refine z_one 16 rfl (by kernel_rfl) (by rfl) (fun K hK => ?_)
              simp only [List.getElem_toArray, List.getElem_cons_zero, List.getElem_cons_succ]
              go_simp
              refine hK _ _ (Or.inr ?_) (fun hHeld => ?_)
              · exact hHeld
              clear hK K
              replace hHeld := hHeld.resolve_left (by decide)
              try simp only [Act.put, List.setIfInBounds_toArray, List.set_cons_zero, List.set_cons_succ]
              refine z_done (by kernel_rfl) ?_ _
              clear hHeld
              go_wp2_with fail
              go_meet
              exact HF.out
          · skip
            simp only [List.getElem_toArray, List.getElem_cons_zero, List.getElem_cons_succ]
            obtain ⟨b4, hb4⟩ : ∃ g, v0.heap.size = g := ⟨_, rfl⟩
            obtain ⟨t8_, hy⟩ : ∃ v, World.alloc v0 (.cells #[.slice none 0 0, .slice none 0 0, .slice none 0 0, .slice none 0 0, .bool false] 38) = v := ⟨_, rfl⟩
            have hk : Keeps (fun _ => False) v0 t8_ := by rw [← hy]; exact (Keeps.refl _ v0).alloc _
            have ha4 : t8_.heap[b4]? = some (.cells #[.slice none 0 0, .slice none 0 0, .slice none 0 0, .slice none 0 0, .bool false] 38 (0, 0)) := by rw [← hy, ← hb4]; exact World.alloc_heap_new v0 _
            have hl4 : wr.heap.size ≤ b4 := by rw [← hb4]; exact KV.out.size
            go_simp
            clear hy hb4
            replace RA := Lib.hid (RA.out.keep hk (fun _ _ _ h => h))
            replace KV := Lib.hid (KV.out.quiet hk)
            have A4 := Lib.hid ha4
            have L4 := Lib.hid hl4
            clear ha4 hl4
            refine hK _ _ (Or.inr (hHeld.quiet hk)) (fun hHeld => ?_)
            clear hK K
            replace hHeld := hHeld.resolve_left (by decide)
            try simp only [Act.put, List.setIfInBounds_toArray, List.set_cons_zero, List.set_cons_succ]
            clear hk
            refine z_one 9 rfl (by kernel_rfl) (by rfl) (fun K hK => ?_)
            simp only [List.getElem_toArray, List.getElem_cons_zero, List.getElem_cons_succ]
            have cv := run_mk hf (by omega) t8_
            have hom := owns_made t8_ hf (by omega)
            obtain ⟨gz, hgz⟩ : ∃ g, t8_.heap.size = g := ⟨_, rfl⟩
            obtain ⟨t9_, hy⟩ : ∃ v, World.alloc t8_ (.cells (madeCells #[.int .u8 0] hf) 5) = v := ⟨_, rfl⟩
            have hk : Keeps (fun _ => False) t8_ t9_ := by rw [← hy]; exact (Keeps.refl _ t8_).alloc _
            rw [hy, hgz] at cv hom
            go_simp
            clear cv hgz hy
            replace RA := Lib.hid (RA.out.keep hk (fun _ _ _ h => h))
            replace A4 := Lib.hid ((hk.block b4 (lt_of_heap A4.out) (fun h => h)).trans A4.out)
            replace KV := Lib.hid (KV.out.quiet hk)
            have ZS := Lib.hid (Sl.of_own hom)
            clear hom
            refine hK _ _ (Or.inr (hHeld.quiet hk)) (fun hHeld => ?_)
            clear hK K
            replace hHeld := hHeld.resolve_left (by decide)
            try simp only [Act.put, List.setIfInBounds_toArray, List.set_cons_zero, List.set_cons_succ]
            clear hk
            refine z_one 10 rfl (by kernel_rfl) (by rfl) (fun K hK => ?_)
            simp only [List.getElem_toArray, List.getElem_cons_zero, List.getElem_cons_succ]
            have hw := HWZ.out t9_ gz RA.out ZS.out
            go_simp
            refine hw.mono ?_
            have HSZ : Hid (wr.heap.size ≤ t9_.heap.size) := Lib.hid KV.out.size
            rintro e t10_ ⟨v1, rfl, hra, hk, hrg⟩
            obtain ⟨sn1, cn1, ss1, cs1, sa1, ca1, sb1, cb1, rfl, _⟩ := hra.rows
            clear hw
            replace RA := Lib.hid (RA.out.keep hk (fun _ _ _ h => h))
            replace ZS := Lib.hid (ZS.out.quiet hk)
            replace A4 := Lib.hid ((hk.block b4 (lt_of_heap A4.out) (fun h => h)).trans A4.out)
            replace KV := Lib.hid (KV.out.quiet hk)
            have RV := Lib.hid (And.intro hra hrg)
            have KVR : Hid (wr.heap.size ≤ t9_.heap.size) := Lib.hid HSZ.out
            clear hra hrg
            refine hK _ _ (Or.inr (hHeld.quiet hk)) (fun hHeld => ?_)
            clear hK K
            replace hHeld := hHeld.resolve_left (by decide)
            try simp only [Act.put, List.setIfInBounds_toArray, List.set_cons_zero, List.set_cons_succ]
            clear hk
            refine z_take 11 (v := ?_) rfl (by kernel_rfl) (by kernel_rfl) (by kernel_rfl) (by kernel_rfl) (fun _ _ _ h => h) hHeld (by rfl) (fun w hSw => ?_) ?_
            rotate_left
            · clear hSw; simp only [List.getElem_toArray, List.getElem_cons_zero, List.getElem_cons_succ]; go_simp; try rfl
            simp only [Act.put, List.getElem_toArray, List.getElem_cons_zero, List.getElem_cons_succ, List.setIfInBounds_toArray, List.set_cons_zero, List.set_cons_succ]
            refine z_take 12 (v := ?_) rfl (by kernel_rfl) (by kernel_rfl) (by kernel_rfl) (by kernel_rfl) (fun _ _ _ h => h) hHeld (by rfl) (fun w hSw => ?_) ?_
            rotate_left
            · clear hSw; simp only [List.getElem_toArray, List.getElem_cons_zero, List.getElem_cons_succ]; go_simp; try rfl
            simp only [Act.put, List.getElem_toArray, List.getElem_cons_zero, List.getElem_cons_succ, List.setIfInBounds_toArray, List.set_cons_zero, List.set_cons_succ]
            refine z_take 13 (v := ?_) rfl (by kernel_rfl) (by kernel_rfl) (by kernel_rfl) (by kernel_rfl) (fun _ _ _ h => h) hHeld (by rfl) (fun w hSw => ?_) ?_
            rotate_left
            · clear hSw; simp only [List.getElem_toArray, List.getElem_cons_zero, List.getElem_cons_succ]; go_simp; try rfl
            simp only [Act.put, List.getElem_toArray, List.getElem_cons_zero, List.getElem_cons_succ, List.setIfInBounds_toArray, List.set_cons_zero, List.set_cons_succ]
            have RVF : Hid (RF (fun j => ¬ j = b4) #[.slice sn1 (D.zero fr hf).now.length cn1, .slice ss1 (D.zero fr hf).sure.length cs1, .slice sa1 (D.zero fr hf).lo.length ca1, .slice sb1 (D.zero fr hf).lo.length cb1, .bool (D.zero fr hf).cr]) := Lib.hid (ref_apart RV.out.1 A4.out)
            have j0 := cellAt A4.out 0
            have j1 := cellAt A4.out 1
            have j2 := cellAt A4.out 2
            have j3 := cellAt A4.out 3
            have j4 := cellAt A4.out 4
            have k0 := freeAt A4.out 0
            have k1 := freeAt A4.out 1
            have k2 := freeAt A4.out 2
            have k3 := freeAt A4.out 3
            have k4 := freeAt A4.out 4
            simp at j0 j1 j2 j3 j4
            refine z_one 15 rfl (by kernel_rfl) (by rfl) (fun K hK => ?_)
            simp only [List.getElem_toArray, List.getElem_cons_zero, List.getElem_cons_succ]
            have h5 := heap_five A4.out (.slice sn1 (D.zero fr hf).now.length cn1) (.slice ss1 (D.zero fr hf).sure.length cs1) (.slice sa1 (D.zero fr hf).lo.length ca1) (.slice sb1 (D.zero fr hf).lo.length cb1) (.bool (D.zero fr hf).cr)
            have k5 := keeps_five t10_ b4 (.slice sn1 (D.zero fr hf).now.length cn1) (.slice ss1 (D.zero fr hf).sure.length cs1) (.slice sa1 (D.zero fr hf).lo.length ca1) (.slice sb1 (D.zero fr hf).lo.length cb1) (.bool (D.zero fr hf).cr)
            have HF : Hid (RfW wr (D.zero fr hf) #[.slice (some ⟨gn, 0, none⟩) N cn, .slice ss ns cs, .slice sa na ca, .slice sb na cb, .bool false] (.pointer (some ⟨b4, 0, none⟩)) (((((t10_.setCell ⟨b4, 0, none⟩ (.slice sn1 (D.zero fr hf).now.length cn1)).setCell ⟨b4, 1, none⟩ (.slice ss1 (D.zero fr hf).sure.length cs1)).setCell ⟨b4, 2, none⟩ (.slice sa1 (D.zero fr hf).lo.length ca1)).setCell ⟨b4, 3, none⟩ (.slice sb1 (D.zero fr hf).lo.length cb1)).setCell ⟨b4, 4, none⟩ (.bool (D.zero fr hf).cr))) := Lib.hid ⟨b4, _, rfl, h5, RV.out.1.keep' k5 (RVF.out), fun G h1 h2 => RV.out.2 G h1 (fun j hj => h2 j (Nat.le_trans KVR.out hj)), KV.out.trans k5 (fun j hj e => by have := L4.out; have e' : j = b4 := e; omega), L4.out⟩
            have HF5 := Lib.hid k5
            have hS6 := Lib.hid (hHeld.trans k5 (fun j hj e => by have := L4.out; have h0 := HV0.out; have e' : j = b4 := e; omega))
            clear h5 k5
            generalize (D.zero fr hf).now.length = l1_ at *
            generalize (D.zero fr hf).sure.length = l2_ at *
            generalize (D.zero fr hf).lo.length = l3_ at *
            generalize (D.zero fr hf).cr = l4_ at *
            clear HF5
            go_simp
            refine hK _ _ (Or.inr hS6.out) (fun hHeld => ?_)
            clear hK K
            replace hHeld := hS6.out
            clear hS6
            try simp only [Act.put, List.setIfInBounds_toArray, List.set_cons_zero, List.set_cons_succ]
            refine z_one 16 rfl (by kernel_rfl) (by rfl) (fun K hK => ?_)
            simp only [List.getElem_toArray, List.getElem_cons_zero, List.getElem_cons_succ]
            go_simp
            refine hK _ _ (Or.inr ?_) (fun hHeld => ?_)
            · exact hHeld
            clear hK K
            replace hHeld := hHeld.resolve_left (by decide)
            try simp only [Act.put, List.setIfInBounds_toArray, List.set_cons_zero, List.set_cons_succ]
            refine z_done (by kernel_rfl) ?_ _
            clear hHeld
            go_wp2_with fail
            go_meet
            exact HF.out
        case rest =>
          obtain ⟨b4, v1, rfl, h4, hra, hrg, hk5, hl4⟩ := hcut
          rename World => w5
          have hhz : half + sz ≤ N := by have := HQ.out.2.2.2; omega
          have HDA : Hid ((D.zero fr hf).cr = false ∧ (D.zero fr hf).now.length = N ∧ (D.zero fr hf).lo.length ≤ 700000) := Lib.hid (by have := zeroed HDF6.out HHF.out.2; exact ⟨this.1, this.2.1, by have := this.2.2; omega⟩)
          obtain ⟨D0, hD0⟩ : ∃ d, D.zero fr hf = d := ⟨_, rfl⟩
          rw [hD0] at hra HDA
          obtain ⟨D1, hD1⟩ : ∃ d, (if sat = 0 then D0 else D0.zero half sz) = d := ⟨_, rfl⟩
          have HDB : Hid (D1.cr = false ∧ D1.now.length = N ∧ D1.lo.length ≤ 770000) := Lib.hid (by
            rw [← hD1]
            split
            · exact ⟨HDA.out.1, HDA.out.2.1, by have := HDA.out.2.2; omega⟩
            · have := zeroed (a := half) (n := sz) HDA.out (by omega); exact ⟨this.1, this.2.1, by have := this.2.2; omega⟩)
          obtain ⟨D2, hD2⟩ : ∃ d, (if sat = 1 then D1 else D1.zero a1 sz) = d := ⟨_, rfl⟩
          have HDC : Hid (D2.cr = false ∧ D2.now.length = N) := Lib.hid (by
            rw [← hD2]
            split
            · exact ⟨HDB.out.1, HDB.out.2.1⟩
            · have := zeroed (a := a1) (n := sz) HDB.out (by omega); exact ⟨this.1, this.2.1⟩)
          have HB34 : Hid (¬ b3 = b4) := Lib.hid (by have := lt_of_heap HX.out.1; omega)
          have HB24 : Hid (¬ b2 = b4) := Lib.hid (by have := HC1.out.2; have := HX.out.2.2.2.1.size; have := HBS.out; omega)
          have H53 : Hid (w5.heap[b3]? = some (.cells #[.slice (some ⟨gn, 0, none⟩) N cn, .slice ss ns cs, .slice sa na ca, .slice sb na cb, .bool false, .int .i64 (half : Int), .int .i64 (fr : Int), .slice so rs.length co, .int .i64 sat, .int .u64 (stn : Int), .slice sk nk ck] 41 (0, 0))) := Lib.hid ((hk5.block b3 (lt_of_heap HX.out.1) (fun h => h)).trans HX.out.1)
          have H52 : Hid (w5.heap[b2]? = some (.cells #[.slice none 0 0, .slice none 0 0, .slice none 0 0, .slice none 0 0, .bool false, .int .i64 0, .int .i64 0, .slice none 0 0, .int .i64 0, .int .u64 0, .slice none 0 0] 41 (0, 0))) := Lib.hid (by
            have hb := HC1.out
            have hs := HX.out.2.2.2.1.size
            have h1 := HBS.out
            exact (hk5.block b2 (by omega) (fun h => h)).trans ((HX.out.2.2.2.1.block b2 (by omega) (by omega)).trans hb.1))
          have HCL : Hid (RfC w5 b4 v1 D0 D1 D2 (.int .i64 0) w5) := Lib.hid ⟨v1, Or.inl ⟨rfl, hra⟩, h4, RGrow.rfl', Keeps.refl _ _⟩
          have HK5 := Lib.hid (And.intro hk5 hrg)
          have HL4 := Lib.hid hl4
          have HDD := Lib.hid (And.intro hD0 (And.intro hD1 hD2))
          clear h4 hra hrg hk5 hl4 hD0 hD1 hD2
          apply_assumption
          go_wp2_with fail
          go_loopw [14] (fun i wx => RfC w5 b4 v1 D0 D1 D2 i wx) (fun i _ => 2 - (intOf i).toNat)
          case atStart => exact HCL.out
          case round =>
            clear HCL
            obtain ⟨v3, hi, h4, hrg, hkp⟩ := hrel
            rename World => wx
            have hb3x := (hkp.block b3 (lt_of_heap H53.out) HB34.out).trans H53.out
            have HRG := Lib.hid (And.intro hrg hkp)
            clear hrg hkp
            rcases hi with ⟨rfl, hra⟩ | ⟨rfl, hra⟩ | ⟨rfl, hra⟩
            · obtain ⟨sn1, cn1, ss1, cs1, sa1, ca1, sb1, cb1, rfl, _⟩ := hra.rows
              have d8 := cellAt hb3x 8
              simp at d8
              by_cases hs : sat = 0
              · have HN : Hid (RfC w5 b4 v1 D0 D1 D2 (.int .i64 1) wx) := by
                  refine Lib.hid ⟨_, Or.inr (Or.inl ⟨rfl, ?_⟩), h4, HRG.out.1, HRG.out.2⟩
                  rw [← HDD.out.2.1, if_pos hs]
                  exact hra
                have e1 : ((0 : Int) != sat) = false := by simp [hs]
                clear hs hra h4 hb3x
                go_wp2
                go_roundw
                case rel => exact HN.out
                case measure => simp [intOf]
              · have e1 : ((0 : Int) != sat) = true := by simp; omega
                have hDn : D1 = D0.zero half sz := by rw [← HDD.out.2.1, if_neg hs]
                have HDN2 := Lib.hid hDn
                have HSZ : Hid (∀ u : World, Calls Try.prog 40 #[.agg #[.slice (some ⟨gn, 0, none⟩) N cn, .slice ss ns cs, .slice sa na ca, .slice sb na cb, .bool false, .int .i64 (half : Int), .int .i64 (fr : Int), .slice so rs.length co, .int .i64 sat, .int .u64 (stn : Int), .slice sk nk ck]] u fun e w' => e = .returned (.int .i64 (sz : Int)) ∧ Keeps (fun _ => False) u w') := Lib.hid (fun u => by
                  have := refSize_any (some ⟨gn, 0, none⟩) N cn half (.slice ss ns cs) (.slice sa na ca) (.slice sb na cb) (.bool false) (.int .i64 (fr : Int)) (.slice so rs.length co) (.int .i64 sat) (.int .u64 (stn : Int)) (.slice sk nk ck) u (by omega) (by omega)
                  rwa [HQ.out.2.2.1] at this)
                have HWZ2 : Hid (∀ (u : World) (gz : Nat), RefAt u 0 #[.slice sn1 D0.now.length cn1, .slice ss1 D0.sure.length cs1, .slice sa1 D0.lo.length ca1, .slice sb1 D0.lo.length cb1, .bool D0.cr] D0 → Sl u (some ⟨gz, 0, none⟩) sz sz (BV (List.replicate sz 0)) → Calls Try.prog 39 #[.agg #[.slice sn1 D0.now.length cn1, .slice ss1 D0.sure.length cs1, .slice sa1 D0.lo.length ca1, .slice sb1 D0.lo.length cb1, .bool D0.cr], .int .i64 (half : Int), .slice (some ⟨gz, 0, none⟩) sz sz] u fun e w' => ∃ v', e = .returned (.tuple #[.agg v', .int .i64 0]) ∧ RefAt w' 0 v' (D0.zero half sz) ∧ Keeps (fun _ => False) u w' ∧ RGrow u #[.slice sn1 D0.now.length cn1, .slice ss1 D0.sure.length cs1, .slice sa1 D0.lo.length ca1, .slice sb1 D0.lo.length cb1, .bool D0.cr] v') := Lib.hid (fun u gz h hz => refWrite_ok 0 half sz (List.replicate sz 0) (by simp) (some ⟨gz, 0, none⟩) gz 0 sz (fun _ => rfl) D0 _ u (fun j c hc => by have := hz.cell (j := j) (u := .int .u8 (c.toNat : Int)) (by rw [BV_get, hc]; rfl); exact this) h HDA.out.1 N HDA.out.2.1 (by omega) hN (by omega) (by have := HDA.out.2.2; omega) (Nat.zero_le _))
                have HRC := Lib.hid (And.intro hra (And.intro h4 hb3x))
                have m1 : (0 : Int) * (sz : Int) = (0) := by omega
                have m2 : IntKind.i64.wrap (0 : Int) = 0 := by decide
                have m3 : (half : Int) + 0 = (half : Int) := by omega
                have m4 : IntKind.i64.wrap (half : Int) = (half : Int) := IntWalk.i64_in _ (by omega)
                clear hs hra h4 hb3x hDn
                go_wp2_with fail
                obtain ⟨v0, hdr⟩ : ∃ v, World.drew wx = v := ⟨_, rfl⟩
                have hk : Keeps (fun _ => False) wx v0 := by rw [← hdr]; exact (Keeps.refl _ _).drew
                refine y_begin (fun w' => Keeps (fun _ => False) (World.drew wx) w') 15 (by kernel_rfl) (Keeps.refl _ _) (fun hHeld => ?_)
                rw [hdr] at hHeld ⊢
                have RA := Lib.hid (HRC.out.1.keep hk (fun _ _ _ h => h))
                have A4 := Lib.hid ((hk.block b4 (lt_of_heap HRC.out.2.1) (fun h => h)).trans HRC.out.2.1)
                have HB := Lib.hid ((hk.block b3 (lt_of_heap HRC.out.2.2) (fun h => h)).trans HRC.out.2.2)
                have KV : Hid (Keeps (fun _ => False) wx v0) := Lib.hid hk
                clear hk hdr
                refine y_take 0 (v := ?_) rfl (by kernel_rfl) (by kernel_rfl) (by kernel_rfl) (by kernel_rfl) (fun _ _ _ h => h) hHeld (by rfl) (fun w hSw => ?_) ?_
                rotate_left
                · have hb := (hSw.block b4 (lt_of_heap A4.out) (fun h => h)).trans A4.out; have j0 := cellAt hb 0; have j1 := cellAt hb 1; have j2 := cellAt hb 2; have j3 := cellAt hb 3; have j4 := cellAt hb 4; simp at j0 j1 j2 j3 j4; clear hb; clear hSw; simp only [List.getElem_toArray, List.getElem_cons_zero]; go_simp; try rfl
                simp only [Act.put, List.getElem_toArray, List.getElem_cons_zero, List.setIfInBounds_toArray, List.set_cons_zero, List.set_cons_succ]
                refine y_take 1 (v := ?_) rfl (by kernel_rfl) (by kernel_rfl) (by kernel_rfl) (by kernel_rfl) (fun _ _ _ h => h) hHeld (by rfl) (fun w hSw => ?_) ?_
                rotate_left
                · clear hSw; simp only [List.getElem_toArray, List.getElem_cons_zero, List.getElem_cons_succ]; go_simp; try rfl
                simp only [Act.put, List.getElem_toArray, List.getElem_cons_zero, List.getElem_cons_succ, List.setIfInBounds_toArray, List.set_cons_zero, List.set_cons_succ]
                refine y_take 2 (v := ?_) rfl (by kernel_rfl) (by kernel_rfl) (by kernel_rfl) (by kernel_rfl) (fun _ _ _ h => h) hHeld (by rfl) (fun w hSw => ?_) ?_
                rotate_left
                · have hb := (hSw.block b3 (lt_of_heap HB.out) (fun h => h)).trans HB.out; have c5 := cellAt hb 5; simp at c5; clear hb; clear hSw; simp only [List.getElem_toArray, List.getElem_cons_zero, List.getElem_cons_succ]; go_simp; try rfl
                simp only [Act.put, List.getElem_toArray, List.getElem_cons_zero, List.getElem_cons_succ, List.setIfInBounds_toArray, List.set_cons_zero, List.set_cons_succ]
                refine y_take 3 (v := ?_) rfl (by kernel_rfl) (by kernel_rfl) (by kernel_rfl) (by kernel_rfl) (fun _ _ _ h => h) hHeld (by rfl) (fun w hSw => ?_) ?_
                rotate_left
                · clear hSw; simp only [List.getElem_toArray, List.getElem_cons_zero, List.getElem_cons_succ]; go_simp; try rfl
                simp only [Act.put, List.getElem_toArray, List.getElem_cons_zero, List.getElem_cons_succ, List.setIfInBounds_toArray, List.set_cons_zero, List.set_cons_succ]
                refine y_take 4 (v := ?_) rfl (by kernel_rfl) (by kernel_rfl) (by kernel_rfl) (by kernel_rfl) (fun _ _ _ h => h) hHeld (by rfl) (fun w hSw => ?_) ?_
                rotate_left
                · have hb := (hSw.block b3 (lt_of_heap HB.out) (fun h => h)).trans HB.out; have c0 := cellAt hb 0; have c1 := cellAt hb 1; have c2 := cellAt hb 2; have c3 := cellAt hb 3; have c4 := cellAt hb 4; have c5 := cellAt hb 5; have c6 := cellAt hb 6; have c7 := cellAt hb 7; have c8 := cellAt hb 8; have c9 := cellAt hb 9; have c10 := cellAt hb 10; simp at c0 c1 c2 c3 c4 c5 c6 c7 c8 c9 c10; clear hb; clear hSw; simp only [List.getElem_toArray, List.getElem_cons_zero, List.getElem_cons_succ]; go_simp; try rfl
                simp only [Act.put, List.getElem_toArray, List.getElem_cons_zero, List.getElem_cons_succ, List.setIfInBounds_toArray, List.set_cons_zero, List.set_cons_succ]
                refine y_take 8 (v := ?_) rfl (by kernel_rfl) (by kernel_rfl) (by kernel_rfl) (by kernel_rfl) (fun _ _ _ h => h) hHeld (by rfl) (fun w hSw => ?_) ?_
                rotate_left
                · have hb := (hSw.block b3 (lt_of_heap HB.out) (fun h => h)).trans HB.out; have c0 := cellAt hb 0; have c1 := cellAt hb 1; have c2 := cellAt hb 2; have c3 := cellAt hb 3; have c4 := cellAt hb 4; have c5 := cellAt hb 5; have c6 := cellAt hb 6; have c7 := cellAt hb 7; have c8 := cellAt hb 8; have c9 := cellAt hb 9; have c10 := cellAt hb 10; simp at c0 c1 c2 c3 c4 c5 c6 c7 c8 c9 c10; clear hb; clear hSw; simp only [List.getElem_toArray, List.getElem_cons_zero, List.getElem_cons_succ]; go_simp; try rfl
                simp only [Act.put, List.getElem_toArray, List.getElem_cons_zero, List.getElem_cons_succ, List.setIfInBounds_toArray, List.set_cons_zero, List.set_cons_succ]
                refine y_one 5 rfl (by kernel_rfl) (by rfl) (fun K hK => ?_)
                simp only [List.getElem_toArray, List.getElem_cons_zero, List.getElem_cons_succ]
                have hz := HSZ.out v0
                go_simp
                refine hz.mono ?_
                rintro e t1_ ⟨rfl, hk⟩
                clear hz
                replace RA := Lib.hid (RA.out.keep hk (fun _ _ _ h => h))
                replace A4 := Lib.hid ((hk.block b4 (lt_of_heap A4.out) (fun h => h)).trans A4.out)
                replace KV := Lib.hid (KV.out.quiet hk)
                refine hK _ _ (hHeld.quiet hk) (fun hHeld => ?_)
                clear hK K
                try simp only [Act.put, List.setIfInBounds_toArray, List.set_cons_zero, List.set_cons_succ]
                clear hk
                refine y_take 6 (v := ?_) rfl (by kernel_rfl) (by kernel_rfl) (by kernel_rfl) (by kernel_rfl) (fun _ _ _ h => h) hHeld (by rfl) (fun w hSw => ?_) ?_
                rotate_left
                · clear hSw; simp only [List.getElem_toArray, List.getElem_cons_zero, List.getElem_cons_succ]; go_simp; try rfl
                simp only [Act.put, List.getElem_toArray, List.getElem_cons_zero, List.getElem_cons_succ, List.setIfInBounds_toArray, List.set_cons_zero, List.set_cons_succ]
                refine y_take 7 (v := ?_) rfl (by kernel_rfl) (by kernel_rfl) (by kernel_rfl) (by kernel_rfl) (fun _ _ _ h => h) hHeld (by rfl) (fun w hSw => ?_) ?_
                rotate_left
                · clear hSw; simp only [List.getElem_toArray, List.getElem_cons_zero, List.getElem_cons_succ]; go_simp; try rfl
                simp only [Act.put, List.getElem_toArray, List.getElem_cons_zero, List.getElem_cons_succ, List.setIfInBounds_toArray, List.set_cons_zero, List.set_cons_succ]
                refine y_one 9 rfl (by kernel_rfl) (by rfl) (fun K hK => ?_)
                simp only [List.getElem_toArray, List.getElem_cons_zero, List.getElem_cons_succ]
                have hz := HSZ.out t1_
                go_simp
                refine hz.mono ?_
                rintro e t2_ ⟨rfl, hk⟩
                clear hz
                replace RA := Lib.hid (RA.out.keep hk (fun _ _ _ h => h))
                replace A4 := Lib.hid ((hk.block b4 (lt_of_heap A4.out) (fun h => h)).trans A4.out)
                replace KV := Lib.hid (KV.out.quiet hk)
                refine hK _ _ (hHeld.quiet hk) (fun hHeld => ?_)
                clear hK K
                try simp only [Act.put, List.setIfInBounds_toArray, List.set_cons_zero, List.set_cons_succ]
                clear hk
                refine y_one 10 rfl (by kernel_rfl) (by rfl) (fun K hK => ?_)
                simp only [List.getElem_toArray, List.getElem_cons_zero, List.getElem_cons_succ]
                have cv := run_mk sz (by omega) t2_
                have hom := owns_made t2_ sz (by omega)
                obtain ⟨gz, hgz⟩ : ∃ g, t2_.heap.size = g := ⟨_, rfl⟩
                obtain ⟨t3_, hy⟩ : ∃ v, World.alloc t2_ (.cells (madeCells #[.int .u8 0] sz) 5) = v := ⟨_, rfl⟩
                have hk : Keeps (fun _ => False) t2_ t3_ := by rw [← hy]; exact (Keeps.refl _ t2_).alloc _
                rw [hy, hgz] at cv hom
                go_simp
                clear cv hgz hy
                replace RA := Lib.hid (RA.out.keep hk (fun _ _ _ h => h))
                replace A4 := Lib.hid ((hk.block b4 (lt_of_heap A4.out) (fun h => h)).trans A4.out)
                replace KV := Lib.hid (KV.out.quiet hk)
                have ZS := Lib.hid (Sl.of_own hom)
                clear hom
                refine hK _ _ (hHeld.quiet hk) (fun hHeld => ?_)
                clear hK K
                try simp only [Act.put, List.setIfInBounds_toArray, List.set_cons_zero, List.set_cons_succ]
                clear hk
                refine y_one 11 rfl (by kernel_rfl) (by rfl) (fun K hK => ?_)
                simp only [List.getElem_toArray, List.getElem_cons_zero, List.getElem_cons_succ]
                have hw := HWZ2.out t3_ gz RA.out ZS.out
                go_simp
                refine hw.mono ?_
                rintro e t4_ ⟨v2, rfl, hra, hk, hrg⟩
                obtain ⟨sn2, cn2, ss2, cs2, sa2, ca2, sb2, cb2, rfl, _⟩ := hra.rows
                clear hw
                have HSZ3 : Hid (wx.heap.size ≤ t3_.heap.size) := Lib.hid KV.out.size
                replace RA := Lib.hid (RA.out.keep hk (fun _ _ _ h => h))
                replace A4 := Lib.hid ((hk.block b4 (lt_of_heap A4.out) (fun h => h)).trans A4.out)
                replace KV := Lib.hid (KV.out.quiet hk)
                replace ZS := Lib.hid (ZS.out.quiet hk)
                have RV := Lib.hid (And.intro hra hrg)
                clear hra hrg
                refine hK _ _ (hHeld.quiet hk) (fun hHeld => ?_)
                clear hK K
                try simp only [Act.put, List.setIfInBounds_toArray, List.set_cons_zero, List.set_cons_succ]
                clear hk
                refine y_take 12 (v := ?_) rfl (by kernel_rfl) (by kernel_rfl) (by kernel_rfl) (by kernel_rfl) (fun _ _ _ h => h) hHeld (by rfl) (fun w hSw => ?_) ?_
                rotate_left
                · clear hSw; simp only [List.getElem_toArray, List.getElem_cons_zero, List.getElem_cons_succ]; go_simp; try rfl
                simp only [Act.put, List.getElem_toArray, List.getElem_cons_zero, List.getElem_cons_succ, List.setIfInBounds_toArray, List.set_cons_zero, List.set_cons_succ]
                refine y_take 13 (v := ?_) rfl (by kernel_rfl) (by kernel_rfl) (by kernel_rfl) (by kernel_rfl) (fun _ _ _ h => h) hHeld (by rfl) (fun w hSw => ?_) ?_
                rotate_left
                · clear hSw; simp only [List.getElem_toArray, List.getElem_cons_zero, List.getElem_cons_succ]; go_simp; try rfl
                simp only [Act.put, List.getElem_toArray, List.getElem_cons_zero, List.getElem_cons_succ, List.setIfInBounds_toArray, List.set_cons_zero, List.set_cons_succ]
                refine y_pure 14 (v := ?_) rfl (by kernel_rfl) (by kernel_rfl) (by kernel_rfl) (by kernel_rfl) (fun _ _ _ h => h) hHeld (by rfl) (fun w => ?_) ?_
                rotate_left
                · simp only [List.getElem_toArray, List.getElem_cons_zero, List.getElem_cons_succ]; go_simp; try rfl
                simp only [Act.put, List.getElem_toArray, List.getElem_cons_zero, List.getElem_cons_succ, List.setIfInBounds_toArray, List.set_cons_zero, List.set_cons_succ]
                have j0 := cellAt A4.out 0
                have j1 := cellAt A4.out 1
                have j2 := cellAt A4.out 2
                have j3 := cellAt A4.out 3
                have j4 := cellAt A4.out 4
                have k0 := freeAt A4.out 0
                have k1 := freeAt A4.out 1
                have k2 := freeAt A4.out 2
                have k3 := freeAt A4.out 3
                have k4 := freeAt A4.out 4
                simp at j0 j1 j2 j3 j4
                refine y_last 15 rfl (by kernel_rfl) (by rfl) (by kernel_rfl) (fun K hK => ?_)
                simp only [List.getElem_toArray, List.getElem_cons_zero, List.getElem_cons_succ]
                have h5 := heap_five A4.out (.slice sn2 (D0.zero half sz).now.length cn2) (.slice ss2 (D0.zero half sz).sure.length cs2) (.slice sa2 (D0.zero half sz).lo.length ca2) (.slice sb2 (D0.zero half sz).lo.length cb2) (.bool (D0.zero half sz).cr)
                have k5 := keeps_five t4_ b4 (.slice sn2 (D0.zero half sz).now.length cn2) (.slice ss2 (D0.zero half sz).sure.length cs2) (.slice sa2 (D0.zero half sz).lo.length ca2) (.slice sb2 (D0.zero half sz).lo.length cb2) (.bool (D0.zero half sz).cr)
                have RVF := ref_apart RV.out.1 A4.out
                have HF : Hid (RefAt (((((t4_.setCell ⟨b4, 0, none⟩ (.slice sn2 (D0.zero half sz).now.length cn2)).setCell ⟨b4, 1, none⟩ (.slice ss2 (D0.zero half sz).sure.length cs2)).setCell ⟨b4, 2, none⟩ (.slice sa2 (D0.zero half sz).lo.length ca2)).setCell ⟨b4, 3, none⟩ (.slice sb2 (D0.zero half sz).lo.length cb2)).setCell ⟨b4, 4, none⟩ (.bool (D0.zero half sz).cr)) 0 #[.slice sn2 (D0.zero half sz).now.length cn2, .slice ss2 (D0.zero half sz).sure.length cs2, .slice sa2 (D0.zero half sz).lo.length ca2, .slice sb2 (D0.zero half sz).lo.length cb2, .bool (D0.zero half sz).cr] (D0.zero half sz) ∧ (((((t4_.setCell ⟨b4, 0, none⟩ (.slice sn2 (D0.zero half sz).now.length cn2)).setCell ⟨b4, 1, none⟩ (.slice ss2 (D0.zero half sz).sure.length cs2)).setCell ⟨b4, 2, none⟩ (.slice sa2 (D0.zero half sz).lo.length ca2)).setCell ⟨b4, 3, none⟩ (.slice sb2 (D0.zero half sz).lo.length cb2)).setCell ⟨b4, 4, none⟩ (.bool (D0.zero half sz).cr)).heap[b4]? = some (.cells #[.slice sn2 (D0.zero half sz).now.length cn2, .slice ss2 (D0.zero half sz).sure.length cs2, .slice sa2 (D0.zero half sz).lo.length ca2, .slice sb2 (D0.zero half sz).lo.length cb2, .bool (D0.zero half sz).cr] 38 (0, 0)) ∧ RGrow wx #[.slice sn1 D0.now.length cn1, .slice ss1 D0.sure.length cs1, .slice sa1 D0.lo.length ca1, .slice sb1 D0.lo.length cb1, .bool D0.cr] #[.slice sn2 (D0.zero half sz).now.length cn2, .slice ss2 (D0.zero half sz).sure.length cs2, .slice sa2 (D0.zero half sz).lo.length ca2, .slice sb2 (D0.zero half sz).lo.length cb2, .bool (D0.zero half sz).cr] ∧ Keeps (fun j => j = b4) wx (((((t4_.setCell ⟨b4, 0, none⟩ (.slice sn2 (D0.zero half sz).now.length cn2)).setCell ⟨b4, 1, none⟩ (.slice ss2 (D0.zero half sz).sure.length cs2)).setCell ⟨b4, 2, none⟩ (.slice sa2 (D0.zero half sz).lo.length ca2)).setCell ⟨b4, 3, none⟩ (.slice sb2 (D0.zero half sz).lo.length cb2)).setCell ⟨b4, 4, none⟩ (.bool (D0.zero half sz).cr))) := Lib.hid ⟨RV.out.1.keep' k5 RVF, h5, fun G h1 h2 => RV.out.2 G h1 (fun j hj => h2 j (Nat.le_trans HSZ3.out hj)), (KV.out.mono (fun _ _ h => h.elim)).trans k5 (fun j _ e => e)⟩
                clear h5 k5 RVF
                generalize (D0.zero half sz).now.length = l1_ at *
                generalize (D0.zero half sz).sure.length = l2_ at *
                generalize (D0.zero half sz).lo.length = l3_ at *
                generalize (D0.zero half sz).cr = l4_ at *
                clear hHeld
                go_simp
                refine hK _ _ ?_
                clear hK K
                try simp only [Act.put, List.setIfInBounds_toArray, List.set_cons_zero, List.set_cons_succ]
                refine y_done (by kernel_rfl) ?_ _
                clear j0 j1 j2 j3 j4 k0 k1 k2 k3 k4
                have HN := Lib.hid (RfC.next0 (D1 := D1) (D2 := D2) (D0 := D0) HRG.out.1 HRG.out.2 HF.out.1 HF.out.2.1 HF.out.2.2.1 HF.out.2.2.2 HDN2.out)
                clear m1 m2 m3 m4 e1 d8 HF
                go_wp2
                go_roundw
                case rel => exact HN.out
                case measure => simp [intOf]
            · obtain ⟨sn1, cn1, ss1, cs1, sa1, ca1, sb1, cb1, rfl, _⟩ := hra.rows
              have d8 := cellAt hb3x 8
              simp at d8
              by_cases hs : sat = 1
              · have HN : Hid (RfC w5 b4 v1 D0 D1 D2 (.int .i64 2) wx) := by
                  refine Lib.hid ⟨_, Or.inr (Or.inr ⟨rfl, ?_⟩), h4, HRG.out.1, HRG.out.2⟩
                  rw [← HDD.out.2.2, if_pos hs]
                  exact hra
                have e1 : ((1 : Int) != sat) = false := by simp [hs]
                clear hs hra h4 hb3x
                go_wp2
                go_roundw
                case rel => exact HN.out
                case measure => simp [intOf]
              · have e1 : ((1 : Int) != sat) = true := by simp; omega
                have hDn : D2 = D1.zero a1 sz := by rw [← HDD.out.2.2, if_neg hs]
                have HDN2 := Lib.hid hDn
                have HSZ : Hid (∀ u : World, Calls Try.prog 40 #[.agg #[.slice (some ⟨gn, 0, none⟩) N cn, .slice ss ns cs, .slice sa na ca, .slice sb na cb, .bool false, .int .i64 (half : Int), .int .i64 (fr : Int), .slice so rs.length co, .int .i64 sat, .int .u64 (stn : Int), .slice sk nk ck]] u fun e w' => e = .returned (.int .i64 (sz : Int)) ∧ Keeps (fun _ => False) u w') := Lib.hid (fun u => by
                  have := refSize_any (some ⟨gn, 0, none⟩) N cn half (.slice ss ns cs) (.slice sa na ca) (.slice sb na cb) (.bool false) (.int .i64 (fr : Int)) (.slice so rs.length co) (.int .i64 sat) (.int .u64 (stn : Int)) (.slice sk nk ck) u (by omega) (by omega)
                  rwa [HQ.out.2.2.1] at this)
                have HWZ2 : Hid (∀ (u : World) (gz : Nat), RefAt u 0 #[.slice sn1 D1.now.length cn1, .slice ss1 D1.sure.length cs1, .slice sa1 D1.lo.length ca1, .slice sb1 D1.lo.length cb1, .bool D1.cr] D1 → Sl u (some ⟨gz, 0, none⟩) sz sz (BV (List.replicate sz 0)) → Calls Try.prog 39 #[.agg #[.slice sn1 D1.now.length cn1, .slice ss1 D1.sure.length cs1, .slice sa1 D1.lo.length ca1, .slice sb1 D1.lo.length cb1, .bool D1.cr], .int .i64 (a1 : Int), .slice (some ⟨gz, 0, none⟩) sz sz] u fun e w' => ∃ v', e = .returned (.tuple #[.agg v', .int .i64 0]) ∧ RefAt w' 0 v' (D1.zero a1 sz) ∧ Keeps (fun _ => False) u w' ∧ RGrow u #[.slice sn1 D1.now.length cn1, .slice ss1 D1.sure.length cs1, .slice sa1 D1.lo.length ca1, .slice sb1 D1.lo.length cb1, .bool D1.cr] v') := Lib.hid (fun u gz h hz => refWrite_ok 0 a1 sz (List.replicate sz 0) (by simp) (some ⟨gz, 0, none⟩) gz 0 sz (fun _ => rfl) D1 _ u (fun j c hc => by have := hz.cell (j := j) (u := .int .u8 (c.toNat : Int)) (by rw [BV_get, hc]; rfl); exact this) h HDB.out.1 N HDB.out.2.1 (by omega) hN (by omega) (by have := HDB.out.2.2; omega) (Nat.zero_le _))
                have HRC := Lib.hid (And.intro hra (And.intro h4 hb3x))
                have m1 : (1 : Int) * (sz : Int) = ((sz : Int)) := by omega
                have m2 : IntKind.i64.wrap (sz : Int) = (sz : Int) := IntWalk.i64_in _ (by omega)
                have m3 : (half : Int) + (sz : Int) = (a1 : Int) := by have := HQ.out.2.2.2; omega
                have m4 : IntKind.i64.wrap (a1 : Int) = (a1 : Int) := IntWalk.i64_in _ (by omega)
                clear hs hra h4 hb3x hDn
                go_wp2_with fail
                obtain ⟨v0, hdr⟩ : ∃ v, World.drew wx = v := ⟨_, rfl⟩
                have hk : Keeps (fun _ => False) wx v0 := by rw [← hdr]; exact (Keeps.refl _ _).drew
                refine y_begin (fun w' => Keeps (fun _ => False) (World.drew wx) w') 15 (by kernel_rfl) (Keeps.refl _ _) (fun hHeld => ?_)
                rw [hdr] at hHeld ⊢
                have RA := Lib.hid (HRC.out.1.keep hk (fun _ _ _ h => h))
                have A4 := Lib.hid ((hk.block b4 (lt_of_heap HRC.out.2.1) (fun h => h)).trans HRC.out.2.1)
                have HB := Lib.hid ((hk.block b3 (lt_of_heap HRC.out.2.2) (fun h => h)).trans HRC.out.2.2)
                have KV : Hid (Keeps (fun _ => False) wx v0) := Lib.hid hk
                clear hk hdr
                refine y_take 0 (v := ?_) rfl (by kernel_rfl) (by kernel_rfl) (by kernel_rfl) (by kernel_rfl) (fun _ _ _ h => h) hHeld (by rfl) (fun w hSw => ?_) ?_
                rotate_left
                · have hb := (hSw.block b4 (lt_of_heap A4.out) (fun h => h)).trans A4.out; have j0 := cellAt hb 0; have j1 := cellAt hb 1; have j2 := cellAt hb 2; have j3 := cellAt hb 3; have j4 := cellAt hb 4; simp at j0 j1 j2 j3 j4; clear hb; clear hSw; simp only [List.getElem_toArray, List.getElem_cons_zero]; go_simp; try rfl
                simp only [Act.put, List.getElem_toArray, List.getElem_cons_zero, List.setIfInBounds_toArray, List.set_cons_zero, List.set_cons_succ]
                refine y_take 1 (v := ?_) rfl (by kernel_rfl) (by kernel_rfl) (by kernel_rfl) (by kernel_rfl) (fun _ _ _ h => h) hHeld (by rfl) (fun w hSw => ?_) ?_
                rotate_left
                · clear hSw; simp only [List.getElem_toArray, List.getElem_cons_zero, List.getElem_cons_succ]; go_simp; try rfl
                simp only [Act.put, List.getElem_toArray, List.getElem_cons_zero, List.getElem_cons_succ, List.setIfInBounds_toArray, List.set_cons_zero, List.set_cons_succ]
                refine y_take 2 (v := ?_) rfl (by kernel_rfl) (by kernel_rfl) (by kernel_rfl) (by kernel_rfl) (fun _ _ _ h => h) hHeld (by rfl) (fun w hSw => ?_) ?_
                rotate_left
                · have hb := (hSw.block b3 (lt_of_heap HB.out) (fun h => h)).trans HB.out; have c5 := cellAt hb 5; simp at c5; clear hb; clear hSw; simp only [List.getElem_toArray, List.getElem_cons_zero, List.getElem_cons_succ]; go_simp; try rfl
                simp only [Act.put, List.getElem_toArray, List.getElem_cons_zero, List.getElem_cons_succ, List.setIfInBounds_toArray, List.set_cons_zero, List.set_cons_succ]
                refine y_take 3 (v := ?_) rfl (by kernel_rfl) (by kernel_rfl) (by kernel_rfl) (by kernel_rfl) (fun _ _ _ h => h) hHeld (by rfl) (fun w hSw => ?_) ?_
                rotate_left
                · clear hSw; simp only [List.getElem_toArray, List.getElem_cons_zero, List.getElem_cons_succ]; go_simp; try rfl
                simp only [Act.put, List.getElem_toArray, List.getElem_cons_zero, List.getElem_cons_succ, List.setIfInBounds_toArray, List.set_cons_zero, List.set_cons_succ]
                refine y_take 4 (v := ?_) rfl (by kernel_rfl) (by kernel_rfl) (by kernel_rfl) (by kernel_rfl) (fun _ _ _ h => h) hHeld (by rfl) (fun w hSw => ?_) ?_
                rotate_left
                · have hb := (hSw.block b3 (lt_of_heap HB.out) (fun h => h)).trans HB.out; have c0 := cellAt hb 0; have c1 := cellAt hb 1; have c2 := cellAt hb 2; have c3 := cellAt hb 3; have c4 := cellAt hb 4; have c5 := cellAt hb 5; have c6 := cellAt hb 6; have c7 := cellAt hb 7; have c8 := cellAt hb 8; have c9 := cellAt hb 9; have c10 := cellAt hb 10; simp at c0 c1 c2 c3 c4 c5 c6 c7 c8 c9 c10; clear hb; clear hSw; simp only [List.getElem_toArray, List.getElem_cons_zero, List.getElem_cons_succ]; go_simp; try rfl
                simp only [Act.put, List.getElem_toArray, List.getElem_cons_zero, List.getElem_cons_succ, List.setIfInBounds_toArray, List.set_cons_zero, List.set_cons_succ]
                refine y_take 8 (v := ?_) rfl (by kernel_rfl) (by kernel_rfl) (by kernel_rfl) (by kernel_rfl) (fun _ _ _ h => h) hHeld (by rfl) (fun w hSw => ?_) ?_
                rotate_left
                · have hb := (hSw.block b3 (lt_of_heap HB.out) (fun h => h)).trans HB.out; have c0 := cellAt hb 0; have c1 := cellAt hb 1; have c2 := cellAt hb 2; have c3 := cellAt hb 3; have c4 := cellAt hb 4; have c5 := cellAt hb 5; have c6 := cellAt hb 6; have c7 := cellAt hb 7; have c8 := cellAt hb 8; have c9 := cellAt hb 9; have c10 := cellAt hb 10; simp at c0 c1 c2 c3 c4 c5 c6 c7 c8 c9 c10; clear hb; clear hSw; simp only [List.getElem_toArray, List.getElem_cons_zero, List.getElem_cons_succ]; go_simp; try rfl
                simp only [Act.put, List.getElem_toArray, List.getElem_cons_zero, List.getElem_cons_succ, List.setIfInBounds_toArray, List.set_cons_zero, List.set_cons_succ]
                refine y_one 5 rfl (by kernel_rfl) (by rfl) (fun K hK => ?_)
                simp only [List.getElem_toArray, List.getElem_cons_zero, List.getElem_cons_succ]
                have hz := HSZ.out v0
                go_simp
                refine hz.mono ?_
                rintro e t1_ ⟨rfl, hk⟩
                clear hz
                replace RA := Lib.hid (RA.out.keep hk (fun _ _ _ h => h))
                replace A4 := Lib.hid ((hk.block b4 (lt_of_heap A4.out) (fun h => h)).trans A4.out)
                replace KV := Lib.hid (KV.out.quiet hk)
                refine hK _ _ (hHeld.quiet hk) (fun hHeld => ?_)
                clear hK K
                try simp only [Act.put, List.setIfInBounds_toArray, List.set_cons_zero, List.set_cons_succ]
                clear hk
                refine y_take 6 (v := ?_) rfl (by kernel_rfl) (by kernel_rfl) (by kernel_rfl) (by kernel_rfl) (fun _ _ _ h => h) hHeld (by rfl) (fun w hSw => ?_) ?_
                rotate_left
                · clear hSw; simp only [List.getElem_toArray, List.getElem_cons_zero, List.getElem_cons_succ]; go_simp; try rfl
                simp only [Act.put, List.getElem_toArray, List.getElem_cons_zero, List.getElem_cons_succ, List.setIfInBounds_toArray, List.set_cons_zero, List.set_cons_succ]
                refine y_take 7 (v := ?_) rfl (by kernel_rfl) (by kernel_rfl) (by kernel_rfl) (by kernel_rfl) (fun _ _ _ h => h) hHeld (by rfl) (fun w hSw => ?_) ?_
                rotate_left
                · clear hSw; simp only [List.getElem_toArray, List.getElem_cons_zero, List.getElem_cons_succ]; go_simp; try rfl
                simp only [Act.put, List.getElem_toArray, List.getElem_cons_zero, List.getElem_cons_succ, List.setIfInBounds_toArray, List.set_cons_zero, List.set_cons_succ]
                refine y_one 9 rfl (by kernel_rfl) (by rfl) (fun K hK => ?_)
                simp only [List.getElem_toArray, List.getElem_cons_zero, List.getElem_cons_succ]
                have hz := HSZ.out t1_
                go_simp
                refine hz.mono ?_
                rintro e t2_ ⟨rfl, hk⟩
                clear hz
                replace RA := Lib.hid (RA.out.keep hk (fun _ _ _ h => h))
                replace A4 := Lib.hid ((hk.block b4 (lt_of_heap A4.out) (fun h => h)).trans A4.out)
                replace KV := Lib.hid (KV.out.quiet hk)
                refine hK _ _ (hHeld.quiet hk) (fun hHeld => ?_)
                clear hK K
                try simp only [Act.put, List.setIfInBounds_toArray, List.set_cons_zero, List.set_cons_succ]
                clear hk
                refine y_one 10 rfl (by kernel_rfl) (by rfl) (fun K hK => ?_)
                simp only [List.getElem_toArray, List.getElem_cons_zero, List.getElem_cons_succ]
                have cv := run_mk sz (by omega) t2_
                have hom := owns_made t2_ sz (by omega)
                obtain ⟨gz, hgz⟩ : ∃ g, t2_.heap.size = g := ⟨_, rfl⟩
                obtain ⟨t3_, hy⟩ : ∃ v, World.alloc t2_ (.cells (madeCells #[.int .u8 0] sz) 5) = v := ⟨_, rfl⟩
                have hk : Keeps (fun _ => False) t2_ t3_ := by rw [← hy]; exact (Keeps.refl _ t2_).alloc _
                rw [hy, hgz] at cv hom
                go_simp
                clear cv hgz hy
                replace RA := Lib.hid (RA.out.keep hk (fun _ _ _ h => h))
                replace A4 := Lib.hid ((hk.block b4 (lt_of_heap A4.out) (fun h => h)).trans A4.out)
                replace KV := Lib.hid (KV.out.quiet hk)
                have ZS := Lib.hid (Sl.of_own hom)
                clear hom
                refine hK _ _ (hHeld.quiet hk) (fun hHeld => ?_)
                clear hK K
                try simp only [Act.put, List.setIfInBounds_toArray, List.set_cons_zero, List.set_cons_succ]
                clear hk
                refine y_one 11 rfl (by kernel_rfl) (by rfl) (fun K hK => ?_)
                simp only [List.getElem_toArray, List.getElem_cons_zero, List.getElem_cons_succ]
                have hw := HWZ2.out t3_ gz RA.out ZS.out
                go_simp
                refine hw.mono ?_
                rintro e t4_ ⟨v2, rfl, hra, hk, hrg⟩
                obtain ⟨sn2, cn2, ss2, cs2, sa2, ca2, sb2, cb2, rfl, _⟩ := hra.rows
                clear hw
                have HSZ3 : Hid (wx.heap.size ≤ t3_.heap.size) := Lib.hid KV.out.size
                replace RA := Lib.hid (RA.out.keep hk (fun _ _ _ h => h))
                replace A4 := Lib.hid ((hk.block b4 (lt_of_heap A4.out) (fun h => h)).trans A4.out)
                replace KV := Lib.hid (KV.out.quiet hk)
                replace ZS := Lib.hid (ZS.out.quiet hk)
                have RV := Lib.hid (And.intro hra hrg)
                clear hra hrg
                refine hK _ _ (hHeld.quiet hk) (fun hHeld => ?_)
                clear hK K
                try simp only [Act.put, List.setIfInBounds_toArray, List.set_cons_zero, List.set_cons_succ]
                clear hk
                refine y_take 12 (v := ?_) rfl (by kernel_rfl) (by kernel_rfl) (by kernel_rfl) (by kernel_rfl) (fun _ _ _ h => h) hHeld (by rfl) (fun w hSw => ?_) ?_
                rotate_left
                · clear hSw; simp only [List.getElem_toArray, List.getElem_cons_zero, List.getElem_cons_succ]; go_simp; try rfl
                simp only [Act.put, List.getElem_toArray, List.getElem_cons_zero, List.getElem_cons_succ, List.setIfInBounds_toArray, List.set_cons_zero, List.set_cons_succ]
                refine y_take 13 (v := ?_) rfl (by kernel_rfl) (by kernel_rfl) (by kernel_rfl) (by kernel_rfl) (fun _ _ _ h => h) hHeld (by rfl) (fun w hSw => ?_) ?_
                rotate_left
                · clear hSw; simp only [List.getElem_toArray, List.getElem_cons_zero, List.getElem_cons_succ]; go_simp; try rfl
                simp only [Act.put, List.getElem_toArray, List.getElem_cons_zero, List.getElem_cons_succ, List.setIfInBounds_toArray, List.set_cons_zero, List.set_cons_succ]
                refine y_pure 14 (v := ?_) rfl (by kernel_rfl) (by kernel_rfl) (by kernel_rfl) (by kernel_rfl) (fun _ _ _ h => h) hHeld (by rfl) (fun w => ?_) ?_
                rotate_left
                · simp only [List.getElem_toArray, List.getElem_cons_zero, List.getElem_cons_succ]; go_simp; try rfl
                simp only [Act.put, List.getElem_toArray, List.getElem_cons_zero, List.getElem_cons_succ, List.setIfInBounds_toArray, List.set_cons_zero, List.set_cons_succ]
                have j0 := cellAt A4.out 0
                have j1 := cellAt A4.out 1
                have j2 := cellAt A4.out 2
                have j3 := cellAt A4.out 3
                have j4 := cellAt A4.out 4
                have k0 := freeAt A4.out 0
                have k1 := freeAt A4.out 1
                have k2 := freeAt A4.out 2
                have k3 := freeAt A4.out 3
                have k4 := freeAt A4.out 4
                simp at j0 j1 j2 j3 j4
                refine y_last 15 rfl (by kernel_rfl) (by rfl) (by kernel_rfl) (fun K hK => ?_)
                simp only [List.getElem_toArray, List.getElem_cons_zero, List.getElem_cons_succ]
                have h5 := heap_five A4.out (.slice sn2 (D1.zero a1 sz).now.length cn2) (.slice ss2 (D1.zero a1 sz).sure.length cs2) (.slice sa2 (D1.zero a1 sz).lo.length ca2) (.slice sb2 (D1.zero a1 sz).lo.length cb2) (.bool (D1.zero a1 sz).cr)
                have k5 := keeps_five t4_ b4 (.slice sn2 (D1.zero a1 sz).now.length cn2) (.slice ss2 (D1.zero a1 sz).sure.length cs2) (.slice sa2 (D1.zero a1 sz).lo.length ca2) (.slice sb2 (D1.zero a1 sz).lo.length cb2) (.bool (D1.zero a1 sz).cr)
                have RVF := ref_apart RV.out.1 A4.out
                have HF : Hid (RefAt (((((t4_.setCell ⟨b4, 0, none⟩ (.slice sn2 (D1.zero a1 sz).now.length cn2)).setCell ⟨b4, 1, none⟩ (.slice ss2 (D1.zero a1 sz).sure.length cs2)).setCell ⟨b4, 2, none⟩ (.slice sa2 (D1.zero a1 sz).lo.length ca2)).setCell ⟨b4, 3, none⟩ (.slice sb2 (D1.zero a1 sz).lo.length cb2)).setCell ⟨b4, 4, none⟩ (.bool (D1.zero a1 sz).cr)) 0 #[.slice sn2 (D1.zero a1 sz).now.length cn2, .slice ss2 (D1.zero a1 sz).sure.length cs2, .slice sa2 (D1.zero a1 sz).lo.length ca2, .slice sb2 (D1.zero a1 sz).lo.length cb2, .bool (D1.zero a1 sz).cr] (D1.zero a1 sz) ∧ (((((t4_.setCell ⟨b4, 0, none⟩ (.slice sn2 (D1.zero a1 sz).now.length cn2)).setCell ⟨b4, 1, none⟩ (.slice ss2 (D1.zero a1 sz).sure.length cs2)).setCell ⟨b4, 2, none⟩ (.slice sa2 (D1.zero a1 sz).lo.length ca2)).setCell ⟨b4, 3, none⟩ (.slice sb2 (D1.zero a1 sz).lo.length cb2)).setCell ⟨b4, 4, none⟩ (.bool (D1.zero a1 sz).cr)).heap[b4]? = some (.cells #[.slice sn2 (D1.zero a1 sz).now.length cn2, .slice ss2 (D1.zero a1 sz).sure.length cs2, .slice sa2 (D1.zero a1 sz).lo.length ca2, .slice sb2 (D1.zero a1 sz).lo.length cb2, .bool (D1.zero a1 sz).cr] 38 (0, 0)) ∧ RGrow wx #[.slice sn1 D1.now.length cn1, .slice ss1 D1.sure.length cs1, .slice sa1 D1.lo.length ca1, .slice sb1 D1.lo.length cb1, .bool D1.cr] #[.slice sn2 (D1.zero a1 sz).now.length cn2, .slice ss2 (D1.zero a1 sz).sure.length cs2, .slice sa2 (D1.zero a1 sz).lo.length ca2, .slice sb2 (D1.zero a1 sz).lo.length cb2, .bool (D1.zero a1 sz).cr] ∧ Keeps (fun j => j = b4) wx (((((t4_.setCell ⟨b4, 0, none⟩ (.slice sn2 (D1.zero a1 sz).now.length cn2)).setCell ⟨b4, 1, none⟩ (.slice ss2 (D1.zero a1 sz).sure.length cs2)).setCell ⟨b4, 2, none⟩ (.slice sa2 (D1.zero a1 sz).lo.length ca2)).setCell ⟨b4, 3, none⟩ (.slice sb2 (D1.zero a1 sz).lo.length cb2)).setCell ⟨b4, 4, none⟩ (.bool (D1.zero a1 sz).cr))) := Lib.hid ⟨RV.out.1.keep' k5 RVF, h5, fun G h1 h2 => RV.out.2 G h1 (fun j hj => h2 j (Nat.le_trans HSZ3.out hj)), (KV.out.mono (fun _ _ h => h.elim)).trans k5 (fun j _ e => e)⟩
                clear h5 k5 RVF
                generalize (D1.zero a1 sz).now.length = l1_ at *
                generalize (D1.zero a1 sz).sure.length = l2_ at *
                generalize (D1.zero a1 sz).lo.length = l3_ at *
                generalize (D1.zero a1 sz).cr = l4_ at *
                clear hHeld
                go_simp
                refine hK _ _ ?_
                clear hK K
                try simp only [Act.put, List.setIfInBounds_toArray, List.set_cons_zero, List.set_cons_succ]
                refine y_done (by kernel_rfl) ?_ _
                clear j0 j1 j2 j3 j4 k0 k1 k2 k3 k4
                have HN := Lib.hid (RfC.next1 (D1 := D1) (D2 := D2) (D0 := D0) HRG.out.1 HRG.out.2 HF.out.1 HF.out.2.1 HF.out.2.2.1 HF.out.2.2.2 HDN2.out)
                clear m1 m2 m3 m4 e1 d8 HF
                go_wp2
                go_roundw
                case rel => exact HN.out
                case measure => simp [intOf]
            · obtain ⟨sn1, cn1, ss1, cs1, sa1, ca1, sb1, cb1, rfl, _⟩ := hra.rows
              have HSY := Lib.hid (refSync_any 0 D2 _ wx hra HDC.out.1 (by rw [HDC.out.2]; exact hN) (Nat.zero_le _))
              have hb2x := (HRG.out.2.block b2 (lt_of_heap H52.out) HB24.out).trans H52.out
              have HRC := Lib.hid (And.intro h4 (And.intro hb3x hb2x))
              have j0 := cellAt h4 0
              have j1 := cellAt h4 1
              have j2 := cellAt h4 2
              have j3 := cellAt h4 3
              have j4 := cellAt h4 4
              simp at j0 j1 j2 j3 j4
              clear hra h4 hb3x hb2x
              go_wp2_with fail
              refine HSY.out.mono ?_
              rintro e w6 ⟨v6, rfl, hr6, hk6, hg6⟩
              obtain ⟨sn6, cn6, ss6, cs6, sa6, ca6, sb6, cb6, rfl, _⟩ := hr6.rows
              have h46 := (hk6.block b4 (lt_of_heap HRC.out.1) (fun h => h)).trans HRC.out.1
              have h36 := (hk6.block b3 (lt_of_heap HRC.out.2.1) (fun h => h)).trans HRC.out.2.1
              have h26 := (hk6.block b2 (lt_of_heap HRC.out.2.2) (fun h => h)).trans HRC.out.2.2
              have hb23 : ¬ b2 = b3 := by have := HBS.out; omega
              have ra4 := ref_apart hr6 h46
              have ra3 := ref_apartS hr6 h36
              have ra2 := ref_apartS hr6 h26
              obtain ⟨x1, hx1⟩ : ∃ v, (((((w6.setCell ⟨b4, 0, none⟩ (.slice sn6 D2.sync.now.length cn6)).setCell ⟨b4, 1, none⟩ (.slice ss6 D2.sync.sure.length cs6)).setCell ⟨b4, 2, none⟩ (.slice sa6 D2.sync.lo.length ca6)).setCell ⟨b4, 3, none⟩ (.slice sb6 D2.sync.lo.length cb6)).setCell ⟨b4, 4, none⟩ (.bool D2.sync.cr)) = v := ⟨_, rfl⟩
              have h41 := heap_five h46 (.slice sn6 D2.sync.now.length cn6) (.slice ss6 D2.sync.sure.length cs6) (.slice sa6 D2.sync.lo.length ca6) (.slice sb6 D2.sync.lo.length cb6) (.bool D2.sync.cr)
              have k1 := keeps_five w6 b4 (.slice sn6 D2.sync.now.length cn6) (.slice ss6 D2.sync.sure.length cs6) (.slice sa6 D2.sync.lo.length ca6) (.slice sb6 D2.sync.lo.length cb6) (.bool D2.sync.cr)
              rw [hx1] at h41 k1
              have h31 := (k1.block b3 (lt_of_heap h36) HB34.out).trans h36
              have h21 := (k1.block b2 (lt_of_heap h26) HB24.out).trans h26
              obtain ⟨x2, hx2⟩ : ∃ v, (((((x1.setCell ⟨b3, 0, none⟩ (.slice sn6 D2.sync.now.length cn6)).setCell ⟨b3, 1, none⟩ (.slice ss6 D2.sync.sure.length cs6)).setCell ⟨b3, 2, none⟩ (.slice sa6 D2.sync.lo.length ca6)).setCell ⟨b3, 3, none⟩ (.slice sb6 D2.sync.lo.length cb6)).setCell ⟨b3, 4, none⟩ (.bool D2.sync.cr)) = v := ⟨_, rfl⟩
              have h32 := heap_five11 h31 (.slice sn6 D2.sync.now.length cn6) (.slice ss6 D2.sync.sure.length cs6) (.slice sa6 D2.sync.lo.length ca6) (.slice sb6 D2.sync.lo.length cb6) (.bool D2.sync.cr)
              have k2 := keeps_five x1 b3 (.slice sn6 D2.sync.now.length cn6) (.slice ss6 D2.sync.sure.length cs6) (.slice sa6 D2.sync.lo.length ca6) (.slice sb6 D2.sync.lo.length cb6) (.bool D2.sync.cr)
              rw [hx2] at h32 k2
              have h22 := (k2.block b2 (lt_of_heap h21) hb23).trans h21
              obtain ⟨x3, hx3⟩ : ∃ v, (((((((((((x2.setCell ⟨b2, 0, none⟩ (.slice sn6 D2.sync.now.length cn6)).setCell ⟨b2, 1, none⟩ (.slice ss6 D2.sync.sure.length cs6)).setCell ⟨b2, 2, none⟩ (.slice sa6 D2.sync.lo.length ca6)).setCell ⟨b2, 3, none⟩ (.slice sb6 D2.sync.lo.length cb6)).setCell ⟨b2, 4, none⟩ (.bool D2.sync.cr)).setCell ⟨b2, 5, none⟩ (.int .i64 (half : Int))).setCell ⟨b2, 6, none⟩ (.int .i64 (fr : Int))).setCell ⟨b2, 7, none⟩ (.slice so rs.length co)).setCell ⟨b2, 8, none⟩ (.int .i64 sat)).setCell ⟨b2, 9, none⟩ (.int .u64 (stn : Int))).setCell ⟨b2, 10, none⟩ (.slice sk nk ck)) = v := ⟨_, rfl⟩
              have h23 := heap_eleven h22 (.slice sn6 D2.sync.now.length cn6) (.slice ss6 D2.sync.sure.length cs6) (.slice sa6 D2.sync.lo.length ca6) (.slice sb6 D2.sync.lo.length cb6) (.bool D2.sync.cr) (.int .i64 (half : Int)) (.int .i64 (fr : Int)) (.slice so rs.length co) (.int .i64 sat) (.int .u64 (stn : Int)) (.slice sk nk ck)
              have k3 := keeps_eleven x2 b2 (.slice sn6 D2.sync.now.length cn6) (.slice ss6 D2.sync.sure.length cs6) (.slice sa6 D2.sync.lo.length ca6) (.slice sb6 D2.sync.lo.length cb6) (.bool D2.sync.cr) (.int .i64 (half : Int)) (.int .i64 (fr : Int)) (.slice so rs.length co) (.int .i64 sat) (.int .u64 (stn : Int)) (.slice sk nk ck)
              rw [hx3] at h23 k3
              have p0 := cellAt h46 0
              have r0 := freeAt h46 0
              have c0 := cellAt h41 0
              have d0 := cellAt h31 0
              have f0 := freeAt h31 0
              have p1 := cellAt h46 1
              have r1 := freeAt h46 1
              have c1 := cellAt h41 1
              have d1 := cellAt h31 1
              have f1 := freeAt h31 1
              have p2 := cellAt h46 2
              have r2 := freeAt h46 2
              have c2 := cellAt h41 2
              have d2 := cellAt h31 2
              have f2 := freeAt h31 2
              have p3 := cellAt h46 3
              have r3 := freeAt h46 3
              have c3 := cellAt h41 3
              have d3 := cellAt h31 3
              have f3 := freeAt h31 3
              have p4 := cellAt h46 4
              have r4 := freeAt h46 4
              have c4 := cellAt h41 4
              have d4 := cellAt h31 4
              have f4 := freeAt h31 4
              have g0 := cellAt h32 0
              have e0 := cellAt h22 0
              have ef0 := freeAt h22 0
              have n0 := cellAt h23 0
              have g1 := cellAt h32 1
              have e1 := cellAt h22 1
              have ef1 := freeAt h22 1
              have n1 := cellAt h23 1
              have g2 := cellAt h32 2
              have e2 := cellAt h22 2
              have ef2 := freeAt h22 2
              have n2 := cellAt h23 2
              have g3 := cellAt h32 3
              have e3 := cellAt h22 3
              have ef3 := freeAt h22 3
              have n3 := cellAt h23 3
              have g4 := cellAt h32 4
              have e4 := cellAt h22 4
              have ef4 := freeAt h22 4
              have n4 := cellAt h23 4
              have g5 := cellAt h32 5
              have e5 := cellAt h22 5
              have ef5 := freeAt h22 5
              have n5 := cellAt h23 5
              have g6 := cellAt h32 6
              have e6 := cellAt h22 6
              have ef6 := freeAt h22 6
              have n6 := cellAt h23 6
              have g7 := cellAt h32 7
              have e7 := cellAt h22 7
              have ef7 := freeAt h22 7
              have n7 := cellAt h23 7
              have g8 := cellAt h32 8
              have e8 := cellAt h22 8
              have ef8 := freeAt h22 8
              have n8 := cellAt h23 8
              have g9 := cellAt h32 9
              have e9 := cellAt h22 9
              have ef9 := freeAt h22 9
              have n9 := cellAt h23 9
              have g10 := cellAt h32 10
              have e10 := cellAt h22 10
              have ef10 := freeAt h22 10
              have n10 := cellAt h23 10
              simp at p0 c0 d0 p1 c1 d1 p2 c2 d2 p3 c3 d3 p4 c4 d4 g0 e0 n0 g1 e1 n1 g2 e2 n2 g3 e3 n3 g4 e4 n4 g5 e5 n5 g6 e6 n6 g7 e7 n7 g8 e8 n8 g9 e9 n9 g10 e10 n10
              have HFIN : Hid (OpenPost w D #[.slice (some ⟨gn, 0, none⟩) N cn, .slice ss ns cs, .slice sa na ca, .slice sb na cb, .bool false] (.returned (.tuple #[.agg #[.slice sn6 D2.sync.now.length cn6, .slice ss6 D2.sync.sure.length cs6, .slice sa6 D2.sync.lo.length ca6, .slice sb6 D2.sync.lo.length cb6, .bool D2.sync.cr, .int .i64 (half : Int), .int .i64 (fr : Int), .slice so rs.length co, .int .i64 sat, .int .u64 (stn : Int), .slice sk nk ck], .int .i64 0])) x3) := by
                have hsz1 := HBS.out
                have hsw := KC.out.size
                have hsr := HX.out.2.2.2.1.size
                have hs5 := HK5.out.1.size
                have hsx := HRG.out.2.size
                have hb2c := HC1.out.2
                have kA : Keeps (fun j => j = b3 ∨ j = b4 ∨ j = b2) wr x3 := ((((HK5.out.1.mono (fun _ _ h => h.elim)).trans HRG.out.2 (fun j _ e => Or.inr (Or.inl e))).trans hk6 (fun _ _ h => h.elim)).trans k1 (fun j _ e => Or.inr (Or.inl e))).trans k2 (fun j _ e => Or.inl e) |>.trans k3 (fun j _ e => Or.inr (Or.inr e))
                have kB : Keeps (fun j => j = b3 ∨ j = b4 ∨ j = b2) wc x3 := (HX.out.2.2.2.1.mono (fun _ _ e => Or.inl e)).trans kA (fun j _ e => e)
                have hgn := HGN.out
                obtain ⟨o1, o2, o3, o4, o5, o6⟩ := openS_ref HDN.out HNOW.out.2 hhalf HQ.out.2.2.1 HQ.out.2.2.2 HHF.out.1 HRW.out.2.2.2.1 HQ.out.1 HQ.out.2.1 HST.out HDD.out.1 HDD.out.2.1 HDD.out.2.2
                have o7 : (openS D).half = half := by unfold SS.half; rw [o1]; show D2.now.length / 2 = half; rw [HDC.out.2]; exact hhalf
                have hb4r : wr.heap.size ≤ b4 := HL4.out
                have hso : ∀ j, so = some ⟨j, 0, none⟩ → b3 + 1 ≤ j ∧ j < wc.heap.size := fun j e => own_lt HRW.out.1 e
                have hrx := ((hr6.keep' k1 ra4).keep' k2 (ra3.weak (fun j h e => h e))).keep' k3 (ra2.weak (fun j h e => h e))
                refine Lib.hid ⟨_, rfl, fun P hP hPn => ?_, ?_⟩
                · have hPg : P gn := hP (.slice (some ⟨gn, 0, none⟩) N cn) (by simp) gn rfl
                  have hP1 := HK5.out.2 P hP (fun j hj => hPn j (by omega))
                  have hP3 := HRG.out.1 P hP1 (fun j hj => hPn j (by omega))
                  have hP6 := hg6 P hP3 (fun j hj => hPn j (by omega))
                  have hinr : ∀ x ∈ vs, InR (fun j => j = gn) x := fun x hx ad n c e h0 => by
                    obtain ⟨o, n', c', e'⟩ := HRW.out.2.2.1 x hx
                    rw [e'] at e
                    simp only [Value.slice.injEq, Option.some.injEq] at e
                    rw [← e.1]
                  have hkin : InR (fun j => j = gn) (.slice sk nk ck) := fun ad n c e h0 => by
                    simp only [Value.slice.injEq] at e
                    exact HX.out.2.2.1 ad e.1
                  have hown := own_keep HRW.out.1 kB (fun j e h => by have := hso j (form_own HRW.out.1 e); omega)
                  refine ⟨sn6, cn6, ss6, cs6, sa6, ca6, sb6, cb6, so, co, vs, sk, ck, ?_, ?_, ?_, ?_, ?_, ?_, ?_, fun x hx => (hinr x hx).weak (fun j e => e ▸ hPg), ?_⟩
                  · rw [o1, o2, o3, o4, o5, o6, o7, HX.out.2.2.2.2]
                  · rw [o1]; exact hrx
                  · rw [o1]; exact hP6
                  · rw [o3]; exact Sl.of_own hown
                  · rw [o3]; exact rows_keep HRW.out.2.1 hinr kB (fun j h e => by omega)
                  · rw [o6, HX.out.2.2.2.2]; exact sl_keep HX.out.2.1 hkin kA (fun j h e => by omega)
                  · rw [o3]
                    intro ad n c e h0
                    simp only [Value.slice.injEq] at e
                    rcases own_addr HRW.out.1 with ⟨e1, _⟩ | ⟨g', e1⟩
                    · rw [e1] at e; cases e.1
                    · rw [e1] at e; cases e.1; have := hso g' e1; exact hPn _ (by show w.heap.size ≤ g'; omega)
                  · rw [o6, HX.out.2.2.2.2]; exact hkin.weak (fun j e => e ▸ hPg)
                · exact KC.out.trans kB (fun j hj e => by omega)
              clear h46 h36 h26 h41 h31 h21 h32 h22 h23 k1 k2 k3 hr6 hk6 hg6 ra4 ra3 ra2 HSY
              go_wp2
              refine bodyPost_ret (v := .tuple #[.agg #[.slice sn6 D2.sync.now.length cn6, .slice ss6 D2.sync.sure.length cs6, .slice sa6 D2.sync.lo.length ca6, .slice sb6 D2.sync.lo.length cb6, .bool D2.sync.cr, .int .i64 (half : Int), .int .i64 (fr : Int), .slice so rs.length co, .int .i64 sat, .int .u64 (stn : Int), .slice sk nk ck], .int .i64 0]) (by simp [results, Try.results14, go_sem, n0, n1, n2, n3, n4, n5, n6, n7, n8, n9, n10]) rfl HFIN.out
end Go.Proofs.Ytpojkhjenbbodaa
