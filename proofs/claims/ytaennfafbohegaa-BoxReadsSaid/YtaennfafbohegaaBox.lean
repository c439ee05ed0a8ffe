/-
  Boxes: Pub, Make, Open: what they tell. Conditions: the numbers are below 2^64.
-/
import Derived.Test.YtaennfafbohegaaOfArgs
import Derived.Test.YtaennfafbohegaaPow
import Derived.Test.YtaennfafbohegaaRegion
namespace Go.Proofs.Ytaennfafbohegaa
open Go.RowKit

def subm (a b : Nat) : Nat := num (num a + 2305843009213693951 - num b)
set_option maxRecDepth 10000 in
theorem sub_any (a b : Nat) (w : World) (ha : U64 a) (hb : U64 b) :
    Calls Try.prog 21 #[.int .u64 a, .int .u64 b] w fun e w' => e = .returned (.int .u64 (subm a b : Int)) ∧ w = w' := by
  have la := num_lt a
  have lb := num_lt b
  obtain ⟨s, hs⟩ : ∃ s, num a + 2305843009213693951 = s := ⟨_, rfl⟩
  obtain ⟨d, hd⟩ : ∃ d, s - num b = d := ⟨_, rfl⟩
  have e1 : IntKind.u64.wrap ((num a : Int) + 2305843009213693951) = (s : Int) := by rw [IntKind.wrap_u64]; omega
  have e2 : IntKind.u64.wrap ((s : Int) - (num b : Int)) = (d : Int) := by rw [IntKind.wrap_u64]; omega
  have hf : num d = subm a b := by unfold subm; rw [hs, hd]
  have HH := Lib.hid (And.intro ha (And.intro hb (And.intro hf (show U64 d by unfold U64; omega))))
  clear ha hb hf hs hd la lb
  go_enter Try.func21, Try.ntmps21
  go_wp2_with fail
  refine (num_any a w HH.out.1).mono ?_
  rintro e _ ⟨rfl, rfl⟩
  go_wp2_with fail
  refine (num_any b w HH.out.2.1).mono ?_
  rintro e _ ⟨rfl, rfl⟩
  go_wp2_with fail
  refine (num_any d w HH.out.2.2.2).mono ?_
  rintro e _ ⟨rfl, rfl⟩
  go_wp2
  go_ret
  exact ⟨by rw [HH.out.2.2.1]; rfl, rfl⟩

theorem pub_any (s : Nat) (w : World) (hs : U64 s) : Calls Try.prog 12 #[.int .u64 s] w fun e w' => e = .returned (.int .u64 (powm 37 s : Int)) ∧ Keeps (fun _ => False) w w' := by
  have HT := Lib.hid (pow_any 37 s w (by unfold U64; omega) hs)
  clear hs
  go_enter Try.func12, Try.ntmps12
  go_wp2_with fail
  refine HT.out.mono ?_
  rintro e w1 ⟨rfl, hk⟩
  have H := Lib.hid hk
  clear hk HT
  go_wp2
  go_ret
  exact ⟨rfl, H.out⟩

/-- A box. -/
structure Bx where
  to : Nat
  eph : Nat
  body : Nat
  tag : Nat
deriving DecidableEq
def Bx.ok (b : Bx) : Prop := U64 b.to ∧ U64 b.eph ∧ U64 b.body ∧ U64 b.tag
def bxV (b : Bx) : Value := .agg #[.int .u64 (b.to : Int), .int .u64 (b.eph : Int), .int .u64 (b.body : Int), .int .u64 (b.tag : Int)]
def sMask : List UInt8 := [109, 97, 115, 107]
def sTag : List UInt8 := [116, 97, 103]
def withK (k : Nat) (b : Bx) : Bx := { b with tag := hof sTag [k, b.body, b.to] }
def mkBox (to once v : Nat) : Bx := withK (powm to once) ⟨to, powm 37 once, addm v (hof sMask [powm to once]), 0⟩
def openBox (s : Nat) (b : Bx) : Nat × Int :=
  if b.to ≠ powm 37 s then (0, 20) else if withK (powm b.eph s) b ≠ b then (0, 21) else (subm b.body (hof sMask [powm b.eph s]), 0)

theorem Keeps.set1 {w w1 : World} (h : Keeps (fun _ => False) w w1) {b : Nat} (hb : w.heap.size ≤ b) (j : Nat) (v : Value) : Keeps (fun _ => False) w (w1.setCell ⟨b, j, none⟩ v) := h.setCell (p := ⟨b, j, none⟩) (fun h => by simp only at h; omega) v
theorem Keeps.set4 {w w1 : World} (h : Keeps (fun _ => False) w w1) {b : Nat} (hb : w.heap.size ≤ b) (v0 v1 v2 v3 : Value) : Keeps (fun _ => False) w ((((w1.setCell ⟨b, 0, none⟩ v0).setCell ⟨b, 1, none⟩ v1).setCell ⟨b, 2, none⟩ v2).setCell ⟨b, 3, none⟩ v3) := (((h.set1 hb 0 v0).set1 hb 1 v1).set1 hb 2 v2).set1 hb 3 v3
theorem with_any (k : Nat) (w : World) : Calls Try.prog 24 #[.int .u64 k] w fun e w' => e = .returned (.func (.func 34) #[] #[.pointer (some ⟨w.heap.size, 0, none⟩)]) ∧ w' = w.alloc (.cells #[.int .u64 (k : Int)] 22) := by
  go_enter Try.func24, Try.ntmps24
  go_wp2
  go_ret
  exact ⟨rfl, rfl⟩

set_option maxHeartbeats 1000000 in
theorem with1_any (k to eph body tag kb : Nat) (w : World) (hk : w.cell? ⟨kb, 0, none⟩ = some (.int .u64 (k : Int))) (hU : U64 k ∧ U64 body ∧ U64 to) :
    Calls Try.prog 34 #[.agg #[.int .u64 (to : Int), .int .u64 (eph : Int), .int .u64 (body : Int), .int .u64 (tag : Int)], .pointer (some ⟨kb, 0, none⟩)] w fun e w' => e = .returned (.agg #[.int .u64 (to : Int), .int .u64 (eph : Int), .int .u64 (body : Int), .int .u64 (hof sTag [k, body, to] : Int)]) ∧ Keeps (fun _ => False) w w' := by
  have hkb := World.block_lt_of_cell? w _ hk
  have HU := Lib.hid hU
  clear hU
  obtain ⟨b0, hb0⟩ : ∃ b0, w.heap.size = b0 := ⟨_, rfl⟩
  obtain ⟨W0, hW0⟩ : ∃ W0, (w.alloc (.cells #[.int .u64 (to : Int), .int .u64 (eph : Int), .int .u64 (body : Int), .int .u64 (tag : Int)] 25)).alloc (.cells #[.int .u64 0, .int .u64 0, .int .u64 0, .int .u64 0] 25) = W0 := ⟨_, rfl⟩
  have hz : W0.heap.size = b0 + 1 + 1 := by rw [← hW0, ← hb0]; simp
  have hk0 : Keeps (fun _ => False) w W0 := by rw [← hW0]; exact ((Keeps.refl _ w).alloc _).alloc _
  have q0 : W0.heap[b0]? = some (.cells #[.int .u64 (to : Int), .int .u64 (eph : Int), .int .u64 (body : Int), .int .u64 (tag : Int)] 25 (0, 0)) := by
    rw [← hW0, ← hb0]; exact (Below.heap_alloc _ _ _ (by simp)).trans (World.alloc_heap_new w _)
  have q1 : W0.heap[b0 + 1]? = some (.cells #[.int .u64 0, .int .u64 0, .int .u64 0, .int .u64 0] 25 (0, 0)) := by
    rw [← hW0, ← hb0]
    have := World.alloc_heap_new (w.alloc (.cells #[.int .u64 (to : Int), .int .u64 (eph : Int), .int .u64 (body : Int), .int .u64 (tag : Int)] 25)) (.cells #[.int .u64 0, .int .u64 0, .int .u64 0, .int .u64 0] 25)
    rwa [World.size_alloc] at this
  have ht := of_three ⟨#[116, 97, 103]⟩ k body to W0 (by decide) HU.out.1 HU.out.2.1 HU.out.2.2
  rw [hz] at ht
  have HT := Lib.hid ht
  have HQ := Lib.hid (And.intro q0 (And.intro q1 (And.intro hk0 (And.intro hW0 hb0))))
  clear ht q0 q1 hk0 hz hb0 hW0
  go_enter Try.func34, Try.ntmps34
  go_wp2_with fail
  rw [HQ.out.2.2.2.2, HQ.out.2.2.2.1]
  refine HT.out.mono ?_
  rintro e w1 ⟨rfl, hk1⟩
  have p0 := (hk1.block b0 (lt_of_heap HQ.out.1) (fun h => h)).trans HQ.out.1
  have p1 := (hk1.block (b0 + 1) (lt_of_heap HQ.out.2.1) (fun h => h)).trans HQ.out.2.1
  obtain ⟨t, htt⟩ : ∃ t, hof sTag [k, body, to] = t := ⟨_, rfl⟩
  rw [show hof (⟨#[116, 97, 103]⟩ : ByteArray).data.toList [k, body, to] = t from htt]
  have H1 := Lib.hid (And.intro (HQ.out.2.2.1.quiet hk1) htt)
  have c0 := cellAt p0 0
  have c1 := cellAt p0 1
  have c2 := cellAt p0 2
  have c3 := cellAt p0 3
  have f3 := freeAt p0 3
  have d0 := cellAt p1 0
  have d1 := cellAt p1 1
  have d2 := cellAt p1 2
  have d3 := cellAt p1 3
  have g0 := freeAt p1 0
  have g1 := freeAt p1 1
  have g2 := freeAt p1 2
  have g3 := freeAt p1 3
  simp at c0 c1 c2 c3 d0 d1 d2 d3
  have hne : b0 + 1 ≠ b0 := by omega
  have hne2 : b0 ≠ b0 + 1 := by omega
  have HP := Lib.hid (And.intro p0 p1)
  clear p0 p1 hk1 htt HT hk
  go_wp2
  have hb := HQ.out.2.2.2.2
  refine bodyPost_ret (v := .agg #[.int .u64 (to : Int), .int .u64 (eph : Int), .int .u64 (body : Int), .int .u64 (t : Int)]) (by simp [results, Try.results34, go_sem, d0, d1, d2, d3]) rfl ⟨by rw [H1.out.2], ?_⟩
  exact (H1.out.1.set1 (by omega) 3 _).set4 (by omega) _ _ _ _

set_option maxHeartbeats 1000000 in
theorem make_any (to once v : Nat) (w : World) (h1 : U64 to) (h2 : U64 once) (h3 : U64 v) :
    Calls Try.prog 14 #[.int .u64 to, .int .u64 once, .int .u64 v] w fun e w' => e = .returned (bxV (mkBox to once v)) ∧ Keeps (fun _ => False) w w' := by
  obtain ⟨b0, hb0⟩ : ∃ b0, w.heap.size = b0 := ⟨_, rfl⟩
  obtain ⟨W0, hW0⟩ : ∃ W0, w.alloc (.cells #[.int .u64 0, .int .u64 0, .int .u64 0, .int .u64 0] 25) = W0 := ⟨_, rfl⟩
  have hk0 : Keeps (fun _ => False) w W0 := by rw [← hW0]; exact (Keeps.refl _ w).alloc _
  have q0 : W0.heap[b0]? = some (.cells #[.int .u64 0, .int .u64 0, .int .u64 0, .int .u64 0] 25 (0, 0)) := by rw [← hW0, ← hb0]; exact World.alloc_heap_new w _
  obtain ⟨k, hk⟩ : ∃ k, powm to once = k := ⟨_, rfl⟩
  have hkl : k < 2305843009213693951 := by rw [← hk]; exact powm_lt _ _
  obtain ⟨m, hm⟩ : ∃ m, hof sMask [k] = m := ⟨_, rfl⟩
  have hml : m < 2305843009213693951 := by rw [← hm]; exact hof_lt _ _
  obtain ⟨p, hp⟩ : ∃ p, powm 37 once = p := ⟨_, rfl⟩
  obtain ⟨bd, hbd⟩ : ∃ bd, addm v m = bd := ⟨_, rfl⟩
  have hbl : bd < 2305843009213693951 := by rw [← hbd]; exact num_lt _
  obtain ⟨t, ht⟩ : ∃ t, hof sTag [k, bd, to] = t := ⟨_, rfl⟩
  have hfin : bxV (mkBox to once v) = .agg #[.int .u64 (to : Int), .int .u64 (p : Int), .int .u64 (bd : Int), .int .u64 (t : Int)] := by
    unfold mkBox withK bxV
    simp only [hk, hm, hp, hbd, ht]
  have HQ := Lib.hid (And.intro q0 (And.intro hk0 (And.intro hW0 hb0)))
  have HE := Lib.hid (And.intro hk (And.intro hm (And.intro hp (And.intro hbd (And.intro ht hfin)))))
  have HU := Lib.hid (And.intro h1 (And.intro h2 h3))
  clear q0 hk0 hW0 hb0 hk hm hp hbd ht hfin h1 h2 h3
  go_enter Try.func14, Try.ntmps14
  go_wp2_with fail
  rw [HQ.out.2.2.2, HQ.out.2.2.1]
  refine (pow_any to once W0 HU.out.1 HU.out.2.1).mono ?_
  rw [HE.out.1]
  rintro e w1 ⟨rfl, hk1⟩
  have B1 := Lib.hid ((hk1.block b0 (lt_of_heap HQ.out.1) (fun h => h)).trans HQ.out.1)
  have HK := Lib.hid (HQ.out.2.1.quiet hk1)
  clear hk1
  go_wp2_with fail
  refine (with_any k w1).mono ?_
  rintro e w2 ⟨rfl, rfl⟩
  obtain ⟨kb, hkb⟩ : ∃ kb, w1.heap.size = kb := ⟨_, rfl⟩
  obtain ⟨w2, hw2⟩ : ∃ w2, w1.alloc (.cells #[.int .u64 (k : Int)] 22) = w2 := ⟨_, rfl⟩
  have hk2 : Keeps (fun _ => False) w1 w2 := by rw [← hw2]; exact (Keeps.refl _ w1).alloc _
  have KB : Hid (w2.heap[kb]? = some (.cells #[.int .u64 (k : Int)] 22 (0, 0))) := by rw [← hw2, ← hkb]; exact World.alloc_heap_new w1 _
  replace B1 := Lib.hid ((hk2.block b0 (lt_of_heap B1.out) (fun h => h)).trans B1.out)
  replace HK := Lib.hid (HK.out.quiet hk2)
  rw [hw2, hkb]
  clear hw2 hkb hk2
  go_wp2_with fail
  refine (pub_any once w2 HU.out.2.1).mono ?_
  rw [HE.out.2.2.1]
  rintro e w3 ⟨rfl, hk3⟩
  replace B1 := Lib.hid ((hk3.block b0 (lt_of_heap B1.out) (fun h => h)).trans B1.out)
  replace KB := Lib.hid ((hk3.block kb (lt_of_heap KB.out) (fun h => h)).trans KB.out)
  replace HK := Lib.hid (HK.out.quiet hk3)
  clear hk3
  go_wp2_with fail
  refine (of_one ⟨#[109, 97, 115, 107]⟩ k w3 (by decide) (by unfold U64; omega)).mono ?_
  rw [show hof (⟨#[109, 97, 115, 107]⟩ : ByteArray).data.toList [k] = m from HE.out.2.1]
  rintro e w4 ⟨rfl, hk4⟩
  replace B1 := Lib.hid ((hk4.block b0 (lt_of_heap B1.out) (fun h => h)).trans B1.out)
  replace KB := Lib.hid ((hk4.block kb (lt_of_heap KB.out) (fun h => h)).trans KB.out)
  replace HK := Lib.hid (HK.out.quiet hk4)
  clear hk4
  go_wp2_with fail
  refine (add_any v m w4 HU.out.2.2 (by unfold U64; omega)).mono ?_
  rw [HE.out.2.2.2.1]
  rintro e _ ⟨rfl, rfl⟩
  go_wp2_with fail
  refine (with1_any k to p bd 0 kb w4 (cellAt KB.out 0) ⟨by unfold U64; omega, by unfold U64; omega, HU.out.1⟩).mono ?_
  rw [HE.out.2.2.2.2.1]
  rintro e w5 ⟨rfl, hk5⟩
  have p1 := (hk5.block b0 (lt_of_heap B1.out) (fun h => h)).trans B1.out
  replace HK := Lib.hid (HK.out.quiet hk5)
  have d0 := cellAt p1 0
  have d1 := cellAt p1 1
  have d2 := cellAt p1 2
  have d3 := cellAt p1 3
  have g0 := freeAt p1 0
  have g1 := freeAt p1 1
  have g2 := freeAt p1 2
  have g3 := freeAt p1 3
  simp at d0 d1 d2 d3
  clear hk5 p1
  go_wp2
  have hb := HQ.out.2.2.2
  refine bodyPost_ret (v := .agg #[.int .u64 (to : Int), .int .u64 (p : Int), .int .u64 (bd : Int), .int .u64 (t : Int)]) (by simp [results, Try.results14, go_sem, d0, d1, d2, d3]) rfl ⟨by rw [HE.out.2.2.2.2.2], ?_⟩
  exact HK.out.set4 (by omega) _ _ _ _
end Go.Proofs.Ytaennfafbohegaa
