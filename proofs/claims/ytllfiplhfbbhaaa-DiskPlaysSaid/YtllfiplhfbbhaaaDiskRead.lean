/-
  A disk's Read and Open: what they tell; where they are refused. Condition: sizes up to 65536.
-/
import Derived.Test.YtllfiplhfbbhaaaDiskCrash
namespace Go.Proofs.Ytllfiplhfbbhaaa
open Go.RowKit
attribute [local go_sem ↓] Go.wp_at_zero Go.wp_at_succ

/-- The inner function of Read, where the bytes are in. -/
def ReadPost (w : World) (c3 n : Nat) (l : List UInt8) (e : Ending) (w' : World) : Prop :=
  e = .returned (.int .i64 0) ∧ ∃ g cap', w'.ownsRow w.heap.size 5 1 (.slice (some ⟨g, 0, none⟩) n cap') n (BV l) ∧ w'.cell? ⟨c3, 0, none⟩ = some (.slice (some ⟨g, 0, none⟩) n cap') ∧ Keeps (fun k => k = c3) w w'

set_option maxHeartbeats 1000000 in
theorem read1_ok (c0 c1 c2 c3 p at_ m : Nat) (n : Nat) (D : DS) (gn cn gs cs : Nat) (sl : Option Addr) (cl : Nat) (w : World)
    (h : DiskAt w p D gn cn gs cs sl cl) (hn : D.now.length = n) (k0 : w.cell? ⟨c0, 0, none⟩ = some (.pointer (some ⟨p, 0, none⟩))) (k1 : w.cell? ⟨c1, 0, none⟩ = some (.int .i64 at_)) (k2 : w.cell? ⟨c2, 0, none⟩ = some (.int .i64 m))
    (v3 : Value) (k3 : w.cell? ⟨c3, 0, none⟩ = some v3) (z3 : w.frozen? ⟨c3, 0, none⟩ = false)
    (n0 : c0 ≠ c3) (n1 : c1 ≠ c3) (n2 : c2 ≠ c3) (n3 : ¬ Foot p gn gs sl c3)
    (hfit : at_ + m ≤ n) (hD : n ≤ 65536) :
    Calls Try.prog 33 #[.pointer (some ⟨c0, 0, none⟩), .pointer (some ⟨c1, 0, none⟩), .pointer (some ⟨c2, 0, none⟩), .pointer (some ⟨c3, 0, none⟩)] w (ReadPost w c3 m ((D.now.drop at_).take m)) := by
  have q0 := cellAt h.blk 0
  rw [hn] at q0
  simp at q0
  have hcap : n ≤ cn := by have := h.cap; omega
  have hi : inB at_ m n = true := by unfold inB; simp; omega
  have HI := Lib.hid hi
  obtain ⟨ad, had, hadp⟩ : ∃ ad : Addr, (if cn = at_ then some (⟨gn, 0, none⟩ : Addr) else some ⟨gn, at_, none⟩) = some ad ∧ (0 < m → ad = ⟨gn, at_, none⟩) := by
    by_cases e : cn = at_
    · exact ⟨_, if_pos e, fun h => by omega⟩
    · exact ⟨_, if_neg e, fun _ => rfl⟩
  have HL : Hid (((D.now.drop at_).take m).length = m) := by show _ = _; simp; omega
  have HS : Hid (∀ (j : Nat) (c : UInt8), ((D.now.drop at_).take m)[j]? = some c → w.cell? (ad.add j) = some (.int .u8 c.toNat)) := by
    intro j c hc
    have hj : j < m := by have := (List.getElem?_eq_some_iff.1 hc).1; rw [HL.out] at this; exact this
    rw [hadp (by omega), addr_add]
    refine own_cell h.now _ _ ?_
    rw [List.getElem?_take_of_lt hj, List.getElem?_drop] at hc
    rw [BV_get, hc]
    rfl
  have HK : Hid (∀ (w1 : World), Keeps (fun _ => False) w w1 → w1.cell? ⟨c0, 0, none⟩ = some (.pointer (some ⟨p, 0, none⟩)) ∧ w1.cell? ⟨c1, 0, none⟩ = some (.int .i64 at_) ∧ w1.cell? ⟨c2, 0, none⟩ = some (.int .i64 m) ∧ w1.cell? ⟨p, 0, none⟩ = some (.slice (some ⟨gn, 0, none⟩) n cn)) := by
    intro w1 hk
    exact ⟨(hk.cell (World.block_lt_of_cell? w _ k0) (fun h => h)).trans k0, (hk.cell (World.block_lt_of_cell? w _ k1) (fun h => h)).trans k1, (hk.cell (World.block_lt_of_cell? w _ k2) (fun h => h)).trans k2, (hk.cell (World.block_lt_of_cell? w _ q0) (fun h => h)).trans q0⟩
  have HK2 : Hid (∀ (w1 : World) (v : Value), Keeps (fun _ => False) w w1 → (w1.setCell ⟨c3, 0, none⟩ v).cell? ⟨c0, 0, none⟩ = some (.pointer (some ⟨p, 0, none⟩)) ∧ (w1.setCell ⟨c3, 0, none⟩ v).cell? ⟨c1, 0, none⟩ = some (.int .i64 at_) ∧ (w1.setCell ⟨c3, 0, none⟩ v).cell? ⟨c2, 0, none⟩ = some (.int .i64 m) ∧ (w1.setCell ⟨c3, 0, none⟩ v).cell? ⟨p, 0, none⟩ = some (.slice (some ⟨gn, 0, none⟩) n cn)) := by
    intro w1 v hk
    have hk' : Keeps (fun k => k = c3) w (w1.setCell ⟨c3, 0, none⟩ v) := Keeps.setCell (F := fun k => k = c3) (hk.mono (fun _ _ h => h.elim)) (p := ⟨c3, 0, none⟩) (fun _ => rfl) v
    exact ⟨(hk'.cell (World.block_lt_of_cell? w _ k0) n0).trans k0, (hk'.cell (World.block_lt_of_cell? w _ k1) n1).trans k1, (hk'.cell (World.block_lt_of_cell? w _ k2) n2).trans k2, (hk'.cell (World.block_lt_of_cell? w _ q0) (fun e => n3 (Or.inl e.symm))).trans q0⟩
  have HZ : Hid (∀ (w1 : World), Keeps (fun _ => False) w w1 → w1.cell? ⟨c3, 0, none⟩ = some v3 ∧ w1.frozen? ⟨c3, 0, none⟩ = false) := by
    intro w1 hk
    exact ⟨(hk.cell (World.block_lt_of_cell? w _ k3) (fun h => h)).trans k3, (hk.frozen (World.block_lt_of_cell? w _ k3) (fun h => h)).trans z3⟩
  have b1 : (0 : Int) ≤ (at_ : Int) := by omega
  have b2 : (at_ : Int) ≤ (cn : Int) := by omega
  have b3 : (at_ : Int) ≤ (at_ : Int) + (m : Int) := by omega
  have b4 : (at_ : Int) + (m : Int) ≤ (cn : Int) := by omega
  have b5 : IntKind.i64.wrap ((at_ : Int) + (m : Int)) = (at_ : Int) + m := IntWalk.i64_in _ (by omega)
  have b6 : ((at_ : Int) + (m : Int)).toNat = at_ + m := by omega
  have b7 : at_ + m - at_ = m := by omega
  have HF := Lib.hid (And.intro n0 (And.intro n1 (And.intro n2 n3)))
  have hb3 := World.block_lt_of_cell? w _ k3
  clear h hn hadp n0 n1 n2 n3 hi
  go_enter Try.func33, Try.ntmps33
  go_wp2_with fail
  refine (in_yes p at_ m _ n cn _ hD q0 HI.out).mono ?_
  rintro e w' ⟨rfl, rfl⟩
  go_wp2_with fail
  go_region_held3 (fun w' => w'.cell? ⟨c0, 0, none⟩ = some (.pointer (some ⟨p, 0, none⟩)) ∧ w'.cell? ⟨c1, 0, none⟩ = some (.int .i64 at_) ∧ w'.cell? ⟨c2, 0, none⟩ = some (.int .i64 m) ∧ w'.cell? ⟨p, 0, none⟩ = some (.slice (some ⟨gn, 0, none⟩) n cn))
    (first | exact HK.out _ HW1.out | exact HK2.out _ _ HW1.out | go_keep)
    ((go_at_call 35; refine (clone_some ad m _ _ w.drew HL.out (by omega) HS.out).mono ?_; rintro e w1 ⟨g, cap', rfl, hown, hk⟩; have HW1 : Hid (Keeps (fun _ => False) w w1) := (Keeps.refl _ w).drew.trans hk (fun _ _ h => h); have HOW := Lib.hid hown; obtain ⟨f1, f2⟩ := HZ.out _ HW1.out; clear hown hk))
  have hx : (w1.setCell ⟨c3, 0, none⟩ (.slice (some ⟨g, 0, none⟩) m cap')).cell? ⟨c3, 0, none⟩ = some (.slice (some ⟨g, 0, none⟩) m cap') := by
    obtain ⟨c, t, fr, hb⟩ : ∃ c t fr, w1.heap[c3]? = some (.cells c t fr) ∧ 0 < c.size := by
      have := f1
      unfold World.cell? at this
      split at this
      · rename_i c t fr hb
        simp at this
        exact ⟨c, t, fr, hb, (Array.getElem?_eq_some_iff.1 this).1⟩
      · cases this
    rw [cellAt (heap_setCell_at hb.1 0 _) 0]
    simp [hb.2]
  have HX := Lib.hid hx
  clear hx
  go_wp2
  go_ret
  refine ⟨rfl, g, cap', ?_, HX.out, Keeps.setCell (F := fun k => k = c3) (HW1.out.mono (fun _ _ h => h.elim)) (p := ⟨c3, 0, none⟩) (fun _ => rfl) _⟩
  have hlt := own_lt HOW.out rfl
  exact own_keep HOW.out ((Keeps.refl (fun k => k = c3) w1).setCell (p := ⟨c3, 0, none⟩) (fun _ => rfl) _) (fun k e => by
    simp [Value.ownBlock] at e
    have h1 := hlt.1
    have h2 : w.drew.heap.size = w.heap.size := rfl
    have h3 : c3 < w.heap.size := hb3
    omega)

theorem read1_no (c0 c1 c2 c3 p : Nat) (at_ m : Int) (n : Nat) (a : Option Addr) (cn : Nat) (w : World)
    (k0 : w.cell? ⟨c0, 0, none⟩ = some (.pointer (some ⟨p, 0, none⟩))) (k1 : w.cell? ⟨c1, 0, none⟩ = some (.int .i64 at_)) (k2 : w.cell? ⟨c2, 0, none⟩ = some (.int .i64 m))
    (q0 : w.cell? ⟨p, 0, none⟩ = some (.slice a n cn)) (hD : n ≤ 65536) (hi : inB at_ m n = false) :
    Calls Try.prog 33 #[.pointer (some ⟨c0, 0, none⟩), .pointer (some ⟨c1, 0, none⟩), .pointer (some ⟨c2, 0, none⟩), .pointer (some ⟨c3, 0, none⟩)] w fun e w' => e = .returned (.int .i64 8) ∧ w = w' := by
  have HI := Lib.hid hi
  clear hi
  go_enter Try.func33, Try.ntmps33
  go_wp2_with fail
  refine (in_no p at_ m _ n cn _ hD q0 HI.out).mono ?_
  rintro e w' ⟨rfl, rfl⟩
  go_wp2_with fail
  go_ret
  exact ⟨rfl, rfl⟩

theorem box4 {w : World} {p : Nat} {D : DS} {gn cn gs cs : Nat} {sl : Option Addr} {cl : Nat} (h : DiskAt w p D gn cn gs cs sl cl) (a b c d : Obj) :
    Keeps (fun _ => False) w ((((w.alloc a).alloc b).alloc c).alloc d) ∧ DiskAt ((((w.alloc a).alloc b).alloc c).alloc d) p D gn cn gs cs sl cl ∧ ((((w.alloc a).alloc b).alloc c).alloc d).heap[w.heap.size]? = some a ∧
      ((((w.alloc a).alloc b).alloc c).alloc d).heap[w.heap.size + 1]? = some b ∧ ((((w.alloc a).alloc b).alloc c).alloc d).heap[w.heap.size + 1 + 1]? = some c ∧ ((((w.alloc a).alloc b).alloc c).alloc d).heap[w.heap.size + 1 + 1 + 1]? = some d := by
  obtain ⟨hk, hd, h1, h2, h3⟩ := box3 h a b c
  have hs : (((w.alloc a).alloc b).alloc c).heap.size = w.heap.size + 1 + 1 + 1 := by simp
  have h4 := heap_alloc_new (((w.alloc a).alloc b).alloc c) d
  rw [hs] at h4
  refine ⟨hk.alloc d, hd.keep ((Keeps.refl (fun _ => False) _).alloc d) (fun _ _ h => h), ?_, ?_, ?_, h4⟩
  · exact (Below.heap_alloc _ d _ (by omega)).trans h1
  · exact (Below.heap_alloc _ d _ (by omega)).trans h2
  · exact (Below.heap_alloc _ d _ (by omega)).trans h3

set_option maxHeartbeats 1000000 in
theorem read_ok (p at_ m : Nat) (D : DS) (F : Nat → Prop) (w : World) (h : Disk w p D F) (hcr : D.cr = false) (hfit : at_ + m ≤ D.now.length) (hD : D.now.length ≤ 65536) :
    Calls Try.prog 14 #[.pointer (some ⟨p, 0, none⟩), .int .i64 at_, .int .i64 m] w fun e w' => ∃ g cap', e = .returned (.tuple #[.slice (some ⟨g, 0, none⟩) m cap', .int .i64 0]) ∧
      w'.ownsRow w.heap.size 5 1 (.slice (some ⟨g, 0, none⟩) m cap') m (BV ((D.now.drop at_).take m)) ∧ Keeps (fun _ => False) w w' := by
  obtain ⟨gn, cn, gs, cs, sl, cl, h, rfl⟩ := h
  have H := Lib.hid (And.intro h hcr)
  clear h hcr
  go_enter Try.func14, Try.ntmps14
  go_wp2_with fail
  have hs := box4 H.out.1 (.cells #[.pointer (some ⟨p, 0, none⟩)] 23) (.cells #[.int .i64 at_] 3) (.cells #[.int .i64 m] 3) (.cells #[.slice none 0 0] 27)
  generalize ((((w.alloc (.cells #[.pointer (some ⟨p, 0, none⟩)] 23)).alloc (.cells #[.int .i64 at_] 3)).alloc (.cells #[.int .i64 m] 3)).alloc (.cells #[.slice none 0 0] 27)) = W at hs
  obtain ⟨hk, hd, b0, b1, b2, b3⟩ := hs
  have q3 := cellAt hd.blk 3
  simp [H.out.2] at q3
  refine (up_do 33 _ p W (fun n w' => n = 0 ∧ ReadPost W (w.heap.size + 1 + 1 + 1) m ((D.now.drop at_).take m) (.returned (.int .i64 0)) w') (fun _ => rfl) q3 ?_).mono ?_
  · refine (read1_ok w.heap.size (w.heap.size + 1) (w.heap.size + 1 + 1) (w.heap.size + 1 + 1 + 1) p at_ m _ D gn cn gs cs sl cl W hd rfl (by simpa using cellAt b0 0) (by simpa using cellAt b1 0) (by simpa using cellAt b2 0) (.slice none 0 0) (by simpa using cellAt b3 0) (freeAt b3 0) (by omega) (by omega) (by omega) (fun hf => by have := H.out.1.foot_lt _ hf; omega) hfit hD).mono ?_
    rintro e w' ⟨rfl, r⟩
    exact ⟨0, rfl, rfl, rfl, r⟩
  · rintro e w' ⟨n, rfl, rfl, _, g, cap', r1, r2, r3⟩
    have HR := Lib.hid (And.intro r1 r3)
    clear r1 r3
    go_wp2
    go_ret2
    refine ⟨g, cap', rfl, own_base HR.out.1 (fun k e => ?_), ?_⟩
    · have h1 := own_lt HR.out.1 rfl
      have h2 := hk.size
      simp [Value.ownBlock] at e
      omega
    · refine hk.trans HR.out.2 (fun k hlt e => ?_)
      omega

set_option maxHeartbeats 1000000 in
theorem read_no (p : Nat) (at_ m : Int) (D : DS) (F : Nat → Prop) (w : World) (h : Disk w p D F) (hcr : D.cr = false) (hi : inB at_ m D.now.length = false) (hD : D.now.length ≤ 65536) :
    Calls Try.prog 14 #[.pointer (some ⟨p, 0, none⟩), .int .i64 at_, .int .i64 m] w fun e w' => e = .returned (.tuple #[.slice none 0 0, .int .i64 8]) ∧ Keeps (fun _ => False) w w' := by
  obtain ⟨gn, cn, gs, cs, sl, cl, h, rfl⟩ := h
  have H := Lib.hid (And.intro h (And.intro hcr hi))
  clear h hcr hi
  go_enter Try.func14, Try.ntmps14
  go_wp2_with fail
  have hs := box4 H.out.1 (.cells #[.pointer (some ⟨p, 0, none⟩)] 23) (.cells #[.int .i64 at_] 3) (.cells #[.int .i64 m] 3) (.cells #[.slice none 0 0] 27)
  generalize ((((w.alloc (.cells #[.pointer (some ⟨p, 0, none⟩)] 23)).alloc (.cells #[.int .i64 at_] 3)).alloc (.cells #[.int .i64 m] 3)).alloc (.cells #[.slice none 0 0] 27)) = W at hs
  obtain ⟨hk, hd, b0, b1, b2, b3⟩ := hs
  have q3 := cellAt hd.blk 3
  simp [H.out.2.1] at q3
  have q4 := cellAt b3 0
  simp at q4
  refine (up_do 33 _ p W (fun n w' => n = 8 ∧ W = w') (fun _ => rfl) q3 ?_).mono ?_
  · refine (read1_no w.heap.size (w.heap.size + 1) (w.heap.size + 1 + 1) (w.heap.size + 1 + 1 + 1) p at_ m D.now.length (some ⟨gn, 0, none⟩) cn W (by simpa using cellAt b0 0) (by simpa using cellAt b1 0) (by simpa using cellAt b2 0) (by simpa using cellAt hd.blk 0) hD H.out.2.2).mono ?_
    rintro e w' ⟨rfl, rfl⟩
    exact ⟨8, rfl, rfl, rfl⟩
  · rintro e w' ⟨n, rfl, rfl, rfl⟩
    go_wp2
    go_ret2
    exact ⟨rfl, hk⟩

theorem read_down (p : Nat) (at_ m : Int) (D : DS) (F : Nat → Prop) (w : World) (h : Disk w p D F) (hcr : D.cr = true) :
    Calls Try.prog 14 #[.pointer (some ⟨p, 0, none⟩), .int .i64 at_, .int .i64 m] w fun e w' => e = .returned (.tuple #[.slice none 0 0, .int .i64 30]) ∧ Keeps (fun _ => False) w w' := by
  obtain ⟨gn, cn, gs, cs, sl, cl, h, rfl⟩ := h
  have H := Lib.hid (And.intro h hcr)
  clear h hcr
  go_enter Try.func14, Try.ntmps14
  go_wp2_with fail
  have hs := box4 H.out.1 (.cells #[.pointer (some ⟨p, 0, none⟩)] 23) (.cells #[.int .i64 at_] 3) (.cells #[.int .i64 m] 3) (.cells #[.slice none 0 0] 27)
  generalize ((((w.alloc (.cells #[.pointer (some ⟨p, 0, none⟩)] 23)).alloc (.cells #[.int .i64 at_] 3)).alloc (.cells #[.int .i64 m] 3)).alloc (.cells #[.slice none 0 0] 27)) = W at hs
  obtain ⟨hk, hd, b0, b1, b2, b3⟩ := hs
  have q3 := cellAt hd.blk 3
  simp [H.out.2] at q3
  have q4 := cellAt b3 0
  simp at q4
  refine (up_no 33 _ p W q3).mono ?_
  rintro e w' ⟨rfl, rfl⟩
  go_wp2
  go_ret2
  exact ⟨rfl, hk⟩
end Go.Proofs.Ytllfiplhfbbhaaa
