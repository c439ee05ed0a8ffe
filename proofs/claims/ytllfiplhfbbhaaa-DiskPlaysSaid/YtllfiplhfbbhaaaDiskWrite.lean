/-
  A disk's Write: where the bytes are in, where they are not, and behind a crash. Conditions: sizes up to 65536, at most a million loose bytes.
-/
import Derived.Test.YtllfiplhfbbhaaaDiskWrite1
namespace Go.Proofs.Ytllfiplhfbbhaaa
open Go.RowKit

theorem up_do (f : FuncId) (caps : Array Value) (p : Nat) (w : World) (R : Int → World → Prop) (hf : ∀ w, (callFunc f caps).run Try.prog w = .ok (.enter f caps) w) (hc : w.cell? ⟨p, 3, none⟩ = some (.bool false))
    (h : Calls Try.prog f caps w fun e w' => ∃ n, e = .returned (.int .i64 n) ∧ R n w') :
    Calls Try.prog 32 #[.pointer (some ⟨p, 0, none⟩), .func (.func f) #[] caps] w fun e w' => ∃ n, e = .returned (.int .i64 n) ∧ R n w' := by
  have H := Lib.hid h
  clear h
  go_enter Try.func32, Try.ntmps32
  go_wp2_with fail
  refine H.out.mono ?_
  rintro e w' ⟨n, rfl, hr⟩
  go_wp2
  go_ret
  exact ⟨n, rfl, hr⟩
theorem up_no (f : FuncId) (caps : Array Value) (p : Nat) (w : World) (hc : w.cell? ⟨p, 3, none⟩ = some (.bool true)) :
    Calls Try.prog 32 #[.pointer (some ⟨p, 0, none⟩), .func (.func f) #[] caps] w fun e w' => e = .returned (.int .i64 30) ∧ w = w' := by
  go_enter Try.func32, Try.ntmps32
  go_wp2_with fail
  go_ret
  exact ⟨rfl, rfl⟩

theorem box3 {w : World} {p : Nat} {D : DS} {gn cn gs cs : Nat} {sl : Option Addr} {cl : Nat} (h : DiskAt w p D gn cn gs cs sl cl) (a b c : Obj) :
    Keeps (fun _ => False) w (((w.alloc a).alloc b).alloc c) ∧ DiskAt (((w.alloc a).alloc b).alloc c) p D gn cn gs cs sl cl ∧ (((w.alloc a).alloc b).alloc c).heap[w.heap.size]? = some a ∧
      (((w.alloc a).alloc b).alloc c).heap[w.heap.size + 1]? = some b ∧ (((w.alloc a).alloc b).alloc c).heap[w.heap.size + 1 + 1]? = some c := by
  have hk : Keeps (fun _ => False) w (((w.alloc a).alloc b).alloc c) := (((Keeps.refl _ w).alloc a).alloc b).alloc c
  refine ⟨hk, h.keep hk (fun _ _ h => h), ?_, ?_, ?_⟩
  · exact (Below.heap_alloc ((w.alloc a).alloc b) c _ (by simp; omega)).trans ((Below.heap_alloc (w.alloc a) b _ (by simp)).trans (heap_alloc_new w a))
  · exact (Below.heap_alloc ((w.alloc a).alloc b) c _ (by simp)).trans (by simpa using heap_alloc_new (w.alloc a) b)
  · have h := heap_alloc_new ((w.alloc a).alloc b) c
    rw [show ((w.alloc a).alloc b).heap.size = w.heap.size + 1 + 1 by simp] at h
    exact h

set_option maxHeartbeats 1000000 in
theorem write_ok (p at_ : Nat) (l : List UInt8) (m : Nat) (sa : Option Addr) (sb so scap : Nat) (D : DS) (F : Nat → Prop) (w : World)
    (h : Disk w p D F) (hcr : D.cr = false) (hm : l.length = m)
    (hsa : 0 < m → sa = some ⟨sb, so, none⟩) (hsrc : ∀ j c, l[j]? = some c → w.cell? ⟨sb, so + j, none⟩ = some (.int .u8 c.toNat)) (nb : 0 < m → ¬ F sb)
    (hfit : at_ + m ≤ D.now.length) (hD : D.now.length ≤ 65536) (hlo : D.lo.length ≤ 1000000) :
    Calls Try.prog 27 #[.pointer (some ⟨p, 0, none⟩), .int .i64 at_, .slice sa m scap] w fun e w' => e = .returned (.int .i64 0) ∧
      ∃ F', Disk w' p (D.write at_ l) F' ∧ Keeps F w w' ∧ (∀ k, F' k → F k ∨ w.heap.size ≤ k) := by
  obtain ⟨gn, cn, gs, cs, sl, cl, h, rfl⟩ := h
  have H := Lib.hid (And.intro h (And.intro hm (And.intro hsa (And.intro hsrc (And.intro nb hcr)))))
  clear h hm hsa hsrc nb hcr
  go_enter Try.func27, Try.ntmps27
  go_wp2_with fail
  have hs := box3 H.out.1 (.cells #[.pointer (some ⟨p, 0, none⟩)] 23) (.cells #[.int .i64 at_] 3) (.cells #[.slice sa m scap] 27)
  generalize (((w.alloc (.cells #[.pointer (some ⟨p, 0, none⟩)] 23)).alloc (.cells #[.int .i64 at_] 3)).alloc (.cells #[.slice sa m scap] 27)) = W at hs
  obtain ⟨hk, hd, b0, b1, b2⟩ := hs
  obtain ⟨_, e1, e2, e3, e4, e5⟩ := H.out
  have q3 := cellAt hd.blk 3
  simp [e5] at q3
  refine (up_do 38 _ p W (fun n w' => n = 0 ∧ ∃ sl' cl', DiskAt w' p (D.write at_ l) gn cn gs cs sl' cl' ∧ Keeps (Foot p gn gs sl) W w' ∧ (∀ k, sl' = some ⟨k, 0, none⟩ → sl = some ⟨k, 0, none⟩ ∨ W.heap.size ≤ k)) (fun _ => rfl) q3 ?_).mono ?_
  · refine (write1_ok w.heap.size (w.heap.size + 1) (w.heap.size + 1 + 1) p at_ l _ sa sb so scap D gn cn gs cs sl cl W hd rfl ?_ ?_ m e1 ?_ e2 ?_ ?_ ?_ ?_ e4 hfit hD hlo).mono ?_
    · simpa using cellAt b0 0
    · simpa using cellAt b1 0
    · simpa using cellAt b2 0
    · exact fun j c hc => (hk.cell (World.block_lt_of_cell? w _ (e3 j c hc)) (fun h => h)).trans (e3 j c hc)
    · exact fun hf => Nat.lt_irrefl _ (H.out.1.foot_lt _ hf)
    · exact fun hf => by have := H.out.1.foot_lt _ hf; omega
    · exact fun hf => by have := H.out.1.foot_lt _ hf; omega
    · rintro e w' ⟨rfl, r⟩
      exact ⟨0, rfl, rfl, r⟩
  · rintro e w' ⟨n, rfl, rfl, sl', cl', r1, r2, r3⟩
    go_wp2
    go_ret
    refine ⟨rfl, _, ⟨gn, cn, gs, cs, sl', cl', r1, rfl⟩, (hk.mono (fun _ _ h => h.elim)).trans r2 (fun _ _ h => h), fun k hf => ?_⟩
    rcases hf with hf | hf | hf | hf
    · exact Or.inl (Or.inl hf)
    · exact Or.inl (Or.inr (Or.inl hf))
    · exact Or.inl (Or.inr (Or.inr (Or.inl hf)))
    · rcases r3 k hf with h' | h'
      · exact Or.inl (Or.inr (Or.inr (Or.inr h')))
      · right; have := hk.size; omega

theorem write_down (p : Nat) (at_ : Int) (sa : Option Addr) (m scap : Nat) (D : DS) (F : Nat → Prop) (w : World) (h : Disk w p D F) (hcr : D.cr = true) :
    Calls Try.prog 27 #[.pointer (some ⟨p, 0, none⟩), .int .i64 at_, .slice sa m scap] w fun e w' => e = .returned (.int .i64 30) ∧ Keeps (fun _ => False) w w' := by
  obtain ⟨gn, cn, gs, cs, sl, cl, h, rfl⟩ := h
  have H := Lib.hid (And.intro h hcr)
  clear h hcr
  go_enter Try.func27, Try.ntmps27
  go_wp2_with fail
  have hs := box3 H.out.1 (.cells #[.pointer (some ⟨p, 0, none⟩)] 23) (.cells #[.int .i64 at_] 3) (.cells #[.slice sa m scap] 27)
  generalize (((w.alloc (.cells #[.pointer (some ⟨p, 0, none⟩)] 23)).alloc (.cells #[.int .i64 at_] 3)).alloc (.cells #[.slice sa m scap] 27)) = W at hs
  obtain ⟨hk, hd, b0, b1, b2⟩ := hs
  have q3 := cellAt hd.blk 3
  simp [H.out.2] at q3
  refine (up_no 38 _ p W q3).mono ?_
  rintro e w' ⟨rfl, rfl⟩
  go_wp2
  go_ret
  exact ⟨rfl, hk⟩

theorem in_no (b : Nat) (at_ n : Int) (a : Option Addr) (len cap : Nat) (w : World) (hl : len ≤ 65536)
   (hc : w.cell? ⟨b, 0, none⟩ = some (.slice a len cap)) (h : inB at_ n len = false) :
    Calls Try.prog 34 #[.pointer (some ⟨b, 0, none⟩), .int .i64 at_, .int .i64 n] w fun e w' => e = .returned (.bool false) ∧ w = w' := by
  rw [← h]; exact in_any b at_ n a len cap w hl hc

theorem write1_no (c0 c1 c2 p : Nat) (at_ : Int) (m n : Nat) (sa a : Option Addr) (scap cn : Nat) (w : World)
    (k0 : w.cell? ⟨c0, 0, none⟩ = some (.pointer (some ⟨p, 0, none⟩))) (k1 : w.cell? ⟨c1, 0, none⟩ = some (.int .i64 at_)) (k2 : w.cell? ⟨c2, 0, none⟩ = some (.slice sa m scap))
    (q0 : w.cell? ⟨p, 0, none⟩ = some (.slice a n cn)) (hD : n ≤ 65536) (hi : inB at_ m n = false) :
    Calls Try.prog 38 #[.pointer (some ⟨c0, 0, none⟩), .pointer (some ⟨c1, 0, none⟩), .pointer (some ⟨c2, 0, none⟩)] w fun e w' => e = .returned (.int .i64 8) ∧ w = w' := by
  have HI := Lib.hid hi
  clear hi
  go_enter Try.func38, Try.ntmps38
  go_wp2_with fail
  refine (in_no p at_ m _ n cn _ hD q0 HI.out).mono ?_
  rintro e w' ⟨rfl, rfl⟩
  go_wp2_with fail
  go_ret
  exact ⟨rfl, rfl⟩

theorem write_no (p : Nat) (at_ : Int) (m : Nat) (sa : Option Addr) (scap : Nat) (D : DS) (F : Nat → Prop) (w : World) (h : Disk w p D F) (hcr : D.cr = false) (hD : D.now.length ≤ 65536) (hi : inB at_ m D.now.length = false) :
    Calls Try.prog 27 #[.pointer (some ⟨p, 0, none⟩), .int .i64 at_, .slice sa m scap] w fun e w' => e = .returned (.int .i64 8) ∧ Keeps (fun _ => False) w w' := by
  obtain ⟨gn, cn, gs, cs, sl, cl, h, rfl⟩ := h
  have H := Lib.hid (And.intro h (And.intro hcr hi))
  clear h hcr hi
  go_enter Try.func27, Try.ntmps27
  go_wp2_with fail
  have hs := box3 H.out.1 (.cells #[.pointer (some ⟨p, 0, none⟩)] 23) (.cells #[.int .i64 at_] 3) (.cells #[.slice sa m scap] 27)
  generalize (((w.alloc (.cells #[.pointer (some ⟨p, 0, none⟩)] 23)).alloc (.cells #[.int .i64 at_] 3)).alloc (.cells #[.slice sa m scap] 27)) = W at hs
  obtain ⟨hk, hd, b0, b1, b2⟩ := hs
  have q3 := cellAt hd.blk 3
  simp [H.out.2.1] at q3
  refine (up_do 38 _ p W (fun n w' => n = 8 ∧ W = w') (fun _ => rfl) q3 ?_).mono ?_
  · refine (write1_no w.heap.size (w.heap.size + 1) (w.heap.size + 1 + 1) p at_ m D.now.length sa (some ⟨gn, 0, none⟩) scap cn W (by simpa using cellAt b0 0) (by simpa using cellAt b1 0) (by simpa using cellAt b2 0) (by simpa using cellAt hd.blk 0) hD H.out.2.2).mono ?_
    rintro e w' ⟨rfl, rfl⟩
    exact ⟨8, rfl, rfl, rfl⟩
  · rintro e w' ⟨n, rfl, rfl, rfl⟩
    go_wp2
    go_ret
    exact ⟨rfl, hk⟩
end Go.Proofs.Ytllfiplhfbbhaaa
