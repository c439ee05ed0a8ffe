/-
  disk.New, and the small methods in, Raw, Loose, Size: what each tells. Condition: sizes up to 65536 (others are refused).
-/
import Derived.Test.YtllfiplhfbbhaaaDisk
namespace Go.Proofs.Ytllfiplhfbbhaaa
open Go.RowKit

theorem owns_zeros (w : World) (g n : Nat) (h : w.heap[g]? = some (.cells (madeCells #[.int .u8 0] n) 5 (0, 0))) (hn : n ≤ 65536) :
    w.ownsRow 0 5 1 (.slice (some ⟨g, 0, none⟩) n n) n (BV (List.replicate n 0)) :=
  ⟨by simp, Or.inr ⟨g, n, _, rfl, Nat.zero_le _, h, Nat.le_refl _, by unfold maxLen; omega, by simp [size_madeCells], by
    rw [toList_madeCells_one, Nat.mul_one, List.take_of_length_le (by simp)]; simp [BV]⟩⟩

theorem new_disk (w : World) (n gn gs : Nat) (hn : n ≤ 65536) (hg : (gn = w.heap.size ∧ gs = w.heap.size + 1) ∨ (gn = w.heap.size + 1 ∧ gs = w.heap.size)) :
    ∃ F, Disk (((w.alloc (.cells (madeCells #[.int .u8 0] n) 5)).alloc (.cells (madeCells #[.int .u8 0] n) 5)).alloc
      (.cells #[.slice (some ⟨gn, 0, none⟩) n n, .slice (some ⟨gs, 0, none⟩) n n, .slice none 0 0, .bool false] 64)).drew (w.heap.size + 1 + 1)
      ⟨List.replicate n 0, List.replicate n 0, [], false⟩ F ∧ (∀ k, F k → w.heap.size ≤ k) := by
  refine ⟨_, ⟨gn, n, gs, n, none, 0, ?_, rfl⟩, ?_⟩
  · have h1 : ∀ (a b c : Obj), (((w.alloc a).alloc b).alloc c).drew.heap[w.heap.size]? = some a := fun a b c =>
      (Below.heap_alloc ((w.alloc a).alloc b) c _ (by simp; omega)).trans ((Below.heap_alloc (w.alloc a) b _ (by simp)).trans (heap_alloc_new w a))
    have h2 : ∀ (a b c : Obj), (((w.alloc a).alloc b).alloc c).drew.heap[w.heap.size + 1]? = some b := fun a b c =>
      (Below.heap_alloc ((w.alloc a).alloc b) c _ (by simp)).trans (by simpa using heap_alloc_new (w.alloc a) b)
    have h3 : ∀ (a b c : Obj), (((w.alloc a).alloc b).alloc c).drew.heap[w.heap.size + 1 + 1]? = some c := fun a b c => by
      have h := heap_alloc_new ((w.alloc a).alloc b) c
      rw [show ((w.alloc a).alloc b).heap.size = w.heap.size + 1 + 1 by simp] at h
      exact h
    constructor
    · simpa using h3 _ _ _
    · rcases hg with ⟨rfl, rfl⟩ | ⟨rfl, rfl⟩
      · simpa using owns_zeros _ _ n (h1 _ _ _) hn
      · simpa using owns_zeros _ _ n (h2 _ _ _) hn
    · rcases hg with ⟨rfl, rfl⟩ | ⟨rfl, rfl⟩
      · simpa using owns_zeros _ _ n (h2 _ _ _) hn
      · simpa using owns_zeros _ _ n (h1 _ _ _) hn
    · exact World.ownsRow_nil _ _ _ _
    · omega
  · intro k hk
    simp only [Foot] at hk
    simp at hk
    omega

set_option maxHeartbeats 400000 in
theorem new_ok (n : Nat) (w : World) (hn : n ≤ 65536) :
    Calls Try.prog 11 #[.int .i64 n] w fun e w' => ∃ p F, e = .returned (.tuple #[.pointer (some ⟨p, 0, none⟩), .int .i64 0]) ∧
      Disk w' p ⟨List.replicate n 0, List.replicate n 0, [], false⟩ F ∧ Keeps (fun _ => False) w w' ∧ (∀ k, F k → w.heap.size ≤ k) := by
  obtain ⟨i0, hi, hz0, hz1, hz2⟩ := info_parts infoByte
  have hmk : ∀ u : World, (Instr.makeSlice 27 (.int .i64 (n : Int)) (.int .i64 (n : Int))).run Try.prog u =
      .ok (.slice (some ⟨u.heap.size, 0, none⟩) n n) (u.alloc (.cells (madeCells #[.int .u8 0] n) 5)) := fun u => by
    have h := run_make (P := Try.prog) u 27 5 i0 (.int .u8 0) Try.underlying27 hi hz0 .i64 .i64 (n : Int) (n : Int) (by omega) (Int.le_refl _) (by rw [hz2]; omega) (by omega)
    simpa [hz1, Value.cells] using h
  go_enter Try.func11, Try.ntmps11
  go_wp2
  go_region
  all_goals go_wp2
  all_goals go_ret2
  · obtain ⟨F, h1, h2⟩ := new_disk w n _ _ hn (Or.inl ⟨rfl, rfl⟩)
    exact ⟨_, F, rfl, h1, ((((Keeps.refl _ w).alloc _).alloc _).alloc _).drew, h2⟩
  · obtain ⟨F, h1, h2⟩ := new_disk w n _ _ hn (Or.inr ⟨rfl, rfl⟩)
    exact ⟨_, F, rfl, h1, ((((Keeps.refl _ w).alloc _).alloc _).alloc _).drew, h2⟩

theorem new_bad (n : Int) (w : World) (hn : n < 0 ∨ 65536 < n) :
    Calls Try.prog 11 #[.int .i64 n] w fun e w' => e = .returned (.tuple #[.pointer none, .int .i64 8]) ∧ w = w' := by
  rcases hn with hn | hn
  · go_enter Try.func11, Try.ntmps11
    go_wp2
    go_ret2
    exact ⟨rfl, rfl⟩
  · have h' : ¬ n < 0 := by omega
    go_enter Try.func11, Try.ntmps11
    go_wp2
    go_ret2
    exact ⟨rfl, rfl⟩

/-- Are so many bytes there, from a place on? -/
def inB (at_ n : Int) (len : Nat) : Bool := decide (0 ≤ at_ ∧ 0 ≤ n ∧ at_ ≤ len ∧ n ≤ len - at_)

set_option maxHeartbeats 400000 in
theorem in_any (b : Nat) (at_ n : Int) (a : Option Addr) (len cap : Nat) (w : World) (hl : len ≤ 65536)
   (hc : w.cell? ⟨b, 0, none⟩ = some (.slice a len cap)) :
    Calls Try.prog 34 #[.pointer (some ⟨b, 0, none⟩), .int .i64 at_, .int .i64 n] w fun e w' => e = .returned (.bool (inB at_ n len)) ∧ w = w' := by
  by_cases h1 : 0 ≤ at_
  · by_cases h2 : 0 ≤ n
    · by_cases h3 : at_ ≤ len
      · by_cases h4 : n ≤ len - at_
        · have H : Hid (inB at_ n len = true) := by show _ = _; unfold inB; simp; omega
          go_enter Try.func34, Try.ntmps34
          go_wp2
          go_ret
          exact ⟨by rw [H.out]; rfl, rfl⟩
        · have H : Hid (inB at_ n len = false) := by show _ = _; unfold inB; simp; omega
          go_enter Try.func34, Try.ntmps34
          go_wp2
          go_ret
          exact ⟨by rw [H.out]; rfl, rfl⟩
      · have H : Hid (inB at_ n len = false) := by show _ = _; unfold inB; simp; omega
        go_enter Try.func34, Try.ntmps34
        go_wp2
        go_ret
        exact ⟨by rw [H.out]; rfl, rfl⟩
    · have H : Hid (inB at_ n len = false) := by show _ = _; unfold inB; simp; omega
      go_enter Try.func34, Try.ntmps34
      go_wp2
      go_ret
      exact ⟨by rw [H.out]; rfl, rfl⟩
  · have H : Hid (inB at_ n len = false) := by show _ = _; unfold inB; simp; omega
    go_enter Try.func34, Try.ntmps34
    go_wp2
    go_ret
    exact ⟨by rw [H.out]; rfl, rfl⟩

theorem raw_any (p : Nat) (D : DS) (F : Nat → Prop) (w : World) (h : Disk w p D F) (hl : D.now.length ≤ 65536) :
    Calls Try.prog 20 #[.pointer (some ⟨p, 0, none⟩)] w fun e w' => ∃ g cap', e = .returned (.slice (some ⟨g, 0, none⟩) D.now.length cap') ∧
      w'.ownsRow w.heap.size 5 1 (.slice (some ⟨g, 0, none⟩) D.now.length cap') D.now.length (BV D.now) ∧ Keeps (fun _ => False) w w' := by
  obtain ⟨gn, cn, gs, cs, sl, cl, h, _⟩ := h
  have c0 := cellAt h.blk 0
  simp at c0
  have Hs : Hid (∀ (j : Nat) (c : UInt8), D.now[j]? = some c → w.cell? ((⟨gn, 0, none⟩ : Addr).add j) = some (.int .u8 c.toNat)) := fun j c hc => by
    rw [addr_add, Nat.zero_add]; exact own_cell h.now j _ (by rw [BV_get, hc]; rfl)
  have H := Lib.hid h
  clear h
  go_enter Try.func20, Try.ntmps20
  go_wp2_with fail
  refine (clone_some ⟨gn, 0, none⟩ _ cn D.now _ rfl (by omega) Hs.out).mono ?_
  rintro e w' ⟨g, cap', rfl, hown, hk⟩
  go_wp2
  go_ret
  exact ⟨g, cap', rfl, hown, hk⟩

theorem loose_any (p : Nat) (D : DS) (F : Nat → Prop) (w : World) (h : Disk w p D F) :
    Calls Try.prog 21 #[.pointer (some ⟨p, 0, none⟩)] w fun e w' => e = .returned (.int .i64 D.lo.length) ∧ w = w' := by
  obtain ⟨gn, cn, gs, cs, sl, cl, h, _⟩ := h
  have c0 := cellAt h.blk 2
  simp at c0
  have H := Lib.hid h
  clear h
  go_enter Try.func21, Try.ntmps21
  go_wp2
  go_ret
  exact ⟨rfl, rfl⟩

theorem size_any (p : Nat) (D : DS) (F : Nat → Prop) (w : World) (h : Disk w p D F) :
    Calls Try.prog 22 #[.pointer (some ⟨p, 0, none⟩)] w fun e w' => e = .returned (.int .i64 D.now.length) ∧ w = w' := by
  obtain ⟨gn, cn, gs, cs, sl, cl, h, _⟩ := h
  have c0 := cellAt h.blk 0
  simp at c0
  have H := Lib.hid h
  clear h
  go_enter Try.func22, Try.ntmps22
  go_wp2
  go_ret
  exact ⟨rfl, rfl⟩
end Go.Proofs.Ytllfiplhfbbhaaa
