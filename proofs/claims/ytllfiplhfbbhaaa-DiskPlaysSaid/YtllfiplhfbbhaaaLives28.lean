/-
  The laws' own example (lives): it returns true. No conditions.
-/
import Derived.Test.YtllfiplhfbbhaaaPlayed
import Derived.Lib.SlBytesConst
namespace Go.Proofs.Ytllfiplhfbbhaaa
open Go.RowKit

/-- Bytes as a string. -/
def strOf (l : List UInt8) : ByteArray := ⟨l.toArray⟩

theorem foldl_push (l : List UInt8) (s : ByteArray) : (l.map fun c => (c.toNat : Int)).foldl (fun r n => r.push (UInt8.ofNat n.toNat)) s = ⟨s.data ++ l.toArray⟩ := by
  induction l generalizing s with
  | nil => simp
  | cons c l ih =>
    simp only [List.map_cons, List.foldl_cons]
    rw [ih]
    simp [ByteArray.push]

theorem run_str {w : World} {base n c : Nat} {sa : Option Addr} {l : List UInt8} (hown : w.ownsRow base 5 1 (.slice sa n c) n (BV l)) :
    (convert 27 9 (.slice sa n c)).run Try.prog w = .ok (.string (strOf l)) w := by
  rw [run_convert_bytes_string w 27 9 5 sa n c Try.underlying27 Try.underlying5 Try.underlying9]
  have hl : l.length = n := by have := hown.1; simpa using this
  rcases own_addr hown with ⟨rfl, rfl, rfl⟩ | ⟨g, rfl⟩
  · obtain rfl : l = [] := List.eq_nil_of_length_eq_zero hl
    rfl
  · have h : (loadCells ⟨g, 0, none⟩ n).run Try.prog w = .ok ((l.map fun c => (c.toNat : Int)).map (Value.int .u8)).toArray w := by
      have := run_firstCells_some (P := Try.prog) w 1 n ⟨g, 0, none⟩ n c (BV l) (by simp [hl]) (fun j u hu => by rw [addr_add, Nat.zero_add]; exact own_cell hown j u hu)
      simp only [Builtin.firstCells, Nat.mul_one] at this
      rw [this]
      simp [BV]
    rw [run_bytesToString w ⟨g, 0, none⟩ n c _ h, foldl_push]
    simp [strOf]

theorem lit_src (w : World) (l : List UInt8) (fr : Nat × Nat) (j : Nat) (c : UInt8) (h : l[j]? = some c) : (w.alloc (.cells (BV l).toArray 5 fr)).cell? ⟨w.heap.size, 0 + j, none⟩ = some (.int .u8 c.toNat) := by
  rw [cellAt (heap_alloc_new w _), Nat.zero_add]
  simp only [List.getElem?_toArray]
  rw [BV_get, h]
  rfl

def L1 : DS := (D0 4).write 1 [97, 98]
def L2 : DS := L1.sync
def L3 : DS := L2.write 0 [120, 121, 122]
def L4 : DS := L3.crash 2

set_option maxHeartbeats 1000000 in
theorem lives_any (w : World) : Calls Try.prog 23 #[] w fun e w' => e = .returned (.bool true) ∧ Keeps (fun _ => False) w w' := by
  have hstr : Hid (∀ (w : World) (base c : Nat) (sa : Option Addr), w.ownsRow base 5 1 (.slice sa 4 c) 4 (BV L4.now) → (convert 27 9 (.slice sa 4 c)).run Try.prog w = .ok (.string ⟨#[120, 121, 98, 0]⟩) w) := fun w base c sa h => run_str h
  have kc := fun (w : World) (C : Array Value) (n c : Nat) => Lib.run_convert_bytes_const (P := Try.prog) w 27 5 C n c Try.underlying27 Try.underlying5
  go_enter Try.func23, Try.ntmps23
  go_wp2_with fail
  refine (new_ok 4 w (by omega)).mono ?_
  rintro e w1 ⟨p, F1, rfl, hd, hk, hf⟩
  have H1 := Lib.hid (And.intro hd (And.intro hk hf))
  clear hd hk hf
  go_wp2_with fail
  refine (write_ok p 1 [97, 98] 2 _ w1.heap.size 0 2 (D0 4) F1 _ (H1.out.1.keep ((Keeps.refl (fun _ => False) w1).alloc _) (fun _ _ h => h)) rfl rfl (fun _ => rfl) (lit_src w1 [97, 98] (2, 3)) (fun _ hf => Nat.lt_irrefl _ (H1.out.1.foot_lt _ hf)) (by decide) (by decide) (by decide)).mono ?_
  rintro e w2 ⟨rfl, F2, hd, hk, hf⟩
  have H2 : Hid (Disk w2 p L1 F2 ∧ Keeps F1 w1 w2) := ⟨hd, ((Keeps.refl _ w1).alloc _).trans hk (fun _ _ h => h)⟩
  have H2F : Hid (∀ k, F2 k → w.heap.size ≤ k) := fun k h => by
    rcases hf k h with h | h
    · exact H1.out.2.2 k h
    · have := H1.out.2.1.size; simp at h; omega
  clear hd hk hf
  go_wp2_with fail
  refine (sync_ok p L1 F2 _ H2.out.1 rfl).mono ?_
  rintro e w3 ⟨rfl, F3, hd, hk, hf⟩
  have H3 : Hid (Disk w3 p L2 F3 ∧ Keeps F2 w2 w3) := ⟨hd, hk⟩
  have hs2 : w.heap.size ≤ w2.heap.size := Nat.le_trans H1.out.2.1.size H2.out.2.size
  have H3F : Hid (∀ k, F3 k → w.heap.size ≤ k) := fun k h => by
    rcases hf k h with h | h
    · exact H2F.out k h
    · omega
  clear hd hk hf
  go_wp2_with fail
  refine (write_ok p 0 [120, 121, 122] 3 _ w3.heap.size 0 3 L2 F3 _ (H3.out.1.keep ((Keeps.refl (fun _ => False) w3).alloc _) (fun _ _ h => h)) rfl rfl (fun _ => rfl) (lit_src w3 [120, 121, 122] (3, 4)) (fun _ hf => Nat.lt_irrefl _ (H3.out.1.foot_lt _ hf)) (by decide) (by decide) (by decide)).mono ?_
  rintro e w4 ⟨rfl, F4, hd, hk, hf⟩
  have hs3 : w.heap.size ≤ w3.heap.size := Nat.le_trans hs2 H3.out.2.size
  have H4 : Hid (Disk w4 p L3 F4 ∧ Keeps F3 w3 w4) := ⟨hd, ((Keeps.refl _ w3).alloc _).trans hk (fun _ _ h => h)⟩
  have H4F : Hid (∀ k, F4 k → w.heap.size ≤ k) := fun k h => by
    rcases hf k h with h | h
    · exact H3F.out k h
    · simp at h; omega
  clear hd hk hf
  go_wp2_with fail
  refine (loose_any p L3 F4 _ H4.out.1).mono ?_
  rintro e w4' ⟨rfl, rfl⟩
  go_wp2_with fail
  refine (crash_ok p 2 L3 F4 _ H4.out.1 rfl (by decide) (by decide)).mono ?_
  rintro e w5 ⟨rfl, F5, hd, hk, hf⟩
  have hs4 : w.heap.size ≤ w4.heap.size := Nat.le_trans hs3 H4.out.2.size
  have H5 : Hid (Disk w5 p L4 F5 ∧ Keeps F4 w4 w5) := ⟨hd, hk⟩
  clear hd hk hf
  go_wp2_with fail
  refine (raw_any p L4 F5 _ H5.out.1 (by decide)).mono ?_
  rintro e w6 ⟨g, cap6, rfl, hown, hk⟩
  have hs6 := hstr.out _ _ _ _ hown
  have H6 : Hid (Disk w6 p L4 F5 ∧ Keeps (fun _ => False) w5 w6) := ⟨H5.out.1.keep hk (fun _ _ h => h), hk⟩
  clear hown hk
  have e3 : ((L3.lo.length : Int) == 3) = true := by decide
  have e4 : L4.now.length = 4 := by decide
  rw [e4]
  go_wp2_with fail
  refine (size_any p L4 F5 _ H6.out.1).mono ?_
  rintro e w7 ⟨rfl, rfl⟩
  go_wp2_with fail
  go_ret
  refine ⟨rfl, ?_⟩
  have k1 := H1.out.2.1
  have k2 := k1.trans H2.out.2 (fun k hk h => by have := H1.out.2.2 k h; omega)
  have k3 := k2.trans H3.out.2 (fun k hk h => by have := H2F.out k h; omega)
  have k4 := k3.trans H4.out.2 (fun k hk h => by have := H3F.out k h; omega)
  have k5 := k4.trans H5.out.2 (fun k hk h => by have := H4F.out k h; omega)
  exact k5.trans H6.out.2 (fun k hk h => h)
end Go.Proofs.Ytllfiplhfbbhaaa
