/-
  Rows of a few numbers that a call lays for itself, and the sum of such. Conditions: as for hash.Of.
-/
import Derived.Test.YtllpeenjfjobaaaOf
namespace Go.Proofs.Ytllpeenjfjobaaa
open Go.RowKit

theorem lies_one (w : World) (x : Int) (fr : Nat × Nat) : Sl (w.alloc (.cells #[.int .u64 x] 38 fr)) (some ⟨w.heap.size, 0, none⟩) 1 1 [.int .u64 x] :=
  ⟨rfl, Nat.le_refl _, by omega, fun h => by simp at h, fun _ ad e => ⟨_, _, by cases e; rfl⟩, fun ad e j u hu => by
    cases e
    rw [addr_add, Nat.zero_add, cellAt (World.alloc_heap_new w _)]
    simpa using hu⟩

theorem of_one (s : ByteArray) (x : Nat) (w : World) (hs : s.size ≤ 1000000000) (hx : U64 x) :
    Calls Try.prog 21 #[.string s, .slice (some ⟨w.heap.size, 0, none⟩) 1 1] (w.alloc (.cells #[.int .u64 (x : Int)] 38)) fun e w' => e = .returned (.int .u64 (hof s.data.toList [x] : Int)) ∧ Keeps (fun _ => False) w w' :=
  (of_any s _ 1 1 [x] _ hs (by omega) (lies_one w x (0, 0)) (by simpa using hx)).mono fun _ _ ⟨h1, h2⟩ => ⟨h1, ((Keeps.refl _ w).alloc _).trans h2 (fun _ _ h => h)⟩

theorem lies_two (w : World) (x y : Int) (fr : Nat × Nat) : Sl (w.alloc (.cells #[.int .u64 x, .int .u64 y] 38 fr)) (some ⟨w.heap.size, 0, none⟩) 2 2 [.int .u64 x, .int .u64 y] :=
  ⟨rfl, Nat.le_refl _, by omega, fun h => by simp at h, fun _ ad e => ⟨_, _, by cases e; rfl⟩, fun ad e j u hu => by
    cases e
    rw [addr_add, Nat.zero_add, cellAt (World.alloc_heap_new w _)]
    simpa using hu⟩
theorem lies_three (w : World) (x y z : Int) (fr : Nat × Nat) : Sl (w.alloc (.cells #[.int .u64 x, .int .u64 y, .int .u64 z] 38 fr)) (some ⟨w.heap.size, 0, none⟩) 3 3 [.int .u64 x, .int .u64 y, .int .u64 z] :=
  ⟨rfl, Nat.le_refl _, by omega, fun h => by simp at h, fun _ ad e => ⟨_, _, by cases e; rfl⟩, fun ad e j u hu => by
    cases e
    rw [addr_add, Nat.zero_add, cellAt (World.alloc_heap_new w _)]
    simpa using hu⟩
theorem lies_four (w : World) (x y z u : Int) (fr : Nat × Nat) : Sl (w.alloc (.cells #[.int .u64 x, .int .u64 y, .int .u64 z, .int .u64 u] 38 fr)) (some ⟨w.heap.size, 0, none⟩) 4 4 [.int .u64 x, .int .u64 y, .int .u64 z, .int .u64 u] :=
  ⟨rfl, Nat.le_refl _, by omega, fun h => by simp at h, fun _ ad e => ⟨_, _, by cases e; rfl⟩, fun ad e j v hu => by
    cases e
    rw [addr_add, Nat.zero_add, cellAt (World.alloc_heap_new w _)]
    simpa using hu⟩
theorem of_two (s : ByteArray) (x y : Nat) (w : World) (hs : s.size ≤ 1000000000) (hx : U64 x) (hy : U64 y) :
    Calls Try.prog 21 #[.string s, .slice (some ⟨w.heap.size, 0, none⟩) 2 2] (w.alloc (.cells #[.int .u64 (x : Int), .int .u64 (y : Int)] 38)) fun e w' => e = .returned (.int .u64 (hof s.data.toList [x, y] : Int)) ∧ Keeps (fun _ => False) w w' :=
  (of_any s _ 2 2 [x, y] _ hs (by omega) (lies_two w x y (0, 0)) (by simp [hx, hy])).mono fun _ _ ⟨h1, h2⟩ => ⟨h1, ((Keeps.refl _ w).alloc _).trans h2 (fun _ _ h => h)⟩
theorem of_three (s : ByteArray) (x y z : Nat) (w : World) (hs : s.size ≤ 1000000000) (hx : U64 x) (hy : U64 y) (hz : U64 z) :
    Calls Try.prog 21 #[.string s, .slice (some ⟨w.heap.size, 0, none⟩) 3 3] (w.alloc (.cells #[.int .u64 (x : Int), .int .u64 (y : Int), .int .u64 (z : Int)] 38)) fun e w' => e = .returned (.int .u64 (hof s.data.toList [x, y, z] : Int)) ∧ Keeps (fun _ => False) w w' :=
  (of_any s _ 3 3 [x, y, z] _ hs (by omega) (lies_three w x y z (0, 0)) (by simp [hx, hy, hz])).mono fun _ _ ⟨h1, h2⟩ => ⟨h1, ((Keeps.refl _ w).alloc _).trans h2 (fun _ _ h => h)⟩
end Go.Proofs.Ytllpeenjfjobaaa
