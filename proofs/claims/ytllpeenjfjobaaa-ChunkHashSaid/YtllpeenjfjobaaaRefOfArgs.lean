/-
  The reference's sum of a few numbers that a call lays for itself. Conditions: as for hash.Of.
-/
import Derived.Test.YtllpeenjfjobaaaOfArgs
import Derived.Test.YtllpeenjfjobaaaRefOf
namespace Go.Proofs.Ytllpeenjfjobaaa
open Go.RowKit
theorem refOf_one (s : ByteArray) (x : Nat) (w : World) (hs : s.size ≤ 1000000000) (hx : U64 x) :
    Calls Try.prog 26 #[.string s, .slice (some ⟨w.heap.size, 0, none⟩) 1 1] (w.alloc (.cells #[.int .u64 (x : Int)] 38)) fun e w' => e = .returned (.int .u64 (hof s.data.toList [x] : Int)) ∧ Keeps (fun _ => False) w w' :=
  (refOf_any s _ 1 1 [x] _ hs (by omega) (lies_one w x (0, 0)) (by simpa using hx)).mono fun _ _ ⟨h1, h2⟩ => ⟨h1, ((Keeps.refl _ w).alloc _).trans h2 (fun _ _ h => h)⟩
theorem refOf_three (s : ByteArray) (x y z : Nat) (w : World) (hs : s.size ≤ 1000000000) (hx : U64 x) (hy : U64 y) (hz : U64 z) :
    Calls Try.prog 26 #[.string s, .slice (some ⟨w.heap.size, 0, none⟩) 3 3] (w.alloc (.cells #[.int .u64 (x : Int), .int .u64 (y : Int), .int .u64 (z : Int)] 38)) fun e w' => e = .returned (.int .u64 (hof s.data.toList [x, y, z] : Int)) ∧ Keeps (fun _ => False) w w' :=
  (refOf_any s _ 3 3 [x, y, z] _ hs (by omega) (lies_three w x y z (0, 0)) (by simp [hx, hy, hz])).mono fun _ _ ⟨h1, h2⟩ => ⟨h1, ((Keeps.refl _ w).alloc _).trans h2 (fun _ _ h => h)⟩
end Go.Proofs.Ytllpeenjfjobaaa
