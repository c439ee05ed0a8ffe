/-
  A secret (the reference's Secret). Conditions: as for the program's.
-/
import Derived.Test.YtnnhndnckpnkmaaRefOf
import Derived.Test.YtnnhndnckpnkmaaSecret
namespace Go.Proofs.Ytnnhndnckpnkmaa
open Go.RowKit

theorem refSecret_any (s : ByteArray) (sa : Option Addr) (n cap : Nat) (l : List Nat) (w : World) (hs : s.size ≤ 1000000000) (hn : n ≤ 1000000000) (hl : Sl w sa n cap (NV l)) (hu : ∀ x ∈ l, U64 x) :
    Calls Try.prog 31 #[.string s, .slice sa n cap] w fun e w' => e = .returned (.int .u64 (hsec s.data.toList l : Int)) ∧ Keeps (fun _ => False) w w' := by
  have HT := Lib.hid (refOf_any s sa n cap l w hs hn hl hu)
  have hx : hsec s.data.toList l = 1 + hof s.data.toList l % 2305843009213693949 := rfl
  have hlt := hof_lt s.data.toList l
  generalize hof s.data.toList l = x at *
  obtain ⟨y, hy⟩ : ∃ y, x % 2305843009213693949 = y := ⟨_, rfl⟩
  have e1 : (x : Int) % 2305843009213693949 = (y : Int) := by omega
  have e2 : IntKind.u64.wrap (1 + (y : Int)) = ((1 + y : Nat) : Int) := by rw [IntKind.wrap_u64]; omega
  rw [hy] at hx
  have HX := Lib.hid hx
  clear hx hl hu hlt hy
  go_enter Try.func31, Try.ntmps31
  go_wp2_with fail
  refine HT.out.mono ?_
  rintro e w1 ⟨rfl, hk⟩
  have HK := Lib.hid hk
  clear hk HT
  go_wp2
  go_ret
  exact ⟨by rw [HX.out]; rfl, HK.out⟩
end Go.Proofs.Ytnnhndnckpnkmaa
