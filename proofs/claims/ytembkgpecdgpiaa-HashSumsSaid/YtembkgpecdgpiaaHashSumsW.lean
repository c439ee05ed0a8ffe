/-
  The law HashSums: the walk. Conditions: the arguments are what came in.
-/
import Derived.Test.YtembkgpecdgpiaaLives02
import Derived.Test.YtembkgpecdgpiaaRefOf
import Derived.Test.YtembkgpecdgpiaaShort
import Derived.Test.YtembkgpecdgpiaaNums
import Derived.Test.YtembkgpecdgpiaaOpen
namespace Go.Proofs.Ytembkgpecdgpiaa
open Go.RowKit

set_option maxHeartbeats 1000000 in
theorem hashSums_walk (s : ByteArray) (sa : Option Addr) (n cap : Nat) (l : List Nat) (w : World) (hl : Sl w sa n cap (NV l)) (hu : ∀ x ∈ l, U64 x) :
    Calls Try.prog 3 #[.string s, .slice sa n cap] w fun e w' => e = .returned (.bool true) ∧ Keeps (fun _ => False) w w' := by
  have HL := Lib.hid (And.intro hl hu)
  clear hl hu
  go_enter Try.func3, Try.ntmps3
  go_wp2_with fail
  refine (short_any s 20 w).mono ?_
  rintro e _ ⟨rfl, rfl⟩
  have hsz := shortOf_size s 20
  generalize shortOf s 20 = t at *
  go_wp2_with fail
  refine (nums_any sa n cap 6 l w HL.out.1 (by omega)).mono ?_
  rintro e w1 ⟨sb, cb, rfl, hown, hk⟩
  have hu2 : ∀ x ∈ l.take 6, U64 x := fun x hx => HL.out.2 x (List.mem_of_mem_take hx)
  have hnl : (l.take 6).length ≤ 6 := by rw [List.length_take]; omega
  generalize l.take 6 = ns at *
  have H1 := Lib.hid (And.intro (Sl.of_own hown) (And.intro hk hu2))
  clear hown hk hu2
  generalize ns.length = m at *
  obtain ⟨x1, hx1⟩ : ∃ x1, hof t.data.toList ns = x1 := ⟨_, rfl⟩
  obtain ⟨x2, hx2⟩ : ∃ x2, hof t.data.toList [] = x2 := ⟨_, rfl⟩
  have HE := Lib.hid (And.intro hx1 hx2)
  clear hx1 hx2
  go_wp2_with fail
  refine (of_any t sb m cb ns w1 (by omega) (by omega) H1.out.1 H1.out.2.2).mono ?_
  rw [HE.out.1]
  rintro e w2 ⟨rfl, hk⟩
  have H2 := Lib.hid hk
  clear hk
  go_wp2_with fail
  refine (refOf_any t sb m cb ns w2 (by omega) (by omega) (H1.out.1.keep H2.out (fun _ _ _ _ h => h)) H1.out.2.2).mono ?_
  rw [HE.out.1]
  rintro e w3 ⟨rfl, hk⟩
  have H3 := Lib.hid hk
  clear hk
  go_wp2_with fail
  refine (of_any t none 0 0 [] w3 (by omega) (by omega) (Sl.none0 _) (by simp)).mono ?_
  rw [HE.out.2]
  rintro e w4 ⟨rfl, hk⟩
  have H4 := Lib.hid hk
  clear hk
  go_wp2_with fail
  refine (refOf_any t none 0 0 [] w4 (by omega) (by omega) (Sl.none0 _) (by simp)).mono ?_
  rw [HE.out.2]
  rintro e w5 ⟨rfl, hk⟩
  have H5 := Lib.hid hk
  clear hk
  go_wp2_with fail
  refine (lives_any w5).mono ?_
  rintro e w6 ⟨rfl, hk⟩
  have H6 := Lib.hid hk
  clear hk
  go_wp2
  go_ret
  exact ⟨rfl, ((((H1.out.2.1.trans H2.out (fun _ _ h => h)).trans H3.out (fun _ _ h => h)).trans H4.out (fun _ _ h => h)).trans H5.out (fun _ _ h => h)).trans H6.out (fun _ _ h => h)⟩
end Go.Proofs.Ytembkgpecdgpiaa
