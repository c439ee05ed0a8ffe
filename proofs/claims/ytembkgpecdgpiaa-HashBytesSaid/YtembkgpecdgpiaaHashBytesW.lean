/-
  The law HashBytes: the walk. Conditions: the arguments are what came in.
-/
import Derived.Test.YtembkgpecdgpiaaLives02
import Derived.Test.YtembkgpecdgpiaaRefBytes
import Derived.Test.YtembkgpecdgpiaaShort
import Derived.Test.YtembkgpecdgpiaaNums
import Derived.Test.YtembkgpecdgpiaaFew
import Derived.Test.YtembkgpecdgpiaaOpen
namespace Go.Proofs.Ytembkgpecdgpiaa
open Go.RowKit

set_option maxHeartbeats 1000000 in
theorem hashBytes_walk (s : ByteArray) (sa : Option Addr) (n cap : Nat) (l : List UInt8) (sb : Option Addr) (m cb : Nat) (l2 : List Nat) (w : World) (hl : Sl w sa n cap (BV l)) (hl2 : Sl w sb m cb (NV l2)) (hu : ∀ x ∈ l2, U64 x) :
    Calls Try.prog 6 #[.string s, .slice sa n cap, .slice sb m cb] w fun e w' => e = .returned (.bool true) ∧ Keeps (fun _ => False) w w' := by
  have Sx := Lib.hid hl
  have Sy := Lib.hid hl2
  have HU := Lib.hid hu
  clear hl hl2 hu
  go_enter Try.func6, Try.ntmps6
  have HK := Lib.hid (Keeps.refl (fun _ => False) w)
  go_wp2_with fail
  refine (short_any s 20 w).mono ?_
  rintro e _ ⟨rfl, rfl⟩
  have hsz := shortOf_size s 20
  generalize shortOf s 20 = t at *
  go_wp2_with fail
  refine (few_any sa n cap 40 l w Sx.out (by omega)).mono ?_
  rintro e w1 ⟨saf, caf, rfl, hown, hk⟩
  replace HK := Lib.hid (HK.out.quiet hk)
  replace Sx := Lib.hid (Sx.out.quiet hk)
  replace Sy := Lib.hid (Sy.out.quiet hk)
  have Of := Lib.hid hown
  have Sf := Lib.hid (Sl.of_own hown)
  clear hown hk
  have hnf : (l.take 40).length ≤ 40 := by rw [List.length_take]; omega
  generalize l.take 40 = lf at *
  generalize lf.length = nf at *
  go_wp2_with fail
  refine (nums_any sb m cb 4 l2 w1 Sy.out (by omega)).mono ?_
  rintro e w2 ⟨sag, cag, rfl, hown, hk⟩
  replace HK := Lib.hid (HK.out.quiet hk)
  replace Sx := Lib.hid (Sx.out.quiet hk)
  replace Sy := Lib.hid (Sy.out.quiet hk)
  replace Sf := Lib.hid (Sf.out.quiet hk)
  replace Of := Lib.hid (own_keep Of.out hk (fun _ _ h => h))
  have Og := Lib.hid hown
  have Sg := Lib.hid (Sl.of_own hown)
  clear hown hk
  have HU2 : Hid (∀ x ∈ l2.take 4, U64 x) := fun x hx => HU.out x (List.mem_of_mem_take hx)
  have hng : (l2.take 4).length ≤ 4 := by rw [List.length_take]; omega
  generalize l2.take 4 = lg at *
  generalize lg.length = ng at *
  obtain ⟨x1, hx1⟩ : ∃ x1, hby t.data.toList lf = x1 := ⟨_, rfl⟩
  obtain ⟨x2, hx2⟩ : ∃ x2, hsec t.data.toList lg = x2 := ⟨_, rfl⟩
  have HE := Lib.hid (And.intro hx1 hx2)
  clear hx1 hx2
  go_wp2_with fail
  refine (bytes_any t saf nf caf lf w2 (by omega) (by omega) Sf.out).mono ?_
  rw [HE.out.1]
  rintro e w3 ⟨rfl, hk⟩
  replace HK := Lib.hid (HK.out.quiet hk)
  replace Sx := Lib.hid (Sx.out.quiet hk)
  replace Sy := Lib.hid (Sy.out.quiet hk)
  replace Sf := Lib.hid (Sf.out.quiet hk)
  replace Of := Lib.hid (own_keep Of.out hk (fun _ _ h => h))
  replace Sg := Lib.hid (Sg.out.quiet hk)
  replace Og := Lib.hid (own_keep Og.out hk (fun _ _ h => h))
  clear hk
  go_wp2_with fail
  refine (refBytes_any t saf nf caf lf w3 (by omega) (by omega) Sf.out).mono ?_
  rw [HE.out.1]
  rintro e w4 ⟨rfl, hk⟩
  replace HK := Lib.hid (HK.out.quiet hk)
  replace Sx := Lib.hid (Sx.out.quiet hk)
  replace Sy := Lib.hid (Sy.out.quiet hk)
  replace Sf := Lib.hid (Sf.out.quiet hk)
  replace Of := Lib.hid (own_keep Of.out hk (fun _ _ h => h))
  replace Sg := Lib.hid (Sg.out.quiet hk)
  replace Og := Lib.hid (own_keep Og.out hk (fun _ _ h => h))
  clear hk
  go_wp2_with fail
  refine (secret_any t sag ng cag lg w4 (by omega) (by omega) Sg.out HU2.out).mono ?_
  rw [HE.out.2]
  rintro e w5 ⟨rfl, hk⟩
  replace HK := Lib.hid (HK.out.quiet hk)
  replace Sx := Lib.hid (Sx.out.quiet hk)
  replace Sy := Lib.hid (Sy.out.quiet hk)
  replace Sf := Lib.hid (Sf.out.quiet hk)
  replace Of := Lib.hid (own_keep Of.out hk (fun _ _ h => h))
  replace Sg := Lib.hid (Sg.out.quiet hk)
  replace Og := Lib.hid (own_keep Og.out hk (fun _ _ h => h))
  clear hk
  go_wp2_with fail
  refine (refSecret_any t sag ng cag lg w5 (by omega) (by omega) Sg.out HU2.out).mono ?_
  rw [HE.out.2]
  rintro e w6 ⟨rfl, hk⟩
  replace HK := Lib.hid (HK.out.quiet hk)
  replace Sx := Lib.hid (Sx.out.quiet hk)
  replace Sy := Lib.hid (Sy.out.quiet hk)
  replace Sf := Lib.hid (Sf.out.quiet hk)
  replace Of := Lib.hid (own_keep Of.out hk (fun _ _ h => h))
  replace Sg := Lib.hid (Sg.out.quiet hk)
  replace Og := Lib.hid (own_keep Og.out hk (fun _ _ h => h))
  clear hk
  go_wp2_with fail
  refine (lives_any w6).mono ?_
  rintro e w7 ⟨rfl, hk⟩
  replace HK := Lib.hid (HK.out.quiet hk)
  replace Sx := Lib.hid (Sx.out.quiet hk)
  replace Sy := Lib.hid (Sy.out.quiet hk)
  replace Sf := Lib.hid (Sf.out.quiet hk)
  replace Of := Lib.hid (own_keep Of.out hk (fun _ _ h => h))
  replace Sg := Lib.hid (Sg.out.quiet hk)
  replace Og := Lib.hid (own_keep Og.out hk (fun _ _ h => h))
  clear hk
  go_wp2
  go_ret
  exact ⟨rfl, HK.out⟩
end Go.Proofs.Ytembkgpecdgpiaa
