/-
  The sum of bytes, and a secret (the reference's Bytes, Secret). Conditions: as for the program's.
-/
import Derived.Test.YtpojkhjenbbodaaJHash
namespace Go.Proofs.Ytpojkhjenbbodaa
open Go.RowKit

set_option maxHeartbeats 1000000 in
theorem refBytes_any (s : ByteArray) (sa : Option Addr) (n cap : Nat) (l : List UInt8) (w : World) (hs : s.size ≤ 1000000000) (hn : n ≤ 1000000000) (hl : Sl w sa n cap (BV l)) :
    Calls Try.prog 44 #[.string s, .slice sa n cap] w fun e w' => e = .returned (.int .u64 (hby s.data.toList l : Int)) ∧ Keeps (fun _ => False) w w' := by
  have hll : l.length = n := by have := hl.len; simpa using this
  have hwn : IntKind.u64.wrap (n : Int) = (n : Int) := wrap_nat _ _ rfl (by omega)
  have HT := Lib.hid (refWords_any sa n cap l w hl hn)
  have HL := Lib.hid hll
  clear hl hll
  go_enter Try.func44, Try.ntmps44
  go_wp2_with fail
  refine HT.out.mono ?_
  rintro e w2 ⟨sb, cb, rfl, hown, hk2⟩
  obtain ⟨nw, hnw⟩ : ∃ nw, (wordsOf l).length = nw := ⟨_, rfl⟩
  have hnwb : nw ≤ 200000000 := by rw [← hnw, wordsOf_length]; have := HL.out; omega
  rw [hnw] at hown ⊢
  have H2 := Lib.hid (And.intro hown (And.intro hk2 hnw))
  have hsz := hk2.size
  clear hown hk2 hnw HT
  go_wp2_with (at_builtin; refine wpList_pushN _ (n : Int) rfl _ _ rfl w.heap.size sb nw cb (NV (wordsOf l)) rfl H2.out.1 rfl (by omega) hsz ?_; intro sa3 cap3 w3 hown2 hk2 hs2; have H3 := Lib.hid (And.intro hown2 (H2.out.2.1.pushed H2.out.1 (Nat.le_refl _) hk2)); clear hown2 hk2)
  have HX : Hid (Sl w3 sa3 (nw + 1) cap3 (NV (wordsOf l ++ [n])) ∧ ∀ x ∈ wordsOf l ++ [n], U64 x) := by
    refine ⟨?_, ?_⟩
    · rw [NV_append]; exact Sl.of_own H3.out.1
    · intro x hx
      rcases List.mem_append.1 hx with h | h
      · have := wordsOf_lt l x h; unfold U64; omega
      · simp at h; unfold U64; omega
  clear hs2
  go_wp2_with fail
  refine (refOf_any s sa3 (nw + 1) cap3 (wordsOf l ++ [n]) w3 hs (by omega) HX.out.1 HX.out.2).mono ?_
  rintro e w4 ⟨rfl, hk4⟩
  have HF : Hid (hof s.data.toList (wordsOf l ++ [n]) = hby s.data.toList l ∧ Keeps (fun _ => False) w w4) := by
    refine ⟨?_, H3.out.2.trans hk4 (fun _ _ h => h)⟩
    unfold hby
    rw [HL.out]
  clear hk4 hwn
  go_wp2
  go_ret
  exact ⟨by rw [HF.out.1]; rfl, HF.out.2⟩
end Go.Proofs.Ytpojkhjenbbodaa
