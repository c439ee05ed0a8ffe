/-
  Bytes, cut: the list, and the reference's Cut. Conditions: a slice that is one, of fewer than 10^9 bytes.
-/
import Derived.Test.YtllpeenjfjobaaaEnds
import Derived.Test.YtllpeenjfjobaaaRowsB
namespace Go.Proofs.Ytllpeenjfjobaaa
open Go.RowKit

/-- Bytes cut: cur stands in the chunk that is being made; what follows. -/
def cutGo (cur : List UInt8) : List UInt8 → List (List UInt8)
  | [] => []
  | b :: r => if endsB (cur ++ [b]) || r.isEmpty then (cur ++ [b]) :: cutGo [] r else cutGo (cur ++ [b]) r
def cutL (l : List UInt8) : List (List UInt8) := cutGo [] l
/-- Bytes from a place to another. -/
def sub (l : List UInt8) (i j : Nat) : List UInt8 := (l.take j).drop i
theorem sub_length (l : List UInt8) (i j : Nat) (hj : j ≤ l.length) : (sub l i j).length = j - i := by unfold sub; rw [List.length_drop, List.length_take]; omega
theorem sub_same (l : List UInt8) (i : Nat) (hi : i ≤ l.length) : sub l i i = [] := List.eq_nil_of_length_eq_zero (by rw [sub_length l i i hi]; omega)
theorem sub_snoc (l : List UInt8) (i k : Nat) (hk : k < l.length) (hi : i ≤ k) : sub l i (k + 1) = sub l i k ++ [l[k]] := by
  unfold sub
  rw [List.take_succ_eq_append_getElem hk, List.drop_append_of_le_length (by rw [List.length_take]; omega)]
theorem cut_step (l : List UInt8) (i k : Nat) (hk : k < l.length) (hi : i ≤ k) :
    cutGo (sub l i k) (l.drop k) = if endsB (sub l i (k + 1)) || decide (k + 1 = l.length) then sub l i (k + 1) :: cutGo (sub l (k + 1) (k + 1)) (l.drop (k + 1)) else cutGo (sub l i (k + 1)) (l.drop (k + 1)) := by
  rw [List.drop_eq_getElem_cons hk, cutGo, ← sub_snoc l i k hk hi, sub_same l (k + 1) (by omega)]
  have e : (l.drop (k + 1)).isEmpty = decide (k + 1 = l.length) := by
    rw [Bool.eq_iff_iff]
    simp only [List.isEmpty_iff, List.drop_eq_nil_iff, decide_eq_true_eq]
    omega
  rw [e]
theorem Sl.sub {w : World} {b off n cap : Nat} {l : List UInt8} (h : Sl w (some ⟨b, off, none⟩) n cap (BV l)) {i j : Nat} (hi : i ≤ j) (hj : j ≤ n) : Sl w (some ⟨b, off + i, none⟩) (j - i) (cap - i) (BV (sub l i j)) := by
  have := (h.upto hj).from_ hi
  rw [BV_take, BV_drop] at this
  exact this

def CutRel (w : World) (l : List UInt8) (out fr i : Value) (wr : World) : Prop :=
  ∃ (k f c : Nat) (so : Option Addr) (co : Nat) (vs : List Value) (rs : List (List UInt8)), i = .int .i64 (k + 1 : Nat) ∧ fr = .int .i64 (f : Int) ∧ f ≤ k ∧ k ≤ l.length ∧ c ≤ k ∧ out = .slice so c co ∧ rs.length = c ∧
    wr.ownsRow w.heap.size 22 1 (.slice so c co) c vs ∧ RowsS w vs rs ∧ rs ++ cutGo (sub l f k) (l.drop k) = cutL l ∧ Keeps (fun _ => False) w wr

set_option maxHeartbeats 1000000 in
set_option maxRecDepth 10000 in
theorem refCut_any (sa : Option Addr) (n cap : Nat) (l : List UInt8) (w : World) (hl : Sl w sa n cap (BV l)) (hn : n ≤ 1000000000) :
    Calls Try.prog 14 #[.slice sa n cap] w fun e w' => ∃ sa' cap' vs, e = .returned (.slice sa' (cutL l).length cap') ∧ w'.ownsRow w.heap.size 22 1 (.slice sa' (cutL l).length cap') (cutL l).length vs ∧ RowsS w vs (cutL l) ∧ Keeps (fun _ => False) w w' := by
  have hll : l.length = n := by have := hl.len; simpa using this
  have hle := hl.le
  have hcb := hl.capB
  have HL := Lib.hid (And.intro hl hll)
  clear hl hll
  go_enter Try.func14, Try.ntmps14
  go_wp2_with fail
  go_loopw [3, 4, 5] (fun out fr i wr => CutRel w l out fr i wr) (fun _ _ i _ => n + 2 - (intOf i).toNat)
  case atStart => exact ⟨0, 0, 0, none, 0, [], [], rfl, rfl, Nat.le_refl _, Nat.zero_le _, Nat.le_refl _, rfl, rfl, World.ownsRow_nil w _ _ _, RowsS.nil w, by simp [cutL, sub], Keeps.refl _ _⟩
  case round =>
    obtain ⟨k, f, c, so, co, vs, rs, rfl, rfl, hfk, hk, hck, rfl, hrs, hown, hrows, hcut, hkp⟩ := hrel
    have hsz := hkp.size
    have HB := Lib.hid (And.intro hk (And.intro hrs (And.intro hown (And.intro hrows (And.intro hcut hkp)))))
    clear hk hrs hown hrows hcut hkp
    by_cases hlt : k < n
    · have hkl : k < l.length := by have := HL.out.2; omega
      have hst := cut_step l f k hkl hfk
      obtain ⟨b, off, rfl⟩ := HL.out.1.isSome (by omega)
      have hs := HL.out.1.sub (i := f) (j := k + 1) (by omega) (by omega)
      obtain ⟨p, hp⟩ : ∃ p, sub l f (k + 1) = p := ⟨_, rfl⟩
      rw [hp] at hs hst
      have HS := Lib.hid (And.intro hs (And.intro hst (show p.length = k + 1 - f by rw [← hp, sub_length l f (k + 1) (by omega)])))
      have HC := Lib.hid (refEnds_any (some ⟨b, off + f, none⟩) (k + 1 - f) (cap - f) p wr (hs.quiet HB.out.2.2.2.2.2))
      have t0 : ((k + 1 : Nat) : Int) ≤ (n : Int) := by omega
      have t1 : (0 : Int) ≤ (f : Int) := by omega
      have t2 : (f : Int) ≤ ((k + 1 : Nat) : Int) := by omega
      have t3 : ((k + 1 : Nat) : Int) ≤ (cap : Int) := by omega
      have t4 : ¬ cap = f := by omega
      have t5 : ¬ k + 1 = f := by omega
      clear hs hst hkl
      go_wp2_with fail
      refine HC.out.mono ?_
      rintro e w1 ⟨rfl, hk1⟩
      have HK1 := Lib.hid (HB.out.2.2.2.2.2.quiet hk1)
      have HO1 := Lib.hid (own_keep HB.out.2.2.1 hk1 (fun _ _ h => h))
      have hsz1 := HK1.out.size
      clear HC hk1
      have HP : Hid (∀ (sa2 : Option Addr) (cap2 : Nat) (w2 : World), w2.ownsRow w.heap.size 22 1 (.slice sa2 (c + 1) cap2) (c + 1) (vs ++ [.slice (some ⟨b, off + f, none⟩) (k + 1 - f) (cap - f)]) → Keeps (fun k => so = some ⟨k, 0, none⟩) w1 w2 → (endsB p || decide (k + 1 = l.length)) = true →
          CutRel w l (.slice sa2 (c + 1) cap2) (.int .i64 (k + 1 : Nat)) (.int .i64 ((k + 1 : Nat) + 1 : Int)) w2) := by
        intro sa2 cap2 w2 h1 h2 h3
        refine ⟨k + 1, k + 1, c + 1, sa2, cap2, _, rs ++ [p], by go_num, rfl, Nat.le_refl _, by have := HL.out.2; omega, by omega, rfl, by rw [List.length_append, HB.out.2.1]; rfl, h1, HB.out.2.2.2.1.snoc HS.out.2.2 HS.out.1, ?_, HK1.out.pushed HO1.out (Nat.le_refl _) h2⟩
        have h4 := HB.out.2.2.2.2.1
        rw [HS.out.2.1, if_pos h3] at h4
        rw [List.append_assoc]
        exact h4
      by_cases he : endsB p = true
      · have h3 : (endsB p || decide (k + 1 = l.length)) = true := by rw [he]; rfl
        have HP2 : Hid (∀ (sa2 : Option Addr) (cap2 : Nat) (w2 : World), w2.ownsRow w.heap.size 22 1 (.slice sa2 (c + 1) cap2) (c + 1) (vs ++ [.slice (some ⟨b, off + f, none⟩) (k + 1 - f) (cap - f)]) → Keeps (fun k => so = some ⟨k, 0, none⟩) w1 w2 →
          CutRel w l (.slice sa2 (c + 1) cap2) (.int .i64 (k + 1 : Nat)) (.int .i64 ((k + 1 : Nat) + 1 : Int)) w2) := fun a b c h1 h2 => HP.out a b c h1 h2 h3
        rw [he]
        clear h3 HP he hp
        go_wp2_with (at_builtin; refine wpList_pushV _ (some ⟨b, off + f, none⟩) (k + 1 - f) (cap - f) rfl _ _ rfl w.heap.size so c co vs rfl HO1.out rfl (by omega) hsz1 ?_; intro sa3 cap3 w3 hown2 hk2 hs2; have HR := Lib.hid (And.intro hown2 hk2); clear hown2 hk2)
        go_roundw
        case rel => exact HP2.out _ _ _ HR.out.1 HR.out.2
        case measure => simp [intOf]; omega
      · rw [Bool.not_eq_true] at he
        by_cases hkn : k + 1 = n
        · have h3 : (endsB p || decide (k + 1 = l.length)) = true := by rw [HL.out.2, decide_eq_true hkn]; simp
          have HP2 : Hid (∀ (sa2 : Option Addr) (cap2 : Nat) (w2 : World), w2.ownsRow w.heap.size 22 1 (.slice sa2 (c + 1) cap2) (c + 1) (vs ++ [.slice (some ⟨b, off + f, none⟩) (k + 1 - f) (cap - f)]) → Keeps (fun k => so = some ⟨k, 0, none⟩) w1 w2 →
            CutRel w l (.slice sa2 (c + 1) cap2) (.int .i64 (k + 1 : Nat)) (.int .i64 ((k + 1 : Nat) + 1 : Int)) w2) := fun a b c h1 h2 => HP.out a b c h1 h2 h3
          have e1 : (((k + 1 : Nat) : Int) == (n : Int)) = true := by simp; omega
          rw [he]
          clear h3 HP he hp hkn
          go_wp2_with (at_builtin; refine wpList_pushV _ (some ⟨b, off + f, none⟩) (k + 1 - f) (cap - f) rfl _ _ rfl w.heap.size so c co vs rfl HO1.out rfl (by omega) hsz1 ?_; intro sa3 cap3 w3 hown2 hk2 hs2; have HR := Lib.hid (And.intro hown2 hk2); clear hown2 hk2)
          go_roundw
          case rel => exact HP2.out _ _ _ HR.out.1 HR.out.2
          case measure => simp [intOf]; omega
        · have h3 : (endsB p || decide (k + 1 = l.length)) = false := by rw [HL.out.2, decide_eq_false hkn, he]; rfl
          have HP2 : Hid (CutRel w l (.slice so c co) (.int .i64 (f : Int)) (.int .i64 ((k + 1 : Nat) + 1 : Int)) w1) := by
            refine ⟨k + 1, f, c, so, co, vs, rs, by go_num, rfl, by omega, by have := HL.out.2; omega, by omega, rfl, HB.out.2.1, HO1.out, HB.out.2.2.2.1, ?_, HK1.out⟩
            have h4 := HB.out.2.2.2.2.1
            rw [HS.out.2.1, h3] at h4
            rw [hp]
            exact h4
          have e1 : (((k + 1 : Nat) : Int) == (n : Int)) = false := by simp; omega
          rw [he]
          clear h3 HP he hp
          go_wp2
          go_roundw
          case rel => exact HP2.out
          case measure => simp [intOf]; omega
    · have t0 : ¬ ((k + 1 : Nat) : Int) ≤ (n : Int) := by omega
      have hF : Hid (rs = cutL l ∧ (cutL l).length = c) := by
        have h1 := HB.out.1
        have h2 := HL.out.2
        have h4 := HB.out.2.2.2.2.1
        rw [List.drop_of_length_le (by omega), cutGo, List.append_nil] at h4
        exact ⟨h4, by rw [← h4]; exact HB.out.2.1⟩
      go_wp2
      go_ret
      rw [hF.out.2]
      exact ⟨so, co, rfl, vs, HB.out.2.2.1, by rw [← hF.out.1]; exact HB.out.2.2.2.1, HB.out.2.2.2.2.2⟩
end Go.Proofs.Ytllpeenjfjobaaa
