/-
  The chunks of bytes, as an iterator: each is a row of its own. Conditions: fewer than 10^9 bytes.
-/
import Derived.Test.YtllpeenjfjobaaaRefCut
import Derived.Test.YtllpeenjfjobaaaClone2
import Derived.Test.YtllpeenjfjobaaaRangeR
namespace Go.Proofs.Ytllpeenjfjobaaa
open Go.RowKit Go.Shelf
attribute [local go_sem] Oper.semAt_some

/-- What is yielded: a chunk, in a row of its own. -/
def CutV (l : List UInt8) (i : Nat) (A : World) (x : Array Value) (W : World) : Prop :=
  ∃ r sa cap, (cutL l)[i]? = some r ∧ x = #[.slice sa r.length cap] ∧ W.ownsRow A.heap.size 5 1 (.slice sa r.length cap) r.length (BV r)

theorem chunks_any (sa : Option Addr) (n cap : Nat) (w : World) : Calls Try.prog 25 #[.slice sa n cap] w fun e w' => e = .returned (.func (.func 32) #[] #[.pointer (some ⟨w.heap.size, 0, none⟩)]) ∧
    w' = w.alloc (.cells #[.slice sa n cap] 22) := by
  go_enter Try.func25, Try.ntmps25
  go_wp2
  go_ret
  exact ⟨by simp, rfl⟩

def ChkRel (W : World) (bb : Nat) (sa : Option Addr) (n cap : Nat) (l : List UInt8) (J : Nat → World → Prop) (fr i : Value) (wr : World) : Prop :=
  ∃ (k f c : Nat), i = .int .i64 (k + 1 : Nat) ∧ fr = .int .i64 (f : Int) ∧ f ≤ k ∧ k ≤ n ∧ c ≤ (cutL l).length ∧ (cutL l).drop c = cutGo (sub l f k) (l.drop k) ∧ J c wr ∧ W.heap.size + 0 ≤ wr.heap.size ∧ wr.heap[bb]? = some (.cells #[.slice sa n cap] 22 (0, 0)) ∧ Sl wr sa n cap (BV l)

set_option maxHeartbeats 1000000 in
set_option maxRecDepth 10000 in
theorem chunks_seq (bb b off n cap : Nat) (sa : Option Addr) (l : List UInt8) (w0 : World) (hn : n ≤ 1000000000) (hl : Sl w0 sa n cap (BV l)) (hsa : 0 < n → sa = some ⟨b, off, none⟩) (h1 : w0.heap[bb]? = some (.cells #[.slice sa n cap] 22 (0, 0))) :
    SeqR Try.prog 32 #[.pointer (some ⟨bb, 0, none⟩)] (cutL l).length (CutV l) 0 (fun _ => False) (fun k => k = bb ∨ (0 < n ∧ k = b)) w0 := by
  intro lp J B W hW hB hJ hY h0
  have q1 := (hW.block bb (lt_of_heap h1) (fun h => h (Or.inl rfl))).trans h1
  have hl' : Sl W sa n cap (BV l) := hl.keep hW (fun ad e hn0 _ h => by rw [hsa hn0] at e; cases e; exact h (Or.inr ⟨hn0, rfl⟩))
  have HJ := Lib.hid (And.intro hB (And.intro hJ (And.intro hY (And.intro h0 (And.intro q1 hl')))))
  have hll : l.length = n := by have := hl.len; simpa using this
  have HS := Lib.hid (And.intro hsa hll)
  have hnc := hl.le
  have hcb := hl.capB
  clear h1 hW hB hJ hY h0 q1 hsa hl hl' hll
  refine callsIn_of_wp Try.func32 rfl trivial ?_ rfl
  simp only [Try.ntmps32, List.size_toArray, List.length_cons, List.length_nil, Nat.reduceAdd, Nat.reduceSub, Array.replicate_succ, Array.replicate_zero, List.push_toArray, List.append_toArray, List.nil_append, List.cons_append]
  gi_wp2_with fail
  gi_loopw [3, 4] (fun fr i wr => ChkRel W bb sa n cap l J fr i wr) (fun _ i _ => (n + 2) - (intOf i).toNat)
  case atStart => exact ⟨0, 0, 0, rfl, rfl, Nat.le_refl _, Nat.zero_le _, Nat.zero_le _, by simp [cutL, sub], HJ.out.2.2.2.1, Nat.le_refl _, HJ.out.2.2.2.2.1, HJ.out.2.2.2.2.2⟩
  case round =>
    obtain ⟨k, f, c, rfl, rfl, hfk, hkn, hc, hcut, hJc, hsz, q1, hsl⟩ := hrel
    have c1 := cellAt q1 0
    simp at c1
    have HH := Lib.hid (And.intro hc (And.intro hcut (And.intro hJc (And.intro hsz (And.intro q1 hsl)))))
    clear hc hcut hJc hsz q1 hsl
    by_cases hlt : k < n
    · have hkl : k < l.length := by have := HS.out.2; omega
      have hst := cut_step l f k hkl hfk
      have hsa := HS.out.1 (by omega)
      subst hsa
      obtain ⟨p, hp⟩ : ∃ p, sub l f (k + 1) = p := ⟨_, rfl⟩
      have hpl : p.length = k + 1 - f := by rw [← hp]; exact sub_length l f (k + 1) (by omega)
      obtain ⟨m, hm⟩ : ∃ m, k + 1 - f = m := ⟨_, rfl⟩
      rw [hm] at hpl
      rw [hp] at hst
      have HP := Lib.hid (And.intro hp (And.intro hst hpl))
      have t0 : ((k + 1 : Nat) : Int) ≤ (n : Int) := by omega
      have t1 : (0 : Int) ≤ (f : Int) := by omega
      have t2 : (f : Int) ≤ ((k + 1 : Nat) : Int) := by omega
      have t3 : ((k + 1 : Nat) : Int) ≤ (cap : Int) := by omega
      have t4 : ¬ cap = f := by omega
      have t5 : ¬ m = 0 := by omega
      have hmn : m ≤ n := by omega
      have HM : Hid (n + 2 - (k + 1 + 1) < n + 2 - (k + 1)) := by show _ < _; omega
      clear hst hpl hkl hp
      by_cases hlast : k + 1 = n
      · have t6 : ¬ ((k + 1 : Nat) : Int) < (n : Int) := by omega
        have hbr : Hid ((endsB p || decide (k + 1 = l.length)) = true) := by show _ = _; rw [HS.out.2, decide_eq_true hlast]; simp
        clear hlast
        obtain ⟨w1, hw1⟩ : ∃ w1, w1 = wr := ⟨_, rfl⟩
        rw [← hw1] at c1 HH ⊢
        clear hw1 wr
        gi_wp2_with fail
        refine ⟨trivial, ?_⟩
        have hs := HH.out.2.2.2.2.2.sub (i := f) (j := k + 1) (by omega) (by omega)
        rw [HP.out.1, hm] at hs
        have HE := Lib.hid (clone_any (some ⟨b, off + f, none⟩) m (cap - f) p w1 hs (by omega))
        clear hs
        gi_wp2_with fail
        refine ⟨trivial, rfl, (callsIn_wide.2 HE.out).mono ?_⟩
        rintro e w2 ⟨s2, c2, rfl, hown, hk2⟩
        have hgp : (cutL l)[c]? = some p ∧ (cutL l).drop (c + 1) = cutGo (sub l (k + 1) (k + 1)) (l.drop (k + 1)) := by
          have h1 := HP.out.2.1
          rw [if_pos hbr.out, ← HH.out.2.1] at h1
          refine ⟨?_, ?_⟩
          · have := congrArg (fun x => x[0]?) h1
            simp only [List.getElem?_drop, Nat.add_zero] at this
            rw [this]; rfl
          · have := congrArg (List.drop 1) h1
            rw [List.drop_drop] at this
            rw [this]; rfl
        have hcN : c < (cutL l).length := (List.getElem?_eq_some_iff.1 hgp.1).1
        obtain ⟨fn, tmps, assign, body, hy, hR⟩ := HJ.out.2.2.1 c w1 #[.slice s2 m c2] w2 hcN HH.out.2.2.1 (hk2.mono (fun _ _ h => h.elim)) ⟨p, s2, c2, hgp.1, by rw [HP.out.2.2], by rw [HP.out.2.2]; exact hown⟩ HH.out.2.2.2.1
        have HG := Lib.hid (And.intro hgp.2 (And.intro hcN hk2))
        clear hown hk2 hgp hcN HE c1
        gi_wp2_with fail
        refine ⟨rfl, RoundIn.mono hR ?_⟩
        rintro e W2 ⟨rfl, hJ2, hkB⟩
        have HR : Hid (ChkRel W bb (some ⟨b, off, none⟩) n cap l J (.int .i64 (k + 1 : Nat)) (.int .i64 (((k + 1 : Nat) : Int) + 1)) W2) := by
          obtain ⟨a1, a2, a3, a4, a5, a6⟩ := HH.out
          have hk := HG.out.2.2
          have hk3 := hkB.size
          have hk4 := hk.size
          refine ⟨k + 1, k + 1, c + 1, by go_num, rfl, Nat.le_refl _, by omega, HG.out.2.1, HG.out.1, hJ2, by omega, ?_, ?_⟩
          · have q := (hk.block bb (lt_of_heap a5) (fun h => h)).trans a5
            exact (hkB.block bb (lt_of_heap q) (fun h => (HJ.out.1 bb h).1 (Or.inl rfl))).trans q
          · refine (a6.quiet hk).keep hkB (fun ad e hn0 _ h => ?_)
            cases e
            exact (HJ.out.1 b h).1 (Or.inr ⟨hn0, rfl⟩)
        clear hJ2 hkB hR hy hm
        gi_wp2
        go_roundw
        case rel => exact HR.out
        case measure => have := HM.out; simp [intOf]; omega
      · have t6 : ((k + 1 : Nat) : Int) < (n : Int) := by omega
        have hs := HH.out.2.2.2.2.2.sub (i := f) (j := k + 1) (by omega) (by omega)
        rw [HP.out.1, hm] at hs
        have HE := Lib.hid (ends_any (some ⟨b, off + f, none⟩) m (cap - f) p wr hs)
        clear hs
        gi_wp2_with fail
        refine ⟨trivial, rfl, (callsIn_wide.2 HE.out).mono ?_⟩
        rintro e w1 ⟨rfl, hk1⟩
        have HH1 : Hid (c ≤ (cutL l).length ∧ (cutL l).drop c = cutGo (sub l f k) (l.drop k) ∧ J c w1 ∧ W.heap.size + 0 ≤ w1.heap.size ∧ w1.heap[bb]? = some (.cells #[.slice (some ⟨b, off, none⟩) n cap] 22 (0, 0)) ∧ Sl w1 (some ⟨b, off, none⟩) n cap (BV l)) := by
          obtain ⟨a1, a2, a3, a4, a5, a6⟩ := HH.out
          exact ⟨a1, a2, HJ.out.2.1 c wr w1 a3 (hk1.mono (fun _ _ h => h.elim)), Nat.le_trans a4 hk1.size, (hk1.block _ (lt_of_heap a5) (fun h => h)).trans a5, a6.quiet hk1⟩
        clear HE c1 hk1 HH
        obtain ⟨HH, hHH⟩ : ∃ x, x = HH1 := ⟨_, rfl⟩
        clear hHH HH1
        have c1 := cellAt HH.out.2.2.2.2.1 0
        simp at c1
        by_cases he : endsB p = true
        · have hbr : Hid ((endsB p || decide (k + 1 = l.length)) = true) := by show _ = _; rw [he]; rfl
          rw [he]
          clear he hlast
          have hs := HH.out.2.2.2.2.2.sub (i := f) (j := k + 1) (by omega) (by omega)
          rw [HP.out.1, hm] at hs
          have HE := Lib.hid (clone_any (some ⟨b, off + f, none⟩) m (cap - f) p w1 hs (by omega))
          clear hs
          gi_wp2_with fail
          refine ⟨trivial, rfl, (callsIn_wide.2 HE.out).mono ?_⟩
          rintro e w2 ⟨s2, c2, rfl, hown, hk2⟩
          have hgp : (cutL l)[c]? = some p ∧ (cutL l).drop (c + 1) = cutGo (sub l (k + 1) (k + 1)) (l.drop (k + 1)) := by
            have h1 := HP.out.2.1
            rw [if_pos hbr.out, ← HH.out.2.1] at h1
            refine ⟨?_, ?_⟩
            · have := congrArg (fun x => x[0]?) h1
              simp only [List.getElem?_drop, Nat.add_zero] at this
              rw [this]; rfl
            · have := congrArg (List.drop 1) h1
              rw [List.drop_drop] at this
              rw [this]; rfl
          have hcN : c < (cutL l).length := (List.getElem?_eq_some_iff.1 hgp.1).1
          obtain ⟨fn, tmps, assign, body, hy, hR⟩ := HJ.out.2.2.1 c w1 #[.slice s2 m c2] w2 hcN HH.out.2.2.1 (hk2.mono (fun _ _ h => h.elim)) ⟨p, s2, c2, hgp.1, by rw [HP.out.2.2], by rw [HP.out.2.2]; exact hown⟩ HH.out.2.2.2.1
          have HG := Lib.hid (And.intro hgp.2 (And.intro hcN hk2))
          clear hown hk2 hgp hcN HE c1
          gi_wp2_with fail
          refine ⟨rfl, RoundIn.mono hR ?_⟩
          rintro e W2 ⟨rfl, hJ2, hkB⟩
          have HR : Hid (ChkRel W bb (some ⟨b, off, none⟩) n cap l J (.int .i64 (k + 1 : Nat)) (.int .i64 (((k + 1 : Nat) : Int) + 1)) W2) := by
            obtain ⟨a1, a2, a3, a4, a5, a6⟩ := HH.out
            have hk := HG.out.2.2
            have hk3 := hkB.size
            have hk4 := hk.size
            refine ⟨k + 1, k + 1, c + 1, by go_num, rfl, Nat.le_refl _, by omega, HG.out.2.1, HG.out.1, hJ2, by omega, ?_, ?_⟩
            · have q := (hk.block bb (lt_of_heap a5) (fun h => h)).trans a5
              exact (hkB.block bb (lt_of_heap q) (fun h => (HJ.out.1 bb h).1 (Or.inl rfl))).trans q
            · refine (a6.quiet hk).keep hkB (fun ad e hn0 _ h => ?_)
              cases e
              exact (HJ.out.1 b h).1 (Or.inr ⟨hn0, rfl⟩)
          clear hJ2 hkB hR hy hm
          gi_wp2
          go_roundw
          case rel => exact HR.out
          case measure => have := HM.out; simp [intOf]; omega
        · rw [Bool.not_eq_true] at he
          have hbr : Hid ((endsB p || decide (k + 1 = l.length)) = false) := by show _ = _; rw [he, HS.out.2, decide_eq_false hlast]; rfl
          rw [he]
          have HR : Hid (ChkRel W bb (some ⟨b, off, none⟩) n cap l J (.int .i64 (f : Int)) (.int .i64 (((k + 1 : Nat) : Int) + 1)) w1) := by
            obtain ⟨a1, a2, a3, a4, a5, a6⟩ := HH.out
            refine ⟨k + 1, f, c, by go_num, rfl, by omega, by omega, a1, ?_, a3, a4, a5, a6⟩
            have := HP.out.2.1
            rw [hbr.out] at this
            rw [a2, this, HP.out.1]
            rfl
          clear he hlast c1 hm
          gi_wp2
          go_roundw
          case rel => exact HR.out
          case measure => have := HM.out; simp [intOf]; omega
    · have t0 : ¬ ((k + 1 : Nat) : Int) ≤ (n : Int) := by omega
      have HF : Hid (J (cutL l).length wr) := by
        show J _ _
        obtain ⟨a1, a2, a3, a4, a5, a6⟩ := HH.out
        rw [List.drop_of_length_le (l := l) (by have := HS.out.2; omega), cutGo] at a2
        have : (cutL l).length ≤ c := by simpa using a2
        obtain rfl : c = (cutL l).length := by omega
        exact a3
      gi_wp2
      go_end0
      exact ⟨⟨_, rfl⟩, HF.out⟩
end Go.Proofs.Ytllpeenjfjobaaa
