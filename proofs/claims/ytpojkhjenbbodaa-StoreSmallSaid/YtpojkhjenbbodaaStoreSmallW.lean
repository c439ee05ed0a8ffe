/-
  The law StoreSmall: the walk. Conditions: the arguments are what came in.
-/
import Derived.Test.YtpojkhjenbbodaaJGood
import Derived.Test.YtpojkhjenbbodaaJTools
namespace Go.Proofs.Ytpojkhjenbbodaa
open Go.RowKit

/-- A store whose disk has turned. -/
theorem StAt.turned {w w' : World} {p pd : Nat} {S : SS} {F R Fd F' : Nat → Prop} {so : Option Addr} {co : Nat} {vs : List Value} {sk : Option Addr} {ck : Nat} (h : StAt w p pd S F R Fd so co vs sk ck) {D : DS} (hd : Disk w' pd D F') (hk : Keeps Fd w w') (hF : ∀ k, F' k → Fd k ∨ w.heap.size ≤ k) (hlen : D.now.length = S.d.now.length) :
    StoreAt w' p pd { S with d := D } (fun k => k = p ∨ F' k ∨ so = some ⟨k, 0, none⟩) R := by
  have hp : p < w.heap.size := lt_of_heap h.blk
  have eh : SS.half { S with d := D } = S.half := by show D.now.length / 2 = S.d.now.length / 2; rw [hlen]
  have ez : SS.sz { S with d := D } = S.sz := by show (D.now.length - D.now.length / 2) / 2 = (S.d.now.length - S.d.now.length / 2) / 2; rw [hlen]
  have hso : ∀ k, so = some ⟨k, 0, none⟩ → k < w.heap.size := fun k e => (own_lt h.out e).2
  have hFd : ∀ k, Fd k → F k := fun k a => (h.foot k).2 (Or.inr (Or.inl a))
  have hno : ∀ k, k < w.heap.size → ¬ Fd k → ¬ F' k := fun k a b c => (hF k c).elim b (fun d => by omega)
  refine ⟨F', so, co, vs, sk, ck, { blk := ?_, disk := hd, out := own_keep h.out hk (fun k e => h.od k ?_), rows := rows_keep h.rows h.rin hk (fun k a b => h.apart k b (hFd k a)), keys := sl_keep h.keys h.kin hk (fun k a b => h.apart k b (hFd k a)), rin := h.rin, kin := h.kin, apart := ?_, pd_ := hno p hp h.pd_, od := fun k e => hno k (hso k e) (h.od k e), foot := fun k => Iff.rfl, rlt := fun k a => Nat.lt_of_lt_of_le (h.rlt k a) hk.size, flt := ?_, now1 := h.now1, nowT := h.nowT, turn0 := h.turn0, usedH := ?_, size := ?_, small := h.small }⟩
  · rw [eh, ez]
    exact (hk.block p hp h.pd_).trans h.blk
  · rcases own_addr h.out with ⟨rfl, _⟩ | ⟨g', rfl⟩
    · simp [Value.ownBlock] at e
    · simp [Value.ownBlock] at e; rw [e]
  · intro k hr hf
    have h1 := h.apart k hr
    rcases hf with e | e | e
    · exact h1 ((h.foot k).2 (Or.inl e))
    · exact hno k (h.rlt k hr) (fun a => h1 (hFd k a)) e
    · exact h1 ((h.foot k).2 (Or.inr (Or.inr e)))
  · rintro k (e | e | e)
    · rw [e]; exact Nat.lt_of_lt_of_le hp hk.size
    · exact hd.lt k e
    · exact Nat.lt_of_lt_of_le (hso k e) hk.size
  · rw [eh]; exact h.usedH
  · show D.now.length ≤ _
    rw [hlen]
    exact h.size

def SDown (N : Nat) (left : Int) : SS := { S0 N with d := (S0 N).d.crash left }
theorem down_len (N : Nat) (left : Int) : ((S0 N).d.crash left).now.length = N := by
  show ((S0 N).d.left _).length = N
  rw [left_length]
  simp [S0, DS.of]
theorem down_append (N : Nat) (left : Int) (h : 64 ≤ N) : ((SDown N left).append []).2 = 30 := by
  unfold SS.append
  rw [if_neg]
  · rfl
  · show ¬ SS.room _ < ((0 : Nat) : Int)
    unfold SS.room SS.half
    rw [show (SDown N left).d.now.length = N from down_len N left, show (SDown N left).used = 0 from rfl]
    omega
theorem down_append1 (N : Nat) (left : Int) (h : 64 ≤ N) : ((SDown N left).append []).1 = SDown N left := by
  unfold SS.append
  rw [if_neg]
  · rfl
  · show ¬ SS.room _ < ((0 : Nat) : Int)
    unfold SS.room SS.half
    rw [show (SDown N left).d.now.length = N from down_len N left, show (SDown N left).used = 0 from rfl]
    omega
theorem down_set (N : Nat) (left : Int) (h : 64 ≤ N) : ((SDown N left).set []).2 = 30 := by
  unfold SS.set
  rw [if_neg]
  · rfl
  · unfold SS.sz
    rw [show (SDown N left).d.now.length = N from down_len N left]
    simp only [List.length_nil]
    omega

set_option maxHeartbeats 4000000 in
set_option maxRecDepth 10000 in
theorem storeSmall_walk (a left : Int) (w : World) (h1 : -9223372036854775808 ≤ a) (h2 : a ≤ 9223372036854775807) :
    Calls Try.prog 7 #[.int .i64 a, .int .i64 left] w fun e w' => e = .returned (.bool true) ∧ Keeps (fun _ => False) w w' := by
  have HA := Lib.hid (around_any a 201 w h1 h2 (by omega) (by omega))
  obtain ⟨n0, n1⟩ := around_pos a 201 (by omega)
  obtain ⟨N, hN⟩ : ∃ N : Nat, around a 201 = (N : Int) := ⟨(around a 201).toNat, by omega⟩
  rw [hN] at HA n1
  clear hN n0 h1 h2
  have hN : N ≤ 200 := by omega
  clear n1
  have HN := Lib.hid (new_ok N w (by omega))
  have e00 : ((0 : Int) != 0) = false := by decide
  have HL := Lib.hid (fun w => lives_any w)
  go_enter Try.func7, Try.ntmps7
  go_wp2_with fail
  refine HA.out.mono ?_
  rintro e _ ⟨rfl, rfl⟩
  clear HA
  go_wp2_with fail
  refine HN.out.mono ?_
  rintro e w1 ⟨pd, Fd, rfl, hd, hk, hf⟩
  have HK := Lib.hid hk
  have HD := Lib.hid (And.intro hd hf)
  clear hd hk hf HN
  by_cases h64 : N < 64
  · have t1 : (N : Int) < 64 := by omega
    have HO := Lib.hid (open_small pd _ Fd w1 HD.out.1 (by simpa using h64))
    go_wp2_with fail
    refine HO.out.mono ?_
    rintro e _ ⟨rfl, rfl⟩
    clear HO
    go_wp2_with fail
    refine (HL.out w1).mono ?_
    rintro e w2 ⟨rfl, hk⟩
    replace HK := Lib.hid (HK.out.quiet hk)
    go_wp2
    go_ret
    exact ⟨rfl, HK.out⟩
  · have t1 : ¬ (N : Int) < 64 := by omega
    have HO := Lib.hid (open_ok_ pd _ Fd w1 HD.out.1 (by simp; omega) (by simp; omega) rfl (by simp))
    go_wp2_with fail
    refine HO.out.mono ?_
    rintro e w2 ⟨p, F, R, rfl, hst, hk, hF, hR⟩
    rw [open_new N (by omega)] at hst
    obtain ⟨Fe, so, co, vs, sk, ck, hst⟩ := hst
    have hFK : ∀ k, F k → w.heap.size ≤ k := fun k h => (hF k h).elim (HD.out.2 k) (fun h => by have := HK.out.size; omega)
    have HS := Lib.hid hst
    have HFK := Lib.hid hFK
    have HFD := Lib.hid HD.out.2
    replace HK := Lib.hid (HK.out.trans hk (fun k hk h => by have := HFD.out k h; omega))
    have hlen0 : (S0 N).d.now.length = N := by simp [S0, DS.of]
    have HLEN := Lib.hid hlen0
    have HC := Lib.hid (crash_ok pd left (S0 N).d Fe w2 hst.disk rfl (by simp [S0, DS.of]) (by simp [S0, DS.of]))
    clear HO hst hk hF hR hFK hlen0 HD
    go_wp2_with fail
    refine HC.out.mono ?_
    rintro e w3 ⟨rfl, F3, hd3, hk3, hf3⟩
    have HT : Hid (StoreAt w3 p pd (SDown N left) (fun k => k = p ∨ F3 k ∨ so = some ⟨k, 0, none⟩) R) := Lib.hid (HS.out.turned hd3 hk3 hf3 (by rw [HLEN.out]; exact down_len N left))
    have HF3 : Hid (∀ k, (k = p ∨ F3 k ∨ so = some ⟨k, 0, none⟩) → w.heap.size ≤ k) := Lib.hid (fun k h => by
      rcases h with h | h | h
      · exact HFK.out k ((HS.out.foot k).2 (Or.inl h))
      · exact (hf3 k h).elim (fun h => HFK.out k ((HS.out.foot k).2 (Or.inr (Or.inl h)))) (fun h => by have := HK.out.size; omega)
      · exact HFK.out k ((HS.out.foot k).2 (Or.inr (Or.inr h))))
    replace HK := Lib.hid (HK.out.trans hk3 (fun k hk h => by have := HFK.out k ((HS.out.foot k).2 (Or.inr (Or.inl h))); omega))
    have HO := Lib.hid (open_down pd _ F3 w3 hd3 (by rw [down_len]; omega) rfl)
    clear HC hd3 hk3 hf3 HS HFK HFD HLEN
    obtain ⟨FF, hFF⟩ : ∃ G : Nat → Prop, (fun k => k = p ∨ F3 k ∨ so = some ⟨k, 0, none⟩) = G := ⟨_, rfl⟩
    rw [hFF] at HT
    replace HF3 : Hid (∀ k, FF k → w.heap.size ≤ k) := by rw [← hFF]; exact HF3
    clear hFF
    go_wp2_with fail
    refine HO.out.mono ?_
    rintro e w4 ⟨rfl, hk⟩
    replace HK := Lib.hid (HK.out.quiet hk)
    replace HT := Lib.hid (HT.out.quiet hk)
    have HR := Lib.hid (records_any p pd (SDown N left) FF R w4 HT.out)
    rw [show (SDown N left).recs.length = 0 from rfl] at HR
    clear HO hk
    go_wp2_with fail
    refine HR.out.mono ?_
    rintro e w5 ⟨sa, c, vs2, rfl, _, _, hk⟩
    replace HK := Lib.hid (HK.out.quiet hk)
    replace HT := Lib.hid (HT.out.quiet hk)
    have HY := Lib.hid (keys_any p pd (SDown N left) FF R w5 HT.out)
    rw [show (SDown N left).keys.length = 0 from rfl] at HY
    clear HR hk
    go_wp2_with fail
    refine HY.out.mono ?_
    rintro e w6 ⟨sb, cb, rfl, _, hk⟩
    replace HK := Lib.hid (HK.out.quiet hk)
    replace HT := Lib.hid (HT.out.quiet hk)
    have HP := Lib.hid (append_any p pd (SDown N left) FF R w6 HT.out none 0 0 [] (Sl.none0 _) (by omega) (fun ad e => by cases e) (by show List.length [] ≤ _; simp) (by show List.length [] + 1 ≤ _; simp))
    rw [down_append N left (by omega), down_append1 N left (by omega)] at HP
    clear HY hk
    go_wp2_with fail
    refine HP.out.mono ?_
    rintro e w7 ⟨rfl, F7, R7, hst7, hk, hf, _⟩
    have hs1 := HK.out.size
    have HF7 : Hid (∀ k, F7 k → w.heap.size ≤ k) := Lib.hid (fun k h => (hf k h).elim (HF3.out k) (fun h => by omega))
    replace HK := Lib.hid (HK.out.trans hk (fun k hk h => by have := HF3.out k h; omega))
    have HP2 := Lib.hid (set_any p pd (SDown N left) F7 R7 w7 hst7 none 0 0 [] (Sl.none0 _) (by omega) (fun ad e => by cases e) (by show List.length [] ≤ _; simp) (by show 0 + 1 ≤ _; omega))
    rw [down_set N left (by omega)] at HP2
    clear HP hk hst7 hf hs1
    go_wp2_with fail
    refine HP2.out.mono ?_
    rintro e w8 ⟨rfl, _, _, _, hk, _⟩
    replace HK := Lib.hid (HK.out.trans hk (fun k hk h => by have := HF7.out k h; omega))
    clear HP2 hk
    go_wp2_with fail
    refine (HL.out w8).mono ?_
    rintro e w9 ⟨rfl, hk⟩
    replace HK := Lib.hid (HK.out.quiet hk)
    go_wp2
    go_ret
    exact ⟨rfl, HK.out⟩
end Go.Proofs.Ytpojkhjenbbodaa
