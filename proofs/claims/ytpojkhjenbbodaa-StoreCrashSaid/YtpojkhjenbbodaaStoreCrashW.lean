/-
  The law StoreCrash: the walk. Conditions: the arguments are what came in.
-/
import Derived.Test.YtpojkhjenbbodaaCrash29
import Derived.Test.YtpojkhjenbbodaaRefStands
import Derived.Test.YtpojkhjenbbodaaZerosB
import Derived.Test.YtpojkhjenbbodaaRounds29
namespace Go.Proofs.Ytpojkhjenbbodaa
open Go.RowKit

theorem does_cases {H Z R : Nat} {S : SS} (h : Good H Z R S) (ht : S.turn + 1 < 4294967296) (d : Int) (b : List UInt8) :
    (d = 2 ∧ (S.does d b).2 = 0 ∧ (S.does d b).1.recs = S.recs ∧ (S.does d b).1.keys = b) ∨ (¬ d = 2 ∧ (S.does d b).2 = 0 ∧ (S.does d b).1.recs = S.recs ++ [b] ∧ (S.does d b).1.keys = S.keys) ∨ S.does d b = (S, 3) := by
  unfold SS.does
  by_cases hd : d = 2
  · rw [if_pos hd]
    by_cases hk : b.length + 14 ≤ Z
    · obtain ⟨e, _, r, k, _⟩ := good_set h b hk ht
      exact Or.inl ⟨hd, e, r, k⟩
    · exact Or.inr (Or.inr (set_full b (by rw [h.sz]; omega)))
  · rw [if_neg hd]
    by_cases hr : (b.length : Int) ≤ S.room
    · obtain ⟨e, _, r, k, _⟩ := good_append h b hr
      exact Or.inr (Or.inl ⟨hd, e, r, k⟩)
    · exact Or.inr (Or.inr (append_full b (by omega)))

/-- What was told, and the keys that were set last: in bytes that are in blocks of A. -/
structure Told (A : Nat → Prop) (B : Nat) (wr : World) (S : SS) (F Q : Nat → Prop) (so : Option Addr) (co : Nat) (sk : Option Addr) (ck : Nat) (vs : List Value) : Prop where
  own : wr.ownsRow B 23 1 (.slice so S.recs.length co) S.recs.length vs
  rows : RowsS wr vs S.recs
  rin : ∀ x ∈ vs, InR A x
  keys : Sl wr sk S.keys.length ck (BV S.keys)
  kin : InR A (.slice sk S.keys.length ck)
  ap : ∀ j, so = some ⟨j, 0, none⟩ → ¬ F j ∧ ¬ Q j
theorem Told.keep {A : Nat → Prop} {B : Nat} {wr wx : World} {S : SS} {F Q F' Q' : Nat → Prop} {so : Option Addr} {co : Nat} {sk : Option Addr} {ck : Nat} {vs : List Value} (h : Told A B wr S F Q so co sk ck vs) (hk : Keeps F wr wx) (hF : ∀ j, F j → ¬ A j)
    (hF' : ∀ j, F' j → F j ∨ wr.heap.size ≤ j) (hQ' : ∀ j, Q' j → Q j ∨ wr.heap.size ≤ j) : Told A B wx S F' Q' so co sk ck vs := by
  have hlt : ∀ j, so = some ⟨j, 0, none⟩ → j < wr.heap.size := fun j e => (own_lt h.own e).2
  refine ⟨own_keep h.own hk (fun j e a => (h.ap j (form_own h.own e)).1 a), rows_keep h.rows h.rin hk hF, h.rin, sl_keep h.keys h.kin hk hF, h.kin, fun j e => ?_⟩
  have h1 := hlt j e
  exact ⟨fun a => (hF' j a).elim (h.ap j e).1 (fun b => by omega), fun a => (hQ' j a).elim (h.ap j e).2 (fun b => by omega)⟩
theorem Told.quiet {A : Nat → Prop} {B : Nat} {wr wx : World} {S : SS} {F Q : Nat → Prop} {so : Option Addr} {co : Nat} {sk : Option Addr} {ck : Nat} {vs : List Value} (h : Told A B wr S F Q so co sk ck vs) (hk : Keeps (fun _ => False) wr wx) : Told A B wx S F Q so co sk ck vs :=
  ⟨own_keep h.own hk (fun _ _ h => h), h.rows.quiet hk, h.rin, h.keys.quiet hk, h.kin, h.ap⟩
theorem Told.key {A : Nat → Prop} {B : Nat} {wr : World} {S S' : SS} {F Q : Nat → Prop} {so : Option Addr} {co : Nat} {sk : Option Addr} {ck : Nat} {vs : List Value} (h : Told A B wr S F Q so co sk ck vs) (hr : S'.recs = S.recs) {sb : Option Addr} {nb cb : Nat} {b : List UInt8} (hk : S'.keys = b) (hb : Sl wr sb nb cb (BV b)) (hi : InR A (.slice sb nb cb)) (hn : b.length = nb) : Told A B wr S' F Q so co sb cb vs := by
  subst hk hn
  exact ⟨by rw [hr]; exact h.own, by rw [hr]; exact h.rows, h.rin, hb, hi, h.ap⟩
theorem Told.more {A : Nat → Prop} {B : Nat} {wr wx : World} {S S' : SS} {F Q : Nat → Prop} {so sx : Option Addr} {co cx : Nat} {sk : Option Addr} {ck : Nat} {vs : List Value} (h : Told A B wr S F Q so co sk ck vs) (hF : ∀ j, F j ∨ Q j → j < wr.heap.size) {sb : Option Addr} {nb cb : Nat} {b : List UInt8} (hr : S'.recs = S.recs ++ [b]) (hk : S'.keys = S.keys) (hn : b.length = nb)
    (hb : Sl wr sb nb cb (BV b)) (hi : InR A (.slice sb nb cb)) (hA : ∀ j, so = some ⟨j, 0, none⟩ → ¬ A j)
    (hown : wx.ownsRow B 23 1 (.slice sx (S.recs.length + 1) cx) (S.recs.length + 1) (vs ++ [.slice sb nb cb])) (kp : Keeps (fun k => so = some ⟨k, 0, none⟩) wr wx) (hat : ∀ k, sx = some ⟨k, 0, none⟩ → so = some ⟨k, 0, none⟩ ∨ wr.heap.size ≤ k) : Told A B wx S' F Q sx cx sk ck (vs ++ [.slice sb nb cb]) := by
  have hl : S'.recs.length = S.recs.length + 1 := by rw [hr]; simp
  refine ⟨by rw [hl]; exact hown, ?_, ?_, ?_, by rw [hk]; exact h.kin, fun j e => ?_⟩
  · rw [hr]
    exact (rows_keep h.rows h.rin kp (fun j e a => hA j e a)).snoc hn (sl_keep hb hi kp (fun j e a => hA j e a))
  · intro x hx
    rcases List.mem_append.1 hx with hx | hx
    · exact h.rin x hx
    · simp at hx; subst hx; exact hi
  · rw [hk]; exact sl_keep h.keys h.kin kp (fun j e a => hA j e a)
  · rcases hat j e with e1 | e1
    · exact h.ap j e1
    · exact ⟨fun a => by have := hF j (Or.inl a); omega, fun a => by have := hF j (Or.inr a); omega⟩

/-- Blocks that no store of these turns. -/
def Far (w w1 w2 : World) (j : Nat) : Prop := ¬ ((w.heap.size ≤ j ∧ j < w1.heap.size) ∨ w2.heap.size ≤ j)
def CrRel (w w1 w2 : World) (N p pd : Nat) (told keys i : Value) (wr : World) : Prop :=
  ∃ (k : Nat) (S : SS) (F Q : Nat → Prop) (so : Option Addr) (co : Nat) (sk : Option Addr) (ck : Nat) (vs : List Value), k ≤ N ∧ i = .int .i64 (k : Int) ∧ told = .slice so S.recs.length co ∧ keys = .slice sk S.keys.length ck ∧ At29 w w1 w2 wr 200 100 0 k p pd S F Q ∧ Told (Far w w1 w2) w2.heap.size wr S F Q so co sk ck vs

theorem mkLo_lt {a : Nat} {l : List UInt8} {x : Nat × UInt8} (h : x ∈ mkLo a l) : x.1 < a + l.length := by
  have h2 : x.1 ∈ (mkLo a l).map (·.1) := List.mem_map_of_mem h
  rw [mkLo_fst] at h2
  simp at h2
  omega
theorem Told.weak {A : Nat → Prop} {B : Nat} {wr : World} {S : SS} {F Q F' Q' : Nat → Prop} {so : Option Addr} {co : Nat} {sk : Option Addr} {ck : Nat} {vs : List Value} (h : Told A B wr S F Q so co sk ck vs) (hF : ∀ j, F' j → F j) (hQ : ∀ j, Q' j → Q j) : Told A B wr S F' Q' so co sk ck vs :=
  ⟨h.own, h.rows, h.rin, h.keys, h.kin, fun j e => ⟨fun a => (h.ap j e).1 (hF j a), fun a => (h.ap j e).2 (hQ j a)⟩⟩
theorem refAt_raw {w : World} {B1 B2 g1 g2 c1 c2 n : Nat} {D : DS} (hD : D = DS.of D.now) (hn : D.now.length = n) (h1 : w.ownsRow B1 5 1 (.slice (some ⟨g1, 0, none⟩) n c1) n (BV D.now)) (h2 : w.ownsRow B2 5 1 (.slice (some ⟨g2, 0, none⟩) n c2) n (BV D.now)) :
    RefAt w 0 #[.slice (some ⟨g1, 0, none⟩) n c1, .slice (some ⟨g2, 0, none⟩) n c2, .slice none 0 0, .slice none 0 0, .bool false] D := by
  subst hn
  have hs : D.sure = D.now := by rw [hD]; rfl
  have hl : D.lo = [] := by rw [hD]; rfl
  have hc : D.cr = false := by rw [hD]; rfl
  refine ⟨some ⟨g1, 0, none⟩, c1, some ⟨g2, 0, none⟩, c2, none, 0, none, 0, ?_, own_base h1 (fun _ _ => Nat.zero_le _), ?_, ?_, ?_⟩
  · rw [hs, hl, hc]; rfl
  · rw [hs]; exact own_base h2 (fun _ _ => Nat.zero_le _)
  · rw [hl]; exact World.ownsRow_nil _ _ _ _
  · rw [hl]; exact World.ownsRow_nil _ _ _ _
theorem rs_num {w : World} {P : Nat → Prop} {v : Array Value} {S : SS} (h : RsAt w P v S) : ∃ (a0 : Option Addr) (n0 e0 : Nat) (a1 : Option Addr) (n1 e1 : Nat) (a2 : Option Addr) (n2 e2 : Nat) (a3 : Option Addr) (n3 e3 : Nat) (bc : Bool) (a7 : Option Addr) (n7 e7 : Nat) (ak : Option Addr) (nk ek : Nat), v = #[.slice a0 n0 e0, .slice a1 n1 e1, .slice a2 n2 e2, .slice a3 n3 e3, .bool bc, .int .i64 (S.half : Int), .int .i64 (S.used : Int), .slice a7 n7 e7, .int .i64 S.atR, .int .u64 (S.turn : Int), .slice ak nk ek] := by
  obtain ⟨sn, cn, ss, cs, sa, ca, sb, cb, sl, cl, vs, sk, ck, h1, _⟩ := h.out
  exact ⟨_, _, _, _, _, _, _, _, _, _, _, _, _, _, _, _, _, _, _, h1⟩

set_option maxHeartbeats 40000000 in
set_option maxRecDepth 10000 in
theorem storeCrash_walk (la : Option Addr) (len cap : Nat) (zs : List Int) (lb : Option Addr) (lenb capb : Nat) (ys : List UInt8) (left : Int) (set : Bool) (w : World) (hs : Sl w la len cap (IV zs)) (hwf : ∀ z ∈ zs, -9223372036854775808 ≤ z ∧ z ≤ 9223372036854775807) (hs2 : Sl w lb lenb capb (BV ys)) (hl1 : -9223372036854775808 ≤ left) (hl2 : left ≤ 9223372036854775807) :
    Calls Try.prog 3 #[.slice la len cap, .slice lb lenb capb, .int .i64 left, .bool set] w fun e w' => e = .returned (.bool true) ∧ Keeps (fun _ => False) w w' := by
  have HM := Lib.hid (made_any 400 w (by omega) (by omega))
  have HXY := Lib.hid (And.intro hs (And.intro hwf (And.intro hs2 (And.intro hl1 hl2))))
  clear hs hwf hs2 hl1 hl2
  go_enter Try.func3, Try.ntmps3
  go_wp2_with fail
  refine HM.out.mono ?_
  rintro e w1 ⟨p, pd, F0, Q0, rfl, hst, hk, hF, hQ⟩
  have HK := Lib.hid hk
  have HA := Lib.hid (acts_any la len cap zs w1 (HXY.out.1.quiet hk) HXY.out.2.1)
  have H1 := Lib.hid (And.intro hst (And.intro hF hQ))
  clear HM hst hk hF hQ
  go_wp2_with fail
  refine HA.out.mono ?_
  rintro e w2 ⟨sa, ca, rows, rfl, hmap, hat, hk⟩
  have HAT0 : Hid (At29 w w1 w2 w2 200 100 0 0 p pd (S0 400) F0 Q0) := Lib.hid (at_new (S0_good (H := 200) (Z := 100) (R := 0) rfl rfl (by omega)) H1.out.1 H1.out.2.1 H1.out.2.2 hk)
  have HK12 : Hid (Keeps (fun _ => False) w w2 ∧ w1.heap.size ≤ w2.heap.size ∧ w.heap.size ≤ w1.heap.size) := Lib.hid ⟨HK.out.quiet hk, hk.size, HK.out.size⟩
  have HRW := Lib.hid (rows_of (w := w) hmap hat)
  have hrl : rows.length ≤ 14 := by
    have := congrArg List.length hmap
    simp at this
    omega
  obtain ⟨N, hN⟩ : ∃ n, rows.length = n := ⟨_, rfl⟩
  rw [hN] at hrl HRW ⊢
  clear HA H1 hmap hat hk hN HK
  go_wp2_with fail
  go_loopw [12, 13, 14] (fun t y i wr => CrRel w w1 w2 N p pd t y i wr) (fun _ _ i _ => N - (intOf i).toNat)
  case atStart => exact ⟨0, S0 400, F0, Q0, none, 0, none, 0, [], Nat.zero_le _, rfl, rfl, rfl, HAT0.out, ⟨World.ownsRow_nil _ _ _ _, RowsS.nil _, by simp, Sl.none0 _, fun ad n c e h => (by cases e), fun j e => by cases e⟩⟩
  case round =>
    clear HAT0
    obtain ⟨k, S, F, Q, so, co, sk, ck, vs, hk, rfl, rfl, rfl, hat, htd⟩ := hrel
    have HX := Lib.hid hat
    have HT := Lib.hid htd
    clear hat htd
    by_cases hlt : k < N
    · obtain ⟨ga, doo, sb, nb, cb, bb, rfl, hbl, hac⟩ := HRW.out.at_ k hlt
      have HCA := Lib.hid hac
      obtain ⟨c0, c1, _, _⟩ := hac wr HX.out.kp
      have j1 : (0 : Int) ≤ (k : Int) := by omega
      have j2 : (k : Int) < (N : Int) := by omega
      by_cases h3 : doo > 2
      · have hnx : At29 w w1 w2 wr 200 100 0 (k + 1) p pd S F Q := ⟨HX.out.st, HX.out.good, by have := HX.out.turn; omega, HX.out.inF, HX.out.inQ, HX.out.kp⟩
        have HY := Lib.hid hnx
        clear hnx hac
        go_wp2
        go_roundw
        case rel => exact ⟨k + 1, S, F, Q, so, co, sk, ck, vs, hlt, by go_num, rfl, rfl, HY.out, HT.out⟩
        case measure => simp [intOf]; omega
      · have t3 : ¬ doo > 2 := h3
        have hbi : InR (Far w w1 w2) (.slice sb nb cb) := fun ad n c e h0 => by
          simp only [Value.slice.injEq] at e
          obtain ⟨e1, e2, e3⟩ := e
          have h9 := (hac wr HX.out.kp).2.2.2 ad e1 (by omega) (fun j => (w.heap.size ≤ j ∧ j < w1.heap.size) ∨ w2.heap.size ≤ j) (fun _ h => h)
          exact h9
        have hbn : bb.length = nb := by have := (hac wr HX.out.kp).2.2.1.len; simpa using this
        have hG := good_does HX.out.good (by have := HX.out.turn; omega) doo bb
        have hcs := does_cases HX.out.good (by have := HX.out.turn; omega) doo bb
        have HC := Lib.hid (does_any p pd S F Q wr HX.out.st doo sb nb cb bb (hac wr HX.out.kp).2.2.1 (by omega) (fun ad e h0 => (hac wr HX.out.kp).2.2.2 ad e h0 F HX.out.inF) (by rw [HX.out.good.lo]; simp) (by have := HX.out.turn; omega) (by have := HX.out.good.few; omega))
        generalize S.does doo bb = Y at *
        obtain ⟨S2, r2⟩ := Y
        dsimp only at hcs
        have HG2 := Lib.hid (And.intro hG (And.intro hbi hbn))
        clear hG hbi hbn hac h3
        go_wp2_with fail
        refine HC.out.mono ?_
        rintro e w3 ⟨rfl, F3, Q3, hst, hk3, hF3, hQ3⟩
        have hnx := HX.out.next hst HG2.out.1.1 (k + 1) (by have := HX.out.turn; have h9 : S2.turn ≤ S.turn + 1 := HG2.out.1.2; omega) hk3 hF3 hQ3
        have htk := HT.out.keep hk3 (fun j a => by have := HX.out.inF j a; exact fun h => h this) hF3 hQ3
        have HY := Lib.hid hnx
        have HTK := Lib.hid htk
        obtain ⟨c0', c1', hsl', _⟩ := HCA.out w3 hnx.kp
        have HSL := Lib.hid hsl'
        have hlt9 : ∀ j, F3 j ∨ Q3 j → j < w3.heap.size := fun j h => by obtain ⟨_, _, _, _, _, _, hs⟩ := hst; exact h.elim (hs.flt j) (hs.rlt j)
        have HLT9 := Lib.hid hlt9
        clear HC hst hk3 hF3 hQ3 c0 c1 hnx htk hsl' hlt9
        rcases hcs with ⟨rfl, rfl, er, ek⟩ | ⟨hd, rfl, er, ek⟩ | e3
        · have HTN := Lib.hid (HTK.out.key er ek HSL.out HG2.out.2.1 HG2.out.2.2)
          have hrl2 : S2.recs.length = S.recs.length := by rw [er]
          have hkl2 : S2.keys.length = nb := by rw [ek]; exact HG2.out.2.2
          have HQQ := Lib.hid (And.intro hrl2 hkl2)
          clear er ek hrl2 hkl2
          go_wp2
          go_roundw
          case rel => exact ⟨k + 1, S2, F3, Q3, so, co, sb, cb, vs, hlt, by go_num, by rw [HQQ.out.1], by rw [HQQ.out.2], HY.out, HTN.out⟩
          case measure => simp [intOf]; omega
        · have e2 : (doo == 2) = false := by simp [hd]
          have hrn := HX.out.good.few
          have hsz3 : w2.heap.size ≤ w3.heap.size := HY.out.kp.size
          have HED := Lib.hid (And.intro er ek)
          have hd2 : ¬ doo = 2 := hd
          clear er ek
          go_wp2_with (at_builtin; refine wpList_pushVat _ sb nb cb rfl _ _ rfl w2.heap.size so S.recs.length co vs rfl HTK.out.own rfl (by omega) hsz3 ?_; intro sa5 cap5 w5 hown5 hk5 hat5; have H5 := Lib.hid (And.intro hown5 (And.intro hk5 hat5)); clear hown5 hk5 hat5)
          have hA : ∀ j, so = some ⟨j, 0, none⟩ → ¬ Far w w1 w2 j := fun j e h => h (Or.inr (own_lt HTK.out.own e).1)
          have HTN := Lib.hid (HTK.out.more HLT9.out HED.out.1 HED.out.2 HG2.out.2.2 HSL.out HG2.out.2.1 hA H5.out.1 H5.out.2.1 H5.out.2.2)
          have hnx2 : At29 w w1 w2 w5 200 100 0 (k + 1) p pd S2 F3 Q3 := ⟨HY.out.st.keep H5.out.2.1 (fun j e => (HTK.out.ap j e).1) (fun j e => (HTK.out.ap j e).2), HY.out.good, HY.out.turn, HY.out.inF, HY.out.inQ, HY.out.kp.trans H5.out.2.1 (fun j hj e => by have := (own_lt HTK.out.own e).1; omega)⟩
          have HY2 := Lib.hid hnx2
          clear hnx2 hA
          go_roundw
          case rel => exact ⟨k + 1, S2, F3, Q3, sa5, cap5, sk, ck, _, hlt, by go_num, by rw [HED.out.1, List.length_append]; rfl, by rw [HED.out.2], HY2.out, HTN.out⟩
          case measure => simp [intOf]; omega
        · simp only [Prod.mk.injEq] at e3
          obtain ⟨rfl, rfl⟩ := e3
          go_wp2
          go_roundw
          case rel => exact ⟨k + 1, S2, F3, Q3, so, co, sk, ck, vs, hlt, by go_num, rfl, rfl, HY.out, HTK.out⟩
          case measure => simp [intOf]; omega
    · have j2 : ¬ (k : Int) < (N : Int) := by omega
      have hkw : Keeps (fun _ => False) w wr := HK12.out.1.trans HX.out.kp (fun j hj h => by omega)
      have hwz := HK12.out.1.size
      have hlt3 : ∀ j, F j ∨ Q j → w.heap.size ≤ j ∧ j < wr.heap.size := fun j h => by
        obtain ⟨_, _, _, _, _, _, hs⟩ := HX.out.st
        rcases h with h | h
        · exact ⟨(HX.out.inF j h).elim (fun a => a.1) (fun a => by omega), hs.flt j h⟩
        · exact ⟨(HX.out.inQ j h).elim (fun a => a.1) (fun a => by omega), hs.rlt j h⟩
      have HX2 := Lib.hid (And.intro HX.out.st (And.intro HX.out.good (And.intro (show S.turn ≤ 14 by have := HX.out.turn; omega) (And.intro hlt3 (fun j (a : F j) (h : Far w w1 w2 j) => h (HX.out.inF j a))))))
      have HKW := Lib.hid hkw
      have HWZ := Lib.hid (And.intro hkw.size HX.out.kp.size)
      have HW2 := Lib.hid HK12.out.1.size
      have HSO := Lib.hid (fun j (e : so = some ⟨j, 0, none⟩) => own_lt HT.out.own e)
      have HFW := Lib.hid (few_any lb lenb capb 20 ys wr (HXY.out.2.2.1.quiet hkw) (by omega))
      obtain ⟨fb, hfb⟩ : ∃ l, ys.take 20 = l := ⟨_, rfl⟩
      have hnfl : fb.length ≤ 20 := by rw [← hfb, List.length_take]; omega
      obtain ⟨nf, hnf⟩ : ∃ n, fb.length = n := ⟨_, rfl⟩
      rw [hfb, hnf] at HFW
      rw [hnf] at hnfl
      have HNF := Lib.hid hnf
      clear HX HRW HK12 hkw hwz hlt3 hfb hnf hk hrl
      go_wp2_with fail
      refine HFW.out.mono ?_
      rintro e w3 ⟨s3, c3, rfl, ho3, hk⟩
      have HWR := Lib.hid hk
      replace HKW := Lib.hid (HKW.out.quiet hk)
      replace HT := Lib.hid (HT.out.quiet hk)
      have HST := Lib.hid (HX2.out.1.quiet hk)
      have HO3 := Lib.hid ho3
      have HRM := Lib.hid (room_any p pd S F Q w3 HST.out)
      obtain ⟨rm, hrm⟩ : ∃ r, S.room = r := ⟨_, rfl⟩
      rw [hrm] at HRM
      have HRO := Lib.hid hrm
      clear HFW ho3 hk hrm
      go_wp2_with fail
      refine HRM.out.mono ?_
      rintro e w4 ⟨rfl, hk⟩
      replace HKW := Lib.hid (HKW.out.quiet hk)
      replace HWR := Lib.hid (HWR.out.quiet hk)
      replace HT := Lib.hid (HT.out.quiet hk)
      replace HST := Lib.hid (HST.out.quiet hk)
      replace HO3 := Lib.hid (own_keep HO3.out hk (fun _ _ h => h))
      have HRW := Lib.hid (fun (u : World) (h : StoreAt u p pd S F Q) => show Calls Try.prog 15 #[.pointer (some ⟨pd, 0, none⟩)] u fun e w' => ∃ g cap', e = .returned (.slice (some ⟨g, 0, none⟩) 400 cap') ∧ w'.ownsRow u.heap.size 5 1 (.slice (some ⟨g, 0, none⟩) 400 cap') 400 (BV S.d.now) ∧ Keeps (fun _ => False) u w' by
        obtain ⟨Fd, _, _, _, _, _, hs⟩ := h
        have h2 := raw_any pd S.d Fd u hs.disk hs.size
        rwa [show S.d.now.length = 400 from HX2.out.2.1.len] at h2)
      clear HRM hk
      go_wp2_with fail
      refine (HRW.out w4 HST.out).mono ?_
      rintro e w5 ⟨g5, c5, rfl, ho5, hk⟩
      replace HKW := Lib.hid (HKW.out.quiet hk)
      replace HWR := Lib.hid (HWR.out.quiet hk)
      replace HT := Lib.hid (HT.out.quiet hk)
      replace HST := Lib.hid (HST.out.quiet hk)
      replace HO3 := Lib.hid (own_keep HO3.out hk (fun _ _ h => h))
      have HO5 := Lib.hid ho5
      clear ho5 hk
      go_wp2_with fail
      refine (HRW.out w5 HST.out).mono ?_
      rintro e w6 ⟨g6, c6, rfl, ho6, hk⟩
      replace HKW := Lib.hid (HKW.out.quiet hk)
      replace HWR := Lib.hid (HWR.out.quiet hk)
      replace HT := Lib.hid (HT.out.quiet hk)
      replace HST := Lib.hid (HST.out.quiet hk)
      replace HO3 := Lib.hid (own_keep HO3.out hk (fun _ _ h => h))
      have hdd : S.d = DS.of S.d.now := by have := HX2.out.2.1.d; rw [this]; rfl
      have HRF := Lib.hid (refAt_raw hdd HX2.out.2.1.len (own_keep HO5.out hk (fun _ _ h => h)) ho6)
      clear ho6 hk HRW HO5
      have HOP := Lib.hid (refOpen_ok S.d _ w6 HRF.out (by rw [hdd]; rfl) (by rw [hdd]; show 0 ≤ 600000; omega) (by rw [HX2.out.2.1.len]; omega) (by rw [HX2.out.2.1.len]; omega))
      clear hdd
      go_wp2_with fail
      refine HOP.out.mono ?_
      rintro e w7 ⟨v7, rfl, hrs, hk⟩
      have hrs2 := hrs (fun _ => True) (fun _ _ _ _ => trivial) (fun _ _ => trivial)
      rw [good_open HX2.out.2.1] at hrs2
      obtain ⟨a0, n0, e0, a1, n1, e1, a2, n2, e2, a3, n3, e3, bc, a7, n7, e7, ak, nk, ek, rfl⟩ := rs_num hrs2
      replace HKW := Lib.hid (HKW.out.quiet hk)
      replace HWR := Lib.hid (HWR.out.quiet hk)
      replace HT := Lib.hid (HT.out.quiet hk)
      replace HST := Lib.hid (HST.out.quiet hk)
      replace HO3 := Lib.hid (own_keep HO3.out hk (fun _ _ h => h))
      have hhf : (S.half : Int) = 200 := by rw [HX2.out.2.1.half]; rfl
      rw [hhf]
      obtain ⟨us, hus⟩ : ∃ n, S.used = n := ⟨_, rfl⟩
      obtain ⟨ar, har⟩ : ∃ n, S.atR = n := ⟨_, rfl⟩
      obtain ⟨tn, htn⟩ : ∃ n, S.turn = n := ⟨_, rfl⟩
      rw [hus, har, htn]
      have HNU := Lib.hid (And.intro hus (And.intro har htn))
      clear hk hrs hrs2 HOP HRF hhf hus har htn
      obtain ⟨b8, hb8⟩ : ∃ b, w7.heap.size = b := ⟨_, rfl⟩
      obtain ⟨w8, hw8⟩ : ∃ v, w7.alloc (.cells #[.slice none 0 0, .slice none 0 0, .slice none 0 0, .slice none 0 0, .bool false, .int .i64 0, .int .i64 0, .slice none 0 0, .int .i64 0, .int .u64 0, .slice none 0 0] 41) = v := ⟨_, rfl⟩
      have q8 : w8.heap[b8]? = some (.cells #[.slice none 0 0, .slice none 0 0, .slice none 0 0, .slice none 0 0, .bool false, .int .i64 0, .int .i64 0, .slice none 0 0, .int .i64 0, .int .u64 0, .slice none 0 0] 41 (0, 0)) := by rw [← hw8, ← hb8]; exact World.alloc_heap_new w7 _
      have k8 : Keeps (fun _ => False) w7 w8 := by rw [← hw8]; exact (Keeps.refl _ w7).alloc _
      obtain ⟨w9, hw9⟩ : ∃ v, (((((((((((w8.setCell ⟨b8, 0, none⟩ (.slice a0 n0 e0)).setCell ⟨b8, 1, none⟩ (.slice a1 n1 e1)).setCell ⟨b8, 2, none⟩ (.slice a2 n2 e2)).setCell ⟨b8, 3, none⟩ (.slice a3 n3 e3)).setCell ⟨b8, 4, none⟩ (.bool bc)).setCell ⟨b8, 5, none⟩ (.int .i64 200)).setCell ⟨b8, 6, none⟩ (.int .i64 (us : Int))).setCell ⟨b8, 7, none⟩ (.slice a7 n7 e7)).setCell ⟨b8, 8, none⟩ (.int .i64 ar)).setCell ⟨b8, 9, none⟩ (.int .u64 (tn : Int))).setCell ⟨b8, 10, none⟩ (.slice ak nk ek)) = v := ⟨_, rfl⟩
      have h88 := heap_eleven q8 (.slice a0 n0 e0) (.slice a1 n1 e1) (.slice a2 n2 e2) (.slice a3 n3 e3) (.bool bc) (.int .i64 200) (.int .i64 (us : Int)) (.slice a7 n7 e7) (.int .i64 ar) (.int .u64 (tn : Int)) (.slice ak nk ek)
      have k9 := keeps_eleven w8 b8 (.slice a0 n0 e0) (.slice a1 n1 e1) (.slice a2 n2 e2) (.slice a3 n3 e3) (.bool bc) (.int .i64 200) (.int .i64 (us : Int)) (.slice a7 n7 e7) (.int .i64 ar) (.int .u64 (tn : Int)) (.slice ak nk ek)
      rw [hw9] at h88 k9
      have d0 := cellAt q8 0
      have f0 := freeAt q8 0
      have g0_ := cellAt h88 0
      have d1 := cellAt q8 1
      have f1 := freeAt q8 1
      have g1_ := cellAt h88 1
      have d2 := cellAt q8 2
      have f2 := freeAt q8 2
      have g2_ := cellAt h88 2
      have d3 := cellAt q8 3
      have f3 := freeAt q8 3
      have g3_ := cellAt h88 3
      have d4 := cellAt q8 4
      have f4 := freeAt q8 4
      have g4_ := cellAt h88 4
      have d5 := cellAt q8 5
      have f5 := freeAt q8 5
      have g5_ := cellAt h88 5
      have d6 := cellAt q8 6
      have f6 := freeAt q8 6
      have g6_ := cellAt h88 6
      have d7 := cellAt q8 7
      have f7 := freeAt q8 7
      have g7_ := cellAt h88 7
      have d8 := cellAt q8 8
      have f8 := freeAt q8 8
      have g8_ := cellAt h88 8
      have d9 := cellAt q8 9
      have f9 := freeAt q8 9
      have g9_ := cellAt h88 9
      have d10 := cellAt q8 10
      have f10 := freeAt q8 10
      have g10_ := cellAt h88 10
      simp at d0 g0_ d1 g1_ d2 g2_ d3 g3_ d4 g4_ d5 g5_ d6 g6_ d7 g7_ d8 g8_ d9 g9_ d10 g10_
      have hkw : Keeps (fun _ => False) w7 w9 := k8.trans k9 (fun j hj e => by have e' : j = b8 := e; omega)
      replace HKW := Lib.hid (HKW.out.quiet hkw)
      replace HWR := Lib.hid (HWR.out.quiet hkw)
      replace HT := Lib.hid (HT.out.quiet hkw)
      replace HST := Lib.hid (HST.out.quiet hkw)
      replace HO3 := Lib.hid (own_keep HO3.out hkw (fun _ _ h => h))
      clear q8 k8 h88 k9 hkw
      have HKR := Lib.hid (And.intro hnfl HWR.out.size)
      clear HWR
      have HRC := Lib.hid (refRecord_any s3 nf c3 fb w9 (Sl.of_own HO3.out) (by omega))
      go_wp2_with fail
      refine HRC.out.mono ?_
      rintro e w10 ⟨sf, cf, rfl, hof, hk⟩
      have hnf14 : nf ≤ 20 := HKR.out.1
      obtain ⟨gf, rfl⟩ := own_some hof (by omega)
      have G5 := (hk.cell (World.block_lt_of_cell? _ _ g5_) (fun h => h)).trans g5_
      have G8 := (hk.cell (World.block_lt_of_cell? _ _ g8_) (fun h => h)).trans g8_
      have G9 := (hk.cell (World.block_lt_of_cell? _ _ g9_) (fun h => h)).trans g9_
      replace HKW := Lib.hid (HKW.out.quiet hk)
      replace HT := Lib.hid (HT.out.quiet hk)
      replace HST := Lib.hid (HST.out.quiet hk)
      replace HO3 := Lib.hid (own_keep HO3.out hk (fun _ _ h => h))
      have HZ9 := Lib.hid hk.size
      clear HRC hk
      by_cases hset : set = true
      · subst hset
        by_cases hset : ar = 0
        · subst hset
          have hot : S.other = 1 := by unfold SS.other; rw [HNU.out.2.1]; rfl
          obtain ⟨t1, ht1⟩ : ∃ t, tn + 1 = t := ⟨_, rfl⟩
          have htb : tn ≤ 14 := by rw [← HNU.out.2.2]; exact HX2.out.2.2.1
          have hu1 : (tn : Int) + 1 = (t1 : Int) := by omega
          have hu2 : IntKind.u64.wrap (t1 : Int) = (t1 : Int) := IntWalk.u64_in _ (by omega)
          have HRC := Lib.hid (refKeys_any t1 s3 nf c3 fb w10 (by unfold U64; omega) (Sl.of_own HO3.out) (by omega))
          clear hof
          go_wp2_with fail
          refine HRC.out.mono ?_
          rintro e w11 ⟨sf, cf2, rfl, hof, hk⟩
          replace HKW := Lib.hid (HKW.out.quiet hk)
          replace HT := Lib.hid (HT.out.quiet hk)
          replace HST := Lib.hid (HST.out.quiet hk)
          replace HO3 := Lib.hid (own_keep HO3.out hk (fun _ _ h => h))
          clear HRC hk hu1 hu2
          obtain ⟨g2, rfl⟩ := own_some hof (by omega)
          obtain ⟨f, hf⟩ : ∃ f, keyF t1 fb = f := ⟨_, rfl⟩
          obtain ⟨m, hm⟩ : ∃ m, nf + 14 = m := ⟨_, rfl⟩
          have hfl : f.length = m := by rw [← hf, ← hm, keyF_length, HNF.out]
          rw [hf, hm] at hof
          rw [hm]
          have hmb : m ≤ 40 := by omega
          have hm10 : 10 ≤ m := by omega
          have HP : Hid (∀ k, k ≤ m → ((openS (crashed S (200 + 1 * 100) f k)).recs = S.recs ∧ (torn f k = f → (openS (crashed S (200 + 1 * 100) f k)).keys = fb) ∧ ((plOf (torn f k) 0 (torn f k).length).1 = 0 → (openS (crashed S (200 + 1 * 100) f k)).keys = S.keys))) := Lib.hid (fun k hk => by
            have h9 := crash_key HX2.out.2.1 fb (by rw [HNF.out]; omega) (by rw [HNF.out]; omega) (by rw [HNU.out.2.2]; omega) k (by rw [HNU.out.2.2, ht1, hf, hfl]; exact hk)
            rw [HNU.out.2.2, ht1, hf, hot] at h9
            exact h9)
          have hat : (200 + 1 * 100) + m ≤ 400 := by omega
          have HOF := Lib.hid hof
          have HFM := Lib.hid hfl
          clear hof hf hm hfl hot htb ht1
          obtain ⟨Fd, _, _, _, _, _, hstA⟩ := HST.out
          have hfd : ∀ j, Fd j → F j := fun j h => (hstA.foot j).2 (Or.inr (Or.inl h))
          have hwz2 := HZ9.out
          have hgf := own_lt HOF.out rfl
          have HFD := Lib.hid (fun j (h : Fd j) => And.intro (hfd j h) (HX2.out.2.2.2.1 j (Or.inl (hfd j h))))
          have hdd : S.d = DS.of S.d.now := by have := HX2.out.2.1.d; rw [this]; rfl
          have h94 := HWZ.out
          have hg3 := HKR.out
          have HW := Lib.hid (write_ok pd (200 + 1 * 100) f m (some ⟨g2, 0, none⟩) g2 0 cf2 S.d Fd w11 hstA.disk (by rw [hdd]; rfl) HFM.out (fun _ => rfl) (fun j c h => by rw [Nat.zero_add]; exact own_cell HOF.out j _ (by rw [BV_get, h]; rfl)) (fun _ hf => by have := (HFD.out g2 hf).2.2; omega) (by rw [HX2.out.2.1.len]; exact hat) (by rw [HX2.out.2.1.len]; omega) (by rw [hdd]; show 0 ≤ 1000000; omega))
          replace HT := Lib.hid (HT.out.weak (F' := Fd) (Q' := fun _ => False) hfd (fun _ h => h.elim))
          have HDD := Lib.hid hdd
          clear hstA hfd hwz2 hgf hdd HST
          go_wp2_with fail
          have hn3 : ∀ j, (Value.slice s3 nf c3).ownBlock = some j → ¬ Fd j ∧ j < w11.heap.size := fun j e => ⟨fun h => by have h1 := (HO3.out.lt j e).1; have h2 := (HFD.out j h).2.2; omega, (HO3.out.lt j e).2⟩
          have hnf3 : ¬ Fd g2 ∧ g2 < w11.heap.size := ⟨fun h => by have h1 := (own_lt HOF.out rfl).1; have h2 := (HFD.out g2 h).2.2; have h3 := HZ9.out; omega, (own_lt HOF.out rfl).2⟩
          have HN3 := Lib.hid (And.intro hn3 hnf3)
          clear hn3 hnf3 h94 hg3
          refine HW.out.mono ?_
          rintro e w12 ⟨rfl, F6, hd6, hk6, hf6⟩
          have HZ12 := Lib.hid hk6.size
          replace HKW := Lib.hid (HKW.out.trans hk6 (fun j hj h => by have := (HFD.out j h).2.1; omega))
          have hzw : w2.heap.size ≤ w11.heap.size := by have h1 := HWZ.out.2; have h2 := HKR.out.2; have h3 := HZ9.out; have h4 := own_lt HOF.out rfl; omega
          replace HT := Lib.hid (HT.out.keep hk6 (fun j a => HX2.out.2.2.2.2 j (HFD.out j a).1) hf6 (Q' := fun _ => False) (fun _ h => h.elim))
          replace HO3 := Lib.hid (own_keep HO3.out hk6 (fun j e => (HN3.out.1 j e).1))
          replace HOF := Lib.hid (own_keep HOF.out hk6 (fun j e => by have e2 := form_own HOF.out e; simp at e2; rw [← e2]; exact HN3.out.2.1))
          have HF6 : Hid ((∀ j, F6 j → w.heap.size ≤ j ∧ ¬ Far w w1 w2 j) ∧ (∀ j, (Value.slice s3 nf c3).ownBlock = some j → ¬ F6 j) ∧ ¬ F6 g2) := Lib.hid ⟨fun j a => (hf6 j a).elim (fun h => ⟨(HFD.out j h).2.1, HX2.out.2.2.2.2 j (HFD.out j h).1⟩) (fun h => ⟨by have hz1 := HWZ.out.1; have hz2 := HWZ.out.2; have hz3 := own_lt HOF.out rfl; have hz4 := HKR.out.2; have hz5 := HZ9.out; have hz6 := HN3.out.2.2; omega, fun hf => hf (Or.inr (by omega))⟩), fun j e a => (hf6 j a).elim (HN3.out.1 j e).1 (fun h => by have := (HN3.out.1 j e).2; omega), fun a => (hf6 _ a).elim HN3.out.2.1 (fun h => by have := HN3.out.2.2; omega)⟩
          obtain ⟨m1, hm1⟩ : ∃ x, m + 1 = x := ⟨_, rfl⟩
          have u1 : (m : Int) + 1 = (m1 : Int) := by omega
          have u2 : IntKind.i64.wrap (m1 : Int) = (m1 : Int) := IntWalk.i64_in _ (by omega)
          obtain ⟨cut, hcut, _, hc1⟩ := around_nat left m1 w12 HXY.out.2.2.2.1 HXY.out.2.2.2.2 (by omega) (by omega)
          have HC := Lib.hid hc1
          have hlo6 : (S.d.write (200 + 1 * 100) f).lo = mkLo (200 + 1 * 100) f := by rw [HDD.out]; rfl
          have hnl6 : (S.d.write (200 + 1 * 100) f).now.length = 400 := by rw [write_len _ _ _ (by rw [HFM.out, HX2.out.2.1.len]; exact hat), HX2.out.2.1.len]
          have HAG := Lib.hid (again_any pd (cut : Int) (S.d.write (200 + 1 * 100) f) F6 w12 hd6 (by rw [HDD.out]; rfl) (by rw [hlo6, mkLo_length, HFM.out]; omega) (fun x hx => by rw [hlo6] at hx; have := mkLo_lt hx; rw [hnl6]; rw [HFM.out] at this; omega) (by rw [hnl6, HDD.out]; exact HX2.out.2.1.len) (by rw [hnl6]; omega) (by rw [hnl6]; omega))
          have hcm : cut ≤ m := by omega
          clear HW hd6 hk6 hf6 hzw hc1 hlo6 hnl6 HFD HDD hm1 hcut
          go_wp2_with fail
          refine HC.out.mono ?_
          rintro e _ ⟨rfl, rfl⟩
          clear HC u1 u2
          go_wp2_with fail
          refine HAG.out.mono ?_
          rintro e w13 ⟨q, t, Fx, Qx, rfl, hst, hk, hFx, hQx⟩
          have hst2 : StoreAt w13 t q (openS (crashed S (200 + 1 * 100) f cut)) Fx Qx := hst
          have HPC := Lib.hid (HP.out cut hcm)
          obtain ⟨O, hO⟩ : ∃ O, openS (crashed S (200 + 1 * 100) f cut) = O := ⟨_, rfl⟩
          rw [hO] at HPC hst2
          have HSX := Lib.hid hst2
          replace HKW := Lib.hid (HKW.out.trans hk (fun j hj h => by have := (HF6.out.1 j h).1; omega))
          replace HT := Lib.hid (HT.out.keep hk (fun j a => (HF6.out.1 j a).2) (F' := fun _ => False) (fun _ h => h.elim) (Q' := fun _ => False) (fun _ h => h.elim))
          replace HO3 := Lib.hid (own_keep HO3.out hk (fun j e => HF6.out.2.1 j e))
          replace HOF := Lib.hid (own_keep HOF.out hk (fun j e => by have e2 := form_own HOF.out e; simp at e2; rw [← e2]; exact HF6.out.2.2))
          have HRC := Lib.hid (records_any t q O Fx Qx w13 hst2)
          have hz13 : wr.heap.size ≤ w12.heap.size ∧ wr.heap.size ≤ w13.heap.size := by have h1 := HKR.out.2; have h2 := HZ9.out; have h3 := HN3.out.2.2; have h4 := (own_lt HOF.out rfl).1; have h5 := hk.size; have h6 := HZ12.out; omega
          have HZ13 := Lib.hid hz13.2
          have HFX := Lib.hid (fun j (h : Fx j ∨ Qx j) => h.elim (fun a => Nat.le_trans hz13.1 (hFx j a)) (fun a => Nat.le_trans hz13.1 (hQx j a)))
          clear HAG hst hst2 hk hFx hQx hO HP HF6 HN3 hz13
          go_wp2_with fail
          refine HRC.out.mono ?_
          rintro e w14 ⟨sg, cg, vg, rfl, hog, hrg, hk⟩
          replace HKW := Lib.hid (HKW.out.quiet hk)
          replace HT := Lib.hid (HT.out.quiet hk)
          replace HSX := Lib.hid (HSX.out.quiet hk)
          replace HO3 := Lib.hid (own_keep HO3.out hk (fun _ _ h => h))
          replace HOF := Lib.hid (own_keep HOF.out hk (fun _ _ h => h))
          obtain ⟨ng, hng⟩ : ∃ n, O.recs.length = n := ⟨_, rfl⟩
          rw [hng] at hog
          rw [hng]
          have HOG := Lib.hid (And.intro hog hrg)
          clear HRC hog hrg hk hng
          obtain ⟨k2, hk2⟩ : ∃ x, m - cut = x := ⟨_, rfl⟩
          have u3 : (m : Int) - (cut : Int) = (k2 : Int) := by omega
          have u4 : IntKind.i64.wrap (k2 : Int) = (k2 : Int) := IntWalk.i64_in _ (by omega)
          have hcf := (Sl.of_own HOF.out).le
          have u5 : ¬ cf2 = 0 := by omega
          have u6 : (cut : Int) ≤ (cf2 : Int) := by omega
          have u7 : (0 : Int) ≤ (cut : Int) := by omega
          have u8_ : cut ≤ cf2 := by omega
          have HFL := Lib.hid (show (f.take cut).length = cut by rw [List.length_take, HFM.out]; omega)
          go_wp2_with (at_builtin; first
            | (refine wpList_newB rfl _ _ rfl rfl (some ⟨g2, 0, none⟩) cut cf2 (f.take cut) rfl (by rw [← BV_take]; exact (Sl.of_own HOF.out).upto (by omega)) (by omega) ?_; intro s15 c15 w15 hown15 hk15; have H15 := Lib.hid (And.intro hown15 hk15); clear hown15 hk15)
            | (refine wpList_zerosB rfl _ _ rfl w14.heap.size s15 cut c15 (f.take cut) rfl H15.out.1 k2 rfl (by omega) (by omega) H15.out.2.size ?_
               intro s16 c16 w16 hown16 hk16
               have H16 := Lib.hid (And.intro hown16 (H15.out.2.trans hk16 (fun j hj e => by have := (own_lt H15.out.1 e).1; omega)))
               clear hown16 hk16))
          have e9 : cut + k2 = m := by omega
          rw [e9] at H16 ⊢
          obtain ⟨X, hX⟩ : ∃ X, f.take cut ++ List.replicate k2 0 = X := ⟨_, rfl⟩
          have hXt : torn f cut = X := by rw [← hX]; unfold torn; rw [HFM.out, hk2]
          rw [hX] at H16
          rw [hXt] at HPC
          have hXl : X.length = m := by rw [← hXt, torn_length _ _ (by rw [HFM.out]; exact hcm), HFM.out]
          rw [hXl] at HPC
          have HXX := Lib.hid (Sl.of_own H16.out.1)
          replace HKW := Lib.hid (HKW.out.quiet H16.out.2)
          replace HT := Lib.hid (HT.out.quiet H16.out.2)
          replace HSX := Lib.hid (HSX.out.quiet H16.out.2)
          replace HO3 := Lib.hid (own_keep HO3.out H16.out.2 (fun _ _ h => h))
          replace HOG := Lib.hid (And.intro (own_keep HOG.out.1 H16.out.2 (fun _ _ h => h)) (HOG.out.2.quiet H16.out.2))
          have cv1 := run_strSl HXX.out
          have cv2 := run_strSl (own_keep HOF.out H16.out.2 (fun _ _ h => h) |> Sl.of_own)
          rw [cv1]
          clear e9 hX hXt hXl H15 H16 u3 u4 u5 u6 u7 u8_ HFL hk2 hcf HOF
          by_cases hall : X = f
          · have eS : ((strOf X).toList == (strOf f).toList) = true := by rw [hall]; exact beq_self_eq_true _
            clear HXX
            have HEQ := Lib.hid (And.intro HPC.out.1 (HPC.out.2.1 hall))
            have HSM := Lib.hid (sameR_any sg so ng S.recs.length cg co vg vs O.recs S.recs w16 (Sl.of_own HOG.out.1) HOG.out.2.reads (Sl.of_own HT.out.own) HT.out.rows)
            rw [show decide (O.recs = S.recs) = true from decide_eq_true HEQ.out.1] at HSM
            go_wp2_with fail
            refine HSM.out.mono ?_
            rintro e w20 ⟨rfl, hk⟩
            replace HKW := Lib.hid (HKW.out.quiet hk)
            replace HSX := Lib.hid (HSX.out.quiet hk)
            have HKY := Lib.hid (HT.out.keys.quiet hk)
            have HFW := Lib.hid (Sl.of_own (own_keep HO3.out hk (fun _ _ h => h)))
            clear HSM hk HOG HT HO3
            obtain ⟨K, hK⟩ : ∃ K, S.keys = K := ⟨_, rfl⟩
            obtain ⟨nk2, hnk2⟩ : ∃ n, K.length = n := ⟨_, rfl⟩
            rw [hK] at HKY ⊢
            rw [hnk2] at HKY ⊢
            have HKC : Hid (∀ u : World, StoreAt u t q O Fx Qx → Calls Try.prog 25 #[.pointer (some ⟨t, 0, none⟩)] u fun e w' => ∃ sa c, e = .returned (.slice sa nf c) ∧ Sl w' sa nf c (BV fb) ∧ Keeps (fun _ => False) u w') := Lib.hid (fun u h => by
              have h2 := keys_any t q O Fx Qx u h
              rw [HEQ.out.2, HNF.out] at h2
              exact h2.mono fun e w' ⟨sa, c, a1, a2, a3⟩ => ⟨sa, c, a1, Sl.of_own a2, a3⟩)
            have eK : ((strOf fb).toList == (strOf fb).toList) = true := beq_self_eq_true _
            clear hK hnk2
            obtain ⟨rr, hrr⟩ : ∃ r, ((strOf fb).toList == (strOf K).toList) = r := ⟨_, rfl⟩
            go_wp2_with fail
            by_cases hrt : rr = true
            · subst hrt
              obtain ⟨v0, hdr⟩ : ∃ v, World.drew w20 = v := ⟨_, rfl⟩
              have hk : Keeps (fun _ => False) w20 v0 := by rw [← hdr]; exact (Keeps.refl _ _).drew
              replace HKW := Lib.hid (HKW.out.quiet hk)
              replace HSX := Lib.hid (HSX.out.quiet hk)
              replace HFW := Lib.hid (HFW.out.quiet hk)
              replace HKY := Lib.hid (HKY.out.quiet hk)
              refine z_begin (fun w' => Keeps (fun _ => False) (World.drew w20) w') 28 (by kernel_rfl) (Keeps.refl _ _) (fun hHeld => ?_)
              rw [hdr] at hHeld ⊢
              clear hk hdr
              refine z_take 0 (v := ?_) rfl (by kernel_rfl) (by kernel_rfl) (by kernel_rfl) (by kernel_rfl) (fun _ _ _ h => h) hHeld (by rfl) (fun w hSw => ?_) ?_
              rotate_left
              · clear hSw; simp only [List.getElem_toArray, List.getElem_cons_zero]; go_simp; try rfl
              simp only [Act.put, List.getElem_toArray, List.getElem_cons_zero, List.setIfInBounds_toArray, List.set_cons_zero, List.set_cons_succ]
              refine z_take 1 (v := ?_) rfl (by kernel_rfl) (by kernel_rfl) (by kernel_rfl) (by kernel_rfl) (fun _ _ _ h => h) hHeld (by rfl) (fun w hSw => ?_) ?_
              rotate_left
              · clear hSw; simp only [List.getElem_toArray, List.getElem_cons_zero, List.getElem_cons_succ]; go_simp; try rfl
              simp only [Act.put, List.getElem_toArray, List.getElem_cons_zero, List.getElem_cons_succ, List.setIfInBounds_toArray, List.set_cons_zero, List.set_cons_succ]
              refine z_take 2 (v := ?_) rfl (by kernel_rfl) (by kernel_rfl) (by kernel_rfl) (by kernel_rfl) (fun _ _ _ h => h) hHeld (by rfl) (fun w hSw => ?_) ?_
              rotate_left
              · clear hSw; simp only [List.getElem_toArray, List.getElem_cons_zero, List.getElem_cons_succ]; go_simp; try rfl
              simp only [Act.put, List.getElem_toArray, List.getElem_cons_zero, List.getElem_cons_succ, List.setIfInBounds_toArray, List.set_cons_zero, List.set_cons_succ]
              refine z_take 5 (v := ?_) rfl (by kernel_rfl) (by kernel_rfl) (by kernel_rfl) (by kernel_rfl) (fun _ _ _ h => h) hHeld (by rfl) (fun w hSw => ?_) ?_
              rotate_left
              · clear hSw; simp only [List.getElem_toArray, List.getElem_cons_zero, List.getElem_cons_succ]; go_simp; try rfl
              simp only [Act.put, List.getElem_toArray, List.getElem_cons_zero, List.getElem_cons_succ, List.setIfInBounds_toArray, List.set_cons_zero, List.set_cons_succ]
              refine z_take 6 (v := ?_) rfl (by kernel_rfl) (by kernel_rfl) (by kernel_rfl) (by kernel_rfl) (fun _ _ _ h => h) hHeld (by rfl) (fun w hSw => ?_) ?_
              rotate_left
              · have cv := run_strSl (HKY.out.quiet hSw); clear hSw; simp only [List.getElem_toArray, List.getElem_cons_zero, List.getElem_cons_succ]; go_simp; try rfl
              simp only [Act.put, List.getElem_toArray, List.getElem_cons_zero, List.getElem_cons_succ, List.setIfInBounds_toArray, List.set_cons_zero, List.set_cons_succ]
              refine z_one 3 rfl (by kernel_rfl) (by rfl) (fun K hK => ?_)
              simp only [List.getElem_toArray, List.getElem_cons_zero, List.getElem_cons_succ]
              go_simp
              refine (HKC.out v0 HSX.out).mono ?_
              rintro e y1 ⟨s1, c1, rfl, hsl, hk⟩
              refine hK _ _ (Or.inr (hHeld.trans hk (fun _ _ h => h.elim))) (fun hHeld => ?_)
              clear hK K
              replace hHeld := hHeld.resolve_left (by decide)
              try simp only [Act.put, List.setIfInBounds_toArray, List.set_cons_zero, List.set_cons_succ]
              replace HKW := Lib.hid (HKW.out.quiet hk)
              replace HSX := Lib.hid (HSX.out.quiet hk)
              replace HFW := Lib.hid (HFW.out.quiet hk)
              have L1 := Lib.hid hsl
              clear hsl
              refine z_more (fun w' => Keeps (fun _ => False) y1 w') (fun w' h => hHeld.trans h (fun _ _ h => h)) _ _ _ _ ?_
              clear hHeld
              have hHeld : Keeps (fun _ => False) y1 y1 := Keeps.refl _ _
              clear hk
              refine z_take 4 (v := ?_) rfl (by kernel_rfl) (by kernel_rfl) (by kernel_rfl) (by kernel_rfl) (fun _ _ _ h => h) hHeld (by rfl) (fun w hSw => ?_) ?_
              rotate_left
              · have cv := run_strSl (L1.out.quiet hSw); clear hSw; simp only [List.getElem_toArray, List.getElem_cons_zero, List.getElem_cons_succ]; go_simp; try rfl
              simp only [Act.put, List.getElem_toArray, List.getElem_cons_zero, List.getElem_cons_succ, List.setIfInBounds_toArray, List.set_cons_zero, List.set_cons_succ]
              refine z_take 7 (v := ?_) rfl (by kernel_rfl) (by kernel_rfl) (by kernel_rfl) (by kernel_rfl) (fun _ _ _ h => h) hHeld (by rfl) (fun w hSw => ?_) ?_
              rotate_left
              · clear hSw; simp only [List.getElem_toArray, List.getElem_cons_zero, List.getElem_cons_succ]; go_simp; try rfl
              simp only [Act.put, List.getElem_toArray, List.getElem_cons_zero, List.getElem_cons_succ, List.setIfInBounds_toArray, List.set_cons_zero, List.set_cons_succ]
              refine z_take 8 (v := ?_) rfl (by kernel_rfl) (by kernel_rfl) (by kernel_rfl) (by kernel_rfl) (fun _ _ _ h => h) hHeld (by rfl) (fun w hSw => ?_) ?_
              rotate_left
              · clear hSw; simp only [List.getElem_toArray, List.getElem_cons_zero, List.getElem_cons_succ]; go_simp; try rfl
              simp only [Act.put, List.getElem_toArray, List.getElem_cons_zero, List.getElem_cons_succ, List.setIfInBounds_toArray, List.set_cons_zero, List.set_cons_succ]
              refine z_take 9 (v := ?_) rfl (by kernel_rfl) (by kernel_rfl) (by kernel_rfl) (by kernel_rfl) (fun _ _ _ h => h) hHeld (by rfl) (fun w hSw => ?_) ?_
              rotate_left
              · clear hSw; simp only [List.getElem_toArray, List.getElem_cons_zero, List.getElem_cons_succ]; go_simp; try rfl
              simp only [Act.put, List.getElem_toArray, List.getElem_cons_zero, List.getElem_cons_succ, List.setIfInBounds_toArray, List.set_cons_zero, List.set_cons_succ]
              refine z_take 10 (v := ?_) rfl (by kernel_rfl) (by kernel_rfl) (by kernel_rfl) (by kernel_rfl) (fun _ _ _ h => h) hHeld (by rfl) (fun w hSw => ?_) ?_
              rotate_left
              · clear hSw; simp only [List.getElem_toArray, List.getElem_cons_zero, List.getElem_cons_succ]; go_simp; try rfl
              simp only [Act.put, List.getElem_toArray, List.getElem_cons_zero, List.getElem_cons_succ, List.setIfInBounds_toArray, List.set_cons_zero, List.set_cons_succ]
              refine z_take 11 (v := ?_) rfl (by kernel_rfl) (by kernel_rfl) (by kernel_rfl) (by kernel_rfl) (fun _ _ _ h => h) hHeld (by rfl) (fun w hSw => ?_) ?_
              rotate_left
              · clear hSw; simp only [List.getElem_toArray, List.getElem_cons_zero, List.getElem_cons_succ]; go_simp; try rfl
              simp only [Act.put, List.getElem_toArray, List.getElem_cons_zero, List.getElem_cons_succ, List.setIfInBounds_toArray, List.set_cons_zero, List.set_cons_succ]
              refine z_take 12 (v := ?_) rfl (by kernel_rfl) (by kernel_rfl) (by kernel_rfl) (by kernel_rfl) (fun _ _ _ h => h) hHeld (by rfl) (fun w hSw => ?_) ?_
              rotate_left
              · clear hSw; simp only [List.getElem_toArray, List.getElem_cons_zero, List.getElem_cons_succ]; go_simp; try rfl
              simp only [Act.put, List.getElem_toArray, List.getElem_cons_zero, List.getElem_cons_succ, List.setIfInBounds_toArray, List.set_cons_zero, List.set_cons_succ]
              refine z_take 13 (v := ?_) rfl (by kernel_rfl) (by kernel_rfl) (by kernel_rfl) (by kernel_rfl) (fun _ _ _ h => h) hHeld (by rfl) (fun w hSw => ?_) ?_
              rotate_left
              · clear hSw; simp only [List.getElem_toArray, List.getElem_cons_zero, List.getElem_cons_succ]; go_simp; try rfl
              simp only [Act.put, List.getElem_toArray, List.getElem_cons_zero, List.getElem_cons_succ, List.setIfInBounds_toArray, List.set_cons_zero, List.set_cons_succ]
              refine z_take 16 (v := ?_) rfl (by kernel_rfl) (by kernel_rfl) (by kernel_rfl) (by kernel_rfl) (fun _ _ _ h => h) hHeld (by rfl) (fun w hSw => ?_) ?_
              rotate_left
              · clear hSw; simp only [List.getElem_toArray, List.getElem_cons_zero, List.getElem_cons_succ]; go_simp; try rfl
              simp only [Act.put, List.getElem_toArray, List.getElem_cons_zero, List.getElem_cons_succ, List.setIfInBounds_toArray, List.set_cons_zero, List.set_cons_succ]
              refine z_take 17 (v := ?_) rfl (by kernel_rfl) (by kernel_rfl) (by kernel_rfl) (by kernel_rfl) (fun _ _ _ h => h) hHeld (by rfl) (fun w hSw => ?_) ?_
              rotate_left
              · have cv := run_strSl (HFW.out.quiet hSw); clear hSw; simp only [List.getElem_toArray, List.getElem_cons_zero, List.getElem_cons_succ]; go_simp; try rfl
              simp only [Act.put, List.getElem_toArray, List.getElem_cons_zero, List.getElem_cons_succ, List.setIfInBounds_toArray, List.set_cons_zero, List.set_cons_succ]
              refine z_one 14 rfl (by kernel_rfl) (by rfl) (fun K hK => ?_)
              simp only [List.getElem_toArray, List.getElem_cons_zero, List.getElem_cons_succ]
              go_simp
              refine (HKC.out y1 HSX.out).mono ?_
              rintro e y2 ⟨s2, c2, rfl, hsl, hk⟩
              refine hK _ _ (Or.inr (hHeld.trans hk (fun _ _ h => h.elim))) (fun hHeld => ?_)
              clear hK K
              replace hHeld := hHeld.resolve_left (by decide)
              try simp only [Act.put, List.setIfInBounds_toArray, List.set_cons_zero, List.set_cons_succ]
              replace HKW := Lib.hid (HKW.out.quiet hk)
              replace HSX := Lib.hid (HSX.out.quiet hk)
              replace HFW := Lib.hid (HFW.out.quiet hk)
              have L2 := Lib.hid hsl
              clear hsl
              refine z_more (fun w' => Keeps (fun _ => False) y2 w') (fun w' h => hHeld.trans h (fun _ _ h => h)) _ _ _ _ ?_
              clear hHeld
              have hHeld : Keeps (fun _ => False) y2 y2 := Keeps.refl _ _
              clear hk
              refine z_take 15 (v := ?_) rfl (by kernel_rfl) (by kernel_rfl) (by kernel_rfl) (by kernel_rfl) (fun _ _ _ h => h) hHeld (by rfl) (fun w hSw => ?_) ?_
              rotate_left
              · have cv := run_strSl (L2.out.quiet hSw); clear hSw; simp only [List.getElem_toArray, List.getElem_cons_zero, List.getElem_cons_succ]; go_simp; try rfl
              simp only [Act.put, List.getElem_toArray, List.getElem_cons_zero, List.getElem_cons_succ, List.setIfInBounds_toArray, List.set_cons_zero, List.set_cons_succ]
              refine z_take 18 (v := ?_) rfl (by kernel_rfl) (by kernel_rfl) (by kernel_rfl) (by kernel_rfl) (fun _ _ _ h => h) hHeld (by rfl) (fun w hSw => ?_) ?_
              rotate_left
              · clear hSw; simp only [List.getElem_toArray, List.getElem_cons_zero, List.getElem_cons_succ]; go_simp; try rfl
              simp only [Act.put, List.getElem_toArray, List.getElem_cons_zero, List.getElem_cons_succ, List.setIfInBounds_toArray, List.set_cons_zero, List.set_cons_succ]
              refine z_take 19 (v := ?_) rfl (by kernel_rfl) (by kernel_rfl) (by kernel_rfl) (by kernel_rfl) (fun _ _ _ h => h) hHeld (by rfl) (fun w hSw => ?_) ?_
              rotate_left
              · clear hSw; simp only [List.getElem_toArray, List.getElem_cons_zero, List.getElem_cons_succ]; go_simp; try rfl
              simp only [Act.put, List.getElem_toArray, List.getElem_cons_zero, List.getElem_cons_succ, List.setIfInBounds_toArray, List.set_cons_zero, List.set_cons_succ]
              refine z_take 20 (v := ?_) rfl (by kernel_rfl) (by kernel_rfl) (by kernel_rfl) (by kernel_rfl) (fun _ _ _ h => h) hHeld (by rfl) (fun w hSw => ?_) ?_
              rotate_left
              · clear hSw; simp only [List.getElem_toArray, List.getElem_cons_zero, List.getElem_cons_succ]; go_simp; try rfl
              simp only [Act.put, List.getElem_toArray, List.getElem_cons_zero, List.getElem_cons_succ, List.setIfInBounds_toArray, List.set_cons_zero, List.set_cons_succ]
              refine z_take 21 (v := ?_) rfl (by kernel_rfl) (by kernel_rfl) (by kernel_rfl) (by kernel_rfl) (fun _ _ _ h => h) hHeld (by rfl) (fun w hSw => ?_) ?_
              rotate_left
              · clear hSw; simp only [List.getElem_toArray, List.getElem_cons_zero, List.getElem_cons_succ]; go_simp; try rfl
              simp only [Act.put, List.getElem_toArray, List.getElem_cons_zero, List.getElem_cons_succ, List.setIfInBounds_toArray, List.set_cons_zero, List.set_cons_succ]
              refine z_take 22 (v := ?_) rfl (by kernel_rfl) (by kernel_rfl) (by kernel_rfl) (by kernel_rfl) (fun _ _ _ h => h) hHeld (by rfl) (fun w hSw => ?_) ?_
              rotate_left
              · clear hSw; simp only [List.getElem_toArray, List.getElem_cons_zero, List.getElem_cons_succ]; go_simp; try rfl
              simp only [Act.put, List.getElem_toArray, List.getElem_cons_zero, List.getElem_cons_succ, List.setIfInBounds_toArray, List.set_cons_zero, List.set_cons_succ]
              refine z_take 23 (v := ?_) rfl (by kernel_rfl) (by kernel_rfl) (by kernel_rfl) (by kernel_rfl) (fun _ _ _ h => h) hHeld (by rfl) (fun w hSw => ?_) ?_
              rotate_left
              · clear hSw; simp only [List.getElem_toArray, List.getElem_cons_zero, List.getElem_cons_succ]; go_simp; try rfl
              simp only [Act.put, List.getElem_toArray, List.getElem_cons_zero, List.getElem_cons_succ, List.setIfInBounds_toArray, List.set_cons_zero, List.set_cons_succ]
              refine z_take 24 (v := ?_) rfl (by kernel_rfl) (by kernel_rfl) (by kernel_rfl) (by kernel_rfl) (fun _ _ _ h => h) hHeld (by rfl) (fun w hSw => ?_) ?_
              rotate_left
              · clear hSw; simp only [List.getElem_toArray, List.getElem_cons_zero, List.getElem_cons_succ]; go_simp; try rfl
              simp only [Act.put, List.getElem_toArray, List.getElem_cons_zero, List.getElem_cons_succ, List.setIfInBounds_toArray, List.set_cons_zero, List.set_cons_succ]
              refine z_one 25 rfl (by kernel_rfl) (by rfl) (fun K hK => ?_)
              simp only [List.getElem_toArray, List.getElem_cons_zero, List.getElem_cons_succ]
              go_simp
              refine (lives_any y2).mono ?_
              rintro e y3 ⟨rfl, hk⟩
              refine hK _ _ (Or.inr (hHeld.trans hk (fun _ _ h => h.elim))) (fun hHeld => ?_)
              clear hK K
              replace hHeld := hHeld.resolve_left (by decide)
              try simp only [Act.put, List.setIfInBounds_toArray, List.set_cons_zero, List.set_cons_succ]
              replace HKW := Lib.hid (HKW.out.quiet hk)
              replace HSX := Lib.hid (HSX.out.quiet hk)
              replace HFW := Lib.hid (HFW.out.quiet hk)
              refine z_more (fun w' => Keeps (fun _ => False) y3 w') (fun w' h => hHeld.trans h (fun _ _ h => h)) _ _ _ _ ?_
              clear hHeld
              have hHeld : Keeps (fun _ => False) y3 y3 := Keeps.refl _ _
              clear hk
              refine z_take 26 (v := ?_) rfl (by kernel_rfl) (by kernel_rfl) (by kernel_rfl) (by kernel_rfl) (fun _ _ _ h => h) hHeld (by rfl) (fun w hSw => ?_) ?_
              rotate_left
              · clear hSw; simp only [List.getElem_toArray, List.getElem_cons_zero, List.getElem_cons_succ]; go_simp; try rfl
              simp only [Act.put, List.getElem_toArray, List.getElem_cons_zero, List.getElem_cons_succ, List.setIfInBounds_toArray, List.set_cons_zero, List.set_cons_succ]
              refine z_take 27 (v := ?_) rfl (by kernel_rfl) (by kernel_rfl) (by kernel_rfl) (by kernel_rfl) (fun _ _ _ h => h) hHeld (by rfl) (fun w hSw => ?_) ?_
              rotate_left
              · clear hSw; simp only [List.getElem_toArray, List.getElem_cons_zero, List.getElem_cons_succ]; go_simp; try rfl
              simp only [Act.put, List.getElem_toArray, List.getElem_cons_zero, List.getElem_cons_succ, List.setIfInBounds_toArray, List.set_cons_zero, List.set_cons_succ]
              refine z_done (by kernel_rfl) ?_ _
              clear hHeld
              go_wp2
              go_ret
              exact ⟨rfl, HKW.out⟩
            · obtain rfl : rr = false := by simpa using hrt
              clear hrt
              obtain ⟨v0, hdr⟩ : ∃ v, World.drew w20 = v := ⟨_, rfl⟩
              have hk : Keeps (fun _ => False) w20 v0 := by rw [← hdr]; exact (Keeps.refl _ _).drew
              replace HKW := Lib.hid (HKW.out.quiet hk)
              replace HSX := Lib.hid (HSX.out.quiet hk)
              replace HFW := Lib.hid (HFW.out.quiet hk)
              replace HKY := Lib.hid (HKY.out.quiet hk)
              refine z_begin (fun w' => Keeps (fun _ => False) (World.drew w20) w') 28 (by kernel_rfl) (Keeps.refl _ _) (fun hHeld => ?_)
              rw [hdr] at hHeld ⊢
              clear hk hdr
              refine z_take 0 (v := ?_) rfl (by kernel_rfl) (by kernel_rfl) (by kernel_rfl) (by kernel_rfl) (fun _ _ _ h => h) hHeld (by rfl) (fun w hSw => ?_) ?_
              rotate_left
              · clear hSw; simp only [List.getElem_toArray, List.getElem_cons_zero]; go_simp; try rfl
              simp only [Act.put, List.getElem_toArray, List.getElem_cons_zero, List.setIfInBounds_toArray, List.set_cons_zero, List.set_cons_succ]
              refine z_take 1 (v := ?_) rfl (by kernel_rfl) (by kernel_rfl) (by kernel_rfl) (by kernel_rfl) (fun _ _ _ h => h) hHeld (by rfl) (fun w hSw => ?_) ?_
              rotate_left
              · clear hSw; simp only [List.getElem_toArray, List.getElem_cons_zero, List.getElem_cons_succ]; go_simp; try rfl
              simp only [Act.put, List.getElem_toArray, List.getElem_cons_zero, List.getElem_cons_succ, List.setIfInBounds_toArray, List.set_cons_zero, List.set_cons_succ]
              refine z_take 2 (v := ?_) rfl (by kernel_rfl) (by kernel_rfl) (by kernel_rfl) (by kernel_rfl) (fun _ _ _ h => h) hHeld (by rfl) (fun w hSw => ?_) ?_
              rotate_left
              · clear hSw; simp only [List.getElem_toArray, List.getElem_cons_zero, List.getElem_cons_succ]; go_simp; try rfl
              simp only [Act.put, List.getElem_toArray, List.getElem_cons_zero, List.getElem_cons_succ, List.setIfInBounds_toArray, List.set_cons_zero, List.set_cons_succ]
              refine z_take 5 (v := ?_) rfl (by kernel_rfl) (by kernel_rfl) (by kernel_rfl) (by kernel_rfl) (fun _ _ _ h => h) hHeld (by rfl) (fun w hSw => ?_) ?_
              rotate_left
              · clear hSw; simp only [List.getElem_toArray, List.getElem_cons_zero, List.getElem_cons_succ]; go_simp; try rfl
              simp only [Act.put, List.getElem_toArray, List.getElem_cons_zero, List.getElem_cons_succ, List.setIfInBounds_toArray, List.set_cons_zero, List.set_cons_succ]
              refine z_take 6 (v := ?_) rfl (by kernel_rfl) (by kernel_rfl) (by kernel_rfl) (by kernel_rfl) (fun _ _ _ h => h) hHeld (by rfl) (fun w hSw => ?_) ?_
              rotate_left
              · have cv := run_strSl (HKY.out.quiet hSw); clear hSw; simp only [List.getElem_toArray, List.getElem_cons_zero, List.getElem_cons_succ]; go_simp; try rfl
              simp only [Act.put, List.getElem_toArray, List.getElem_cons_zero, List.getElem_cons_succ, List.setIfInBounds_toArray, List.set_cons_zero, List.set_cons_succ]
              refine z_one 3 rfl (by kernel_rfl) (by rfl) (fun K hK => ?_)
              simp only [List.getElem_toArray, List.getElem_cons_zero, List.getElem_cons_succ]
              go_simp
              refine (HKC.out v0 HSX.out).mono ?_
              rintro e y1 ⟨s1, c1, rfl, hsl, hk⟩
              refine hK _ _ (Or.inr (hHeld.trans hk (fun _ _ h => h.elim))) (fun hHeld => ?_)
              clear hK K
              replace hHeld := hHeld.resolve_left (by decide)
              try simp only [Act.put, List.setIfInBounds_toArray, List.set_cons_zero, List.set_cons_succ]
              replace HKW := Lib.hid (HKW.out.quiet hk)
              replace HSX := Lib.hid (HSX.out.quiet hk)
              replace HFW := Lib.hid (HFW.out.quiet hk)
              have L1 := Lib.hid hsl
              clear hsl
              refine z_more (fun w' => Keeps (fun _ => False) y1 w') (fun w' h => hHeld.trans h (fun _ _ h => h)) _ _ _ _ ?_
              clear hHeld
              have hHeld : Keeps (fun _ => False) y1 y1 := Keeps.refl _ _
              clear hk
              refine z_take 4 (v := ?_) rfl (by kernel_rfl) (by kernel_rfl) (by kernel_rfl) (by kernel_rfl) (fun _ _ _ h => h) hHeld (by rfl) (fun w hSw => ?_) ?_
              rotate_left
              · have cv := run_strSl (L1.out.quiet hSw); clear hSw; simp only [List.getElem_toArray, List.getElem_cons_zero, List.getElem_cons_succ]; go_simp; try rfl
              simp only [Act.put, List.getElem_toArray, List.getElem_cons_zero, List.getElem_cons_succ, List.setIfInBounds_toArray, List.set_cons_zero, List.set_cons_succ]
              refine z_take 7 (v := ?_) rfl (by kernel_rfl) (by kernel_rfl) (by kernel_rfl) (by kernel_rfl) (fun _ _ _ h => h) hHeld (by rfl) (fun w hSw => ?_) ?_
              rotate_left
              · clear hSw; simp only [List.getElem_toArray, List.getElem_cons_zero, List.getElem_cons_succ]; go_simp; try rfl
              simp only [Act.put, List.getElem_toArray, List.getElem_cons_zero, List.getElem_cons_succ, List.setIfInBounds_toArray, List.set_cons_zero, List.set_cons_succ]
              refine z_take 8 (v := ?_) rfl (by kernel_rfl) (by kernel_rfl) (by kernel_rfl) (by kernel_rfl) (fun _ _ _ h => h) hHeld (by rfl) (fun w hSw => ?_) ?_
              rotate_left
              · clear hSw; simp only [List.getElem_toArray, List.getElem_cons_zero, List.getElem_cons_succ]; go_simp; try rfl
              simp only [Act.put, List.getElem_toArray, List.getElem_cons_zero, List.getElem_cons_succ, List.setIfInBounds_toArray, List.set_cons_zero, List.set_cons_succ]
              refine z_skip 9 rfl (by kernel_rfl) (by kernel_rfl) (by kernel_rfl) (by kernel_rfl) (fun _ _ _ h => h) hHeld (by rfl) ?_
              simp only [Act.put, List.getElem_toArray, List.getElem_cons_zero, List.getElem_cons_succ, List.setIfInBounds_toArray, List.set_cons_zero, List.set_cons_succ]
              refine z_skip 10 rfl (by kernel_rfl) (by kernel_rfl) (by kernel_rfl) (by kernel_rfl) (fun _ _ _ h => h) hHeld (by rfl) ?_
              simp only [Act.put, List.getElem_toArray, List.getElem_cons_zero, List.getElem_cons_succ, List.setIfInBounds_toArray, List.set_cons_zero, List.set_cons_succ]
              refine z_take 11 (v := ?_) rfl (by kernel_rfl) (by kernel_rfl) (by kernel_rfl) (by kernel_rfl) (fun _ _ _ h => h) hHeld (by rfl) (fun w hSw => ?_) ?_
              rotate_left
              · clear hSw; simp only [List.getElem_toArray, List.getElem_cons_zero, List.getElem_cons_succ]; go_simp; try rfl
              simp only [Act.put, List.getElem_toArray, List.getElem_cons_zero, List.getElem_cons_succ, List.setIfInBounds_toArray, List.set_cons_zero, List.set_cons_succ]
              refine z_take 12 (v := ?_) rfl (by kernel_rfl) (by kernel_rfl) (by kernel_rfl) (by kernel_rfl) (fun _ _ _ h => h) hHeld (by rfl) (fun w hSw => ?_) ?_
              rotate_left
              · clear hSw; simp only [List.getElem_toArray, List.getElem_cons_zero, List.getElem_cons_succ]; go_simp; try rfl
              simp only [Act.put, List.getElem_toArray, List.getElem_cons_zero, List.getElem_cons_succ, List.setIfInBounds_toArray, List.set_cons_zero, List.set_cons_succ]
              refine z_take 13 (v := ?_) rfl (by kernel_rfl) (by kernel_rfl) (by kernel_rfl) (by kernel_rfl) (fun _ _ _ h => h) hHeld (by rfl) (fun w hSw => ?_) ?_
              rotate_left
              · clear hSw; simp only [List.getElem_toArray, List.getElem_cons_zero, List.getElem_cons_succ]; go_simp; try rfl
              simp only [Act.put, List.getElem_toArray, List.getElem_cons_zero, List.getElem_cons_succ, List.setIfInBounds_toArray, List.set_cons_zero, List.set_cons_succ]
              refine z_take 16 (v := ?_) rfl (by kernel_rfl) (by kernel_rfl) (by kernel_rfl) (by kernel_rfl) (fun _ _ _ h => h) hHeld (by rfl) (fun w hSw => ?_) ?_
              rotate_left
              · clear hSw; simp only [List.getElem_toArray, List.getElem_cons_zero, List.getElem_cons_succ]; go_simp; try rfl
              simp only [Act.put, List.getElem_toArray, List.getElem_cons_zero, List.getElem_cons_succ, List.setIfInBounds_toArray, List.set_cons_zero, List.set_cons_succ]
              refine z_take 17 (v := ?_) rfl (by kernel_rfl) (by kernel_rfl) (by kernel_rfl) (by kernel_rfl) (fun _ _ _ h => h) hHeld (by rfl) (fun w hSw => ?_) ?_
              rotate_left
              · have cv := run_strSl (HFW.out.quiet hSw); clear hSw; simp only [List.getElem_toArray, List.getElem_cons_zero, List.getElem_cons_succ]; go_simp; try rfl
              simp only [Act.put, List.getElem_toArray, List.getElem_cons_zero, List.getElem_cons_succ, List.setIfInBounds_toArray, List.set_cons_zero, List.set_cons_succ]
              refine z_one 14 rfl (by kernel_rfl) (by rfl) (fun K hK => ?_)
              simp only [List.getElem_toArray, List.getElem_cons_zero, List.getElem_cons_succ]
              go_simp
              refine (HKC.out y1 HSX.out).mono ?_
              rintro e y2 ⟨s2, c2, rfl, hsl, hk⟩
              refine hK _ _ (Or.inr (hHeld.trans hk (fun _ _ h => h.elim))) (fun hHeld => ?_)
              clear hK K
              replace hHeld := hHeld.resolve_left (by decide)
              try simp only [Act.put, List.setIfInBounds_toArray, List.set_cons_zero, List.set_cons_succ]
              replace HKW := Lib.hid (HKW.out.quiet hk)
              replace HSX := Lib.hid (HSX.out.quiet hk)
              replace HFW := Lib.hid (HFW.out.quiet hk)
              have L2 := Lib.hid hsl
              clear hsl
              refine z_more (fun w' => Keeps (fun _ => False) y2 w') (fun w' h => hHeld.trans h (fun _ _ h => h)) _ _ _ _ ?_
              clear hHeld
              have hHeld : Keeps (fun _ => False) y2 y2 := Keeps.refl _ _
              clear hk
              refine z_take 15 (v := ?_) rfl (by kernel_rfl) (by kernel_rfl) (by kernel_rfl) (by kernel_rfl) (fun _ _ _ h => h) hHeld (by rfl) (fun w hSw => ?_) ?_
              rotate_left
              · have cv := run_strSl (L2.out.quiet hSw); clear hSw; simp only [List.getElem_toArray, List.getElem_cons_zero, List.getElem_cons_succ]; go_simp; try rfl
              simp only [Act.put, List.getElem_toArray, List.getElem_cons_zero, List.getElem_cons_succ, List.setIfInBounds_toArray, List.set_cons_zero, List.set_cons_succ]
              refine z_take 18 (v := ?_) rfl (by kernel_rfl) (by kernel_rfl) (by kernel_rfl) (by kernel_rfl) (fun _ _ _ h => h) hHeld (by rfl) (fun w hSw => ?_) ?_
              rotate_left
              · clear hSw; simp only [List.getElem_toArray, List.getElem_cons_zero, List.getElem_cons_succ]; go_simp; try rfl
              simp only [Act.put, List.getElem_toArray, List.getElem_cons_zero, List.getElem_cons_succ, List.setIfInBounds_toArray, List.set_cons_zero, List.set_cons_succ]
              refine z_take 19 (v := ?_) rfl (by kernel_rfl) (by kernel_rfl) (by kernel_rfl) (by kernel_rfl) (fun _ _ _ h => h) hHeld (by rfl) (fun w hSw => ?_) ?_
              rotate_left
              · clear hSw; simp only [List.getElem_toArray, List.getElem_cons_zero, List.getElem_cons_succ]; go_simp; try rfl
              simp only [Act.put, List.getElem_toArray, List.getElem_cons_zero, List.getElem_cons_succ, List.setIfInBounds_toArray, List.set_cons_zero, List.set_cons_succ]
              refine z_take 20 (v := ?_) rfl (by kernel_rfl) (by kernel_rfl) (by kernel_rfl) (by kernel_rfl) (fun _ _ _ h => h) hHeld (by rfl) (fun w hSw => ?_) ?_
              rotate_left
              · clear hSw; simp only [List.getElem_toArray, List.getElem_cons_zero, List.getElem_cons_succ]; go_simp; try rfl
              simp only [Act.put, List.getElem_toArray, List.getElem_cons_zero, List.getElem_cons_succ, List.setIfInBounds_toArray, List.set_cons_zero, List.set_cons_succ]
              refine z_take 21 (v := ?_) rfl (by kernel_rfl) (by kernel_rfl) (by kernel_rfl) (by kernel_rfl) (fun _ _ _ h => h) hHeld (by rfl) (fun w hSw => ?_) ?_
              rotate_left
              · clear hSw; simp only [List.getElem_toArray, List.getElem_cons_zero, List.getElem_cons_succ]; go_simp; try rfl
              simp only [Act.put, List.getElem_toArray, List.getElem_cons_zero, List.getElem_cons_succ, List.setIfInBounds_toArray, List.set_cons_zero, List.set_cons_succ]
              refine z_take 22 (v := ?_) rfl (by kernel_rfl) (by kernel_rfl) (by kernel_rfl) (by kernel_rfl) (fun _ _ _ h => h) hHeld (by rfl) (fun w hSw => ?_) ?_
              rotate_left
              · clear hSw; simp only [List.getElem_toArray, List.getElem_cons_zero, List.getElem_cons_succ]; go_simp; try rfl
              simp only [Act.put, List.getElem_toArray, List.getElem_cons_zero, List.getElem_cons_succ, List.setIfInBounds_toArray, List.set_cons_zero, List.set_cons_succ]
              refine z_take 23 (v := ?_) rfl (by kernel_rfl) (by kernel_rfl) (by kernel_rfl) (by kernel_rfl) (fun _ _ _ h => h) hHeld (by rfl) (fun w hSw => ?_) ?_
              rotate_left
              · clear hSw; simp only [List.getElem_toArray, List.getElem_cons_zero, List.getElem_cons_succ]; go_simp; try rfl
              simp only [Act.put, List.getElem_toArray, List.getElem_cons_zero, List.getElem_cons_succ, List.setIfInBounds_toArray, List.set_cons_zero, List.set_cons_succ]
              refine z_take 24 (v := ?_) rfl (by kernel_rfl) (by kernel_rfl) (by kernel_rfl) (by kernel_rfl) (fun _ _ _ h => h) hHeld (by rfl) (fun w hSw => ?_) ?_
              rotate_left
              · clear hSw; simp only [List.getElem_toArray, List.getElem_cons_zero, List.getElem_cons_succ]; go_simp; try rfl
              simp only [Act.put, List.getElem_toArray, List.getElem_cons_zero, List.getElem_cons_succ, List.setIfInBounds_toArray, List.set_cons_zero, List.set_cons_succ]
              refine z_one 25 rfl (by kernel_rfl) (by rfl) (fun K hK => ?_)
              simp only [List.getElem_toArray, List.getElem_cons_zero, List.getElem_cons_succ]
              go_simp
              refine (lives_any y2).mono ?_
              rintro e y3 ⟨rfl, hk⟩
              refine hK _ _ (Or.inr (hHeld.trans hk (fun _ _ h => h.elim))) (fun hHeld => ?_)
              clear hK K
              replace hHeld := hHeld.resolve_left (by decide)
              try simp only [Act.put, List.setIfInBounds_toArray, List.set_cons_zero, List.set_cons_succ]
              replace HKW := Lib.hid (HKW.out.quiet hk)
              replace HSX := Lib.hid (HSX.out.quiet hk)
              replace HFW := Lib.hid (HFW.out.quiet hk)
              refine z_more (fun w' => Keeps (fun _ => False) y3 w') (fun w' h => hHeld.trans h (fun _ _ h => h)) _ _ _ _ ?_
              clear hHeld
              have hHeld : Keeps (fun _ => False) y3 y3 := Keeps.refl _ _
              clear hk
              refine z_take 26 (v := ?_) rfl (by kernel_rfl) (by kernel_rfl) (by kernel_rfl) (by kernel_rfl) (fun _ _ _ h => h) hHeld (by rfl) (fun w hSw => ?_) ?_
              rotate_left
              · clear hSw; simp only [List.getElem_toArray, List.getElem_cons_zero, List.getElem_cons_succ]; go_simp; try rfl
              simp only [Act.put, List.getElem_toArray, List.getElem_cons_zero, List.getElem_cons_succ, List.setIfInBounds_toArray, List.set_cons_zero, List.set_cons_succ]
              refine z_take 27 (v := ?_) rfl (by kernel_rfl) (by kernel_rfl) (by kernel_rfl) (by kernel_rfl) (fun _ _ _ h => h) hHeld (by rfl) (fun w hSw => ?_) ?_
              rotate_left
              · clear hSw; simp only [List.getElem_toArray, List.getElem_cons_zero, List.getElem_cons_succ]; go_simp; try rfl
              simp only [Act.put, List.getElem_toArray, List.getElem_cons_zero, List.getElem_cons_succ, List.setIfInBounds_toArray, List.set_cons_zero, List.set_cons_succ]
              refine z_done (by kernel_rfl) ?_ _
              clear hHeld
              go_wp2
              go_ret
              exact ⟨rfl, HKW.out⟩
          · have eS : ((strOf X).toList == (strOf f).toList) = false := by rw [strl, strl]; exact beq_false_of_ne hall
            obtain ⟨st, hst⟩ : ∃ st, decide (0 < (plOf X 0 m).1) = st := ⟨_, rfl⟩
            have HSD := Lib.hid (refStands_key s16 m c16 X w16 HXX.out hm10 (by omega))
            rw [hst] at HSD
            have HS0 := Lib.hid hst
            clear HXX hst
            go_wp2_with fail
            refine HSD.out.mono ?_
            rintro e w17 ⟨rfl, hk⟩
            replace HKW := Lib.hid (HKW.out.quiet hk)
            replace HT := Lib.hid (HT.out.quiet hk)
            replace HSX := Lib.hid (HSX.out.quiet hk)
            replace HOG := Lib.hid (And.intro (own_keep HOG.out.1 hk (fun _ _ h => h)) (HOG.out.2.quiet hk))
            replace HO3 := Lib.hid (own_keep HO3.out hk (fun _ _ h => h))
            clear HSD hk
            by_cases hst : st = true
            · subst hst
              go_wp2_with fail
              refine (lives_any _).mono ?_
              rintro e w99 ⟨rfl, hk99⟩
              replace HKW := Lib.hid (HKW.out.quiet hk99)
              go_wp2
              go_ret
              exact ⟨rfl, HKW.out⟩
            · obtain rfl : st = false := by simpa using hst
              have HEQ := Lib.hid (And.intro HPC.out.1 (HPC.out.2.2 (by have h1 := HS0.out; simp at h1; exact h1)))
              have HSM := Lib.hid (sameR_any sg so ng S.recs.length cg co vg vs O.recs S.recs w17 (Sl.of_own HOG.out.1) HOG.out.2.reads (Sl.of_own HT.out.own) HT.out.rows)
              rw [show decide (O.recs = S.recs) = true from decide_eq_true HEQ.out.1] at HSM
              go_wp2_with fail
              refine HSM.out.mono ?_
              rintro e w20 ⟨rfl, hk⟩
              replace HKW := Lib.hid (HKW.out.quiet hk)
              replace HSX := Lib.hid (HSX.out.quiet hk)
              have HKY := Lib.hid (HT.out.keys.quiet hk)
              have HFW := Lib.hid (Sl.of_own (own_keep HO3.out hk (fun _ _ h => h)))
              clear HSM hk HOG HT HO3
              obtain ⟨K, hK⟩ : ∃ K, S.keys = K := ⟨_, rfl⟩
              obtain ⟨nk2, hnk2⟩ : ∃ n, K.length = n := ⟨_, rfl⟩
              rw [hK] at HKY HEQ ⊢
              rw [hnk2] at HKY ⊢
              have HKC : Hid (∀ u : World, StoreAt u t q O Fx Qx → Calls Try.prog 25 #[.pointer (some ⟨t, 0, none⟩)] u fun e w' => ∃ sa c, e = .returned (.slice sa nk2 c) ∧ Sl w' sa nk2 c (BV K) ∧ Keeps (fun _ => False) u w') := Lib.hid (fun u h => by
                have h2 := keys_any t q O Fx Qx u h
                rw [HEQ.out.2, hnk2] at h2
                exact h2.mono fun e w' ⟨sa, c, a1, a2, a3⟩ => ⟨sa, c, a1, Sl.of_own a2, a3⟩)
              have eK : ((strOf K).toList == (strOf K).toList) = true := beq_self_eq_true _
              clear hK hnk2
              go_wp2_with fail
              obtain ⟨v0, hdr⟩ : ∃ v, World.drew w20 = v := ⟨_, rfl⟩
              have hk : Keeps (fun _ => False) w20 v0 := by rw [← hdr]; exact (Keeps.refl _ _).drew
              replace HKW := Lib.hid (HKW.out.quiet hk)
              replace HSX := Lib.hid (HSX.out.quiet hk)
              replace HFW := Lib.hid (HFW.out.quiet hk)
              replace HKY := Lib.hid (HKY.out.quiet hk)
              refine z_begin (fun w' => Keeps (fun _ => False) (World.drew w20) w') 28 (by kernel_rfl) (Keeps.refl _ _) (fun hHeld => ?_)
              rw [hdr] at hHeld ⊢
              clear hk hdr
              refine z_take 0 (v := ?_) rfl (by kernel_rfl) (by kernel_rfl) (by kernel_rfl) (by kernel_rfl) (fun _ _ _ h => h) hHeld (by rfl) (fun w hSw => ?_) ?_
              rotate_left
              · clear hSw; simp only [List.getElem_toArray, List.getElem_cons_zero]; go_simp; try rfl
              simp only [Act.put, List.getElem_toArray, List.getElem_cons_zero, List.setIfInBounds_toArray, List.set_cons_zero, List.set_cons_succ]
              refine z_take 1 (v := ?_) rfl (by kernel_rfl) (by kernel_rfl) (by kernel_rfl) (by kernel_rfl) (fun _ _ _ h => h) hHeld (by rfl) (fun w hSw => ?_) ?_
              rotate_left
              · clear hSw; simp only [List.getElem_toArray, List.getElem_cons_zero, List.getElem_cons_succ]; go_simp; try rfl
              simp only [Act.put, List.getElem_toArray, List.getElem_cons_zero, List.getElem_cons_succ, List.setIfInBounds_toArray, List.set_cons_zero, List.set_cons_succ]
              refine z_take 2 (v := ?_) rfl (by kernel_rfl) (by kernel_rfl) (by kernel_rfl) (by kernel_rfl) (fun _ _ _ h => h) hHeld (by rfl) (fun w hSw => ?_) ?_
              rotate_left
              · clear hSw; simp only [List.getElem_toArray, List.getElem_cons_zero, List.getElem_cons_succ]; go_simp; try rfl
              simp only [Act.put, List.getElem_toArray, List.getElem_cons_zero, List.getElem_cons_succ, List.setIfInBounds_toArray, List.set_cons_zero, List.set_cons_succ]
              refine z_take 5 (v := ?_) rfl (by kernel_rfl) (by kernel_rfl) (by kernel_rfl) (by kernel_rfl) (fun _ _ _ h => h) hHeld (by rfl) (fun w hSw => ?_) ?_
              rotate_left
              · clear hSw; simp only [List.getElem_toArray, List.getElem_cons_zero, List.getElem_cons_succ]; go_simp; try rfl
              simp only [Act.put, List.getElem_toArray, List.getElem_cons_zero, List.getElem_cons_succ, List.setIfInBounds_toArray, List.set_cons_zero, List.set_cons_succ]
              refine z_take 6 (v := ?_) rfl (by kernel_rfl) (by kernel_rfl) (by kernel_rfl) (by kernel_rfl) (fun _ _ _ h => h) hHeld (by rfl) (fun w hSw => ?_) ?_
              rotate_left
              · have cv := run_strSl (HKY.out.quiet hSw); clear hSw; simp only [List.getElem_toArray, List.getElem_cons_zero, List.getElem_cons_succ]; go_simp; try rfl
              simp only [Act.put, List.getElem_toArray, List.getElem_cons_zero, List.getElem_cons_succ, List.setIfInBounds_toArray, List.set_cons_zero, List.set_cons_succ]
              refine z_one 3 rfl (by kernel_rfl) (by rfl) (fun K hK => ?_)
              simp only [List.getElem_toArray, List.getElem_cons_zero, List.getElem_cons_succ]
              go_simp
              refine (HKC.out v0 HSX.out).mono ?_
              rintro e y1 ⟨s1, c1, rfl, hsl, hk⟩
              refine hK _ _ (Or.inr (hHeld.trans hk (fun _ _ h => h.elim))) (fun hHeld => ?_)
              clear hK K
              replace hHeld := hHeld.resolve_left (by decide)
              try simp only [Act.put, List.setIfInBounds_toArray, List.set_cons_zero, List.set_cons_succ]
              replace HKW := Lib.hid (HKW.out.quiet hk)
              replace HSX := Lib.hid (HSX.out.quiet hk)
              replace HFW := Lib.hid (HFW.out.quiet hk)
              have L1 := Lib.hid hsl
              clear hsl
              refine z_more (fun w' => Keeps (fun _ => False) y1 w') (fun w' h => hHeld.trans h (fun _ _ h => h)) _ _ _ _ ?_
              clear hHeld
              have hHeld : Keeps (fun _ => False) y1 y1 := Keeps.refl _ _
              clear hk
              refine z_take 4 (v := ?_) rfl (by kernel_rfl) (by kernel_rfl) (by kernel_rfl) (by kernel_rfl) (fun _ _ _ h => h) hHeld (by rfl) (fun w hSw => ?_) ?_
              rotate_left
              · have cv := run_strSl (L1.out.quiet hSw); clear hSw; simp only [List.getElem_toArray, List.getElem_cons_zero, List.getElem_cons_succ]; go_simp; try rfl
              simp only [Act.put, List.getElem_toArray, List.getElem_cons_zero, List.getElem_cons_succ, List.setIfInBounds_toArray, List.set_cons_zero, List.set_cons_succ]
              refine z_take 7 (v := ?_) rfl (by kernel_rfl) (by kernel_rfl) (by kernel_rfl) (by kernel_rfl) (fun _ _ _ h => h) hHeld (by rfl) (fun w hSw => ?_) ?_
              rotate_left
              · clear hSw; simp only [List.getElem_toArray, List.getElem_cons_zero, List.getElem_cons_succ]; go_simp; try rfl
              simp only [Act.put, List.getElem_toArray, List.getElem_cons_zero, List.getElem_cons_succ, List.setIfInBounds_toArray, List.set_cons_zero, List.set_cons_succ]
              refine z_take 8 (v := ?_) rfl (by kernel_rfl) (by kernel_rfl) (by kernel_rfl) (by kernel_rfl) (fun _ _ _ h => h) hHeld (by rfl) (fun w hSw => ?_) ?_
              rotate_left
              · clear hSw; simp only [List.getElem_toArray, List.getElem_cons_zero, List.getElem_cons_succ]; go_simp; try rfl
              simp only [Act.put, List.getElem_toArray, List.getElem_cons_zero, List.getElem_cons_succ, List.setIfInBounds_toArray, List.set_cons_zero, List.set_cons_succ]
              refine z_take 9 (v := ?_) rfl (by kernel_rfl) (by kernel_rfl) (by kernel_rfl) (by kernel_rfl) (fun _ _ _ h => h) hHeld (by rfl) (fun w hSw => ?_) ?_
              rotate_left
              · clear hSw; simp only [List.getElem_toArray, List.getElem_cons_zero, List.getElem_cons_succ]; go_simp; try rfl
              simp only [Act.put, List.getElem_toArray, List.getElem_cons_zero, List.getElem_cons_succ, List.setIfInBounds_toArray, List.set_cons_zero, List.set_cons_succ]
              refine z_take 10 (v := ?_) rfl (by kernel_rfl) (by kernel_rfl) (by kernel_rfl) (by kernel_rfl) (fun _ _ _ h => h) hHeld (by rfl) (fun w hSw => ?_) ?_
              rotate_left
              · clear hSw; simp only [List.getElem_toArray, List.getElem_cons_zero, List.getElem_cons_succ]; go_simp; try rfl
              simp only [Act.put, List.getElem_toArray, List.getElem_cons_zero, List.getElem_cons_succ, List.setIfInBounds_toArray, List.set_cons_zero, List.set_cons_succ]
              refine z_take 11 (v := ?_) rfl (by kernel_rfl) (by kernel_rfl) (by kernel_rfl) (by kernel_rfl) (fun _ _ _ h => h) hHeld (by rfl) (fun w hSw => ?_) ?_
              rotate_left
              · clear hSw; simp only [List.getElem_toArray, List.getElem_cons_zero, List.getElem_cons_succ]; go_simp; try rfl
              simp only [Act.put, List.getElem_toArray, List.getElem_cons_zero, List.getElem_cons_succ, List.setIfInBounds_toArray, List.set_cons_zero, List.set_cons_succ]
              refine z_take 12 (v := ?_) rfl (by kernel_rfl) (by kernel_rfl) (by kernel_rfl) (by kernel_rfl) (fun _ _ _ h => h) hHeld (by rfl) (fun w hSw => ?_) ?_
              rotate_left
              · clear hSw; simp only [List.getElem_toArray, List.getElem_cons_zero, List.getElem_cons_succ]; go_simp; try rfl
              simp only [Act.put, List.getElem_toArray, List.getElem_cons_zero, List.getElem_cons_succ, List.setIfInBounds_toArray, List.set_cons_zero, List.set_cons_succ]
              refine z_skip 13 rfl (by kernel_rfl) (by kernel_rfl) (by kernel_rfl) (by kernel_rfl) (fun _ _ _ h => h) hHeld (by rfl) ?_
              simp only [Act.put, List.getElem_toArray, List.getElem_cons_zero, List.getElem_cons_succ, List.setIfInBounds_toArray, List.set_cons_zero, List.set_cons_succ]
              refine z_skip 14 rfl (by kernel_rfl) (by kernel_rfl) (by kernel_rfl) (by kernel_rfl) (fun _ _ _ h => h) hHeld (by rfl) ?_
              simp only [Act.put, List.getElem_toArray, List.getElem_cons_zero, List.getElem_cons_succ, List.setIfInBounds_toArray, List.set_cons_zero, List.set_cons_succ]
              refine z_skip 15 rfl (by kernel_rfl) (by kernel_rfl) (by kernel_rfl) (by kernel_rfl) (fun _ _ _ h => h) hHeld (by rfl) ?_
              simp only [Act.put, List.getElem_toArray, List.getElem_cons_zero, List.getElem_cons_succ, List.setIfInBounds_toArray, List.set_cons_zero, List.set_cons_succ]
              refine z_skip 16 rfl (by kernel_rfl) (by kernel_rfl) (by kernel_rfl) (by kernel_rfl) (fun _ _ _ h => h) hHeld (by rfl) ?_
              simp only [Act.put, List.getElem_toArray, List.getElem_cons_zero, List.getElem_cons_succ, List.setIfInBounds_toArray, List.set_cons_zero, List.set_cons_succ]
              refine z_skip 17 rfl (by kernel_rfl) (by kernel_rfl) (by kernel_rfl) (by kernel_rfl) (fun _ _ _ h => h) hHeld (by rfl) ?_
              simp only [Act.put, List.getElem_toArray, List.getElem_cons_zero, List.getElem_cons_succ, List.setIfInBounds_toArray, List.set_cons_zero, List.set_cons_succ]
              refine z_skip 18 rfl (by kernel_rfl) (by kernel_rfl) (by kernel_rfl) (by kernel_rfl) (fun _ _ _ h => h) hHeld (by rfl) ?_
              simp only [Act.put, List.getElem_toArray, List.getElem_cons_zero, List.getElem_cons_succ, List.setIfInBounds_toArray, List.set_cons_zero, List.set_cons_succ]
              refine z_skip 19 rfl (by kernel_rfl) (by kernel_rfl) (by kernel_rfl) (by kernel_rfl) (fun _ _ _ h => h) hHeld (by rfl) ?_
              simp only [Act.put, List.getElem_toArray, List.getElem_cons_zero, List.getElem_cons_succ, List.setIfInBounds_toArray, List.set_cons_zero, List.set_cons_succ]
              refine z_skip 20 rfl (by kernel_rfl) (by kernel_rfl) (by kernel_rfl) (by kernel_rfl) (fun _ _ _ h => h) hHeld (by rfl) ?_
              simp only [Act.put, List.getElem_toArray, List.getElem_cons_zero, List.getElem_cons_succ, List.setIfInBounds_toArray, List.set_cons_zero, List.set_cons_succ]
              refine z_skip 21 rfl (by kernel_rfl) (by kernel_rfl) (by kernel_rfl) (by kernel_rfl) (fun _ _ _ h => h) hHeld (by rfl) ?_
              simp only [Act.put, List.getElem_toArray, List.getElem_cons_zero, List.getElem_cons_succ, List.setIfInBounds_toArray, List.set_cons_zero, List.set_cons_succ]
              refine z_take 22 (v := ?_) rfl (by kernel_rfl) (by kernel_rfl) (by kernel_rfl) (by kernel_rfl) (fun _ _ _ h => h) hHeld (by rfl) (fun w hSw => ?_) ?_
              rotate_left
              · clear hSw; simp only [List.getElem_toArray, List.getElem_cons_zero, List.getElem_cons_succ]; go_simp; try rfl
              simp only [Act.put, List.getElem_toArray, List.getElem_cons_zero, List.getElem_cons_succ, List.setIfInBounds_toArray, List.set_cons_zero, List.set_cons_succ]
              refine z_take 23 (v := ?_) rfl (by kernel_rfl) (by kernel_rfl) (by kernel_rfl) (by kernel_rfl) (fun _ _ _ h => h) hHeld (by rfl) (fun w hSw => ?_) ?_
              rotate_left
              · clear hSw; simp only [List.getElem_toArray, List.getElem_cons_zero, List.getElem_cons_succ]; go_simp; try rfl
              simp only [Act.put, List.getElem_toArray, List.getElem_cons_zero, List.getElem_cons_succ, List.setIfInBounds_toArray, List.set_cons_zero, List.set_cons_succ]
              refine z_take 24 (v := ?_) rfl (by kernel_rfl) (by kernel_rfl) (by kernel_rfl) (by kernel_rfl) (fun _ _ _ h => h) hHeld (by rfl) (fun w hSw => ?_) ?_
              rotate_left
              · clear hSw; simp only [List.getElem_toArray, List.getElem_cons_zero, List.getElem_cons_succ]; go_simp; try rfl
              simp only [Act.put, List.getElem_toArray, List.getElem_cons_zero, List.getElem_cons_succ, List.setIfInBounds_toArray, List.set_cons_zero, List.set_cons_succ]
              refine z_one 25 rfl (by kernel_rfl) (by rfl) (fun K hK => ?_)
              simp only [List.getElem_toArray, List.getElem_cons_zero, List.getElem_cons_succ]
              go_simp
              refine (lives_any y1).mono ?_
              rintro e y2 ⟨rfl, hk⟩
              refine hK _ _ (Or.inr (hHeld.trans hk (fun _ _ h => h.elim))) (fun hHeld => ?_)
              clear hK K
              replace hHeld := hHeld.resolve_left (by decide)
              try simp only [Act.put, List.setIfInBounds_toArray, List.set_cons_zero, List.set_cons_succ]
              replace HKW := Lib.hid (HKW.out.quiet hk)
              replace HSX := Lib.hid (HSX.out.quiet hk)
              replace HFW := Lib.hid (HFW.out.quiet hk)
              refine z_more (fun w' => Keeps (fun _ => False) y2 w') (fun w' h => hHeld.trans h (fun _ _ h => h)) _ _ _ _ ?_
              clear hHeld
              have hHeld : Keeps (fun _ => False) y2 y2 := Keeps.refl _ _
              clear hk
              refine z_take 26 (v := ?_) rfl (by kernel_rfl) (by kernel_rfl) (by kernel_rfl) (by kernel_rfl) (fun _ _ _ h => h) hHeld (by rfl) (fun w hSw => ?_) ?_
              rotate_left
              · clear hSw; simp only [List.getElem_toArray, List.getElem_cons_zero, List.getElem_cons_succ]; go_simp; try rfl
              simp only [Act.put, List.getElem_toArray, List.getElem_cons_zero, List.getElem_cons_succ, List.setIfInBounds_toArray, List.set_cons_zero, List.set_cons_succ]
              refine z_take 27 (v := ?_) rfl (by kernel_rfl) (by kernel_rfl) (by kernel_rfl) (by kernel_rfl) (fun _ _ _ h => h) hHeld (by rfl) (fun w hSw => ?_) ?_
              rotate_left
              · clear hSw; simp only [List.getElem_toArray, List.getElem_cons_zero, List.getElem_cons_succ]; go_simp; try rfl
              simp only [Act.put, List.getElem_toArray, List.getElem_cons_zero, List.getElem_cons_succ, List.setIfInBounds_toArray, List.set_cons_zero, List.set_cons_succ]
              refine z_done (by kernel_rfl) ?_ _
              clear hHeld
              go_wp2
              go_ret
              exact ⟨rfl, HKW.out⟩
        · have e0 : (ar == 0) = false := by simpa using hset
          have hot : S.other = 0 := by unfold SS.other; rw [HNU.out.2.1]; rw [if_neg hset]
          obtain ⟨t1, ht1⟩ : ∃ t, tn + 1 = t := ⟨_, rfl⟩
          have htb : tn ≤ 14 := by rw [← HNU.out.2.2]; exact HX2.out.2.2.1
          have hu1 : (tn : Int) + 1 = (t1 : Int) := by omega
          have hu2 : IntKind.u64.wrap (t1 : Int) = (t1 : Int) := IntWalk.u64_in _ (by omega)
          have HRC := Lib.hid (refKeys_any t1 s3 nf c3 fb w10 (by unfold U64; omega) (Sl.of_own HO3.out) (by omega))
          clear hof
          go_wp2_with fail
          refine HRC.out.mono ?_
          rintro e w11 ⟨sf, cf2, rfl, hof, hk⟩
          replace HKW := Lib.hid (HKW.out.quiet hk)
          replace HT := Lib.hid (HT.out.quiet hk)
          replace HST := Lib.hid (HST.out.quiet hk)
          replace HO3 := Lib.hid (own_keep HO3.out hk (fun _ _ h => h))
          clear HRC hk hu1 hu2
          obtain ⟨g2, rfl⟩ := own_some hof (by omega)
          obtain ⟨f, hf⟩ : ∃ f, keyF t1 fb = f := ⟨_, rfl⟩
          obtain ⟨m, hm⟩ : ∃ m, nf + 14 = m := ⟨_, rfl⟩
          have hfl : f.length = m := by rw [← hf, ← hm, keyF_length, HNF.out]
          rw [hf, hm] at hof
          rw [hm]
          have hmb : m ≤ 40 := by omega
          have hm10 : 10 ≤ m := by omega
          have HP : Hid (∀ k, k ≤ m → ((openS (crashed S (200 + 0 * 100) f k)).recs = S.recs ∧ (torn f k = f → (openS (crashed S (200 + 0 * 100) f k)).keys = fb) ∧ ((plOf (torn f k) 0 (torn f k).length).1 = 0 → (openS (crashed S (200 + 0 * 100) f k)).keys = S.keys))) := Lib.hid (fun k hk => by
            have h9 := crash_key HX2.out.2.1 fb (by rw [HNF.out]; omega) (by rw [HNF.out]; omega) (by rw [HNU.out.2.2]; omega) k (by rw [HNU.out.2.2, ht1, hf, hfl]; exact hk)
            rw [HNU.out.2.2, ht1, hf, hot] at h9
            exact h9)
          have hat : (200 + 0 * 100) + m ≤ 400 := by omega
          have HOF := Lib.hid hof
          have HFM := Lib.hid hfl
          clear hof hf hm hfl hot htb ht1
          obtain ⟨Fd, _, _, _, _, _, hstA⟩ := HST.out
          have hfd : ∀ j, Fd j → F j := fun j h => (hstA.foot j).2 (Or.inr (Or.inl h))
          have hwz2 := HZ9.out
          have hgf := own_lt HOF.out rfl
          have HFD := Lib.hid (fun j (h : Fd j) => And.intro (hfd j h) (HX2.out.2.2.2.1 j (Or.inl (hfd j h))))
          have hdd : S.d = DS.of S.d.now := by have := HX2.out.2.1.d; rw [this]; rfl
          have h94 := HWZ.out
          have hg3 := HKR.out
          have HW := Lib.hid (write_ok pd (200 + 0 * 100) f m (some ⟨g2, 0, none⟩) g2 0 cf2 S.d Fd w11 hstA.disk (by rw [hdd]; rfl) HFM.out (fun _ => rfl) (fun j c h => by rw [Nat.zero_add]; exact own_cell HOF.out j _ (by rw [BV_get, h]; rfl)) (fun _ hf => by have := (HFD.out g2 hf).2.2; omega) (by rw [HX2.out.2.1.len]; exact hat) (by rw [HX2.out.2.1.len]; omega) (by rw [hdd]; show 0 ≤ 1000000; omega))
          replace HT := Lib.hid (HT.out.weak (F' := Fd) (Q' := fun _ => False) hfd (fun _ h => h.elim))
          have HDD := Lib.hid hdd
          clear hstA hfd hwz2 hgf hdd HST
          go_wp2_with fail
          have hn3 : ∀ j, (Value.slice s3 nf c3).ownBlock = some j → ¬ Fd j ∧ j < w11.heap.size := fun j e => ⟨fun h => by have h1 := (HO3.out.lt j e).1; have h2 := (HFD.out j h).2.2; omega, (HO3.out.lt j e).2⟩
          have hnf3 : ¬ Fd g2 ∧ g2 < w11.heap.size := ⟨fun h => by have h1 := (own_lt HOF.out rfl).1; have h2 := (HFD.out g2 h).2.2; have h3 := HZ9.out; omega, (own_lt HOF.out rfl).2⟩
          have HN3 := Lib.hid (And.intro hn3 hnf3)
          clear hn3 hnf3 h94 hg3
          refine HW.out.mono ?_
          rintro e w12 ⟨rfl, F6, hd6, hk6, hf6⟩
          have HZ12 := Lib.hid hk6.size
          replace HKW := Lib.hid (HKW.out.trans hk6 (fun j hj h => by have := (HFD.out j h).2.1; omega))
          have hzw : w2.heap.size ≤ w11.heap.size := by have h1 := HWZ.out.2; have h2 := HKR.out.2; have h3 := HZ9.out; have h4 := own_lt HOF.out rfl; omega
          replace HT := Lib.hid (HT.out.keep hk6 (fun j a => HX2.out.2.2.2.2 j (HFD.out j a).1) hf6 (Q' := fun _ => False) (fun _ h => h.elim))
          replace HO3 := Lib.hid (own_keep HO3.out hk6 (fun j e => (HN3.out.1 j e).1))
          replace HOF := Lib.hid (own_keep HOF.out hk6 (fun j e => by have e2 := form_own HOF.out e; simp at e2; rw [← e2]; exact HN3.out.2.1))
          have HF6 : Hid ((∀ j, F6 j → w.heap.size ≤ j ∧ ¬ Far w w1 w2 j) ∧ (∀ j, (Value.slice s3 nf c3).ownBlock = some j → ¬ F6 j) ∧ ¬ F6 g2) := Lib.hid ⟨fun j a => (hf6 j a).elim (fun h => ⟨(HFD.out j h).2.1, HX2.out.2.2.2.2 j (HFD.out j h).1⟩) (fun h => ⟨by have hz1 := HWZ.out.1; have hz2 := HWZ.out.2; have hz3 := own_lt HOF.out rfl; have hz4 := HKR.out.2; have hz5 := HZ9.out; have hz6 := HN3.out.2.2; omega, fun hf => hf (Or.inr (by omega))⟩), fun j e a => (hf6 j a).elim (HN3.out.1 j e).1 (fun h => by have := (HN3.out.1 j e).2; omega), fun a => (hf6 _ a).elim HN3.out.2.1 (fun h => by have := HN3.out.2.2; omega)⟩
          obtain ⟨m1, hm1⟩ : ∃ x, m + 1 = x := ⟨_, rfl⟩
          have u1 : (m : Int) + 1 = (m1 : Int) := by omega
          have u2 : IntKind.i64.wrap (m1 : Int) = (m1 : Int) := IntWalk.i64_in _ (by omega)
          obtain ⟨cut, hcut, _, hc1⟩ := around_nat left m1 w12 HXY.out.2.2.2.1 HXY.out.2.2.2.2 (by omega) (by omega)
          have HC := Lib.hid hc1
          have hlo6 : (S.d.write (200 + 0 * 100) f).lo = mkLo (200 + 0 * 100) f := by rw [HDD.out]; rfl
          have hnl6 : (S.d.write (200 + 0 * 100) f).now.length = 400 := by rw [write_len _ _ _ (by rw [HFM.out, HX2.out.2.1.len]; exact hat), HX2.out.2.1.len]
          have HAG := Lib.hid (again_any pd (cut : Int) (S.d.write (200 + 0 * 100) f) F6 w12 hd6 (by rw [HDD.out]; rfl) (by rw [hlo6, mkLo_length, HFM.out]; omega) (fun x hx => by rw [hlo6] at hx; have := mkLo_lt hx; rw [hnl6]; rw [HFM.out] at this; omega) (by rw [hnl6, HDD.out]; exact HX2.out.2.1.len) (by rw [hnl6]; omega) (by rw [hnl6]; omega))
          have hcm : cut ≤ m := by omega
          clear HW hd6 hk6 hf6 hzw hc1 hlo6 hnl6 HFD HDD hm1 hcut
          go_wp2_with fail
          refine HC.out.mono ?_
          rintro e _ ⟨rfl, rfl⟩
          clear HC u1 u2
          go_wp2_with fail
          refine HAG.out.mono ?_
          rintro e w13 ⟨q, t, Fx, Qx, rfl, hst, hk, hFx, hQx⟩
          have hst2 : StoreAt w13 t q (openS (crashed S (200 + 0 * 100) f cut)) Fx Qx := hst
          have HPC := Lib.hid (HP.out cut hcm)
          obtain ⟨O, hO⟩ : ∃ O, openS (crashed S (200 + 0 * 100) f cut) = O := ⟨_, rfl⟩
          rw [hO] at HPC hst2
          have HSX := Lib.hid hst2
          replace HKW := Lib.hid (HKW.out.trans hk (fun j hj h => by have := (HF6.out.1 j h).1; omega))
          replace HT := Lib.hid (HT.out.keep hk (fun j a => (HF6.out.1 j a).2) (F' := fun _ => False) (fun _ h => h.elim) (Q' := fun _ => False) (fun _ h => h.elim))
          replace HO3 := Lib.hid (own_keep HO3.out hk (fun j e => HF6.out.2.1 j e))
          replace HOF := Lib.hid (own_keep HOF.out hk (fun j e => by have e2 := form_own HOF.out e; simp at e2; rw [← e2]; exact HF6.out.2.2))
          have HRC := Lib.hid (records_any t q O Fx Qx w13 hst2)
          have hz13 : wr.heap.size ≤ w12.heap.size ∧ wr.heap.size ≤ w13.heap.size := by have h1 := HKR.out.2; have h2 := HZ9.out; have h3 := HN3.out.2.2; have h4 := (own_lt HOF.out rfl).1; have h5 := hk.size; have h6 := HZ12.out; omega
          have HZ13 := Lib.hid hz13.2
          have HFX := Lib.hid (fun j (h : Fx j ∨ Qx j) => h.elim (fun a => Nat.le_trans hz13.1 (hFx j a)) (fun a => Nat.le_trans hz13.1 (hQx j a)))
          clear HAG hst hst2 hk hFx hQx hO HP HF6 HN3 hz13
          go_wp2_with fail
          refine HRC.out.mono ?_
          rintro e w14 ⟨sg, cg, vg, rfl, hog, hrg, hk⟩
          replace HKW := Lib.hid (HKW.out.quiet hk)
          replace HT := Lib.hid (HT.out.quiet hk)
          replace HSX := Lib.hid (HSX.out.quiet hk)
          replace HO3 := Lib.hid (own_keep HO3.out hk (fun _ _ h => h))
          replace HOF := Lib.hid (own_keep HOF.out hk (fun _ _ h => h))
          obtain ⟨ng, hng⟩ : ∃ n, O.recs.length = n := ⟨_, rfl⟩
          rw [hng] at hog
          rw [hng]
          have HOG := Lib.hid (And.intro hog hrg)
          clear HRC hog hrg hk hng
          obtain ⟨k2, hk2⟩ : ∃ x, m - cut = x := ⟨_, rfl⟩
          have u3 : (m : Int) - (cut : Int) = (k2 : Int) := by omega
          have u4 : IntKind.i64.wrap (k2 : Int) = (k2 : Int) := IntWalk.i64_in _ (by omega)
          have hcf := (Sl.of_own HOF.out).le
          have u5 : ¬ cf2 = 0 := by omega
          have u6 : (cut : Int) ≤ (cf2 : Int) := by omega
          have u7 : (0 : Int) ≤ (cut : Int) := by omega
          have u8_ : cut ≤ cf2 := by omega
          have HFL := Lib.hid (show (f.take cut).length = cut by rw [List.length_take, HFM.out]; omega)
          go_wp2_with (at_builtin; first
            | (refine wpList_newB rfl _ _ rfl rfl (some ⟨g2, 0, none⟩) cut cf2 (f.take cut) rfl (by rw [← BV_take]; exact (Sl.of_own HOF.out).upto (by omega)) (by omega) ?_; intro s15 c15 w15 hown15 hk15; have H15 := Lib.hid (And.intro hown15 hk15); clear hown15 hk15)
            | (refine wpList_zerosB rfl _ _ rfl w14.heap.size s15 cut c15 (f.take cut) rfl H15.out.1 k2 rfl (by omega) (by omega) H15.out.2.size ?_
               intro s16 c16 w16 hown16 hk16
               have H16 := Lib.hid (And.intro hown16 (H15.out.2.trans hk16 (fun j hj e => by have := (own_lt H15.out.1 e).1; omega)))
               clear hown16 hk16))
          have e9 : cut + k2 = m := by omega
          rw [e9] at H16 ⊢
          obtain ⟨X, hX⟩ : ∃ X, f.take cut ++ List.replicate k2 0 = X := ⟨_, rfl⟩
          have hXt : torn f cut = X := by rw [← hX]; unfold torn; rw [HFM.out, hk2]
          rw [hX] at H16
          rw [hXt] at HPC
          have hXl : X.length = m := by rw [← hXt, torn_length _ _ (by rw [HFM.out]; exact hcm), HFM.out]
          rw [hXl] at HPC
          have HXX := Lib.hid (Sl.of_own H16.out.1)
          replace HKW := Lib.hid (HKW.out.quiet H16.out.2)
          replace HT := Lib.hid (HT.out.quiet H16.out.2)
          replace HSX := Lib.hid (HSX.out.quiet H16.out.2)
          replace HO3 := Lib.hid (own_keep HO3.out H16.out.2 (fun _ _ h => h))
          replace HOG := Lib.hid (And.intro (own_keep HOG.out.1 H16.out.2 (fun _ _ h => h)) (HOG.out.2.quiet H16.out.2))
          have cv1 := run_strSl HXX.out
          have cv2 := run_strSl (own_keep HOF.out H16.out.2 (fun _ _ h => h) |> Sl.of_own)
          rw [cv1]
          clear e9 hX hXt hXl H15 H16 u3 u4 u5 u6 u7 u8_ HFL hk2 hcf HOF
          by_cases hall : X = f
          · have eS : ((strOf X).toList == (strOf f).toList) = true := by rw [hall]; exact beq_self_eq_true _
            clear HXX
            have HEQ := Lib.hid (And.intro HPC.out.1 (HPC.out.2.1 hall))
            have HSM := Lib.hid (sameR_any sg so ng S.recs.length cg co vg vs O.recs S.recs w16 (Sl.of_own HOG.out.1) HOG.out.2.reads (Sl.of_own HT.out.own) HT.out.rows)
            rw [show decide (O.recs = S.recs) = true from decide_eq_true HEQ.out.1] at HSM
            go_wp2_with fail
            refine HSM.out.mono ?_
            rintro e w20 ⟨rfl, hk⟩
            replace HKW := Lib.hid (HKW.out.quiet hk)
            replace HSX := Lib.hid (HSX.out.quiet hk)
            have HKY := Lib.hid (HT.out.keys.quiet hk)
            have HFW := Lib.hid (Sl.of_own (own_keep HO3.out hk (fun _ _ h => h)))
            clear HSM hk HOG HT HO3
            obtain ⟨K, hK⟩ : ∃ K, S.keys = K := ⟨_, rfl⟩
            obtain ⟨nk2, hnk2⟩ : ∃ n, K.length = n := ⟨_, rfl⟩
            rw [hK] at HKY ⊢
            rw [hnk2] at HKY ⊢
            have HKC : Hid (∀ u : World, StoreAt u t q O Fx Qx → Calls Try.prog 25 #[.pointer (some ⟨t, 0, none⟩)] u fun e w' => ∃ sa c, e = .returned (.slice sa nf c) ∧ Sl w' sa nf c (BV fb) ∧ Keeps (fun _ => False) u w') := Lib.hid (fun u h => by
              have h2 := keys_any t q O Fx Qx u h
              rw [HEQ.out.2, HNF.out] at h2
              exact h2.mono fun e w' ⟨sa, c, a1, a2, a3⟩ => ⟨sa, c, a1, Sl.of_own a2, a3⟩)
            have eK : ((strOf fb).toList == (strOf fb).toList) = true := beq_self_eq_true _
            clear hK hnk2
            obtain ⟨rr, hrr⟩ : ∃ r, ((strOf fb).toList == (strOf K).toList) = r := ⟨_, rfl⟩
            go_wp2_with fail
            by_cases hrt : rr = true
            · subst hrt
              obtain ⟨v0, hdr⟩ : ∃ v, World.drew w20 = v := ⟨_, rfl⟩
              have hk : Keeps (fun _ => False) w20 v0 := by rw [← hdr]; exact (Keeps.refl _ _).drew
              replace HKW := Lib.hid (HKW.out.quiet hk)
              replace HSX := Lib.hid (HSX.out.quiet hk)
              replace HFW := Lib.hid (HFW.out.quiet hk)
              replace HKY := Lib.hid (HKY.out.quiet hk)
              refine z_begin (fun w' => Keeps (fun _ => False) (World.drew w20) w') 28 (by kernel_rfl) (Keeps.refl _ _) (fun hHeld => ?_)
              rw [hdr] at hHeld ⊢
              clear hk hdr
              refine z_take 0 (v := ?_) rfl (by kernel_rfl) (by kernel_rfl) (by kernel_rfl) (by kernel_rfl) (fun _ _ _ h => h) hHeld (by rfl) (fun w hSw => ?_) ?_
              rotate_left
              · clear hSw; simp only [List.getElem_toArray, List.getElem_cons_zero]; go_simp; try rfl
              simp only [Act.put, List.getElem_toArray, List.getElem_cons_zero, List.setIfInBounds_toArray, List.set_cons_zero, List.set_cons_succ]
              refine z_take 1 (v := ?_) rfl (by kernel_rfl) (by kernel_rfl) (by kernel_rfl) (by kernel_rfl) (fun _ _ _ h => h) hHeld (by rfl) (fun w hSw => ?_) ?_
              rotate_left
              · clear hSw; simp only [List.getElem_toArray, List.getElem_cons_zero, List.getElem_cons_succ]; go_simp; try rfl
              simp only [Act.put, List.getElem_toArray, List.getElem_cons_zero, List.getElem_cons_succ, List.setIfInBounds_toArray, List.set_cons_zero, List.set_cons_succ]
              refine z_take 2 (v := ?_) rfl (by kernel_rfl) (by kernel_rfl) (by kernel_rfl) (by kernel_rfl) (fun _ _ _ h => h) hHeld (by rfl) (fun w hSw => ?_) ?_
              rotate_left
              · clear hSw; simp only [List.getElem_toArray, List.getElem_cons_zero, List.getElem_cons_succ]; go_simp; try rfl
              simp only [Act.put, List.getElem_toArray, List.getElem_cons_zero, List.getElem_cons_succ, List.setIfInBounds_toArray, List.set_cons_zero, List.set_cons_succ]
              refine z_take 5 (v := ?_) rfl (by kernel_rfl) (by kernel_rfl) (by kernel_rfl) (by kernel_rfl) (fun _ _ _ h => h) hHeld (by rfl) (fun w hSw => ?_) ?_
              rotate_left
              · clear hSw; simp only [List.getElem_toArray, List.getElem_cons_zero, List.getElem_cons_succ]; go_simp; try rfl
              simp only [Act.put, List.getElem_toArray, List.getElem_cons_zero, List.getElem_cons_succ, List.setIfInBounds_toArray, List.set_cons_zero, List.set_cons_succ]
              refine z_take 6 (v := ?_) rfl (by kernel_rfl) (by kernel_rfl) (by kernel_rfl) (by kernel_rfl) (fun _ _ _ h => h) hHeld (by rfl) (fun w hSw => ?_) ?_
              rotate_left
              · have cv := run_strSl (HKY.out.quiet hSw); clear hSw; simp only [List.getElem_toArray, List.getElem_cons_zero, List.getElem_cons_succ]; go_simp; try rfl
              simp only [Act.put, List.getElem_toArray, List.getElem_cons_zero, List.getElem_cons_succ, List.setIfInBounds_toArray, List.set_cons_zero, List.set_cons_succ]
              refine z_one 3 rfl (by kernel_rfl) (by rfl) (fun K hK => ?_)
              simp only [List.getElem_toArray, List.getElem_cons_zero, List.getElem_cons_succ]
              go_simp
              refine (HKC.out v0 HSX.out).mono ?_
              rintro e y1 ⟨s1, c1, rfl, hsl, hk⟩
              refine hK _ _ (Or.inr (hHeld.trans hk (fun _ _ h => h.elim))) (fun hHeld => ?_)
              clear hK K
              replace hHeld := hHeld.resolve_left (by decide)
              try simp only [Act.put, List.setIfInBounds_toArray, List.set_cons_zero, List.set_cons_succ]
              replace HKW := Lib.hid (HKW.out.quiet hk)
              replace HSX := Lib.hid (HSX.out.quiet hk)
              replace HFW := Lib.hid (HFW.out.quiet hk)
              have L1 := Lib.hid hsl
              clear hsl
              refine z_more (fun w' => Keeps (fun _ => False) y1 w') (fun w' h => hHeld.trans h (fun _ _ h => h)) _ _ _ _ ?_
              clear hHeld
              have hHeld : Keeps (fun _ => False) y1 y1 := Keeps.refl _ _
              clear hk
              refine z_take 4 (v := ?_) rfl (by kernel_rfl) (by kernel_rfl) (by kernel_rfl) (by kernel_rfl) (fun _ _ _ h => h) hHeld (by rfl) (fun w hSw => ?_) ?_
              rotate_left
              · have cv := run_strSl (L1.out.quiet hSw); clear hSw; simp only [List.getElem_toArray, List.getElem_cons_zero, List.getElem_cons_succ]; go_simp; try rfl
              simp only [Act.put, List.getElem_toArray, List.getElem_cons_zero, List.getElem_cons_succ, List.setIfInBounds_toArray, List.set_cons_zero, List.set_cons_succ]
              refine z_take 7 (v := ?_) rfl (by kernel_rfl) (by kernel_rfl) (by kernel_rfl) (by kernel_rfl) (fun _ _ _ h => h) hHeld (by rfl) (fun w hSw => ?_) ?_
              rotate_left
              · clear hSw; simp only [List.getElem_toArray, List.getElem_cons_zero, List.getElem_cons_succ]; go_simp; try rfl
              simp only [Act.put, List.getElem_toArray, List.getElem_cons_zero, List.getElem_cons_succ, List.setIfInBounds_toArray, List.set_cons_zero, List.set_cons_succ]
              refine z_take 8 (v := ?_) rfl (by kernel_rfl) (by kernel_rfl) (by kernel_rfl) (by kernel_rfl) (fun _ _ _ h => h) hHeld (by rfl) (fun w hSw => ?_) ?_
              rotate_left
              · clear hSw; simp only [List.getElem_toArray, List.getElem_cons_zero, List.getElem_cons_succ]; go_simp; try rfl
              simp only [Act.put, List.getElem_toArray, List.getElem_cons_zero, List.getElem_cons_succ, List.setIfInBounds_toArray, List.set_cons_zero, List.set_cons_succ]
              refine z_take 9 (v := ?_) rfl (by kernel_rfl) (by kernel_rfl) (by kernel_rfl) (by kernel_rfl) (fun _ _ _ h => h) hHeld (by rfl) (fun w hSw => ?_) ?_
              rotate_left
              · clear hSw; simp only [List.getElem_toArray, List.getElem_cons_zero, List.getElem_cons_succ]; go_simp; try rfl
              simp only [Act.put, List.getElem_toArray, List.getElem_cons_zero, List.getElem_cons_succ, List.setIfInBounds_toArray, List.set_cons_zero, List.set_cons_succ]
              refine z_take 10 (v := ?_) rfl (by kernel_rfl) (by kernel_rfl) (by kernel_rfl) (by kernel_rfl) (fun _ _ _ h => h) hHeld (by rfl) (fun w hSw => ?_) ?_
              rotate_left
              · clear hSw; simp only [List.getElem_toArray, List.getElem_cons_zero, List.getElem_cons_succ]; go_simp; try rfl
              simp only [Act.put, List.getElem_toArray, List.getElem_cons_zero, List.getElem_cons_succ, List.setIfInBounds_toArray, List.set_cons_zero, List.set_cons_succ]
              refine z_take 11 (v := ?_) rfl (by kernel_rfl) (by kernel_rfl) (by kernel_rfl) (by kernel_rfl) (fun _ _ _ h => h) hHeld (by rfl) (fun w hSw => ?_) ?_
              rotate_left
              · clear hSw; simp only [List.getElem_toArray, List.getElem_cons_zero, List.getElem_cons_succ]; go_simp; try rfl
              simp only [Act.put, List.getElem_toArray, List.getElem_cons_zero, List.getElem_cons_succ, List.setIfInBounds_toArray, List.set_cons_zero, List.set_cons_succ]
              refine z_take 12 (v := ?_) rfl (by kernel_rfl) (by kernel_rfl) (by kernel_rfl) (by kernel_rfl) (fun _ _ _ h => h) hHeld (by rfl) (fun w hSw => ?_) ?_
              rotate_left
              · clear hSw; simp only [List.getElem_toArray, List.getElem_cons_zero, List.getElem_cons_succ]; go_simp; try rfl
              simp only [Act.put, List.getElem_toArray, List.getElem_cons_zero, List.getElem_cons_succ, List.setIfInBounds_toArray, List.set_cons_zero, List.set_cons_succ]
              refine z_take 13 (v := ?_) rfl (by kernel_rfl) (by kernel_rfl) (by kernel_rfl) (by kernel_rfl) (fun _ _ _ h => h) hHeld (by rfl) (fun w hSw => ?_) ?_
              rotate_left
              · clear hSw; simp only [List.getElem_toArray, List.getElem_cons_zero, List.getElem_cons_succ]; go_simp; try rfl
              simp only [Act.put, List.getElem_toArray, List.getElem_cons_zero, List.getElem_cons_succ, List.setIfInBounds_toArray, List.set_cons_zero, List.set_cons_succ]
              refine z_take 16 (v := ?_) rfl (by kernel_rfl) (by kernel_rfl) (by kernel_rfl) (by kernel_rfl) (fun _ _ _ h => h) hHeld (by rfl) (fun w hSw => ?_) ?_
              rotate_left
              · clear hSw; simp only [List.getElem_toArray, List.getElem_cons_zero, List.getElem_cons_succ]; go_simp; try rfl
              simp only [Act.put, List.getElem_toArray, List.getElem_cons_zero, List.getElem_cons_succ, List.setIfInBounds_toArray, List.set_cons_zero, List.set_cons_succ]
              refine z_take 17 (v := ?_) rfl (by kernel_rfl) (by kernel_rfl) (by kernel_rfl) (by kernel_rfl) (fun _ _ _ h => h) hHeld (by rfl) (fun w hSw => ?_) ?_
              rotate_left
              · have cv := run_strSl (HFW.out.quiet hSw); clear hSw; simp only [List.getElem_toArray, List.getElem_cons_zero, List.getElem_cons_succ]; go_simp; try rfl
              simp only [Act.put, List.getElem_toArray, List.getElem_cons_zero, List.getElem_cons_succ, List.setIfInBounds_toArray, List.set_cons_zero, List.set_cons_succ]
              refine z_one 14 rfl (by kernel_rfl) (by rfl) (fun K hK => ?_)
              simp only [List.getElem_toArray, List.getElem_cons_zero, List.getElem_cons_succ]
              go_simp
              refine (HKC.out y1 HSX.out).mono ?_
              rintro e y2 ⟨s2, c2, rfl, hsl, hk⟩
              refine hK _ _ (Or.inr (hHeld.trans hk (fun _ _ h => h.elim))) (fun hHeld => ?_)
              clear hK K
              replace hHeld := hHeld.resolve_left (by decide)
              try simp only [Act.put, List.setIfInBounds_toArray, List.set_cons_zero, List.set_cons_succ]
              replace HKW := Lib.hid (HKW.out.quiet hk)
              replace HSX := Lib.hid (HSX.out.quiet hk)
              replace HFW := Lib.hid (HFW.out.quiet hk)
              have L2 := Lib.hid hsl
              clear hsl
              refine z_more (fun w' => Keeps (fun _ => False) y2 w') (fun w' h => hHeld.trans h (fun _ _ h => h)) _ _ _ _ ?_
              clear hHeld
              have hHeld : Keeps (fun _ => False) y2 y2 := Keeps.refl _ _
              clear hk
              refine z_take 15 (v := ?_) rfl (by kernel_rfl) (by kernel_rfl) (by kernel_rfl) (by kernel_rfl) (fun _ _ _ h => h) hHeld (by rfl) (fun w hSw => ?_) ?_
              rotate_left
              · have cv := run_strSl (L2.out.quiet hSw); clear hSw; simp only [List.getElem_toArray, List.getElem_cons_zero, List.getElem_cons_succ]; go_simp; try rfl
              simp only [Act.put, List.getElem_toArray, List.getElem_cons_zero, List.getElem_cons_succ, List.setIfInBounds_toArray, List.set_cons_zero, List.set_cons_succ]
              refine z_take 18 (v := ?_) rfl (by kernel_rfl) (by kernel_rfl) (by kernel_rfl) (by kernel_rfl) (fun _ _ _ h => h) hHeld (by rfl) (fun w hSw => ?_) ?_
              rotate_left
              · clear hSw; simp only [List.getElem_toArray, List.getElem_cons_zero, List.getElem_cons_succ]; go_simp; try rfl
              simp only [Act.put, List.getElem_toArray, List.getElem_cons_zero, List.getElem_cons_succ, List.setIfInBounds_toArray, List.set_cons_zero, List.set_cons_succ]
              refine z_take 19 (v := ?_) rfl (by kernel_rfl) (by kernel_rfl) (by kernel_rfl) (by kernel_rfl) (fun _ _ _ h => h) hHeld (by rfl) (fun w hSw => ?_) ?_
              rotate_left
              · clear hSw; simp only [List.getElem_toArray, List.getElem_cons_zero, List.getElem_cons_succ]; go_simp; try rfl
              simp only [Act.put, List.getElem_toArray, List.getElem_cons_zero, List.getElem_cons_succ, List.setIfInBounds_toArray, List.set_cons_zero, List.set_cons_succ]
              refine z_take 20 (v := ?_) rfl (by kernel_rfl) (by kernel_rfl) (by kernel_rfl) (by kernel_rfl) (fun _ _ _ h => h) hHeld (by rfl) (fun w hSw => ?_) ?_
              rotate_left
              · clear hSw; simp only [List.getElem_toArray, List.getElem_cons_zero, List.getElem_cons_succ]; go_simp; try rfl
              simp only [Act.put, List.getElem_toArray, List.getElem_cons_zero, List.getElem_cons_succ, List.setIfInBounds_toArray, List.set_cons_zero, List.set_cons_succ]
              refine z_take 21 (v := ?_) rfl (by kernel_rfl) (by kernel_rfl) (by kernel_rfl) (by kernel_rfl) (fun _ _ _ h => h) hHeld (by rfl) (fun w hSw => ?_) ?_
              rotate_left
              · clear hSw; simp only [List.getElem_toArray, List.getElem_cons_zero, List.getElem_cons_succ]; go_simp; try rfl
              simp only [Act.put, List.getElem_toArray, List.getElem_cons_zero, List.getElem_cons_succ, List.setIfInBounds_toArray, List.set_cons_zero, List.set_cons_succ]
              refine z_take 22 (v := ?_) rfl (by kernel_rfl) (by kernel_rfl) (by kernel_rfl) (by kernel_rfl) (fun _ _ _ h => h) hHeld (by rfl) (fun w hSw => ?_) ?_
              rotate_left
              · clear hSw; simp only [List.getElem_toArray, List.getElem_cons_zero, List.getElem_cons_succ]; go_simp; try rfl
              simp only [Act.put, List.getElem_toArray, List.getElem_cons_zero, List.getElem_cons_succ, List.setIfInBounds_toArray, List.set_cons_zero, List.set_cons_succ]
              refine z_take 23 (v := ?_) rfl (by kernel_rfl) (by kernel_rfl) (by kernel_rfl) (by kernel_rfl) (fun _ _ _ h => h) hHeld (by rfl) (fun w hSw => ?_) ?_
              rotate_left
              · clear hSw; simp only [List.getElem_toArray, List.getElem_cons_zero, List.getElem_cons_succ]; go_simp; try rfl
              simp only [Act.put, List.getElem_toArray, List.getElem_cons_zero, List.getElem_cons_succ, List.setIfInBounds_toArray, List.set_cons_zero, List.set_cons_succ]
              refine z_take 24 (v := ?_) rfl (by kernel_rfl) (by kernel_rfl) (by kernel_rfl) (by kernel_rfl) (fun _ _ _ h => h) hHeld (by rfl) (fun w hSw => ?_) ?_
              rotate_left
              · clear hSw; simp only [List.getElem_toArray, List.getElem_cons_zero, List.getElem_cons_succ]; go_simp; try rfl
              simp only [Act.put, List.getElem_toArray, List.getElem_cons_zero, List.getElem_cons_succ, List.setIfInBounds_toArray, List.set_cons_zero, List.set_cons_succ]
              refine z_one 25 rfl (by kernel_rfl) (by rfl) (fun K hK => ?_)
              simp only [List.getElem_toArray, List.getElem_cons_zero, List.getElem_cons_succ]
              go_simp
              refine (lives_any y2).mono ?_
              rintro e y3 ⟨rfl, hk⟩
              refine hK _ _ (Or.inr (hHeld.trans hk (fun _ _ h => h.elim))) (fun hHeld => ?_)
              clear hK K
              replace hHeld := hHeld.resolve_left (by decide)
              try simp only [Act.put, List.setIfInBounds_toArray, List.set_cons_zero, List.set_cons_succ]
              replace HKW := Lib.hid (HKW.out.quiet hk)
              replace HSX := Lib.hid (HSX.out.quiet hk)
              replace HFW := Lib.hid (HFW.out.quiet hk)
              refine z_more (fun w' => Keeps (fun _ => False) y3 w') (fun w' h => hHeld.trans h (fun _ _ h => h)) _ _ _ _ ?_
              clear hHeld
              have hHeld : Keeps (fun _ => False) y3 y3 := Keeps.refl _ _
              clear hk
              refine z_take 26 (v := ?_) rfl (by kernel_rfl) (by kernel_rfl) (by kernel_rfl) (by kernel_rfl) (fun _ _ _ h => h) hHeld (by rfl) (fun w hSw => ?_) ?_
              rotate_left
              · clear hSw; simp only [List.getElem_toArray, List.getElem_cons_zero, List.getElem_cons_succ]; go_simp; try rfl
              simp only [Act.put, List.getElem_toArray, List.getElem_cons_zero, List.getElem_cons_succ, List.setIfInBounds_toArray, List.set_cons_zero, List.set_cons_succ]
              refine z_take 27 (v := ?_) rfl (by kernel_rfl) (by kernel_rfl) (by kernel_rfl) (by kernel_rfl) (fun _ _ _ h => h) hHeld (by rfl) (fun w hSw => ?_) ?_
              rotate_left
              · clear hSw; simp only [List.getElem_toArray, List.getElem_cons_zero, List.getElem_cons_succ]; go_simp; try rfl
              simp only [Act.put, List.getElem_toArray, List.getElem_cons_zero, List.getElem_cons_succ, List.setIfInBounds_toArray, List.set_cons_zero, List.set_cons_succ]
              refine z_done (by kernel_rfl) ?_ _
              clear hHeld
              go_wp2
              go_ret
              exact ⟨rfl, HKW.out⟩
            · obtain rfl : rr = false := by simpa using hrt
              clear hrt
              obtain ⟨v0, hdr⟩ : ∃ v, World.drew w20 = v := ⟨_, rfl⟩
              have hk : Keeps (fun _ => False) w20 v0 := by rw [← hdr]; exact (Keeps.refl _ _).drew
              replace HKW := Lib.hid (HKW.out.quiet hk)
              replace HSX := Lib.hid (HSX.out.quiet hk)
              replace HFW := Lib.hid (HFW.out.quiet hk)
              replace HKY := Lib.hid (HKY.out.quiet hk)
              refine z_begin (fun w' => Keeps (fun _ => False) (World.drew w20) w') 28 (by kernel_rfl) (Keeps.refl _ _) (fun hHeld => ?_)
              rw [hdr] at hHeld ⊢
              clear hk hdr
              refine z_take 0 (v := ?_) rfl (by kernel_rfl) (by kernel_rfl) (by kernel_rfl) (by kernel_rfl) (fun _ _ _ h => h) hHeld (by rfl) (fun w hSw => ?_) ?_
              rotate_left
              · clear hSw; simp only [List.getElem_toArray, List.getElem_cons_zero]; go_simp; try rfl
              simp only [Act.put, List.getElem_toArray, List.getElem_cons_zero, List.setIfInBounds_toArray, List.set_cons_zero, List.set_cons_succ]
              refine z_take 1 (v := ?_) rfl (by kernel_rfl) (by kernel_rfl) (by kernel_rfl) (by kernel_rfl) (fun _ _ _ h => h) hHeld (by rfl) (fun w hSw => ?_) ?_
              rotate_left
              · clear hSw; simp only [List.getElem_toArray, List.getElem_cons_zero, List.getElem_cons_succ]; go_simp; try rfl
              simp only [Act.put, List.getElem_toArray, List.getElem_cons_zero, List.getElem_cons_succ, List.setIfInBounds_toArray, List.set_cons_zero, List.set_cons_succ]
              refine z_take 2 (v := ?_) rfl (by kernel_rfl) (by kernel_rfl) (by kernel_rfl) (by kernel_rfl) (fun _ _ _ h => h) hHeld (by rfl) (fun w hSw => ?_) ?_
              rotate_left
              · clear hSw; simp only [List.getElem_toArray, List.getElem_cons_zero, List.getElem_cons_succ]; go_simp; try rfl
              simp only [Act.put, List.getElem_toArray, List.getElem_cons_zero, List.getElem_cons_succ, List.setIfInBounds_toArray, List.set_cons_zero, List.set_cons_succ]
              refine z_take 5 (v := ?_) rfl (by kernel_rfl) (by kernel_rfl) (by kernel_rfl) (by kernel_rfl) (fun _ _ _ h => h) hHeld (by rfl) (fun w hSw => ?_) ?_
              rotate_left
              · clear hSw; simp only [List.getElem_toArray, List.getElem_cons_zero, List.getElem_cons_succ]; go_simp; try rfl
              simp only [Act.put, List.getElem_toArray, List.getElem_cons_zero, List.getElem_cons_succ, List.setIfInBounds_toArray, List.set_cons_zero, List.set_cons_succ]
              refine z_take 6 (v := ?_) rfl (by kernel_rfl) (by kernel_rfl) (by kernel_rfl) (by kernel_rfl) (fun _ _ _ h => h) hHeld (by rfl) (fun w hSw => ?_) ?_
              rotate_left
              · have cv := run_strSl (HKY.out.quiet hSw); clear hSw; simp only [List.getElem_toArray, List.getElem_cons_zero, List.getElem_cons_succ]; go_simp; try rfl
              simp only [Act.put, List.getElem_toArray, List.getElem_cons_zero, List.getElem_cons_succ, List.setIfInBounds_toArray, List.set_cons_zero, List.set_cons_succ]
              refine z_one 3 rfl (by kernel_rfl) (by rfl) (fun K hK => ?_)
              simp only [List.getElem_toArray, List.getElem_cons_zero, List.getElem_cons_succ]
              go_simp
              refine (HKC.out v0 HSX.out).mono ?_
              rintro e y1 ⟨s1, c1, rfl, hsl, hk⟩
              refine hK _ _ (Or.inr (hHeld.trans hk (fun _ _ h => h.elim))) (fun hHeld => ?_)
              clear hK K
              replace hHeld := hHeld.resolve_left (by decide)
              try simp only [Act.put, List.setIfInBounds_toArray, List.set_cons_zero, List.set_cons_succ]
              replace HKW := Lib.hid (HKW.out.quiet hk)
              replace HSX := Lib.hid (HSX.out.quiet hk)
              replace HFW := Lib.hid (HFW.out.quiet hk)
              have L1 := Lib.hid hsl
              clear hsl
              refine z_more (fun w' => Keeps (fun _ => False) y1 w') (fun w' h => hHeld.trans h (fun _ _ h => h)) _ _ _ _ ?_
              clear hHeld
              have hHeld : Keeps (fun _ => False) y1 y1 := Keeps.refl _ _
              clear hk
              refine z_take 4 (v := ?_) rfl (by kernel_rfl) (by kernel_rfl) (by kernel_rfl) (by kernel_rfl) (fun _ _ _ h => h) hHeld (by rfl) (fun w hSw => ?_) ?_
              rotate_left
              · have cv := run_strSl (L1.out.quiet hSw); clear hSw; simp only [List.getElem_toArray, List.getElem_cons_zero, List.getElem_cons_succ]; go_simp; try rfl
              simp only [Act.put, List.getElem_toArray, List.getElem_cons_zero, List.getElem_cons_succ, List.setIfInBounds_toArray, List.set_cons_zero, List.set_cons_succ]
              refine z_take 7 (v := ?_) rfl (by kernel_rfl) (by kernel_rfl) (by kernel_rfl) (by kernel_rfl) (fun _ _ _ h => h) hHeld (by rfl) (fun w hSw => ?_) ?_
              rotate_left
              · clear hSw; simp only [List.getElem_toArray, List.getElem_cons_zero, List.getElem_cons_succ]; go_simp; try rfl
              simp only [Act.put, List.getElem_toArray, List.getElem_cons_zero, List.getElem_cons_succ, List.setIfInBounds_toArray, List.set_cons_zero, List.set_cons_succ]
              refine z_take 8 (v := ?_) rfl (by kernel_rfl) (by kernel_rfl) (by kernel_rfl) (by kernel_rfl) (fun _ _ _ h => h) hHeld (by rfl) (fun w hSw => ?_) ?_
              rotate_left
              · clear hSw; simp only [List.getElem_toArray, List.getElem_cons_zero, List.getElem_cons_succ]; go_simp; try rfl
              simp only [Act.put, List.getElem_toArray, List.getElem_cons_zero, List.getElem_cons_succ, List.setIfInBounds_toArray, List.set_cons_zero, List.set_cons_succ]
              refine z_skip 9 rfl (by kernel_rfl) (by kernel_rfl) (by kernel_rfl) (by kernel_rfl) (fun _ _ _ h => h) hHeld (by rfl) ?_
              simp only [Act.put, List.getElem_toArray, List.getElem_cons_zero, List.getElem_cons_succ, List.setIfInBounds_toArray, List.set_cons_zero, List.set_cons_succ]
              refine z_skip 10 rfl (by kernel_rfl) (by kernel_rfl) (by kernel_rfl) (by kernel_rfl) (fun _ _ _ h => h) hHeld (by rfl) ?_
              simp only [Act.put, List.getElem_toArray, List.getElem_cons_zero, List.getElem_cons_succ, List.setIfInBounds_toArray, List.set_cons_zero, List.set_cons_succ]
              refine z_take 11 (v := ?_) rfl (by kernel_rfl) (by kernel_rfl) (by kernel_rfl) (by kernel_rfl) (fun _ _ _ h => h) hHeld (by rfl) (fun w hSw => ?_) ?_
              rotate_left
              · clear hSw; simp only [List.getElem_toArray, List.getElem_cons_zero, List.getElem_cons_succ]; go_simp; try rfl
              simp only [Act.put, List.getElem_toArray, List.getElem_cons_zero, List.getElem_cons_succ, List.setIfInBounds_toArray, List.set_cons_zero, List.set_cons_succ]
              refine z_take 12 (v := ?_) rfl (by kernel_rfl) (by kernel_rfl) (by kernel_rfl) (by kernel_rfl) (fun _ _ _ h => h) hHeld (by rfl) (fun w hSw => ?_) ?_
              rotate_left
              · clear hSw; simp only [List.getElem_toArray, List.getElem_cons_zero, List.getElem_cons_succ]; go_simp; try rfl
              simp only [Act.put, List.getElem_toArray, List.getElem_cons_zero, List.getElem_cons_succ, List.setIfInBounds_toArray, List.set_cons_zero, List.set_cons_succ]
              refine z_take 13 (v := ?_) rfl (by kernel_rfl) (by kernel_rfl) (by kernel_rfl) (by kernel_rfl) (fun _ _ _ h => h) hHeld (by rfl) (fun w hSw => ?_) ?_
              rotate_left
              · clear hSw; simp only [List.getElem_toArray, List.getElem_cons_zero, List.getElem_cons_succ]; go_simp; try rfl
              simp only [Act.put, List.getElem_toArray, List.getElem_cons_zero, List.getElem_cons_succ, List.setIfInBounds_toArray, List.set_cons_zero, List.set_cons_succ]
              refine z_take 16 (v := ?_) rfl (by kernel_rfl) (by kernel_rfl) (by kernel_rfl) (by kernel_rfl) (fun _ _ _ h => h) hHeld (by rfl) (fun w hSw => ?_) ?_
              rotate_left
              · clear hSw; simp only [List.getElem_toArray, List.getElem_cons_zero, List.getElem_cons_succ]; go_simp; try rfl
              simp only [Act.put, List.getElem_toArray, List.getElem_cons_zero, List.getElem_cons_succ, List.setIfInBounds_toArray, List.set_cons_zero, List.set_cons_succ]
              refine z_take 17 (v := ?_) rfl (by kernel_rfl) (by kernel_rfl) (by kernel_rfl) (by kernel_rfl) (fun _ _ _ h => h) hHeld (by rfl) (fun w hSw => ?_) ?_
              rotate_left
              · have cv := run_strSl (HFW.out.quiet hSw); clear hSw; simp only [List.getElem_toArray, List.getElem_cons_zero, List.getElem_cons_succ]; go_simp; try rfl
              simp only [Act.put, List.getElem_toArray, List.getElem_cons_zero, List.getElem_cons_succ, List.setIfInBounds_toArray, List.set_cons_zero, List.set_cons_succ]
              refine z_one 14 rfl (by kernel_rfl) (by rfl) (fun K hK => ?_)
              simp only [List.getElem_toArray, List.getElem_cons_zero, List.getElem_cons_succ]
              go_simp
              refine (HKC.out y1 HSX.out).mono ?_
              rintro e y2 ⟨s2, c2, rfl, hsl, hk⟩
              refine hK _ _ (Or.inr (hHeld.trans hk (fun _ _ h => h.elim))) (fun hHeld => ?_)
              clear hK K
              replace hHeld := hHeld.resolve_left (by decide)
              try simp only [Act.put, List.setIfInBounds_toArray, List.set_cons_zero, List.set_cons_succ]
              replace HKW := Lib.hid (HKW.out.quiet hk)
              replace HSX := Lib.hid (HSX.out.quiet hk)
              replace HFW := Lib.hid (HFW.out.quiet hk)
              have L2 := Lib.hid hsl
              clear hsl
              refine z_more (fun w' => Keeps (fun _ => False) y2 w') (fun w' h => hHeld.trans h (fun _ _ h => h)) _ _ _ _ ?_
              clear hHeld
              have hHeld : Keeps (fun _ => False) y2 y2 := Keeps.refl _ _
              clear hk
              refine z_take 15 (v := ?_) rfl (by kernel_rfl) (by kernel_rfl) (by kernel_rfl) (by kernel_rfl) (fun _ _ _ h => h) hHeld (by rfl) (fun w hSw => ?_) ?_
              rotate_left
              · have cv := run_strSl (L2.out.quiet hSw); clear hSw; simp only [List.getElem_toArray, List.getElem_cons_zero, List.getElem_cons_succ]; go_simp; try rfl
              simp only [Act.put, List.getElem_toArray, List.getElem_cons_zero, List.getElem_cons_succ, List.setIfInBounds_toArray, List.set_cons_zero, List.set_cons_succ]
              refine z_take 18 (v := ?_) rfl (by kernel_rfl) (by kernel_rfl) (by kernel_rfl) (by kernel_rfl) (fun _ _ _ h => h) hHeld (by rfl) (fun w hSw => ?_) ?_
              rotate_left
              · clear hSw; simp only [List.getElem_toArray, List.getElem_cons_zero, List.getElem_cons_succ]; go_simp; try rfl
              simp only [Act.put, List.getElem_toArray, List.getElem_cons_zero, List.getElem_cons_succ, List.setIfInBounds_toArray, List.set_cons_zero, List.set_cons_succ]
              refine z_take 19 (v := ?_) rfl (by kernel_rfl) (by kernel_rfl) (by kernel_rfl) (by kernel_rfl) (fun _ _ _ h => h) hHeld (by rfl) (fun w hSw => ?_) ?_
              rotate_left
              · clear hSw; simp only [List.getElem_toArray, List.getElem_cons_zero, List.getElem_cons_succ]; go_simp; try rfl
              simp only [Act.put, List.getElem_toArray, List.getElem_cons_zero, List.getElem_cons_succ, List.setIfInBounds_toArray, List.set_cons_zero, List.set_cons_succ]
              refine z_take 20 (v := ?_) rfl (by kernel_rfl) (by kernel_rfl) (by kernel_rfl) (by kernel_rfl) (fun _ _ _ h => h) hHeld (by rfl) (fun w hSw => ?_) ?_
              rotate_left
              · clear hSw; simp only [List.getElem_toArray, List.getElem_cons_zero, List.getElem_cons_succ]; go_simp; try rfl
              simp only [Act.put, List.getElem_toArray, List.getElem_cons_zero, List.getElem_cons_succ, List.setIfInBounds_toArray, List.set_cons_zero, List.set_cons_succ]
              refine z_take 21 (v := ?_) rfl (by kernel_rfl) (by kernel_rfl) (by kernel_rfl) (by kernel_rfl) (fun _ _ _ h => h) hHeld (by rfl) (fun w hSw => ?_) ?_
              rotate_left
              · clear hSw; simp only [List.getElem_toArray, List.getElem_cons_zero, List.getElem_cons_succ]; go_simp; try rfl
              simp only [Act.put, List.getElem_toArray, List.getElem_cons_zero, List.getElem_cons_succ, List.setIfInBounds_toArray, List.set_cons_zero, List.set_cons_succ]
              refine z_take 22 (v := ?_) rfl (by kernel_rfl) (by kernel_rfl) (by kernel_rfl) (by kernel_rfl) (fun _ _ _ h => h) hHeld (by rfl) (fun w hSw => ?_) ?_
              rotate_left
              · clear hSw; simp only [List.getElem_toArray, List.getElem_cons_zero, List.getElem_cons_succ]; go_simp; try rfl
              simp only [Act.put, List.getElem_toArray, List.getElem_cons_zero, List.getElem_cons_succ, List.setIfInBounds_toArray, List.set_cons_zero, List.set_cons_succ]
              refine z_take 23 (v := ?_) rfl (by kernel_rfl) (by kernel_rfl) (by kernel_rfl) (by kernel_rfl) (fun _ _ _ h => h) hHeld (by rfl) (fun w hSw => ?_) ?_
              rotate_left
              · clear hSw; simp only [List.getElem_toArray, List.getElem_cons_zero, List.getElem_cons_succ]; go_simp; try rfl
              simp only [Act.put, List.getElem_toArray, List.getElem_cons_zero, List.getElem_cons_succ, List.setIfInBounds_toArray, List.set_cons_zero, List.set_cons_succ]
              refine z_take 24 (v := ?_) rfl (by kernel_rfl) (by kernel_rfl) (by kernel_rfl) (by kernel_rfl) (fun _ _ _ h => h) hHeld (by rfl) (fun w hSw => ?_) ?_
              rotate_left
              · clear hSw; simp only [List.getElem_toArray, List.getElem_cons_zero, List.getElem_cons_succ]; go_simp; try rfl
              simp only [Act.put, List.getElem_toArray, List.getElem_cons_zero, List.getElem_cons_succ, List.setIfInBounds_toArray, List.set_cons_zero, List.set_cons_succ]
              refine z_one 25 rfl (by kernel_rfl) (by rfl) (fun K hK => ?_)
              simp only [List.getElem_toArray, List.getElem_cons_zero, List.getElem_cons_succ]
              go_simp
              refine (lives_any y2).mono ?_
              rintro e y3 ⟨rfl, hk⟩
              refine hK _ _ (Or.inr (hHeld.trans hk (fun _ _ h => h.elim))) (fun hHeld => ?_)
              clear hK K
              replace hHeld := hHeld.resolve_left (by decide)
              try simp only [Act.put, List.setIfInBounds_toArray, List.set_cons_zero, List.set_cons_succ]
              replace HKW := Lib.hid (HKW.out.quiet hk)
              replace HSX := Lib.hid (HSX.out.quiet hk)
              replace HFW := Lib.hid (HFW.out.quiet hk)
              refine z_more (fun w' => Keeps (fun _ => False) y3 w') (fun w' h => hHeld.trans h (fun _ _ h => h)) _ _ _ _ ?_
              clear hHeld
              have hHeld : Keeps (fun _ => False) y3 y3 := Keeps.refl _ _
              clear hk
              refine z_take 26 (v := ?_) rfl (by kernel_rfl) (by kernel_rfl) (by kernel_rfl) (by kernel_rfl) (fun _ _ _ h => h) hHeld (by rfl) (fun w hSw => ?_) ?_
              rotate_left
              · clear hSw; simp only [List.getElem_toArray, List.getElem_cons_zero, List.getElem_cons_succ]; go_simp; try rfl
              simp only [Act.put, List.getElem_toArray, List.getElem_cons_zero, List.getElem_cons_succ, List.setIfInBounds_toArray, List.set_cons_zero, List.set_cons_succ]
              refine z_take 27 (v := ?_) rfl (by kernel_rfl) (by kernel_rfl) (by kernel_rfl) (by kernel_rfl) (fun _ _ _ h => h) hHeld (by rfl) (fun w hSw => ?_) ?_
              rotate_left
              · clear hSw; simp only [List.getElem_toArray, List.getElem_cons_zero, List.getElem_cons_succ]; go_simp; try rfl
              simp only [Act.put, List.getElem_toArray, List.getElem_cons_zero, List.getElem_cons_succ, List.setIfInBounds_toArray, List.set_cons_zero, List.set_cons_succ]
              refine z_done (by kernel_rfl) ?_ _
              clear hHeld
              go_wp2
              go_ret
              exact ⟨rfl, HKW.out⟩
          · have eS : ((strOf X).toList == (strOf f).toList) = false := by rw [strl, strl]; exact beq_false_of_ne hall
            obtain ⟨st, hst⟩ : ∃ st, decide (0 < (plOf X 0 m).1) = st := ⟨_, rfl⟩
            have HSD := Lib.hid (refStands_key s16 m c16 X w16 HXX.out hm10 (by omega))
            rw [hst] at HSD
            have HS0 := Lib.hid hst
            clear HXX hst
            go_wp2_with fail
            refine HSD.out.mono ?_
            rintro e w17 ⟨rfl, hk⟩
            replace HKW := Lib.hid (HKW.out.quiet hk)
            replace HT := Lib.hid (HT.out.quiet hk)
            replace HSX := Lib.hid (HSX.out.quiet hk)
            replace HOG := Lib.hid (And.intro (own_keep HOG.out.1 hk (fun _ _ h => h)) (HOG.out.2.quiet hk))
            replace HO3 := Lib.hid (own_keep HO3.out hk (fun _ _ h => h))
            clear HSD hk
            by_cases hst : st = true
            · subst hst
              go_wp2_with fail
              refine (lives_any _).mono ?_
              rintro e w99 ⟨rfl, hk99⟩
              replace HKW := Lib.hid (HKW.out.quiet hk99)
              go_wp2
              go_ret
              exact ⟨rfl, HKW.out⟩
            · obtain rfl : st = false := by simpa using hst
              have HEQ := Lib.hid (And.intro HPC.out.1 (HPC.out.2.2 (by have h1 := HS0.out; simp at h1; exact h1)))
              have HSM := Lib.hid (sameR_any sg so ng S.recs.length cg co vg vs O.recs S.recs w17 (Sl.of_own HOG.out.1) HOG.out.2.reads (Sl.of_own HT.out.own) HT.out.rows)
              rw [show decide (O.recs = S.recs) = true from decide_eq_true HEQ.out.1] at HSM
              go_wp2_with fail
              refine HSM.out.mono ?_
              rintro e w20 ⟨rfl, hk⟩
              replace HKW := Lib.hid (HKW.out.quiet hk)
              replace HSX := Lib.hid (HSX.out.quiet hk)
              have HKY := Lib.hid (HT.out.keys.quiet hk)
              have HFW := Lib.hid (Sl.of_own (own_keep HO3.out hk (fun _ _ h => h)))
              clear HSM hk HOG HT HO3
              obtain ⟨K, hK⟩ : ∃ K, S.keys = K := ⟨_, rfl⟩
              obtain ⟨nk2, hnk2⟩ : ∃ n, K.length = n := ⟨_, rfl⟩
              rw [hK] at HKY HEQ ⊢
              rw [hnk2] at HKY ⊢
              have HKC : Hid (∀ u : World, StoreAt u t q O Fx Qx → Calls Try.prog 25 #[.pointer (some ⟨t, 0, none⟩)] u fun e w' => ∃ sa c, e = .returned (.slice sa nk2 c) ∧ Sl w' sa nk2 c (BV K) ∧ Keeps (fun _ => False) u w') := Lib.hid (fun u h => by
                have h2 := keys_any t q O Fx Qx u h
                rw [HEQ.out.2, hnk2] at h2
                exact h2.mono fun e w' ⟨sa, c, a1, a2, a3⟩ => ⟨sa, c, a1, Sl.of_own a2, a3⟩)
              have eK : ((strOf K).toList == (strOf K).toList) = true := beq_self_eq_true _
              clear hK hnk2
              go_wp2_with fail
              obtain ⟨v0, hdr⟩ : ∃ v, World.drew w20 = v := ⟨_, rfl⟩
              have hk : Keeps (fun _ => False) w20 v0 := by rw [← hdr]; exact (Keeps.refl _ _).drew
              replace HKW := Lib.hid (HKW.out.quiet hk)
              replace HSX := Lib.hid (HSX.out.quiet hk)
              replace HFW := Lib.hid (HFW.out.quiet hk)
              replace HKY := Lib.hid (HKY.out.quiet hk)
              refine z_begin (fun w' => Keeps (fun _ => False) (World.drew w20) w') 28 (by kernel_rfl) (Keeps.refl _ _) (fun hHeld => ?_)
              rw [hdr] at hHeld ⊢
              clear hk hdr
              refine z_take 0 (v := ?_) rfl (by kernel_rfl) (by kernel_rfl) (by kernel_rfl) (by kernel_rfl) (fun _ _ _ h => h) hHeld (by rfl) (fun w hSw => ?_) ?_
              rotate_left
              · clear hSw; simp only [List.getElem_toArray, List.getElem_cons_zero]; go_simp; try rfl
              simp only [Act.put, List.getElem_toArray, List.getElem_cons_zero, List.setIfInBounds_toArray, List.set_cons_zero, List.set_cons_succ]
              refine z_take 1 (v := ?_) rfl (by kernel_rfl) (by kernel_rfl) (by kernel_rfl) (by kernel_rfl) (fun _ _ _ h => h) hHeld (by rfl) (fun w hSw => ?_) ?_
              rotate_left
              · clear hSw; simp only [List.getElem_toArray, List.getElem_cons_zero, List.getElem_cons_succ]; go_simp; try rfl
              simp only [Act.put, List.getElem_toArray, List.getElem_cons_zero, List.getElem_cons_succ, List.setIfInBounds_toArray, List.set_cons_zero, List.set_cons_succ]
              refine z_take 2 (v := ?_) rfl (by kernel_rfl) (by kernel_rfl) (by kernel_rfl) (by kernel_rfl) (fun _ _ _ h => h) hHeld (by rfl) (fun w hSw => ?_) ?_
              rotate_left
              · clear hSw; simp only [List.getElem_toArray, List.getElem_cons_zero, List.getElem_cons_succ]; go_simp; try rfl
              simp only [Act.put, List.getElem_toArray, List.getElem_cons_zero, List.getElem_cons_succ, List.setIfInBounds_toArray, List.set_cons_zero, List.set_cons_succ]
              refine z_take 5 (v := ?_) rfl (by kernel_rfl) (by kernel_rfl) (by kernel_rfl) (by kernel_rfl) (fun _ _ _ h => h) hHeld (by rfl) (fun w hSw => ?_) ?_
              rotate_left
              · clear hSw; simp only [List.getElem_toArray, List.getElem_cons_zero, List.getElem_cons_succ]; go_simp; try rfl
              simp only [Act.put, List.getElem_toArray, List.getElem_cons_zero, List.getElem_cons_succ, List.setIfInBounds_toArray, List.set_cons_zero, List.set_cons_succ]
              refine z_take 6 (v := ?_) rfl (by kernel_rfl) (by kernel_rfl) (by kernel_rfl) (by kernel_rfl) (fun _ _ _ h => h) hHeld (by rfl) (fun w hSw => ?_) ?_
              rotate_left
              · have cv := run_strSl (HKY.out.quiet hSw); clear hSw; simp only [List.getElem_toArray, List.getElem_cons_zero, List.getElem_cons_succ]; go_simp; try rfl
              simp only [Act.put, List.getElem_toArray, List.getElem_cons_zero, List.getElem_cons_succ, List.setIfInBounds_toArray, List.set_cons_zero, List.set_cons_succ]
              refine z_one 3 rfl (by kernel_rfl) (by rfl) (fun K hK => ?_)
              simp only [List.getElem_toArray, List.getElem_cons_zero, List.getElem_cons_succ]
              go_simp
              refine (HKC.out v0 HSX.out).mono ?_
              rintro e y1 ⟨s1, c1, rfl, hsl, hk⟩
              refine hK _ _ (Or.inr (hHeld.trans hk (fun _ _ h => h.elim))) (fun hHeld => ?_)
              clear hK K
              replace hHeld := hHeld.resolve_left (by decide)
              try simp only [Act.put, List.setIfInBounds_toArray, List.set_cons_zero, List.set_cons_succ]
              replace HKW := Lib.hid (HKW.out.quiet hk)
              replace HSX := Lib.hid (HSX.out.quiet hk)
              replace HFW := Lib.hid (HFW.out.quiet hk)
              have L1 := Lib.hid hsl
              clear hsl
              refine z_more (fun w' => Keeps (fun _ => False) y1 w') (fun w' h => hHeld.trans h (fun _ _ h => h)) _ _ _ _ ?_
              clear hHeld
              have hHeld : Keeps (fun _ => False) y1 y1 := Keeps.refl _ _
              clear hk
              refine z_take 4 (v := ?_) rfl (by kernel_rfl) (by kernel_rfl) (by kernel_rfl) (by kernel_rfl) (fun _ _ _ h => h) hHeld (by rfl) (fun w hSw => ?_) ?_
              rotate_left
              · have cv := run_strSl (L1.out.quiet hSw); clear hSw; simp only [List.getElem_toArray, List.getElem_cons_zero, List.getElem_cons_succ]; go_simp; try rfl
              simp only [Act.put, List.getElem_toArray, List.getElem_cons_zero, List.getElem_cons_succ, List.setIfInBounds_toArray, List.set_cons_zero, List.set_cons_succ]
              refine z_take 7 (v := ?_) rfl (by kernel_rfl) (by kernel_rfl) (by kernel_rfl) (by kernel_rfl) (fun _ _ _ h => h) hHeld (by rfl) (fun w hSw => ?_) ?_
              rotate_left
              · clear hSw; simp only [List.getElem_toArray, List.getElem_cons_zero, List.getElem_cons_succ]; go_simp; try rfl
              simp only [Act.put, List.getElem_toArray, List.getElem_cons_zero, List.getElem_cons_succ, List.setIfInBounds_toArray, List.set_cons_zero, List.set_cons_succ]
              refine z_take 8 (v := ?_) rfl (by kernel_rfl) (by kernel_rfl) (by kernel_rfl) (by kernel_rfl) (fun _ _ _ h => h) hHeld (by rfl) (fun w hSw => ?_) ?_
              rotate_left
              · clear hSw; simp only [List.getElem_toArray, List.getElem_cons_zero, List.getElem_cons_succ]; go_simp; try rfl
              simp only [Act.put, List.getElem_toArray, List.getElem_cons_zero, List.getElem_cons_succ, List.setIfInBounds_toArray, List.set_cons_zero, List.set_cons_succ]
              refine z_take 9 (v := ?_) rfl (by kernel_rfl) (by kernel_rfl) (by kernel_rfl) (by kernel_rfl) (fun _ _ _ h => h) hHeld (by rfl) (fun w hSw => ?_) ?_
              rotate_left
              · clear hSw; simp only [List.getElem_toArray, List.getElem_cons_zero, List.getElem_cons_succ]; go_simp; try rfl
              simp only [Act.put, List.getElem_toArray, List.getElem_cons_zero, List.getElem_cons_succ, List.setIfInBounds_toArray, List.set_cons_zero, List.set_cons_succ]
              refine z_take 10 (v := ?_) rfl (by kernel_rfl) (by kernel_rfl) (by kernel_rfl) (by kernel_rfl) (fun _ _ _ h => h) hHeld (by rfl) (fun w hSw => ?_) ?_
              rotate_left
              · clear hSw; simp only [List.getElem_toArray, List.getElem_cons_zero, List.getElem_cons_succ]; go_simp; try rfl
              simp only [Act.put, List.getElem_toArray, List.getElem_cons_zero, List.getElem_cons_succ, List.setIfInBounds_toArray, List.set_cons_zero, List.set_cons_succ]
              refine z_take 11 (v := ?_) rfl (by kernel_rfl) (by kernel_rfl) (by kernel_rfl) (by kernel_rfl) (fun _ _ _ h => h) hHeld (by rfl) (fun w hSw => ?_) ?_
              rotate_left
              · clear hSw; simp only [List.getElem_toArray, List.getElem_cons_zero, List.getElem_cons_succ]; go_simp; try rfl
              simp only [Act.put, List.getElem_toArray, List.getElem_cons_zero, List.getElem_cons_succ, List.setIfInBounds_toArray, List.set_cons_zero, List.set_cons_succ]
              refine z_take 12 (v := ?_) rfl (by kernel_rfl) (by kernel_rfl) (by kernel_rfl) (by kernel_rfl) (fun _ _ _ h => h) hHeld (by rfl) (fun w hSw => ?_) ?_
              rotate_left
              · clear hSw; simp only [List.getElem_toArray, List.getElem_cons_zero, List.getElem_cons_succ]; go_simp; try rfl
              simp only [Act.put, List.getElem_toArray, List.getElem_cons_zero, List.getElem_cons_succ, List.setIfInBounds_toArray, List.set_cons_zero, List.set_cons_succ]
              refine z_skip 13 rfl (by kernel_rfl) (by kernel_rfl) (by kernel_rfl) (by kernel_rfl) (fun _ _ _ h => h) hHeld (by rfl) ?_
              simp only [Act.put, List.getElem_toArray, List.getElem_cons_zero, List.getElem_cons_succ, List.setIfInBounds_toArray, List.set_cons_zero, List.set_cons_succ]
              refine z_skip 14 rfl (by kernel_rfl) (by kernel_rfl) (by kernel_rfl) (by kernel_rfl) (fun _ _ _ h => h) hHeld (by rfl) ?_
              simp only [Act.put, List.getElem_toArray, List.getElem_cons_zero, List.getElem_cons_succ, List.setIfInBounds_toArray, List.set_cons_zero, List.set_cons_succ]
              refine z_skip 15 rfl (by kernel_rfl) (by kernel_rfl) (by kernel_rfl) (by kernel_rfl) (fun _ _ _ h => h) hHeld (by rfl) ?_
              simp only [Act.put, List.getElem_toArray, List.getElem_cons_zero, List.getElem_cons_succ, List.setIfInBounds_toArray, List.set_cons_zero, List.set_cons_succ]
              refine z_skip 16 rfl (by kernel_rfl) (by kernel_rfl) (by kernel_rfl) (by kernel_rfl) (fun _ _ _ h => h) hHeld (by rfl) ?_
              simp only [Act.put, List.getElem_toArray, List.getElem_cons_zero, List.getElem_cons_succ, List.setIfInBounds_toArray, List.set_cons_zero, List.set_cons_succ]
              refine z_skip 17 rfl (by kernel_rfl) (by kernel_rfl) (by kernel_rfl) (by kernel_rfl) (fun _ _ _ h => h) hHeld (by rfl) ?_
              simp only [Act.put, List.getElem_toArray, List.getElem_cons_zero, List.getElem_cons_succ, List.setIfInBounds_toArray, List.set_cons_zero, List.set_cons_succ]
              refine z_skip 18 rfl (by kernel_rfl) (by kernel_rfl) (by kernel_rfl) (by kernel_rfl) (fun _ _ _ h => h) hHeld (by rfl) ?_
              simp only [Act.put, List.getElem_toArray, List.getElem_cons_zero, List.getElem_cons_succ, List.setIfInBounds_toArray, List.set_cons_zero, List.set_cons_succ]
              refine z_skip 19 rfl (by kernel_rfl) (by kernel_rfl) (by kernel_rfl) (by kernel_rfl) (fun _ _ _ h => h) hHeld (by rfl) ?_
              simp only [Act.put, List.getElem_toArray, List.getElem_cons_zero, List.getElem_cons_succ, List.setIfInBounds_toArray, List.set_cons_zero, List.set_cons_succ]
              refine z_skip 20 rfl (by kernel_rfl) (by kernel_rfl) (by kernel_rfl) (by kernel_rfl) (fun _ _ _ h => h) hHeld (by rfl) ?_
              simp only [Act.put, List.getElem_toArray, List.getElem_cons_zero, List.getElem_cons_succ, List.setIfInBounds_toArray, List.set_cons_zero, List.set_cons_succ]
              refine z_skip 21 rfl (by kernel_rfl) (by kernel_rfl) (by kernel_rfl) (by kernel_rfl) (fun _ _ _ h => h) hHeld (by rfl) ?_
              simp only [Act.put, List.getElem_toArray, List.getElem_cons_zero, List.getElem_cons_succ, List.setIfInBounds_toArray, List.set_cons_zero, List.set_cons_succ]
              refine z_take 22 (v := ?_) rfl (by kernel_rfl) (by kernel_rfl) (by kernel_rfl) (by kernel_rfl) (fun _ _ _ h => h) hHeld (by rfl) (fun w hSw => ?_) ?_
              rotate_left
              · clear hSw; simp only [List.getElem_toArray, List.getElem_cons_zero, List.getElem_cons_succ]; go_simp; try rfl
              simp only [Act.put, List.getElem_toArray, List.getElem_cons_zero, List.getElem_cons_succ, List.setIfInBounds_toArray, List.set_cons_zero, List.set_cons_succ]
              refine z_take 23 (v := ?_) rfl (by kernel_rfl) (by kernel_rfl) (by kernel_rfl) (by kernel_rfl) (fun _ _ _ h => h) hHeld (by rfl) (fun w hSw => ?_) ?_
              rotate_left
              · clear hSw; simp only [List.getElem_toArray, List.getElem_cons_zero, List.getElem_cons_succ]; go_simp; try rfl
              simp only [Act.put, List.getElem_toArray, List.getElem_cons_zero, List.getElem_cons_succ, List.setIfInBounds_toArray, List.set_cons_zero, List.set_cons_succ]
              refine z_take 24 (v := ?_) rfl (by kernel_rfl) (by kernel_rfl) (by kernel_rfl) (by kernel_rfl) (fun _ _ _ h => h) hHeld (by rfl) (fun w hSw => ?_) ?_
              rotate_left
              · clear hSw; simp only [List.getElem_toArray, List.getElem_cons_zero, List.getElem_cons_succ]; go_simp; try rfl
              simp only [Act.put, List.getElem_toArray, List.getElem_cons_zero, List.getElem_cons_succ, List.setIfInBounds_toArray, List.set_cons_zero, List.set_cons_succ]
              refine z_one 25 rfl (by kernel_rfl) (by rfl) (fun K hK => ?_)
              simp only [List.getElem_toArray, List.getElem_cons_zero, List.getElem_cons_succ]
              go_simp
              refine (lives_any y1).mono ?_
              rintro e y2 ⟨rfl, hk⟩
              refine hK _ _ (Or.inr (hHeld.trans hk (fun _ _ h => h.elim))) (fun hHeld => ?_)
              clear hK K
              replace hHeld := hHeld.resolve_left (by decide)
              try simp only [Act.put, List.setIfInBounds_toArray, List.set_cons_zero, List.set_cons_succ]
              replace HKW := Lib.hid (HKW.out.quiet hk)
              replace HSX := Lib.hid (HSX.out.quiet hk)
              replace HFW := Lib.hid (HFW.out.quiet hk)
              refine z_more (fun w' => Keeps (fun _ => False) y2 w') (fun w' h => hHeld.trans h (fun _ _ h => h)) _ _ _ _ ?_
              clear hHeld
              have hHeld : Keeps (fun _ => False) y2 y2 := Keeps.refl _ _
              clear hk
              refine z_take 26 (v := ?_) rfl (by kernel_rfl) (by kernel_rfl) (by kernel_rfl) (by kernel_rfl) (fun _ _ _ h => h) hHeld (by rfl) (fun w hSw => ?_) ?_
              rotate_left
              · clear hSw; simp only [List.getElem_toArray, List.getElem_cons_zero, List.getElem_cons_succ]; go_simp; try rfl
              simp only [Act.put, List.getElem_toArray, List.getElem_cons_zero, List.getElem_cons_succ, List.setIfInBounds_toArray, List.set_cons_zero, List.set_cons_succ]
              refine z_take 27 (v := ?_) rfl (by kernel_rfl) (by kernel_rfl) (by kernel_rfl) (by kernel_rfl) (fun _ _ _ h => h) hHeld (by rfl) (fun w hSw => ?_) ?_
              rotate_left
              · clear hSw; simp only [List.getElem_toArray, List.getElem_cons_zero, List.getElem_cons_succ]; go_simp; try rfl
              simp only [Act.put, List.getElem_toArray, List.getElem_cons_zero, List.getElem_cons_succ, List.setIfInBounds_toArray, List.set_cons_zero, List.set_cons_succ]
              refine z_done (by kernel_rfl) ?_ _
              clear hHeld
              go_wp2
              go_ret
              exact ⟨rfl, HKW.out⟩
      · obtain rfl : set = false := by simpa using hset
        clear hset
        by_cases hr : (nf : Int) > rm
        · clear hof
          go_wp2_with fail
          refine (lives_any _).mono ?_
          rintro e w99 ⟨rfl, hk99⟩
          replace HKW := Lib.hid (HKW.out.quiet hk99)
          go_wp2
          go_ret
          exact ⟨rfl, HKW.out⟩
        · obtain ⟨f, hf⟩ : ∃ f, recF fb = f := ⟨_, rfl⟩
          obtain ⟨m, hm⟩ : ∃ m, nf + 10 = m := ⟨_, rfl⟩
          have hfl : f.length = m := by rw [← hf, ← hm, recF_length, HNF.out]
          rw [hf, hm] at hof
          rw [hm]
          have hrm2 : (fb.length : Int) ≤ S.room := by rw [HNF.out, HRO.out]; omega
          have hus : us + m ≤ 200 := by
            unfold SS.room at hrm2
            rw [HX2.out.2.1.half, HNU.out.1, HNF.out] at hrm2
            have := HX2.out.2.1.usedH
            rw [HNU.out.1] at this
            omega
          have hmb : m ≤ 40 := by omega
          have hm10 : 10 ≤ m := by omega
          have HP : Hid (∀ k, k ≤ m → ((openS (crashed S us f k)).keys = S.keys ∧ (torn f k = f → (openS (crashed S us f k)).recs = S.recs ++ [fb]) ∧ (parse 0 smRec (torn f k) 0 = none → (openS (crashed S us f k)).recs = S.recs))) := Lib.hid (fun k hk => by
            have h9 := crash_rec HX2.out.2.1 fb (by rw [HNF.out]; omega) k (by rw [hf, hfl]; exact hk) hrm2
            rw [hf, HNU.out.1] at h9
            exact h9)
          have hat : us + m ≤ 400 := by omega
          have HOF := Lib.hid hof
          have HFM := Lib.hid hfl
          clear hof hf hm hfl hrm2 hus
          obtain ⟨Fd, _, _, _, _, _, hstA⟩ := HST.out
          have hfd : ∀ j, Fd j → F j := fun j h => (hstA.foot j).2 (Or.inr (Or.inl h))
          have hwz2 := HZ9.out
          have hgf := own_lt HOF.out rfl
          have HFD := Lib.hid (fun j (h : Fd j) => And.intro (hfd j h) (HX2.out.2.2.2.1 j (Or.inl (hfd j h))))
          have hdd : S.d = DS.of S.d.now := by have := HX2.out.2.1.d; rw [this]; rfl
          have h94 := HWZ.out
          have hg3 := HKR.out
          have HW := Lib.hid (write_ok pd us f m (some ⟨gf, 0, none⟩) gf 0 cf S.d Fd w10 hstA.disk (by rw [hdd]; rfl) HFM.out (fun _ => rfl) (fun j c h => by rw [Nat.zero_add]; exact own_cell HOF.out j _ (by rw [BV_get, h]; rfl)) (fun _ hf => by have := (HFD.out gf hf).2.2; omega) (by rw [HX2.out.2.1.len]; exact hat) (by rw [HX2.out.2.1.len]; omega) (by rw [hdd]; show 0 ≤ 1000000; omega))
          replace HT := Lib.hid (HT.out.weak (F' := Fd) (Q' := fun _ => False) hfd (fun _ h => h.elim))
          have HDD := Lib.hid hdd
          clear hstA hfd hwz2 hgf hdd HST
          go_wp2_with fail
          have hn3 : ∀ j, (Value.slice s3 nf c3).ownBlock = some j → ¬ Fd j ∧ j < w10.heap.size := fun j e => ⟨fun h => by have h1 := (HO3.out.lt j e).1; have h2 := (HFD.out j h).2.2; omega, (HO3.out.lt j e).2⟩
          have hnf3 : ¬ Fd gf ∧ gf < w10.heap.size := ⟨fun h => by have h1 := (own_lt HOF.out rfl).1; have h2 := (HFD.out gf h).2.2; have h3 := HZ9.out; omega, (own_lt HOF.out rfl).2⟩
          have HN3 := Lib.hid (And.intro hn3 hnf3)
          clear hn3 hnf3 h94 hg3
          refine HW.out.mono ?_
          rintro e w12 ⟨rfl, F6, hd6, hk6, hf6⟩
          have HZ12 := Lib.hid hk6.size
          replace HKW := Lib.hid (HKW.out.trans hk6 (fun j hj h => by have := (HFD.out j h).2.1; omega))
          have hzw : w2.heap.size ≤ w10.heap.size := by have h1 := HWZ.out.2; have h2 := HKR.out.2; have h3 := HZ9.out; have h4 := own_lt HOF.out rfl; omega
          replace HT := Lib.hid (HT.out.keep hk6 (fun j a => HX2.out.2.2.2.2 j (HFD.out j a).1) hf6 (Q' := fun _ => False) (fun _ h => h.elim))
          replace HO3 := Lib.hid (own_keep HO3.out hk6 (fun j e => (HN3.out.1 j e).1))
          replace HOF := Lib.hid (own_keep HOF.out hk6 (fun j e => by have e2 := form_own HOF.out e; simp at e2; rw [← e2]; exact HN3.out.2.1))
          have HF6 : Hid ((∀ j, F6 j → w.heap.size ≤ j ∧ ¬ Far w w1 w2 j) ∧ (∀ j, (Value.slice s3 nf c3).ownBlock = some j → ¬ F6 j) ∧ ¬ F6 gf) := Lib.hid ⟨fun j a => (hf6 j a).elim (fun h => ⟨(HFD.out j h).2.1, HX2.out.2.2.2.2 j (HFD.out j h).1⟩) (fun h => ⟨by have hz1 := HWZ.out.1; have hz2 := HWZ.out.2; have hz3 := own_lt HOF.out rfl; have hz4 := HKR.out.2; have hz5 := HZ9.out; have hz6 := HN3.out.2.2; omega, fun hf => hf (Or.inr (by omega))⟩), fun j e a => (hf6 j a).elim (HN3.out.1 j e).1 (fun h => by have := (HN3.out.1 j e).2; omega), fun a => (hf6 _ a).elim HN3.out.2.1 (fun h => by have := HN3.out.2.2; omega)⟩
          obtain ⟨m1, hm1⟩ : ∃ x, m + 1 = x := ⟨_, rfl⟩
          have u1 : (m : Int) + 1 = (m1 : Int) := by omega
          have u2 : IntKind.i64.wrap (m1 : Int) = (m1 : Int) := IntWalk.i64_in _ (by omega)
          obtain ⟨cut, hcut, _, hc1⟩ := around_nat left m1 w12 HXY.out.2.2.2.1 HXY.out.2.2.2.2 (by omega) (by omega)
          have HC := Lib.hid hc1
          have hlo6 : (S.d.write us f).lo = mkLo us f := by rw [HDD.out]; rfl
          have hnl6 : (S.d.write us f).now.length = 400 := by rw [write_len _ _ _ (by rw [HFM.out, HX2.out.2.1.len]; exact hat), HX2.out.2.1.len]
          have HAG := Lib.hid (again_any pd (cut : Int) (S.d.write us f) F6 w12 hd6 (by rw [HDD.out]; rfl) (by rw [hlo6, mkLo_length, HFM.out]; omega) (fun x hx => by rw [hlo6] at hx; have := mkLo_lt hx; rw [hnl6]; rw [HFM.out] at this; omega) (by rw [hnl6, HDD.out]; exact HX2.out.2.1.len) (by rw [hnl6]; omega) (by rw [hnl6]; omega))
          have hcm : cut ≤ m := by omega
          clear HW hd6 hk6 hf6 hzw hc1 hlo6 hnl6 HFD HDD hm1 hcut
          go_wp2_with fail
          refine HC.out.mono ?_
          rintro e _ ⟨rfl, rfl⟩
          clear HC u1 u2
          go_wp2_with fail
          refine HAG.out.mono ?_
          rintro e w13 ⟨q, t, Fx, Qx, rfl, hst, hk, hFx, hQx⟩
          have hst2 : StoreAt w13 t q (openS (crashed S us f cut)) Fx Qx := hst
          have HPC := Lib.hid (HP.out cut hcm)
          obtain ⟨O, hO⟩ : ∃ O, openS (crashed S us f cut) = O := ⟨_, rfl⟩
          rw [hO] at HPC hst2
          have HSX := Lib.hid hst2
          replace HKW := Lib.hid (HKW.out.trans hk (fun j hj h => by have := (HF6.out.1 j h).1; omega))
          replace HT := Lib.hid (HT.out.keep hk (fun j a => (HF6.out.1 j a).2) (F' := fun _ => False) (fun _ h => h.elim) (Q' := fun _ => False) (fun _ h => h.elim))
          replace HO3 := Lib.hid (own_keep HO3.out hk (fun j e => HF6.out.2.1 j e))
          replace HOF := Lib.hid (own_keep HOF.out hk (fun j e => by have e2 := form_own HOF.out e; simp at e2; rw [← e2]; exact HF6.out.2.2))
          have HRC := Lib.hid (records_any t q O Fx Qx w13 hst2)
          have hz13 : wr.heap.size ≤ w12.heap.size ∧ wr.heap.size ≤ w13.heap.size := by have h1 := HKR.out.2; have h2 := HZ9.out; have h3 := HN3.out.2.2; have h4 := (own_lt HOF.out rfl).1; have h5 := hk.size; have h6 := HZ12.out; omega
          have HZ13 := Lib.hid hz13.2
          have HFX := Lib.hid (fun j (h : Fx j ∨ Qx j) => h.elim (fun a => Nat.le_trans hz13.1 (hFx j a)) (fun a => Nat.le_trans hz13.1 (hQx j a)))
          clear HAG hst hst2 hk hFx hQx hO HP HF6 HN3 hz13
          go_wp2_with fail
          refine HRC.out.mono ?_
          rintro e w14 ⟨sg, cg, vg, rfl, hog, hrg, hk⟩
          replace HKW := Lib.hid (HKW.out.quiet hk)
          replace HT := Lib.hid (HT.out.quiet hk)
          replace HSX := Lib.hid (HSX.out.quiet hk)
          replace HO3 := Lib.hid (own_keep HO3.out hk (fun _ _ h => h))
          replace HOF := Lib.hid (own_keep HOF.out hk (fun _ _ h => h))
          obtain ⟨ng, hng⟩ : ∃ n, O.recs.length = n := ⟨_, rfl⟩
          rw [hng] at hog
          rw [hng]
          have HOG := Lib.hid (And.intro hog hrg)
          clear HRC hog hrg hk hng
          obtain ⟨k2, hk2⟩ : ∃ x, m - cut = x := ⟨_, rfl⟩
          have u3 : (m : Int) - (cut : Int) = (k2 : Int) := by omega
          have u4 : IntKind.i64.wrap (k2 : Int) = (k2 : Int) := IntWalk.i64_in _ (by omega)
          have hcf := (Sl.of_own HOF.out).le
          have u5 : ¬ cf = 0 := by omega
          have u6 : (cut : Int) ≤ (cf : Int) := by omega
          have u7 : (0 : Int) ≤ (cut : Int) := by omega
          have u8_ : cut ≤ cf := by omega
          have HFL := Lib.hid (show (f.take cut).length = cut by rw [List.length_take, HFM.out]; omega)
          go_wp2_with (at_builtin; first
            | (refine wpList_newB rfl _ _ rfl rfl (some ⟨gf, 0, none⟩) cut cf (f.take cut) rfl (by rw [← BV_take]; exact (Sl.of_own HOF.out).upto (by omega)) (by omega) ?_; intro s15 c15 w15 hown15 hk15; have H15 := Lib.hid (And.intro hown15 hk15); clear hown15 hk15)
            | (refine wpList_zerosB rfl _ _ rfl w14.heap.size s15 cut c15 (f.take cut) rfl H15.out.1 k2 rfl (by omega) (by omega) H15.out.2.size ?_
               intro s16 c16 w16 hown16 hk16
               have H16 := Lib.hid (And.intro hown16 (H15.out.2.trans hk16 (fun j hj e => by have := (own_lt H15.out.1 e).1; omega)))
               clear hown16 hk16))
          have e9 : cut + k2 = m := by omega
          rw [e9] at H16 ⊢
          obtain ⟨X, hX⟩ : ∃ X, f.take cut ++ List.replicate k2 0 = X := ⟨_, rfl⟩
          have hXt : torn f cut = X := by rw [← hX]; unfold torn; rw [HFM.out, hk2]
          rw [hX] at H16
          rw [hXt] at HPC
          have hXl : X.length = m := by rw [← hXt, torn_length _ _ (by rw [HFM.out]; exact hcm), HFM.out]
          have HXX := Lib.hid (Sl.of_own H16.out.1)
          replace HKW := Lib.hid (HKW.out.quiet H16.out.2)
          replace HT := Lib.hid (HT.out.quiet H16.out.2)
          replace HSX := Lib.hid (HSX.out.quiet H16.out.2)
          replace HO3 := Lib.hid (own_keep HO3.out H16.out.2 (fun _ _ h => h))
          replace HOG := Lib.hid (And.intro (own_keep HOG.out.1 H16.out.2 (fun _ _ h => h)) (HOG.out.2.quiet H16.out.2))
          have cv1 := run_strSl HXX.out
          have cv2 := run_strSl (own_keep HOF.out H16.out.2 (fun _ _ h => h) |> Sl.of_own)
          rw [cv1]
          clear e9 hX hXt hXl H15 H16 u3 u4 u5 u6 u7 u8_ HFL hk2 hcf HOF
          by_cases hall : X = f
          · have eS : ((strOf X).toList == (strOf f).toList) = true := by rw [hall]; exact beq_self_eq_true _
            clear HXX
            have hrn := HX2.out.2.1.few
            go_wp2_with (at_builtin; refine wpList_pushVat _ s3 nf c3 rfl _ _ rfl 0 so S.recs.length co vs rfl (own_base HT.out.own (fun _ _ => Nat.zero_le _)) rfl (by omega) (Nat.zero_le _) ?_; intro so2 co2 w18 hown5 hk5 _; have H5 := Lib.hid (And.intro hown5 hk5); clear hown5 hk5)
            have hA : ∀ j, so = some ⟨j, 0, none⟩ → ¬ Far w w1 w2 j := fun j e h => h (Or.inr (HSO.out j e).1)
            have HR5 := Lib.hid ((rows_keep HT.out.rows HT.out.rin H5.out.2 hA).snoc HNF.out (Sl.of_own (own_keep HO3.out H5.out.2 (fun j e e2 => by have h1 := (HO3.out.lt j e).1; have h2 := (HSO.out j e2).2; omega))))
            have HK5 := Lib.hid (sl_keep HT.out.keys HT.out.kin H5.out.2 hA)
            replace HKW := Lib.hid (HKW.out.trans H5.out.2 (fun j hj e => by have h1 := (HSO.out j e).1; have h2 := HW2.out; omega))
            replace HOG := Lib.hid (And.intro (own_keep HOG.out.1 H5.out.2 (fun j e e2 => by have h1 := (HOG.out.1.lt j e).1; have h2 := (HSO.out j e2).2; have h3 := HZ13.out; omega)) (HOG.out.2.keep H5.out.2 (fun j h1 _ _ e2 => by have h2 := (HSO.out j e2).2; have h3 := HZ13.out; omega)))
            replace HSX := Lib.hid (HSX.out.keep H5.out.2 (fun j e h => by have h1 := HFX.out j (Or.inl h); have h2 := (HSO.out j e).2; omega) (fun j e h => by have h1 := HFX.out j (Or.inr h); have h2 := (HSO.out j e).2; omega))
            replace HO3 := Lib.hid (own_keep HO3.out H5.out.2 (fun j e e2 => by have h1 := (HO3.out.lt j e).1; have h2 := (HSO.out j e2).2; omega))
            have HEQ := Lib.hid (And.intro (HPC.out.2.1 hall) HPC.out.1)
            clear hA hrn
            have HSM := Lib.hid (sameR_any sg so2 ng (S.recs.length + 1) cg co2 vg (vs ++ [.slice s3 nf c3]) O.recs (S.recs ++ [fb]) w18 (Sl.of_own HOG.out.1) HOG.out.2.reads (Sl.of_own H5.out.1) HR5.out)
            rw [show decide (O.recs = (S.recs ++ [fb])) = true from decide_eq_true HEQ.out.1] at HSM
            go_wp2_with fail
            refine HSM.out.mono ?_
            rintro e w20 ⟨rfl, hk⟩
            replace HKW := Lib.hid (HKW.out.quiet hk)
            replace HSX := Lib.hid (HSX.out.quiet hk)
            have HKY := Lib.hid (HK5.out.quiet hk)
            have HFW := Lib.hid (Sl.of_own (own_keep HO3.out hk (fun _ _ h => h)))
            clear HSM hk HOG HT HO3
            obtain ⟨K, hK⟩ : ∃ K, S.keys = K := ⟨_, rfl⟩
            obtain ⟨nk2, hnk2⟩ : ∃ n, K.length = n := ⟨_, rfl⟩
            rw [hK] at HKY HEQ ⊢
            rw [hnk2] at HKY ⊢
            have HKC : Hid (∀ u : World, StoreAt u t q O Fx Qx → Calls Try.prog 25 #[.pointer (some ⟨t, 0, none⟩)] u fun e w' => ∃ sa c, e = .returned (.slice sa nk2 c) ∧ Sl w' sa nk2 c (BV K) ∧ Keeps (fun _ => False) u w') := Lib.hid (fun u h => by
              have h2 := keys_any t q O Fx Qx u h
              rw [HEQ.out.2, hnk2] at h2
              exact h2.mono fun e w' ⟨sa, c, a1, a2, a3⟩ => ⟨sa, c, a1, Sl.of_own a2, a3⟩)
            have eK : ((strOf K).toList == (strOf K).toList) = true := beq_self_eq_true _
            clear hK hnk2
            go_wp2_with fail
            obtain ⟨v0, hdr⟩ : ∃ v, World.drew w20 = v := ⟨_, rfl⟩
            have hk : Keeps (fun _ => False) w20 v0 := by rw [← hdr]; exact (Keeps.refl _ _).drew
            replace HKW := Lib.hid (HKW.out.quiet hk)
            replace HSX := Lib.hid (HSX.out.quiet hk)
            replace HFW := Lib.hid (HFW.out.quiet hk)
            replace HKY := Lib.hid (HKY.out.quiet hk)
            refine z_begin (fun w' => Keeps (fun _ => False) (World.drew w20) w') 13 (by kernel_rfl) (Keeps.refl _ _) (fun hHeld => ?_)
            rw [hdr] at hHeld ⊢
            clear hk hdr
            refine z_take 0 (v := ?_) rfl (by kernel_rfl) (by kernel_rfl) (by kernel_rfl) (by kernel_rfl) (fun _ _ _ h => h) hHeld (by rfl) (fun w hSw => ?_) ?_
            rotate_left
            · clear hSw; simp only [List.getElem_toArray, List.getElem_cons_zero]; go_simp; try rfl
            simp only [Act.put, List.getElem_toArray, List.getElem_cons_zero, List.setIfInBounds_toArray, List.set_cons_zero, List.set_cons_succ]
            refine z_take 1 (v := ?_) rfl (by kernel_rfl) (by kernel_rfl) (by kernel_rfl) (by kernel_rfl) (fun _ _ _ h => h) hHeld (by rfl) (fun w hSw => ?_) ?_
            rotate_left
            · clear hSw; simp only [List.getElem_toArray, List.getElem_cons_zero, List.getElem_cons_succ]; go_simp; try rfl
            simp only [Act.put, List.getElem_toArray, List.getElem_cons_zero, List.getElem_cons_succ, List.setIfInBounds_toArray, List.set_cons_zero, List.set_cons_succ]
            refine z_take 2 (v := ?_) rfl (by kernel_rfl) (by kernel_rfl) (by kernel_rfl) (by kernel_rfl) (fun _ _ _ h => h) hHeld (by rfl) (fun w hSw => ?_) ?_
            rotate_left
            · clear hSw; simp only [List.getElem_toArray, List.getElem_cons_zero, List.getElem_cons_succ]; go_simp; try rfl
            simp only [Act.put, List.getElem_toArray, List.getElem_cons_zero, List.getElem_cons_succ, List.setIfInBounds_toArray, List.set_cons_zero, List.set_cons_succ]
            refine z_take 5 (v := ?_) rfl (by kernel_rfl) (by kernel_rfl) (by kernel_rfl) (by kernel_rfl) (fun _ _ _ h => h) hHeld (by rfl) (fun w hSw => ?_) ?_
            rotate_left
            · clear hSw; simp only [List.getElem_toArray, List.getElem_cons_zero, List.getElem_cons_succ]; go_simp; try rfl
            simp only [Act.put, List.getElem_toArray, List.getElem_cons_zero, List.getElem_cons_succ, List.setIfInBounds_toArray, List.set_cons_zero, List.set_cons_succ]
            refine z_take 6 (v := ?_) rfl (by kernel_rfl) (by kernel_rfl) (by kernel_rfl) (by kernel_rfl) (fun _ _ _ h => h) hHeld (by rfl) (fun w hSw => ?_) ?_
            rotate_left
            · have cv := run_strSl (HKY.out.quiet hSw); clear hSw; simp only [List.getElem_toArray, List.getElem_cons_zero, List.getElem_cons_succ]; go_simp; try rfl
            simp only [Act.put, List.getElem_toArray, List.getElem_cons_zero, List.getElem_cons_succ, List.setIfInBounds_toArray, List.set_cons_zero, List.set_cons_succ]
            refine z_one 3 rfl (by kernel_rfl) (by rfl) (fun K hK => ?_)
            simp only [List.getElem_toArray, List.getElem_cons_zero, List.getElem_cons_succ]
            go_simp
            refine (HKC.out v0 HSX.out).mono ?_
            rintro e y1 ⟨s1, c1, rfl, hsl, hk⟩
            refine hK _ _ (Or.inr (hHeld.trans hk (fun _ _ h => h.elim))) (fun hHeld => ?_)
            clear hK K
            replace hHeld := hHeld.resolve_left (by decide)
            try simp only [Act.put, List.setIfInBounds_toArray, List.set_cons_zero, List.set_cons_succ]
            replace HKW := Lib.hid (HKW.out.quiet hk)
            replace HSX := Lib.hid (HSX.out.quiet hk)
            replace HFW := Lib.hid (HFW.out.quiet hk)
            have L1 := Lib.hid hsl
            clear hsl
            refine z_more (fun w' => Keeps (fun _ => False) y1 w') (fun w' h => hHeld.trans h (fun _ _ h => h)) _ _ _ _ ?_
            clear hHeld
            have hHeld : Keeps (fun _ => False) y1 y1 := Keeps.refl _ _
            clear hk
            refine z_take 4 (v := ?_) rfl (by kernel_rfl) (by kernel_rfl) (by kernel_rfl) (by kernel_rfl) (fun _ _ _ h => h) hHeld (by rfl) (fun w hSw => ?_) ?_
            rotate_left
            · have cv := run_strSl (L1.out.quiet hSw); clear hSw; simp only [List.getElem_toArray, List.getElem_cons_zero, List.getElem_cons_succ]; go_simp; try rfl
            simp only [Act.put, List.getElem_toArray, List.getElem_cons_zero, List.getElem_cons_succ, List.setIfInBounds_toArray, List.set_cons_zero, List.set_cons_succ]
            refine z_take 7 (v := ?_) rfl (by kernel_rfl) (by kernel_rfl) (by kernel_rfl) (by kernel_rfl) (fun _ _ _ h => h) hHeld (by rfl) (fun w hSw => ?_) ?_
            rotate_left
            · clear hSw; simp only [List.getElem_toArray, List.getElem_cons_zero, List.getElem_cons_succ]; go_simp; try rfl
            simp only [Act.put, List.getElem_toArray, List.getElem_cons_zero, List.getElem_cons_succ, List.setIfInBounds_toArray, List.set_cons_zero, List.set_cons_succ]
            refine z_take 8 (v := ?_) rfl (by kernel_rfl) (by kernel_rfl) (by kernel_rfl) (by kernel_rfl) (fun _ _ _ h => h) hHeld (by rfl) (fun w hSw => ?_) ?_
            rotate_left
            · clear hSw; simp only [List.getElem_toArray, List.getElem_cons_zero, List.getElem_cons_succ]; go_simp; try rfl
            simp only [Act.put, List.getElem_toArray, List.getElem_cons_zero, List.getElem_cons_succ, List.setIfInBounds_toArray, List.set_cons_zero, List.set_cons_succ]
            refine z_take 9 (v := ?_) rfl (by kernel_rfl) (by kernel_rfl) (by kernel_rfl) (by kernel_rfl) (fun _ _ _ h => h) hHeld (by rfl) (fun w hSw => ?_) ?_
            rotate_left
            · clear hSw; simp only [List.getElem_toArray, List.getElem_cons_zero, List.getElem_cons_succ]; go_simp; try rfl
            simp only [Act.put, List.getElem_toArray, List.getElem_cons_zero, List.getElem_cons_succ, List.setIfInBounds_toArray, List.set_cons_zero, List.set_cons_succ]
            refine z_one 10 rfl (by kernel_rfl) (by rfl) (fun K hK => ?_)
            simp only [List.getElem_toArray, List.getElem_cons_zero, List.getElem_cons_succ]
            go_simp
            refine (lives_any y1).mono ?_
            rintro e y2 ⟨rfl, hk⟩
            refine hK _ _ (Or.inr (hHeld.trans hk (fun _ _ h => h.elim))) (fun hHeld => ?_)
            clear hK K
            replace hHeld := hHeld.resolve_left (by decide)
            try simp only [Act.put, List.setIfInBounds_toArray, List.set_cons_zero, List.set_cons_succ]
            replace HKW := Lib.hid (HKW.out.quiet hk)
            replace HSX := Lib.hid (HSX.out.quiet hk)
            replace HFW := Lib.hid (HFW.out.quiet hk)
            refine z_more (fun w' => Keeps (fun _ => False) y2 w') (fun w' h => hHeld.trans h (fun _ _ h => h)) _ _ _ _ ?_
            clear hHeld
            have hHeld : Keeps (fun _ => False) y2 y2 := Keeps.refl _ _
            clear hk
            refine z_take 11 (v := ?_) rfl (by kernel_rfl) (by kernel_rfl) (by kernel_rfl) (by kernel_rfl) (fun _ _ _ h => h) hHeld (by rfl) (fun w hSw => ?_) ?_
            rotate_left
            · clear hSw; simp only [List.getElem_toArray, List.getElem_cons_zero, List.getElem_cons_succ]; go_simp; try rfl
            simp only [Act.put, List.getElem_toArray, List.getElem_cons_zero, List.getElem_cons_succ, List.setIfInBounds_toArray, List.set_cons_zero, List.set_cons_succ]
            refine z_take 12 (v := ?_) rfl (by kernel_rfl) (by kernel_rfl) (by kernel_rfl) (by kernel_rfl) (fun _ _ _ h => h) hHeld (by rfl) (fun w hSw => ?_) ?_
            rotate_left
            · clear hSw; simp only [List.getElem_toArray, List.getElem_cons_zero, List.getElem_cons_succ]; go_simp; try rfl
            simp only [Act.put, List.getElem_toArray, List.getElem_cons_zero, List.getElem_cons_succ, List.setIfInBounds_toArray, List.set_cons_zero, List.set_cons_succ]
            refine z_done (by kernel_rfl) ?_ _
            clear hHeld
            go_wp2
            go_ret
            exact ⟨rfl, HKW.out⟩
          · have eS : ((strOf X).toList == (strOf f).toList) = false := by rw [strl, strl]; exact beq_false_of_ne hall
            obtain ⟨st, hst⟩ : ∃ st, (parse 0 smRec X 0).isSome = st := ⟨_, rfl⟩
            have HSD := Lib.hid (refStands_rec s16 m c16 X w16 HXX.out hm10 (by omega))
            rw [hst] at HSD
            have HS0 := Lib.hid hst
            clear HXX hst
            go_wp2_with fail
            refine HSD.out.mono ?_
            rintro e w17 ⟨rfl, hk⟩
            replace HKW := Lib.hid (HKW.out.quiet hk)
            replace HT := Lib.hid (HT.out.quiet hk)
            replace HSX := Lib.hid (HSX.out.quiet hk)
            replace HOG := Lib.hid (And.intro (own_keep HOG.out.1 hk (fun _ _ h => h)) (HOG.out.2.quiet hk))
            replace HO3 := Lib.hid (own_keep HO3.out hk (fun _ _ h => h))
            clear HSD hk
            by_cases hst : st = true
            · subst hst
              go_wp2_with fail
              refine (lives_any _).mono ?_
              rintro e w99 ⟨rfl, hk99⟩
              replace HKW := Lib.hid (HKW.out.quiet hk99)
              go_wp2
              go_ret
              exact ⟨rfl, HKW.out⟩
            · obtain rfl : st = false := by simpa using hst
              have HEQ := Lib.hid (And.intro (HPC.out.2.2 (by have h1 := HS0.out; cases hq : parse 0 smRec X 0 with
                | none => rfl
                | some v => rw [hq] at h1; cases h1)) HPC.out.1)
              have HSM := Lib.hid (sameR_any sg so ng S.recs.length cg co vg vs O.recs S.recs w17 (Sl.of_own HOG.out.1) HOG.out.2.reads (Sl.of_own HT.out.own) HT.out.rows)
              rw [show decide (O.recs = S.recs) = true from decide_eq_true HEQ.out.1] at HSM
              go_wp2_with fail
              refine HSM.out.mono ?_
              rintro e w20 ⟨rfl, hk⟩
              replace HKW := Lib.hid (HKW.out.quiet hk)
              replace HSX := Lib.hid (HSX.out.quiet hk)
              have HKY := Lib.hid (HT.out.keys.quiet hk)
              have HFW := Lib.hid (Sl.of_own (own_keep HO3.out hk (fun _ _ h => h)))
              clear HSM hk HOG HT HO3
              obtain ⟨K, hK⟩ : ∃ K, S.keys = K := ⟨_, rfl⟩
              obtain ⟨nk2, hnk2⟩ : ∃ n, K.length = n := ⟨_, rfl⟩
              rw [hK] at HKY HEQ ⊢
              rw [hnk2] at HKY ⊢
              have HKC : Hid (∀ u : World, StoreAt u t q O Fx Qx → Calls Try.prog 25 #[.pointer (some ⟨t, 0, none⟩)] u fun e w' => ∃ sa c, e = .returned (.slice sa nk2 c) ∧ Sl w' sa nk2 c (BV K) ∧ Keeps (fun _ => False) u w') := Lib.hid (fun u h => by
                have h2 := keys_any t q O Fx Qx u h
                rw [HEQ.out.2, hnk2] at h2
                exact h2.mono fun e w' ⟨sa, c, a1, a2, a3⟩ => ⟨sa, c, a1, Sl.of_own a2, a3⟩)
              have eK : ((strOf K).toList == (strOf K).toList) = true := beq_self_eq_true _
              clear hK hnk2
              go_wp2_with fail
              obtain ⟨v0, hdr⟩ : ∃ v, World.drew w20 = v := ⟨_, rfl⟩
              have hk : Keeps (fun _ => False) w20 v0 := by rw [← hdr]; exact (Keeps.refl _ _).drew
              replace HKW := Lib.hid (HKW.out.quiet hk)
              replace HSX := Lib.hid (HSX.out.quiet hk)
              replace HFW := Lib.hid (HFW.out.quiet hk)
              replace HKY := Lib.hid (HKY.out.quiet hk)
              refine z_begin (fun w' => Keeps (fun _ => False) (World.drew w20) w') 13 (by kernel_rfl) (Keeps.refl _ _) (fun hHeld => ?_)
              rw [hdr] at hHeld ⊢
              clear hk hdr
              refine z_take 0 (v := ?_) rfl (by kernel_rfl) (by kernel_rfl) (by kernel_rfl) (by kernel_rfl) (fun _ _ _ h => h) hHeld (by rfl) (fun w hSw => ?_) ?_
              rotate_left
              · clear hSw; simp only [List.getElem_toArray, List.getElem_cons_zero]; go_simp; try rfl
              simp only [Act.put, List.getElem_toArray, List.getElem_cons_zero, List.setIfInBounds_toArray, List.set_cons_zero, List.set_cons_succ]
              refine z_take 1 (v := ?_) rfl (by kernel_rfl) (by kernel_rfl) (by kernel_rfl) (by kernel_rfl) (fun _ _ _ h => h) hHeld (by rfl) (fun w hSw => ?_) ?_
              rotate_left
              · clear hSw; simp only [List.getElem_toArray, List.getElem_cons_zero, List.getElem_cons_succ]; go_simp; try rfl
              simp only [Act.put, List.getElem_toArray, List.getElem_cons_zero, List.getElem_cons_succ, List.setIfInBounds_toArray, List.set_cons_zero, List.set_cons_succ]
              refine z_take 2 (v := ?_) rfl (by kernel_rfl) (by kernel_rfl) (by kernel_rfl) (by kernel_rfl) (fun _ _ _ h => h) hHeld (by rfl) (fun w hSw => ?_) ?_
              rotate_left
              · clear hSw; simp only [List.getElem_toArray, List.getElem_cons_zero, List.getElem_cons_succ]; go_simp; try rfl
              simp only [Act.put, List.getElem_toArray, List.getElem_cons_zero, List.getElem_cons_succ, List.setIfInBounds_toArray, List.set_cons_zero, List.set_cons_succ]
              refine z_take 5 (v := ?_) rfl (by kernel_rfl) (by kernel_rfl) (by kernel_rfl) (by kernel_rfl) (fun _ _ _ h => h) hHeld (by rfl) (fun w hSw => ?_) ?_
              rotate_left
              · clear hSw; simp only [List.getElem_toArray, List.getElem_cons_zero, List.getElem_cons_succ]; go_simp; try rfl
              simp only [Act.put, List.getElem_toArray, List.getElem_cons_zero, List.getElem_cons_succ, List.setIfInBounds_toArray, List.set_cons_zero, List.set_cons_succ]
              refine z_take 6 (v := ?_) rfl (by kernel_rfl) (by kernel_rfl) (by kernel_rfl) (by kernel_rfl) (fun _ _ _ h => h) hHeld (by rfl) (fun w hSw => ?_) ?_
              rotate_left
              · have cv := run_strSl (HKY.out.quiet hSw); clear hSw; simp only [List.getElem_toArray, List.getElem_cons_zero, List.getElem_cons_succ]; go_simp; try rfl
              simp only [Act.put, List.getElem_toArray, List.getElem_cons_zero, List.getElem_cons_succ, List.setIfInBounds_toArray, List.set_cons_zero, List.set_cons_succ]
              refine z_one 3 rfl (by kernel_rfl) (by rfl) (fun K hK => ?_)
              simp only [List.getElem_toArray, List.getElem_cons_zero, List.getElem_cons_succ]
              go_simp
              refine (HKC.out v0 HSX.out).mono ?_
              rintro e y1 ⟨s1, c1, rfl, hsl, hk⟩
              refine hK _ _ (Or.inr (hHeld.trans hk (fun _ _ h => h.elim))) (fun hHeld => ?_)
              clear hK K
              replace hHeld := hHeld.resolve_left (by decide)
              try simp only [Act.put, List.setIfInBounds_toArray, List.set_cons_zero, List.set_cons_succ]
              replace HKW := Lib.hid (HKW.out.quiet hk)
              replace HSX := Lib.hid (HSX.out.quiet hk)
              replace HFW := Lib.hid (HFW.out.quiet hk)
              have L1 := Lib.hid hsl
              clear hsl
              refine z_more (fun w' => Keeps (fun _ => False) y1 w') (fun w' h => hHeld.trans h (fun _ _ h => h)) _ _ _ _ ?_
              clear hHeld
              have hHeld : Keeps (fun _ => False) y1 y1 := Keeps.refl _ _
              clear hk
              refine z_take 4 (v := ?_) rfl (by kernel_rfl) (by kernel_rfl) (by kernel_rfl) (by kernel_rfl) (fun _ _ _ h => h) hHeld (by rfl) (fun w hSw => ?_) ?_
              rotate_left
              · have cv := run_strSl (L1.out.quiet hSw); clear hSw; simp only [List.getElem_toArray, List.getElem_cons_zero, List.getElem_cons_succ]; go_simp; try rfl
              simp only [Act.put, List.getElem_toArray, List.getElem_cons_zero, List.getElem_cons_succ, List.setIfInBounds_toArray, List.set_cons_zero, List.set_cons_succ]
              refine z_take 7 (v := ?_) rfl (by kernel_rfl) (by kernel_rfl) (by kernel_rfl) (by kernel_rfl) (fun _ _ _ h => h) hHeld (by rfl) (fun w hSw => ?_) ?_
              rotate_left
              · clear hSw; simp only [List.getElem_toArray, List.getElem_cons_zero, List.getElem_cons_succ]; go_simp; try rfl
              simp only [Act.put, List.getElem_toArray, List.getElem_cons_zero, List.getElem_cons_succ, List.setIfInBounds_toArray, List.set_cons_zero, List.set_cons_succ]
              refine z_take 8 (v := ?_) rfl (by kernel_rfl) (by kernel_rfl) (by kernel_rfl) (by kernel_rfl) (fun _ _ _ h => h) hHeld (by rfl) (fun w hSw => ?_) ?_
              rotate_left
              · clear hSw; simp only [List.getElem_toArray, List.getElem_cons_zero, List.getElem_cons_succ]; go_simp; try rfl
              simp only [Act.put, List.getElem_toArray, List.getElem_cons_zero, List.getElem_cons_succ, List.setIfInBounds_toArray, List.set_cons_zero, List.set_cons_succ]
              refine z_take 9 (v := ?_) rfl (by kernel_rfl) (by kernel_rfl) (by kernel_rfl) (by kernel_rfl) (fun _ _ _ h => h) hHeld (by rfl) (fun w hSw => ?_) ?_
              rotate_left
              · clear hSw; simp only [List.getElem_toArray, List.getElem_cons_zero, List.getElem_cons_succ]; go_simp; try rfl
              simp only [Act.put, List.getElem_toArray, List.getElem_cons_zero, List.getElem_cons_succ, List.setIfInBounds_toArray, List.set_cons_zero, List.set_cons_succ]
              refine z_one 10 rfl (by kernel_rfl) (by rfl) (fun K hK => ?_)
              simp only [List.getElem_toArray, List.getElem_cons_zero, List.getElem_cons_succ]
              go_simp
              refine (lives_any y1).mono ?_
              rintro e y2 ⟨rfl, hk⟩
              refine hK _ _ (Or.inr (hHeld.trans hk (fun _ _ h => h.elim))) (fun hHeld => ?_)
              clear hK K
              replace hHeld := hHeld.resolve_left (by decide)
              try simp only [Act.put, List.setIfInBounds_toArray, List.set_cons_zero, List.set_cons_succ]
              replace HKW := Lib.hid (HKW.out.quiet hk)
              replace HSX := Lib.hid (HSX.out.quiet hk)
              replace HFW := Lib.hid (HFW.out.quiet hk)
              refine z_more (fun w' => Keeps (fun _ => False) y2 w') (fun w' h => hHeld.trans h (fun _ _ h => h)) _ _ _ _ ?_
              clear hHeld
              have hHeld : Keeps (fun _ => False) y2 y2 := Keeps.refl _ _
              clear hk
              refine z_take 11 (v := ?_) rfl (by kernel_rfl) (by kernel_rfl) (by kernel_rfl) (by kernel_rfl) (fun _ _ _ h => h) hHeld (by rfl) (fun w hSw => ?_) ?_
              rotate_left
              · clear hSw; simp only [List.getElem_toArray, List.getElem_cons_zero, List.getElem_cons_succ]; go_simp; try rfl
              simp only [Act.put, List.getElem_toArray, List.getElem_cons_zero, List.getElem_cons_succ, List.setIfInBounds_toArray, List.set_cons_zero, List.set_cons_succ]
              refine z_take 12 (v := ?_) rfl (by kernel_rfl) (by kernel_rfl) (by kernel_rfl) (by kernel_rfl) (fun _ _ _ h => h) hHeld (by rfl) (fun w hSw => ?_) ?_
              rotate_left
              · clear hSw; simp only [List.getElem_toArray, List.getElem_cons_zero, List.getElem_cons_succ]; go_simp; try rfl
              simp only [Act.put, List.getElem_toArray, List.getElem_cons_zero, List.getElem_cons_succ, List.setIfInBounds_toArray, List.set_cons_zero, List.set_cons_succ]
              refine z_done (by kernel_rfl) ?_ _
              clear hHeld
              go_wp2
              go_ret
              exact ⟨rfl, HKW.out⟩
end Go.Proofs.Ytpojkhjenbbodaa
