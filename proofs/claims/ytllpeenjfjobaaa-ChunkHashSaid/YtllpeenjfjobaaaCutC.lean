/-
  chunk.Cut: the chunks, each in a row of its own (slices.Collect over the iterator). Conditions: fewer than 10^9 bytes.
-/
import Derived.Test.YtllpeenjfjobaaaChunks
import Derived.Maps.OwnIn
namespace Go.Proofs.Ytllpeenjfjobaaa
open Go.RowKit Go.Shelf
attribute [local go_sem] Oper.semAt_some

theorem wpListIn_push {P : Program} {F : Fence} {nF : Nat} {ops : Array Oper} {rest : List Oper} {o : Oper} {a : Act} {Q : Exit → Act → World → Prop} (w0 : World) (v : Value) (hgd : o.guard = none) (s x : Operand) (t : TypeId)
    (ho : o.op = .call { callee := .builtin .append, args := #[s, x], argTypes := #[t, t] })
    (base : Nat) (e : TypeId) (i : TypeInfo) (z : Value) (bytes : Nat) (ht : P.underlying t = some (.slice e)) (hi : P.info? e = some i) (hz : i.zero = some z)
    (hsize : i.size = 1) (hby : i.bytes = bytes) (hzs : z.cells.size = 1)
    (sa : Option Addr) (n c : Nat) (xs : List Value) (hs : a.eval s = .slice sa n c) (hown : w0.ownsRow base e 1 (.slice sa n c) n xs)
    (hx : a.eval x = .slice (some ⟨w0.heap.size, 0, none⟩) 1 1) (h1 : v.oneCell' = true)
    (h63 : n + 1 ≤ maxLen) (hbytes : (n + 1) * bytes ≤ 140737488355328) (hbase : base ≤ w0.heap.size)
    (h : ∀ sa' cap' w', w'.ownsRow base e 1 (.slice sa' (n + 1) cap') (n + 1) (xs ++ [v]) → Keeps (fun k => sa = some ⟨k, 0, none⟩) w0 w' → w0.heap.size < w'.heap.size → wpListIn F nF P ops Q rest (a.put o.dst (.slice sa' (n + 1) cap')) w') :
    wpListIn F nF P ops Q (o :: rest) a (w0.alloc (.cells #[v] e)) := by
  refine wpListIn_append_own_at _ hgd s x t ho base e i z 1 bytes ht hi hz hsize hby hzs (by decide) (.slice sa n c) n xs hs (hown.alloc _) ⟨w0.heap.size, 0, none⟩ 1 1 [v] hx rfl (news_one w0 v e (0, 0) _ rfl) (by simpa using h1) h63 hbytes (by simp; omega) ?_
  intro v' w' hown' hg _ _
  obtain ⟨sa', cap', rfl⟩ : ∃ sa' cap', v' = .slice sa' (n + 1) cap' := by
    rcases hown'.2 with ⟨_, h0⟩ | ⟨g, cap, cur, rfl, _⟩
    · omega
    · exact ⟨_, _, rfl⟩
  refine h sa' cap' w' hown' (keeps_app hown hg) ?_
  have := hg.size
  simp at this
  omega

theorem SeqR.later {P : Program} {g : Nat} {lb : Array Value} {N : Nat} {V : Nat → World → Array Value → World → Prop} {m : Nat} {T Rd : Nat → Prop} {w0 w1 : World} (h : SeqR P g lb N V m T Rd w0) (hk : Keeps (fun k => ¬ Rd k) w0 w1) : SeqR P g lb N V m T Rd w1 :=
  fun l J B W hW hB hJ hY h0 => h l J B W (hk.trans hW (fun _ _ h => h)) hB hJ hY h0

/-- What is collected. -/
def AsRel (w : World) (bx : Nat) (rs : List (List UInt8)) (i : Nat) (sa : Option Addr) (cap : Nat) (vs : List Value) (W : World) : Prop :=
  W.heap[bx]? = some (.cells #[.slice sa i cap] 26 (0, 0)) ∧ W.ownsRow (bx + 3) 22 1 (.slice sa i cap) i vs ∧ RowsO W (bx + 3) vs (rs.take i) ∧ Keeps (fun _ => False) w W
theorem AsRel.later {w : World} {bx : Nat} {rs : List (List UInt8)} {i : Nat} {sa : Option Addr} {cap : Nat} {vs : List Value} {W W' : World} (h : AsRel w bx rs i sa cap vs W) (hb : w.heap.size = bx) (hk : Keeps (fun k => bx + 1 ≤ k ∧ k < bx + 3) W W') : AsRel w bx rs i sa cap vs W' := by
  obtain ⟨h1, h2, h3, h4⟩ := h
  exact ⟨(hk.block bx (lt_of_heap h1) (by omega)).trans h1, own_keep h2 hk (fun k e => by have := (h2.lt k e).1; omega), h3.keep hk (fun k h _ _ => by omega), h4.trans hk (fun k hk h => by omega)⟩
theorem AsRel.push {w : World} {bx : Nat} {rs : List (List UInt8)} {j : Nat} {sa : Option Addr} {cap : Nat} {vs : List Value} {A W : World} (h : AsRel w bx rs j sa cap vs A) (hb : w.heap.size = bx) (hk : Keeps (fun k => bx + 1 ≤ k ∧ k < bx + 3) A W) (hs : bx + 3 ≤ A.heap.size)
    {r : List UInt8} {s2 : Option Addr} {c2 : Nat} (hr : rs[j]? = some r) (hown : W.ownsRow A.heap.size 5 1 (.slice s2 r.length c2) r.length (BV r))
    {W2 : World} {sa' : Option Addr} {cap' : Nat} (h4 : W2.ownsRow (bx + 3) 22 1 (.slice sa' (j + 1) cap') (j + 1) (vs ++ [.slice s2 r.length c2])) (h5 : Keeps (fun k => sa = some ⟨k, 0, none⟩) W W2) :
    W2.heap[bx]? = some (.cells #[.slice sa j cap] 26 (0, 0)) ∧ Keeps (fun k => k = bx ∨ bx + 3 ≤ k) W (W2.setCell ⟨bx, 0, none⟩ (.slice sa' (j + 1) cap')) ∧ AsRel w bx rs (j + 1) sa' cap' (vs ++ [.slice s2 r.length c2]) (W2.setCell ⟨bx, 0, none⟩ (.slice sa' (j + 1) cap')) := by
  have hA := h.2.2.1
  obtain ⟨g1, g2, g3, g4⟩ := h.later hb hk
  have hlow : ∀ k, sa = some ⟨k, 0, none⟩ → bx + 3 ≤ k := fun k e => (own_lt g2 e).1
  have h6 : W2.heap[bx]? = some (.cells #[.slice sa j cap] 26 (0, 0)) := (h5.block bx (lt_of_heap g1) (fun e => by have := hlow _ e; omega)).trans g1
  have h7 : Keeps (fun k => k = bx) W2 (W2.setCell ⟨bx, 0, none⟩ (.slice sa' (j + 1) cap')) := (Keeps.refl (fun k => k = bx) W2).setCell (p := ⟨bx, 0, none⟩) (fun _ => rfl) _
  have g5 := g3.snoc rfl hown hs (fun i v k hv e => (hA.lt hv e).2.1)
  have e : rs.take (j + 1) = rs.take j ++ [r] := by
    rw [List.take_succ_eq_append_getElem (List.getElem?_eq_some_iff.1 hr).1, (List.getElem?_eq_some_iff.1 hr).2]
  rw [← e] at g5
  have hk2 : Keeps (fun k => k = bx ∨ bx + 3 ≤ k) W (W2.setCell ⟨bx, 0, none⟩ (.slice sa' (j + 1) cap')) := (h5.mono (fun k _ e => Or.inr (hlow k e))).trans (h7.mono (fun k _ e => Or.inl e)) (fun _ _ h => h)
  refine ⟨h6, hk2, ?_, own_keep h4 h7 (fun k e' h => by have := (h4.lt k e').1; omega), ?_, ?_⟩
  · rw [heap_setCell_at h6]; rfl
  · refine (g5.keep h5 (fun k hk hlt => ?_)).keep h7 (fun k h _ _ => by omega)
    rintro ⟨i, v, hv, ev⟩ e2
    exact g5.apartOuter g2 hv ev e2
  · exact (g4.trans h5 (fun k hk e => by have := hlow _ e; omega)).trans h7 (fun k hk e => by omega)

set_option maxHeartbeats 1000000 in
theorem appendSeq_cut (gf : Nat) (lb : Array Value) (l : List UInt8) (Rd : Nat → Prop) (w : World) (eg : ∀ args w, (callFunc gf args).run Try.prog w = .ok (.enter gf args) w)
    (hseq : SeqR Try.prog gf lb (cutL l).length (CutV l) 0 (fun _ => False) Rd w) (hRd : ∀ k, Rd k → k < w.heap.size) (hl : (cutL l).length ≤ 1000000000) :
    Calls Try.prog 31 #[.slice none 0 0, .func (.func gf) #[] lb] w fun e w' => ∃ sa cap vs, e = .returned (.slice sa (cutL l).length cap) ∧ w'.ownsRow w.heap.size 22 1 (.slice sa (cutL l).length cap) (cutL l).length vs ∧ RowsO w' w.heap.size vs (cutL l) ∧ Keeps (fun _ => False) w w' := by
  have HS := Lib.hid (And.intro eg (And.intro hseq hRd))
  clear eg hseq hRd
  refine (callsIn_wide (n := 0)).1 ?_
  refine callsIn_of_wp_marks Try.func31 rfl trivial ?_ rfl
  simp only [Try.ntmps31, List.size_toArray, List.length_cons, List.length_nil, Nat.reduceAdd, Nat.reduceSub, Array.replicate_succ, Array.replicate_zero, List.push_toArray, List.append_toArray, List.nil_append, List.cons_append]
  gi_wp2_with fail
  obtain ⟨bx, hbx⟩ : ∃ bx, w.heap.size = bx := ⟨_, rfl⟩
  obtain ⟨W0, hW0⟩ : ∃ W0, w.alloc (.cells #[.slice none 0 0] 26) = W0 := ⟨_, rfl⟩
  have hk0 : Keeps (fun _ => False) w W0 := by rw [← hW0]; exact (Keeps.refl _ w).alloc _
  have hsz : W0.heap.size = bx + 1 := by rw [← hW0, ← hbx]; simp
  have q0 : W0.heap[bx]? = some (.cells #[.slice none 0 0] 26 (0, 0)) := by
    rw [← hW0, ← hbx]; exact World.alloc_heap_new w _
  rw [hW0, hbx]
  have HB := Lib.hid hbx
  clear hW0 hbx
  refine wpIn_seqR (gf := gf) (lb := lb) (N := (cutL l).length) (V := CutV l) (m := 0) (T := fun _ => False) (Rd := Rd) rfl HS.out.1 (HS.out.2.1.later (hk0.mono (fun _ _ h => h.elim))) (fun k h => by have := HS.out.2.2 k h; have := HB.out; omega) (fun _ h => h.elim) ?hps ?hV
    (fun i W => ∃ sa cap vs, AsRel w bx (cutL l) i sa cap vs W)
    (fun k => k = bx ∨ bx + 3 ≤ k) ?hB ?hI ⟨none, 0, [], q0, World.ownsRow_nil _ _ _ _, by rw [List.take_zero]; exact RowsO.nil _ _, hk0⟩
    (fun x => { tmps := #[.slice none 0 0, .func (.func gf) #[] lb, .pointer (some ⟨bx, 0, none⟩), undef, .slice none 0 0, x.getD 0 undef, .func (.func gf) #[] lb, x.getD 0 undef, undef, undef, undef, undef, undef], defers := [] }) ?assign ?body ?done
  case hps =>
    rintro i A x W ⟨r, sa, cap, _, rfl, _⟩
    rfl
  case hV =>
    rintro i A x W W' ⟨r, sa, cap, h1, rfl, h2⟩ hA hk
    exact ⟨r, sa, cap, h1, rfl, own_keep h2 hk (fun k e h => by have := (h2.lt k e).1; omega)⟩
  case hB =>
    intro k hk
    have hb := HB.out
    refine ⟨fun h => ?_, fun h => ?_⟩
    · have := HS.out.2.2 k h; omega
    · omega
  case hI =>
    rintro i A A' ⟨sa, cap, vs, h⟩ hk
    exact ⟨sa, cap, vs, h.later HB.out (hk.mono (fun k _ h => by rcases h with h | h; exact h.elim; omega))⟩
  case assign =>
    rintro l2 j A x Wx K ⟨r, s2, c2, _, rfl, _⟩ hK
    gi_wp2
    exact hK
  case body =>
    rintro l2 j A x Wx hj ⟨sa, cap, vs, hA⟩ hkA ⟨r, s2, c2, hr, rfl, hown⟩ _ hsA
    have hkA2 : Keeps (fun k => bx + 1 ≤ k ∧ k < bx + 3) A Wx := hkA.mono (fun k _ h => by rcases h with h | h; exact h.elim; omega)
    have hsA2 : bx + 3 ≤ A.heap.size := by omega
    have HX : Hid (∀ (ac : Act) (w2 : World) (sa' : Option Addr) (cap' : Nat), w2.ownsRow (bx + 3) 22 1 (.slice sa' (j + 1) cap') (j + 1) (vs ++ [.slice s2 r.length c2]) → Keeps (fun k => sa = some ⟨k, 0, none⟩) Wx w2 → w2.heap[bx]? = some (.cells #[.slice sa j cap] 26 (0, 0)) ∧ goesOn (fun k => k = bx ∨ bx + 3 ≤ k) (fun i W => ∃ sa cap vs, AsRel w bx (cutL l) i sa cap vs W) j Wx .normal ac (w2.setCell ⟨bx, 0, none⟩ (.slice sa' (j + 1) cap'))) := by
      intro ac w2 sa' cap' h4 h5
      obtain ⟨g1, g2, g3⟩ := hA.push HB.out hkA2 hsA2 hr hown h4 h5
      exact ⟨g1, g2, _, _, _, g3⟩
    obtain ⟨h1, h2, h3, h4⟩ := hA.later HB.out hkA2
    have c1 := cellAt h1 0
    simp at c1
    have hbl := lt_of_heap h1
    have HO := Lib.hid h2
    have hsx2 : bx + 3 ≤ Wx.heap.size := by have := hkA.size; omega
    have hjb : j ≤ 1000000000 := by omega
    obtain ⟨i0, hi, hz0, hz1, hz2⟩ := info_parts infoRow
    clear h1 h2 h3 h4 hr hown hA hkA hkA2 hsA2 hsA
    generalize r.length = rl at *
    gi_wp2_with (gi_at_builtin; refine wpListIn_push _ (.slice s2 rl c2) rfl _ _ 26 rfl (bx + 3) 22 i0 (.slice none 0 0) 24 Try.underlying26 hi hz0 hz1 hz2 rfl sa j cap vs rfl HO.out rfl rfl (by unfold maxLen; omega) (by omega) hsx2 ?_; intro sa2 cap2 w2 hown2 hk2 hs2; obtain ⟨g1, g2⟩ := HX.out { tmps := #[], defers := [] } _ _ _ hown2 hk2; have G := Lib.hid g2; have g3 := cellAt g1 0; have g4 := freeAt g1 0; simp at g3; clear hown2 hk2 g1 g2)
    exact G.out
  case done =>
    rintro W ⟨sa, cap, vs, h1, h2, h3, h4⟩ hsW hK
    rw [List.take_length] at h3
    have c1 := cellAt h1 0
    simp at c1
    have hb := HB.out
    have HK := Lib.hid hK
    have HF : Hid ((W.putObj W0.heap.size (.deferred none)).ownsRow w.heap.size 22 1 (.slice sa (cutL l).length cap) (cutL l).length vs ∧ RowsO (W.putObj W0.heap.size (.deferred none)) w.heap.size vs (cutL l) ∧ Keeps (fun _ => False) w (W.putObj W0.heap.size (.deferred none))) := by
      have h5 : Keeps (fun k => k = W0.heap.size) W (W.putObj W0.heap.size (.deferred none)) := (Keeps.refl _ W).putObj _ (fun _ => rfl)
      refine ⟨own_keep (own_base h2 (fun k e => by have := (h2.lt k e).1; omega)) h5 (fun k e h => by have := (h2.lt k e).1; omega), (h3.keep h5 (fun k h _ _ => by omega)).rebase (by omega), h4.putObj _ (fun h => by omega)⟩
    clear h1 h2 h3 h4
    gi_wp2
    refine ⟨by simp, .inl ⟨_, _, rfl, run_takeDeferred HK.out, ?_⟩⟩
    exact ⟨_, results_tmp rfl _ _ _, sa, cap, vs, rfl, HF.out⟩

/-- chunk.Cut. -/
theorem cut_any (sa : Option Addr) (n cap : Nat) (l : List UInt8) (w : World) (hl : Sl w sa n cap (BV l)) (hn : n ≤ 1000000) (hc : (cutL l).length ≤ 1000000000) :
    Calls Try.prog 13 #[.slice sa n cap] w fun e w' => ∃ sa' cap' vs, e = .returned (.slice sa' (cutL l).length cap') ∧ w'.ownsRow w.heap.size 22 1 (.slice sa' (cutL l).length cap') (cutL l).length vs ∧ RowsO w' w.heap.size vs (cutL l) ∧ Keeps (fun _ => False) w w' := by
  have HC := Lib.hid (chunks_any sa n cap w)
  obtain ⟨w1, hw1⟩ : ∃ w1, w.alloc (.cells #[.slice sa n cap] 22) = w1 := ⟨_, rfl⟩
  have hk1 : Keeps (fun _ => False) w w1 := by rw [← hw1]; exact (Keeps.refl _ w).alloc _
  have hq1 : w1.heap[w.heap.size]? = some (.cells #[.slice sa n cap] 22 (0, 0)) := by rw [← hw1]; exact World.alloc_heap_new w _
  have hs1 : w1.heap.size = w.heap.size + 1 := by rw [← hw1]; simp
  have hbo : ∃ b off, 0 < n → sa = some ⟨b, off, none⟩ ∧ b < w.heap.size := by
    by_cases h0 : 0 < n
    · obtain ⟨b, off, rfl⟩ := hl.isSome h0
      exact ⟨b, off, fun _ => ⟨rfl, blk_lt hl rfl h0⟩⟩
    · exact ⟨0, 0, fun h => (h0 h).elim⟩
  obtain ⟨b, off, hbo⟩ := hbo
  have hseq := chunks_seq w.heap.size b off n cap sa l w1 (by omega) (hl.quiet hk1) (fun h => (hbo h).1) hq1
  have HT := Lib.hid (appendSeq_cut 32 _ l _ w1 (enters_of Try.func32 (by kernel_rfl) rfl) hseq (by
    rintro k (h | ⟨h1, h2⟩)
    · omega
    · have := (hbo h1).2; omega) hc)
  have H1 := Lib.hid (And.intro hk1 (And.intro hs1 hw1))
  clear hw1 hk1 hq1 hs1 hbo hseq hl hc
  have HG : Hid (Calls Try.prog 24 #[.func (.func 32) #[] #[.pointer (some ⟨w.heap.size, 0, none⟩)]] w1 fun e w' => ∃ sa' cap' vs, e = .returned (.slice sa' (cutL l).length cap') ∧ w'.ownsRow w.heap.size 22 1 (.slice sa' (cutL l).length cap') (cutL l).length vs ∧ RowsO w' w.heap.size vs (cutL l) ∧ Keeps (fun _ => False) w w') := by
    show Calls _ _ _ _ _
    go_enter Try.func24, Try.ntmps24
    go_wp2_with fail
    refine HT.out.mono ?_
    rintro e w2 ⟨s2, c2, vs, rfl, h1, h2, h3⟩
    have H := Lib.hid (And.intro h1 (And.intro h2 h3))
    clear h1 h2 h3 HT
    go_wp2
    go_ret
    have hb : w.heap.size ≤ w1.heap.size := by have := H1.out.2.1; omega
    exact ⟨s2, c2, vs, rfl, own_base H.out.1 (fun k e => by have := (H.out.1.lt k e).1; omega), H.out.2.1.rebase hb, H1.out.1.quiet H.out.2.2⟩
  clear HT
  go_enter Try.func13, Try.ntmps13
  go_wp2_with fail
  refine HC.out.mono ?_
  rintro e _ ⟨rfl, rfl⟩
  rw [H1.out.2.2]
  clear HC
  go_wp2_with fail
  refine HG.out.mono ?_
  rintro e w2 ⟨s2, c2, vs, rfl, h1, h2, h3⟩
  have H := Lib.hid (And.intro h1 (And.intro h2 h3))
  clear h1 h2 h3 HG
  go_wp2
  go_ret
  exact ⟨s2, c2, vs, rfl, H.out.1, H.out.2.1, H.out.2.2⟩
end Go.Proofs.Ytllpeenjfjobaaa
