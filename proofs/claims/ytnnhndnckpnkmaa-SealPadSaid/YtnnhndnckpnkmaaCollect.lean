/-
  slices.Collect of numbers, over an iterator whose word is known: what it tells. Conditions: fewer than 10^9 numbers.
-/
import Derived.Test.YtnnhndnckpnkmaaRangeF
import Derived.Test.YtnnhndnckpnkmaaPush
import Derived.Maps.OwnIn
namespace Go.Proofs.Ytnnhndnckpnkmaa
open Go.RowKit Go.Shelf
attribute [local go_sem] Oper.semAt_some

theorem Seq.later {P : Program} {g : Nat} {lb : Array Value} {xs : List (Array Value)} {m : Nat} {T Rd : Nat → Prop} {w0 w1 : World} (h : Seq P g lb xs m T Rd w0) (hk : Keeps (fun k => ¬ Rd k) w0 w1) : Seq P g lb xs m T Rd w1 :=
  fun l J B W hW hB hJ hY h0 => h l J B W (hk.trans hW (fun _ _ h => h)) hB hJ hY h0

theorem wpListIn_push {P : Program} {F : Fence} {nF : Nat} {ops : Array Oper} {rest : List Oper} {o : Oper} {a : Act} {Q : Exit → Act → World → Prop} (w0 : World) (v : Value) (hgd : o.guard = none) (s x : Operand) (t : TypeId)
    (ho : o.op = .call { callee := .builtin .append, args := #[s, x], argTypes := #[t, t] })
    (base : Nat) (e : TypeId) (i : TypeInfo) (z : Value) (bytes : Nat) (ht : P.underlying t = some (.slice e)) (hi : P.info? e = some i) (hz : i.zero = some z)
    (hsize : i.size = 1) (hby : i.bytes = bytes) (hzs : z.cells.size = 1)
    (sa : Option Addr) (n c : Nat) (xs : List Value) (hs : a.eval s = .slice sa n c) (hown : w0.ownsRow base e 1 (.slice sa n c) n xs)
    (hx : a.eval x = .slice (some ⟨w0.heap.size, 0, none⟩) 1 1) (h1 : v.oneCell' = true)
    (h63 : n + 1 ≤ maxLen) (hbytes : (n + 1) * bytes ≤ 140737488355328) (hbase : base ≤ w0.heap.size)
    (h : ∀ sa' cap' w', w'.ownsRow base e 1 (.slice sa' (n + 1) cap') (n + 1) (xs ++ [v]) → Keeps (fun k => sa = some ⟨k, 0, none⟩) w0 w' → w0.heap.size < w'.heap.size → wpListIn F nF P ops Q rest (a.put o.dst (.slice sa' (n + 1) cap')) w') :
    wpListIn F nF P ops Q (o :: rest) a (w0.alloc (.cells #[v] e)) := by
  refine wpListIn_append_own_at _ hgd s x t ho base e i z 1 bytes ht hi hz hsize hby hzs (by decide) (.slice sa n c) n xs hs (hown.alloc _) ⟨w0.heap.size, 0, none⟩ 1 1 [v] hx rfl (news_one w0 v e (0, 0) _ rfl) (by simpa using h1) h63 hbytes (by simp; omega) ?_
  intro v' w' hown' hg _ _
  obtain ⟨sa', cap', rfl⟩ : ∃ sa' cap', v' = .slice sa' (n + 1) cap' := by
    rcases hown'.2 with ⟨_, h0⟩ | ⟨g, cap, cur, rfl, _⟩
    · omega
    · exact ⟨_, _, rfl⟩
  refine h sa' cap' w' hown' (keeps_app hown hg) ?_
  have := hg.size
  simp at this
  omega

set_option maxHeartbeats 1000000 in
theorem appendSeq_any (gf : Nat) (lb : Array Value) (l : List Nat) (m : Nat) (T Rd : Nat → Prop) (w : World) (eg : ∀ args w, (callFunc gf args).run Try.prog w = .ok (.enter gf args) w)
    (hseq : Seq Try.prog gf lb (l.map fun x : Nat => #[.int .u64 (x : Int)]) m T Rd w) (hRd : ∀ k, Rd k → k < w.heap.size) (hTR : ∀ k, T k → Rd k) (hl : l.length ≤ 1000000000) :
    Calls Try.prog 47 #[.slice none 0 0, .func (.func gf) #[] lb] w fun e w' => ∃ sa cap, e = .returned (.slice sa l.length cap) ∧ w'.ownsRow w.heap.size 22 1 (.slice sa l.length cap) l.length (NV l) ∧ Keeps T w w' := by
  have HS := Lib.hid (And.intro eg (And.intro hseq (And.intro hRd hTR)))
  clear eg hseq hRd hTR
  refine (callsIn_wide (n := 0)).1 ?_
  refine callsIn_of_wp_marks Try.func47 rfl trivial ?_ rfl
  simp only [Try.ntmps47, List.size_toArray, List.length_cons, List.length_nil, Nat.reduceAdd, Nat.reduceSub, Array.replicate_succ, Array.replicate_zero, List.push_toArray, List.append_toArray, List.nil_append, List.cons_append]
  gi_wp2_with fail
  obtain ⟨bx, hbx⟩ : ∃ bx, w.heap.size = bx := ⟨_, rfl⟩
  obtain ⟨W0, hW0⟩ : ∃ W0, w.alloc (.cells #[.slice none 0 0] 48) = W0 := ⟨_, rfl⟩
  have hk0 : Keeps (fun _ => False) w W0 := by rw [← hW0]; exact (Keeps.refl _ w).alloc _
  have hsz : W0.heap.size = bx + 1 := by rw [← hW0, ← hbx]; simp
  have q0 : W0.heap[bx]? = some (.cells #[.slice none 0 0] 48 (0, 0)) := by
    rw [← hW0, ← hbx]; exact World.alloc_heap_new w _
  rw [hW0, hbx]
  have HB := Lib.hid hbx
  clear hW0 hbx
  refine wpIn_seq (gf := gf) (lb := lb) (xs := l.map fun x : Nat => #[.int .u64 (x : Int)]) (m := m) (T := T) (Rd := Rd) rfl HS.out.1 (HS.out.2.1.later (hk0.mono (fun _ _ h => h.elim))) (fun k h => by have := HS.out.2.2.1 k h; have := HB.out; omega) HS.out.2.2.2 ?hps
    (fun i W => ∃ sa cap, W.heap[bx]? = some (.cells #[.slice sa i cap] 48 (0, 0)) ∧ W.ownsRow (bx + 3 + m) 22 1 (.slice sa i cap) i (NV (l.take i)) ∧ Keeps T w W)
    (fun k => k = bx ∨ bx + 3 + m ≤ k) ?hB ?hI ⟨none, 0, q0, by simpa [NV] using World.ownsRow_nil _ _ _ _, hk0.mono (fun _ _ h => h.elim)⟩
    (fun x => { tmps := #[.slice none 0 0, .func (.func gf) #[] lb, .pointer (some ⟨bx, 0, none⟩), undef, .slice none 0 0, x.getD 0 undef, .func (.func gf) #[] lb, x.getD 0 undef, undef, undef, undef, undef, undef], defers := [] }) ?assign ?body ?done
  case hps =>
    intro x hx
    simp only [List.mem_map] at hx
    obtain ⟨j, _, rfl⟩ := hx
    rfl
  case hB =>
    intro k hk
    have hb := HB.out
    refine ⟨fun h => ?_, fun h => ?_⟩
    · have := HS.out.2.2.1 k h; omega
    · omega
  case hI =>
    rintro i A A' ⟨sa, cap, h1, h2, h3⟩ hk
    have hb := HB.out
    refine ⟨sa, cap, (hk.block bx (lt_of_heap h1) ?_).trans h1, own_keep h2 hk (fun k e h => ?_), h3.trans hk (fun j hj h => ?_)⟩
    · rintro (h | h)
      · have := HS.out.2.2.1 _ (HS.out.2.2.2 _ h); omega
      · omega
    · have h4 := (h2.lt k e).1
      rcases h with h | h
      · have := HS.out.2.2.1 _ (HS.out.2.2.2 _ h); omega
      · omega
    · rcases h with h | h
      · exact h
      · omega
  case assign =>
    intro l2 x Wx K hx hK
    simp only [List.mem_map] at hx
    obtain ⟨j, _, rfl⟩ := hx
    gi_wp2
    exact hK
  case body =>
    rintro l2 j x Wx hx ⟨sa, cap, h1, h2, h3⟩ hsx
    have hj : j < l.length := by have := (List.getElem?_eq_some_iff.1 hx).1; simpa using this
    obtain ⟨y, hy⟩ : ∃ y, l[j]? = some y := ⟨_, List.getElem?_eq_getElem hj⟩
    obtain rfl : #[.int .u64 (y : Int)] = x := by rw [List.getElem?_map, hy] at hx; exact Option.some.inj hx
    have c1 := cellAt h1 0
    simp at c1
    have hbl := lt_of_heap h1
    have hb := HB.out
    have HX : Hid (∀ (ac : Act) (w2 : World) (sa' : Option Addr) (cap' : Nat), w2.ownsRow (bx + 3 + m) 22 1 (.slice sa' (j + 1) cap') (j + 1) (NV (l.take j) ++ [.int .u64 (y : Int)]) → Keeps (fun k => sa = some ⟨k, 0, none⟩) Wx w2 → w2.heap[bx]? = some (.cells #[.slice sa j cap] 48 (0, 0)) ∧ goesOn (fun k => k = bx ∨ bx + 3 + m ≤ k) (fun i W => ∃ sa cap, W.heap[bx]? = some (.cells #[.slice sa i cap] 48 (0, 0)) ∧ W.ownsRow (bx + 3 + m) 22 1 (.slice sa i cap) i (NV (l.take i)) ∧ Keeps T w W) j Wx .normal ac (w2.setCell ⟨bx, 0, none⟩ (.slice sa' (j + 1) cap'))) := by
      intro ac w2 sa' cap' h4 h5
      have hlow : ∀ k, sa = some ⟨k, 0, none⟩ → bx + 3 + m ≤ k := fun k e => (own_lt h2 e).1
      have h6 : w2.heap[bx]? = some (.cells #[.slice sa j cap] 48 (0, 0)) := (h5.block bx hbl (fun e => by have := hlow _ e; omega)).trans h1
      have h7 : Keeps (fun k => k = bx) w2 (w2.setCell ⟨bx, 0, none⟩ (.slice sa' (j + 1) cap')) := (Keeps.refl (fun k => k = bx) w2).setCell (p := ⟨bx, 0, none⟩) (fun _ => rfl) _
      refine ⟨h6, ((h5.mono (fun k _ e => Or.inr (hlow k e))).trans (h7.mono (fun k _ e => Or.inl e)) (fun _ _ h => h)), sa', cap', ?_, ?_, ?_⟩
      · rw [heap_setCell_at h6]; rfl
      · have e : NV (l.take (j + 1)) = NV (l.take j) ++ [.int .u64 (y : Int)] := by
          rw [List.take_succ_eq_append_getElem hj, NV_append, (List.getElem?_eq_some_iff.1 hy).2]; rfl
        rw [e]
        exact own_keep h4 h7 (fun k e' h => by have := (h4.lt k e').1; omega)
      · exact (h3.trans h5 (fun k hk e => by have := hlow _ e; omega)).trans h7 (fun k hk e => by omega)
    have HO := Lib.hid h2
    have hsx2 : bx + 3 + m ≤ Wx.heap.size := by omega
    obtain ⟨i0, hi, hz0, hz1, hz2⟩ := info_parts infoU64
    clear h1 h2 h3 hx hy
    gi_wp2_with (gi_at_builtin; refine wpListIn_push _ (.int .u64 (y : Int)) rfl _ _ 48 rfl (bx + 3 + m) 22 i0 (.int .u64 0) 8 Try.underlying48 hi hz0 hz1 hz2 rfl sa j cap (NV (l.take j)) rfl HO.out rfl rfl (by unfold maxLen; omega) (by omega) hsx2 ?_; intro sa2 cap2 w2 hown2 hk2 hs2; obtain ⟨g1, g2⟩ := HX.out { tmps := #[], defers := [] } _ _ _ hown2 hk2; have G := Lib.hid g2; have g3 := cellAt g1 0; have g4 := freeAt g1 0; simp at g3; clear hown2 hk2 g1 g2)
    exact G.out
  case done =>
    rintro W ⟨sa, cap, h1, h2, h3⟩ hsW hK
    rw [List.length_map] at h1 h2
    rw [List.take_length] at h2
    have c1 := cellAt h1 0
    simp at c1
    have hb := HB.out
    have HK := Lib.hid hK
    have HF : Hid (Keeps T w (W.putObj W0.heap.size (.deferred none)) ∧ (W.putObj W0.heap.size (.deferred none)).ownsRow w.heap.size 22 1 (.slice sa l.length cap) l.length (NV l)) := by
      have h4 : Keeps (fun k => k = W0.heap.size) W (W.putObj W0.heap.size (.deferred none)) := (Keeps.refl _ W).putObj _ (fun _ => rfl)
      refine ⟨h3.putObj _ (fun h => by omega), own_keep (own_base h2 (fun k e => by have := (h2.lt k e).1; omega)) h4 (fun k e h => by have := (h2.lt k e).1; omega)⟩
    clear h1 h2 h3
    gi_wp2
    refine ⟨by simp, .inl ⟨_, _, rfl, run_takeDeferred HK.out, ?_⟩⟩
    exact ⟨_, results_tmp rfl _ _ _, sa, cap, rfl, HF.out.2, HF.out.1⟩

theorem collect_any (gf : Nat) (lb : Array Value) (l : List Nat) (m : Nat) (T Rd : Nat → Prop) (w : World) (eg : ∀ args w, (callFunc gf args).run Try.prog w = .ok (.enter gf args) w)
    (hseq : Seq Try.prog gf lb (l.map fun x : Nat => #[.int .u64 (x : Int)]) m T Rd w) (hRd : ∀ k, Rd k → k < w.heap.size) (hTR : ∀ k, T k → Rd k) (hl : l.length ≤ 1000000000) :
    Calls Try.prog 37 #[.func (.func gf) #[] lb] w fun e w' => ∃ sa cap, e = .returned (.slice sa l.length cap) ∧ w'.ownsRow w.heap.size 22 1 (.slice sa l.length cap) l.length (NV l) ∧ Keeps T w w' := by
  have HT := Lib.hid (appendSeq_any gf lb l m T Rd w eg hseq hRd hTR hl)
  clear eg hseq hRd hTR
  go_enter Try.func37, Try.ntmps37
  go_wp2_with fail
  refine HT.out.mono ?_
  rintro e w1 ⟨sa, cap, rfl, h1, h2⟩
  have H := Lib.hid (And.intro h1 h2)
  clear h1 h2
  go_wp2
  go_ret
  exact ⟨sa, cap, rfl, H.out.1, H.out.2⟩
end Go.Proofs.Ytnnhndnckpnkmaa
