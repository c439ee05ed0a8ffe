/-
  The reference's disk of layer 28 in memory, and its New, own, Read, Sync: what they tell. Condition: sizes up to 65536.
-/
import Derived.Test.YtpojkhjenbbodaaJTools
namespace Go.Proofs.Ytpojkhjenbbodaa
open Go.RowKit

/-- Numbers as cells. -/
def KV (l : List Nat) : List Value := l.map fun (n : Nat) => Value.int .i64 (n : Int)
theorem KV_length (l : List Nat) : (KV l).length = l.length := by simp [KV]
theorem infoIntR : (Try.prog.info? 3).map (fun i => (i.zero, i.size, i.bytes)) = some (some (.int .i64 0), 1, 8) := by kernel_rfl

/-- The reference's disk: five cells, its four rows from block B on. -/
structure RefAt (w : World) (B : Nat) (v : Array Value) (D : DS) : Prop where
  rows : ∃ sn cn ss cs sa ca sb cb, v = #[.slice sn D.now.length cn, .slice ss D.sure.length cs, .slice sa D.lo.length ca, .slice sb D.lo.length cb, .bool D.cr] ∧
    w.ownsRow B 5 1 (.slice sn D.now.length cn) D.now.length (BV D.now) ∧ w.ownsRow B 5 1 (.slice ss D.sure.length cs) D.sure.length (BV D.sure) ∧
    w.ownsRow B 3 1 (.slice sa D.lo.length ca) D.lo.length (KV (D.lo.map (·.1))) ∧ w.ownsRow B 5 1 (.slice sb D.lo.length cb) D.lo.length (BV (D.lo.map (·.2)))

theorem RefAt.keep {w w' : World} {B : Nat} {v : Array Value} {D : DS} {F : Nat → Prop} (h : RefAt w B v D) (hk : Keeps F w w') (hn : ∀ k, B ≤ k → k < w.heap.size → ¬ F k) : RefAt w' B v D := by
  obtain ⟨sn, cn, ss, cs, sa, ca, sb, cb, rfl, h1, h2, h3, h4⟩ := h.rows
  exact ⟨sn, cn, ss, cs, sa, ca, sb, cb, rfl, own_keep h1 hk (fun k e => hn k (h1.lt k e).1 (h1.lt k e).2), own_keep h2 hk (fun k e => hn k (h2.lt k e).1 (h2.lt k e).2),
    own_keep h3 hk (fun k e => hn k (h3.lt k e).1 (h3.lt k e).2), own_keep h4 hk (fun k e => hn k (h4.lt k e).1 (h4.lt k e).2)⟩

/-- The blocks that a disk of the reference names. -/
def RF (G : Nat → Prop) (v : Array Value) : Prop := ∀ s ∈ v.toList, ∀ j, s.ownBlock = some j → G j
/-- No block of the new one but blocks of the old one and new blocks. -/
def RGrow (w : World) (v v' : Array Value) : Prop := ∀ G : Nat → Prop, RF G v → (∀ j, w.heap.size ≤ j → G j) → RF G v'
theorem RGrow.rfl' {w : World} {v : Array Value} : RGrow w v v := fun _ h _ => h
theorem RF.five {G : Nat → Prop} {a b c d : Value} {x : Bool} (ha : ∀ j, a.ownBlock = some j → G j) (hb : ∀ j, b.ownBlock = some j → G j) (hc : ∀ j, c.ownBlock = some j → G j) (hd : ∀ j, d.ownBlock = some j → G j) : RF G #[a, b, c, d, .bool x] := by
  intro s hs j e
  simp only [List.mem_cons, List.not_mem_nil, or_false] at hs
  rcases hs with h | h | h | h | h <;> subst h
  · exact ha j e
  · exact hb j e
  · exact hc j e
  · exact hd j e
  · cases e
theorem RF.at0 {G : Nat → Prop} {a b c d e : Value} (h : RF G #[a, b, c, d, e]) : ∀ j, a.ownBlock = some j → G j := h a (by simp)
theorem RF.at1 {G : Nat → Prop} {a b c d e : Value} (h : RF G #[a, b, c, d, e]) : ∀ j, b.ownBlock = some j → G j := h b (by simp)
theorem RF.at2 {G : Nat → Prop} {a b c d e : Value} (h : RF G #[a, b, c, d, e]) : ∀ j, c.ownBlock = some j → G j := h c (by simp)
theorem RF.at3 {G : Nat → Prop} {a b c d e : Value} (h : RF G #[a, b, c, d, e]) : ∀ j, d.ownBlock = some j → G j := h d (by simp)
theorem RF.weak {G G' : Nat → Prop} {v : Array Value} (h : RF G v) (hg : ∀ j, G j → G' j) : RF G' v := fun s hs j e => hg j (h s hs j e)
theorem RefAt.foot {w : World} {B : Nat} {v : Array Value} {D : DS} (h : RefAt w B v D) : RF (fun j => B ≤ j ∧ j < w.heap.size) v := by
  obtain ⟨sn, cn, ss, cs, sa, ca, sb, cb, rfl, h1, h2, h3, h4⟩ := h.rows
  exact RF.five h1.lt h2.lt h3.lt h4.lt
theorem RefAt.keep' {w w' : World} {B : Nat} {v : Array Value} {D : DS} {F : Nat → Prop} (h : RefAt w B v D) (hk : Keeps F w w') (hn : RF (fun k => ¬ F k) v) : RefAt w' B v D := by
  obtain ⟨sn, cn, ss, cs, sa, ca, sb, cb, rfl, h1, h2, h3, h4⟩ := h.rows
  exact ⟨sn, cn, ss, cs, sa, ca, sb, cb, rfl, own_keep h1 hk hn.at0, own_keep h2 hk hn.at1, own_keep h3 hk hn.at2, own_keep h4 hk hn.at3⟩

theorem lies_of_ownR {w : World} {base n c m : Nat} {e : TypeId} {sa : Option Addr} {xs : List Value} (h : w.ownsRow base e 1 (.slice sa n c) m xs) : ∀ ad, sa = some ad → ∀ j u, xs[j]? = some u → w.cell? (ad.add j) = some u := by
  intro ad had j u hu
  rcases own_addr h with ⟨rfl, _⟩ | ⟨g, rfl⟩
  · cases had
  · obtain rfl := Option.some.inj had
    rw [addr_add, Nat.zero_add]
    exact own_cell h j u hu

set_option maxRecDepth 10000 in
set_option maxHeartbeats 400000 in
/-- Bytes of one's own. -/
theorem ownR_any (sa : Option Addr) (len cap : Nat) (l : List UInt8) (w : World) (hl : l.length = len) (hlen : len ≤ 1000000000) (hnil : sa = none → len = 0 ∧ cap = 0)
    (hsrc : ∀ ad, sa = some ad → ∀ (j : Nat) (u : Value), (BV l)[j]? = some u → w.cell? (ad.add j) = some u) :
    Calls Try.prog 65 #[.slice sa len cap] w fun e w' => ∃ sa' cap', e = .returned (.slice sa' len cap') ∧
      w'.ownsRow w.heap.size 5 1 (.slice sa' len cap') len (BV l) ∧ Keeps (fun _ => False) w w' := by
  obtain ⟨i0, hi, hz0, hz1, hz2⟩ := info_parts infoByte
  have HT : Hid ((BV l).length = len * 1) := by show _ = _; simp [hl]
  have HNil := Lib.hid hnil
  have HS := Lib.hid hsrc
  clear hl hsrc hnil
  go_enter Try.func65, Try.ntmps65
  go_wp2_with (at_builtin; refine wpList_app _ rfl _ _ 23 rfl w.heap.size 5 i0 (.int .u8 0) 1 1 Try.underlying23 hi hz0 hz1 hz2 rfl (by decide) (.slice none 0 0) 0 [] rfl (World.ownsRow_nil w _ _ _) sa len cap (BV l) rfl HT.out HNil.out HS.out (BV_one _) (by unfold maxLen; omega) (by omega) (Nat.le_refl _) ?_; intro sa' cap' w' hown hg hat hnn; have HH := Lib.hid (And.intro hown hg); clear hown hg hat hnn)
  go_ret
  obtain ⟨hown, hg⟩ := HH.out
  rw [Nat.zero_add, List.nil_append] at hown
  exact ⟨sa', cap', by simp, hown, (Keeps.refl _ w).grown hg (fun k hk _ => by simp [Value.ownBlock] at hk)⟩

theorem own_capR {w : World} {base n c m : Nat} {e : TypeId} {size : Nat} {sa : Option Addr} {xs : List Value} (h : w.ownsRow base e size (.slice sa n c) m xs) : n ≤ c ∧ (sa = none → n = 0 ∧ c = 0) := by
  rcases h.2 with ⟨e', _⟩ | ⟨g, cap, cur, e', _, _, hn, _⟩
  · simp only [Value.slice.injEq] at e'; obtain ⟨rfl, rfl, rfl⟩ := e'; exact ⟨Nat.le_refl _, fun _ => ⟨rfl, rfl⟩⟩
  · simp only [Value.slice.injEq] at e'; obtain ⟨rfl, rfl, rfl⟩ := e'; exact ⟨hn, fun h => by cases h⟩

theorem two_boxes (w : World) (a b : Obj) : ((w.alloc a).alloc b).heap[w.heap.size]? = some a ∧ ((w.alloc a).alloc b).heap[w.heap.size + 1]? = some b ∧ Keeps (fun _ => False) w ((w.alloc a).alloc b) :=
  ⟨(Below.heap_alloc (w.alloc a) b _ (by simp)).trans (heap_alloc_new w a), by simpa using heap_alloc_new (w.alloc a) b, ((Keeps.refl _ w).alloc a).alloc b⟩

set_option maxRecDepth 10000 in
set_option maxHeartbeats 1000000 in
theorem refSync_any (B : Nat) (D : DS) (v : Array Value) (w : World) (h : RefAt w B v D) (hcr : D.cr = false) (hD : D.now.length ≤ 65536) (hB : B ≤ w.heap.size) :
    Calls Try.prog 41 #[.agg v] w fun e w' => ∃ v', e = .returned (.tuple #[.agg v', .int .i64 0]) ∧ RefAt w' B v' D.sync ∧ Keeps (fun _ => False) w w' ∧ RGrow w v v' := by
  obtain ⟨sn, cn, ss, cs, sa, ca, sb, cb, rfl, h1, h2, h3, h4⟩ := h.rows
  obtain ⟨n, hn⟩ : ∃ n, D.now.length = n := ⟨_, rfl⟩
  rw [hn] at h1 hD
  rw [hcr, hn]
  obtain ⟨hc, hnil⟩ := own_capR h1
  generalize D.lo.length = nl at *
  generalize D.sure.length = nsu at *
  have HS : Hid (∀ (X Y : Obj) (ad : Addr), sn = some ad → ∀ (j : Nat) (u : Value), (BV D.now)[j]? = some u → ((w.alloc X).alloc Y).cell? (ad.add j) = some u) := by
    intro X Y ad had j u hu
    have hcell := lies_of_ownR h1 ad had j u hu
    exact ((((Keeps.refl (fun _ => False) w).alloc X).alloc Y).cell (World.block_lt_of_cell? w _ hcell) (fun h => h)).trans hcell
  have HN := Lib.hid (And.intro hn (And.intro hnil (And.intro hcr h1)))
  clear h h1 h2 h3 h4 hn hnil hcr
  go_enter Try.func41, Try.ntmps41
  go_wp2_with fail
  obtain ⟨hn, hnil, hcr, h1⟩ := HN.out
  refine (ownR_any sn n cn D.now _ hn (by omega) hnil (HS.out _ _)).mono ?_
  rintro e w1 ⟨sx, cx, rfl, hown, hk⟩
  have hs := two_boxes w (.cells #[.slice sn n cn, .slice ss nsu cs, .slice sa nl ca, .slice sb nl cb, .bool false] 38) (.cells #[.slice none 0 0, .slice none 0 0, .slice none 0 0, .slice none 0 0, .bool false] 38)
  have hsz : ((w.alloc (.cells #[.slice sn n cn, .slice ss nsu cs, .slice sa nl ca, .slice sb nl cb, .bool false] 38)).alloc (.cells #[.slice none 0 0, .slice none 0 0, .slice none 0 0, .slice none 0 0, .bool false] 38)).heap.size = w.heap.size + 1 + 1 := by simp
  rw [hsz] at hown
  obtain ⟨g1, g2, g3⟩ := hs
  have q1 := (hk.block w.heap.size (by rw [hsz]; omega) (fun h => h)).trans g1
  have q2 := (hk.block (w.heap.size + 1) (by rw [hsz]; omega) (fun h => h)).trans g2
  have hk1 := g3.trans hk (fun _ _ h => h)
  have HK1 := Lib.hid (And.intro hown hk1)
  have c0 := cellAt q1 0
  have c1 := cellAt q1 1
  have c2 := cellAt q1 2
  have c3 := cellAt q1 3
  have c4 := cellAt q1 4
  have f1 := freeAt q1 1
  have f2 := freeAt q1 2
  have f3 := freeAt q1 3
  have d0 := cellAt q2 0
  have d1 := cellAt q2 1
  have d2 := cellAt q2 2
  have d3 := cellAt q2 3
  have d4 := cellAt q2 4
  have e0 := freeAt q2 0
  have e1 := freeAt q2 1
  have e2 := freeAt q2 2
  have e3 := freeAt q2 3
  have e4 := freeAt q2 4
  simp at c0 c1 c2 c3 c4 d0 d1 d2 d3 d4
  clear hown hk hk1 q1 q2 g1 g2 g3 hsz hn hnil hcr h1 HS
  generalize hb1 : w.heap.size = b1 at *
  go_wp2
  refine bodyPost_ret (v := .tuple #[.agg #[.slice sn n cn, .slice sx n cx, .slice none 0 0, .slice none 0 0, .bool false], .int .i64 0]) (by simp [results, Try.results41, go_sem, d0, d1, d2, d3, d4]) rfl ⟨_, rfl, ?_, ?_, ?_⟩
  · have hkf : ∀ W : World, Keeps (fun k => k = b1 ∨ k = b1 + 1) w1 W → RefAt W B #[.slice sn n cn, .slice sx n cx, .slice none 0 0, .slice none 0 0, .bool false] D.sync := by
      intro W hW
      obtain ⟨hn, hnil, hcr, h1⟩ := HN.out
      obtain ⟨hown, hk1⟩ := HK1.out
      have h1' := own_keep h1 hk1 (fun _ _ h => h)
      refine ⟨sn, cn, sx, cx, none, 0, none, 0, by simp [DS.sync, hn, hcr], ?_, ?_, World.ownsRow_nil _ _ _ _, World.ownsRow_nil _ _ _ _⟩
      · show W.ownsRow B 5 1 (.slice sn D.now.length cn) D.now.length (BV D.now)
        rw [hn]
        exact own_keep h1' hW (fun k e => by have := (h1.lt k e).2; omega)
      · show W.ownsRow B 5 1 (.slice sx D.now.length cx) D.now.length (BV D.now)
        rw [hn]
        exact own_base (own_keep hown hW (fun k e => by have := (hown.lt k e).1; omega)) (fun k e => by have := (hown.lt k e).1; omega)
    exact hkf _ (by (iterate 8 with_reducible refine Keeps.setCell (F := fun k => k = b1 ∨ k = b1 + 1) ?_ (p := ⟨_, _, none⟩) (fun _ => by first | exact Or.inl rfl | exact Or.inr rfl) _); exact Keeps.refl _ _)
  · have hkf : ∀ W : World, Keeps (fun k => k = b1 ∨ k = b1 + 1) w1 W → Keeps (fun _ => False) w W := fun W hW => HK1.out.2.trans hW (fun k hlt e => by omega)
    exact hkf _ (by (iterate 8 with_reducible refine Keeps.setCell (F := fun k => k = b1 ∨ k = b1 + 1) ?_ (p := ⟨_, _, none⟩) (fun _ => by first | exact Or.inl rfl | exact Or.inr rfl) _); exact Keeps.refl _ _)
  · exact fun G hG hfr => RF.five hG.at0 (fun j e => hfr j (by have := (HK1.out.1.lt j e).1; omega)) (fun j e => by cases e) (fun j e => by cases e)

theorem ref_made (n : Nat) (hn : n ≤ 65536) (w : World) (gn gs : Nat) (h : (gn = w.heap.size + 1 ∧ gs = w.heap.size + 1 + 1) ∨ (gn = w.heap.size + 1 + 1 ∧ gs = w.heap.size + 1)) (X : Obj) :
    RefAt (((w.alloc X).alloc (.cells (madeCells #[.int .u8 0] n) 5)).alloc (.cells (madeCells #[.int .u8 0] n) 5)).drew w.heap.size #[.slice (some ⟨gn, 0, none⟩) n n, .slice (some ⟨gs, 0, none⟩) n n, .slice none 0 0, .slice none 0 0, .bool false] ⟨List.replicate n 0, List.replicate n 0, [], false⟩ := by
  have h1 : (((w.alloc X).alloc (.cells (madeCells #[.int .u8 0] n) 5)).alloc (.cells (madeCells #[.int .u8 0] n) 5)).drew.heap[w.heap.size + 1]? = some (.cells (madeCells #[.int .u8 0] n) 5 (0, 0)) :=
    (Below.heap_alloc ((w.alloc X).alloc _) _ _ (by simp)).trans (by simpa using heap_alloc_new (w.alloc X) (.cells (madeCells #[.int .u8 0] n) 5))
  have h2 : (((w.alloc X).alloc (.cells (madeCells #[.int .u8 0] n) 5)).alloc (.cells (madeCells #[.int .u8 0] n) 5)).drew.heap[w.heap.size + 1 + 1]? = some (.cells (madeCells #[.int .u8 0] n) 5 (0, 0)) := by
    have h := heap_alloc_new ((w.alloc X).alloc (.cells (madeCells #[.int .u8 0] n) 5)) (.cells (madeCells #[.int .u8 0] n) 5)
    rw [show ((w.alloc X).alloc (.cells (madeCells #[.int .u8 0] n) 5)).heap.size = w.heap.size + 1 + 1 by simp] at h
    exact h
  have o1 := owns_zeros _ _ n h1 hn
  have o2 := owns_zeros _ _ n h2 hn
  have b1 := own_base (base' := w.heap.size) o1 (fun k e => by simp [Value.ownBlock] at e; omega)
  have b2 := own_base (base' := w.heap.size) o2 (fun k e => by simp [Value.ownBlock] at e; omega)
  refine ⟨some ⟨gn, 0, none⟩, n, some ⟨gs, 0, none⟩, n, none, 0, none, 0, by simp, ?_, ?_, World.ownsRow_nil _ _ _ _, World.ownsRow_nil _ _ _ _⟩
  · rw [List.length_replicate]
    rcases h with ⟨rfl, rfl⟩ | ⟨rfl, rfl⟩
    · exact b1
    · exact b2
  · rw [List.length_replicate]
    rcases h with ⟨rfl, rfl⟩ | ⟨rfl, rfl⟩
    · exact b2
    · exact b1

set_option maxRecDepth 10000 in
set_option maxHeartbeats 1000000 in
theorem refNew_any (n : Nat) (hn : n ≤ 65536) (w : World) : Calls Try.prog 32 #[.int .i64 (n : Int)] w fun e w' => ∃ v, e = .returned (.agg v) ∧ RefAt w' w.heap.size v ⟨List.replicate n 0, List.replicate n 0, [], false⟩ ∧ Keeps (fun _ => False) w w' := by
  have hmk := run_mk n (by omega)
  go_enter Try.func32, Try.ntmps32
  go_wp2
  go_region
  all_goals go_wp2
  · refine bodyPost_ret (v := .agg #[.slice (some ⟨w.heap.size + 1, 0, none⟩) n n, .slice (some ⟨w.heap.size + 1 + 1, 0, none⟩) n n, .slice none 0 0, .slice none 0 0, .bool false]) (by simp [results, Try.results32, go_sem]) rfl ⟨_, rfl, ref_made n hn w _ _ (Or.inl ⟨rfl, rfl⟩) _, ?_⟩
    exact ((((Keeps.refl _ w).alloc _).alloc _).alloc _).drew
  · refine bodyPost_ret (v := .agg #[.slice (some ⟨w.heap.size + 1 + 1, 0, none⟩) n n, .slice (some ⟨w.heap.size + 1, 0, none⟩) n n, .slice none 0 0, .slice none 0 0, .bool false]) (by simp [results, Try.results32, go_sem]) rfl ⟨_, rfl, ref_made n hn w _ _ (Or.inr ⟨rfl, rfl⟩) _, ?_⟩
    exact ((((Keeps.refl _ w).alloc _).alloc _).alloc _).drew
end Go.Proofs.Ytpojkhjenbbodaa
