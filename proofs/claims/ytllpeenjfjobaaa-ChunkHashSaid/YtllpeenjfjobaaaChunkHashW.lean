/-
  The law ChunkHash: the walk. Conditions: the arguments are what came in.
-/
import Derived.Test.YtllpeenjfjobaaaLives26
import Derived.Test.YtllpeenjfjobaaaFew
import Derived.Test.YtllpeenjfjobaaaAppN
import Derived.Test.YtllpeenjfjobaaaOfArgs
import Derived.Test.YtllpeenjfjobaaaOpen
namespace Go.Proofs.Ytllpeenjfjobaaa
open Go.RowKit

theorem owns_lit (w : World) (l : List UInt8) (n : Nat) (h : l.length = n) (hn : n ≤ 1000) : (w.alloc (.cells (BV l).toArray 5)).ownsRow w.heap.size 5 1 (.slice (some ⟨w.heap.size, 0, none⟩) n n) n (BV l) :=
  ⟨by rw [BV_length]; omega, Or.inr ⟨w.heap.size, n, _, rfl, Nat.le_refl _, heap_alloc_new w _, Nat.le_refl _, by unfold maxLen; omega, by simp; omega, by simp; rw [List.take_of_length_le (by simp; omega)]⟩⟩
theorem wp_appB {w : World} {o : Oper} {a : Act} {K : Act → World → Prop} {Q : Exit → Act → World → Prop} (s x : Operand)
    (ho : o.op = .call { callee := .builtin .append, args := #[s, x], argTypes := #[22, 22] }) (base : Nat)
    (sa : Option Addr) (n c : Nat) (xs : List Value) (hs : a.eval s = .slice sa n c) (hown : w.ownsRow base 5 1 (.slice sa n c) n xs)
    (sb : Option Addr) (m cb : Nat) (l : List UInt8) (hx : a.eval x = .slice sb m cb) (hl : Sl w sb m cb (BV l)) (hn : n + m ≤ 4000000000) (hbase : base ≤ w.heap.size)
    (h : ∀ sa' cap' w', w'.ownsRow base 5 1 (.slice sa' (n + m) cap') (n + m) (xs ++ BV l) → Keeps (fun k => sa = some ⟨k, 0, none⟩) w w' → K (a.put o.dst (.slice sa' (n + m) cap')) w') : o.wp Try.prog a w K Q := by
  obtain ⟨i0, hi, hz0, hz1, hz2⟩ := info_parts infoByte
  have hll : l.length = m := by have := hl.len; simpa using this
  refine wp_app w s x 22 ho base 5 i0 (.int .u8 0) 1 1 Try.underlying22 hi hz0 hz1 hz2 rfl (by decide) (.slice sa n c) n xs hs hown sb m cb (BV l) hx (by simp [hll]) (fun e => by have := hl.nil e; omega) hl.lies (BV_one _) (by unfold maxLen; omega) (by omega) hbase ?_
  intro sa' cap' w' hown' hg _ _
  refine h sa' cap' w' hown' ((Keeps.refl _ w).grown hg (fun k e _ => ?_))
  rcases own_addr hown with ⟨rfl, _⟩ | ⟨g, rfl⟩
  · simp [Value.ownBlock] at e
  · simp [Value.ownBlock] at e; rw [e]
theorem lies_lit2 (w : World) (l0 l : List UInt8) (n : Nat) (h : l.length = n) (hn : n ≤ 1000) : Sl ((w.alloc (.cells (BV l0).toArray 5)).alloc (.cells (BV l).toArray 5)) (some ⟨w.heap.size + 1, 0, none⟩) n n (BV l) := by
  have := lies_lit (w.alloc (.cells (BV l0).toArray 5)) l n h (by omega) (0, 0)
  rwa [World.size_alloc] at this
theorem kc {w w' : World} (hk : Keeps (fun _ => False) w w') {p : Addr} {v : Value} (h : w.cell? p = some v) : w'.cell? p = some v := by
  rw [hk.cell (World.block_lt_of_cell? _ _ h) (fun h => h)]; exact h
/-- Four bytes lie in a block. -/
def Four (w : World) (bx : Nat) (x0 x1 x2 x3 : UInt8) : Prop := w.cell? ⟨bx, 0, none⟩ = some (.int .u8 (x0.toNat : Int)) ∧ w.cell? ⟨bx, 1, none⟩ = some (.int .u8 (x1.toNat : Int)) ∧ w.cell? ⟨bx, 2, none⟩ = some (.int .u8 (x2.toNat : Int)) ∧ w.cell? ⟨bx, 3, none⟩ = some (.int .u8 (x3.toNat : Int))
theorem Four.quiet {w w' : World} {bx : Nat} {x0 x1 x2 x3 : UInt8} (h : Four w bx x0 x1 x2 x3) (hk : Keeps (fun _ => False) w w') : Four w' bx x0 x1 x2 x3 := ⟨kc hk h.1, kc hk h.2.1, kc hk h.2.2.1, kc hk h.2.2.2⟩
theorem ends_last (p : List UInt8) (x0 x1 x2 x3 : UInt8) (h1 : 4 ≤ p.length) (h2 : p.length < 60) : endsB (p ++ [x0, x1, x2, x3]) = (hof sCut [x0.toNat, x1.toNat, x2.toNat, x3.toNat] % 8 == 0) := by
  unfold endsB
  have e : (p ++ [x0, x1, x2, x3]).length = p.length + 4 := by simp
  rw [e, if_neg (by omega), if_neg (by omega), Nat.add_sub_cancel, List.drop_left]
  rfl

set_option maxHeartbeats 4000000 in
set_option maxRecDepth 10000 in
theorem chunkHash_walk (x0 x1 x2 x3 : UInt8) (sa : Option Addr) (n cap : Nat) (l : List UInt8) (w : World) (hl : Sl w sa n cap (BV l)) :
    Calls Try.prog 7 #[.agg #[.int .u8 (x0.toNat : Int), .int .u8 (x1.toNat : Int), .int .u8 (x2.toNat : Int), .int .u8 (x3.toNat : Int)], .slice sa n cap] w fun e w' => e = .returned (.bool true) ∧ Keeps (fun _ => False) w w' := by
  have Sl0 := Lib.hid hl
  clear hl
  go_enter Try.func7, Try.ntmps7
  obtain ⟨bx, hbx⟩ : ∃ g, w.heap.size = g := ⟨_, rfl⟩
  obtain ⟨wx, hwx⟩ : ∃ W, World.alloc w (.cells #[.int .u8 (x0.toNat : Int), .int .u8 (x1.toNat : Int), .int .u8 (x2.toNat : Int), .int .u8 (x3.toNat : Int)] 37) = W := ⟨_, rfl⟩
  have hb : wx.heap[bx]? = some (.cells #[.int .u8 (x0.toNat : Int), .int .u8 (x1.toNat : Int), .int .u8 (x2.toNat : Int), .int .u8 (x3.toNat : Int)] 37 (0, 0)) := by rw [← hwx, ← hbx]; exact World.alloc_heap_new w _
  have hk : Keeps (fun _ => False) w wx := by rw [← hwx]; exact (Keeps.refl _ w).alloc _
  have HF : Hid (Four wx bx x0 x1 x2 x3) := ⟨by rw [cellAt hb 0]; rfl, by rw [cellAt hb 1]; rfl, by rw [cellAt hb 2]; rfl, by rw [cellAt hb 3]; rfl⟩
  have HK := Lib.hid hk
  have HKx := Lib.hid hk
  have HFx := HF
  have HA := Lib.hid (few_any sa n cap 55 l wx (Sl0.out.quiet hk) (by omega))
  clear hb hk
  go_wp2_with fail
  clear hwx hbx
  refine HA.out.mono ?_
  rintro e w1 ⟨s1, c1, rfl, hown, hk⟩
  have hl1 : (l.take 55).length ≤ 55 := by rw [List.length_take]; omega
  generalize l.take 55 = p at *
  obtain ⟨np, hnp⟩ : ∃ q, p.length = q := ⟨_, rfl⟩
  rw [hnp] at hown hl1 ⊢
  have HNp := Lib.hid hnp
  replace HK := Lib.hid (HK.out.quiet hk)
  replace HF := Lib.hid (HF.out.quiet hk)
  have O1 := Lib.hid hown
  have hsz : wx.heap.size ≤ w1.heap.size := hk.size
  clear HA hown hk hnp Sl0
  go_wp2_with (at_builtin; refine wpList_appB rfl _ _ rfl wx.heap.size s1 np c1 _ rfl (O1.out.alloc _) (some ⟨w1.heap.size, 0, none⟩) 4 4 [1, 2, 3, 4] rfl (lies_lit w1 [1, 2, 3, 4] 4 rfl (by omega) (0, 0)) (by omega) (by simp; omega) ?_; intro s2 c2 w2 hown hk; have HO := Lib.hid (And.intro hown hk); clear hown hk)
  obtain ⟨hown, hk⟩ := HO.out
  rw [← BV_append] at hown
  have HBx : Hid (bx < wx.heap.size) := World.block_lt_of_cell? _ _ HFx.out.1
  have hkk : Keeps (fun k => wx.heap.size ≤ k) w1 w2 := ((Keeps.refl _ w1).alloc _).trans hk (fun k _ e => (own_lt O1.out e).1)
  have HF2 : Hid (Four w2 bx x0 x1 x2 x3) := by
    obtain ⟨f0, f1, f2, f3⟩ := HF.out
    have hb := HBx.out
    exact ⟨(hkk.cell (World.block_lt_of_cell? _ _ f0) (by show ¬ _ ≤ bx; omega)).trans f0, (hkk.cell (World.block_lt_of_cell? _ _ f1) (by show ¬ _ ≤ bx; omega)).trans f1, (hkk.cell (World.block_lt_of_cell? _ _ f2) (by show ¬ _ ≤ bx; omega)).trans f2, (hkk.cell (World.block_lt_of_cell? _ _ f3) (by show ¬ _ ≤ bx; omega)).trans f3⟩
  have HK2 : Hid (Keeps (fun _ => False) w w2) := HK.out.trans hkk (fun k hk h => by have := HKx.out.size; omega)
  have hpl : (p ++ [1, 2, 3, 4]).length = np + 4 := by rw [List.length_append, HNp.out]; rfl
  generalize p ++ [1, 2, 3, 4] = q at *
  have S2 := Lib.hid (Sl.of_own hown)
  have HQL := Lib.hid hpl
  clear hown hk HO HK HF hkk O1 HNp hpl hsz HKx HFx HBx
  obtain ⟨nq, hnq⟩ : ∃ z, np + 4 = z := ⟨_, rfl⟩
  rw [hnq] at S2 HQL ⊢
  have hq1 : 4 ≤ nq := by omega
  have hq2 : nq < 60 := by omega
  clear hnq hl1
  go_wp2_with fail
  have HN := Lib.hid (And.intro hq1 hq2)
  clear hq1
  refine z_begin (fun w' => Four w' bx x0 x1 x2 x3) 13 (by kernel_rfl) (HF2.out.quiet (Keeps.refl _ _).drew) (fun hHeld => ?_)
  have hk : Keeps (fun _ => False) w2 (World.drew w2) := (Keeps.refl _ _).drew
  replace HK2 := Lib.hid (HK2.out.quiet hk)
  replace S2 := Lib.hid (S2.out.quiet hk)
  clear hk HF2
  generalize World.drew w2 = v0 at *
  have HQ := Lib.hid (Keeps.refl (fun _ => False) v0)
  obtain ⟨B, hBv⟩ : ∃ B, v0.heap.size = B := ⟨_, rfl⟩
  have HBv := Lib.hid hBv
  clear hBv
  refine z_take 1 (v := ?_) rfl (by kernel_rfl) (by kernel_rfl) (by kernel_rfl) (by kernel_rfl) (fun _ _ _ h => h) hHeld (by rfl) (fun w hSw => ?_) ?_
  rotate_left
  · obtain ⟨hSw1, hSw2, hSw3, hSw4⟩ := hSw; simp only [List.getElem_toArray, List.getElem_cons_zero, List.getElem_cons_succ]; go_simp; try rfl
  simp only [Act.put, List.getElem_toArray, List.getElem_cons_zero, List.getElem_cons_succ, List.setIfInBounds_toArray, List.set_cons_zero, List.set_cons_succ]
  refine z_take 3 (v := ?_) rfl (by kernel_rfl) (by kernel_rfl) (by kernel_rfl) (by kernel_rfl) (fun _ _ _ h => h) hHeld (by rfl) (fun w hSw => ?_) ?_
  rotate_left
  · obtain ⟨hSw1, hSw2, hSw3, hSw4⟩ := hSw; simp only [List.getElem_toArray, List.getElem_cons_zero, List.getElem_cons_succ]; go_simp; try rfl
  simp only [Act.put, List.getElem_toArray, List.getElem_cons_zero, List.getElem_cons_succ, List.setIfInBounds_toArray, List.set_cons_zero, List.set_cons_succ]
  refine z_take 4 (v := ?_) rfl (by kernel_rfl) (by kernel_rfl) (by kernel_rfl) (by kernel_rfl) (fun _ _ _ h => h) hHeld (by rfl) (fun w hSw => ?_) ?_
  rotate_left
  · obtain ⟨hSw1, hSw2, hSw3, hSw4⟩ := hSw; simp only [List.getElem_toArray, List.getElem_cons_zero, List.getElem_cons_succ]; go_simp; try rfl
  simp only [Act.put, List.getElem_toArray, List.getElem_cons_zero, List.getElem_cons_succ, List.setIfInBounds_toArray, List.set_cons_zero, List.set_cons_succ]
  refine z_take 5 (v := ?_) rfl (by kernel_rfl) (by kernel_rfl) (by kernel_rfl) (by kernel_rfl) (fun _ _ _ h => h) hHeld (by rfl) (fun w hSw => ?_) ?_
  rotate_left
  · obtain ⟨hSw1, hSw2, hSw3, hSw4⟩ := hSw; simp only [List.getElem_toArray, List.getElem_cons_zero, List.getElem_cons_succ]; go_simp; try rfl
  simp only [Act.put, List.getElem_toArray, List.getElem_cons_zero, List.getElem_cons_succ, List.setIfInBounds_toArray, List.set_cons_zero, List.set_cons_succ]
  refine z_take 6 (v := ?_) rfl (by kernel_rfl) (by kernel_rfl) (by kernel_rfl) (by kernel_rfl) (fun _ _ _ h => h) hHeld (by rfl) (fun w hSw => ?_) ?_
  rotate_left
  · obtain ⟨hSw1, hSw2, hSw3, hSw4⟩ := hSw; simp only [List.getElem_toArray, List.getElem_cons_zero, List.getElem_cons_succ]; go_simp; try rfl
  simp only [Act.put, List.getElem_toArray, List.getElem_cons_zero, List.getElem_cons_succ, List.setIfInBounds_toArray, List.set_cons_zero, List.set_cons_succ]
  refine z_take 7 (v := ?_) rfl (by kernel_rfl) (by kernel_rfl) (by kernel_rfl) (by kernel_rfl) (fun _ _ _ h => h) hHeld (by rfl) (fun w hSw => ?_) ?_
  rotate_left
  · obtain ⟨hSw1, hSw2, hSw3, hSw4⟩ := hSw; simp only [List.getElem_toArray, List.getElem_cons_zero, List.getElem_cons_succ]; go_simp; try rfl
  simp only [Act.put, List.getElem_toArray, List.getElem_cons_zero, List.getElem_cons_succ, List.setIfInBounds_toArray, List.set_cons_zero, List.set_cons_succ]
  refine z_take 8 (v := ?_) rfl (by kernel_rfl) (by kernel_rfl) (by kernel_rfl) (by kernel_rfl) (fun _ _ _ h => h) hHeld (by rfl) (fun w hSw => ?_) ?_
  rotate_left
  · obtain ⟨hSw1, hSw2, hSw3, hSw4⟩ := hSw; simp only [List.getElem_toArray, List.getElem_cons_zero, List.getElem_cons_succ]; go_simp; try rfl
  simp only [Act.put, List.getElem_toArray, List.getElem_cons_zero, List.getElem_cons_succ, List.setIfInBounds_toArray, List.set_cons_zero, List.set_cons_succ]
  refine z_take 9 (v := ?_) rfl (by kernel_rfl) (by kernel_rfl) (by kernel_rfl) (by kernel_rfl) (fun _ _ _ h => h) hHeld (by rfl) (fun w hSw => ?_) ?_
  rotate_left
  · obtain ⟨hSw1, hSw2, hSw3, hSw4⟩ := hSw; simp only [List.getElem_toArray, List.getElem_cons_zero, List.getElem_cons_succ]; go_simp; try rfl
  simp only [Act.put, List.getElem_toArray, List.getElem_cons_zero, List.getElem_cons_succ, List.setIfInBounds_toArray, List.set_cons_zero, List.set_cons_succ]
  refine z_take 10 (v := ?_) rfl (by kernel_rfl) (by kernel_rfl) (by kernel_rfl) (by kernel_rfl) (fun _ _ _ h => h) hHeld (by rfl) (fun w hSw => ?_) ?_
  rotate_left
  · obtain ⟨hSw1, hSw2, hSw3, hSw4⟩ := hSw; simp only [List.getElem_toArray, List.getElem_cons_zero, List.getElem_cons_succ]; go_simp; try rfl
  simp only [Act.put, List.getElem_toArray, List.getElem_cons_zero, List.getElem_cons_succ, List.setIfInBounds_toArray, List.set_cons_zero, List.set_cons_succ]
  have HF0 := Lib.hid hHeld
  refine z_two 0 11 rfl rfl (by kernel_rfl) (by rfl) (by rfl) (fun K hK => ?_) (fun K hK => ?_)
  · skip
    simp only [List.getElem_toArray, List.getElem_cons_zero]
    go_simp
    have hk : Keeps (fun _ => False) v0 (v0.alloc (.cells #[] 5)) := (Keeps.refl _ v0).alloc _
    have hown : (v0.alloc (.cells #[] 5)).ownsRow B 5 1 (.slice (some ⟨v0.heap.size, 0, none⟩) 0 0) 0 [] := World.ownsRow_made (cap := 0) v0 #[] (by rw [← HBv.out]; exact HQ.out.size) (by decide) rfl
    refine hK _ _ (Or.inr ?_) (fun hHeld => ?_)
    · exact hHeld.quiet hk
    clear hK K
    replace hHeld := hHeld.resolve_left (by decide)
    try simp only [Act.put, List.setIfInBounds_toArray, List.set_cons_zero, List.set_cons_succ]
    obtain ⟨e0, he0⟩ : ∃ g, v0.heap.size = g := ⟨_, rfl⟩
    obtain ⟨u1, hnw⟩ : ∃ W, v0.alloc (.cells #[] 5) = W := ⟨_, rfl⟩
    rw [he0] at hown ⊢
    rw [hnw] at hown hk hHeld ⊢
    replace HQ := Lib.hid (HQ.out.quiet hk)
    have HE0 := Lib.hid (show e0 < u1.heap.size from (own_lt hown rfl).2)
    have OE := Lib.hid hown
    clear hown hk hnw he0
    refine z_two 2 11 rfl rfl (by kernel_rfl) (by rfl) (by rfl) (fun K hK => ?_) (fun K hK => ?_)
    · skip
      simp only [List.getElem_toArray, List.getElem_cons_zero, List.getElem_cons_succ]
      refine wp_appB (.tmp 13) (.tmp 14) rfl B (some ⟨e0, 0, none⟩) 0 0 [] rfl OE.out s2 nq c2 q rfl (S2.out.quiet HQ.out) (by omega) (by rw [← HBv.out]; exact HQ.out.size) ?_
      intro sE cE u2 hown hk
      rw [List.nil_append, Nat.zero_add] at hown
      rw [Nat.zero_add]
      have hk2 := HQ.out.pushed OE.out (by rw [HBv.out]; exact Nat.le_refl _) hk
      have hHf : Four u2 bx x0 x1 x2 x3 := HF0.out.quiet hk2
      refine hK _ _ (Or.inr ?_) (fun hHeld => ?_)
      · exact hHf
      clear hK K hHf
      replace hHeld := hHeld.resolve_left (by decide)
      try simp only [Act.put, List.setIfInBounds_toArray, List.set_cons_zero, List.set_cons_succ]
      replace HQ := Lib.hid hk2
      replace OE := Lib.hid hown
      clear hown hk hk2
      refine z_one 11 rfl (by kernel_rfl) (by rfl) (fun K hK => ?_)
      simp only [List.getElem_toArray, List.getElem_cons_zero, List.getElem_cons_succ]
      obtain ⟨f0_, f1_, f2_, f3_⟩ := hHeld
      have hHeld : Four u2 bx x0 x1 x2 x3 := ⟨f0_, f1_, f2_, f3_⟩
      clear f0_ f1_ f2_ f3_
      go_simp
      have hk : Keeps (fun _ => False) u2 (u2.alloc (.cells (BV [x0, x1, x2, x3]).toArray 5)) := (Keeps.refl _ u2).alloc _
      have hown : (u2.alloc (.cells (BV [x0, x1, x2, x3]).toArray 5)).ownsRow B 5 1 (.slice (some ⟨u2.heap.size, 0, none⟩) 4 4) 4 (BV [x0, x1, x2, x3]) := own_base (owns_lit u2 [x0, x1, x2, x3] 4 rfl (by omega)) (fun k e => by have := HQ.out.size; have := HBv.out; simp [Value.ownBlock] at e; omega)
      refine hK _ _ (Or.inr ?_) (fun hHeld => ?_)
      · exact hHeld.quiet hk
      clear hK K
      replace hHeld := hHeld.resolve_left (by decide)
      try simp only [Act.put, List.setIfInBounds_toArray, List.set_cons_zero, List.set_cons_succ]
      change wpAnyZ _ _ _ _ _ _ _ _ _ (u2.alloc (.cells (BV [x0, x1, x2, x3]).toArray 5))
      obtain ⟨f0, hf0⟩ : ∃ g, u2.heap.size = g := ⟨_, rfl⟩
      obtain ⟨u3, hnw⟩ : ∃ W, u2.alloc (.cells (BV [x0, x1, x2, x3]).toArray 5) = W := ⟨_, rfl⟩
      replace hHeld : Four (u2.alloc (.cells (BV [x0, x1, x2, x3]).toArray 5)) bx x0 x1 x2 x3 := hHeld
      rw [hf0] at hown ⊢
      rw [hnw] at hown hk hHeld ⊢
      replace HQ := Lib.hid (HQ.out.quiet hk)
      replace OE := Lib.hid (own_keep OE.out hk (fun _ _ h => h))
      have OF := Lib.hid hown
      clear hown hk hnw hf0
      refine z_one 12 rfl (by kernel_rfl) (by rfl) (fun K hK => ?_)
      simp only [List.getElem_toArray, List.getElem_cons_zero, List.getElem_cons_succ]
      refine wp_appB (.tmp 15) (.tmp 24) rfl B sE nq cE _ rfl OE.out (some ⟨f0, 0, none⟩) 4 4 [x0, x1, x2, x3] rfl (Sl.of_own OF.out) (by omega) (by rw [← HBv.out]; exact HQ.out.size) ?_
      intro sO cO u4 hown hk
      rw [← BV_append] at hown
      have hk2 := HQ.out.pushed OE.out (by rw [HBv.out]; exact Nat.le_refl _) hk
      have hHf : Four u4 bx x0 x1 x2 x3 := HF0.out.quiet hk2
      refine hK _ _ (Or.inr ?_) (fun hHeld => ?_)
      · exact hHf
      clear hK K hHf
      replace hHeld := hHeld.resolve_left (by decide)
      try simp only [Act.put, List.setIfInBounds_toArray, List.set_cons_zero, List.set_cons_succ]
      replace HQ := Lib.hid hk2
      have OY := Lib.hid hown
      clear hown hk hk2 OE OF
      refine z_one 13 rfl (by kernel_rfl) (by rfl) (fun K hK => ?_)
      simp only [List.getElem_toArray, List.getElem_cons_zero, List.getElem_cons_succ]
      go_simp
      refine hK _ _ (Or.inl rfl) (fun _ => ?_)
      clear hK K
      try simp only [Act.put, List.setIfInBounds_toArray, List.set_cons_zero, List.set_cons_succ]
      refine z_done (by kernel_rfl) ?_ _
      have HFW := Lib.hid hHeld
      have HKW := Lib.hid (HK2.out.quiet HQ.out)
      clear HQ HK2 HF0 S2 hHeld
      have SO := Lib.hid (Sl.of_own OY.out)
      have HE1 := Lib.hid (ends_last q x0 x1 x2 x3 (by rw [HQL.out]; exact HN.out.1) (by rw [HQL.out]; exact HN.out.2))
      have HE2 := Lib.hid (ends_last [9, 9, 9, 9] x0 x1 x2 x3 (by decide) (by decide))
      clear OY
      obtain ⟨f0, f1, f2, f3⟩ := HFW.out.quiet ((Keeps.refl (fun _ => False) u4).alloc (.cells #[.int .u8 9, .int .u8 9, .int .u8 9, .int .u8 9] 5))
      go_wp2_with (at_builtin; refine wpList_appB rfl _ _ rfl u4.heap.size (some ⟨u4.heap.size, 0, none⟩) 4 4 _ rfl ((owns_lit u4 [9, 9, 9, 9] 4 rfl (by omega)).alloc _) (some ⟨u4.heap.size + 1, 0, none⟩) 4 4 [x0, x1, x2, x3] rfl (lies_lit2 u4 [9, 9, 9, 9] [x0, x1, x2, x3] 4 rfl (by omega)) (by omega) (by simp; omega) ?_; intro s8 c8 w8 hown hk; have HO := Lib.hid (And.intro hown hk); have HF8 := Lib.hid (HFW.out.quiet ((((Keeps.refl (fun _ => False) u4).alloc _).alloc _).trans hk (fun k hk e => by simp only [Option.some.injEq, Addr.mk.injEq, and_true] at e; omega))); clear f0 f1 f2 f3; obtain ⟨f0, f1, f2, f3⟩ := HF8.out)
      obtain ⟨hown, hk⟩ := HO.out
      rw [← BV_append] at hown
      have S8 := Lib.hid (Sl.of_own hown)
      replace SO := Lib.hid (SO.out.quiet ((((Keeps.refl (fun _ => False) u4).alloc _).alloc _).trans hk (fun k hk e => by simp only [Option.some.injEq, Addr.mk.injEq, and_true] at e; omega)))
      replace HKW := Lib.hid (HKW.out.quiet ((((Keeps.refl (fun _ => False) u4).alloc _).alloc _).trans hk (fun k hk e => by simp only [Option.some.injEq, Addr.mk.injEq, and_true] at e; omega)))
      clear hown hk HO HFW HF8
      have b0 := x0.toNat_lt
      have b1 := x1.toNat_lt
      have b2 := x2.toNat_lt
      have b3 := x3.toNat_lt
      have m0 : IntKind.u64.wrap (x0.toNat : Int) = (x0.toNat : Int) := wrap_nat _ _ rfl (by omega)
      have m1 : IntKind.u64.wrap (x1.toNat : Int) = (x1.toNat : Int) := wrap_nat _ _ rfl (by omega)
      have m2 : IntKind.u64.wrap (x2.toNat : Int) = (x2.toNat : Int) := wrap_nat _ _ rfl (by omega)
      have m3 : IntKind.u64.wrap (x3.toNat : Int) = (x3.toNat : Int) := wrap_nat _ _ rfl (by omega)
      obtain ⟨X, hX⟩ : ∃ X, hof sCut [x0.toNat, x1.toNat, x2.toNat, x3.toNat] = X := ⟨_, rfl⟩
      rw [hX] at HE1 HE2
      have HXX := Lib.hid hX
      have S4 := Lib.hid (lies_four w8 x0.toNat x1.toNat x2.toNat x3.toNat (0, 0))
      clear hX
      go_wp2_with fail
      rw [m0, m1, m2, m3]
      refine (of_any ⟨#[99, 117, 116]⟩ _ 4 4 [x0.toNat, x1.toNat, x2.toNat, x3.toNat] _ (by decide) (by omega) S4.out (by unfold U64; simp; omega)).mono ?_
      rw [show hof (⟨#[99, 117, 116]⟩ : ByteArray).data.toList [x0.toNat, x1.toNat, x2.toNat, x3.toNat] = X from HXX.out]
      rintro e w9 ⟨rfl, hk0⟩
      have hk : Keeps (fun _ => False) w8 w9 := ((Keeps.refl _ w8).alloc _).quiet hk0
      replace HKW := Lib.hid (HKW.out.quiet hk)
      replace SO := Lib.hid (SO.out.quiet hk)
      replace S8 := Lib.hid (S8.out.quiet hk)
      have d1 : (X : Int).tmod 8 = (X : Int) % 8 := Int.tmod_eq_emod_of_nonneg (by omega)
      have d2 : ((X : Int) % 8 == 0) = (X % 8 == 0) := by
        rw [Bool.eq_iff_iff]; simp; omega
      clear hk hk0 f0 f1 f2 f3 m0 m1 m2 m3 b0 b1 b2 b3 S4 HXX
      have HT1 := Lib.hid (ends_any sO (nq + 4) cO (q ++ [x0, x1, x2, x3]) w9 SO.out)
      rw [HE1.out] at HT1
      have HV : Hid (((X : Int) % 8 == 0) = (X % 8 == 0)) := d2
      generalize hv : (X % 8 == 0) = v at *
      go_wp2_with fail
      refine HT1.out.mono ?_
      rintro e w10 ⟨rfl, hk⟩
      replace HKW := Lib.hid (HKW.out.quiet hk)
      replace S8 := Lib.hid (S8.out.quiet hk)
      clear hk HT1 SO
      have HT2 := Lib.hid (ends_any s8 8 c8 ([9, 9, 9, 9] ++ [x0, x1, x2, x3]) w10 S8.out)
      rw [HE2.out] at HT2
      have e1 : (v == v) = true := by simp
      try simp only [hv] at HT2
      go_wp2_with fail
      refine HT2.out.mono ?_
      rintro e w11 ⟨rfl, hk⟩
      replace HKW := Lib.hid (HKW.out.quiet hk)
      clear hk HT2
      go_wp2_with fail
      refine (lives_any w11).mono ?_
      rintro e w12 ⟨rfl, hk⟩
      replace HKW := Lib.hid (HKW.out.quiet hk)
      clear hk
      go_wp2
      go_ret
      exact ⟨rfl, HKW.out⟩
    · skip
      simp only [List.getElem_toArray, List.getElem_cons_zero, List.getElem_cons_succ]
      obtain ⟨f0_, f1_, f2_, f3_⟩ := hHeld
      have hHeld : Four u1 bx x0 x1 x2 x3 := ⟨f0_, f1_, f2_, f3_⟩
      clear f0_ f1_ f2_ f3_
      go_simp
      have hk : Keeps (fun _ => False) u1 (u1.alloc (.cells (BV [x0, x1, x2, x3]).toArray 5)) := (Keeps.refl _ u1).alloc _
      have hown : (u1.alloc (.cells (BV [x0, x1, x2, x3]).toArray 5)).ownsRow B 5 1 (.slice (some ⟨u1.heap.size, 0, none⟩) 4 4) 4 (BV [x0, x1, x2, x3]) := own_base (owns_lit u1 [x0, x1, x2, x3] 4 rfl (by omega)) (fun k e => by have := HQ.out.size; have := HBv.out; simp [Value.ownBlock] at e; omega)
      refine hK _ _ (Or.inr ?_) (fun hHeld => ?_)
      · exact hHeld.quiet hk
      clear hK K
      replace hHeld := hHeld.resolve_left (by decide)
      try simp only [Act.put, List.setIfInBounds_toArray, List.set_cons_zero, List.set_cons_succ]
      change wpAnyZ _ _ _ _ _ _ _ _ _ (u1.alloc (.cells (BV [x0, x1, x2, x3]).toArray 5))
      obtain ⟨f0, hf0⟩ : ∃ g, u1.heap.size = g := ⟨_, rfl⟩
      obtain ⟨u6, hnw⟩ : ∃ W, u1.alloc (.cells (BV [x0, x1, x2, x3]).toArray 5) = W := ⟨_, rfl⟩
      replace hHeld : Four (u1.alloc (.cells (BV [x0, x1, x2, x3]).toArray 5)) bx x0 x1 x2 x3 := hHeld
      rw [hf0] at hown ⊢
      rw [hnw] at hown hk hHeld ⊢
      replace HQ := Lib.hid (HQ.out.quiet hk)
      have HEF := Lib.hid (show e0 ≠ f0 by have := (own_lt OE.out rfl).2; omega)
      replace OE := Lib.hid (own_keep OE.out hk (fun _ _ h => h))
      have OF := Lib.hid hown
      clear hown hk hnw hf0
      refine z_one 2 rfl (by kernel_rfl) (by rfl) (fun K hK => ?_)
      simp only [List.getElem_toArray, List.getElem_cons_zero, List.getElem_cons_succ]
      refine wp_appB (.tmp 13) (.tmp 14) rfl B (some ⟨e0, 0, none⟩) 0 0 [] rfl OE.out s2 nq c2 q rfl (S2.out.quiet HQ.out) (by omega) (by rw [← HBv.out]; exact HQ.out.size) ?_
      intro sE cE u7 hown hk
      rw [List.nil_append, Nat.zero_add] at hown
      rw [Nat.zero_add]
      have hk2 := HQ.out.pushed OE.out (by rw [HBv.out]; exact Nat.le_refl _) hk
      have hHf : Four u7 bx x0 x1 x2 x3 := HF0.out.quiet hk2
      refine hK _ _ (Or.inr ?_) (fun hHeld => ?_)
      · exact hHf
      clear hK K hHf
      replace hHeld := hHeld.resolve_left (by decide)
      try simp only [Act.put, List.setIfInBounds_toArray, List.set_cons_zero, List.set_cons_succ]
      replace OF := Lib.hid (own_keep OF.out hk (fun k e h => HEF.out (by simp [Value.ownBlock] at e h; omega)))
      replace HQ := Lib.hid hk2
      replace OE := Lib.hid hown
      clear hown hk hk2
      refine z_one 12 rfl (by kernel_rfl) (by rfl) (fun K hK => ?_)
      simp only [List.getElem_toArray, List.getElem_cons_zero, List.getElem_cons_succ]
      refine wp_appB (.tmp 15) (.tmp 24) rfl B sE nq cE _ rfl OE.out (some ⟨f0, 0, none⟩) 4 4 [x0, x1, x2, x3] rfl (Sl.of_own OF.out) (by omega) (by rw [← HBv.out]; exact HQ.out.size) ?_
      intro sO cO u8 hown hk
      rw [← BV_append] at hown
      have hk2 := HQ.out.pushed OE.out (by rw [HBv.out]; exact Nat.le_refl _) hk
      have hHf : Four u8 bx x0 x1 x2 x3 := HF0.out.quiet hk2
      refine hK _ _ (Or.inr ?_) (fun hHeld => ?_)
      · exact hHf
      clear hK K hHf
      replace hHeld := hHeld.resolve_left (by decide)
      try simp only [Act.put, List.setIfInBounds_toArray, List.set_cons_zero, List.set_cons_succ]
      replace HQ := Lib.hid hk2
      have OY := Lib.hid hown
      clear hown hk hk2 OE OF
      refine z_one 13 rfl (by kernel_rfl) (by rfl) (fun K hK => ?_)
      simp only [List.getElem_toArray, List.getElem_cons_zero, List.getElem_cons_succ]
      go_simp
      refine hK _ _ (Or.inl rfl) (fun _ => ?_)
      clear hK K
      try simp only [Act.put, List.setIfInBounds_toArray, List.set_cons_zero, List.set_cons_succ]
      refine z_done (by kernel_rfl) ?_ _
      have HFW := Lib.hid hHeld
      have HKW := Lib.hid (HK2.out.quiet HQ.out)
      clear HQ HK2 HF0 S2 hHeld
      have SO := Lib.hid (Sl.of_own OY.out)
      have HE1 := Lib.hid (ends_last q x0 x1 x2 x3 (by rw [HQL.out]; exact HN.out.1) (by rw [HQL.out]; exact HN.out.2))
      have HE2 := Lib.hid (ends_last [9, 9, 9, 9] x0 x1 x2 x3 (by decide) (by decide))
      clear OY
      obtain ⟨f0, f1, f2, f3⟩ := HFW.out.quiet ((Keeps.refl (fun _ => False) u8).alloc (.cells #[.int .u8 9, .int .u8 9, .int .u8 9, .int .u8 9] 5))
      go_wp2_with (at_builtin; refine wpList_appB rfl _ _ rfl u8.heap.size (some ⟨u8.heap.size, 0, none⟩) 4 4 _ rfl ((owns_lit u8 [9, 9, 9, 9] 4 rfl (by omega)).alloc _) (some ⟨u8.heap.size + 1, 0, none⟩) 4 4 [x0, x1, x2, x3] rfl (lies_lit2 u8 [9, 9, 9, 9] [x0, x1, x2, x3] 4 rfl (by omega)) (by omega) (by simp; omega) ?_; intro s8 c8 w8 hown hk; have HO := Lib.hid (And.intro hown hk); have HF8 := Lib.hid (HFW.out.quiet ((((Keeps.refl (fun _ => False) u8).alloc _).alloc _).trans hk (fun k hk e => by simp only [Option.some.injEq, Addr.mk.injEq, and_true] at e; omega))); clear f0 f1 f2 f3; obtain ⟨f0, f1, f2, f3⟩ := HF8.out)
      obtain ⟨hown, hk⟩ := HO.out
      rw [← BV_append] at hown
      have S8 := Lib.hid (Sl.of_own hown)
      replace SO := Lib.hid (SO.out.quiet ((((Keeps.refl (fun _ => False) u8).alloc _).alloc _).trans hk (fun k hk e => by simp only [Option.some.injEq, Addr.mk.injEq, and_true] at e; omega)))
      replace HKW := Lib.hid (HKW.out.quiet ((((Keeps.refl (fun _ => False) u8).alloc _).alloc _).trans hk (fun k hk e => by simp only [Option.some.injEq, Addr.mk.injEq, and_true] at e; omega)))
      clear hown hk HO HFW HF8
      have b0 := x0.toNat_lt
      have b1 := x1.toNat_lt
      have b2 := x2.toNat_lt
      have b3 := x3.toNat_lt
      have m0 : IntKind.u64.wrap (x0.toNat : Int) = (x0.toNat : Int) := wrap_nat _ _ rfl (by omega)
      have m1 : IntKind.u64.wrap (x1.toNat : Int) = (x1.toNat : Int) := wrap_nat _ _ rfl (by omega)
      have m2 : IntKind.u64.wrap (x2.toNat : Int) = (x2.toNat : Int) := wrap_nat _ _ rfl (by omega)
      have m3 : IntKind.u64.wrap (x3.toNat : Int) = (x3.toNat : Int) := wrap_nat _ _ rfl (by omega)
      obtain ⟨X, hX⟩ : ∃ X, hof sCut [x0.toNat, x1.toNat, x2.toNat, x3.toNat] = X := ⟨_, rfl⟩
      rw [hX] at HE1 HE2
      have HXX := Lib.hid hX
      have S4 := Lib.hid (lies_four w8 x0.toNat x1.toNat x2.toNat x3.toNat (0, 0))
      clear hX
      go_wp2_with fail
      rw [m0, m1, m2, m3]
      refine (of_any ⟨#[99, 117, 116]⟩ _ 4 4 [x0.toNat, x1.toNat, x2.toNat, x3.toNat] _ (by decide) (by omega) S4.out (by unfold U64; simp; omega)).mono ?_
      rw [show hof (⟨#[99, 117, 116]⟩ : ByteArray).data.toList [x0.toNat, x1.toNat, x2.toNat, x3.toNat] = X from HXX.out]
      rintro e w9 ⟨rfl, hk0⟩
      have hk : Keeps (fun _ => False) w8 w9 := ((Keeps.refl _ w8).alloc _).quiet hk0
      replace HKW := Lib.hid (HKW.out.quiet hk)
      replace SO := Lib.hid (SO.out.quiet hk)
      replace S8 := Lib.hid (S8.out.quiet hk)
      have d1 : (X : Int).tmod 8 = (X : Int) % 8 := Int.tmod_eq_emod_of_nonneg (by omega)
      have d2 : ((X : Int) % 8 == 0) = (X % 8 == 0) := by
        rw [Bool.eq_iff_iff]; simp; omega
      clear hk hk0 f0 f1 f2 f3 m0 m1 m2 m3 b0 b1 b2 b3 S4 HXX
      have HT1 := Lib.hid (ends_any sO (nq + 4) cO (q ++ [x0, x1, x2, x3]) w9 SO.out)
      rw [HE1.out] at HT1
      have HV : Hid (((X : Int) % 8 == 0) = (X % 8 == 0)) := d2
      generalize hv : (X % 8 == 0) = v at *
      go_wp2_with fail
      refine HT1.out.mono ?_
      rintro e w10 ⟨rfl, hk⟩
      replace HKW := Lib.hid (HKW.out.quiet hk)
      replace S8 := Lib.hid (S8.out.quiet hk)
      clear hk HT1 SO
      have HT2 := Lib.hid (ends_any s8 8 c8 ([9, 9, 9, 9] ++ [x0, x1, x2, x3]) w10 S8.out)
      rw [HE2.out] at HT2
      have e1 : (v == v) = true := by simp
      try simp only [hv] at HT2
      go_wp2_with fail
      refine HT2.out.mono ?_
      rintro e w11 ⟨rfl, hk⟩
      replace HKW := Lib.hid (HKW.out.quiet hk)
      clear hk HT2
      go_wp2_with fail
      refine (lives_any w11).mono ?_
      rintro e w12 ⟨rfl, hk⟩
      replace HKW := Lib.hid (HKW.out.quiet hk)
      clear hk
      go_wp2
      go_ret
      exact ⟨rfl, HKW.out⟩
  · skip
    simp only [List.getElem_toArray, List.getElem_cons_zero, List.getElem_cons_succ]
    obtain ⟨f0_, f1_, f2_, f3_⟩ := hHeld
    have hHeld : Four v0 bx x0 x1 x2 x3 := ⟨f0_, f1_, f2_, f3_⟩
    clear f0_ f1_ f2_ f3_
    go_simp
    have hk : Keeps (fun _ => False) v0 (v0.alloc (.cells (BV [x0, x1, x2, x3]).toArray 5)) := (Keeps.refl _ v0).alloc _
    have hown : (v0.alloc (.cells (BV [x0, x1, x2, x3]).toArray 5)).ownsRow B 5 1 (.slice (some ⟨v0.heap.size, 0, none⟩) 4 4) 4 (BV [x0, x1, x2, x3]) := own_base (owns_lit v0 [x0, x1, x2, x3] 4 rfl (by omega)) (fun k e => by have := HQ.out.size; have := HBv.out; simp [Value.ownBlock] at e; omega)
    refine hK _ _ (Or.inr ?_) (fun hHeld => ?_)
    · exact hHeld.quiet hk
    clear hK K
    replace hHeld := hHeld.resolve_left (by decide)
    try simp only [Act.put, List.setIfInBounds_toArray, List.set_cons_zero, List.set_cons_succ]
    change wpAnyZ _ _ _ _ _ _ _ _ _ (v0.alloc (.cells (BV [x0, x1, x2, x3]).toArray 5))
    obtain ⟨f0, hf0⟩ : ∃ g, v0.heap.size = g := ⟨_, rfl⟩
    obtain ⟨u10, hnw⟩ : ∃ W, v0.alloc (.cells (BV [x0, x1, x2, x3]).toArray 5) = W := ⟨_, rfl⟩
    replace hHeld : Four (v0.alloc (.cells (BV [x0, x1, x2, x3]).toArray 5)) bx x0 x1 x2 x3 := hHeld
    rw [hf0] at hown ⊢
    rw [hnw] at hown hk hHeld ⊢
    replace HQ := Lib.hid (HQ.out.quiet hk)
    have OF := Lib.hid hown
    clear hown hk hnw hf0
    refine z_one 0 rfl (by kernel_rfl) (by rfl) (fun K hK => ?_)
    simp only [List.getElem_toArray, List.getElem_cons_zero]
    go_simp
    have hk : Keeps (fun _ => False) u10 (u10.alloc (.cells #[] 5)) := (Keeps.refl _ u10).alloc _
    have hown : (u10.alloc (.cells #[] 5)).ownsRow B 5 1 (.slice (some ⟨u10.heap.size, 0, none⟩) 0 0) 0 [] := World.ownsRow_made (cap := 0) u10 #[] (by rw [← HBv.out]; exact HQ.out.size) (by decide) rfl
    refine hK _ _ (Or.inr ?_) (fun hHeld => ?_)
    · exact hHeld.quiet hk
    clear hK K
    replace hHeld := hHeld.resolve_left (by decide)
    try simp only [Act.put, List.setIfInBounds_toArray, List.set_cons_zero, List.set_cons_succ]
    obtain ⟨e0, he0⟩ : ∃ g, u10.heap.size = g := ⟨_, rfl⟩
    obtain ⟨u11, hnw⟩ : ∃ W, u10.alloc (.cells #[] 5) = W := ⟨_, rfl⟩
    rw [he0] at hown ⊢
    rw [hnw] at hown hk hHeld ⊢
    replace HQ := Lib.hid (HQ.out.quiet hk)
    have HEF := Lib.hid (show e0 ≠ f0 by have := (own_lt OF.out rfl).2; omega)
    replace OF := Lib.hid (own_keep OF.out hk (fun _ _ h => h))
    have OE := Lib.hid hown
    clear hown hk hnw he0
    refine z_one 2 rfl (by kernel_rfl) (by rfl) (fun K hK => ?_)
    simp only [List.getElem_toArray, List.getElem_cons_zero, List.getElem_cons_succ]
    refine wp_appB (.tmp 13) (.tmp 14) rfl B (some ⟨e0, 0, none⟩) 0 0 [] rfl OE.out s2 nq c2 q rfl (S2.out.quiet HQ.out) (by omega) (by rw [← HBv.out]; exact HQ.out.size) ?_
    intro sE cE u12 hown hk
    rw [List.nil_append, Nat.zero_add] at hown
    rw [Nat.zero_add]
    have hk2 := HQ.out.pushed OE.out (by rw [HBv.out]; exact Nat.le_refl _) hk
    have hHf : Four u12 bx x0 x1 x2 x3 := HF0.out.quiet hk2
    refine hK _ _ (Or.inr ?_) (fun hHeld => ?_)
    · exact hHf
    clear hK K hHf
    replace hHeld := hHeld.resolve_left (by decide)
    try simp only [Act.put, List.setIfInBounds_toArray, List.set_cons_zero, List.set_cons_succ]
    replace OF := Lib.hid (own_keep OF.out hk (fun k e h => HEF.out (by simp [Value.ownBlock] at e h; omega)))
    replace HQ := Lib.hid hk2
    replace OE := Lib.hid hown
    clear hown hk hk2
    refine z_one 12 rfl (by kernel_rfl) (by rfl) (fun K hK => ?_)
    simp only [List.getElem_toArray, List.getElem_cons_zero, List.getElem_cons_succ]
    refine wp_appB (.tmp 15) (.tmp 24) rfl B sE nq cE _ rfl OE.out (some ⟨f0, 0, none⟩) 4 4 [x0, x1, x2, x3] rfl (Sl.of_own OF.out) (by omega) (by rw [← HBv.out]; exact HQ.out.size) ?_
    intro sO cO u13 hown hk
    rw [← BV_append] at hown
    have hk2 := HQ.out.pushed OE.out (by rw [HBv.out]; exact Nat.le_refl _) hk
    have hHf : Four u13 bx x0 x1 x2 x3 := HF0.out.quiet hk2
    refine hK _ _ (Or.inr ?_) (fun hHeld => ?_)
    · exact hHf
    clear hK K hHf
    replace hHeld := hHeld.resolve_left (by decide)
    try simp only [Act.put, List.setIfInBounds_toArray, List.set_cons_zero, List.set_cons_succ]
    replace HQ := Lib.hid hk2
    have OY := Lib.hid hown
    clear hown hk hk2 OE OF
    refine z_one 13 rfl (by kernel_rfl) (by rfl) (fun K hK => ?_)
    simp only [List.getElem_toArray, List.getElem_cons_zero, List.getElem_cons_succ]
    go_simp
    refine hK _ _ (Or.inl rfl) (fun _ => ?_)
    clear hK K
    try simp only [Act.put, List.setIfInBounds_toArray, List.set_cons_zero, List.set_cons_succ]
    refine z_done (by kernel_rfl) ?_ _
    have HFW := Lib.hid hHeld
    have HKW := Lib.hid (HK2.out.quiet HQ.out)
    clear HQ HK2 HF0 S2 hHeld
    have SO := Lib.hid (Sl.of_own OY.out)
    have HE1 := Lib.hid (ends_last q x0 x1 x2 x3 (by rw [HQL.out]; exact HN.out.1) (by rw [HQL.out]; exact HN.out.2))
    have HE2 := Lib.hid (ends_last [9, 9, 9, 9] x0 x1 x2 x3 (by decide) (by decide))
    clear OY
    obtain ⟨f0, f1, f2, f3⟩ := HFW.out.quiet ((Keeps.refl (fun _ => False) u13).alloc (.cells #[.int .u8 9, .int .u8 9, .int .u8 9, .int .u8 9] 5))
    go_wp2_with (at_builtin; refine wpList_appB rfl _ _ rfl u13.heap.size (some ⟨u13.heap.size, 0, none⟩) 4 4 _ rfl ((owns_lit u13 [9, 9, 9, 9] 4 rfl (by omega)).alloc _) (some ⟨u13.heap.size + 1, 0, none⟩) 4 4 [x0, x1, x2, x3] rfl (lies_lit2 u13 [9, 9, 9, 9] [x0, x1, x2, x3] 4 rfl (by omega)) (by omega) (by simp; omega) ?_; intro s8 c8 w8 hown hk; have HO := Lib.hid (And.intro hown hk); have HF8 := Lib.hid (HFW.out.quiet ((((Keeps.refl (fun _ => False) u13).alloc _).alloc _).trans hk (fun k hk e => by simp only [Option.some.injEq, Addr.mk.injEq, and_true] at e; omega))); clear f0 f1 f2 f3; obtain ⟨f0, f1, f2, f3⟩ := HF8.out)
    obtain ⟨hown, hk⟩ := HO.out
    rw [← BV_append] at hown
    have S8 := Lib.hid (Sl.of_own hown)
    replace SO := Lib.hid (SO.out.quiet ((((Keeps.refl (fun _ => False) u13).alloc _).alloc _).trans hk (fun k hk e => by simp only [Option.some.injEq, Addr.mk.injEq, and_true] at e; omega)))
    replace HKW := Lib.hid (HKW.out.quiet ((((Keeps.refl (fun _ => False) u13).alloc _).alloc _).trans hk (fun k hk e => by simp only [Option.some.injEq, Addr.mk.injEq, and_true] at e; omega)))
    clear hown hk HO HFW HF8
    have b0 := x0.toNat_lt
    have b1 := x1.toNat_lt
    have b2 := x2.toNat_lt
    have b3 := x3.toNat_lt
    have m0 : IntKind.u64.wrap (x0.toNat : Int) = (x0.toNat : Int) := wrap_nat _ _ rfl (by omega)
    have m1 : IntKind.u64.wrap (x1.toNat : Int) = (x1.toNat : Int) := wrap_nat _ _ rfl (by omega)
    have m2 : IntKind.u64.wrap (x2.toNat : Int) = (x2.toNat : Int) := wrap_nat _ _ rfl (by omega)
    have m3 : IntKind.u64.wrap (x3.toNat : Int) = (x3.toNat : Int) := wrap_nat _ _ rfl (by omega)
    obtain ⟨X, hX⟩ : ∃ X, hof sCut [x0.toNat, x1.toNat, x2.toNat, x3.toNat] = X := ⟨_, rfl⟩
    rw [hX] at HE1 HE2
    have HXX := Lib.hid hX
    have S4 := Lib.hid (lies_four w8 x0.toNat x1.toNat x2.toNat x3.toNat (0, 0))
    clear hX
    go_wp2_with fail
    rw [m0, m1, m2, m3]
    refine (of_any ⟨#[99, 117, 116]⟩ _ 4 4 [x0.toNat, x1.toNat, x2.toNat, x3.toNat] _ (by decide) (by omega) S4.out (by unfold U64; simp; omega)).mono ?_
    rw [show hof (⟨#[99, 117, 116]⟩ : ByteArray).data.toList [x0.toNat, x1.toNat, x2.toNat, x3.toNat] = X from HXX.out]
    rintro e w9 ⟨rfl, hk0⟩
    have hk : Keeps (fun _ => False) w8 w9 := ((Keeps.refl _ w8).alloc _).quiet hk0
    replace HKW := Lib.hid (HKW.out.quiet hk)
    replace SO := Lib.hid (SO.out.quiet hk)
    replace S8 := Lib.hid (S8.out.quiet hk)
    have d1 : (X : Int).tmod 8 = (X : Int) % 8 := Int.tmod_eq_emod_of_nonneg (by omega)
    have d2 : ((X : Int) % 8 == 0) = (X % 8 == 0) := by
      rw [Bool.eq_iff_iff]; simp; omega
    clear hk hk0 f0 f1 f2 f3 m0 m1 m2 m3 b0 b1 b2 b3 S4 HXX
    have HT1 := Lib.hid (ends_any sO (nq + 4) cO (q ++ [x0, x1, x2, x3]) w9 SO.out)
    rw [HE1.out] at HT1
    have HV : Hid (((X : Int) % 8 == 0) = (X % 8 == 0)) := d2
    generalize hv : (X % 8 == 0) = v at *
    go_wp2_with fail
    refine HT1.out.mono ?_
    rintro e w10 ⟨rfl, hk⟩
    replace HKW := Lib.hid (HKW.out.quiet hk)
    replace S8 := Lib.hid (S8.out.quiet hk)
    clear hk HT1 SO
    have HT2 := Lib.hid (ends_any s8 8 c8 ([9, 9, 9, 9] ++ [x0, x1, x2, x3]) w10 S8.out)
    rw [HE2.out] at HT2
    have e1 : (v == v) = true := by simp
    try simp only [hv] at HT2
    go_wp2_with fail
    refine HT2.out.mono ?_
    rintro e w11 ⟨rfl, hk⟩
    replace HKW := Lib.hid (HKW.out.quiet hk)
    clear hk HT2
    go_wp2_with fail
    refine (lives_any w11).mono ?_
    rintro e w12 ⟨rfl, hk⟩
    replace HKW := Lib.hid (HKW.out.quiet hk)
    clear hk
    go_wp2
    go_ret
    exact ⟨rfl, HKW.out⟩
end Go.Proofs.Ytllpeenjfjobaaa
