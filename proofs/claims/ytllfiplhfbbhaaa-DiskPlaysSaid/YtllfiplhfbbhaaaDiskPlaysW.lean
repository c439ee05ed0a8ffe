/-
  The walk of the law DiskPlays: it returns true, and nothing that was there has turned. Conditions: the arguments are as Go has them.
-/
import Derived.Test.YtllfiplhfbbhaaaRefWrite
namespace Go.Proofs.Ytllfiplhfbbhaaa
open Go.RowKit
attribute [local go_sem ↓] Go.wp_at_zero Go.wp_at_succ

theorem RefAt.shape {w : World} {B : Nat} {v : Array Value} {D : DS} (h : RefAt w B v D) : ∃ sn cn ss ls cs sa la ca sb cb, v = #[.slice sn D.now.length cn, .slice ss ls cs, .slice sa la ca, .slice sb D.lo.length cb, .bool D.cr] ∧ w.ownsRow B 5 1 (.slice sn D.now.length cn) D.now.length (BV D.now) := by
  obtain ⟨sn, cn, ss, cs, sa, ca, sb, cb, rfl, h1, h2, h3, h4⟩ := h.rows
  exact ⟨sn, cn, ss, _, cs, sa, _, ca, sb, cb, rfl, h1⟩
theorem ne_of_box {w : World} {base pc n c m : Nat} {e t : TypeId} {sa : Option Addr} {xs : List Value} {cs : Array Value} {size : Nat} (h : w.ownsRow base e size (.slice sa n c) m xs) (hb : w.heap[pc]? = some (.cells cs t (0, 0))) (hne : t ≠ e) : ∀ j, Value.ownBlock (.slice sa n c) = some j → ¬ j = pc := by
  intro j e'
  rcases own_addr h with ⟨rfl, _⟩ | ⟨g, rfl⟩
  · simp [Value.ownBlock] at e'
  · simp [Value.ownBlock] at e'
    subst e'
    exact row_ne hb h hne rfl
theorem RefAt.box {w : World} {B pc : Nat} {v cs : Array Value} {D : DS} (h : RefAt w B v D) (hb : w.heap[pc]? = some (.cells cs 29 (0, 0))) : RF (fun j => ¬ j = pc) v := by
  obtain ⟨sn, cn, ss, cs, sa, ca, sb, cb, rfl, h1, h2, h3, h4⟩ := h.rows
  exact RF.five (ne_of_box h1 hb (by decide)) (ne_of_box h2 hb (by decide)) (ne_of_box h3 hb (by decide)) (ne_of_box h4 hb (by decide))
theorem RefAt.opened {w : World} {B : Nat} {a b c d : Value} {x : Bool} {D : DS} {m : Int} (h : RefAt w B #[a, b, c, d, .bool x] (D.crash m)) : RefAt w B #[a, b, c, d, .bool false] (D.crash m).opened := by
  obtain ⟨sn, cn, ss, cs, sa, ca, sb, cb, e, h1, h2, h3, h4⟩ := h.rows
  simp only [Array.mk.injEq, List.cons.injEq, and_true] at e
  obtain ⟨rfl, rfl, rfl, rfl, _⟩ := e
  exact ⟨sn, cn, ss, cs, sa, ca, sb, cb, rfl, h1, h2, h3, h4⟩

theorem five_set {w : World} {pc : Nat} {a0 a1 a2 a3 a4 : Value} {t : TypeId} (h : w.heap[pc]? = some (.cells #[a0, a1, a2, a3, a4] t (0, 0))) (b0 b1 b2 b3 b4 : Value) :
    (((((w.setCell ⟨pc, 0, none⟩ b0).setCell ⟨pc, 1, none⟩ b1).setCell ⟨pc, 2, none⟩ b2).setCell ⟨pc, 3, none⟩ b3).setCell ⟨pc, 4, none⟩ b4).heap[pc]? = some (.cells #[b0, b1, b2, b3, b4] t (0, 0)) := by
  rw [heap_setCell_at (heap_setCell_at (heap_setCell_at (heap_setCell_at (heap_setCell_at h _ _) _ _) _ _) _ _)]; rfl
theorem five_keep {w : World} {pc : Nat} (b0 b1 b2 b3 b4 : Value) : Keeps (fun j => j = pc) w (((((w.setCell ⟨pc, 0, none⟩ b0).setCell ⟨pc, 1, none⟩ b1).setCell ⟨pc, 2, none⟩ b2).setCell ⟨pc, 3, none⟩ b3).setCell ⟨pc, 4, none⟩ b4) :=
  (((((Keeps.refl (fun j => j = pc) w).setCell (p := ⟨pc, 0, none⟩) (fun _ => rfl) _).setCell (p := ⟨pc, 1, none⟩) (fun _ => rfl) _).setCell (p := ⟨pc, 2, none⟩) (fun _ => rfl) _).setCell (p := ⟨pc, 3, none⟩) (fun _ => rfl) _).setCell (p := ⟨pc, 4, none⟩) (fun _ => rfl) _

/-- What holds in each round: the disk D, and behind pc the reference's R. -/
structure PlSt (w wr : World) (pc B1 B2 : Nat) (acts : Value) (rows : List ARow) (p : Nat) (D : DS) (F : Nat → Prop) (v : Array Value) (R : DS) : Prop where
  disk : Disk wr p D F
  blk : wr.heap[pc]? = some (.cells v 29 (0, 0))
  ref : RefAt wr 0 v R
  ap : RF (fun j => ¬ F j) v
  at_ : ActsAt wr B1 acts rows
  keep : Keeps (fun _ => False) w wr
  own : ∀ j, F j → w.heap.size ≤ j ∧ (j < B1 ∨ B2 ≤ j) ∧ j ≠ pc
  hB : B2 ≤ wr.heap.size
  pcw : w.heap.size ≤ pc
  pcb : pc < B1
  lt1 : ∀ j, acts.ownBlock = some j → j < B2
  lt2 : ∀ r ∈ rows, ∀ j, Value.ownBlock (.slice r.sa r.a.b.length r.cap) = some j → j < B2

section
variable {w wr w' : World} {pc B1 B2 : Nat} {acts : Value} {rows : List ARow} {p q : Nat} {D D' R R' : DS} {F F' : Nat → Prop} {v v' : Array Value}
theorem PlSt.quiet (h : PlSt w wr pc B1 B2 acts rows p D F v R) (hk : Keeps (fun _ => False) wr w') : PlSt w w' pc B1 B2 acts rows p D F v R :=
  { h with disk := h.disk.keep hk (fun _ _ h => h), blk := (hk.block pc (lt_of_heap h.blk) (fun h => h)).trans h.blk, ref := h.ref.keep hk (fun _ _ _ h => h), at_ := h.at_.keep hk (fun _ _ _ h => h), keep := h.keep.trans hk (fun _ _ h => h), hB := Nat.le_trans h.hB hk.size }
theorem PlSt.store {w3 W : World} (h : PlSt w wr pc B1 B2 acts rows p D F v R) (hr : RefAt w3 0 v' R') (hk : Keeps (fun _ => False) wr w3) (hg : RGrow wr v v') (hW : Keeps (fun j => j = pc) w3 W) (hb : W.heap[pc]? = some (.cells v' 29 (0, 0))) :
    PlSt w W pc B1 B2 acts rows p D F v' R' := by
  have h3 := h.quiet hk
  exact { h3 with
    disk := h3.disk.keep hW (fun k hf e => (h.own k hf).2.2 e), blk := hb, ref := hr.keep' hW (hr.box h3.blk), ap := hg _ h.ap (fun j hj hf => by have := h.disk.foot_lt j hf; omega),
    at_ := ⟨own_keep h3.at_.row hW (fun j e e' => by have := (h3.at_.row.lt j e).1; have := h.pcb; omega), fun r hr => own_keep (h3.at_.each r hr) hW (fun j e e' => by have := ((h3.at_.each r hr).lt j e).1; have := h.pcb; omega)⟩,
    keep := h3.keep.trans hW (fun j hj e => by have := h.pcw; omega), hB := Nat.le_trans h3.hB hW.size }
theorem PlSt.does (h : PlSt w wr pc B1 B2 acts rows p D F v R) (hd : Disk w' q D' F') (hk : Keeps F wr w') (hf : ∀ j, F' j → F j ∨ wr.heap.size ≤ j) : PlSt w w' pc B1 B2 acts rows q D' F' v R := by
  have hpc := lt_of_heap h.blk
  refine ⟨hd, (hk.block pc hpc (fun hf => (h.own pc hf).2.2 rfl)).trans h.blk, h.ref.keep' hk h.ap, ?_, ⟨?_, ?_⟩, ?_, ?_, Nat.le_trans h.hB hk.size, h.pcw, h.pcb, h.lt1, h.lt2⟩
  · intro s hs j e hf'
    have h2 := (h.ref.foot s hs j e).2
    rcases hf j hf' with h1 | h1
    · exact h.ap s hs j e h1
    · omega
  · exact own_keep h.at_.row hk (fun j e hf => by have := (h.at_.row.lt j e).1; have := h.lt1 j e; have := (h.own j hf).2.1; omega)
  · intro x hx
    exact own_keep (h.at_.each x hx) hk (fun j e hf => by have := ((h.at_.each x hx).lt j e).1; have := h.lt2 x hx j e; have := (h.own j hf).2.1; omega)
  · exact h.keep.trans hk (fun j hj hf => by have := (h.own j hf).1; omega)
  · intro j hj
    rcases hf j hj with h1 | h1
    · exact h.own j h1
    · have := h.keep.size; have := h.hB
      exact ⟨by omega, Or.inr (by omega), by omega⟩
theorem PlSt.row (h : PlSt w wr pc B1 B2 acts rows p D F v R) {r : ARow} (hr : r ∈ rows) : Row wr (.slice r.sa r.a.b.length r.cap) r.a.b.length r.a.b F :=
  ⟨own_base (h.at_.each r hr) (fun _ _ => Nat.zero_le _), fun k e hf => by have h1 := ((h.at_.each r hr).lt k e).1; have h2 := h.lt2 r hr k e; have h3 := (h.own k hf).2.1; omega⟩
end

def PlRel (w : World) (pc B1 B2 : Nat) (acts : Value) (rows : List ARow) (d i_ : Value) (wr : World) : Prop :=
  ∃ (k p : Nat) (F : Nat → Prop) (v : Array Value), k ≤ rows.length ∧ i_ = .int .i64 k ∧ d = .pointer (some ⟨p, 0, none⟩) ∧ PlSt w wr pc B1 B2 acts rows p (playD ((rows.map ARow.a).take k)) F v (playD ((rows.map ARow.a).take k))
theorem plnext {w w' : World} {pc B1 B2 : Nat} {acts : Value} {rows : List ARow} {k q : Nat} {F' : Nat → Prop} {v : Array Value} {r : ARow} (hr : rows[k]? = some r)
    (h : PlSt w w' pc B1 B2 acts rows q ((playD ((rows.map ARow.a).take k)).act r.a).1 F' v ((playD ((rows.map ARow.a).take k)).act r.a).1) : PlRel w pc B1 B2 acts rows (.pointer (some ⟨q, 0, none⟩)) (.int .i64 ((k + 1 : Nat) : Int)) w' := by
  have hkl := (List.getElem?_eq_some_iff.1 hr).1
  refine ⟨k + 1, q, F', v, hkl, rfl, rfl, ?_⟩
  rw [List.take_succ_eq_append_getElem (by simpa using hkl), playD_snoc]
  simp only [List.getElem_map, (List.getElem?_eq_some_iff.1 hr).2]
  exact h
theorem mkAct_at (x : Int) : -2 ≤ (mkAct x).at_ ∧ (mkAct x).at_ ≤ 41 := by
  simp only [mkAct]
  omega

theorem RefAt.zero {w : World} {B : Nat} {v : Array Value} {D : DS} (h : RefAt w B v D) : RefAt w 0 v D := by
  obtain ⟨sn, cn, ss, cs, sa, ca, sb, cb, rfl, h1, h2, h3, h4⟩ := h.rows
  exact ⟨sn, cn, ss, cs, sa, ca, sb, cb, rfl, own_base h1 (fun _ _ => Nat.zero_le _), own_base h2 (fun _ _ => Nat.zero_le _), own_base h3 (fun _ _ => Nat.zero_le _), own_base h4 (fun _ _ => Nat.zero_le _)⟩
theorem ref_str {w : World} {B l0 c0 : Nat} {s0 : Option Addr} {a1 a2 a3 a4 : Value} {D : DS} (h : RefAt w B #[.slice s0 l0 c0, a1, a2, a3, a4] D) : (convert 27 9 (.slice s0 l0 c0)).run Try.prog w = .ok (.string (strOf D.now)) w := by
  obtain ⟨sn, cn, ss, cs, sa, ca, sb, cb, e, h1, h2, h3, h4⟩ := h.rows
  simp only [Array.mk.injEq, List.cons.injEq, Value.slice.injEq, and_true] at e
  obtain ⟨⟨rfl, rfl, rfl⟩, _⟩ := e
  exact run_str h1

set_option maxHeartbeats 8000000 in
set_option maxRecDepth 100000 in
theorem diskPlays_walk (la : Option Addr) (b off len cap : Nat) (zs : List Int) (w : World) (hl : zs.length = len) (hlen : len ≤ 9223372036854775807) (hla : 0 < len → la = some ⟨b, off, none⟩) (hsrc : ∀ j z, zs[j]? = some z → w.cell? ⟨b, off + j, none⟩ = some (.int .i64 z)) (hwf : ∀ z ∈ zs, -9223372036854775808 ≤ z ∧ z ≤ 9223372036854775807) :
    Calls Try.prog 3 #[.slice la len cap] w fun e w' => e = .returned (.bool true) ∧ Below w.heap.size w w' := by
  have HL := Lib.hid (And.intro hl (And.intro hla (And.intro hsrc hwf)))
  clear hl hla hsrc hwf
  go_enter Try.func3, Try.ntmps3
  go_wp2_with fail
  refine (new_ok 40 w (by omega)).mono ?_
  rintro e w1 ⟨p, F, rfl, hd, hkp, hF⟩
  have H1 := Lib.hid (And.intro hd (And.intro hkp hF))
  clear hd hkp hF
  go_wp2_with fail
  refine (refNew_any w1).mono ?_
  rintro e w2 ⟨v, rfl, hr, hk2⟩
  obtain ⟨sn, cn, ss, ls, cs, sx, lx, cx, sb, cb, rfl, _⟩ := hr.shape
  generalize HL0 : (D0 40).now.length = ln at *
  generalize HL1 : (D0 40).lo.length = lb at *
  generalize HL2 : (D0 40).cr = cr at *
  have H2 := Lib.hid (And.intro hr hk2)
  clear hr hk2 HL0 HL1 HL2
  go_wp2_with fail
  obtain ⟨w3, hw3⟩ : ∃ w3, w2.alloc (.cells #[.slice sn ln cn, .slice ss ls cs, .slice sx lx cx, .slice sb lb cb, .bool cr] 29) = w3 := ⟨_, rfl⟩
  have hk3 : Keeps (fun _ => False) w2 w3 := by rw [← hw3]; exact (Keeps.refl _ w2).alloc _
  have hb3 : w3.heap[w2.heap.size]? = some (.cells #[.slice sn ln cn, .slice ss ls cs, .slice sx lx cx, .slice sb lb cb, .bool cr] 29 (0, 0)) := by rw [← hw3]; exact heap_alloc_new w2 _
  have H3 := Lib.hid (And.intro hk3 hb3)
  rw [hw3]
  clear hk3 hb3 hw3
  obtain ⟨pc, hpc⟩ : ∃ pc, w2.heap.size = pc := ⟨_, rfl⟩
  rw [hpc] at H3 ⊢
  have HPC := Lib.hid hpc
  clear hpc
  obtain ⟨hl, hla, hsrc, hwf⟩ := HL.out
  refine (acts_any la b off len cap zs w3 hl hlen hla (fun j z hz => ((H1.out.2.1.trans (H2.out.2.trans H3.out.1 (fun _ _ h => h)) (fun _ _ h => h)).cell (World.block_lt_of_cell? w _ (hsrc j z hz)) (fun h => h)).trans (hsrc j z hz)) hwf).mono ?_
  clear hl hla hsrc hwf
  rintro e w4 ⟨sa, cap', rows, rfl, hrows, hat, hk4⟩
  have H4 := Lib.hid (And.intro hrows (And.intro hat hk4))
  have hrl : rows.length ≤ 20 := by
    have := congrArg List.length hrows
    simp at this
    omega
  clear hrows hat hk4
  obtain ⟨m, hm⟩ : ∃ m, rows.length = m := ⟨_, rfl⟩
  rw [hm]
  rw [hm] at hrl
  have HM := Lib.hid hm
  clear hm
  obtain ⟨B1, hB1⟩ : ∃ B1, w3.heap.size = B1 := ⟨_, rfl⟩
  obtain ⟨B2, hB2⟩ : ∃ B2, w4.heap.size = B2 := ⟨_, rfl⟩
  rw [hB1] at H4
  have HBB := Lib.hid (And.intro hB1 hB2)
  clear hB1 hB2
  go_wp2_with fail
  go_loopw [3, 7] (fun d i wr => PlRel w pc B1 B2 (.slice sa m cap') rows d i wr) (fun _ i _ => m - (intOf i).toNat)
  case atStart =>
    refine ⟨0, p, F, #[.slice sn ln cn, .slice ss ls cs, .slice sx lx cx, .slice sb lb cb, .bool cr], Nat.zero_le _, rfl, rfl, ?_⟩
    have hk14 := H2.out.2.trans (H3.out.1.trans H4.out.2.2 (fun _ _ h => h)) (fun _ _ h => h)
    have hk34 := H3.out.1.trans H4.out.2.2 (fun _ _ h => h)
    have hs1 := H1.out.2.1.size
    have hs2 := H2.out.2.size
    have hs4 := H4.out.2.2.size
    have hs3 := lt_of_heap H3.out.2
    have hpc := HPC.out
    have hBB := HBB.out
    have hat := H4.out.2.1
    rw [HM.out] at hat
    refine ⟨H1.out.1.keep hk14 (fun _ _ h => h), (H4.out.2.2.block pc (lt_of_heap H3.out.2) (fun h => h)).trans H3.out.2, ?_, ?_, hat, H1.out.2.1.trans hk14 (fun _ _ h => h), ?_, by omega, by omega, by omega, ?_, ?_⟩
    · exact RefAt.zero (H2.out.1.keep hk34 (fun _ _ _ h => h))
    · exact H2.out.1.foot.weak (fun j hj hf => by have := H1.out.1.foot_lt j hf; omega)
    · intro j hj
      have h1 := H1.out.2.2 j hj
      have h2 := H1.out.1.foot_lt j hj
      exact ⟨h1, Or.inl (by omega), by omega⟩
    · intro j e
      have := (hat.row.lt j e).2
      omega
    · intro r hr j e
      have := ((hat.each r hr).lt j e).2
      omega
  case round =>
    obtain ⟨k, p', F', v, hk, rfl, rfl, hst⟩ := hrel
    rw [HM.out] at hk
    by_cases hlt : k < m
    · obtain ⟨r, hr⟩ : ∃ r, rows[k]? = some r := ⟨_, List.getElem?_eq_getElem (by rw [HM.out]; exact hlt)⟩
      have hmem : r ∈ rows := List.mem_of_getElem? hr
      obtain ⟨x, hx⟩ : ∃ x, r.a = mkAct x := by
        have : r.a ∈ rows.map ARow.a := List.mem_map_of_mem hmem
        rw [H4.out.1] at this
        obtain ⟨x, _, h⟩ := List.mem_map.1 this
        exact ⟨x, h.symm⟩
      have hx1 := mkAct_at x
      have hx2 := mkAct_len x
      rw [← hx] at hx1 hx2
      clear hx
      obtain ⟨ga, rfl⟩ : ∃ ga, sa = some ⟨ga, 0, none⟩ := by
        rcases own_addr hst.at_.row with ⟨_, h, _⟩ | h
        · omega
        · exact h
      obtain ⟨a0, a1, a2, a3⟩ := AV_at rows k r hr
      have c0 := own_cell hst.at_.row _ _ a0
      have c1 := own_cell hst.at_.row _ _ a1
      have c2 := own_cell hst.at_.row _ _ a2
      have c3 := own_cell hst.at_.row _ _ a3
      clear a0 a1 a2 a3
      have HOK : Hid ((playD ((rows.map ARow.a).take k)).Ok 40 (11 * 20)) := by
        refine Ok_mono (playD_ok _ (fun a ha => ?_)) ?_
        · have := List.mem_of_mem_take ha
          rw [H4.out.1] at this
          obtain ⟨x, _, rfl⟩ := List.mem_map.1 this
          have := mkAct_len x
          omega
        · simp only [List.length_take, List.length_map]; omega
      have HNX : Hid (∀ (w' : World) (q : Nat) (F2 : Nat → Prop) (v : Array Value), PlSt w w' pc B1 B2 (.slice (some ⟨ga, 0, none⟩) m cap') rows q ((playD ((rows.map ARow.a).take k)).act r.a).1 F2 v ((playD ((rows.map ARow.a).take k)).act r.a).1 → PlRel w pc B1 B2 (.slice (some ⟨ga, 0, none⟩) m cap') rows (.pointer (some ⟨q, 0, none⟩)) (.int .i64 ((k + 1 : Nat) : Int)) w') := fun w' q F2 v h => plnext hr h
      have hrow := hst.row hmem
      have HRW0 : Hid (∀ W : World, ActsAt W B1 (.slice (some ⟨ga, 0, none⟩) m cap') rows → W.ownsRow 0 5 1 (.slice r.sa r.a.b.length r.cap) r.a.b.length (BV r.a.b) ∧ ∀ k, r.sa = some ⟨k, 0, none⟩ → ¬ F' k) := fun W h => ⟨own_base (h.each r hmem) (fun _ _ => Nat.zero_le _), fun j e => hrow.ap j (by rw [e]; rfl)⟩
      clear hmem hr
      generalize playD ((rows.map ARow.a).take k) = D at *
      obtain ⟨⟨doo, at_, b, n⟩, rsa, rcap⟩ := r
      dsimp only at c0 c1 c2 c3 HNX hrow hx1 hx2 HRW0
      obtain ⟨hx3, hx4⟩ := hx2
      rw [hx3] at c2 hrow HRW0
      obtain ⟨sn, cn, ss, ls, cs, sx, lx, cx, sb, cb, rfl, hnow⟩ := hst.ref.shape
      rw [HOK.out.len, HOK.out.up] at hst
      obtain ⟨lb, hlb⟩ : ∃ lb, D.lo.length = lb := ⟨_, rfl⟩
      rw [hlb] at hst
      have HLB := Lib.hid hlb
      have HQ : Hid (∀ X : Obj, PlSt w (wr.alloc X) pc B1 B2 (.slice (some ⟨ga, 0, none⟩) m cap') rows p' D F' #[.slice sn 40 cn, .slice ss ls cs, .slice sx lx cx, .slice sb lb cb, .bool false] D) := fun X => hst.quiet ((Keeps.refl _ wr).alloc X)
      have HROW : Hid (∀ X : Obj, Row (wr.alloc X) (.slice rsa n rcap) n b F') := fun X => hrow.quiet ((Keeps.refl _ wr).alloc X)
      have HBL := Lib.hid hx3
      have HPB := Lib.hid (lt_of_heap hst.blk)
      have hne : ¬ wr.heap.size = pc := by have := HPB.out; omega
      have hne' : ¬ pc = wr.heap.size := fun h => hne h.symm
      have r0 : ∀ X : Obj, (wr.alloc X).cell? ⟨pc, 0, none⟩ = some (.slice sn 40 cn) := fun X => cellAt (HQ.out X).blk 0
      have r1 : ∀ X : Obj, (wr.alloc X).cell? ⟨pc, 1, none⟩ = some (.slice ss ls cs) := fun X => cellAt (HQ.out X).blk 1
      have r2 : ∀ X : Obj, (wr.alloc X).cell? ⟨pc, 2, none⟩ = some (.slice sx lx cx) := fun X => cellAt (HQ.out X).blk 2
      have r3 : ∀ X : Obj, (wr.alloc X).cell? ⟨pc, 3, none⟩ = some (.slice sb lb cb) := fun X => cellAt (HQ.out X).blk 3
      have r4 : ∀ X : Obj, (wr.alloc X).cell? ⟨pc, 4, none⟩ = some (.bool false) := fun X => cellAt (HQ.out X).blk 4
      clear hst hnow hlb hrow hx3
      have j1 : (0 : Int) ≤ (k : Int) := by omega
      have j2 : (k : Int) < (m : Int) := by omega
      obtain ⟨b8, hb8⟩ : ∃ b8, wr.heap.size = b8 := ⟨_, rfl⟩
      have HB8 := Lib.hid hb8
      rw [hb8] at hne hne'
      have HRW : Hid (∀ W : World, ActsAt W B1 (.slice (some ⟨ga, 0, none⟩) m cap') rows → W.ownsRow 0 5 1 (.slice rsa n rcap) n (BV b) ∧ ∀ k, rsa = some ⟨k, 0, none⟩ → ¬ F' k) := HRW0
      clear HRW0
      by_cases h4 : doo = 4
      · subst h4
        have HACT : Hid ((D.act ⟨4, at_, b, n⟩).1 = D) := rfl
        by_cases hi : inB at_ n D.now.length = true
        · obtain ⟨q0, rfl, hq⟩ := inB_nat hi
          have HFIT := Lib.hid hq
          have hq40 : q0 + n ≤ 40 := by rw [← HOK.out.len]; exact hq
          clear hi hq
          go_wp2_with fail
          refine (read_ok p' q0 n D F' _ (HQ.out _).disk HOK.out.up HFIT.out (by rw [HOK.out.len]; omega)).mono ?_
          rintro e w5 ⟨g5, c5, rfl, hown, hk⟩
          have H5 := Lib.hid ((HQ.out _).quiet hk)
          have hb5 : w5.heap[b8]? = some (.cells #[.int .i64 4, .int .i64 (q0 : Int), .slice rsa n rcap, .int .i64 n] 34 (0, 0)) := by rw [← HB8.out]; exact (hk.block _ (by simp) (fun h => h)).trans (heap_alloc_new wr _)
          have HR5 := Lib.hid hown
          clear hown hk
          have s0 : w5.cell? ⟨pc, 0, none⟩ = some (.slice sn 40 cn) := cellAt H5.out.blk 0
          have s1 : w5.cell? ⟨pc, 1, none⟩ = some (.slice ss ls cs) := cellAt H5.out.blk 1
          have s2 : w5.cell? ⟨pc, 2, none⟩ = some (.slice sx lx cx) := cellAt H5.out.blk 2
          have s3 : w5.cell? ⟨pc, 3, none⟩ = some (.slice sb lb cb) := cellAt H5.out.blk 3
          have s4 : w5.cell? ⟨pc, 4, none⟩ = some (.bool false) := cellAt H5.out.blk 4
          have u1 : w5.cell? ⟨b8, 1, none⟩ = some (.int .i64 (q0 : Int)) := cellAt hb5 1
          have u3 : w5.cell? ⟨b8, 3, none⟩ = some (.int .i64 n) := cellAt hb5 3
          clear hb5
          go_wp2_with fail
          refine (refRead_ok 0 q0 n D _ _ H5.out.ref HOK.out.up HFIT.out (by rw [HOK.out.len]; omega)).mono ?_
          rintro e w6 ⟨s6, c6, rfl, hown, hk⟩
          have H6 := Lib.hid (H5.out.quiet hk)
          have k1 := run_str (own_keep HR5.out hk (fun _ _ h => h))
          have k2 := run_str hown
          clear hown hk
          go_wp2
          go_roundw
          case rel => exact HNX.out _ _ _ _ (by rw [HACT.out]; exact H6.out)
          case measure => simp [intOf]; omega
        · have hi' : inB at_ n D.now.length = false := by simpa using hi
          have HI := Lib.hid hi'
          clear hi hi'
          go_wp2_with fail
          refine (read_no p' at_ n D F' _ (HQ.out _).disk HOK.out.up HI.out (by rw [HOK.out.len]; omega)).mono ?_
          rintro e w5 ⟨rfl, hk⟩
          have H5 := Lib.hid ((HQ.out _).quiet hk)
          have hb5 : w5.heap[b8]? = some (.cells #[.int .i64 4, .int .i64 at_, .slice rsa n rcap, .int .i64 n] 34 (0, 0)) := by rw [← HB8.out]; exact (hk.block _ (by simp) (fun h => h)).trans (heap_alloc_new wr _)
          clear hk
          have s0 : w5.cell? ⟨pc, 0, none⟩ = some (.slice sn 40 cn) := cellAt H5.out.blk 0
          have s1 : w5.cell? ⟨pc, 1, none⟩ = some (.slice ss ls cs) := cellAt H5.out.blk 1
          have s2 : w5.cell? ⟨pc, 2, none⟩ = some (.slice sx lx cx) := cellAt H5.out.blk 2
          have s3 : w5.cell? ⟨pc, 3, none⟩ = some (.slice sb lb cb) := cellAt H5.out.blk 3
          have s4 : w5.cell? ⟨pc, 4, none⟩ = some (.bool false) := cellAt H5.out.blk 4
          have u1 : w5.cell? ⟨b8, 1, none⟩ = some (.int .i64 at_) := cellAt hb5 1
          have u3 : w5.cell? ⟨b8, 3, none⟩ = some (.int .i64 n) := cellAt hb5 3
          clear hb5
          go_wp2_with fail
          refine (refRead_no 0 at_ n D _ _ H5.out.ref HOK.out.up HI.out (by rw [HOK.out.len]; omega) (by omega)).mono ?_
          rintro e w6 ⟨rfl, hk⟩
          have H6 := Lib.hid (H5.out.quiet hk)
          have k1 : ∀ u : World, (convert 27 9 (.slice none 0 0)).run Try.prog u = .ok (.string (strOf [])) u := fun u => run_str (World.ownsRow_nil u 0 5 1)
          clear hk
          go_wp2
          go_roundw
          case rel => exact HNX.out _ _ _ _ (by rw [HACT.out]; exact H6.out)
          case measure => simp [intOf]; omega
      by_cases h5 : doo = 5
      · subst h5
        clear h4
        have HACT : Hid (D.act ⟨5, at_, b, n⟩ = (D.sync, 0)) := by show _ = _; simp [DS.act]
        go_wp2_with fail
        refine (refSync_any 0 D _ _ (HQ.out _).ref HOK.out.up (by rw [HOK.out.len]; omega) (Nat.zero_le _)).mono ?_
        rintro e w5 ⟨v', rfl, hr, hk, hg⟩
        have hb5 : w5.heap[b8]? = some (.cells #[.int .i64 5, .int .i64 at_, .slice rsa n rcap, .int .i64 n] 34 (0, 0)) := by rw [← HB8.out]; exact (hk.block _ (by simp) (fun h => h)).trans (heap_alloc_new wr _)
        have HON : Hid ((D.sync).Ok 40 (11 * 20 + n)) := by
          have h := act_ok (a := ⟨5, at_, b, n⟩) HOK.out
          rw [HACT.out] at h
          dsimp only at h
          rw [HBL.out] at h
          exact h
        obtain ⟨tn, dn, ts, ms, ds, tx, mx, dx, tb, db, rfl, _⟩ := hr.shape
        rw [HON.out.len, HON.out.up] at hr hg ⊢
        obtain ⟨tl, htl⟩ : ∃ tl, (D.sync).lo.length = tl := ⟨_, rfl⟩
        rw [htl] at hr hg ⊢
        have HTL : Hid ((D.sync).lo.length = tl) := htl
        clear htl
        have hq5 := (HQ.out _).quiet hk
        have hbp : w5.heap[pc]? = _ := hq5.blk
        have HBP := Lib.hid hbp
        have HRK := Lib.hid (And.intro hr (And.intro hk hg))
        have s0 : w5.cell? ⟨pc, 0, none⟩ = some (.slice sn 40 cn) := cellAt hbp 0
        have f0 := freeAt hbp 0
        have s1 : w5.cell? ⟨pc, 1, none⟩ = some (.slice ss ls cs) := cellAt hbp 1
        have f1 := freeAt hbp 1
        have s2 : w5.cell? ⟨pc, 2, none⟩ = some (.slice sx lx cx) := cellAt hbp 2
        have f2 := freeAt hbp 2
        have s3 : w5.cell? ⟨pc, 3, none⟩ = some (.slice sb lb cb) := cellAt hbp 3
        have f3 := freeAt hbp 3
        have s4 : w5.cell? ⟨pc, 4, none⟩ = some (.bool false) := cellAt hbp 4
        have f4 := freeAt hbp 4
        have u0 : w5.cell? ⟨b8, 0, none⟩ = some (.int .i64 5) := cellAt hb5 0
        have u1 : w5.cell? ⟨b8, 1, none⟩ = some (.int .i64 at_) := cellAt hb5 1
        have u2 : w5.cell? ⟨b8, 2, none⟩ = some (.slice rsa n rcap) := cellAt hb5 2
        have u3 : w5.cell? ⟨b8, 3, none⟩ = some (.int .i64 n) := cellAt hb5 3
        clear hb5 hbp hq5 hr hk hg
        go_wp2_with fail
        have HS : Hid (PlSt w (((((w5.setCell ⟨pc, 0, none⟩ (.slice tn 40 dn)).setCell ⟨pc, 1, none⟩ (.slice ts ms ds)).setCell ⟨pc, 2, none⟩ (.slice tx mx dx)).setCell ⟨pc, 3, none⟩ (.slice tb tl db)).setCell ⟨pc, 4, none⟩ (.bool false)) pc B1 B2 (.slice (some ⟨ga, 0, none⟩) m cap') rows p' D F' #[.slice tn 40 dn, .slice ts ms ds, .slice tx mx dx, .slice tb tl db, .bool false] (D.sync)) :=
          (HQ.out _).store HRK.out.1 HRK.out.2.1 HRK.out.2.2 (five_keep _ _ _ _ _) (five_set HBP.out (.slice tn 40 dn) (.slice ts ms ds) (.slice tx mx dx) (.slice tb tl db) (.bool false))
        have HDO := fun hrow hF => does_any p' D F' 40 (11 * 20) ⟨5, at_, b, n⟩ rsa rcap _ HS.out.disk HOK.out (by omega) (by omega) hrow hF
        dsimp only at HDO
        rw [HBL.out] at HDO
        refine (HDO (HRW.out _ HS.out.at_).1 (HRW.out _ HS.out.at_).2).mono ?_
        clear HDO
        rintro e w7 ⟨q, F2, rfl, hd2, hk2, hf2⟩
        rw [HACT.out] at hd2 ⊢
        have H7 := Lib.hid (HS.out.does hd2 hk2 hf2)
        clear hd2 hk2 hf2 HS s0 s1 s2 s3 s4 f0 f1 f2 f3 f4 u0 u1 u2 u3
        go_wp2_with fail
        have H8 := Lib.hid (H7.out.quiet (Keeps.refl _ _).drew)
        have HSTR : Hid (∀ W : World, RefAt W 0 #[.slice tn 40 dn, .slice ts ms ds, .slice tx mx dx, .slice tb tl db, .bool false] (D.sync) → (convert 27 9 (.slice tn 40 dn)).run Try.prog W = .ok (.string (strOf (D.sync).now)) W) := fun W h => ref_str h
        refine z_begin (fun w' => w'.cell? ⟨pc, 0, none⟩ = some (.slice tn 40 dn) ∧ w'.cell? ⟨pc, 3, none⟩ = some (.slice tb tl db) ∧ (convert 27 9 (.slice tn 40 dn)).run Try.prog w' = .ok (.string (strOf (D.sync).now)) w') 20 (by kernel_rfl) (⟨cellAt H8.out.blk 0, cellAt H8.out.blk 3, HSTR.out _ H8.out.ref⟩) (fun hHeld => ?_)
        refine z_take 0 (v := ?_) rfl (by kernel_rfl) (by kernel_rfl) (by kernel_rfl) (by kernel_rfl) (fun _ _ _ h => h) hHeld (by rfl) (fun w hSw => ?_) ?_
        rotate_left
        · obtain ⟨hSw1, hSw2, hSw3⟩ := hSw; simp only [List.getElem_toArray, List.getElem_cons_zero]; go_simp; try rfl
        simp only [Act.put, List.getElem_toArray, List.getElem_cons_zero, List.setIfInBounds_toArray, List.set_cons_zero, List.set_cons_succ]
        refine z_take 3 (v := ?_) rfl (by kernel_rfl) (by kernel_rfl) (by kernel_rfl) (by kernel_rfl) (fun _ _ _ h => h) hHeld (by rfl) (fun w hSw => ?_) ?_
        rotate_left
        · obtain ⟨hSw1, hSw2, hSw3⟩ := hSw; simp only [List.getElem_toArray, List.getElem_cons_zero, List.getElem_cons_succ]; go_simp; try rfl
        simp only [Act.put, List.getElem_toArray, List.getElem_cons_zero, List.getElem_cons_succ, List.setIfInBounds_toArray, List.set_cons_zero, List.set_cons_succ]
        refine z_take 4 (v := ?_) rfl (by kernel_rfl) (by kernel_rfl) (by kernel_rfl) (by kernel_rfl) (fun _ _ _ h => h) hHeld (by rfl) (fun w hSw => ?_) ?_
        rotate_left
        · obtain ⟨hSw1, hSw2, hSw3⟩ := hSw; simp only [List.getElem_toArray, List.getElem_cons_zero, List.getElem_cons_succ]; go_simp; try rfl
        simp only [Act.put, List.getElem_toArray, List.getElem_cons_zero, List.getElem_cons_succ, List.setIfInBounds_toArray, List.set_cons_zero, List.set_cons_succ]
        refine z_take 5 (v := ?_) rfl (by kernel_rfl) (by kernel_rfl) (by kernel_rfl) (by kernel_rfl) (fun _ _ _ h => h) hHeld (by rfl) (fun w hSw => ?_) ?_
        rotate_left
        · obtain ⟨hSw1, hSw2, hSw3⟩ := hSw; simp only [List.getElem_toArray, List.getElem_cons_zero, List.getElem_cons_succ]; go_simp; try rfl
        simp only [Act.put, List.getElem_toArray, List.getElem_cons_zero, List.getElem_cons_succ, List.setIfInBounds_toArray, List.set_cons_zero, List.set_cons_succ]
        refine z_one 1 rfl (by kernel_rfl) (by rfl) (fun K hK => ?_)
        simp only [List.getElem_toArray, List.getElem_cons_zero, List.getElem_cons_succ]
        go_simp
        refine (raw_any q (D.sync) F2 _ H8.out.disk (by rw [HON.out.len]; omega)).mono ?_
        rintro e w8 ⟨g8, c8, rfl, hown, hk⟩
        have H9 := Lib.hid (H8.out.quiet hk)
        have k8 := run_str hown
        clear hown hk
        refine hK _ _ (Or.inr ?_) (fun hHeld => ?_)
        · exact ⟨cellAt H9.out.blk 0, cellAt H9.out.blk 3, HSTR.out _ H9.out.ref⟩
        clear hK K
        replace hHeld := hHeld.resolve_left (by decide)
        try simp only [Act.put, List.setIfInBounds_toArray, List.set_cons_zero, List.set_cons_succ]
        refine z_more (fun w' => w'.cell? ⟨pc, 0, none⟩ = some (.slice tn 40 dn) ∧ w'.cell? ⟨pc, 3, none⟩ = some (.slice tb tl db) ∧ (convert 27 9 (.slice tn 40 dn)).run Try.prog w' = .ok (.string (strOf (D.sync).now)) w' ∧ (convert 27 9 (.slice (some ⟨g8, 0, none⟩) (D.sync).now.length c8)).run Try.prog w' = .ok (.string (strOf (D.sync).now)) w') (fun _ h => ⟨h.1, h.2.1, h.2.2.1⟩) _ _ _ _ ?_
        replace hHeld : w8.cell? ⟨pc, 0, none⟩ = some (.slice tn 40 dn) ∧ w8.cell? ⟨pc, 3, none⟩ = some (.slice tb tl db) ∧ (convert 27 9 (.slice tn 40 dn)).run Try.prog w8 = .ok (.string (strOf (D.sync).now)) w8 ∧ (convert 27 9 (.slice (some ⟨g8, 0, none⟩) (D.sync).now.length c8)).run Try.prog w8 = .ok (.string (strOf (D.sync).now)) w8 := ⟨hHeld.1, hHeld.2.1, hHeld.2.2, k8⟩
        clear k8
        refine z_take 2 (v := ?_) rfl (by kernel_rfl) (by kernel_rfl) (by kernel_rfl) (by kernel_rfl) (fun _ _ _ h => h) hHeld (by rfl) (fun w hSw => ?_) ?_
        rotate_left
        · obtain ⟨hSw1, hSw2, hSw3, hSw4⟩ := hSw; simp only [List.getElem_toArray, List.getElem_cons_zero, List.getElem_cons_succ]; go_simp; try rfl
        simp only [Act.put, List.getElem_toArray, List.getElem_cons_zero, List.getElem_cons_succ, List.setIfInBounds_toArray, List.set_cons_zero, List.set_cons_succ]
        refine z_take 6 (v := ?_) rfl (by kernel_rfl) (by kernel_rfl) (by kernel_rfl) (by kernel_rfl) (fun _ _ _ h => h) hHeld (by rfl) (fun w hSw => ?_) ?_
        rotate_left
        · obtain ⟨hSw1, hSw2, hSw3, hSw4⟩ := hSw; simp only [List.getElem_toArray, List.getElem_cons_zero, List.getElem_cons_succ]; go_simp; try rfl
        simp only [Act.put, List.getElem_toArray, List.getElem_cons_zero, List.getElem_cons_succ, List.setIfInBounds_toArray, List.set_cons_zero, List.set_cons_succ]
        refine z_take 7 (v := ?_) rfl (by kernel_rfl) (by kernel_rfl) (by kernel_rfl) (by kernel_rfl) (fun _ _ _ h => h) hHeld (by rfl) (fun w hSw => ?_) ?_
        rotate_left
        · obtain ⟨hSw1, hSw2, hSw3, hSw4⟩ := hSw; simp only [List.getElem_toArray, List.getElem_cons_zero, List.getElem_cons_succ]; go_simp; try rfl
        simp only [Act.put, List.getElem_toArray, List.getElem_cons_zero, List.getElem_cons_succ, List.setIfInBounds_toArray, List.set_cons_zero, List.set_cons_succ]
        refine z_take 8 (v := ?_) rfl (by kernel_rfl) (by kernel_rfl) (by kernel_rfl) (by kernel_rfl) (fun _ _ _ h => h) hHeld (by rfl) (fun w hSw => ?_) ?_
        rotate_left
        · obtain ⟨hSw1, hSw2, hSw3, hSw4⟩ := hSw; simp only [List.getElem_toArray, List.getElem_cons_zero, List.getElem_cons_succ]; go_simp; try rfl
        simp only [Act.put, List.getElem_toArray, List.getElem_cons_zero, List.getElem_cons_succ, List.setIfInBounds_toArray, List.set_cons_zero, List.set_cons_succ]
        refine z_take 10 (v := ?_) rfl (by kernel_rfl) (by kernel_rfl) (by kernel_rfl) (by kernel_rfl) (fun _ _ _ h => h) hHeld (by rfl) (fun w hSw => ?_) ?_
        rotate_left
        · obtain ⟨hSw1, hSw2, hSw3, hSw4⟩ := hSw; simp only [List.getElem_toArray, List.getElem_cons_zero, List.getElem_cons_succ]; go_simp; try rfl
        simp only [Act.put, List.getElem_toArray, List.getElem_cons_zero, List.getElem_cons_succ, List.setIfInBounds_toArray, List.set_cons_zero, List.set_cons_succ]
        refine z_take 11 (v := ?_) rfl (by kernel_rfl) (by kernel_rfl) (by kernel_rfl) (by kernel_rfl) (fun _ _ _ h => h) hHeld (by rfl) (fun w hSw => ?_) ?_
        rotate_left
        · obtain ⟨hSw1, hSw2, hSw3, hSw4⟩ := hSw; simp only [List.getElem_toArray, List.getElem_cons_zero, List.getElem_cons_succ]; go_simp; try rfl
        simp only [Act.put, List.getElem_toArray, List.getElem_cons_zero, List.getElem_cons_succ, List.setIfInBounds_toArray, List.set_cons_zero, List.set_cons_succ]
        refine z_take 12 (v := ?_) rfl (by kernel_rfl) (by kernel_rfl) (by kernel_rfl) (by kernel_rfl) (fun _ _ _ h => h) hHeld (by rfl) (fun w hSw => ?_) ?_
        rotate_left
        · obtain ⟨hSw1, hSw2, hSw3, hSw4⟩ := hSw; simp only [List.getElem_toArray, List.getElem_cons_zero, List.getElem_cons_succ]; go_simp; try rfl
        simp only [Act.put, List.getElem_toArray, List.getElem_cons_zero, List.getElem_cons_succ, List.setIfInBounds_toArray, List.set_cons_zero, List.set_cons_succ]
        refine z_one 9 rfl (by kernel_rfl) (by rfl) (fun K hK => ?_)
        simp only [List.getElem_toArray, List.getElem_cons_zero, List.getElem_cons_succ]
        go_simp
        refine (loose_any q (D.sync) F2 _ H9.out.disk).mono ?_
        rintro e _ ⟨rfl, rfl⟩
        rw [HTL.out]
        refine hK _ _ (Or.inr ?_) (fun hHeld => ?_)
        · exact hHeld
        clear hK K
        replace hHeld := hHeld.resolve_left (by decide)
        try simp only [Act.put, List.setIfInBounds_toArray, List.set_cons_zero, List.set_cons_succ]
        refine z_take 13 (v := ?_) rfl (by kernel_rfl) (by kernel_rfl) (by kernel_rfl) (by kernel_rfl) (fun _ _ _ h => h) hHeld (by rfl) (fun w hSw => ?_) ?_
        rotate_left
        · obtain ⟨hSw1, hSw2, hSw3, hSw4⟩ := hSw; simp only [List.getElem_toArray, List.getElem_cons_zero, List.getElem_cons_succ]; go_simp; try rfl
        simp only [Act.put, List.getElem_toArray, List.getElem_cons_zero, List.getElem_cons_succ, List.setIfInBounds_toArray, List.set_cons_zero, List.set_cons_succ]
        refine z_take 14 (v := ?_) rfl (by kernel_rfl) (by kernel_rfl) (by kernel_rfl) (by kernel_rfl) (fun _ _ _ h => h) hHeld (by rfl) (fun w hSw => ?_) ?_
        rotate_left
        · obtain ⟨hSw1, hSw2, hSw3, hSw4⟩ := hSw; simp only [List.getElem_toArray, List.getElem_cons_zero, List.getElem_cons_succ]; go_simp; try rfl
        simp only [Act.put, List.getElem_toArray, List.getElem_cons_zero, List.getElem_cons_succ, List.setIfInBounds_toArray, List.set_cons_zero, List.set_cons_succ]
        refine z_take 15 (v := ?_) rfl (by kernel_rfl) (by kernel_rfl) (by kernel_rfl) (by kernel_rfl) (fun _ _ _ h => h) hHeld (by rfl) (fun w hSw => ?_) ?_
        rotate_left
        · obtain ⟨hSw1, hSw2, hSw3, hSw4⟩ := hSw; simp only [List.getElem_toArray, List.getElem_cons_zero, List.getElem_cons_succ]; go_simp; try rfl
        simp only [Act.put, List.getElem_toArray, List.getElem_cons_zero, List.getElem_cons_succ, List.setIfInBounds_toArray, List.set_cons_zero, List.set_cons_succ]
        refine z_take 16 (v := ?_) rfl (by kernel_rfl) (by kernel_rfl) (by kernel_rfl) (by kernel_rfl) (fun _ _ _ h => h) hHeld (by rfl) (fun w hSw => ?_) ?_
        rotate_left
        · obtain ⟨hSw1, hSw2, hSw3, hSw4⟩ := hSw; simp only [List.getElem_toArray, List.getElem_cons_zero, List.getElem_cons_succ]; go_simp; try rfl
        simp only [Act.put, List.getElem_toArray, List.getElem_cons_zero, List.getElem_cons_succ, List.setIfInBounds_toArray, List.set_cons_zero, List.set_cons_succ]
        refine z_one 17 rfl (by kernel_rfl) (by rfl) (fun K hK => ?_)
        simp only [List.getElem_toArray, List.getElem_cons_zero, List.getElem_cons_succ]
        go_simp
        refine (size_any q (D.sync) F2 _ H9.out.disk).mono ?_
        rintro e _ ⟨rfl, rfl⟩
        rw [HON.out.len]
        refine hK _ _ (Or.inr ?_) (fun hHeld => ?_)
        · exact hHeld
        clear hK K
        replace hHeld := hHeld.resolve_left (by decide)
        try simp only [Act.put, List.setIfInBounds_toArray, List.set_cons_zero, List.set_cons_succ]
        refine z_take 18 (v := ?_) rfl (by kernel_rfl) (by kernel_rfl) (by kernel_rfl) (by kernel_rfl) (fun _ _ _ h => h) hHeld (by rfl) (fun w hSw => ?_) ?_
        rotate_left
        · obtain ⟨hSw1, hSw2, hSw3, hSw4⟩ := hSw; simp only [List.getElem_toArray, List.getElem_cons_zero, List.getElem_cons_succ]; go_simp; try rfl
        simp only [Act.put, List.getElem_toArray, List.getElem_cons_zero, List.getElem_cons_succ, List.setIfInBounds_toArray, List.set_cons_zero, List.set_cons_succ]
        refine z_take 19 (v := ?_) rfl (by kernel_rfl) (by kernel_rfl) (by kernel_rfl) (by kernel_rfl) (fun _ _ _ h => h) hHeld (by rfl) (fun w hSw => ?_) ?_
        rotate_left
        · obtain ⟨hSw1, hSw2, hSw3, hSw4⟩ := hSw; simp only [List.getElem_toArray, List.getElem_cons_zero, List.getElem_cons_succ]; go_simp; try rfl
        simp only [Act.put, List.getElem_toArray, List.getElem_cons_zero, List.getElem_cons_succ, List.setIfInBounds_toArray, List.set_cons_zero, List.set_cons_succ]
        refine z_done (by kernel_rfl) ?_ _
        clear hHeld
        go_wp2
        go_roundw
        case rel => exact HNX.out _ _ _ _ (by rw [HACT.out]; exact H9.out)
        case measure => simp [intOf]; omega
      by_cases h6 : doo = 6
      · subst h6
        clear h4 h5
        have HACT : Hid (D.act ⟨6, at_, b, n⟩ = ((D.crash n).opened, 0)) := by show _ = _; simp [DS.act]
        go_wp2_with fail
        refine (refCrash_any 0 n D _ _ (HQ.out _).ref HOK.out.up 40 HOK.out.len HOK.out.sure (by omega) (by omega) (by omega) (by have := HOK.out.lo; omega) HOK.out.at_ (Nat.zero_le _)).mono ?_
        rintro e w5 ⟨v', rfl, hr, hk, hg⟩
        have hb5 : w5.heap[b8]? = some (.cells #[.int .i64 6, .int .i64 at_, .slice rsa n rcap, .int .i64 n] 34 (0, 0)) := by rw [← HB8.out]; exact (hk.block _ (by simp) (fun h => h)).trans (heap_alloc_new wr _)
        have HON : Hid (((D.crash n).opened).Ok 40 (11 * 20 + n)) := by
          have h := act_ok (a := ⟨6, at_, b, n⟩) HOK.out
          rw [HACT.out] at h
          dsimp only at h
          rw [HBL.out] at h
          exact h
        obtain ⟨tn, dn, ts, ms, ds, tx, mx, dx, tb, db, rfl, _⟩ := hr.shape
        rw [show (D.crash n).now.length = 40 from HON.out.len, show (D.crash n).cr = true from rfl] at hr hg ⊢
        obtain ⟨tl, htl⟩ : ∃ tl, (D.crash n).lo.length = tl := ⟨_, rfl⟩
        rw [htl] at hr hg ⊢
        have HTL : Hid (((D.crash n).opened).lo.length = tl) := htl
        clear htl
        have hq5 := (HQ.out _).quiet hk
        have hbp : w5.heap[pc]? = _ := hq5.blk
        have HBP := Lib.hid hbp
        have HRK := Lib.hid (And.intro hr (And.intro hk hg))
        have s0 : w5.cell? ⟨pc, 0, none⟩ = some (.slice sn 40 cn) := cellAt hbp 0
        have f0 := freeAt hbp 0
        have s1 : w5.cell? ⟨pc, 1, none⟩ = some (.slice ss ls cs) := cellAt hbp 1
        have f1 := freeAt hbp 1
        have s2 : w5.cell? ⟨pc, 2, none⟩ = some (.slice sx lx cx) := cellAt hbp 2
        have f2 := freeAt hbp 2
        have s3 : w5.cell? ⟨pc, 3, none⟩ = some (.slice sb lb cb) := cellAt hbp 3
        have f3 := freeAt hbp 3
        have s4 : w5.cell? ⟨pc, 4, none⟩ = some (.bool false) := cellAt hbp 4
        have f4 := freeAt hbp 4
        have u0 : w5.cell? ⟨b8, 0, none⟩ = some (.int .i64 6) := cellAt hb5 0
        have u1 : w5.cell? ⟨b8, 1, none⟩ = some (.int .i64 at_) := cellAt hb5 1
        have u2 : w5.cell? ⟨b8, 2, none⟩ = some (.slice rsa n rcap) := cellAt hb5 2
        have u3 : w5.cell? ⟨b8, 3, none⟩ = some (.int .i64 n) := cellAt hb5 3
        clear hb5 hbp hq5 hr hk hg
        go_wp2_with fail
        have HS : Hid (PlSt w ((((((w5.setCell ⟨pc, 0, none⟩ (.slice tn 40 dn)).setCell ⟨pc, 1, none⟩ (.slice ts ms ds)).setCell ⟨pc, 2, none⟩ (.slice tx mx dx)).setCell ⟨pc, 3, none⟩ (.slice tb tl db)).setCell ⟨pc, 4, none⟩ (.bool true)).setCell ⟨pc, 4, none⟩ (.bool false)) pc B1 B2 (.slice (some ⟨ga, 0, none⟩) m cap') rows p' D F' #[.slice tn 40 dn, .slice ts ms ds, .slice tx mx dx, .slice tb tl db, .bool false] ((D.crash n).opened)) := by
          refine (HQ.out _).store HRK.out.1.opened HRK.out.2.1 ?_ ((five_keep _ _ _ _ _).setCell (p := ⟨pc, 4, none⟩) (fun _ => rfl) _) ?_
          · exact fun G h1 h2 => RF.five (HRK.out.2.2 G h1 h2).at0 (HRK.out.2.2 G h1 h2).at1 (HRK.out.2.2 G h1 h2).at2 (HRK.out.2.2 G h1 h2).at3
          · rw [heap_setCell_at (five_set HBP.out (.slice tn 40 dn) (.slice ts ms ds) (.slice tx mx dx) (.slice tb tl db) (.bool true))]; rfl
        have HDO := fun hrow hF => does_any p' D F' 40 (11 * 20) ⟨6, at_, b, n⟩ rsa rcap _ HS.out.disk HOK.out (by omega) (by omega) hrow hF
        dsimp only at HDO
        rw [HBL.out] at HDO
        refine (HDO (HRW.out _ HS.out.at_).1 (HRW.out _ HS.out.at_).2).mono ?_
        clear HDO
        rintro e w7 ⟨q, F2, rfl, hd2, hk2, hf2⟩
        rw [HACT.out] at hd2 ⊢
        have H7 := Lib.hid (HS.out.does hd2 hk2 hf2)
        clear hd2 hk2 hf2 HS s0 s1 s2 s3 s4 f0 f1 f2 f3 f4 u0 u1 u2 u3
        go_wp2_with fail
        have H8 := Lib.hid (H7.out.quiet (Keeps.refl _ _).drew)
        have HSTR : Hid (∀ W : World, RefAt W 0 #[.slice tn 40 dn, .slice ts ms ds, .slice tx mx dx, .slice tb tl db, .bool false] ((D.crash n).opened) → (convert 27 9 (.slice tn 40 dn)).run Try.prog W = .ok (.string (strOf ((D.crash n).opened).now)) W) := fun W h => ref_str h
        refine z_begin (fun w' => w'.cell? ⟨pc, 0, none⟩ = some (.slice tn 40 dn) ∧ w'.cell? ⟨pc, 3, none⟩ = some (.slice tb tl db) ∧ (convert 27 9 (.slice tn 40 dn)).run Try.prog w' = .ok (.string (strOf ((D.crash n).opened).now)) w') 20 (by kernel_rfl) (⟨cellAt H8.out.blk 0, cellAt H8.out.blk 3, HSTR.out _ H8.out.ref⟩) (fun hHeld => ?_)
        refine z_take 0 (v := ?_) rfl (by kernel_rfl) (by kernel_rfl) (by kernel_rfl) (by kernel_rfl) (fun _ _ _ h => h) hHeld (by rfl) (fun w hSw => ?_) ?_
        rotate_left
        · obtain ⟨hSw1, hSw2, hSw3⟩ := hSw; simp only [List.getElem_toArray, List.getElem_cons_zero]; go_simp; try rfl
        simp only [Act.put, List.getElem_toArray, List.getElem_cons_zero, List.setIfInBounds_toArray, List.set_cons_zero, List.set_cons_succ]
        refine z_take 3 (v := ?_) rfl (by kernel_rfl) (by kernel_rfl) (by kernel_rfl) (by kernel_rfl) (fun _ _ _ h => h) hHeld (by rfl) (fun w hSw => ?_) ?_
        rotate_left
        · obtain ⟨hSw1, hSw2, hSw3⟩ := hSw; simp only [List.getElem_toArray, List.getElem_cons_zero, List.getElem_cons_succ]; go_simp; try rfl
        simp only [Act.put, List.getElem_toArray, List.getElem_cons_zero, List.getElem_cons_succ, List.setIfInBounds_toArray, List.set_cons_zero, List.set_cons_succ]
        refine z_take 4 (v := ?_) rfl (by kernel_rfl) (by kernel_rfl) (by kernel_rfl) (by kernel_rfl) (fun _ _ _ h => h) hHeld (by rfl) (fun w hSw => ?_) ?_
        rotate_left
        · obtain ⟨hSw1, hSw2, hSw3⟩ := hSw; simp only [List.getElem_toArray, List.getElem_cons_zero, List.getElem_cons_succ]; go_simp; try rfl
        simp only [Act.put, List.getElem_toArray, List.getElem_cons_zero, List.getElem_cons_succ, List.setIfInBounds_toArray, List.set_cons_zero, List.set_cons_succ]
        refine z_take 5 (v := ?_) rfl (by kernel_rfl) (by kernel_rfl) (by kernel_rfl) (by kernel_rfl) (fun _ _ _ h => h) hHeld (by rfl) (fun w hSw => ?_) ?_
        rotate_left
        · obtain ⟨hSw1, hSw2, hSw3⟩ := hSw; simp only [List.getElem_toArray, List.getElem_cons_zero, List.getElem_cons_succ]; go_simp; try rfl
        simp only [Act.put, List.getElem_toArray, List.getElem_cons_zero, List.getElem_cons_succ, List.setIfInBounds_toArray, List.set_cons_zero, List.set_cons_succ]
        refine z_one 1 rfl (by kernel_rfl) (by rfl) (fun K hK => ?_)
        simp only [List.getElem_toArray, List.getElem_cons_zero, List.getElem_cons_succ]
        go_simp
        refine (raw_any q ((D.crash n).opened) F2 _ H8.out.disk (by rw [HON.out.len]; omega)).mono ?_
        rintro e w8 ⟨g8, c8, rfl, hown, hk⟩
        have H9 := Lib.hid (H8.out.quiet hk)
        have k8 := run_str hown
        clear hown hk
        refine hK _ _ (Or.inr ?_) (fun hHeld => ?_)
        · exact ⟨cellAt H9.out.blk 0, cellAt H9.out.blk 3, HSTR.out _ H9.out.ref⟩
        clear hK K
        replace hHeld := hHeld.resolve_left (by decide)
        try simp only [Act.put, List.setIfInBounds_toArray, List.set_cons_zero, List.set_cons_succ]
        refine z_more (fun w' => w'.cell? ⟨pc, 0, none⟩ = some (.slice tn 40 dn) ∧ w'.cell? ⟨pc, 3, none⟩ = some (.slice tb tl db) ∧ (convert 27 9 (.slice tn 40 dn)).run Try.prog w' = .ok (.string (strOf ((D.crash n).opened).now)) w' ∧ (convert 27 9 (.slice (some ⟨g8, 0, none⟩) ((D.crash n).opened).now.length c8)).run Try.prog w' = .ok (.string (strOf ((D.crash n).opened).now)) w') (fun _ h => ⟨h.1, h.2.1, h.2.2.1⟩) _ _ _ _ ?_
        replace hHeld : w8.cell? ⟨pc, 0, none⟩ = some (.slice tn 40 dn) ∧ w8.cell? ⟨pc, 3, none⟩ = some (.slice tb tl db) ∧ (convert 27 9 (.slice tn 40 dn)).run Try.prog w8 = .ok (.string (strOf ((D.crash n).opened).now)) w8 ∧ (convert 27 9 (.slice (some ⟨g8, 0, none⟩) ((D.crash n).opened).now.length c8)).run Try.prog w8 = .ok (.string (strOf ((D.crash n).opened).now)) w8 := ⟨hHeld.1, hHeld.2.1, hHeld.2.2, k8⟩
        clear k8
        refine z_take 2 (v := ?_) rfl (by kernel_rfl) (by kernel_rfl) (by kernel_rfl) (by kernel_rfl) (fun _ _ _ h => h) hHeld (by rfl) (fun w hSw => ?_) ?_
        rotate_left
        · obtain ⟨hSw1, hSw2, hSw3, hSw4⟩ := hSw; simp only [List.getElem_toArray, List.getElem_cons_zero, List.getElem_cons_succ]; go_simp; try rfl
        simp only [Act.put, List.getElem_toArray, List.getElem_cons_zero, List.getElem_cons_succ, List.setIfInBounds_toArray, List.set_cons_zero, List.set_cons_succ]
        refine z_take 6 (v := ?_) rfl (by kernel_rfl) (by kernel_rfl) (by kernel_rfl) (by kernel_rfl) (fun _ _ _ h => h) hHeld (by rfl) (fun w hSw => ?_) ?_
        rotate_left
        · obtain ⟨hSw1, hSw2, hSw3, hSw4⟩ := hSw; simp only [List.getElem_toArray, List.getElem_cons_zero, List.getElem_cons_succ]; go_simp; try rfl
        simp only [Act.put, List.getElem_toArray, List.getElem_cons_zero, List.getElem_cons_succ, List.setIfInBounds_toArray, List.set_cons_zero, List.set_cons_succ]
        refine z_take 7 (v := ?_) rfl (by kernel_rfl) (by kernel_rfl) (by kernel_rfl) (by kernel_rfl) (fun _ _ _ h => h) hHeld (by rfl) (fun w hSw => ?_) ?_
        rotate_left
        · obtain ⟨hSw1, hSw2, hSw3, hSw4⟩ := hSw; simp only [List.getElem_toArray, List.getElem_cons_zero, List.getElem_cons_succ]; go_simp; try rfl
        simp only [Act.put, List.getElem_toArray, List.getElem_cons_zero, List.getElem_cons_succ, List.setIfInBounds_toArray, List.set_cons_zero, List.set_cons_succ]
        refine z_take 8 (v := ?_) rfl (by kernel_rfl) (by kernel_rfl) (by kernel_rfl) (by kernel_rfl) (fun _ _ _ h => h) hHeld (by rfl) (fun w hSw => ?_) ?_
        rotate_left
        · obtain ⟨hSw1, hSw2, hSw3, hSw4⟩ := hSw; simp only [List.getElem_toArray, List.getElem_cons_zero, List.getElem_cons_succ]; go_simp; try rfl
        simp only [Act.put, List.getElem_toArray, List.getElem_cons_zero, List.getElem_cons_succ, List.setIfInBounds_toArray, List.set_cons_zero, List.set_cons_succ]
        refine z_take 10 (v := ?_) rfl (by kernel_rfl) (by kernel_rfl) (by kernel_rfl) (by kernel_rfl) (fun _ _ _ h => h) hHeld (by rfl) (fun w hSw => ?_) ?_
        rotate_left
        · obtain ⟨hSw1, hSw2, hSw3, hSw4⟩ := hSw; simp only [List.getElem_toArray, List.getElem_cons_zero, List.getElem_cons_succ]; go_simp; try rfl
        simp only [Act.put, List.getElem_toArray, List.getElem_cons_zero, List.getElem_cons_succ, List.setIfInBounds_toArray, List.set_cons_zero, List.set_cons_succ]
        refine z_take 11 (v := ?_) rfl (by kernel_rfl) (by kernel_rfl) (by kernel_rfl) (by kernel_rfl) (fun _ _ _ h => h) hHeld (by rfl) (fun w hSw => ?_) ?_
        rotate_left
        · obtain ⟨hSw1, hSw2, hSw3, hSw4⟩ := hSw; simp only [List.getElem_toArray, List.getElem_cons_zero, List.getElem_cons_succ]; go_simp; try rfl
        simp only [Act.put, List.getElem_toArray, List.getElem_cons_zero, List.getElem_cons_succ, List.setIfInBounds_toArray, List.set_cons_zero, List.set_cons_succ]
        refine z_take 12 (v := ?_) rfl (by kernel_rfl) (by kernel_rfl) (by kernel_rfl) (by kernel_rfl) (fun _ _ _ h => h) hHeld (by rfl) (fun w hSw => ?_) ?_
        rotate_left
        · obtain ⟨hSw1, hSw2, hSw3, hSw4⟩ := hSw; simp only [List.getElem_toArray, List.getElem_cons_zero, List.getElem_cons_succ]; go_simp; try rfl
        simp only [Act.put, List.getElem_toArray, List.getElem_cons_zero, List.getElem_cons_succ, List.setIfInBounds_toArray, List.set_cons_zero, List.set_cons_succ]
        refine z_one 9 rfl (by kernel_rfl) (by rfl) (fun K hK => ?_)
        simp only [List.getElem_toArray, List.getElem_cons_zero, List.getElem_cons_succ]
        go_simp
        refine (loose_any q ((D.crash n).opened) F2 _ H9.out.disk).mono ?_
        rintro e _ ⟨rfl, rfl⟩
        rw [HTL.out]
        refine hK _ _ (Or.inr ?_) (fun hHeld => ?_)
        · exact hHeld
        clear hK K
        replace hHeld := hHeld.resolve_left (by decide)
        try simp only [Act.put, List.setIfInBounds_toArray, List.set_cons_zero, List.set_cons_succ]
        refine z_take 13 (v := ?_) rfl (by kernel_rfl) (by kernel_rfl) (by kernel_rfl) (by kernel_rfl) (fun _ _ _ h => h) hHeld (by rfl) (fun w hSw => ?_) ?_
        rotate_left
        · obtain ⟨hSw1, hSw2, hSw3, hSw4⟩ := hSw; simp only [List.getElem_toArray, List.getElem_cons_zero, List.getElem_cons_succ]; go_simp; try rfl
        simp only [Act.put, List.getElem_toArray, List.getElem_cons_zero, List.getElem_cons_succ, List.setIfInBounds_toArray, List.set_cons_zero, List.set_cons_succ]
        refine z_take 14 (v := ?_) rfl (by kernel_rfl) (by kernel_rfl) (by kernel_rfl) (by kernel_rfl) (fun _ _ _ h => h) hHeld (by rfl) (fun w hSw => ?_) ?_
        rotate_left
        · obtain ⟨hSw1, hSw2, hSw3, hSw4⟩ := hSw; simp only [List.getElem_toArray, List.getElem_cons_zero, List.getElem_cons_succ]; go_simp; try rfl
        simp only [Act.put, List.getElem_toArray, List.getElem_cons_zero, List.getElem_cons_succ, List.setIfInBounds_toArray, List.set_cons_zero, List.set_cons_succ]
        refine z_take 15 (v := ?_) rfl (by kernel_rfl) (by kernel_rfl) (by kernel_rfl) (by kernel_rfl) (fun _ _ _ h => h) hHeld (by rfl) (fun w hSw => ?_) ?_
        rotate_left
        · obtain ⟨hSw1, hSw2, hSw3, hSw4⟩ := hSw; simp only [List.getElem_toArray, List.getElem_cons_zero, List.getElem_cons_succ]; go_simp; try rfl
        simp only [Act.put, List.getElem_toArray, List.getElem_cons_zero, List.getElem_cons_succ, List.setIfInBounds_toArray, List.set_cons_zero, List.set_cons_succ]
        refine z_take 16 (v := ?_) rfl (by kernel_rfl) (by kernel_rfl) (by kernel_rfl) (by kernel_rfl) (fun _ _ _ h => h) hHeld (by rfl) (fun w hSw => ?_) ?_
        rotate_left
        · obtain ⟨hSw1, hSw2, hSw3, hSw4⟩ := hSw; simp only [List.getElem_toArray, List.getElem_cons_zero, List.getElem_cons_succ]; go_simp; try rfl
        simp only [Act.put, List.getElem_toArray, List.getElem_cons_zero, List.getElem_cons_succ, List.setIfInBounds_toArray, List.set_cons_zero, List.set_cons_succ]
        refine z_one 17 rfl (by kernel_rfl) (by rfl) (fun K hK => ?_)
        simp only [List.getElem_toArray, List.getElem_cons_zero, List.getElem_cons_succ]
        go_simp
        refine (size_any q ((D.crash n).opened) F2 _ H9.out.disk).mono ?_
        rintro e _ ⟨rfl, rfl⟩
        rw [HON.out.len]
        refine hK _ _ (Or.inr ?_) (fun hHeld => ?_)
        · exact hHeld
        clear hK K
        replace hHeld := hHeld.resolve_left (by decide)
        try simp only [Act.put, List.setIfInBounds_toArray, List.set_cons_zero, List.set_cons_succ]
        refine z_take 18 (v := ?_) rfl (by kernel_rfl) (by kernel_rfl) (by kernel_rfl) (by kernel_rfl) (fun _ _ _ h => h) hHeld (by rfl) (fun w hSw => ?_) ?_
        rotate_left
        · obtain ⟨hSw1, hSw2, hSw3, hSw4⟩ := hSw; simp only [List.getElem_toArray, List.getElem_cons_zero, List.getElem_cons_succ]; go_simp; try rfl
        simp only [Act.put, List.getElem_toArray, List.getElem_cons_zero, List.getElem_cons_succ, List.setIfInBounds_toArray, List.set_cons_zero, List.set_cons_succ]
        refine z_take 19 (v := ?_) rfl (by kernel_rfl) (by kernel_rfl) (by kernel_rfl) (by kernel_rfl) (fun _ _ _ h => h) hHeld (by rfl) (fun w hSw => ?_) ?_
        rotate_left
        · obtain ⟨hSw1, hSw2, hSw3, hSw4⟩ := hSw; simp only [List.getElem_toArray, List.getElem_cons_zero, List.getElem_cons_succ]; go_simp; try rfl
        simp only [Act.put, List.getElem_toArray, List.getElem_cons_zero, List.getElem_cons_succ, List.setIfInBounds_toArray, List.set_cons_zero, List.set_cons_succ]
        refine z_done (by kernel_rfl) ?_ _
        clear hHeld
        go_wp2
        go_roundw
        case rel => exact HNX.out _ _ _ _ (by rw [HACT.out]; exact H9.out)
        case measure => simp [intOf]; omega
      have t4 : (doo == 4) = false := by simp [h4]
      have t5 : (doo == 5) = false := by simp [h5]
      have t6 : (doo == 6) = false := by simp [h6]
      by_cases hi : inB at_ n D.now.length = true
      · have hact : D.act ⟨doo, at_, b, n⟩ = (D.write at_.toNat b, 0) := by simp [DS.act, h4, h5, h6, HBL.out, hi]
        have HACT := Lib.hid hact
        clear h4 h5 h6 hact
        obtain ⟨q0, rfl, hq⟩ := inB_nat hi
        have hq40 : q0 + n ≤ 40 := by rw [← HOK.out.len]; exact hq
        clear hi hq
        rw [Int.toNat_natCast] at HACT
        obtain ⟨sbb, s1, s2, _⟩ := (HROW.out (.cells #[.int .i64 doo, .int .i64 q0, .slice rsa n rcap, .int .i64 n] 34)).src
        have HSRC := Lib.hid (And.intro s1 s2)
        clear s1 s2
        go_wp2_with fail
        refine (refWrite_ok 0 q0 n b HBL.out rsa sbb 0 rcap HSRC.out.1 D _ _ HSRC.out.2 (HQ.out _).ref HOK.out.up 40 HOK.out.len hq40 (by omega) (by omega) (by have := HOK.out.lo; omega) (Nat.zero_le _)).mono ?_
        rintro e w5 ⟨v', rfl, hr, hk, hg⟩
        have hb5 : w5.heap[b8]? = some (.cells #[.int .i64 doo, .int .i64 (q0 : Int), .slice rsa n rcap, .int .i64 n] 34 (0, 0)) := by rw [← HB8.out]; exact (hk.block _ (by simp) (fun h => h)).trans (heap_alloc_new wr _)
        have HON : Hid ((D.write q0 b).Ok 40 (11 * 20 + n)) := by
          have h := act_ok (a := ⟨doo, (q0 : Int), b, n⟩) HOK.out
          rw [HACT.out] at h
          dsimp only at h
          rw [HBL.out] at h
          exact h
        obtain ⟨tn, dn, ts, ms, ds, tx, mx, dx, tb, db, rfl, _⟩ := hr.shape
        rw [HON.out.len, HON.out.up] at hr hg ⊢
        obtain ⟨tl, htl⟩ : ∃ tl, (D.write q0 b).lo.length = tl := ⟨_, rfl⟩
        rw [htl] at hr hg ⊢
        have HTL : Hid ((D.write q0 b).lo.length = tl) := htl
        clear htl
        have hq5 := (HQ.out _).quiet hk
        have hbp : w5.heap[pc]? = _ := hq5.blk
        have HBP := Lib.hid hbp
        have HRK := Lib.hid (And.intro hr (And.intro hk hg))
        have s0 : w5.cell? ⟨pc, 0, none⟩ = some (.slice sn 40 cn) := cellAt hbp 0
        have f0 := freeAt hbp 0
        have s1 : w5.cell? ⟨pc, 1, none⟩ = some (.slice ss ls cs) := cellAt hbp 1
        have f1 := freeAt hbp 1
        have s2 : w5.cell? ⟨pc, 2, none⟩ = some (.slice sx lx cx) := cellAt hbp 2
        have f2 := freeAt hbp 2
        have s3 : w5.cell? ⟨pc, 3, none⟩ = some (.slice sb lb cb) := cellAt hbp 3
        have f3 := freeAt hbp 3
        have s4 : w5.cell? ⟨pc, 4, none⟩ = some (.bool false) := cellAt hbp 4
        have f4 := freeAt hbp 4
        have u0 : w5.cell? ⟨b8, 0, none⟩ = some (.int .i64 doo) := cellAt hb5 0
        have u1 : w5.cell? ⟨b8, 1, none⟩ = some (.int .i64 (q0 : Int)) := cellAt hb5 1
        have u2 : w5.cell? ⟨b8, 2, none⟩ = some (.slice rsa n rcap) := cellAt hb5 2
        have u3 : w5.cell? ⟨b8, 3, none⟩ = some (.int .i64 n) := cellAt hb5 3
        clear hb5 hbp hq5 hr hk hg
        go_wp2_with fail
        have HS : Hid (PlSt w (((((w5.setCell ⟨pc, 0, none⟩ (.slice tn 40 dn)).setCell ⟨pc, 1, none⟩ (.slice ts ms ds)).setCell ⟨pc, 2, none⟩ (.slice tx mx dx)).setCell ⟨pc, 3, none⟩ (.slice tb tl db)).setCell ⟨pc, 4, none⟩ (.bool false)) pc B1 B2 (.slice (some ⟨ga, 0, none⟩) m cap') rows p' D F' #[.slice tn 40 dn, .slice ts ms ds, .slice tx mx dx, .slice tb tl db, .bool false] (D.write q0 b)) :=
          (HQ.out _).store HRK.out.1 HRK.out.2.1 HRK.out.2.2 (five_keep _ _ _ _ _) (five_set HBP.out (.slice tn 40 dn) (.slice ts ms ds) (.slice tx mx dx) (.slice tb tl db) (.bool false))
        have HDO := fun hrow hF => does_any p' D F' 40 (11 * 20) ⟨doo, (q0 : Int), b, n⟩ rsa rcap _ HS.out.disk HOK.out (by omega) (by omega) hrow hF
        dsimp only at HDO
        rw [HBL.out] at HDO
        refine (HDO (HRW.out _ HS.out.at_).1 (HRW.out _ HS.out.at_).2).mono ?_
        clear HDO
        rintro e w7 ⟨q, F2, rfl, hd2, hk2, hf2⟩
        rw [HACT.out] at hd2 ⊢
        have H7 := Lib.hid (HS.out.does hd2 hk2 hf2)
        clear hd2 hk2 hf2 HS s0 s1 s2 s3 s4 f0 f1 f2 f3 f4 u0 u1 u2 u3
        go_wp2_with fail
        have H8 := Lib.hid (H7.out.quiet (Keeps.refl _ _).drew)
        have HSTR : Hid (∀ W : World, RefAt W 0 #[.slice tn 40 dn, .slice ts ms ds, .slice tx mx dx, .slice tb tl db, .bool false] (D.write q0 b) → (convert 27 9 (.slice tn 40 dn)).run Try.prog W = .ok (.string (strOf (D.write q0 b).now)) W) := fun W h => ref_str h
        refine z_begin (fun w' => w'.cell? ⟨pc, 0, none⟩ = some (.slice tn 40 dn) ∧ w'.cell? ⟨pc, 3, none⟩ = some (.slice tb tl db) ∧ (convert 27 9 (.slice tn 40 dn)).run Try.prog w' = .ok (.string (strOf (D.write q0 b).now)) w') 20 (by kernel_rfl) (⟨cellAt H8.out.blk 0, cellAt H8.out.blk 3, HSTR.out _ H8.out.ref⟩) (fun hHeld => ?_)
        refine z_take 0 (v := ?_) rfl (by kernel_rfl) (by kernel_rfl) (by kernel_rfl) (by kernel_rfl) (fun _ _ _ h => h) hHeld (by rfl) (fun w hSw => ?_) ?_
        rotate_left
        · obtain ⟨hSw1, hSw2, hSw3⟩ := hSw; simp only [List.getElem_toArray, List.getElem_cons_zero]; go_simp; try rfl
        simp only [Act.put, List.getElem_toArray, List.getElem_cons_zero, List.setIfInBounds_toArray, List.set_cons_zero, List.set_cons_succ]
        refine z_take 3 (v := ?_) rfl (by kernel_rfl) (by kernel_rfl) (by kernel_rfl) (by kernel_rfl) (fun _ _ _ h => h) hHeld (by rfl) (fun w hSw => ?_) ?_
        rotate_left
        · obtain ⟨hSw1, hSw2, hSw3⟩ := hSw; simp only [List.getElem_toArray, List.getElem_cons_zero, List.getElem_cons_succ]; go_simp; try rfl
        simp only [Act.put, List.getElem_toArray, List.getElem_cons_zero, List.getElem_cons_succ, List.setIfInBounds_toArray, List.set_cons_zero, List.set_cons_succ]
        refine z_take 4 (v := ?_) rfl (by kernel_rfl) (by kernel_rfl) (by kernel_rfl) (by kernel_rfl) (fun _ _ _ h => h) hHeld (by rfl) (fun w hSw => ?_) ?_
        rotate_left
        · obtain ⟨hSw1, hSw2, hSw3⟩ := hSw; simp only [List.getElem_toArray, List.getElem_cons_zero, List.getElem_cons_succ]; go_simp; try rfl
        simp only [Act.put, List.getElem_toArray, List.getElem_cons_zero, List.getElem_cons_succ, List.setIfInBounds_toArray, List.set_cons_zero, List.set_cons_succ]
        refine z_take 5 (v := ?_) rfl (by kernel_rfl) (by kernel_rfl) (by kernel_rfl) (by kernel_rfl) (fun _ _ _ h => h) hHeld (by rfl) (fun w hSw => ?_) ?_
        rotate_left
        · obtain ⟨hSw1, hSw2, hSw3⟩ := hSw; simp only [List.getElem_toArray, List.getElem_cons_zero, List.getElem_cons_succ]; go_simp; try rfl
        simp only [Act.put, List.getElem_toArray, List.getElem_cons_zero, List.getElem_cons_succ, List.setIfInBounds_toArray, List.set_cons_zero, List.set_cons_succ]
        refine z_one 1 rfl (by kernel_rfl) (by rfl) (fun K hK => ?_)
        simp only [List.getElem_toArray, List.getElem_cons_zero, List.getElem_cons_succ]
        go_simp
        refine (raw_any q (D.write q0 b) F2 _ H8.out.disk (by rw [HON.out.len]; omega)).mono ?_
        rintro e w8 ⟨g8, c8, rfl, hown, hk⟩
        have H9 := Lib.hid (H8.out.quiet hk)
        have k8 := run_str hown
        clear hown hk
        refine hK _ _ (Or.inr ?_) (fun hHeld => ?_)
        · exact ⟨cellAt H9.out.blk 0, cellAt H9.out.blk 3, HSTR.out _ H9.out.ref⟩
        clear hK K
        replace hHeld := hHeld.resolve_left (by decide)
        try simp only [Act.put, List.setIfInBounds_toArray, List.set_cons_zero, List.set_cons_succ]
        refine z_more (fun w' => w'.cell? ⟨pc, 0, none⟩ = some (.slice tn 40 dn) ∧ w'.cell? ⟨pc, 3, none⟩ = some (.slice tb tl db) ∧ (convert 27 9 (.slice tn 40 dn)).run Try.prog w' = .ok (.string (strOf (D.write q0 b).now)) w' ∧ (convert 27 9 (.slice (some ⟨g8, 0, none⟩) (D.write q0 b).now.length c8)).run Try.prog w' = .ok (.string (strOf (D.write q0 b).now)) w') (fun _ h => ⟨h.1, h.2.1, h.2.2.1⟩) _ _ _ _ ?_
        replace hHeld : w8.cell? ⟨pc, 0, none⟩ = some (.slice tn 40 dn) ∧ w8.cell? ⟨pc, 3, none⟩ = some (.slice tb tl db) ∧ (convert 27 9 (.slice tn 40 dn)).run Try.prog w8 = .ok (.string (strOf (D.write q0 b).now)) w8 ∧ (convert 27 9 (.slice (some ⟨g8, 0, none⟩) (D.write q0 b).now.length c8)).run Try.prog w8 = .ok (.string (strOf (D.write q0 b).now)) w8 := ⟨hHeld.1, hHeld.2.1, hHeld.2.2, k8⟩
        clear k8
        refine z_take 2 (v := ?_) rfl (by kernel_rfl) (by kernel_rfl) (by kernel_rfl) (by kernel_rfl) (fun _ _ _ h => h) hHeld (by rfl) (fun w hSw => ?_) ?_
        rotate_left
        · obtain ⟨hSw1, hSw2, hSw3, hSw4⟩ := hSw; simp only [List.getElem_toArray, List.getElem_cons_zero, List.getElem_cons_succ]; go_simp; try rfl
        simp only [Act.put, List.getElem_toArray, List.getElem_cons_zero, List.getElem_cons_succ, List.setIfInBounds_toArray, List.set_cons_zero, List.set_cons_succ]
        refine z_take 6 (v := ?_) rfl (by kernel_rfl) (by kernel_rfl) (by kernel_rfl) (by kernel_rfl) (fun _ _ _ h => h) hHeld (by rfl) (fun w hSw => ?_) ?_
        rotate_left
        · obtain ⟨hSw1, hSw2, hSw3, hSw4⟩ := hSw; simp only [List.getElem_toArray, List.getElem_cons_zero, List.getElem_cons_succ]; go_simp; try rfl
        simp only [Act.put, List.getElem_toArray, List.getElem_cons_zero, List.getElem_cons_succ, List.setIfInBounds_toArray, List.set_cons_zero, List.set_cons_succ]
        refine z_take 7 (v := ?_) rfl (by kernel_rfl) (by kernel_rfl) (by kernel_rfl) (by kernel_rfl) (fun _ _ _ h => h) hHeld (by rfl) (fun w hSw => ?_) ?_
        rotate_left
        · obtain ⟨hSw1, hSw2, hSw3, hSw4⟩ := hSw; simp only [List.getElem_toArray, List.getElem_cons_zero, List.getElem_cons_succ]; go_simp; try rfl
        simp only [Act.put, List.getElem_toArray, List.getElem_cons_zero, List.getElem_cons_succ, List.setIfInBounds_toArray, List.set_cons_zero, List.set_cons_succ]
        refine z_take 8 (v := ?_) rfl (by kernel_rfl) (by kernel_rfl) (by kernel_rfl) (by kernel_rfl) (fun _ _ _ h => h) hHeld (by rfl) (fun w hSw => ?_) ?_
        rotate_left
        · obtain ⟨hSw1, hSw2, hSw3, hSw4⟩ := hSw; simp only [List.getElem_toArray, List.getElem_cons_zero, List.getElem_cons_succ]; go_simp; try rfl
        simp only [Act.put, List.getElem_toArray, List.getElem_cons_zero, List.getElem_cons_succ, List.setIfInBounds_toArray, List.set_cons_zero, List.set_cons_succ]
        refine z_take 10 (v := ?_) rfl (by kernel_rfl) (by kernel_rfl) (by kernel_rfl) (by kernel_rfl) (fun _ _ _ h => h) hHeld (by rfl) (fun w hSw => ?_) ?_
        rotate_left
        · obtain ⟨hSw1, hSw2, hSw3, hSw4⟩ := hSw; simp only [List.getElem_toArray, List.getElem_cons_zero, List.getElem_cons_succ]; go_simp; try rfl
        simp only [Act.put, List.getElem_toArray, List.getElem_cons_zero, List.getElem_cons_succ, List.setIfInBounds_toArray, List.set_cons_zero, List.set_cons_succ]
        refine z_take 11 (v := ?_) rfl (by kernel_rfl) (by kernel_rfl) (by kernel_rfl) (by kernel_rfl) (fun _ _ _ h => h) hHeld (by rfl) (fun w hSw => ?_) ?_
        rotate_left
        · obtain ⟨hSw1, hSw2, hSw3, hSw4⟩ := hSw; simp only [List.getElem_toArray, List.getElem_cons_zero, List.getElem_cons_succ]; go_simp; try rfl
        simp only [Act.put, List.getElem_toArray, List.getElem_cons_zero, List.getElem_cons_succ, List.setIfInBounds_toArray, List.set_cons_zero, List.set_cons_succ]
        refine z_take 12 (v := ?_) rfl (by kernel_rfl) (by kernel_rfl) (by kernel_rfl) (by kernel_rfl) (fun _ _ _ h => h) hHeld (by rfl) (fun w hSw => ?_) ?_
        rotate_left
        · obtain ⟨hSw1, hSw2, hSw3, hSw4⟩ := hSw; simp only [List.getElem_toArray, List.getElem_cons_zero, List.getElem_cons_succ]; go_simp; try rfl
        simp only [Act.put, List.getElem_toArray, List.getElem_cons_zero, List.getElem_cons_succ, List.setIfInBounds_toArray, List.set_cons_zero, List.set_cons_succ]
        refine z_one 9 rfl (by kernel_rfl) (by rfl) (fun K hK => ?_)
        simp only [List.getElem_toArray, List.getElem_cons_zero, List.getElem_cons_succ]
        go_simp
        refine (loose_any q (D.write q0 b) F2 _ H9.out.disk).mono ?_
        rintro e _ ⟨rfl, rfl⟩
        rw [HTL.out]
        refine hK _ _ (Or.inr ?_) (fun hHeld => ?_)
        · exact hHeld
        clear hK K
        replace hHeld := hHeld.resolve_left (by decide)
        try simp only [Act.put, List.setIfInBounds_toArray, List.set_cons_zero, List.set_cons_succ]
        refine z_take 13 (v := ?_) rfl (by kernel_rfl) (by kernel_rfl) (by kernel_rfl) (by kernel_rfl) (fun _ _ _ h => h) hHeld (by rfl) (fun w hSw => ?_) ?_
        rotate_left
        · obtain ⟨hSw1, hSw2, hSw3, hSw4⟩ := hSw; simp only [List.getElem_toArray, List.getElem_cons_zero, List.getElem_cons_succ]; go_simp; try rfl
        simp only [Act.put, List.getElem_toArray, List.getElem_cons_zero, List.getElem_cons_succ, List.setIfInBounds_toArray, List.set_cons_zero, List.set_cons_succ]
        refine z_take 14 (v := ?_) rfl (by kernel_rfl) (by kernel_rfl) (by kernel_rfl) (by kernel_rfl) (fun _ _ _ h => h) hHeld (by rfl) (fun w hSw => ?_) ?_
        rotate_left
        · obtain ⟨hSw1, hSw2, hSw3, hSw4⟩ := hSw; simp only [List.getElem_toArray, List.getElem_cons_zero, List.getElem_cons_succ]; go_simp; try rfl
        simp only [Act.put, List.getElem_toArray, List.getElem_cons_zero, List.getElem_cons_succ, List.setIfInBounds_toArray, List.set_cons_zero, List.set_cons_succ]
        refine z_take 15 (v := ?_) rfl (by kernel_rfl) (by kernel_rfl) (by kernel_rfl) (by kernel_rfl) (fun _ _ _ h => h) hHeld (by rfl) (fun w hSw => ?_) ?_
        rotate_left
        · obtain ⟨hSw1, hSw2, hSw3, hSw4⟩ := hSw; simp only [List.getElem_toArray, List.getElem_cons_zero, List.getElem_cons_succ]; go_simp; try rfl
        simp only [Act.put, List.getElem_toArray, List.getElem_cons_zero, List.getElem_cons_succ, List.setIfInBounds_toArray, List.set_cons_zero, List.set_cons_succ]
        refine z_take 16 (v := ?_) rfl (by kernel_rfl) (by kernel_rfl) (by kernel_rfl) (by kernel_rfl) (fun _ _ _ h => h) hHeld (by rfl) (fun w hSw => ?_) ?_
        rotate_left
        · obtain ⟨hSw1, hSw2, hSw3, hSw4⟩ := hSw; simp only [List.getElem_toArray, List.getElem_cons_zero, List.getElem_cons_succ]; go_simp; try rfl
        simp only [Act.put, List.getElem_toArray, List.getElem_cons_zero, List.getElem_cons_succ, List.setIfInBounds_toArray, List.set_cons_zero, List.set_cons_succ]
        refine z_one 17 rfl (by kernel_rfl) (by rfl) (fun K hK => ?_)
        simp only [List.getElem_toArray, List.getElem_cons_zero, List.getElem_cons_succ]
        go_simp
        refine (size_any q (D.write q0 b) F2 _ H9.out.disk).mono ?_
        rintro e _ ⟨rfl, rfl⟩
        rw [HON.out.len]
        refine hK _ _ (Or.inr ?_) (fun hHeld => ?_)
        · exact hHeld
        clear hK K
        replace hHeld := hHeld.resolve_left (by decide)
        try simp only [Act.put, List.setIfInBounds_toArray, List.set_cons_zero, List.set_cons_succ]
        refine z_take 18 (v := ?_) rfl (by kernel_rfl) (by kernel_rfl) (by kernel_rfl) (by kernel_rfl) (fun _ _ _ h => h) hHeld (by rfl) (fun w hSw => ?_) ?_
        rotate_left
        · obtain ⟨hSw1, hSw2, hSw3, hSw4⟩ := hSw; simp only [List.getElem_toArray, List.getElem_cons_zero, List.getElem_cons_succ]; go_simp; try rfl
        simp only [Act.put, List.getElem_toArray, List.getElem_cons_zero, List.getElem_cons_succ, List.setIfInBounds_toArray, List.set_cons_zero, List.set_cons_succ]
        refine z_take 19 (v := ?_) rfl (by kernel_rfl) (by kernel_rfl) (by kernel_rfl) (by kernel_rfl) (fun _ _ _ h => h) hHeld (by rfl) (fun w hSw => ?_) ?_
        rotate_left
        · obtain ⟨hSw1, hSw2, hSw3, hSw4⟩ := hSw; simp only [List.getElem_toArray, List.getElem_cons_zero, List.getElem_cons_succ]; go_simp; try rfl
        simp only [Act.put, List.getElem_toArray, List.getElem_cons_zero, List.getElem_cons_succ, List.setIfInBounds_toArray, List.set_cons_zero, List.set_cons_succ]
        refine z_done (by kernel_rfl) ?_ _
        clear hHeld
        go_wp2
        go_roundw
        case rel => exact HNX.out _ _ _ _ (by rw [HACT.out]; exact H9.out)
        case measure => simp [intOf]; omega
      · have hi' : inB at_ n D.now.length = false := by simpa using hi
        have hact : D.act ⟨doo, at_, b, n⟩ = (D, 8) := by simp [DS.act, h4, h5, h6, HBL.out, hi']
        have HACT := Lib.hid hact
        have HI := Lib.hid hi'
        clear h4 h5 h6 hact hi hi'
        go_wp2_with fail
        refine (refWrite_no 0 at_ n rsa rcap D _ _ (HQ.out _).ref HOK.out.up HI.out (by rw [HOK.out.len]; omega) (by omega)).mono ?_
        rintro e w5 ⟨rfl, hr, hk⟩
        have hg : RGrow (wr.alloc (.cells #[.int .i64 doo, .int .i64 at_, .slice rsa n rcap, .int .i64 n] 34)) #[.slice sn 40 cn, .slice ss ls cs, .slice sx lx cx, .slice sb lb cb, .bool false] #[.slice sn 40 cn, .slice ss ls cs, .slice sx lx cx, .slice sb lb cb, .bool false] := RGrow.rfl'
        have hb5 : w5.heap[b8]? = some (.cells #[.int .i64 doo, .int .i64 at_, .slice rsa n rcap, .int .i64 n] 34 (0, 0)) := by rw [← HB8.out]; exact (hk.block _ (by simp) (fun h => h)).trans (heap_alloc_new wr _)
        have HON : Hid ((D).Ok 40 (11 * 20 + n)) := by
          have h := act_ok (a := ⟨doo, at_, b, n⟩) HOK.out
          rw [HACT.out] at h
          dsimp only at h
          rw [HBL.out] at h
          exact h
        have HTL : Hid (D.lo.length = lb) := HLB.out
        have hq5 := (HQ.out _).quiet hk
        have hbp : w5.heap[pc]? = _ := hq5.blk
        have HBP := Lib.hid hbp
        have HRK := Lib.hid (And.intro hr (And.intro hk hg))
        have s0 : w5.cell? ⟨pc, 0, none⟩ = some (.slice sn 40 cn) := cellAt hbp 0
        have f0 := freeAt hbp 0
        have s1 : w5.cell? ⟨pc, 1, none⟩ = some (.slice ss ls cs) := cellAt hbp 1
        have f1 := freeAt hbp 1
        have s2 : w5.cell? ⟨pc, 2, none⟩ = some (.slice sx lx cx) := cellAt hbp 2
        have f2 := freeAt hbp 2
        have s3 : w5.cell? ⟨pc, 3, none⟩ = some (.slice sb lb cb) := cellAt hbp 3
        have f3 := freeAt hbp 3
        have s4 : w5.cell? ⟨pc, 4, none⟩ = some (.bool false) := cellAt hbp 4
        have f4 := freeAt hbp 4
        have u0 : w5.cell? ⟨b8, 0, none⟩ = some (.int .i64 doo) := cellAt hb5 0
        have u1 : w5.cell? ⟨b8, 1, none⟩ = some (.int .i64 at_) := cellAt hb5 1
        have u2 : w5.cell? ⟨b8, 2, none⟩ = some (.slice rsa n rcap) := cellAt hb5 2
        have u3 : w5.cell? ⟨b8, 3, none⟩ = some (.int .i64 n) := cellAt hb5 3
        clear hb5 hbp hq5 hr hk hg
        go_wp2_with fail
        have HS : Hid (PlSt w (((((w5.setCell ⟨pc, 0, none⟩ (.slice sn 40 cn)).setCell ⟨pc, 1, none⟩ (.slice ss ls cs)).setCell ⟨pc, 2, none⟩ (.slice sx lx cx)).setCell ⟨pc, 3, none⟩ (.slice sb lb cb)).setCell ⟨pc, 4, none⟩ (.bool false)) pc B1 B2 (.slice (some ⟨ga, 0, none⟩) m cap') rows p' D F' #[.slice sn 40 cn, .slice ss ls cs, .slice sx lx cx, .slice sb lb cb, .bool false] (D)) :=
          (HQ.out _).store HRK.out.1 HRK.out.2.1 HRK.out.2.2 (five_keep _ _ _ _ _) (five_set HBP.out (.slice sn 40 cn) (.slice ss ls cs) (.slice sx lx cx) (.slice sb lb cb) (.bool false))
        have HDO := fun hrow hF => does_any p' D F' 40 (11 * 20) ⟨doo, at_, b, n⟩ rsa rcap _ HS.out.disk HOK.out (by omega) (by omega) hrow hF
        dsimp only at HDO
        rw [HBL.out] at HDO
        refine (HDO (HRW.out _ HS.out.at_).1 (HRW.out _ HS.out.at_).2).mono ?_
        clear HDO
        rintro e w7 ⟨q, F2, rfl, hd2, hk2, hf2⟩
        rw [HACT.out] at hd2 ⊢
        have H7 := Lib.hid (HS.out.does hd2 hk2 hf2)
        clear hd2 hk2 hf2 HS s0 s1 s2 s3 s4 f0 f1 f2 f3 f4 u0 u1 u2 u3
        go_wp2_with fail
        have H8 := Lib.hid (H7.out.quiet (Keeps.refl _ _).drew)
        have HSTR : Hid (∀ W : World, RefAt W 0 #[.slice sn 40 cn, .slice ss ls cs, .slice sx lx cx, .slice sb lb cb, .bool false] (D) → (convert 27 9 (.slice sn 40 cn)).run Try.prog W = .ok (.string (strOf (D).now)) W) := fun W h => ref_str h
        refine z_begin (fun w' => w'.cell? ⟨pc, 0, none⟩ = some (.slice sn 40 cn) ∧ w'.cell? ⟨pc, 3, none⟩ = some (.slice sb lb cb) ∧ (convert 27 9 (.slice sn 40 cn)).run Try.prog w' = .ok (.string (strOf (D).now)) w') 20 (by kernel_rfl) (⟨cellAt H8.out.blk 0, cellAt H8.out.blk 3, HSTR.out _ H8.out.ref⟩) (fun hHeld => ?_)
        refine z_take 0 (v := ?_) rfl (by kernel_rfl) (by kernel_rfl) (by kernel_rfl) (by kernel_rfl) (fun _ _ _ h => h) hHeld (by rfl) (fun w hSw => ?_) ?_
        rotate_left
        · obtain ⟨hSw1, hSw2, hSw3⟩ := hSw; simp only [List.getElem_toArray, List.getElem_cons_zero]; go_simp; try rfl
        simp only [Act.put, List.getElem_toArray, List.getElem_cons_zero, List.setIfInBounds_toArray, List.set_cons_zero, List.set_cons_succ]
        refine z_take 3 (v := ?_) rfl (by kernel_rfl) (by kernel_rfl) (by kernel_rfl) (by kernel_rfl) (fun _ _ _ h => h) hHeld (by rfl) (fun w hSw => ?_) ?_
        rotate_left
        · obtain ⟨hSw1, hSw2, hSw3⟩ := hSw; simp only [List.getElem_toArray, List.getElem_cons_zero, List.getElem_cons_succ]; go_simp; try rfl
        simp only [Act.put, List.getElem_toArray, List.getElem_cons_zero, List.getElem_cons_succ, List.setIfInBounds_toArray, List.set_cons_zero, List.set_cons_succ]
        refine z_take 4 (v := ?_) rfl (by kernel_rfl) (by kernel_rfl) (by kernel_rfl) (by kernel_rfl) (fun _ _ _ h => h) hHeld (by rfl) (fun w hSw => ?_) ?_
        rotate_left
        · obtain ⟨hSw1, hSw2, hSw3⟩ := hSw; simp only [List.getElem_toArray, List.getElem_cons_zero, List.getElem_cons_succ]; go_simp; try rfl
        simp only [Act.put, List.getElem_toArray, List.getElem_cons_zero, List.getElem_cons_succ, List.setIfInBounds_toArray, List.set_cons_zero, List.set_cons_succ]
        refine z_take 5 (v := ?_) rfl (by kernel_rfl) (by kernel_rfl) (by kernel_rfl) (by kernel_rfl) (fun _ _ _ h => h) hHeld (by rfl) (fun w hSw => ?_) ?_
        rotate_left
        · obtain ⟨hSw1, hSw2, hSw3⟩ := hSw; simp only [List.getElem_toArray, List.getElem_cons_zero, List.getElem_cons_succ]; go_simp; try rfl
        simp only [Act.put, List.getElem_toArray, List.getElem_cons_zero, List.getElem_cons_succ, List.setIfInBounds_toArray, List.set_cons_zero, List.set_cons_succ]
        refine z_one 1 rfl (by kernel_rfl) (by rfl) (fun K hK => ?_)
        simp only [List.getElem_toArray, List.getElem_cons_zero, List.getElem_cons_succ]
        go_simp
        refine (raw_any q (D) F2 _ H8.out.disk (by rw [HON.out.len]; omega)).mono ?_
        rintro e w8 ⟨g8, c8, rfl, hown, hk⟩
        have H9 := Lib.hid (H8.out.quiet hk)
        have k8 := run_str hown
        clear hown hk
        refine hK _ _ (Or.inr ?_) (fun hHeld => ?_)
        · exact ⟨cellAt H9.out.blk 0, cellAt H9.out.blk 3, HSTR.out _ H9.out.ref⟩
        clear hK K
        replace hHeld := hHeld.resolve_left (by decide)
        try simp only [Act.put, List.setIfInBounds_toArray, List.set_cons_zero, List.set_cons_succ]
        refine z_more (fun w' => w'.cell? ⟨pc, 0, none⟩ = some (.slice sn 40 cn) ∧ w'.cell? ⟨pc, 3, none⟩ = some (.slice sb lb cb) ∧ (convert 27 9 (.slice sn 40 cn)).run Try.prog w' = .ok (.string (strOf (D).now)) w' ∧ (convert 27 9 (.slice (some ⟨g8, 0, none⟩) (D).now.length c8)).run Try.prog w' = .ok (.string (strOf (D).now)) w') (fun _ h => ⟨h.1, h.2.1, h.2.2.1⟩) _ _ _ _ ?_
        replace hHeld : w8.cell? ⟨pc, 0, none⟩ = some (.slice sn 40 cn) ∧ w8.cell? ⟨pc, 3, none⟩ = some (.slice sb lb cb) ∧ (convert 27 9 (.slice sn 40 cn)).run Try.prog w8 = .ok (.string (strOf (D).now)) w8 ∧ (convert 27 9 (.slice (some ⟨g8, 0, none⟩) (D).now.length c8)).run Try.prog w8 = .ok (.string (strOf (D).now)) w8 := ⟨hHeld.1, hHeld.2.1, hHeld.2.2, k8⟩
        clear k8
        refine z_take 2 (v := ?_) rfl (by kernel_rfl) (by kernel_rfl) (by kernel_rfl) (by kernel_rfl) (fun _ _ _ h => h) hHeld (by rfl) (fun w hSw => ?_) ?_
        rotate_left
        · obtain ⟨hSw1, hSw2, hSw3, hSw4⟩ := hSw; simp only [List.getElem_toArray, List.getElem_cons_zero, List.getElem_cons_succ]; go_simp; try rfl
        simp only [Act.put, List.getElem_toArray, List.getElem_cons_zero, List.getElem_cons_succ, List.setIfInBounds_toArray, List.set_cons_zero, List.set_cons_succ]
        refine z_take 6 (v := ?_) rfl (by kernel_rfl) (by kernel_rfl) (by kernel_rfl) (by kernel_rfl) (fun _ _ _ h => h) hHeld (by rfl) (fun w hSw => ?_) ?_
        rotate_left
        · obtain ⟨hSw1, hSw2, hSw3, hSw4⟩ := hSw; simp only [List.getElem_toArray, List.getElem_cons_zero, List.getElem_cons_succ]; go_simp; try rfl
        simp only [Act.put, List.getElem_toArray, List.getElem_cons_zero, List.getElem_cons_succ, List.setIfInBounds_toArray, List.set_cons_zero, List.set_cons_succ]
        refine z_take 7 (v := ?_) rfl (by kernel_rfl) (by kernel_rfl) (by kernel_rfl) (by kernel_rfl) (fun _ _ _ h => h) hHeld (by rfl) (fun w hSw => ?_) ?_
        rotate_left
        · obtain ⟨hSw1, hSw2, hSw3, hSw4⟩ := hSw; simp only [List.getElem_toArray, List.getElem_cons_zero, List.getElem_cons_succ]; go_simp; try rfl
        simp only [Act.put, List.getElem_toArray, List.getElem_cons_zero, List.getElem_cons_succ, List.setIfInBounds_toArray, List.set_cons_zero, List.set_cons_succ]
        refine z_take 8 (v := ?_) rfl (by kernel_rfl) (by kernel_rfl) (by kernel_rfl) (by kernel_rfl) (fun _ _ _ h => h) hHeld (by rfl) (fun w hSw => ?_) ?_
        rotate_left
        · obtain ⟨hSw1, hSw2, hSw3, hSw4⟩ := hSw; simp only [List.getElem_toArray, List.getElem_cons_zero, List.getElem_cons_succ]; go_simp; try rfl
        simp only [Act.put, List.getElem_toArray, List.getElem_cons_zero, List.getElem_cons_succ, List.setIfInBounds_toArray, List.set_cons_zero, List.set_cons_succ]
        refine z_take 10 (v := ?_) rfl (by kernel_rfl) (by kernel_rfl) (by kernel_rfl) (by kernel_rfl) (fun _ _ _ h => h) hHeld (by rfl) (fun w hSw => ?_) ?_
        rotate_left
        · obtain ⟨hSw1, hSw2, hSw3, hSw4⟩ := hSw; simp only [List.getElem_toArray, List.getElem_cons_zero, List.getElem_cons_succ]; go_simp; try rfl
        simp only [Act.put, List.getElem_toArray, List.getElem_cons_zero, List.getElem_cons_succ, List.setIfInBounds_toArray, List.set_cons_zero, List.set_cons_succ]
        refine z_take 11 (v := ?_) rfl (by kernel_rfl) (by kernel_rfl) (by kernel_rfl) (by kernel_rfl) (fun _ _ _ h => h) hHeld (by rfl) (fun w hSw => ?_) ?_
        rotate_left
        · obtain ⟨hSw1, hSw2, hSw3, hSw4⟩ := hSw; simp only [List.getElem_toArray, List.getElem_cons_zero, List.getElem_cons_succ]; go_simp; try rfl
        simp only [Act.put, List.getElem_toArray, List.getElem_cons_zero, List.getElem_cons_succ, List.setIfInBounds_toArray, List.set_cons_zero, List.set_cons_succ]
        refine z_take 12 (v := ?_) rfl (by kernel_rfl) (by kernel_rfl) (by kernel_rfl) (by kernel_rfl) (fun _ _ _ h => h) hHeld (by rfl) (fun w hSw => ?_) ?_
        rotate_left
        · obtain ⟨hSw1, hSw2, hSw3, hSw4⟩ := hSw; simp only [List.getElem_toArray, List.getElem_cons_zero, List.getElem_cons_succ]; go_simp; try rfl
        simp only [Act.put, List.getElem_toArray, List.getElem_cons_zero, List.getElem_cons_succ, List.setIfInBounds_toArray, List.set_cons_zero, List.set_cons_succ]
        refine z_one 9 rfl (by kernel_rfl) (by rfl) (fun K hK => ?_)
        simp only [List.getElem_toArray, List.getElem_cons_zero, List.getElem_cons_succ]
        go_simp
        refine (loose_any q (D) F2 _ H9.out.disk).mono ?_
        rintro e _ ⟨rfl, rfl⟩
        rw [HTL.out]
        refine hK _ _ (Or.inr ?_) (fun hHeld => ?_)
        · exact hHeld
        clear hK K
        replace hHeld := hHeld.resolve_left (by decide)
        try simp only [Act.put, List.setIfInBounds_toArray, List.set_cons_zero, List.set_cons_succ]
        refine z_take 13 (v := ?_) rfl (by kernel_rfl) (by kernel_rfl) (by kernel_rfl) (by kernel_rfl) (fun _ _ _ h => h) hHeld (by rfl) (fun w hSw => ?_) ?_
        rotate_left
        · obtain ⟨hSw1, hSw2, hSw3, hSw4⟩ := hSw; simp only [List.getElem_toArray, List.getElem_cons_zero, List.getElem_cons_succ]; go_simp; try rfl
        simp only [Act.put, List.getElem_toArray, List.getElem_cons_zero, List.getElem_cons_succ, List.setIfInBounds_toArray, List.set_cons_zero, List.set_cons_succ]
        refine z_take 14 (v := ?_) rfl (by kernel_rfl) (by kernel_rfl) (by kernel_rfl) (by kernel_rfl) (fun _ _ _ h => h) hHeld (by rfl) (fun w hSw => ?_) ?_
        rotate_left
        · obtain ⟨hSw1, hSw2, hSw3, hSw4⟩ := hSw; simp only [List.getElem_toArray, List.getElem_cons_zero, List.getElem_cons_succ]; go_simp; try rfl
        simp only [Act.put, List.getElem_toArray, List.getElem_cons_zero, List.getElem_cons_succ, List.setIfInBounds_toArray, List.set_cons_zero, List.set_cons_succ]
        refine z_take 15 (v := ?_) rfl (by kernel_rfl) (by kernel_rfl) (by kernel_rfl) (by kernel_rfl) (fun _ _ _ h => h) hHeld (by rfl) (fun w hSw => ?_) ?_
        rotate_left
        · obtain ⟨hSw1, hSw2, hSw3, hSw4⟩ := hSw; simp only [List.getElem_toArray, List.getElem_cons_zero, List.getElem_cons_succ]; go_simp; try rfl
        simp only [Act.put, List.getElem_toArray, List.getElem_cons_zero, List.getElem_cons_succ, List.setIfInBounds_toArray, List.set_cons_zero, List.set_cons_succ]
        refine z_take 16 (v := ?_) rfl (by kernel_rfl) (by kernel_rfl) (by kernel_rfl) (by kernel_rfl) (fun _ _ _ h => h) hHeld (by rfl) (fun w hSw => ?_) ?_
        rotate_left
        · obtain ⟨hSw1, hSw2, hSw3, hSw4⟩ := hSw; simp only [List.getElem_toArray, List.getElem_cons_zero, List.getElem_cons_succ]; go_simp; try rfl
        simp only [Act.put, List.getElem_toArray, List.getElem_cons_zero, List.getElem_cons_succ, List.setIfInBounds_toArray, List.set_cons_zero, List.set_cons_succ]
        refine z_one 17 rfl (by kernel_rfl) (by rfl) (fun K hK => ?_)
        simp only [List.getElem_toArray, List.getElem_cons_zero, List.getElem_cons_succ]
        go_simp
        refine (size_any q (D) F2 _ H9.out.disk).mono ?_
        rintro e _ ⟨rfl, rfl⟩
        rw [HON.out.len]
        refine hK _ _ (Or.inr ?_) (fun hHeld => ?_)
        · exact hHeld
        clear hK K
        replace hHeld := hHeld.resolve_left (by decide)
        try simp only [Act.put, List.setIfInBounds_toArray, List.set_cons_zero, List.set_cons_succ]
        refine z_take 18 (v := ?_) rfl (by kernel_rfl) (by kernel_rfl) (by kernel_rfl) (by kernel_rfl) (fun _ _ _ h => h) hHeld (by rfl) (fun w hSw => ?_) ?_
        rotate_left
        · obtain ⟨hSw1, hSw2, hSw3, hSw4⟩ := hSw; simp only [List.getElem_toArray, List.getElem_cons_zero, List.getElem_cons_succ]; go_simp; try rfl
        simp only [Act.put, List.getElem_toArray, List.getElem_cons_zero, List.getElem_cons_succ, List.setIfInBounds_toArray, List.set_cons_zero, List.set_cons_succ]
        refine z_take 19 (v := ?_) rfl (by kernel_rfl) (by kernel_rfl) (by kernel_rfl) (by kernel_rfl) (fun _ _ _ h => h) hHeld (by rfl) (fun w hSw => ?_) ?_
        rotate_left
        · obtain ⟨hSw1, hSw2, hSw3, hSw4⟩ := hSw; simp only [List.getElem_toArray, List.getElem_cons_zero, List.getElem_cons_succ]; go_simp; try rfl
        simp only [Act.put, List.getElem_toArray, List.getElem_cons_zero, List.getElem_cons_succ, List.setIfInBounds_toArray, List.set_cons_zero, List.set_cons_succ]
        refine z_done (by kernel_rfl) ?_ _
        clear hHeld
        go_wp2
        go_roundw
        case rel => exact HNX.out _ _ _ _ (by rw [HACT.out]; exact H9.out)
        case measure => simp [intOf]; omega
    · go_wp2_with fail
      refine (lives_any _).mono ?_
      rintro e w9 ⟨rfl, hk9⟩
      have HF := Lib.hid (hst.keep.trans hk9 (fun _ _ h => h))
      clear hk9 hst
      go_wp2
      go_ret
      exact ⟨rfl, HF.out.below (Nat.le_refl _) (fun _ h => h.elim)⟩
end Go.Proofs.Ytllfiplhfbbhaaa
