/-
  The reference's Write of layer 28: what it tells. Conditions: sizes up to 65536, at most a million loose bytes.
-/
import Derived.Test.YtpojkhjenbbodaaRefDisk
import Derived.Test.YtpojkhjenbbodaaJTools
import Derived.Test.YtpojkhjenbbodaaJGood
namespace Go.Proofs.Ytpojkhjenbbodaa
open Go.RowKit

theorem keeps_cells8 {w1 W : World} {b1 : Nat} (hW : Keeps (fun k => k = b1 ∨ k = b1 + 1) w1 W) {w : World} (h : Keeps (fun _ => False) w w1) (hb : w.heap.size ≤ b1) : Keeps (fun _ => False) w W :=
  h.trans hW (fun k hlt e => by omega)
theorem set_splice {α : Type} (s : List α) (at_ : Nat) (b : List α) (c : α) (h : at_ + b.length < s.length) : (splice s at_ b).set (at_ + b.length) c = splice s at_ (b ++ [c]) := by
  simp only [splice]
  rw [List.set_append_right _ _ (by simp; omega)]
  simp only [List.length_take]
  rw [show at_ + b.length - min at_ s.length = b.length by omega, List.set_append_right _ _ (Nat.le_refl _), Nat.sub_self]
  have hd : s.drop (at_ + b.length) = s[at_ + b.length] :: s.drop (at_ + b.length + 1) := List.drop_eq_getElem_cons h
  rw [hd, List.set_cons_zero]
  simp [Nat.add_assoc]

/-- The reference's own disk while it writes. -/
structure RWSt (w wr : World) (b1 gx cx n : Nat) (vs : Value) (sa : Option Addr) (na ca : Nat) (sb : Option Addr) (nb cb : Nat) (NOW : List UInt8) (LA : List Nat) (LB : List UInt8) : Prop where
  blk : wr.heap[b1]? = some (.cells #[.slice (some ⟨gx, 0, none⟩) n cx, vs, .slice sa na ca, .slice sb nb cb, .bool false] 38 (0, 0))
  blk2 : wr.heap[b1 + 1]? = some (.cells #[.slice none 0 0, .slice none 0 0, .slice none 0 0, .slice none 0 0, .bool false] 38 (0, 0))
  now : wr.ownsRow (b1 + 1 + 1) 5 1 (.slice (some ⟨gx, 0, none⟩) n cx) n (BV NOW)
  at_ : wr.ownsRow (b1 + 1 + 1) 3 1 (.slice sa na ca) na (KV LA)
  bb : wr.ownsRow (b1 + 1 + 1) 5 1 (.slice sb nb cb) nb (BV LB)
  ne : ∀ j, sb = some ⟨j, 0, none⟩ → j ≠ gx
  keep : Keeps (fun _ => False) w wr
  hb : w.heap.size = b1

section
variable {w wr : World} {b1 gx cx n : Nat} {vs : Value} {sa : Option Addr} {na ca : Nat} {sb : Option Addr} {nb cb : Nat} {NOW : List UInt8} {LA : List Nat} {LB : List UInt8}
theorem RWSt.setNow (h : RWSt w wr b1 gx cx n vs sa na ca sb nb cb NOW LA LB) (p : Nat) (c : UInt8) : RWSt w (wr.setCell ⟨gx, p, none⟩ (.int .u8 (c.toNat : Int))).drew b1 gx cx n vs sa na ca sb nb cb (NOW.set p c) LA LB := by
  have hg := (own_lt h.now rfl).1
  have hk : Keeps (fun k => k = gx) wr (wr.setCell ⟨gx, p, none⟩ (.int .u8 (c.toNat : Int))).drew := ((Keeps.refl (fun k => k = gx) wr).setCell (p := ⟨gx, p, none⟩) (fun _ => rfl) _).drew
  refine ⟨(hk.block b1 (lt_of_heap h.blk) (by omega)).trans h.blk, (hk.block (b1 + 1) (lt_of_heap h.blk2) (by omega)).trans h.blk2, ?_, own_keep h.at_ hk ?_, own_keep h.bb hk ?_, h.ne, h.keep.trans hk (fun k hlt e => by have := h.hb; omega), h.hb⟩
  · have := (h.now.stored p (.int .u8 (c.toNat : Int))).1
    rw [show BV (NOW.set p c) = (BV NOW).set p (.int .u8 (c.toNat : Int)) by simp only [BV, List.map_set]]
    exact this
  · intro k e e'
    subst e'
    exact rows_ne h.at_ h.now (by decide) k e rfl
  · intro k e e'
    subst e'
    rcases own_addr h.bb with ⟨rfl, _⟩ | ⟨g, rfl⟩
    · simp [Value.ownBlock] at e
    · simp [Value.ownBlock] at e; exact h.ne g rfl e

theorem own_row_addr {w : World} {base : Nat} {e : TypeId} {size : Nat} {sa : Option Addr} {n c m : Nat} {xs : List Value} (h : w.ownsRow base e size (.slice sa n c) m xs) (k : Nat) (hk : Value.ownBlock (.slice sa n c) = some k) : sa = some ⟨k, 0, none⟩ := by
  rcases own_addr h with ⟨rfl, _⟩ | ⟨g, rfl⟩
  · simp [Value.ownBlock] at hk
  · simp [Value.ownBlock] at hk; rw [hk]

theorem RWSt.pushAt (h : RWSt w wr b1 gx cx n vs sa na ca sb nb cb NOW LA LB) (x : Nat) {X : Obj} {w2 : World} {sa2 : Option Addr} {ca2 : Nat}
    (hown : w2.ownsRow (b1 + 1 + 1) 3 1 (.slice sa2 (na + 1) ca2) (na + 1) (KV LA ++ [.int .i64 (x : Int)])) (hg : (wr.alloc X).grownBy w2 (Value.ownBlock (.slice sa na ca))) :
    (∃ v, w2.cell? ⟨b1, 2, none⟩ = some v) ∧ w2.frozen? ⟨b1, 2, none⟩ = false ∧ RWSt w (w2.setCell ⟨b1, 2, none⟩ (.slice sa2 (na + 1) ca2)) b1 gx cx n vs sa2 (na + 1) ca2 sb nb cb NOW (LA ++ [x]) LB := by
  have hk : Keeps (fun k => sa = some ⟨k, 0, none⟩) wr w2 := ((Keeps.refl _ wr).alloc X).grown hg (fun k e _ => own_row_addr h.at_ k e)
  have hlt : ∀ k, sa = some ⟨k, 0, none⟩ → b1 + 1 + 1 ≤ k := fun k e => (own_lt h.at_ e).1
  have q1 := (hk.block b1 (lt_of_heap h.blk) (fun e => by have := hlt _ e; omega)).trans h.blk
  have q2 := (hk.block (b1 + 1) (lt_of_heap h.blk2) (fun e => by have := hlt _ e; omega)).trans h.blk2
  have hk2 : Keeps (fun k => k = b1) w2 (w2.setCell ⟨b1, 2, none⟩ (.slice sa2 (na + 1) ca2)) := (Keeps.refl (fun k => k = b1) w2).setCell (p := ⟨b1, 2, none⟩) (fun _ => rfl) _
  refine ⟨⟨_, cellAt q1 2⟩, freeAt q1 2, ?_, (hk2.block (b1 + 1) (lt_of_heap q2) (by omega)).trans q2, ?_, ?_, ?_, h.ne, ?_, h.hb⟩
  · rw [heap_setCell_at q1]; rfl
  · exact own_keep (own_keep h.now hk (rows_ne h.now h.at_ (by decide))) hk2 (fun k e e' => by have := (h.now.lt k e).1; omega)
  · have e : KV (LA ++ [x]) = KV LA ++ [.int .i64 (x : Int)] := by simp [KV]
    rw [e]
    exact own_keep hown hk2 (fun k e e' => by have := (hown.lt k e).1; omega)
  · exact own_keep (own_keep h.bb hk (rows_ne h.bb h.at_ (by decide))) hk2 (fun k e e' => by have := (h.bb.lt k e).1; omega)
  · exact (h.keep.trans hk (fun k hk' e => by have := hlt k e; have := h.hb; omega)).trans hk2 (fun k hk' e => by have := h.hb; omega)

theorem RWSt.pushB (h : RWSt w wr b1 gx cx n vs sa na ca sb nb cb NOW LA LB) (c : UInt8) {X : Obj} {w2 : World} {sb2 : Option Addr} {cb2 : Nat}
    (hown : w2.ownsRow (b1 + 1 + 1) 5 1 (.slice sb2 (nb + 1) cb2) (nb + 1) (BV LB ++ [.int .u8 (c.toNat : Int)])) (hg : (wr.alloc X).drew.grownBy w2 (Value.ownBlock (.slice sb nb cb)))
    (hat : Value.ownBlock (.slice sb2 (nb + 1) cb2) = Value.ownBlock (.slice sb nb cb) ∨ Value.ownBlock (.slice sb2 (nb + 1) cb2) = some (wr.alloc X).drew.heap.size) :
    (∃ v, w2.cell? ⟨b1, 3, none⟩ = some v) ∧ w2.frozen? ⟨b1, 3, none⟩ = false ∧ RWSt w (w2.setCell ⟨b1, 3, none⟩ (.slice sb2 (nb + 1) cb2)) b1 gx cx n vs sa na ca sb2 (nb + 1) cb2 NOW LA (LB ++ [c]) := by
  have hk : Keeps (fun k => sb = some ⟨k, 0, none⟩) wr w2 := ((Keeps.refl _ wr).alloc X).drew.grown hg (fun k e _ => own_row_addr h.bb k e)
  have hlt : ∀ k, sb = some ⟨k, 0, none⟩ → b1 + 1 + 1 ≤ k := fun k e => (own_lt h.bb e).1
  have q1 := (hk.block b1 (lt_of_heap h.blk) (fun e => by have := hlt _ e; omega)).trans h.blk
  have q2 := (hk.block (b1 + 1) (lt_of_heap h.blk2) (fun e => by have := hlt _ e; omega)).trans h.blk2
  have hk2 : Keeps (fun k => k = b1) w2 (w2.setCell ⟨b1, 3, none⟩ (.slice sb2 (nb + 1) cb2)) := (Keeps.refl (fun k => k = b1) w2).setCell (p := ⟨b1, 3, none⟩) (fun _ => rfl) _
  refine ⟨⟨_, cellAt q1 3⟩, freeAt q1 3, ?_, (hk2.block (b1 + 1) (lt_of_heap q2) (by omega)).trans q2, ?_, ?_, ?_, ?_, ?_, h.hb⟩
  · rw [heap_setCell_at q1]; rfl
  · exact own_keep (own_keep h.now hk (fun k e e' => by simp [Value.ownBlock] at e; exact h.ne k e' e.symm)) hk2 (fun k e e' => by have := (h.now.lt k e).1; omega)
  · exact own_keep (own_keep h.at_ hk (rows_ne h.at_ h.bb (by decide))) hk2 (fun k e e' => by have := (h.at_.lt k e).1; omega)
  · have e : BV (LB ++ [c]) = BV LB ++ [.int .u8 (c.toNat : Int)] := by simp [BV]
    rw [e]
    exact own_keep hown hk2 (fun k e e' => by have := (hown.lt k e).1; omega)
  · intro j e
    rcases hat with h' | h'
    · rw [e] at h'; exact h.ne j (own_row_addr h.bb j h'.symm)
    · rw [e] at h'
      simp only [Value.ownBlock, Option.some.injEq] at h'
      have h1 := (own_lt h.now rfl).2
      have h2 : (wr.alloc X).drew.heap.size = wr.heap.size + 1 := by show (wr.alloc X).heap.size = _; simp
      omega
  · exact (h.keep.trans hk (fun k hk' e => by have := hlt k e; have := h.hb; omega)).trans hk2 (fun k hk' e => by have := h.hb; omega)
end

theorem KV_one (l : List Nat) : ∀ u ∈ KV l, u.oneCell' = true := by
  intro u hu
  simp only [KV, List.mem_map] at hu
  obtain ⟨c, _, rfl⟩ := hu
  rfl

theorem rw_init {w w3 w4 : World} {b1 gx cx n s2 : Nat} {vs va vb : Value} {sy : Option Addr} {nb cy : Nat} {sz : Option Addr} {na cz : Nat} {NOW LB : List UInt8} {LA : List Nat}
    (q1 : w3.heap[b1]? = some (.cells #[.slice (some ⟨gx, 0, none⟩) n cx, vs, va, vb, .bool false] 38 (0, 0))) (q2 : w3.heap[b1 + 1]? = some (.cells #[.slice none 0 0, .slice none 0 0, .slice none 0 0, .slice none 0 0, .bool false] 38 (0, 0)))
    (hrx : w3.ownsRow (b1 + 1 + 1) 5 1 (.slice (some ⟨gx, 0, none⟩) n cx) n (BV NOW)) (hy : w3.ownsRow s2 5 1 (.slice sy nb cy) nb (BV LB)) (hk : Keeps (fun _ => False) w w3) (hb : w.heap.size = b1) (hgl : gx < s2) (hb2 : b1 + 1 < s2)
    (hown : w4.ownsRow (b1 + 1 + 1) 3 1 (.slice sz na cz) na (KV LA)) (hg : (w3.setCell ⟨b1, 3, none⟩ (.slice sy nb cy)).grownBy w4 none) :
    (∃ v, w4.cell? ⟨b1, 2, none⟩ = some v) ∧ w4.frozen? ⟨b1, 2, none⟩ = false ∧ RWSt w (w4.setCell ⟨b1, 2, none⟩ (.slice sz na cz)) b1 gx cx n vs sz na cz sy nb cy NOW LA LB := by
  have hk1 : Keeps (fun k => k = b1) w3 (w3.setCell ⟨b1, 3, none⟩ (.slice sy nb cy)) := (Keeps.refl (fun k => k = b1) w3).setCell (p := ⟨b1, 3, none⟩) (fun _ => rfl) _
  have hk2 : Keeps (fun _ => False) (w3.setCell ⟨b1, 3, none⟩ (.slice sy nb cy)) w4 := (Keeps.refl _ _).grown hg (fun k e _ => by cases e)
  have hk12 : Keeps (fun k => k = b1) w3 w4 := hk1.trans hk2 (fun _ _ h => h.elim)
  have p1 : w4.heap[b1]? = some (.cells #[.slice (some ⟨gx, 0, none⟩) n cx, vs, va, .slice sy nb cy, .bool false] 38 (0, 0)) := by
    rw [hk2.block b1 (by simpa [World.setCell] using lt_of_heap q1) (fun h => h), heap_setCell_at q1]; rfl
  have p2 := (hk12.block (b1 + 1) (lt_of_heap q2) (by omega)).trans q2
  have hk3 : Keeps (fun k => k = b1) w4 (w4.setCell ⟨b1, 2, none⟩ (.slice sz na cz)) := (Keeps.refl (fun k => k = b1) w4).setCell (p := ⟨b1, 2, none⟩) (fun _ => rfl) _
  have hgx := (own_lt hrx rfl).1
  have hy' : w3.ownsRow (b1 + 1 + 1) 5 1 (.slice sy nb cy) nb (BV LB) := own_base hy (fun k e => by have := (hy.lt k e).1; omega)
  refine ⟨⟨_, cellAt p1 2⟩, freeAt p1 2, ?_, (hk3.block (b1 + 1) (lt_of_heap p2) (by omega)).trans p2, ?_, ?_, ?_, ?_, ?_, hb⟩
  · rw [heap_setCell_at p1]; rfl
  · exact own_keep (own_keep hrx hk12 (fun k e e' => by simp [Value.ownBlock] at e; omega)) hk3 (fun k e e' => by simp [Value.ownBlock] at e; omega)
  · exact own_keep hown hk3 (fun k e e' => by have := (hown.lt k e).1; omega)
  · exact own_keep (own_keep hy' hk12 (fun k e e' => by have := (hy'.lt k e).1; omega)) hk3 (fun k e e' => by have := (hy'.lt k e).1; omega)
  · intro j e
    have := (own_lt hy e).1
    omega
  · exact (hk.trans hk12 (fun k hlt e => by omega)).trans hk3 (fun k hlt e => by omega)

/-- What holds at the head of each round. -/
def RWRel (w : World) (b1 gx cx n : Nat) (vs : Value) (D : DS) (at_ : Nat) (l : List UInt8) (nl m : Nat) (i : Value) (wr : World) : Prop :=
  ∃ (k : Nat) (sa : Option Addr) (ca : Nat) (sb : Option Addr) (cb : Nat), k ≤ m ∧ i = .int .i64 k ∧
    RWSt w wr b1 gx cx n vs sa (nl + k) ca sb (nl + k) cb (splice D.now at_ (l.take k)) (D.lo.map (·.1) ++ (List.range k).map (at_ + ·)) (D.lo.map (·.2) ++ l.take k)

theorem mkLo_fst (at_ : Nat) (l : List UInt8) : (mkLo at_ l).map (·.1) = (List.range l.length).map (at_ + ·) := by
  apply List.ext_getElem?
  intro j
  simp only [mkLo, List.map_map, List.getElem?_map, List.getElem?_zipIdx]
  by_cases h : j < l.length
  · simp [h]
  · simp [h]
theorem mkLo_snd (at_ : Nat) (l : List UInt8) : (mkLo at_ l).map (·.2) = l := by
  apply List.ext_getElem?
  intro j
  simp only [mkLo, List.map_map, List.getElem?_map, List.getElem?_zipIdx]
  cases l[j]? <;> rfl

set_option maxRecDepth 10000 in
set_option maxHeartbeats 8000000 in
theorem refWrite_ok (B at_ m : Nat) (l : List UInt8) (hm : l.length = m) (so : Option Addr) (bb bo cap : Nat) (hso : 0 < m → so = some ⟨bb, bo, none⟩) (D : DS) (v : Array Value) (w : World)
    (hsrc : ∀ j c, l[j]? = some c → w.cell? ⟨bb, bo + j, none⟩ = some (.int .u8 c.toNat)) (h : RefAt w B v D) (hcr : D.cr = false) (n : Nat) (hn : D.now.length = n) (hfit : at_ + m ≤ n) (hD : n ≤ 65536) (hn0 : 0 < n) (hlo : D.lo.length ≤ 1000000) (hB : B ≤ w.heap.size) :
    Calls Try.prog 39 #[.agg v, .int .i64 at_, .slice so m cap] w fun e w' => ∃ v', e = .returned (.tuple #[.agg v', .int .i64 0]) ∧ RefAt w' B v' (D.write at_ l) ∧ Keeps (fun _ => False) w w' ∧ RGrow w v v' := by
  obtain ⟨sn, cn, ss, cs, sa, ca, sb, cb, rfl, h1, h2, h3, h4⟩ := h.rows
  rw [hn] at h1
  rw [hcr, hn]
  obtain ⟨nl, hnl⟩ : ∃ nl, D.lo.length = nl := ⟨_, rfl⟩
  obtain ⟨ns, hns⟩ : ∃ ns, D.sure.length = ns := ⟨_, rfl⟩
  rw [hnl] at h3 h4 hlo
  rw [hns] at h2
  rw [hnl, hns]
  have HS : Hid (∀ (X Y : Obj) (ad : Addr), sn = some ad → ∀ (j : Nat) (u : Value), (BV D.now)[j]? = some u → ((w.alloc X).alloc Y).cell? (ad.add j) = some u) := by
    intro X Y ad had j u hu
    have hcell := lies_of_ownR h1 ad had j u hu
    exact ((((Keeps.refl (fun _ => False) w).alloc X).alloc Y).cell (World.block_lt_of_cell? w _ hcell) (fun h => h)).trans hcell
  have HN := Lib.hid (And.intro (own_capR h1).2 (And.intro (own_capR h4).2 (And.intro hcr (And.intro h1 (And.intro h2 (And.intro h3 (And.intro h4 (And.intro hns (And.intro hnl hn)))))))))
  have HM := Lib.hid (And.intro hm (And.intro hso hsrc))
  obtain ⟨j0, hj, hy0, hy1, hy2⟩ := info_parts infoIntR
  obtain ⟨i0, hi0, hz0, hz1, hz2⟩ := info_parts infoByte
  have b8 : (at_ : Int) ≤ (n : Int) := by omega
  have b9 : (m : Int) ≤ (n : Int) - (at_ : Int) := by omega
  clear h h1 h2 h3 h4 hn hcr hnl hns hm hso hsrc
  go_enter Try.func39, Try.ntmps39
  go_wp2_with fail
  refine (ownR_any sn n cn D.now _ HN.out.2.2.2.2.2.2.2.2.2 (by omega) HN.out.1 (HS.out _ _)).mono ?_
  rintro e w1 ⟨sx, cx, rfl, hown, hk⟩
  have hs := two_boxes w (.cells #[.slice sn n cn, .slice ss ns cs, .slice sa nl ca, .slice sb nl cb, .bool false] 38) (.cells #[.slice none 0 0, .slice none 0 0, .slice none 0 0, .slice none 0 0, .bool false] 38)
  have hsz : ((w.alloc (.cells #[.slice sn n cn, .slice ss ns cs, .slice sa nl ca, .slice sb nl cb, .bool false] 38)).alloc (.cells #[.slice none 0 0, .slice none 0 0, .slice none 0 0, .slice none 0 0, .bool false] 38)).heap.size = w.heap.size + 1 + 1 := by simp
  rw [hsz] at hown
  obtain ⟨g1, g2, g3⟩ := hs
  have q1 := (hk.block w.heap.size (by rw [hsz]; omega) (fun h => h)).trans g1
  have q2 := (hk.block (w.heap.size + 1) (by rw [hsz]; omega) (fun h => h)).trans g2
  have hk1 := g3.trans hk (fun _ _ h => h)
  obtain ⟨gx, rfl⟩ : ∃ g, sx = some ⟨g, 0, none⟩ := by
    rcases own_addr hown with ⟨_, h, _⟩ | h
    · omega
    · exact h
  have hgx := (own_lt hown rfl).1
  have c0 := cellAt q1 0
  have f0 := freeAt q1 0
  have c3 := cellAt q1 3
  simp at c0 c3
  have HQ := Lib.hid (And.intro q1 (And.intro q2 (And.intro hown hk1)))
  have HHL := Lib.hid (own_lt hown rfl).2
  clear hown hk hk1 q1 q2 g1 g2 g3 hsz HS
  generalize hb1 : w.heap.size = b1 at *
  go_wp2_with fail
  -- own(d.B)
  obtain ⟨w2, hw2⟩ : ∃ w2, w2 = w1.setCell ⟨b1, 0, none⟩ (.slice (some ⟨gx, 0, none⟩) n cx) := ⟨_, rfl⟩
  rw [← hw2]
  have hkw : Keeps (fun k => k = b1) w1 w2 := by rw [hw2]; exact (Keeps.refl (fun k => k = b1) w1).setCell (p := ⟨b1, 0, none⟩) (fun _ => rfl) _
  have hq1 : w2.heap[b1]? = some (.cells #[.slice (some ⟨gx, 0, none⟩) n cx, .slice ss ns cs, .slice sa nl ca, .slice sb nl cb, .bool false] 38 (0, 0)) := by rw [hw2, heap_setCell_at HQ.out.1]; rfl
  have hq2 := (hkw.block (b1 + 1) (lt_of_heap HQ.out.2.1) (by omega)).trans HQ.out.2.1
  have hrx := own_keep HQ.out.2.2.1 hkw (fun k e => by simp [Value.ownBlock] at e; omega)
  have hkz : Keeps (fun _ => False) w w2 := HQ.out.2.2.2.trans hkw (fun k hlt e => by omega)
  have HZ := Lib.hid (And.intro hq1 (And.intro hq2 (And.intro hrx hkz)))
  clear hkw hq1 hq2 hrx hkz hw2 HQ c0 f0 c3
  refine (ownR_any sb nl cb (D.lo.map (·.2)) _ (by rw [List.length_map]; exact HN.out.2.2.2.2.2.2.2.2.1) (by omega) HN.out.2.1 (lies_of_ownR (own_keep HN.out.2.2.2.2.2.2.1 HZ.out.2.2.2 (fun _ _ h => h)))).mono ?_
  rintro e w3 ⟨sy, cy, rfl, hown, hk⟩
  have q1 := (hk.block b1 (lt_of_heap HZ.out.1) (fun h => h)).trans HZ.out.1
  have q2 := (hk.block (b1 + 1) (lt_of_heap HZ.out.2.1) (fun h => h)).trans HZ.out.2.1
  have hrx := own_keep HZ.out.2.2.1 hk (fun _ _ h => h)
  have hkz := HZ.out.2.2.2.trans hk (fun _ _ h => h)
  have hb2 := lt_of_heap HZ.out.2.1
  have hgl := (own_lt HZ.out.2.2.1 rfl).2
  have c2 := cellAt q1 2
  have c3 := cellAt q1 3
  have f3 := freeAt q1 3
  simp at c2 c3
  have HY := Lib.hid (And.intro q1 (And.intro q2 (And.intro hrx (And.intro hown hkz))))
  clear hown hk q1 q2 hrx hkz
  have HAT : Hid (∀ u : Value, (w3.setCell ⟨b1, 3, none⟩ u).ownsRow B 3 1 (.slice sa nl ca) nl (KV (D.lo.map (·.1)))) := fun u =>
    own_keep (own_keep HN.out.2.2.2.2.2.1 HY.out.2.2.2.2 (fun _ _ h => h)) ((Keeps.refl (fun k => k = b1) w3).setCell (p := ⟨b1, 3, none⟩) (fun _ => rfl) u) (fun k e e' => by have := (HN.out.2.2.2.2.2.1.lt k e).2; omega)
  have hlw3 : b1 + 1 + 1 ≤ w3.heap.size := by have := lt_of_heap HY.out.2.1; omega
  go_wp2_with (at_builtin; refine wpList_app _ rfl _ _ 22 rfl (b1 + 1 + 1) 3 j0 (.int .i64 0) 1 8 Try.underlying22 hj hy0 hy1 hy2 rfl (by decide) (.slice none 0 0) 0 [] rfl (World.ownsRow_nil _ _ _ _) sa nl ca (KV (D.lo.map (·.1))) rfl (by rw [KV_length, List.length_map, Nat.mul_one]; exact HN.out.2.2.2.2.2.2.2.2.1) (own_capR HN.out.2.2.2.2.2.1).2 (lies_of_ownR (HAT.out _)) (KV_one _) (by unfold maxLen; omega) (by omega) (by simp [World.setCell]; omega) ?_; intro sz cz w4 hown4 hg4 hat4 hnn4; rw [Nat.zero_add, List.nil_append] at hown4; have X4 := Lib.hid (rw_init HY.out.1 HY.out.2.1 HY.out.2.2.1 HY.out.2.2.2.1 HY.out.2.2.2.2 hb1 hgl hb2 hown4 hg4); obtain ⟨⟨vz, z1⟩, z2, z3⟩ := X4.out; have HST := Lib.hid z3; clear hown4 hg4 hat4 hnn4 z3)
  clear c2 c3 f3 X4 HAT z1 z2 HY HZ
  go_loopw [9] (fun i wr => RWRel w b1 gx cx n (.slice ss ns cs) D at_ l nl m i wr) (fun i _ => m - (intOf i).toNat)
  case atStart => exact ⟨0, sz, cz, sy, cy, Nat.zero_le _, rfl, by simpa [splice] using HST.out⟩
  case round =>
    obtain ⟨k, sa', ca', sb', cb', hk, rfl, hst⟩ := hrel
    have HB := Lib.hid hst
    clear hst HST
    by_cases hlt : k < m
    · obtain ⟨hm, hso, hsrc⟩ := HM.out
      obtain rfl := hso (by omega)
      obtain ⟨c, hc⟩ : ∃ c, l[k]? = some c := ⟨_, List.getElem?_eq_getElem (by omega)⟩
      have HC := Lib.hid (hsrc k c hc)
      have HLC := Lib.hid hc
      have HLEN : Hid ((splice D.now at_ (l.take k)).length = n) := by
        have e := HN.out.2.2.2.2.2.2.2.2.2
        show _ = _
        rw [length_splice _ _ _ (by rw [e, List.length_take]; omega), e]
      clear hm hso hsrc hc
      have r0 := cellAt HB.out.blk 0
      simp at r0
      have r5 : wr.cell? ⟨bb, bo + k, none⟩ = some (.int .u8 c.toNat) := (HB.out.keep.cell (World.block_lt_of_cell? w _ HC.out) (fun h => h)).trans HC.out
      have hoc := HB.out.now.cellAt (at_ + k) (by omega)
      rw [List.getElem?_eq_getElem (by rw [BV_length, HLEN.out]; omega)] at hoc
      generalize (BV (splice D.now at_ (l.take k)))[at_ + k]'(by rw [BV_length, HLEN.out]; omega) = vold at hoc
      have hof := HB.out.now.frozenAt (at_ + k)
      have i1 : (0 : Int) ≤ (k : Int) := by omega
      have i2 : (k : Int) < (m : Int) := by omega
      have i3 : IntKind.i64.wrap ((at_ : Int) + (k : Int)) = (at_ : Int) + k := IntWalk.i64_in _ (by omega)
      have i4 : (0 : Int) ≤ (at_ : Int) + (k : Int) := by omega
      have i5 : (at_ : Int) + (k : Int) < (n : Int) := by omega
      have i6 : ((at_ : Int) + (k : Int)).toNat = at_ + k := by omega
      go_wp2_with fail
      refine z_begin (fun w' => w'.cell? ⟨b1, 0, none⟩ = some (.slice (some ⟨gx, 0, none⟩) n cx) ∧ w'.cell? ⟨bb, bo + k, none⟩ = some (.int .u8 c.toNat)) 10 (by kernel_rfl) (⟨r0, r5⟩) (fun hHeld => ?_)
      refine z_take 0 (v := ?_) rfl (by kernel_rfl) (by kernel_rfl) (by kernel_rfl) (by kernel_rfl) (fun _ _ _ h => h) hHeld (by rfl) (fun w hSw => ?_) ?_
      rotate_left
      · obtain ⟨hSw1, hSw2⟩ := hSw; simp only [List.getElem_toArray, List.getElem_cons_zero]; go_simp; try rfl
      simp only [Act.put, List.getElem_toArray, List.getElem_cons_zero, List.setIfInBounds_toArray, List.set_cons_zero, List.set_cons_succ]
      refine z_take 1 (v := ?_) rfl (by kernel_rfl) (by kernel_rfl) (by kernel_rfl) (by kernel_rfl) (fun _ _ _ h => h) hHeld (by rfl) (fun w hSw => ?_) ?_
      rotate_left
      · obtain ⟨hSw1, hSw2⟩ := hSw; simp only [List.getElem_toArray, List.getElem_cons_zero, List.getElem_cons_succ]; go_simp; try rfl
      simp only [Act.put, List.getElem_toArray, List.getElem_cons_zero, List.getElem_cons_succ, List.setIfInBounds_toArray, List.set_cons_zero, List.set_cons_succ]
      refine z_take 2 (v := ?_) rfl (by kernel_rfl) (by kernel_rfl) (by kernel_rfl) (by kernel_rfl) (fun _ _ _ h => h) hHeld (by rfl) (fun w hSw => ?_) ?_
      rotate_left
      · obtain ⟨hSw1, hSw2⟩ := hSw; simp only [List.getElem_toArray, List.getElem_cons_zero, List.getElem_cons_succ]; go_simp; try rfl
      simp only [Act.put, List.getElem_toArray, List.getElem_cons_zero, List.getElem_cons_succ, List.setIfInBounds_toArray, List.set_cons_zero, List.set_cons_succ]
      refine z_take 3 (v := ?_) rfl (by kernel_rfl) (by kernel_rfl) (by kernel_rfl) (by kernel_rfl) (fun _ _ _ h => h) hHeld (by rfl) (fun w hSw => ?_) ?_
      rotate_left
      · obtain ⟨hSw1, hSw2⟩ := hSw; simp only [List.getElem_toArray, List.getElem_cons_zero, List.getElem_cons_succ]; go_simp; try rfl
      simp only [Act.put, List.getElem_toArray, List.getElem_cons_zero, List.getElem_cons_succ, List.setIfInBounds_toArray, List.set_cons_zero, List.set_cons_succ]
      refine z_take 4 (v := ?_) rfl (by kernel_rfl) (by kernel_rfl) (by kernel_rfl) (by kernel_rfl) (fun _ _ _ h => h) hHeld (by rfl) (fun w hSw => ?_) ?_
      rotate_left
      · obtain ⟨hSw1, hSw2⟩ := hSw; simp only [List.getElem_toArray, List.getElem_cons_zero, List.getElem_cons_succ]; go_simp; try rfl
      simp only [Act.put, List.getElem_toArray, List.getElem_cons_zero, List.getElem_cons_succ, List.setIfInBounds_toArray, List.set_cons_zero, List.set_cons_succ]
      refine z_take 5 (v := ?_) rfl (by kernel_rfl) (by kernel_rfl) (by kernel_rfl) (by kernel_rfl) (fun _ _ _ h => h) hHeld (by rfl) (fun w hSw => ?_) ?_
      rotate_left
      · obtain ⟨hSw1, hSw2⟩ := hSw; simp only [List.getElem_toArray, List.getElem_cons_zero, List.getElem_cons_succ]; go_simp; try rfl
      simp only [Act.put, List.getElem_toArray, List.getElem_cons_zero, List.getElem_cons_succ, List.setIfInBounds_toArray, List.set_cons_zero, List.set_cons_succ]
      refine z_take 6 (v := ?_) rfl (by kernel_rfl) (by kernel_rfl) (by kernel_rfl) (by kernel_rfl) (fun _ _ _ h => h) hHeld (by rfl) (fun w hSw => ?_) ?_
      rotate_left
      · obtain ⟨hSw1, hSw2⟩ := hSw; simp only [List.getElem_toArray, List.getElem_cons_zero, List.getElem_cons_succ]; go_simp; try rfl
      simp only [Act.put, List.getElem_toArray, List.getElem_cons_zero, List.getElem_cons_succ, List.setIfInBounds_toArray, List.set_cons_zero, List.set_cons_succ]
      refine z_take 7 (v := ?_) rfl (by kernel_rfl) (by kernel_rfl) (by kernel_rfl) (by kernel_rfl) (fun _ _ _ h => h) hHeld (by rfl) (fun w hSw => ?_) ?_
      rotate_left
      · obtain ⟨hSw1, hSw2⟩ := hSw; simp only [List.getElem_toArray, List.getElem_cons_zero, List.getElem_cons_succ]; go_simp; try rfl
      simp only [Act.put, List.getElem_toArray, List.getElem_cons_zero, List.getElem_cons_succ, List.setIfInBounds_toArray, List.set_cons_zero, List.set_cons_succ]
      refine z_take 8 (v := ?_) rfl (by kernel_rfl) (by kernel_rfl) (by kernel_rfl) (by kernel_rfl) (fun _ _ _ h => h) hHeld (by rfl) (fun w hSw => ?_) ?_
      rotate_left
      · obtain ⟨hSw1, hSw2⟩ := hSw; simp only [List.getElem_toArray, List.getElem_cons_zero, List.getElem_cons_succ]; go_simp; try rfl
      simp only [Act.put, List.getElem_toArray, List.getElem_cons_zero, List.getElem_cons_succ, List.setIfInBounds_toArray, List.set_cons_zero, List.set_cons_succ]
      refine z_take 9 (v := ?_) rfl (by kernel_rfl) (by kernel_rfl) (by kernel_rfl) (by kernel_rfl) (fun _ _ _ h => h) hHeld (by rfl) (fun w hSw => ?_) ?_
      rotate_left
      · obtain ⟨hSw1, hSw2⟩ := hSw; simp only [List.getElem_toArray, List.getElem_cons_zero, List.getElem_cons_succ]; go_simp; try rfl
      simp only [Act.put, List.getElem_toArray, List.getElem_cons_zero, List.getElem_cons_succ, List.setIfInBounds_toArray, List.set_cons_zero, List.set_cons_succ]
      refine z_one 10 rfl (by kernel_rfl) (by rfl) (fun K hK => ?_)
      simp only [List.getElem_toArray, List.getElem_cons_zero, List.getElem_cons_succ]
      go_simp
      refine hK _ _ (Or.inl rfl) (fun _ => ?_)
      clear hK K
      refine z_done (by kernel_rfl) ?_ _
      have HB1 := Lib.hid (HB.out.setNow (at_ + k) c)
      clear r0 r5 hoc hof hHeld
      generalize (wr.setCell ⟨gx, at_ + k, none⟩ (.int .u8 (c.toNat : Int))).drew = wa at *
      have r2 := cellAt HB1.out.blk 2
      simp at r2
      have hla : b1 + 1 + 1 ≤ wa.heap.size := by have := lt_of_heap HB1.out.blk2; omega
      go_wp2_with (at_builtin; refine wpList_app _ rfl _ _ 22 rfl (b1 + 1 + 1) 3 j0 (.int .i64 0) 1 8 Try.underlying22 hj hy0 hy1 hy2 rfl (by decide) (.slice sa' (nl + k) ca') (nl + k) (KV (D.lo.map (·.1) ++ (List.range k).map (at_ + ·))) rfl (HB1.out.at_.alloc _) (some ⟨wa.heap.size, 0, none⟩) 1 1 [.int .i64 ((at_ : Int) + k)] rfl rfl (fun h => by cases h) (fun ad had => by obtain rfl := Option.some.inj had; exact World.news_of_block (cs := #[.int .i64 ((at_ : Int) + k)]) (t := 3) (fr := (0, 0)) (heap_alloc_new wa _)) (by simp [Value.oneCell']) (by unfold maxLen; omega) (by omega) (by simp; omega) ?_; intro sa2 ca2 w2 hown2 hg2 hat2 hnn2; have X2 := Lib.hid (HB1.out.pushAt (at_ + k) (by simpa using hown2) hg2); obtain ⟨⟨vz, z1⟩, z2, z3⟩ := X2.out; have HB2 := Lib.hid z3; clear hown2 hg2 hat2 hnn2 z3)
      clear z1 z2 X2 r2
      generalize (w2.setCell ⟨b1, 2, none⟩ (.slice sa2 (nl + k + 1) ca2)) = wb at *
      have r3 := cellAt HB2.out.blk 3
      simp at r3
      have r5 : wb.cell? ⟨bb, bo + k, none⟩ = some (.int .u8 c.toNat) := (HB2.out.keep.cell (World.block_lt_of_cell? w _ HC.out) (fun h => h)).trans HC.out
      have hlb : b1 + 1 + 1 ≤ wb.heap.size := by have := lt_of_heap HB2.out.blk2; omega
      refine z_begin (fun w' => w'.cell? ⟨b1, 3, none⟩ = some (.slice sb' (nl + k) cb') ∧ w'.cell? ⟨bb, bo + k, none⟩ = some (.int .u8 c.toNat)) 9 (by kernel_rfl) (⟨r3, r5⟩) (fun hHeld => ?_)
      refine z_take 0 (v := ?_) rfl (by kernel_rfl) (by kernel_rfl) (by kernel_rfl) (by kernel_rfl) (fun _ _ _ h => h) hHeld (by rfl) (fun w hSw => ?_) ?_
      rotate_left
      · obtain ⟨hSw1, hSw2⟩ := hSw; simp only [List.getElem_toArray, List.getElem_cons_zero]; go_simp; try rfl
      simp only [Act.put, List.getElem_toArray, List.getElem_cons_zero, List.setIfInBounds_toArray, List.set_cons_zero, List.set_cons_succ]
      refine z_take 1 (v := ?_) rfl (by kernel_rfl) (by kernel_rfl) (by kernel_rfl) (by kernel_rfl) (fun _ _ _ h => h) hHeld (by rfl) (fun w hSw => ?_) ?_
      rotate_left
      · obtain ⟨hSw1, hSw2⟩ := hSw; simp only [List.getElem_toArray, List.getElem_cons_zero, List.getElem_cons_succ]; go_simp; try rfl
      simp only [Act.put, List.getElem_toArray, List.getElem_cons_zero, List.getElem_cons_succ, List.setIfInBounds_toArray, List.set_cons_zero, List.set_cons_succ]
      refine z_take 2 (v := ?_) rfl (by kernel_rfl) (by kernel_rfl) (by kernel_rfl) (by kernel_rfl) (fun _ _ _ h => h) hHeld (by rfl) (fun w hSw => ?_) ?_
      rotate_left
      · obtain ⟨hSw1, hSw2⟩ := hSw; simp only [List.getElem_toArray, List.getElem_cons_zero, List.getElem_cons_succ]; go_simp; try rfl
      simp only [Act.put, List.getElem_toArray, List.getElem_cons_zero, List.getElem_cons_succ, List.setIfInBounds_toArray, List.set_cons_zero, List.set_cons_succ]
      refine z_take 3 (v := ?_) rfl (by kernel_rfl) (by kernel_rfl) (by kernel_rfl) (by kernel_rfl) (fun _ _ _ h => h) hHeld (by rfl) (fun w hSw => ?_) ?_
      rotate_left
      · obtain ⟨hSw1, hSw2⟩ := hSw; simp only [List.getElem_toArray, List.getElem_cons_zero, List.getElem_cons_succ]; go_simp; try rfl
      simp only [Act.put, List.getElem_toArray, List.getElem_cons_zero, List.getElem_cons_succ, List.setIfInBounds_toArray, List.set_cons_zero, List.set_cons_succ]
      refine z_take 4 (v := ?_) rfl (by kernel_rfl) (by kernel_rfl) (by kernel_rfl) (by kernel_rfl) (fun _ _ _ h => h) hHeld (by rfl) (fun w hSw => ?_) ?_
      rotate_left
      · obtain ⟨hSw1, hSw2⟩ := hSw; simp only [List.getElem_toArray, List.getElem_cons_zero, List.getElem_cons_succ]; go_simp; try rfl
      simp only [Act.put, List.getElem_toArray, List.getElem_cons_zero, List.getElem_cons_succ, List.setIfInBounds_toArray, List.set_cons_zero, List.set_cons_succ]
      refine z_take 5 (v := ?_) rfl (by kernel_rfl) (by kernel_rfl) (by kernel_rfl) (by kernel_rfl) (fun _ _ _ h => h) hHeld (by rfl) (fun w hSw => ?_) ?_
      rotate_left
      · obtain ⟨hSw1, hSw2⟩ := hSw; simp only [List.getElem_toArray, List.getElem_cons_zero, List.getElem_cons_succ]; go_simp; try rfl
      simp only [Act.put, List.getElem_toArray, List.getElem_cons_zero, List.getElem_cons_succ, List.setIfInBounds_toArray, List.set_cons_zero, List.set_cons_succ]
      refine z_one 6 rfl (by kernel_rfl) (by rfl) (fun K hK => ?_)
      simp only [List.getElem_toArray, List.getElem_cons_zero, List.getElem_cons_succ]
      go_simp
      refine hK _ _ (Or.inr ?_) (fun _ => ?_)
      · exact ⟨(Below.cell ((Below.refl _ _).alloc (Nat.le_refl _) _) (World.block_lt_of_cell? wb _ r3)).trans r3, (Below.cell ((Below.refl _ _).alloc (Nat.le_refl _) _) (World.block_lt_of_cell? wb _ r5)).trans r5⟩
      clear hK K
      refine z_one 7 rfl (by kernel_rfl) (by rfl) (fun K hK => ?_)
      simp only [List.getElem_toArray, List.getElem_cons_zero, List.getElem_cons_succ]
      refine wp_app _ (.tmp 71) (.tmp 76) 23 (by rfl) (b1 + 1 + 1) 5 i0 (.int .u8 0) 1 1 Try.underlying23 hi0 hz0 hz1 hz2 rfl (by omega) (.slice sb' (nl + k) cb') (nl + k) (BV (D.lo.map (·.2) ++ l.take k)) (by rfl) ((HB2.out.bb.alloc _).drew) (some ⟨wb.heap.size, 0, none⟩) 1 1 [.int .u8 c.toNat] (by rfl) (by rfl) (fun h => by cases h) (fun ad had => by obtain rfl := Option.some.inj had; exact World.news_of_block (cs := #[.int .u8 c.toNat]) (t := 5) (fr := (0, 0)) (heap_alloc_new wb _)) (by simp [Value.oneCell']) (by unfold maxLen; omega) (by omega) (by simp; omega) ?_
      intro sb2 cb2 w3 hown3 hg3 hat3 hnn3
      have X3 := Lib.hid (HB2.out.pushB c hown3 hg3 hat3)
      obtain ⟨⟨vz, z1⟩, z2, z3⟩ := X3.out
      have HB3 := Lib.hid z3
      have hHeld : w3.cell? ⟨b1, 3, none⟩ = some (.slice sb' (nl + k) cb') ∧ w3.cell? ⟨bb, bo + k, none⟩ = some (.int .u8 c.toNat) := by
        have hk3 : Keeps (fun j => sb' = some ⟨j, 0, none⟩) wb w3 := ((Keeps.refl _ wb).alloc _).drew.grown hg3 (fun j e _ => own_row_addr HB2.out.bb j e)
        refine ⟨(hk3.cell (World.block_lt_of_cell? wb _ r3) (fun e => by have := (own_lt HB2.out.bb e).1; simp only at this; omega)).trans r3, (hk3.cell (World.block_lt_of_cell? wb _ r5) (fun e => by have h1 := (own_lt HB2.out.bb e).1; have h2 := World.block_lt_of_cell? w _ HC.out; simp only at h1 h2; omega)).trans r5⟩
      refine hK _ _ (Or.inr hHeld) (fun _ => ?_)
      clear hK K hown3 hg3 hat3 hnn3 z3 X3
      simp only [Act.put, List.setIfInBounds_toArray, List.set_cons_zero, List.set_cons_succ]
      refine z_one 8 rfl (by kernel_rfl) (by rfl) (fun K hK => ?_)
      simp only [List.getElem_toArray, List.getElem_cons_zero, List.getElem_cons_succ]
      go_simp
      refine hK _ _ (Or.inr hHeld) (fun _ => ?_)
      clear hK K
      refine z_one 9 rfl (by kernel_rfl) (by rfl) (fun K hK => ?_)
      simp only [List.getElem_toArray, List.getElem_cons_zero, List.getElem_cons_succ]
      go_simp
      refine hK _ _ (Or.inl rfl) (fun _ => ?_)
      clear hK K
      refine z_done (by kernel_rfl) ?_ _
      have HF : Hid (RWRel w b1 gx cx n (.slice ss ns cs) D at_ l nl m (.int .i64 ((k + 1 : Nat) : Int)) (w3.setCell ⟨b1, 3, none⟩ (.slice sb2 (nl + k + 1) cb2))) := by
        refine ⟨k + 1, sa2, ca2, sb2, cb2, by omega, rfl, ?_⟩
        have hlk : (l.take k).length = k := by rw [List.length_take, HM.out.1]; omega
        have e1 : splice D.now at_ (l.take (k + 1)) = (splice D.now at_ (l.take k)).set (at_ + k) c := by
          have := set_splice D.now at_ (l.take k) c (by rw [hlk, HN.out.2.2.2.2.2.2.2.2.2]; omega)
          rw [hlk] at this
          rw [this, List.take_succ_eq_append_getElem (by rw [HM.out.1]; exact hlt), (List.getElem?_eq_some_iff.1 HLC.out).2]
        have e2 : l.take (k + 1) = l.take k ++ [c] := by rw [List.take_succ_eq_append_getElem (by rw [HM.out.1]; exact hlt), (List.getElem?_eq_some_iff.1 HLC.out).2]
        rw [e1, e2, List.range_succ, List.map_append, List.map_cons, List.map_nil, ← List.append_assoc, ← List.append_assoc]
        exact HB3.out
      clear r3 r5 z1 z2 hHeld HB3
      go_wp2
      go_roundw
      case rel => first | exact HF.out | exact ⟨_, _, HF.out, rfl, rfl⟩ | (refine ⟨_, ?_, rfl⟩; exact HF.out)
      case measure => simp [intOf]; omega
    · obtain rfl : k = m := by omega
      have q1 := HB.out.blk
      have q2 := HB.out.blk2
      have c0 := cellAt q1 0
      have c1 := cellAt q1 1
      have c2 := cellAt q1 2
      have c3 := cellAt q1 3
      have c4 := cellAt q1 4
      have d0 := cellAt q2 0
      have d1 := cellAt q2 1
      have d2 := cellAt q2 2
      have d3 := cellAt q2 3
      have d4 := cellAt q2 4
      have e0 := freeAt q2 0
      have e1 := freeAt q2 1
      have e2 := freeAt q2 2
      have e3 := freeAt q2 3
      have e4 := freeAt q2 4
      simp at c0 c1 c2 c3 c4 d0 d1 d2 d3 d4
      clear q1 q2
      go_wp2
      refine bodyPost_ret (v := .tuple #[.agg #[.slice (some ⟨gx, 0, none⟩) n cx, .slice ss ns cs, .slice sa' (nl + k) ca', .slice sb' (nl + k) cb', .bool false], .int .i64 0]) (by simp [results, Try.results39, go_sem, d0, d1, d2, d3, d4]) rfl ⟨_, rfl, ?_, ?_, ?_⟩
      · have hkf : ∀ W : World, Keeps (fun k => k = b1 ∨ k = b1 + 1) wr W → RefAt W B #[.slice (some ⟨gx, 0, none⟩) n cx, .slice ss ns cs, .slice sa' (nl + k) ca', .slice sb' (nl + k) cb', .bool false] (D.write at_ l) := by
          intro W hW
          obtain ⟨a1, a2, a3, a4, a5, a6, a7, a8, a9, a10⟩ := HN.out
          have hlk : l.length = k := HM.out.1
          have hst := HB.out
          rw [List.take_of_length_le (by omega)] at hst
          have hnw : (D.write at_ l).now.length = n := by show (splice _ _ _).length = _; rw [length_splice _ _ _ (by rw [a10, hlk]; exact hfit), a10]
          have hll : (D.write at_ l).lo.length = nl + k := by show (_ ++ _ : List _).length = _; rw [List.length_append, mkLo_length, a9, hlk]
          have hsl : (D.write at_ l).sure.length = ns := a8
          have hcr' : (D.write at_ l).cr = false := a3
          have l1 : (D.write at_ l).lo.map (·.1) = D.lo.map (·.1) ++ (List.range k).map (at_ + ·) := by show (_ ++ _ : List _).map _ = _; rw [List.map_append, mkLo_fst, hlk]
          have l2 : (D.write at_ l).lo.map (·.2) = D.lo.map (·.2) ++ l := by show (_ ++ _ : List _).map _ = _; rw [List.map_append, mkLo_snd]
          refine ⟨some ⟨gx, 0, none⟩, cx, ss, cs, sa', ca', sb', cb', by rw [hnw, hsl, hll, hcr'], ?_, ?_, ?_, ?_⟩
          · rw [hnw]
            exact own_base (own_keep hst.now hW (fun j e => by have := (hst.now.lt j e).1; omega)) (fun j e => by have := (hst.now.lt j e).1; omega)
          · rw [hsl]
            exact own_keep (own_keep a5 hst.keep (fun _ _ h => h)) hW (fun j e => by have := (a5.lt j e).2; omega)
          · rw [hll, l1]
            exact own_base (own_keep hst.at_ hW (fun j e => by have := (hst.at_.lt j e).1; omega)) (fun j e => by have := (hst.at_.lt j e).1; omega)
          · rw [hll, l2]
            exact own_base (own_keep hst.bb hW (fun j e => by have := (hst.bb.lt j e).1; omega)) (fun j e => by have := (hst.bb.lt j e).1; omega)
        exact hkf _ (by (iterate 5 with_reducible refine Keeps.setCell (F := fun k => k = b1 ∨ k = b1 + 1) ?_ (p := ⟨_, _, none⟩) (fun _ => by first | exact Or.inl rfl | exact Or.inr rfl) _); exact Keeps.refl _ _)
      · have hkf : ∀ W : World, Keeps (fun k => k = b1 ∨ k = b1 + 1) wr W → Keeps (fun _ => False) w W := fun W hW => keeps_cells8 hW HB.out.keep (by omega)
        exact hkf _ (by (iterate 5 with_reducible refine Keeps.setCell (F := fun k => k = b1 ∨ k = b1 + 1) ?_ (p := ⟨_, _, none⟩) (fun _ => by first | exact Or.inl rfl | exact Or.inr rfl) _); exact Keeps.refl _ _)
      · exact fun G hG hfr => RF.five (fun j e => hfr j (by have := (HB.out.now.lt j e).1; omega)) hG.at1 (fun j e => hfr j (by have := (HB.out.at_.lt j e).1; omega)) (fun j e => hfr j (by have := (HB.out.bb.lt j e).1; omega))

end Go.Proofs.Ytpojkhjenbbodaa
