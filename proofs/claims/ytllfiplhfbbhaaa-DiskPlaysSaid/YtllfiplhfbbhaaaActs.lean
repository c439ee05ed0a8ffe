/-
  The reference's Acts: the acts that numbers stand for, in memory of their own. Condition: fewer than 2^47 bytes of numbers.
-/
import Derived.Test.YtllfiplhfbbhaaaSmall
import Derived.Test.YtllfiplhfbbhaaaDiskParts
namespace Go.Proofs.Ytllfiplhfbbhaaa
open Go.RowKit

/-- An act. -/
structure PAct where
  doo : Int
  at_ : Int
  b : List UInt8
  n : Nat

def actByte (n : Int) (k : Nat) : UInt8 := UInt8.ofNat ((n / 3696 + k * (1 + n % 5)).toNat)
def mkAct (x : Int) : PAct :=
  let n := around x 10000000
  ⟨n % 7, n / 7 % 44 - 2, (List.range (n / 308 % 12).toNat).map (actByte n), (n / 308 % 12).toNat⟩

/-- An act's row in memory: the act, and where its bytes lie. -/
structure ARow where
  a : PAct
  sa : Option Addr
  cap : Nat

def ARow.cells (r : ARow) : List Value := [.int .i64 r.a.doo, .int .i64 r.a.at_, .slice r.sa r.a.b.length r.cap, .int .i64 r.a.n]
def AV (l : List ARow) : List Value := l.flatMap ARow.cells
theorem AV_length (l : List ARow) : (AV l).length = l.length * 4 := by induction l with | nil => rfl | cons x l ih => simp [AV, ARow.cells] at *; omega

structure ActsAt (w : World) (B : Nat) (v : Value) (rows : List ARow) : Prop where
  row : w.ownsRow B 34 4 v rows.length (AV rows)
  each : ∀ r ∈ rows, w.ownsRow B 5 1 (.slice r.sa r.a.b.length r.cap) r.a.b.length (BV r.a.b)

theorem infoAct : (Try.prog.info? 34).map (fun i => (i.zero, i.size, i.bytes)) = some (some (.agg #[.int .i64 0, .int .i64 0, .slice none 0 0, .int .i64 0]), 4, 48) := by kernel_rfl

theorem ActsAt.keep {w w' : World} {B : Nat} {v : Value} {rows : List ARow} {F : Nat → Prop} (h : ActsAt w B v rows) (hk : Keeps F w w') (hn : ∀ k, B ≤ k → k < w.heap.size → ¬ F k) : ActsAt w' B v rows :=
  ⟨own_keep h.row hk (fun k e => hn k (h.row.lt k e).1 (h.row.lt k e).2), fun r hr => own_keep (h.each r hr) hk (fun k e => hn k ((h.each r hr).lt k e).1 ((h.each r hr).lt k e).2)⟩

/-- What holds at the head of each round of the inner loop. -/
def BRel (wo : World) (ab : Nat) (d a : Int) (n : Int) (N : Nat) (k_ : Value) (wr : World) : Prop :=
  ∃ (k : Nat) (sa : Option Addr) (cap : Nat), k ≤ N ∧ k_ = .int .i64 k ∧ wr.heap[ab]? = some (.cells #[.int .i64 d, .int .i64 a, .slice sa k cap, .int .i64 N] 34 (0, 0)) ∧
    wr.ownsRow wo.heap.size 5 1 (.slice sa k cap) k (BV ((List.range k).map (actByte n))) ∧ Keeps (fun _ => False) wo wr

/-- What holds at the head of each round. -/
def ARel (w : World) (zs : List Int) (m : Nat) (out i_ : Value) (wr : World) : Prop :=
  ∃ (k : Nat) (sa : Option Addr) (cap : Nat) (rows : List ARow), k ≤ m ∧ i_ = .int .i64 k ∧ out = .slice sa k cap ∧ rows.map ARow.a = (zs.take k).map mkAct ∧ rows.length = k ∧
    ActsAt wr w.heap.size (.slice sa k cap) rows ∧ Keeps (fun _ => False) w wr

theorem row_ne {w : World} {base ab g n c m : Nat} {xs : List Value} {cells : Array Value} {t e : TypeId} {size : Nat} {sa : Option Addr} (hblk : w.heap[ab]? = some (.cells cells t (0, 0))) (hrow : w.ownsRow base e size (.slice sa n c) m xs) (hne : t ≠ e) (hg : sa = some ⟨g, 0, none⟩) : g ≠ ab := by
  obtain ⟨cur, hc⟩ := own_blk hrow hg
  intro e'
  subst e'
  rw [hblk] at hc
  simp only [Option.some.injEq, Obj.cells.injEq] at hc
  exact hne hc.2.1

theorem range_snoc (n : Int) (q : Nat) : (List.range (q + 1)).map (actByte n) = (List.range q).map (actByte n) ++ [actByte n q] := by
  rw [List.range_succ, List.map_append]; rfl

theorem actByte_val (n : Int) (q : Nat) (h0 : 0 ≤ n) (h : 0 ≤ (q : Int) * (1 + n % 5)) : ((actByte n q).toNat : Int) = (n / 3696 + q * (1 + n % 5)) % 256 := by
  unfold actByte
  rw [UInt8.toNat_ofNat']
  have h1 : 0 ≤ n / 3696 := Int.ediv_nonneg h0 (by omega)
  omega

/-- One round of the inner loop. -/
theorem brel_step {wo wr w2 : World} {ab : Nat} {d a n : Int} {N q : Nat} {sa : Option Addr} {cap : Nat} {X : Obj} {sa2 : Option Addr} {cap2 : Nat} (h0 : 0 ≤ n) (hg0 : 0 ≤ (q : Int) * (1 + n % 5)) (hab : ab = wo.heap.size)
    (hblk : wr.heap[ab]? = some (.cells #[.int .i64 d, .int .i64 a, .slice sa q cap, .int .i64 N] 34 (0, 0))) (hrow : wr.ownsRow wo.heap.size 5 1 (.slice sa q cap) q (BV ((List.range q).map (actByte n)))) (hkq : Keeps (fun _ => False) wo wr)
    (hown : w2.ownsRow wo.heap.size 5 1 (.slice sa2 (q + 1) cap2) (q + 1) (BV ((List.range q).map (actByte n)) ++ [.int .u8 ((n / 3696 + q * (1 + n % 5)) % 256)])) (hg : (wr.alloc X).grownBy w2 (Value.ownBlock (.slice sa q cap)))
    (hat : Value.ownBlock (.slice sa2 (q + 1) cap2) = Value.ownBlock (.slice sa q cap) ∨ Value.ownBlock (.slice sa2 (q + 1) cap2) = some (wr.alloc X).heap.size) (hq : q + 1 ≤ N) :
    (∃ v, w2.cell? ⟨ab, 2, none⟩ = some v) ∧ w2.frozen? ⟨ab, 2, none⟩ = false ∧ BRel wo ab d a n N (.int .i64 ((q + 1 : Nat) : Int)) (w2.setCell ⟨ab, 2, none⟩ (.slice sa2 (q + 1) cap2)) := by
  have hlt := lt_of_heap hblk
  have hsa : ∀ k, Value.ownBlock (.slice sa q cap) = some k → sa = some ⟨k, 0, none⟩ := fun k e => by
    rcases own_addr hrow with ⟨rfl, _⟩ | ⟨g, rfl⟩
    · simp [Value.ownBlock] at e
    · simp [Value.ownBlock] at e; rw [e]
  have hk2 : Keeps (fun k => sa = some ⟨k, 0, none⟩) wr w2 := ((Keeps.refl _ wr).alloc X).grown hg (fun k e _ => hsa k e)
  have hb2 : w2.heap[ab]? = wr.heap[ab]? := hk2.block ab hlt (fun e => row_ne hblk hrow (by decide) e rfl)
  rw [hblk] at hb2
  have hset := heap_setCell_at hb2 2 (.slice sa2 (q + 1) cap2)
  refine ⟨⟨_, cellAt hb2 2⟩, freeAt hb2 2, q + 1, sa2, cap2, hq, rfl, ?_, ?_, ?_⟩
  · rw [hset]; simp
  · rw [range_snoc, BV_append]
    have e : BV [actByte n q] = [.int .u8 ((n / 3696 + q * (1 + n % 5)) % 256)] := by simp only [BV, List.map_cons, List.map_nil]; rw [actByte_val n q h0 hg0]
    rw [e]
    refine own_keep hown ((Keeps.refl (fun k => k = ab) w2).setCell (p := ⟨ab, 2, none⟩) (fun _ => rfl) _) (fun k e' => ?_)
    rintro rfl
    rcases own_addr hown with ⟨rfl, _⟩ | ⟨g, rfl⟩
    · simp [Value.ownBlock] at e'
    · simp [Value.ownBlock] at e'
      exact row_ne hb2 hown (by decide) rfl e'
  · refine Keeps.setCell (F := fun _ => False) (hkq.trans hk2 (fun k hlt' e => ?_)) (p := ⟨ab, 2, none⟩) (fun h => ?_) _
    · have := (own_lt hrow e).1; omega
    · simp only at h; omega

/-- Rows of two element types lie apart. -/
theorem rows_ne {w : World} {base base' : Nat} {e e' : TypeId} {size size' n n' c c' m m' : Nat} {xs xs' : List Value} {sa sa' : Option Addr} (h : w.ownsRow base e size (.slice sa n c) m xs) (h' : w.ownsRow base' e' size' (.slice sa' n' c') m' xs') (hne : e ≠ e') :
    ∀ k, Value.ownBlock (.slice sa n c) = some k → ¬ sa' = some ⟨k, 0, none⟩ := by
  intro k hk hs
  rcases own_addr h with ⟨rfl, _⟩ | ⟨g, rfl⟩
  · simp [Value.ownBlock] at hk
  · simp [Value.ownBlock] at hk
    subst hk
    obtain ⟨c1, h1⟩ := own_blk h rfl
    obtain ⟨c2, h2⟩ := own_blk h' hs
    rw [h1] at h2
    simp only [Option.some.injEq, Obj.cells.injEq] at h2
    exact hne h2.2.1

/-- One round. -/
theorem arel_step {w wo wr w2 : World} {zs : List Int} {m k : Nat} {sa : Option Addr} {cp : Nat} {rows : List ARow} {z n : Int} {N : Nat} {sb : Option Addr} {cq : Nat} {X : Obj} {sa2 : Option Addr} {cap2 : Nat} (hk : k + 1 ≤ m)
    (hrows : rows.map ARow.a = (zs.take k).map mkAct) (hrl : rows.length = k) (hat : ActsAt wo w.heap.size (.slice sa k cp) rows) (hkp : Keeps (fun _ => False) w wo) (hz : zs[k]? = some z) (hn : around z 10000000 = n) (hN : n / 308 % 12 = N)
    (hrow : wr.ownsRow wo.heap.size 5 1 (.slice sb N cq) N (BV ((List.range N).map (actByte n)))) (hkq : Keeps (fun _ => False) wo wr)
    (hown : w2.ownsRow w.heap.size 34 4 (.slice sa2 (k + 1) cap2) (k + 1) (AV rows ++ [.int .i64 (n % 7), .int .i64 (n / 7 % 44 - 2), .slice sb N cq, .int .i64 N])) (hg : (wr.alloc X).grownBy w2 (Value.ownBlock (.slice sa k cp))) :
    ARel w zs m (.slice sa2 (k + 1) cap2) (.int .i64 ((k + 1 : Nat) : Int)) w2 := by
  have hat' := hat.keep hkq (fun _ _ _ h => h)
  have hsa : ∀ j, Value.ownBlock (.slice sa k cp) = some j → sa = some ⟨j, 0, none⟩ := fun j e => by
    rcases own_addr hat.row with ⟨rfl, _⟩ | ⟨g, rfl⟩
    · simp [Value.ownBlock] at e
    · simp [Value.ownBlock] at e; rw [e]
  have hk2 : Keeps (fun j => sa = some ⟨j, 0, none⟩) wr w2 := ((Keeps.refl _ wr).alloc X).grown hg (fun j e _ => hsa j e)
  have hact : mkAct z = ⟨n % 7, n / 7 % 44 - 2, (List.range N).map (actByte n), N⟩ := by
    simp only [mkAct, hn, hN, Int.toNat_natCast]
  have hlt := (List.getElem?_eq_some_iff.1 hz).1
  refine ⟨k + 1, sa2, cap2, rows ++ [⟨mkAct z, sb, cq⟩], hk, rfl, rfl, ?_, by simp [hrl], ⟨?_, ?_⟩, ?_⟩
  · rw [List.take_succ_eq_append_getElem hlt, List.map_append, List.map_append, hrows, (List.getElem?_eq_some_iff.1 hz).2]
    simp
  · have e : AV (rows ++ [⟨mkAct z, sb, cq⟩]) = AV rows ++ [.int .i64 (n % 7), .int .i64 (n / 7 % 44 - 2), .slice sb N cq, .int .i64 N] := by
      simp [AV, ARow.cells, hact]
    rw [e]
    simpa [hrl] using hown
  · intro r hr
    rcases List.mem_append.1 hr with hr | hr
    · exact own_keep (hat'.each r hr) hk2 (rows_ne (hat'.each r hr) hat'.row (by decide))
    · obtain rfl : r = ⟨mkAct z, sb, cq⟩ := by simpa using hr
      rw [hact]
      have hrow' := own_base (base' := w.heap.size) hrow (fun j e => by have := (hrow.lt j e).1; have := hkp.size; omega)
      have := own_keep hrow' hk2 (rows_ne hrow' hat'.row (by decide))
      simpa using this
  · exact (hkp.trans hkq (fun _ _ h => h)).trans hk2 (fun j hj e => by have := (own_lt hat.row e).1; omega)

set_option maxHeartbeats 2000000 in
theorem acts_any (la : Option Addr) (b off len cap : Nat) (zs : List Int) (w : World) (hl : zs.length = len) (hlen : len ≤ 9223372036854775807) (hla : 0 < len → la = some ⟨b, off, none⟩)
    (hsrc : ∀ j z, zs[j]? = some z → w.cell? ⟨b, off + j, none⟩ = some (.int .i64 z)) (hwf : ∀ z ∈ zs, -9223372036854775808 ≤ z ∧ z ≤ 9223372036854775807) :
    Calls Try.prog 13 #[.slice la len cap] w fun e w' => ∃ sa cap' rows, e = .returned (.slice sa rows.length cap') ∧ rows.map ARow.a = (zs.take 20).map mkAct ∧
      ActsAt w' w.heap.size (.slice sa rows.length cap') rows ∧ Keeps (fun _ => False) w w' := by
  obtain ⟨m, hm⟩ : ∃ m, min len 20 = m := ⟨_, rfl⟩
  have hm1 : m ≤ len := by omega
  have hm2 : m ≤ 20 := by omega
  have HL := Lib.hid (And.intro hm (And.intro hl (And.intro hla (And.intro hsrc hwf))))
  clear hl hla hsrc hwf hm
  obtain ⟨i0, hi, hz0, hz1, hz2⟩ := info_parts infoByte
  obtain ⟨j0, hj, hy0, hy1, hy2⟩ := info_parts infoAct
  go_enter Try.func13, Try.ntmps13
  go_wp2
  go_loopw [3, 4] (fun out i wr => ARel w zs m out i wr) (fun _ i _ => m - (intOf i).toNat)
  case atStart => exact ⟨0, none, 0, [], Nat.zero_le _, rfl, rfl, by simp, rfl, ⟨World.ownsRow_nil _ _ _ _, by simp⟩, Keeps.refl _ _⟩
  case round =>
    obtain ⟨k, sa, cp, rows, hk, rfl, rfl, hrows, hrl, hat, hkp⟩ := hrel
    have HR := Lib.hid (And.intro hrows (And.intro hrl (And.intro hat hkp)))
    clear hrows hrl hat hkp
    by_cases hlt : k < m
    · obtain ⟨hm, hl, hla, hsrc, hwf⟩ := HL.out
      obtain rfl := hla (by omega)
      obtain ⟨z, hz⟩ : ∃ z, zs[k]? = some z := ⟨_, List.getElem?_eq_getElem (by omega)⟩
      have hwz := hwf z (List.mem_of_getElem? hz)
      have hc : wr.cell? ⟨b, off + k, none⟩ = some (.int .i64 z) := (HR.out.2.2.2.cell (World.block_lt_of_cell? w _ (hsrc k z hz)) (fun h => h)).trans (hsrc k z hz)
      have HZ := Lib.hid hz
      clear hm hl hla hsrc hwf hz
      have t1 : k < len := by omega
      have t2 : k < 20 := by omega
      obtain ⟨wo, rfl⟩ : ∃ wo : World, wo = wr := ⟨_, rfl⟩
      go_wp2_with fail
      refine (around_any z 10000000 _ hwz.1 hwz.2 (by omega) (by omega)).mono ?_
      rintro e w' ⟨rfl, rfl⟩
      have hp := around_pos z 10000000 (by omega)
      generalize hn : around z 10000000 = n at *
      have HNN := Lib.hid hn
      clear hn
      obtain ⟨p1, p2⟩ := hp
      go_wp2_with fail
      generalize hN : n / 308 % 12 = Ni
      obtain ⟨N, rfl⟩ : ∃ N : Nat, Ni = N := ⟨Ni.toNat, by omega⟩
      have hNb : N ≤ 11 := by omega
      have HNI := Lib.hid hN
      clear hN
      have hstart : BRel wo wo.heap.size (n % 7) (n / 7 % 44 - 2) n N (.int .i64 0) (wo.alloc (Obj.cells #[.int .i64 (n % 7), .int .i64 (n / 7 % 44 - 2), .slice none 0 0, .int .i64 N] 34)) :=
        ⟨0, none, 0, Nat.zero_le _, rfl, heap_alloc_new wo _, World.ownsRow_nil _ _ _ _, (Keeps.refl _ wo).alloc _⟩
      have HST := Lib.hid hstart
      clear hstart
      go_loopw [7] (fun k_ wr => BRel wo wo.heap.size (n % 7) (n / 7 % 44 - 2) n N k_ wr) (fun k_ _ => N - (intOf k_).toNat)
      case atStart => exact HST.out
      case round =>
        obtain ⟨q, sb, cq, hq, rfl, hblk, hrow, hkq⟩ := hrel
        have d2 := cellAt hblk 2
        have d3 := cellAt hblk 3
        have f2 := freeAt hblk 2
        simp at d2 d3
        have HB := Lib.hid (And.intro hblk (And.intro hrow hkq))
        clear hblk hrow hkq
        by_cases hltq : q < N
        · have g1 : 0 ≤ (q : Int) * (1 + n % 5) := Int.mul_nonneg (by omega) (by omega)
          have g2 : (q : Int) * (1 + n % 5) ≤ 11 * 5 := Int.mul_le_mul (by omega) (by omega) (by omega) (by omega)
          have hdlt : wo.heap.size < wr.heap.size := lt_of_heap HB.out.1
          have HST2 : Hid (∀ (X : Obj) (w2 : World) (sa2 : Option Addr) (cap2 : Nat), w2.ownsRow wo.heap.size 5 1 (.slice sa2 (q + 1) cap2) (q + 1) (BV ((List.range q).map (actByte n)) ++ [.int .u8 ((n / 3696 + q * (1 + n % 5)) % 256)]) → (wr.alloc X).grownBy w2 (Value.ownBlock (.slice sb q cq)) →
              (Value.ownBlock (.slice sa2 (q + 1) cap2) = Value.ownBlock (.slice sb q cq) ∨ Value.ownBlock (.slice sa2 (q + 1) cap2) = some (wr.alloc X).heap.size) →
              (∃ v, w2.cell? ⟨wo.heap.size, 2, none⟩ = some v) ∧ w2.frozen? ⟨wo.heap.size, 2, none⟩ = false ∧ BRel wo wo.heap.size (n % 7) (n / 7 % 44 - 2) n N (.int .i64 ((q + 1 : Nat) : Int)) (w2.setCell ⟨wo.heap.size, 2, none⟩ (.slice sa2 (q + 1) cap2))) :=
            fun X w2 sa2 cap2 h1 h2 h3 => brel_step p1 g1 rfl HB.out.1 HB.out.2.1 HB.out.2.2 h1 h2 h3 (by omega)
          go_wp2_with (at_builtin; refine wpList_app _ rfl _ _ 27 rfl wo.heap.size 5 i0 (.int .u8 0) 1 1 Try.underlying27 hi hz0 hz1 hz2 rfl (by decide) (.slice sb q cq) q (BV ((List.range q).map (actByte n))) rfl (HB.out.2.1.alloc _) (some ⟨wr.heap.size, 0, none⟩) 1 1 [.int .u8 ((n / 3696 + q * (1 + n % 5)) % 256)] rfl rfl (fun h => by cases h) (fun ad had => by obtain rfl := Option.some.inj had; exact World.news_of_block (cs := #[.int .u8 ((n / 3696 + q * (1 + n % 5)) % 256)]) (t := 5) (fr := (0, 0)) (heap_alloc_new wr _)) (by simp [Value.oneCell']) (by unfold maxLen; omega) (by omega) (by simp; omega) ?_; intro sa2 cap2 w2 hown2 hg2 hat2 hnn2; obtain ⟨⟨v2, s1⟩, s2, s3⟩ := HST2.out _ _ _ _ hown2 hg2 hat2; have HS3 := Lib.hid s3; clear hown2 hg2 hat2 hnn2 s3)
          go_roundw
          case rel => exact HS3.out
          case measure => simp [intOf]; omega
        · clear HST
          obtain rfl : q = N := by omega
          have d0 := cellAt HB.out.1 0
          have d1 := cellAt HB.out.1 1
          simp at d0 d1
          have HO : Hid (wr.ownsRow w.heap.size 34 4 (.slice sa k cp) k (AV rows)) := by
            obtain ⟨_, h2, h3, _⟩ := HR.out
            have := own_keep h3.row HB.out.2.2 (fun _ _ h => h)
            rw [h2] at this
            exact this
          have hws : w.heap.size ≤ wr.heap.size := Nat.le_trans HR.out.2.2.2.size HB.out.2.2.size
          have HST3 : Hid (∀ (X : Obj) (w2 : World) (sa2 : Option Addr) (cap2 : Nat), w2.ownsRow w.heap.size 34 4 (.slice sa2 (k + 1) cap2) (k + 1) (AV rows ++ [.int .i64 (n % 7), .int .i64 (n / 7 % 44 - 2), .slice sb q cq, .int .i64 q]) → (wr.alloc X).grownBy w2 (Value.ownBlock (.slice sa k cp)) →
              ARel w zs m (.slice sa2 (k + 1) cap2) (.int .i64 ((k + 1 : Nat) : Int)) w2) :=
            fun X w2 sa2 cap2 h1 h2 => arel_step (by omega) HR.out.1 HR.out.2.1 HR.out.2.2.1 HR.out.2.2.2 HZ.out HNN.out HNI.out HB.out.2.1 HB.out.2.2 h1 h2
          go_wp2_with (at_builtin; refine wpList_app _ rfl _ _ 31 rfl w.heap.size 34 j0 _ 4 48 Try.underlying31 hj hy0 hy1 hy2 rfl (by decide) (.slice sa k cp) k (AV rows) rfl (HO.out.alloc _) (some ⟨wr.heap.size, 0, none⟩) 1 1 [.int .i64 (n % 7), .int .i64 (n / 7 % 44 - 2), .slice sb q cq, .int .i64 q] rfl rfl (fun h => by cases h) (fun ad had => by obtain rfl := Option.some.inj had; exact World.news_of_block (cs := #[.int .i64 (n % 7), .int .i64 (n / 7 % 44 - 2), .slice sb q cq, .int .i64 q]) (t := 34) (fr := (0, 0)) (heap_alloc_new wr _)) (by simp [Value.oneCell']) (by unfold maxLen; omega) (by omega) (by simp; omega) ?_; intro sa2 cap2 w2 hown2 hg2 hat2 hnn2; have HS3 := Lib.hid (HST3.out _ _ _ _ hown2 hg2); clear hown2 hg2 hat2 hnn2)
          go_roundw
          case rel => exact HS3.out
          case measure => simp [intOf]; omega
    · obtain rfl : k = m := by omega
      have t1 : Hid ((zs.take k).map mkAct = (zs.take 20).map mkAct) := by
        obtain ⟨hm, hl, _⟩ := HL.out
        show _ = _
        congr 1
        apply List.ext_getElem?
        intro j
        simp only [List.getElem?_take]
        split <;> split <;> first | rfl | omega | (symm; apply List.getElem?_eq_none; omega)
      by_cases hkl : k < len
      · have t3 : (k : Int) < (len : Int) := by omega
        have t4 : ¬ (k : Int) < 20 := by have := HL.out.1; omega
        go_wp2
        go_ret
        obtain ⟨h1, h2, h3, h4⟩ := HR.out
        exact ⟨sa, cp, rows, by simp [h2], h1.trans (t1.out.trans (by rw [List.map_take])), by rw [h2]; exact h3, h4⟩
      · have t3 : ¬ (k : Int) < (len : Int) := by omega
        go_wp2
        go_ret
        obtain ⟨h1, h2, h3, h4⟩ := HR.out
        exact ⟨sa, cp, rows, by simp [h2], h1.trans (t1.out.trans (by rw [List.map_take])), by rw [h2]; exact h3, h4⟩
end Go.Proofs.Ytllfiplhfbbhaaa
