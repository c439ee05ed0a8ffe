/-
  The reference's Append. Conditions: a store of the reference in memory, a disk that is up.
-/
import Derived.Test.YtpojkhjenbbodaaRefCells
namespace Go.Proofs.Ytpojkhjenbbodaa
open Go.RowKit

/-- append([][]byte{}, x...): rows of its own. -/
theorem wpList_newV {w : World} {ops : Array Oper} {rest : List Oper} {o : Oper} {a : Act} {Q : Exit → Act → World → Prop} (hgd : o.guard = none) (s x : Operand)
    (ho : o.op = .call { callee := .builtin .append, args := #[s, x], argTypes := #[30, 30] }) (hs : a.eval s = .slice (some ⟨w.heap.size, 0, none⟩) 0 0)
    {w1 : World} (hw1 : w.alloc (.cells #[] 23) = w1) (sb : Option Addr) (m cb : Nat) (vs : List Value) (hx : a.eval x = .slice sb m cb) (hl : Sl w sb m cb vs) (h1 : ∀ u ∈ vs, u.oneCell' = true) (hn : m ≤ 100000)
    (h : ∀ sa' cap' w', w'.ownsRow w.heap.size 23 1 (.slice sa' m cap') m vs → Keeps (fun _ => False) w w' → wpList Try.prog ops Q rest (a.put o.dst (.slice sa' m cap')) w') :
    wpList Try.prog ops Q (o :: rest) a w1 := by
  rw [← hw1]
  obtain ⟨i0, hi, hz0, hz1, hz2⟩ := info_parts infoRow
  have hq := hl.quiet ((Keeps.refl (fun _ => False) w).alloc (.cells #[] 23))
  refine wpList_app _ hgd s x 30 ho w.heap.size 23 i0 (.slice none 0 0) 1 24 Try.underlying30 hi hz0 hz1 hz2 rfl (by decide) (.slice (some ⟨w.heap.size, 0, none⟩) 0 0) 0 [] hs (World.ownsRow_made (cap := 0) w #[] (Nat.le_refl _) (by decide) rfl) sb m cb vs hx (by rw [hl.len, Nat.mul_one]) (fun e => by have := hl.nil e; omega) hq.lies h1 (by unfold maxLen; omega) (by omega) (by simp) ?_
  intro sa' cap' w' hown hg _ _
  rw [Nat.zero_add, List.nil_append] at hown
  rw [Nat.zero_add]
  refine h sa' cap' w' hown (((Keeps.refl _ w).alloc _).trans ((Keeps.refl (fun j => j = w.heap.size) _).grown hg (fun k e _ => by simp [Value.ownBlock] at e; exact e.symm)) (fun k hk e => by omega))
theorem rowsS_one {w : World} {vs : List Value} {rs : List (List UInt8)} (h : RowsS w vs rs) : ∀ u ∈ vs, u.oneCell' = true := by
  intro u hu
  obtain ⟨i, hi, rfl⟩ := List.getElem_of_mem hu
  obtain ⟨r, hr⟩ : ∃ r, rs[i]? = some r := ⟨_, List.getElem?_eq_getElem (by rw [← h.len]; exact hi)⟩
  obtain ⟨sa, cap, h1, _⟩ := h.row i r hr
  rw [List.getElem?_eq_getElem hi] at h1
  rw [Option.some.inj h1]
  rfl

/-- What the reference's Append and Set leave: a disk of its own, and the rest. -/
def ActPost (w : World) (vd : Array Value) (D : DS) (T : Value → List Value) (R : World → Value → Prop) (e : Ending) (w' : World) : Prop :=
  ∃ (vd' : Array Value) (x : Value), e = .returned (.tuple #[.agg (vd' ++ (T x).toArray), .int .i64 0]) ∧ RefAt w' 0 vd' D ∧ RGrow w vd vd' ∧ R w' x ∧ Keeps (fun _ => False) w w'

set_option maxHeartbeats 4000000 in
set_option maxRecDepth 10000 in
theorem refAppend_full (sn ss sa sb sl sk sx : Option Addr) (N cn ns cs na ca nb cb nl cl nk ck nx cx half used turn : Nat) (atr : Int) (w : World) (hh : half ≤ 65536) (hu : used ≤ half) (hfull : max ((half : Int) - (used : Int) - 10) (-1) < (nx : Int)) :
    Calls Try.prog 34 #[.agg #[.slice sn N cn, .slice ss ns cs, .slice sa na ca, .slice sb nb cb, .bool false, .int .i64 (half : Int), .int .i64 (used : Int), .slice sl nl cl, .int .i64 atr, .int .u64 (turn : Int), .slice sk nk ck], .slice sx nx cx] w fun e w' => e = .returned (.tuple #[.agg #[.slice sn N cn, .slice ss ns cs, .slice sa na ca, .slice sb nb cb, .bool false, .int .i64 (half : Int), .int .i64 (used : Int), .slice sl nl cl, .int .i64 atr, .int .u64 (turn : Int), .slice sk nk ck], .int .i64 3]) ∧ Keeps (fun _ => False) w w' := by
  have HRM : Hid (∀ u : World, Calls Try.prog 35 #[.agg #[.slice sn N cn, .slice ss ns cs, .slice sa na ca, .slice sb nb cb, .bool false, .int .i64 (half : Int), .int .i64 (used : Int), .slice sl nl cl, .int .i64 atr, .int .u64 (turn : Int), .slice sk nk ck]] u fun e w' => e = .returned (.int .i64 (max ((half : Int) - (used : Int) - 10) (-1))) ∧ Keeps (fun _ => False) u w') := Lib.hid (fun u => refRoom_any _ _ _ _ _ _ _ _ _ half used u (by omega) hu)
  obtain ⟨rm, hrm⟩ : ∃ z, max ((half : Int) - (used : Int) - 10) (-1) = z := ⟨_, rfl⟩
  rw [hrm] at HRM hfull
  have hgt : (nx : Int) > rm := hfull
  clear hrm hh hu hfull
  go_enter Try.func34, Try.ntmps34
  obtain ⟨b1, hb1⟩ : ∃ b, w.heap.size = b := ⟨_, rfl⟩
  obtain ⟨w1, hw1⟩ : ∃ v, w.alloc (.cells #[.slice sn N cn, .slice ss ns cs, .slice sa na ca, .slice sb nb cb, .bool false, .int .i64 (half : Int), .int .i64 (used : Int), .slice sl nl cl, .int .i64 atr, .int .u64 (turn : Int), .slice sk nk ck] 41) = v := ⟨_, rfl⟩
  obtain ⟨b2, hb2⟩ : ∃ b, w1.heap.size = b := ⟨_, rfl⟩
  obtain ⟨w2, hw2⟩ : ∃ v, w1.alloc (.cells #[.slice none 0 0, .slice none 0 0, .slice none 0 0, .slice none 0 0, .bool false, .int .i64 0, .int .i64 0, .slice none 0 0, .int .i64 0, .int .u64 0, .slice none 0 0] 41) = v := ⟨_, rfl⟩
  have q1 : w1.heap[b1]? = some (.cells #[.slice sn N cn, .slice ss ns cs, .slice sa na ca, .slice sb nb cb, .bool false, .int .i64 (half : Int), .int .i64 (used : Int), .slice sl nl cl, .int .i64 atr, .int .u64 (turn : Int), .slice sk nk ck] 41 (0, 0)) := by rw [← hw1, ← hb1]; exact World.alloc_heap_new w _
  have k1 : Keeps (fun _ => False) w w1 := by rw [← hw1]; exact (Keeps.refl _ w).alloc _
  have k2 : Keeps (fun _ => False) w1 w2 := by rw [← hw2]; exact (Keeps.refl _ w1).alloc _
  have q2 : w2.heap[b2]? = some (.cells #[.slice none 0 0, .slice none 0 0, .slice none 0 0, .slice none 0 0, .bool false, .int .i64 0, .int .i64 0, .slice none 0 0, .int .i64 0, .int .u64 0, .slice none 0 0] 41 (0, 0)) := by rw [← hw2, ← hb2]; exact World.alloc_heap_new w1 _
  have HQ : Hid (w2.heap[b1]? = some (.cells #[.slice sn N cn, .slice ss ns cs, .slice sa na ca, .slice sb nb cb, .bool false, .int .i64 (half : Int), .int .i64 (used : Int), .slice sl nl cl, .int .i64 atr, .int .u64 (turn : Int), .slice sk nk ck] 41 (0, 0)) ∧ w2.heap[b2]? = some (.cells #[.slice none 0 0, .slice none 0 0, .slice none 0 0, .slice none 0 0, .bool false, .int .i64 0, .int .i64 0, .slice none 0 0, .int .i64 0, .int .u64 0, .slice none 0 0] 41 (0, 0)) ∧ (w.heap.size = b1 ∧ b2 = b1 + 1 ∧ w2.heap.size = b1 + 2) ∧ Keeps (fun _ => False) w w2) := Lib.hid ⟨(k2.block b1 (lt_of_heap q1) (fun h => h)).trans q1, q2, ⟨hb1, by rw [← hb2, ← hw1, ← hb1]; simp, by rw [← hw2, World.size_alloc, hb2, ← hb2, ← hw1, World.size_alloc, hb1]⟩, k1.quiet k2⟩
  have c0 := cellAt HQ.out.1 0
  have c1 := cellAt HQ.out.1 1
  have c2 := cellAt HQ.out.1 2
  have c3 := cellAt HQ.out.1 3
  have c4 := cellAt HQ.out.1 4
  have c5 := cellAt HQ.out.1 5
  have c6 := cellAt HQ.out.1 6
  have c7 := cellAt HQ.out.1 7
  have c8 := cellAt HQ.out.1 8
  have c9 := cellAt HQ.out.1 9
  have c10 := cellAt HQ.out.1 10
  simp at c0 c1 c2 c3 c4 c5 c6 c7 c8 c9 c10
  clear q1 q2 k1 k2
  go_wp2_with fail
  refine (HRM.out w2).mono ?_
  rintro e w3 ⟨rfl, hk⟩
  have h13 := (hk.block b1 (lt_of_heap HQ.out.1) (fun h => h)).trans HQ.out.1
  have h23 := (hk.block b2 (lt_of_heap HQ.out.2.1) (fun h => h)).trans HQ.out.2.1
  have h24 := heap_eleven h23 (.slice sn N cn) (.slice ss ns cs) (.slice sa na ca) (.slice sb nb cb) (.bool false) (.int .i64 (half : Int)) (.int .i64 (used : Int)) (.slice sl nl cl) (.int .i64 atr) (.int .u64 (turn : Int)) (.slice sk nk ck)
  have k24 := keeps_eleven w3 b2 (.slice sn N cn) (.slice ss ns cs) (.slice sa na ca) (.slice sb nb cb) (.bool false) (.int .i64 (half : Int)) (.int .i64 (used : Int)) (.slice sl nl cl) (.int .i64 atr) (.int .u64 (turn : Int)) (.slice sk nk ck)
  obtain ⟨x1, hx1⟩ : ∃ v, (((((((((((w3.setCell ⟨b2, 0, none⟩ (.slice sn N cn)).setCell ⟨b2, 1, none⟩ (.slice ss ns cs)).setCell ⟨b2, 2, none⟩ (.slice sa na ca)).setCell ⟨b2, 3, none⟩ (.slice sb nb cb)).setCell ⟨b2, 4, none⟩ (.bool false)).setCell ⟨b2, 5, none⟩ (.int .i64 (half : Int))).setCell ⟨b2, 6, none⟩ (.int .i64 (used : Int))).setCell ⟨b2, 7, none⟩ (.slice sl nl cl)).setCell ⟨b2, 8, none⟩ (.int .i64 atr)).setCell ⟨b2, 9, none⟩ (.int .u64 (turn : Int))).setCell ⟨b2, 10, none⟩ (.slice sk nk ck)) = v := ⟨_, rfl⟩
  rw [hx1] at h24 k24
  have HK : Hid (Keeps (fun _ => False) w x1) := Lib.hid ((HQ.out.2.2.2.quiet hk).trans k24 (fun j hj e => by have := HQ.out.2.2.1; omega))
  have d0 := cellAt h13 0
  have d1 := cellAt h13 1
  have d2 := cellAt h13 2
  have d3 := cellAt h13 3
  have d4 := cellAt h13 4
  have d5 := cellAt h13 5
  have d6 := cellAt h13 6
  have d7 := cellAt h13 7
  have d8 := cellAt h13 8
  have d9 := cellAt h13 9
  have d10 := cellAt h13 10
  have z0 := cellAt h23 0
  have z1 := cellAt h23 1
  have z2 := cellAt h23 2
  have z3 := cellAt h23 3
  have z4 := cellAt h23 4
  have z5 := cellAt h23 5
  have z6 := cellAt h23 6
  have z7 := cellAt h23 7
  have z8 := cellAt h23 8
  have z9 := cellAt h23 9
  have z10 := cellAt h23 10
  have f0 := freeAt h23 0
  have f1 := freeAt h23 1
  have f2 := freeAt h23 2
  have f3 := freeAt h23 3
  have f4 := freeAt h23 4
  have f5 := freeAt h23 5
  have f6 := freeAt h23 6
  have f7 := freeAt h23 7
  have f8 := freeAt h23 8
  have f9 := freeAt h23 9
  have f10 := freeAt h23 10
  have n0 := cellAt h24 0
  have n1 := cellAt h24 1
  have n2 := cellAt h24 2
  have n3 := cellAt h24 3
  have n4 := cellAt h24 4
  have n5 := cellAt h24 5
  have n6 := cellAt h24 6
  have n7 := cellAt h24 7
  have n8 := cellAt h24 8
  have n9 := cellAt h24 9
  have n10 := cellAt h24 10
  simp at d0 d1 d2 d3 d4 d5 d6 d7 d8 d9 d10 z0 z1 z2 z3 z4 z5 z6 z7 z8 z9 z10 n0 n1 n2 n3 n4 n5 n6 n7 n8 n9 n10
  clear c0 c1 c2 c3 c4 c5 c6 c7 c8 c9 c10
  clear hk h13 h23 h24 k24 HRM hw1 hw2 hb1 hb2
  go_wp2
  refine bodyPost_ret (v := .tuple #[.agg #[.slice sn N cn, .slice ss ns cs, .slice sa na ca, .slice sb nb cb, .bool false, .int .i64 (half : Int), .int .i64 (used : Int), .slice sl nl cl, .int .i64 atr, .int .u64 (turn : Int), .slice sk nk ck], .int .i64 3]) (by simp [results, Try.results34, go_sem, n0, n1, n2, n3, n4, n5, n6, n7, n8, n9, n10]) rfl ⟨rfl, HK.out⟩

set_option maxHeartbeats 4000000 in
set_option maxRecDepth 10000 in
theorem refAppend_raw (sn ss sa sb sl sk sx : Option Addr) (N cn ns cs na ca nb cb nl cl nk ck nx cx half used turn : Nat) (atr : Int) (D : DS) (vs : List Value) (rs : List (List UInt8)) (x : List UInt8) (w : World) (hD : RefAt w 0 #[.slice sn N cn, .slice ss ns cs, .slice sa na ca, .slice sb nb cb, .bool false] D) (hcr : D.cr = false) (hN : D.now.length = N) (hN2 : N ≤ 65536) (hlo : D.lo.length ≤ 600000) (hhN : half ≤ N) (hu : used ≤ half)
    (hl : Sl w sl nl cl vs) (hvs : RowsS w vs rs) (hnl : nl ≤ 70000) (hx : Sl w sx nx cx (BV x)) (hroom : (nx : Int) ≤ max ((half : Int) - (used : Int) - 10) (-1)) :
    Calls Try.prog 34 #[.agg #[.slice sn N cn, .slice ss ns cs, .slice sa na ca, .slice sb nb cb, .bool false, .int .i64 (half : Int), .int .i64 (used : Int), .slice sl nl cl, .int .i64 atr, .int .u64 (turn : Int), .slice sk nk ck], .slice sx nx cx] w (ActPost w #[.slice sn N cn, .slice ss ns cs, .slice sa na ca, .slice sb nb cb, .bool false] (D.write used (recF x)).sync (fun y => [.int .i64 (half : Int), .int .i64 ((used + (nx + 10) : Nat) : Int), y, .int .i64 atr, .int .u64 (turn : Int), .slice sk nk ck])
      (fun w' y => ∃ sy cy, y = .slice sy (nl + 1) cy ∧ Sl w' sy (nl + 1) cy (vs ++ [.slice sx nx cx]) ∧ InR (fun j => w.heap.size ≤ j) y)) := by
  have hxl : x.length = nx := by have := hx.len; simpa using this
  have hnx : used + (nx + 10) ≤ half := by omega
  have HRM : Hid (∀ u : World, Calls Try.prog 35 #[.agg #[.slice sn N cn, .slice ss ns cs, .slice sa na ca, .slice sb nb cb, .bool false, .int .i64 (half : Int), .int .i64 (used : Int), .slice sl nl cl, .int .i64 atr, .int .u64 (turn : Int), .slice sk nk ck]] u fun e w' => e = .returned (.int .i64 (max ((half : Int) - (used : Int) - 10) (-1))) ∧ Keeps (fun _ => False) u w') := Lib.hid (fun u => refRoom_any _ _ _ _ _ _ _ _ _ half used u (by omega) hu)
  obtain ⟨rm, hrm⟩ : ∃ z, max ((half : Int) - (used : Int) - 10) (-1) = z := ⟨_, rfl⟩
  rw [hrm] at HRM hroom
  have hgt : ¬ (nx : Int) > rm := by omega
  have HRC : Hid (∀ u : World, Keeps (fun _ => False) w u → Calls Try.prog 16 #[.slice sx nx cx] u fun e w' => ∃ sb cb, e = .returned (.slice sb (nx + 10) cb) ∧ w'.ownsRow u.heap.size 5 1 (.slice sb (nx + 10) cb) (nx + 10) (BV (recF x)) ∧ Keeps (fun _ => False) u w') := Lib.hid (fun u h => refRecord_any sx nx cx x u (hx.quiet h) (by omega))
  have HDD := Lib.hid (And.intro hD (And.intro hcr (And.intro hN (And.intro hN2 hlo))))
  have HLL := Lib.hid (And.intro hl (And.intro (rowsS_one hvs) hnl))
  have HXX := Lib.hid (And.intro hx hxl)
  have HNN := Lib.hid (And.intro hhN hnx)
  clear hrm hD hcr hN hN2 hlo hhN hu hl hvs hnl hx hxl hroom hnx
  go_enter Try.func34, Try.ntmps34
  obtain ⟨b1, hb1⟩ : ∃ b, w.heap.size = b := ⟨_, rfl⟩
  obtain ⟨w1, hw1⟩ : ∃ v, w.alloc (.cells #[.slice sn N cn, .slice ss ns cs, .slice sa na ca, .slice sb nb cb, .bool false, .int .i64 (half : Int), .int .i64 (used : Int), .slice sl nl cl, .int .i64 atr, .int .u64 (turn : Int), .slice sk nk ck] 41) = v := ⟨_, rfl⟩
  obtain ⟨b2, hb2⟩ : ∃ b, w1.heap.size = b := ⟨_, rfl⟩
  obtain ⟨w2, hw2⟩ : ∃ v, w1.alloc (.cells #[.slice none 0 0, .slice none 0 0, .slice none 0 0, .slice none 0 0, .bool false, .int .i64 0, .int .i64 0, .slice none 0 0, .int .i64 0, .int .u64 0, .slice none 0 0] 41) = v := ⟨_, rfl⟩
  have q1 : w1.heap[b1]? = some (.cells #[.slice sn N cn, .slice ss ns cs, .slice sa na ca, .slice sb nb cb, .bool false, .int .i64 (half : Int), .int .i64 (used : Int), .slice sl nl cl, .int .i64 atr, .int .u64 (turn : Int), .slice sk nk ck] 41 (0, 0)) := by rw [← hw1, ← hb1]; exact World.alloc_heap_new w _
  have k1 : Keeps (fun _ => False) w w1 := by rw [← hw1]; exact (Keeps.refl _ w).alloc _
  have k2 : Keeps (fun _ => False) w1 w2 := by rw [← hw2]; exact (Keeps.refl _ w1).alloc _
  have q2 : w2.heap[b2]? = some (.cells #[.slice none 0 0, .slice none 0 0, .slice none 0 0, .slice none 0 0, .bool false, .int .i64 0, .int .i64 0, .slice none 0 0, .int .i64 0, .int .u64 0, .slice none 0 0] 41 (0, 0)) := by rw [← hw2, ← hb2]; exact World.alloc_heap_new w1 _
  have HQ : Hid (w2.heap[b1]? = some (.cells #[.slice sn N cn, .slice ss ns cs, .slice sa na ca, .slice sb nb cb, .bool false, .int .i64 (half : Int), .int .i64 (used : Int), .slice sl nl cl, .int .i64 atr, .int .u64 (turn : Int), .slice sk nk ck] 41 (0, 0)) ∧ w2.heap[b2]? = some (.cells #[.slice none 0 0, .slice none 0 0, .slice none 0 0, .slice none 0 0, .bool false, .int .i64 0, .int .i64 0, .slice none 0 0, .int .i64 0, .int .u64 0, .slice none 0 0] 41 (0, 0)) ∧ (w.heap.size = b1 ∧ b2 = b1 + 1 ∧ w2.heap.size = b1 + 2) ∧ Keeps (fun _ => False) w w2) := Lib.hid ⟨(k2.block b1 (lt_of_heap q1) (fun h => h)).trans q1, q2, ⟨hb1, by rw [← hb2, ← hw1, ← hb1]; simp, by rw [← hw2, World.size_alloc, hb2, ← hb2, ← hw1, World.size_alloc, hb1]⟩, k1.quiet k2⟩
  have c0 := cellAt HQ.out.1 0
  have c1 := cellAt HQ.out.1 1
  have c2 := cellAt HQ.out.1 2
  have c3 := cellAt HQ.out.1 3
  have c4 := cellAt HQ.out.1 4
  have c5 := cellAt HQ.out.1 5
  have c6 := cellAt HQ.out.1 6
  have c7 := cellAt HQ.out.1 7
  have c8 := cellAt HQ.out.1 8
  have c9 := cellAt HQ.out.1 9
  have c10 := cellAt HQ.out.1 10
  simp at c0 c1 c2 c3 c4 c5 c6 c7 c8 c9 c10
  clear q1 q2 k1 k2
  go_wp2_with fail
  refine (HRM.out w2).mono ?_
  rintro e w3 ⟨rfl, hk⟩
  have HK3 : Hid (Keeps (fun _ => False) w w3) := Lib.hid (HQ.out.2.2.2.quiet hk)
  have HQ3 : Hid (w3.heap[b1]? = some (.cells #[.slice sn N cn, .slice ss ns cs, .slice sa na ca, .slice sb nb cb, .bool false, .int .i64 (half : Int), .int .i64 (used : Int), .slice sl nl cl, .int .i64 atr, .int .u64 (turn : Int), .slice sk nk ck] 41 (0, 0)) ∧ w3.heap[b2]? = some (.cells #[.slice none 0 0, .slice none 0 0, .slice none 0 0, .slice none 0 0, .bool false, .int .i64 0, .int .i64 0, .slice none 0 0, .int .i64 0, .int .u64 0, .slice none 0 0] 41 (0, 0))) := Lib.hid ⟨(hk.block b1 (lt_of_heap HQ.out.1) (fun h => h)).trans HQ.out.1, (hk.block b2 (lt_of_heap HQ.out.2.1) (fun h => h)).trans HQ.out.2.1⟩
  clear HRM hk hw1 hw2 hb1 hb2 c0 c1 c2 c3 c4 c5 c6 c7 c8 c9 c10
  go_wp2_with fail
  refine (HRC.out w3 HK3.out).mono ?_
  rintro e w4 ⟨s7, e7, rfl, ho7, hk⟩
  have HK4 : Hid (Keeps (fun _ => False) w w4) := Lib.hid (HK3.out.quiet hk)
  have h14 := (hk.block b1 (lt_of_heap HQ3.out.1) (fun h => h)).trans HQ3.out.1
  have h24 := (hk.block b2 (lt_of_heap HQ3.out.2) (fun h => h)).trans HQ3.out.2
  have HQ4 := Lib.hid (And.intro h14 h24)
  obtain ⟨g7, hg7⟩ := own_some ho7 (by omega)
  subst hg7
  have HW := Lib.hid (refWrite_ok 0 used (nx + 10) (recF x) (by rw [recF_length, HXX.out.2]) (some ⟨g7, 0, none⟩) g7 0 e7 (fun _ => rfl) D #[.slice sn N cn, .slice ss ns cs, .slice sa na ca, .slice sb nb cb, .bool false] w4 (fun j c hc => by rw [Nat.zero_add]; exact own_cell ho7 j _ (by rw [BV_get, hc]; rfl)) (HDD.out.1.keep HK4.out (fun _ _ _ h => h)) HDD.out.2.1 N HDD.out.2.2.1 (by have := HNN.out; omega) HDD.out.2.2.2.1 (by have := HNN.out; omega) (by have := HDD.out.2.2.2.2; omega) (Nat.zero_le _))
  have c0 := cellAt h14 0
  have c1 := cellAt h14 1
  have c2 := cellAt h14 2
  have c3 := cellAt h14 3
  have c4 := cellAt h14 4
  have c5 := cellAt h14 5
  have c6 := cellAt h14 6
  have c7 := cellAt h14 7
  have c8 := cellAt h14 8
  have c9 := cellAt h14 9
  have c10 := cellAt h14 10
  simp at c0 c1 c2 c3 c4 c5 c6 c7 c8 c9 c10
  obtain ⟨m10, hm10⟩ : ∃ z, nx + 10 = z := ⟨_, rfl⟩
  rw [hm10] at HW ⊢
  have HM := Lib.hid hm10
  clear hk h14 h24 ho7 HRC hgt hm10
  go_wp2_with fail
  refine HW.out.mono ?_
  rintro e w5 ⟨v1, rfl, hra, hk, hrg⟩
  obtain ⟨sn1, cn1, ss1, cs1, sa1, ca1, sb1, cb1, rfl, _⟩ := hra.rows
  have hlen1 : (D.write used (recF x)).now.length = N := by rw [write_len D used _ (by rw [recF_length, HXX.out.2, HDD.out.2.2.1]; have := HNN.out; omega)]; exact HDD.out.2.2.1
  have hcr1 : (D.write used (recF x)).cr = false := HDD.out.2.1
  obtain ⟨D1, hD1⟩ : ∃ d, D.write used (recF x) = d := ⟨_, rfl⟩
  rw [hD1] at hra hrg hlen1 hcr1 ⊢
  rw [hcr1, hlen1] at hra hrg ⊢
  obtain ⟨s1_, hs1_⟩ : ∃ n, D1.sure.length = n := ⟨_, rfl⟩
  obtain ⟨a1_, ha1_⟩ : ∃ n, D1.lo.length = n := ⟨_, rfl⟩
  rw [hs1_, ha1_] at hra hrg ⊢
  have hs25 : w5.heap.size ≥ b1 + 2 := by have h1 := HK4.out.size; have h2 := hk.size; have h3 := lt_of_heap HQ4.out.2; have h4 := HQ.out.2.2.1; omega
  have HK5 : Hid (Keeps (fun _ => False) w w5) := Lib.hid (HK4.out.quiet hk)
  have HQ5 : Hid (w5.heap[b1]? = some (.cells #[.slice sn N cn, .slice ss ns cs, .slice sa na ca, .slice sb nb cb, .bool false, .int .i64 (half : Int), .int .i64 (used : Int), .slice sl nl cl, .int .i64 atr, .int .u64 (turn : Int), .slice sk nk ck] 41 (0, 0)) ∧ w5.heap[b2]? = some (.cells #[.slice none 0 0, .slice none 0 0, .slice none 0 0, .slice none 0 0, .bool false, .int .i64 0, .int .i64 0, .slice none 0 0, .int .i64 0, .int .u64 0, .slice none 0 0] 41 (0, 0))) := Lib.hid ⟨(hk.block b1 (lt_of_heap HQ4.out.1) (fun h => h)).trans HQ4.out.1, (hk.block b2 (lt_of_heap HQ4.out.2) (fun h => h)).trans HQ4.out.2⟩
  obtain ⟨b4, hb4⟩ : ∃ b, w5.heap.size = b := ⟨_, rfl⟩
  obtain ⟨y1, hy1⟩ : ∃ v, w5.alloc (.cells #[.slice none 0 0, .slice none 0 0, .slice none 0 0, .slice none 0 0, .bool false] 38) = v := ⟨_, rfl⟩
  have h41 : y1.heap[b4]? = some (.cells #[.slice none 0 0, .slice none 0 0, .slice none 0 0, .slice none 0 0, .bool false] 38 (0, 0)) := by rw [← hy1, ← hb4]; exact World.alloc_heap_new w5 _
  have ky1 : Keeps (fun _ => False) w5 y1 := by rw [← hy1]; exact (Keeps.refl _ w5).alloc _
  have h42 := heap_five h41 (.slice sn1 N cn1) (.slice ss1 s1_ cs1) (.slice sa1 a1_ ca1) (.slice sb1 a1_ cb1) (.bool false)
  have k42 := keeps_five y1 b4 (.slice sn1 N cn1) (.slice ss1 s1_ cs1) (.slice sa1 a1_ ca1) (.slice sb1 a1_ cb1) (.bool false)
  obtain ⟨y2, hy2⟩ : ∃ v, (((((y1.setCell ⟨b4, 0, none⟩ (.slice sn1 N cn1)).setCell ⟨b4, 1, none⟩ (.slice ss1 s1_ cs1)).setCell ⟨b4, 2, none⟩ (.slice sa1 a1_ ca1)).setCell ⟨b4, 3, none⟩ (.slice sb1 a1_ cb1)).setCell ⟨b4, 4, none⟩ (.bool false)) = v := ⟨_, rfl⟩
  rw [hy2] at h42 k42
  have ky2 : Keeps (fun _ => False) w5 y2 := ky1.trans k42 (fun j hj e => by omega)
  have hra2 := hra.keep ky2 (fun _ _ _ h => h)
  have HS := Lib.hid (refSync_any 0 D1 _ y2 hra2 hcr1 (by rw [hlen1]; exact HDD.out.2.2.2.1) (Nat.zero_le _))
  have HG1 := Lib.hid (And.intro hrg (And.intro hD1 (And.intro hlen1 hcr1)))
  have HB4 := Lib.hid (And.intro hb4 hs25)
  have HZ45 := Lib.hid hk.size
  have HQY : Hid (y2.heap[b4]? = some (.cells #[.slice sn1 N cn1, .slice ss1 s1_ cs1, .slice sa1 a1_ ca1, .slice sb1 a1_ cb1, .bool false] 38 (0, 0)) ∧ Keeps (fun _ => False) w5 y2) := Lib.hid ⟨h42, ky2⟩
  have p0 := cellAt h41 0
  have p1 := cellAt h41 1
  have p2 := cellAt h41 2
  have p3 := cellAt h41 3
  have p4 := cellAt h41 4
  have r0 := freeAt h41 0
  have r1 := freeAt h41 1
  have r2 := freeAt h41 2
  have r3 := freeAt h41 3
  have r4 := freeAt h41 4
  simp at p0 p1 p2 p3 p4
  have q0 := cellAt h42 0
  have q1 := cellAt h42 1
  have q2 := cellAt h42 2
  have q3 := cellAt h42 3
  have q4 := cellAt h42 4
  simp at q0 q1 q2 q3 q4
  clear hk hra hra2 hrg h41 ky1 h42 k42 ky2 hs1_ ha1_ hs25 HW hlen1 hcr1 hD1
  go_wp2_with fail
  refine HS.out.mono ?_
  rintro e w6 ⟨v2, rfl, hra, hk, hrg⟩
  obtain ⟨sn2, cn2, ss2, cs2, sa2, ca2, sb2, cb2, rfl, _⟩ := hra.rows
  have hcr2 : D1.sync.cr = false := HG1.out.2.2.2
  have hlen2 : D1.sync.now.length = N := HG1.out.2.2.1
  obtain ⟨D2, hD2⟩ : ∃ d, D1.sync = d := ⟨_, rfl⟩
  rw [hD2] at hra hrg hlen2 hcr2 ⊢
  rw [hcr2, hlen2] at hra hrg ⊢
  obtain ⟨s2_, hs2_⟩ : ∃ n, D2.sure.length = n := ⟨_, rfl⟩
  obtain ⟨a2_, ha2_⟩ : ∃ n, D2.lo.length = n := ⟨_, rfl⟩
  rw [hs2_, ha2_] at hra hrg ⊢
  have k56 : Keeps (fun _ => False) w5 w6 := HQY.out.2.quiet hk
  have h46 := (hk.block b4 (lt_of_heap HQY.out.1) (fun h => h)).trans HQY.out.1
  have h16 := (k56.block b1 (lt_of_heap HQ5.out.1) (fun h => h)).trans HQ5.out.1
  have h26 := (k56.block b2 (lt_of_heap HQ5.out.2) (fun h => h)).trans HQ5.out.2
  have hne : b1 ≠ b4 ∧ b2 ≠ b4 ∧ b1 ≠ b2 := by have h1 := HB4.out; have h2 := HQ.out.2.2.1; omega
  have h43 := heap_five h46 (.slice sn2 N cn2) (.slice ss2 s2_ cs2) (.slice sa2 a2_ ca2) (.slice sb2 a2_ cb2) (.bool false)
  have k43 := keeps_five w6 b4 (.slice sn2 N cn2) (.slice ss2 s2_ cs2) (.slice sa2 a2_ ca2) (.slice sb2 a2_ cb2) (.bool false)
  obtain ⟨y3, hy3⟩ : ∃ v, (((((w6.setCell ⟨b4, 0, none⟩ (.slice sn2 N cn2)).setCell ⟨b4, 1, none⟩ (.slice ss2 s2_ cs2)).setCell ⟨b4, 2, none⟩ (.slice sa2 a2_ ca2)).setCell ⟨b4, 3, none⟩ (.slice sb2 a2_ cb2)).setCell ⟨b4, 4, none⟩ (.bool false)) = v := ⟨_, rfl⟩
  rw [hy3] at h43 k43
  have h13 := (k43.block b1 (lt_of_heap h16) hne.1).trans h16
  have h23 := (k43.block b2 (lt_of_heap h26) hne.2.1).trans h26
  have h14 := heap_five11 h13 (.slice sn2 N cn2) (.slice ss2 s2_ cs2) (.slice sa2 a2_ ca2) (.slice sb2 a2_ cb2) (.bool false)
  have k44 := keeps_five y3 b1 (.slice sn2 N cn2) (.slice ss2 s2_ cs2) (.slice sa2 a2_ ca2) (.slice sb2 a2_ cb2) (.bool false)
  obtain ⟨y4, hy4⟩ : ∃ v, (((((y3.setCell ⟨b1, 0, none⟩ (.slice sn2 N cn2)).setCell ⟨b1, 1, none⟩ (.slice ss2 s2_ cs2)).setCell ⟨b1, 2, none⟩ (.slice sa2 a2_ ca2)).setCell ⟨b1, 3, none⟩ (.slice sb2 a2_ cb2)).setCell ⟨b1, 4, none⟩ (.bool false)) = v := ⟨_, rfl⟩
  rw [hy4] at h14 k44
  have h24 := (k44.block b2 (lt_of_heap h23) (Ne.symm hne.2.2)).trans h23
  obtain ⟨u2, hu2⟩ : ∃ z, used + m10 = z := ⟨_, rfl⟩
  have HU := Lib.hid hu2
  have t1 : (used : Int) + (m10 : Int) = (u2 : Int) := by omega
  have t2 : IntKind.i64.wrap (u2 : Int) = (u2 : Int) := IntWalk.i64_in _ (by have h1 := HNN.out; have h2 := HM.out; have h3 := HDD.out.2.2.2.1; omega)
  obtain ⟨y5, hy5⟩ : ∃ v, y4.setCell ⟨b1, 6, none⟩ (.int .i64 (u2 : Int)) = v := ⟨_, rfl⟩
  have h15 : y5.heap[b1]? = some (.cells #[.slice sn2 N cn2, .slice ss2 s2_ cs2, .slice sa2 a2_ ca2, .slice sb2 a2_ cb2, .bool false, .int .i64 (half : Int), .int .i64 (u2 : Int), .slice sl nl cl, .int .i64 atr, .int .u64 (turn : Int), .slice sk nk ck] 41 (0, 0)) := by rw [← hy5, heap_setCell_at h14]; rfl
  have k55 : Keeps (fun j => j = b1) y4 y5 := by rw [← hy5]; exact (Keeps.refl (fun j => j = b1) y4).setCell (p := ⟨b1, 6, none⟩) (fun _ => rfl) _
  have h25 := (k55.block b2 (lt_of_heap h24) (Ne.symm hne.2.2)).trans h24
  obtain ⟨y6, hy6⟩ : ∃ v, y5.alloc (.cells #[] 23) = v := ⟨_, rfl⟩
  have k66 : Keeps (fun _ => False) y5 y6 := by rw [← hy6]; exact (Keeps.refl _ y5).alloc _
  have h1y6 := (k66.block b1 (lt_of_heap h15) (fun h => h)).trans h15
  have h2y6 := (k66.block b2 (lt_of_heap h25) (fun h => h)).trans h25
  have kw6 : Keeps (fun j => j = b4 ∨ j = b1) w6 y6 := (((k43.mono (fun _ _ e => Or.inl e)).trans k44 (fun j _ e => Or.inr e)).trans k55 (fun j _ e => Or.inr e)).trans k66 (fun _ _ h => h.elim)
  have kw5 : Keeps (fun _ => False) w y5 := (HK5.out.quiet k56).trans (((k43.mono (fun _ _ e => Or.inl e)).trans k44 (fun j _ e => Or.inr e)).trans k55 (fun j _ e => Or.inr e)) (fun j hj (e : j = b4 ∨ j = b1) => by have h1 := HB4.out; have h2 := HQ.out.2.2.1; omega)
  have kw : Keeps (fun _ => False) w y6 := kw5.quiet k66
  have hra6 := hra.keep' kw6 (fun s hs j e a => a.elim (fun a => ref_apart hra h46 s hs j e a) (fun a => ref_apartS hra h16 s hs j e a))
  have hrg6 : RGrow w #[.slice sn N cn, .slice ss ns cs, .slice sa na ca, .slice sb nb cb, .bool false] #[.slice sn2 N cn2, .slice ss2 s2_ cs2, .slice sa2 a2_ ca2, .slice sb2 a2_ cb2, .bool false] := RGrow.rfl'.far (HG1.out.1.far hrg (Nat.le_trans HZ45.out HQY.out.2.size)) HK4.out.size
  have hsz5 : w.heap.size ≤ y5.heap.size := Nat.le_trans HQ.out.2.2.2.size (by have h1 := lt_of_heap h25; have h2 := HQ.out.2.2.1; omega)
  have HFA := Lib.hid (And.intro hra6 (And.intro hrg6 hD2))
  have HSL := Lib.hid (HLL.out.1.quiet kw5)
  have HKW := Lib.hid kw
  have hra5 := hra.keep' (((k43.mono (fun _ _ e => Or.inl e)).trans k44 (fun j _ e => Or.inr e)).trans k55 (fun j _ e => Or.inr e) : Keeps (fun j => j = b4 ∨ j = b1) w6 y5) (fun s hs j e a => a.elim (fun a => ref_apart hra h46 s hs j e a) (fun a => ref_apartS hra h16 s hs j e a))
  have HQ7 := Lib.hid (And.intro h15 (And.intro h25 (And.intro kw5 (And.intro hra5 (And.intro (ref_apartS hra5 h15) (ref_apartS hra5 h25))))))
  have HQ6 := Lib.hid (And.intro h1y6 (And.intro h2y6 (And.intro hne.2.2 (And.intro (lt_of_heap h25) hsz5))))
  have p0 := cellAt h46 0
  have p1 := cellAt h46 1
  have p2 := cellAt h46 2
  have p3 := cellAt h46 3
  have p4 := cellAt h46 4
  have r0 := freeAt h46 0
  have r1 := freeAt h46 1
  have r2 := freeAt h46 2
  have r3 := freeAt h46 3
  have r4 := freeAt h46 4
  simp at p0 p1 p2 p3 p4
  have g0 := cellAt h43 0
  have g1 := cellAt h43 1
  have g2 := cellAt h43 2
  have g3 := cellAt h43 3
  have g4 := cellAt h43 4
  simp at g0 g1 g2 g3 g4
  have d0 := cellAt h13 0
  have d1 := cellAt h13 1
  have d2 := cellAt h13 2
  have d3 := cellAt h13 3
  have d4 := cellAt h13 4
  have f0 := freeAt h13 0
  have f1 := freeAt h13 1
  have f2 := freeAt h13 2
  have f3 := freeAt h13 3
  have f4 := freeAt h13 4
  simp at d0 d1 d2 d3 d4
  have e6 := cellAt h14 6
  have ef6 := freeAt h14 6
  simp at e6
  have c7 := cellAt h1y6 7
  simp at c7
  clear hsz5 hk hra hrg hcr2 hlen2 hs2_ ha2_ k56 h46 h16 h26 hne h43 k43 h13 h23 h14 k44 h24 hu2 h15 k55 h25 k66 h1y6 h2y6 kw6 kw kw5 hra5 hra6 hrg6 hD2
  go_wp2_with (at_builtin; first
    | (refine wpList_newV rfl (.tmp 43) (.tmp 45) rfl rfl hy6 sl nl cl vs rfl HSL.out HLL.out.2.1 (by have := HLL.out.2.2; omega) ?_; intro s8 c8 w7 ho8 hk7; have H7 := Lib.hid (And.intro ho8 hk7); clear ho8 hk7)
    | (refine wpList_pushVat w7 sx nx cx rfl (.tmp 46) (.tmp 48) rfl y5.heap.size s8 nl c8 vs rfl H7.out.1 rfl (by have := HLL.out.2.2; omega) H7.out.2.size ?_
       intro s9 c9 w8 ho9 hk8 hat9
       have hb8 : ∀ k, s8 = some ⟨k, 0, none⟩ → y5.heap.size ≤ k := fun k e => (own_lt H7.out.1 e).1
       have hb1y : b1 < y5.heap.size := by have h1 := HQ6.out.2.2.2.1; have h2 := HQ.out.2.2.1; omega
       have h1w8 := (hk8.block b1 (Nat.lt_of_lt_of_le hb1y H7.out.2.size) (fun e => by have := hb8 b1 e; omega)).trans ((H7.out.2.block b1 hb1y (fun h => h)).trans (HQ7.out.1))
       have h2w8 := (hk8.block b2 (Nat.lt_of_lt_of_le HQ6.out.2.2.2.1 H7.out.2.size) (fun e => by have := hb8 b2 e; have := HQ6.out.2.2.2.1; omega)).trans ((H7.out.2.block b2 HQ6.out.2.2.2.1 (fun h => h)).trans (HQ7.out.2.1))
       obtain ⟨y9, hy9⟩ : ∃ v, w8.setCell ⟨b1, 7, none⟩ (.slice s9 (nl + 1) c9) = v := ⟨_, rfl⟩
       have h1y9 : y9.heap[b1]? = some (.cells #[.slice sn2 N cn2, .slice ss2 s2_ cs2, .slice sa2 a2_ ca2, .slice sb2 a2_ cb2, .bool false, .int .i64 (half : Int), .int .i64 (u2 : Int), .slice s9 (nl + 1) c9, .int .i64 atr, .int .u64 (turn : Int), .slice sk nk ck] 41 (0, 0)) := by rw [← hy9, heap_setCell_at h1w8]; rfl
       have k99 : Keeps (fun j => j = b1) w8 y9 := by rw [← hy9]; exact (Keeps.refl (fun j => j = b1) w8).setCell (p := ⟨b1, 7, none⟩) (fun _ => rfl) _
       have h2y9 := (k99.block b2 (lt_of_heap h2w8) (Ne.symm HQ6.out.2.2.1)).trans h2w8
       have h2x := heap_eleven h2y9 (.slice sn2 N cn2) (.slice ss2 s2_ cs2) (.slice sa2 a2_ ca2) (.slice sb2 a2_ cb2) (.bool false) (.int .i64 (half : Int)) (.int .i64 (u2 : Int)) (.slice s9 (nl + 1) c9) (.int .i64 atr) (.int .u64 (turn : Int)) (.slice sk nk ck)
       have kx := keeps_eleven y9 b2 (.slice sn2 N cn2) (.slice ss2 s2_ cs2) (.slice sa2 a2_ ca2) (.slice sb2 a2_ cb2) (.bool false) (.int .i64 (half : Int)) (.int .i64 (u2 : Int)) (.slice s9 (nl + 1) c9) (.int .i64 atr) (.int .u64 (turn : Int)) (.slice sk nk ck)
       obtain ⟨x1, hx1⟩ : ∃ v, (((((((((((y9.setCell ⟨b2, 0, none⟩ (.slice sn2 N cn2)).setCell ⟨b2, 1, none⟩ (.slice ss2 s2_ cs2)).setCell ⟨b2, 2, none⟩ (.slice sa2 a2_ ca2)).setCell ⟨b2, 3, none⟩ (.slice sb2 a2_ cb2)).setCell ⟨b2, 4, none⟩ (.bool false)).setCell ⟨b2, 5, none⟩ (.int .i64 (half : Int))).setCell ⟨b2, 6, none⟩ (.int .i64 (u2 : Int))).setCell ⟨b2, 7, none⟩ (.slice s9 (nl + 1) c9)).setCell ⟨b2, 8, none⟩ (.int .i64 atr)).setCell ⟨b2, 9, none⟩ (.int .u64 (turn : Int))).setCell ⟨b2, 10, none⟩ (.slice sk nk ck)) = v := ⟨_, rfl⟩
       rw [hx1] at h2x kx
       have k58 : Keeps (fun _ => False) y5 w8 := H7.out.2.trans hk8 (fun j hj e => by have := hb8 j e; omega)
       have k5x : Keeps (fun j => j = b1 ∨ j = b2) y5 x1 := ((k58.mono (fun _ _ h => h.elim)).trans k99 (fun j _ e => Or.inl e)).trans kx (fun j _ e => Or.inr e)
       have hww : Keeps (fun _ => False) w x1 := HQ7.out.2.2.1.trans k5x (fun j hj e => by have := HQ.out.2.2.1; omega)
       have ho9x := (own_keep ho9 k99 (fun j e e2 => by have h1 := (own_lt ho9 (form_own ho9 e)).1; have h2 := hb1y; omega))
       have ho9y := own_keep ho9x kx (fun j e e2 => by have h1 := (own_lt ho9x (form_own ho9x e)).1; have h2 := HQ6.out.2.2.2.1; omega)
       have hfin : ActPost w #[.slice sn N cn, .slice ss ns cs, .slice sa na ca, .slice sb nb cb, .bool false] D2 (fun y => [.int .i64 (half : Int), .int .i64 (u2 : Int), y, .int .i64 atr, .int .u64 (turn : Int), .slice sk nk ck])
         (fun w' y => ∃ sy cy, y = .slice sy (nl + 1) cy ∧ Sl w' sy (nl + 1) cy (vs ++ [.slice sx nx cx]) ∧ InR (fun j => w.heap.size ≤ j) y) (.returned (.tuple #[.agg #[.slice sn2 N cn2, .slice ss2 s2_ cs2, .slice sa2 a2_ ca2, .slice sb2 a2_ cb2, .bool false, .int .i64 (half : Int), .int .i64 (u2 : Int), .slice s9 (nl + 1) c9, .int .i64 atr, .int .u64 (turn : Int), .slice sk nk ck], .int .i64 0])) x1 := by
         refine ⟨#[.slice sn2 N cn2, .slice ss2 s2_ cs2, .slice sa2 a2_ ca2, .slice sb2 a2_ cb2, .bool false], .slice s9 (nl + 1) c9, rfl, ?_, HFA.out.2.1, ⟨s9, c9, rfl, Sl.of_own ho9y, ?_⟩, hww⟩
         · exact HQ7.out.2.2.2.1.keep' k5x (fun s hs j e a => a.elim (HQ7.out.2.2.2.2.1 s hs j e) (HQ7.out.2.2.2.2.2 s hs j e))
         · intro ad n c e h0
           simp only [Value.slice.injEq] at e
           rcases own_addr ho9 with ⟨e1, _⟩ | ⟨g', e1⟩
           · rw [e1] at e; cases e.1
           · rw [e1] at e; cases e.1; have h1 := (own_lt ho9 e1).1; have h2 := HQ6.out.2.2.2.2; show w.heap.size ≤ g'; omega
       have HFIN := Lib.hid hfin
       have e7 := cellAt h1w8 7
       have ef7 := freeAt h1w8 7
       simp at e7
       have d0 := cellAt h1y9 0
       have d1 := cellAt h1y9 1
       have d2 := cellAt h1y9 2
       have d3 := cellAt h1y9 3
       have d4 := cellAt h1y9 4
       have d5 := cellAt h1y9 5
       have d6 := cellAt h1y9 6
       have d7 := cellAt h1y9 7
       have d8 := cellAt h1y9 8
       have d9 := cellAt h1y9 9
       have d10 := cellAt h1y9 10
       simp at d0 d1 d2 d3 d4 d5 d6 d7 d8 d9 d10
       have z0 := cellAt h2y9 0
       have z1 := cellAt h2y9 1
       have z2 := cellAt h2y9 2
       have z3 := cellAt h2y9 3
       have z4 := cellAt h2y9 4
       have z5 := cellAt h2y9 5
       have z6 := cellAt h2y9 6
       have z7 := cellAt h2y9 7
       have z8 := cellAt h2y9 8
       have z9 := cellAt h2y9 9
       have z10 := cellAt h2y9 10
       have f0 := freeAt h2y9 0
       have f1 := freeAt h2y9 1
       have f2 := freeAt h2y9 2
       have f3 := freeAt h2y9 3
       have f4 := freeAt h2y9 4
       have f5 := freeAt h2y9 5
       have f6 := freeAt h2y9 6
       have f7 := freeAt h2y9 7
       have f8 := freeAt h2y9 8
       have f9 := freeAt h2y9 9
       have f10 := freeAt h2y9 10
       simp at z0 z1 z2 z3 z4 z5 z6 z7 z8 z9 z10
       have n0 := cellAt h2x 0
       have n1 := cellAt h2x 1
       have n2 := cellAt h2x 2
       have n3 := cellAt h2x 3
       have n4 := cellAt h2x 4
       have n5 := cellAt h2x 5
       have n6 := cellAt h2x 6
       have n7 := cellAt h2x 7
       have n8 := cellAt h2x 8
       have n9 := cellAt h2x 9
       have n10 := cellAt h2x 10
       simp at n0 n1 n2 n3 n4 n5 n6 n7 n8 n9 n10
       clear ho9 hk8 hat9 hb8 hb1y h1w8 h2w8 h1y9 k99 h2y9 h2x kx k58 k5x hww ho9x ho9y hfin))
  refine bodyPost_ret (v := .tuple #[.agg #[.slice sn2 N cn2, .slice ss2 s2_ cs2, .slice sa2 a2_ ca2, .slice sb2 a2_ cb2, .bool false, .int .i64 (half : Int), .int .i64 (u2 : Int), .slice s9 (nl + 1) c9, .int .i64 atr, .int .u64 (turn : Int), .slice sk nk ck], .int .i64 0]) (by simp [results, Try.results34, go_sem, n0, n1, n2, n3, n4, n5, n6, n7, n8, n9, n10]) rfl ?_
  rw [HG1.out.2.1, HFA.out.2.2, HM.out, HU.out]
  exact HFIN.out
end Go.Proofs.Ytpojkhjenbbodaa
