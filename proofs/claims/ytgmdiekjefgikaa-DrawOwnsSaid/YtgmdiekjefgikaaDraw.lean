/-
  Secrets that are drawn: New, Next, Below, Used: what they tell. Conditions: fewer than 10^9 that are said and drawn; the numbers are below 2^64.
-/
import Derived.Test.YtgmdiekjefgikaaDrawNext1
import Derived.Laws.EntriesVeiled
namespace Go.Proofs.Ytgmdiekjefgikaa
open Go.RowKit

set_option maxHeartbeats 1000000 in
theorem next_any (db : Nat) (F : Nat → Prop) (seed : Nat) (own : List Nat) (used : Nat) (w : World) (h : Dr w db F seed own used) (hu : used ≤ 1000000000) (hown : ∀ x ∈ own, U64 x) :
    Calls Try.prog 14 #[.pointer (some ⟨db, 0, none⟩)] w fun e w' => e = .returned (.int .u64 (drawn seed own (used + 1) : Int)) ∧ Dr w' db F seed own (used + 1) ∧ Keeps (fun k => k = db) w w' := by
  obtain ⟨dv, ov, sv, so, co, h, rfl⟩ := h
  have c1 := cellAt h.blk 0
  simp at c1
  have HT := Lib.hid (next1_any db dv ov sv so co seed own used w h hu hown)
  clear h hown
  go_enter Try.func14, Try.ntmps14
  go_wp2_with fail
  refine HT.out.mono ?_
  rintro e w1 ⟨rfl, h1, h2⟩
  have H := Lib.hid (And.intro h1 h2)
  clear h1 h2 HT c1
  go_wp2
  go_ret
  exact ⟨rfl, ⟨dv, ov, sv, so, co, H.out.1, rfl⟩, H.out.2⟩

set_option maxHeartbeats 1000000 in
set_option maxRecDepth 10000 in
theorem below_any (db : Nat) (F : Nat → Prop) (seed : Nat) (own : List Nat) (used n : Nat) (w : World) (h : Dr w db F seed own used) (hu : used ≤ 1000000000) (hown : ∀ x ∈ own, U64 x) (hn : 0 < n) (hn2 : n ≤ 9223372036854775807) :
    Calls Try.prog 15 #[.pointer (some ⟨db, 0, none⟩), .int .i64 n] w fun e w' => e = .returned (.int .i64 ((drawn seed own (used + 1) % n : Nat) : Int)) ∧ Dr w' db F seed own (used + 1) ∧ Keeps (fun k => k = db) w w' := by
  obtain ⟨dv, ov, sv, so, co, h, rfl⟩ := h
  have c1 := cellAt h.blk 0
  simp at c1
  have HT := Lib.hid (next1_any db dv ov sv so co seed own used w h hu hown)
  have hd := drawn_pos seed own (used + 1)
  obtain ⟨x, hx⟩ : ∃ x, drawn seed own (used + 1) = x := ⟨_, rfl⟩
  rw [hx] at hd ⊢
  have e1 : IntKind.u64.wrap (n : Int) = (n : Int) := wrap_nat _ _ rfl (by omega)
  obtain ⟨r, hr⟩ : ∃ r, x % n = r := ⟨_, rfl⟩
  have hrn : r < n := by rw [← hr]; exact Nat.mod_lt _ hn
  have e2 : (x : Int) % (n : Int) = (r : Int) := by rw [← hr]; exact (Int.natCast_emod x n).symm
  have e2' : (x : Int).tmod (n : Int) = (r : Int) := by rw [Int.tmod_eq_emod_of_nonneg (by omega)]; exact e2
  have e3 : IntKind.i64.wrap (r : Int) = (r : Int) := IntWalk.i64_in _ (by omega)
  have e4 : ((n : Int) == 0) = false := by simp; omega
  have HX := Lib.hid (And.intro hx hr)
  rw [hr]
  clear h hown hx hr
  go_enter Try.func15, Try.ntmps15
  go_wp2_with fail
  refine HT.out.mono ?_
  rw [HX.out.1]
  rintro e w1 ⟨rfl, h1, h2⟩
  have H := Lib.hid (And.intro h1 h2)
  clear h1 h2 HT c1
  go_wp2
  go_ret
  exact ⟨rfl, ⟨dv, ov, sv, so, co, H.out.1, rfl⟩, H.out.2⟩

theorem used_any (db : Nat) (F : Nat → Prop) (seed : Nat) (own : List Nat) (used : Nat) (w : World) (h : Dr w db F seed own used) :
    Calls Try.prog 16 #[.pointer (some ⟨db, 0, none⟩)] w fun e w' => e = .returned (.int .i64 (used : Int)) ∧ w = w' := by
  obtain ⟨dv, ov, sv, so, co, h, rfl⟩ := h
  have c1 := cellAt h.blk 1
  simp at c1
  clear h
  go_enter Try.func16, Try.ntmps16
  go_wp2
  go_ret
  exact ⟨rfl, rfl⟩

set_option maxHeartbeats 1000000 in
set_option maxRecDepth 10000 in
theorem new_any (seed : Nat) (sa : Option Addr) (n cap : Nat) (l : List Nat) (w : World) (hs : U64 seed) (hl : Sl w sa n cap (NV l)) (hn : n ≤ 1000000000) :
    Calls Try.prog 11 #[.int .u64 seed, .slice sa n cap] w fun e w' => ∃ db F, e = .returned (.pointer (some ⟨db, 0, none⟩)) ∧ Dr w' db F seed l 0 ∧ Keeps (fun _ => False) w w' ∧ ∀ k, F k → w.heap.size ≤ k := by
  have hll : l.length = n := by have := hl.len; simpa using this
  obtain ⟨i0, hi, hz0, hz1, hz2⟩ := info_parts infoU64
  obtain ⟨w0, hw0⟩ : ∃ w0, w.alloc (.cells #[.int .u64 (seed : Int)] 22) = w0 := ⟨_, rfl⟩
  have hk0 : Keeps (fun _ => False) w w0 := by rw [← hw0]; exact (Keeps.refl _ w).alloc _
  have hb0 : w0.heap[w.heap.size]? = some (.cells #[.int .u64 (seed : Int)] 22 (0, 0)) := by rw [← hw0]; exact World.alloc_heap_new w _
  have hs0 : w0.heap.size = w.heap.size + 1 := by rw [← hw0]; simp
  have HL := Lib.hid (And.intro (hl.quiet hk0) (And.intro hll (And.intro hk0 (And.intro hb0 (And.intro hs0 hs)))))
  have HSrc : Hid ((NV l).length = n * 1 ∧ (sa = none → n = 0 ∧ cap = 0) ∧ ∀ ad, sa = some ad → ∀ (j : Nat) (u : Value), (NV l)[j]? = some u → w0.cell? (ad.add j) = some u) := ⟨by rw [NV_length]; omega, hl.nil, (hl.quiet hk0).lies⟩
  clear hl hll hk0 hb0 hs0 hs
  go_enter Try.func11, Try.ntmps11
  go_wp2_with (at_builtin; refine wpList_app _ rfl _ _ 23 rfl w0.heap.size 22 i0 (.int .u64 0) 1 8 Try.underlying23 hi hz0 hz1 hz2 rfl (by decide) (.slice none 0 0) 0 [] rfl (World.ownsRow_nil w0 _ _ _) sa n cap (NV l) rfl HSrc.out.1 HSrc.out.2.1 HSrc.out.2.2 (NV_one _) (by unfold maxLen; omega) (by omega) (Nat.le_refl _) ?_; intro sb cb w1 hown hg hat hnn; have HH := Lib.hid (And.intro hown hg); clear hown hg hat hnn)
  go_ret
  obtain ⟨hown, hg⟩ := HH.out
  rw [Nat.zero_add, List.nil_append] at hown
  obtain ⟨hsl, hll, hk0, hb0, hs0, hsd⟩ := HL.out
  subst hll
  have hk1 : Keeps (fun _ => False) w0 w1 := (Keeps.refl _ w0).grown hg (fun k hk _ => by simp [Value.ownBlock] at hk)
  have hz1 := hk1.size
  obtain ⟨m, hm⟩ : ∃ m, w1.heap.size = m := ⟨_, rfl⟩
  rw [hm]
  obtain ⟨w2, hw2⟩ : ∃ w2, w1.alloc (.cells #[.slice sb l.length cb] 23) = w2 := ⟨_, rfl⟩
  obtain ⟨w3, hw3⟩ : ∃ w3, w2.alloc (.cells #[.func (.func 19) #[] #[.pointer (some ⟨m + 1 + 1, 0, none⟩), .pointer (some ⟨m, 0, none⟩), .pointer (some ⟨w.heap.size, 0, none⟩)], .int .i64 0] 42) = w3 := ⟨_, rfl⟩
  obtain ⟨w4, hw4⟩ : ∃ w4, w3.alloc (.cells #[.pointer (some ⟨m + 1, 0, none⟩)] 26) = w4 := ⟨_, rfl⟩
  have s2 : w2.heap.size = m + 1 := by rw [← hw2, ← hm]; simp
  have s3 : w3.heap.size = m + 1 + 1 := by rw [← hw3]; simp [s2]
  have k2 : Keeps (fun _ => False) w1 w2 := by rw [← hw2]; exact (Keeps.refl _ _).alloc _
  have k3 : Keeps (fun _ => False) w2 w3 := by rw [← hw3]; exact (Keeps.refl _ _).alloc _
  have k4 : Keeps (fun _ => False) w3 w4 := by rw [← hw4]; exact (Keeps.refl _ _).alloc _
  have b2 : w2.heap[m]? = some (.cells #[.slice sb l.length cb] 23 (0, 0)) := by rw [← hw2, ← hm]; exact World.alloc_heap_new w1 _
  have b3 : w3.heap[m + 1]? = some (.cells #[.func (.func 19) #[] #[.pointer (some ⟨m + 1 + 1, 0, none⟩), .pointer (some ⟨m, 0, none⟩), .pointer (some ⟨w.heap.size, 0, none⟩)], .int .i64 0] 42 (0, 0)) := by rw [← hw3, ← s2]; exact World.alloc_heap_new w2 _
  have b4 : w4.heap[m + 1 + 1]? = some (.cells #[.pointer (some ⟨m + 1, 0, none⟩)] 26 (0, 0)) := by rw [← hw4, ← s3]; exact World.alloc_heap_new w3 _
  rw [hw2, hw3, hw4]
  have hlo : ∀ ad : Addr, sb = some ad → ∃ g, ad = ⟨g, 0, none⟩ ∧ w0.heap.size ≤ g ∧ g < m := fun ad e => by
    subst e
    rcases own_addr hown with ⟨h, _⟩ | ⟨g, h⟩
    · cases h
    · have h5 := own_lt hown h
      cases h
      exact ⟨g, rfl, h5.1, by omega⟩
  refine ⟨m + 1, DrFoot (m + 1) (m + 1 + 1) m w.heap.size sb l.length, rfl, ⟨m + 1 + 1, m, w.heap.size, sb, cb, ⟨?_, b4, ?_, ?_, ?_, hn, hsd, ⟨by omega, by omega, by omega, ?_⟩⟩, rfl⟩, ?_, ?_⟩
  · exact (k4.block _ (lt_of_heap b3) (fun h => h)).trans b3
  · exact (k4.block _ (by omega) (fun h => h)).trans ((k3.block _ (lt_of_heap b2) (fun h => h)).trans b2)
  · exact (k4.block _ (by omega) (fun h => h)).trans ((k3.block _ (by omega) (fun h => h)).trans ((k2.block _ (by omega) (fun h => h)).trans ((hk1.block _ (lt_of_heap hb0) (fun h => h)).trans hb0)))
  · exact (((Sl.of_own hown).quiet k2).quiet k3).quiet k4
  · intro ad e _
    obtain ⟨g, rfl, _, h5⟩ := hlo ad e
    simp only
    omega
  · exact (((hk0.quiet hk1).quiet k2).quiet k3).quiet k4
  · rintro k (rfl | rfl | rfl | rfl | ⟨ad, e, _, rfl⟩)
    · omega
    · omega
    · omega
    · omega
    · obtain ⟨g, rfl, h4, h5⟩ := hlo ad e
      simp only
      omega
end Go.Proofs.Ytgmdiekjefgikaa
