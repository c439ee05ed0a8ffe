/-
  The sum of a label and bytes (hash.Bytes). Conditions: the label and the bytes take fewer than 10^9 places.
-/
import Derived.Test.YtnnhndnckpnkmaaOf
import Derived.Test.YtnnhndnckpnkmaaCollect
namespace Go.Proofs.Ytnnhndnckpnkmaa
open Go.RowKit Go.Shelf

/-- The sum of bytes. -/
def hby (s l : List UInt8) : Nat := hof s (wordsOf l ++ [l.length])
theorem hby_lt (s l : List UInt8) : hby s l < 2305843009213693951 := hof_lt _ _
theorem wordsOf_lt (l : List UInt8) : ∀ x ∈ wordsOf l, x < 72057594037927936 := by
  intro x hx
  simp only [wordsOf, List.mem_map] at hx
  obtain ⟨j, _, rfl⟩ := hx
  exact wordAt_lt _ _

set_option maxHeartbeats 1000000 in
theorem bytes_any (s : ByteArray) (sa : Option Addr) (n cap : Nat) (l : List UInt8) (w : World) (hs : s.size ≤ 1000000000) (hn : n ≤ 1000000000) (hl : Sl w sa n cap (BV l)) :
    Calls Try.prog 28 #[.string s, .slice sa n cap] w fun e w' => e = .returned (.int .u64 (hby s.data.toList l : Int)) ∧ Keeps (fun _ => False) w w' := by
  have hll : l.length = n := by have := hl.len; simpa using this
  have hwn : IntKind.u64.wrap (n : Int) = (n : Int) := wrap_nat _ _ rfl (by omega)
  have HL := Lib.hid (And.intro hl hll)
  clear hl hll
  go_enter Try.func28, Try.ntmps28
  go_wp2_with fail
  refine (words_any sa n cap w).mono ?_
  rintro e _ ⟨rfl, rfl⟩
  obtain ⟨w1, hw1⟩ : ∃ w1, w.alloc (.cells #[.slice sa n cap] 23) = w1 := ⟨_, rfl⟩
  have hk1 : Keeps (fun _ => False) w w1 := by rw [← hw1]; exact (Keeps.refl _ w).alloc _
  have hq1 : w1.heap[w.heap.size]? = some (.cells #[.slice sa n cap] 23 (0, 0)) := by rw [← hw1]; exact World.alloc_heap_new w _
  have hs1 : w1.heap.size = w.heap.size + 1 := by rw [← hw1]; simp
  rw [hw1]
  have hbo : ∃ b off, 0 < n → sa = some ⟨b, off, none⟩ ∧ b < w.heap.size := by
    by_cases h0 : 0 < n
    · obtain ⟨b, off, rfl⟩ := HL.out.1.isSome h0
      obtain ⟨c, hc⟩ : ∃ c, l[0]? = some c := ⟨_, List.getElem?_eq_getElem (by have := HL.out.2; omega)⟩
      have := World.block_lt_of_cell? w _ (HL.out.1.cell (j := 0) (by rw [BV_get, hc]; rfl))
      exact ⟨b, off, fun _ => ⟨rfl, this⟩⟩
    · exact ⟨0, 0, fun h => (h0 h).elim⟩
  obtain ⟨b, off, hbo⟩ := hbo
  have hseq := words_seq w.heap.size b off n cap sa l w1 hn (HL.out.1.keep hk1 (fun _ _ _ _ h => h)) (fun h => (hbo h).1) hq1
  have HT := Lib.hid (collect_any 42 _ (wordsOf l) 5 _ _ w1 (enters_of Try.func42 (by kernel_rfl) rfl) hseq (by
    rintro k (h | ⟨h1, h2⟩)
    · omega
    · have := (hbo h1).2; omega) (fun _ h => h.elim) (by rw [wordsOf_length]; have := HL.out.2; omega))
  have H1 := Lib.hid (And.intro hk1 hs1)
  clear hw1 hk1 hq1 hs1 hbo hseq
  go_wp2_with fail
  refine HT.out.mono ?_
  rintro e w2 ⟨sb, cb, rfl, hown, hk2⟩
  obtain ⟨nw, hnw⟩ : ∃ nw, (wordsOf l).length = nw := ⟨_, rfl⟩
  have hnwb : nw ≤ 200000000 := by rw [← hnw, wordsOf_length]; have := HL.out.2; omega
  rw [hnw] at hown ⊢
  have H2 := Lib.hid (And.intro hown (And.intro hk2 hnw))
  have hsz := hk2.size
  clear hown hk2 hnw HT
  go_wp2_with (at_builtin; refine wpList_pushN _ (n : Int) rfl _ _ rfl w1.heap.size sb nw cb (NV (wordsOf l)) rfl H2.out.1 rfl (by omega) hsz ?_; intro sa3 cap3 w3 hown2 hk2 hs2; have H3 := Lib.hid (And.intro hown2 (H2.out.2.1.pushed H2.out.1 (Nat.le_refl _) hk2)); clear hown2 hk2)
  have hxl : (wordsOf l ++ [n]).length = nw + 1 := by rw [List.length_append, H2.out.2.2]; rfl
  have HX : Hid (Sl w3 sa3 (nw + 1) cap3 (NV (wordsOf l ++ [n])) ∧ ∀ x ∈ wordsOf l ++ [n], U64 x) := by
    refine ⟨?_, ?_⟩
    · rw [NV_append]; exact Sl.of_own H3.out.1
    · intro x hx
      rcases List.mem_append.1 hx with h | h
      · have := wordsOf_lt l x h; unfold U64; omega
      · simp at h; unfold U64; omega
  clear hxl hs2
  go_wp2_with fail
  refine (of_any s sa3 (nw + 1) cap3 (wordsOf l ++ [n]) w3 hs (by omega) HX.out.1 HX.out.2).mono ?_
  rintro e w4 ⟨rfl, hk4⟩
  have HF : Hid (hof s.data.toList (wordsOf l ++ [n]) = hby s.data.toList l ∧ Keeps (fun _ => False) w w4) := by
    refine ⟨?_, (H1.out.1.trans H3.out.2 (fun _ _ h => h)).trans hk4 (fun _ _ h => h)⟩
    unfold hby
    rw [HL.out.2]
  clear hk4 hwn
  go_wp2
  go_ret
  exact ⟨by rw [HF.out.1]; rfl, HF.out.2⟩
end Go.Proofs.Ytnnhndnckpnkmaa
