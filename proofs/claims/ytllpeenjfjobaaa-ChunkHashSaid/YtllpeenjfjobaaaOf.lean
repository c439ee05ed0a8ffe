/-
  The sum of a label and numbers: what hash.Of tells. Conditions: the label and the numbers take fewer than 10^9 places, the numbers are below 2^64.
-/
import Derived.Test.YtllpeenjfjobaaaWords
import Derived.Test.YtllpeenjfjobaaaConv
namespace Go.Proofs.Ytllpeenjfjobaaa
open Go.RowKit Go.Shelf
attribute [local go_sem] Oper.semAt_some

/-- The sum, from a state on. -/
def hrun : Nat → Nat → List Nat → Nat
  | s, _, [] => s
  | s, k, x :: l => hrun (hstep s (k + 1) x) (k + 1) l
theorem hrun_append (a b : List Nat) : ∀ s k, hrun s k (a ++ b) = hrun (hrun s k a) (k + a.length) b := by
  induction a with
  | nil => intro s k; rfl
  | cons x a ih => intro s k; simp only [List.cons_append, hrun, List.length_cons]; rw [ih]; congr 1; omega
theorem hrun_snoc (a : List Nat) (x s k : Nat) : hrun s k (a ++ [x]) = hstep (hrun s k a) (k + a.length + 1) x := by rw [hrun_append]; rfl
theorem hstep_lt (s k x : Nat) : hstep s k x < 2305843009213693951 := powm_lt _ _
theorem hrun_lt (l : List Nat) : ∀ s k, s < 2305843009213693951 → hrun s k l < 2305843009213693951 := by
  induction l with
  | nil => intro s k h; exact h
  | cons x l ih => intro s k _; exact ih _ _ (hstep_lt _ _ _)
def allOf (s : List UInt8) (l : List Nat) : List Nat := wordsOf s ++ [l.length] ++ l.map num ++ [0]
/-- The sum. -/
def hof (s : List UInt8) (l : List Nat) : Nat := hrun s.length 0 (allOf s l)
theorem hof_lt (s : List UInt8) (l : List Nat) : hof s l < 2305843009213693951 := by
  unfold hof allOf; rw [hrun_snoc]; exact hstep_lt _ _ _

/-- What holds at the head of each round. -/
def OfRel (w : World) (sb db n sz nw : Nat) (ls : List UInt8) (l : List Nat) (i : Value) (wr : World) : Prop :=
  ∃ k : Nat, k ≤ n ∧ i = .int .i64 (k : Int) ∧ wr.heap[sb]? = some (.cells #[.int .u64 (hrun sz 0 (wordsOf ls ++ [l.length] ++ (l.map num).take k) : Nat), .int .u64 ((nw + 1 + k : Nat) : Int)] 51 (0, 0)) ∧ Keeps (fun _ => False) w wr ∧ wr.heap[db]? = some (.deferred (some []))

set_option maxHeartbeats 1000000 in
set_option maxRecDepth 10000 in
theorem of_any (s : ByteArray) (sa : Option Addr) (n cap : Nat) (l : List Nat) (w : World) (hs : s.size ≤ 1000000000) (hn : n ≤ 1000000000) (hl : Sl w sa n cap (NV l)) (hu : ∀ x ∈ l, U64 x) :
    Calls Try.prog 21 #[.string s, .slice sa n cap] w fun e w' => e = .returned (.int .u64 (hof s.data.toList l : Int)) ∧ Keeps (fun _ => False) w w' := by
  have HL := Lib.hid (And.intro hl hu)
  have hnc := hl.le
  have hcb := hl.capB
  clear hl hu
  refine (callsIn_wide (n := 0)).1 ?_
  refine callsIn_of_wp_marks Try.func21 rfl trivial ?_ rfl
  simp only [Try.ntmps21, List.size_toArray, List.length_cons, List.length_nil, Nat.reduceAdd, Nat.reduceSub, Array.replicate_succ, Array.replicate_zero, List.push_toArray, List.append_toArray, List.nil_append, List.cons_append]
  obtain ⟨sb, hsb⟩ : ∃ sb, w.heap.size = sb := ⟨_, rfl⟩
  obtain ⟨ws, hws⟩ : ∃ ws, w.alloc (.cells #[.int .u64 (s.size : Int), .int .u64 0] 51) = ws := ⟨_, rfl⟩
  obtain ⟨capb, w1, hrun, hsl, hk1, hz1⟩ := run_bytes s hs ws
  have hws2 : ws.heap.size = sb + 1 := by rw [← hws, ← hsb]; simp
  have qs : ws.heap[sb]? = some (.cells #[.int .u64 (s.size : Int), .int .u64 0] 51 (0, 0)) := by rw [← hws, ← hsb]; exact World.alloc_heap_new w _
  have hkw : Keeps (fun _ => False) w ws := by rw [← hws]; exact (Keeps.refl _ w).alloc _
  rw [hws2] at hrun hsl hz1
  have qs1 : w1.heap[sb]? = some (.cells #[.int .u64 (s.size : Int), .int .u64 0] 51 (0, 0)) := (hk1.block sb (by omega) (fun h => h)).trans qs
  have hkw1 := hkw.trans hk1 (fun _ _ h => h)
  rw [← hws] at hrun
  have H1 := Lib.hid (And.intro hsl (And.intro hz1 (And.intro qs1 hkw1)))
  have HSB := Lib.hid (And.intro hsb (And.intro hws hws2))
  clear hsl hk1 hz1 hws2 qs hkw qs1 hkw1 hws hsb
  gi_wp2_with fail
  refine ⟨trivial, rfl, (callsIn_wide.2 (words_any _ _ _ _)).mono ?_⟩
  rintro e w2 ⟨rfl, rfl⟩
  clear hrun
  gi_wp2_with fail
  rw [HSB.out.1, H1.out.2.1]
  obtain ⟨W0, hW0⟩ : ∃ W0, w1.alloc (.cells #[.slice (some ⟨sb + 1, 0, none⟩) s.size capb] 22) = W0 := ⟨_, rfl⟩
  have hk0 : Keeps (fun _ => False) w W0 := by rw [← hW0]; exact H1.out.2.2.2.alloc _
  have hsz : W0.heap.size = sb + 3 := by rw [← hW0]; have := H1.out.2.1; simp; omega
  have q0 : W0.heap[sb]? = some (.cells #[.int .u64 (s.size : Int), .int .u64 0] 51 (0, 0)) := by
    rw [← hW0]; exact (Below.heap_alloc _ _ _ (lt_of_heap H1.out.2.2.1)).trans H1.out.2.2.1
  have q1 : W0.heap[sb + 1 + 1]? = some (.cells #[.slice (some ⟨sb + 1, 0, none⟩) s.size capb] 22 (0, 0)) := by
    rw [← hW0]
    have := World.alloc_heap_new w1 (.cells #[.slice (some ⟨sb + 1, 0, none⟩) s.size capb] 22)
    rwa [H1.out.2.1] at this
  have q2 : Sl W0 (some ⟨sb + 1, 0, none⟩) s.size capb (BV s.data.toList) := by
    rw [← hW0]; exact H1.out.1.keep ((Keeps.refl (fun _ => False) w1).alloc _) (fun _ _ _ _ h => h)
  rw [hW0]
  clear hW0
  obtain ⟨ls, hls⟩ : ∃ ls, s.data.toList = ls := ⟨_, rfl⟩
  have hlen : ls.length = s.size := by rw [← hls]; simp
  rw [hls] at q2
  refine wpIn_seq (gf := 38) (lb := #[.pointer (some ⟨sb + 1 + 1, 0, none⟩)]) (xs := wds ls) (m := 5) (T := fun _ => False) (Rd := fun k => k = sb + 1 + 1 ∨ (0 < s.size ∧ k = sb + 1)) rfl (enters_of Try.func38 (by kernel_rfl) rfl)
    (words_seq (sb + 1 + 1) (sb + 1) 0 s.size capb _ ls W0 hs q2 (fun _ => rfl) q1) (by rintro k (h | h) <;> omega) (fun k h => h.elim) ?hps
    (fun i W => W.heap[sb]? = some (.cells #[.int .u64 (hrun s.size 0 ((wordsOf ls).take i) : Nat), .int .u64 ((i : Nat) : Int)] 51 (0, 0)) ∧ Keeps (fun _ => False) w W)
    (fun k => k = sb) (by rintro k rfl; exact ⟨by omega, by omega⟩) ?hI ⟨q0, hk0⟩
    (fun x => { tmps := #[.string s, .slice sa n cap, undef, undef, .int .u64 0, .pointer (some ⟨sb, 0, none⟩), x.getD 0 undef, undef, undef, .string s, .int .i64 (s.size : Int), .int .u64 (s.size : Int), .agg #[.int .u64 (s.size : Int), .int .u64 0], .string s, .slice (some ⟨sb + 1, 0, none⟩) s.size capb, .func (.func 38) #[] #[.pointer (some ⟨sb + 1 + 1, 0, none⟩)], x.getD 0 undef, undef, undef, undef, undef, undef, undef, undef, undef, undef, undef, undef, undef, undef, undef, undef, undef, undef, undef, undef, undef, undef, undef, undef], defers := [] }) ?assign ?body ?done
  case hps =>
    intro x hx
    simp only [wds, List.mem_map] at hx
    obtain ⟨j, _, rfl⟩ := hx
    rfl
  case hI =>
    rintro i A A' ⟨h1, h2⟩ hk
    have := HSB.out.1
    refine ⟨(hk.block sb (lt_of_heap h1) ?_).trans h1, h2.trans hk (fun j hj h => ?_)⟩
    · rintro (h | h)
      · exact h
      · omega
    · rcases h with h | h
      · exact h
      · omega
  case assign =>
    intro l2 x Wx K hx hK
    simp only [wds, List.mem_map] at hx
    obtain ⟨j, _, rfl⟩ := hx
    gi_wp2
    exact hK
  case body =>
    rintro l2 j x Wx hx ⟨h1, h2⟩ hsx
    have hj : j < (wds ls).length := (List.getElem?_eq_some_iff.1 hx).1
    rw [wds_length] at hj
    have hlt : 7 * j < ls.length := by omega
    obtain rfl : #[.int .u64 (wordAt ls j : Int)] = x := by rw [wds_get ls j hlt] at hx; exact Option.some.inj hx
    have hwl := wordAt_lt ls j
    have hnext : hrun s.size 0 ((wordsOf ls).take (j + 1)) = hstep (hrun s.size 0 ((wordsOf ls).take j)) (j + 1) (wordAt ls j) := by
      have hjl : j < (wordsOf ls).length := by rw [wordsOf_length]; omega
      rw [List.take_succ_eq_append_getElem hjl, hrun_snoc, List.length_take, Nat.min_eq_left (by omega), Nat.zero_add]
      congr 1
      simp [wordsOf]
    have hrl := hrun_lt ((wordsOf ls).take j) s.size 0 (by omega)
    have hb2 : (Wx.alloc (.cells #[.int .u64 (wordAt ls j : Int)] 38)).heap[sb]? = some (.cells #[.int .u64 (hrun s.size 0 ((wordsOf ls).take j) : Nat), .int .u64 ((j : Nat) : Int)] 51 (0, 0)) := (Below.heap_alloc _ _ _ (lt_of_heap h1)).trans h1
    have hxc : (Wx.alloc (.cells #[.int .u64 (wordAt ls j : Int)] 38)).cell? ⟨Wx.heap.size, 0, none⟩ = some (.int .u64 (wordAt ls j : Int)) := cellAt (World.alloc_heap_new Wx _) 0
    have HT := Lib.hid (take_one sb Wx.heap.size (hrun s.size 0 ((wordsOf ls).take j)) j (wordAt ls j) 1 _ hb2 hxc hrl (by omega))
    have HX : Hid (∀ (ac : Act) (W' : World), W'.heap[sb]? = some (.cells #[.int .u64 (hstep (hrun s.size 0 ((wordsOf ls).take j)) (j + 1) (wordAt ls j) : Nat), .int .u64 ((j + 1 : Nat) : Int)] 51 (0, 0)) → Keeps (fun k => k = sb) Wx W' → goesOn (fun k => k = sb) (fun i W => W.heap[sb]? = some (.cells #[.int .u64 (hrun s.size 0 ((wordsOf ls).take i) : Nat), .int .u64 ((i : Nat) : Int)] 51 (0, 0)) ∧ Keeps (fun _ => False) w W) j Wx .normal ac W') := by
      intro ac W' h3 h4
      have := HSB.out.1
      refine ⟨h4, ?_, h2.trans h4 (fun j hj h => by omega)⟩
      rw [hnext]; exact h3
    clear hb2 hxc hrl hnext hwl h1 h2 hx hsx hj
    generalize wordAt ls j = x at *
    gi_wp2_with fail
    refine ⟨trivial, rfl, CallsIn.inRound l2 ((callsIn_wide.2 HT.out).mono ?_)⟩
    rintro e W2 ⟨⟨v, rfl⟩, hb3, hk3⟩
    have HF := Lib.hid (And.intro hb3 hk3)
    clear hb3 hk3 HT
    gi_wp2
    exact HX.out _ _ HF.out.1 (((Keeps.refl _ Wx).alloc _).trans HF.out.2 (fun _ _ h => h))
  case done =>
    rintro W ⟨h1, h2⟩ hsW hK
    obtain ⟨nw, hnw⟩ : ∃ nw, (wds ls).length = nw := ⟨_, rfl⟩
    have hnw2 : (wordsOf ls).length = nw := by rw [← hnw, wds_length, wordsOf_length]
    rw [hnw, List.take_of_length_le (by omega)] at h1
    have hnwb : nw ≤ 1000000000 := by rw [← hnw2, wordsOf_length]; omega
    obtain ⟨s1, hs1⟩ : ∃ s1, hrun s.size 0 (wordsOf ls) = s1 := ⟨_, rfl⟩
    have hs1l : s1 < 2305843009213693951 := by rw [← hs1]; exact hrun_lt _ _ _ (by omega)
    rw [hs1] at h1
    obtain ⟨db, hdb⟩ : ∃ db, W0.heap.size = db := ⟨_, rfl⟩
    rw [hdb] at hK ⊢
    have hdb2 : db ≠ sb := by omega
    have hdb3 : w.heap.size ≤ db := by have := HSB.out.1; omega
    have hnl : l.length = n := by have := HL.out.1.len; simpa using this
    have hb2 : (W.alloc (.cells #[.int .u64 (n : Int)] 38)).heap[sb]? = some (.cells #[.int .u64 (s1 : Int), .int .u64 (nw : Int)] 51 (0, 0)) := (Below.heap_alloc _ _ _ (lt_of_heap h1)).trans h1
    have hxc : (W.alloc (.cells #[.int .u64 (n : Int)] 38)).cell? ⟨W.heap.size, 0, none⟩ = some (.int .u64 (n : Int)) := cellAt (World.alloc_heap_new W _) 0
    have HT := Lib.hid (take_one sb W.heap.size s1 nw n 1 _ hb2 hxc hs1l (by omega))
    have HW := Lib.hid (And.intro h1 (And.intro h2 (And.intro hK (And.intro hs1 (And.intro hnw2 (And.intro hnl hls))))))
    clear h1 h2 hK hs1 hnw hnw2 hb2 hxc hs1l hnl hls hsz hdb hsW q0 q1 q2 hk0
    have hwn : IntKind.u64.wrap (n : Int) = (n : Int) := wrap_nat _ _ rfl (by omega)
    gi_wp2_with fail
    refine ⟨trivial, rfl, (callsIn_wide.2 HT.out).mono ?_⟩
    rintro e W2 ⟨⟨v, rfl⟩, hb3, hk3⟩
    have HF : Hid (W2.heap[sb]? = some (.cells #[.int .u64 (hstep s1 (nw + 1) n : Int), .int .u64 ((nw + 1 : Nat) : Int)] 51 (0, 0)) ∧ Keeps (fun _ => False) w W2 ∧ W2.heap[db]? = some (.deferred (some []))) := by
      have h5 := ((Keeps.refl (fun j => j = sb) W).alloc (.cells #[.int .u64 (n : Int)] 38)).trans hk3 (fun _ _ h => h)
      refine ⟨hb3, HW.out.2.1.trans h5 (fun j hj h => by have := HSB.out.1; omega), (h5.block db (lt_of_heap HW.out.2.2.1) (fun h => hdb2 h)).trans HW.out.2.2.1⟩
    clear hb3 hk3 HT hwn
    gi_wp2_with fail
    gi_loopw [27] (fun i wr => OfRel w sb db n s.size nw ls l i wr) (fun i _ => n - (intOf i).toNat)
    case atStart =>
      refine ⟨0, Nat.zero_le _, rfl, ?_, HF.out.2.1, HF.out.2.2⟩
      obtain ⟨_, _, _, hs1, hnw2, hnl, _⟩ := HW.out
      rw [List.take_zero, List.append_nil, hrun_snoc, hs1, hnl, hnw2, Nat.zero_add]
      exact HF.out.1
    case round =>
      obtain ⟨k, hk, rfl, hb, hkp, hdf⟩ := hrel
      obtain ⟨sk, hsk⟩ : ∃ sk, hrun s.size 0 (wordsOf ls ++ [l.length] ++ (l.map num).take k) = sk := ⟨_, rfl⟩
      have hskl : sk < 2305843009213693951 := by rw [← hsk]; exact hrun_lt _ _ _ (by omega)
      rw [hsk] at hb
      have HB := Lib.hid (And.intro hb (And.intro hkp (And.intro hdf hsk)))
      clear hb hkp hdf hsk
      by_cases hlt : k < n
      · obtain ⟨x, hx⟩ : ∃ x, l[k]? = some x := ⟨_, List.getElem?_eq_getElem (by have := HW.out.2.2.2.2.2.1; omega)⟩
        have hxu := HL.out.2 x (List.mem_of_getElem? hx)
        obtain ⟨ba, oa, rfl⟩ := HL.out.1.isSome (by omega)
        have hcell : wr.cell? ⟨ba, oa + k, none⟩ = some (.int .u64 (x : Int)) := (HL.out.1.keep HB.out.2.1 (fun _ _ _ _ h => h)).cell (by rw [NV_get, hx]; rfl)
        have hb2 : (wr.alloc (.cells #[.int .u64 (num x : Int)] 38)).heap[sb]? = some (.cells #[.int .u64 (sk : Int), .int .u64 ((nw + 1 + k : Nat) : Int)] 51 (0, 0)) := (Below.heap_alloc _ _ _ (lt_of_heap HB.out.1)).trans HB.out.1
        have hxc : (wr.alloc (.cells #[.int .u64 (num x : Int)] 38)).cell? ⟨wr.heap.size, 0, none⟩ = some (.int .u64 (num x : Int)) := cellAt (World.alloc_heap_new wr _) 0
        have HT := Lib.hid (take_one sb wr.heap.size sk (nw + 1 + k) (num x) 1 _ hb2 hxc hskl (by have := num_lt x; omega))
        have HX := Lib.hid (And.intro hx hxu)
        clear hb2 hxc hskl hx hxu
        gi_wp2_with fail
        refine ⟨trivial, rfl, (callsIn_wide.2 (num_any x wr HX.out.2)).mono ?_⟩
        rintro e _ ⟨rfl, rfl⟩
        gi_wp2_with fail
        refine ⟨trivial, rfl, (callsIn_wide.2 HT.out).mono ?_⟩
        rintro e W3 ⟨⟨v, rfl⟩, hb3, hk3⟩
        have HR : Hid (OfRel w sb db n s.size nw ls l (.int .i64 ((k : Int) + 1)) W3) := by
          have h5 := ((Keeps.refl (fun j => j = sb) wr).alloc (.cells #[.int .u64 (num x : Int)] 38)).trans hk3 (fun _ _ h => h)
          refine ⟨k + 1, by omega, rfl, ?_, HB.out.2.1.trans h5 (fun j hj h => by have := HSB.out.1; omega), (h5.block db (lt_of_heap HB.out.2.2.1) (fun h => hdb2 h)).trans HB.out.2.2.1⟩
          have e1 : (l.map num).take (k + 1) = (l.map num).take k ++ [num x] := by
            have hkl : k < (l.map num).length := by rw [List.length_map]; exact (List.getElem?_eq_some_iff.1 HX.out.1).1
            rw [List.take_succ_eq_append_getElem hkl]
            congr 2
            rw [List.getElem_map]
            congr 1
            exact (List.getElem?_eq_some_iff.1 HX.out.1).2
          have e2 : (wordsOf ls ++ [l.length] ++ (l.map num).take k).length = nw + 1 + k := by
            have h8 := HW.out.2.2.2.2.1
            have h9 := HW.out.2.2.2.2.2.1
            simp only [List.length_append, List.length_cons, List.length_nil, List.length_take, List.length_map]
            omega
          rw [e1, ← List.append_assoc, hrun_snoc, e2, HB.out.2.2.2, Nat.zero_add]
          exact hb3
        clear hb3 hk3 HT hcell
        gi_wp2
        go_roundw
        case rel => exact HR.out
        case measure => simp [intOf]; omega
      · obtain rfl : k = n := by omega
        have hb2 : (wr.alloc (.cells #[.int .u64 0] 38)).heap[sb]? = some (.cells #[.int .u64 (sk : Int), .int .u64 ((nw + 1 + k : Nat) : Int)] 51 (0, 0)) := (Below.heap_alloc _ _ _ (lt_of_heap HB.out.1)).trans HB.out.1
        have hxc : (wr.alloc (.cells #[.int .u64 0] 38)).cell? ⟨wr.heap.size, 0, none⟩ = some (.int .u64 ((0 : Nat) : Int)) := cellAt (World.alloc_heap_new wr _) 0
        have HT := Lib.hid (take_one sb wr.heap.size sk (nw + 1 + k) 0 1 _ hb2 hxc hskl (by omega))
        clear hb2 hxc hskl
        gi_wp2_with fail
        refine ⟨trivial, rfl, (callsIn_wide.2 HT.out).mono ?_⟩
        rintro e W3 ⟨⟨v, rfl⟩, hb3, hk3⟩
        have hfin : hstep sk (nw + 1 + k + 1) 0 = hof s.data.toList l := by
          obtain ⟨_, _, _, _, h8, h9, h10⟩ := HW.out
          unfold hof allOf
          rw [h10, hlen, hrun_snoc]
          have e2 : (wordsOf ls ++ [l.length] ++ l.map num).length = nw + 1 + k := by
            simp only [List.length_append, List.length_cons, List.length_nil, List.length_map]
            omega
          have h11 := HB.out.2.2.2
          rw [List.take_of_length_le (by rw [List.length_map]; omega)] at h11
          rw [e2, h11, Nat.zero_add]
        rw [hfin] at hb3
        have c1 := cellAt hb3 0
        simp at c1
        have HF2 : Hid (Keeps (fun _ => False) w (W3.putObj db (.deferred none)) ∧ W3.heap[db]? = some (.deferred (some []))) := by
          have h5 := ((Keeps.refl (fun j => j = sb) wr).alloc (.cells #[.int .u64 0] 38)).trans hk3 (fun _ _ h => h)
          refine ⟨(HB.out.2.1.trans h5 (fun j hj h => by have := HSB.out.1; omega)).putObj _ (fun h => by omega), (h5.block db (lt_of_heap HB.out.2.2.1) (fun h => hdb2 h)).trans HB.out.2.2.1⟩
        clear hb3 hk3 HT hfin
        gi_wp2
        refine ⟨by simp, .inl ⟨_, _, rfl, run_takeDeferred HF2.out.2, ?_⟩⟩
        exact ⟨_, results_tmp rfl _ _ _, rfl, HF2.out.1⟩
end Go.Proofs.Ytllpeenjfjobaaa
