/-
  The words of bytes, as an iterator: what it yields. Conditions: fewer than 10^9 bytes.
-/
import Derived.Test.YtllpeenjfjobaaaChunk7
import Derived.Laws.BitsAllLaws
namespace Go.Proofs.Ytllpeenjfjobaaa
open Go.RowKit Go.Shelf
attribute [local go_sem] Oper.semAt_some

/-- Bytes as a number, the least first. -/
def le : List UInt8 → Nat
  | [] => 0
  | c :: l => c.toNat + 256 * le l
theorem le_snoc (l : List UInt8) (c : UInt8) : le (l ++ [c]) = le l + c.toNat * 256 ^ l.length := by
  induction l with
  | nil => simp [le]
  | cons d l ih => simp only [List.cons_append, le, ih, List.length_cons, Nat.pow_succ]; rw [Nat.mul_add, Nat.mul_comm (256 ^ l.length) 256, ← Nat.mul_assoc, ← Nat.mul_assoc, Nat.mul_comm 256 c.toNat]; omega
theorem le_lt (l : List UInt8) : le l < 256 ^ l.length := by
  induction l with
  | nil => simp [le]
  | cons c l ih =>
    have := c.toNat_lt
    simp only [le, List.length_cons, Nat.pow_succ]
    omega
def wordAt (l : List UInt8) (j : Nat) : Nat := le ((l.drop (7 * j)).take 7)
def wordsOf (l : List UInt8) : List Nat := (List.range ((l.length + 6) / 7)).map (wordAt l)
theorem wordsOf_length (l : List UInt8) : (wordsOf l).length = (l.length + 6) / 7 := by simp [wordsOf]
theorem wordAt_lt (l : List UInt8) (j : Nat) : wordAt l j < 72057594037927936 := by
  unfold wordAt
  have h := le_lt ((l.drop (7 * j)).take 7)
  have h2 : ((l.drop (7 * j)).take 7).length ≤ 7 := by rw [List.length_take]; omega
  exact Nat.lt_of_lt_of_le h (Nat.le_trans (Nat.pow_le_pow_right (by decide) h2) (by decide))
def wds (l : List UInt8) : List (Array Value) := (wordsOf l).map fun x : Nat => #[.int .u64 (x : Int)]
theorem wds_length (l : List UInt8) : (wds l).length = (l.length + 6) / 7 := by simp [wds, wordsOf]
theorem wds_get (l : List UInt8) (j : Nat) (h : 7 * j < l.length) : (wds l)[j]? = some #[.int .u64 (wordAt l j : Int)] := by
  simp only [wds, wordsOf, List.getElem?_map]
  rw [List.getElem?_range (by omega)]
  rfl
theorem or_byte (a x i : Nat) (ha : a < 256 ^ i) (hx : x < 256) (hi : i ≤ 6) : bits .or .u64 (a : Int) ((x * 256 ^ i : Nat) : Int) = ((a + x * 256 ^ i : Nat) : Int) := by
  have h6 : 256 ^ i ≤ 281474976710656 := Nat.le_trans (Nat.pow_le_pow_right (by decide) hi) (by decide)
  have hm : x * 256 ^ i ≤ 255 * 281474976710656 := Nat.mul_le_mul (by omega) h6
  rw [u64_or_nat a (x * 256 ^ i) (by omega) (by omega)]
  have e : (256 : Nat) ^ i = 2 ^ (8 * i) := by rw [Nat.pow_mul]
  rw [e] at ha ⊢
  rw [Nat.or_comm, Nat.mul_comm x, ← Nat.two_pow_add_eq_or_of_lt ha, Nat.add_comm]

theorem words_any (sa : Option Addr) (n cap : Nat) (w : World) : Calls Try.prog 27 #[.slice sa n cap] w fun e w' => e = .returned (.func (.func 38) #[] #[.pointer (some ⟨w.heap.size, 0, none⟩)]) ∧
    w' = w.alloc (.cells #[.slice sa n cap] 22) := by
  go_enter Try.func27, Try.ntmps27
  go_wp2
  go_ret
  exact ⟨by simp, rfl⟩

/-- What holds at the head of each round of the inner loop. -/
def WdRel (p : List UInt8) (acc i : Value) : Prop := ∃ k : Nat, i = .int .i64 (k : Int) ∧ k ≤ p.length ∧ acc = .int .u64 (le (p.take k) : Int)

set_option maxHeartbeats 1000000 in
set_option maxRecDepth 10000 in
theorem words_seq (bb b off n cap : Nat) (sa : Option Addr) (l : List UInt8) (w0 : World) (hn : n ≤ 1000000000) (hl : Sl w0 sa n cap (BV l)) (hsa : 0 < n → sa = some ⟨b, off, none⟩) (h1 : w0.heap[bb]? = some (.cells #[.slice sa n cap] 22 (0, 0))) :
    Seq Try.prog 38 #[.pointer (some ⟨bb, 0, none⟩)] (wds l) 5 (fun _ => False) (fun k => k = bb ∨ (0 < n ∧ k = b)) w0 := by
  intro lp J B W hW hB hJ hY h0
  have q1 := (hW.block bb (lt_of_heap h1) (fun h => h (Or.inl rfl))).trans h1
  have hl' : Sl W sa n cap (BV l) := hl.keep hW (fun ad e hn0 _ h => by rw [hsa hn0] at e; cases e; exact h (Or.inr ⟨hn0, rfl⟩))
  have HJ := Lib.hid (And.intro hB (And.intro hJ (And.intro hY (And.intro h0 (And.intro q1 hl')))))
  have HS := Lib.hid (And.intro hsa hl.len)
  have hnc := hl.le
  have hcb := hl.capB
  have c1 := cellAt q1 0
  simp at c1
  have hbl := lt_of_heap q1
  clear h1 hW hB hJ hY h0 q1 hsa hl hl'
  refine callsIn_of_wp_marks Try.func38 rfl trivial ?_ rfl
  simp only [Try.ntmps38, List.size_toArray, List.length_cons, List.length_nil, Nat.reduceAdd, Nat.reduceSub, Array.replicate_succ, Array.replicate_zero, List.push_toArray, List.append_toArray, List.nil_append, List.cons_append]
  gi_wp2_with fail
  refine ⟨trivial, rfl, (callsIn_wide.2 (chunk_any sa n cap _)).mono ?_⟩
  rintro e w1 ⟨rfl, rfl⟩
  clear c1
  gi_wp2_with fail
  obtain ⟨yb, hyb⟩ : ∃ yb, W.heap.size = yb := ⟨_, rfl⟩
  obtain ⟨W0, hW0⟩ : ∃ W0, ((W.alloc (.cells #[.func (.yield lp) #[] #[]] 62)).alloc (.cells #[.slice sa n cap] 22)).alloc (.cells #[.int .i64 7] 3) = W0 := ⟨_, rfl⟩
  have hk0 : Keeps (fun _ => False) W W0 := by rw [← hW0]; exact (((Keeps.refl _ W).alloc _).alloc _).alloc _
  have hsz : W0.heap.size = yb + 3 := by rw [← hW0, ← hyb]; simp
  have q0 : W0.heap[yb]? = some (.cells #[.func (.yield lp) #[] #[]] 62 (0, 0)) := by
    rw [← hW0, ← hyb]
    exact (Below.heap_alloc _ _ _ (by simp; omega)).trans ((Below.heap_alloc _ _ _ (by simp)).trans (World.alloc_heap_new W _))
  have q1 : W0.heap[yb + 1]? = some (.cells #[.slice sa n cap] 22 (0, 0)) := by
    rw [← hW0, ← hyb]
    refine (Below.heap_alloc _ _ _ (by simp)).trans ?_
    have := World.alloc_heap_new (W.alloc (.cells #[.func (.yield lp) #[] #[]] 62)) (.cells #[.slice sa n cap] 22)
    rwa [World.size_alloc] at this
  have q2 : W0.heap[yb + 1 + 1]? = some (.cells #[.int .i64 7] 3 (0, 0)) := by
    rw [← hW0, ← hyb]
    have := World.alloc_heap_new ((W.alloc (.cells #[.func (.yield lp) #[] #[]] 62)).alloc (.cells #[.slice sa n cap] 22)) (.cells #[.int .i64 7] 3)
    rwa [World.size_alloc, World.size_alloc] at this
  rw [hW0, hyb]
  have hW := Lib.hid hyb
  have hbW : ∀ ad, sa = some ad → 0 < n → ad.block < yb := fun ad e hn0 => by
    have hc := HJ.out.2.2.2.2.2.lies ad e 0
    have hl := HS.out.2
    cases hll : l with
    | nil => rw [hll] at hl; simp at hl; omega
    | cons c t =>
      rw [hll] at hc
      have := World.block_lt_of_cell? W _ (hc _ (by simp [BV]; rfl))
      obtain ⟨b', o', rfl⟩ := HJ.out.2.2.2.2.2.path hn0 ad e
      rw [addr_add] at this
      rw [hyb] at this
      exact this
  have HBW := Lib.hid hbW
  clear hW0 hyb hbW
  refine wpIn_seq (gf := 44) (lb := #[.pointer (some ⟨yb + 1, 0, none⟩), .pointer (some ⟨yb + 1 + 1, 0, none⟩)]) (xs := chs b off n) (m := 0) (T := fun _ => False) (Rd := fun k => k = yb + 1 ∨ k = yb + 1 + 1) rfl (enters_of Try.func44 (by kernel_rfl) rfl)
    (chunk_seq (yb + 1) (yb + 1 + 1) b off n cap sa W0 hn hnc hcb HS.out.1 q1 q2) (by rintro k (h | h) <;> omega) (fun k h => h.elim) ?hps
    (fun i Wi => J i Wi ∧ Wi.heap[yb]? = some (.cells #[.func (.yield lp) #[] #[]] 62 (0, 0)) ∧ Sl Wi sa n cap (BV l))
    B ?hB ?hI ?h0
    (fun x => { tmps := #[.func (.yield lp) #[] #[], .pointer (some ⟨bb, 0, none⟩), .pointer (some ⟨yb, 0, none⟩), x.getD 0 undef, undef, undef, undef, .slice sa n cap, .func (.func 44) #[] #[.pointer (some ⟨yb + 1, 0, none⟩), .pointer (some ⟨yb + 1 + 1, 0, none⟩)], x.getD 0 undef, undef, undef, undef, undef, undef, undef, undef, undef, undef, undef, undef, undef, undef, undef, undef, undef, undef, undef, undef], defers := [] }) ?assign ?body ?done
  case hps =>
    intro x hx
    simp only [chs, List.mem_map] at hx
    obtain ⟨j, _, rfl⟩ := hx
    rfl
  case hB =>
    intro k hk
    have h1 := HJ.out.1 k hk
    have h2 := hW.out
    exact ⟨by rintro (h | h) <;> exact h1.2 (by omega), fun h => h1.2 (by omega)⟩
  case hI =>
    rintro i A A' ⟨h1, h2, h3⟩ hk
    have hw := hW.out
    refine ⟨HJ.out.2.1 _ _ _ h1 (hk.mono (fun k _ h => h.imp id (fun h => by omega))), (hk.block yb (lt_of_heap h2) ?_).trans h2, h3.keep hk (fun ad e hn0 _ h => ?_)⟩
    · rintro (h | h)
      · exact h
      · omega
    · have := HBW.out ad e hn0
      rcases h with h | h
      · exact h
      · omega
  case h0 =>
    refine ⟨HJ.out.2.1 _ _ _ HJ.out.2.2.2.1 (hk0.mono (fun _ _ h => h.elim)), q0, HJ.out.2.2.2.2.2.keep hk0 (fun _ _ _ _ h => h)⟩
  case assign =>
    intro l2 x Wx K hx hK
    simp only [chs, List.mem_map] at hx
    obtain ⟨j, _, rfl⟩ := hx
    unfold ch at hK ⊢
    gi_wp2
    exact hK
  case body =>
    rintro l2 j x Wx hx ⟨h1, h2, h3⟩ hsx
    have hj : j < (n + 6) / 7 := by rw [← chs_length b off n]; exact (List.getElem?_eq_some_iff.1 hx).1
    have hlt : 7 * j < n := by omega
    obtain rfl : ch b off n j = x := by rw [chs_get b off n j hlt] at hx; exact Option.some.inj hx
    have hsa := HS.out.1 (by omega)
    subst hsa
    obtain ⟨m, hm⟩ : ∃ m, min 7 (n - 7 * j) = m := ⟨_, rfl⟩
    obtain ⟨p, hp⟩ : ∃ p, (l.drop (7 * j)).take 7 = p := ⟨_, rfl⟩
    have hpl : p.length = m := by rw [← hp, List.length_take, List.length_drop, show l.length = n by simpa using HS.out.2]; omega
    have hpc : ∀ i c, p[i]? = some c → Wx.cell? ⟨b, off + 7 * j + i, none⟩ = some (.int .u8 c.toNat) := by
      intro i c hc
      rw [Nat.add_assoc]
      refine h3.cell ?_
      rw [BV_get]
      have : l[7 * j + i]? = some c := by
        rw [← hp, List.getElem?_take] at hc
        split at hc
        · rw [List.getElem?_drop] at hc; exact hc
        · cases hc
      rw [this]; rfl
    have hwd := wds_get l j (by rw [show l.length = n by simpa using HS.out.2]; exact hlt)
    have hwe : wordAt l j = le p := by unfold wordAt; rw [hp]
    rw [hwe] at hwd
    have hWs : W.heap.size + 5 ≤ Wx.heap.size := by have := hW.out; omega
    obtain ⟨fn, tmps, assign, body, hy, hR⟩ := HJ.out.2.2.1 j _ Wx hwd h1 hWs
    have HP := Lib.hid (And.intro hpl (And.intro hpc (And.intro hm hp)))
    have HB := Lib.hid (And.intro h1 (And.intro h2 h3))
    have c0 := cellAt h2 0
    simp at c0
    have hm7 : m ≤ 7 := by omega
    have HR : Hid (∀ (ac : Act) (W' : World), J (j + 1) W' → Keeps B Wx W' → goesOn B (fun i Wi => J i Wi ∧ Wi.heap[yb]? = some (.cells #[.func (.yield lp) #[] #[]] 62 (0, 0)) ∧ Sl Wi (some ⟨b, off, none⟩) n cap (BV l)) j Wx .normal ac W') := by
      intro ac W' hj2 hk2
      refine ⟨hk2, hj2, (hk2.block yb (lt_of_heap HB.out.2.1) (fun h => (HJ.out.1 yb h).2 (by have := hW.out; omega))).trans HB.out.2.1, HB.out.2.2.keep hk2 (fun ad e hn0 _ h => ?_)⟩
      cases e
      exact (HJ.out.1 b h).1 (Or.inr ⟨hn0, rfl⟩)
    unfold ch
    simp only [hm]
    obtain ⟨o7, ho7⟩ : ∃ o7, off + 7 * j = o7 := ⟨_, rfl⟩
    rw [ho7] at hpc ⊢
    have HPC := Lib.hid hpc
    clear h1 h2 h3 hpl hpc hp hwd hwe hm hWs hsx hx hj hlt hk0 q0 q1 q2 hsz hbl ho7
    gi_wp2_with fail
    gi_loopw [4, 12] (fun acc i wr => WdRel p acc i ∧ wr = Wx) (fun _ i _ => m - (intOf i).toNat)
    case atStart => exact ⟨⟨0, rfl, Nat.zero_le _, by simp [le]⟩, rfl⟩
    case round =>
      obtain ⟨⟨k, rfl, hk, rfl⟩, rfl⟩ := hrel
      by_cases hlt : k < m
      · obtain ⟨c, hc⟩ : ∃ c, p[k]? = some c := ⟨_, List.getElem?_eq_getElem (by have := HP.out.1; omega)⟩
        have hcell := HPC.out k c hc
        have hlen : (p.take k).length = k := by rw [List.length_take]; have := HP.out.1; omega
        have hacc := le_lt (p.take k)
        rw [hlen] at hacc
        have hor := or_byte (le (p.take k)) c.toNat k hacc c.toNat_lt (by omega)
        have hsn : le (p.take (k + 1)) = le (p.take k) + c.toNat * 256 ^ k := by
          rw [List.take_succ_eq_append_getElem (List.getElem?_eq_some_iff.1 hc).1, (List.getElem?_eq_some_iff.1 hc).2, le_snoc, hlen]
        have hsh : (c.toNat : Int) * 2 ^ (8 * k) = ((c.toNat * 256 ^ k : Nat) : Int) := by
          have e : (256 : Nat) ^ k = 2 ^ (8 * k) := by rw [Nat.pow_mul]
          rw [e, Int.natCast_mul, Int.natCast_pow]; rfl
        have hwc : IntKind.u64.wrap (c.toNat : Int) = (c.toNat : Int) := wrap_nat _ _ rfl (by have := c.toNat_lt; omega)
        have hwr : IntKind.u64.wrap ((c.toNat * 256 ^ k : Nat) : Int) = ((c.toNat * 256 ^ k : Nat) : Int) := by
          have h6 : 256 ^ k ≤ 281474976710656 := Nat.le_trans (Nat.pow_le_pow_right (by decide) (show k ≤ 6 by omega)) (by decide)
          have h7 : c.toNat * 256 ^ k ≤ 255 * 281474976710656 := Nat.mul_le_mul (by have := c.toNat_lt; omega) h6
          exact wrap_nat _ _ rfl (by omega)
        have HSN := Lib.hid hsn
        have HCC := Lib.hid hc
        clear hsn hc hlen hacc
        generalize c.toNat * 256 ^ k = sh at *
        generalize le (p.take k) = acc at *
        gi_wp2
        refine ⟨⟨⟨k + 1, by go_num, by have := HP.out.1; omega, ?_⟩, trivial⟩, by simp [intOf]; omega⟩
        rw [HSN.out]; go_num
      · obtain rfl : k = m := by have := HP.out.1; omega
        have hpt : p.take k = p := List.take_of_length_le (by have := HP.out.1; omega)
        rw [hpt]
        clear hpt
        generalize le p = acc at *
        gi_wp2_with fail
        refine ⟨rfl, RoundIn.mono hR ?_⟩
        rintro e W2 ⟨rfl, hJ2, hkB⟩
        have HF := Lib.hid (And.intro hJ2 hkB)
        clear hJ2 hkB hR hy
        gi_wp2
        exact HR.out _ _ HF.out.1 HF.out.2
  case done =>
    rintro Wx ⟨h1, h2, h3⟩ hsW hK
    have hw := hW.out
    rw [chs_length] at h1
    have HF : Hid (J (wds l).length (Wx.putObj W0.heap.size (.deferred none))) := by
      show J _ _
      rw [wds_length, show l.length = n by simpa using HS.out.2]
      exact HJ.out.2.1 _ _ _ h1 ((Keeps.refl _ Wx).putObj _ (fun _ => Or.inr (by omega)))
    have HK := Lib.hid hK
    clear h1 h2 h3
    gi_wp2
    refine ⟨by simp, .inl ⟨_, _, rfl, run_takeDeferred HK.out, ?_⟩⟩
    exact ⟨.tuple #[], by simp [results, Try.results38, go_sem], ⟨_, rfl⟩, HF.out⟩
end Go.Proofs.Ytllpeenjfjobaaa
