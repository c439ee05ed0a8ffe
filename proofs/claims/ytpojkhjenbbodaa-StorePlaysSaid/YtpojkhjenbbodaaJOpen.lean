/-
  Joined texts of the proofs of chapter 29: StoreP. Conditions: those that each theorem names.
-/
import Derived.Test.YtpojkhjenbbodaaJTools
import Derived.Test.YtpojkhjenbbodaaJHash
import Derived.Test.YtpojkhjenbbodaaJStore
import Derived.Test.YtpojkhjenbbodaaJSet
namespace Go.Proofs.Ytpojkhjenbbodaa
open Go.RowKit

set_option maxRecDepth 10000 in
theorem open_small (pd : Nat) (D : DS) (Fd : Nat → Prop) (w : World) (hd : Disk w pd D Fd) (h64 : D.now.length < 64) :
    Calls Try.prog 29 #[.pointer (some ⟨pd, 0, none⟩)] w fun e w' => e = .returned (.tuple #[.pointer none, .int .i64 1]) ∧ w = w' := by
  have HZ := Lib.hid (size_any pd D Fd w hd)
  have t0 : (D.now.length : Int) < 64 := by omega
  clear hd
  go_enter Try.func29, Try.ntmps29
  go_wp2_with fail
  refine HZ.out.mono ?_
  rintro e _ ⟨rfl, rfl⟩
  clear HZ
  go_wp2
  go_ret2
  exact ⟨rfl, rfl⟩

set_option maxRecDepth 10000 in
theorem open_down (pd : Nat) (D : DS) (Fd : Nat → Prop) (w : World) (hd : Disk w pd D Fd) (h64 : 64 ≤ D.now.length) (hcr : D.cr = true) :
    Calls Try.prog 29 #[.pointer (some ⟨pd, 0, none⟩)] w fun e w' => e = .returned (.tuple #[.pointer none, .int .i64 30]) ∧ Keeps (fun _ => False) w w' := by
  have HZ := Lib.hid (size_any pd D Fd w hd)
  have HR := Lib.hid (read_down pd 0 (D.now.length : Int) D Fd w hd hcr)
  have t0 : ¬ (D.now.length : Int) < 64 := by omega
  clear hd
  go_enter Try.func29, Try.ntmps29
  go_wp2_with fail
  refine HZ.out.mono ?_
  rintro e _ ⟨rfl, rfl⟩
  go_wp2_with fail
  refine HZ.out.mono ?_
  rintro e _ ⟨rfl, rfl⟩
  clear HZ
  go_wp2_with fail
  refine HR.out.mono ?_
  rintro e w1 ⟨rfl, hk⟩
  have HK := Lib.hid hk
  clear hk HR
  have e30 : ((30 : Int) != 0) = true := by decide
  go_wp2
  go_ret2
  exact ⟨rfl, HK.out⟩

theorem RdAt.keep {G : Nat → Prop} {w w' : World} {bb bf b off n cap : Nat} {l : List UInt8} {fr : Nat} (h : RdAt w bb bf b off n cap l fr) (hk : Keeps G w w') (h1 : ¬ G bb) (h2 : ¬ G bf) (h3 : ¬ G b) : RdAt w' bb bf b off n cap l fr :=
  ⟨(hk.block bb (lt_of_heap h.bytes) h1).trans h.bytes, (hk.block bf (lt_of_heap h.far) h2).trans h.far, h.sl.keep hk (fun ad e _ _ x => by cases e; exact h3 x), h.nb, h.nbb, h.small, h.le⟩
theorem own_form {w : World} {base : Nat} {e : TypeId} {size : Nat} {sa : Option Addr} {n c m : Nat} {xs : List Value} {k : Nat} (h : w.ownsRow base e size (.slice sa n c) m xs) (hk : (Value.slice sa n c).ownBlock = some k) : sa = some ⟨k, 0, none⟩ := by
  rcases own_addr h with ⟨rfl, _⟩ | ⟨g', rfl⟩
  · simp [Value.ownBlock] at hk
  · simp [Value.ownBlock] at hk; rw [hk]
/-- How far a reader is, as a number. -/
def farOf (w : World) (bf : Nat) : Nat := match w.cell? ⟨bf, 0, none⟩ with
  | some (.int _ z) => z.toNat
  | _ => 0
theorem farOf_at {w : World} {bf fr : Nat} (h : w.heap[bf]? = some (.cells #[.int .i64 (fr : Int)] 3 (0, 0))) : farOf w bf = fr := by
  have c := cellAt h 0
  simp at c
  unfold farOf
  rw [c]
  simp

/-- At the head of the loop that reads records. -/
def OpA (w : World) (l : List UInt8) (half p pd bb bf ga ca B : Nat) (wr : World) : Prop :=
  ∃ (fr k : Nat) (rs : List (List UInt8)) (so : Option Addr) (co : Nat) (vs : List Value), RdAt wr bb bf ga 0 half ca l fr ∧
    wr.heap[p]? = some (.cells #[.pointer (some ⟨pd, 0, none⟩), .int .i64 (half : Int), .int .i64 (fr : Int), .slice so rs.length co, .int .i64 0, .int .i64 0, .int .u64 0, .slice none 0 0, .int .i64 0, .int .i64 0, .int .u64 0, .slice none 0 0, .int .i64 0] 74 (0, 0)) ∧
    wr.ownsRow B 23 1 (.slice so rs.length co) rs.length vs ∧ RowsO wr B vs rs ∧ Keeps (fun k => k = bf ∨ k = p) w wr ∧ half < fr + k ∧ (rs ++ (recsF l k fr).1, (recsF l k fr).2) = recsOf l ∧ 10 * rs.length ≤ fr

/-- At the head of the loop that reads the places. -/
def OpB (w4 : World) (pd half fr : Nat) (so : Option Addr) (nr co sz a1 : Nat) (p : Nat) (p0 p1 : Nat × List UInt8) (i : Value) (wr : World) : Prop :=
  ∃ (k : Nat) (A0 S0 T0 : Int) (s0 : Option Addr) (n0 c0 : Nat) (l0 : List UInt8) (A1 S1 T1 : Int) (s1 : Option Addr) (n1 c1 : Nat) (l1 : List UInt8), (k ≤ 2 ∧ i = .int .i64 (k : Int)) ∧
    wr.heap[p]? = some (.cells #[.pointer (some ⟨pd, 0, none⟩), .int .i64 (half : Int), .int .i64 (fr : Int), .slice so nr co, .int .i64 A0, .int .i64 S0, .int .u64 T0, .slice s0 n0 c0, .int .i64 A1, .int .i64 S1, .int .u64 T1, .slice s1 n1 c1, .int .i64 0] 74 (0, 0)) ∧
    wr.ownsRow w4.heap.size 5 1 (.slice s0 n0 c0) n0 (BV l0) ∧
    wr.ownsRow w4.heap.size 5 1 (.slice s1 n1 c1) n1 (BV l1) ∧
    (s0 = none ∨ s1 = none ∨ s0 ≠ s1) ∧ Keeps (fun x => x = p) w4 wr ∧
    (k = 0 → T0 = 0 ∧ n0 = 0 ∧ l0 = []) ∧ (k ≤ 1 → T1 = 0 ∧ n1 = 0 ∧ l1 = []) ∧
    (1 ≤ k → A0 = half ∧ S0 = sz ∧ T0 = (p0.1 : Int) ∧ l0 = p0.2 ∧ n0 = l0.length) ∧
    (2 ≤ k → A1 = a1 ∧ S1 = sz ∧ T1 = (p1.1 : Int) ∧ l1 = p1.2 ∧ n1 = l1.length)

set_option maxHeartbeats 4000000 in
set_option maxRecDepth 10000 in
theorem open_ok_ (pd : Nat) (D : DS) (Fd : Nat → Prop) (w : World) (hd : Disk w pd D Fd) (h64 : 64 ≤ D.now.length) (hD : D.now.length ≤ 65536) (hcr : D.cr = false) (hlo : D.lo.length ≤ 500000) :
    Calls Try.prog 29 #[.pointer (some ⟨pd, 0, none⟩)] w fun e w' => ∃ p F R, e = .returned (.tuple #[.pointer (some ⟨p, 0, none⟩), .int .i64 0]) ∧
      StoreAt w' p pd (openS D) F R ∧ Keeps Fd w w' ∧ (∀ k, F k → Fd k ∨ w.heap.size ≤ k) ∧ (∀ k, R k → w.heap.size ≤ k) := by
  have HZ := Lib.hid (size_any pd D Fd w hd)
  have HR := Lib.hid (read_ok pd 0 D.now.length D Fd w hd hcr (by omega) hD)
  rw [List.drop_zero, List.take_length] at HR
  obtain ⟨N, hN⟩ : ∃ N, D.now.length = N := ⟨_, rfl⟩
  rw [hN] at HZ HR h64 hD
  have HN := Lib.hid hN
  have t0 : ¬ (N : Int) < 64 := by omega
  have HD := Lib.hid (And.intro hd (And.intro hcr hlo))
  clear hd hcr hlo hN
  go_enter Try.func29, Try.ntmps29
  go_wp2_with fail
  refine HZ.out.mono ?_
  rintro e _ ⟨rfl, rfl⟩
  go_wp2_with fail
  refine HZ.out.mono ?_
  rintro e _ ⟨rfl, rfl⟩
  clear HZ
  go_wp2_with fail
  refine HR.out.mono ?_
  rintro e w1 ⟨ga, ca, rfl, hown, hk⟩
  have hga := own_lt hown rfl
  have hca := (Sl.of_own hown).le
  have hcb := (Sl.of_own hown).capB
  have O1 := Lib.hid hown
  have HK := Lib.hid hk
  clear hown hk HR
  obtain ⟨half, hhalf⟩ : ∃ h, N / 2 = h := ⟨_, rfl⟩
  have eh : (N : Int) / 2 = (half : Int) := by omega
  have hh1 : half ≤ N := by omega
  have hh0 : 32 ≤ half := by omega
  have e00 : ((0 : Int) != 0) = false := by decide
  -- the store's block
  obtain ⟨p, hp⟩ : ∃ p, w1.heap.size = p := ⟨_, rfl⟩
  obtain ⟨w2, hw2⟩ : ∃ v, w1.alloc (.cells #[.pointer (some ⟨pd, 0, none⟩), .int .i64 (half : Int), .int .i64 0, .slice none 0 0, .int .i64 0, .int .i64 0, .int .u64 0, .slice none 0 0, .int .i64 0, .int .i64 0, .int .u64 0, .slice none 0 0, .int .i64 0] 74) = v := ⟨_, rfl⟩
  have hb2 : w2.heap[p]? = some (.cells #[.pointer (some ⟨pd, 0, none⟩), .int .i64 (half : Int), .int .i64 0, .slice none 0 0, .int .i64 0, .int .i64 0, .int .u64 0, .slice none 0 0, .int .i64 0, .int .i64 0, .int .u64 0, .slice none 0 0, .int .i64 0] 74 (0, 0)) := by rw [← hw2, ← hp]; exact World.alloc_heap_new w1 _
  have hk2 : Keeps (fun _ => False) w1 w2 := by rw [← hw2]; exact (Keeps.refl _ w1).alloc _
  have hs2 : w2.heap.size = p + 1 := by rw [← hw2, ← hp]; simp
  have c1 := cellAt hb2 1
  simp at c1
  have t1 : (0 : Int) ≤ (half : Int) := by omega
  have t2 : (half : Int) ≤ (ca : Int) := by omega
  go_wp2_with fail
  refine (reader_any (some ⟨ga, 0, none⟩) half ca w2).mono ?_
  rintro e _ ⟨rfl, rfl⟩
  obtain ⟨w3, hw3⟩ : ∃ v, (w2.alloc (.cells #[.slice (some ⟨ga, 0, none⟩) half ca] 23)).alloc (.cells #[.int .i64 0] 3) = v := ⟨_, rfl⟩
  have hk3 : Keeps (fun _ => False) w2 w3 := by rw [← hw3]; exact ((Keeps.refl _ w2).alloc _).alloc _
  have hs3 : w3.heap.size = p + 3 := by rw [← hw3]; simp [hs2]
  have qb : w3.heap[p + 1]? = some (.cells #[.slice (some ⟨ga, 0, none⟩) half ca] 23 (0, 0)) := by
    rw [← hw3, ← hs2]
    exact (Below.heap_alloc _ _ _ (by simp)).trans (World.alloc_heap_new w2 _)
  have qf : w3.heap[p + 2]? = some (.cells #[.int .i64 0] 3 (0, 0)) := by
    rw [← hw3]
    have := World.alloc_heap_new (w2.alloc (.cells #[.slice (some ⟨ga, 0, none⟩) half ca] 23)) (.cells #[.int .i64 0] 3)
    rwa [World.size_alloc, hs2] at this
  have hb3 := (hk3.block p (by omega) (fun h => h)).trans hb2
  obtain ⟨l, hl⟩ : ∃ l, D.now.take half = l := ⟨_, rfl⟩
  have hll : l.length = half := by rw [← hl, List.length_take]; have := HN.out; omega
  have hsl : Sl w3 (some ⟨ga, 0, none⟩) half ca (BV l) := by
    have := ((Sl.of_own O1.out).upto (k := half) hh1)
    rw [BV_take, hl] at this
    exact (this.quiet hk2).quiet hk3
  have hgp : ga < p := by have := hga.2; omega
  have hrd : RdAt w3 (p + 1) (p + 2) ga 0 half ca l 0 := ⟨qb, qf, hsl, by omega, by omega, by omega, Nat.zero_le _⟩
  have hbs : w.heap.size ≤ p := by have := HK.out.size; omega
  have H0 : Hid (OpA w3 l half p pd (p + 1) (p + 2) ga ca (p + 3) w3) :=
    ⟨0, l.length + 1, [], none, 0, [], hrd, hb3, World.ownsRow_nil _ _ _ _, RowsO.nil _ _, Keeps.refl _ _, by omega, rfl, by simp⟩
  have KW3 : Hid (Keeps (fun _ => False) w w3 ∧ w3.ownsRow w.heap.size 5 1 (.slice (some ⟨ga, 0, none⟩) N ca) N (BV D.now)) := ⟨(HK.out.quiet hk2).quiet hk3, own_keep (own_keep O1.out hk2 (fun _ _ h => h)) hk3 (fun _ _ h => h)⟩
  have HLL := Lib.hid (And.intro hl (And.intro hll (And.intro hgp (And.intro hbs hs3))))
  rw [hw3, hs2]
  clear hw2 hw3 hb2 hk2 hk3 hs2 hs3 qb qf hb3 hl hll hsl hgp hrd hbs HK O1 hga hp c1
  go_wp2_with fail
  go_loopw [11] (fun _ wr => OpA w3 l half p pd (p + 1) (p + 2) ga ca (p + 3) wr) (fun _ wr => half - farOf wr (p + 2))
  case atStart => exact H0.out
  case round =>
    clear H0
    obtain ⟨fr, k, rs, so, co, vs, hrd, hb, hown, hrows, hkp, hfu, heq, hten⟩ := hrel
    have HF := Lib.hid (frame_rec (p + 1) (p + 2) ga 0 half ca l fr wr hrd)
    have hfar := farOf_at hrd.far
    have HR := Lib.hid (And.intro hb (And.intro hown (And.intro hrows (And.intro hkp (And.intro hfu (And.intro heq hten))))))
    have HFR := Lib.hid (And.intro hfar (And.intro hrd.le hrd.nbb))
    clear hrd hb hown hrows hkp hfu heq hten hfar
    go_wp2_with fail
    refine HF.out.mono ?_
    rintro e w4 ⟨s1, n1, c1, s2, n2, c2, t, fr2, rfl, hr2, hk4, hcase⟩
    clear HF
    have hbp4 := (hk4.block p (lt_of_heap HR.out.1) (by have := HLL.out; omega)).trans HR.out.1
    have hown4 := own_keep HR.out.2.1 hk4 (fun k e h => by have := (HR.out.2.1.lt k e).1; omega)
    have hrows4 := HR.out.2.2.1.keep hk4 (fun k h _ _ e => by omega)
    have hkp4 : Keeps (fun k => k = p + 2 ∨ k = p) w3 w4 := HR.out.2.2.2.1.trans hk4 (fun k _ h => Or.inl h)
    rcases hcase with ⟨hnone, rfl⟩ | ⟨x, y, hsome, rfl, hsx, hsy⟩
    · have hres : (rs, fr) = recsOf l := by have := HR.out.2.2.2.2.2.1; rw [recsF_none l k fr hnone, List.append_nil] at this; exact this
      have HX := Lib.hid (And.intro hbp4 (And.intro hown4 (And.intro hrows4 (And.intro hkp4 hres))))
      have HTEN := Lib.hid (And.intro HR.out.2.2.2.2.2.2 HFR.out.2.1)
      clear hbp4 hown4 hrows4 hkp4 hres hnone hr2 hk4 HR HFR
      have b1 := cellAt HX.out.1 1
      simp at b1
      obtain ⟨sz, hsz⟩ : ∃ z, (N - half) / 2 = z := ⟨_, rfl⟩
      have ez1 : (N : Int) - (half : Int) = ((N - half : Nat) : Int) := by omega
      have ez2 : ((N - half : Nat) : Int) / 2 = (sz : Int) := by omega
      go_wp2_with fail
      obtain ⟨a1, ha1⟩ : ∃ a, half + sz = a := ⟨_, rfl⟩
      have hbig : 64 ≤ N := by omega
      have hzz : 16 ≤ sz := by omega
      have hz2 : half + sz + sz ≤ N := by omega
      have ea1 : (half : Int) + (sz : Int) = (a1 : Int) := by omega
      have hab : a1 + sz ≤ N := by omega
      have wa1 : IntKind.i64.wrap (a1 : Int) = (a1 : Int) := IntWalk.i64_in _ (by omega)
      have ta0 : (0 : Int) ≤ (a1 : Int) := by omega
      have ta1 : (a1 : Int) ≤ (ca : Int) := by omega
      have ta2 : half ≤ a1 := by omega
      have ta3 : a1 - half = sz := by omega
      have ta4 : ¬ ca = half := by omega
      have ta5 : ¬ ca = a1 := by omega
      obtain ⟨a2, ha2⟩ : ∃ a, a1 + sz = a := ⟨_, rfl⟩
      have ea2 : (a1 : Int) + (sz : Int) = (a2 : Int) := by omega
      have wa2 : IntKind.i64.wrap (a2 : Int) = (a2 : Int) := IntWalk.i64_in _ (by omega)
      have tb0 : (0 : Int) ≤ (a2 : Int) := by omega
      have tb1 : (a2 : Int) ≤ (ca : Int) := by omega
      have tb2 : a1 ≤ a2 := by omega
      have tb3 : a2 - a1 = sz := by omega
      obtain ⟨q0, hq0⟩ : ∃ q, plOf D.now half sz = q := ⟨_, rfl⟩
      obtain ⟨q1, hq1⟩ : ∃ q, plOf D.now a1 sz = q := ⟨_, rfl⟩
      have HQ := Lib.hid (And.intro hq0 (And.intro hq1 (And.intro ha1 hsz)))
      have HX4 := HX
      have hsw : p + 3 ≤ w4.heap.size := by have := HX.out.2.2.2.1.size; have := HLL.out.2.2.2.2; omega
      have HB0 : Hid (OpB w4 pd half fr so rs.length co sz a1 p q0 q1 (.int .i64 0) w4) :=
        Lib.hid ⟨0, 0, 0, 0, none, 0, 0, [], 0, 0, 0, none, 0, 0, [], ⟨by omega, rfl⟩, HX.out.1, World.ownsRow_nil _ _ _ _, World.ownsRow_nil _ _ _ _, Or.inl rfl, Keeps.refl _ _, fun _ => ⟨rfl, rfl, rfl⟩, fun _ => ⟨rfl, rfl, rfl⟩, fun h => absurd h (by omega), fun h => absurd h (by omega)⟩
      have HA2_ := Lib.hid ha2
      clear b1 hq0 hq1 ha1 ha2 hsz
      go_loopw [86] (fun i wr => OpB w4 pd half fr so rs.length co sz a1 p q0 q1 i wr) (fun i _ => 2 - (intOf i).toNat)
      case atStart => exact HB0.out
      case round =>
        clear HB0
        obtain ⟨k, A0, S0, T0, s0, n0, c0, l0, A1, S1, T1, s1, n1, c1, l1, ⟨hk2, rfl⟩, hb, ow0, ow1, hne, hkp, hf0, hf1, hf2, hf3⟩ := hrel
        have HFC_ := Lib.hid (And.intro hf0 (And.intro hf1 (And.intro hf2 hf3)))
        clear hf0 hf1 hf2 hf3
        rcases (show k = 0 ∨ k = 1 ∨ k = 2 by omega) with rfl | rfl | rfl
        · have HFC := Lib.hid (And.intro (HFC_.out.1 rfl) (HFC_.out.2.1 (by omega)))
          clear HFC_
          have e0 := cellAt hb 4
          have f0 := freeAt hb 4
          simp at e0
          obtain ⟨y1, hy1⟩ : ∃ v, wr.setCell ⟨p, 4, none⟩ (.int .i64 (half : Int)) = v := ⟨_, rfl⟩
          have hb1 : y1.heap[p]? = some (.cells #[.pointer (some ⟨pd, 0, none⟩), .int .i64 (half : Int), .int .i64 (fr : Int), .slice so rs.length co, .int .i64 (half : Int), .int .i64 S0, .int .u64 T0, .slice s0 n0 c0, .int .i64 A1, .int .i64 S1, .int .u64 T1, .slice s1 n1 c1, .int .i64 0] 74 (0, 0)) := by rw [← hy1, heap_setCell_at hb]; rfl
          have e1 := cellAt hb1 5
          have f1 := freeAt hb1 5
          simp at e1
          obtain ⟨y2, hy2⟩ : ∃ v, y1.setCell ⟨p, 5, none⟩ (.int .i64 (sz : Int)) = v := ⟨_, rfl⟩
          have hb2 : y2.heap[p]? = some (.cells #[.pointer (some ⟨pd, 0, none⟩), .int .i64 (half : Int), .int .i64 (fr : Int), .slice so rs.length co, .int .i64 (half : Int), .int .i64 (sz : Int), .int .u64 T0, .slice s0 n0 c0, .int .i64 A1, .int .i64 S1, .int .u64 T1, .slice s1 n1 c1, .int .i64 0] 74 (0, 0)) := by rw [← hy2, heap_setCell_at hb1]; rfl
          have ky : Keeps (fun x => x = p) wr y2 := by rw [← hy2, ← hy1]; exact ((Keeps.refl (fun x => x = p) wr).setCell (p := ⟨p, 4, none⟩) (fun _ => rfl) _).setCell (p := ⟨p, 5, none⟩) (fun _ => rfl) _
          have c1_ := cellAt hb 1
          simp at c1_
          have c1y := cellAt hb2 4
          simp at c1y
          have HB := Lib.hid hb2
          have HKY := Lib.hid (hkp.trans ky (fun _ _ h => h))
          have HOW := Lib.hid (And.intro (own_keep ow0 ky (fun k e h => by have := (ow0.lt k e).1; omega)) (own_keep ow1 ky (fun k e h => by have := (ow1.lt k e).1; omega)))
          have HNE := Lib.hid hne
          clear hb hb1 hb2 ky ow0 ow1 hkp hne
          go_wp2_with fail
          clear hy1 hy2 e0 f0 e1 f1 c1_
          refine z_begin (fun w' => w'.cell? ⟨p, 4, none⟩ = some (.int .i64 (half : Int))) 18 (by kernel_rfl) (c1y) (fun hHeld => ?_)
          have hk : Keeps (fun _ => False) y2 (World.drew y2) := (Keeps.refl _ _).drew
          replace HB := Lib.hid ((hk.block p (lt_of_heap HB.out) (fun h => h)).trans HB.out)
          replace HKY := Lib.hid (HKY.out.quiet hk)
          replace HOW := Lib.hid (And.intro (own_keep HOW.out.1 hk (fun _ _ h => h)) (own_keep HOW.out.2 hk (fun _ _ h => h)))
          clear hk c1y
          generalize World.drew y2 = v0 at *
          refine z_take 0 (v := ?_) rfl (by kernel_rfl) (by kernel_rfl) (by kernel_rfl) (by kernel_rfl) (fun _ _ _ h => h) hHeld (by rfl) (fun w hSw => ?_) ?_
          rotate_left
          · have hSw1 := hSw; clear hSw; simp only [List.getElem_toArray, List.getElem_cons_zero]; go_simp; try rfl
          simp only [Act.put, List.getElem_toArray, List.getElem_cons_zero, List.setIfInBounds_toArray, List.set_cons_zero, List.set_cons_succ]
          refine z_take 1 (v := ?_) rfl (by kernel_rfl) (by kernel_rfl) (by kernel_rfl) (by kernel_rfl) (fun _ _ _ h => h) hHeld (by rfl) (fun w hSw => ?_) ?_
          rotate_left
          · have hSw1 := hSw; clear hSw; simp only [List.getElem_toArray, List.getElem_cons_zero, List.getElem_cons_succ]; go_simp; try rfl
          simp only [Act.put, List.getElem_toArray, List.getElem_cons_zero, List.getElem_cons_succ, List.setIfInBounds_toArray, List.set_cons_zero, List.set_cons_succ]
          refine z_take 2 (v := ?_) rfl (by kernel_rfl) (by kernel_rfl) (by kernel_rfl) (by kernel_rfl) (fun _ _ _ h => h) hHeld (by rfl) (fun w hSw => ?_) ?_
          rotate_left
          · have hSw1 := hSw; clear hSw; simp only [List.getElem_toArray, List.getElem_cons_zero, List.getElem_cons_succ]; go_simp; try rfl
          simp only [Act.put, List.getElem_toArray, List.getElem_cons_zero, List.getElem_cons_succ, List.setIfInBounds_toArray, List.set_cons_zero, List.set_cons_succ]
          refine z_take 3 (v := ?_) rfl (by kernel_rfl) (by kernel_rfl) (by kernel_rfl) (by kernel_rfl) (fun _ _ _ h => h) hHeld (by rfl) (fun w hSw => ?_) ?_
          rotate_left
          · have hSw1 := hSw; clear hSw; simp only [List.getElem_toArray, List.getElem_cons_zero, List.getElem_cons_succ]; go_simp; try rfl
          simp only [Act.put, List.getElem_toArray, List.getElem_cons_zero, List.getElem_cons_succ, List.setIfInBounds_toArray, List.set_cons_zero, List.set_cons_succ]
          refine z_take 4 (v := ?_) rfl (by kernel_rfl) (by kernel_rfl) (by kernel_rfl) (by kernel_rfl) (fun _ _ _ h => h) hHeld (by rfl) (fun w hSw => ?_) ?_
          rotate_left
          · have hSw1 := hSw; clear hSw; simp only [List.getElem_toArray, List.getElem_cons_zero, List.getElem_cons_succ]; go_simp; try rfl
          simp only [Act.put, List.getElem_toArray, List.getElem_cons_zero, List.getElem_cons_succ, List.setIfInBounds_toArray, List.set_cons_zero, List.set_cons_succ]
          refine z_take 5 (v := ?_) rfl (by kernel_rfl) (by kernel_rfl) (by kernel_rfl) (by kernel_rfl) (fun _ _ _ h => h) hHeld (by rfl) (fun w hSw => ?_) ?_
          rotate_left
          · have hSw1 := hSw; clear hSw; simp only [List.getElem_toArray, List.getElem_cons_zero, List.getElem_cons_succ]; go_simp; try rfl
          simp only [Act.put, List.getElem_toArray, List.getElem_cons_zero, List.getElem_cons_succ, List.setIfInBounds_toArray, List.set_cons_zero, List.set_cons_succ]
          refine z_take 6 (v := ?_) rfl (by kernel_rfl) (by kernel_rfl) (by kernel_rfl) (by kernel_rfl) (fun _ _ _ h => h) hHeld (by rfl) (fun w hSw => ?_) ?_
          rotate_left
          · have hSw1 := hSw; clear hSw; simp only [List.getElem_toArray, List.getElem_cons_zero, List.getElem_cons_succ]; go_simp; try rfl
          simp only [Act.put, List.getElem_toArray, List.getElem_cons_zero, List.getElem_cons_succ, List.setIfInBounds_toArray, List.set_cons_zero, List.set_cons_succ]
          refine z_take 7 (v := ?_) rfl (by kernel_rfl) (by kernel_rfl) (by kernel_rfl) (by kernel_rfl) (fun _ _ _ h => h) hHeld (by rfl) (fun w hSw => ?_) ?_
          rotate_left
          · have hSw1 := hSw; clear hSw; simp only [List.getElem_toArray, List.getElem_cons_zero, List.getElem_cons_succ]; go_simp; try rfl
          simp only [Act.put, List.getElem_toArray, List.getElem_cons_zero, List.getElem_cons_succ, List.setIfInBounds_toArray, List.set_cons_zero, List.set_cons_succ]
          refine z_take 8 (v := ?_) rfl (by kernel_rfl) (by kernel_rfl) (by kernel_rfl) (by kernel_rfl) (fun _ _ _ h => h) hHeld (by rfl) (fun w hSw => ?_) ?_
          rotate_left
          · have hSw1 := hSw; clear hSw; simp only [List.getElem_toArray, List.getElem_cons_zero, List.getElem_cons_succ]; go_simp; try rfl
          simp only [Act.put, List.getElem_toArray, List.getElem_cons_zero, List.getElem_cons_succ, List.setIfInBounds_toArray, List.set_cons_zero, List.set_cons_succ]
          refine z_take 9 (v := ?_) rfl (by kernel_rfl) (by kernel_rfl) (by kernel_rfl) (by kernel_rfl) (fun _ _ _ h => h) hHeld (by rfl) (fun w hSw => ?_) ?_
          rotate_left
          · have hSw1 := hSw; clear hSw; simp only [List.getElem_toArray, List.getElem_cons_zero, List.getElem_cons_succ]; go_simp; try rfl
          simp only [Act.put, List.getElem_toArray, List.getElem_cons_zero, List.getElem_cons_succ, List.setIfInBounds_toArray, List.set_cons_zero, List.set_cons_succ]
          refine z_take 10 (v := ?_) rfl (by kernel_rfl) (by kernel_rfl) (by kernel_rfl) (by kernel_rfl) (fun _ _ _ h => h) hHeld (by rfl) (fun w hSw => ?_) ?_
          rotate_left
          · have hSw1 := hSw; clear hSw; simp only [List.getElem_toArray, List.getElem_cons_zero, List.getElem_cons_succ]; go_simp; try rfl
          simp only [Act.put, List.getElem_toArray, List.getElem_cons_zero, List.getElem_cons_succ, List.setIfInBounds_toArray, List.set_cons_zero, List.set_cons_succ]
          refine z_take 11 (v := ?_) rfl (by kernel_rfl) (by kernel_rfl) (by kernel_rfl) (by kernel_rfl) (fun _ _ _ h => h) hHeld (by rfl) (fun w hSw => ?_) ?_
          rotate_left
          · have hSw1 := hSw; clear hSw; simp only [List.getElem_toArray, List.getElem_cons_zero, List.getElem_cons_succ]; go_simp; try rfl
          simp only [Act.put, List.getElem_toArray, List.getElem_cons_zero, List.getElem_cons_succ, List.setIfInBounds_toArray, List.set_cons_zero, List.set_cons_succ]
          refine z_one 12 rfl (by kernel_rfl) (by rfl) (fun K hK => ?_)
          simp only [List.getElem_toArray, List.getElem_cons_zero, List.getElem_cons_succ]
          go_simp
          refine (reader_any (some ⟨ga, half, none⟩) sz (ca - half) v0).mono ?_
          rintro e _ ⟨rfl, rfl⟩
          have hk : Keeps (fun _ => False) v0 ((v0.alloc (.cells #[.slice (some ⟨ga, half, none⟩) sz (ca - half)] 23)).alloc (.cells #[.int .i64 0] 3)) := ((Keeps.refl _ v0).alloc _).alloc _
          have qb : ((v0.alloc (.cells #[.slice (some ⟨ga, half, none⟩) sz (ca - half)] 23)).alloc (.cells #[.int .i64 0] 3)).heap[v0.heap.size]? = some (.cells #[.slice (some ⟨ga, half, none⟩) sz (ca - half)] 23 (0, 0)) := (Below.heap_alloc _ _ _ (by simp)).trans (World.alloc_heap_new v0 _)
          have qf : ((v0.alloc (.cells #[.slice (some ⟨ga, half, none⟩) sz (ca - half)] 23)).alloc (.cells #[.int .i64 0] 3)).heap[v0.heap.size + 1]? = some (.cells #[.int .i64 0] 3 (0, 0)) := by have := World.alloc_heap_new (v0.alloc (.cells #[.slice (some ⟨ga, half, none⟩) sz (ca - half)] 23)) (.cells #[.int .i64 0] 3); rwa [World.size_alloc] at this
          refine hK _ _ (Or.inr ?_) (fun hHeld => ?_)
          · exact sc hk hHeld
          clear hK K
          replace hHeld := hHeld.resolve_left (by decide)
          try simp only [Act.put, List.setIfInBounds_toArray, List.set_cons_zero, List.set_cons_succ]
          obtain ⟨v1, hv1⟩ : ∃ v, (v0.alloc (.cells #[.slice (some ⟨ga, half, none⟩) sz (ca - half)] 23)).alloc (.cells #[.int .i64 0] 3) = v := ⟨_, rfl⟩
          obtain ⟨g, hg⟩ : ∃ g, v0.heap.size = g := ⟨_, rfl⟩
          rw [hv1] at hk qb qf hHeld ⊢
          rw [hg] at qb qf ⊢
          have hgw : w4.heap.size ≤ g := by rw [← hg]; exact HKY.out.size
          replace HB := Lib.hid ((hk.block p (lt_of_heap HB.out) (fun h => h)).trans HB.out)
          replace HKY := Lib.hid (HKY.out.quiet hk)
          replace HOW := Lib.hid (And.intro (own_keep HOW.out.1 hk (fun _ _ h => h)) (own_keep HOW.out.2 hk (fun _ _ h => h)))
          have HGO : Hid (∀ k, (∃ n c m xs, v0.ownsRow w4.heap.size 5 1 (.slice (some ⟨k, 0, none⟩) n c) m xs) → k < g) := by rintro k ⟨n, c, m, xs, h⟩; rw [← hg]; exact (own_lt h rfl).2
          clear hv1 hg
          refine z_one 13 rfl (by kernel_rfl) (by rfl) (fun K hK => ?_)
          simp only [List.getElem_toArray, List.getElem_cons_zero, List.getElem_cons_succ]
          go_simp
          refine hK _ _ (Or.inr ?_) (fun hHeld => ?_)
          · exact hHeld
          clear hK K
          replace hHeld := hHeld.resolve_left (by decide)
          try simp only [Act.put, List.setIfInBounds_toArray, List.set_cons_zero, List.set_cons_succ]
          refine z_take 14 (v := ?_) rfl (by kernel_rfl) (by kernel_rfl) (by kernel_rfl) (by kernel_rfl) (fun _ _ _ h => h) hHeld (by rfl) (fun w hSw => ?_) ?_
          rotate_left
          · have hSw1 := hSw; clear hSw; simp only [List.getElem_toArray, List.getElem_cons_zero, List.getElem_cons_succ]; go_simp; try rfl
          simp only [Act.put, List.getElem_toArray, List.getElem_cons_zero, List.getElem_cons_succ, List.setIfInBounds_toArray, List.set_cons_zero, List.set_cons_succ]
          refine z_take 15 (v := ?_) rfl (by kernel_rfl) (by kernel_rfl) (by kernel_rfl) (by kernel_rfl) (fun _ _ _ h => h) hHeld (by rfl) (fun w hSw => ?_) ?_
          rotate_left
          · have hSw1 := hSw; clear hSw; simp only [List.getElem_toArray, List.getElem_cons_zero, List.getElem_cons_succ]; go_simp; try rfl
          simp only [Act.put, List.getElem_toArray, List.getElem_cons_zero, List.getElem_cons_succ, List.setIfInBounds_toArray, List.set_cons_zero, List.set_cons_succ]
          refine z_take 16 (v := ?_) rfl (by kernel_rfl) (by kernel_rfl) (by kernel_rfl) (by kernel_rfl) (fun _ _ _ h => h) hHeld (by rfl) (fun w hSw => ?_) ?_
          rotate_left
          · have hSw1 := hSw; clear hSw; simp only [List.getElem_toArray, List.getElem_cons_zero, List.getElem_cons_succ]; go_simp; try rfl
          simp only [Act.put, List.getElem_toArray, List.getElem_cons_zero, List.getElem_cons_succ, List.setIfInBounds_toArray, List.set_cons_zero, List.set_cons_succ]
          refine z_take 17 (v := ?_) rfl (by kernel_rfl) (by kernel_rfl) (by kernel_rfl) (by kernel_rfl) (fun _ _ _ h => h) hHeld (by rfl) (fun w hSw => ?_) ?_
          rotate_left
          · have hSw1 := hSw; clear hSw; simp only [List.getElem_toArray, List.getElem_cons_zero, List.getElem_cons_succ]; go_simp; try rfl
          simp only [Act.put, List.getElem_toArray, List.getElem_cons_zero, List.getElem_cons_succ, List.setIfInBounds_toArray, List.set_cons_zero, List.set_cons_succ]
          refine z_done (by kernel_rfl) ?_ _
          clear hHeld
          have hsa : Sl v1 (some ⟨ga, half, none⟩) sz (ca - half) (BV (cut D.now half sz)) := by
            have h1 := (Sl.of_own KW3.out.2).keep HX4.out.2.2.2.1 (fun ad e _ _ h => by cases e; have := HLL.out.2.2.1; rcases h with h | h <;> (have h' : ga = _ := h; omega))
            have h2 := h1.keep HKY.out (fun ad e _ _ h => by cases e; have h' : ga = p := h; have := HLL.out.2.2.1; omega)
            have h3 := h2.cut (i := half) (k := sz) (by omega)
            rwa [Nat.zero_add] at h3
          have hrd : RdAt v1 g (g + 1) ga half sz (ca - half) (cut D.now half sz) 0 := ⟨qb, qf, hsa, by have := HLL.out.2.2.1; omega, by omega, by omega, Nat.zero_le _⟩
          have HF := Lib.hid (frame_key g (g + 1) ga half sz (ca - half) (cut D.now half sz) 0 v1 hrd)
          have HG := Lib.hid hgw
          have hog : ∀ (s : Option Addr) (n c m : Nat) xs k, v1.ownsRow w4.heap.size 5 1 (.slice s n c) m xs → (Value.slice s n c).ownBlock = some k → ¬ k = g + 1 := fun s n c m xs k h e h2 => by
            obtain ⟨cur, hcur⟩ := own_blk h (own_form h e)
            rw [h2, qf] at hcur
            simp at hcur
          have HOG := Lib.hid hog
          clear qb qf hk hsa hrd hog
          go_wp2_with fail
          refine HF.out.mono ?_
          rintro e v2 ⟨s3, n3, c3, s4, n4, c4, t, fr3, rfl, _, hk, hcase⟩
          clear HF
          replace HB := Lib.hid ((hk.block p (lt_of_heap HB.out) (by have := HLL.out; omega)).trans HB.out)
          replace HKY := Lib.hid (HKY.out.trans hk (fun k hk e => by have := HG.out; omega))
          replace HOW := Lib.hid (And.intro (own_keep HOW.out.1 hk (fun k e => HOG.out _ _ _ _ _ k HOW.out.1 e)) (own_keep HOW.out.2 hk (fun k e => HOG.out _ _ _ _ _ k HOW.out.2 e)))
          clear hk HOG HGO hgw
          rcases hcase with ⟨hnone, rfl⟩ | ⟨x, y, hsome, rfl, hx, hy⟩
          · have hq : q0 = (0, []) := by rw [← HQ.out.1]; unfold plOf; rw [hnone]
            have HREL : Hid (OpB w4 pd half fr so rs.length co sz a1 p q0 q1 (.int .i64 1) v2) := by
              refine Lib.hid ⟨1, half, sz, T0, s0, n0, c0, l0, A1, S1, T1, s1, n1, c1, l1, ⟨by omega, rfl⟩, HB.out, HOW.out.1, HOW.out.2, HNE.out, HKY.out, fun h => absurd h (by omega), fun _ => HFC.out.2, fun _ => ?_, fun h => absurd h (by omega)⟩
              obtain ⟨h1, h2, h3⟩ := HFC.out.1
              exact ⟨rfl, rfl, by rw [h1, hq]; rfl, by rw [h3, hq], by rw [h2, h3]; rfl⟩
            clear hnone
            go_wp2
            go_roundw
            case rel => exact HREL.out
            case measure => simp [intOf]
          · obtain ⟨_, _, hxl, hyl⟩ := parse_some hsome
            obtain rfl : n3 = 4 := by have := hx.len; rw [BV_length] at this; omega
            have hyn : y.length = n4 := by have := hy.len; rw [BV_length] at this; exact this
            have HGT := Lib.hid (get_any s3 4 c3 x v2 hx (by omega))
            have hTl := le_lt x
            rw [hxl, show (256 : Nat) ^ 4 = 4294967296 from rfl] at hTl
            obtain ⟨T, hT⟩ : ∃ T, le x = T := ⟨_, rfl⟩
            rw [hT] at HGT hTl
            have hpl : q0 = if T = 0 then (0, []) else (T, y) := by rw [← HQ.out.1]; unfold plOf; rw [hsome]; simp only [hT]
            have HXY := Lib.hid (And.intro hx (And.intro hy (And.intro hyn (And.intro hT hyl))))
            have hn4 : n4 ≤ 65535 := by omega
            clear hx hy hyn hT hyl hsome hxl
            go_wp2_with fail
            refine HGT.out.mono ?_
            rintro e v3 ⟨rfl, hk⟩
            clear HGT
            replace HB := Lib.hid ((hk.block p (lt_of_heap HB.out) (fun h => h)).trans HB.out)
            replace HKY := Lib.hid (HKY.out.quiet hk)
            replace HOW := Lib.hid (And.intro (own_keep HOW.out.1 hk (fun _ _ h => h)) (own_keep HOW.out.2 hk (fun _ _ h => h)))
            replace HXY := Lib.hid (And.intro (HXY.out.1.quiet hk) (And.intro (HXY.out.2.1.quiet hk) HXY.out.2.2))
            clear hk
            by_cases hT0 : T = 0
            · have hq : q0 = (0, []) := by rw [hpl, if_pos hT0]
              have HREL : Hid (OpB w4 pd half fr so rs.length co sz a1 p q0 q1 (.int .i64 1) v3) := by
                refine Lib.hid ⟨1, half, sz, T0, s0, n0, c0, l0, A1, S1, T1, s1, n1, c1, l1, ⟨by omega, rfl⟩, HB.out, HOW.out.1, HOW.out.2, HNE.out, HKY.out, fun h => absurd h (by omega), fun _ => HFC.out.2, fun _ => ?_, fun h => absurd h (by omega)⟩
                obtain ⟨h1, h2, h3⟩ := HFC.out.1
                exact ⟨rfl, rfl, by rw [h1, hq]; rfl, by rw [h3, hq], by rw [h2, h3]; rfl⟩
              have tg : ¬ (T : Int) > 0 := by omega
              clear hpl hT0
              go_wp2
              go_roundw
              case rel => exact HREL.out
              case measure => simp [intOf]
            · have hq : q0 = (T, y) := by rw [hpl, if_neg hT0]
              have tg : (T : Int) > 0 := by omega
              have HGT := Lib.hid (get_any s3 4 c3 x v3 HXY.out.1 (by omega))
              rw [HXY.out.2.2.2.1] at HGT
              clear hpl hT0
              go_wp2_with fail
              refine HGT.out.mono ?_
              rintro e v4 ⟨rfl, hk⟩
              clear HGT
              replace HB := Lib.hid ((hk.block p (lt_of_heap HB.out) (fun h => h)).trans HB.out)
              replace HKY := Lib.hid (HKY.out.quiet hk)
              replace HOW := Lib.hid (And.intro (own_keep HOW.out.1 hk (fun _ _ h => h)) (own_keep HOW.out.2 hk (fun _ _ h => h)))
              replace HXY := Lib.hid (And.intro (HXY.out.1.quiet hk) (And.intro (HXY.out.2.1.quiet hk) HXY.out.2.2))
              clear hk
              have HKV := Lib.hid HKY.out.size
              have HCL := Lib.hid (clone_any s4 n4 c4 y v4 HXY.out.2.1 (by omega))
              go_wp2_with fail
              refine HCL.out.mono ?_
              rintro e v5 ⟨sc_, cc, rfl, hown, hk⟩
              clear HCL
              have hb5 := (hk.block p (lt_of_heap HB.out) (fun h => h)).trans HB.out
              replace HKY := Lib.hid (HKY.out.quiet hk)
              have HOC := Lib.hid hown
              have hsep : ∀ (s : Option Addr) (n c m : Nat) xs, v4.ownsRow w4.heap.size 5 1 (.slice s n c) m xs → s = none ∨ sc_ = none ∨ s ≠ sc_ := fun s n c m xs h => by
                rcases own_addr h with ⟨e, _⟩ | ⟨k1, e⟩
                · exact Or.inl e
                · rcases own_addr hown with ⟨e2, _⟩ | ⟨k2, e2⟩
                  · exact Or.inr (Or.inl e2)
                  · refine Or.inr (Or.inr (fun e3 => ?_))
                    have h1 := (own_lt h e).2
                    have h2 := (own_lt hown e2).1
                    rw [e, e2] at e3
                    cases e3
                    omega
              have HSEP := Lib.hid (hsep _ _ _ _ _ HOW.out.2)
              replace HOW := Lib.hid (And.intro (own_keep HOW.out.1 hk (fun _ _ h => h)) (own_keep HOW.out.2 hk (fun _ _ h => h)))
              have hbase : ∀ k, sc_ = some ⟨k, 0, none⟩ → w4.heap.size ≤ k := fun k e => Nat.le_trans HKV.out (own_lt hown e).1
              clear hown hk hsep
              have e2_ := cellAt hb5 6
              have f2_ := freeAt hb5 6
              simp at e2_
              obtain ⟨x1, hx1⟩ : ∃ v, v5.setCell ⟨p, 6, none⟩ (.int .u64 (T : Int)) = v := ⟨_, rfl⟩
              have hb6 : x1.heap[p]? = some (.cells #[.pointer (some ⟨pd, 0, none⟩), .int .i64 (half : Int), .int .i64 (fr : Int), .slice so rs.length co, .int .i64 (half : Int), .int .i64 (sz : Int), .int .u64 (T : Int), .slice s0 n0 c0, .int .i64 A1, .int .i64 S1, .int .u64 T1, .slice s1 n1 c1, .int .i64 0] 74 (0, 0)) := by rw [← hx1, heap_setCell_at hb5]; rfl
              have e3_ := cellAt hb6 7
              have f3_ := freeAt hb6 7
              simp at e3_
              obtain ⟨x2, hx2⟩ : ∃ v, x1.setCell ⟨p, 7, none⟩ (.slice sc_ n4 cc) = v := ⟨_, rfl⟩
              have hb7 : x2.heap[p]? = some (.cells #[.pointer (some ⟨pd, 0, none⟩), .int .i64 (half : Int), .int .i64 (fr : Int), .slice so rs.length co, .int .i64 (half : Int), .int .i64 (sz : Int), .int .u64 (T : Int), .slice sc_ n4 cc, .int .i64 A1, .int .i64 S1, .int .u64 T1, .slice s1 n1 c1, .int .i64 0] 74 (0, 0)) := by rw [← hx2, heap_setCell_at hb6]; rfl
              have kx : Keeps (fun x => x = p) v5 x2 := by rw [← hx2, ← hx1]; exact ((Keeps.refl (fun x => x = p) v5).setCell (p := ⟨p, 6, none⟩) (fun _ => rfl) _).setCell (p := ⟨p, 7, none⟩) (fun _ => rfl) _
              replace HB := Lib.hid hb7
              replace HKY := Lib.hid (HKY.out.trans kx (fun _ _ h => h))
              replace HOW := Lib.hid (And.intro (own_keep HOW.out.1 kx (fun k e h => by have := (HOW.out.1.lt k e).1; omega)) (own_keep HOW.out.2 kx (fun k e h => by have := (HOW.out.2.lt k e).1; omega)))
              have HOC2 : Hid (x2.ownsRow w4.heap.size 5 1 (.slice sc_ n4 cc) n4 (BV y)) := own_base (own_keep HOC.out kx (fun k e h => by have := hbase k (own_form HOC.out e); omega)) (fun k e => hbase k (own_form HOC.out e))
              clear hb5 hb6 hb7 kx hbase
              have HREL : Hid (OpB w4 pd half fr so rs.length co sz a1 p q0 q1 (.int .i64 1) x2) := by
                refine Lib.hid ⟨1, half, sz, T, sc_, n4, cc, y, A1, S1, T1, s1, n1, c1, l1, ⟨by omega, rfl⟩, HB.out, HOC2.out, HOW.out.2, (by rcases HSEP.out with h | h | h; exact Or.inr (Or.inl h); exact Or.inl h; exact Or.inr (Or.inr (fun e => h e.symm))), HKY.out, fun h => absurd h (by omega), fun _ => HFC.out.2, fun _ => ?_, fun h => absurd h (by omega)⟩
                exact ⟨rfl, rfl, by rw [hq], by rw [hq], HXY.out.2.2.1.symm⟩
              go_wp2
              go_roundw
              case rel => exact HREL.out
              case measure => simp [intOf]
        · have HFC := Lib.hid (And.intro (HFC_.out.2.1 (by omega)) (HFC_.out.2.2.1 (by omega)))
          clear HFC_
          have e0 := cellAt hb 8
          have f0 := freeAt hb 8
          simp at e0
          obtain ⟨y1, hy1⟩ : ∃ v, wr.setCell ⟨p, 8, none⟩ (.int .i64 (a1 : Int)) = v := ⟨_, rfl⟩
          have hb1 : y1.heap[p]? = some (.cells #[.pointer (some ⟨pd, 0, none⟩), .int .i64 (half : Int), .int .i64 (fr : Int), .slice so rs.length co, .int .i64 A0, .int .i64 S0, .int .u64 T0, .slice s0 n0 c0, .int .i64 (a1 : Int), .int .i64 S1, .int .u64 T1, .slice s1 n1 c1, .int .i64 0] 74 (0, 0)) := by rw [← hy1, heap_setCell_at hb]; rfl
          have e1 := cellAt hb1 9
          have f1 := freeAt hb1 9
          simp at e1
          obtain ⟨y2, hy2⟩ : ∃ v, y1.setCell ⟨p, 9, none⟩ (.int .i64 (sz : Int)) = v := ⟨_, rfl⟩
          have hb2 : y2.heap[p]? = some (.cells #[.pointer (some ⟨pd, 0, none⟩), .int .i64 (half : Int), .int .i64 (fr : Int), .slice so rs.length co, .int .i64 A0, .int .i64 S0, .int .u64 T0, .slice s0 n0 c0, .int .i64 (a1 : Int), .int .i64 (sz : Int), .int .u64 T1, .slice s1 n1 c1, .int .i64 0] 74 (0, 0)) := by rw [← hy2, heap_setCell_at hb1]; rfl
          have ky : Keeps (fun x => x = p) wr y2 := by rw [← hy2, ← hy1]; exact ((Keeps.refl (fun x => x = p) wr).setCell (p := ⟨p, 8, none⟩) (fun _ => rfl) _).setCell (p := ⟨p, 9, none⟩) (fun _ => rfl) _
          have c1_ := cellAt hb 1
          simp at c1_
          have c1y := cellAt hb2 8
          simp at c1y
          have HB := Lib.hid hb2
          have HKY := Lib.hid (hkp.trans ky (fun _ _ h => h))
          have HOW := Lib.hid (And.intro (own_keep ow0 ky (fun k e h => by have := (ow0.lt k e).1; omega)) (own_keep ow1 ky (fun k e h => by have := (ow1.lt k e).1; omega)))
          have HNE := Lib.hid hne
          clear hb hb1 hb2 ky ow0 ow1 hkp hne
          go_wp2_with fail
          clear hy1 hy2 e0 f0 e1 f1 c1_
          refine z_begin (fun w' => w'.cell? ⟨p, 8, none⟩ = some (.int .i64 (a1 : Int))) 18 (by kernel_rfl) (c1y) (fun hHeld => ?_)
          have hk : Keeps (fun _ => False) y2 (World.drew y2) := (Keeps.refl _ _).drew
          replace HB := Lib.hid ((hk.block p (lt_of_heap HB.out) (fun h => h)).trans HB.out)
          replace HKY := Lib.hid (HKY.out.quiet hk)
          replace HOW := Lib.hid (And.intro (own_keep HOW.out.1 hk (fun _ _ h => h)) (own_keep HOW.out.2 hk (fun _ _ h => h)))
          clear hk c1y
          generalize World.drew y2 = v0 at *
          refine z_take 0 (v := ?_) rfl (by kernel_rfl) (by kernel_rfl) (by kernel_rfl) (by kernel_rfl) (fun _ _ _ h => h) hHeld (by rfl) (fun w hSw => ?_) ?_
          rotate_left
          · have hSw1 := hSw; clear hSw; simp only [List.getElem_toArray, List.getElem_cons_zero]; go_simp; try rfl
          simp only [Act.put, List.getElem_toArray, List.getElem_cons_zero, List.setIfInBounds_toArray, List.set_cons_zero, List.set_cons_succ]
          refine z_take 1 (v := ?_) rfl (by kernel_rfl) (by kernel_rfl) (by kernel_rfl) (by kernel_rfl) (fun _ _ _ h => h) hHeld (by rfl) (fun w hSw => ?_) ?_
          rotate_left
          · have hSw1 := hSw; clear hSw; simp only [List.getElem_toArray, List.getElem_cons_zero, List.getElem_cons_succ]; go_simp; try rfl
          simp only [Act.put, List.getElem_toArray, List.getElem_cons_zero, List.getElem_cons_succ, List.setIfInBounds_toArray, List.set_cons_zero, List.set_cons_succ]
          refine z_take 2 (v := ?_) rfl (by kernel_rfl) (by kernel_rfl) (by kernel_rfl) (by kernel_rfl) (fun _ _ _ h => h) hHeld (by rfl) (fun w hSw => ?_) ?_
          rotate_left
          · have hSw1 := hSw; clear hSw; simp only [List.getElem_toArray, List.getElem_cons_zero, List.getElem_cons_succ]; go_simp; try rfl
          simp only [Act.put, List.getElem_toArray, List.getElem_cons_zero, List.getElem_cons_succ, List.setIfInBounds_toArray, List.set_cons_zero, List.set_cons_succ]
          refine z_take 3 (v := ?_) rfl (by kernel_rfl) (by kernel_rfl) (by kernel_rfl) (by kernel_rfl) (fun _ _ _ h => h) hHeld (by rfl) (fun w hSw => ?_) ?_
          rotate_left
          · have hSw1 := hSw; clear hSw; simp only [List.getElem_toArray, List.getElem_cons_zero, List.getElem_cons_succ]; go_simp; try rfl
          simp only [Act.put, List.getElem_toArray, List.getElem_cons_zero, List.getElem_cons_succ, List.setIfInBounds_toArray, List.set_cons_zero, List.set_cons_succ]
          refine z_take 4 (v := ?_) rfl (by kernel_rfl) (by kernel_rfl) (by kernel_rfl) (by kernel_rfl) (fun _ _ _ h => h) hHeld (by rfl) (fun w hSw => ?_) ?_
          rotate_left
          · have hSw1 := hSw; clear hSw; simp only [List.getElem_toArray, List.getElem_cons_zero, List.getElem_cons_succ]; go_simp; try rfl
          simp only [Act.put, List.getElem_toArray, List.getElem_cons_zero, List.getElem_cons_succ, List.setIfInBounds_toArray, List.set_cons_zero, List.set_cons_succ]
          refine z_take 5 (v := ?_) rfl (by kernel_rfl) (by kernel_rfl) (by kernel_rfl) (by kernel_rfl) (fun _ _ _ h => h) hHeld (by rfl) (fun w hSw => ?_) ?_
          rotate_left
          · have hSw1 := hSw; clear hSw; simp only [List.getElem_toArray, List.getElem_cons_zero, List.getElem_cons_succ]; go_simp; try rfl
          simp only [Act.put, List.getElem_toArray, List.getElem_cons_zero, List.getElem_cons_succ, List.setIfInBounds_toArray, List.set_cons_zero, List.set_cons_succ]
          refine z_take 6 (v := ?_) rfl (by kernel_rfl) (by kernel_rfl) (by kernel_rfl) (by kernel_rfl) (fun _ _ _ h => h) hHeld (by rfl) (fun w hSw => ?_) ?_
          rotate_left
          · have hSw1 := hSw; clear hSw; simp only [List.getElem_toArray, List.getElem_cons_zero, List.getElem_cons_succ]; go_simp; try rfl
          simp only [Act.put, List.getElem_toArray, List.getElem_cons_zero, List.getElem_cons_succ, List.setIfInBounds_toArray, List.set_cons_zero, List.set_cons_succ]
          refine z_take 7 (v := ?_) rfl (by kernel_rfl) (by kernel_rfl) (by kernel_rfl) (by kernel_rfl) (fun _ _ _ h => h) hHeld (by rfl) (fun w hSw => ?_) ?_
          rotate_left
          · have hSw1 := hSw; clear hSw; simp only [List.getElem_toArray, List.getElem_cons_zero, List.getElem_cons_succ]; go_simp; try rfl
          simp only [Act.put, List.getElem_toArray, List.getElem_cons_zero, List.getElem_cons_succ, List.setIfInBounds_toArray, List.set_cons_zero, List.set_cons_succ]
          refine z_take 8 (v := ?_) rfl (by kernel_rfl) (by kernel_rfl) (by kernel_rfl) (by kernel_rfl) (fun _ _ _ h => h) hHeld (by rfl) (fun w hSw => ?_) ?_
          rotate_left
          · have hSw1 := hSw; clear hSw; simp only [List.getElem_toArray, List.getElem_cons_zero, List.getElem_cons_succ]; go_simp; try rfl
          simp only [Act.put, List.getElem_toArray, List.getElem_cons_zero, List.getElem_cons_succ, List.setIfInBounds_toArray, List.set_cons_zero, List.set_cons_succ]
          refine z_take 9 (v := ?_) rfl (by kernel_rfl) (by kernel_rfl) (by kernel_rfl) (by kernel_rfl) (fun _ _ _ h => h) hHeld (by rfl) (fun w hSw => ?_) ?_
          rotate_left
          · have hSw1 := hSw; clear hSw; simp only [List.getElem_toArray, List.getElem_cons_zero, List.getElem_cons_succ]; go_simp; try rfl
          simp only [Act.put, List.getElem_toArray, List.getElem_cons_zero, List.getElem_cons_succ, List.setIfInBounds_toArray, List.set_cons_zero, List.set_cons_succ]
          refine z_take 10 (v := ?_) rfl (by kernel_rfl) (by kernel_rfl) (by kernel_rfl) (by kernel_rfl) (fun _ _ _ h => h) hHeld (by rfl) (fun w hSw => ?_) ?_
          rotate_left
          · have hSw1 := hSw; clear hSw; simp only [List.getElem_toArray, List.getElem_cons_zero, List.getElem_cons_succ]; go_simp; try rfl
          simp only [Act.put, List.getElem_toArray, List.getElem_cons_zero, List.getElem_cons_succ, List.setIfInBounds_toArray, List.set_cons_zero, List.set_cons_succ]
          refine z_take 11 (v := ?_) rfl (by kernel_rfl) (by kernel_rfl) (by kernel_rfl) (by kernel_rfl) (fun _ _ _ h => h) hHeld (by rfl) (fun w hSw => ?_) ?_
          rotate_left
          · have hSw1 := hSw; clear hSw; simp only [List.getElem_toArray, List.getElem_cons_zero, List.getElem_cons_succ]; go_simp; try rfl
          simp only [Act.put, List.getElem_toArray, List.getElem_cons_zero, List.getElem_cons_succ, List.setIfInBounds_toArray, List.set_cons_zero, List.set_cons_succ]
          refine z_one 12 rfl (by kernel_rfl) (by rfl) (fun K hK => ?_)
          simp only [List.getElem_toArray, List.getElem_cons_zero, List.getElem_cons_succ]
          go_simp
          refine (reader_any (some ⟨ga, a1, none⟩) sz (ca - a1) v0).mono ?_
          rintro e _ ⟨rfl, rfl⟩
          have hk : Keeps (fun _ => False) v0 ((v0.alloc (.cells #[.slice (some ⟨ga, a1, none⟩) sz (ca - a1)] 23)).alloc (.cells #[.int .i64 0] 3)) := ((Keeps.refl _ v0).alloc _).alloc _
          have qb : ((v0.alloc (.cells #[.slice (some ⟨ga, a1, none⟩) sz (ca - a1)] 23)).alloc (.cells #[.int .i64 0] 3)).heap[v0.heap.size]? = some (.cells #[.slice (some ⟨ga, a1, none⟩) sz (ca - a1)] 23 (0, 0)) := (Below.heap_alloc _ _ _ (by simp)).trans (World.alloc_heap_new v0 _)
          have qf : ((v0.alloc (.cells #[.slice (some ⟨ga, a1, none⟩) sz (ca - a1)] 23)).alloc (.cells #[.int .i64 0] 3)).heap[v0.heap.size + 1]? = some (.cells #[.int .i64 0] 3 (0, 0)) := by have := World.alloc_heap_new (v0.alloc (.cells #[.slice (some ⟨ga, a1, none⟩) sz (ca - a1)] 23)) (.cells #[.int .i64 0] 3); rwa [World.size_alloc] at this
          refine hK _ _ (Or.inr ?_) (fun hHeld => ?_)
          · exact sc hk hHeld
          clear hK K
          replace hHeld := hHeld.resolve_left (by decide)
          try simp only [Act.put, List.setIfInBounds_toArray, List.set_cons_zero, List.set_cons_succ]
          obtain ⟨v1, hv1⟩ : ∃ v, (v0.alloc (.cells #[.slice (some ⟨ga, a1, none⟩) sz (ca - a1)] 23)).alloc (.cells #[.int .i64 0] 3) = v := ⟨_, rfl⟩
          obtain ⟨g, hg⟩ : ∃ g, v0.heap.size = g := ⟨_, rfl⟩
          rw [hv1] at hk qb qf hHeld ⊢
          rw [hg] at qb qf ⊢
          have hgw : w4.heap.size ≤ g := by rw [← hg]; exact HKY.out.size
          replace HB := Lib.hid ((hk.block p (lt_of_heap HB.out) (fun h => h)).trans HB.out)
          replace HKY := Lib.hid (HKY.out.quiet hk)
          replace HOW := Lib.hid (And.intro (own_keep HOW.out.1 hk (fun _ _ h => h)) (own_keep HOW.out.2 hk (fun _ _ h => h)))
          have HGO : Hid (∀ k, (∃ n c m xs, v0.ownsRow w4.heap.size 5 1 (.slice (some ⟨k, 0, none⟩) n c) m xs) → k < g) := by rintro k ⟨n, c, m, xs, h⟩; rw [← hg]; exact (own_lt h rfl).2
          clear hv1 hg
          refine z_one 13 rfl (by kernel_rfl) (by rfl) (fun K hK => ?_)
          simp only [List.getElem_toArray, List.getElem_cons_zero, List.getElem_cons_succ]
          go_simp
          refine hK _ _ (Or.inr ?_) (fun hHeld => ?_)
          · exact hHeld
          clear hK K
          replace hHeld := hHeld.resolve_left (by decide)
          try simp only [Act.put, List.setIfInBounds_toArray, List.set_cons_zero, List.set_cons_succ]
          refine z_take 14 (v := ?_) rfl (by kernel_rfl) (by kernel_rfl) (by kernel_rfl) (by kernel_rfl) (fun _ _ _ h => h) hHeld (by rfl) (fun w hSw => ?_) ?_
          rotate_left
          · have hSw1 := hSw; clear hSw; simp only [List.getElem_toArray, List.getElem_cons_zero, List.getElem_cons_succ]; go_simp; try rfl
          simp only [Act.put, List.getElem_toArray, List.getElem_cons_zero, List.getElem_cons_succ, List.setIfInBounds_toArray, List.set_cons_zero, List.set_cons_succ]
          refine z_take 15 (v := ?_) rfl (by kernel_rfl) (by kernel_rfl) (by kernel_rfl) (by kernel_rfl) (fun _ _ _ h => h) hHeld (by rfl) (fun w hSw => ?_) ?_
          rotate_left
          · have hSw1 := hSw; clear hSw; simp only [List.getElem_toArray, List.getElem_cons_zero, List.getElem_cons_succ]; go_simp; try rfl
          simp only [Act.put, List.getElem_toArray, List.getElem_cons_zero, List.getElem_cons_succ, List.setIfInBounds_toArray, List.set_cons_zero, List.set_cons_succ]
          refine z_take 16 (v := ?_) rfl (by kernel_rfl) (by kernel_rfl) (by kernel_rfl) (by kernel_rfl) (fun _ _ _ h => h) hHeld (by rfl) (fun w hSw => ?_) ?_
          rotate_left
          · have hSw1 := hSw; clear hSw; simp only [List.getElem_toArray, List.getElem_cons_zero, List.getElem_cons_succ]; go_simp; try rfl
          simp only [Act.put, List.getElem_toArray, List.getElem_cons_zero, List.getElem_cons_succ, List.setIfInBounds_toArray, List.set_cons_zero, List.set_cons_succ]
          refine z_take 17 (v := ?_) rfl (by kernel_rfl) (by kernel_rfl) (by kernel_rfl) (by kernel_rfl) (fun _ _ _ h => h) hHeld (by rfl) (fun w hSw => ?_) ?_
          rotate_left
          · have hSw1 := hSw; clear hSw; simp only [List.getElem_toArray, List.getElem_cons_zero, List.getElem_cons_succ]; go_simp; try rfl
          simp only [Act.put, List.getElem_toArray, List.getElem_cons_zero, List.getElem_cons_succ, List.setIfInBounds_toArray, List.set_cons_zero, List.set_cons_succ]
          refine z_done (by kernel_rfl) ?_ _
          clear hHeld
          have hsa : Sl v1 (some ⟨ga, a1, none⟩) sz (ca - a1) (BV (cut D.now a1 sz)) := by
            have h1 := (Sl.of_own KW3.out.2).keep HX4.out.2.2.2.1 (fun ad e _ _ h => by cases e; have := HLL.out.2.2.1; rcases h with h | h <;> (have h' : ga = _ := h; omega))
            have h2 := h1.keep HKY.out (fun ad e _ _ h => by cases e; have h' : ga = p := h; have := HLL.out.2.2.1; omega)
            have h3 := h2.cut (i := a1) (k := sz) (by omega)
            rwa [Nat.zero_add] at h3
          have hrd : RdAt v1 g (g + 1) ga a1 sz (ca - a1) (cut D.now a1 sz) 0 := ⟨qb, qf, hsa, by have := HLL.out.2.2.1; omega, by omega, by omega, Nat.zero_le _⟩
          have HF := Lib.hid (frame_key g (g + 1) ga a1 sz (ca - a1) (cut D.now a1 sz) 0 v1 hrd)
          have HG := Lib.hid hgw
          have hog : ∀ (s : Option Addr) (n c m : Nat) xs k, v1.ownsRow w4.heap.size 5 1 (.slice s n c) m xs → (Value.slice s n c).ownBlock = some k → ¬ k = g + 1 := fun s n c m xs k h e h2 => by
            obtain ⟨cur, hcur⟩ := own_blk h (own_form h e)
            rw [h2, qf] at hcur
            simp at hcur
          have HOG := Lib.hid hog
          clear qb qf hk hsa hrd hog
          go_wp2_with fail
          refine HF.out.mono ?_
          rintro e v2 ⟨s3, n3, c3, s4, n4, c4, t, fr3, rfl, _, hk, hcase⟩
          clear HF
          replace HB := Lib.hid ((hk.block p (lt_of_heap HB.out) (by have := HLL.out; omega)).trans HB.out)
          replace HKY := Lib.hid (HKY.out.trans hk (fun k hk e => by have := HG.out; omega))
          replace HOW := Lib.hid (And.intro (own_keep HOW.out.1 hk (fun k e => HOG.out _ _ _ _ _ k HOW.out.1 e)) (own_keep HOW.out.2 hk (fun k e => HOG.out _ _ _ _ _ k HOW.out.2 e)))
          clear hk HOG HGO hgw
          rcases hcase with ⟨hnone, rfl⟩ | ⟨x, y, hsome, rfl, hx, hy⟩
          · have hq : q1 = (0, []) := by rw [← HQ.out.2.1]; unfold plOf; rw [hnone]
            have HREL : Hid (OpB w4 pd half fr so rs.length co sz a1 p q0 q1 (.int .i64 2) v2) := by
              refine Lib.hid ⟨2, A0, S0, T0, s0, n0, c0, l0, a1, sz, T1, s1, n1, c1, l1, ⟨by omega, rfl⟩, HB.out, HOW.out.1, HOW.out.2, HNE.out, HKY.out, fun h => absurd h (by omega), fun h => absurd h (by omega), fun _ => HFC.out.2, fun _ => ?_⟩
              obtain ⟨h1, h2, h3⟩ := HFC.out.1
              exact ⟨rfl, rfl, by rw [h1, hq]; rfl, by rw [h3, hq], by rw [h2, h3]; rfl⟩
            clear hnone
            go_wp2
            go_roundw
            case rel => exact HREL.out
            case measure => simp [intOf]
          · obtain ⟨_, _, hxl, hyl⟩ := parse_some hsome
            obtain rfl : n3 = 4 := by have := hx.len; rw [BV_length] at this; omega
            have hyn : y.length = n4 := by have := hy.len; rw [BV_length] at this; exact this
            have HGT := Lib.hid (get_any s3 4 c3 x v2 hx (by omega))
            have hTl := le_lt x
            rw [hxl, show (256 : Nat) ^ 4 = 4294967296 from rfl] at hTl
            obtain ⟨T, hT⟩ : ∃ T, le x = T := ⟨_, rfl⟩
            rw [hT] at HGT hTl
            have hpl : q1 = if T = 0 then (0, []) else (T, y) := by rw [← HQ.out.2.1]; unfold plOf; rw [hsome]; simp only [hT]
            have HXY := Lib.hid (And.intro hx (And.intro hy (And.intro hyn (And.intro hT hyl))))
            have hn4 : n4 ≤ 65535 := by omega
            clear hx hy hyn hT hyl hsome hxl
            go_wp2_with fail
            refine HGT.out.mono ?_
            rintro e v3 ⟨rfl, hk⟩
            clear HGT
            replace HB := Lib.hid ((hk.block p (lt_of_heap HB.out) (fun h => h)).trans HB.out)
            replace HKY := Lib.hid (HKY.out.quiet hk)
            replace HOW := Lib.hid (And.intro (own_keep HOW.out.1 hk (fun _ _ h => h)) (own_keep HOW.out.2 hk (fun _ _ h => h)))
            replace HXY := Lib.hid (And.intro (HXY.out.1.quiet hk) (And.intro (HXY.out.2.1.quiet hk) HXY.out.2.2))
            clear hk
            by_cases hT0 : T = 0
            · have hq : q1 = (0, []) := by rw [hpl, if_pos hT0]
              have HREL : Hid (OpB w4 pd half fr so rs.length co sz a1 p q0 q1 (.int .i64 2) v3) := by
                refine Lib.hid ⟨2, A0, S0, T0, s0, n0, c0, l0, a1, sz, T1, s1, n1, c1, l1, ⟨by omega, rfl⟩, HB.out, HOW.out.1, HOW.out.2, HNE.out, HKY.out, fun h => absurd h (by omega), fun h => absurd h (by omega), fun _ => HFC.out.2, fun _ => ?_⟩
                obtain ⟨h1, h2, h3⟩ := HFC.out.1
                exact ⟨rfl, rfl, by rw [h1, hq]; rfl, by rw [h3, hq], by rw [h2, h3]; rfl⟩
              have tg : ¬ (T : Int) > 0 := by omega
              clear hpl hT0
              go_wp2
              go_roundw
              case rel => exact HREL.out
              case measure => simp [intOf]
            · have hq : q1 = (T, y) := by rw [hpl, if_neg hT0]
              have tg : (T : Int) > 0 := by omega
              have HGT := Lib.hid (get_any s3 4 c3 x v3 HXY.out.1 (by omega))
              rw [HXY.out.2.2.2.1] at HGT
              clear hpl hT0
              go_wp2_with fail
              refine HGT.out.mono ?_
              rintro e v4 ⟨rfl, hk⟩
              clear HGT
              replace HB := Lib.hid ((hk.block p (lt_of_heap HB.out) (fun h => h)).trans HB.out)
              replace HKY := Lib.hid (HKY.out.quiet hk)
              replace HOW := Lib.hid (And.intro (own_keep HOW.out.1 hk (fun _ _ h => h)) (own_keep HOW.out.2 hk (fun _ _ h => h)))
              replace HXY := Lib.hid (And.intro (HXY.out.1.quiet hk) (And.intro (HXY.out.2.1.quiet hk) HXY.out.2.2))
              clear hk
              have HKV := Lib.hid HKY.out.size
              have HCL := Lib.hid (clone_any s4 n4 c4 y v4 HXY.out.2.1 (by omega))
              go_wp2_with fail
              refine HCL.out.mono ?_
              rintro e v5 ⟨sc_, cc, rfl, hown, hk⟩
              clear HCL
              have hb5 := (hk.block p (lt_of_heap HB.out) (fun h => h)).trans HB.out
              replace HKY := Lib.hid (HKY.out.quiet hk)
              have HOC := Lib.hid hown
              have hsep : ∀ (s : Option Addr) (n c m : Nat) xs, v4.ownsRow w4.heap.size 5 1 (.slice s n c) m xs → s = none ∨ sc_ = none ∨ s ≠ sc_ := fun s n c m xs h => by
                rcases own_addr h with ⟨e, _⟩ | ⟨k1, e⟩
                · exact Or.inl e
                · rcases own_addr hown with ⟨e2, _⟩ | ⟨k2, e2⟩
                  · exact Or.inr (Or.inl e2)
                  · refine Or.inr (Or.inr (fun e3 => ?_))
                    have h1 := (own_lt h e).2
                    have h2 := (own_lt hown e2).1
                    rw [e, e2] at e3
                    cases e3
                    omega
              have HSEP := Lib.hid (hsep _ _ _ _ _ HOW.out.1)
              replace HOW := Lib.hid (And.intro (own_keep HOW.out.1 hk (fun _ _ h => h)) (own_keep HOW.out.2 hk (fun _ _ h => h)))
              have hbase : ∀ k, sc_ = some ⟨k, 0, none⟩ → w4.heap.size ≤ k := fun k e => Nat.le_trans HKV.out (own_lt hown e).1
              clear hown hk hsep
              have e2_ := cellAt hb5 10
              have f2_ := freeAt hb5 10
              simp at e2_
              obtain ⟨x1, hx1⟩ : ∃ v, v5.setCell ⟨p, 10, none⟩ (.int .u64 (T : Int)) = v := ⟨_, rfl⟩
              have hb6 : x1.heap[p]? = some (.cells #[.pointer (some ⟨pd, 0, none⟩), .int .i64 (half : Int), .int .i64 (fr : Int), .slice so rs.length co, .int .i64 A0, .int .i64 S0, .int .u64 T0, .slice s0 n0 c0, .int .i64 (a1 : Int), .int .i64 (sz : Int), .int .u64 (T : Int), .slice s1 n1 c1, .int .i64 0] 74 (0, 0)) := by rw [← hx1, heap_setCell_at hb5]; rfl
              have e3_ := cellAt hb6 11
              have f3_ := freeAt hb6 11
              simp at e3_
              obtain ⟨x2, hx2⟩ : ∃ v, x1.setCell ⟨p, 11, none⟩ (.slice sc_ n4 cc) = v := ⟨_, rfl⟩
              have hb7 : x2.heap[p]? = some (.cells #[.pointer (some ⟨pd, 0, none⟩), .int .i64 (half : Int), .int .i64 (fr : Int), .slice so rs.length co, .int .i64 A0, .int .i64 S0, .int .u64 T0, .slice s0 n0 c0, .int .i64 (a1 : Int), .int .i64 (sz : Int), .int .u64 (T : Int), .slice sc_ n4 cc, .int .i64 0] 74 (0, 0)) := by rw [← hx2, heap_setCell_at hb6]; rfl
              have kx : Keeps (fun x => x = p) v5 x2 := by rw [← hx2, ← hx1]; exact ((Keeps.refl (fun x => x = p) v5).setCell (p := ⟨p, 10, none⟩) (fun _ => rfl) _).setCell (p := ⟨p, 11, none⟩) (fun _ => rfl) _
              replace HB := Lib.hid hb7
              replace HKY := Lib.hid (HKY.out.trans kx (fun _ _ h => h))
              replace HOW := Lib.hid (And.intro (own_keep HOW.out.1 kx (fun k e h => by have := (HOW.out.1.lt k e).1; omega)) (own_keep HOW.out.2 kx (fun k e h => by have := (HOW.out.2.lt k e).1; omega)))
              have HOC2 : Hid (x2.ownsRow w4.heap.size 5 1 (.slice sc_ n4 cc) n4 (BV y)) := own_base (own_keep HOC.out kx (fun k e h => by have := hbase k (own_form HOC.out e); omega)) (fun k e => hbase k (own_form HOC.out e))
              clear hb5 hb6 hb7 kx hbase
              have HREL : Hid (OpB w4 pd half fr so rs.length co sz a1 p q0 q1 (.int .i64 2) x2) := by
                refine Lib.hid ⟨2, A0, S0, T0, s0, n0, c0, l0, a1, sz, T, sc_, n4, cc, y, ⟨by omega, rfl⟩, HB.out, HOW.out.1, HOC2.out, HSEP.out, HKY.out, fun h => absurd h (by omega), fun h => absurd h (by omega), fun _ => HFC.out.2, fun _ => ?_⟩
                exact ⟨rfl, rfl, by rw [hq], by rw [hq], HXY.out.2.2.1.symm⟩
              go_wp2
              go_roundw
              case rel => exact HREL.out
              case measure => simp [intOf]
        · have HFC := Lib.hid (And.intro (HFC_.out.2.2.1 (by omega)) (HFC_.out.2.2.2 (by omega)))
          have HB := Lib.hid hb
          have HOW := Lib.hid (And.intro ow0 (And.intro ow1 hne))
          have HKY := Lib.hid hkp
          clear HFC_ hb ow0 ow1 hne hkp
          obtain ⟨u0, m0⟩ := q0
          obtain ⟨u1, m1⟩ := q1
          obtain ⟨e1, e2, e3, e4, e5⟩ := HFC.out.1
          obtain ⟨e6, e7, e8, e9, e10⟩ := HFC.out.2
          dsimp only at e3 e4 e8 e9
          subst e1 e2 e3 e4 e5 e6 e7 e8 e9 e10
          clear HFC
          have HWK : Keeps (fun k => w.heap.size ≤ k) w wr := ((KW3.out.1.mono (fun _ _ h => h.elim)).trans HX4.out.2.2.2.1 (fun k hk h => by have := HLL.out.2.2.2.1; rcases h with h | h <;> omega)).trans HKY.out (fun k hk h => by have := HLL.out.2.2.2.1; omega)
          have hEd := HD.out.1.keep HWK (fun k hf h => by have := HD.out.1.lt k hf; omega)
          have HKW : Hid (Keeps Fd w wr) := HWK.mono (fun k hk h => by omega)
          have hpF : ¬ Fd p := fun hf => by have := HD.out.1.lt p hf; have := HLL.out.2.2.2.1; omega
          have HPL : Hid (p < wr.heap.size ∧ ¬ Fd p) := Lib.hid (And.intro (lt_of_heap HB.out) hpF)
          have HE : Hid (Disk wr pd D Fd ∧ ¬ Fd p ∧ ∀ k, Fd k → Fd k ∨ wr.heap.size ≤ k) := Lib.hid (And.intro hEd (And.intro hpF (fun _ h => Or.inl h)))
          have KG : Hid (Keeps (fun k => k = p ∨ Fd k) wr wr) := Lib.hid (Keeps.refl _ _)
          have hfr := (HTEN.out.2 : fr ≤ _)
          obtain ⟨hf, hhf⟩ : ∃ h, half - fr = h := ⟨_, rfl⟩
          have hfh : fr ≤ half := by have := HLL.out.2.1; omega
          have esub : (half : Int) - (fr : Int) = (hf : Int) := by omega
          have wsub : IntKind.i64.wrap (hf : Int) = (hf : Int) := IntWalk.i64_in _ (by omega)
          have HCR : Hid (D.cr = false ∧ fr + hf ≤ D.now.length) := Lib.hid (And.intro HD.out.2.1 (by have := HN.out; omega))
          have HROW : Hid (wr.ownsRow (p + 3) 23 1 (.slice so rs.length co) rs.length vs ∧ RowsO wr (p + 3) vs rs) := Lib.hid (And.intro (own_keep HX4.out.2.1 HKY.out (fun k e h => by have := (HX4.out.2.1.lt k e).1; omega)) (HX4.out.2.2.1.keep HKY.out (fun k h _ _ e => by omega)))
          clear HWK hEd hpF hfr hfh
          by_cases hlt : u0 < u1
          · have tg : (u1 : Int) > (u0 : Int) := by omega
            go_wp2_with fail
            have c10_ := cellAt HB.out 10
            simp at c10_
            have c6_ := cellAt HB.out 6
            simp at c6_
            refine z_begin (fun w' => w'.cell? ⟨p, 10, none⟩ = some (.int .u64 (u1 : Int)) ∧ w'.cell? ⟨p, 6, none⟩ = some (.int .u64 (u0 : Int))) 13 (by kernel_rfl) (⟨c10_, c6_⟩) (fun hHeld => ?_)
            have hk : Keeps (fun _ => False) wr (World.drew wr) := (Keeps.refl _ _).drew
            replace HB := Lib.hid ((hk.block p (lt_of_heap HB.out) (fun h => h)).trans HB.out)
            replace KG := Lib.hid (KG.out.quiet hk)
            replace HE := Lib.hid (And.intro (HE.out.1.keep hk (fun _ _ h => h)) HE.out.2)
            clear hk
            generalize World.drew wr = v1 at *
            clear c10_ c6_
            refine z_take 0 (v := ?_) rfl (by kernel_rfl) (by kernel_rfl) (by kernel_rfl) (by kernel_rfl) (fun _ _ _ h => h) hHeld (by rfl) (fun w hSw => ?_) ?_
            rotate_left
            · obtain ⟨hSw1, hSw2⟩ := hSw; simp only [List.getElem_toArray, List.getElem_cons_zero]; go_simp; try rfl
            simp only [Act.put, List.getElem_toArray, List.getElem_cons_zero, List.setIfInBounds_toArray, List.set_cons_zero, List.set_cons_succ]
            refine z_take 1 (v := ?_) rfl (by kernel_rfl) (by kernel_rfl) (by kernel_rfl) (by kernel_rfl) (fun _ _ _ h => h) hHeld (by rfl) (fun w hSw => ?_) ?_
            rotate_left
            · obtain ⟨hSw1, hSw2⟩ := hSw; simp only [List.getElem_toArray, List.getElem_cons_zero, List.getElem_cons_succ]; go_simp; try rfl
            simp only [Act.put, List.getElem_toArray, List.getElem_cons_zero, List.getElem_cons_succ, List.setIfInBounds_toArray, List.set_cons_zero, List.set_cons_succ]
            refine z_take 2 (v := ?_) rfl (by kernel_rfl) (by kernel_rfl) (by kernel_rfl) (by kernel_rfl) (fun _ _ _ h => h) hHeld (by rfl) (fun w hSw => ?_) ?_
            rotate_left
            · obtain ⟨hSw1, hSw2⟩ := hSw; simp only [List.getElem_toArray, List.getElem_cons_zero, List.getElem_cons_succ]; go_simp; try rfl
            simp only [Act.put, List.getElem_toArray, List.getElem_cons_zero, List.getElem_cons_succ, List.setIfInBounds_toArray, List.set_cons_zero, List.set_cons_succ]
            refine z_take 3 (v := ?_) rfl (by kernel_rfl) (by kernel_rfl) (by kernel_rfl) (by kernel_rfl) (fun _ _ _ h => h) hHeld (by rfl) (fun w hSw => ?_) ?_
            rotate_left
            · obtain ⟨hSw1, hSw2⟩ := hSw; simp only [List.getElem_toArray, List.getElem_cons_zero, List.getElem_cons_succ]; go_simp; try rfl
            simp only [Act.put, List.getElem_toArray, List.getElem_cons_zero, List.getElem_cons_succ, List.setIfInBounds_toArray, List.set_cons_zero, List.set_cons_succ]
            refine z_take 4 (v := ?_) rfl (by kernel_rfl) (by kernel_rfl) (by kernel_rfl) (by kernel_rfl) (fun _ _ _ h => h) hHeld (by rfl) (fun w hSw => ?_) ?_
            rotate_left
            · obtain ⟨hSw1, hSw2⟩ := hSw; simp only [List.getElem_toArray, List.getElem_cons_zero, List.getElem_cons_succ]; go_simp; try rfl
            simp only [Act.put, List.getElem_toArray, List.getElem_cons_zero, List.getElem_cons_succ, List.setIfInBounds_toArray, List.set_cons_zero, List.set_cons_succ]
            refine z_take 5 (v := ?_) rfl (by kernel_rfl) (by kernel_rfl) (by kernel_rfl) (by kernel_rfl) (fun _ _ _ h => h) hHeld (by rfl) (fun w hSw => ?_) ?_
            rotate_left
            · obtain ⟨hSw1, hSw2⟩ := hSw; simp only [List.getElem_toArray, List.getElem_cons_zero, List.getElem_cons_succ]; go_simp; try rfl
            simp only [Act.put, List.getElem_toArray, List.getElem_cons_zero, List.getElem_cons_succ, List.setIfInBounds_toArray, List.set_cons_zero, List.set_cons_succ]
            refine z_take 6 (v := ?_) rfl (by kernel_rfl) (by kernel_rfl) (by kernel_rfl) (by kernel_rfl) (fun _ _ _ h => h) hHeld (by rfl) (fun w hSw => ?_) ?_
            rotate_left
            · obtain ⟨hSw1, hSw2⟩ := hSw; simp only [List.getElem_toArray, List.getElem_cons_zero, List.getElem_cons_succ]; go_simp; try rfl
            simp only [Act.put, List.getElem_toArray, List.getElem_cons_zero, List.getElem_cons_succ, List.setIfInBounds_toArray, List.set_cons_zero, List.set_cons_succ]
            refine z_take 7 (v := ?_) rfl (by kernel_rfl) (by kernel_rfl) (by kernel_rfl) (by kernel_rfl) (fun _ _ _ h => h) hHeld (by rfl) (fun w hSw => ?_) ?_
            rotate_left
            · obtain ⟨hSw1, hSw2⟩ := hSw; simp only [List.getElem_toArray, List.getElem_cons_zero, List.getElem_cons_succ]; go_simp; try rfl
            simp only [Act.put, List.getElem_toArray, List.getElem_cons_zero, List.getElem_cons_succ, List.setIfInBounds_toArray, List.set_cons_zero, List.set_cons_succ]
            refine z_take 8 (v := ?_) rfl (by kernel_rfl) (by kernel_rfl) (by kernel_rfl) (by kernel_rfl) (fun _ _ _ h => h) hHeld (by rfl) (fun w hSw => ?_) ?_
            rotate_left
            · obtain ⟨hSw1, hSw2⟩ := hSw; simp only [List.getElem_toArray, List.getElem_cons_zero, List.getElem_cons_succ]; go_simp; try rfl
            simp only [Act.put, List.getElem_toArray, List.getElem_cons_zero, List.getElem_cons_succ, List.setIfInBounds_toArray, List.set_cons_zero, List.set_cons_succ]
            refine z_take 9 (v := ?_) rfl (by kernel_rfl) (by kernel_rfl) (by kernel_rfl) (by kernel_rfl) (fun _ _ _ h => h) hHeld (by rfl) (fun w hSw => ?_) ?_
            rotate_left
            · obtain ⟨hSw1, hSw2⟩ := hSw; simp only [List.getElem_toArray, List.getElem_cons_zero, List.getElem_cons_succ]; go_simp; try rfl
            simp only [Act.put, List.getElem_toArray, List.getElem_cons_zero, List.getElem_cons_succ, List.setIfInBounds_toArray, List.set_cons_zero, List.set_cons_succ]
            refine z_take 10 (v := ?_) rfl (by kernel_rfl) (by kernel_rfl) (by kernel_rfl) (by kernel_rfl) (fun _ _ _ h => h) hHeld (by rfl) (fun w hSw => ?_) ?_
            rotate_left
            · obtain ⟨hSw1, hSw2⟩ := hSw; simp only [List.getElem_toArray, List.getElem_cons_zero, List.getElem_cons_succ]; go_simp; try rfl
            simp only [Act.put, List.getElem_toArray, List.getElem_cons_zero, List.getElem_cons_succ, List.setIfInBounds_toArray, List.set_cons_zero, List.set_cons_succ]
            refine z_take 11 (v := ?_) rfl (by kernel_rfl) (by kernel_rfl) (by kernel_rfl) (by kernel_rfl) (fun _ _ _ h => h) hHeld (by rfl) (fun w hSw => ?_) ?_
            rotate_left
            · obtain ⟨hSw1, hSw2⟩ := hSw; simp only [List.getElem_toArray, List.getElem_cons_zero, List.getElem_cons_succ]; go_simp; try rfl
            simp only [Act.put, List.getElem_toArray, List.getElem_cons_zero, List.getElem_cons_succ, List.setIfInBounds_toArray, List.set_cons_zero, List.set_cons_succ]
            refine z_take 12 (v := ?_) rfl (by kernel_rfl) (by kernel_rfl) (by kernel_rfl) (by kernel_rfl) (fun _ _ _ h => h) hHeld (by rfl) (fun w hSw => ?_) ?_
            rotate_left
            · obtain ⟨hSw1, hSw2⟩ := hSw; simp only [List.getElem_toArray, List.getElem_cons_zero, List.getElem_cons_succ]; go_simp; try rfl
            simp only [Act.put, List.getElem_toArray, List.getElem_cons_zero, List.getElem_cons_succ, List.setIfInBounds_toArray, List.set_cons_zero, List.set_cons_succ]
            refine z_done (by kernel_rfl) ?_ _
            clear hHeld
            have e12_ := cellAt HB.out 12
            have f12_ := freeAt HB.out 12
            simp at e12_
            obtain ⟨v2, hv2⟩ : ∃ v, v1.setCell ⟨p, 12, none⟩ (.int .i64 1) = v := ⟨_, rfl⟩
            have hk : Keeps (fun k => k = p) v1 v2 := by rw [← hv2]; exact (Keeps.refl (fun k => k = p) v1).setCell (p := ⟨p, 12, none⟩) (fun _ => rfl) _
            replace HB : Hid (v2.heap[p]? = some (.cells #[.pointer (some ⟨pd, 0, none⟩), .int .i64 (half : Int), .int .i64 (fr : Int), .slice so rs.length co, .int .i64 (half : Int), .int .i64 (sz : Int), .int .u64 (u0 : Int), .slice s0 l0.length c0, .int .i64 (a1 : Int), .int .i64 (sz : Int), .int .u64 (u1 : Int), .slice s1 l1.length c1, .int .i64 1] 74 (0, 0))) := Lib.hid (by rw [← hv2, heap_setCell_at HB.out]; rfl)
            replace KG := Lib.hid (KG.out.trans hk (fun k _ h => Or.inl h))
            replace HE := Lib.hid (And.intro (HE.out.1.keep hk (fun k hf h => HE.out.2.1 (h ▸ hf))) HE.out.2)
            clear hk
            go_wp2_with fail
            clear e12_ f12_ hv2
            have c2_ := cellAt HB.out 2
            simp at c2_
            have c1_ := cellAt HB.out 1
            simp at c1_
            refine z_begin (fun w' => w'.cell? ⟨p, 2, none⟩ = some (.int .i64 (fr : Int)) ∧ w'.cell? ⟨p, 1, none⟩ = some (.int .i64 (half : Int))) 16 (by kernel_rfl) (⟨c2_, c1_⟩) (fun hHeld => ?_)
            have hk : Keeps (fun _ => False) v2 (World.drew v2) := (Keeps.refl _ _).drew
            replace HB := Lib.hid ((hk.block p (lt_of_heap HB.out) (fun h => h)).trans HB.out)
            replace KG := Lib.hid (KG.out.quiet hk)
            replace HE := Lib.hid (And.intro (HE.out.1.keep hk (fun _ _ h => h)) HE.out.2)
            clear hk
            generalize World.drew v2 = v3 at *
            clear c2_ c1_
            refine z_take 0 (v := ?_) rfl (by kernel_rfl) (by kernel_rfl) (by kernel_rfl) (by kernel_rfl) (fun _ _ _ h => h) hHeld (by rfl) (fun w hSw => ?_) ?_
            rotate_left
            · obtain ⟨hSw1, hSw2⟩ := hSw; simp only [List.getElem_toArray, List.getElem_cons_zero]; go_simp; try rfl
            simp only [Act.put, List.getElem_toArray, List.getElem_cons_zero, List.setIfInBounds_toArray, List.set_cons_zero, List.set_cons_succ]
            refine z_take 1 (v := ?_) rfl (by kernel_rfl) (by kernel_rfl) (by kernel_rfl) (by kernel_rfl) (fun _ _ _ h => h) hHeld (by rfl) (fun w hSw => ?_) ?_
            rotate_left
            · obtain ⟨hSw1, hSw2⟩ := hSw; simp only [List.getElem_toArray, List.getElem_cons_zero, List.getElem_cons_succ]; go_simp; try rfl
            simp only [Act.put, List.getElem_toArray, List.getElem_cons_zero, List.getElem_cons_succ, List.setIfInBounds_toArray, List.set_cons_zero, List.set_cons_succ]
            refine z_take 2 (v := ?_) rfl (by kernel_rfl) (by kernel_rfl) (by kernel_rfl) (by kernel_rfl) (fun _ _ _ h => h) hHeld (by rfl) (fun w hSw => ?_) ?_
            rotate_left
            · obtain ⟨hSw1, hSw2⟩ := hSw; simp only [List.getElem_toArray, List.getElem_cons_zero, List.getElem_cons_succ]; go_simp; try rfl
            simp only [Act.put, List.getElem_toArray, List.getElem_cons_zero, List.getElem_cons_succ, List.setIfInBounds_toArray, List.set_cons_zero, List.set_cons_succ]
            refine z_take 3 (v := ?_) rfl (by kernel_rfl) (by kernel_rfl) (by kernel_rfl) (by kernel_rfl) (fun _ _ _ h => h) hHeld (by rfl) (fun w hSw => ?_) ?_
            rotate_left
            · obtain ⟨hSw1, hSw2⟩ := hSw; simp only [List.getElem_toArray, List.getElem_cons_zero, List.getElem_cons_succ]; go_simp; try rfl
            simp only [Act.put, List.getElem_toArray, List.getElem_cons_zero, List.getElem_cons_succ, List.setIfInBounds_toArray, List.set_cons_zero, List.set_cons_succ]
            refine z_take 4 (v := ?_) rfl (by kernel_rfl) (by kernel_rfl) (by kernel_rfl) (by kernel_rfl) (fun _ _ _ h => h) hHeld (by rfl) (fun w hSw => ?_) ?_
            rotate_left
            · obtain ⟨hSw1, hSw2⟩ := hSw; simp only [List.getElem_toArray, List.getElem_cons_zero, List.getElem_cons_succ]; go_simp; try rfl
            simp only [Act.put, List.getElem_toArray, List.getElem_cons_zero, List.getElem_cons_succ, List.setIfInBounds_toArray, List.set_cons_zero, List.set_cons_succ]
            refine z_take 5 (v := ?_) rfl (by kernel_rfl) (by kernel_rfl) (by kernel_rfl) (by kernel_rfl) (fun _ _ _ h => h) hHeld (by rfl) (fun w hSw => ?_) ?_
            rotate_left
            · obtain ⟨hSw1, hSw2⟩ := hSw; simp only [List.getElem_toArray, List.getElem_cons_zero, List.getElem_cons_succ]; go_simp; try rfl
            simp only [Act.put, List.getElem_toArray, List.getElem_cons_zero, List.getElem_cons_succ, List.setIfInBounds_toArray, List.set_cons_zero, List.set_cons_succ]
            refine z_take 6 (v := ?_) rfl (by kernel_rfl) (by kernel_rfl) (by kernel_rfl) (by kernel_rfl) (fun _ _ _ h => h) hHeld (by rfl) (fun w hSw => ?_) ?_
            rotate_left
            · obtain ⟨hSw1, hSw2⟩ := hSw; simp only [List.getElem_toArray, List.getElem_cons_zero, List.getElem_cons_succ]; go_simp; try rfl
            simp only [Act.put, List.getElem_toArray, List.getElem_cons_zero, List.getElem_cons_succ, List.setIfInBounds_toArray, List.set_cons_zero, List.set_cons_succ]
            refine z_take 7 (v := ?_) rfl (by kernel_rfl) (by kernel_rfl) (by kernel_rfl) (by kernel_rfl) (fun _ _ _ h => h) hHeld (by rfl) (fun w hSw => ?_) ?_
            rotate_left
            · obtain ⟨hSw1, hSw2⟩ := hSw; simp only [List.getElem_toArray, List.getElem_cons_zero, List.getElem_cons_succ]; go_simp; try rfl
            simp only [Act.put, List.getElem_toArray, List.getElem_cons_zero, List.getElem_cons_succ, List.setIfInBounds_toArray, List.set_cons_zero, List.set_cons_succ]
            refine z_take 8 (v := ?_) rfl (by kernel_rfl) (by kernel_rfl) (by kernel_rfl) (by kernel_rfl) (fun _ _ _ h => h) hHeld (by rfl) (fun w hSw => ?_) ?_
            rotate_left
            · obtain ⟨hSw1, hSw2⟩ := hSw; simp only [List.getElem_toArray, List.getElem_cons_zero, List.getElem_cons_succ]; go_simp; try rfl
            simp only [Act.put, List.getElem_toArray, List.getElem_cons_zero, List.getElem_cons_succ, List.setIfInBounds_toArray, List.set_cons_zero, List.set_cons_succ]
            refine z_take 9 (v := ?_) rfl (by kernel_rfl) (by kernel_rfl) (by kernel_rfl) (by kernel_rfl) (fun _ _ _ h => h) hHeld (by rfl) (fun w hSw => ?_) ?_
            rotate_left
            · obtain ⟨hSw1, hSw2⟩ := hSw; simp only [List.getElem_toArray, List.getElem_cons_zero, List.getElem_cons_succ]; go_simp; try rfl
            simp only [Act.put, List.getElem_toArray, List.getElem_cons_zero, List.getElem_cons_succ, List.setIfInBounds_toArray, List.set_cons_zero, List.set_cons_succ]
            refine z_take 10 (v := ?_) rfl (by kernel_rfl) (by kernel_rfl) (by kernel_rfl) (by kernel_rfl) (fun _ _ _ h => h) hHeld (by rfl) (fun w hSw => ?_) ?_
            rotate_left
            · obtain ⟨hSw1, hSw2⟩ := hSw; simp only [List.getElem_toArray, List.getElem_cons_zero, List.getElem_cons_succ]; go_simp; try rfl
            simp only [Act.put, List.getElem_toArray, List.getElem_cons_zero, List.getElem_cons_succ, List.setIfInBounds_toArray, List.set_cons_zero, List.set_cons_succ]
            refine z_take 11 (v := ?_) rfl (by kernel_rfl) (by kernel_rfl) (by kernel_rfl) (by kernel_rfl) (fun _ _ _ h => h) hHeld (by rfl) (fun w hSw => ?_) ?_
            rotate_left
            · obtain ⟨hSw1, hSw2⟩ := hSw; simp only [List.getElem_toArray, List.getElem_cons_zero, List.getElem_cons_succ]; go_simp; try rfl
            simp only [Act.put, List.getElem_toArray, List.getElem_cons_zero, List.getElem_cons_succ, List.setIfInBounds_toArray, List.set_cons_zero, List.set_cons_succ]
            refine z_take 12 (v := ?_) rfl (by kernel_rfl) (by kernel_rfl) (by kernel_rfl) (by kernel_rfl) (fun _ _ _ h => h) hHeld (by rfl) (fun w hSw => ?_) ?_
            rotate_left
            · obtain ⟨hSw1, hSw2⟩ := hSw; simp only [List.getElem_toArray, List.getElem_cons_zero, List.getElem_cons_succ]; go_simp; try rfl
            simp only [Act.put, List.getElem_toArray, List.getElem_cons_zero, List.getElem_cons_succ, List.setIfInBounds_toArray, List.set_cons_zero, List.set_cons_succ]
            refine z_take 13 (v := ?_) rfl (by kernel_rfl) (by kernel_rfl) (by kernel_rfl) (by kernel_rfl) (fun _ _ _ h => h) hHeld (by rfl) (fun w hSw => ?_) ?_
            rotate_left
            · obtain ⟨hSw1, hSw2⟩ := hSw; simp only [List.getElem_toArray, List.getElem_cons_zero, List.getElem_cons_succ]; go_simp; try rfl
            simp only [Act.put, List.getElem_toArray, List.getElem_cons_zero, List.getElem_cons_succ, List.setIfInBounds_toArray, List.set_cons_zero, List.set_cons_succ]
            refine z_one 14 rfl (by kernel_rfl) (by rfl) (fun K hK => ?_)
            simp only [List.getElem_toArray, List.getElem_cons_zero, List.getElem_cons_succ]
            go_simp
            have hc0 := cellAt HB.out 0
            simp at hc0
            refine (clear_ok p pd fr hf D _ v3 hc0 HE.out.1 HCR.out.1 HCR.out.2 (by have := HN.out; omega) (by have := HD.out.2.2; omega) HE.out.2.1 HE.out.1.lt).mono ?_
            have hnp2 := HE.out.2.1
            rintro e v4 ⟨rfl, F2, h1, h2, h3⟩
            refine hK _ _ (Or.inr ?_) (fun hHeld => ?_)
            · exact ⟨by rw [h2.cell (World.block_lt_of_cell? _ _ hHeld.1) hnp2]; exact hHeld.1, by rw [h2.cell (World.block_lt_of_cell? _ _ hHeld.2) hnp2]; exact hHeld.2⟩
            clear hK K hnp2 hc0
            replace HB := Lib.hid ((h2.block p (lt_of_heap HB.out) HE.out.2.1).trans HB.out)
            have b3' : ∀ k, F2 k → Fd k ∨ wr.heap.size ≤ k := fun k hf => (h3 k hf).elim (fun h => HE.out.2.2 k h) (fun h => Or.inr (by have := KG.out.size; omega))
            have np' : ¬ F2 p := fun hf => (b3' p hf).elim HPL.out.2 (fun h => by have := HPL.out.1; omega)
            replace KG := Lib.hid (KG.out.trans h2 (fun k hk hf => (HE.out.2.2 k hf).elim Or.inr (fun h => by omega)))
            replace HE := Lib.hid (And.intro h1 (And.intro np' b3'))
            clear h1 h2 h3 b3' np'
            replace hHeld := hHeld.resolve_left (by decide)
            try simp only [Act.put, List.setIfInBounds_toArray, List.set_cons_zero, List.set_cons_succ]
            refine z_one 15 rfl (by kernel_rfl) (by rfl) (fun K hK => ?_)
            simp only [List.getElem_toArray, List.getElem_cons_zero, List.getElem_cons_succ]
            go_simp
            refine hK _ _ (Or.inr hHeld) (fun _ => ?_)
            clear hK K
            try simp only [Act.put, List.setIfInBounds_toArray, List.set_cons_zero, List.set_cons_succ]
            refine z_done (by kernel_rfl) ?_ _
            clear hHeld
            obtain ⟨DA, hd_⟩ : ∃ d, D.zero fr hf = d := ⟨_, rfl⟩
            have HDA : Hid (D.zero fr hf = DA ∧ DA.cr = false ∧ DA.now.length = N ∧ DA.lo.length ≤ 570000) := Lib.hid ⟨hd_, by rw [← hd_, zero_cr]; exact HD.out.2.1, by rw [← hd_, zero_len _ _ _ HCR.out.2]; exact HN.out, by rw [← hd_, zero_lo]; have := HD.out.2.2; omega⟩
            clear hd_
            rw [HDA.out.1] at HE
            obtain ⟨DB, hd_⟩ : ∃ d, DA.zero half sz = d := ⟨_, rfl⟩
            have HDB : Hid (DA.zero half sz = DB ∧ DB.cr = false ∧ DB.now.length = N ∧ DB.lo.length ≤ 640000) := Lib.hid ⟨hd_, by rw [← hd_, zero_cr]; exact HDA.out.2.1, by rw [← hd_, zero_len _ _ _ (by rw [HDA.out.2.2.1]; omega)]; exact HDA.out.2.2.1, by rw [← hd_, zero_lo]; have := HDA.out.2.2.2; omega⟩
            clear hd_
            have HL0 : Hid (OpL wr p pd Fd #[.pointer (some ⟨pd, 0, none⟩), .int .i64 (half : Int), .int .i64 (fr : Int), .slice so rs.length co, .int .i64 (half : Int), .int .i64 (sz : Int), .int .u64 (u0 : Int), .slice s0 l0.length c0, .int .i64 (a1 : Int), .int .i64 (sz : Int), .int .u64 (u1 : Int), .slice s1 l1.length c1, .int .i64 1] #[.pointer (some ⟨pd, 0, none⟩), .int .i64 (half : Int), .int .i64 (fr : Int), .slice so rs.length co, .int .i64 (half : Int), .int .i64 (sz : Int), .int .u64 0, .slice none 0 0, .int .i64 (a1 : Int), .int .i64 (sz : Int), .int .u64 (u1 : Int), .slice s1 l1.length c1, .int .i64 1] #[.pointer (some ⟨pd, 0, none⟩), .int .i64 (half : Int), .int .i64 (fr : Int), .slice so rs.length co, .int .i64 (half : Int), .int .i64 (sz : Int), .int .u64 0, .slice none 0 0, .int .i64 (a1 : Int), .int .i64 (sz : Int), .int .u64 (u1 : Int), .slice s1 l1.length c1, .int .i64 1] DA DB DB (.int .i64 0) v4) := Lib.hid (Or.inl ⟨rfl, _, HB.out, HE.out.1, HE.out.2.1, HE.out.2.2, KG.out⟩)
            clear HB HE KG
            have tz : ((u1 : Int) == 0) = false := by simp; omega
            go_wp2_with fail
            go_loopw [182] (fun i wv => OpL wr p pd Fd #[.pointer (some ⟨pd, 0, none⟩), .int .i64 (half : Int), .int .i64 (fr : Int), .slice so rs.length co, .int .i64 (half : Int), .int .i64 (sz : Int), .int .u64 (u0 : Int), .slice s0 l0.length c0, .int .i64 (a1 : Int), .int .i64 (sz : Int), .int .u64 (u1 : Int), .slice s1 l1.length c1, .int .i64 1] #[.pointer (some ⟨pd, 0, none⟩), .int .i64 (half : Int), .int .i64 (fr : Int), .slice so rs.length co, .int .i64 (half : Int), .int .i64 (sz : Int), .int .u64 0, .slice none 0 0, .int .i64 (a1 : Int), .int .i64 (sz : Int), .int .u64 (u1 : Int), .slice s1 l1.length c1, .int .i64 1] #[.pointer (some ⟨pd, 0, none⟩), .int .i64 (half : Int), .int .i64 (fr : Int), .slice so rs.length co, .int .i64 (half : Int), .int .i64 (sz : Int), .int .u64 0, .slice none 0 0, .int .i64 (a1 : Int), .int .i64 (sz : Int), .int .u64 (u1 : Int), .slice s1 l1.length c1, .int .i64 1] DA DB DB i wv) (fun i _ => 2 - (intOf i).toNat)
            case atStart => exact HL0.out
            case round =>
              rename World => wv
              clear HL0
              rcases hrel with ⟨rfl, F2, hb, hd, hnp, hbd, hkg⟩ | ⟨rfl, F2, hb, hd, hnp, hbd, hkg⟩ | ⟨rfl, F2, hb, hd, hnp, hbd, hkg⟩
              · have HB := Lib.hid hb
                have HE := Lib.hid (And.intro hd (And.intro hnp hbd))
                have KG := Lib.hid hkg
                clear hb hd hnp hbd hkg
                have c12_ := cellAt HB.out 12
                simp at c12_
                have e6_ := cellAt HB.out 6
                have f6_ := freeAt HB.out 6
                simp at e6_
                obtain ⟨v21, hv21⟩ : ∃ v, wv.setCell ⟨p, 6, none⟩ (.int .u64 0) = v := ⟨_, rfl⟩
                have hk : Keeps (fun k => k = p) wv v21 := by rw [← hv21]; exact (Keeps.refl (fun k => k = p) wv).setCell (p := ⟨p, 6, none⟩) (fun _ => rfl) _
                replace HB : Hid (v21.heap[p]? = some (.cells #[.pointer (some ⟨pd, 0, none⟩), .int .i64 (half : Int), .int .i64 (fr : Int), .slice so rs.length co, .int .i64 (half : Int), .int .i64 (sz : Int), .int .u64 0, .slice s0 l0.length c0, .int .i64 (a1 : Int), .int .i64 (sz : Int), .int .u64 (u1 : Int), .slice s1 l1.length c1, .int .i64 1] 74 (0, 0))) := Lib.hid (by rw [← hv21, heap_setCell_at HB.out]; rfl)
                replace KG := Lib.hid (KG.out.trans hk (fun k _ h => Or.inl h))
                replace HE := Lib.hid (And.intro (HE.out.1.keep hk (fun k hf h => HE.out.2.1 (h ▸ hf))) HE.out.2)
                clear hk
                have e7_ := cellAt HB.out 7
                have f7_ := freeAt HB.out 7
                simp at e7_
                obtain ⟨v22, hv22⟩ : ∃ v, v21.setCell ⟨p, 7, none⟩ (.slice none 0 0) = v := ⟨_, rfl⟩
                have hk : Keeps (fun k => k = p) v21 v22 := by rw [← hv22]; exact (Keeps.refl (fun k => k = p) v21).setCell (p := ⟨p, 7, none⟩) (fun _ => rfl) _
                replace HB : Hid (v22.heap[p]? = some (.cells #[.pointer (some ⟨pd, 0, none⟩), .int .i64 (half : Int), .int .i64 (fr : Int), .slice so rs.length co, .int .i64 (half : Int), .int .i64 (sz : Int), .int .u64 0, .slice none 0 0, .int .i64 (a1 : Int), .int .i64 (sz : Int), .int .u64 (u1 : Int), .slice s1 l1.length c1, .int .i64 1] 74 (0, 0))) := Lib.hid (by rw [← hv22, heap_setCell_at HB.out]; rfl)
                replace KG := Lib.hid (KG.out.trans hk (fun k _ h => Or.inl h))
                replace HE := Lib.hid (And.intro (HE.out.1.keep hk (fun k hf h => HE.out.2.1 (h ▸ hf))) HE.out.2)
                clear hk
                go_wp2_with fail
                clear e6_ f6_ hv21 e7_ f7_ hv22
                clear c12_
                have c4_ := cellAt HB.out 4
                simp at c4_
                have c5_ := cellAt HB.out 5
                simp at c5_
                refine z_begin (fun w' => w'.cell? ⟨p, 4, none⟩ = some (.int .i64 (half : Int)) ∧ w'.cell? ⟨p, 5, none⟩ = some (.int .i64 (sz : Int))) 11 (by kernel_rfl) (⟨c4_, c5_⟩) (fun hHeld => ?_)
                have hk : Keeps (fun _ => False) v22 (World.drew v22) := (Keeps.refl _ _).drew
                replace HB := Lib.hid ((hk.block p (lt_of_heap HB.out) (fun h => h)).trans HB.out)
                replace KG := Lib.hid (KG.out.quiet hk)
                replace HE := Lib.hid (And.intro (HE.out.1.keep hk (fun _ _ h => h)) HE.out.2)
                clear hk
                generalize World.drew v22 = v23 at *
                clear c4_ c5_
                refine z_take 0 (v := ?_) rfl (by kernel_rfl) (by kernel_rfl) (by kernel_rfl) (by kernel_rfl) (fun _ _ _ h => h) hHeld (by rfl) (fun w hSw => ?_) ?_
                rotate_left
                · obtain ⟨hSw1, hSw2⟩ := hSw; simp only [List.getElem_toArray, List.getElem_cons_zero]; go_simp; try rfl
                simp only [Act.put, List.getElem_toArray, List.getElem_cons_zero, List.setIfInBounds_toArray, List.set_cons_zero, List.set_cons_succ]
                refine z_take 1 (v := ?_) rfl (by kernel_rfl) (by kernel_rfl) (by kernel_rfl) (by kernel_rfl) (fun _ _ _ h => h) hHeld (by rfl) (fun w hSw => ?_) ?_
                rotate_left
                · obtain ⟨hSw1, hSw2⟩ := hSw; simp only [List.getElem_toArray, List.getElem_cons_zero, List.getElem_cons_succ]; go_simp; try rfl
                simp only [Act.put, List.getElem_toArray, List.getElem_cons_zero, List.getElem_cons_succ, List.setIfInBounds_toArray, List.set_cons_zero, List.set_cons_succ]
                refine z_take 2 (v := ?_) rfl (by kernel_rfl) (by kernel_rfl) (by kernel_rfl) (by kernel_rfl) (fun _ _ _ h => h) hHeld (by rfl) (fun w hSw => ?_) ?_
                rotate_left
                · obtain ⟨hSw1, hSw2⟩ := hSw; simp only [List.getElem_toArray, List.getElem_cons_zero, List.getElem_cons_succ]; go_simp; try rfl
                simp only [Act.put, List.getElem_toArray, List.getElem_cons_zero, List.getElem_cons_succ, List.setIfInBounds_toArray, List.set_cons_zero, List.set_cons_succ]
                refine z_take 3 (v := ?_) rfl (by kernel_rfl) (by kernel_rfl) (by kernel_rfl) (by kernel_rfl) (fun _ _ _ h => h) hHeld (by rfl) (fun w hSw => ?_) ?_
                rotate_left
                · obtain ⟨hSw1, hSw2⟩ := hSw; simp only [List.getElem_toArray, List.getElem_cons_zero, List.getElem_cons_succ]; go_simp; try rfl
                simp only [Act.put, List.getElem_toArray, List.getElem_cons_zero, List.getElem_cons_succ, List.setIfInBounds_toArray, List.set_cons_zero, List.set_cons_succ]
                refine z_take 4 (v := ?_) rfl (by kernel_rfl) (by kernel_rfl) (by kernel_rfl) (by kernel_rfl) (fun _ _ _ h => h) hHeld (by rfl) (fun w hSw => ?_) ?_
                rotate_left
                · obtain ⟨hSw1, hSw2⟩ := hSw; simp only [List.getElem_toArray, List.getElem_cons_zero, List.getElem_cons_succ]; go_simp; try rfl
                simp only [Act.put, List.getElem_toArray, List.getElem_cons_zero, List.getElem_cons_succ, List.setIfInBounds_toArray, List.set_cons_zero, List.set_cons_succ]
                refine z_take 5 (v := ?_) rfl (by kernel_rfl) (by kernel_rfl) (by kernel_rfl) (by kernel_rfl) (fun _ _ _ h => h) hHeld (by rfl) (fun w hSw => ?_) ?_
                rotate_left
                · obtain ⟨hSw1, hSw2⟩ := hSw; simp only [List.getElem_toArray, List.getElem_cons_zero, List.getElem_cons_succ]; go_simp; try rfl
                simp only [Act.put, List.getElem_toArray, List.getElem_cons_zero, List.getElem_cons_succ, List.setIfInBounds_toArray, List.set_cons_zero, List.set_cons_succ]
                refine z_take 6 (v := ?_) rfl (by kernel_rfl) (by kernel_rfl) (by kernel_rfl) (by kernel_rfl) (fun _ _ _ h => h) hHeld (by rfl) (fun w hSw => ?_) ?_
                rotate_left
                · obtain ⟨hSw1, hSw2⟩ := hSw; simp only [List.getElem_toArray, List.getElem_cons_zero, List.getElem_cons_succ]; go_simp; try rfl
                simp only [Act.put, List.getElem_toArray, List.getElem_cons_zero, List.getElem_cons_succ, List.setIfInBounds_toArray, List.set_cons_zero, List.set_cons_succ]
                refine z_take 7 (v := ?_) rfl (by kernel_rfl) (by kernel_rfl) (by kernel_rfl) (by kernel_rfl) (fun _ _ _ h => h) hHeld (by rfl) (fun w hSw => ?_) ?_
                rotate_left
                · obtain ⟨hSw1, hSw2⟩ := hSw; simp only [List.getElem_toArray, List.getElem_cons_zero, List.getElem_cons_succ]; go_simp; try rfl
                simp only [Act.put, List.getElem_toArray, List.getElem_cons_zero, List.getElem_cons_succ, List.setIfInBounds_toArray, List.set_cons_zero, List.set_cons_succ]
                refine z_take 8 (v := ?_) rfl (by kernel_rfl) (by kernel_rfl) (by kernel_rfl) (by kernel_rfl) (fun _ _ _ h => h) hHeld (by rfl) (fun w hSw => ?_) ?_
                rotate_left
                · obtain ⟨hSw1, hSw2⟩ := hSw; simp only [List.getElem_toArray, List.getElem_cons_zero, List.getElem_cons_succ]; go_simp; try rfl
                simp only [Act.put, List.getElem_toArray, List.getElem_cons_zero, List.getElem_cons_succ, List.setIfInBounds_toArray, List.set_cons_zero, List.set_cons_succ]
                refine z_one 9 rfl (by kernel_rfl) (by rfl) (fun K hK => ?_)
                simp only [List.getElem_toArray, List.getElem_cons_zero, List.getElem_cons_succ]
                go_simp
                have hc0 := cellAt HB.out 0
                simp at hc0
                refine (clear_ok p pd half sz DA _ v23 hc0 HE.out.1 HDA.out.2.1 (by rw [HDA.out.2.2.1]; omega) (by rw [HDA.out.2.2.1]; omega) (by have := HDA.out.2.2.2; omega) HE.out.2.1 HE.out.1.lt).mono ?_
                have hnp2 := HE.out.2.1
                rintro e v24 ⟨rfl, F2, h1, h2, h3⟩
                refine hK _ _ (Or.inr ?_) (fun hHeld => ?_)
                · exact ⟨by rw [h2.cell (World.block_lt_of_cell? _ _ hHeld.1) hnp2]; exact hHeld.1, by rw [h2.cell (World.block_lt_of_cell? _ _ hHeld.2) hnp2]; exact hHeld.2⟩
                clear hK K hnp2 hc0
                replace HB := Lib.hid ((h2.block p (lt_of_heap HB.out) HE.out.2.1).trans HB.out)
                have b3' : ∀ k, F2 k → Fd k ∨ wr.heap.size ≤ k := fun k hf => (h3 k hf).elim (fun h => HE.out.2.2 k h) (fun h => Or.inr (by have := KG.out.size; omega))
                have np' : ¬ F2 p := fun hf => (b3' p hf).elim HPL.out.2 (fun h => by have := HPL.out.1; omega)
                replace KG := Lib.hid (KG.out.trans h2 (fun k hk hf => (HE.out.2.2 k hf).elim Or.inr (fun h => by omega)))
                replace HE := Lib.hid (And.intro h1 (And.intro np' b3'))
                clear h1 h2 h3 b3' np'
                replace hHeld := hHeld.resolve_left (by decide)
                try simp only [Act.put, List.setIfInBounds_toArray, List.set_cons_zero, List.set_cons_succ]
                refine z_one 10 rfl (by kernel_rfl) (by rfl) (fun K hK => ?_)
                simp only [List.getElem_toArray, List.getElem_cons_zero, List.getElem_cons_succ]
                go_simp
                refine hK _ _ (Or.inr hHeld) (fun _ => ?_)
                clear hK K
                try simp only [Act.put, List.setIfInBounds_toArray, List.set_cons_zero, List.set_cons_succ]
                refine z_done (by kernel_rfl) ?_ _
                clear hHeld
                rw [HDB.out.1] at HE
                go_wp2
                go_roundw
                case rel => exact Or.inr (Or.inl ⟨rfl, _, HB.out, HE.out.1, HE.out.2.1, HE.out.2.2, KG.out⟩)
                case measure => simp [intOf]
              · have HB := Lib.hid hb
                have HE := Lib.hid (And.intro hd (And.intro hnp hbd))
                have KG := Lib.hid hkg
                clear hb hd hnp hbd hkg
                have c12_ := cellAt HB.out 12
                simp at c12_
                have c10_ := cellAt HB.out 10
                simp at c10_
                go_wp2
                clear c12_ c10_
                go_roundw
                case rel => exact Or.inr (Or.inr ⟨rfl, _, HB.out, HE.out.1, HE.out.2.1, HE.out.2.2, KG.out⟩)
                case measure => simp [intOf]
              · have HB := Lib.hid hb
                have HE := Lib.hid (And.intro hd (And.intro hnp hbd))
                have KG := Lib.hid hkg
                clear hb hd hnp hbd hkg
                have HS := Lib.hid (sync_ok pd DB F2 wv HE.out.1 HDB.out.2.1)
                go_wp2_with fail
                refine HS.out.mono ?_
                rintro e v90 ⟨rfl, F2, h1, h2, h3⟩
                clear HS
                replace HB := Lib.hid ((h2.block p (lt_of_heap HB.out) HE.out.2.1).trans HB.out)
                have b3' : ∀ k, F2 k → Fd k ∨ wr.heap.size ≤ k := fun k hf => (h3 k hf).elim (fun h => HE.out.2.2 k h) (fun h => Or.inr (by have := KG.out.size; omega))
                have np' : ¬ F2 p := fun hf => (b3' p hf).elim HPL.out.2 (fun h => by have := HPL.out.1; omega)
                replace KG := Lib.hid (KG.out.trans h2 (fun k hk hf => (HE.out.2.2 k hf).elim Or.inr (fun h => by omega)))
                replace HE := Lib.hid (And.intro h1 (And.intro np' b3'))
                clear h1 h2 h3 b3' np'
                go_wp2
                go_ret2
                have hDN := HN.out
                have heq := openS_lt (D := D) (half := half) (sz := sz) (fr := fr) (a1 := a1) (u0 := u0) (u1 := u1) (rs := rs) (l0 := l0) (l1 := l1) (by rw [hDN]; exact hhalf) (by rw [hDN]; exact HQ.out.2.2.2) HQ.out.2.2.1 (by rw [HLL.out.1]; exact HX4.out.2.2.2.2) HQ.out.1 HQ.out.2.1 hlt
                rw [hhf, HDA.out.1, HDB.out.1] at heq
                have hb := HB.out
                rw [← HQ.out.2.2.1] at hb
                have pf0 := plOf_facts D.now half sz
                have pf1 := plOf_facts D.now a1 sz
                rw [HQ.out.1] at pf0
                rw [HQ.out.2.1] at pf1
                dsimp only at pf0 pf1
                obtain ⟨F, R, g1, g2, g3, g4⟩ := open_end (N := N) (half := half) (sz := sz) (fr := fr) (now := 1) (turn := u1) (keys := l1) (sk := s1) (ck := c1) (l := l) heq HDB.out.2.2.1 hhalf HQ.out.2.2.2 hD HX4.out.2.2.2.2 HLL.out.2.1 HD.out.1.lt HLL.out.2.2.2.1 HPL.out.1 HROW.out.1 HROW.out.2 (own_base HOW.out.2.1 (fun k e => Nat.le_trans hsw (own_lt HOW.out.2.1 (form_own HOW.out.2.1 e)).1)) HKW.out KG.out HE.out.1 HE.out.2.1 HE.out.2.2 hb (by omega) (fun _ => by omega) pf1.2.2 pf1.1 pf1.2.1
                exact ⟨p, F, R, rfl, g1, g2, g3, g4⟩
          · have tg : ¬ (u1 : Int) > (u0 : Int) := by omega
            by_cases hu : u0 = 0
            · go_wp2_with fail
              have c10_ := cellAt HB.out 10
              simp at c10_
              have c6_ := cellAt HB.out 6
              simp at c6_
              refine z_begin (fun w' => w'.cell? ⟨p, 10, none⟩ = some (.int .u64 (u1 : Int)) ∧ w'.cell? ⟨p, 6, none⟩ = some (.int .u64 (u0 : Int))) 13 (by kernel_rfl) (⟨c10_, c6_⟩) (fun hHeld => ?_)
              have hk : Keeps (fun _ => False) wr (World.drew wr) := (Keeps.refl _ _).drew
              replace HB := Lib.hid ((hk.block p (lt_of_heap HB.out) (fun h => h)).trans HB.out)
              replace KG := Lib.hid (KG.out.quiet hk)
              replace HE := Lib.hid (And.intro (HE.out.1.keep hk (fun _ _ h => h)) HE.out.2)
              clear hk
              generalize World.drew wr = v1 at *
              clear c10_ c6_
              refine z_take 0 (v := ?_) rfl (by kernel_rfl) (by kernel_rfl) (by kernel_rfl) (by kernel_rfl) (fun _ _ _ h => h) hHeld (by rfl) (fun w hSw => ?_) ?_
              rotate_left
              · obtain ⟨hSw1, hSw2⟩ := hSw; simp only [List.getElem_toArray, List.getElem_cons_zero]; go_simp; try rfl
              simp only [Act.put, List.getElem_toArray, List.getElem_cons_zero, List.setIfInBounds_toArray, List.set_cons_zero, List.set_cons_succ]
              refine z_take 1 (v := ?_) rfl (by kernel_rfl) (by kernel_rfl) (by kernel_rfl) (by kernel_rfl) (fun _ _ _ h => h) hHeld (by rfl) (fun w hSw => ?_) ?_
              rotate_left
              · obtain ⟨hSw1, hSw2⟩ := hSw; simp only [List.getElem_toArray, List.getElem_cons_zero, List.getElem_cons_succ]; go_simp; try rfl
              simp only [Act.put, List.getElem_toArray, List.getElem_cons_zero, List.getElem_cons_succ, List.setIfInBounds_toArray, List.set_cons_zero, List.set_cons_succ]
              refine z_take 2 (v := ?_) rfl (by kernel_rfl) (by kernel_rfl) (by kernel_rfl) (by kernel_rfl) (fun _ _ _ h => h) hHeld (by rfl) (fun w hSw => ?_) ?_
              rotate_left
              · obtain ⟨hSw1, hSw2⟩ := hSw; simp only [List.getElem_toArray, List.getElem_cons_zero, List.getElem_cons_succ]; go_simp; try rfl
              simp only [Act.put, List.getElem_toArray, List.getElem_cons_zero, List.getElem_cons_succ, List.setIfInBounds_toArray, List.set_cons_zero, List.set_cons_succ]
              refine z_take 3 (v := ?_) rfl (by kernel_rfl) (by kernel_rfl) (by kernel_rfl) (by kernel_rfl) (fun _ _ _ h => h) hHeld (by rfl) (fun w hSw => ?_) ?_
              rotate_left
              · obtain ⟨hSw1, hSw2⟩ := hSw; simp only [List.getElem_toArray, List.getElem_cons_zero, List.getElem_cons_succ]; go_simp; try rfl
              simp only [Act.put, List.getElem_toArray, List.getElem_cons_zero, List.getElem_cons_succ, List.setIfInBounds_toArray, List.set_cons_zero, List.set_cons_succ]
              refine z_take 4 (v := ?_) rfl (by kernel_rfl) (by kernel_rfl) (by kernel_rfl) (by kernel_rfl) (fun _ _ _ h => h) hHeld (by rfl) (fun w hSw => ?_) ?_
              rotate_left
              · obtain ⟨hSw1, hSw2⟩ := hSw; simp only [List.getElem_toArray, List.getElem_cons_zero, List.getElem_cons_succ]; go_simp; try rfl
              simp only [Act.put, List.getElem_toArray, List.getElem_cons_zero, List.getElem_cons_succ, List.setIfInBounds_toArray, List.set_cons_zero, List.set_cons_succ]
              refine z_take 5 (v := ?_) rfl (by kernel_rfl) (by kernel_rfl) (by kernel_rfl) (by kernel_rfl) (fun _ _ _ h => h) hHeld (by rfl) (fun w hSw => ?_) ?_
              rotate_left
              · obtain ⟨hSw1, hSw2⟩ := hSw; simp only [List.getElem_toArray, List.getElem_cons_zero, List.getElem_cons_succ]; go_simp; try rfl
              simp only [Act.put, List.getElem_toArray, List.getElem_cons_zero, List.getElem_cons_succ, List.setIfInBounds_toArray, List.set_cons_zero, List.set_cons_succ]
              refine z_take 6 (v := ?_) rfl (by kernel_rfl) (by kernel_rfl) (by kernel_rfl) (by kernel_rfl) (fun _ _ _ h => h) hHeld (by rfl) (fun w hSw => ?_) ?_
              rotate_left
              · obtain ⟨hSw1, hSw2⟩ := hSw; simp only [List.getElem_toArray, List.getElem_cons_zero, List.getElem_cons_succ]; go_simp; try rfl
              simp only [Act.put, List.getElem_toArray, List.getElem_cons_zero, List.getElem_cons_succ, List.setIfInBounds_toArray, List.set_cons_zero, List.set_cons_succ]
              refine z_take 7 (v := ?_) rfl (by kernel_rfl) (by kernel_rfl) (by kernel_rfl) (by kernel_rfl) (fun _ _ _ h => h) hHeld (by rfl) (fun w hSw => ?_) ?_
              rotate_left
              · obtain ⟨hSw1, hSw2⟩ := hSw; simp only [List.getElem_toArray, List.getElem_cons_zero, List.getElem_cons_succ]; go_simp; try rfl
              simp only [Act.put, List.getElem_toArray, List.getElem_cons_zero, List.getElem_cons_succ, List.setIfInBounds_toArray, List.set_cons_zero, List.set_cons_succ]
              refine z_take 8 (v := ?_) rfl (by kernel_rfl) (by kernel_rfl) (by kernel_rfl) (by kernel_rfl) (fun _ _ _ h => h) hHeld (by rfl) (fun w hSw => ?_) ?_
              rotate_left
              · obtain ⟨hSw1, hSw2⟩ := hSw; simp only [List.getElem_toArray, List.getElem_cons_zero, List.getElem_cons_succ]; go_simp; try rfl
              simp only [Act.put, List.getElem_toArray, List.getElem_cons_zero, List.getElem_cons_succ, List.setIfInBounds_toArray, List.set_cons_zero, List.set_cons_succ]
              refine z_take 9 (v := ?_) rfl (by kernel_rfl) (by kernel_rfl) (by kernel_rfl) (by kernel_rfl) (fun _ _ _ h => h) hHeld (by rfl) (fun w hSw => ?_) ?_
              rotate_left
              · obtain ⟨hSw1, hSw2⟩ := hSw; simp only [List.getElem_toArray, List.getElem_cons_zero, List.getElem_cons_succ]; go_simp; try rfl
              simp only [Act.put, List.getElem_toArray, List.getElem_cons_zero, List.getElem_cons_succ, List.setIfInBounds_toArray, List.set_cons_zero, List.set_cons_succ]
              refine z_take 10 (v := ?_) rfl (by kernel_rfl) (by kernel_rfl) (by kernel_rfl) (by kernel_rfl) (fun _ _ _ h => h) hHeld (by rfl) (fun w hSw => ?_) ?_
              rotate_left
              · obtain ⟨hSw1, hSw2⟩ := hSw; simp only [List.getElem_toArray, List.getElem_cons_zero, List.getElem_cons_succ]; go_simp; try rfl
              simp only [Act.put, List.getElem_toArray, List.getElem_cons_zero, List.getElem_cons_succ, List.setIfInBounds_toArray, List.set_cons_zero, List.set_cons_succ]
              refine z_take 11 (v := ?_) rfl (by kernel_rfl) (by kernel_rfl) (by kernel_rfl) (by kernel_rfl) (fun _ _ _ h => h) hHeld (by rfl) (fun w hSw => ?_) ?_
              rotate_left
              · obtain ⟨hSw1, hSw2⟩ := hSw; simp only [List.getElem_toArray, List.getElem_cons_zero, List.getElem_cons_succ]; go_simp; try rfl
              simp only [Act.put, List.getElem_toArray, List.getElem_cons_zero, List.getElem_cons_succ, List.setIfInBounds_toArray, List.set_cons_zero, List.set_cons_succ]
              refine z_take 12 (v := ?_) rfl (by kernel_rfl) (by kernel_rfl) (by kernel_rfl) (by kernel_rfl) (fun _ _ _ h => h) hHeld (by rfl) (fun w hSw => ?_) ?_
              rotate_left
              · obtain ⟨hSw1, hSw2⟩ := hSw; simp only [List.getElem_toArray, List.getElem_cons_zero, List.getElem_cons_succ]; go_simp; try rfl
              simp only [Act.put, List.getElem_toArray, List.getElem_cons_zero, List.getElem_cons_succ, List.setIfInBounds_toArray, List.set_cons_zero, List.set_cons_succ]
              refine z_done (by kernel_rfl) ?_ _
              clear hHeld
              go_wp2_with fail
              have c2_ := cellAt HB.out 2
              simp at c2_
              have c1_ := cellAt HB.out 1
              simp at c1_
              refine z_begin (fun w' => w'.cell? ⟨p, 2, none⟩ = some (.int .i64 (fr : Int)) ∧ w'.cell? ⟨p, 1, none⟩ = some (.int .i64 (half : Int))) 16 (by kernel_rfl) (⟨c2_, c1_⟩) (fun hHeld => ?_)
              have hk : Keeps (fun _ => False) v1 (World.drew v1) := (Keeps.refl _ _).drew
              replace HB := Lib.hid ((hk.block p (lt_of_heap HB.out) (fun h => h)).trans HB.out)
              replace KG := Lib.hid (KG.out.quiet hk)
              replace HE := Lib.hid (And.intro (HE.out.1.keep hk (fun _ _ h => h)) HE.out.2)
              clear hk
              generalize World.drew v1 = v2 at *
              clear c2_ c1_
              refine z_take 0 (v := ?_) rfl (by kernel_rfl) (by kernel_rfl) (by kernel_rfl) (by kernel_rfl) (fun _ _ _ h => h) hHeld (by rfl) (fun w hSw => ?_) ?_
              rotate_left
              · obtain ⟨hSw1, hSw2⟩ := hSw; simp only [List.getElem_toArray, List.getElem_cons_zero]; go_simp; try rfl
              simp only [Act.put, List.getElem_toArray, List.getElem_cons_zero, List.setIfInBounds_toArray, List.set_cons_zero, List.set_cons_succ]
              refine z_take 1 (v := ?_) rfl (by kernel_rfl) (by kernel_rfl) (by kernel_rfl) (by kernel_rfl) (fun _ _ _ h => h) hHeld (by rfl) (fun w hSw => ?_) ?_
              rotate_left
              · obtain ⟨hSw1, hSw2⟩ := hSw; simp only [List.getElem_toArray, List.getElem_cons_zero, List.getElem_cons_succ]; go_simp; try rfl
              simp only [Act.put, List.getElem_toArray, List.getElem_cons_zero, List.getElem_cons_succ, List.setIfInBounds_toArray, List.set_cons_zero, List.set_cons_succ]
              refine z_take 2 (v := ?_) rfl (by kernel_rfl) (by kernel_rfl) (by kernel_rfl) (by kernel_rfl) (fun _ _ _ h => h) hHeld (by rfl) (fun w hSw => ?_) ?_
              rotate_left
              · obtain ⟨hSw1, hSw2⟩ := hSw; simp only [List.getElem_toArray, List.getElem_cons_zero, List.getElem_cons_succ]; go_simp; try rfl
              simp only [Act.put, List.getElem_toArray, List.getElem_cons_zero, List.getElem_cons_succ, List.setIfInBounds_toArray, List.set_cons_zero, List.set_cons_succ]
              refine z_take 3 (v := ?_) rfl (by kernel_rfl) (by kernel_rfl) (by kernel_rfl) (by kernel_rfl) (fun _ _ _ h => h) hHeld (by rfl) (fun w hSw => ?_) ?_
              rotate_left
              · obtain ⟨hSw1, hSw2⟩ := hSw; simp only [List.getElem_toArray, List.getElem_cons_zero, List.getElem_cons_succ]; go_simp; try rfl
              simp only [Act.put, List.getElem_toArray, List.getElem_cons_zero, List.getElem_cons_succ, List.setIfInBounds_toArray, List.set_cons_zero, List.set_cons_succ]
              refine z_take 4 (v := ?_) rfl (by kernel_rfl) (by kernel_rfl) (by kernel_rfl) (by kernel_rfl) (fun _ _ _ h => h) hHeld (by rfl) (fun w hSw => ?_) ?_
              rotate_left
              · obtain ⟨hSw1, hSw2⟩ := hSw; simp only [List.getElem_toArray, List.getElem_cons_zero, List.getElem_cons_succ]; go_simp; try rfl
              simp only [Act.put, List.getElem_toArray, List.getElem_cons_zero, List.getElem_cons_succ, List.setIfInBounds_toArray, List.set_cons_zero, List.set_cons_succ]
              refine z_take 5 (v := ?_) rfl (by kernel_rfl) (by kernel_rfl) (by kernel_rfl) (by kernel_rfl) (fun _ _ _ h => h) hHeld (by rfl) (fun w hSw => ?_) ?_
              rotate_left
              · obtain ⟨hSw1, hSw2⟩ := hSw; simp only [List.getElem_toArray, List.getElem_cons_zero, List.getElem_cons_succ]; go_simp; try rfl
              simp only [Act.put, List.getElem_toArray, List.getElem_cons_zero, List.getElem_cons_succ, List.setIfInBounds_toArray, List.set_cons_zero, List.set_cons_succ]
              refine z_take 6 (v := ?_) rfl (by kernel_rfl) (by kernel_rfl) (by kernel_rfl) (by kernel_rfl) (fun _ _ _ h => h) hHeld (by rfl) (fun w hSw => ?_) ?_
              rotate_left
              · obtain ⟨hSw1, hSw2⟩ := hSw; simp only [List.getElem_toArray, List.getElem_cons_zero, List.getElem_cons_succ]; go_simp; try rfl
              simp only [Act.put, List.getElem_toArray, List.getElem_cons_zero, List.getElem_cons_succ, List.setIfInBounds_toArray, List.set_cons_zero, List.set_cons_succ]
              refine z_take 7 (v := ?_) rfl (by kernel_rfl) (by kernel_rfl) (by kernel_rfl) (by kernel_rfl) (fun _ _ _ h => h) hHeld (by rfl) (fun w hSw => ?_) ?_
              rotate_left
              · obtain ⟨hSw1, hSw2⟩ := hSw; simp only [List.getElem_toArray, List.getElem_cons_zero, List.getElem_cons_succ]; go_simp; try rfl
              simp only [Act.put, List.getElem_toArray, List.getElem_cons_zero, List.getElem_cons_succ, List.setIfInBounds_toArray, List.set_cons_zero, List.set_cons_succ]
              refine z_take 8 (v := ?_) rfl (by kernel_rfl) (by kernel_rfl) (by kernel_rfl) (by kernel_rfl) (fun _ _ _ h => h) hHeld (by rfl) (fun w hSw => ?_) ?_
              rotate_left
              · obtain ⟨hSw1, hSw2⟩ := hSw; simp only [List.getElem_toArray, List.getElem_cons_zero, List.getElem_cons_succ]; go_simp; try rfl
              simp only [Act.put, List.getElem_toArray, List.getElem_cons_zero, List.getElem_cons_succ, List.setIfInBounds_toArray, List.set_cons_zero, List.set_cons_succ]
              refine z_take 9 (v := ?_) rfl (by kernel_rfl) (by kernel_rfl) (by kernel_rfl) (by kernel_rfl) (fun _ _ _ h => h) hHeld (by rfl) (fun w hSw => ?_) ?_
              rotate_left
              · obtain ⟨hSw1, hSw2⟩ := hSw; simp only [List.getElem_toArray, List.getElem_cons_zero, List.getElem_cons_succ]; go_simp; try rfl
              simp only [Act.put, List.getElem_toArray, List.getElem_cons_zero, List.getElem_cons_succ, List.setIfInBounds_toArray, List.set_cons_zero, List.set_cons_succ]
              refine z_take 10 (v := ?_) rfl (by kernel_rfl) (by kernel_rfl) (by kernel_rfl) (by kernel_rfl) (fun _ _ _ h => h) hHeld (by rfl) (fun w hSw => ?_) ?_
              rotate_left
              · obtain ⟨hSw1, hSw2⟩ := hSw; simp only [List.getElem_toArray, List.getElem_cons_zero, List.getElem_cons_succ]; go_simp; try rfl
              simp only [Act.put, List.getElem_toArray, List.getElem_cons_zero, List.getElem_cons_succ, List.setIfInBounds_toArray, List.set_cons_zero, List.set_cons_succ]
              refine z_take 11 (v := ?_) rfl (by kernel_rfl) (by kernel_rfl) (by kernel_rfl) (by kernel_rfl) (fun _ _ _ h => h) hHeld (by rfl) (fun w hSw => ?_) ?_
              rotate_left
              · obtain ⟨hSw1, hSw2⟩ := hSw; simp only [List.getElem_toArray, List.getElem_cons_zero, List.getElem_cons_succ]; go_simp; try rfl
              simp only [Act.put, List.getElem_toArray, List.getElem_cons_zero, List.getElem_cons_succ, List.setIfInBounds_toArray, List.set_cons_zero, List.set_cons_succ]
              refine z_take 12 (v := ?_) rfl (by kernel_rfl) (by kernel_rfl) (by kernel_rfl) (by kernel_rfl) (fun _ _ _ h => h) hHeld (by rfl) (fun w hSw => ?_) ?_
              rotate_left
              · obtain ⟨hSw1, hSw2⟩ := hSw; simp only [List.getElem_toArray, List.getElem_cons_zero, List.getElem_cons_succ]; go_simp; try rfl
              simp only [Act.put, List.getElem_toArray, List.getElem_cons_zero, List.getElem_cons_succ, List.setIfInBounds_toArray, List.set_cons_zero, List.set_cons_succ]
              refine z_take 13 (v := ?_) rfl (by kernel_rfl) (by kernel_rfl) (by kernel_rfl) (by kernel_rfl) (fun _ _ _ h => h) hHeld (by rfl) (fun w hSw => ?_) ?_
              rotate_left
              · obtain ⟨hSw1, hSw2⟩ := hSw; simp only [List.getElem_toArray, List.getElem_cons_zero, List.getElem_cons_succ]; go_simp; try rfl
              simp only [Act.put, List.getElem_toArray, List.getElem_cons_zero, List.getElem_cons_succ, List.setIfInBounds_toArray, List.set_cons_zero, List.set_cons_succ]
              refine z_one 14 rfl (by kernel_rfl) (by rfl) (fun K hK => ?_)
              simp only [List.getElem_toArray, List.getElem_cons_zero, List.getElem_cons_succ]
              go_simp
              have hc0 := cellAt HB.out 0
              simp at hc0
              refine (clear_ok p pd fr hf D _ v2 hc0 HE.out.1 HCR.out.1 HCR.out.2 (by have := HN.out; omega) (by have := HD.out.2.2; omega) HE.out.2.1 HE.out.1.lt).mono ?_
              have hnp2 := HE.out.2.1
              rintro e v3 ⟨rfl, F2, h1, h2, h3⟩
              refine hK _ _ (Or.inr ?_) (fun hHeld => ?_)
              · exact ⟨by rw [h2.cell (World.block_lt_of_cell? _ _ hHeld.1) hnp2]; exact hHeld.1, by rw [h2.cell (World.block_lt_of_cell? _ _ hHeld.2) hnp2]; exact hHeld.2⟩
              clear hK K hnp2 hc0
              replace HB := Lib.hid ((h2.block p (lt_of_heap HB.out) HE.out.2.1).trans HB.out)
              have b3' : ∀ k, F2 k → Fd k ∨ wr.heap.size ≤ k := fun k hf => (h3 k hf).elim (fun h => HE.out.2.2 k h) (fun h => Or.inr (by have := KG.out.size; omega))
              have np' : ¬ F2 p := fun hf => (b3' p hf).elim HPL.out.2 (fun h => by have := HPL.out.1; omega)
              replace KG := Lib.hid (KG.out.trans h2 (fun k hk hf => (HE.out.2.2 k hf).elim Or.inr (fun h => by omega)))
              replace HE := Lib.hid (And.intro h1 (And.intro np' b3'))
              clear h1 h2 h3 b3' np'
              replace hHeld := hHeld.resolve_left (by decide)
              try simp only [Act.put, List.setIfInBounds_toArray, List.set_cons_zero, List.set_cons_succ]
              refine z_one 15 rfl (by kernel_rfl) (by rfl) (fun K hK => ?_)
              simp only [List.getElem_toArray, List.getElem_cons_zero, List.getElem_cons_succ]
              go_simp
              refine hK _ _ (Or.inr hHeld) (fun _ => ?_)
              clear hK K
              try simp only [Act.put, List.setIfInBounds_toArray, List.set_cons_zero, List.set_cons_succ]
              refine z_done (by kernel_rfl) ?_ _
              clear hHeld
              obtain ⟨DA, hd_⟩ : ∃ d, D.zero fr hf = d := ⟨_, rfl⟩
              have HDA : Hid (D.zero fr hf = DA ∧ DA.cr = false ∧ DA.now.length = N ∧ DA.lo.length ≤ 570000) := Lib.hid ⟨hd_, by rw [← hd_, zero_cr]; exact HD.out.2.1, by rw [← hd_, zero_len _ _ _ HCR.out.2]; exact HN.out, by rw [← hd_, zero_lo]; have := HD.out.2.2; omega⟩
              clear hd_
              rw [HDA.out.1] at HE
              obtain ⟨DB, hd_⟩ : ∃ d, DA.zero half sz = d := ⟨_, rfl⟩
              have HDB : Hid (DA.zero half sz = DB ∧ DB.cr = false ∧ DB.now.length = N ∧ DB.lo.length ≤ 640000) := Lib.hid ⟨hd_, by rw [← hd_, zero_cr]; exact HDA.out.2.1, by rw [← hd_, zero_len _ _ _ (by rw [HDA.out.2.2.1]; omega)]; exact HDA.out.2.2.1, by rw [← hd_, zero_lo]; have := HDA.out.2.2.2; omega⟩
              clear hd_
              obtain ⟨DC, hd_⟩ : ∃ d, DB.zero a1 sz = d := ⟨_, rfl⟩
              have HDC : Hid (DB.zero a1 sz = DC ∧ DC.cr = false ∧ DC.now.length = N ∧ DC.lo.length ≤ 710000) := Lib.hid ⟨hd_, by rw [← hd_, zero_cr]; exact HDB.out.2.1, by rw [← hd_, zero_len _ _ _ (by rw [HDB.out.2.2.1]; omega)]; exact HDB.out.2.2.1, by rw [← hd_, zero_lo]; have := HDB.out.2.2.2; omega⟩
              clear hd_
              have HL0 : Hid (OpL wr p pd Fd #[.pointer (some ⟨pd, 0, none⟩), .int .i64 (half : Int), .int .i64 (fr : Int), .slice so rs.length co, .int .i64 (half : Int), .int .i64 (sz : Int), .int .u64 (u0 : Int), .slice s0 l0.length c0, .int .i64 (a1 : Int), .int .i64 (sz : Int), .int .u64 (u1 : Int), .slice s1 l1.length c1, .int .i64 0] #[.pointer (some ⟨pd, 0, none⟩), .int .i64 (half : Int), .int .i64 (fr : Int), .slice so rs.length co, .int .i64 (half : Int), .int .i64 (sz : Int), .int .u64 0, .slice none 0 0, .int .i64 (a1 : Int), .int .i64 (sz : Int), .int .u64 (u1 : Int), .slice s1 l1.length c1, .int .i64 0] #[.pointer (some ⟨pd, 0, none⟩), .int .i64 (half : Int), .int .i64 (fr : Int), .slice so rs.length co, .int .i64 (half : Int), .int .i64 (sz : Int), .int .u64 0, .slice none 0 0, .int .i64 (a1 : Int), .int .i64 (sz : Int), .int .u64 0, .slice none 0 0, .int .i64 0] DA DB DC (.int .i64 0) v3) := Lib.hid (Or.inl ⟨rfl, _, HB.out, HE.out.1, HE.out.2.1, HE.out.2.2, KG.out⟩)
              clear HB HE KG
              have tz : ((u0 : Int) == 0) = true := by simp; omega
              go_wp2_with fail
              go_loopw [182] (fun i wv => OpL wr p pd Fd #[.pointer (some ⟨pd, 0, none⟩), .int .i64 (half : Int), .int .i64 (fr : Int), .slice so rs.length co, .int .i64 (half : Int), .int .i64 (sz : Int), .int .u64 (u0 : Int), .slice s0 l0.length c0, .int .i64 (a1 : Int), .int .i64 (sz : Int), .int .u64 (u1 : Int), .slice s1 l1.length c1, .int .i64 0] #[.pointer (some ⟨pd, 0, none⟩), .int .i64 (half : Int), .int .i64 (fr : Int), .slice so rs.length co, .int .i64 (half : Int), .int .i64 (sz : Int), .int .u64 0, .slice none 0 0, .int .i64 (a1 : Int), .int .i64 (sz : Int), .int .u64 (u1 : Int), .slice s1 l1.length c1, .int .i64 0] #[.pointer (some ⟨pd, 0, none⟩), .int .i64 (half : Int), .int .i64 (fr : Int), .slice so rs.length co, .int .i64 (half : Int), .int .i64 (sz : Int), .int .u64 0, .slice none 0 0, .int .i64 (a1 : Int), .int .i64 (sz : Int), .int .u64 0, .slice none 0 0, .int .i64 0] DA DB DC i wv) (fun i _ => 2 - (intOf i).toNat)
              case atStart => exact HL0.out
              case round =>
                rename World => wv
                clear HL0
                rcases hrel with ⟨rfl, F2, hb, hd, hnp, hbd, hkg⟩ | ⟨rfl, F2, hb, hd, hnp, hbd, hkg⟩ | ⟨rfl, F2, hb, hd, hnp, hbd, hkg⟩
                · have HB := Lib.hid hb
                  have HE := Lib.hid (And.intro hd (And.intro hnp hbd))
                  have KG := Lib.hid hkg
                  clear hb hd hnp hbd hkg
                  have c12_ := cellAt HB.out 12
                  simp at c12_
                  have c6_ := cellAt HB.out 6
                  simp at c6_
                  have e6_ := cellAt HB.out 6
                  have f6_ := freeAt HB.out 6
                  simp at e6_
                  obtain ⟨v21, hv21⟩ : ∃ v, wv.setCell ⟨p, 6, none⟩ (.int .u64 0) = v := ⟨_, rfl⟩
                  have hk : Keeps (fun k => k = p) wv v21 := by rw [← hv21]; exact (Keeps.refl (fun k => k = p) wv).setCell (p := ⟨p, 6, none⟩) (fun _ => rfl) _
                  replace HB : Hid (v21.heap[p]? = some (.cells #[.pointer (some ⟨pd, 0, none⟩), .int .i64 (half : Int), .int .i64 (fr : Int), .slice so rs.length co, .int .i64 (half : Int), .int .i64 (sz : Int), .int .u64 0, .slice s0 l0.length c0, .int .i64 (a1 : Int), .int .i64 (sz : Int), .int .u64 (u1 : Int), .slice s1 l1.length c1, .int .i64 0] 74 (0, 0))) := Lib.hid (by rw [← hv21, heap_setCell_at HB.out]; rfl)
                  replace KG := Lib.hid (KG.out.trans hk (fun k _ h => Or.inl h))
                  replace HE := Lib.hid (And.intro (HE.out.1.keep hk (fun k hf h => HE.out.2.1 (h ▸ hf))) HE.out.2)
                  clear hk
                  have e7_ := cellAt HB.out 7
                  have f7_ := freeAt HB.out 7
                  simp at e7_
                  obtain ⟨v22, hv22⟩ : ∃ v, v21.setCell ⟨p, 7, none⟩ (.slice none 0 0) = v := ⟨_, rfl⟩
                  have hk : Keeps (fun k => k = p) v21 v22 := by rw [← hv22]; exact (Keeps.refl (fun k => k = p) v21).setCell (p := ⟨p, 7, none⟩) (fun _ => rfl) _
                  replace HB : Hid (v22.heap[p]? = some (.cells #[.pointer (some ⟨pd, 0, none⟩), .int .i64 (half : Int), .int .i64 (fr : Int), .slice so rs.length co, .int .i64 (half : Int), .int .i64 (sz : Int), .int .u64 0, .slice none 0 0, .int .i64 (a1 : Int), .int .i64 (sz : Int), .int .u64 (u1 : Int), .slice s1 l1.length c1, .int .i64 0] 74 (0, 0))) := Lib.hid (by rw [← hv22, heap_setCell_at HB.out]; rfl)
                  replace KG := Lib.hid (KG.out.trans hk (fun k _ h => Or.inl h))
                  replace HE := Lib.hid (And.intro (HE.out.1.keep hk (fun k hf h => HE.out.2.1 (h ▸ hf))) HE.out.2)
                  clear hk
                  go_wp2_with fail
                  clear e6_ f6_ hv21 e7_ f7_ hv22
                  clear c12_ c6_
                  have c4_ := cellAt HB.out 4
                  simp at c4_
                  have c5_ := cellAt HB.out 5
                  simp at c5_
                  refine z_begin (fun w' => w'.cell? ⟨p, 4, none⟩ = some (.int .i64 (half : Int)) ∧ w'.cell? ⟨p, 5, none⟩ = some (.int .i64 (sz : Int))) 11 (by kernel_rfl) (⟨c4_, c5_⟩) (fun hHeld => ?_)
                  have hk : Keeps (fun _ => False) v22 (World.drew v22) := (Keeps.refl _ _).drew
                  replace HB := Lib.hid ((hk.block p (lt_of_heap HB.out) (fun h => h)).trans HB.out)
                  replace KG := Lib.hid (KG.out.quiet hk)
                  replace HE := Lib.hid (And.intro (HE.out.1.keep hk (fun _ _ h => h)) HE.out.2)
                  clear hk
                  generalize World.drew v22 = v23 at *
                  clear c4_ c5_
                  refine z_take 0 (v := ?_) rfl (by kernel_rfl) (by kernel_rfl) (by kernel_rfl) (by kernel_rfl) (fun _ _ _ h => h) hHeld (by rfl) (fun w hSw => ?_) ?_
                  rotate_left
                  · obtain ⟨hSw1, hSw2⟩ := hSw; simp only [List.getElem_toArray, List.getElem_cons_zero]; go_simp; try rfl
                  simp only [Act.put, List.getElem_toArray, List.getElem_cons_zero, List.setIfInBounds_toArray, List.set_cons_zero, List.set_cons_succ]
                  refine z_take 1 (v := ?_) rfl (by kernel_rfl) (by kernel_rfl) (by kernel_rfl) (by kernel_rfl) (fun _ _ _ h => h) hHeld (by rfl) (fun w hSw => ?_) ?_
                  rotate_left
                  · obtain ⟨hSw1, hSw2⟩ := hSw; simp only [List.getElem_toArray, List.getElem_cons_zero, List.getElem_cons_succ]; go_simp; try rfl
                  simp only [Act.put, List.getElem_toArray, List.getElem_cons_zero, List.getElem_cons_succ, List.setIfInBounds_toArray, List.set_cons_zero, List.set_cons_succ]
                  refine z_take 2 (v := ?_) rfl (by kernel_rfl) (by kernel_rfl) (by kernel_rfl) (by kernel_rfl) (fun _ _ _ h => h) hHeld (by rfl) (fun w hSw => ?_) ?_
                  rotate_left
                  · obtain ⟨hSw1, hSw2⟩ := hSw; simp only [List.getElem_toArray, List.getElem_cons_zero, List.getElem_cons_succ]; go_simp; try rfl
                  simp only [Act.put, List.getElem_toArray, List.getElem_cons_zero, List.getElem_cons_succ, List.setIfInBounds_toArray, List.set_cons_zero, List.set_cons_succ]
                  refine z_take 3 (v := ?_) rfl (by kernel_rfl) (by kernel_rfl) (by kernel_rfl) (by kernel_rfl) (fun _ _ _ h => h) hHeld (by rfl) (fun w hSw => ?_) ?_
                  rotate_left
                  · obtain ⟨hSw1, hSw2⟩ := hSw; simp only [List.getElem_toArray, List.getElem_cons_zero, List.getElem_cons_succ]; go_simp; try rfl
                  simp only [Act.put, List.getElem_toArray, List.getElem_cons_zero, List.getElem_cons_succ, List.setIfInBounds_toArray, List.set_cons_zero, List.set_cons_succ]
                  refine z_take 4 (v := ?_) rfl (by kernel_rfl) (by kernel_rfl) (by kernel_rfl) (by kernel_rfl) (fun _ _ _ h => h) hHeld (by rfl) (fun w hSw => ?_) ?_
                  rotate_left
                  · obtain ⟨hSw1, hSw2⟩ := hSw; simp only [List.getElem_toArray, List.getElem_cons_zero, List.getElem_cons_succ]; go_simp; try rfl
                  simp only [Act.put, List.getElem_toArray, List.getElem_cons_zero, List.getElem_cons_succ, List.setIfInBounds_toArray, List.set_cons_zero, List.set_cons_succ]
                  refine z_take 5 (v := ?_) rfl (by kernel_rfl) (by kernel_rfl) (by kernel_rfl) (by kernel_rfl) (fun _ _ _ h => h) hHeld (by rfl) (fun w hSw => ?_) ?_
                  rotate_left
                  · obtain ⟨hSw1, hSw2⟩ := hSw; simp only [List.getElem_toArray, List.getElem_cons_zero, List.getElem_cons_succ]; go_simp; try rfl
                  simp only [Act.put, List.getElem_toArray, List.getElem_cons_zero, List.getElem_cons_succ, List.setIfInBounds_toArray, List.set_cons_zero, List.set_cons_succ]
                  refine z_take 6 (v := ?_) rfl (by kernel_rfl) (by kernel_rfl) (by kernel_rfl) (by kernel_rfl) (fun _ _ _ h => h) hHeld (by rfl) (fun w hSw => ?_) ?_
                  rotate_left
                  · obtain ⟨hSw1, hSw2⟩ := hSw; simp only [List.getElem_toArray, List.getElem_cons_zero, List.getElem_cons_succ]; go_simp; try rfl
                  simp only [Act.put, List.getElem_toArray, List.getElem_cons_zero, List.getElem_cons_succ, List.setIfInBounds_toArray, List.set_cons_zero, List.set_cons_succ]
                  refine z_take 7 (v := ?_) rfl (by kernel_rfl) (by kernel_rfl) (by kernel_rfl) (by kernel_rfl) (fun _ _ _ h => h) hHeld (by rfl) (fun w hSw => ?_) ?_
                  rotate_left
                  · obtain ⟨hSw1, hSw2⟩ := hSw; simp only [List.getElem_toArray, List.getElem_cons_zero, List.getElem_cons_succ]; go_simp; try rfl
                  simp only [Act.put, List.getElem_toArray, List.getElem_cons_zero, List.getElem_cons_succ, List.setIfInBounds_toArray, List.set_cons_zero, List.set_cons_succ]
                  refine z_take 8 (v := ?_) rfl (by kernel_rfl) (by kernel_rfl) (by kernel_rfl) (by kernel_rfl) (fun _ _ _ h => h) hHeld (by rfl) (fun w hSw => ?_) ?_
                  rotate_left
                  · obtain ⟨hSw1, hSw2⟩ := hSw; simp only [List.getElem_toArray, List.getElem_cons_zero, List.getElem_cons_succ]; go_simp; try rfl
                  simp only [Act.put, List.getElem_toArray, List.getElem_cons_zero, List.getElem_cons_succ, List.setIfInBounds_toArray, List.set_cons_zero, List.set_cons_succ]
                  refine z_one 9 rfl (by kernel_rfl) (by rfl) (fun K hK => ?_)
                  simp only [List.getElem_toArray, List.getElem_cons_zero, List.getElem_cons_succ]
                  go_simp
                  have hc0 := cellAt HB.out 0
                  simp at hc0
                  refine (clear_ok p pd half sz DA _ v23 hc0 HE.out.1 HDA.out.2.1 (by rw [HDA.out.2.2.1]; omega) (by rw [HDA.out.2.2.1]; omega) (by have := HDA.out.2.2.2; omega) HE.out.2.1 HE.out.1.lt).mono ?_
                  have hnp2 := HE.out.2.1
                  rintro e v24 ⟨rfl, F2, h1, h2, h3⟩
                  refine hK _ _ (Or.inr ?_) (fun hHeld => ?_)
                  · exact ⟨by rw [h2.cell (World.block_lt_of_cell? _ _ hHeld.1) hnp2]; exact hHeld.1, by rw [h2.cell (World.block_lt_of_cell? _ _ hHeld.2) hnp2]; exact hHeld.2⟩
                  clear hK K hnp2 hc0
                  replace HB := Lib.hid ((h2.block p (lt_of_heap HB.out) HE.out.2.1).trans HB.out)
                  have b3' : ∀ k, F2 k → Fd k ∨ wr.heap.size ≤ k := fun k hf => (h3 k hf).elim (fun h => HE.out.2.2 k h) (fun h => Or.inr (by have := KG.out.size; omega))
                  have np' : ¬ F2 p := fun hf => (b3' p hf).elim HPL.out.2 (fun h => by have := HPL.out.1; omega)
                  replace KG := Lib.hid (KG.out.trans h2 (fun k hk hf => (HE.out.2.2 k hf).elim Or.inr (fun h => by omega)))
                  replace HE := Lib.hid (And.intro h1 (And.intro np' b3'))
                  clear h1 h2 h3 b3' np'
                  replace hHeld := hHeld.resolve_left (by decide)
                  try simp only [Act.put, List.setIfInBounds_toArray, List.set_cons_zero, List.set_cons_succ]
                  refine z_one 10 rfl (by kernel_rfl) (by rfl) (fun K hK => ?_)
                  simp only [List.getElem_toArray, List.getElem_cons_zero, List.getElem_cons_succ]
                  go_simp
                  refine hK _ _ (Or.inr hHeld) (fun _ => ?_)
                  clear hK K
                  try simp only [Act.put, List.setIfInBounds_toArray, List.set_cons_zero, List.set_cons_succ]
                  refine z_done (by kernel_rfl) ?_ _
                  clear hHeld
                  rw [HDB.out.1] at HE
                  go_wp2
                  go_roundw
                  case rel => exact Or.inr (Or.inl ⟨rfl, _, HB.out, HE.out.1, HE.out.2.1, HE.out.2.2, KG.out⟩)
                  case measure => simp [intOf]
                · have HB := Lib.hid hb
                  have HE := Lib.hid (And.intro hd (And.intro hnp hbd))
                  have KG := Lib.hid hkg
                  clear hb hd hnp hbd hkg
                  have c12_ := cellAt HB.out 12
                  simp at c12_
                  have e10_ := cellAt HB.out 10
                  have f10_ := freeAt HB.out 10
                  simp at e10_
                  obtain ⟨v41, hv41⟩ : ∃ v, wv.setCell ⟨p, 10, none⟩ (.int .u64 0) = v := ⟨_, rfl⟩
                  have hk : Keeps (fun k => k = p) wv v41 := by rw [← hv41]; exact (Keeps.refl (fun k => k = p) wv).setCell (p := ⟨p, 10, none⟩) (fun _ => rfl) _
                  replace HB : Hid (v41.heap[p]? = some (.cells #[.pointer (some ⟨pd, 0, none⟩), .int .i64 (half : Int), .int .i64 (fr : Int), .slice so rs.length co, .int .i64 (half : Int), .int .i64 (sz : Int), .int .u64 0, .slice none 0 0, .int .i64 (a1 : Int), .int .i64 (sz : Int), .int .u64 0, .slice s1 l1.length c1, .int .i64 0] 74 (0, 0))) := Lib.hid (by rw [← hv41, heap_setCell_at HB.out]; rfl)
                  replace KG := Lib.hid (KG.out.trans hk (fun k _ h => Or.inl h))
                  replace HE := Lib.hid (And.intro (HE.out.1.keep hk (fun k hf h => HE.out.2.1 (h ▸ hf))) HE.out.2)
                  clear hk
                  have e11_ := cellAt HB.out 11
                  have f11_ := freeAt HB.out 11
                  simp at e11_
                  obtain ⟨v42, hv42⟩ : ∃ v, v41.setCell ⟨p, 11, none⟩ (.slice none 0 0) = v := ⟨_, rfl⟩
                  have hk : Keeps (fun k => k = p) v41 v42 := by rw [← hv42]; exact (Keeps.refl (fun k => k = p) v41).setCell (p := ⟨p, 11, none⟩) (fun _ => rfl) _
                  replace HB : Hid (v42.heap[p]? = some (.cells #[.pointer (some ⟨pd, 0, none⟩), .int .i64 (half : Int), .int .i64 (fr : Int), .slice so rs.length co, .int .i64 (half : Int), .int .i64 (sz : Int), .int .u64 0, .slice none 0 0, .int .i64 (a1 : Int), .int .i64 (sz : Int), .int .u64 0, .slice none 0 0, .int .i64 0] 74 (0, 0))) := Lib.hid (by rw [← hv42, heap_setCell_at HB.out]; rfl)
                  replace KG := Lib.hid (KG.out.trans hk (fun k _ h => Or.inl h))
                  replace HE := Lib.hid (And.intro (HE.out.1.keep hk (fun k hf h => HE.out.2.1 (h ▸ hf))) HE.out.2)
                  clear hk
                  go_wp2_with fail
                  clear e10_ f10_ hv41 e11_ f11_ hv42
                  clear c12_
                  have c8_ := cellAt HB.out 8
                  simp at c8_
                  have c9_ := cellAt HB.out 9
                  simp at c9_
                  refine z_begin (fun w' => w'.cell? ⟨p, 8, none⟩ = some (.int .i64 (a1 : Int)) ∧ w'.cell? ⟨p, 9, none⟩ = some (.int .i64 (sz : Int))) 11 (by kernel_rfl) (⟨c8_, c9_⟩) (fun hHeld => ?_)
                  have hk : Keeps (fun _ => False) v42 (World.drew v42) := (Keeps.refl _ _).drew
                  replace HB := Lib.hid ((hk.block p (lt_of_heap HB.out) (fun h => h)).trans HB.out)
                  replace KG := Lib.hid (KG.out.quiet hk)
                  replace HE := Lib.hid (And.intro (HE.out.1.keep hk (fun _ _ h => h)) HE.out.2)
                  clear hk
                  generalize World.drew v42 = v43 at *
                  clear c8_ c9_
                  refine z_take 0 (v := ?_) rfl (by kernel_rfl) (by kernel_rfl) (by kernel_rfl) (by kernel_rfl) (fun _ _ _ h => h) hHeld (by rfl) (fun w hSw => ?_) ?_
                  rotate_left
                  · obtain ⟨hSw1, hSw2⟩ := hSw; simp only [List.getElem_toArray, List.getElem_cons_zero]; go_simp; try rfl
                  simp only [Act.put, List.getElem_toArray, List.getElem_cons_zero, List.setIfInBounds_toArray, List.set_cons_zero, List.set_cons_succ]
                  refine z_take 1 (v := ?_) rfl (by kernel_rfl) (by kernel_rfl) (by kernel_rfl) (by kernel_rfl) (fun _ _ _ h => h) hHeld (by rfl) (fun w hSw => ?_) ?_
                  rotate_left
                  · obtain ⟨hSw1, hSw2⟩ := hSw; simp only [List.getElem_toArray, List.getElem_cons_zero, List.getElem_cons_succ]; go_simp; try rfl
                  simp only [Act.put, List.getElem_toArray, List.getElem_cons_zero, List.getElem_cons_succ, List.setIfInBounds_toArray, List.set_cons_zero, List.set_cons_succ]
                  refine z_take 2 (v := ?_) rfl (by kernel_rfl) (by kernel_rfl) (by kernel_rfl) (by kernel_rfl) (fun _ _ _ h => h) hHeld (by rfl) (fun w hSw => ?_) ?_
                  rotate_left
                  · obtain ⟨hSw1, hSw2⟩ := hSw; simp only [List.getElem_toArray, List.getElem_cons_zero, List.getElem_cons_succ]; go_simp; try rfl
                  simp only [Act.put, List.getElem_toArray, List.getElem_cons_zero, List.getElem_cons_succ, List.setIfInBounds_toArray, List.set_cons_zero, List.set_cons_succ]
                  refine z_take 3 (v := ?_) rfl (by kernel_rfl) (by kernel_rfl) (by kernel_rfl) (by kernel_rfl) (fun _ _ _ h => h) hHeld (by rfl) (fun w hSw => ?_) ?_
                  rotate_left
                  · obtain ⟨hSw1, hSw2⟩ := hSw; simp only [List.getElem_toArray, List.getElem_cons_zero, List.getElem_cons_succ]; go_simp; try rfl
                  simp only [Act.put, List.getElem_toArray, List.getElem_cons_zero, List.getElem_cons_succ, List.setIfInBounds_toArray, List.set_cons_zero, List.set_cons_succ]
                  refine z_take 4 (v := ?_) rfl (by kernel_rfl) (by kernel_rfl) (by kernel_rfl) (by kernel_rfl) (fun _ _ _ h => h) hHeld (by rfl) (fun w hSw => ?_) ?_
                  rotate_left
                  · obtain ⟨hSw1, hSw2⟩ := hSw; simp only [List.getElem_toArray, List.getElem_cons_zero, List.getElem_cons_succ]; go_simp; try rfl
                  simp only [Act.put, List.getElem_toArray, List.getElem_cons_zero, List.getElem_cons_succ, List.setIfInBounds_toArray, List.set_cons_zero, List.set_cons_succ]
                  refine z_take 5 (v := ?_) rfl (by kernel_rfl) (by kernel_rfl) (by kernel_rfl) (by kernel_rfl) (fun _ _ _ h => h) hHeld (by rfl) (fun w hSw => ?_) ?_
                  rotate_left
                  · obtain ⟨hSw1, hSw2⟩ := hSw; simp only [List.getElem_toArray, List.getElem_cons_zero, List.getElem_cons_succ]; go_simp; try rfl
                  simp only [Act.put, List.getElem_toArray, List.getElem_cons_zero, List.getElem_cons_succ, List.setIfInBounds_toArray, List.set_cons_zero, List.set_cons_succ]
                  refine z_take 6 (v := ?_) rfl (by kernel_rfl) (by kernel_rfl) (by kernel_rfl) (by kernel_rfl) (fun _ _ _ h => h) hHeld (by rfl) (fun w hSw => ?_) ?_
                  rotate_left
                  · obtain ⟨hSw1, hSw2⟩ := hSw; simp only [List.getElem_toArray, List.getElem_cons_zero, List.getElem_cons_succ]; go_simp; try rfl
                  simp only [Act.put, List.getElem_toArray, List.getElem_cons_zero, List.getElem_cons_succ, List.setIfInBounds_toArray, List.set_cons_zero, List.set_cons_succ]
                  refine z_take 7 (v := ?_) rfl (by kernel_rfl) (by kernel_rfl) (by kernel_rfl) (by kernel_rfl) (fun _ _ _ h => h) hHeld (by rfl) (fun w hSw => ?_) ?_
                  rotate_left
                  · obtain ⟨hSw1, hSw2⟩ := hSw; simp only [List.getElem_toArray, List.getElem_cons_zero, List.getElem_cons_succ]; go_simp; try rfl
                  simp only [Act.put, List.getElem_toArray, List.getElem_cons_zero, List.getElem_cons_succ, List.setIfInBounds_toArray, List.set_cons_zero, List.set_cons_succ]
                  refine z_take 8 (v := ?_) rfl (by kernel_rfl) (by kernel_rfl) (by kernel_rfl) (by kernel_rfl) (fun _ _ _ h => h) hHeld (by rfl) (fun w hSw => ?_) ?_
                  rotate_left
                  · obtain ⟨hSw1, hSw2⟩ := hSw; simp only [List.getElem_toArray, List.getElem_cons_zero, List.getElem_cons_succ]; go_simp; try rfl
                  simp only [Act.put, List.getElem_toArray, List.getElem_cons_zero, List.getElem_cons_succ, List.setIfInBounds_toArray, List.set_cons_zero, List.set_cons_succ]
                  refine z_one 9 rfl (by kernel_rfl) (by rfl) (fun K hK => ?_)
                  simp only [List.getElem_toArray, List.getElem_cons_zero, List.getElem_cons_succ]
                  go_simp
                  have hc0 := cellAt HB.out 0
                  simp at hc0
                  refine (clear_ok p pd a1 sz DB _ v43 hc0 HE.out.1 HDB.out.2.1 (by rw [HDB.out.2.2.1]; omega) (by rw [HDB.out.2.2.1]; omega) (by have := HDB.out.2.2.2; omega) HE.out.2.1 HE.out.1.lt).mono ?_
                  have hnp2 := HE.out.2.1
                  rintro e v44 ⟨rfl, F2, h1, h2, h3⟩
                  refine hK _ _ (Or.inr ?_) (fun hHeld => ?_)
                  · exact ⟨by rw [h2.cell (World.block_lt_of_cell? _ _ hHeld.1) hnp2]; exact hHeld.1, by rw [h2.cell (World.block_lt_of_cell? _ _ hHeld.2) hnp2]; exact hHeld.2⟩
                  clear hK K hnp2 hc0
                  replace HB := Lib.hid ((h2.block p (lt_of_heap HB.out) HE.out.2.1).trans HB.out)
                  have b3' : ∀ k, F2 k → Fd k ∨ wr.heap.size ≤ k := fun k hf => (h3 k hf).elim (fun h => HE.out.2.2 k h) (fun h => Or.inr (by have := KG.out.size; omega))
                  have np' : ¬ F2 p := fun hf => (b3' p hf).elim HPL.out.2 (fun h => by have := HPL.out.1; omega)
                  replace KG := Lib.hid (KG.out.trans h2 (fun k hk hf => (HE.out.2.2 k hf).elim Or.inr (fun h => by omega)))
                  replace HE := Lib.hid (And.intro h1 (And.intro np' b3'))
                  clear h1 h2 h3 b3' np'
                  replace hHeld := hHeld.resolve_left (by decide)
                  try simp only [Act.put, List.setIfInBounds_toArray, List.set_cons_zero, List.set_cons_succ]
                  refine z_one 10 rfl (by kernel_rfl) (by rfl) (fun K hK => ?_)
                  simp only [List.getElem_toArray, List.getElem_cons_zero, List.getElem_cons_succ]
                  go_simp
                  refine hK _ _ (Or.inr hHeld) (fun _ => ?_)
                  clear hK K
                  try simp only [Act.put, List.setIfInBounds_toArray, List.set_cons_zero, List.set_cons_succ]
                  refine z_done (by kernel_rfl) ?_ _
                  clear hHeld
                  rw [HDC.out.1] at HE
                  go_wp2
                  go_roundw
                  case rel => exact Or.inr (Or.inr ⟨rfl, _, HB.out, HE.out.1, HE.out.2.1, HE.out.2.2, KG.out⟩)
                  case measure => simp [intOf]
                · have HB := Lib.hid hb
                  have HE := Lib.hid (And.intro hd (And.intro hnp hbd))
                  have KG := Lib.hid hkg
                  clear hb hd hnp hbd hkg
                  have HS := Lib.hid (sync_ok pd DC F2 wv HE.out.1 HDC.out.2.1)
                  go_wp2_with fail
                  refine HS.out.mono ?_
                  rintro e v90 ⟨rfl, F2, h1, h2, h3⟩
                  clear HS
                  replace HB := Lib.hid ((h2.block p (lt_of_heap HB.out) HE.out.2.1).trans HB.out)
                  have b3' : ∀ k, F2 k → Fd k ∨ wr.heap.size ≤ k := fun k hf => (h3 k hf).elim (fun h => HE.out.2.2 k h) (fun h => Or.inr (by have := KG.out.size; omega))
                  have np' : ¬ F2 p := fun hf => (b3' p hf).elim HPL.out.2 (fun h => by have := HPL.out.1; omega)
                  replace KG := Lib.hid (KG.out.trans h2 (fun k hk hf => (HE.out.2.2 k hf).elim Or.inr (fun h => by omega)))
                  replace HE := Lib.hid (And.intro h1 (And.intro np' b3'))
                  clear h1 h2 h3 b3' np'
                  go_wp2
                  go_ret2
                  have hDN := HN.out
                  have heq := openS_zero (D := D) (half := half) (sz := sz) (fr := fr) (a1 := a1) (u0 := u0) (u1 := u1) (rs := rs) (l0 := l0) (l1 := l1) (by rw [hDN]; exact hhalf) (by rw [hDN]; exact HQ.out.2.2.2) HQ.out.2.2.1 (by rw [HLL.out.1]; exact HX4.out.2.2.2.2) HQ.out.1 HQ.out.2.1 hlt hu
                  rw [hhf, HDA.out.1, HDB.out.1, HDC.out.1] at heq
                  have hb := HB.out
                  rw [← HQ.out.2.2.1] at hb
                  have pf0 := plOf_facts D.now half sz
                  have pf1 := plOf_facts D.now a1 sz
                  rw [HQ.out.1] at pf0
                  rw [HQ.out.2.1] at pf1
                  dsimp only at pf0 pf1
                  rw [hu, pf0.2.2 hu] at heq
                  obtain ⟨F, R, g1, g2, g3, g4⟩ := open_end (N := N) (half := half) (sz := sz) (fr := fr) (now := 0) (turn := 0) (keys := []) (sk := none) (ck := 0) (l := l) heq HDC.out.2.2.1 hhalf HQ.out.2.2.2 hD HX4.out.2.2.2.2 HLL.out.2.1 HD.out.1.lt HLL.out.2.2.2.1 HPL.out.1 HROW.out.1 HROW.out.2 (World.ownsRow_nil _ _ _ _) HKW.out KG.out HE.out.1 HE.out.2.1 HE.out.2.2 hb (by omega) (fun h => by omega) (fun _ => rfl) (by omega) (by simp)
                  exact ⟨p, F, R, rfl, g1, g2, g3, g4⟩
            · go_wp2_with fail
              have c10_ := cellAt HB.out 10
              simp at c10_
              have c6_ := cellAt HB.out 6
              simp at c6_
              refine z_begin (fun w' => w'.cell? ⟨p, 10, none⟩ = some (.int .u64 (u1 : Int)) ∧ w'.cell? ⟨p, 6, none⟩ = some (.int .u64 (u0 : Int))) 13 (by kernel_rfl) (⟨c10_, c6_⟩) (fun hHeld => ?_)
              have hk : Keeps (fun _ => False) wr (World.drew wr) := (Keeps.refl _ _).drew
              replace HB := Lib.hid ((hk.block p (lt_of_heap HB.out) (fun h => h)).trans HB.out)
              replace KG := Lib.hid (KG.out.quiet hk)
              replace HE := Lib.hid (And.intro (HE.out.1.keep hk (fun _ _ h => h)) HE.out.2)
              clear hk
              generalize World.drew wr = v1 at *
              clear c10_ c6_
              refine z_take 0 (v := ?_) rfl (by kernel_rfl) (by kernel_rfl) (by kernel_rfl) (by kernel_rfl) (fun _ _ _ h => h) hHeld (by rfl) (fun w hSw => ?_) ?_
              rotate_left
              · obtain ⟨hSw1, hSw2⟩ := hSw; simp only [List.getElem_toArray, List.getElem_cons_zero]; go_simp; try rfl
              simp only [Act.put, List.getElem_toArray, List.getElem_cons_zero, List.setIfInBounds_toArray, List.set_cons_zero, List.set_cons_succ]
              refine z_take 1 (v := ?_) rfl (by kernel_rfl) (by kernel_rfl) (by kernel_rfl) (by kernel_rfl) (fun _ _ _ h => h) hHeld (by rfl) (fun w hSw => ?_) ?_
              rotate_left
              · obtain ⟨hSw1, hSw2⟩ := hSw; simp only [List.getElem_toArray, List.getElem_cons_zero, List.getElem_cons_succ]; go_simp; try rfl
              simp only [Act.put, List.getElem_toArray, List.getElem_cons_zero, List.getElem_cons_succ, List.setIfInBounds_toArray, List.set_cons_zero, List.set_cons_succ]
              refine z_take 2 (v := ?_) rfl (by kernel_rfl) (by kernel_rfl) (by kernel_rfl) (by kernel_rfl) (fun _ _ _ h => h) hHeld (by rfl) (fun w hSw => ?_) ?_
              rotate_left
              · obtain ⟨hSw1, hSw2⟩ := hSw; simp only [List.getElem_toArray, List.getElem_cons_zero, List.getElem_cons_succ]; go_simp; try rfl
              simp only [Act.put, List.getElem_toArray, List.getElem_cons_zero, List.getElem_cons_succ, List.setIfInBounds_toArray, List.set_cons_zero, List.set_cons_succ]
              refine z_take 3 (v := ?_) rfl (by kernel_rfl) (by kernel_rfl) (by kernel_rfl) (by kernel_rfl) (fun _ _ _ h => h) hHeld (by rfl) (fun w hSw => ?_) ?_
              rotate_left
              · obtain ⟨hSw1, hSw2⟩ := hSw; simp only [List.getElem_toArray, List.getElem_cons_zero, List.getElem_cons_succ]; go_simp; try rfl
              simp only [Act.put, List.getElem_toArray, List.getElem_cons_zero, List.getElem_cons_succ, List.setIfInBounds_toArray, List.set_cons_zero, List.set_cons_succ]
              refine z_take 4 (v := ?_) rfl (by kernel_rfl) (by kernel_rfl) (by kernel_rfl) (by kernel_rfl) (fun _ _ _ h => h) hHeld (by rfl) (fun w hSw => ?_) ?_
              rotate_left
              · obtain ⟨hSw1, hSw2⟩ := hSw; simp only [List.getElem_toArray, List.getElem_cons_zero, List.getElem_cons_succ]; go_simp; try rfl
              simp only [Act.put, List.getElem_toArray, List.getElem_cons_zero, List.getElem_cons_succ, List.setIfInBounds_toArray, List.set_cons_zero, List.set_cons_succ]
              refine z_take 5 (v := ?_) rfl (by kernel_rfl) (by kernel_rfl) (by kernel_rfl) (by kernel_rfl) (fun _ _ _ h => h) hHeld (by rfl) (fun w hSw => ?_) ?_
              rotate_left
              · obtain ⟨hSw1, hSw2⟩ := hSw; simp only [List.getElem_toArray, List.getElem_cons_zero, List.getElem_cons_succ]; go_simp; try rfl
              simp only [Act.put, List.getElem_toArray, List.getElem_cons_zero, List.getElem_cons_succ, List.setIfInBounds_toArray, List.set_cons_zero, List.set_cons_succ]
              refine z_take 6 (v := ?_) rfl (by kernel_rfl) (by kernel_rfl) (by kernel_rfl) (by kernel_rfl) (fun _ _ _ h => h) hHeld (by rfl) (fun w hSw => ?_) ?_
              rotate_left
              · obtain ⟨hSw1, hSw2⟩ := hSw; simp only [List.getElem_toArray, List.getElem_cons_zero, List.getElem_cons_succ]; go_simp; try rfl
              simp only [Act.put, List.getElem_toArray, List.getElem_cons_zero, List.getElem_cons_succ, List.setIfInBounds_toArray, List.set_cons_zero, List.set_cons_succ]
              refine z_take 7 (v := ?_) rfl (by kernel_rfl) (by kernel_rfl) (by kernel_rfl) (by kernel_rfl) (fun _ _ _ h => h) hHeld (by rfl) (fun w hSw => ?_) ?_
              rotate_left
              · obtain ⟨hSw1, hSw2⟩ := hSw; simp only [List.getElem_toArray, List.getElem_cons_zero, List.getElem_cons_succ]; go_simp; try rfl
              simp only [Act.put, List.getElem_toArray, List.getElem_cons_zero, List.getElem_cons_succ, List.setIfInBounds_toArray, List.set_cons_zero, List.set_cons_succ]
              refine z_take 8 (v := ?_) rfl (by kernel_rfl) (by kernel_rfl) (by kernel_rfl) (by kernel_rfl) (fun _ _ _ h => h) hHeld (by rfl) (fun w hSw => ?_) ?_
              rotate_left
              · obtain ⟨hSw1, hSw2⟩ := hSw; simp only [List.getElem_toArray, List.getElem_cons_zero, List.getElem_cons_succ]; go_simp; try rfl
              simp only [Act.put, List.getElem_toArray, List.getElem_cons_zero, List.getElem_cons_succ, List.setIfInBounds_toArray, List.set_cons_zero, List.set_cons_succ]
              refine z_take 9 (v := ?_) rfl (by kernel_rfl) (by kernel_rfl) (by kernel_rfl) (by kernel_rfl) (fun _ _ _ h => h) hHeld (by rfl) (fun w hSw => ?_) ?_
              rotate_left
              · obtain ⟨hSw1, hSw2⟩ := hSw; simp only [List.getElem_toArray, List.getElem_cons_zero, List.getElem_cons_succ]; go_simp; try rfl
              simp only [Act.put, List.getElem_toArray, List.getElem_cons_zero, List.getElem_cons_succ, List.setIfInBounds_toArray, List.set_cons_zero, List.set_cons_succ]
              refine z_take 10 (v := ?_) rfl (by kernel_rfl) (by kernel_rfl) (by kernel_rfl) (by kernel_rfl) (fun _ _ _ h => h) hHeld (by rfl) (fun w hSw => ?_) ?_
              rotate_left
              · obtain ⟨hSw1, hSw2⟩ := hSw; simp only [List.getElem_toArray, List.getElem_cons_zero, List.getElem_cons_succ]; go_simp; try rfl
              simp only [Act.put, List.getElem_toArray, List.getElem_cons_zero, List.getElem_cons_succ, List.setIfInBounds_toArray, List.set_cons_zero, List.set_cons_succ]
              refine z_take 11 (v := ?_) rfl (by kernel_rfl) (by kernel_rfl) (by kernel_rfl) (by kernel_rfl) (fun _ _ _ h => h) hHeld (by rfl) (fun w hSw => ?_) ?_
              rotate_left
              · obtain ⟨hSw1, hSw2⟩ := hSw; simp only [List.getElem_toArray, List.getElem_cons_zero, List.getElem_cons_succ]; go_simp; try rfl
              simp only [Act.put, List.getElem_toArray, List.getElem_cons_zero, List.getElem_cons_succ, List.setIfInBounds_toArray, List.set_cons_zero, List.set_cons_succ]
              refine z_take 12 (v := ?_) rfl (by kernel_rfl) (by kernel_rfl) (by kernel_rfl) (by kernel_rfl) (fun _ _ _ h => h) hHeld (by rfl) (fun w hSw => ?_) ?_
              rotate_left
              · obtain ⟨hSw1, hSw2⟩ := hSw; simp only [List.getElem_toArray, List.getElem_cons_zero, List.getElem_cons_succ]; go_simp; try rfl
              simp only [Act.put, List.getElem_toArray, List.getElem_cons_zero, List.getElem_cons_succ, List.setIfInBounds_toArray, List.set_cons_zero, List.set_cons_succ]
              refine z_done (by kernel_rfl) ?_ _
              clear hHeld
              go_wp2_with fail
              have c2_ := cellAt HB.out 2
              simp at c2_
              have c1_ := cellAt HB.out 1
              simp at c1_
              refine z_begin (fun w' => w'.cell? ⟨p, 2, none⟩ = some (.int .i64 (fr : Int)) ∧ w'.cell? ⟨p, 1, none⟩ = some (.int .i64 (half : Int))) 16 (by kernel_rfl) (⟨c2_, c1_⟩) (fun hHeld => ?_)
              have hk : Keeps (fun _ => False) v1 (World.drew v1) := (Keeps.refl _ _).drew
              replace HB := Lib.hid ((hk.block p (lt_of_heap HB.out) (fun h => h)).trans HB.out)
              replace KG := Lib.hid (KG.out.quiet hk)
              replace HE := Lib.hid (And.intro (HE.out.1.keep hk (fun _ _ h => h)) HE.out.2)
              clear hk
              generalize World.drew v1 = v2 at *
              clear c2_ c1_
              refine z_take 0 (v := ?_) rfl (by kernel_rfl) (by kernel_rfl) (by kernel_rfl) (by kernel_rfl) (fun _ _ _ h => h) hHeld (by rfl) (fun w hSw => ?_) ?_
              rotate_left
              · obtain ⟨hSw1, hSw2⟩ := hSw; simp only [List.getElem_toArray, List.getElem_cons_zero]; go_simp; try rfl
              simp only [Act.put, List.getElem_toArray, List.getElem_cons_zero, List.setIfInBounds_toArray, List.set_cons_zero, List.set_cons_succ]
              refine z_take 1 (v := ?_) rfl (by kernel_rfl) (by kernel_rfl) (by kernel_rfl) (by kernel_rfl) (fun _ _ _ h => h) hHeld (by rfl) (fun w hSw => ?_) ?_
              rotate_left
              · obtain ⟨hSw1, hSw2⟩ := hSw; simp only [List.getElem_toArray, List.getElem_cons_zero, List.getElem_cons_succ]; go_simp; try rfl
              simp only [Act.put, List.getElem_toArray, List.getElem_cons_zero, List.getElem_cons_succ, List.setIfInBounds_toArray, List.set_cons_zero, List.set_cons_succ]
              refine z_take 2 (v := ?_) rfl (by kernel_rfl) (by kernel_rfl) (by kernel_rfl) (by kernel_rfl) (fun _ _ _ h => h) hHeld (by rfl) (fun w hSw => ?_) ?_
              rotate_left
              · obtain ⟨hSw1, hSw2⟩ := hSw; simp only [List.getElem_toArray, List.getElem_cons_zero, List.getElem_cons_succ]; go_simp; try rfl
              simp only [Act.put, List.getElem_toArray, List.getElem_cons_zero, List.getElem_cons_succ, List.setIfInBounds_toArray, List.set_cons_zero, List.set_cons_succ]
              refine z_take 3 (v := ?_) rfl (by kernel_rfl) (by kernel_rfl) (by kernel_rfl) (by kernel_rfl) (fun _ _ _ h => h) hHeld (by rfl) (fun w hSw => ?_) ?_
              rotate_left
              · obtain ⟨hSw1, hSw2⟩ := hSw; simp only [List.getElem_toArray, List.getElem_cons_zero, List.getElem_cons_succ]; go_simp; try rfl
              simp only [Act.put, List.getElem_toArray, List.getElem_cons_zero, List.getElem_cons_succ, List.setIfInBounds_toArray, List.set_cons_zero, List.set_cons_succ]
              refine z_take 4 (v := ?_) rfl (by kernel_rfl) (by kernel_rfl) (by kernel_rfl) (by kernel_rfl) (fun _ _ _ h => h) hHeld (by rfl) (fun w hSw => ?_) ?_
              rotate_left
              · obtain ⟨hSw1, hSw2⟩ := hSw; simp only [List.getElem_toArray, List.getElem_cons_zero, List.getElem_cons_succ]; go_simp; try rfl
              simp only [Act.put, List.getElem_toArray, List.getElem_cons_zero, List.getElem_cons_succ, List.setIfInBounds_toArray, List.set_cons_zero, List.set_cons_succ]
              refine z_take 5 (v := ?_) rfl (by kernel_rfl) (by kernel_rfl) (by kernel_rfl) (by kernel_rfl) (fun _ _ _ h => h) hHeld (by rfl) (fun w hSw => ?_) ?_
              rotate_left
              · obtain ⟨hSw1, hSw2⟩ := hSw; simp only [List.getElem_toArray, List.getElem_cons_zero, List.getElem_cons_succ]; go_simp; try rfl
              simp only [Act.put, List.getElem_toArray, List.getElem_cons_zero, List.getElem_cons_succ, List.setIfInBounds_toArray, List.set_cons_zero, List.set_cons_succ]
              refine z_take 6 (v := ?_) rfl (by kernel_rfl) (by kernel_rfl) (by kernel_rfl) (by kernel_rfl) (fun _ _ _ h => h) hHeld (by rfl) (fun w hSw => ?_) ?_
              rotate_left
              · obtain ⟨hSw1, hSw2⟩ := hSw; simp only [List.getElem_toArray, List.getElem_cons_zero, List.getElem_cons_succ]; go_simp; try rfl
              simp only [Act.put, List.getElem_toArray, List.getElem_cons_zero, List.getElem_cons_succ, List.setIfInBounds_toArray, List.set_cons_zero, List.set_cons_succ]
              refine z_take 7 (v := ?_) rfl (by kernel_rfl) (by kernel_rfl) (by kernel_rfl) (by kernel_rfl) (fun _ _ _ h => h) hHeld (by rfl) (fun w hSw => ?_) ?_
              rotate_left
              · obtain ⟨hSw1, hSw2⟩ := hSw; simp only [List.getElem_toArray, List.getElem_cons_zero, List.getElem_cons_succ]; go_simp; try rfl
              simp only [Act.put, List.getElem_toArray, List.getElem_cons_zero, List.getElem_cons_succ, List.setIfInBounds_toArray, List.set_cons_zero, List.set_cons_succ]
              refine z_take 8 (v := ?_) rfl (by kernel_rfl) (by kernel_rfl) (by kernel_rfl) (by kernel_rfl) (fun _ _ _ h => h) hHeld (by rfl) (fun w hSw => ?_) ?_
              rotate_left
              · obtain ⟨hSw1, hSw2⟩ := hSw; simp only [List.getElem_toArray, List.getElem_cons_zero, List.getElem_cons_succ]; go_simp; try rfl
              simp only [Act.put, List.getElem_toArray, List.getElem_cons_zero, List.getElem_cons_succ, List.setIfInBounds_toArray, List.set_cons_zero, List.set_cons_succ]
              refine z_take 9 (v := ?_) rfl (by kernel_rfl) (by kernel_rfl) (by kernel_rfl) (by kernel_rfl) (fun _ _ _ h => h) hHeld (by rfl) (fun w hSw => ?_) ?_
              rotate_left
              · obtain ⟨hSw1, hSw2⟩ := hSw; simp only [List.getElem_toArray, List.getElem_cons_zero, List.getElem_cons_succ]; go_simp; try rfl
              simp only [Act.put, List.getElem_toArray, List.getElem_cons_zero, List.getElem_cons_succ, List.setIfInBounds_toArray, List.set_cons_zero, List.set_cons_succ]
              refine z_take 10 (v := ?_) rfl (by kernel_rfl) (by kernel_rfl) (by kernel_rfl) (by kernel_rfl) (fun _ _ _ h => h) hHeld (by rfl) (fun w hSw => ?_) ?_
              rotate_left
              · obtain ⟨hSw1, hSw2⟩ := hSw; simp only [List.getElem_toArray, List.getElem_cons_zero, List.getElem_cons_succ]; go_simp; try rfl
              simp only [Act.put, List.getElem_toArray, List.getElem_cons_zero, List.getElem_cons_succ, List.setIfInBounds_toArray, List.set_cons_zero, List.set_cons_succ]
              refine z_take 11 (v := ?_) rfl (by kernel_rfl) (by kernel_rfl) (by kernel_rfl) (by kernel_rfl) (fun _ _ _ h => h) hHeld (by rfl) (fun w hSw => ?_) ?_
              rotate_left
              · obtain ⟨hSw1, hSw2⟩ := hSw; simp only [List.getElem_toArray, List.getElem_cons_zero, List.getElem_cons_succ]; go_simp; try rfl
              simp only [Act.put, List.getElem_toArray, List.getElem_cons_zero, List.getElem_cons_succ, List.setIfInBounds_toArray, List.set_cons_zero, List.set_cons_succ]
              refine z_take 12 (v := ?_) rfl (by kernel_rfl) (by kernel_rfl) (by kernel_rfl) (by kernel_rfl) (fun _ _ _ h => h) hHeld (by rfl) (fun w hSw => ?_) ?_
              rotate_left
              · obtain ⟨hSw1, hSw2⟩ := hSw; simp only [List.getElem_toArray, List.getElem_cons_zero, List.getElem_cons_succ]; go_simp; try rfl
              simp only [Act.put, List.getElem_toArray, List.getElem_cons_zero, List.getElem_cons_succ, List.setIfInBounds_toArray, List.set_cons_zero, List.set_cons_succ]
              refine z_take 13 (v := ?_) rfl (by kernel_rfl) (by kernel_rfl) (by kernel_rfl) (by kernel_rfl) (fun _ _ _ h => h) hHeld (by rfl) (fun w hSw => ?_) ?_
              rotate_left
              · obtain ⟨hSw1, hSw2⟩ := hSw; simp only [List.getElem_toArray, List.getElem_cons_zero, List.getElem_cons_succ]; go_simp; try rfl
              simp only [Act.put, List.getElem_toArray, List.getElem_cons_zero, List.getElem_cons_succ, List.setIfInBounds_toArray, List.set_cons_zero, List.set_cons_succ]
              refine z_one 14 rfl (by kernel_rfl) (by rfl) (fun K hK => ?_)
              simp only [List.getElem_toArray, List.getElem_cons_zero, List.getElem_cons_succ]
              go_simp
              have hc0 := cellAt HB.out 0
              simp at hc0
              refine (clear_ok p pd fr hf D _ v2 hc0 HE.out.1 HCR.out.1 HCR.out.2 (by have := HN.out; omega) (by have := HD.out.2.2; omega) HE.out.2.1 HE.out.1.lt).mono ?_
              have hnp2 := HE.out.2.1
              rintro e v3 ⟨rfl, F2, h1, h2, h3⟩
              refine hK _ _ (Or.inr ?_) (fun hHeld => ?_)
              · exact ⟨by rw [h2.cell (World.block_lt_of_cell? _ _ hHeld.1) hnp2]; exact hHeld.1, by rw [h2.cell (World.block_lt_of_cell? _ _ hHeld.2) hnp2]; exact hHeld.2⟩
              clear hK K hnp2 hc0
              replace HB := Lib.hid ((h2.block p (lt_of_heap HB.out) HE.out.2.1).trans HB.out)
              have b3' : ∀ k, F2 k → Fd k ∨ wr.heap.size ≤ k := fun k hf => (h3 k hf).elim (fun h => HE.out.2.2 k h) (fun h => Or.inr (by have := KG.out.size; omega))
              have np' : ¬ F2 p := fun hf => (b3' p hf).elim HPL.out.2 (fun h => by have := HPL.out.1; omega)
              replace KG := Lib.hid (KG.out.trans h2 (fun k hk hf => (HE.out.2.2 k hf).elim Or.inr (fun h => by omega)))
              replace HE := Lib.hid (And.intro h1 (And.intro np' b3'))
              clear h1 h2 h3 b3' np'
              replace hHeld := hHeld.resolve_left (by decide)
              try simp only [Act.put, List.setIfInBounds_toArray, List.set_cons_zero, List.set_cons_succ]
              refine z_one 15 rfl (by kernel_rfl) (by rfl) (fun K hK => ?_)
              simp only [List.getElem_toArray, List.getElem_cons_zero, List.getElem_cons_succ]
              go_simp
              refine hK _ _ (Or.inr hHeld) (fun _ => ?_)
              clear hK K
              try simp only [Act.put, List.setIfInBounds_toArray, List.set_cons_zero, List.set_cons_succ]
              refine z_done (by kernel_rfl) ?_ _
              clear hHeld
              obtain ⟨DA, hd_⟩ : ∃ d, D.zero fr hf = d := ⟨_, rfl⟩
              have HDA : Hid (D.zero fr hf = DA ∧ DA.cr = false ∧ DA.now.length = N ∧ DA.lo.length ≤ 570000) := Lib.hid ⟨hd_, by rw [← hd_, zero_cr]; exact HD.out.2.1, by rw [← hd_, zero_len _ _ _ HCR.out.2]; exact HN.out, by rw [← hd_, zero_lo]; have := HD.out.2.2; omega⟩
              clear hd_
              rw [HDA.out.1] at HE
              obtain ⟨DC, hd_⟩ : ∃ d, DA.zero a1 sz = d := ⟨_, rfl⟩
              have HDC : Hid (DA.zero a1 sz = DC ∧ DC.cr = false ∧ DC.now.length = N ∧ DC.lo.length ≤ 710000) := Lib.hid ⟨hd_, by rw [← hd_, zero_cr]; exact HDA.out.2.1, by rw [← hd_, zero_len _ _ _ (by rw [HDA.out.2.2.1]; omega)]; exact HDA.out.2.2.1, by rw [← hd_, zero_lo]; have := HDA.out.2.2.2; omega⟩
              clear hd_
              have HL0 : Hid (OpL wr p pd Fd #[.pointer (some ⟨pd, 0, none⟩), .int .i64 (half : Int), .int .i64 (fr : Int), .slice so rs.length co, .int .i64 (half : Int), .int .i64 (sz : Int), .int .u64 (u0 : Int), .slice s0 l0.length c0, .int .i64 (a1 : Int), .int .i64 (sz : Int), .int .u64 (u1 : Int), .slice s1 l1.length c1, .int .i64 0] #[.pointer (some ⟨pd, 0, none⟩), .int .i64 (half : Int), .int .i64 (fr : Int), .slice so rs.length co, .int .i64 (half : Int), .int .i64 (sz : Int), .int .u64 (u0 : Int), .slice s0 l0.length c0, .int .i64 (a1 : Int), .int .i64 (sz : Int), .int .u64 (u1 : Int), .slice s1 l1.length c1, .int .i64 0] #[.pointer (some ⟨pd, 0, none⟩), .int .i64 (half : Int), .int .i64 (fr : Int), .slice so rs.length co, .int .i64 (half : Int), .int .i64 (sz : Int), .int .u64 (u0 : Int), .slice s0 l0.length c0, .int .i64 (a1 : Int), .int .i64 (sz : Int), .int .u64 0, .slice none 0 0, .int .i64 0] DA DA DC (.int .i64 0) v3) := Lib.hid (Or.inl ⟨rfl, _, HB.out, HE.out.1, HE.out.2.1, HE.out.2.2, KG.out⟩)
              clear HB HE KG
              have tz : ((u0 : Int) == 0) = false := by simp; omega
              go_wp2_with fail
              go_loopw [182] (fun i wv => OpL wr p pd Fd #[.pointer (some ⟨pd, 0, none⟩), .int .i64 (half : Int), .int .i64 (fr : Int), .slice so rs.length co, .int .i64 (half : Int), .int .i64 (sz : Int), .int .u64 (u0 : Int), .slice s0 l0.length c0, .int .i64 (a1 : Int), .int .i64 (sz : Int), .int .u64 (u1 : Int), .slice s1 l1.length c1, .int .i64 0] #[.pointer (some ⟨pd, 0, none⟩), .int .i64 (half : Int), .int .i64 (fr : Int), .slice so rs.length co, .int .i64 (half : Int), .int .i64 (sz : Int), .int .u64 (u0 : Int), .slice s0 l0.length c0, .int .i64 (a1 : Int), .int .i64 (sz : Int), .int .u64 (u1 : Int), .slice s1 l1.length c1, .int .i64 0] #[.pointer (some ⟨pd, 0, none⟩), .int .i64 (half : Int), .int .i64 (fr : Int), .slice so rs.length co, .int .i64 (half : Int), .int .i64 (sz : Int), .int .u64 (u0 : Int), .slice s0 l0.length c0, .int .i64 (a1 : Int), .int .i64 (sz : Int), .int .u64 0, .slice none 0 0, .int .i64 0] DA DA DC i wv) (fun i _ => 2 - (intOf i).toNat)
              case atStart => exact HL0.out
              case round =>
                rename World => wv
                clear HL0
                rcases hrel with ⟨rfl, F2, hb, hd, hnp, hbd, hkg⟩ | ⟨rfl, F2, hb, hd, hnp, hbd, hkg⟩ | ⟨rfl, F2, hb, hd, hnp, hbd, hkg⟩
                · have HB := Lib.hid hb
                  have HE := Lib.hid (And.intro hd (And.intro hnp hbd))
                  have KG := Lib.hid hkg
                  clear hb hd hnp hbd hkg
                  have c12_ := cellAt HB.out 12
                  simp at c12_
                  have c6_ := cellAt HB.out 6
                  simp at c6_
                  go_wp2
                  clear c12_ c6_
                  go_roundw
                  case rel => exact Or.inr (Or.inl ⟨rfl, _, HB.out, HE.out.1, HE.out.2.1, HE.out.2.2, KG.out⟩)
                  case measure => simp [intOf]
                · have HB := Lib.hid hb
                  have HE := Lib.hid (And.intro hd (And.intro hnp hbd))
                  have KG := Lib.hid hkg
                  clear hb hd hnp hbd hkg
                  have c12_ := cellAt HB.out 12
                  simp at c12_
                  have e10_ := cellAt HB.out 10
                  have f10_ := freeAt HB.out 10
                  simp at e10_
                  obtain ⟨v41, hv41⟩ : ∃ v, wv.setCell ⟨p, 10, none⟩ (.int .u64 0) = v := ⟨_, rfl⟩
                  have hk : Keeps (fun k => k = p) wv v41 := by rw [← hv41]; exact (Keeps.refl (fun k => k = p) wv).setCell (p := ⟨p, 10, none⟩) (fun _ => rfl) _
                  replace HB : Hid (v41.heap[p]? = some (.cells #[.pointer (some ⟨pd, 0, none⟩), .int .i64 (half : Int), .int .i64 (fr : Int), .slice so rs.length co, .int .i64 (half : Int), .int .i64 (sz : Int), .int .u64 (u0 : Int), .slice s0 l0.length c0, .int .i64 (a1 : Int), .int .i64 (sz : Int), .int .u64 0, .slice s1 l1.length c1, .int .i64 0] 74 (0, 0))) := Lib.hid (by rw [← hv41, heap_setCell_at HB.out]; rfl)
                  replace KG := Lib.hid (KG.out.trans hk (fun k _ h => Or.inl h))
                  replace HE := Lib.hid (And.intro (HE.out.1.keep hk (fun k hf h => HE.out.2.1 (h ▸ hf))) HE.out.2)
                  clear hk
                  have e11_ := cellAt HB.out 11
                  have f11_ := freeAt HB.out 11
                  simp at e11_
                  obtain ⟨v42, hv42⟩ : ∃ v, v41.setCell ⟨p, 11, none⟩ (.slice none 0 0) = v := ⟨_, rfl⟩
                  have hk : Keeps (fun k => k = p) v41 v42 := by rw [← hv42]; exact (Keeps.refl (fun k => k = p) v41).setCell (p := ⟨p, 11, none⟩) (fun _ => rfl) _
                  replace HB : Hid (v42.heap[p]? = some (.cells #[.pointer (some ⟨pd, 0, none⟩), .int .i64 (half : Int), .int .i64 (fr : Int), .slice so rs.length co, .int .i64 (half : Int), .int .i64 (sz : Int), .int .u64 (u0 : Int), .slice s0 l0.length c0, .int .i64 (a1 : Int), .int .i64 (sz : Int), .int .u64 0, .slice none 0 0, .int .i64 0] 74 (0, 0))) := Lib.hid (by rw [← hv42, heap_setCell_at HB.out]; rfl)
                  replace KG := Lib.hid (KG.out.trans hk (fun k _ h => Or.inl h))
                  replace HE := Lib.hid (And.intro (HE.out.1.keep hk (fun k hf h => HE.out.2.1 (h ▸ hf))) HE.out.2)
                  clear hk
                  go_wp2_with fail
                  clear e10_ f10_ hv41 e11_ f11_ hv42
                  clear c12_
                  have c8_ := cellAt HB.out 8
                  simp at c8_
                  have c9_ := cellAt HB.out 9
                  simp at c9_
                  refine z_begin (fun w' => w'.cell? ⟨p, 8, none⟩ = some (.int .i64 (a1 : Int)) ∧ w'.cell? ⟨p, 9, none⟩ = some (.int .i64 (sz : Int))) 11 (by kernel_rfl) (⟨c8_, c9_⟩) (fun hHeld => ?_)
                  have hk : Keeps (fun _ => False) v42 (World.drew v42) := (Keeps.refl _ _).drew
                  replace HB := Lib.hid ((hk.block p (lt_of_heap HB.out) (fun h => h)).trans HB.out)
                  replace KG := Lib.hid (KG.out.quiet hk)
                  replace HE := Lib.hid (And.intro (HE.out.1.keep hk (fun _ _ h => h)) HE.out.2)
                  clear hk
                  generalize World.drew v42 = v43 at *
                  clear c8_ c9_
                  refine z_take 0 (v := ?_) rfl (by kernel_rfl) (by kernel_rfl) (by kernel_rfl) (by kernel_rfl) (fun _ _ _ h => h) hHeld (by rfl) (fun w hSw => ?_) ?_
                  rotate_left
                  · obtain ⟨hSw1, hSw2⟩ := hSw; simp only [List.getElem_toArray, List.getElem_cons_zero]; go_simp; try rfl
                  simp only [Act.put, List.getElem_toArray, List.getElem_cons_zero, List.setIfInBounds_toArray, List.set_cons_zero, List.set_cons_succ]
                  refine z_take 1 (v := ?_) rfl (by kernel_rfl) (by kernel_rfl) (by kernel_rfl) (by kernel_rfl) (fun _ _ _ h => h) hHeld (by rfl) (fun w hSw => ?_) ?_
                  rotate_left
                  · obtain ⟨hSw1, hSw2⟩ := hSw; simp only [List.getElem_toArray, List.getElem_cons_zero, List.getElem_cons_succ]; go_simp; try rfl
                  simp only [Act.put, List.getElem_toArray, List.getElem_cons_zero, List.getElem_cons_succ, List.setIfInBounds_toArray, List.set_cons_zero, List.set_cons_succ]
                  refine z_take 2 (v := ?_) rfl (by kernel_rfl) (by kernel_rfl) (by kernel_rfl) (by kernel_rfl) (fun _ _ _ h => h) hHeld (by rfl) (fun w hSw => ?_) ?_
                  rotate_left
                  · obtain ⟨hSw1, hSw2⟩ := hSw; simp only [List.getElem_toArray, List.getElem_cons_zero, List.getElem_cons_succ]; go_simp; try rfl
                  simp only [Act.put, List.getElem_toArray, List.getElem_cons_zero, List.getElem_cons_succ, List.setIfInBounds_toArray, List.set_cons_zero, List.set_cons_succ]
                  refine z_take 3 (v := ?_) rfl (by kernel_rfl) (by kernel_rfl) (by kernel_rfl) (by kernel_rfl) (fun _ _ _ h => h) hHeld (by rfl) (fun w hSw => ?_) ?_
                  rotate_left
                  · obtain ⟨hSw1, hSw2⟩ := hSw; simp only [List.getElem_toArray, List.getElem_cons_zero, List.getElem_cons_succ]; go_simp; try rfl
                  simp only [Act.put, List.getElem_toArray, List.getElem_cons_zero, List.getElem_cons_succ, List.setIfInBounds_toArray, List.set_cons_zero, List.set_cons_succ]
                  refine z_take 4 (v := ?_) rfl (by kernel_rfl) (by kernel_rfl) (by kernel_rfl) (by kernel_rfl) (fun _ _ _ h => h) hHeld (by rfl) (fun w hSw => ?_) ?_
                  rotate_left
                  · obtain ⟨hSw1, hSw2⟩ := hSw; simp only [List.getElem_toArray, List.getElem_cons_zero, List.getElem_cons_succ]; go_simp; try rfl
                  simp only [Act.put, List.getElem_toArray, List.getElem_cons_zero, List.getElem_cons_succ, List.setIfInBounds_toArray, List.set_cons_zero, List.set_cons_succ]
                  refine z_take 5 (v := ?_) rfl (by kernel_rfl) (by kernel_rfl) (by kernel_rfl) (by kernel_rfl) (fun _ _ _ h => h) hHeld (by rfl) (fun w hSw => ?_) ?_
                  rotate_left
                  · obtain ⟨hSw1, hSw2⟩ := hSw; simp only [List.getElem_toArray, List.getElem_cons_zero, List.getElem_cons_succ]; go_simp; try rfl
                  simp only [Act.put, List.getElem_toArray, List.getElem_cons_zero, List.getElem_cons_succ, List.setIfInBounds_toArray, List.set_cons_zero, List.set_cons_succ]
                  refine z_take 6 (v := ?_) rfl (by kernel_rfl) (by kernel_rfl) (by kernel_rfl) (by kernel_rfl) (fun _ _ _ h => h) hHeld (by rfl) (fun w hSw => ?_) ?_
                  rotate_left
                  · obtain ⟨hSw1, hSw2⟩ := hSw; simp only [List.getElem_toArray, List.getElem_cons_zero, List.getElem_cons_succ]; go_simp; try rfl
                  simp only [Act.put, List.getElem_toArray, List.getElem_cons_zero, List.getElem_cons_succ, List.setIfInBounds_toArray, List.set_cons_zero, List.set_cons_succ]
                  refine z_take 7 (v := ?_) rfl (by kernel_rfl) (by kernel_rfl) (by kernel_rfl) (by kernel_rfl) (fun _ _ _ h => h) hHeld (by rfl) (fun w hSw => ?_) ?_
                  rotate_left
                  · obtain ⟨hSw1, hSw2⟩ := hSw; simp only [List.getElem_toArray, List.getElem_cons_zero, List.getElem_cons_succ]; go_simp; try rfl
                  simp only [Act.put, List.getElem_toArray, List.getElem_cons_zero, List.getElem_cons_succ, List.setIfInBounds_toArray, List.set_cons_zero, List.set_cons_succ]
                  refine z_take 8 (v := ?_) rfl (by kernel_rfl) (by kernel_rfl) (by kernel_rfl) (by kernel_rfl) (fun _ _ _ h => h) hHeld (by rfl) (fun w hSw => ?_) ?_
                  rotate_left
                  · obtain ⟨hSw1, hSw2⟩ := hSw; simp only [List.getElem_toArray, List.getElem_cons_zero, List.getElem_cons_succ]; go_simp; try rfl
                  simp only [Act.put, List.getElem_toArray, List.getElem_cons_zero, List.getElem_cons_succ, List.setIfInBounds_toArray, List.set_cons_zero, List.set_cons_succ]
                  refine z_one 9 rfl (by kernel_rfl) (by rfl) (fun K hK => ?_)
                  simp only [List.getElem_toArray, List.getElem_cons_zero, List.getElem_cons_succ]
                  go_simp
                  have hc0 := cellAt HB.out 0
                  simp at hc0
                  refine (clear_ok p pd a1 sz DA _ v43 hc0 HE.out.1 HDA.out.2.1 (by rw [HDA.out.2.2.1]; omega) (by rw [HDA.out.2.2.1]; omega) (by have := HDA.out.2.2.2; omega) HE.out.2.1 HE.out.1.lt).mono ?_
                  have hnp2 := HE.out.2.1
                  rintro e v44 ⟨rfl, F2, h1, h2, h3⟩
                  refine hK _ _ (Or.inr ?_) (fun hHeld => ?_)
                  · exact ⟨by rw [h2.cell (World.block_lt_of_cell? _ _ hHeld.1) hnp2]; exact hHeld.1, by rw [h2.cell (World.block_lt_of_cell? _ _ hHeld.2) hnp2]; exact hHeld.2⟩
                  clear hK K hnp2 hc0
                  replace HB := Lib.hid ((h2.block p (lt_of_heap HB.out) HE.out.2.1).trans HB.out)
                  have b3' : ∀ k, F2 k → Fd k ∨ wr.heap.size ≤ k := fun k hf => (h3 k hf).elim (fun h => HE.out.2.2 k h) (fun h => Or.inr (by have := KG.out.size; omega))
                  have np' : ¬ F2 p := fun hf => (b3' p hf).elim HPL.out.2 (fun h => by have := HPL.out.1; omega)
                  replace KG := Lib.hid (KG.out.trans h2 (fun k hk hf => (HE.out.2.2 k hf).elim Or.inr (fun h => by omega)))
                  replace HE := Lib.hid (And.intro h1 (And.intro np' b3'))
                  clear h1 h2 h3 b3' np'
                  replace hHeld := hHeld.resolve_left (by decide)
                  try simp only [Act.put, List.setIfInBounds_toArray, List.set_cons_zero, List.set_cons_succ]
                  refine z_one 10 rfl (by kernel_rfl) (by rfl) (fun K hK => ?_)
                  simp only [List.getElem_toArray, List.getElem_cons_zero, List.getElem_cons_succ]
                  go_simp
                  refine hK _ _ (Or.inr hHeld) (fun _ => ?_)
                  clear hK K
                  try simp only [Act.put, List.setIfInBounds_toArray, List.set_cons_zero, List.set_cons_succ]
                  refine z_done (by kernel_rfl) ?_ _
                  clear hHeld
                  rw [HDC.out.1] at HE
                  go_wp2
                  go_roundw
                  case rel => exact Or.inr (Or.inr ⟨rfl, _, HB.out, HE.out.1, HE.out.2.1, HE.out.2.2, KG.out⟩)
                  case measure => simp [intOf]
                · have HB := Lib.hid hb
                  have HE := Lib.hid (And.intro hd (And.intro hnp hbd))
                  have KG := Lib.hid hkg
                  clear hb hd hnp hbd hkg
                  have HS := Lib.hid (sync_ok pd DC F2 wv HE.out.1 HDC.out.2.1)
                  go_wp2_with fail
                  refine HS.out.mono ?_
                  rintro e v90 ⟨rfl, F2, h1, h2, h3⟩
                  clear HS
                  replace HB := Lib.hid ((h2.block p (lt_of_heap HB.out) HE.out.2.1).trans HB.out)
                  have b3' : ∀ k, F2 k → Fd k ∨ wr.heap.size ≤ k := fun k hf => (h3 k hf).elim (fun h => HE.out.2.2 k h) (fun h => Or.inr (by have := KG.out.size; omega))
                  have np' : ¬ F2 p := fun hf => (b3' p hf).elim HPL.out.2 (fun h => by have := HPL.out.1; omega)
                  replace KG := Lib.hid (KG.out.trans h2 (fun k hk hf => (HE.out.2.2 k hf).elim Or.inr (fun h => by omega)))
                  replace HE := Lib.hid (And.intro h1 (And.intro np' b3'))
                  clear h1 h2 h3 b3' np'
                  go_wp2
                  go_ret2
                  have hDN := HN.out
                  have heq := openS_ge (D := D) (half := half) (sz := sz) (fr := fr) (a1 := a1) (u0 := u0) (u1 := u1) (rs := rs) (l0 := l0) (l1 := l1) (by rw [hDN]; exact hhalf) (by rw [hDN]; exact HQ.out.2.2.2) HQ.out.2.2.1 (by rw [HLL.out.1]; exact HX4.out.2.2.2.2) HQ.out.1 HQ.out.2.1 hlt hu
                  rw [hhf, HDA.out.1, HDC.out.1] at heq
                  have hb := HB.out
                  rw [← HQ.out.2.2.1] at hb
                  have pf0 := plOf_facts D.now half sz
                  have pf1 := plOf_facts D.now a1 sz
                  rw [HQ.out.1] at pf0
                  rw [HQ.out.2.1] at pf1
                  dsimp only at pf0 pf1
                  obtain ⟨F, R, g1, g2, g3, g4⟩ := open_end (N := N) (half := half) (sz := sz) (fr := fr) (now := 0) (turn := u0) (keys := l0) (sk := s0) (ck := c0) (l := l) heq HDC.out.2.2.1 hhalf HQ.out.2.2.2 hD HX4.out.2.2.2.2 HLL.out.2.1 HD.out.1.lt HLL.out.2.2.2.1 HPL.out.1 HROW.out.1 HROW.out.2 (own_base HOW.out.1 (fun k e => Nat.le_trans hsw (own_lt HOW.out.1 (form_own HOW.out.1 e)).1)) HKW.out KG.out HE.out.1 HE.out.2.1 HE.out.2.2 hb (by omega) (fun h => by omega) pf0.2.2 pf0.1 pf0.2.1
                  exact ⟨p, F, R, rfl, g1, g2, g3, g4⟩
    · obtain ⟨hm1, hm2, _, hm4⟩ := parse_some hsome
      have hyl : y.length = n2 := by have := hsy.len; simpa using this
      obtain ⟨k2, hk2⟩ : ∃ k2, k = k2 + 1 := ⟨k - 1, by have := HR.out.2.2.2.2.1; have := HFR.out.2.1; omega⟩
      have heq2 : ((rs ++ [y]) ++ (recsF l k2 fr2).1, (recsF l k2 fr2).2) = recsOf l := by
        have := HR.out.2.2.2.2.2.1
        rw [hk2, recsF_some l k2 fr hsome] at this
        rw [List.append_assoc]
        exact this
      have HY := Lib.hid (And.intro hm1 (And.intro hm2 (And.intro hyl (And.intro hk2 (And.intro heq2 (show half < fr2 + k2 by have := HR.out.2.2.2.2.1; omega))))))
      have hn2 : n2 ≤ 65535 := by omega
      have hr100 : rs.length ≤ 10000 := by have h1 := HR.out.2.2.2.2.2.2; have h2 := HFR.out.2.1; omega
      have hten2 : 10 * (rs.length + 1) ≤ fr2 := by have := HR.out.2.2.2.2.2.2; omega
      have hfar2 : half - fr2 < half - farOf wr (p + 2) := by rw [HFR.out.1]; have := HLL.out.2.1; omega
      have HM := Lib.hid (And.intro hten2 hfar2)
      have HX := Lib.hid (And.intro hbp4 (And.intro hown4 (And.intro hrows4 (And.intro hkp4 (And.intro hr2 hsy)))))
      have HSZ := Lib.hid hk4.size
      have hszw : p + 3 ≤ w4.heap.size := by have := hkp4.size; have := HLL.out.2.2.2.2; omega
      have c3 := cellAt hbp4 3
      have c3f := freeAt hbp4 3
      simp at c3
      clear hbp4 hown4 hrows4 hkp4 hr2 hsy hsx hk4 hsome hm1 hm2 hm4 hyl hk2 heq2 hten2 hfar2
      go_wp2_with fail
      refine z_begin (fun w' => w'.cell? ⟨p, 3, none⟩ = some (.slice so rs.length co) ∧ w'.frozen? ⟨p, 3, none⟩ = false) 11 (by kernel_rfl) (⟨c3, c3f⟩) (fun hHeld => ?_)
      have hk : Keeps (fun _ => False) w4 (World.drew w4) := (Keeps.refl _ _).drew
      have HK0 := Lib.hid hk
      clear hk c3 c3f
      generalize World.drew w4 = u0 at *
      refine z_take 0 (v := ?_) rfl (by kernel_rfl) (by kernel_rfl) (by kernel_rfl) (by kernel_rfl) (fun _ _ _ h => h) hHeld (by rfl) (fun w hSw => ?_) ?_
      rotate_left
      · obtain ⟨hSw1, hSw2⟩ := hSw; simp only [List.getElem_toArray, List.getElem_cons_zero]; go_simp; try rfl
      simp only [Act.put, List.getElem_toArray, List.getElem_cons_zero, List.setIfInBounds_toArray, List.set_cons_zero, List.set_cons_succ]
      refine z_take 1 (v := ?_) rfl (by kernel_rfl) (by kernel_rfl) (by kernel_rfl) (by kernel_rfl) (fun _ _ _ h => h) hHeld (by rfl) (fun w hSw => ?_) ?_
      rotate_left
      · obtain ⟨hSw1, hSw2⟩ := hSw; simp only [List.getElem_toArray, List.getElem_cons_zero, List.getElem_cons_succ]; go_simp; try rfl
      simp only [Act.put, List.getElem_toArray, List.getElem_cons_zero, List.getElem_cons_succ, List.setIfInBounds_toArray, List.set_cons_zero, List.set_cons_succ]
      refine z_take 2 (v := ?_) rfl (by kernel_rfl) (by kernel_rfl) (by kernel_rfl) (by kernel_rfl) (fun _ _ _ h => h) hHeld (by rfl) (fun w hSw => ?_) ?_
      rotate_left
      · obtain ⟨hSw1, hSw2⟩ := hSw; simp only [List.getElem_toArray, List.getElem_cons_zero, List.getElem_cons_succ]; go_simp; try rfl
      simp only [Act.put, List.getElem_toArray, List.getElem_cons_zero, List.getElem_cons_succ, List.setIfInBounds_toArray, List.set_cons_zero, List.set_cons_succ]
      refine z_take 3 (v := ?_) rfl (by kernel_rfl) (by kernel_rfl) (by kernel_rfl) (by kernel_rfl) (fun _ _ _ h => h) hHeld (by rfl) (fun w hSw => ?_) ?_
      rotate_left
      · obtain ⟨hSw1, hSw2⟩ := hSw; simp only [List.getElem_toArray, List.getElem_cons_zero, List.getElem_cons_succ]; go_simp; try rfl
      simp only [Act.put, List.getElem_toArray, List.getElem_cons_zero, List.getElem_cons_succ, List.setIfInBounds_toArray, List.set_cons_zero, List.set_cons_succ]
      refine z_take 4 (v := ?_) rfl (by kernel_rfl) (by kernel_rfl) (by kernel_rfl) (by kernel_rfl) (fun _ _ _ h => h) hHeld (by rfl) (fun w hSw => ?_) ?_
      rotate_left
      · obtain ⟨hSw1, hSw2⟩ := hSw; simp only [List.getElem_toArray, List.getElem_cons_zero, List.getElem_cons_succ]; go_simp; try rfl
      simp only [Act.put, List.getElem_toArray, List.getElem_cons_zero, List.getElem_cons_succ, List.setIfInBounds_toArray, List.set_cons_zero, List.set_cons_succ]
      refine z_take 5 (v := ?_) rfl (by kernel_rfl) (by kernel_rfl) (by kernel_rfl) (by kernel_rfl) (fun _ _ _ h => h) hHeld (by rfl) (fun w hSw => ?_) ?_
      rotate_left
      · obtain ⟨hSw1, hSw2⟩ := hSw; simp only [List.getElem_toArray, List.getElem_cons_zero, List.getElem_cons_succ]; go_simp; try rfl
      simp only [Act.put, List.getElem_toArray, List.getElem_cons_zero, List.getElem_cons_succ, List.setIfInBounds_toArray, List.set_cons_zero, List.set_cons_succ]
      refine z_one 6 rfl (by kernel_rfl) (by rfl) (fun K hK => ?_)
      simp only [List.getElem_toArray, List.getElem_cons_zero, List.getElem_cons_succ]
      go_simp
      refine (clone_any s2 n2 c2 y u0 (HX.out.2.2.2.2.2.quiet HK0.out) (by omega)).mono ?_
      rintro e u1 ⟨sc_, cc, rfl, hown, hk⟩
      have HC := Lib.hid (And.intro hown hk)
      refine hK _ _ (Or.inr ?_) (fun hHeld => ?_)
      · refine ⟨sc hk hHeld.1, ?_⟩
        rw [hk.frozen (World.block_lt_of_cell? _ _ hHeld.1) (fun h => h)]; exact hHeld.2
      clear hK K hk hown
      replace hHeld := hHeld.resolve_left (by decide)
      try simp only [Act.put, List.setIfInBounds_toArray, List.set_cons_zero, List.set_cons_succ]
      refine z_one 7 rfl (by kernel_rfl) (by rfl) (fun K hK => ?_)
      simp only [List.getElem_toArray, List.getElem_cons_zero, List.getElem_cons_succ]
      go_simp
      have hk : Keeps (fun _ => False) u1 (u1.alloc (.cells #[.slice sc_ n2 cc] 23)) := (Keeps.refl _ u1).alloc _
      refine hK _ _ (Or.inr ?_) (fun hHeld => ?_)
      · refine ⟨sc hk hHeld.1, ?_⟩
        rw [hk.frozen (World.block_lt_of_cell? _ _ hHeld.1) (fun h => h)]; exact hHeld.2
      clear hK K hk
      replace hHeld := hHeld.resolve_left (by decide)
      try simp only [Act.put, List.setIfInBounds_toArray, List.set_cons_zero, List.set_cons_succ]
      refine z_one 8 rfl (by kernel_rfl) (by rfl) (fun K hK => ?_)
      simp only [List.getElem_toArray, List.getElem_cons_zero, List.getElem_cons_succ]
      have hown1 : u1.ownsRow (p + 3) 23 1 (.slice so rs.length co) rs.length vs := own_keep (own_keep HX.out.2.1 HK0.out (fun _ _ h => h)) HC.out.2 (fun _ _ h => h)
      refine wp_pushV u1 sc_ n2 cc (.tmp 66) (.tmp 69) rfl (p + 3) so rs.length co vs rfl hown1 rfl (by omega) (by have h1 := HK0.out.size; have h2 := HC.out.2.size; omega) ?_
      intro s5 cap5 u3 hown2 hk2 hat
      have hpo : ¬ (so = some ⟨p, 0, none⟩) := fun e => by have := (own_lt HX.out.2.1 e).1; omega
      have HA2 := Lib.hid (And.intro hown2 (And.intro hk2 hat))
      have hpu : p < u1.heap.size := by have h1 := HK0.out.size; have h2 := HC.out.2.size; omega
      have h1c : u1.cell? ⟨p, 3, none⟩ = some (.slice so rs.length co) := by
        have := hHeld.1
        rw [World.cell?_of_block (w := u1) (Below.heap_alloc _ _ _ (by show p < _; omega))] at this
        exact this
      have h1f : u1.frozen? ⟨p, 3, none⟩ = false := by
        have := hHeld.2
        rw [World.frozen?_of_block (w := u1) (Below.heap_alloc _ _ _ (by show p < _; omega))] at this
        exact this
      refine hK _ _ (Or.inr ?_) (fun hHeld => ?_)
      · exact ⟨by rw [hk2.cell (World.block_lt_of_cell? _ _ h1c) hpo]; exact h1c, by rw [hk2.frozen (World.block_lt_of_cell? _ _ h1c) hpo]; exact h1f⟩
      clear hK K hown1 hown2 hk2 hat hpo h1c h1f hpu
      replace hHeld := hHeld.resolve_left (by decide)
      try simp only [Act.put, List.setIfInBounds_toArray, List.set_cons_zero, List.set_cons_succ]
      refine z_one 9 rfl (by kernel_rfl) (by rfl) (fun K hK => ?_)
      simp only [List.getElem_toArray, List.getElem_cons_zero, List.getElem_cons_succ]
      go_simp
      refine hK _ _ (Or.inr ?_) (fun hHeld => ?_)
      · exact hHeld
      clear hK K
      replace hHeld := hHeld.resolve_left (by decide)
      try simp only [Act.put, List.setIfInBounds_toArray, List.set_cons_zero, List.set_cons_succ]
      refine z_one 10 rfl (by kernel_rfl) (by rfl) (fun K hK => ?_)
      simp only [List.getElem_toArray, List.getElem_cons_zero, List.getElem_cons_succ]
      go_simp
      refine hK _ _ (Or.inr ?_) (fun hHeld => ?_)
      · exact hHeld
      clear hK K
      replace hHeld := hHeld.resolve_left (by decide)
      try simp only [Act.put, List.setIfInBounds_toArray, List.set_cons_zero, List.set_cons_succ]
      refine z_one 11 rfl (by kernel_rfl) (by rfl) (fun K hK => ?_)
      simp only [List.getElem_toArray, List.getElem_cons_zero, List.getElem_cons_succ]
      obtain ⟨g3, g3f⟩ := hHeld
      go_simp
      refine hK _ _ (Or.inl rfl) (fun _ => ?_)
      clear hK K
      try simp only [Act.put, List.setIfInBounds_toArray, List.set_cons_zero, List.set_cons_succ]
      refine z_done (by kernel_rfl) ?_ _
      have hHeld := True.intro
      obtain ⟨x1, hx1⟩ : ∃ v, u3.setCell ⟨p, 3, none⟩ (.slice s5 (rs.length + 1) cap5) = v := ⟨_, rfl⟩
      have hk13 : Keeps (fun k => k = p) u3 x1 := by rw [← hx1]; exact (Keeps.refl (fun k => k = p) u3).setCell (p := ⟨p, 3, none⟩) (fun _ => rfl) _
      have hlow : ∀ k, so = some ⟨k, 0, none⟩ → p + 3 ≤ k := fun k e => (own_lt HX.out.2.1 e).1
      have kq : Keeps (fun _ => False) w4 u1 := HK0.out.quiet HC.out.2
      have hbx3 : u3.heap[p]? = some (.cells #[.pointer (some ⟨pd, 0, none⟩), .int .i64 (half : Int), .int .i64 (fr : Int), .slice so rs.length co, .int .i64 0, .int .i64 0, .int .u64 0, .slice none 0 0, .int .i64 0, .int .i64 0, .int .u64 0, .slice none 0 0, .int .i64 0] 74 (0, 0)) :=
        (HA2.out.2.1.block p (by have := kq.size; omega) (fun e => by have := hlow p e; omega)).trans ((kq.block p (by omega) (fun h => h)).trans HX.out.1)
      have hbx1 : x1.heap[p]? = some (.cells #[.pointer (some ⟨pd, 0, none⟩), .int .i64 (half : Int), .int .i64 (fr : Int), .slice s5 (rs.length + 1) cap5, .int .i64 0, .int .i64 0, .int .u64 0, .slice none 0 0, .int .i64 0, .int .i64 0, .int .u64 0, .slice none 0 0, .int .i64 0] 74 (0, 0)) := by rw [← hx1, heap_setCell_at hbx3]; rfl
      have hrd1 : RdAt x1 (p + 1) (p + 2) ga 0 half ca l fr2 := by
        have hg := HLL.out.2.2.1
        exact (((HX.out.2.2.2.2.1).quiet kq).keep HA2.out.2.1 (fun e => by have := hlow _ e; omega) (fun e => by have := hlow _ e; omega) (fun e => by have := hlow _ e; omega)).keep hk13 (by omega) (by omega) (by omega)
      have d2 := cellAt hbx1 2
      have d2f := freeAt hbx1 2
      simp at d2
      obtain ⟨x2, hx2⟩ : ∃ v, x1.setCell ⟨p, 2, none⟩ (.int .i64 (fr2 : Int)) = v := ⟨_, rfl⟩
      have hk12 : Keeps (fun k => k = p) x1 x2 := by rw [← hx2]; exact (Keeps.refl (fun k => k = p) x1).setCell (p := ⟨p, 2, none⟩) (fun _ => rfl) _
      have HAT := Lib.hid (at_any (p + 2) fr2 x1 hrd1.far)
      have HNEW : Hid (OpA w3 l half p pd (p + 1) (p + 2) ga ca (p + 3) x2 ∧ farOf x2 (p + 2) = fr2) := by
        have hg := HLL.out.2.2.1
        have hrd2 := hrd1.keep hk12 (by omega) (by omega) (by omega)
        have hcl := HC.out.1
        have hs0 := HK0.out.size
        have hcl2 := own_keep hcl HA2.out.2.1 (fun k e h => by
          have h1 := (hcl.lt k e).1
          have h2 := (own_lt HX.out.2.1 h).2
          omega)
        have hsn := ((HX.out.2.2.1.quiet kq).snoc HY.out.2.2.1 hcl (by omega) (fun i v kk hv e => by have := (HX.out.2.2.1.lt hv e).2.1; omega))
        have hsn3 := hsn.keep HA2.out.2.1 (fun kk _ _ => by
          rintro ⟨i, v, hv, ev⟩ e2
          have hob := own_keep HX.out.2.1 kq (fun _ _ h => h)
          exact hsn.apartOuter hob hv ev e2)
        have hk2' : Keeps (fun k => k = p) u3 x2 := hk13.trans hk12 (fun _ _ h => h)
        refine ⟨⟨fr2, k2, rs ++ [y], s5, cap5, vs ++ [.slice sc_ n2 cc], hrd2, ?_, ?_, hsn3.keep hk2' (fun k h _ _ e => by omega), ?_, HY.out.2.2.2.2.2, HY.out.2.2.2.2.1, ?_⟩, farOf_at hrd2.far⟩
        · rw [← hx2, heap_setCell_at hbx1, List.length_append]; rfl
        · have := own_keep HA2.out.1 hk2' (fun k e h => by have := (HA2.out.1.lt k e).1; omega)
          rw [List.length_append]
          exact this
        · exact ((((HX.out.2.2.2.1).trans kq (fun _ _ h => h.elim)).trans HA2.out.2.1 (fun k hk e => by have := hlow k e; have := HLL.out.2.2.2.2; omega)).trans hk2' (fun k _ h => Or.inr h))
        · rw [List.length_append]; exact HM.out.1
      rw [hx1]
      clear hHeld hx1 hk13 hlow kq hbx3 hbx1 hk12 hrd1
      go_wp2_with fail
      refine HAT.out.mono ?_
      rintro e _ ⟨rfl, rfl⟩
      clear HAT
      go_wp2
      go_roundw
      case rel => exact HNEW.out.1
      case measure => rw [HNEW.out.2]; exact HM.out.2
end Go.Proofs.Ytpojkhjenbbodaa
