/-
  The walk of the law DiskSure: it returns true, and nothing that was there has turned. Conditions: the arguments are as Go has them.
-/
import Derived.Test.YtllfiplhfbbhaaaPlain28
import Derived.Test.YtllfiplhfbbhaaaRegion
namespace Go.Proofs.Ytllfiplhfbbhaaa
open Go.RowKit
attribute [local go_sem ↓] Go.wp_at_zero Go.wp_at_succ

/-- Numbers as cells. -/
def IV (l : List Int) : List Value := l.map (Value.int .i64)
theorem IV_length (l : List Int) : (IV l).length = l.length := by simp [IV]
theorem IV_append (a b : List Int) : IV (a ++ b) = IV a ++ IV b := by simp [IV]

structure IRow (w0 w : World) (v : Value) (n : Nat) (l : List Int) (F : Nat → Prop) : Prop where
  own : w.ownsRow w0.heap.size 3 1 v n (IV l)
  ap : ∀ k, v.ownBlock = some k → ¬ F k

theorem IRow.step {w0 w w' : World} {v : Value} {n : Nat} {l : List Int} {F F' : Nat → Prop} (h : IRow w0 w v n l F) (hk : Keeps F w w') (hs : Sub w F F') : IRow w0 w' v n l F' :=
  ⟨own_keep h.own hk h.ap, fun k e hf => by
    rcases hs k hf with h1 | h1
    · exact h.ap k e h1
    · have := (h.own.lt k e).2; omega⟩
theorem IRow.quiet {w0 w w' : World} {v : Value} {n : Nat} {l : List Int} {F : Nat → Prop} (h : IRow w0 w v n l F) (hk : Keeps (fun _ => False) w w') : IRow w0 w' v n l F := ⟨own_keep h.own hk (fun _ _ h => h), h.ap⟩

def wrAll (D : DS) (lo : List UInt8) (ps : List Nat) : DS := ps.foldl (fun D p => D.write p lo) D
theorem wrAll_snoc (D : DS) (lo : List UInt8) (ps : List Nat) (p : Nat) : wrAll D lo (ps ++ [p]) = (wrAll D lo ps).write p lo := by simp [wrAll]
theorem wrAll_ok {D : DS} {n L : Nat} (h : D.Ok n L) (lo : List UInt8) (ps : List Nat) (hp : ∀ p ∈ ps, p + lo.length ≤ n) : (wrAll D lo ps).Ok n (L + lo.length * ps.length) := by
  induction ps generalizing D L with
  | nil => exact Ok_mono h (by omega)
  | cons p ps ih =>
    have h1 := ih (write_okD h (hp p (List.mem_cons_self ..))) (fun q hq => hp q (List.mem_cons_of_mem _ hq))
    refine Ok_mono h1 ?_
    rw [List.length_cons, Nat.mul_add, Nat.mul_one]
    omega
theorem wrAll_lo' (D : DS) (lo : List UInt8) (ps : List Nat) : (wrAll D lo ps).lo = D.lo ++ ps.flatMap (fun p => mkLo p lo) ∧ (wrAll D lo ps).sure = D.sure := by
  induction ps generalizing D with
  | nil => simp [wrAll]
  | cons p ps ih =>
    have h := ih (D.write p lo)
    refine ⟨?_, h.2⟩
    show (wrAll (D.write p lo) lo ps).lo = _
    rw [h.1]
    simp [DS.write]
theorem wrAll_lo (D : DS) (lo : List UInt8) (ps : List Nat) : (wrAll D lo ps).lo.length = D.lo.length + lo.length * ps.length := by
  rw [(wrAll_lo' D lo ps).1, List.length_append]
  congr 1
  induction ps with
  | nil => simp
  | cons p ps ih => simp only [List.flatMap_cons, List.length_append, mkLo_length, ih, List.length_cons, Nat.mul_add]; omega

def plAll (m : Nat) (ps : List Nat) : List Int := ps.flatMap fun p => (List.range m).map fun j => ((p + j : Nat) : Int)
theorem plAll_snoc (m : Nat) (ps : List Nat) (p : Nat) : plAll m (ps ++ [p]) = plAll m ps ++ (List.range m).map (fun j => ((p + j : Nat) : Int)) := by simp [plAll]
theorem foldl_putLo (l : List (Nat × UInt8)) (s : List UInt8) (j : Nat) : (l.foldl putLo s)[j]? = s[j]? ∨ ∃ x ∈ l, x.1 = j := by
  induction l generalizing s with
  | nil => exact Or.inl rfl
  | cons x l ih =>
    rcases ih (putLo s x) with h | ⟨y, hy, hj⟩
    · by_cases e : x.1 = j
      · exact Or.inr ⟨x, List.mem_cons_self .., e⟩
      · left
        rw [List.foldl_cons, h]
        simp only [putLo]
        rw [List.getElem?_set_ne e]
    · exact Or.inr ⟨y, List.mem_cons_of_mem _ hy, hj⟩
/-- What was sure is there behind a crash, at each place that was not written since. -/
theorem sure_at (D : DS) (lo : List UInt8) (ps : List Nat) (k : Int) (m : Nat) (hm : lo.length = m) (hlo : D.lo = []) (hsu : D.sure = D.now) (j : Nat) :
    ((wrAll D lo ps).crash k).now[j]? = D.now[j]? ∨ hasB (plAll m ps) j = true := by
  show ((wrAll D lo ps).left _)[j]? = _ ∨ _
  unfold DS.left
  rw [(wrAll_lo' D lo ps).1, (wrAll_lo' D lo ps).2, hlo, hsu, List.nil_append]
  rcases foldl_putLo ((ps.flatMap fun p => mkLo p lo).take (leftNat k (ps.flatMap fun p => mkLo p lo).length)) D.now j with h | ⟨x, hx, hj⟩
  · exact Or.inl h
  · right
    have hx' := List.mem_of_mem_take hx
    obtain ⟨p, hp, hx2⟩ := List.mem_flatMap.1 hx'
    simp only [mkLo, List.mem_map] at hx2
    obtain ⟨y, hy, rfl⟩ := hx2
    have hlt := List.snd_lt_of_mem_zipIdx hy
    simp only [hasB, List.any_eq_true]
    refine ⟨(j : Int), ?_, by simp⟩
    simp only [plAll, List.mem_flatMap, List.mem_map, List.mem_range]
    exact ⟨p, hp, y.2, by omega, by rw [← hj]⟩

/-- What holds at the head of each round of the outer loop. -/
def SRel (w0 : World) (x : Nat) (D : DS) (lo : List UInt8) (so : Option Addr) (m co : Nat) (vs pl i : Value) (wr : World) : Prop :=
  ∃ (k : Nat) (ps : List Nat) (F : Nat → Prop) (spl : Option Addr) (cpl : Nat), k ≤ 2 ∧ i = .int .i64 k ∧ pl = .slice spl (m * k) cpl ∧ ps.length = k ∧ One w0 wr x (wrAll D lo ps) F ∧ Row wr (.slice so m co) m lo F ∧ Row wr vs 40 D.now F ∧
    IRow w0 wr (.slice spl (m * k) cpl) (m * k) (plAll m ps) F ∧ (∀ p ∈ ps, p + lo.length ≤ 40)

/-- What holds at the head of each round of the inner loop. -/
def PlRel (w0 w2 : World) (l : List Int) (mi p m : Nat) (spl : Option Addr) (F : Nat → Prop) (pl k : Value) (wr : World) : Prop :=
  ∃ (q : Nat) (sq : Option Addr) (cq : Nat), q ≤ m ∧ k = .int .i64 q ∧ pl = .slice sq (mi + q) cq ∧ IRow w0 wr (.slice sq (mi + q) cq) (mi + q) (l ++ (List.range q).map (fun j => ((p + j : Nat) : Int))) F ∧
    Keeps (fun j => spl = some ⟨j, 0, none⟩) w2 wr ∧ (∀ j, sq = some ⟨j, 0, none⟩ → spl = some ⟨j, 0, none⟩ ∨ w2.heap.size ≤ j)

theorem plrel_step {w0 w2 wr w3 : World} {l : List Int} {mi p m q : Nat} {spl sq : Option Addr} {cq : Nat} {F : Nat → Prop} {X : Obj} {sa3 : Option Addr} {cap3 : Nat} (hq : q + 1 ≤ m)
    (hir : IRow w0 wr (.slice sq (mi + q) cq) (mi + q) (l ++ (List.range q).map (fun j => ((p + j : Nat) : Int))) F) (hk : Keeps (fun j => spl = some ⟨j, 0, none⟩) w2 wr) (hsq : ∀ j, sq = some ⟨j, 0, none⟩ → spl = some ⟨j, 0, none⟩ ∨ w2.heap.size ≤ j) (hF : ∀ k, F k → k < w2.heap.size)
    (hown : w3.ownsRow w0.heap.size 3 1 (.slice sa3 (mi + q + 1) cap3) (mi + q + 1) (IV (l ++ (List.range q).map (fun j => ((p + j : Nat) : Int))) ++ [.int .i64 ((p : Int) + q)])) (hg : (wr.alloc X).grownBy w3 (Value.ownBlock (.slice sq (mi + q) cq)))
    (hat : Value.ownBlock (.slice sa3 (mi + q + 1) cap3) = Value.ownBlock (.slice sq (mi + q) cq) ∨ Value.ownBlock (.slice sa3 (mi + q + 1) cap3) = some (wr.alloc X).heap.size) :
    PlRel w0 w2 l mi p m spl F (.slice sa3 (mi + q + 1) cap3) (.int .i64 ((q + 1 : Nat) : Int)) w3 := by
  have hrow : ∀ k, Value.ownBlock (.slice sq (mi + q) cq) = some k → sq = some ⟨k, 0, none⟩ := fun k e => by
    rcases own_addr hir.own with ⟨rfl, _⟩ | ⟨g, rfl⟩
    · simp [Value.ownBlock] at e
    · simp [Value.ownBlock] at e; rw [e]
  have hsz : (wr.alloc X).heap.size = wr.heap.size + 1 := by simp
  refine ⟨q + 1, sa3, cap3, hq, rfl, rfl, ⟨?_, ?_⟩, ?_, ?_⟩
  · have e : IV (l ++ (List.range (q + 1)).map (fun j => ((p + j : Nat) : Int))) = IV (l ++ (List.range q).map (fun j => ((p + j : Nat) : Int))) ++ [.int .i64 ((p : Int) + q)] := by
      rw [List.range_succ]
      simp [IV]
    rw [e]
    exact hown
  · intro k e hf
    have e' : (Value.slice sa3 (mi + q + 1) cap3).ownBlock = some k := e
    rcases hat with h | h
    · rw [e'] at h; exact hir.ap k h.symm hf
    · rw [e'] at h
      have h1 := hF k hf
      have h2 := hk.size
      simp only [Option.some.injEq] at h
      omega
  · exact (hk.alloc X).grown hg (fun k e hlt => by
      rcases hsq k (hrow k e) with h | h
      · exact h
      · omega)
  · intro j e
    rcases hat with h | h
    · exact hsq j (hrow j (by rw [← h, e]; rfl))
    · rw [e] at h
      simp only [Value.ownBlock, Option.some.injEq] at h
      have h2 := hk.size
      right
      omega

theorem srel_step {w0 w2 wr : World} {x i mi p m co : Nat} {D : DS} {lo : List UInt8} {so spl sq : Option Addr} {cq cpl : Nat} {ps : List Nat} {F : Nat → Prop} {sv : Option Addr} {cv : Nat} (hmi : m * i = mi) (hlo : lo.length = m) (hpm : p + m ≤ 40) (hi : i + 1 ≤ 2) (hps : ps.length = i) (hb : ∀ p ∈ ps, p + lo.length ≤ 40)
    (hP : IRow w0 w2 (.slice spl mi cpl) mi (plAll m ps) F) (hir : IRow w0 wr (.slice sq (mi + m) cq) (mi + m) (plAll m ps ++ (List.range m).map (fun j => ((p + j : Nat) : Int))) F) (hk : Keeps (fun j => spl = some ⟨j, 0, none⟩) w2 wr)
    (h1 : One w0 w2 x (wrAll D lo (ps ++ [p])) F) (h2 : Row w2 (.slice so m co) m lo F) (h3 : Row w2 (.slice sv 40 cv) 40 D.now F) :
    SRel w0 x D lo so m co (.slice sv 40 cv) (.slice sq (m * (i + 1)) cq) (.int .i64 ((i + 1 : Nat) : Int)) wr := by
  have e : mi + m = m * (i + 1) := by rw [← hmi, Nat.mul_add, Nat.mul_one]
  have hap : ∀ k, spl = some ⟨k, 0, none⟩ → ¬ F k := fun k h => hP.ap k (by rw [h]; rfl)
  refine ⟨i + 1, ps ++ [p], F, sq, cq, hi, rfl, rfl, by simp [hps], ?_, ?_, ?_, ?_, ?_⟩
  · exact h1.touch _ hk (fun k h => (own_lt hP.own h).1) (fun k hf h => hap k h hf)
  · exact ⟨own_keep h2.own hk (rows_ne h2.own hP.own (by decide)), h2.ap⟩
  · exact ⟨own_keep h3.own hk (rows_ne h3.own hP.own (by decide)), h3.ap⟩
  · rw [← e, plAll_snoc]; exact hir
  · intro q hq
    rcases List.mem_append.1 hq with h | h
    · exact hb q h
    · obtain rfl : q = p := by simpa using h
      omega

/-- What holds at the head of each round of the last loop. -/
def FRel (wC : World) (i : Value) (wr : World) : Prop := ∃ k : Nat, k ≤ 40 ∧ i = .int .i64 k ∧ Keeps (fun _ => False) wC wr
theorem infoInt : (Try.prog.info? 3).map (fun i => (i.zero, i.size, i.bytes)) = some (some (.int .i64 0), 1, 8) := by kernel_rfl

set_option maxHeartbeats 4000000 in
set_option maxRecDepth 100000 in
theorem diskSure_walk (la : Option Addr) (b off len cap : Nat) (zs : List Int) (a0 a1 : Int) (sa : Option Addr) (lenb capb : Nat) (bs : List UInt8) (left : Int) (w : World) (hl : zs.length = len) (hlen : len ≤ 9223372036854775807) (hla : 0 < len → la = some ⟨b, off, none⟩) (hsrc : ∀ j z, zs[j]? = some z → w.cell? ⟨b, off + j, none⟩ = some (.int .i64 z)) (hwf : ∀ z ∈ zs, -9223372036854775808 ≤ z ∧ z ≤ 9223372036854775807) (a01 : -9223372036854775808 ≤ a0) (a02 : a0 ≤ 9223372036854775807) (a11 : -9223372036854775808 ≤ a1) (a12 : a1 ≤ 9223372036854775807) (hbl : bs.length = lenb) (hbc : lenb ≤ capb) (hbm : capb ≤ 9223372036854775807) (hbn : sa = none → lenb = 0 ∧ capb = 0) (hbs : ∀ ad, sa = some ad → ∀ (j : Nat) (u : Value), (BV bs)[j]? = some u → w.cell? (ad.add j) = some u) (left1 : -9223372036854775808 ≤ left) (left2 : left ≤ 9223372036854775807) :
    Calls Try.prog 5 #[.slice la len cap, .agg #[.int .i64 a0, .int .i64 a1], .slice sa lenb capb, .int .i64 left] w fun e w' => e = .returned (.bool true) ∧ Below w.heap.size w w' := by
  have HL := Lib.hid (And.intro hl (And.intro hla (And.intro hsrc hwf)))
  have HBS := Lib.hid (And.intro hbl (And.intro hbn hbs))
  clear hl hla hsrc hwf hbl hbn hbs
  have hg := playD_good zs
  obtain ⟨j0, hj, hy0, hy1, hy2⟩ := info_parts infoInt
  go_enter Try.func5, Try.ntmps5
  go_wp2_with fail
  obtain ⟨w0, hw0⟩ : ∃ w0, w0 = w.alloc (.cells #[.int .i64 a0, .int .i64 a1] 53) := ⟨_, rfl⟩
  rw [← hw0]
  have HK0 : Hid (Keeps (fun _ => False) w w0) := by rw [hw0]; exact (Keeps.refl _ w).alloc _
  have HBX : Hid (w0.heap[w.heap.size]? = some (.cells #[.int .i64 a0, .int .i64 a1] 53 (0, 0))) := by rw [hw0]; exact heap_alloc_new w _
  clear hw0
  generalize hbx : w.heap.size = bx at *
  have HBXE := Lib.hid hbx
  clear hbx
  obtain ⟨hl, hla, hsrc, hwf⟩ := HL.out
  refine (played_any la b off len cap zs w0 hl hlen hla (fun j z hz => (HK0.out.cell (World.block_lt_of_cell? w _ (hsrc j z hz)) (fun h => h)).trans (hsrc j z hz)) hwf).mono ?_
  rintro e w1 ⟨x, F, rfl, hd, hk, hF⟩
  have H0 : Hid (One w0 w1 x (playD ((zs.take 20).map mkAct)) F) := ⟨hd, hk, hF⟩
  clear hd hk hF hl hla hsrc hwf HL
  generalize playD ((zs.take 20).map mkAct) = D at *
  have HG := Lib.hid hg
  clear hg
  have HSO : Hid (D.sync.Ok 40 0) := sync_okD HG.out.ok
  have HLEN := Lib.hid HSO.out.len
  go_wp2_with fail
  refine (sync_ok x D F _ H0.out.disk HG.out.ok.up).mono ?_
  rintro e w2 ⟨rfl, F2, hd, hk, hs⟩
  have H1 := Lib.hid (H0.out.step hd hk hs)
  clear hd hk hs
  go_wp2_with fail
  refine (raw_any x _ F2 _ H1.out.disk (by rw [HLEN.out]; omega)).mono ?_
  rintro e w3 ⟨g3, c3, rfl, hown, hk⟩
  rw [HLEN.out] at hown
  rw [HLEN.out]
  have HR2 : Hid (Row w3 (.slice (some ⟨g3, 0, none⟩) 40 c3) 40 D.sync.now F2) := Row.mk' hown (H1.out.disk.foot_lt)
  have H3 := Lib.hid (H1.out.quiet hk)
  clear hown hk
  go_wp2_with fail
  obtain ⟨hbl, hbn, hbs⟩ := HBS.out
  refine (few_any sa lenb capb 10 bs _ hbl hbc hbm (by omega) hbn (fun ad had j u hu => ((HK0.out.trans H3.out.keep (fun _ _ h => h)).cell (World.block_lt_of_cell? w _ (hbs ad had j u hu)) (fun h => h)).trans (hbs ad had j u hu))).mono ?_
  clear hbl hbn hbs
  rintro e w4 ⟨so, co, rfl, hown, hk⟩
  obtain ⟨m, hm⟩ : ∃ m, min lenb 10 = m := ⟨_, rfl⟩
  obtain ⟨lo, hlo⟩ : ∃ lo, lo = bs.take 10 := ⟨_, rfl⟩
  rw [← hlo] at hown
  rw [hm] at hown
  rw [hm]
  have hmb : m ≤ 10 := by omega
  have HLO : Hid (lo.length = m) := by show _ = _; rw [hlo, List.length_take, HBS.out.1]; omega
  have HRown : Hid (Row w4 (.slice so m co) m lo F2) := Row.mk' hown (H3.out.disk.foot_lt)
  have HOB : Hid (∀ k, so = some ⟨k, 0, none⟩ → w0.heap.size ≤ k) := fun k e => by have h1 := (own_lt hown e).1; have h2 := H3.out.keep.size; omega
  have H4 := Lib.hid (H3.out.quiet hk)
  have HR5 := Lib.hid (HR2.out.quiet hk)
  clear hown hk hm hlo HBS hbc hbm
  go_wp2_with fail
  go_loopw [12, 13] (fun pl i wr => SRel w0 x D.sync lo so m co (.slice (some ⟨g3, 0, none⟩) 40 c3) pl i wr) (fun _ i _ => 2 - (intOf i).toNat)
  case atStart => exact ⟨0, [], F2, none, 0, Nat.zero_le _, rfl, rfl, rfl, H4.out, HRown.out, HR5.out, ⟨World.ownsRow_nil _ _ _ _, fun k e => by simp [Value.ownBlock] at e⟩, by simp⟩
  case round =>
    obtain ⟨i, ps, Fi, spl, cpl, hi, rfl, rfl, hpl, h1, h2, h3, h4, h5⟩ := hrel
    have HR := Lib.hid (And.intro hpl (And.intro h1 (And.intro h2 (And.intro h3 (And.intro h4 h5)))))
    clear hpl h1 h2 h3 h4 h5
    by_cases hlt : i < 2
    · have hbx := (HR.out.2.1.keep.block bx (lt_of_heap HBX.out) (fun h => h)).trans HBX.out
      obtain ⟨ai, hai, hab⟩ : ∃ ai : Int, wr.cell? ⟨bx, i, none⟩ = some (.int .i64 ai) ∧ -9223372036854775808 ≤ ai ∧ ai ≤ 9223372036854775807 := by
        rcases (show i = 0 ∨ i = 1 from by omega) with rfl | rfl
        · exact ⟨a0, by rw [cellAt hbx 0]; rfl, a01, a02⟩
        · exact ⟨a1, by rw [cellAt hbx 1]; rfl, a11, a12⟩
      obtain ⟨ai1, ai2⟩ := hab
      clear hbx
      have t1 : (0 : Int) ≤ (i : Int) := by omega
      have t2 : (i : Int) < 2 := by omega
      obtain ⟨wo, rfl⟩ : ∃ wo : World, wo = wr := ⟨_, rfl⟩
      go_wp2_with fail
      refine (around_any ai (41 - (m : Int)) _ ai1 ai2 (by omega) (by omega)).mono ?_
      rintro e _ ⟨rfl, rfl⟩
      obtain ⟨p, hp⟩ : ∃ k : Nat, around ai (41 - (m : Int)) = k := ⟨(around ai (41 - (m : Int))).toNat, by have := around_pos ai (41 - (m : Int)) (by omega); omega⟩
      have bp : (p : Int) < 41 - (m : Int) := by have := (around_pos ai (41 - (m : Int)) (by omega)).2; rw [hp] at this; exact this
      rw [hp]
      clear hp
      have hpm : p + m ≤ 40 := by omega
      clear bp ai1 ai2 hai
      have HOK : Hid ((wrAll D.sync lo ps).Ok 40 (0 + lo.length * ps.length)) := wrAll_ok HSO.out lo ps HR.out.2.2.2.2.2
      have hpsl : ps.length ≤ 2 := by have := HR.out.1; omega
      obtain ⟨sb, s1, s2, s3⟩ := HR.out.2.2.1.src
      have HSRC := Lib.hid (And.intro s1 (And.intro s2 s3))
      clear s1 s2 s3
      go_wp2_with fail
      obtain ⟨s1, s2, s3⟩ := HSRC.out
      refine (write_ok x p lo m so sb 0 co (wrAll D.sync lo ps) Fi _ HR.out.2.1.disk HOK.out.up HLO.out s1 s2 s3 (by rw [HOK.out.len]; exact hpm) (by rw [HOK.out.len]; omega) (by have h1 := HOK.out.lo; rw [HLO.out] at h1; have h2 := Nat.mul_le_mul hmb hpsl; omega)).mono ?_
      clear s1 s2 s3
      rintro e w2 ⟨rfl, Fj, hd, hk, hs⟩
      have HS2 : Hid (One w0 w2 x (wrAll D.sync lo (ps ++ [p])) Fj) := by rw [wrAll_snoc]; exact HR.out.2.1.step hd hk hs
      have HO2 := Lib.hid (HR.out.2.2.1.step hk hs)
      have HW2 := Lib.hid (HR.out.2.2.2.1.step hk hs)
      have HP2 : Hid (w2.ownsRow w0.heap.size 3 1 (.slice spl (m * i) cpl) (m * i) (IV (plAll m ps))) := own_keep HR.out.2.2.2.2.1.own hk HR.out.2.2.2.2.1.ap
      have HPA : Hid (∀ k, Value.ownBlock (.slice spl (m * i) cpl) = some k → ¬ Fj k) := fun k e hf => by
        rcases hs k hf with h | h
        · exact HR.out.2.2.2.2.1.ap k e h
        · have := (HR.out.2.2.2.2.1.own.lt k e).2; omega
      have HIR : Hid (IRow w0 w2 (.slice spl (m * i) cpl) (m * i) (plAll m ps) Fj) := ⟨HP2.out, HPA.out⟩
      clear hd hk hs HP2 HPA
      have hmi : m * i ≤ 10 := by have := Nat.mul_le_mul hmb (show i ≤ 1 from by omega); omega
      generalize hq : m * i = mi at *
      have HMI := Lib.hid hq
      clear hq
      go_wp2_with fail
      go_loopw [12, 15] (fun pl k wr => PlRel w0 w2 (plAll m ps) mi p m spl Fj pl k wr) (fun _ k _ => m - (intOf k).toNat)
      case atStart => exact ⟨0, spl, cpl, Nat.zero_le _, rfl, rfl, by simpa using HIR.out, Keeps.refl _ _, fun j h => Or.inl h⟩
      case round =>
        obtain ⟨q, sq, cq, hq, rfl, rfl, hir, hkp, hsq⟩ := hrel
        have HB := Lib.hid (And.intro hir (And.intro hkp hsq))
        clear hir hkp hsq
        by_cases hltq : q < m
        · have g1 : (p : Int) + (q : Int) ≤ 100 := by omega
          have HST : Hid (∀ (X : Obj) (w3 : World) (sa3 : Option Addr) (cap3 : Nat), w3.ownsRow w0.heap.size 3 1 (.slice sa3 (mi + q + 1) cap3) (mi + q + 1) (IV (plAll m ps ++ (List.range q).map (fun j => ((p + j : Nat) : Int))) ++ [.int .i64 ((p : Int) + q)]) → (wr.alloc X).grownBy w3 (Value.ownBlock (.slice sq (mi + q) cq)) →
              (Value.ownBlock (.slice sa3 (mi + q + 1) cap3) = Value.ownBlock (.slice sq (mi + q) cq) ∨ Value.ownBlock (.slice sa3 (mi + q + 1) cap3) = some (wr.alloc X).heap.size) →
              PlRel w0 w2 (plAll m ps) mi p m spl Fj (.slice sa3 (mi + q + 1) cap3) (.int .i64 ((q + 1 : Nat) : Int)) w3) := fun X w3 sa3 cap3 h1 h2 h3 => plrel_step (by omega) HB.out.1 HB.out.2.1 HB.out.2.2 (HS2.out.disk.foot_lt) h1 h2 h3
          have hwl : w0.heap.size ≤ wr.heap.size := Nat.le_trans HS2.out.keep.size HB.out.2.1.size
          go_wp2_with (at_builtin; refine wpList_app _ rfl _ _ 22 rfl w0.heap.size 3 j0 (.int .i64 0) 1 8 Try.underlying22 hj hy0 hy1 hy2 rfl (by decide) (.slice sq (mi + q) cq) (mi + q) (IV (plAll m ps ++ (List.range q).map (fun j => ((p + j : Nat) : Int)))) rfl (HB.out.1.own.alloc _) (some ⟨wr.heap.size, 0, none⟩) 1 1 [.int .i64 ((p : Int) + q)] rfl rfl (fun h => by cases h) (fun ad had => by obtain rfl := Option.some.inj had; exact World.news_of_block (cs := #[.int .i64 ((p : Int) + q)]) (t := 3) (fr := (0, 0)) (heap_alloc_new wr _)) (by simp [Value.oneCell']) (by unfold maxLen; omega) (by omega) (by simp; omega) ?_; intro sa3 cap3 w3 hown3 hg3 hat3 hnn3; have HS3 := Lib.hid (HST.out _ _ _ _ hown3 hg3 hat3); clear hown3 hg3 hat3 hnn3)
          go_roundw
          case rel => exact HS3.out
          case measure => simp [intOf]; omega
        · obtain rfl : q = m := by omega
          have HF : Hid (SRel w0 x D.sync lo so q co (.slice (some ⟨g3, 0, none⟩) 40 c3) (.slice sq (q * (i + 1)) cq) (.int .i64 ((i + 1 : Nat) : Int)) wr) := srel_step HMI.out HLO.out hpm (by omega) HR.out.1 HR.out.2.2.2.2.2 HIR.out HB.out.1 HB.out.2.1 HS2.out HO2.out HW2.out
          have hmi2 : mi + q = q * (i + 1) := by rw [← HMI.out, Nat.mul_add, Nat.mul_one]
          rw [hmi2]
          clear hmi2
          go_wp2
          go_roundw
          case rel => exact HF.out
          case measure => simp [intOf]; omega
    · obtain rfl : i = 2 := by omega
      have HOK : Hid ((wrAll D.sync lo ps).Ok 40 (0 + lo.length * ps.length)) := wrAll_ok HSO.out lo ps HR.out.2.2.2.2.2
      obtain ⟨hps2, h1, h2, h3, h4, h5⟩ := HR.out
      have HX1 := Lib.hid h1
      have HX3 := Lib.hid h3
      have HX4 := Lib.hid h4
      have HX5 := Lib.hid h5
      have HPS := Lib.hid hps2
      clear hps2 h1 h2 h3 h4 h5 HR
      have HLO2 : Hid (((wrAll D.sync lo ps).lo.length : Int) = 2 * (m : Int)) := by show _ = _; rw [wrAll_lo, HLO.out, HPS.out]; simp [DS.sync]; omega
      obtain ⟨E, hE⟩ : ∃ E, E = wrAll D.sync lo ps := ⟨_, rfl⟩
      rw [← hE] at HX1 HOK HLO2
      have HE := Lib.hid hE
      clear hE
      have hm2 : m * 2 ≤ 20 := by omega
      generalize hmm : m * 2 = m2 at *
      have HM2 := Lib.hid hmm
      clear hmm
      go_wp2_with fail
      refine (loose_any x E Fi _ HX1.out.disk).mono ?_
      rintro e _ ⟨rfl, rfl⟩
      rw [HLO2.out]
      go_wp2_with fail
      refine (around_any left 31 _ left1 left2 (by omega) (by omega)).mono ?_
      rintro e _ ⟨rfl, rfl⟩
      obtain ⟨k, hk⟩ : ∃ k : Nat, around left 31 = k := ⟨(around left 31).toNat, by have := around_pos left 31 (by omega); omega⟩
      have bk : (k : Int) < 31 := by have := (around_pos left 31 (by omega)).2; rw [hk] at this; exact this
      rw [hk]
      clear hk
      have HLC : Hid ((E.crash k).now.length = 40) := left_len' E _ 40 _ HOK.out
      have HSU : Hid (∀ j : Nat, (E.crash k).now[j]? = D.sync.now[j]? ∨ hasB (plAll m ps) j = true) := fun j => by rw [HE.out]; exact sure_at D.sync lo ps k m HLO.out rfl rfl j
      have HX6 : Hid (IRow w0 wr (.slice spl m2 cpl) m2 (plAll m ps) Fi) := HX4.out
      go_wp2_with fail
      refine (crash_ok x k E Fi _ HX1.out.disk HOK.out.up (by have h1 := HOK.out.lo; have h2 := Nat.mul_le_mul hmb (show ps.length ≤ 2 from by rw [HPS.out]; exact Nat.le_refl _); rw [HLO.out] at h1; omega) (by rw [HOK.out.len]; exact HOK.out.at_)).mono ?_
      rintro e w21 ⟨rfl, F21, hd, hk, hs⟩
      have H201 := Lib.hid (HX1.out.step hd hk hs)
      have HR202 := Lib.hid (HX3.out.step hk hs)
      have HR203 := Lib.hid (HX6.out.step hk hs)
      clear hd hk hs
      go_wp2_with fail
      refine (raw_any x _ F21 _ H201.out.disk (by rw [HLC.out]; omega)).mono ?_
      rintro e w22 ⟨g22, c22, rfl, hown, hk⟩
      rw [HLC.out] at hown
      rw [HLC.out]
      have HR204 : Hid (Row w22 (.slice (some ⟨g22, 0, none⟩) 40 c22) 40 (E.crash k).now F21) := Row.mk' hown (H201.out.disk.foot_lt)
      have H205 := Lib.hid (H201.out.quiet hk)
      have HR206 := Lib.hid (HR202.out.quiet hk)
      have HR207 := Lib.hid (HR203.out.quiet hk)
      clear hown hk
      have HPL : Hid ((plAll m ps).length = m2) := by show _ = _; have := HR207.out.own.1; rw [IV_length] at this; omega
      have HALL := Lib.hid (And.intro HR204.out (And.intro HR206.out (And.intro HR207.out H205.out)))
      go_wp2_with fail
      go_loopw [17] (fun i wr => FRel w22 i wr) (fun i _ => 40 - (intOf i).toNat)
      case atStart => exact ⟨0, Nat.zero_le _, rfl, Keeps.refl _ _⟩
      case round =>
        obtain ⟨j, hj, rfl, hkp⟩ := hrel
        have HB := Lib.hid hkp
        clear hkp
        by_cases hltj : j < 40
        · have hln1 : (E.crash k).now.length = 40 := HLC.out
          have hln2 : D.sync.now.length = 40 := HLEN.out
          obtain ⟨c, hc⟩ : ∃ c, (E.crash k).now[j]? = some c := ⟨_, List.getElem?_eq_getElem (by omega)⟩
          obtain ⟨d, hd⟩ : ∃ c, D.sync.now[j]? = some c := ⟨_, List.getElem?_eq_getElem (by omega)⟩
          have HSj := Lib.hid (HSU.out j)
          have r1 : wr.cell? ⟨g22, j, none⟩ = some (.int .u8 c.toNat) := own_cell (HALL.out.1.quiet HB.out).own j _ (by rw [BV_get, hc]; rfl)
          have r2 : wr.cell? ⟨g3, j, none⟩ = some (.int .u8 d.toNat) := own_cell (HALL.out.2.1.quiet HB.out).own j _ (by rw [BV_get, hd]; rfl)
          have HCD := Lib.hid (And.intro hc hd)
          clear hc hd hln1 hln2
          have t1 : (0 : Int) ≤ (j : Int) := by omega
          have t2 : (j : Int) < 40 := by omega
          by_cases hcd : c = d
          · have hne : ((c.toNat : Int) != (d.toNat : Int)) = false := by rw [hcd]; simp
            clear hcd
            go_wp2_with fail
            refine z_begin (fun w' => w'.cell? ⟨g22, j, none⟩ = some (.int .u8 c.toNat) ∧ w'.cell? ⟨g3, j, none⟩ = some (.int .u8 d.toNat)) 15 (by kernel_rfl) (⟨r1, r2⟩) (fun hHeld => ?_)
            refine z_take 0 (v := ?_) rfl (by kernel_rfl) (by kernel_rfl) (by kernel_rfl) (by kernel_rfl) (fun _ _ _ h => h) hHeld (by rfl) (fun w hSw => ?_) ?_
            rotate_left
            · obtain ⟨hSw1, hSw2⟩ := hSw; simp only [List.getElem_toArray, List.getElem_cons_zero]; go_simp; try rfl
            simp only [Act.put, List.getElem_toArray, List.getElem_cons_zero, List.setIfInBounds_toArray, List.set_cons_zero, List.set_cons_succ]
            refine z_take 1 (v := ?_) rfl (by kernel_rfl) (by kernel_rfl) (by kernel_rfl) (by kernel_rfl) (fun _ _ _ h => h) hHeld (by rfl) (fun w hSw => ?_) ?_
            rotate_left
            · obtain ⟨hSw1, hSw2⟩ := hSw; simp only [List.getElem_toArray, List.getElem_cons_zero, List.getElem_cons_succ]; go_simp; try rfl
            simp only [Act.put, List.getElem_toArray, List.getElem_cons_zero, List.getElem_cons_succ, List.setIfInBounds_toArray, List.set_cons_zero, List.set_cons_succ]
            refine z_take 2 (v := ?_) rfl (by kernel_rfl) (by kernel_rfl) (by kernel_rfl) (by kernel_rfl) (fun _ _ _ h => h) hHeld (by rfl) (fun w hSw => ?_) ?_
            rotate_left
            · obtain ⟨hSw1, hSw2⟩ := hSw; simp only [List.getElem_toArray, List.getElem_cons_zero, List.getElem_cons_succ]; go_simp; try rfl
            simp only [Act.put, List.getElem_toArray, List.getElem_cons_zero, List.getElem_cons_succ, List.setIfInBounds_toArray, List.set_cons_zero, List.set_cons_succ]
            refine z_take 3 (v := ?_) rfl (by kernel_rfl) (by kernel_rfl) (by kernel_rfl) (by kernel_rfl) (fun _ _ _ h => h) hHeld (by rfl) (fun w hSw => ?_) ?_
            rotate_left
            · obtain ⟨hSw1, hSw2⟩ := hSw; simp only [List.getElem_toArray, List.getElem_cons_zero, List.getElem_cons_succ]; go_simp; try rfl
            simp only [Act.put, List.getElem_toArray, List.getElem_cons_zero, List.getElem_cons_succ, List.setIfInBounds_toArray, List.set_cons_zero, List.set_cons_succ]
            refine z_take 4 (v := ?_) rfl (by kernel_rfl) (by kernel_rfl) (by kernel_rfl) (by kernel_rfl) (fun _ _ _ h => h) hHeld (by rfl) (fun w hSw => ?_) ?_
            rotate_left
            · obtain ⟨hSw1, hSw2⟩ := hSw; simp only [List.getElem_toArray, List.getElem_cons_zero, List.getElem_cons_succ]; go_simp; try rfl
            simp only [Act.put, List.getElem_toArray, List.getElem_cons_zero, List.getElem_cons_succ, List.setIfInBounds_toArray, List.set_cons_zero, List.set_cons_succ]
            refine z_take 5 (v := ?_) rfl (by kernel_rfl) (by kernel_rfl) (by kernel_rfl) (by kernel_rfl) (fun _ _ _ h => h) hHeld (by rfl) (fun w hSw => ?_) ?_
            rotate_left
            · obtain ⟨hSw1, hSw2⟩ := hSw; simp only [List.getElem_toArray, List.getElem_cons_zero, List.getElem_cons_succ]; go_simp; try rfl
            simp only [Act.put, List.getElem_toArray, List.getElem_cons_zero, List.getElem_cons_succ, List.setIfInBounds_toArray, List.set_cons_zero, List.set_cons_succ]
            refine z_take 6 (v := ?_) rfl (by kernel_rfl) (by kernel_rfl) (by kernel_rfl) (by kernel_rfl) (fun _ _ _ h => h) hHeld (by rfl) (fun w hSw => ?_) ?_
            rotate_left
            · obtain ⟨hSw1, hSw2⟩ := hSw; simp only [List.getElem_toArray, List.getElem_cons_zero, List.getElem_cons_succ]; go_simp; try rfl
            simp only [Act.put, List.getElem_toArray, List.getElem_cons_zero, List.getElem_cons_succ, List.setIfInBounds_toArray, List.set_cons_zero, List.set_cons_succ]
            refine z_take 7 (v := ?_) rfl (by kernel_rfl) (by kernel_rfl) (by kernel_rfl) (by kernel_rfl) (fun _ _ _ h => h) hHeld (by rfl) (fun w hSw => ?_) ?_
            rotate_left
            · obtain ⟨hSw1, hSw2⟩ := hSw; simp only [List.getElem_toArray, List.getElem_cons_zero, List.getElem_cons_succ]; go_simp; try rfl
            simp only [Act.put, List.getElem_toArray, List.getElem_cons_zero, List.getElem_cons_succ, List.setIfInBounds_toArray, List.set_cons_zero, List.set_cons_succ]
            refine z_take 8 (v := ?_) rfl (by kernel_rfl) (by kernel_rfl) (by kernel_rfl) (by kernel_rfl) (fun _ _ _ h => h) hHeld (by rfl) (fun w hSw => ?_) ?_
            rotate_left
            · obtain ⟨hSw1, hSw2⟩ := hSw; simp only [List.getElem_toArray, List.getElem_cons_zero, List.getElem_cons_succ]; go_simp; try rfl
            simp only [Act.put, List.getElem_toArray, List.getElem_cons_zero, List.getElem_cons_succ, List.setIfInBounds_toArray, List.set_cons_zero, List.set_cons_succ]
            refine z_take 9 (v := ?_) rfl (by kernel_rfl) (by kernel_rfl) (by kernel_rfl) (by kernel_rfl) (fun _ _ _ h => h) hHeld (by rfl) (fun w hSw => ?_) ?_
            rotate_left
            · obtain ⟨hSw1, hSw2⟩ := hSw; simp only [List.getElem_toArray, List.getElem_cons_zero, List.getElem_cons_succ]; go_simp; try rfl
            simp only [Act.put, List.getElem_toArray, List.getElem_cons_zero, List.getElem_cons_succ, List.setIfInBounds_toArray, List.set_cons_zero, List.set_cons_succ]
            refine z_skip 10 rfl (by kernel_rfl) (by kernel_rfl) (by kernel_rfl) (by kernel_rfl) (fun _ _ _ h => h) hHeld (by rfl) ?_
            simp only [Act.put, List.getElem_toArray, List.getElem_cons_zero, List.getElem_cons_succ, List.setIfInBounds_toArray, List.set_cons_zero, List.set_cons_succ]
            refine z_skip 11 rfl (by kernel_rfl) (by kernel_rfl) (by kernel_rfl) (by kernel_rfl) (fun _ _ _ h => h) hHeld (by rfl) ?_
            simp only [Act.put, List.getElem_toArray, List.getElem_cons_zero, List.getElem_cons_succ, List.setIfInBounds_toArray, List.set_cons_zero, List.set_cons_succ]
            refine z_skip 12 rfl (by kernel_rfl) (by kernel_rfl) (by kernel_rfl) (by kernel_rfl) (fun _ _ _ h => h) hHeld (by rfl) ?_
            simp only [Act.put, List.getElem_toArray, List.getElem_cons_zero, List.getElem_cons_succ, List.setIfInBounds_toArray, List.set_cons_zero, List.set_cons_succ]
            refine z_skip 13 rfl (by kernel_rfl) (by kernel_rfl) (by kernel_rfl) (by kernel_rfl) (fun _ _ _ h => h) hHeld (by rfl) ?_
            simp only [Act.put, List.getElem_toArray, List.getElem_cons_zero, List.getElem_cons_succ, List.setIfInBounds_toArray, List.set_cons_zero, List.set_cons_succ]
            refine z_take 14 (v := ?_) rfl (by kernel_rfl) (by kernel_rfl) (by kernel_rfl) (by kernel_rfl) (fun _ _ _ h => h) hHeld (by rfl) (fun w hSw => ?_) ?_
            rotate_left
            · obtain ⟨hSw1, hSw2⟩ := hSw; simp only [List.getElem_toArray, List.getElem_cons_zero, List.getElem_cons_succ]; go_simp; try rfl
            simp only [Act.put, List.getElem_toArray, List.getElem_cons_zero, List.getElem_cons_succ, List.setIfInBounds_toArray, List.set_cons_zero, List.set_cons_succ]
            refine z_done (by kernel_rfl) ?_ _
            clear hHeld
            go_wp2
            go_roundw
            case rel => exact ⟨j + 1, by omega, by go_num, HB.out.drew⟩
            case measure => simp [intOf]; omega
          · have hne : ((c.toNat : Int) != (d.toNat : Int)) = true := by
              simp only [bne_iff_ne, ne_eq]
              intro e
              exact hcd (UInt8.toNat_inj.1 (by omega))
            have HHAS : Hid (hasB (plAll m ps) j = true) := by
              rcases HSj.out with h | h
              · rw [HCD.out.1, HCD.out.2] at h
                exact absurd (Option.some.inj h) hcd
              · exact h
            clear hcd
            obtain ⟨pb, po, hpa, hpc⟩ : ∃ pb po, (0 < m2 → spl = some ⟨pb, po, none⟩) ∧ ∀ (q : Nat) (z : Int), (plAll m ps)[q]? = some z → wr.cell? ⟨pb, po + q, none⟩ = some (.int .i64 z) := by
              have hrow := (HALL.out.2.2.1.quiet HB.out).own
              rcases own_addr hrow with ⟨_, h0, _⟩ | ⟨g, rfl⟩
              · exact ⟨0, 0, fun h => by omega, fun q z hz => by have h1 := (List.getElem?_eq_some_iff.1 hz).1; rw [HPL.out] at h1; omega⟩
              · exact ⟨g, 0, fun _ => rfl, fun q z hz => by rw [Nat.zero_add]; exact own_cell hrow q _ (by simp only [IV, List.getElem?_map, hz]; rfl)⟩
            have HPC := Lib.hid (And.intro hpa hpc)
            clear hpa hpc
            go_wp2_with fail
            refine z_begin (fun w' => w'.cell? ⟨g22, j, none⟩ = some (.int .u8 c.toNat) ∧ w'.cell? ⟨g3, j, none⟩ = some (.int .u8 d.toNat)) 15 (by kernel_rfl) (⟨r1, r2⟩) (fun hHeld => ?_)
            refine z_take 0 (v := ?_) rfl (by kernel_rfl) (by kernel_rfl) (by kernel_rfl) (by kernel_rfl) (fun _ _ _ h => h) hHeld (by rfl) (fun w hSw => ?_) ?_
            rotate_left
            · obtain ⟨hSw1, hSw2⟩ := hSw; simp only [List.getElem_toArray, List.getElem_cons_zero]; go_simp; try rfl
            simp only [Act.put, List.getElem_toArray, List.getElem_cons_zero, List.setIfInBounds_toArray, List.set_cons_zero, List.set_cons_succ]
            refine z_take 1 (v := ?_) rfl (by kernel_rfl) (by kernel_rfl) (by kernel_rfl) (by kernel_rfl) (fun _ _ _ h => h) hHeld (by rfl) (fun w hSw => ?_) ?_
            rotate_left
            · obtain ⟨hSw1, hSw2⟩ := hSw; simp only [List.getElem_toArray, List.getElem_cons_zero, List.getElem_cons_succ]; go_simp; try rfl
            simp only [Act.put, List.getElem_toArray, List.getElem_cons_zero, List.getElem_cons_succ, List.setIfInBounds_toArray, List.set_cons_zero, List.set_cons_succ]
            refine z_take 2 (v := ?_) rfl (by kernel_rfl) (by kernel_rfl) (by kernel_rfl) (by kernel_rfl) (fun _ _ _ h => h) hHeld (by rfl) (fun w hSw => ?_) ?_
            rotate_left
            · obtain ⟨hSw1, hSw2⟩ := hSw; simp only [List.getElem_toArray, List.getElem_cons_zero, List.getElem_cons_succ]; go_simp; try rfl
            simp only [Act.put, List.getElem_toArray, List.getElem_cons_zero, List.getElem_cons_succ, List.setIfInBounds_toArray, List.set_cons_zero, List.set_cons_succ]
            refine z_take 3 (v := ?_) rfl (by kernel_rfl) (by kernel_rfl) (by kernel_rfl) (by kernel_rfl) (fun _ _ _ h => h) hHeld (by rfl) (fun w hSw => ?_) ?_
            rotate_left
            · obtain ⟨hSw1, hSw2⟩ := hSw; simp only [List.getElem_toArray, List.getElem_cons_zero, List.getElem_cons_succ]; go_simp; try rfl
            simp only [Act.put, List.getElem_toArray, List.getElem_cons_zero, List.getElem_cons_succ, List.setIfInBounds_toArray, List.set_cons_zero, List.set_cons_succ]
            refine z_take 4 (v := ?_) rfl (by kernel_rfl) (by kernel_rfl) (by kernel_rfl) (by kernel_rfl) (fun _ _ _ h => h) hHeld (by rfl) (fun w hSw => ?_) ?_
            rotate_left
            · obtain ⟨hSw1, hSw2⟩ := hSw; simp only [List.getElem_toArray, List.getElem_cons_zero, List.getElem_cons_succ]; go_simp; try rfl
            simp only [Act.put, List.getElem_toArray, List.getElem_cons_zero, List.getElem_cons_succ, List.setIfInBounds_toArray, List.set_cons_zero, List.set_cons_succ]
            refine z_take 5 (v := ?_) rfl (by kernel_rfl) (by kernel_rfl) (by kernel_rfl) (by kernel_rfl) (fun _ _ _ h => h) hHeld (by rfl) (fun w hSw => ?_) ?_
            rotate_left
            · obtain ⟨hSw1, hSw2⟩ := hSw; simp only [List.getElem_toArray, List.getElem_cons_zero, List.getElem_cons_succ]; go_simp; try rfl
            simp only [Act.put, List.getElem_toArray, List.getElem_cons_zero, List.getElem_cons_succ, List.setIfInBounds_toArray, List.set_cons_zero, List.set_cons_succ]
            refine z_take 6 (v := ?_) rfl (by kernel_rfl) (by kernel_rfl) (by kernel_rfl) (by kernel_rfl) (fun _ _ _ h => h) hHeld (by rfl) (fun w hSw => ?_) ?_
            rotate_left
            · obtain ⟨hSw1, hSw2⟩ := hSw; simp only [List.getElem_toArray, List.getElem_cons_zero, List.getElem_cons_succ]; go_simp; try rfl
            simp only [Act.put, List.getElem_toArray, List.getElem_cons_zero, List.getElem_cons_succ, List.setIfInBounds_toArray, List.set_cons_zero, List.set_cons_succ]
            refine z_take 7 (v := ?_) rfl (by kernel_rfl) (by kernel_rfl) (by kernel_rfl) (by kernel_rfl) (fun _ _ _ h => h) hHeld (by rfl) (fun w hSw => ?_) ?_
            rotate_left
            · obtain ⟨hSw1, hSw2⟩ := hSw; simp only [List.getElem_toArray, List.getElem_cons_zero, List.getElem_cons_succ]; go_simp; try rfl
            simp only [Act.put, List.getElem_toArray, List.getElem_cons_zero, List.getElem_cons_succ, List.setIfInBounds_toArray, List.set_cons_zero, List.set_cons_succ]
            refine z_take 8 (v := ?_) rfl (by kernel_rfl) (by kernel_rfl) (by kernel_rfl) (by kernel_rfl) (fun _ _ _ h => h) hHeld (by rfl) (fun w hSw => ?_) ?_
            rotate_left
            · obtain ⟨hSw1, hSw2⟩ := hSw; simp only [List.getElem_toArray, List.getElem_cons_zero, List.getElem_cons_succ]; go_simp; try rfl
            simp only [Act.put, List.getElem_toArray, List.getElem_cons_zero, List.getElem_cons_succ, List.setIfInBounds_toArray, List.set_cons_zero, List.set_cons_succ]
            refine z_take 9 (v := ?_) rfl (by kernel_rfl) (by kernel_rfl) (by kernel_rfl) (by kernel_rfl) (fun _ _ _ h => h) hHeld (by rfl) (fun w hSw => ?_) ?_
            rotate_left
            · obtain ⟨hSw1, hSw2⟩ := hSw; simp only [List.getElem_toArray, List.getElem_cons_zero, List.getElem_cons_succ]; go_simp; try rfl
            simp only [Act.put, List.getElem_toArray, List.getElem_cons_zero, List.getElem_cons_succ, List.setIfInBounds_toArray, List.set_cons_zero, List.set_cons_succ]
            refine z_take 10 (v := ?_) rfl (by kernel_rfl) (by kernel_rfl) (by kernel_rfl) (by kernel_rfl) (fun _ _ _ h => h) hHeld (by rfl) (fun w hSw => ?_) ?_
            rotate_left
            · obtain ⟨hSw1, hSw2⟩ := hSw; simp only [List.getElem_toArray, List.getElem_cons_zero, List.getElem_cons_succ]; go_simp; try rfl
            simp only [Act.put, List.getElem_toArray, List.getElem_cons_zero, List.getElem_cons_succ, List.setIfInBounds_toArray, List.set_cons_zero, List.set_cons_succ]
            refine z_take 11 (v := ?_) rfl (by kernel_rfl) (by kernel_rfl) (by kernel_rfl) (by kernel_rfl) (fun _ _ _ h => h) hHeld (by rfl) (fun w hSw => ?_) ?_
            rotate_left
            · obtain ⟨hSw1, hSw2⟩ := hSw; simp only [List.getElem_toArray, List.getElem_cons_zero, List.getElem_cons_succ]; go_simp; try rfl
            simp only [Act.put, List.getElem_toArray, List.getElem_cons_zero, List.getElem_cons_succ, List.setIfInBounds_toArray, List.set_cons_zero, List.set_cons_succ]
            refine z_one 12 rfl (by kernel_rfl) (by rfl) (fun K hK => ?_)
            simp only [List.getElem_toArray, List.getElem_cons_zero, List.getElem_cons_succ]
            go_simp
            refine (has_any pb po m2 cpl (plAll m ps) j wr.drew HPL.out (by omega) spl HPC.out.1 HPC.out.2).mono ?_
            rintro e _ ⟨rfl, rfl⟩
            rw [HHAS.out]
            refine hK _ _ (Or.inr ?_) (fun hHeld => ?_)
            · exact ⟨r1, r2⟩
            clear hK K
            replace hHeld := hHeld.resolve_left (by decide)
            try simp only [Act.put, List.setIfInBounds_toArray, List.set_cons_zero, List.set_cons_succ]
            refine z_take 13 (v := ?_) rfl (by kernel_rfl) (by kernel_rfl) (by kernel_rfl) (by kernel_rfl) (fun _ _ _ h => h) hHeld (by rfl) (fun w hSw => ?_) ?_
            rotate_left
            · obtain ⟨hSw1, hSw2⟩ := hSw; simp only [List.getElem_toArray, List.getElem_cons_zero, List.getElem_cons_succ]; go_simp; try rfl
            simp only [Act.put, List.getElem_toArray, List.getElem_cons_zero, List.getElem_cons_succ, List.setIfInBounds_toArray, List.set_cons_zero, List.set_cons_succ]
            refine z_take 14 (v := ?_) rfl (by kernel_rfl) (by kernel_rfl) (by kernel_rfl) (by kernel_rfl) (fun _ _ _ h => h) hHeld (by rfl) (fun w hSw => ?_) ?_
            rotate_left
            · obtain ⟨hSw1, hSw2⟩ := hSw; simp only [List.getElem_toArray, List.getElem_cons_zero, List.getElem_cons_succ]; go_simp; try rfl
            simp only [Act.put, List.getElem_toArray, List.getElem_cons_zero, List.getElem_cons_succ, List.setIfInBounds_toArray, List.set_cons_zero, List.set_cons_succ]
            refine z_done (by kernel_rfl) ?_ _
            clear hHeld
            go_wp2
            go_roundw
            case rel => exact ⟨j + 1, by omega, by go_num, HB.out.drew⟩
            case measure => simp [intOf]; omega
        · go_wp2_with fail
          refine (lives_any _).mono ?_
          rintro e w9 ⟨rfl, hk⟩
          have HF := Lib.hid ((HALL.out.2.2.2.quiet HB.out).quiet hk)
          clear hk
          go_wp2
          go_ret
          exact ⟨rfl, ((HK0.out.trans HF.out.keep (fun _ _ h => h)).below (Nat.le_refl _) (fun _ h => h.elim))⟩
end Go.Proofs.Ytllfiplhfbbhaaa
