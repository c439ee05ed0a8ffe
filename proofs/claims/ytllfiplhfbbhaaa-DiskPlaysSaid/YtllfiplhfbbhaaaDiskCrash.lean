/-
  A disk's Crash: what it leaves; behind a crash it is refused. Conditions: at most two million loose bytes, each at a place that there is.
-/
import Derived.Test.YtllfiplhfbbhaaaDiskSync
import Derived.Deep.QuietTactic
namespace Go.Proofs.Ytllfiplhfbbhaaa
open Go.RowKit
attribute [local go_sem ↓] Go.wp_at_zero Go.wp_at_succ

def putLo (s : List UInt8) (x : Nat × UInt8) : List UInt8 := s.set x.1 x.2
def DS.left (D : DS) (k : Nat) : List UInt8 := (D.lo.take k).foldl putLo D.sure

theorem left_succ (D : DS) (i : Nat) (x : Nat × UInt8) (h : D.lo[i]? = some x) : D.left (i + 1) = (D.left i).set x.1 x.2 := by
  have hi := (List.getElem?_eq_some_iff.1 h).1
  simp only [DS.left]
  rw [List.take_succ_eq_append_getElem hi, List.foldl_append, (List.getElem?_eq_some_iff.1 h).2]
  rfl
theorem left_len (D : DS) (i : Nat) : (D.left i).length = D.sure.length := by
  simp only [DS.left]
  generalize D.lo.take i = l
  generalize D.sure = s
  induction l generalizing s with
  | nil => rfl
  | cons x l ih => simp only [List.foldl_cons]; rw [ih]; simp [putLo]
theorem LV_at (l : List (Nat × UInt8)) (i : Nat) (x : Nat × UInt8) (h : l[i]? = some x) : (LV l)[i * 2]? = some (.int .i64 x.1) ∧ (LV l)[i * 2 + 1]? = some (.int .u8 x.2.toNat) := by
  induction l generalizing i with
  | nil => simp at h
  | cons y l ih =>
    cases i with
    | zero => simp at h; subst h; simp [LV]
    | succ i =>
      have := ih i (by simpa using h)
      simp only [LV, List.flatMap_cons] at this ⊢
      rw [show (i + 1) * 2 = i * 2 + 2 by omega]
      simpa using this

section
variable {w w0 : World} {p : Nat} {D : DS} {gn cn gs cs : Nat} {sl : Option Addr} {cl : Nat}
theorem DiskAt.putSure (h : DiskAt w p D gn cn gs cs sl cl) (h0 : Keeps (fun _ => False) w w0) (a : Nat) (b : UInt8) :
    DiskAt (w0.setCell ⟨gs, a, none⟩ (.int .u8 b.toNat)) p { D with sure := D.sure.set a b } gn cn gs cs sl cl ∧ Keeps (Foot p gn gs sl) w (w0.setCell ⟨gs, a, none⟩ (.int .u8 b.toNat)) := by
  have ap := h.apart
  have h1 := h.keep h0 (fun _ _ h => h)
  have hk : Keeps (fun k => k = gs) w0 (w0.setCell ⟨gs, a, none⟩ (.int .u8 b.toNat)) := (Keeps.refl (fun k => k = gs) w0).setCell (p := ⟨gs, a, none⟩) (fun _ => rfl) _
  refine ⟨⟨?_, ?_, ?_, ?_, h.ne⟩, (h0.mono (fun _ _ h => h.elim)).trans hk (fun k _ e => Or.inr (Or.inr (Or.inl e)))⟩
  · rw [hk.block p h1.nlt.1 ap.2.1]; exact h1.blk
  · exact own_keep h1.now hk (fun k e => by simp [Value.ownBlock] at e; omega)
  · have := (h1.sure.stored a (.int .u8 b.toNat)).1
    simpa [BV, List.map_set] using this
  · exact own_keep h1.lo hk (fun k e => by
      rcases own_addr h1.lo with ⟨rfl, _⟩ | ⟨g, rfl⟩
      · simp [Value.ownBlock] at e
      · simp [Value.ownBlock] at e; have := (ap.2.2.2 g rfl).2.2; omega)
end

theorem DiskAt.crashed {w w' : World} {p : Nat} {D : DS} {gn cn gs cs : Nat} {sl : Option Addr} {cl : Nat} (h : DiskAt w p D gn cn gs cs sl cl)
    (hown : w'.ownsRow 0 5 1 (.slice (some ⟨gn, 0, none⟩) D.now.length cn) D.now.length (splice (BV D.now) 0 (BV D.sure))) (hg : w.grownBy w' (some gn)) :
    DiskAt ((w'.setCell ⟨p, 2, none⟩ (.slice none 0 0)).setCell ⟨p, 3, none⟩ (.bool true)) p ⟨D.sure, D.sure, [], true⟩ gn cn gs cs none 0 ∧ Keeps (Foot p gn gs sl) w ((w'.setCell ⟨p, 2, none⟩ (.slice none 0 0)).setCell ⟨p, 3, none⟩ (.bool true)) := by
  have ap := h.apart
  have nl := h.nlt
  have hk : Keeps (fun k => k = gn) w w' := keeps_grown hg (fun k e => (Option.some.inj e).symm)
  have hk2 : Keeps (fun k => k = p) w' ((w'.setCell ⟨p, 2, none⟩ (.slice none 0 0)).setCell ⟨p, 3, none⟩ (.bool true)) :=
    ((Keeps.refl (fun k => k = p) w').setCell (p := ⟨p, 2, none⟩) (fun _ => rfl) _).setCell (p := ⟨p, 3, none⟩) (fun _ => rfl) _
  have hk3 : Keeps (fun k => k = p ∨ k = gn) w ((w'.setCell ⟨p, 2, none⟩ (.slice none 0 0)).setCell ⟨p, 3, none⟩ (.bool true)) :=
    (hk.mono (fun _ _ h => Or.inr h)).trans hk2 (fun _ _ h => Or.inl h)
  have hb' : w'.heap[p]? = w.heap[p]? := hk.block p nl.1 ap.1
  have hs := h.sure_len
  rw [splice_all _ _ (by simp [hs])] at hown
  refine ⟨⟨?_, ?_, ?_, ?_, h.ne⟩, hk3.mono (fun k _ e => ?_)⟩
  · rw [heap_setCell_at (heap_setCell_at (hb'.trans h.blk) _ _)]; simp [hs]
  · simpa [hs] using own_keep hown hk2 (fun k e => by simp [Value.ownBlock] at e; omega)
  · simpa [hs] using own_keep h.sure hk3 (fun k e => by simp [Value.ownBlock] at e; omega)
  · exact World.ownsRow_nil _ _ _ _
  · rcases e with rfl | rfl
    · exact Or.inl rfl
    · exact Or.inr (Or.inl rfl)

/-- What holds at the head of each round of Crash's loop. -/
def CRel (w : World) (p : Nat) (D : DS) (gn cn gs cs : Nat) (sl : Option Addr) (cl : Nat) (m : Nat) (i : Value) (wr : World) : Prop :=
  ∃ (k : Nat), k ≤ m ∧ i = .int .i64 k ∧ DiskAt wr p { D with sure := D.left k } gn cn gs cs sl cl ∧ Keeps (Foot p gn gs sl) w wr

set_option maxHeartbeats 1000000 in
theorem crash1_ok (c0 c1 p : Nat) (left : Int) (n nl : Nat) (D : DS) (gn cn gs cs : Nat) (sl : Option Addr) (cl : Nat) (w : World)
    (h : DiskAt w p D gn cn gs cs sl cl) (hn : D.now.length = n) (hnl : D.lo.length = nl) (k0 : w.cell? ⟨c0, 0, none⟩ = some (.pointer (some ⟨p, 0, none⟩))) (k1 : w.cell? ⟨c1, 0, none⟩ = some (.int .i64 left))
    (n0 : ¬ Foot p gn gs sl c0) (n1 : ¬ Foot p gn gs sl c1) (hlo : nl ≤ 2000000) (hin : ∀ x ∈ D.lo, x.1 < n) (mx : Int) (k : Nat) (e1 : (if left < 0 then 0 else left) = mx) (e2 : (if (nl : Int) < mx then (nl : Int) else mx) = (k : Int)) :
    Calls Try.prog 37 #[.pointer (some ⟨c0, 0, none⟩), .pointer (some ⟨c1, 0, none⟩)] w fun e w' => e = .returned (.int .i64 0) ∧
      DiskAt w' p ⟨D.left k, D.left k, [], true⟩ gn cn gs cs none 0 ∧ Keeps (Foot p gn gs sl) w w' := by
  have q0 := cellAt h.blk 0
  have q1 := cellAt h.blk 1
  have q2 := cellAt h.blk 2
  have z2 := freeAt h.blk 2
  rw [hn] at q0 q1
  rw [hnl] at q2
  simp at q0 q1 q2
  have hcl : nl ≤ cl := by
    rcases h.lo.2 with ⟨h', h''⟩ | ⟨_, _, _, h', _, _, h'', _⟩
    · omega
    · simp at h'; omega
  have hk : k ≤ nl := by split at e2 <;> omega
  have i1 : (0 : Int) ≤ (k : Int) := by omega
  have i2 : (k : Int) ≤ (nl : Int) := by omega
  have i3 : (nl : Int) ≤ (cl : Int) := by omega
  have i4 : (k : Int) ≤ (cl : Int) := by omega
  have H := Lib.hid h
  have HN := Lib.hid (And.intro hn (And.intro hnl (And.intro n0 (And.intro n1 hin))))
  clear h hn hnl n0 n1 hin
  go_enter Try.func37, Try.ntmps37
  go_wp2_with fail
  go_quiet (fail)
  have h0 : DiskAt (w.drewN nq) p { D with sure := D.left 0 } gn cn gs cs sl cl := H.out.keep (w' := w.drewN nq) ⟨rfl, rfl, rfl, Nat.le_refl _, fun _ _ _ => rfl⟩ (fun _ _ (h : False) => h)
  have hk0 : Keeps (Foot p gn gs sl) w (w.drewN nq) := ⟨rfl, rfl, rfl, Nat.le_refl _, fun _ _ _ => rfl⟩
  have H0 := Lib.hid (And.intro h0 hk0)
  clear h0 hk0
  go_wp2_with fail
  go_loopw [19] (fun i wr => CRel w p D gn cn gs cs sl cl k i wr) (fun i _ => k - (intOf i).toNat)
  case atStart => exact ⟨0, Nat.zero_le _, rfl, H0.out.1, H0.out.2⟩
  case round =>
    obtain ⟨i, hi, rfl, hd, hkp⟩ := hrel
    have HD := Lib.hid hd
    have HKP := Lib.hid hkp
    clear hd hkp
    by_cases hlt : i < k
    · obtain ⟨hn, hnl, n0, n1, hin⟩ := HN.out
      obtain ⟨x, hx⟩ : ∃ x, D.lo[i]? = some x := ⟨_, List.getElem?_eq_getElem (by omega)⟩
      have hxn := hin x (List.mem_of_getElem? hx)
      obtain ⟨gl, rfl⟩ : ∃ gl, sl = some ⟨gl, 0, none⟩ := by
        rcases own_addr H.out.lo with ⟨_, h, _⟩ | h
        · omega
        · exact h
      have c1 := own_cell HD.out.lo _ _ (LV_at _ _ _ hx).1
      have c2 := own_cell HD.out.lo _ _ (LV_at _ _ _ hx).2
      have r0 : wr.cell? ⟨c0, 0, none⟩ = some (.pointer (some ⟨p, 0, none⟩)) := (HKP.out.cell (World.block_lt_of_cell? w _ k0) n0).trans k0
      have r1 := cellAt HD.out.blk 1
      simp only [hn] at r1
      simp at r1
      have HX := Lib.hid hx
      clear hn hnl n0 n1 hin hx k0 k1 q0 q1 q2 z2
      have j1 : (0 : Int) ≤ (i : Int) := by omega
      have j2 : (i : Int) < (k : Int) := by omega
      have hW : Hid (∀ X, X = Obj.cells #[.int .i64 (x.1 : Int), .int .u8 (x.2.toNat : Int)] 69 → Keeps (fun _ => False) wr (wr.alloc X) ∧ (wr.alloc X).cell? ⟨c0, 0, none⟩ = some (.pointer (some ⟨p, 0, none⟩)) ∧ (wr.alloc X).cell? ⟨p, 1, none⟩ = some (.slice (some ⟨gs, 0, none⟩) n cs) ∧
          (wr.alloc X).cell? ⟨wr.heap.size, 0, none⟩ = some (.int .i64 (x.1 : Int)) ∧ (wr.alloc X).cell? ⟨wr.heap.size, 1, none⟩ = some (.int .u8 (x.2.toNat : Int)) ∧ (∃ v, (wr.alloc X).cell? ⟨gs, x.1, none⟩ = some v) ∧ (wr.alloc X).frozen? ⟨gs, x.1, none⟩ = false) := by
        intro X hX
        have hk := (Keeps.refl (fun _ => False) wr).alloc X
        have hnew := heap_alloc_new wr X
        subst hX
        refine ⟨hk, (hk.cell (World.block_lt_of_cell? wr _ r0) (fun h => h)).trans r0, (hk.cell (World.block_lt_of_cell? wr _ r1) (fun h => h)).trans r1, by rw [cellAt hnew 0]; rfl, by rw [cellAt hnew 1]; rfl, ?_, ?_⟩
        · have hc := HD.out.sure.cellAt x.1 (by simp only [HN.out.1]; omega)
          rw [List.getElem?_eq_getElem (by simp only [BV_length, left_len, H.out.sure_len, HN.out.1]; omega)] at hc
          exact ⟨_, (hk.cell (p := ⟨gs, x.1, none⟩) HD.out.nlt.2.2.1 (fun h => h)).trans hc⟩
        · exact (hk.frozen (p := ⟨gs, x.1, none⟩) HD.out.nlt.2.2.1 (fun h => h)).trans (HD.out.sure.frozenAt _)
      have HN0 : Hid (c0 ≠ gs ∧ p ≠ gs ∧ wr.heap.size ≠ gs) := ⟨fun e => HN.out.2.2.1 (Or.inr (Or.inr (Or.inl e))), HD.out.apart.2.1, fun e => by have := HD.out.nlt.2.2.1; omega⟩
      go_wp2_with fail
      have hw := hW.out _ rfl
      generalize wr.alloc (Obj.cells #[.int .i64 (x.1 : Int), .int .u8 (x.2.toNat : Int)] 69) = W at hw
      obtain ⟨hk2, s0, s1, s2, s3, ⟨v4, s4⟩, s5⟩ := hw
      have HK2 := Lib.hid hk2
      clear hk2 hW r0 r1 c1 c2
      generalize wr.heap.size = b4 at *
      have m1 : (0 : Int) ≤ (x.1 : Int) := by omega
      have m2 : (x.1 : Int) < (n : Int) := by omega
      have HS2 : Hid (∀ v, ((W.setCell ⟨gs, x.1, none⟩ v).cell? ⟨c0, 0, none⟩ = some (.pointer (some ⟨p, 0, none⟩)) ∧ (W.setCell ⟨gs, x.1, none⟩ v).cell? ⟨p, 1, none⟩ = some (.slice (some ⟨gs, 0, none⟩) n cs) ∧ (W.setCell ⟨gs, x.1, none⟩ v).cell? ⟨b4, 0, none⟩ = some (.int .i64 (x.1 : Int)) ∧ (W.setCell ⟨gs, x.1, none⟩ v).cell? ⟨b4, 1, none⟩ = some (.int .u8 (x.2.toNat : Int)))) := by
        intro v
        have hk : Keeps (fun k => k = gs) W (W.setCell ⟨gs, x.1, none⟩ v) := (Keeps.refl (fun k => k = gs) W).setCell (p := ⟨gs, x.1, none⟩) (fun _ => rfl) _
        exact ⟨(hk.cell (World.block_lt_of_cell? W _ s0) HN0.out.1).trans s0, (hk.cell (World.block_lt_of_cell? W _ s1) HN0.out.2.1).trans s1, (hk.cell (World.block_lt_of_cell? W _ s2) HN0.out.2.2).trans s2, (hk.cell (World.block_lt_of_cell? W _ s3) HN0.out.2.2).trans s3⟩
      go_region_held3 (fun w' => w'.cell? ⟨c0, 0, none⟩ = some (.pointer (some ⟨p, 0, none⟩)) ∧ w'.cell? ⟨p, 1, none⟩ = some (.slice (some ⟨gs, 0, none⟩) n cs) ∧ w'.cell? ⟨b4, 0, none⟩ = some (.int .i64 (x.1 : Int)) ∧ w'.cell? ⟨b4, 1, none⟩ = some (.int .u8 (x.2.toNat : Int)))
        (first | exact HS2.out _ | go_keep) (fail)
      have R := DiskAt.putSure HD.out HK2.out x.1 x.2
      have HR := Lib.hid R
      clear R s0 s1 s2 s3 s4 s5
      go_wp2
      go_roundw
      case rel =>
        obtain ⟨R1, R2⟩ := HR.out
        refine ⟨i + 1, by omega, by go_num, ?_, (HKP.out.trans R2 (fun _ _ h => h)).drew⟩
        have e : { { D with sure := D.left i } with sure := (D.left i).set x.1 x.2 } = { D with sure := D.left (i + 1) } := by rw [left_succ D i x HX.out]
        rw [← e]
        exact R1.keep (Keeps.refl (fun _ => False) _).drew (fun _ _ h => h)
      case measure => simp [intOf]; omega
    · obtain rfl : i = k := by omega
      obtain ⟨hn, hnl, n0, n1, hin⟩ := HN.out
      have r0 : wr.cell? ⟨c0, 0, none⟩ = some (.pointer (some ⟨p, 0, none⟩)) := (HKP.out.cell (World.block_lt_of_cell? w _ k0) n0).trans k0
      have r1 := cellAt HD.out.blk 1
      have r2 := cellAt HD.out.blk 0
      simp only [hn] at r1 r2
      simp at r1 r2
      have HO : Hid (wr.ownsRow 0 5 1 (.slice (some ⟨gn, 0, none⟩) n cn) n (BV D.now)) := by rw [← hn]; exact HD.out.now
      have HC : Hid (∀ w1 : World, wr.drew.grownBy w1 (some gn) → (w1.cell? ⟨c0, 0, none⟩ = some (.pointer (some ⟨p, 0, none⟩)) ∧ w1.cell? ⟨p, 0, none⟩ = some (.slice (some ⟨gn, 0, none⟩) n cn) ∧ w1.cell? ⟨p, 1, none⟩ = some (.slice (some ⟨gs, 0, none⟩) n cs)) ∧ (∃ v, w1.cell? ⟨p, 2, none⟩ = some v) ∧ (∃ v, w1.cell? ⟨p, 3, none⟩ = some v) ∧ w1.frozen? ⟨p, 2, none⟩ = false ∧ w1.frozen? ⟨p, 3, none⟩ = false) := by
        intro w1 hg
        have hk : Keeps (fun k => k = gn) wr w1 := (Keeps.refl _ wr).drew.grown hg (fun k e _ => (Option.some.inj e).symm)
        have ap := HD.out.apart.1
        have lt := HD.out.nlt.1
        refine ⟨⟨?_, ?_, ?_⟩, ?_, ?_, ?_, ?_⟩
        · exact (hk.cell (World.block_lt_of_cell? wr _ r0) (fun e => n0 (Or.inr (Or.inl e)))).trans r0
        · exact (hk.cell (p := ⟨p, 0, none⟩) lt ap).trans r2
        · exact (hk.cell (p := ⟨p, 1, none⟩) lt ap).trans r1
        · exact ⟨_, (hk.cell (p := ⟨p, 2, none⟩) lt ap).trans (cellAt HD.out.blk 2)⟩
        · exact ⟨_, (hk.cell (p := ⟨p, 3, none⟩) lt ap).trans (cellAt HD.out.blk 3)⟩
        · exact (hk.frozen (p := ⟨p, 2, none⟩) lt ap).trans (freeAt HD.out.blk 2)
        · exact (hk.frozen (p := ⟨p, 3, none⟩) lt ap).trans (freeAt HD.out.blk 3)
      have HL : Hid ((BV (D.left i)).length = n) := by show _ = _; simp only [BV_length, left_len, H.out.sure_len, hn]
      have HP : Hid (∀ (j : Nat) (v : Value), (BV (D.left i))[j]? = some v → wr.drew.cell? ((⟨gs, 0, none⟩ : Addr).add j) = some v) := by
        intro j v hv
        rw [addr_add, Nat.zero_add]
        exact own_cell HD.out.sure j v hv
      have HCP : Hid (p ≠ c0) := fun e => n0 (Or.inl e.symm)
      clear hn hnl n0 n1 hin k0 k1 q0 q1 q2 z2 e1 e2
      go_wp2_with fail
      go_region_held3 (fun w' => w'.cell? ⟨c0, 0, none⟩ = some (.pointer (some ⟨p, 0, none⟩)) ∧ w'.cell? ⟨p, 0, none⟩ = some (.slice (some ⟨gn, 0, none⟩) n cn) ∧ w'.cell? ⟨p, 1, none⟩ = some (.slice (some ⟨gs, 0, none⟩) n cs))
        (first | exact (HC.out _ hg1).1 | go_keep)
        ((refine step_copy _ (by rfl) (.tmp 36) (.tmp 40) 27 27 (by rfl) 5 Try.underlying27 (by kernel_rfl) _ _ _ _ _ _ (by rfl) (by rfl) 0 gn n cn (BV D.now) HO.out.drew 0 (BV (D.left i)) (by rw [HL.out]; exact (Nat.min_self _).symm) (by rw [HL.out]; omega) (fun _ => ⟨rfl, ⟨gs, 0, none⟩, rfl, HP.out⟩) (BV_one _) ?_; intro w1 hown1 hg1))
      obtain ⟨⟨e0, e1, e2⟩, ⟨v2, e3⟩, ⟨v3, e4⟩, e5, e6⟩ := HC.out _ hg1
      have R := DiskAt.crashed (w := wr.drew) (HD.out.keep (Keeps.refl (fun _ => False) wr).drew (fun _ _ h => h)) (by simp only [HN.out.1]; exact hown1) hg1
      have HR := Lib.hid R
      clear R hown1 hg1 r0 r1 r2
      have HS3 : Hid (∀ (v : Value) (j : Nat), (w1.setCell ⟨p, j, none⟩ v).cell? ⟨c0, 0, none⟩ = some (.pointer (some ⟨p, 0, none⟩))) := fun v j =>
        (((Keeps.refl (fun k => k = p) w1).setCell (p := ⟨p, j, none⟩) (fun _ => rfl) v).cell (World.block_lt_of_cell? w1 _ e0) (fun e => HCP.out e.symm)).trans e0
      have HS4 : Hid (∀ (v v' : Value) (j j' : Nat), ((w1.setCell ⟨p, j, none⟩ v).setCell ⟨p, j', none⟩ v').cell? ⟨c0, 0, none⟩ = some (.pointer (some ⟨p, 0, none⟩))) := fun v v' j j' =>
        ((((Keeps.refl (fun k => k = p) w1).setCell (p := ⟨p, j, none⟩) (fun _ => rfl) v).setCell (p := ⟨p, j', none⟩) (fun _ => rfl) v').cell (World.block_lt_of_cell? w1 _ e0) (fun e => HCP.out e.symm)).trans e0
      go_wp2_with fail
      go_region_held3 (fun w' => w'.cell? ⟨c0, 0, none⟩ = some (.pointer (some ⟨p, 0, none⟩)))
        (first | exact HS3.out _ _ | exact HS4.out _ _ _ _ | go_keep) (fail)
      go_wp2
      go_ret
      refine ⟨rfl, HR.out.1.keep (Keeps.refl (fun _ => False) _).drew (fun _ _ h => h), ?_⟩
      exact (HKP.out.drew.trans HR.out.2 (fun _ _ h => h)).drew

theorem box2 {w : World} {p : Nat} {D : DS} {gn cn gs cs : Nat} {sl : Option Addr} {cl : Nat} (h : DiskAt w p D gn cn gs cs sl cl) (a b : Obj) :
    Keeps (fun _ => False) w ((w.alloc a).alloc b) ∧ DiskAt ((w.alloc a).alloc b) p D gn cn gs cs sl cl ∧ ((w.alloc a).alloc b).heap[w.heap.size]? = some a ∧ ((w.alloc a).alloc b).heap[w.heap.size + 1]? = some b := by
  have hk : Keeps (fun _ => False) w ((w.alloc a).alloc b) := ((Keeps.refl _ w).alloc a).alloc b
  refine ⟨hk, h.keep hk (fun _ _ h => h), (Below.heap_alloc (w.alloc a) b _ (by simp)).trans (heap_alloc_new w a), by simpa using heap_alloc_new (w.alloc a) b⟩

/-- How many loose bytes a crash leaves. -/
def leftNat (left : Int) (nl : Nat) : Nat := min left.toNat nl
def DS.crash (D : DS) (left : Int) : DS := ⟨D.left (leftNat left D.lo.length), D.left (leftNat left D.lo.length), [], true⟩

theorem crash_ok (p : Nat) (left : Int) (D : DS) (F : Nat → Prop) (w : World) (h : Disk w p D F) (hcr : D.cr = false) (hlo : D.lo.length ≤ 2000000) (hin : ∀ x ∈ D.lo, x.1 < D.now.length) :
    Calls Try.prog 26 #[.pointer (some ⟨p, 0, none⟩), .int .i64 left] w fun e w' => e = .returned (.int .i64 0) ∧
      ∃ F', Disk w' p (D.crash left) F' ∧ Keeps F w w' ∧ (∀ k, F' k → F k ∨ w.heap.size ≤ k) := by
  obtain ⟨gn, cn, gs, cs, sl, cl, h, rfl⟩ := h
  have H := Lib.hid (And.intro h (And.intro hcr hin))
  clear h hcr hin
  go_enter Try.func26, Try.ntmps26
  go_wp2_with fail
  have hs := box2 H.out.1 (.cells #[.pointer (some ⟨p, 0, none⟩)] 23) (.cells #[.int .i64 left] 3)
  generalize (w.alloc (.cells #[.pointer (some ⟨p, 0, none⟩)] 23)).alloc (.cells #[.int .i64 left] 3) = W at hs
  obtain ⟨hk, hd, b0, b1⟩ := hs
  have q3 := cellAt hd.blk 3
  simp [H.out.2.1] at q3
  refine (up_do 37 _ p W (fun n w' => n = 0 ∧ DiskAt w' p (D.crash left) gn cn gs cs none 0 ∧ Keeps (Foot p gn gs sl) W w') (fun _ => rfl) q3 ?_).mono ?_
  · refine (crash1_ok w.heap.size (w.heap.size + 1) p left _ _ D gn cn gs cs sl cl W hd rfl rfl (by simpa using cellAt b0 0) (by simpa using cellAt b1 0) (fun hf => Nat.lt_irrefl _ (H.out.1.foot_lt _ hf)) (fun hf => by have := H.out.1.foot_lt _ hf; omega) hlo H.out.2.2 _ (leftNat left D.lo.length) rfl ?_).mono ?_
    · unfold leftNat; split <;> split at * <;> omega
    · rintro e w' ⟨rfl, r⟩
      exact ⟨0, rfl, rfl, r⟩
  · rintro e w' ⟨n, rfl, rfl, r1, r2⟩
    go_wp2
    go_ret
    exact ⟨rfl, _, ⟨gn, cn, gs, cs, none, 0, r1, rfl⟩, (hk.mono (fun _ _ h => h.elim)).trans r2 (fun _ _ h => h), fun k hf => Or.inl (foot_same k hf)⟩

theorem crash_down (p : Nat) (left : Int) (D : DS) (F : Nat → Prop) (w : World) (h : Disk w p D F) (hcr : D.cr = true) :
    Calls Try.prog 26 #[.pointer (some ⟨p, 0, none⟩), .int .i64 left] w fun e w' => e = .returned (.int .i64 30) ∧ Keeps (fun _ => False) w w' := by
  obtain ⟨gn, cn, gs, cs, sl, cl, h, rfl⟩ := h
  have H := Lib.hid (And.intro h hcr)
  clear h hcr
  go_enter Try.func26, Try.ntmps26
  go_wp2_with fail
  have hs := box2 H.out.1 (.cells #[.pointer (some ⟨p, 0, none⟩)] 23) (.cells #[.int .i64 left] 3)
  generalize (w.alloc (.cells #[.pointer (some ⟨p, 0, none⟩)] 23)).alloc (.cells #[.int .i64 left] 3) = W at hs
  obtain ⟨hk, hd, b0, b1⟩ := hs
  have q3 := cellAt hd.blk 3
  simp [H.out.2] at q3
  refine (up_no 37 _ p W q3).mono ?_
  rintro e w' ⟨rfl, rfl⟩
  go_wp2
  go_ret
  exact ⟨rfl, hk⟩
end Go.Proofs.Ytllfiplhfbbhaaa
