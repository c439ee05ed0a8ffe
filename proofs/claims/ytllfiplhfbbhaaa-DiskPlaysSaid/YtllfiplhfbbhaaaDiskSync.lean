/-
  A disk's Sync: what it leaves; behind a crash it is refused. Condition: sizes up to 65536.
-/
import Derived.Test.YtllfiplhfbbhaaaDiskWrite
namespace Go.Proofs.Ytllfiplhfbbhaaa
open Go.RowKit
attribute [local go_sem ↓] Go.wp_at_zero Go.wp_at_succ

def DS.sync (D : DS) : DS := { D with sure := D.now, lo := [] }

theorem splice_all {α : Type} (a b : List α) (h : a.length = b.length) : splice a 0 b = b := by
  simp [splice, h]

section
variable {w w' : World} {p : Nat} {D : DS} {gn cn gs cs : Nat} {sl : Option Addr} {cl : Nat}
theorem DiskAt.sure_len (h : DiskAt w p D gn cn gs cs sl cl) : D.sure.length = D.now.length := by
  have := h.sure.1
  simpa using this

/-- Behind Sync's copy and store. -/
theorem DiskAt.synced (h : DiskAt w p D gn cn gs cs sl cl) (hown : w'.ownsRow 0 5 1 (.slice (some ⟨gs, 0, none⟩) D.now.length cs) D.now.length (splice (BV D.sure) 0 (BV D.now))) (hg : w.grownBy w' (some gs)) :
    DiskAt (w'.setCell ⟨p, 2, none⟩ (.slice none 0 0)) p D.sync gn cn gs cs none 0 ∧ Keeps (Foot p gn gs sl) w (w'.setCell ⟨p, 2, none⟩ (.slice none 0 0)) := by
  have ap := h.apart
  have nl := h.nlt
  have hk : Keeps (fun k => k = gs) w w' := keeps_grown hg (fun k e => (Option.some.inj e).symm)
  have hk2 : Keeps (fun k => k = p) w' (w'.setCell ⟨p, 2, none⟩ (.slice none 0 0)) := (Keeps.refl (fun k => k = p) w').setCell (p := ⟨p, 2, none⟩) (fun _ => rfl) _
  have hk3 : Keeps (fun k => k = p ∨ k = gs) w (w'.setCell ⟨p, 2, none⟩ (.slice none 0 0)) :=
    (hk.mono (fun _ _ h => Or.inr h)).trans hk2 (fun _ _ h => Or.inl h)
  have hb' : w'.heap[p]? = w.heap[p]? := hk.block p nl.1 ap.2.1
  rw [splice_all _ _ (by simp [h.sure_len])] at hown
  refine ⟨⟨?_, ?_, ?_, ?_, h.ne⟩, hk3.mono (fun k _ e => ?_)⟩
  · rw [heap_setCell_at (hb'.trans h.blk)]; simp [DS.sync]
  · exact own_keep h.now hk3 (fun k e => by simp [Value.ownBlock] at e; omega)
  · exact own_keep hown hk2 (fun k e => by simp [Value.ownBlock] at e; omega)
  · exact World.ownsRow_nil _ _ _ _
  · rcases e with rfl | rfl
    · exact Or.inl rfl
    · exact Or.inr (Or.inr (Or.inl rfl))
end

set_option maxHeartbeats 1000000 in
theorem sync1_ok (c0 p : Nat) (n : Nat) (D : DS) (gn cn gs cs : Nat) (sl : Option Addr) (cl : Nat) (w : World)
    (h : DiskAt w p D gn cn gs cs sl cl) (hn : D.now.length = n) (k0 : w.cell? ⟨c0, 0, none⟩ = some (.pointer (some ⟨p, 0, none⟩)))
    (n0 : ¬ Foot p gn gs sl c0) :
    Calls Try.prog 39 #[.pointer (some ⟨c0, 0, none⟩)] w fun e w' => e = .returned (.int .i64 0) ∧
      DiskAt w' p D.sync gn cn gs cs none 0 ∧ Keeps (Foot p gn gs sl) w w' := by
  have q0 := cellAt h.blk 0
  have q1 := cellAt h.blk 1
  have z2 := freeAt h.blk 2
  rw [hn] at q0 q1
  simp at q0 q1
  have HO : Hid (w.ownsRow 0 5 1 (.slice (some ⟨gs, 0, none⟩) n cs) n (BV D.sure)) := by rw [← hn]; exact h.sure
  have HC : Hid (∀ w1 : World, w.drew.grownBy w1 (some gs) → (w1.cell? ⟨c0, 0, none⟩ = some (.pointer (some ⟨p, 0, none⟩)) ∧ w1.cell? ⟨p, 0, none⟩ = some (.slice (some ⟨gn, 0, none⟩) n cn) ∧ w1.cell? ⟨p, 1, none⟩ = some (.slice (some ⟨gs, 0, none⟩) n cs)) ∧ (∃ v, w1.cell? ⟨p, 2, none⟩ = some v) ∧ w1.frozen? ⟨p, 2, none⟩ = false) := by
    intro w1 hg
    have hk : Keeps (fun k => k = gs) w w1 := (Keeps.refl _ w).drew.grown hg (fun k e _ => (Option.some.inj e).symm)
    have ap := h.apart.2.1
    refine ⟨⟨?_, ?_, ?_⟩, ?_, ?_⟩
    · rw [hk.cell (World.block_lt_of_cell? w _ k0) (fun e => n0 (Or.inr (Or.inr (Or.inl e))))]; exact k0
    · exact (hk.cell (p := ⟨p, 0, none⟩) h.nlt.1 ap).trans q0
    · exact (hk.cell (p := ⟨p, 1, none⟩) h.nlt.1 ap).trans q1
    · exact ⟨_, (hk.cell (p := ⟨p, 2, none⟩) h.nlt.1 ap).trans (cellAt h.blk 2)⟩
    · exact (hk.frozen (p := ⟨p, 2, none⟩) h.nlt.1 ap).trans z2
  have HP : Hid (∀ (j : Nat) (v : Value), (BV D.now)[j]? = some v → w.drew.cell? ((⟨gn, 0, none⟩ : Addr).add j) = some v) := by
    intro j v hv
    rw [addr_add, Nat.zero_add]
    exact own_cell h.now j v hv
  have H := Lib.hid h
  have HN := Lib.hid hn
  have HF := Lib.hid n0
  clear h hn n0
  go_enter Try.func39, Try.ntmps39
  go_wp2_with fail
  go_region_held3 (fun w' => w'.cell? ⟨c0, 0, none⟩ = some (.pointer (some ⟨p, 0, none⟩)) ∧ w'.cell? ⟨p, 0, none⟩ = some (.slice (some ⟨gn, 0, none⟩) n cn) ∧ w'.cell? ⟨p, 1, none⟩ = some (.slice (some ⟨gs, 0, none⟩) n cs))
    (first | exact (HC.out _ hg1).1 | go_keep)
    ((refine step_copy _ (by rfl) (.tmp 5) (.tmp 9) 27 27 (by rfl) 5 Try.underlying27 (by kernel_rfl) _ _ _ _ _ _ (by rfl) (by rfl) 0 gs n cs (BV D.sure) HO.out.drew 0 (BV D.now) (by rw [BV_length, HN.out]; exact (Nat.min_self _).symm) (by rw [BV_length, HN.out]; omega) (fun _ => ⟨rfl, ⟨gn, 0, none⟩, rfl, HP.out⟩) (BV_one _) ?_; intro w1 hown1 hg1))
  obtain ⟨⟨e0, e1, e2⟩, ⟨v2, e3⟩, e4⟩ := HC.out _ hg1
  have R := DiskAt.synced (w := w.drew) (H.out.keep (Keeps.refl (fun _ => False) w).drew (fun _ _ h => h)) (by rw [HN.out]; exact hown1) hg1
  have HR := Lib.hid R
  clear R hown1 hg1
  go_wp2
  go_ret
  exact ⟨rfl, HR.out.1, ((Keeps.refl _ w).drew).trans HR.out.2 (fun _ _ h => h)⟩

theorem box1 {w : World} {p : Nat} {D : DS} {gn cn gs cs : Nat} {sl : Option Addr} {cl : Nat} (h : DiskAt w p D gn cn gs cs sl cl) (a : Obj) :
    Keeps (fun _ => False) w (w.alloc a) ∧ DiskAt (w.alloc a) p D gn cn gs cs sl cl ∧ (w.alloc a).heap[w.heap.size]? = some a :=
  ⟨(Keeps.refl _ w).alloc a, h.keep ((Keeps.refl _ w).alloc a) (fun _ _ h => h), heap_alloc_new w a⟩

theorem foot_same {p gn gs : Nat} {sl : Option Addr} : ∀ k, Foot p gn gs none k → Foot p gn gs sl k := by
  intro k hk
  rcases hk with h | h | h | h
  · exact Or.inl h
  · exact Or.inr (Or.inl h)
  · exact Or.inr (Or.inr (Or.inl h))
  · cases h

theorem sync_ok (p : Nat) (D : DS) (F : Nat → Prop) (w : World) (h : Disk w p D F) (hcr : D.cr = false) :
    Calls Try.prog 28 #[.pointer (some ⟨p, 0, none⟩)] w fun e w' => e = .returned (.int .i64 0) ∧
      ∃ F', Disk w' p D.sync F' ∧ Keeps F w w' ∧ (∀ k, F' k → F k ∨ w.heap.size ≤ k) := by
  obtain ⟨gn, cn, gs, cs, sl, cl, h, rfl⟩ := h
  have H := Lib.hid (And.intro h hcr)
  clear h hcr
  go_enter Try.func28, Try.ntmps28
  go_wp2_with fail
  have hs := box1 H.out.1 (.cells #[.pointer (some ⟨p, 0, none⟩)] 23)
  generalize w.alloc (.cells #[.pointer (some ⟨p, 0, none⟩)] 23) = W at hs
  obtain ⟨hk, hd, b0⟩ := hs
  have q3 := cellAt hd.blk 3
  simp [H.out.2] at q3
  refine (up_do 39 _ p W (fun n w' => n = 0 ∧ DiskAt w' p D.sync gn cn gs cs none 0 ∧ Keeps (Foot p gn gs sl) W w') (fun _ => rfl) q3 ?_).mono ?_
  · refine (sync1_ok w.heap.size p _ D gn cn gs cs sl cl W hd rfl (by simpa using cellAt b0 0) (fun hf => Nat.lt_irrefl _ (H.out.1.foot_lt _ hf))).mono ?_
    rintro e w' ⟨rfl, r⟩
    exact ⟨0, rfl, rfl, r⟩
  · rintro e w' ⟨n, rfl, rfl, r1, r2⟩
    go_wp2
    go_ret
    exact ⟨rfl, _, ⟨gn, cn, gs, cs, none, 0, r1, rfl⟩, (hk.mono (fun _ _ h => h.elim)).trans r2 (fun _ _ h => h), fun k hf => Or.inl (foot_same k hf)⟩

theorem sync_down (p : Nat) (D : DS) (F : Nat → Prop) (w : World) (h : Disk w p D F) (hcr : D.cr = true) :
    Calls Try.prog 28 #[.pointer (some ⟨p, 0, none⟩)] w fun e w' => e = .returned (.int .i64 30) ∧ Keeps (fun _ => False) w w' := by
  obtain ⟨gn, cn, gs, cs, sl, cl, h, rfl⟩ := h
  have H := Lib.hid (And.intro h hcr)
  clear h hcr
  go_enter Try.func28, Try.ntmps28
  go_wp2_with fail
  have hs := box1 H.out.1 (.cells #[.pointer (some ⟨p, 0, none⟩)] 23)
  generalize w.alloc (.cells #[.pointer (some ⟨p, 0, none⟩)] 23) = W at hs
  obtain ⟨hk, hd, b0⟩ := hs
  have q3 := cellAt hd.blk 3
  simp [H.out.2] at q3
  refine (up_no 39 _ p W q3).mono ?_
  rintro e w' ⟨rfl, rfl⟩
  go_wp2
  go_ret
  exact ⟨rfl, hk⟩
end Go.Proofs.Ytllfiplhfbbhaaa
