/-
  Joined texts of the proofs of chapter 29: StoreS StoreO StoreQ StoreT. Conditions: those that each theorem names.
-/
import Derived.LaidEqlPtr
import Derived.Test.YtpojkhjenbbodaaJTools
import Derived.Test.YtpojkhjenbbodaaJHash
import Derived.Test.YtpojkhjenbbodaaJStore
namespace Go.Proofs.Ytpojkhjenbbodaa
open Go.RowKit

theorem infoPlace : ∃ j, Try.prog.info? 71 = some j ∧ j.size ≠ 0 := by
  have h : (Try.prog.info? 71).map (·.size) = some 4 := by kernel_rfl
  obtain ⟨j, h1, h2⟩ := Option.map_eq_some_iff.1 h
  exact ⟨j, h1, by omega⟩
/-- The place that is written. -/
def SS.to (S : SS) : Nat := if 0 < S.turn then 1 - S.now else S.now
def SS.atP (S : SS) (i : Nat) : Nat := S.half + i * S.sz
/-- What Set leaves, and tells. -/
def SS.set (S : SS) (k : List UInt8) : SS × Int :=
  if S.sz < k.length + 14 then (S, 3) else if S.d.cr then (S, 30)
  else ({ S with d := ((((S.d.write (S.atP S.to) (keyF (S.turn + 1) k)).sync).zero (S.atP (1 - S.to)) S.sz).sync), now := S.to, turn := S.turn + 1, keys := k }, 0)

theorem zero_len (D : DS) (a n : Nat) (h : a + n ≤ D.now.length) : (D.zero a n).now.length = D.now.length := write_len D a _ (by simpa using h)

/-- How a Set ends: the disk is another one, the block is laid anew. -/
theorem set_fin {w v5 u1 u4 : World} {p pd : Nat} {S : SS} {F R Fd F2 : Nat → Prop} {so : Option Addr} {co : Nat} {vs : List Value} {sk : Option Addr} {ck : Nat} (hst : StAt w p pd S F R Fd so co vs sk ck)
    {D2 : DS} (hd : Disk v5 pd D2 F2) (hnp : ¬ F2 p) (b3 : ∀ k, F2 k → Fd k ∨ w.heap.size ≤ k) (KG : Keeps (fun k => k = p ∨ Fd k) w v5) {l : List UInt8} {n : Nat} (hn : l.length = n) (hnb : n ≤ 65536) {sc_ : Option Addr} {cc : Nat} (hcl : u1.ownsRow v5.heap.size 5 1 (.slice sc_ n cc) n (BV l)) (k1 : Keeps (fun _ => False) v5 u1) (k4 : Keeps (fun k => k = p) u1 u4)
    {to : Nat} (hto : to ≤ 1) (hlen : D2.now.length = S.d.now.length) {tn : Nat} (ht0 : 0 < tn) (ht : tn ≤ 10000000000)
    (hblk : u4.heap[p]? = some (.cells (stCells pd S.half S.used (.slice so S.recs.length co) S.sz to tn (.slice sc_ n cc)) 74 (0, 0))) :
    ∃ F' R', StoreAt u4 p pd { S with d := D2, now := to, turn := tn, keys := l } F' R' ∧ Keeps F w u4 ∧ (∀ k, F' k → F k ∨ w.heap.size ≤ k) ∧ (∀ k, R' k → R k ∨ w.heap.size ≤ k) := by
  have hsop : so ≠ some ⟨p, 0, none⟩ := by
    intro e
    obtain ⟨cur, hcur⟩ := own_blk hst.out e
    rw [hst.blk] at hcur
    simp at hcur
  have hs5 := KG.size
  have hs1 := k1.size
  have hs4 := k4.size
  have hF2lt := hd.lt
  have hlow : ∀ k, so = some ⟨k, 0, none⟩ → k < w.heap.size := fun k e => (own_lt hst.out e).2
  have hplt := lt_of_heap hst.blk
  have kT : Keeps (fun k => k = p ∨ Fd k) w u4 := (KG.quiet k1).trans k4 (fun k _ h => Or.inl h)
  have kTF : Keeps F w u4 := kT.mono (fun k _ h => (hst.foot k).2 (h.imp id Or.inl))
  have kA : Keeps (fun k => k = p) v5 u4 := (k1.mono (fun _ _ h => h.elim)).trans k4 (fun _ _ h => h)
  have hscb : ∀ k, sc_ = some ⟨k, 0, none⟩ → v5.heap.size ≤ k ∧ k < u1.heap.size := fun k e => own_lt hcl e
  have hclu : u4.ownsRow v5.heap.size 5 1 (.slice sc_ n cc) n (BV l) := own_keep hcl k4 (fun k e h => by have := (hcl.lt k e).1; omega)
  have hRno : ∀ k, R k → ¬ (k = p ∨ Fd k) := fun k hr hf => hst.apart k hr ((hst.foot k).2 (hf.imp id Or.inl))
  have hhalf : ({ S with d := D2, now := to, turn := tn, keys := l } : SS).half = S.half := by unfold SS.half; rw [hlen]
  have hsz : ({ S with d := D2, now := to, turn := tn, keys := l } : SS).sz = S.sz := by unfold SS.sz; rw [hlen]
  have hsoF2 : ∀ k, so = some ⟨k, 0, none⟩ → ¬ F2 k := fun k e hf => (b3 k hf).elim (hst.od k e) (fun h => by have := hlow k e; omega)
  refine ⟨fun k => k = p ∨ F2 k ∨ so = some ⟨k, 0, none⟩, fun k => R k ∨ sc_ = some ⟨k, 0, none⟩, ⟨F2, so, co, vs, sc_, cc, ?_⟩, kTF, ?_, ?_⟩
  · refine { blk := ?_, disk := hd.keep kA (fun k hf h => by subst h; exact hnp hf), out := ?_, rows := rows_keep hst.rows hst.rin kT (fun k h hr => hRno k hr h), keys := ?_, rin := ?_, kin := ?_, apart := ?_, pd_ := hnp, od := hsoF2, foot := fun k => Iff.rfl, rlt := ?_, flt := ?_, now1 := hto, nowT := fun _ => ht0, turn0 := fun h => by have h2 : tn = 0 := h; omega, usedH := ?_, size := ?_, small := ?_ }
    · show u4.heap[p]? = some (.cells (stCells pd (SS.half _) S.used (.slice so S.recs.length co) (SS.sz _) to tn (.slice sc_ l.length cc)) 74 (0, 0))
      rw [hhalf, hsz, hn]
      exact hblk
    · refine own_keep hst.out kT (fun k e h => ?_)
      have e2 : so = some ⟨k, 0, none⟩ := by
        rcases own_addr hst.out with ⟨rfl, _⟩ | ⟨g', rfl⟩
        · simp [Value.ownBlock] at e
        · simp [Value.ownBlock] at e; rw [e]
      rcases h with h | h
      · subst h; exact hsop e2
      · exact hst.od k e2 h
    · show Sl u4 sc_ l.length cc (BV l)
      rw [hn]
      exact Sl.of_own hclu
    · exact fun v hv ad m c e h0 => Or.inl (hst.rin v hv ad m c e h0)
    · intro ad m c e h0
      simp only [Value.slice.injEq] at e
      obtain ⟨e1, rfl, rfl⟩ := e
      have h0' : 0 < n := by
        have : l.length = n := hn
        omega
      obtain ⟨g', hg'⟩ := own_some hcl h0'
      rw [hg'] at e1
      cases e1
      exact Or.inr hg'
    · rintro k (hr | hr) hf
      · have hkw := hst.rlt k hr
        rcases hf with hf | hf | hf
        · exact hRno k hr (Or.inl hf)
        · exact (b3 k hf).elim (fun h => hRno k hr (Or.inr h)) (fun h => by omega)
        · exact hst.apart k hr ((hst.foot k).2 (Or.inr (Or.inr hf)))
      · have hkb := hscb k hr
        rcases hf with hf | hf | hf
        · omega
        · have := hF2lt k hf; omega
        · have := hlow k hf; omega
    · rintro k (hr | hr)
      · have := hst.rlt k hr; have := kT.size; omega
      · have := (hscb k hr).2; omega
    · rintro k (hf | hf | hf)
      · have := kT.size; omega
      · have := hF2lt k hf; omega
      · have := hlow k hf; have := kT.size; omega
    · rw [hhalf]; exact hst.usedH
    · show D2.now.length ≤ 65536
      rw [hlen]; exact hst.size
    · exact ⟨hst.small.1, ht, by show l.length ≤ 65536; omega, hst.small.2.2.2⟩
  · rintro k (hf | hf | hf)
    · exact Or.inl ((hst.foot k).2 (Or.inl hf))
    · exact (b3 k hf).imp (fun h => (hst.foot k).2 (Or.inr (Or.inl h))) id
    · exact Or.inl ((hst.foot k).2 (Or.inr (Or.inr hf)))
  · rintro k (hr | hr)
    · exact Or.inl hr
    · exact Or.inr (by have := (hscb k hr).1; omega)

set_option maxHeartbeats 4000000 in
set_option maxRecDepth 10000 in
theorem set_a (p pd : Nat) (S : SS) (F R Fd : Nat → Prop) (so : Option Addr) (co : Nat) (vs : List Value) (sk : Option Addr) (ck : Nat) (w : World) (h : StAt w p pd S F R Fd so co vs sk ck) (sa : Option Addr) (n cap : Nat) (l : List UInt8) (hl : Sl w sa n cap (BV l)) (hn : n ≤ 65536) (hav : ∀ ad, sa = some ad → 0 < n → ¬ F ad.block) (hlo : S.d.lo.length ≤ 1000000) (htn : S.turn + 1 ≤ 10000000000)
    (hnow : S.now = 0) (hturn : S.turn = 0) :
    Calls Try.prog 27 #[.pointer (some ⟨p, 0, none⟩), .slice sa n cap] w fun e w' => e = .returned (.int .i64 (S.set l).2) ∧
      ∃ F' R', StoreAt w' p pd (S.set l).1 F' R' ∧ Keeps F w w' ∧ (∀ k, F' k → F k ∨ w.heap.size ≤ k) ∧ (∀ k, R' k → R k ∨ w.heap.size ≤ k) := by
  have hll : l.length = n := by have := hl.len; simpa using this
  have hto : S.to = 0 := by unfold SS.to; rw [hnow]; rw [if_neg (by omega)]
  have hb := h.blk
  rw [hnow] at hb
  replace hb : w.heap[p]? = some (.cells #[.pointer (some ⟨pd, 0, none⟩), .int .i64 (S.half : Int), .int .i64 (S.used : Int), .slice so S.recs.length co, .int .i64 (S.half : Int), .int .i64 (S.sz : Int), .int .u64 (S.turn : Int), .slice sk S.keys.length ck, .int .i64 ((S.half + S.sz : Nat) : Int), .int .i64 (S.sz : Int), .int .u64 0, .slice none 0 0, .int .i64 0] 74 (0, 0)) := hb
  have HB := Lib.hid hb
  have hsize := h.size
  have hhN : S.half + S.sz + S.sz ≤ S.d.now.length := by unfold SS.half SS.sz; omega
  have hh1 : S.half ≤ 65536 := by omega
  have hz1 : S.sz ≤ 65536 := by omega
  have HS := Lib.hid h
  have HL := Lib.hid hl
  have HAV := Lib.hid hav
  have HLO := Lib.hid hlo
  have HLL := Lib.hid (And.intro hll (And.intro hto hnow))
  have HHN := Lib.hid hhN
  have KG : Hid (Keeps (fun k => k = p ∨ Fd k) w w) := Keeps.refl _ w
  have HQ : Hid (Keeps (fun _ => False) w w) := Keeps.refl _ w
  have HD : Hid (Disk w pd S.d Fd ∧ ¬ Fd p ∧ ∀ k, Fd k → Fd k ∨ w.heap.size ≤ k) := ⟨h.disk, h.pd_, fun _ h => Or.inl h⟩
  have HPL := Lib.hid (lt_of_heap hb)
  have t0 : ¬ (S.turn : Int) > 0 := by omega
  have em1 : max (S.turn : Int) 0 = (S.turn : Int) := by omega
  have em2 : max (0 : Int) (S.turn : Int) = (S.turn : Int) := by omega
  obtain ⟨tn, htnn⟩ : ∃ tn, S.turn + 1 = tn := ⟨_, rfl⟩
  have ew : IntKind.u64.wrap ((S.turn : Int) + 1) = (tn : Int) := by rw [IntKind.wrap_u64]; omega
  have HTN := Lib.hid htnn
  rw [htnn] at htn
  have HT := Lib.hid htn
  have ew1 : IntKind.i64.wrap 1 = 1 := rfl
  have ew0 : IntKind.i64.wrap 0 = 0 := rfl
  clear h hl hav hlo hll hto hb hhN hnow htnn
  have hturn2 := Lib.hid hturn
  clear hturn
  go_enter Try.func27, Try.ntmps27
  go_wp2_with fail
  have c12 := cellAt HB.out 12
  simp at c12
  refine z_begin (fun w' => w'.cell? ⟨p, 12, none⟩ = some (.int .i64 0)) 9 (by kernel_rfl) (c12) (fun hHeld => ?_)
  have hk : Keeps (fun _ => False) w (World.drew w) := (Keeps.refl _ _).drew
  replace HQ := Lib.hid (HQ.out.quiet hk)
  replace HB := Lib.hid ((hk.block p (lt_of_heap HB.out) (fun h => h)).trans HB.out)
  replace KG := Lib.hid (KG.out.quiet hk)
  replace HD := Lib.hid (And.intro (HD.out.1.keep hk (fun _ _ h => h)) HD.out.2)
  clear hk
  generalize World.drew w = u1 at *
  clear c12
  refine z_take 0 (v := ?_) rfl (by kernel_rfl) (by kernel_rfl) (by kernel_rfl) (by kernel_rfl) (fun _ _ _ h => h) hHeld (by rfl) (fun w hSw => ?_) ?_
  rotate_left
  · have hSw1 := hSw; clear hSw; simp only [List.getElem_toArray, List.getElem_cons_zero]; go_simp; try rfl
  simp only [Act.put, List.getElem_toArray, List.getElem_cons_zero, List.setIfInBounds_toArray, List.set_cons_zero, List.set_cons_succ]
  refine z_take 1 (v := ?_) rfl (by kernel_rfl) (by kernel_rfl) (by kernel_rfl) (by kernel_rfl) (fun _ _ _ h => h) hHeld (by rfl) (fun w hSw => ?_) ?_
  rotate_left
  · have hSw1 := hSw; clear hSw; simp only [List.getElem_toArray, List.getElem_cons_zero, List.getElem_cons_succ]; go_simp; try rfl
  simp only [Act.put, List.getElem_toArray, List.getElem_cons_zero, List.getElem_cons_succ, List.setIfInBounds_toArray, List.set_cons_zero, List.set_cons_succ]
  refine z_take 2 (v := ?_) rfl (by kernel_rfl) (by kernel_rfl) (by kernel_rfl) (by kernel_rfl) (fun _ _ _ h => h) hHeld (by rfl) (fun w hSw => ?_) ?_
  rotate_left
  · have hSw1 := hSw; clear hSw; simp only [List.getElem_toArray, List.getElem_cons_zero, List.getElem_cons_succ]; go_simp; try rfl
  simp only [Act.put, List.getElem_toArray, List.getElem_cons_zero, List.getElem_cons_succ, List.setIfInBounds_toArray, List.set_cons_zero, List.set_cons_succ]
  refine z_take 3 (v := ?_) rfl (by kernel_rfl) (by kernel_rfl) (by kernel_rfl) (by kernel_rfl) (fun _ _ _ h => h) hHeld (by rfl) (fun w hSw => ?_) ?_
  rotate_left
  · have hSw1 := hSw; clear hSw; simp only [List.getElem_toArray, List.getElem_cons_zero, List.getElem_cons_succ]; go_simp; try rfl
  simp only [Act.put, List.getElem_toArray, List.getElem_cons_zero, List.getElem_cons_succ, List.setIfInBounds_toArray, List.set_cons_zero, List.set_cons_succ]
  refine z_take 4 (v := ?_) rfl (by kernel_rfl) (by kernel_rfl) (by kernel_rfl) (by kernel_rfl) (fun _ _ _ h => h) hHeld (by rfl) (fun w hSw => ?_) ?_
  rotate_left
  · have hSw1 := hSw; clear hSw; simp only [List.getElem_toArray, List.getElem_cons_zero, List.getElem_cons_succ]; go_simp; try rfl
  simp only [Act.put, List.getElem_toArray, List.getElem_cons_zero, List.getElem_cons_succ, List.setIfInBounds_toArray, List.set_cons_zero, List.set_cons_succ]
  refine z_take 5 (v := ?_) rfl (by kernel_rfl) (by kernel_rfl) (by kernel_rfl) (by kernel_rfl) (fun _ _ _ h => h) hHeld (by rfl) (fun w hSw => ?_) ?_
  rotate_left
  · have hSw1 := hSw; clear hSw; simp only [List.getElem_toArray, List.getElem_cons_zero, List.getElem_cons_succ]; go_simp; try rfl
  simp only [Act.put, List.getElem_toArray, List.getElem_cons_zero, List.getElem_cons_succ, List.setIfInBounds_toArray, List.set_cons_zero, List.set_cons_succ]
  refine z_take 6 (v := ?_) rfl (by kernel_rfl) (by kernel_rfl) (by kernel_rfl) (by kernel_rfl) (fun _ _ _ h => h) hHeld (by rfl) (fun w hSw => ?_) ?_
  rotate_left
  · have hSw1 := hSw; clear hSw; simp only [List.getElem_toArray, List.getElem_cons_zero, List.getElem_cons_succ]; go_simp; try rfl
  simp only [Act.put, List.getElem_toArray, List.getElem_cons_zero, List.getElem_cons_succ, List.setIfInBounds_toArray, List.set_cons_zero, List.set_cons_succ]
  refine z_take 7 (v := ?_) rfl (by kernel_rfl) (by kernel_rfl) (by kernel_rfl) (by kernel_rfl) (fun _ _ _ h => h) hHeld (by rfl) (fun w hSw => ?_) ?_
  rotate_left
  · have hSw1 := hSw; clear hSw; simp only [List.getElem_toArray, List.getElem_cons_zero, List.getElem_cons_succ]; go_simp; try rfl
  simp only [Act.put, List.getElem_toArray, List.getElem_cons_zero, List.getElem_cons_succ, List.setIfInBounds_toArray, List.set_cons_zero, List.set_cons_succ]
  refine z_take 8 (v := ?_) rfl (by kernel_rfl) (by kernel_rfl) (by kernel_rfl) (by kernel_rfl) (fun _ _ _ h => h) hHeld (by rfl) (fun w hSw => ?_) ?_
  rotate_left
  · have hSw1 := hSw; clear hSw; simp only [List.getElem_toArray, List.getElem_cons_zero, List.getElem_cons_succ]; go_simp; try rfl
  simp only [Act.put, List.getElem_toArray, List.getElem_cons_zero, List.getElem_cons_succ, List.setIfInBounds_toArray, List.set_cons_zero, List.set_cons_succ]
  refine z_done (by kernel_rfl) ?_ _
  clear hHeld
  have c6 := cellAt HB.out 6
  simp at c6
  go_wp2_with fail
  have c12 := cellAt HB.out 12
  simp at c12
  refine z_begin (fun w' => w'.cell? ⟨p, 12, none⟩ = some (.int .i64 0)) 10 (by kernel_rfl) (c12) (fun hHeld => ?_)
  have hk : Keeps (fun _ => False) u1 (World.drew u1) := (Keeps.refl _ _).drew
  replace HQ := Lib.hid (HQ.out.quiet hk)
  replace HB := Lib.hid ((hk.block p (lt_of_heap HB.out) (fun h => h)).trans HB.out)
  replace KG := Lib.hid (KG.out.quiet hk)
  replace HD := Lib.hid (And.intro (HD.out.1.keep hk (fun _ _ h => h)) HD.out.2)
  clear hk
  generalize World.drew u1 = u2 at *
  clear c12
  refine z_take 0 (v := ?_) rfl (by kernel_rfl) (by kernel_rfl) (by kernel_rfl) (by kernel_rfl) (fun _ _ _ h => h) hHeld (by rfl) (fun w hSw => ?_) ?_
  rotate_left
  · have hSw1 := hSw; clear hSw; simp only [List.getElem_toArray, List.getElem_cons_zero]; go_simp; try rfl
  simp only [Act.put, List.getElem_toArray, List.getElem_cons_zero, List.setIfInBounds_toArray, List.set_cons_zero, List.set_cons_succ]
  refine z_take 1 (v := ?_) rfl (by kernel_rfl) (by kernel_rfl) (by kernel_rfl) (by kernel_rfl) (fun _ _ _ h => h) hHeld (by rfl) (fun w hSw => ?_) ?_
  rotate_left
  · have hSw1 := hSw; clear hSw; simp only [List.getElem_toArray, List.getElem_cons_zero, List.getElem_cons_succ]; go_simp; try rfl
  simp only [Act.put, List.getElem_toArray, List.getElem_cons_zero, List.getElem_cons_succ, List.setIfInBounds_toArray, List.set_cons_zero, List.set_cons_succ]
  refine z_take 2 (v := ?_) rfl (by kernel_rfl) (by kernel_rfl) (by kernel_rfl) (by kernel_rfl) (fun _ _ _ h => h) hHeld (by rfl) (fun w hSw => ?_) ?_
  rotate_left
  · have hSw1 := hSw; clear hSw; simp only [List.getElem_toArray, List.getElem_cons_zero, List.getElem_cons_succ]; go_simp; try rfl
  simp only [Act.put, List.getElem_toArray, List.getElem_cons_zero, List.getElem_cons_succ, List.setIfInBounds_toArray, List.set_cons_zero, List.set_cons_succ]
  refine z_take 3 (v := ?_) rfl (by kernel_rfl) (by kernel_rfl) (by kernel_rfl) (by kernel_rfl) (fun _ _ _ h => h) hHeld (by rfl) (fun w hSw => ?_) ?_
  rotate_left
  · have hSw1 := hSw; clear hSw; simp only [List.getElem_toArray, List.getElem_cons_zero, List.getElem_cons_succ]; go_simp; try rfl
  simp only [Act.put, List.getElem_toArray, List.getElem_cons_zero, List.getElem_cons_succ, List.setIfInBounds_toArray, List.set_cons_zero, List.set_cons_succ]
  refine z_take 4 (v := ?_) rfl (by kernel_rfl) (by kernel_rfl) (by kernel_rfl) (by kernel_rfl) (fun _ _ _ h => h) hHeld (by rfl) (fun w hSw => ?_) ?_
  rotate_left
  · have hSw1 := hSw; clear hSw; simp only [List.getElem_toArray, List.getElem_cons_zero, List.getElem_cons_succ]; go_simp; try rfl
  simp only [Act.put, List.getElem_toArray, List.getElem_cons_zero, List.getElem_cons_succ, List.setIfInBounds_toArray, List.set_cons_zero, List.set_cons_succ]
  refine z_take 5 (v := ?_) rfl (by kernel_rfl) (by kernel_rfl) (by kernel_rfl) (by kernel_rfl) (fun _ _ _ h => h) hHeld (by rfl) (fun w hSw => ?_) ?_
  rotate_left
  · have hSw1 := hSw; clear hSw; simp only [List.getElem_toArray, List.getElem_cons_zero, List.getElem_cons_succ]; go_simp; try rfl
  simp only [Act.put, List.getElem_toArray, List.getElem_cons_zero, List.getElem_cons_succ, List.setIfInBounds_toArray, List.set_cons_zero, List.set_cons_succ]
  refine z_take 6 (v := ?_) rfl (by kernel_rfl) (by kernel_rfl) (by kernel_rfl) (by kernel_rfl) (fun _ _ _ h => h) hHeld (by rfl) (fun w hSw => ?_) ?_
  rotate_left
  · have hSw1 := hSw; clear hSw; simp only [List.getElem_toArray, List.getElem_cons_zero, List.getElem_cons_succ]; go_simp; try rfl
  simp only [Act.put, List.getElem_toArray, List.getElem_cons_zero, List.getElem_cons_succ, List.setIfInBounds_toArray, List.set_cons_zero, List.set_cons_succ]
  refine z_take 7 (v := ?_) rfl (by kernel_rfl) (by kernel_rfl) (by kernel_rfl) (by kernel_rfl) (fun _ _ _ h => h) hHeld (by rfl) (fun w hSw => ?_) ?_
  rotate_left
  · have hSw1 := hSw; clear hSw; simp only [List.getElem_toArray, List.getElem_cons_zero, List.getElem_cons_succ]; go_simp; try rfl
  simp only [Act.put, List.getElem_toArray, List.getElem_cons_zero, List.getElem_cons_succ, List.setIfInBounds_toArray, List.set_cons_zero, List.set_cons_succ]
  refine z_take 8 (v := ?_) rfl (by kernel_rfl) (by kernel_rfl) (by kernel_rfl) (by kernel_rfl) (fun _ _ _ h => h) hHeld (by rfl) (fun w hSw => ?_) ?_
  rotate_left
  · have hSw1 := hSw; clear hSw; simp only [List.getElem_toArray, List.getElem_cons_zero, List.getElem_cons_succ]; go_simp; try rfl
  simp only [Act.put, List.getElem_toArray, List.getElem_cons_zero, List.getElem_cons_succ, List.setIfInBounds_toArray, List.set_cons_zero, List.set_cons_succ]
  refine z_take 9 (v := ?_) rfl (by kernel_rfl) (by kernel_rfl) (by kernel_rfl) (by kernel_rfl) (fun _ _ _ h => h) hHeld (by rfl) (fun w hSw => ?_) ?_
  rotate_left
  · have hSw1 := hSw; clear hSw; simp only [List.getElem_toArray, List.getElem_cons_zero, List.getElem_cons_succ]; go_simp; try rfl
  simp only [Act.put, List.getElem_toArray, List.getElem_cons_zero, List.getElem_cons_succ, List.setIfInBounds_toArray, List.set_cons_zero, List.set_cons_succ]
  refine z_done (by kernel_rfl) ?_ _
  clear hHeld
  try clear c6
  go_wp2_with fail
  have c6 := cellAt HB.out 6
  simp at c6
  have c10 := cellAt HB.out 10
  simp at c10
  refine z_begin (fun w' => w'.cell? ⟨p, 6, none⟩ = some (.int .u64 (S.turn : Int)) ∧ w'.cell? ⟨p, 10, none⟩ = some (.int .u64 0)) 11 (by kernel_rfl) (⟨c6, c10⟩) (fun hHeld => ?_)
  have hk : Keeps (fun _ => False) u2 (World.drew u2) := (Keeps.refl _ _).drew
  replace HQ := Lib.hid (HQ.out.quiet hk)
  replace HB := Lib.hid ((hk.block p (lt_of_heap HB.out) (fun h => h)).trans HB.out)
  replace KG := Lib.hid (KG.out.quiet hk)
  replace HD := Lib.hid (And.intro (HD.out.1.keep hk (fun _ _ h => h)) HD.out.2)
  clear hk
  generalize World.drew u2 = u3 at *
  clear c6 c10
  refine z_take 0 (v := ?_) rfl (by kernel_rfl) (by kernel_rfl) (by kernel_rfl) (by kernel_rfl) (fun _ _ _ h => h) hHeld (by rfl) (fun w hSw => ?_) ?_
  rotate_left
  · obtain ⟨hSw1, hSw2⟩ := hSw; simp only [List.getElem_toArray, List.getElem_cons_zero]; go_simp; try rfl
  simp only [Act.put, List.getElem_toArray, List.getElem_cons_zero, List.setIfInBounds_toArray, List.set_cons_zero, List.set_cons_succ]
  refine z_take 1 (v := ?_) rfl (by kernel_rfl) (by kernel_rfl) (by kernel_rfl) (by kernel_rfl) (fun _ _ _ h => h) hHeld (by rfl) (fun w hSw => ?_) ?_
  rotate_left
  · obtain ⟨hSw1, hSw2⟩ := hSw; simp only [List.getElem_toArray, List.getElem_cons_zero, List.getElem_cons_succ]; go_simp; try rfl
  simp only [Act.put, List.getElem_toArray, List.getElem_cons_zero, List.getElem_cons_succ, List.setIfInBounds_toArray, List.set_cons_zero, List.set_cons_succ]
  refine z_take 2 (v := ?_) rfl (by kernel_rfl) (by kernel_rfl) (by kernel_rfl) (by kernel_rfl) (fun _ _ _ h => h) hHeld (by rfl) (fun w hSw => ?_) ?_
  rotate_left
  · obtain ⟨hSw1, hSw2⟩ := hSw; simp only [List.getElem_toArray, List.getElem_cons_zero, List.getElem_cons_succ]; go_simp; try rfl
  simp only [Act.put, List.getElem_toArray, List.getElem_cons_zero, List.getElem_cons_succ, List.setIfInBounds_toArray, List.set_cons_zero, List.set_cons_succ]
  refine z_take 3 (v := ?_) rfl (by kernel_rfl) (by kernel_rfl) (by kernel_rfl) (by kernel_rfl) (fun _ _ _ h => h) hHeld (by rfl) (fun w hSw => ?_) ?_
  rotate_left
  · obtain ⟨hSw1, hSw2⟩ := hSw; simp only [List.getElem_toArray, List.getElem_cons_zero, List.getElem_cons_succ]; go_simp; try rfl
  simp only [Act.put, List.getElem_toArray, List.getElem_cons_zero, List.getElem_cons_succ, List.setIfInBounds_toArray, List.set_cons_zero, List.set_cons_succ]
  refine z_take 4 (v := ?_) rfl (by kernel_rfl) (by kernel_rfl) (by kernel_rfl) (by kernel_rfl) (fun _ _ _ h => h) hHeld (by rfl) (fun w hSw => ?_) ?_
  rotate_left
  · obtain ⟨hSw1, hSw2⟩ := hSw; simp only [List.getElem_toArray, List.getElem_cons_zero, List.getElem_cons_succ]; go_simp; try rfl
  simp only [Act.put, List.getElem_toArray, List.getElem_cons_zero, List.getElem_cons_succ, List.setIfInBounds_toArray, List.set_cons_zero, List.set_cons_succ]
  refine z_take 5 (v := ?_) rfl (by kernel_rfl) (by kernel_rfl) (by kernel_rfl) (by kernel_rfl) (fun _ _ _ h => h) hHeld (by rfl) (fun w hSw => ?_) ?_
  rotate_left
  · obtain ⟨hSw1, hSw2⟩ := hSw; simp only [List.getElem_toArray, List.getElem_cons_zero, List.getElem_cons_succ]; go_simp; try rfl
  simp only [Act.put, List.getElem_toArray, List.getElem_cons_zero, List.getElem_cons_succ, List.setIfInBounds_toArray, List.set_cons_zero, List.set_cons_succ]
  refine z_take 6 (v := ?_) rfl (by kernel_rfl) (by kernel_rfl) (by kernel_rfl) (by kernel_rfl) (fun _ _ _ h => h) hHeld (by rfl) (fun w hSw => ?_) ?_
  rotate_left
  · obtain ⟨hSw1, hSw2⟩ := hSw; simp only [List.getElem_toArray, List.getElem_cons_zero, List.getElem_cons_succ]; go_simp; try rfl
  simp only [Act.put, List.getElem_toArray, List.getElem_cons_zero, List.getElem_cons_succ, List.setIfInBounds_toArray, List.set_cons_zero, List.set_cons_succ]
  refine z_take 7 (v := ?_) rfl (by kernel_rfl) (by kernel_rfl) (by kernel_rfl) (by kernel_rfl) (fun _ _ _ h => h) hHeld (by rfl) (fun w hSw => ?_) ?_
  rotate_left
  · obtain ⟨hSw1, hSw2⟩ := hSw; simp only [List.getElem_toArray, List.getElem_cons_zero, List.getElem_cons_succ]; go_simp; try rfl
  simp only [Act.put, List.getElem_toArray, List.getElem_cons_zero, List.getElem_cons_succ, List.setIfInBounds_toArray, List.set_cons_zero, List.set_cons_succ]
  refine z_take 8 (v := ?_) rfl (by kernel_rfl) (by kernel_rfl) (by kernel_rfl) (by kernel_rfl) (fun _ _ _ h => h) hHeld (by rfl) (fun w hSw => ?_) ?_
  rotate_left
  · obtain ⟨hSw1, hSw2⟩ := hSw; simp only [List.getElem_toArray, List.getElem_cons_zero, List.getElem_cons_succ]; go_simp; try rfl
  simp only [Act.put, List.getElem_toArray, List.getElem_cons_zero, List.getElem_cons_succ, List.setIfInBounds_toArray, List.set_cons_zero, List.set_cons_succ]
  refine z_take 9 (v := ?_) rfl (by kernel_rfl) (by kernel_rfl) (by kernel_rfl) (by kernel_rfl) (fun _ _ _ h => h) hHeld (by rfl) (fun w hSw => ?_) ?_
  rotate_left
  · obtain ⟨hSw1, hSw2⟩ := hSw; simp only [List.getElem_toArray, List.getElem_cons_zero, List.getElem_cons_succ]; go_simp; try rfl
  simp only [Act.put, List.getElem_toArray, List.getElem_cons_zero, List.getElem_cons_succ, List.setIfInBounds_toArray, List.set_cons_zero, List.set_cons_succ]
  refine z_take 10 (v := ?_) rfl (by kernel_rfl) (by kernel_rfl) (by kernel_rfl) (by kernel_rfl) (fun _ _ _ h => h) hHeld (by rfl) (fun w hSw => ?_) ?_
  rotate_left
  · obtain ⟨hSw1, hSw2⟩ := hSw; simp only [List.getElem_toArray, List.getElem_cons_zero, List.getElem_cons_succ]; go_simp; try rfl
  simp only [Act.put, List.getElem_toArray, List.getElem_cons_zero, List.getElem_cons_succ, List.setIfInBounds_toArray, List.set_cons_zero, List.set_cons_succ]
  refine z_done (by kernel_rfl) ?_ _
  clear hHeld
  try rw [em1]
  try rw [em2]
  try rw [ew]
  have hKw := Lib.hid KG.out.size
  have HF := Lib.hid (keysFrame_any tn sa n cap l u3 (by have := HT.out; unfold U64; omega) (HL.out.keep KG.out (fun ad e h0 _ hG => HAV.out ad e h0 ((HS.out.foot _).2 (hG.imp id Or.inl)))) (by omega))
  go_wp2_with fail
  refine HF.out.mono ?_
  rintro e u4 ⟨sf, cf, rfl, hown, hk⟩
  clear HF
  replace HQ := Lib.hid (HQ.out.quiet hk)
  replace HB := Lib.hid ((hk.block p (lt_of_heap HB.out) (fun h => h)).trans HB.out)
  replace KG := Lib.hid (KG.out.quiet hk)
  replace HD := Lib.hid (And.intro (HD.out.1.keep hk (fun _ _ h => h)) HD.out.2)
  obtain ⟨gf, rfl⟩ := own_some hown (by omega)
  have HG : Hid (w.heap.size ≤ gf) := by have h1 := (own_lt hown rfl).1; have h2 := KG.out.size; show _ ≤ _; have h3 := hk.size; exact Nat.le_trans hKw.out h1
  have OF := Lib.hid hown
  clear hown hk
  have c5 := cellAt HB.out 5
  simp at c5
  by_cases hfull : S.sz < n + 14
  · have hA : Hid (S.set l = (S, 3)) := by show _ = _; unfold SS.set; rw [HLL.out.1, if_pos hfull]
    have tf : ((n + 14 : Nat) : Int) > (S.sz : Int) := by omega
    have tf2 : (n : Int) + 14 > (S.sz : Int) := by omega
    clear hfull
    go_wp2
    go_ret
    rw [hA.out]
    have kq : Keeps (fun k => k = p ∨ Fd k) w u4 := KG.out
    exact ⟨rfl, F, R, StoreAt.quiet ⟨Fd, so, co, vs, sk, ck, HS.out⟩ HQ.out, HQ.out.mono (fun _ _ h => h.elim), fun _ h => Or.inl h, fun _ h => Or.inl h⟩
  have tf : ¬ ((n + 14 : Nat) : Int) > (S.sz : Int) := by omega
  have tf2 : ¬ (n : Int) + 14 > (S.sz : Int) := by omega
  have hfl : n + 14 ≤ S.sz := by omega
  have hlen1 : (S.d.write S.half (keyF tn l)).now.length = S.d.now.length := write_len _ _ _ (by rw [keyF_length, HLL.out.1]; have := HHN.out; omega)
  have HLEN := Lib.hid hlen1
  clear hlen1
  by_cases hcr : S.d.cr = true
  · have hA : Hid (S.set l = (S, 30)) := by show _ = _; unfold SS.set; rw [HLL.out.1, if_neg (by omega), if_pos hcr]
    have hcr2 := Lib.hid hcr
    clear hcr
    go_wp2_with fail
    clear c5
    have c0 := cellAt HB.out 0
    simp at c0
    have c4 := cellAt HB.out 4
    simp at c4
    refine z_begin (fun w' => w'.cell? ⟨p, 0, none⟩ = some (.pointer (some ⟨pd, 0, none⟩)) ∧ w'.cell? ⟨p, 4, none⟩ = some (.int .i64 (S.half : Int))) 11 (by kernel_rfl) (⟨c0, c4⟩) (fun hHeld => ?_)
    have hk : Keeps (fun _ => False) u4 (World.drew u4) := (Keeps.refl _ _).drew
    replace HQ := Lib.hid (HQ.out.quiet hk)
    replace HB := Lib.hid ((hk.block p (lt_of_heap HB.out) (fun h => h)).trans HB.out)
    replace KG := Lib.hid (KG.out.quiet hk)
    replace HD := Lib.hid (And.intro (HD.out.1.keep hk (fun _ _ h => h)) HD.out.2)
    replace OF := Lib.hid (own_keep OF.out hk (fun _ _ h => h))
    clear hk
    generalize World.drew u4 = u5 at *
    clear c0 c4
    refine z_take 0 (v := ?_) rfl (by kernel_rfl) (by kernel_rfl) (by kernel_rfl) (by kernel_rfl) (fun _ _ _ h => h) hHeld (by rfl) (fun w hSw => ?_) ?_
    rotate_left
    · obtain ⟨hSw1, hSw2⟩ := hSw; simp only [List.getElem_toArray, List.getElem_cons_zero]; go_simp; try rfl
    simp only [Act.put, List.getElem_toArray, List.getElem_cons_zero, List.setIfInBounds_toArray, List.set_cons_zero, List.set_cons_succ]
    refine z_take 1 (v := ?_) rfl (by kernel_rfl) (by kernel_rfl) (by kernel_rfl) (by kernel_rfl) (fun _ _ _ h => h) hHeld (by rfl) (fun w hSw => ?_) ?_
    rotate_left
    · obtain ⟨hSw1, hSw2⟩ := hSw; simp only [List.getElem_toArray, List.getElem_cons_zero, List.getElem_cons_succ]; go_simp; try rfl
    simp only [Act.put, List.getElem_toArray, List.getElem_cons_zero, List.getElem_cons_succ, List.setIfInBounds_toArray, List.set_cons_zero, List.set_cons_succ]
    refine z_take 2 (v := ?_) rfl (by kernel_rfl) (by kernel_rfl) (by kernel_rfl) (by kernel_rfl) (fun _ _ _ h => h) hHeld (by rfl) (fun w hSw => ?_) ?_
    rotate_left
    · obtain ⟨hSw1, hSw2⟩ := hSw; simp only [List.getElem_toArray, List.getElem_cons_zero, List.getElem_cons_succ]; go_simp; try rfl
    simp only [Act.put, List.getElem_toArray, List.getElem_cons_zero, List.getElem_cons_succ, List.setIfInBounds_toArray, List.set_cons_zero, List.set_cons_succ]
    refine z_take 3 (v := ?_) rfl (by kernel_rfl) (by kernel_rfl) (by kernel_rfl) (by kernel_rfl) (fun _ _ _ h => h) hHeld (by rfl) (fun w hSw => ?_) ?_
    rotate_left
    · obtain ⟨hSw1, hSw2⟩ := hSw; simp only [List.getElem_toArray, List.getElem_cons_zero, List.getElem_cons_succ]; go_simp; try rfl
    simp only [Act.put, List.getElem_toArray, List.getElem_cons_zero, List.getElem_cons_succ, List.setIfInBounds_toArray, List.set_cons_zero, List.set_cons_succ]
    refine z_take 4 (v := ?_) rfl (by kernel_rfl) (by kernel_rfl) (by kernel_rfl) (by kernel_rfl) (fun _ _ _ h => h) hHeld (by rfl) (fun w hSw => ?_) ?_
    rotate_left
    · obtain ⟨hSw1, hSw2⟩ := hSw; simp only [List.getElem_toArray, List.getElem_cons_zero, List.getElem_cons_succ]; go_simp; try rfl
    simp only [Act.put, List.getElem_toArray, List.getElem_cons_zero, List.getElem_cons_succ, List.setIfInBounds_toArray, List.set_cons_zero, List.set_cons_succ]
    refine z_take 5 (v := ?_) rfl (by kernel_rfl) (by kernel_rfl) (by kernel_rfl) (by kernel_rfl) (fun _ _ _ h => h) hHeld (by rfl) (fun w hSw => ?_) ?_
    rotate_left
    · obtain ⟨hSw1, hSw2⟩ := hSw; simp only [List.getElem_toArray, List.getElem_cons_zero, List.getElem_cons_succ]; go_simp; try rfl
    simp only [Act.put, List.getElem_toArray, List.getElem_cons_zero, List.getElem_cons_succ, List.setIfInBounds_toArray, List.set_cons_zero, List.set_cons_succ]
    refine z_take 6 (v := ?_) rfl (by kernel_rfl) (by kernel_rfl) (by kernel_rfl) (by kernel_rfl) (fun _ _ _ h => h) hHeld (by rfl) (fun w hSw => ?_) ?_
    rotate_left
    · obtain ⟨hSw1, hSw2⟩ := hSw; simp only [List.getElem_toArray, List.getElem_cons_zero, List.getElem_cons_succ]; go_simp; try rfl
    simp only [Act.put, List.getElem_toArray, List.getElem_cons_zero, List.getElem_cons_succ, List.setIfInBounds_toArray, List.set_cons_zero, List.set_cons_succ]
    refine z_take 7 (v := ?_) rfl (by kernel_rfl) (by kernel_rfl) (by kernel_rfl) (by kernel_rfl) (fun _ _ _ h => h) hHeld (by rfl) (fun w hSw => ?_) ?_
    rotate_left
    · obtain ⟨hSw1, hSw2⟩ := hSw; simp only [List.getElem_toArray, List.getElem_cons_zero, List.getElem_cons_succ]; go_simp; try rfl
    simp only [Act.put, List.getElem_toArray, List.getElem_cons_zero, List.getElem_cons_succ, List.setIfInBounds_toArray, List.set_cons_zero, List.set_cons_succ]
    refine z_take 8 (v := ?_) rfl (by kernel_rfl) (by kernel_rfl) (by kernel_rfl) (by kernel_rfl) (fun _ _ _ h => h) hHeld (by rfl) (fun w hSw => ?_) ?_
    rotate_left
    · obtain ⟨hSw1, hSw2⟩ := hSw; simp only [List.getElem_toArray, List.getElem_cons_zero, List.getElem_cons_succ]; go_simp; try rfl
    simp only [Act.put, List.getElem_toArray, List.getElem_cons_zero, List.getElem_cons_succ, List.setIfInBounds_toArray, List.set_cons_zero, List.set_cons_succ]
    refine z_one 9 rfl (by kernel_rfl) (by rfl) (fun K hK => ?_)
    simp only [List.getElem_toArray, List.getElem_cons_zero, List.getElem_cons_succ]
    go_simp
    refine (write_down pd _ (some ⟨gf, 0, none⟩) (n + 14) cf S.d Fd u5 HD.out.1 hcr2.out).mono ?_
    rintro e u6 ⟨rfl, hk⟩
    replace HQ := Lib.hid (HQ.out.quiet hk)
    replace HB := Lib.hid ((hk.block p (lt_of_heap HB.out) (fun h => h)).trans HB.out)
    replace KG := Lib.hid (KG.out.quiet hk)
    replace HD := Lib.hid (And.intro (HD.out.1.keep hk (fun _ _ h => h)) HD.out.2)
    replace OF := Lib.hid (own_keep OF.out hk (fun _ _ h => h))
    refine hK _ _ (Or.inr ?_) (fun hHeld => ?_)
    · exact ⟨sc hk hHeld.1, sc hk hHeld.2⟩
    clear hK K hk
    replace hHeld := hHeld.resolve_left (by decide)
    try simp only [Act.put, List.setIfInBounds_toArray, List.set_cons_zero, List.set_cons_succ]
    refine z_one 10 rfl (by kernel_rfl) (by rfl) (fun K hK => ?_)
    simp only [List.getElem_toArray, List.getElem_cons_zero, List.getElem_cons_succ]
    go_simp
    refine hK _ _ (Or.inr hHeld) (fun _ => ?_)
    clear hK K
    try simp only [Act.put, List.setIfInBounds_toArray, List.set_cons_zero, List.set_cons_succ]
    refine z_done (by kernel_rfl) ?_ _
    clear hHeld
    have e30 : ((30 : Int) != 0) = true := by decide
    go_wp2
    go_ret
    rw [hA.out]
    exact ⟨rfl, F, R, StoreAt.quiet ⟨Fd, so, co, vs, sk, ck, HS.out⟩ HQ.out, HQ.out.mono (fun _ _ h => h.elim), fun _ h => Or.inl h, fun _ h => Or.inl h⟩
  · have hA : Hid (S.set l = ({ S with d := (((S.d.write S.half (keyF tn l)).sync).zero (S.half + S.sz) S.sz).sync, now := 0, turn := tn, keys := l }, 0)) := by
      show _ = _
      unfold SS.set
      rw [HLL.out.1, if_neg (by omega), if_neg hcr, HLL.out.2.1, HTN.out]
      simp [SS.atP]
    have hcr2 := Lib.hid (show S.d.cr = false by simpa using hcr)
    clear hcr
    go_wp2_with fail
    clear c5
    have c0 := cellAt HB.out 0
    simp at c0
    have c4 := cellAt HB.out 4
    simp at c4
    refine z_begin (fun w' => w'.cell? ⟨p, 0, none⟩ = some (.pointer (some ⟨pd, 0, none⟩)) ∧ w'.cell? ⟨p, 4, none⟩ = some (.int .i64 (S.half : Int))) 11 (by kernel_rfl) (⟨c0, c4⟩) (fun hHeld => ?_)
    have hk : Keeps (fun _ => False) u4 (World.drew u4) := (Keeps.refl _ _).drew
    replace HQ := Lib.hid (HQ.out.quiet hk)
    replace HB := Lib.hid ((hk.block p (lt_of_heap HB.out) (fun h => h)).trans HB.out)
    replace KG := Lib.hid (KG.out.quiet hk)
    replace HD := Lib.hid (And.intro (HD.out.1.keep hk (fun _ _ h => h)) HD.out.2)
    replace OF := Lib.hid (own_keep OF.out hk (fun _ _ h => h))
    clear hk
    generalize World.drew u4 = u7 at *
    clear c0 c4
    refine z_take 0 (v := ?_) rfl (by kernel_rfl) (by kernel_rfl) (by kernel_rfl) (by kernel_rfl) (fun _ _ _ h => h) hHeld (by rfl) (fun w hSw => ?_) ?_
    rotate_left
    · obtain ⟨hSw1, hSw2⟩ := hSw; simp only [List.getElem_toArray, List.getElem_cons_zero]; go_simp; try rfl
    simp only [Act.put, List.getElem_toArray, List.getElem_cons_zero, List.setIfInBounds_toArray, List.set_cons_zero, List.set_cons_succ]
    refine z_take 1 (v := ?_) rfl (by kernel_rfl) (by kernel_rfl) (by kernel_rfl) (by kernel_rfl) (fun _ _ _ h => h) hHeld (by rfl) (fun w hSw => ?_) ?_
    rotate_left
    · obtain ⟨hSw1, hSw2⟩ := hSw; simp only [List.getElem_toArray, List.getElem_cons_zero, List.getElem_cons_succ]; go_simp; try rfl
    simp only [Act.put, List.getElem_toArray, List.getElem_cons_zero, List.getElem_cons_succ, List.setIfInBounds_toArray, List.set_cons_zero, List.set_cons_succ]
    refine z_take 2 (v := ?_) rfl (by kernel_rfl) (by kernel_rfl) (by kernel_rfl) (by kernel_rfl) (fun _ _ _ h => h) hHeld (by rfl) (fun w hSw => ?_) ?_
    rotate_left
    · obtain ⟨hSw1, hSw2⟩ := hSw; simp only [List.getElem_toArray, List.getElem_cons_zero, List.getElem_cons_succ]; go_simp; try rfl
    simp only [Act.put, List.getElem_toArray, List.getElem_cons_zero, List.getElem_cons_succ, List.setIfInBounds_toArray, List.set_cons_zero, List.set_cons_succ]
    refine z_take 3 (v := ?_) rfl (by kernel_rfl) (by kernel_rfl) (by kernel_rfl) (by kernel_rfl) (fun _ _ _ h => h) hHeld (by rfl) (fun w hSw => ?_) ?_
    rotate_left
    · obtain ⟨hSw1, hSw2⟩ := hSw; simp only [List.getElem_toArray, List.getElem_cons_zero, List.getElem_cons_succ]; go_simp; try rfl
    simp only [Act.put, List.getElem_toArray, List.getElem_cons_zero, List.getElem_cons_succ, List.setIfInBounds_toArray, List.set_cons_zero, List.set_cons_succ]
    refine z_take 4 (v := ?_) rfl (by kernel_rfl) (by kernel_rfl) (by kernel_rfl) (by kernel_rfl) (fun _ _ _ h => h) hHeld (by rfl) (fun w hSw => ?_) ?_
    rotate_left
    · obtain ⟨hSw1, hSw2⟩ := hSw; simp only [List.getElem_toArray, List.getElem_cons_zero, List.getElem_cons_succ]; go_simp; try rfl
    simp only [Act.put, List.getElem_toArray, List.getElem_cons_zero, List.getElem_cons_succ, List.setIfInBounds_toArray, List.set_cons_zero, List.set_cons_succ]
    refine z_take 5 (v := ?_) rfl (by kernel_rfl) (by kernel_rfl) (by kernel_rfl) (by kernel_rfl) (fun _ _ _ h => h) hHeld (by rfl) (fun w hSw => ?_) ?_
    rotate_left
    · obtain ⟨hSw1, hSw2⟩ := hSw; simp only [List.getElem_toArray, List.getElem_cons_zero, List.getElem_cons_succ]; go_simp; try rfl
    simp only [Act.put, List.getElem_toArray, List.getElem_cons_zero, List.getElem_cons_succ, List.setIfInBounds_toArray, List.set_cons_zero, List.set_cons_succ]
    refine z_take 6 (v := ?_) rfl (by kernel_rfl) (by kernel_rfl) (by kernel_rfl) (by kernel_rfl) (fun _ _ _ h => h) hHeld (by rfl) (fun w hSw => ?_) ?_
    rotate_left
    · obtain ⟨hSw1, hSw2⟩ := hSw; simp only [List.getElem_toArray, List.getElem_cons_zero, List.getElem_cons_succ]; go_simp; try rfl
    simp only [Act.put, List.getElem_toArray, List.getElem_cons_zero, List.getElem_cons_succ, List.setIfInBounds_toArray, List.set_cons_zero, List.set_cons_succ]
    refine z_take 7 (v := ?_) rfl (by kernel_rfl) (by kernel_rfl) (by kernel_rfl) (by kernel_rfl) (fun _ _ _ h => h) hHeld (by rfl) (fun w hSw => ?_) ?_
    rotate_left
    · obtain ⟨hSw1, hSw2⟩ := hSw; simp only [List.getElem_toArray, List.getElem_cons_zero, List.getElem_cons_succ]; go_simp; try rfl
    simp only [Act.put, List.getElem_toArray, List.getElem_cons_zero, List.getElem_cons_succ, List.setIfInBounds_toArray, List.set_cons_zero, List.set_cons_succ]
    refine z_take 8 (v := ?_) rfl (by kernel_rfl) (by kernel_rfl) (by kernel_rfl) (by kernel_rfl) (fun _ _ _ h => h) hHeld (by rfl) (fun w hSw => ?_) ?_
    rotate_left
    · obtain ⟨hSw1, hSw2⟩ := hSw; simp only [List.getElem_toArray, List.getElem_cons_zero, List.getElem_cons_succ]; go_simp; try rfl
    simp only [Act.put, List.getElem_toArray, List.getElem_cons_zero, List.getElem_cons_succ, List.setIfInBounds_toArray, List.set_cons_zero, List.set_cons_succ]
    refine z_one 9 rfl (by kernel_rfl) (by rfl) (fun K hK => ?_)
    simp only [List.getElem_toArray, List.getElem_cons_zero, List.getElem_cons_succ]
    go_simp
    refine (write_ok pd S.half (keyF tn l) (n + 14) (some ⟨gf, 0, none⟩) gf 0 cf S.d Fd u7 HD.out.1 hcr2.out (by rw [keyF_length, HLL.out.1]) (fun _ => rfl) (fun j c hj => by rw [Nat.zero_add]; exact own_cell OF.out j _ (by rw [BV_get, hj]; rfl)) (fun _ hf => by have h1 := HS.out.disk.lt gf hf; have h2 := HG.out; omega) (by have := HHN.out; omega) hsize HLO.out).mono ?_
    rintro e u8 ⟨rfl, F2, h1, h2, h3⟩
    have hnp2 := HD.out.2.1
    refine hK _ _ (Or.inr ?_) (fun hHeld => ?_)
    · exact ⟨by rw [h2.cell (World.block_lt_of_cell? _ _ hHeld.1) hnp2]; exact hHeld.1, by rw [h2.cell (World.block_lt_of_cell? _ _ hHeld.2) hnp2]; exact hHeld.2⟩
    clear hK K hnp2
    clear OF HQ
    replace HB := Lib.hid ((h2.block p (lt_of_heap HB.out) HD.out.2.1).trans HB.out)
    have b3' : ∀ k, F2 k → Fd k ∨ w.heap.size ≤ k := fun k hf => (h3 k hf).elim (fun h => HD.out.2.2 k h) (fun h => Or.inr (by have := KG.out.size; omega))
    have np' : ¬ F2 p := fun hf => (b3' p hf).elim HS.out.pd_ (fun h => by have := HPL.out; omega)
    replace KG := Lib.hid (KG.out.trans h2 (fun k hk hf => (HD.out.2.2 k hf).elim Or.inr (fun h => by omega)))
    replace HD := Lib.hid (And.intro h1 (And.intro np' b3'))
    clear h1 h2 h3 b3' np'
    replace hHeld := hHeld.resolve_left (by decide)
    try simp only [Act.put, List.setIfInBounds_toArray, List.set_cons_zero, List.set_cons_succ]
    refine z_one 10 rfl (by kernel_rfl) (by rfl) (fun K hK => ?_)
    simp only [List.getElem_toArray, List.getElem_cons_zero, List.getElem_cons_succ]
    go_simp
    refine hK _ _ (Or.inr hHeld) (fun _ => ?_)
    clear hK K
    try simp only [Act.put, List.setIfInBounds_toArray, List.set_cons_zero, List.set_cons_succ]
    refine z_done (by kernel_rfl) ?_ _
    clear hHeld
    have e00 : ((0 : Int) != 0) = false := by decide
    have c0 := cellAt HB.out 0
    simp at c0
    have HSY := Lib.hid (sync_ok pd (S.d.write S.half (keyF tn l)) _ u8 HD.out.1 hcr2.out)
    go_wp2_with fail
    refine HSY.out.mono ?_
    rintro e u9 ⟨rfl, F2, h1, h2, h3⟩
    clear HSY c0
    replace HB := Lib.hid ((h2.block p (lt_of_heap HB.out) HD.out.2.1).trans HB.out)
    have b3' : ∀ k, F2 k → Fd k ∨ w.heap.size ≤ k := fun k hf => (h3 k hf).elim (fun h => HD.out.2.2 k h) (fun h => Or.inr (by have := KG.out.size; omega))
    have np' : ¬ F2 p := fun hf => (b3' p hf).elim HS.out.pd_ (fun h => by have := HPL.out; omega)
    replace KG := Lib.hid (KG.out.trans h2 (fun k hk hf => (HD.out.2.2 k hf).elim Or.inr (fun h => by omega)))
    replace HD := Lib.hid (And.intro h1 (And.intro np' b3'))
    clear h1 h2 h3 b3' np'
    go_wp2_with fail
    have c8 := cellAt HB.out 8
    simp at c8
    have c9 := cellAt HB.out 9
    simp at c9
    refine z_begin (fun w' => w'.cell? ⟨p, 8, none⟩ = some (.int .i64 ((S.half + S.sz : Nat) : Int)) ∧ w'.cell? ⟨p, 9, none⟩ = some (.int .i64 (S.sz : Int))) 11 (by kernel_rfl) (⟨c8, c9⟩) (fun hHeld => ?_)
    have hk : Keeps (fun _ => False) u9 (World.drew u9) := (Keeps.refl _ _).drew
    replace HB := Lib.hid ((hk.block p (lt_of_heap HB.out) (fun h => h)).trans HB.out)
    replace KG := Lib.hid (KG.out.quiet hk)
    replace HD := Lib.hid (And.intro (HD.out.1.keep hk (fun _ _ h => h)) HD.out.2)
    clear hk
    generalize World.drew u9 = u10 at *
    clear c8 c9
    refine z_take 0 (v := ?_) rfl (by kernel_rfl) (by kernel_rfl) (by kernel_rfl) (by kernel_rfl) (fun _ _ _ h => h) hHeld (by rfl) (fun w hSw => ?_) ?_
    rotate_left
    · obtain ⟨hSw1, hSw2⟩ := hSw; simp only [List.getElem_toArray, List.getElem_cons_zero]; go_simp; try rfl
    simp only [Act.put, List.getElem_toArray, List.getElem_cons_zero, List.setIfInBounds_toArray, List.set_cons_zero, List.set_cons_succ]
    refine z_take 1 (v := ?_) rfl (by kernel_rfl) (by kernel_rfl) (by kernel_rfl) (by kernel_rfl) (fun _ _ _ h => h) hHeld (by rfl) (fun w hSw => ?_) ?_
    rotate_left
    · obtain ⟨hSw1, hSw2⟩ := hSw; simp only [List.getElem_toArray, List.getElem_cons_zero, List.getElem_cons_succ]; go_simp; try rfl
    simp only [Act.put, List.getElem_toArray, List.getElem_cons_zero, List.getElem_cons_succ, List.setIfInBounds_toArray, List.set_cons_zero, List.set_cons_succ]
    refine z_take 2 (v := ?_) rfl (by kernel_rfl) (by kernel_rfl) (by kernel_rfl) (by kernel_rfl) (fun _ _ _ h => h) hHeld (by rfl) (fun w hSw => ?_) ?_
    rotate_left
    · obtain ⟨hSw1, hSw2⟩ := hSw; simp only [List.getElem_toArray, List.getElem_cons_zero, List.getElem_cons_succ]; go_simp; try rfl
    simp only [Act.put, List.getElem_toArray, List.getElem_cons_zero, List.getElem_cons_succ, List.setIfInBounds_toArray, List.set_cons_zero, List.set_cons_succ]
    refine z_take 3 (v := ?_) rfl (by kernel_rfl) (by kernel_rfl) (by kernel_rfl) (by kernel_rfl) (fun _ _ _ h => h) hHeld (by rfl) (fun w hSw => ?_) ?_
    rotate_left
    · obtain ⟨hSw1, hSw2⟩ := hSw; simp only [List.getElem_toArray, List.getElem_cons_zero, List.getElem_cons_succ]; go_simp; try rfl
    simp only [Act.put, List.getElem_toArray, List.getElem_cons_zero, List.getElem_cons_succ, List.setIfInBounds_toArray, List.set_cons_zero, List.set_cons_succ]
    refine z_take 4 (v := ?_) rfl (by kernel_rfl) (by kernel_rfl) (by kernel_rfl) (by kernel_rfl) (fun _ _ _ h => h) hHeld (by rfl) (fun w hSw => ?_) ?_
    rotate_left
    · obtain ⟨hSw1, hSw2⟩ := hSw; simp only [List.getElem_toArray, List.getElem_cons_zero, List.getElem_cons_succ]; go_simp; try rfl
    simp only [Act.put, List.getElem_toArray, List.getElem_cons_zero, List.getElem_cons_succ, List.setIfInBounds_toArray, List.set_cons_zero, List.set_cons_succ]
    refine z_take 5 (v := ?_) rfl (by kernel_rfl) (by kernel_rfl) (by kernel_rfl) (by kernel_rfl) (fun _ _ _ h => h) hHeld (by rfl) (fun w hSw => ?_) ?_
    rotate_left
    · obtain ⟨hSw1, hSw2⟩ := hSw; simp only [List.getElem_toArray, List.getElem_cons_zero, List.getElem_cons_succ]; go_simp; try rfl
    simp only [Act.put, List.getElem_toArray, List.getElem_cons_zero, List.getElem_cons_succ, List.setIfInBounds_toArray, List.set_cons_zero, List.set_cons_succ]
    refine z_take 6 (v := ?_) rfl (by kernel_rfl) (by kernel_rfl) (by kernel_rfl) (by kernel_rfl) (fun _ _ _ h => h) hHeld (by rfl) (fun w hSw => ?_) ?_
    rotate_left
    · obtain ⟨hSw1, hSw2⟩ := hSw; simp only [List.getElem_toArray, List.getElem_cons_zero, List.getElem_cons_succ]; go_simp; try rfl
    simp only [Act.put, List.getElem_toArray, List.getElem_cons_zero, List.getElem_cons_succ, List.setIfInBounds_toArray, List.set_cons_zero, List.set_cons_succ]
    refine z_take 7 (v := ?_) rfl (by kernel_rfl) (by kernel_rfl) (by kernel_rfl) (by kernel_rfl) (fun _ _ _ h => h) hHeld (by rfl) (fun w hSw => ?_) ?_
    rotate_left
    · obtain ⟨hSw1, hSw2⟩ := hSw; simp only [List.getElem_toArray, List.getElem_cons_zero, List.getElem_cons_succ]; go_simp; try rfl
    simp only [Act.put, List.getElem_toArray, List.getElem_cons_zero, List.getElem_cons_succ, List.setIfInBounds_toArray, List.set_cons_zero, List.set_cons_succ]
    refine z_take 8 (v := ?_) rfl (by kernel_rfl) (by kernel_rfl) (by kernel_rfl) (by kernel_rfl) (fun _ _ _ h => h) hHeld (by rfl) (fun w hSw => ?_) ?_
    rotate_left
    · obtain ⟨hSw1, hSw2⟩ := hSw; simp only [List.getElem_toArray, List.getElem_cons_zero, List.getElem_cons_succ]; go_simp; try rfl
    simp only [Act.put, List.getElem_toArray, List.getElem_cons_zero, List.getElem_cons_succ, List.setIfInBounds_toArray, List.set_cons_zero, List.set_cons_succ]
    refine z_one 9 rfl (by kernel_rfl) (by rfl) (fun K hK => ?_)
    simp only [List.getElem_toArray, List.getElem_cons_zero, List.getElem_cons_succ]
    go_simp
    have hc0 := cellAt HB.out 0
    simp at hc0
    refine (clear_ok p pd (S.half + S.sz) S.sz (S.d.write S.half (keyF tn l)).sync _ u10 hc0 HD.out.1 hcr2.out (by show _ ≤ (S.d.write S.half (keyF tn l)).now.length; rw [HLEN.out]; have := HHN.out; omega) (by show (S.d.write S.half (keyF tn l)).now.length ≤ _; rw [HLEN.out]; exact hsize) (by show ([] : List (Nat × UInt8)).length ≤ _; simp) HD.out.2.1 HD.out.1.lt).mono ?_
    rintro e u11 ⟨rfl, F2, h1, h2, h3⟩
    have hnp2 := HD.out.2.1
    refine hK _ _ (Or.inr ?_) (fun hHeld => ?_)
    · exact ⟨by rw [h2.cell (World.block_lt_of_cell? _ _ hHeld.1) hnp2]; exact hHeld.1, by rw [h2.cell (World.block_lt_of_cell? _ _ hHeld.2) hnp2]; exact hHeld.2⟩
    clear hK K hnp2 hc0
    replace HB := Lib.hid ((h2.block p (lt_of_heap HB.out) HD.out.2.1).trans HB.out)
    have b3' : ∀ k, F2 k → Fd k ∨ w.heap.size ≤ k := fun k hf => (h3 k hf).elim (fun h => HD.out.2.2 k h) (fun h => Or.inr (by have := KG.out.size; omega))
    have np' : ¬ F2 p := fun hf => (b3' p hf).elim HS.out.pd_ (fun h => by have := HPL.out; omega)
    replace KG := Lib.hid (KG.out.trans h2 (fun k hk hf => (HD.out.2.2 k hf).elim Or.inr (fun h => by omega)))
    replace HD := Lib.hid (And.intro h1 (And.intro np' b3'))
    clear h1 h2 h3 b3' np'
    replace hHeld := hHeld.resolve_left (by decide)
    try simp only [Act.put, List.setIfInBounds_toArray, List.set_cons_zero, List.set_cons_succ]
    refine z_one 10 rfl (by kernel_rfl) (by rfl) (fun K hK => ?_)
    simp only [List.getElem_toArray, List.getElem_cons_zero, List.getElem_cons_succ]
    go_simp
    refine hK _ _ (Or.inr hHeld) (fun _ => ?_)
    clear hK K
    try simp only [Act.put, List.setIfInBounds_toArray, List.set_cons_zero, List.set_cons_succ]
    refine z_done (by kernel_rfl) ?_ _
    clear hHeld
    have c0 := cellAt HB.out 0
    simp at c0
    have HSY := Lib.hid (sync_ok pd (((S.d.write S.half (keyF tn l)).sync).zero (S.half + S.sz) S.sz) _ u11 HD.out.1 hcr2.out)
    go_wp2_with fail
    refine HSY.out.mono ?_
    rintro e u12 ⟨rfl, F2, h1, h2, h3⟩
    clear HSY c0
    replace HB := Lib.hid ((h2.block p (lt_of_heap HB.out) HD.out.2.1).trans HB.out)
    have b3' : ∀ k, F2 k → Fd k ∨ w.heap.size ≤ k := fun k hf => (h3 k hf).elim (fun h => HD.out.2.2 k h) (fun h => Or.inr (by have := KG.out.size; omega))
    have np' : ¬ F2 p := fun hf => (b3' p hf).elim HS.out.pd_ (fun h => by have := HPL.out; omega)
    replace KG := Lib.hid (KG.out.trans h2 (fun k hk hf => (HD.out.2.2 k hf).elim Or.inr (fun h => by omega)))
    replace HD := Lib.hid (And.intro h1 (And.intro np' b3'))
    clear h1 h2 h3 b3' np'
    have HCL := Lib.hid (clone_any sa n cap l u12 (HL.out.keep KG.out (fun ad e h0 _ hG => HAV.out ad e h0 ((HS.out.foot _).2 (hG.imp id Or.inl)))) (by omega))
    go_wp2_with fail
    refine HCL.out.mono ?_
    rintro e u13 ⟨sc_, cc, rfl, hown, hk⟩
    clear HCL
    have hb0 := (hk.block p (lt_of_heap HB.out) (fun h => h)).trans HB.out
    have HC := Lib.hid (And.intro hown hk)
    clear hown hk
    have c0 := cellAt hb0 6
    have f0 := freeAt hb0 6
    simp at c0
    obtain ⟨x1, hx1⟩ : ∃ v, u13.setCell ⟨p, 6, none⟩ (.int .u64 (tn : Int)) = v := ⟨_, rfl⟩
    have hb1 : x1.heap[p]? = some (.cells #[.pointer (some ⟨pd, 0, none⟩), .int .i64 (S.half : Int), .int .i64 (S.used : Int), .slice so S.recs.length co, .int .i64 (S.half : Int), .int .i64 (S.sz : Int), .int .u64 (tn : Int), .slice sk S.keys.length ck, .int .i64 ((S.half + S.sz : Nat) : Int), .int .i64 (S.sz : Int), .int .u64 0, .slice none 0 0, .int .i64 0] 74 (0, 0)) := by rw [← hx1, heap_setCell_at hb0]; rfl
    have kk1 : Keeps (fun k => k = p) u13 x1 := by rw [← hx1]; exact (Keeps.refl (fun k => k = p) u13).setCell (p := ⟨p, 6, none⟩) (fun _ => rfl) _
    have c1 := cellAt hb1 7
    have f1 := freeAt hb1 7
    simp at c1
    obtain ⟨x2, hx2⟩ : ∃ v, x1.setCell ⟨p, 7, none⟩ (.slice sc_ n cc) = v := ⟨_, rfl⟩
    have hb2 : x2.heap[p]? = some (.cells #[.pointer (some ⟨pd, 0, none⟩), .int .i64 (S.half : Int), .int .i64 (S.used : Int), .slice so S.recs.length co, .int .i64 (S.half : Int), .int .i64 (S.sz : Int), .int .u64 (tn : Int), .slice sc_ n cc, .int .i64 ((S.half + S.sz : Nat) : Int), .int .i64 (S.sz : Int), .int .u64 0, .slice none 0 0, .int .i64 0] 74 (0, 0)) := by rw [← hx2, heap_setCell_at hb1]; rfl
    have kk2 : Keeps (fun k => k = p) x1 x2 := by rw [← hx2]; exact (Keeps.refl (fun k => k = p) x1).setCell (p := ⟨p, 7, none⟩) (fun _ => rfl) _
    have c2 := cellAt hb2 10
    have f2 := freeAt hb2 10
    simp at c2
    obtain ⟨x3, hx3⟩ : ∃ v, x2.setCell ⟨p, 10, none⟩ (.int .u64 0) = v := ⟨_, rfl⟩
    have hb3 : x3.heap[p]? = some (.cells #[.pointer (some ⟨pd, 0, none⟩), .int .i64 (S.half : Int), .int .i64 (S.used : Int), .slice so S.recs.length co, .int .i64 (S.half : Int), .int .i64 (S.sz : Int), .int .u64 (tn : Int), .slice sc_ n cc, .int .i64 ((S.half + S.sz : Nat) : Int), .int .i64 (S.sz : Int), .int .u64 0, .slice none 0 0, .int .i64 0] 74 (0, 0)) := by rw [← hx3, heap_setCell_at hb2]; rfl
    have kk3 : Keeps (fun k => k = p) x2 x3 := by rw [← hx3]; exact (Keeps.refl (fun k => k = p) x2).setCell (p := ⟨p, 10, none⟩) (fun _ => rfl) _
    have c3 := cellAt hb3 11
    have f3 := freeAt hb3 11
    simp at c3
    obtain ⟨x4, hx4⟩ : ∃ v, x3.setCell ⟨p, 11, none⟩ (.slice none 0 0) = v := ⟨_, rfl⟩
    have hb4 : x4.heap[p]? = some (.cells #[.pointer (some ⟨pd, 0, none⟩), .int .i64 (S.half : Int), .int .i64 (S.used : Int), .slice so S.recs.length co, .int .i64 (S.half : Int), .int .i64 (S.sz : Int), .int .u64 (tn : Int), .slice sc_ n cc, .int .i64 ((S.half + S.sz : Nat) : Int), .int .i64 (S.sz : Int), .int .u64 0, .slice none 0 0, .int .i64 0] 74 (0, 0)) := by rw [← hx4, heap_setCell_at hb3]; rfl
    have kk4 : Keeps (fun k => k = p) x3 x4 := by rw [← hx4]; exact (Keeps.refl (fun k => k = p) x3).setCell (p := ⟨p, 11, none⟩) (fun _ => rfl) _
    have c4 := cellAt hb4 12
    have f4 := freeAt hb4 12
    simp at c4
    obtain ⟨x5, hx5⟩ : ∃ v, x4.setCell ⟨p, 12, none⟩ (.int .i64 0) = v := ⟨_, rfl⟩
    have hb5 : x5.heap[p]? = some (.cells #[.pointer (some ⟨pd, 0, none⟩), .int .i64 (S.half : Int), .int .i64 (S.used : Int), .slice so S.recs.length co, .int .i64 (S.half : Int), .int .i64 (S.sz : Int), .int .u64 (tn : Int), .slice sc_ n cc, .int .i64 ((S.half + S.sz : Nat) : Int), .int .i64 (S.sz : Int), .int .u64 0, .slice none 0 0, .int .i64 0] 74 (0, 0)) := by rw [← hx5, heap_setCell_at hb4]; rfl
    have kk5 : Keeps (fun k => k = p) x4 x5 := by rw [← hx5]; exact (Keeps.refl (fun k => k = p) x4).setCell (p := ⟨p, 12, none⟩) (fun _ => rfl) _
    have HFIN := Lib.hid (set_fin HS.out HD.out.1 HD.out.2.1 HD.out.2.2 KG.out HLL.out.1 hn HC.out.1 HC.out.2 ((((kk1.trans kk2 (fun _ _ h => h)).trans kk3 (fun _ _ h => h)).trans kk4 (fun _ _ h => h)).trans kk5 (fun _ _ h => h)) (to := 0) (by omega) (by show (((S.d.write S.half (keyF tn l)).sync).zero (S.half + S.sz) S.sz).now.length = _; rw [zero_len _ _ _ (by show _ ≤ (S.d.write S.half (keyF tn l)).now.length; rw [HLEN.out]; have := HHN.out; omega)]; exact HLEN.out) (by have := HTN.out; omega) HT.out hb5)
    obtain ⟨ji, hji, hjs⟩ := infoPlace
    have hpe := run_eql_ptr_other (P := Try.prog) x4 (a := ⟨p, 4, none⟩) (b := ⟨p, 8, none⟩) Try.underlying92 hji hjs (by simp) hb4 hb4
    clear hji hjs
    clear hb0 hb1 hb2 hb3 hb4 hb5 kk1 kk2 kk3 kk4 kk5
    go_wp2
    go_ret
    rw [hA.out]
    exact ⟨rfl, HFIN.out⟩

set_option maxHeartbeats 4000000 in
set_option maxRecDepth 10000 in
theorem set_b (p pd : Nat) (S : SS) (F R Fd : Nat → Prop) (so : Option Addr) (co : Nat) (vs : List Value) (sk : Option Addr) (ck : Nat) (w : World) (h : StAt w p pd S F R Fd so co vs sk ck) (sa : Option Addr) (n cap : Nat) (l : List UInt8) (hl : Sl w sa n cap (BV l)) (hn : n ≤ 65536) (hav : ∀ ad, sa = some ad → 0 < n → ¬ F ad.block) (hlo : S.d.lo.length ≤ 1000000) (htn : S.turn + 1 ≤ 10000000000)
    (hnow : S.now = 0) (hturn : 0 < S.turn) :
    Calls Try.prog 27 #[.pointer (some ⟨p, 0, none⟩), .slice sa n cap] w fun e w' => e = .returned (.int .i64 (S.set l).2) ∧
      ∃ F' R', StoreAt w' p pd (S.set l).1 F' R' ∧ Keeps F w w' ∧ (∀ k, F' k → F k ∨ w.heap.size ≤ k) ∧ (∀ k, R' k → R k ∨ w.heap.size ≤ k) := by
  have hll : l.length = n := by have := hl.len; simpa using this
  have hto : S.to = 1 := by unfold SS.to; rw [hnow]; rw [if_pos hturn]
  have hb := h.blk
  rw [hnow] at hb
  replace hb : w.heap[p]? = some (.cells #[.pointer (some ⟨pd, 0, none⟩), .int .i64 (S.half : Int), .int .i64 (S.used : Int), .slice so S.recs.length co, .int .i64 (S.half : Int), .int .i64 (S.sz : Int), .int .u64 (S.turn : Int), .slice sk S.keys.length ck, .int .i64 ((S.half + S.sz : Nat) : Int), .int .i64 (S.sz : Int), .int .u64 0, .slice none 0 0, .int .i64 0] 74 (0, 0)) := hb
  have HB := Lib.hid hb
  have hsize := h.size
  have hhN : S.half + S.sz + S.sz ≤ S.d.now.length := by unfold SS.half SS.sz; omega
  have hh1 : S.half ≤ 65536 := by omega
  have hz1 : S.sz ≤ 65536 := by omega
  have HS := Lib.hid h
  have HL := Lib.hid hl
  have HAV := Lib.hid hav
  have HLO := Lib.hid hlo
  have HLL := Lib.hid (And.intro hll (And.intro hto hnow))
  have HHN := Lib.hid hhN
  have KG : Hid (Keeps (fun k => k = p ∨ Fd k) w w) := Keeps.refl _ w
  have HQ : Hid (Keeps (fun _ => False) w w) := Keeps.refl _ w
  have HD : Hid (Disk w pd S.d Fd ∧ ¬ Fd p ∧ ∀ k, Fd k → Fd k ∨ w.heap.size ≤ k) := ⟨h.disk, h.pd_, fun _ h => Or.inl h⟩
  have HPL := Lib.hid (lt_of_heap hb)
  have t0 : (S.turn : Int) > 0 := by omega
  have em1 : max (S.turn : Int) 0 = (S.turn : Int) := by omega
  have em2 : max (0 : Int) (S.turn : Int) = (S.turn : Int) := by omega
  obtain ⟨tn, htnn⟩ : ∃ tn, S.turn + 1 = tn := ⟨_, rfl⟩
  have ew : IntKind.u64.wrap ((S.turn : Int) + 1) = (tn : Int) := by rw [IntKind.wrap_u64]; omega
  have HTN := Lib.hid htnn
  rw [htnn] at htn
  have HT := Lib.hid htn
  have ew1 : IntKind.i64.wrap 1 = 1 := rfl
  have ew0 : IntKind.i64.wrap 0 = 0 := rfl
  clear h hl hav hlo hll hto hb hhN hnow htnn
  have hturn2 := Lib.hid hturn
  clear hturn
  go_enter Try.func27, Try.ntmps27
  go_wp2_with fail
  have c12 := cellAt HB.out 12
  simp at c12
  refine z_begin (fun w' => w'.cell? ⟨p, 12, none⟩ = some (.int .i64 0)) 9 (by kernel_rfl) (c12) (fun hHeld => ?_)
  have hk : Keeps (fun _ => False) w (World.drew w) := (Keeps.refl _ _).drew
  replace HQ := Lib.hid (HQ.out.quiet hk)
  replace HB := Lib.hid ((hk.block p (lt_of_heap HB.out) (fun h => h)).trans HB.out)
  replace KG := Lib.hid (KG.out.quiet hk)
  replace HD := Lib.hid (And.intro (HD.out.1.keep hk (fun _ _ h => h)) HD.out.2)
  clear hk
  generalize World.drew w = u1 at *
  clear c12
  refine z_take 0 (v := ?_) rfl (by kernel_rfl) (by kernel_rfl) (by kernel_rfl) (by kernel_rfl) (fun _ _ _ h => h) hHeld (by rfl) (fun w hSw => ?_) ?_
  rotate_left
  · have hSw1 := hSw; clear hSw; simp only [List.getElem_toArray, List.getElem_cons_zero]; go_simp; try rfl
  simp only [Act.put, List.getElem_toArray, List.getElem_cons_zero, List.setIfInBounds_toArray, List.set_cons_zero, List.set_cons_succ]
  refine z_take 1 (v := ?_) rfl (by kernel_rfl) (by kernel_rfl) (by kernel_rfl) (by kernel_rfl) (fun _ _ _ h => h) hHeld (by rfl) (fun w hSw => ?_) ?_
  rotate_left
  · have hSw1 := hSw; clear hSw; simp only [List.getElem_toArray, List.getElem_cons_zero, List.getElem_cons_succ]; go_simp; try rfl
  simp only [Act.put, List.getElem_toArray, List.getElem_cons_zero, List.getElem_cons_succ, List.setIfInBounds_toArray, List.set_cons_zero, List.set_cons_succ]
  refine z_take 2 (v := ?_) rfl (by kernel_rfl) (by kernel_rfl) (by kernel_rfl) (by kernel_rfl) (fun _ _ _ h => h) hHeld (by rfl) (fun w hSw => ?_) ?_
  rotate_left
  · have hSw1 := hSw; clear hSw; simp only [List.getElem_toArray, List.getElem_cons_zero, List.getElem_cons_succ]; go_simp; try rfl
  simp only [Act.put, List.getElem_toArray, List.getElem_cons_zero, List.getElem_cons_succ, List.setIfInBounds_toArray, List.set_cons_zero, List.set_cons_succ]
  refine z_take 3 (v := ?_) rfl (by kernel_rfl) (by kernel_rfl) (by kernel_rfl) (by kernel_rfl) (fun _ _ _ h => h) hHeld (by rfl) (fun w hSw => ?_) ?_
  rotate_left
  · have hSw1 := hSw; clear hSw; simp only [List.getElem_toArray, List.getElem_cons_zero, List.getElem_cons_succ]; go_simp; try rfl
  simp only [Act.put, List.getElem_toArray, List.getElem_cons_zero, List.getElem_cons_succ, List.setIfInBounds_toArray, List.set_cons_zero, List.set_cons_succ]
  refine z_take 4 (v := ?_) rfl (by kernel_rfl) (by kernel_rfl) (by kernel_rfl) (by kernel_rfl) (fun _ _ _ h => h) hHeld (by rfl) (fun w hSw => ?_) ?_
  rotate_left
  · have hSw1 := hSw; clear hSw; simp only [List.getElem_toArray, List.getElem_cons_zero, List.getElem_cons_succ]; go_simp; try rfl
  simp only [Act.put, List.getElem_toArray, List.getElem_cons_zero, List.getElem_cons_succ, List.setIfInBounds_toArray, List.set_cons_zero, List.set_cons_succ]
  refine z_take 5 (v := ?_) rfl (by kernel_rfl) (by kernel_rfl) (by kernel_rfl) (by kernel_rfl) (fun _ _ _ h => h) hHeld (by rfl) (fun w hSw => ?_) ?_
  rotate_left
  · have hSw1 := hSw; clear hSw; simp only [List.getElem_toArray, List.getElem_cons_zero, List.getElem_cons_succ]; go_simp; try rfl
  simp only [Act.put, List.getElem_toArray, List.getElem_cons_zero, List.getElem_cons_succ, List.setIfInBounds_toArray, List.set_cons_zero, List.set_cons_succ]
  refine z_take 6 (v := ?_) rfl (by kernel_rfl) (by kernel_rfl) (by kernel_rfl) (by kernel_rfl) (fun _ _ _ h => h) hHeld (by rfl) (fun w hSw => ?_) ?_
  rotate_left
  · have hSw1 := hSw; clear hSw; simp only [List.getElem_toArray, List.getElem_cons_zero, List.getElem_cons_succ]; go_simp; try rfl
  simp only [Act.put, List.getElem_toArray, List.getElem_cons_zero, List.getElem_cons_succ, List.setIfInBounds_toArray, List.set_cons_zero, List.set_cons_succ]
  refine z_take 7 (v := ?_) rfl (by kernel_rfl) (by kernel_rfl) (by kernel_rfl) (by kernel_rfl) (fun _ _ _ h => h) hHeld (by rfl) (fun w hSw => ?_) ?_
  rotate_left
  · have hSw1 := hSw; clear hSw; simp only [List.getElem_toArray, List.getElem_cons_zero, List.getElem_cons_succ]; go_simp; try rfl
  simp only [Act.put, List.getElem_toArray, List.getElem_cons_zero, List.getElem_cons_succ, List.setIfInBounds_toArray, List.set_cons_zero, List.set_cons_succ]
  refine z_take 8 (v := ?_) rfl (by kernel_rfl) (by kernel_rfl) (by kernel_rfl) (by kernel_rfl) (fun _ _ _ h => h) hHeld (by rfl) (fun w hSw => ?_) ?_
  rotate_left
  · have hSw1 := hSw; clear hSw; simp only [List.getElem_toArray, List.getElem_cons_zero, List.getElem_cons_succ]; go_simp; try rfl
  simp only [Act.put, List.getElem_toArray, List.getElem_cons_zero, List.getElem_cons_succ, List.setIfInBounds_toArray, List.set_cons_zero, List.set_cons_succ]
  refine z_done (by kernel_rfl) ?_ _
  clear hHeld
  have c6 := cellAt HB.out 6
  simp at c6
  go_wp2_with fail
  have c12 := cellAt HB.out 12
  simp at c12
  refine z_begin (fun w' => w'.cell? ⟨p, 12, none⟩ = some (.int .i64 0)) 10 (by kernel_rfl) (c12) (fun hHeld => ?_)
  have hk : Keeps (fun _ => False) u1 (World.drew u1) := (Keeps.refl _ _).drew
  replace HQ := Lib.hid (HQ.out.quiet hk)
  replace HB := Lib.hid ((hk.block p (lt_of_heap HB.out) (fun h => h)).trans HB.out)
  replace KG := Lib.hid (KG.out.quiet hk)
  replace HD := Lib.hid (And.intro (HD.out.1.keep hk (fun _ _ h => h)) HD.out.2)
  clear hk
  generalize World.drew u1 = u2 at *
  clear c12
  refine z_take 0 (v := ?_) rfl (by kernel_rfl) (by kernel_rfl) (by kernel_rfl) (by kernel_rfl) (fun _ _ _ h => h) hHeld (by rfl) (fun w hSw => ?_) ?_
  rotate_left
  · have hSw1 := hSw; clear hSw; simp only [List.getElem_toArray, List.getElem_cons_zero]; go_simp; try rfl
  simp only [Act.put, List.getElem_toArray, List.getElem_cons_zero, List.setIfInBounds_toArray, List.set_cons_zero, List.set_cons_succ]
  refine z_take 1 (v := ?_) rfl (by kernel_rfl) (by kernel_rfl) (by kernel_rfl) (by kernel_rfl) (fun _ _ _ h => h) hHeld (by rfl) (fun w hSw => ?_) ?_
  rotate_left
  · have hSw1 := hSw; clear hSw; simp only [List.getElem_toArray, List.getElem_cons_zero, List.getElem_cons_succ]; go_simp; try rfl
  simp only [Act.put, List.getElem_toArray, List.getElem_cons_zero, List.getElem_cons_succ, List.setIfInBounds_toArray, List.set_cons_zero, List.set_cons_succ]
  refine z_take 2 (v := ?_) rfl (by kernel_rfl) (by kernel_rfl) (by kernel_rfl) (by kernel_rfl) (fun _ _ _ h => h) hHeld (by rfl) (fun w hSw => ?_) ?_
  rotate_left
  · have hSw1 := hSw; clear hSw; simp only [List.getElem_toArray, List.getElem_cons_zero, List.getElem_cons_succ]; go_simp; try rfl
  simp only [Act.put, List.getElem_toArray, List.getElem_cons_zero, List.getElem_cons_succ, List.setIfInBounds_toArray, List.set_cons_zero, List.set_cons_succ]
  refine z_take 3 (v := ?_) rfl (by kernel_rfl) (by kernel_rfl) (by kernel_rfl) (by kernel_rfl) (fun _ _ _ h => h) hHeld (by rfl) (fun w hSw => ?_) ?_
  rotate_left
  · have hSw1 := hSw; clear hSw; simp only [List.getElem_toArray, List.getElem_cons_zero, List.getElem_cons_succ]; go_simp; try rfl
  simp only [Act.put, List.getElem_toArray, List.getElem_cons_zero, List.getElem_cons_succ, List.setIfInBounds_toArray, List.set_cons_zero, List.set_cons_succ]
  refine z_take 4 (v := ?_) rfl (by kernel_rfl) (by kernel_rfl) (by kernel_rfl) (by kernel_rfl) (fun _ _ _ h => h) hHeld (by rfl) (fun w hSw => ?_) ?_
  rotate_left
  · have hSw1 := hSw; clear hSw; simp only [List.getElem_toArray, List.getElem_cons_zero, List.getElem_cons_succ]; go_simp; try rfl
  simp only [Act.put, List.getElem_toArray, List.getElem_cons_zero, List.getElem_cons_succ, List.setIfInBounds_toArray, List.set_cons_zero, List.set_cons_succ]
  refine z_take 5 (v := ?_) rfl (by kernel_rfl) (by kernel_rfl) (by kernel_rfl) (by kernel_rfl) (fun _ _ _ h => h) hHeld (by rfl) (fun w hSw => ?_) ?_
  rotate_left
  · have hSw1 := hSw; clear hSw; simp only [List.getElem_toArray, List.getElem_cons_zero, List.getElem_cons_succ]; go_simp; try rfl
  simp only [Act.put, List.getElem_toArray, List.getElem_cons_zero, List.getElem_cons_succ, List.setIfInBounds_toArray, List.set_cons_zero, List.set_cons_succ]
  refine z_take 6 (v := ?_) rfl (by kernel_rfl) (by kernel_rfl) (by kernel_rfl) (by kernel_rfl) (fun _ _ _ h => h) hHeld (by rfl) (fun w hSw => ?_) ?_
  rotate_left
  · have hSw1 := hSw; clear hSw; simp only [List.getElem_toArray, List.getElem_cons_zero, List.getElem_cons_succ]; go_simp; try rfl
  simp only [Act.put, List.getElem_toArray, List.getElem_cons_zero, List.getElem_cons_succ, List.setIfInBounds_toArray, List.set_cons_zero, List.set_cons_succ]
  refine z_take 7 (v := ?_) rfl (by kernel_rfl) (by kernel_rfl) (by kernel_rfl) (by kernel_rfl) (fun _ _ _ h => h) hHeld (by rfl) (fun w hSw => ?_) ?_
  rotate_left
  · have hSw1 := hSw; clear hSw; simp only [List.getElem_toArray, List.getElem_cons_zero, List.getElem_cons_succ]; go_simp; try rfl
  simp only [Act.put, List.getElem_toArray, List.getElem_cons_zero, List.getElem_cons_succ, List.setIfInBounds_toArray, List.set_cons_zero, List.set_cons_succ]
  refine z_take 8 (v := ?_) rfl (by kernel_rfl) (by kernel_rfl) (by kernel_rfl) (by kernel_rfl) (fun _ _ _ h => h) hHeld (by rfl) (fun w hSw => ?_) ?_
  rotate_left
  · have hSw1 := hSw; clear hSw; simp only [List.getElem_toArray, List.getElem_cons_zero, List.getElem_cons_succ]; go_simp; try rfl
  simp only [Act.put, List.getElem_toArray, List.getElem_cons_zero, List.getElem_cons_succ, List.setIfInBounds_toArray, List.set_cons_zero, List.set_cons_succ]
  refine z_take 9 (v := ?_) rfl (by kernel_rfl) (by kernel_rfl) (by kernel_rfl) (by kernel_rfl) (fun _ _ _ h => h) hHeld (by rfl) (fun w hSw => ?_) ?_
  rotate_left
  · have hSw1 := hSw; clear hSw; simp only [List.getElem_toArray, List.getElem_cons_zero, List.getElem_cons_succ]; go_simp; try rfl
  simp only [Act.put, List.getElem_toArray, List.getElem_cons_zero, List.getElem_cons_succ, List.setIfInBounds_toArray, List.set_cons_zero, List.set_cons_succ]
  refine z_done (by kernel_rfl) ?_ _
  clear hHeld
  try clear c6
  go_wp2_with fail
  have c6 := cellAt HB.out 6
  simp at c6
  have c10 := cellAt HB.out 10
  simp at c10
  refine z_begin (fun w' => w'.cell? ⟨p, 6, none⟩ = some (.int .u64 (S.turn : Int)) ∧ w'.cell? ⟨p, 10, none⟩ = some (.int .u64 0)) 11 (by kernel_rfl) (⟨c6, c10⟩) (fun hHeld => ?_)
  have hk : Keeps (fun _ => False) u2 (World.drew u2) := (Keeps.refl _ _).drew
  replace HQ := Lib.hid (HQ.out.quiet hk)
  replace HB := Lib.hid ((hk.block p (lt_of_heap HB.out) (fun h => h)).trans HB.out)
  replace KG := Lib.hid (KG.out.quiet hk)
  replace HD := Lib.hid (And.intro (HD.out.1.keep hk (fun _ _ h => h)) HD.out.2)
  clear hk
  generalize World.drew u2 = u3 at *
  clear c6 c10
  refine z_take 0 (v := ?_) rfl (by kernel_rfl) (by kernel_rfl) (by kernel_rfl) (by kernel_rfl) (fun _ _ _ h => h) hHeld (by rfl) (fun w hSw => ?_) ?_
  rotate_left
  · obtain ⟨hSw1, hSw2⟩ := hSw; simp only [List.getElem_toArray, List.getElem_cons_zero]; go_simp; try rfl
  simp only [Act.put, List.getElem_toArray, List.getElem_cons_zero, List.setIfInBounds_toArray, List.set_cons_zero, List.set_cons_succ]
  refine z_take 1 (v := ?_) rfl (by kernel_rfl) (by kernel_rfl) (by kernel_rfl) (by kernel_rfl) (fun _ _ _ h => h) hHeld (by rfl) (fun w hSw => ?_) ?_
  rotate_left
  · obtain ⟨hSw1, hSw2⟩ := hSw; simp only [List.getElem_toArray, List.getElem_cons_zero, List.getElem_cons_succ]; go_simp; try rfl
  simp only [Act.put, List.getElem_toArray, List.getElem_cons_zero, List.getElem_cons_succ, List.setIfInBounds_toArray, List.set_cons_zero, List.set_cons_succ]
  refine z_take 2 (v := ?_) rfl (by kernel_rfl) (by kernel_rfl) (by kernel_rfl) (by kernel_rfl) (fun _ _ _ h => h) hHeld (by rfl) (fun w hSw => ?_) ?_
  rotate_left
  · obtain ⟨hSw1, hSw2⟩ := hSw; simp only [List.getElem_toArray, List.getElem_cons_zero, List.getElem_cons_succ]; go_simp; try rfl
  simp only [Act.put, List.getElem_toArray, List.getElem_cons_zero, List.getElem_cons_succ, List.setIfInBounds_toArray, List.set_cons_zero, List.set_cons_succ]
  refine z_take 3 (v := ?_) rfl (by kernel_rfl) (by kernel_rfl) (by kernel_rfl) (by kernel_rfl) (fun _ _ _ h => h) hHeld (by rfl) (fun w hSw => ?_) ?_
  rotate_left
  · obtain ⟨hSw1, hSw2⟩ := hSw; simp only [List.getElem_toArray, List.getElem_cons_zero, List.getElem_cons_succ]; go_simp; try rfl
  simp only [Act.put, List.getElem_toArray, List.getElem_cons_zero, List.getElem_cons_succ, List.setIfInBounds_toArray, List.set_cons_zero, List.set_cons_succ]
  refine z_take 4 (v := ?_) rfl (by kernel_rfl) (by kernel_rfl) (by kernel_rfl) (by kernel_rfl) (fun _ _ _ h => h) hHeld (by rfl) (fun w hSw => ?_) ?_
  rotate_left
  · obtain ⟨hSw1, hSw2⟩ := hSw; simp only [List.getElem_toArray, List.getElem_cons_zero, List.getElem_cons_succ]; go_simp; try rfl
  simp only [Act.put, List.getElem_toArray, List.getElem_cons_zero, List.getElem_cons_succ, List.setIfInBounds_toArray, List.set_cons_zero, List.set_cons_succ]
  refine z_take 5 (v := ?_) rfl (by kernel_rfl) (by kernel_rfl) (by kernel_rfl) (by kernel_rfl) (fun _ _ _ h => h) hHeld (by rfl) (fun w hSw => ?_) ?_
  rotate_left
  · obtain ⟨hSw1, hSw2⟩ := hSw; simp only [List.getElem_toArray, List.getElem_cons_zero, List.getElem_cons_succ]; go_simp; try rfl
  simp only [Act.put, List.getElem_toArray, List.getElem_cons_zero, List.getElem_cons_succ, List.setIfInBounds_toArray, List.set_cons_zero, List.set_cons_succ]
  refine z_take 6 (v := ?_) rfl (by kernel_rfl) (by kernel_rfl) (by kernel_rfl) (by kernel_rfl) (fun _ _ _ h => h) hHeld (by rfl) (fun w hSw => ?_) ?_
  rotate_left
  · obtain ⟨hSw1, hSw2⟩ := hSw; simp only [List.getElem_toArray, List.getElem_cons_zero, List.getElem_cons_succ]; go_simp; try rfl
  simp only [Act.put, List.getElem_toArray, List.getElem_cons_zero, List.getElem_cons_succ, List.setIfInBounds_toArray, List.set_cons_zero, List.set_cons_succ]
  refine z_take 7 (v := ?_) rfl (by kernel_rfl) (by kernel_rfl) (by kernel_rfl) (by kernel_rfl) (fun _ _ _ h => h) hHeld (by rfl) (fun w hSw => ?_) ?_
  rotate_left
  · obtain ⟨hSw1, hSw2⟩ := hSw; simp only [List.getElem_toArray, List.getElem_cons_zero, List.getElem_cons_succ]; go_simp; try rfl
  simp only [Act.put, List.getElem_toArray, List.getElem_cons_zero, List.getElem_cons_succ, List.setIfInBounds_toArray, List.set_cons_zero, List.set_cons_succ]
  refine z_take 8 (v := ?_) rfl (by kernel_rfl) (by kernel_rfl) (by kernel_rfl) (by kernel_rfl) (fun _ _ _ h => h) hHeld (by rfl) (fun w hSw => ?_) ?_
  rotate_left
  · obtain ⟨hSw1, hSw2⟩ := hSw; simp only [List.getElem_toArray, List.getElem_cons_zero, List.getElem_cons_succ]; go_simp; try rfl
  simp only [Act.put, List.getElem_toArray, List.getElem_cons_zero, List.getElem_cons_succ, List.setIfInBounds_toArray, List.set_cons_zero, List.set_cons_succ]
  refine z_take 9 (v := ?_) rfl (by kernel_rfl) (by kernel_rfl) (by kernel_rfl) (by kernel_rfl) (fun _ _ _ h => h) hHeld (by rfl) (fun w hSw => ?_) ?_
  rotate_left
  · obtain ⟨hSw1, hSw2⟩ := hSw; simp only [List.getElem_toArray, List.getElem_cons_zero, List.getElem_cons_succ]; go_simp; try rfl
  simp only [Act.put, List.getElem_toArray, List.getElem_cons_zero, List.getElem_cons_succ, List.setIfInBounds_toArray, List.set_cons_zero, List.set_cons_succ]
  refine z_take 10 (v := ?_) rfl (by kernel_rfl) (by kernel_rfl) (by kernel_rfl) (by kernel_rfl) (fun _ _ _ h => h) hHeld (by rfl) (fun w hSw => ?_) ?_
  rotate_left
  · obtain ⟨hSw1, hSw2⟩ := hSw; simp only [List.getElem_toArray, List.getElem_cons_zero, List.getElem_cons_succ]; go_simp; try rfl
  simp only [Act.put, List.getElem_toArray, List.getElem_cons_zero, List.getElem_cons_succ, List.setIfInBounds_toArray, List.set_cons_zero, List.set_cons_succ]
  refine z_done (by kernel_rfl) ?_ _
  clear hHeld
  try rw [em1]
  try rw [em2]
  try rw [ew]
  have hKw := Lib.hid KG.out.size
  have HF := Lib.hid (keysFrame_any tn sa n cap l u3 (by have := HT.out; unfold U64; omega) (HL.out.keep KG.out (fun ad e h0 _ hG => HAV.out ad e h0 ((HS.out.foot _).2 (hG.imp id Or.inl)))) (by omega))
  go_wp2_with fail
  refine HF.out.mono ?_
  rintro e u4 ⟨sf, cf, rfl, hown, hk⟩
  clear HF
  replace HQ := Lib.hid (HQ.out.quiet hk)
  replace HB := Lib.hid ((hk.block p (lt_of_heap HB.out) (fun h => h)).trans HB.out)
  replace KG := Lib.hid (KG.out.quiet hk)
  replace HD := Lib.hid (And.intro (HD.out.1.keep hk (fun _ _ h => h)) HD.out.2)
  obtain ⟨gf, rfl⟩ := own_some hown (by omega)
  have HG : Hid (w.heap.size ≤ gf) := by have h1 := (own_lt hown rfl).1; have h2 := KG.out.size; show _ ≤ _; have h3 := hk.size; exact Nat.le_trans hKw.out h1
  have OF := Lib.hid hown
  clear hown hk
  have c9 := cellAt HB.out 9
  simp at c9
  by_cases hfull : S.sz < n + 14
  · have hA : Hid (S.set l = (S, 3)) := by show _ = _; unfold SS.set; rw [HLL.out.1, if_pos hfull]
    have tf : ((n + 14 : Nat) : Int) > (S.sz : Int) := by omega
    have tf2 : (n : Int) + 14 > (S.sz : Int) := by omega
    clear hfull
    go_wp2
    go_ret
    rw [hA.out]
    have kq : Keeps (fun k => k = p ∨ Fd k) w u4 := KG.out
    exact ⟨rfl, F, R, StoreAt.quiet ⟨Fd, so, co, vs, sk, ck, HS.out⟩ HQ.out, HQ.out.mono (fun _ _ h => h.elim), fun _ h => Or.inl h, fun _ h => Or.inl h⟩
  have tf : ¬ ((n + 14 : Nat) : Int) > (S.sz : Int) := by omega
  have tf2 : ¬ (n : Int) + 14 > (S.sz : Int) := by omega
  have hfl : n + 14 ≤ S.sz := by omega
  have hlen1 : (S.d.write (S.half + S.sz) (keyF tn l)).now.length = S.d.now.length := write_len _ _ _ (by rw [keyF_length, HLL.out.1]; have := HHN.out; omega)
  have HLEN := Lib.hid hlen1
  clear hlen1
  by_cases hcr : S.d.cr = true
  · have hA : Hid (S.set l = (S, 30)) := by show _ = _; unfold SS.set; rw [HLL.out.1, if_neg (by omega), if_pos hcr]
    have hcr2 := Lib.hid hcr
    clear hcr
    go_wp2_with fail
    clear c9
    have c0 := cellAt HB.out 0
    simp at c0
    have c8 := cellAt HB.out 8
    simp at c8
    refine z_begin (fun w' => w'.cell? ⟨p, 0, none⟩ = some (.pointer (some ⟨pd, 0, none⟩)) ∧ w'.cell? ⟨p, 8, none⟩ = some (.int .i64 ((S.half + S.sz : Nat) : Int))) 11 (by kernel_rfl) (⟨c0, c8⟩) (fun hHeld => ?_)
    have hk : Keeps (fun _ => False) u4 (World.drew u4) := (Keeps.refl _ _).drew
    replace HQ := Lib.hid (HQ.out.quiet hk)
    replace HB := Lib.hid ((hk.block p (lt_of_heap HB.out) (fun h => h)).trans HB.out)
    replace KG := Lib.hid (KG.out.quiet hk)
    replace HD := Lib.hid (And.intro (HD.out.1.keep hk (fun _ _ h => h)) HD.out.2)
    replace OF := Lib.hid (own_keep OF.out hk (fun _ _ h => h))
    clear hk
    generalize World.drew u4 = u5 at *
    clear c0 c8
    refine z_take 0 (v := ?_) rfl (by kernel_rfl) (by kernel_rfl) (by kernel_rfl) (by kernel_rfl) (fun _ _ _ h => h) hHeld (by rfl) (fun w hSw => ?_) ?_
    rotate_left
    · obtain ⟨hSw1, hSw2⟩ := hSw; simp only [List.getElem_toArray, List.getElem_cons_zero]; go_simp; try rfl
    simp only [Act.put, List.getElem_toArray, List.getElem_cons_zero, List.setIfInBounds_toArray, List.set_cons_zero, List.set_cons_succ]
    refine z_take 1 (v := ?_) rfl (by kernel_rfl) (by kernel_rfl) (by kernel_rfl) (by kernel_rfl) (fun _ _ _ h => h) hHeld (by rfl) (fun w hSw => ?_) ?_
    rotate_left
    · obtain ⟨hSw1, hSw2⟩ := hSw; simp only [List.getElem_toArray, List.getElem_cons_zero, List.getElem_cons_succ]; go_simp; try rfl
    simp only [Act.put, List.getElem_toArray, List.getElem_cons_zero, List.getElem_cons_succ, List.setIfInBounds_toArray, List.set_cons_zero, List.set_cons_succ]
    refine z_take 2 (v := ?_) rfl (by kernel_rfl) (by kernel_rfl) (by kernel_rfl) (by kernel_rfl) (fun _ _ _ h => h) hHeld (by rfl) (fun w hSw => ?_) ?_
    rotate_left
    · obtain ⟨hSw1, hSw2⟩ := hSw; simp only [List.getElem_toArray, List.getElem_cons_zero, List.getElem_cons_succ]; go_simp; try rfl
    simp only [Act.put, List.getElem_toArray, List.getElem_cons_zero, List.getElem_cons_succ, List.setIfInBounds_toArray, List.set_cons_zero, List.set_cons_succ]
    refine z_take 3 (v := ?_) rfl (by kernel_rfl) (by kernel_rfl) (by kernel_rfl) (by kernel_rfl) (fun _ _ _ h => h) hHeld (by rfl) (fun w hSw => ?_) ?_
    rotate_left
    · obtain ⟨hSw1, hSw2⟩ := hSw; simp only [List.getElem_toArray, List.getElem_cons_zero, List.getElem_cons_succ]; go_simp; try rfl
    simp only [Act.put, List.getElem_toArray, List.getElem_cons_zero, List.getElem_cons_succ, List.setIfInBounds_toArray, List.set_cons_zero, List.set_cons_succ]
    refine z_take 4 (v := ?_) rfl (by kernel_rfl) (by kernel_rfl) (by kernel_rfl) (by kernel_rfl) (fun _ _ _ h => h) hHeld (by rfl) (fun w hSw => ?_) ?_
    rotate_left
    · obtain ⟨hSw1, hSw2⟩ := hSw; simp only [List.getElem_toArray, List.getElem_cons_zero, List.getElem_cons_succ]; go_simp; try rfl
    simp only [Act.put, List.getElem_toArray, List.getElem_cons_zero, List.getElem_cons_succ, List.setIfInBounds_toArray, List.set_cons_zero, List.set_cons_succ]
    refine z_take 5 (v := ?_) rfl (by kernel_rfl) (by kernel_rfl) (by kernel_rfl) (by kernel_rfl) (fun _ _ _ h => h) hHeld (by rfl) (fun w hSw => ?_) ?_
    rotate_left
    · obtain ⟨hSw1, hSw2⟩ := hSw; simp only [List.getElem_toArray, List.getElem_cons_zero, List.getElem_cons_succ]; go_simp; try rfl
    simp only [Act.put, List.getElem_toArray, List.getElem_cons_zero, List.getElem_cons_succ, List.setIfInBounds_toArray, List.set_cons_zero, List.set_cons_succ]
    refine z_take 6 (v := ?_) rfl (by kernel_rfl) (by kernel_rfl) (by kernel_rfl) (by kernel_rfl) (fun _ _ _ h => h) hHeld (by rfl) (fun w hSw => ?_) ?_
    rotate_left
    · obtain ⟨hSw1, hSw2⟩ := hSw; simp only [List.getElem_toArray, List.getElem_cons_zero, List.getElem_cons_succ]; go_simp; try rfl
    simp only [Act.put, List.getElem_toArray, List.getElem_cons_zero, List.getElem_cons_succ, List.setIfInBounds_toArray, List.set_cons_zero, List.set_cons_succ]
    refine z_take 7 (v := ?_) rfl (by kernel_rfl) (by kernel_rfl) (by kernel_rfl) (by kernel_rfl) (fun _ _ _ h => h) hHeld (by rfl) (fun w hSw => ?_) ?_
    rotate_left
    · obtain ⟨hSw1, hSw2⟩ := hSw; simp only [List.getElem_toArray, List.getElem_cons_zero, List.getElem_cons_succ]; go_simp; try rfl
    simp only [Act.put, List.getElem_toArray, List.getElem_cons_zero, List.getElem_cons_succ, List.setIfInBounds_toArray, List.set_cons_zero, List.set_cons_succ]
    refine z_take 8 (v := ?_) rfl (by kernel_rfl) (by kernel_rfl) (by kernel_rfl) (by kernel_rfl) (fun _ _ _ h => h) hHeld (by rfl) (fun w hSw => ?_) ?_
    rotate_left
    · obtain ⟨hSw1, hSw2⟩ := hSw; simp only [List.getElem_toArray, List.getElem_cons_zero, List.getElem_cons_succ]; go_simp; try rfl
    simp only [Act.put, List.getElem_toArray, List.getElem_cons_zero, List.getElem_cons_succ, List.setIfInBounds_toArray, List.set_cons_zero, List.set_cons_succ]
    refine z_one 9 rfl (by kernel_rfl) (by rfl) (fun K hK => ?_)
    simp only [List.getElem_toArray, List.getElem_cons_zero, List.getElem_cons_succ]
    go_simp
    refine (write_down pd _ (some ⟨gf, 0, none⟩) (n + 14) cf S.d Fd u5 HD.out.1 hcr2.out).mono ?_
    rintro e u6 ⟨rfl, hk⟩
    replace HQ := Lib.hid (HQ.out.quiet hk)
    replace HB := Lib.hid ((hk.block p (lt_of_heap HB.out) (fun h => h)).trans HB.out)
    replace KG := Lib.hid (KG.out.quiet hk)
    replace HD := Lib.hid (And.intro (HD.out.1.keep hk (fun _ _ h => h)) HD.out.2)
    replace OF := Lib.hid (own_keep OF.out hk (fun _ _ h => h))
    refine hK _ _ (Or.inr ?_) (fun hHeld => ?_)
    · exact ⟨sc hk hHeld.1, sc hk hHeld.2⟩
    clear hK K hk
    replace hHeld := hHeld.resolve_left (by decide)
    try simp only [Act.put, List.setIfInBounds_toArray, List.set_cons_zero, List.set_cons_succ]
    refine z_one 10 rfl (by kernel_rfl) (by rfl) (fun K hK => ?_)
    simp only [List.getElem_toArray, List.getElem_cons_zero, List.getElem_cons_succ]
    go_simp
    refine hK _ _ (Or.inr hHeld) (fun _ => ?_)
    clear hK K
    try simp only [Act.put, List.setIfInBounds_toArray, List.set_cons_zero, List.set_cons_succ]
    refine z_done (by kernel_rfl) ?_ _
    clear hHeld
    have e30 : ((30 : Int) != 0) = true := by decide
    go_wp2
    go_ret
    rw [hA.out]
    exact ⟨rfl, F, R, StoreAt.quiet ⟨Fd, so, co, vs, sk, ck, HS.out⟩ HQ.out, HQ.out.mono (fun _ _ h => h.elim), fun _ h => Or.inl h, fun _ h => Or.inl h⟩
  · have hA : Hid (S.set l = ({ S with d := (((S.d.write (S.half + S.sz) (keyF tn l)).sync).zero S.half S.sz).sync, now := 1, turn := tn, keys := l }, 0)) := by
      show _ = _
      unfold SS.set
      rw [HLL.out.1, if_neg (by omega), if_neg hcr, HLL.out.2.1, HTN.out]
      simp [SS.atP]
    have hcr2 := Lib.hid (show S.d.cr = false by simpa using hcr)
    clear hcr
    go_wp2_with fail
    clear c9
    have c0 := cellAt HB.out 0
    simp at c0
    have c8 := cellAt HB.out 8
    simp at c8
    refine z_begin (fun w' => w'.cell? ⟨p, 0, none⟩ = some (.pointer (some ⟨pd, 0, none⟩)) ∧ w'.cell? ⟨p, 8, none⟩ = some (.int .i64 ((S.half + S.sz : Nat) : Int))) 11 (by kernel_rfl) (⟨c0, c8⟩) (fun hHeld => ?_)
    have hk : Keeps (fun _ => False) u4 (World.drew u4) := (Keeps.refl _ _).drew
    replace HQ := Lib.hid (HQ.out.quiet hk)
    replace HB := Lib.hid ((hk.block p (lt_of_heap HB.out) (fun h => h)).trans HB.out)
    replace KG := Lib.hid (KG.out.quiet hk)
    replace HD := Lib.hid (And.intro (HD.out.1.keep hk (fun _ _ h => h)) HD.out.2)
    replace OF := Lib.hid (own_keep OF.out hk (fun _ _ h => h))
    clear hk
    generalize World.drew u4 = u7 at *
    clear c0 c8
    refine z_take 0 (v := ?_) rfl (by kernel_rfl) (by kernel_rfl) (by kernel_rfl) (by kernel_rfl) (fun _ _ _ h => h) hHeld (by rfl) (fun w hSw => ?_) ?_
    rotate_left
    · obtain ⟨hSw1, hSw2⟩ := hSw; simp only [List.getElem_toArray, List.getElem_cons_zero]; go_simp; try rfl
    simp only [Act.put, List.getElem_toArray, List.getElem_cons_zero, List.setIfInBounds_toArray, List.set_cons_zero, List.set_cons_succ]
    refine z_take 1 (v := ?_) rfl (by kernel_rfl) (by kernel_rfl) (by kernel_rfl) (by kernel_rfl) (fun _ _ _ h => h) hHeld (by rfl) (fun w hSw => ?_) ?_
    rotate_left
    · obtain ⟨hSw1, hSw2⟩ := hSw; simp only [List.getElem_toArray, List.getElem_cons_zero, List.getElem_cons_succ]; go_simp; try rfl
    simp only [Act.put, List.getElem_toArray, List.getElem_cons_zero, List.getElem_cons_succ, List.setIfInBounds_toArray, List.set_cons_zero, List.set_cons_succ]
    refine z_take 2 (v := ?_) rfl (by kernel_rfl) (by kernel_rfl) (by kernel_rfl) (by kernel_rfl) (fun _ _ _ h => h) hHeld (by rfl) (fun w hSw => ?_) ?_
    rotate_left
    · obtain ⟨hSw1, hSw2⟩ := hSw; simp only [List.getElem_toArray, List.getElem_cons_zero, List.getElem_cons_succ]; go_simp; try rfl
    simp only [Act.put, List.getElem_toArray, List.getElem_cons_zero, List.getElem_cons_succ, List.setIfInBounds_toArray, List.set_cons_zero, List.set_cons_succ]
    refine z_take 3 (v := ?_) rfl (by kernel_rfl) (by kernel_rfl) (by kernel_rfl) (by kernel_rfl) (fun _ _ _ h => h) hHeld (by rfl) (fun w hSw => ?_) ?_
    rotate_left
    · obtain ⟨hSw1, hSw2⟩ := hSw; simp only [List.getElem_toArray, List.getElem_cons_zero, List.getElem_cons_succ]; go_simp; try rfl
    simp only [Act.put, List.getElem_toArray, List.getElem_cons_zero, List.getElem_cons_succ, List.setIfInBounds_toArray, List.set_cons_zero, List.set_cons_succ]
    refine z_take 4 (v := ?_) rfl (by kernel_rfl) (by kernel_rfl) (by kernel_rfl) (by kernel_rfl) (fun _ _ _ h => h) hHeld (by rfl) (fun w hSw => ?_) ?_
    rotate_left
    · obtain ⟨hSw1, hSw2⟩ := hSw; simp only [List.getElem_toArray, List.getElem_cons_zero, List.getElem_cons_succ]; go_simp; try rfl
    simp only [Act.put, List.getElem_toArray, List.getElem_cons_zero, List.getElem_cons_succ, List.setIfInBounds_toArray, List.set_cons_zero, List.set_cons_succ]
    refine z_take 5 (v := ?_) rfl (by kernel_rfl) (by kernel_rfl) (by kernel_rfl) (by kernel_rfl) (fun _ _ _ h => h) hHeld (by rfl) (fun w hSw => ?_) ?_
    rotate_left
    · obtain ⟨hSw1, hSw2⟩ := hSw; simp only [List.getElem_toArray, List.getElem_cons_zero, List.getElem_cons_succ]; go_simp; try rfl
    simp only [Act.put, List.getElem_toArray, List.getElem_cons_zero, List.getElem_cons_succ, List.setIfInBounds_toArray, List.set_cons_zero, List.set_cons_succ]
    refine z_take 6 (v := ?_) rfl (by kernel_rfl) (by kernel_rfl) (by kernel_rfl) (by kernel_rfl) (fun _ _ _ h => h) hHeld (by rfl) (fun w hSw => ?_) ?_
    rotate_left
    · obtain ⟨hSw1, hSw2⟩ := hSw; simp only [List.getElem_toArray, List.getElem_cons_zero, List.getElem_cons_succ]; go_simp; try rfl
    simp only [Act.put, List.getElem_toArray, List.getElem_cons_zero, List.getElem_cons_succ, List.setIfInBounds_toArray, List.set_cons_zero, List.set_cons_succ]
    refine z_take 7 (v := ?_) rfl (by kernel_rfl) (by kernel_rfl) (by kernel_rfl) (by kernel_rfl) (fun _ _ _ h => h) hHeld (by rfl) (fun w hSw => ?_) ?_
    rotate_left
    · obtain ⟨hSw1, hSw2⟩ := hSw; simp only [List.getElem_toArray, List.getElem_cons_zero, List.getElem_cons_succ]; go_simp; try rfl
    simp only [Act.put, List.getElem_toArray, List.getElem_cons_zero, List.getElem_cons_succ, List.setIfInBounds_toArray, List.set_cons_zero, List.set_cons_succ]
    refine z_take 8 (v := ?_) rfl (by kernel_rfl) (by kernel_rfl) (by kernel_rfl) (by kernel_rfl) (fun _ _ _ h => h) hHeld (by rfl) (fun w hSw => ?_) ?_
    rotate_left
    · obtain ⟨hSw1, hSw2⟩ := hSw; simp only [List.getElem_toArray, List.getElem_cons_zero, List.getElem_cons_succ]; go_simp; try rfl
    simp only [Act.put, List.getElem_toArray, List.getElem_cons_zero, List.getElem_cons_succ, List.setIfInBounds_toArray, List.set_cons_zero, List.set_cons_succ]
    refine z_one 9 rfl (by kernel_rfl) (by rfl) (fun K hK => ?_)
    simp only [List.getElem_toArray, List.getElem_cons_zero, List.getElem_cons_succ]
    go_simp
    refine (write_ok pd (S.half + S.sz) (keyF tn l) (n + 14) (some ⟨gf, 0, none⟩) gf 0 cf S.d Fd u7 HD.out.1 hcr2.out (by rw [keyF_length, HLL.out.1]) (fun _ => rfl) (fun j c hj => by rw [Nat.zero_add]; exact own_cell OF.out j _ (by rw [BV_get, hj]; rfl)) (fun _ hf => by have h1 := HS.out.disk.lt gf hf; have h2 := HG.out; omega) (by have := HHN.out; omega) hsize HLO.out).mono ?_
    rintro e u8 ⟨rfl, F2, h1, h2, h3⟩
    have hnp2 := HD.out.2.1
    refine hK _ _ (Or.inr ?_) (fun hHeld => ?_)
    · exact ⟨by rw [h2.cell (World.block_lt_of_cell? _ _ hHeld.1) hnp2]; exact hHeld.1, by rw [h2.cell (World.block_lt_of_cell? _ _ hHeld.2) hnp2]; exact hHeld.2⟩
    clear hK K hnp2
    clear OF HQ
    replace HB := Lib.hid ((h2.block p (lt_of_heap HB.out) HD.out.2.1).trans HB.out)
    have b3' : ∀ k, F2 k → Fd k ∨ w.heap.size ≤ k := fun k hf => (h3 k hf).elim (fun h => HD.out.2.2 k h) (fun h => Or.inr (by have := KG.out.size; omega))
    have np' : ¬ F2 p := fun hf => (b3' p hf).elim HS.out.pd_ (fun h => by have := HPL.out; omega)
    replace KG := Lib.hid (KG.out.trans h2 (fun k hk hf => (HD.out.2.2 k hf).elim Or.inr (fun h => by omega)))
    replace HD := Lib.hid (And.intro h1 (And.intro np' b3'))
    clear h1 h2 h3 b3' np'
    replace hHeld := hHeld.resolve_left (by decide)
    try simp only [Act.put, List.setIfInBounds_toArray, List.set_cons_zero, List.set_cons_succ]
    refine z_one 10 rfl (by kernel_rfl) (by rfl) (fun K hK => ?_)
    simp only [List.getElem_toArray, List.getElem_cons_zero, List.getElem_cons_succ]
    go_simp
    refine hK _ _ (Or.inr hHeld) (fun _ => ?_)
    clear hK K
    try simp only [Act.put, List.setIfInBounds_toArray, List.set_cons_zero, List.set_cons_succ]
    refine z_done (by kernel_rfl) ?_ _
    clear hHeld
    have e00 : ((0 : Int) != 0) = false := by decide
    have c0 := cellAt HB.out 0
    simp at c0
    have HSY := Lib.hid (sync_ok pd (S.d.write (S.half + S.sz) (keyF tn l)) _ u8 HD.out.1 hcr2.out)
    go_wp2_with fail
    refine HSY.out.mono ?_
    rintro e u9 ⟨rfl, F2, h1, h2, h3⟩
    clear HSY c0
    replace HB := Lib.hid ((h2.block p (lt_of_heap HB.out) HD.out.2.1).trans HB.out)
    have b3' : ∀ k, F2 k → Fd k ∨ w.heap.size ≤ k := fun k hf => (h3 k hf).elim (fun h => HD.out.2.2 k h) (fun h => Or.inr (by have := KG.out.size; omega))
    have np' : ¬ F2 p := fun hf => (b3' p hf).elim HS.out.pd_ (fun h => by have := HPL.out; omega)
    replace KG := Lib.hid (KG.out.trans h2 (fun k hk hf => (HD.out.2.2 k hf).elim Or.inr (fun h => by omega)))
    replace HD := Lib.hid (And.intro h1 (And.intro np' b3'))
    clear h1 h2 h3 b3' np'
    go_wp2_with fail
    have c4 := cellAt HB.out 4
    simp at c4
    have c5 := cellAt HB.out 5
    simp at c5
    refine z_begin (fun w' => w'.cell? ⟨p, 4, none⟩ = some (.int .i64 (S.half : Int)) ∧ w'.cell? ⟨p, 5, none⟩ = some (.int .i64 (S.sz : Int))) 11 (by kernel_rfl) (⟨c4, c5⟩) (fun hHeld => ?_)
    have hk : Keeps (fun _ => False) u9 (World.drew u9) := (Keeps.refl _ _).drew
    replace HB := Lib.hid ((hk.block p (lt_of_heap HB.out) (fun h => h)).trans HB.out)
    replace KG := Lib.hid (KG.out.quiet hk)
    replace HD := Lib.hid (And.intro (HD.out.1.keep hk (fun _ _ h => h)) HD.out.2)
    clear hk
    generalize World.drew u9 = u10 at *
    clear c4 c5
    refine z_take 0 (v := ?_) rfl (by kernel_rfl) (by kernel_rfl) (by kernel_rfl) (by kernel_rfl) (fun _ _ _ h => h) hHeld (by rfl) (fun w hSw => ?_) ?_
    rotate_left
    · obtain ⟨hSw1, hSw2⟩ := hSw; simp only [List.getElem_toArray, List.getElem_cons_zero]; go_simp; try rfl
    simp only [Act.put, List.getElem_toArray, List.getElem_cons_zero, List.setIfInBounds_toArray, List.set_cons_zero, List.set_cons_succ]
    refine z_take 1 (v := ?_) rfl (by kernel_rfl) (by kernel_rfl) (by kernel_rfl) (by kernel_rfl) (fun _ _ _ h => h) hHeld (by rfl) (fun w hSw => ?_) ?_
    rotate_left
    · obtain ⟨hSw1, hSw2⟩ := hSw; simp only [List.getElem_toArray, List.getElem_cons_zero, List.getElem_cons_succ]; go_simp; try rfl
    simp only [Act.put, List.getElem_toArray, List.getElem_cons_zero, List.getElem_cons_succ, List.setIfInBounds_toArray, List.set_cons_zero, List.set_cons_succ]
    refine z_take 2 (v := ?_) rfl (by kernel_rfl) (by kernel_rfl) (by kernel_rfl) (by kernel_rfl) (fun _ _ _ h => h) hHeld (by rfl) (fun w hSw => ?_) ?_
    rotate_left
    · obtain ⟨hSw1, hSw2⟩ := hSw; simp only [List.getElem_toArray, List.getElem_cons_zero, List.getElem_cons_succ]; go_simp; try rfl
    simp only [Act.put, List.getElem_toArray, List.getElem_cons_zero, List.getElem_cons_succ, List.setIfInBounds_toArray, List.set_cons_zero, List.set_cons_succ]
    refine z_take 3 (v := ?_) rfl (by kernel_rfl) (by kernel_rfl) (by kernel_rfl) (by kernel_rfl) (fun _ _ _ h => h) hHeld (by rfl) (fun w hSw => ?_) ?_
    rotate_left
    · obtain ⟨hSw1, hSw2⟩ := hSw; simp only [List.getElem_toArray, List.getElem_cons_zero, List.getElem_cons_succ]; go_simp; try rfl
    simp only [Act.put, List.getElem_toArray, List.getElem_cons_zero, List.getElem_cons_succ, List.setIfInBounds_toArray, List.set_cons_zero, List.set_cons_succ]
    refine z_take 4 (v := ?_) rfl (by kernel_rfl) (by kernel_rfl) (by kernel_rfl) (by kernel_rfl) (fun _ _ _ h => h) hHeld (by rfl) (fun w hSw => ?_) ?_
    rotate_left
    · obtain ⟨hSw1, hSw2⟩ := hSw; simp only [List.getElem_toArray, List.getElem_cons_zero, List.getElem_cons_succ]; go_simp; try rfl
    simp only [Act.put, List.getElem_toArray, List.getElem_cons_zero, List.getElem_cons_succ, List.setIfInBounds_toArray, List.set_cons_zero, List.set_cons_succ]
    refine z_take 5 (v := ?_) rfl (by kernel_rfl) (by kernel_rfl) (by kernel_rfl) (by kernel_rfl) (fun _ _ _ h => h) hHeld (by rfl) (fun w hSw => ?_) ?_
    rotate_left
    · obtain ⟨hSw1, hSw2⟩ := hSw; simp only [List.getElem_toArray, List.getElem_cons_zero, List.getElem_cons_succ]; go_simp; try rfl
    simp only [Act.put, List.getElem_toArray, List.getElem_cons_zero, List.getElem_cons_succ, List.setIfInBounds_toArray, List.set_cons_zero, List.set_cons_succ]
    refine z_take 6 (v := ?_) rfl (by kernel_rfl) (by kernel_rfl) (by kernel_rfl) (by kernel_rfl) (fun _ _ _ h => h) hHeld (by rfl) (fun w hSw => ?_) ?_
    rotate_left
    · obtain ⟨hSw1, hSw2⟩ := hSw; simp only [List.getElem_toArray, List.getElem_cons_zero, List.getElem_cons_succ]; go_simp; try rfl
    simp only [Act.put, List.getElem_toArray, List.getElem_cons_zero, List.getElem_cons_succ, List.setIfInBounds_toArray, List.set_cons_zero, List.set_cons_succ]
    refine z_take 7 (v := ?_) rfl (by kernel_rfl) (by kernel_rfl) (by kernel_rfl) (by kernel_rfl) (fun _ _ _ h => h) hHeld (by rfl) (fun w hSw => ?_) ?_
    rotate_left
    · obtain ⟨hSw1, hSw2⟩ := hSw; simp only [List.getElem_toArray, List.getElem_cons_zero, List.getElem_cons_succ]; go_simp; try rfl
    simp only [Act.put, List.getElem_toArray, List.getElem_cons_zero, List.getElem_cons_succ, List.setIfInBounds_toArray, List.set_cons_zero, List.set_cons_succ]
    refine z_take 8 (v := ?_) rfl (by kernel_rfl) (by kernel_rfl) (by kernel_rfl) (by kernel_rfl) (fun _ _ _ h => h) hHeld (by rfl) (fun w hSw => ?_) ?_
    rotate_left
    · obtain ⟨hSw1, hSw2⟩ := hSw; simp only [List.getElem_toArray, List.getElem_cons_zero, List.getElem_cons_succ]; go_simp; try rfl
    simp only [Act.put, List.getElem_toArray, List.getElem_cons_zero, List.getElem_cons_succ, List.setIfInBounds_toArray, List.set_cons_zero, List.set_cons_succ]
    refine z_one 9 rfl (by kernel_rfl) (by rfl) (fun K hK => ?_)
    simp only [List.getElem_toArray, List.getElem_cons_zero, List.getElem_cons_succ]
    go_simp
    have hc0 := cellAt HB.out 0
    simp at hc0
    refine (clear_ok p pd S.half S.sz (S.d.write (S.half + S.sz) (keyF tn l)).sync _ u10 hc0 HD.out.1 hcr2.out (by show _ ≤ (S.d.write (S.half + S.sz) (keyF tn l)).now.length; rw [HLEN.out]; have := HHN.out; omega) (by show (S.d.write (S.half + S.sz) (keyF tn l)).now.length ≤ _; rw [HLEN.out]; exact hsize) (by show ([] : List (Nat × UInt8)).length ≤ _; simp) HD.out.2.1 HD.out.1.lt).mono ?_
    rintro e u11 ⟨rfl, F2, h1, h2, h3⟩
    have hnp2 := HD.out.2.1
    refine hK _ _ (Or.inr ?_) (fun hHeld => ?_)
    · exact ⟨by rw [h2.cell (World.block_lt_of_cell? _ _ hHeld.1) hnp2]; exact hHeld.1, by rw [h2.cell (World.block_lt_of_cell? _ _ hHeld.2) hnp2]; exact hHeld.2⟩
    clear hK K hnp2 hc0
    replace HB := Lib.hid ((h2.block p (lt_of_heap HB.out) HD.out.2.1).trans HB.out)
    have b3' : ∀ k, F2 k → Fd k ∨ w.heap.size ≤ k := fun k hf => (h3 k hf).elim (fun h => HD.out.2.2 k h) (fun h => Or.inr (by have := KG.out.size; omega))
    have np' : ¬ F2 p := fun hf => (b3' p hf).elim HS.out.pd_ (fun h => by have := HPL.out; omega)
    replace KG := Lib.hid (KG.out.trans h2 (fun k hk hf => (HD.out.2.2 k hf).elim Or.inr (fun h => by omega)))
    replace HD := Lib.hid (And.intro h1 (And.intro np' b3'))
    clear h1 h2 h3 b3' np'
    replace hHeld := hHeld.resolve_left (by decide)
    try simp only [Act.put, List.setIfInBounds_toArray, List.set_cons_zero, List.set_cons_succ]
    refine z_one 10 rfl (by kernel_rfl) (by rfl) (fun K hK => ?_)
    simp only [List.getElem_toArray, List.getElem_cons_zero, List.getElem_cons_succ]
    go_simp
    refine hK _ _ (Or.inr hHeld) (fun _ => ?_)
    clear hK K
    try simp only [Act.put, List.setIfInBounds_toArray, List.set_cons_zero, List.set_cons_succ]
    refine z_done (by kernel_rfl) ?_ _
    clear hHeld
    have c0 := cellAt HB.out 0
    simp at c0
    have HSY := Lib.hid (sync_ok pd (((S.d.write (S.half + S.sz) (keyF tn l)).sync).zero S.half S.sz) _ u11 HD.out.1 hcr2.out)
    go_wp2_with fail
    refine HSY.out.mono ?_
    rintro e u12 ⟨rfl, F2, h1, h2, h3⟩
    clear HSY c0
    replace HB := Lib.hid ((h2.block p (lt_of_heap HB.out) HD.out.2.1).trans HB.out)
    have b3' : ∀ k, F2 k → Fd k ∨ w.heap.size ≤ k := fun k hf => (h3 k hf).elim (fun h => HD.out.2.2 k h) (fun h => Or.inr (by have := KG.out.size; omega))
    have np' : ¬ F2 p := fun hf => (b3' p hf).elim HS.out.pd_ (fun h => by have := HPL.out; omega)
    replace KG := Lib.hid (KG.out.trans h2 (fun k hk hf => (HD.out.2.2 k hf).elim Or.inr (fun h => by omega)))
    replace HD := Lib.hid (And.intro h1 (And.intro np' b3'))
    clear h1 h2 h3 b3' np'
    have HCL := Lib.hid (clone_any sa n cap l u12 (HL.out.keep KG.out (fun ad e h0 _ hG => HAV.out ad e h0 ((HS.out.foot _).2 (hG.imp id Or.inl)))) (by omega))
    go_wp2_with fail
    refine HCL.out.mono ?_
    rintro e u13 ⟨sc_, cc, rfl, hown, hk⟩
    clear HCL
    have hb0 := (hk.block p (lt_of_heap HB.out) (fun h => h)).trans HB.out
    have HC := Lib.hid (And.intro hown hk)
    clear hown hk
    have c0 := cellAt hb0 10
    have f0 := freeAt hb0 10
    simp at c0
    obtain ⟨x1, hx1⟩ : ∃ v, u13.setCell ⟨p, 10, none⟩ (.int .u64 (tn : Int)) = v := ⟨_, rfl⟩
    have hb1 : x1.heap[p]? = some (.cells #[.pointer (some ⟨pd, 0, none⟩), .int .i64 (S.half : Int), .int .i64 (S.used : Int), .slice so S.recs.length co, .int .i64 (S.half : Int), .int .i64 (S.sz : Int), .int .u64 (S.turn : Int), .slice sk S.keys.length ck, .int .i64 ((S.half + S.sz : Nat) : Int), .int .i64 (S.sz : Int), .int .u64 (tn : Int), .slice none 0 0, .int .i64 0] 74 (0, 0)) := by rw [← hx1, heap_setCell_at hb0]; rfl
    have kk1 : Keeps (fun k => k = p) u13 x1 := by rw [← hx1]; exact (Keeps.refl (fun k => k = p) u13).setCell (p := ⟨p, 10, none⟩) (fun _ => rfl) _
    have c1 := cellAt hb1 11
    have f1 := freeAt hb1 11
    simp at c1
    obtain ⟨x2, hx2⟩ : ∃ v, x1.setCell ⟨p, 11, none⟩ (.slice sc_ n cc) = v := ⟨_, rfl⟩
    have hb2 : x2.heap[p]? = some (.cells #[.pointer (some ⟨pd, 0, none⟩), .int .i64 (S.half : Int), .int .i64 (S.used : Int), .slice so S.recs.length co, .int .i64 (S.half : Int), .int .i64 (S.sz : Int), .int .u64 (S.turn : Int), .slice sk S.keys.length ck, .int .i64 ((S.half + S.sz : Nat) : Int), .int .i64 (S.sz : Int), .int .u64 (tn : Int), .slice sc_ n cc, .int .i64 0] 74 (0, 0)) := by rw [← hx2, heap_setCell_at hb1]; rfl
    have kk2 : Keeps (fun k => k = p) x1 x2 := by rw [← hx2]; exact (Keeps.refl (fun k => k = p) x1).setCell (p := ⟨p, 11, none⟩) (fun _ => rfl) _
    have c2 := cellAt hb2 6
    have f2 := freeAt hb2 6
    simp at c2
    obtain ⟨x3, hx3⟩ : ∃ v, x2.setCell ⟨p, 6, none⟩ (.int .u64 0) = v := ⟨_, rfl⟩
    have hb3 : x3.heap[p]? = some (.cells #[.pointer (some ⟨pd, 0, none⟩), .int .i64 (S.half : Int), .int .i64 (S.used : Int), .slice so S.recs.length co, .int .i64 (S.half : Int), .int .i64 (S.sz : Int), .int .u64 0, .slice sk S.keys.length ck, .int .i64 ((S.half + S.sz : Nat) : Int), .int .i64 (S.sz : Int), .int .u64 (tn : Int), .slice sc_ n cc, .int .i64 0] 74 (0, 0)) := by rw [← hx3, heap_setCell_at hb2]; rfl
    have kk3 : Keeps (fun k => k = p) x2 x3 := by rw [← hx3]; exact (Keeps.refl (fun k => k = p) x2).setCell (p := ⟨p, 6, none⟩) (fun _ => rfl) _
    have c3 := cellAt hb3 7
    have f3 := freeAt hb3 7
    simp at c3
    obtain ⟨x4, hx4⟩ : ∃ v, x3.setCell ⟨p, 7, none⟩ (.slice none 0 0) = v := ⟨_, rfl⟩
    have hb4 : x4.heap[p]? = some (.cells #[.pointer (some ⟨pd, 0, none⟩), .int .i64 (S.half : Int), .int .i64 (S.used : Int), .slice so S.recs.length co, .int .i64 (S.half : Int), .int .i64 (S.sz : Int), .int .u64 0, .slice none 0 0, .int .i64 ((S.half + S.sz : Nat) : Int), .int .i64 (S.sz : Int), .int .u64 (tn : Int), .slice sc_ n cc, .int .i64 0] 74 (0, 0)) := by rw [← hx4, heap_setCell_at hb3]; rfl
    have kk4 : Keeps (fun k => k = p) x3 x4 := by rw [← hx4]; exact (Keeps.refl (fun k => k = p) x3).setCell (p := ⟨p, 7, none⟩) (fun _ => rfl) _
    have c4 := cellAt hb4 12
    have f4 := freeAt hb4 12
    simp at c4
    obtain ⟨x5, hx5⟩ : ∃ v, x4.setCell ⟨p, 12, none⟩ (.int .i64 1) = v := ⟨_, rfl⟩
    have hb5 : x5.heap[p]? = some (.cells #[.pointer (some ⟨pd, 0, none⟩), .int .i64 (S.half : Int), .int .i64 (S.used : Int), .slice so S.recs.length co, .int .i64 (S.half : Int), .int .i64 (S.sz : Int), .int .u64 0, .slice none 0 0, .int .i64 ((S.half + S.sz : Nat) : Int), .int .i64 (S.sz : Int), .int .u64 (tn : Int), .slice sc_ n cc, .int .i64 1] 74 (0, 0)) := by rw [← hx5, heap_setCell_at hb4]; rfl
    have kk5 : Keeps (fun k => k = p) x4 x5 := by rw [← hx5]; exact (Keeps.refl (fun k => k = p) x4).setCell (p := ⟨p, 12, none⟩) (fun _ => rfl) _
    have HFIN := Lib.hid (set_fin HS.out HD.out.1 HD.out.2.1 HD.out.2.2 KG.out HLL.out.1 hn HC.out.1 HC.out.2 ((((kk1.trans kk2 (fun _ _ h => h)).trans kk3 (fun _ _ h => h)).trans kk4 (fun _ _ h => h)).trans kk5 (fun _ _ h => h)) (to := 1) (by omega) (by show (((S.d.write (S.half + S.sz) (keyF tn l)).sync).zero S.half S.sz).now.length = _; rw [zero_len _ _ _ (by show _ ≤ (S.d.write (S.half + S.sz) (keyF tn l)).now.length; rw [HLEN.out]; have := HHN.out; omega)]; exact HLEN.out) (by have := HTN.out; omega) HT.out hb5)
    obtain ⟨ji, hji, hjs⟩ := infoPlace
    have hpe := run_eql_ptr_same (P := Try.prog) x4 ⟨p, 8, none⟩ Try.underlying92 hji
    clear hji hjs
    clear hb0 hb1 hb2 hb3 hb4 hb5 kk1 kk2 kk3 kk4 kk5
    go_wp2
    go_ret
    rw [hA.out]
    exact ⟨rfl, HFIN.out⟩

set_option maxHeartbeats 4000000 in
set_option maxRecDepth 10000 in
theorem set_c (p pd : Nat) (S : SS) (F R Fd : Nat → Prop) (so : Option Addr) (co : Nat) (vs : List Value) (sk : Option Addr) (ck : Nat) (w : World) (h : StAt w p pd S F R Fd so co vs sk ck) (sa : Option Addr) (n cap : Nat) (l : List UInt8) (hl : Sl w sa n cap (BV l)) (hn : n ≤ 65536) (hav : ∀ ad, sa = some ad → 0 < n → ¬ F ad.block) (hlo : S.d.lo.length ≤ 1000000) (htn : S.turn + 1 ≤ 10000000000)
    (hnow : S.now = 1) (hturn : 0 < S.turn) :
    Calls Try.prog 27 #[.pointer (some ⟨p, 0, none⟩), .slice sa n cap] w fun e w' => e = .returned (.int .i64 (S.set l).2) ∧
      ∃ F' R', StoreAt w' p pd (S.set l).1 F' R' ∧ Keeps F w w' ∧ (∀ k, F' k → F k ∨ w.heap.size ≤ k) ∧ (∀ k, R' k → R k ∨ w.heap.size ≤ k) := by
  have hll : l.length = n := by have := hl.len; simpa using this
  have hto : S.to = 0 := by unfold SS.to; rw [hnow]; rw [if_pos hturn]
  have hb := h.blk
  rw [hnow] at hb
  replace hb : w.heap[p]? = some (.cells #[.pointer (some ⟨pd, 0, none⟩), .int .i64 (S.half : Int), .int .i64 (S.used : Int), .slice so S.recs.length co, .int .i64 (S.half : Int), .int .i64 (S.sz : Int), .int .u64 0, .slice none 0 0, .int .i64 ((S.half + S.sz : Nat) : Int), .int .i64 (S.sz : Int), .int .u64 (S.turn : Int), .slice sk S.keys.length ck, .int .i64 1] 74 (0, 0)) := hb
  have HB := Lib.hid hb
  have hsize := h.size
  have hhN : S.half + S.sz + S.sz ≤ S.d.now.length := by unfold SS.half SS.sz; omega
  have hh1 : S.half ≤ 65536 := by omega
  have hz1 : S.sz ≤ 65536 := by omega
  have HS := Lib.hid h
  have HL := Lib.hid hl
  have HAV := Lib.hid hav
  have HLO := Lib.hid hlo
  have HLL := Lib.hid (And.intro hll (And.intro hto hnow))
  have HHN := Lib.hid hhN
  have KG : Hid (Keeps (fun k => k = p ∨ Fd k) w w) := Keeps.refl _ w
  have HQ : Hid (Keeps (fun _ => False) w w) := Keeps.refl _ w
  have HD : Hid (Disk w pd S.d Fd ∧ ¬ Fd p ∧ ∀ k, Fd k → Fd k ∨ w.heap.size ≤ k) := ⟨h.disk, h.pd_, fun _ h => Or.inl h⟩
  have HPL := Lib.hid (lt_of_heap hb)
  have t0 : (S.turn : Int) > 0 := by omega
  have em1 : max (S.turn : Int) 0 = (S.turn : Int) := by omega
  have em2 : max (0 : Int) (S.turn : Int) = (S.turn : Int) := by omega
  obtain ⟨tn, htnn⟩ : ∃ tn, S.turn + 1 = tn := ⟨_, rfl⟩
  have ew : IntKind.u64.wrap ((S.turn : Int) + 1) = (tn : Int) := by rw [IntKind.wrap_u64]; omega
  have HTN := Lib.hid htnn
  rw [htnn] at htn
  have HT := Lib.hid htn
  have ew1 : IntKind.i64.wrap 1 = 1 := rfl
  have ew0 : IntKind.i64.wrap 0 = 0 := rfl
  clear h hl hav hlo hll hto hb hhN hnow htnn
  have hturn2 := Lib.hid hturn
  clear hturn
  go_enter Try.func27, Try.ntmps27
  go_wp2_with fail
  have c12 := cellAt HB.out 12
  simp at c12
  refine z_begin (fun w' => w'.cell? ⟨p, 12, none⟩ = some (.int .i64 1)) 9 (by kernel_rfl) (c12) (fun hHeld => ?_)
  have hk : Keeps (fun _ => False) w (World.drew w) := (Keeps.refl _ _).drew
  replace HQ := Lib.hid (HQ.out.quiet hk)
  replace HB := Lib.hid ((hk.block p (lt_of_heap HB.out) (fun h => h)).trans HB.out)
  replace KG := Lib.hid (KG.out.quiet hk)
  replace HD := Lib.hid (And.intro (HD.out.1.keep hk (fun _ _ h => h)) HD.out.2)
  clear hk
  generalize World.drew w = u1 at *
  clear c12
  refine z_take 0 (v := ?_) rfl (by kernel_rfl) (by kernel_rfl) (by kernel_rfl) (by kernel_rfl) (fun _ _ _ h => h) hHeld (by rfl) (fun w hSw => ?_) ?_
  rotate_left
  · have hSw1 := hSw; clear hSw; simp only [List.getElem_toArray, List.getElem_cons_zero]; go_simp; try rfl
  simp only [Act.put, List.getElem_toArray, List.getElem_cons_zero, List.setIfInBounds_toArray, List.set_cons_zero, List.set_cons_succ]
  refine z_take 1 (v := ?_) rfl (by kernel_rfl) (by kernel_rfl) (by kernel_rfl) (by kernel_rfl) (fun _ _ _ h => h) hHeld (by rfl) (fun w hSw => ?_) ?_
  rotate_left
  · have hSw1 := hSw; clear hSw; simp only [List.getElem_toArray, List.getElem_cons_zero, List.getElem_cons_succ]; go_simp; try rfl
  simp only [Act.put, List.getElem_toArray, List.getElem_cons_zero, List.getElem_cons_succ, List.setIfInBounds_toArray, List.set_cons_zero, List.set_cons_succ]
  refine z_take 2 (v := ?_) rfl (by kernel_rfl) (by kernel_rfl) (by kernel_rfl) (by kernel_rfl) (fun _ _ _ h => h) hHeld (by rfl) (fun w hSw => ?_) ?_
  rotate_left
  · have hSw1 := hSw; clear hSw; simp only [List.getElem_toArray, List.getElem_cons_zero, List.getElem_cons_succ]; go_simp; try rfl
  simp only [Act.put, List.getElem_toArray, List.getElem_cons_zero, List.getElem_cons_succ, List.setIfInBounds_toArray, List.set_cons_zero, List.set_cons_succ]
  refine z_take 3 (v := ?_) rfl (by kernel_rfl) (by kernel_rfl) (by kernel_rfl) (by kernel_rfl) (fun _ _ _ h => h) hHeld (by rfl) (fun w hSw => ?_) ?_
  rotate_left
  · have hSw1 := hSw; clear hSw; simp only [List.getElem_toArray, List.getElem_cons_zero, List.getElem_cons_succ]; go_simp; try rfl
  simp only [Act.put, List.getElem_toArray, List.getElem_cons_zero, List.getElem_cons_succ, List.setIfInBounds_toArray, List.set_cons_zero, List.set_cons_succ]
  refine z_take 4 (v := ?_) rfl (by kernel_rfl) (by kernel_rfl) (by kernel_rfl) (by kernel_rfl) (fun _ _ _ h => h) hHeld (by rfl) (fun w hSw => ?_) ?_
  rotate_left
  · have hSw1 := hSw; clear hSw; simp only [List.getElem_toArray, List.getElem_cons_zero, List.getElem_cons_succ]; go_simp; try rfl
  simp only [Act.put, List.getElem_toArray, List.getElem_cons_zero, List.getElem_cons_succ, List.setIfInBounds_toArray, List.set_cons_zero, List.set_cons_succ]
  refine z_take 5 (v := ?_) rfl (by kernel_rfl) (by kernel_rfl) (by kernel_rfl) (by kernel_rfl) (fun _ _ _ h => h) hHeld (by rfl) (fun w hSw => ?_) ?_
  rotate_left
  · have hSw1 := hSw; clear hSw; simp only [List.getElem_toArray, List.getElem_cons_zero, List.getElem_cons_succ]; go_simp; try rfl
  simp only [Act.put, List.getElem_toArray, List.getElem_cons_zero, List.getElem_cons_succ, List.setIfInBounds_toArray, List.set_cons_zero, List.set_cons_succ]
  refine z_take 6 (v := ?_) rfl (by kernel_rfl) (by kernel_rfl) (by kernel_rfl) (by kernel_rfl) (fun _ _ _ h => h) hHeld (by rfl) (fun w hSw => ?_) ?_
  rotate_left
  · have hSw1 := hSw; clear hSw; simp only [List.getElem_toArray, List.getElem_cons_zero, List.getElem_cons_succ]; go_simp; try rfl
  simp only [Act.put, List.getElem_toArray, List.getElem_cons_zero, List.getElem_cons_succ, List.setIfInBounds_toArray, List.set_cons_zero, List.set_cons_succ]
  refine z_take 7 (v := ?_) rfl (by kernel_rfl) (by kernel_rfl) (by kernel_rfl) (by kernel_rfl) (fun _ _ _ h => h) hHeld (by rfl) (fun w hSw => ?_) ?_
  rotate_left
  · have hSw1 := hSw; clear hSw; simp only [List.getElem_toArray, List.getElem_cons_zero, List.getElem_cons_succ]; go_simp; try rfl
  simp only [Act.put, List.getElem_toArray, List.getElem_cons_zero, List.getElem_cons_succ, List.setIfInBounds_toArray, List.set_cons_zero, List.set_cons_succ]
  refine z_take 8 (v := ?_) rfl (by kernel_rfl) (by kernel_rfl) (by kernel_rfl) (by kernel_rfl) (fun _ _ _ h => h) hHeld (by rfl) (fun w hSw => ?_) ?_
  rotate_left
  · have hSw1 := hSw; clear hSw; simp only [List.getElem_toArray, List.getElem_cons_zero, List.getElem_cons_succ]; go_simp; try rfl
  simp only [Act.put, List.getElem_toArray, List.getElem_cons_zero, List.getElem_cons_succ, List.setIfInBounds_toArray, List.set_cons_zero, List.set_cons_succ]
  refine z_done (by kernel_rfl) ?_ _
  clear hHeld
  have c10 := cellAt HB.out 10
  simp at c10
  go_wp2_with fail
  have c12 := cellAt HB.out 12
  simp at c12
  refine z_begin (fun w' => w'.cell? ⟨p, 12, none⟩ = some (.int .i64 1)) 10 (by kernel_rfl) (c12) (fun hHeld => ?_)
  have hk : Keeps (fun _ => False) u1 (World.drew u1) := (Keeps.refl _ _).drew
  replace HQ := Lib.hid (HQ.out.quiet hk)
  replace HB := Lib.hid ((hk.block p (lt_of_heap HB.out) (fun h => h)).trans HB.out)
  replace KG := Lib.hid (KG.out.quiet hk)
  replace HD := Lib.hid (And.intro (HD.out.1.keep hk (fun _ _ h => h)) HD.out.2)
  clear hk
  generalize World.drew u1 = u2 at *
  clear c12
  refine z_take 0 (v := ?_) rfl (by kernel_rfl) (by kernel_rfl) (by kernel_rfl) (by kernel_rfl) (fun _ _ _ h => h) hHeld (by rfl) (fun w hSw => ?_) ?_
  rotate_left
  · have hSw1 := hSw; clear hSw; simp only [List.getElem_toArray, List.getElem_cons_zero]; go_simp; try rfl
  simp only [Act.put, List.getElem_toArray, List.getElem_cons_zero, List.setIfInBounds_toArray, List.set_cons_zero, List.set_cons_succ]
  refine z_take 1 (v := ?_) rfl (by kernel_rfl) (by kernel_rfl) (by kernel_rfl) (by kernel_rfl) (fun _ _ _ h => h) hHeld (by rfl) (fun w hSw => ?_) ?_
  rotate_left
  · have hSw1 := hSw; clear hSw; simp only [List.getElem_toArray, List.getElem_cons_zero, List.getElem_cons_succ]; go_simp; try rfl
  simp only [Act.put, List.getElem_toArray, List.getElem_cons_zero, List.getElem_cons_succ, List.setIfInBounds_toArray, List.set_cons_zero, List.set_cons_succ]
  refine z_take 2 (v := ?_) rfl (by kernel_rfl) (by kernel_rfl) (by kernel_rfl) (by kernel_rfl) (fun _ _ _ h => h) hHeld (by rfl) (fun w hSw => ?_) ?_
  rotate_left
  · have hSw1 := hSw; clear hSw; simp only [List.getElem_toArray, List.getElem_cons_zero, List.getElem_cons_succ]; go_simp; try rfl
  simp only [Act.put, List.getElem_toArray, List.getElem_cons_zero, List.getElem_cons_succ, List.setIfInBounds_toArray, List.set_cons_zero, List.set_cons_succ]
  refine z_take 3 (v := ?_) rfl (by kernel_rfl) (by kernel_rfl) (by kernel_rfl) (by kernel_rfl) (fun _ _ _ h => h) hHeld (by rfl) (fun w hSw => ?_) ?_
  rotate_left
  · have hSw1 := hSw; clear hSw; simp only [List.getElem_toArray, List.getElem_cons_zero, List.getElem_cons_succ]; go_simp; try rfl
  simp only [Act.put, List.getElem_toArray, List.getElem_cons_zero, List.getElem_cons_succ, List.setIfInBounds_toArray, List.set_cons_zero, List.set_cons_succ]
  refine z_take 4 (v := ?_) rfl (by kernel_rfl) (by kernel_rfl) (by kernel_rfl) (by kernel_rfl) (fun _ _ _ h => h) hHeld (by rfl) (fun w hSw => ?_) ?_
  rotate_left
  · have hSw1 := hSw; clear hSw; simp only [List.getElem_toArray, List.getElem_cons_zero, List.getElem_cons_succ]; go_simp; try rfl
  simp only [Act.put, List.getElem_toArray, List.getElem_cons_zero, List.getElem_cons_succ, List.setIfInBounds_toArray, List.set_cons_zero, List.set_cons_succ]
  refine z_take 5 (v := ?_) rfl (by kernel_rfl) (by kernel_rfl) (by kernel_rfl) (by kernel_rfl) (fun _ _ _ h => h) hHeld (by rfl) (fun w hSw => ?_) ?_
  rotate_left
  · have hSw1 := hSw; clear hSw; simp only [List.getElem_toArray, List.getElem_cons_zero, List.getElem_cons_succ]; go_simp; try rfl
  simp only [Act.put, List.getElem_toArray, List.getElem_cons_zero, List.getElem_cons_succ, List.setIfInBounds_toArray, List.set_cons_zero, List.set_cons_succ]
  refine z_take 6 (v := ?_) rfl (by kernel_rfl) (by kernel_rfl) (by kernel_rfl) (by kernel_rfl) (fun _ _ _ h => h) hHeld (by rfl) (fun w hSw => ?_) ?_
  rotate_left
  · have hSw1 := hSw; clear hSw; simp only [List.getElem_toArray, List.getElem_cons_zero, List.getElem_cons_succ]; go_simp; try rfl
  simp only [Act.put, List.getElem_toArray, List.getElem_cons_zero, List.getElem_cons_succ, List.setIfInBounds_toArray, List.set_cons_zero, List.set_cons_succ]
  refine z_take 7 (v := ?_) rfl (by kernel_rfl) (by kernel_rfl) (by kernel_rfl) (by kernel_rfl) (fun _ _ _ h => h) hHeld (by rfl) (fun w hSw => ?_) ?_
  rotate_left
  · have hSw1 := hSw; clear hSw; simp only [List.getElem_toArray, List.getElem_cons_zero, List.getElem_cons_succ]; go_simp; try rfl
  simp only [Act.put, List.getElem_toArray, List.getElem_cons_zero, List.getElem_cons_succ, List.setIfInBounds_toArray, List.set_cons_zero, List.set_cons_succ]
  refine z_take 8 (v := ?_) rfl (by kernel_rfl) (by kernel_rfl) (by kernel_rfl) (by kernel_rfl) (fun _ _ _ h => h) hHeld (by rfl) (fun w hSw => ?_) ?_
  rotate_left
  · have hSw1 := hSw; clear hSw; simp only [List.getElem_toArray, List.getElem_cons_zero, List.getElem_cons_succ]; go_simp; try rfl
  simp only [Act.put, List.getElem_toArray, List.getElem_cons_zero, List.getElem_cons_succ, List.setIfInBounds_toArray, List.set_cons_zero, List.set_cons_succ]
  refine z_take 9 (v := ?_) rfl (by kernel_rfl) (by kernel_rfl) (by kernel_rfl) (by kernel_rfl) (fun _ _ _ h => h) hHeld (by rfl) (fun w hSw => ?_) ?_
  rotate_left
  · have hSw1 := hSw; clear hSw; simp only [List.getElem_toArray, List.getElem_cons_zero, List.getElem_cons_succ]; go_simp; try rfl
  simp only [Act.put, List.getElem_toArray, List.getElem_cons_zero, List.getElem_cons_succ, List.setIfInBounds_toArray, List.set_cons_zero, List.set_cons_succ]
  refine z_done (by kernel_rfl) ?_ _
  clear hHeld
  try clear c10
  go_wp2_with fail
  have c6 := cellAt HB.out 6
  simp at c6
  have c10 := cellAt HB.out 10
  simp at c10
  refine z_begin (fun w' => w'.cell? ⟨p, 6, none⟩ = some (.int .u64 0) ∧ w'.cell? ⟨p, 10, none⟩ = some (.int .u64 (S.turn : Int))) 11 (by kernel_rfl) (⟨c6, c10⟩) (fun hHeld => ?_)
  have hk : Keeps (fun _ => False) u2 (World.drew u2) := (Keeps.refl _ _).drew
  replace HQ := Lib.hid (HQ.out.quiet hk)
  replace HB := Lib.hid ((hk.block p (lt_of_heap HB.out) (fun h => h)).trans HB.out)
  replace KG := Lib.hid (KG.out.quiet hk)
  replace HD := Lib.hid (And.intro (HD.out.1.keep hk (fun _ _ h => h)) HD.out.2)
  clear hk
  generalize World.drew u2 = u3 at *
  clear c6 c10
  refine z_take 0 (v := ?_) rfl (by kernel_rfl) (by kernel_rfl) (by kernel_rfl) (by kernel_rfl) (fun _ _ _ h => h) hHeld (by rfl) (fun w hSw => ?_) ?_
  rotate_left
  · obtain ⟨hSw1, hSw2⟩ := hSw; simp only [List.getElem_toArray, List.getElem_cons_zero]; go_simp; try rfl
  simp only [Act.put, List.getElem_toArray, List.getElem_cons_zero, List.setIfInBounds_toArray, List.set_cons_zero, List.set_cons_succ]
  refine z_take 1 (v := ?_) rfl (by kernel_rfl) (by kernel_rfl) (by kernel_rfl) (by kernel_rfl) (fun _ _ _ h => h) hHeld (by rfl) (fun w hSw => ?_) ?_
  rotate_left
  · obtain ⟨hSw1, hSw2⟩ := hSw; simp only [List.getElem_toArray, List.getElem_cons_zero, List.getElem_cons_succ]; go_simp; try rfl
  simp only [Act.put, List.getElem_toArray, List.getElem_cons_zero, List.getElem_cons_succ, List.setIfInBounds_toArray, List.set_cons_zero, List.set_cons_succ]
  refine z_take 2 (v := ?_) rfl (by kernel_rfl) (by kernel_rfl) (by kernel_rfl) (by kernel_rfl) (fun _ _ _ h => h) hHeld (by rfl) (fun w hSw => ?_) ?_
  rotate_left
  · obtain ⟨hSw1, hSw2⟩ := hSw; simp only [List.getElem_toArray, List.getElem_cons_zero, List.getElem_cons_succ]; go_simp; try rfl
  simp only [Act.put, List.getElem_toArray, List.getElem_cons_zero, List.getElem_cons_succ, List.setIfInBounds_toArray, List.set_cons_zero, List.set_cons_succ]
  refine z_take 3 (v := ?_) rfl (by kernel_rfl) (by kernel_rfl) (by kernel_rfl) (by kernel_rfl) (fun _ _ _ h => h) hHeld (by rfl) (fun w hSw => ?_) ?_
  rotate_left
  · obtain ⟨hSw1, hSw2⟩ := hSw; simp only [List.getElem_toArray, List.getElem_cons_zero, List.getElem_cons_succ]; go_simp; try rfl
  simp only [Act.put, List.getElem_toArray, List.getElem_cons_zero, List.getElem_cons_succ, List.setIfInBounds_toArray, List.set_cons_zero, List.set_cons_succ]
  refine z_take 4 (v := ?_) rfl (by kernel_rfl) (by kernel_rfl) (by kernel_rfl) (by kernel_rfl) (fun _ _ _ h => h) hHeld (by rfl) (fun w hSw => ?_) ?_
  rotate_left
  · obtain ⟨hSw1, hSw2⟩ := hSw; simp only [List.getElem_toArray, List.getElem_cons_zero, List.getElem_cons_succ]; go_simp; try rfl
  simp only [Act.put, List.getElem_toArray, List.getElem_cons_zero, List.getElem_cons_succ, List.setIfInBounds_toArray, List.set_cons_zero, List.set_cons_succ]
  refine z_take 5 (v := ?_) rfl (by kernel_rfl) (by kernel_rfl) (by kernel_rfl) (by kernel_rfl) (fun _ _ _ h => h) hHeld (by rfl) (fun w hSw => ?_) ?_
  rotate_left
  · obtain ⟨hSw1, hSw2⟩ := hSw; simp only [List.getElem_toArray, List.getElem_cons_zero, List.getElem_cons_succ]; go_simp; try rfl
  simp only [Act.put, List.getElem_toArray, List.getElem_cons_zero, List.getElem_cons_succ, List.setIfInBounds_toArray, List.set_cons_zero, List.set_cons_succ]
  refine z_take 6 (v := ?_) rfl (by kernel_rfl) (by kernel_rfl) (by kernel_rfl) (by kernel_rfl) (fun _ _ _ h => h) hHeld (by rfl) (fun w hSw => ?_) ?_
  rotate_left
  · obtain ⟨hSw1, hSw2⟩ := hSw; simp only [List.getElem_toArray, List.getElem_cons_zero, List.getElem_cons_succ]; go_simp; try rfl
  simp only [Act.put, List.getElem_toArray, List.getElem_cons_zero, List.getElem_cons_succ, List.setIfInBounds_toArray, List.set_cons_zero, List.set_cons_succ]
  refine z_take 7 (v := ?_) rfl (by kernel_rfl) (by kernel_rfl) (by kernel_rfl) (by kernel_rfl) (fun _ _ _ h => h) hHeld (by rfl) (fun w hSw => ?_) ?_
  rotate_left
  · obtain ⟨hSw1, hSw2⟩ := hSw; simp only [List.getElem_toArray, List.getElem_cons_zero, List.getElem_cons_succ]; go_simp; try rfl
  simp only [Act.put, List.getElem_toArray, List.getElem_cons_zero, List.getElem_cons_succ, List.setIfInBounds_toArray, List.set_cons_zero, List.set_cons_succ]
  refine z_take 8 (v := ?_) rfl (by kernel_rfl) (by kernel_rfl) (by kernel_rfl) (by kernel_rfl) (fun _ _ _ h => h) hHeld (by rfl) (fun w hSw => ?_) ?_
  rotate_left
  · obtain ⟨hSw1, hSw2⟩ := hSw; simp only [List.getElem_toArray, List.getElem_cons_zero, List.getElem_cons_succ]; go_simp; try rfl
  simp only [Act.put, List.getElem_toArray, List.getElem_cons_zero, List.getElem_cons_succ, List.setIfInBounds_toArray, List.set_cons_zero, List.set_cons_succ]
  refine z_take 9 (v := ?_) rfl (by kernel_rfl) (by kernel_rfl) (by kernel_rfl) (by kernel_rfl) (fun _ _ _ h => h) hHeld (by rfl) (fun w hSw => ?_) ?_
  rotate_left
  · obtain ⟨hSw1, hSw2⟩ := hSw; simp only [List.getElem_toArray, List.getElem_cons_zero, List.getElem_cons_succ]; go_simp; try rfl
  simp only [Act.put, List.getElem_toArray, List.getElem_cons_zero, List.getElem_cons_succ, List.setIfInBounds_toArray, List.set_cons_zero, List.set_cons_succ]
  refine z_take 10 (v := ?_) rfl (by kernel_rfl) (by kernel_rfl) (by kernel_rfl) (by kernel_rfl) (fun _ _ _ h => h) hHeld (by rfl) (fun w hSw => ?_) ?_
  rotate_left
  · obtain ⟨hSw1, hSw2⟩ := hSw; simp only [List.getElem_toArray, List.getElem_cons_zero, List.getElem_cons_succ]; go_simp; try rfl
  simp only [Act.put, List.getElem_toArray, List.getElem_cons_zero, List.getElem_cons_succ, List.setIfInBounds_toArray, List.set_cons_zero, List.set_cons_succ]
  refine z_done (by kernel_rfl) ?_ _
  clear hHeld
  try rw [em1]
  try rw [em2]
  try rw [ew]
  have hKw := Lib.hid KG.out.size
  have HF := Lib.hid (keysFrame_any tn sa n cap l u3 (by have := HT.out; unfold U64; omega) (HL.out.keep KG.out (fun ad e h0 _ hG => HAV.out ad e h0 ((HS.out.foot _).2 (hG.imp id Or.inl)))) (by omega))
  go_wp2_with fail
  refine HF.out.mono ?_
  rintro e u4 ⟨sf, cf, rfl, hown, hk⟩
  clear HF
  replace HQ := Lib.hid (HQ.out.quiet hk)
  replace HB := Lib.hid ((hk.block p (lt_of_heap HB.out) (fun h => h)).trans HB.out)
  replace KG := Lib.hid (KG.out.quiet hk)
  replace HD := Lib.hid (And.intro (HD.out.1.keep hk (fun _ _ h => h)) HD.out.2)
  obtain ⟨gf, rfl⟩ := own_some hown (by omega)
  have HG : Hid (w.heap.size ≤ gf) := by have h1 := (own_lt hown rfl).1; have h2 := KG.out.size; show _ ≤ _; have h3 := hk.size; exact Nat.le_trans hKw.out h1
  have OF := Lib.hid hown
  clear hown hk
  have c5 := cellAt HB.out 5
  simp at c5
  by_cases hfull : S.sz < n + 14
  · have hA : Hid (S.set l = (S, 3)) := by show _ = _; unfold SS.set; rw [HLL.out.1, if_pos hfull]
    have tf : ((n + 14 : Nat) : Int) > (S.sz : Int) := by omega
    have tf2 : (n : Int) + 14 > (S.sz : Int) := by omega
    clear hfull
    go_wp2
    go_ret
    rw [hA.out]
    have kq : Keeps (fun k => k = p ∨ Fd k) w u4 := KG.out
    exact ⟨rfl, F, R, StoreAt.quiet ⟨Fd, so, co, vs, sk, ck, HS.out⟩ HQ.out, HQ.out.mono (fun _ _ h => h.elim), fun _ h => Or.inl h, fun _ h => Or.inl h⟩
  have tf : ¬ ((n + 14 : Nat) : Int) > (S.sz : Int) := by omega
  have tf2 : ¬ (n : Int) + 14 > (S.sz : Int) := by omega
  have hfl : n + 14 ≤ S.sz := by omega
  have hlen1 : (S.d.write S.half (keyF tn l)).now.length = S.d.now.length := write_len _ _ _ (by rw [keyF_length, HLL.out.1]; have := HHN.out; omega)
  have HLEN := Lib.hid hlen1
  clear hlen1
  by_cases hcr : S.d.cr = true
  · have hA : Hid (S.set l = (S, 30)) := by show _ = _; unfold SS.set; rw [HLL.out.1, if_neg (by omega), if_pos hcr]
    have hcr2 := Lib.hid hcr
    clear hcr
    go_wp2_with fail
    clear c5
    have c0 := cellAt HB.out 0
    simp at c0
    have c4 := cellAt HB.out 4
    simp at c4
    refine z_begin (fun w' => w'.cell? ⟨p, 0, none⟩ = some (.pointer (some ⟨pd, 0, none⟩)) ∧ w'.cell? ⟨p, 4, none⟩ = some (.int .i64 (S.half : Int))) 11 (by kernel_rfl) (⟨c0, c4⟩) (fun hHeld => ?_)
    have hk : Keeps (fun _ => False) u4 (World.drew u4) := (Keeps.refl _ _).drew
    replace HQ := Lib.hid (HQ.out.quiet hk)
    replace HB := Lib.hid ((hk.block p (lt_of_heap HB.out) (fun h => h)).trans HB.out)
    replace KG := Lib.hid (KG.out.quiet hk)
    replace HD := Lib.hid (And.intro (HD.out.1.keep hk (fun _ _ h => h)) HD.out.2)
    replace OF := Lib.hid (own_keep OF.out hk (fun _ _ h => h))
    clear hk
    generalize World.drew u4 = u5 at *
    clear c0 c4
    refine z_take 0 (v := ?_) rfl (by kernel_rfl) (by kernel_rfl) (by kernel_rfl) (by kernel_rfl) (fun _ _ _ h => h) hHeld (by rfl) (fun w hSw => ?_) ?_
    rotate_left
    · obtain ⟨hSw1, hSw2⟩ := hSw; simp only [List.getElem_toArray, List.getElem_cons_zero]; go_simp; try rfl
    simp only [Act.put, List.getElem_toArray, List.getElem_cons_zero, List.setIfInBounds_toArray, List.set_cons_zero, List.set_cons_succ]
    refine z_take 1 (v := ?_) rfl (by kernel_rfl) (by kernel_rfl) (by kernel_rfl) (by kernel_rfl) (fun _ _ _ h => h) hHeld (by rfl) (fun w hSw => ?_) ?_
    rotate_left
    · obtain ⟨hSw1, hSw2⟩ := hSw; simp only [List.getElem_toArray, List.getElem_cons_zero, List.getElem_cons_succ]; go_simp; try rfl
    simp only [Act.put, List.getElem_toArray, List.getElem_cons_zero, List.getElem_cons_succ, List.setIfInBounds_toArray, List.set_cons_zero, List.set_cons_succ]
    refine z_take 2 (v := ?_) rfl (by kernel_rfl) (by kernel_rfl) (by kernel_rfl) (by kernel_rfl) (fun _ _ _ h => h) hHeld (by rfl) (fun w hSw => ?_) ?_
    rotate_left
    · obtain ⟨hSw1, hSw2⟩ := hSw; simp only [List.getElem_toArray, List.getElem_cons_zero, List.getElem_cons_succ]; go_simp; try rfl
    simp only [Act.put, List.getElem_toArray, List.getElem_cons_zero, List.getElem_cons_succ, List.setIfInBounds_toArray, List.set_cons_zero, List.set_cons_succ]
    refine z_take 3 (v := ?_) rfl (by kernel_rfl) (by kernel_rfl) (by kernel_rfl) (by kernel_rfl) (fun _ _ _ h => h) hHeld (by rfl) (fun w hSw => ?_) ?_
    rotate_left
    · obtain ⟨hSw1, hSw2⟩ := hSw; simp only [List.getElem_toArray, List.getElem_cons_zero, List.getElem_cons_succ]; go_simp; try rfl
    simp only [Act.put, List.getElem_toArray, List.getElem_cons_zero, List.getElem_cons_succ, List.setIfInBounds_toArray, List.set_cons_zero, List.set_cons_succ]
    refine z_take 4 (v := ?_) rfl (by kernel_rfl) (by kernel_rfl) (by kernel_rfl) (by kernel_rfl) (fun _ _ _ h => h) hHeld (by rfl) (fun w hSw => ?_) ?_
    rotate_left
    · obtain ⟨hSw1, hSw2⟩ := hSw; simp only [List.getElem_toArray, List.getElem_cons_zero, List.getElem_cons_succ]; go_simp; try rfl
    simp only [Act.put, List.getElem_toArray, List.getElem_cons_zero, List.getElem_cons_succ, List.setIfInBounds_toArray, List.set_cons_zero, List.set_cons_succ]
    refine z_take 5 (v := ?_) rfl (by kernel_rfl) (by kernel_rfl) (by kernel_rfl) (by kernel_rfl) (fun _ _ _ h => h) hHeld (by rfl) (fun w hSw => ?_) ?_
    rotate_left
    · obtain ⟨hSw1, hSw2⟩ := hSw; simp only [List.getElem_toArray, List.getElem_cons_zero, List.getElem_cons_succ]; go_simp; try rfl
    simp only [Act.put, List.getElem_toArray, List.getElem_cons_zero, List.getElem_cons_succ, List.setIfInBounds_toArray, List.set_cons_zero, List.set_cons_succ]
    refine z_take 6 (v := ?_) rfl (by kernel_rfl) (by kernel_rfl) (by kernel_rfl) (by kernel_rfl) (fun _ _ _ h => h) hHeld (by rfl) (fun w hSw => ?_) ?_
    rotate_left
    · obtain ⟨hSw1, hSw2⟩ := hSw; simp only [List.getElem_toArray, List.getElem_cons_zero, List.getElem_cons_succ]; go_simp; try rfl
    simp only [Act.put, List.getElem_toArray, List.getElem_cons_zero, List.getElem_cons_succ, List.setIfInBounds_toArray, List.set_cons_zero, List.set_cons_succ]
    refine z_take 7 (v := ?_) rfl (by kernel_rfl) (by kernel_rfl) (by kernel_rfl) (by kernel_rfl) (fun _ _ _ h => h) hHeld (by rfl) (fun w hSw => ?_) ?_
    rotate_left
    · obtain ⟨hSw1, hSw2⟩ := hSw; simp only [List.getElem_toArray, List.getElem_cons_zero, List.getElem_cons_succ]; go_simp; try rfl
    simp only [Act.put, List.getElem_toArray, List.getElem_cons_zero, List.getElem_cons_succ, List.setIfInBounds_toArray, List.set_cons_zero, List.set_cons_succ]
    refine z_take 8 (v := ?_) rfl (by kernel_rfl) (by kernel_rfl) (by kernel_rfl) (by kernel_rfl) (fun _ _ _ h => h) hHeld (by rfl) (fun w hSw => ?_) ?_
    rotate_left
    · obtain ⟨hSw1, hSw2⟩ := hSw; simp only [List.getElem_toArray, List.getElem_cons_zero, List.getElem_cons_succ]; go_simp; try rfl
    simp only [Act.put, List.getElem_toArray, List.getElem_cons_zero, List.getElem_cons_succ, List.setIfInBounds_toArray, List.set_cons_zero, List.set_cons_succ]
    refine z_one 9 rfl (by kernel_rfl) (by rfl) (fun K hK => ?_)
    simp only [List.getElem_toArray, List.getElem_cons_zero, List.getElem_cons_succ]
    go_simp
    refine (write_down pd _ (some ⟨gf, 0, none⟩) (n + 14) cf S.d Fd u5 HD.out.1 hcr2.out).mono ?_
    rintro e u6 ⟨rfl, hk⟩
    replace HQ := Lib.hid (HQ.out.quiet hk)
    replace HB := Lib.hid ((hk.block p (lt_of_heap HB.out) (fun h => h)).trans HB.out)
    replace KG := Lib.hid (KG.out.quiet hk)
    replace HD := Lib.hid (And.intro (HD.out.1.keep hk (fun _ _ h => h)) HD.out.2)
    replace OF := Lib.hid (own_keep OF.out hk (fun _ _ h => h))
    refine hK _ _ (Or.inr ?_) (fun hHeld => ?_)
    · exact ⟨sc hk hHeld.1, sc hk hHeld.2⟩
    clear hK K hk
    replace hHeld := hHeld.resolve_left (by decide)
    try simp only [Act.put, List.setIfInBounds_toArray, List.set_cons_zero, List.set_cons_succ]
    refine z_one 10 rfl (by kernel_rfl) (by rfl) (fun K hK => ?_)
    simp only [List.getElem_toArray, List.getElem_cons_zero, List.getElem_cons_succ]
    go_simp
    refine hK _ _ (Or.inr hHeld) (fun _ => ?_)
    clear hK K
    try simp only [Act.put, List.setIfInBounds_toArray, List.set_cons_zero, List.set_cons_succ]
    refine z_done (by kernel_rfl) ?_ _
    clear hHeld
    have e30 : ((30 : Int) != 0) = true := by decide
    go_wp2
    go_ret
    rw [hA.out]
    exact ⟨rfl, F, R, StoreAt.quiet ⟨Fd, so, co, vs, sk, ck, HS.out⟩ HQ.out, HQ.out.mono (fun _ _ h => h.elim), fun _ h => Or.inl h, fun _ h => Or.inl h⟩
  · have hA : Hid (S.set l = ({ S with d := (((S.d.write S.half (keyF tn l)).sync).zero (S.half + S.sz) S.sz).sync, now := 0, turn := tn, keys := l }, 0)) := by
      show _ = _
      unfold SS.set
      rw [HLL.out.1, if_neg (by omega), if_neg hcr, HLL.out.2.1, HTN.out]
      simp [SS.atP]
    have hcr2 := Lib.hid (show S.d.cr = false by simpa using hcr)
    clear hcr
    go_wp2_with fail
    clear c5
    have c0 := cellAt HB.out 0
    simp at c0
    have c4 := cellAt HB.out 4
    simp at c4
    refine z_begin (fun w' => w'.cell? ⟨p, 0, none⟩ = some (.pointer (some ⟨pd, 0, none⟩)) ∧ w'.cell? ⟨p, 4, none⟩ = some (.int .i64 (S.half : Int))) 11 (by kernel_rfl) (⟨c0, c4⟩) (fun hHeld => ?_)
    have hk : Keeps (fun _ => False) u4 (World.drew u4) := (Keeps.refl _ _).drew
    replace HQ := Lib.hid (HQ.out.quiet hk)
    replace HB := Lib.hid ((hk.block p (lt_of_heap HB.out) (fun h => h)).trans HB.out)
    replace KG := Lib.hid (KG.out.quiet hk)
    replace HD := Lib.hid (And.intro (HD.out.1.keep hk (fun _ _ h => h)) HD.out.2)
    replace OF := Lib.hid (own_keep OF.out hk (fun _ _ h => h))
    clear hk
    generalize World.drew u4 = u7 at *
    clear c0 c4
    refine z_take 0 (v := ?_) rfl (by kernel_rfl) (by kernel_rfl) (by kernel_rfl) (by kernel_rfl) (fun _ _ _ h => h) hHeld (by rfl) (fun w hSw => ?_) ?_
    rotate_left
    · obtain ⟨hSw1, hSw2⟩ := hSw; simp only [List.getElem_toArray, List.getElem_cons_zero]; go_simp; try rfl
    simp only [Act.put, List.getElem_toArray, List.getElem_cons_zero, List.setIfInBounds_toArray, List.set_cons_zero, List.set_cons_succ]
    refine z_take 1 (v := ?_) rfl (by kernel_rfl) (by kernel_rfl) (by kernel_rfl) (by kernel_rfl) (fun _ _ _ h => h) hHeld (by rfl) (fun w hSw => ?_) ?_
    rotate_left
    · obtain ⟨hSw1, hSw2⟩ := hSw; simp only [List.getElem_toArray, List.getElem_cons_zero, List.getElem_cons_succ]; go_simp; try rfl
    simp only [Act.put, List.getElem_toArray, List.getElem_cons_zero, List.getElem_cons_succ, List.setIfInBounds_toArray, List.set_cons_zero, List.set_cons_succ]
    refine z_take 2 (v := ?_) rfl (by kernel_rfl) (by kernel_rfl) (by kernel_rfl) (by kernel_rfl) (fun _ _ _ h => h) hHeld (by rfl) (fun w hSw => ?_) ?_
    rotate_left
    · obtain ⟨hSw1, hSw2⟩ := hSw; simp only [List.getElem_toArray, List.getElem_cons_zero, List.getElem_cons_succ]; go_simp; try rfl
    simp only [Act.put, List.getElem_toArray, List.getElem_cons_zero, List.getElem_cons_succ, List.setIfInBounds_toArray, List.set_cons_zero, List.set_cons_succ]
    refine z_take 3 (v := ?_) rfl (by kernel_rfl) (by kernel_rfl) (by kernel_rfl) (by kernel_rfl) (fun _ _ _ h => h) hHeld (by rfl) (fun w hSw => ?_) ?_
    rotate_left
    · obtain ⟨hSw1, hSw2⟩ := hSw; simp only [List.getElem_toArray, List.getElem_cons_zero, List.getElem_cons_succ]; go_simp; try rfl
    simp only [Act.put, List.getElem_toArray, List.getElem_cons_zero, List.getElem_cons_succ, List.setIfInBounds_toArray, List.set_cons_zero, List.set_cons_succ]
    refine z_take 4 (v := ?_) rfl (by kernel_rfl) (by kernel_rfl) (by kernel_rfl) (by kernel_rfl) (fun _ _ _ h => h) hHeld (by rfl) (fun w hSw => ?_) ?_
    rotate_left
    · obtain ⟨hSw1, hSw2⟩ := hSw; simp only [List.getElem_toArray, List.getElem_cons_zero, List.getElem_cons_succ]; go_simp; try rfl
    simp only [Act.put, List.getElem_toArray, List.getElem_cons_zero, List.getElem_cons_succ, List.setIfInBounds_toArray, List.set_cons_zero, List.set_cons_succ]
    refine z_take 5 (v := ?_) rfl (by kernel_rfl) (by kernel_rfl) (by kernel_rfl) (by kernel_rfl) (fun _ _ _ h => h) hHeld (by rfl) (fun w hSw => ?_) ?_
    rotate_left
    · obtain ⟨hSw1, hSw2⟩ := hSw; simp only [List.getElem_toArray, List.getElem_cons_zero, List.getElem_cons_succ]; go_simp; try rfl
    simp only [Act.put, List.getElem_toArray, List.getElem_cons_zero, List.getElem_cons_succ, List.setIfInBounds_toArray, List.set_cons_zero, List.set_cons_succ]
    refine z_take 6 (v := ?_) rfl (by kernel_rfl) (by kernel_rfl) (by kernel_rfl) (by kernel_rfl) (fun _ _ _ h => h) hHeld (by rfl) (fun w hSw => ?_) ?_
    rotate_left
    · obtain ⟨hSw1, hSw2⟩ := hSw; simp only [List.getElem_toArray, List.getElem_cons_zero, List.getElem_cons_succ]; go_simp; try rfl
    simp only [Act.put, List.getElem_toArray, List.getElem_cons_zero, List.getElem_cons_succ, List.setIfInBounds_toArray, List.set_cons_zero, List.set_cons_succ]
    refine z_take 7 (v := ?_) rfl (by kernel_rfl) (by kernel_rfl) (by kernel_rfl) (by kernel_rfl) (fun _ _ _ h => h) hHeld (by rfl) (fun w hSw => ?_) ?_
    rotate_left
    · obtain ⟨hSw1, hSw2⟩ := hSw; simp only [List.getElem_toArray, List.getElem_cons_zero, List.getElem_cons_succ]; go_simp; try rfl
    simp only [Act.put, List.getElem_toArray, List.getElem_cons_zero, List.getElem_cons_succ, List.setIfInBounds_toArray, List.set_cons_zero, List.set_cons_succ]
    refine z_take 8 (v := ?_) rfl (by kernel_rfl) (by kernel_rfl) (by kernel_rfl) (by kernel_rfl) (fun _ _ _ h => h) hHeld (by rfl) (fun w hSw => ?_) ?_
    rotate_left
    · obtain ⟨hSw1, hSw2⟩ := hSw; simp only [List.getElem_toArray, List.getElem_cons_zero, List.getElem_cons_succ]; go_simp; try rfl
    simp only [Act.put, List.getElem_toArray, List.getElem_cons_zero, List.getElem_cons_succ, List.setIfInBounds_toArray, List.set_cons_zero, List.set_cons_succ]
    refine z_one 9 rfl (by kernel_rfl) (by rfl) (fun K hK => ?_)
    simp only [List.getElem_toArray, List.getElem_cons_zero, List.getElem_cons_succ]
    go_simp
    refine (write_ok pd S.half (keyF tn l) (n + 14) (some ⟨gf, 0, none⟩) gf 0 cf S.d Fd u7 HD.out.1 hcr2.out (by rw [keyF_length, HLL.out.1]) (fun _ => rfl) (fun j c hj => by rw [Nat.zero_add]; exact own_cell OF.out j _ (by rw [BV_get, hj]; rfl)) (fun _ hf => by have h1 := HS.out.disk.lt gf hf; have h2 := HG.out; omega) (by have := HHN.out; omega) hsize HLO.out).mono ?_
    rintro e u8 ⟨rfl, F2, h1, h2, h3⟩
    have hnp2 := HD.out.2.1
    refine hK _ _ (Or.inr ?_) (fun hHeld => ?_)
    · exact ⟨by rw [h2.cell (World.block_lt_of_cell? _ _ hHeld.1) hnp2]; exact hHeld.1, by rw [h2.cell (World.block_lt_of_cell? _ _ hHeld.2) hnp2]; exact hHeld.2⟩
    clear hK K hnp2
    clear OF HQ
    replace HB := Lib.hid ((h2.block p (lt_of_heap HB.out) HD.out.2.1).trans HB.out)
    have b3' : ∀ k, F2 k → Fd k ∨ w.heap.size ≤ k := fun k hf => (h3 k hf).elim (fun h => HD.out.2.2 k h) (fun h => Or.inr (by have := KG.out.size; omega))
    have np' : ¬ F2 p := fun hf => (b3' p hf).elim HS.out.pd_ (fun h => by have := HPL.out; omega)
    replace KG := Lib.hid (KG.out.trans h2 (fun k hk hf => (HD.out.2.2 k hf).elim Or.inr (fun h => by omega)))
    replace HD := Lib.hid (And.intro h1 (And.intro np' b3'))
    clear h1 h2 h3 b3' np'
    replace hHeld := hHeld.resolve_left (by decide)
    try simp only [Act.put, List.setIfInBounds_toArray, List.set_cons_zero, List.set_cons_succ]
    refine z_one 10 rfl (by kernel_rfl) (by rfl) (fun K hK => ?_)
    simp only [List.getElem_toArray, List.getElem_cons_zero, List.getElem_cons_succ]
    go_simp
    refine hK _ _ (Or.inr hHeld) (fun _ => ?_)
    clear hK K
    try simp only [Act.put, List.setIfInBounds_toArray, List.set_cons_zero, List.set_cons_succ]
    refine z_done (by kernel_rfl) ?_ _
    clear hHeld
    have e00 : ((0 : Int) != 0) = false := by decide
    have c0 := cellAt HB.out 0
    simp at c0
    have HSY := Lib.hid (sync_ok pd (S.d.write S.half (keyF tn l)) _ u8 HD.out.1 hcr2.out)
    go_wp2_with fail
    refine HSY.out.mono ?_
    rintro e u9 ⟨rfl, F2, h1, h2, h3⟩
    clear HSY c0
    replace HB := Lib.hid ((h2.block p (lt_of_heap HB.out) HD.out.2.1).trans HB.out)
    have b3' : ∀ k, F2 k → Fd k ∨ w.heap.size ≤ k := fun k hf => (h3 k hf).elim (fun h => HD.out.2.2 k h) (fun h => Or.inr (by have := KG.out.size; omega))
    have np' : ¬ F2 p := fun hf => (b3' p hf).elim HS.out.pd_ (fun h => by have := HPL.out; omega)
    replace KG := Lib.hid (KG.out.trans h2 (fun k hk hf => (HD.out.2.2 k hf).elim Or.inr (fun h => by omega)))
    replace HD := Lib.hid (And.intro h1 (And.intro np' b3'))
    clear h1 h2 h3 b3' np'
    go_wp2_with fail
    have c8 := cellAt HB.out 8
    simp at c8
    have c9 := cellAt HB.out 9
    simp at c9
    refine z_begin (fun w' => w'.cell? ⟨p, 8, none⟩ = some (.int .i64 ((S.half + S.sz : Nat) : Int)) ∧ w'.cell? ⟨p, 9, none⟩ = some (.int .i64 (S.sz : Int))) 11 (by kernel_rfl) (⟨c8, c9⟩) (fun hHeld => ?_)
    have hk : Keeps (fun _ => False) u9 (World.drew u9) := (Keeps.refl _ _).drew
    replace HB := Lib.hid ((hk.block p (lt_of_heap HB.out) (fun h => h)).trans HB.out)
    replace KG := Lib.hid (KG.out.quiet hk)
    replace HD := Lib.hid (And.intro (HD.out.1.keep hk (fun _ _ h => h)) HD.out.2)
    clear hk
    generalize World.drew u9 = u10 at *
    clear c8 c9
    refine z_take 0 (v := ?_) rfl (by kernel_rfl) (by kernel_rfl) (by kernel_rfl) (by kernel_rfl) (fun _ _ _ h => h) hHeld (by rfl) (fun w hSw => ?_) ?_
    rotate_left
    · obtain ⟨hSw1, hSw2⟩ := hSw; simp only [List.getElem_toArray, List.getElem_cons_zero]; go_simp; try rfl
    simp only [Act.put, List.getElem_toArray, List.getElem_cons_zero, List.setIfInBounds_toArray, List.set_cons_zero, List.set_cons_succ]
    refine z_take 1 (v := ?_) rfl (by kernel_rfl) (by kernel_rfl) (by kernel_rfl) (by kernel_rfl) (fun _ _ _ h => h) hHeld (by rfl) (fun w hSw => ?_) ?_
    rotate_left
    · obtain ⟨hSw1, hSw2⟩ := hSw; simp only [List.getElem_toArray, List.getElem_cons_zero, List.getElem_cons_succ]; go_simp; try rfl
    simp only [Act.put, List.getElem_toArray, List.getElem_cons_zero, List.getElem_cons_succ, List.setIfInBounds_toArray, List.set_cons_zero, List.set_cons_succ]
    refine z_take 2 (v := ?_) rfl (by kernel_rfl) (by kernel_rfl) (by kernel_rfl) (by kernel_rfl) (fun _ _ _ h => h) hHeld (by rfl) (fun w hSw => ?_) ?_
    rotate_left
    · obtain ⟨hSw1, hSw2⟩ := hSw; simp only [List.getElem_toArray, List.getElem_cons_zero, List.getElem_cons_succ]; go_simp; try rfl
    simp only [Act.put, List.getElem_toArray, List.getElem_cons_zero, List.getElem_cons_succ, List.setIfInBounds_toArray, List.set_cons_zero, List.set_cons_succ]
    refine z_take 3 (v := ?_) rfl (by kernel_rfl) (by kernel_rfl) (by kernel_rfl) (by kernel_rfl) (fun _ _ _ h => h) hHeld (by rfl) (fun w hSw => ?_) ?_
    rotate_left
    · obtain ⟨hSw1, hSw2⟩ := hSw; simp only [List.getElem_toArray, List.getElem_cons_zero, List.getElem_cons_succ]; go_simp; try rfl
    simp only [Act.put, List.getElem_toArray, List.getElem_cons_zero, List.getElem_cons_succ, List.setIfInBounds_toArray, List.set_cons_zero, List.set_cons_succ]
    refine z_take 4 (v := ?_) rfl (by kernel_rfl) (by kernel_rfl) (by kernel_rfl) (by kernel_rfl) (fun _ _ _ h => h) hHeld (by rfl) (fun w hSw => ?_) ?_
    rotate_left
    · obtain ⟨hSw1, hSw2⟩ := hSw; simp only [List.getElem_toArray, List.getElem_cons_zero, List.getElem_cons_succ]; go_simp; try rfl
    simp only [Act.put, List.getElem_toArray, List.getElem_cons_zero, List.getElem_cons_succ, List.setIfInBounds_toArray, List.set_cons_zero, List.set_cons_succ]
    refine z_take 5 (v := ?_) rfl (by kernel_rfl) (by kernel_rfl) (by kernel_rfl) (by kernel_rfl) (fun _ _ _ h => h) hHeld (by rfl) (fun w hSw => ?_) ?_
    rotate_left
    · obtain ⟨hSw1, hSw2⟩ := hSw; simp only [List.getElem_toArray, List.getElem_cons_zero, List.getElem_cons_succ]; go_simp; try rfl
    simp only [Act.put, List.getElem_toArray, List.getElem_cons_zero, List.getElem_cons_succ, List.setIfInBounds_toArray, List.set_cons_zero, List.set_cons_succ]
    refine z_take 6 (v := ?_) rfl (by kernel_rfl) (by kernel_rfl) (by kernel_rfl) (by kernel_rfl) (fun _ _ _ h => h) hHeld (by rfl) (fun w hSw => ?_) ?_
    rotate_left
    · obtain ⟨hSw1, hSw2⟩ := hSw; simp only [List.getElem_toArray, List.getElem_cons_zero, List.getElem_cons_succ]; go_simp; try rfl
    simp only [Act.put, List.getElem_toArray, List.getElem_cons_zero, List.getElem_cons_succ, List.setIfInBounds_toArray, List.set_cons_zero, List.set_cons_succ]
    refine z_take 7 (v := ?_) rfl (by kernel_rfl) (by kernel_rfl) (by kernel_rfl) (by kernel_rfl) (fun _ _ _ h => h) hHeld (by rfl) (fun w hSw => ?_) ?_
    rotate_left
    · obtain ⟨hSw1, hSw2⟩ := hSw; simp only [List.getElem_toArray, List.getElem_cons_zero, List.getElem_cons_succ]; go_simp; try rfl
    simp only [Act.put, List.getElem_toArray, List.getElem_cons_zero, List.getElem_cons_succ, List.setIfInBounds_toArray, List.set_cons_zero, List.set_cons_succ]
    refine z_take 8 (v := ?_) rfl (by kernel_rfl) (by kernel_rfl) (by kernel_rfl) (by kernel_rfl) (fun _ _ _ h => h) hHeld (by rfl) (fun w hSw => ?_) ?_
    rotate_left
    · obtain ⟨hSw1, hSw2⟩ := hSw; simp only [List.getElem_toArray, List.getElem_cons_zero, List.getElem_cons_succ]; go_simp; try rfl
    simp only [Act.put, List.getElem_toArray, List.getElem_cons_zero, List.getElem_cons_succ, List.setIfInBounds_toArray, List.set_cons_zero, List.set_cons_succ]
    refine z_one 9 rfl (by kernel_rfl) (by rfl) (fun K hK => ?_)
    simp only [List.getElem_toArray, List.getElem_cons_zero, List.getElem_cons_succ]
    go_simp
    have hc0 := cellAt HB.out 0
    simp at hc0
    refine (clear_ok p pd (S.half + S.sz) S.sz (S.d.write S.half (keyF tn l)).sync _ u10 hc0 HD.out.1 hcr2.out (by show _ ≤ (S.d.write S.half (keyF tn l)).now.length; rw [HLEN.out]; have := HHN.out; omega) (by show (S.d.write S.half (keyF tn l)).now.length ≤ _; rw [HLEN.out]; exact hsize) (by show ([] : List (Nat × UInt8)).length ≤ _; simp) HD.out.2.1 HD.out.1.lt).mono ?_
    rintro e u11 ⟨rfl, F2, h1, h2, h3⟩
    have hnp2 := HD.out.2.1
    refine hK _ _ (Or.inr ?_) (fun hHeld => ?_)
    · exact ⟨by rw [h2.cell (World.block_lt_of_cell? _ _ hHeld.1) hnp2]; exact hHeld.1, by rw [h2.cell (World.block_lt_of_cell? _ _ hHeld.2) hnp2]; exact hHeld.2⟩
    clear hK K hnp2 hc0
    replace HB := Lib.hid ((h2.block p (lt_of_heap HB.out) HD.out.2.1).trans HB.out)
    have b3' : ∀ k, F2 k → Fd k ∨ w.heap.size ≤ k := fun k hf => (h3 k hf).elim (fun h => HD.out.2.2 k h) (fun h => Or.inr (by have := KG.out.size; omega))
    have np' : ¬ F2 p := fun hf => (b3' p hf).elim HS.out.pd_ (fun h => by have := HPL.out; omega)
    replace KG := Lib.hid (KG.out.trans h2 (fun k hk hf => (HD.out.2.2 k hf).elim Or.inr (fun h => by omega)))
    replace HD := Lib.hid (And.intro h1 (And.intro np' b3'))
    clear h1 h2 h3 b3' np'
    replace hHeld := hHeld.resolve_left (by decide)
    try simp only [Act.put, List.setIfInBounds_toArray, List.set_cons_zero, List.set_cons_succ]
    refine z_one 10 rfl (by kernel_rfl) (by rfl) (fun K hK => ?_)
    simp only [List.getElem_toArray, List.getElem_cons_zero, List.getElem_cons_succ]
    go_simp
    refine hK _ _ (Or.inr hHeld) (fun _ => ?_)
    clear hK K
    try simp only [Act.put, List.setIfInBounds_toArray, List.set_cons_zero, List.set_cons_succ]
    refine z_done (by kernel_rfl) ?_ _
    clear hHeld
    have c0 := cellAt HB.out 0
    simp at c0
    have HSY := Lib.hid (sync_ok pd (((S.d.write S.half (keyF tn l)).sync).zero (S.half + S.sz) S.sz) _ u11 HD.out.1 hcr2.out)
    go_wp2_with fail
    refine HSY.out.mono ?_
    rintro e u12 ⟨rfl, F2, h1, h2, h3⟩
    clear HSY c0
    replace HB := Lib.hid ((h2.block p (lt_of_heap HB.out) HD.out.2.1).trans HB.out)
    have b3' : ∀ k, F2 k → Fd k ∨ w.heap.size ≤ k := fun k hf => (h3 k hf).elim (fun h => HD.out.2.2 k h) (fun h => Or.inr (by have := KG.out.size; omega))
    have np' : ¬ F2 p := fun hf => (b3' p hf).elim HS.out.pd_ (fun h => by have := HPL.out; omega)
    replace KG := Lib.hid (KG.out.trans h2 (fun k hk hf => (HD.out.2.2 k hf).elim Or.inr (fun h => by omega)))
    replace HD := Lib.hid (And.intro h1 (And.intro np' b3'))
    clear h1 h2 h3 b3' np'
    have HCL := Lib.hid (clone_any sa n cap l u12 (HL.out.keep KG.out (fun ad e h0 _ hG => HAV.out ad e h0 ((HS.out.foot _).2 (hG.imp id Or.inl)))) (by omega))
    go_wp2_with fail
    refine HCL.out.mono ?_
    rintro e u13 ⟨sc_, cc, rfl, hown, hk⟩
    clear HCL
    have hb0 := (hk.block p (lt_of_heap HB.out) (fun h => h)).trans HB.out
    have HC := Lib.hid (And.intro hown hk)
    clear hown hk
    have c0 := cellAt hb0 6
    have f0 := freeAt hb0 6
    simp at c0
    obtain ⟨x1, hx1⟩ : ∃ v, u13.setCell ⟨p, 6, none⟩ (.int .u64 (tn : Int)) = v := ⟨_, rfl⟩
    have hb1 : x1.heap[p]? = some (.cells #[.pointer (some ⟨pd, 0, none⟩), .int .i64 (S.half : Int), .int .i64 (S.used : Int), .slice so S.recs.length co, .int .i64 (S.half : Int), .int .i64 (S.sz : Int), .int .u64 (tn : Int), .slice none 0 0, .int .i64 ((S.half + S.sz : Nat) : Int), .int .i64 (S.sz : Int), .int .u64 (S.turn : Int), .slice sk S.keys.length ck, .int .i64 1] 74 (0, 0)) := by rw [← hx1, heap_setCell_at hb0]; rfl
    have kk1 : Keeps (fun k => k = p) u13 x1 := by rw [← hx1]; exact (Keeps.refl (fun k => k = p) u13).setCell (p := ⟨p, 6, none⟩) (fun _ => rfl) _
    have c1 := cellAt hb1 7
    have f1 := freeAt hb1 7
    simp at c1
    obtain ⟨x2, hx2⟩ : ∃ v, x1.setCell ⟨p, 7, none⟩ (.slice sc_ n cc) = v := ⟨_, rfl⟩
    have hb2 : x2.heap[p]? = some (.cells #[.pointer (some ⟨pd, 0, none⟩), .int .i64 (S.half : Int), .int .i64 (S.used : Int), .slice so S.recs.length co, .int .i64 (S.half : Int), .int .i64 (S.sz : Int), .int .u64 (tn : Int), .slice sc_ n cc, .int .i64 ((S.half + S.sz : Nat) : Int), .int .i64 (S.sz : Int), .int .u64 (S.turn : Int), .slice sk S.keys.length ck, .int .i64 1] 74 (0, 0)) := by rw [← hx2, heap_setCell_at hb1]; rfl
    have kk2 : Keeps (fun k => k = p) x1 x2 := by rw [← hx2]; exact (Keeps.refl (fun k => k = p) x1).setCell (p := ⟨p, 7, none⟩) (fun _ => rfl) _
    have c2 := cellAt hb2 10
    have f2 := freeAt hb2 10
    simp at c2
    obtain ⟨x3, hx3⟩ : ∃ v, x2.setCell ⟨p, 10, none⟩ (.int .u64 0) = v := ⟨_, rfl⟩
    have hb3 : x3.heap[p]? = some (.cells #[.pointer (some ⟨pd, 0, none⟩), .int .i64 (S.half : Int), .int .i64 (S.used : Int), .slice so S.recs.length co, .int .i64 (S.half : Int), .int .i64 (S.sz : Int), .int .u64 (tn : Int), .slice sc_ n cc, .int .i64 ((S.half + S.sz : Nat) : Int), .int .i64 (S.sz : Int), .int .u64 0, .slice sk S.keys.length ck, .int .i64 1] 74 (0, 0)) := by rw [← hx3, heap_setCell_at hb2]; rfl
    have kk3 : Keeps (fun k => k = p) x2 x3 := by rw [← hx3]; exact (Keeps.refl (fun k => k = p) x2).setCell (p := ⟨p, 10, none⟩) (fun _ => rfl) _
    have c3 := cellAt hb3 11
    have f3 := freeAt hb3 11
    simp at c3
    obtain ⟨x4, hx4⟩ : ∃ v, x3.setCell ⟨p, 11, none⟩ (.slice none 0 0) = v := ⟨_, rfl⟩
    have hb4 : x4.heap[p]? = some (.cells #[.pointer (some ⟨pd, 0, none⟩), .int .i64 (S.half : Int), .int .i64 (S.used : Int), .slice so S.recs.length co, .int .i64 (S.half : Int), .int .i64 (S.sz : Int), .int .u64 (tn : Int), .slice sc_ n cc, .int .i64 ((S.half + S.sz : Nat) : Int), .int .i64 (S.sz : Int), .int .u64 0, .slice none 0 0, .int .i64 1] 74 (0, 0)) := by rw [← hx4, heap_setCell_at hb3]; rfl
    have kk4 : Keeps (fun k => k = p) x3 x4 := by rw [← hx4]; exact (Keeps.refl (fun k => k = p) x3).setCell (p := ⟨p, 11, none⟩) (fun _ => rfl) _
    have c4 := cellAt hb4 12
    have f4 := freeAt hb4 12
    simp at c4
    obtain ⟨x5, hx5⟩ : ∃ v, x4.setCell ⟨p, 12, none⟩ (.int .i64 0) = v := ⟨_, rfl⟩
    have hb5 : x5.heap[p]? = some (.cells #[.pointer (some ⟨pd, 0, none⟩), .int .i64 (S.half : Int), .int .i64 (S.used : Int), .slice so S.recs.length co, .int .i64 (S.half : Int), .int .i64 (S.sz : Int), .int .u64 (tn : Int), .slice sc_ n cc, .int .i64 ((S.half + S.sz : Nat) : Int), .int .i64 (S.sz : Int), .int .u64 0, .slice none 0 0, .int .i64 0] 74 (0, 0)) := by rw [← hx5, heap_setCell_at hb4]; rfl
    have kk5 : Keeps (fun k => k = p) x4 x5 := by rw [← hx5]; exact (Keeps.refl (fun k => k = p) x4).setCell (p := ⟨p, 12, none⟩) (fun _ => rfl) _
    have HFIN := Lib.hid (set_fin HS.out HD.out.1 HD.out.2.1 HD.out.2.2 KG.out HLL.out.1 hn HC.out.1 HC.out.2 ((((kk1.trans kk2 (fun _ _ h => h)).trans kk3 (fun _ _ h => h)).trans kk4 (fun _ _ h => h)).trans kk5 (fun _ _ h => h)) (to := 0) (by omega) (by show (((S.d.write S.half (keyF tn l)).sync).zero (S.half + S.sz) S.sz).now.length = _; rw [zero_len _ _ _ (by show _ ≤ (S.d.write S.half (keyF tn l)).now.length; rw [HLEN.out]; have := HHN.out; omega)]; exact HLEN.out) (by have := HTN.out; omega) HT.out hb5)
    obtain ⟨ji, hji, hjs⟩ := infoPlace
    have hpe := run_eql_ptr_other (P := Try.prog) x4 (a := ⟨p, 4, none⟩) (b := ⟨p, 8, none⟩) Try.underlying92 hji hjs (by simp) hb4 hb4
    clear hji hjs
    clear hb0 hb1 hb2 hb3 hb4 hb5 kk1 kk2 kk3 kk4 kk5
    go_wp2
    go_ret
    rw [hA.out]
    exact ⟨rfl, HFIN.out⟩
end Go.Proofs.Ytpojkhjenbbodaa

namespace Go.Proofs.Ytpojkhjenbbodaa
open Go.RowKit

/-- Set of the keys of a store. -/
theorem set_any (p pd : Nat) (S : SS) (F R : Nat → Prop) (w : World) (h : StoreAt w p pd S F R) (sa : Option Addr) (n cap : Nat) (l : List UInt8) (hl : Sl w sa n cap (BV l)) (hn : n ≤ 65536) (hav : ∀ ad, sa = some ad → 0 < n → ¬ F ad.block) (hlo : S.d.lo.length ≤ 1000000) (htn : S.turn + 1 ≤ 10000000000) :
    Calls Try.prog 27 #[.pointer (some ⟨p, 0, none⟩), .slice sa n cap] w fun e w' => e = .returned (.int .i64 (S.set l).2) ∧
      ∃ F' R', StoreAt w' p pd (S.set l).1 F' R' ∧ Keeps F w w' ∧ (∀ k, F' k → F k ∨ w.heap.size ≤ k) ∧ (∀ k, R' k → R k ∨ w.heap.size ≤ k) := by
  obtain ⟨Fd, so, co, vs, sk, ck, h⟩ := h
  have h1 := h.now1
  rcases (show S.now = 0 ∨ S.now = 1 by omega) with h0 | h0
  · by_cases ht : S.turn = 0
    · exact set_a p pd S F R Fd so co vs sk ck w h sa n cap l hl hn hav hlo htn h0 ht
    · exact set_b p pd S F R Fd so co vs sk ck w h sa n cap l hl hn hav hlo htn h0 (by omega)
  · exact set_c p pd S F R Fd so co vs sk ck w h sa n cap l hl hn hav hlo htn h0 (h.nowT h0)

/-- Records that stand from a place on, and where they end. -/
def recsF (l : List UInt8) : Nat → Nat → List (List UInt8) × Nat
  | 0, fr => ([], fr)
  | k + 1, fr => match parse 0 smRec l fr with
    | none => ([], fr)
    | some (_, b, m) => (b :: (recsF l k m).1, (recsF l k m).2)
def recsOf (l : List UInt8) : List (List UInt8) × Nat := recsF l (l.length + 1) 0
theorem parse_some {btw : Nat} {sm : List UInt8 → List UInt8 → List UInt8} {l : List UInt8} {fr : Nat} {x y : List UInt8} {m : Nat} (h : parse btw sm l fr = some (x, y, m)) :
    m = fr + 10 + btw + y.length ∧ m ≤ l.length ∧ x.length = btw ∧ y.length ≤ 65535 := by
  unfold parse at h
  split at h
  · cases h
  · rename_i h1
    split at h
    · cases h
    · rename_i h2
      split at h
      · simp only [Option.some.injEq, Prod.mk.injEq] at h
        obtain ⟨rfl, rfl, rfl⟩ := h
        have hK : le (cut l fr 2) < 65536 := by
          have h3 := le_lt (cut l fr 2)
          rw [cut_length l fr 2 (by omega)] at h3
          exact h3
        rw [cut_length _ _ _ (by omega), cut_length _ _ _ (by omega)]
        omega
      · cases h
theorem recsF_none (l : List UInt8) (k fr : Nat) (h : parse 0 smRec l fr = none) : recsF l k fr = ([], fr) := by
  cases k with
  | zero => rfl
  | succ k => simp only [recsF, h]
theorem recsF_some (l : List UInt8) (k fr : Nat) {x y : List UInt8} {m : Nat} (h : parse 0 smRec l fr = some (x, y, m)) : recsF l (k + 1) fr = (y :: (recsF l k m).1, (recsF l k m).2) := by
  simp only [recsF, h]
theorem recsF_facts (l : List UInt8) : ∀ (k fr : Nat), fr ≤ l.length → fr ≤ (recsF l k fr).2 ∧ (recsF l k fr).2 ≤ l.length ∧ 10 * (recsF l k fr).1.length + fr ≤ l.length ∧ ∀ r ∈ (recsF l k fr).1, r.length ≤ 65535 := by
  intro k
  induction k with
  | zero => intro fr h; simp [recsF]; omega
  | succ k ih =>
    intro fr h
    cases hp : parse 0 smRec l fr with
    | none => rw [recsF_none l _ fr hp]; simp; omega
    | some v =>
      obtain ⟨x, y, m⟩ := v
      obtain ⟨h1, h2, _, h4⟩ := parse_some hp
      obtain ⟨i1, i2, i3, i4⟩ := ih m h2
      rw [recsF_some l k fr hp]
      refine ⟨by show fr ≤ (recsF l k m).2; omega, i2, by simp only [List.length_cons]; omega, fun r hr => ?_⟩
      rcases List.mem_cons.1 hr with rfl | hr
      · exact h4
      · exact i4 r hr
/-- The keys that stand at a place, and their turn (0: none). -/
def plOf (l : List UInt8) (a z : Nat) : Nat × List UInt8 := match parse 4 smKey (cut l a z) 0 with
  | none => (0, [])
  | some (x, y, _) => if le x = 0 then (0, []) else (le x, y)
/-- What Open makes of a disk that is up and large enough. -/
def openS (D : DS) : SS :=
  let half := D.now.length / 2
  let sz := (D.now.length - D.now.length / 2) / 2
  let r := recsOf (D.now.take half)
  let p0 := plOf D.now half sz
  let p1 := plOf D.now (half + sz) sz
  let now := if p0.1 < p1.1 then 1 else 0
  let d1 := D.zero r.2 (half - r.2)
  let d2 := if p0.1 < p1.1 ∨ p0.1 = 0 then d1.zero half sz else d1
  let d3 := if p0.1 < p1.1 then d2 else d2.zero (half + sz) sz
  { d := d3.sync, used := r.2, recs := r.1, now := now, turn := if p0.1 < p1.1 then p1.1 else p0.1, keys := if p0.1 < p1.1 then p1.2 else p0.2 }
end Go.Proofs.Ytpojkhjenbbodaa

namespace Go.Proofs.Ytpojkhjenbbodaa
open Go.RowKit

theorem form_own {w : World} {base : Nat} {e : TypeId} {size : Nat} {sa : Option Addr} {n c m : Nat} {xs : List Value} {k : Nat} (h : w.ownsRow base e size (.slice sa n c) m xs) (hk : (Value.slice sa n c).ownBlock = some k) : sa = some ⟨k, 0, none⟩ := by
  rcases own_addr h with ⟨rfl, _⟩ | ⟨g', rfl⟩
  · simp [Value.ownBlock] at hk
  · simp [Value.ownBlock] at hk; rw [hk]

theorem open_fin {w wr v : World} {p pd : Nat} {Fd F2 : Nat → Prop} {S : SS} (hlt : ∀ k, Fd k → k < w.heap.size) (hwp : w.heap.size ≤ p) (hpw : p < wr.heap.size) {so : Option Addr} {co : Nat} {vs : List Value}
    (hrow : wr.ownsRow (p + 3) 23 1 (.slice so S.recs.length co) S.recs.length vs) (hrows : RowsO wr (p + 3) vs S.recs) {sk : Option Addr} {ck : Nat}
    (hkey : wr.ownsRow (p + 3) 5 1 (.slice sk S.keys.length ck) S.keys.length (BV S.keys))
    (kw : Keeps Fd w wr) (kg : Keeps (fun k => k = p ∨ Fd k) wr v) (hd : Disk v pd S.d F2) (hnp : ¬ F2 p) (b3 : ∀ k, F2 k → Fd k ∨ wr.heap.size ≤ k)
    (hblk : v.heap[p]? = some (.cells (stCells pd S.half S.used (.slice so S.recs.length co) S.sz S.now S.turn (.slice sk S.keys.length ck)) 74 (0, 0)))
    (hnow : S.now ≤ 1) (hnT : S.now = 1 → 0 < S.turn) (ht0 : S.turn = 0 → S.keys = []) (hu : S.used ≤ S.half) (hs : S.d.now.length ≤ 65536)
    (hsm : S.recs.length ≤ 100000 ∧ S.turn ≤ 10000000000 ∧ S.keys.length ≤ 65536 ∧ ∀ r ∈ S.recs, r.length ≤ 65536) :
    ∃ F R, StoreAt v p pd S F R ∧ Keeps Fd w v ∧ (∀ k, F k → Fd k ∨ w.heap.size ≤ k) ∧ (∀ k, R k → w.heap.size ≤ k) := by
  have h1 := kw.size
  have h2 := kg.size
  have hso : ∀ k, so = some ⟨k, 0, none⟩ → p + 3 ≤ k ∧ k < wr.heap.size := fun k e => own_lt hrow e
  have hsk : ∀ k, sk = some ⟨k, 0, none⟩ → p + 3 ≤ k ∧ k < wr.heap.size := fun k e => own_lt hkey e
  have hrv : ∀ (i : Nat) (x : Value) (k : Nat), vs[i]? = some x → x.ownBlock = some k → p + 3 ≤ k ∧ k < wr.heap.size := fun i x k hx e => ⟨(hrows.lt hx e).1, (hrows.lt hx e).2.1⟩
  have hF2 : ∀ k, p + 3 ≤ k → k < wr.heap.size → ¬ F2 k := fun k a b hf => (b3 k hf).elim (fun h => by have := hlt k h; omega) (fun h => by omega)
  have hG : ∀ k, p + 3 ≤ k → ¬ (k = p ∨ Fd k) := fun k a h => h.elim (fun h => by omega) (fun h => by have := hlt k h; omega)
  have hrow' := own_keep hrow kg (fun k e => hG k (hso k (form_own hrow e)).1)
  have hkey' := own_keep hkey kg (fun k e => hG k (hsk k (form_own hkey e)).1)
  have hrows' := hrows.keep kg (fun k a _ _ => hG k a)
  have hsep : ∀ k, so = some ⟨k, 0, none⟩ → sk = some ⟨k, 0, none⟩ → False := fun k e1 e2 => by
    obtain ⟨c1, hc1⟩ := own_blk hrow e1
    obtain ⟨c2, hc2⟩ := own_blk hkey e2
    rw [hc1] at hc2
    simp at hc2
  refine ⟨fun k => k = p ∨ F2 k ∨ so = some ⟨k, 0, none⟩, fun k => sk = some ⟨k, 0, none⟩ ∨ ∃ (i : Nat) (x : Value), vs[i]? = some x ∧ x.ownBlock = some k, ⟨F2, so, co, vs, sk, ck, ?_⟩, ?_, ?_, ?_⟩
  · refine { blk := hblk, disk := hd, out := own_base hrow' (fun _ _ => Nat.zero_le _), rows := hrows'.reads, keys := Sl.of_own hkey', rin := ?_, kin := ?_, apart := ?_, pd_ := hnp, od := fun k e => hF2 k (hso k e).1 (hso k e).2, foot := fun k => Iff.rfl, rlt := ?_, flt := ?_, now1 := hnow, nowT := hnT, turn0 := ht0, usedH := hu, size := hs, small := hsm }
    · intro x hx ad m c e h0
      obtain ⟨i, hi⟩ := List.getElem?_of_mem hx
      have hil : i < S.recs.length := by rw [← hrows.len]; exact (List.getElem?_eq_some_iff.1 hi).1
      obtain ⟨sa, cap, a1, a2⟩ := hrows.row i _ (List.getElem?_eq_getElem hil)
      rw [hi] at a1
      have a1 := Option.some.inj a1
      subst e
      simp only [Value.slice.injEq] at a1
      obtain ⟨rfl, rfl, rfl⟩ := a1
      rcases own_addr a2 with ⟨e, _⟩ | ⟨g', e⟩
      · cases e
      · cases e
        exact Or.inr ⟨i, _, hi, rfl⟩
    · intro ad m c e h0
      simp only [Value.slice.injEq] at e
      obtain ⟨rfl, rfl, rfl⟩ := e
      rcases own_addr hkey with ⟨e, _⟩ | ⟨g', e⟩
      · cases e
      · cases e
        exact Or.inl rfl
    · rintro k hr (h | h | h)
      · rcases hr with hr | ⟨i, x, hx, e⟩
        · have := (hsk k hr).1; omega
        · have := (hrv i x k hx e).1; omega
      · rcases hr with hr | ⟨i, x, hx, e⟩
        · exact hF2 k (hsk k hr).1 (hsk k hr).2 h
        · exact hF2 k (hrv i x k hx e).1 (hrv i x k hx e).2 h
      · rcases hr with hr | ⟨i, x, hx, e⟩
        · exact hsep k h hr
        · exact hrows.apartOuter hrow hx e h
    · rintro k (hr | ⟨i, x, hx, e⟩)
      · have := (hsk k hr).2; omega
      · have := (hrv i x k hx e).2; omega
    · rintro k (h | h | h)
      · omega
      · exact hd.lt k h
      · have := (hso k h).2; omega
  · exact kw.trans kg (fun k a h => h.elim (fun e => by omega) (fun h => h))
  · rintro k (h | h | h)
    · exact Or.inr (by omega)
    · exact (b3 k h).imp id (fun h => by omega)
    · exact Or.inr (by have := (hso k h).1; omega)
  · rintro k (hr | ⟨i, x, hx, e⟩)
    · have := (hsk k hr).1; omega
    · have := (hrv i x k hx e).1; omega
end Go.Proofs.Ytpojkhjenbbodaa

namespace Go.Proofs.Ytpojkhjenbbodaa
open Go.RowKit

theorem plOf_facts (l : List UInt8) (a z : Nat) : (plOf l a z).1 ≤ 4294967295 ∧ (plOf l a z).2.length ≤ 65535 ∧ ((plOf l a z).1 = 0 → (plOf l a z).2 = []) := by
  unfold plOf
  cases h : parse 4 smKey (cut l a z) 0 with
  | none => simp
  | some v =>
    obtain ⟨x, y, m⟩ := v
    obtain ⟨_, _, h3, h4⟩ := parse_some h
    have h5 := le_lt x
    rw [h3, show (256 : Nat) ^ 4 = 4294967296 from rfl] at h5
    by_cases h0 : le x = 0
    · simp [h0]
    · simp [h0]; omega
theorem zero_lo (D : DS) (a n : Nat) : (D.zero a n).lo.length = D.lo.length + n := by
  simp [DS.zero, DS.write, mkLo_length]
theorem zero_cr (D : DS) (a n : Nat) : (D.zero a n).cr = D.cr := rfl

section
variable {D : DS} {half sz fr a1 u0 u1 : Nat} {rs : List (List UInt8)} {l0 l1 : List UInt8} (hh : D.now.length / 2 = half) (hz : (D.now.length - half) / 2 = sz) (ha : half + sz = a1)
  (hr : (rs, fr) = recsOf (D.now.take half)) (h0 : plOf D.now half sz = (u0, l0)) (h1 : plOf D.now a1 sz = (u1, l1))
include hh hz ha hr h0 h1
theorem openS_lt (h : u0 < u1) : openS D = { d := ((D.zero fr (half - fr)).zero half sz).sync, used := fr, recs := rs, now := 1, turn := u1, keys := l1 } := by
  subst ha
  unfold openS
  simp only [hh, hz, ← hr, h0, h1, if_pos h, if_pos (Or.inl h : u0 < u1 ∨ u0 = 0)]
theorem openS_zero (h : ¬ u0 < u1) (hu : u0 = 0) : openS D = { d := (((D.zero fr (half - fr)).zero half sz).zero a1 sz).sync, used := fr, recs := rs, now := 0, turn := u0, keys := l0 } := by
  subst ha
  unfold openS
  simp only [hh, hz, ← hr, h0, h1, if_neg h, if_pos (Or.inr hu : u0 < u1 ∨ u0 = 0)]
theorem openS_ge (h : ¬ u0 < u1) (hu : ¬ u0 = 0) : openS D = { d := ((D.zero fr (half - fr)).zero a1 sz).sync, used := fr, recs := rs, now := 0, turn := u0, keys := l0 } := by
  subst ha
  unfold openS
  simp only [hh, hz, ← hr, h0, h1, if_neg h, if_neg (show ¬ (u0 < u1 ∨ u0 = 0) from fun h' => h'.elim h hu)]
end

/-- At the head of the loop that clears the places. -/
def OpC (wr : World) (p pd : Nat) (Fd : Nat → Prop) (C : Array Value) (D : DS) (v : World) : Prop :=
  ∃ F2 : Nat → Prop, v.heap[p]? = some (.cells C 74 (0, 0)) ∧ Disk v pd D F2 ∧ ¬ F2 p ∧ (∀ x, F2 x → Fd x ∨ wr.heap.size ≤ x) ∧ Keeps (fun x => x = p ∨ Fd x) wr v
def OpL (wr : World) (p pd : Nat) (Fd : Nat → Prop) (C0 C1 C2 : Array Value) (D0 D1 D2 : DS) (i : Value) (v : World) : Prop :=
  (i = .int .i64 0 ∧ OpC wr p pd Fd C0 D0 v) ∨ (i = .int .i64 1 ∧ OpC wr p pd Fd C1 D1 v) ∨ (i = .int .i64 2 ∧ OpC wr p pd Fd C2 D2 v)

theorem open_end {w wr v : World} {p pd : Nat} {Fd F2 : Nat → Prop} {D D2 : DS} {N half sz fr now turn : Nat} {rs : List (List UInt8)} {keys l : List UInt8}
    (heq : openS D = { d := D2, used := fr, recs := rs, now := now, turn := turn, keys := keys })
    (hlen : D2.now.length = N) (hh : N / 2 = half) (hz : (N - half) / 2 = sz) (hN : N ≤ 65536) (hr : (rs, fr) = recsOf l) (hl : l.length = half)
    (hlt : ∀ k, Fd k → k < w.heap.size) (hwp : w.heap.size ≤ p) (hpw : p < wr.heap.size) {so : Option Addr} {co : Nat} {vs : List Value}
    (hrow : wr.ownsRow (p + 3) 23 1 (.slice so rs.length co) rs.length vs) (hrows : RowsO wr (p + 3) vs rs) {sk : Option Addr} {ck : Nat}
    (hkey : wr.ownsRow (p + 3) 5 1 (.slice sk keys.length ck) keys.length (BV keys))
    (kw : Keeps Fd w wr) (kg : Keeps (fun k => k = p ∨ Fd k) wr v) (hd : Disk v pd D2 F2) (hnp : ¬ F2 p) (b3 : ∀ k, F2 k → Fd k ∨ wr.heap.size ≤ k)
    (hblk : v.heap[p]? = some (.cells (stCells pd half fr (.slice so rs.length co) sz now turn (.slice sk keys.length ck)) 74 (0, 0)))
    (hnow : now ≤ 1) (hnT : now = 1 → 0 < turn) (ht0 : turn = 0 → keys = []) (ht : turn ≤ 4294967295) (hk : keys.length ≤ 65535) :
    ∃ F R, StoreAt v p pd (openS D) F R ∧ Keeps Fd w v ∧ (∀ k, F k → Fd k ∨ w.heap.size ≤ k) ∧ (∀ k, R k → w.heap.size ≤ k) := by
  rw [heq]
  have f := recsF_facts l (l.length + 1) 0 (Nat.zero_le _)
  have e : recsF l (l.length + 1) 0 = (rs, fr) := hr.symm
  rw [e] at f
  obtain ⟨_, f2, f3, f4⟩ := f
  dsimp only at f2 f3 f4
  refine open_fin (S := { d := D2, used := fr, recs := rs, now := now, turn := turn, keys := keys }) hlt hwp hpw hrow hrows hkey kw kg hd hnp b3 ?_ hnow hnT ht0 ?_ (by show D2.now.length ≤ 65536; omega) ⟨by show rs.length ≤ 100000; omega, by show turn ≤ _; omega, by show keys.length ≤ _; omega, fun r hr => Nat.le_trans (f4 r hr) (by omega)⟩
  · have eh : (SS.half { d := D2, used := fr, recs := rs, now := now, turn := turn, keys := keys }) = half := by show D2.now.length / 2 = half; rw [hlen, hh]
    have ez : (SS.sz { d := D2, used := fr, recs := rs, now := now, turn := turn, keys := keys }) = sz := by show (D2.now.length - D2.now.length / 2) / 2 = sz; rw [hlen, hh, hz]
    rw [eh, ez]
    exact hblk
  · show fr ≤ D2.now.length / 2
    rw [hlen, hh]
    omega
end Go.Proofs.Ytpojkhjenbbodaa
