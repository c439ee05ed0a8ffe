/-
  The reference's Append and Set of a store of the reference. Conditions: a store as it should be (Good), bytes of at most 65536.
-/
import Derived.Test.YtpojkhjenbbodaaRefSet
namespace Go.Proofs.Ytpojkhjenbbodaa
open Go.RowKit

/-- Only blocks that are there are named. -/
theorem RsAt.here {w : World} {P P' : Nat → Prop} {v : Array Value} {S : SS} (h : RsAt w P v S) (hp : ∀ j, P j → j < w.heap.size → P' j) : RsAt w P' v S := by
  obtain ⟨sn, cn, ss, cs, sa, ca, sb, cb, sl, cl, vs, sk, ck, h1, h2, h3, h4, h5, h6, h7, h8, h9⟩ := h.out
  refine ⟨sn, cn, ss, cs, sa, ca, sb, cb, sl, cl, vs, sk, ck, h1, h2, fun s hs j e => hp j (h3 s hs j e) (h2.foot s hs j e).2, h4, h5, h6, ?_, fun x hx => ?_, ?_⟩
  · intro ad n c e h0
    simp only [Value.slice.injEq] at e
    refine hp _ (h7 ad n c (by simp [e]) h0) (blk_lt h4 e.1 (by omega))
  · intro ad n c e h0
    obtain ⟨i, hi, hxi⟩ := List.getElem_of_mem hx
    obtain ⟨r, hr⟩ : ∃ r, S.recs[i]? = some r := ⟨_, List.getElem?_eq_getElem (by rw [← h5.len]; exact hi)⟩
    obtain ⟨sa', cap', e1, e2⟩ := h5.row i r hr
    rw [List.getElem?_eq_getElem hi, hxi, e] at e1
    simp only [Option.some.injEq, Value.slice.injEq] at e1
    refine hp _ (h8 x hx ad n c e h0) (blk_lt e2 e1.1.symm (by omega))
  · intro ad n c e h0
    simp only [Value.slice.injEq] at e
    refine hp _ (h9 ad n c (by simp [e]) h0) (blk_lt h6 e.1 (by omega))

theorem refAppend_ok {H Z R : Nat} {S : SS} {P : Nat → Prop} {v : Array Value} {w : World} (g : Good H Z R S) (h : RsAt w P v S) (sx : Option Addr) (nx cx : Nat) (x : List UInt8) (hx : Sl w sx nx cx (BV x)) (hxP : InR P (.slice sx nx cx)) :
    Calls Try.prog 34 #[.agg v, .slice sx nx cx] w fun e w' => ∃ v', e = .returned (.tuple #[.agg v', .int .i64 (S.append x).2]) ∧ RsAt w' (fun j => P j ∨ w.heap.size ≤ j) v' (S.append x).1 ∧ Keeps (fun _ => False) w w' := by
  obtain ⟨sn, cn, ss, cs, sa, ca, sb, cb, sl, cl, vs, sk, ck, rfl, h2, h3, h4, h5, h6, h7, h8, h9⟩ := h.out
  have hxl : x.length = nx := by have := hx.len; simpa using this
  have hcr := g.cr
  have hbig := g.big
  have hlen := g.len
  have huH : S.used ≤ S.half := by rw [g.half]; exact g.usedH
  have hhf : S.half ≤ S.d.now.length := by unfold SS.half; omega
  rw [hcr] at h2 h3
  by_cases hr : (x.length : Int) ≤ S.room
  · obtain ⟨_, g', _⟩ := good_append g x hr
    have hA : S.append x = ({ S with d := (S.d.write S.used (recF x)).sync, used := S.used + (x.length + 10), recs := S.recs ++ [x] }, 0) := by
      unfold SS.append
      rw [if_neg (by omega), if_neg (by rw [hcr]; decide)]
    have hhalf := g'.half
    rw [hA] at hhalf ⊢
    rw [← g.half] at hhalf
    rw [hcr]
    refine (refAppend_raw sn ss sa sb sl sk sx S.d.now.length cn S.d.sure.length cs S.d.lo.length ca S.d.lo.length cb S.recs.length cl S.keys.length ck nx cx S.half S.used S.turn S.atR S.d vs S.recs x w h2 hcr rfl (by omega) (by rw [g.lo]; simp) hhf huH h4 h5 (by have := g.few; omega) hx (by rw [← hxl]; exact hr)).mono ?_
    rintro e w' ⟨vd', y, rfl, hra, hrg, ⟨sy, cy, rfl, hs, hin⟩, hk⟩
    have hrf := hrg (fun j => P j ∨ w.heap.size ≤ j) (h3.weak fun j a => Or.inl a) (fun j a => Or.inr a)
    obtain ⟨n1, c1, n2, c2, n3, c3, n4, c4, rfl, _⟩ := hra.rows
    refine ⟨_, rfl, ⟨n1, c1, n2, c2, n3, c3, n4, c4, sy, cy, vs ++ [.slice sx nx cx], sk, ck, ?_, hra, hrf, ?_, ?_, h6.quiet hk, ?_, ?_, h9.weak fun j a => Or.inl a⟩, hk⟩
    · rw [hhalf]
      show _ = (#[_, _, _, _, _, _, Value.int .i64 ((S.used + (x.length + 10) : Nat) : Int), Value.slice sy (S.recs ++ [x]).length cy, Value.int .i64 S.atR, _, _] : Array Value)
      rw [List.length_append, hxl]
      rfl
    · show Sl w' sy (S.recs ++ [x]).length cy _
      rw [List.length_append]
      exact hs
    · exact (h5.quiet hk).snoc hxl (hx.quiet hk)
    · show InR _ (.slice sy (S.recs ++ [x]).length cy)
      rw [List.length_append]
      exact hin.weak fun j a => Or.inr a
    · intro z hz
      rcases List.mem_append.1 hz with hz | hz
      · exact (h8 z hz).weak fun j a => Or.inl a
      · simp at hz
        subst hz
        exact hxP.weak fun j a => Or.inl a
  · rw [append_full x (by omega)]
    have hf := refAppend_full sn ss sa sb sl sk sx S.d.now.length cn S.d.sure.length cs S.d.lo.length ca S.d.lo.length cb S.recs.length cl S.keys.length ck nx cx S.half S.used S.turn S.atR w (by omega) huH (by rw [← hxl]; have : ¬ (x.length : Int) ≤ max ((S.half : Int) - (S.used : Int) - 10) (-1) := hr; omega)
    rw [hcr]
    refine hf.mono ?_
    rintro e w' ⟨rfl, hk⟩
    refine ⟨_, rfl, ?_, hk⟩
    have := (h.keep hk (fun _ a => a.elim)).weak (P' := fun j => P j ∨ w.heap.size ≤ j) (fun j a => Or.inl a)
    rwa [hcr] at this

theorem refSet_ok {H Z R : Nat} {S : SS} {P : Nat → Prop} {v : Array Value} {w : World} (g : Good H Z R S) (h : RsAt w P v S) (hz0 : 0 < Z) (ht : S.turn + 1 < 4294967296) (sx : Option Addr) (nx cx : Nat) (x : List UInt8) (hx : Sl w sx nx cx (BV x)) (hxP : InR P (.slice sx nx cx)) (hn : nx ≤ 65536) :
    Calls Try.prog 33 #[.agg v, .slice sx nx cx] w fun e w' => ∃ v', e = .returned (.tuple #[.agg v', .int .i64 (S.set x).2]) ∧ RsAt w' (fun j => P j ∨ w.heap.size ≤ j) v' (S.set x).1 ∧ Keeps (fun _ => False) w w' := by
  obtain ⟨sn, cn, ss, cs, sa, ca, sb, cb, sl, cl, vs, sk, ck, rfl, h2, h3, h4, h5, h6, h7, h8, h9⟩ := h.out
  have hxl : x.length = nx := by have := hx.len; simpa using this
  have hcr := g.cr
  have hbig := g.big
  have hlen := g.len
  have hhf : S.half ≤ S.d.now.length := by unfold SS.half; omega
  have hsz : (S.d.now.length - S.half) / 2 = S.sz := rfl
  have hto : (S.atR = 2 ∧ S.to = 0) ∨ (S.atR = 0 ∧ S.to = 1) ∨ (S.atR = 1 ∧ S.to = 0) := by
    have h1 := g.now1
    unfold SS.atR SS.to
    by_cases h0 : S.turn = 0
    · left
      rw [if_pos h0, if_neg (by omega)]
      exact ⟨rfl, by have h2 := g.nowT; rcases (show S.now = 0 ∨ S.now = 1 by omega) with h3 | h3
                     · exact h3
                     · have := h2 h3; omega⟩
    · right
      rw [if_neg h0, if_pos (by omega)]
      omega
  rw [hcr] at h2 h3
  by_cases hr : x.length + 14 ≤ S.sz
  · have hg := good_set g x (by rw [← g.sz]; exact hr) ht
    have hA : S.set x = ({ S with d := ((((S.d.write (S.atP S.to) (keyF (S.turn + 1) x)).sync).zero (S.atP (1 - S.to)) S.sz).sync), now := S.to, turn := S.turn + 1, keys := x }, 0) := by
      unfold SS.set
      rw [if_neg (by omega), if_neg (by rw [hcr]; decide)]
    have hhalf := hg.2.1.half
    rw [hA] at hhalf ⊢
    rw [← g.half] at hhalf
    rw [hcr]
    refine (refSet_raw sn ss sa sb sl sk sx S.d.now.length cn S.d.sure.length cs S.d.lo.length ca S.d.lo.length cb S.recs.length cl S.keys.length ck nx cx S.half S.used S.turn S.to S.sz S.atR S.d x w h2 hcr rfl (by omega) (by rw [g.lo]; simp) hhf hsz (by rw [g.sz]; exact hz0) hx (by rw [← hxl]; exact hr) hto (by omega)).mono ?_
    rintro e w' ⟨vd', y, rfl, hra, hrg, _, hk⟩
    have hrf := hrg (fun j => P j ∨ w.heap.size ≤ j) (h3.weak fun j a => Or.inl a) (fun j a => Or.inr a)
    obtain ⟨n1, c1, n2, c2, n3, c3, n4, c4, rfl, _⟩ := hra.rows
    refine ⟨_, rfl, ⟨n1, c1, n2, c2, n3, c3, n4, c4, sl, cl, vs, sx, cx, ?_, hra, hrf, h4.quiet hk, h5.quiet hk, ?_, h7.weak fun j a => Or.inl a, fun z hz => (h8 z hz).weak fun j a => Or.inl a, ?_⟩, hk⟩
    · have hat : SS.atR { S with d := ((((S.d.write (S.atP S.to) (keyF (S.turn + 1) x)).sync).zero (S.atP (1 - S.to)) S.sz).sync), now := S.to, turn := S.turn + 1, keys := x } = (S.to : Int) := by
        unfold SS.atR
        rw [if_neg (by show ¬ S.turn + 1 = 0; omega)]
      rw [hhalf, hat]
      show _ = (#[_, _, _, _, _, _, _, _, _, _, Value.slice sx x.length cx] : Array Value)
      rw [hxl]
      rfl
    · show Sl w' sx x.length cx (BV x)
      rw [hxl]
      exact hx.quiet hk
    · show InR _ (.slice sx x.length cx)
      rw [hxl]
      exact hxP.weak fun j a => Or.inl a
  · rw [set_full x (by omega)]
    have hf := refSet_full sn ss sa sb sl sk sx S.d.now.length cn S.d.sure.length cs S.d.lo.length ca S.d.lo.length cb S.recs.length cl S.keys.length ck nx cx S.half S.used S.turn S.to S.sz S.atR x w (by omega) hhf hsz hx hn (by omega) hto (by omega)
    rw [hcr]
    refine hf.mono ?_
    rintro e w' ⟨rfl, hk⟩
    refine ⟨_, rfl, ?_, hk⟩
    have := (h.keep hk (fun _ a => a.elim)).weak (P' := fun j => P j ∨ w.heap.size ≤ j) (fun j a => Or.inl a)
    rwa [hcr] at this
end Go.Proofs.Ytpojkhjenbbodaa
