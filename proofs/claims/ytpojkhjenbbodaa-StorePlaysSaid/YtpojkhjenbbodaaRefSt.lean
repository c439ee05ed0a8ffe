/-
  A store of the reference in memory; what its Open finds is what the program's finds: plain laws. Conditions: those that are named.
-/
import Derived.Test.YtpojkhjenbbodaaRefPlace
import Derived.Test.YtpojkhjenbbodaaRefWrite
namespace Go.Proofs.Ytpojkhjenbbodaa
open Go.RowKit

/-- The place that counts, its turn, its keys: one place more is looked at. -/
def stp (n : Int) (q : Nat × List UInt8) (s : Int × Nat × List UInt8) : Int × Nat × List UInt8 := if s.2.1 < q.1 then (n, q.1, q.2) else s
/-- The reference's own word for the place that counts. -/
def SS.atR (S : SS) : Int := if S.turn = 0 then 2 else (S.now : Int)

/-- A store of the reference, as eleven values. -/
structure RsAt (w : World) (P : Nat → Prop) (v : Array Value) (S : SS) : Prop where
  out : ∃ sn cn ss cs sa ca sb cb sl cl vs sk ck,
    v = #[.slice sn S.d.now.length cn, .slice ss S.d.sure.length cs, .slice sa S.d.lo.length ca, .slice sb S.d.lo.length cb, .bool S.d.cr, .int .i64 (S.half : Int), .int .i64 (S.used : Int), .slice sl S.recs.length cl, .int .i64 S.atR, .int .u64 (S.turn : Int), .slice sk S.keys.length ck] ∧
    RefAt w 0 #[.slice sn S.d.now.length cn, .slice ss S.d.sure.length cs, .slice sa S.d.lo.length ca, .slice sb S.d.lo.length cb, .bool S.d.cr] S.d ∧
    RF P #[.slice sn S.d.now.length cn, .slice ss S.d.sure.length cs, .slice sa S.d.lo.length ca, .slice sb S.d.lo.length cb, .bool S.d.cr] ∧
    Sl w sl S.recs.length cl vs ∧ RowsS w vs S.recs ∧ Sl w sk S.keys.length ck (BV S.keys) ∧ InR P (.slice sl S.recs.length cl) ∧ (∀ x ∈ vs, InR P x) ∧ InR P (.slice sk S.keys.length ck)
theorem InR.weak {P P' : Nat → Prop} {v : Value} (h : InR P v) (hp : ∀ j, P j → P' j) : InR P' v := fun ad n c e h0 => hp _ (h ad n c e h0)
theorem RsAt.weak {w : World} {P P' : Nat → Prop} {v : Array Value} {S : SS} (h : RsAt w P v S) (hp : ∀ j, P j → P' j) : RsAt w P' v S := by
  obtain ⟨sn, cn, ss, cs, sa, ca, sb, cb, sl, cl, vs, sk, ck, h1, h2, h3, h4, h5, h6, h7, h8, h9⟩ := h.out
  exact ⟨sn, cn, ss, cs, sa, ca, sb, cb, sl, cl, vs, sk, ck, h1, h2, h3.weak hp, h4, h5, h6, h7.weak hp, fun x hx => (h8 x hx).weak hp, h9.weak hp⟩
theorem RsAt.keep {w w' : World} {P G : Nat → Prop} {v : Array Value} {S : SS} (h : RsAt w P v S) (hk : Keeps G w w') (hg : ∀ j, G j → ¬ P j) : RsAt w' P v S := by
  obtain ⟨sn, cn, ss, cs, sa, ca, sb, cb, sl, cl, vs, sk, ck, h1, h2, h3, h4, h5, h6, h7, h8, h9⟩ := h.out
  refine ⟨sn, cn, ss, cs, sa, ca, sb, cb, sl, cl, vs, sk, ck, h1, h2.keep' hk (h3.weak (fun j a b => hg j b a)), h3, ?_, rows_keep h5 h8 hk hg, sl_keep h6 h9 hk hg, h7, h8, h9⟩
  exact h4.keep hk (fun ad e h0 _ hG => hg _ hG (h7 ad _ _ (by rw [e]) h0))

theorem openS_ref {D D0 D1 D2 : DS} {now : List UInt8} {N half sz a1 fr hf stn : Nat} {rs : List (List UInt8)} {q0 q1 : Nat × List UInt8} {sat : Int} {sky : List UInt8} (hn : D.now = now) (hN : now.length = N) (hh : N / 2 = half) (hz : (N - half) / 2 = sz) (ha : half + sz = a1) (hhf : half - fr = hf)
    (hr : (rs, fr) = recsOf (now.take half)) (h0 : plOf now half sz = q0) (h1 : plOf now a1 sz = q1) (hs : ((sat, stn, sky) : Int × Nat × List UInt8) = stp 1 q1 (stp 0 q0 (2, 0, [])))
    (e0 : D.zero fr hf = D0) (e1 : (if sat = 0 then D0 else D0.zero half sz) = D1) (e2 : (if sat = 1 then D1 else D1.zero a1 sz) = D2) :
    (openS D).d = D2.sync ∧ (openS D).used = fr ∧ (openS D).recs = rs ∧ (openS D).atR = sat ∧ (openS D).turn = stn ∧ (openS D).keys = sky := by
  subst hn
  have f0 := plOf_facts D.now half sz
  have f1 := plOf_facts D.now a1 sz
  rw [h0] at f0
  rw [h1] at f1
  have hr' : (rs, fr) = recsOf (D.now.take half) := hr
  obtain ⟨u0, l0⟩ := q0
  obtain ⟨u1, l1⟩ := q1
  dsimp only at f0 f1
  have hh' : D.now.length / 2 = half := by rw [hN, hh]
  have hz' : (D.now.length - half) / 2 = sz := by rw [hN, hz]
  simp only [stp] at hs
  by_cases hlt : u0 < u1
  · have e := openS_lt hh' hz' ha hr' h0 h1 hlt
    have hs2 : ((sat, stn, sky) : Int × Nat × List UInt8) = (1, u1, l1) := by
      by_cases hu : 0 < u0
      · simp only [if_pos hu, if_pos hlt] at hs; exact hs
      · simp only [if_neg hu, if_pos (show 0 < u1 by omega)] at hs; exact hs
    simp only [Prod.mk.injEq] at hs2
    obtain ⟨rfl, rfl, rfl⟩ := hs2
    rw [e]
    rw [if_neg (by decide)] at e1
    rw [if_pos rfl] at e2
    subst hhf e0 e1 e2
    refine ⟨rfl, rfl, rfl, ?_, rfl, rfl⟩
    unfold SS.atR
    rw [if_neg (show ¬ stn = 0 by omega)]
    rfl
  · by_cases hu : u0 = 0
    · have e := openS_zero hh' hz' ha hr' h0 h1 hlt hu
      have hs2 : ((sat, stn, sky) : Int × Nat × List UInt8) = (2, 0, []) := by
        have g0 : ¬ 0 < u0 := by omega
        have g1 : ¬ 0 < u1 := by omega
        simp only [if_neg g0, if_neg g1] at hs
        exact hs
      simp only [Prod.mk.injEq] at hs2
      obtain ⟨rfl, rfl, rfl⟩ := hs2
      rw [e]
      rw [if_neg (by decide)] at e1 e2
      subst hhf e0 e1 e2 hu
      refine ⟨rfl, rfl, rfl, ?_, rfl, f0.2.2 rfl⟩
      unfold SS.atR
      rw [if_pos rfl]
    · have e := openS_ge hh' hz' ha hr' h0 h1 hlt hu
      have hs2 : ((sat, stn, sky) : Int × Nat × List UInt8) = (0, u0, l0) := by
        have g0 : 0 < u0 := by omega
        simp only [if_pos g0, if_neg hlt] at hs
        exact hs
      simp only [Prod.mk.injEq] at hs2
      obtain ⟨rfl, rfl, rfl⟩ := hs2
      rw [e]
      rw [if_pos rfl] at e1
      rw [if_neg (by decide)] at e2
      subst hhf e0 e1 e2
      refine ⟨rfl, rfl, rfl, ?_, rfl, rfl⟩
      unfold SS.atR
      rw [if_neg hu]
      rfl
end Go.Proofs.Ytpojkhjenbbodaa
