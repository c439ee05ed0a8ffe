/-
  The law BoxReads holds for every input: it returns true, and its arguments read as before. No conditions.
  The frame is the kit's shell, written by program; the walk is in the texts that it imports.
-/
import Derived.Test.YtaennfafbohegaaRows
import Derived.Test.YtaennfafbohegaaBoxReadsW
import Derived.WalkKit
import Derived.ChangeOld
import Derived.Below
import Derived.Lib.SmallJoins
import Derived.ProofKit
import Derived.OpenShut
import Derived.ShutString
namespace Go.Proofs.Ytaennfafbohegaa.boxReads
open Go.ChangeShapes Go.WideShapes Go.ChangeAt Go.RowKit
open Go.ChangeMaps (open_string shut_string)
set_option linter.unusedVariables false    
theorem own : ownKnob Try.prog.godebug = none := by kernel_rfl

theorem walk (a0 : Int) (a1 a1b a1c a1d : Int) (a2 : Int) (a3 : Int) (a4 : Int) (w0 : (Lit.int .u64 a0).wf = true) (w1 : (Lit.int .u64 a1).wf = true) (w1b : (Lit.int .u64 a1b).wf = true) (w1c : (Lit.int .u64 a1c).wf = true) (w1d : (Lit.int .u64 a1d).wf = true) (w2 : (Lit.int .u64 a2).wf = true) (w3 : (Lit.int .u64 a3).wf = true) (w4 : (Lit.int .i64 a4).wf = true) (w : World) :
    Calls Try.prog 4 #[.int .u64 a0, .agg #[.int .u64 a1, .int .u64 a1b, .int .u64 a1c, .int .u64 a1d], .int .u64 a2, .int .u64 a3, .int .i64 a4] w fun e w' => e = .returned (.bool true) ∧ Below w.heap.size w w' := by
  obtain ⟨n0, rfl, u0⟩ := nat_u64 w0
  obtain ⟨m0, rfl, v0⟩ := nat_u64 w1
  obtain ⟨m1, rfl, v1⟩ := nat_u64 w1b
  obtain ⟨m2, rfl, v2⟩ := nat_u64 w1c
  obtain ⟨m3, rfl, v3⟩ := nat_u64 w1d
  obtain ⟨n2, rfl, u2⟩ := nat_u64 w2
  obtain ⟨n3, rfl, u3⟩ := nat_u64 w3
  exact (boxReads_walk n0 m0 m1 m2 m3 n2 n3 a4 w (wf_i64 w4).1 (wf_i64 w4).2).mono fun e w' ⟨h1, h2⟩ => ⟨h1, h2.below (Nat.le_refl _) (fun _ h => h.elim)⟩

set_option maxRecDepth 100000 in
theorem lifted (os : Os) (started : os.Started) (H : Type) (enc : TypeId × Value → H) :
    ReturnsInHanded {} Try.checked os 4 .any (Rows.boxReadsSpec.pre6 enc Try.prog Try.f4 Rows.boxReadsRow.domain false) (Rows.boxReadsSpec.post enc Try.prog Try.f4 false true false false) := by
  refine returnsInHanded_of_change (C := Try.checked) own started (by kernel_rfl) Try.func4
    (ChangeSpec.witness6 (enc := enc) (C := Try.checked) false ⟨#[], #[.int .u64 0, .agg #[.int .u64 0, .int .u64 0, .int .u64 0, .int .u64 0], .int .u64 0, .int .u64 0, .int .i64 0], []⟩ 8 (by kernel_rfl) (by kernel_rfl) (by kernel_rfl) (by kernel_rfl)) ?_
  intro W base args ds gs before hval0 hW hcnd _
  have hval : ∀ (j : Nat) t v, Try.f4.params[j]? = some t → args[j]? = some v → Value.okWide Try.prog W .any base t v := hval0
  have hW' := hW
  obtain ⟨p, q, hA0, hV, rfl, hfz, hnd⟩ := hW
  have hA : DataW.TrodAll enc Try.prog W 0 (fun _ => true) true Try.f4.params.toList args.toList ds p := hA0
  rw [Try.params4] at hA hval
  obtain ⟨v0, vs0, d0, ds0, p0, q0, hargs, rfl, rfl, h0, r0⟩ := trodAll_cons hA
  obtain ⟨v1, vs1, d1, ds1, p1, q1, rfl, rfl, rfl, h1, r1⟩ := trodAll_cons r0
  obtain ⟨v2, vs2, d2, ds2, p2, q2, rfl, rfl, rfl, h2, r2⟩ := trodAll_cons r1
  obtain ⟨v3, vs3, d3, ds3, p3, q3, rfl, rfl, rfl, h3, r3⟩ := trodAll_cons r2
  obtain ⟨v4, vs4, d4, ds4, p4, q4, rfl, rfl, rfl, h4, r4⟩ := trodAll_cons r3
  obtain ⟨rfl, rfl, rfl⟩ := trodAll_nil r4
  obtain rfl : args = #[v0, v1, v2, v3, v4] := by cases args; simp_all
  obtain ⟨rfl, rfl⟩ := trodVars_none hV
  obtain ⟨a0, rfl, rfl, rfl, w0⟩ := open_int Try.underlying22 (hval 0 22 v0 rfl rfl) h0
  obtain ⟨c0, c1, c2, c3, y0, y1, y2, y3, m, rfl, rfl, rfl, hy0, hy1, hy2, hy3⟩ := Joins.open_agg4 Try.underlying25 (by kernel_rfl) (by kernel_rfl) (hval 1 25 v1 rfl rfl) h1
  obtain ⟨a1, e0, rfl, w1⟩ := DataW.trod_int Try.underlying22 hy0
  obtain ⟨a1b, e1, rfl, w1b⟩ := DataW.trod_int Try.underlying22 hy1
  obtain ⟨a1c, e2, rfl, w1c⟩ := DataW.trod_int Try.underlying22 hy2
  obtain ⟨a1d, e3, rfl, w1d⟩ := DataW.trod_int Try.underlying22 hy3
  simp at e0 e1 e2 e3
  subst e0 e1 e2 e3
  obtain ⟨a2, rfl, rfl, rfl, w2⟩ := open_int Try.underlying22 (hval 2 22 v2 rfl rfl) h2
  obtain ⟨a3, rfl, rfl, rfl, w3⟩ := open_int Try.underlying22 (hval 3 22 v3 rfl rfl) h3
  obtain ⟨a4, rfl, rfl, rfl, w4⟩ := open_int Try.underlying3 (hval 4 3 v4 rfl rfl) h4
  clear hA0 hval0
  refine (walk a0 a1 a1b a1c a1d a2 a3 a4 w0 w1 w1b w1c w1d w2 w3 w4 W).mono fun e W' ⟨he, bel⟩ => ?_
  subst he
  exact ⟨_, rfl, _, _, _, [], _, [], hW', trodAll_mk1 (shut_bool Try.underlying4 _), (trodAll_cons_mk (shut_int Try.underlying22 w0) (trodAll_cons_mk (Joins.shut_agg4 (y0 := (.lit (.int .u64 a1), [])) (y1 := (.lit (.int .u64 a1b), [])) (y2 := (.lit (.int .u64 a1c), [])) (y3 := (.lit (.int .u64 a1d), [])) Try.underlying25 (by kernel_rfl) (by kernel_rfl) ⟨1, Go.ChangeShapes.trod_int_mk 0 Try.underlying22 w1⟩ ⟨1, Go.ChangeShapes.trod_int_mk 0 Try.underlying22 w1b⟩ ⟨1, Go.ChangeShapes.trod_int_mk 0 Try.underlying22 w1c⟩ ⟨1, Go.ChangeShapes.trod_int_mk 0 Try.underlying22 w1d⟩) (trodAll_cons_mk (shut_int Try.underlying22 w2) (trodAll_cons_mk (shut_int Try.underlying22 w3) (trodAll_cons_mk (shut_int Try.underlying3 w4) trodAll_mk0))))), rfl, bel.frame _, fun h => by cases h⟩

theorem over : Rows.boxReadsRow.holds Try.pinned (OpenSpec.ofChange Rows.boxReadsSpec) :=
  OpenClaim.holds_of_wide 4 Try.f4 rfl rfl rfl rfl rfl rfl rfl ⟨rfl, rfl, rfl, rfl, rfl⟩ rfl rfl rfl rfl rfl (by kernel_rfl) Try.func4 (by kernel_rfl)
    (of_decide_eq_true (by kernel_rfl)) (by unfold Func.isWrapper; first | (rw [if_pos (by decide +kernel)]; kernel_rfl) | (rw [if_neg (by decide +kernel)]; exact ⟨rfl, rfl⟩))
    (fun os started H enc _ => lifted os started H enc)

theorem proved : Rows.BoxReadsSaid :=
  over
#print axioms proved
end Go.Proofs.Ytaennfafbohegaa.boxReads
