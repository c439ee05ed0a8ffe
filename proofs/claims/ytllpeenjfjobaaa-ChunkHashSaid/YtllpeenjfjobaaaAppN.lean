/-
  append([]byte{}, x...): a row of its own. Conditions: sizes that fit.
-/
import Derived.Test.YtllpeenjfjobaaaCopyB
namespace Go.Proofs.Ytllpeenjfjobaaa
open Go.RowKit

theorem wpList_newB {w : World} {ops : Array Oper} {rest : List Oper} {o : Oper} {a : Act} {Q : Exit → Act → World → Prop} (hgd : o.guard = none) (s x : Operand)
    (ho : o.op = .call { callee := .builtin .append, args := #[s, x], argTypes := #[22, 22] }) (hs : a.eval s = .slice (some ⟨w.heap.size, 0, none⟩) 0 0)
    (sb : Option Addr) (m cb : Nat) (l : List UInt8) (hx : a.eval x = .slice sb m cb) (hl : Sl w sb m cb (BV l)) (hn : m ≤ 4000000000)
    (h : ∀ sa' cap' w', w'.ownsRow w.heap.size 5 1 (.slice sa' m cap') m (BV l) → Keeps (fun _ => False) w w' → wpList Try.prog ops Q rest (a.put o.dst (.slice sa' m cap')) w') :
    wpList Try.prog ops Q (o :: rest) a (w.alloc (.cells #[] 5)) := by
  refine wpList_appB hgd s x ho w.heap.size (some ⟨w.heap.size, 0, none⟩) 0 0 [] hs (World.ownsRow_made (cap := 0) w #[] (Nat.le_refl _) (by decide) rfl) sb m cb l hx (hl.quiet ((Keeps.refl _ w).alloc _)) (by omega) (by simp) ?_
  intro sa' cap' w' hown hk
  rw [Nat.zero_add, List.nil_append] at hown
  rw [Nat.zero_add]
  refine h sa' cap' w' hown (((Keeps.refl _ w).alloc _).trans hk (fun k hk e => ?_))
  simp only [Option.some.injEq, Addr.mk.injEq, and_true] at e
  omega
end Go.Proofs.Ytllpeenjfjobaaa
