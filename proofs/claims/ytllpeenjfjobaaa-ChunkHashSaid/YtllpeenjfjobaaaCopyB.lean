/-
  A row of bytes made anew of a slice (append to nil), and a slice put behind a row that is owned. Conditions: sizes that fit.
-/
import Derived.Test.YtllpeenjfjobaaaPush
import Derived.Test.YtllpeenjfjobaaaLaws
namespace Go.Proofs.Ytllpeenjfjobaaa
open Go.RowKit

theorem wpList_appB {w : World} {ops : Array Oper} {rest : List Oper} {o : Oper} {a : Act} {Q : Exit → Act → World → Prop} (hgd : o.guard = none) (s x : Operand)
    (ho : o.op = .call { callee := .builtin .append, args := #[s, x], argTypes := #[22, 22] }) (base : Nat)
    (sa : Option Addr) (n c : Nat) (xs : List Value) (hs : a.eval s = .slice sa n c) (hown : w.ownsRow base 5 1 (.slice sa n c) n xs)
    (sb : Option Addr) (m cb : Nat) (l : List UInt8) (hx : a.eval x = .slice sb m cb) (hl : Sl w sb m cb (BV l)) (hn : n + m ≤ 4000000000) (hbase : base ≤ w.heap.size)
    (h : ∀ sa' cap' w', w'.ownsRow base 5 1 (.slice sa' (n + m) cap') (n + m) (xs ++ BV l) → Keeps (fun k => sa = some ⟨k, 0, none⟩) w w' → wpList Try.prog ops Q rest (a.put o.dst (.slice sa' (n + m) cap')) w') :
    wpList Try.prog ops Q (o :: rest) a w := by
  obtain ⟨i0, hi, hz0, hz1, hz2⟩ := info_parts infoByte
  have hll : l.length = m := by have := hl.len; simpa using this
  refine wpList_app _ hgd s x 22 ho base 5 i0 (.int .u8 0) 1 1 Try.underlying22 hi hz0 hz1 hz2 rfl (by decide) (.slice sa n c) n xs hs hown sb m cb (BV l) hx (by simp [hll]) (fun e => by have := hl.nil e; omega) hl.lies (BV_one _) (by unfold maxLen; omega) (by omega) hbase ?_
  intro sa' cap' w' hown' hg _ _
  refine h sa' cap' w' hown' ((Keeps.refl _ w).grown hg (fun k e _ => ?_))
  rcases own_addr hown with ⟨rfl, _⟩ | ⟨g, rfl⟩
  · simp [Value.ownBlock] at e
  · simp [Value.ownBlock] at e; rw [e]

theorem wpList_copyB {w : World} {ops : Array Oper} {rest : List Oper} {o : Oper} {a : Act} {Q : Exit → Act → World → Prop} (hgd : o.guard = none) (s x : Operand)
    (ho : o.op = .call { callee := .builtin .append, args := #[s, x], argTypes := #[22, 22] }) (hs : a.eval s = .slice none 0 0)
    (sb : Option Addr) (m cb : Nat) (l : List UInt8) (hx : a.eval x = .slice sb m cb) (hl : Sl w sb m cb (BV l)) (hn : m ≤ 4000000000)
    (h : ∀ sa' cap' w', w'.ownsRow w.heap.size 5 1 (.slice sa' m cap') m (BV l) → Keeps (fun _ => False) w w' → wpList Try.prog ops Q rest (a.put o.dst (.slice sa' m cap')) w') :
    wpList Try.prog ops Q (o :: rest) a w := by
  refine wpList_appB hgd s x ho w.heap.size none 0 0 [] hs (World.ownsRow_nil w _ _ _) sb m cb l hx hl (by omega) (Nat.le_refl _) ?_
  intro sa' cap' w' hown hk
  rw [Nat.zero_add, List.nil_append] at hown
  rw [Nat.zero_add]
  exact h sa' cap' w' hown ((Keeps.refl _ w).trans hk (fun _ _ e => by cases e))
end Go.Proofs.Ytllpeenjfjobaaa
