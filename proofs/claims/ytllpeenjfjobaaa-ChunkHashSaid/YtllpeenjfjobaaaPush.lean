/-
  One byte, or one number, put behind a row that is owned (append of one element). Conditions: sizes that fit.
-/
import Derived.Test.YtllpeenjfjobaaaMem
import Derived.Test.YtllpeenjfjobaaaProg
namespace Go.Proofs.Ytllpeenjfjobaaa
open Go.RowKit

section
variable {P : Program}

theorem news_one (w0 : World) (v : Value) (e : TypeId) (fr : Nat × Nat) : ∀ ad, some (⟨w0.heap.size, 0, none⟩ : Addr) = some ad → ∀ (j : Nat) (u : Value), [v][j]? = some u → (w0.alloc (.cells #[v] e fr)).cell? (ad.add j) = some u := by
  intro ad had
  obtain rfl := Option.some.inj had
  exact World.news_of_block (cs := #[v]) (t := e) (fr := fr) (heap_alloc_new w0 _)

theorem keeps_app {w0 w' : World} {o : Obj} {sa : Option Addr} {n c m base : Nat} {e : TypeId} {size : Nat} {xs : List Value} (hown : w0.ownsRow base e size (.slice sa n c) m xs) (hg : (w0.alloc o).grownBy w' (Value.ownBlock (.slice sa n c))) : Keeps (fun k => sa = some ⟨k, 0, none⟩) w0 w' := by
  refine ((Keeps.refl _ w0).alloc o).grown hg (fun k e _ => ?_)
  rcases own_addr hown with ⟨rfl, _⟩ | ⟨g, rfl⟩
  · simp [Value.ownBlock] at e
  · simp [Value.ownBlock] at e; rw [e]

theorem wpList_push {ops : Array Oper} {rest : List Oper} {o : Oper} {a : Act} {Q : Exit → Act → World → Prop} (w0 : World) (v : Value) (hgd : o.guard = none) (s x : Operand) (t : TypeId)
    (ho : o.op = .call { callee := .builtin .append, args := #[s, x], argTypes := #[t, t] })
    (base : Nat) (e : TypeId) (i : TypeInfo) (z : Value) (bytes : Nat) (ht : P.underlying t = some (.slice e)) (hi : P.info? e = some i) (hz : i.zero = some z)
    (hsize : i.size = 1) (hby : i.bytes = bytes) (hzs : z.cells.size = 1)
    (sa : Option Addr) (n c : Nat) (xs : List Value) (hs : a.eval s = .slice sa n c) (hown : w0.ownsRow base e 1 (.slice sa n c) n xs)
    (hx : a.eval x = .slice (some ⟨w0.heap.size, 0, none⟩) 1 1) (h1 : v.oneCell' = true)
    (h63 : n + 1 ≤ maxLen) (hbytes : (n + 1) * bytes ≤ 140737488355328) (hbase : base ≤ w0.heap.size)
    (h : ∀ sa' cap' w', w'.ownsRow base e 1 (.slice sa' (n + 1) cap') (n + 1) (xs ++ [v]) → Keeps (fun k => sa = some ⟨k, 0, none⟩) w0 w' → w0.heap.size < w'.heap.size → wpList P ops Q rest (a.put o.dst (.slice sa' (n + 1) cap')) w') :
    wpList P ops Q (o :: rest) a (w0.alloc (.cells #[v] e)) := by
  refine wpList_app _ hgd s x t ho base e i z 1 bytes ht hi hz hsize hby hzs (by decide) (.slice sa n c) n xs hs (hown.alloc _) (some ⟨w0.heap.size, 0, none⟩) 1 1 [v] hx rfl (fun h => by cases h) (news_one w0 v e (0, 0)) (by simpa using h1) h63 hbytes (by simp; omega) ?_
  intro sa' cap' w' hown' hg _ _
  refine h sa' cap' w' hown' (keeps_app hown hg) ?_
  have := hg.size
  simp at this
  omega
end

theorem infoByte : (Try.prog.info? 5).map (fun i => (i.zero, i.size, i.bytes)) = some (some (.int .u8 0), 1, 1) := by kernel_rfl
theorem infoU64 : (Try.prog.info? 38).map (fun i => (i.zero, i.size, i.bytes)) = some (some (.int .u64 0), 1, 8) := by kernel_rfl

theorem wpList_pushB {ops : Array Oper} {rest : List Oper} {o : Oper} {a : Act} {Q : Exit → Act → World → Prop} (w0 : World) (v : Int) (hgd : o.guard = none) (s x : Operand)
    (ho : o.op = .call { callee := .builtin .append, args := #[s, x], argTypes := #[22, 22] }) (base : Nat)
    (sa : Option Addr) (n c : Nat) (xs : List Value) (hs : a.eval s = .slice sa n c) (hown : w0.ownsRow base 5 1 (.slice sa n c) n xs)
    (hx : a.eval x = .slice (some ⟨w0.heap.size, 0, none⟩) 1 1) (hn : n ≤ 4000000000) (hbase : base ≤ w0.heap.size)
    (h : ∀ sa' cap' w', w'.ownsRow base 5 1 (.slice sa' (n + 1) cap') (n + 1) (xs ++ [.int .u8 v]) → Keeps (fun k => sa = some ⟨k, 0, none⟩) w0 w' → w0.heap.size < w'.heap.size → wpList Try.prog ops Q rest (a.put o.dst (.slice sa' (n + 1) cap')) w') :
    wpList Try.prog ops Q (o :: rest) a (w0.alloc (.cells #[.int .u8 v] 5)) := by
  obtain ⟨i0, hi, hz0, hz1, hz2⟩ := info_parts infoByte
  exact wpList_push w0 _ hgd s x 22 ho base 5 i0 (.int .u8 0) 1 Try.underlying22 hi hz0 hz1 hz2 rfl sa n c xs hs hown hx rfl (by unfold maxLen; omega) (by omega) hbase h

theorem wpList_pushN {ops : Array Oper} {rest : List Oper} {o : Oper} {a : Act} {Q : Exit → Act → World → Prop} (w0 : World) (v : Int) (hgd : o.guard = none) (s x : Operand)
    (ho : o.op = .call { callee := .builtin .append, args := #[s, x], argTypes := #[49, 49] }) (base : Nat)
    (sa : Option Addr) (n c : Nat) (xs : List Value) (hs : a.eval s = .slice sa n c) (hown : w0.ownsRow base 38 1 (.slice sa n c) n xs)
    (hx : a.eval x = .slice (some ⟨w0.heap.size, 0, none⟩) 1 1) (hn : n ≤ 4000000000) (hbase : base ≤ w0.heap.size)
    (h : ∀ sa' cap' w', w'.ownsRow base 38 1 (.slice sa' (n + 1) cap') (n + 1) (xs ++ [.int .u64 v]) → Keeps (fun k => sa = some ⟨k, 0, none⟩) w0 w' → w0.heap.size < w'.heap.size → wpList Try.prog ops Q rest (a.put o.dst (.slice sa' (n + 1) cap')) w') :
    wpList Try.prog ops Q (o :: rest) a (w0.alloc (.cells #[.int .u64 v] 38)) := by
  obtain ⟨i0, hi, hz0, hz1, hz2⟩ := info_parts infoU64
  exact wpList_push w0 _ hgd s x 49 ho base 38 i0 (.int .u64 0) 8 Try.underlying49 hi hz0 hz1 hz2 rfl sa n c xs hs hown hx rfl (by unfold maxLen; omega) (by omega) hbase h

/-- A row that grew: nothing older than its base has turned. -/
theorem Keeps.pushed {w w0 w' : World} {base n c m : Nat} {e : TypeId} {size : Nat} {sa : Option Addr} {xs : List Value} (hk : Keeps (fun _ => False) w w0) (hown : w0.ownsRow base e size (.slice sa n c) m xs) (hb : w.heap.size ≤ base) (h : Keeps (fun k => sa = some ⟨k, 0, none⟩) w0 w') : Keeps (fun _ => False) w w' :=
  hk.trans h (fun k hk e => by have := (own_lt hown e).1; omega)
end Go.Proofs.Ytllpeenjfjobaaa
