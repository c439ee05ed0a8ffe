/-
  append of so many noughts (append(s, make([]byte, k)...)) onto a row of one's own. Conditions: sizes that fit.
-/
import Derived.Test.YtpojkhjenbbodaaJTools
import Derived.Test.YtpojkhjenbbodaaJGood
import Derived.Lib.AppendZerosOnto
import Derived.Laws.CopyRow
namespace Go.Proofs.Ytpojkhjenbbodaa
open Go.RowKit

theorem zeroCells_byte (k : Nat) : Builtin.zeroCells (Value.int .u8 0).cells k = (BV (List.replicate k 0)).toArray := by
  apply Array.ext_getElem?
  intro j
  have h1 : (Value.int .u8 0).cells = #[.int .u8 0] := rfl
  rw [h1]
  unfold Builtin.zeroCells
  simp only [Array.getElem?_map, List.size_toArray, List.length_cons, List.length_nil, Nat.zero_add, Nat.mul_one, Nat.mod_one, List.getElem?_toArray]
  rw [BV_get, List.getElem?_replicate]
  by_cases hj : j < k
  · rw [if_pos hj, Array.getElem?_eq_getElem (by simpa using hj)]
    simp
  · rw [if_neg hj, Array.getElem?_eq_none (by simp; omega)]
    rfl
theorem keeps_setRow (w : World) (g : Nat) (cs : Array Value) : Keeps (fun j => j = g) w (w.setRow g cs) := by
  refine ⟨rfl, rfl, rfl, by simp [World.setRow], fun k _ hk => ?_⟩
  simp only [World.setRow, Array.getElem?_modify]
  rw [if_neg (fun e => hk e.symm)]

theorem run_zerosB (w : World) (base : Nat) (ty : TypeId) (sa : Option Addr) (n c : Nat) (l : List UInt8) (hown : w.ownsRow base 5 1 (.slice sa n c) n (BV l)) (k : Nat) (hk : k ≤ 100000) (hn : n ≤ 100000) (hbase : base ≤ w.heap.size) :
    ∃ sa' cap' w', (Builtin.append_ #[23, 3] ty #[.slice sa n c, .int .i64 (k : Int)]).run Try.prog w = .ok (.slice sa' (n + k) cap') w' ∧
      w'.ownsRow base 5 1 (.slice sa' (n + k) cap') (n + k) (BV (l ++ List.replicate k 0)) ∧ Keeps (fun j => sa = some ⟨j, 0, none⟩) w w' := by
  obtain ⟨i0, hi, hz0, hz1, hz2⟩ := info_parts infoByte
  have hll : l.length = n := by have := hown.1; simpa using this
  have hw : IntKind.i64.wrap (k : Int) = k := by rw [IntKind.wrap_i64]; omega
  have hneg : ¬ ((k : Int) < 0) := by omega
  have h48i : ¬ (281474976710656 < (k : Int) * (i0.bytes : Int)) := by rw [hz2]; omega
  by_cases hfit : n + k ≤ c
  · by_cases hk0 : k = 0
    · subst hk0
      have hw0 : IntKind.i64.wrap 0 = 0 := rfl
      refine ⟨sa, c, w, ?_, by simpa using hown, Keeps.refl _ _⟩
      cases sa <;> simp [hw0, Builtin.append_, run_underlying Try.underlying23, run_underlying Try.underlying3, sizeOf, typeInfo, hi, asInt, asIntOf, storeCells, show n ≤ c by omega]
    · rcases hown.2 with ⟨e, e2⟩ | ⟨g, cap, cur, e, hb, hg, hnc, hcm, hsz, htk⟩
      · simp only [Value.slice.injEq] at e
        omega
      · simp only [Value.slice.injEq] at e
        obtain ⟨rfl, _, rfl⟩ := e
        rw [Nat.mul_one] at hsz htk
        have hst := run_storeCells_at Try.prog g n 5 (BV (List.replicate k 0)) 0 cur w hg (by simp; omega) (BV_one _)
        rw [Nat.add_zero, BV_length, List.length_replicate] at hst
        refine ⟨some ⟨g, 0, none⟩, c, w.setRow g (cur.toList.take n ++ BV (List.replicate k 0) ++ cur.toList.drop (n + k)).toArray, ?_, ?_, (keeps_setRow w g _).mono (fun j _ e => by rw [e])⟩
        · have hadd : (⟨g, 0, none⟩ : Addr).add n = ⟨g, n, none⟩ := by rw [addr_add, Nat.zero_add]
          simp [Builtin.append_, run_underlying Try.underlying23, run_underlying Try.underlying3, sizeOf, typeInfo, zeroValue, hi, hz0, hz1, asInt, asIntOf, hw, hneg, h48i, hfit, hk0, hadd, zeroCells_byte, hst]
        · refine ⟨by simp [hll], Or.inr ⟨g, c, _, rfl, hb, setRow_heap w g cur _ _ _ hg, hfit, hcm, ?_, ?_⟩⟩
          · simp; omega
          · rw [Nat.mul_one, htk, BV_append]
            simp only [List.append_assoc]
            rw [← List.append_assoc, List.take_append_of_le_length (by simp [hll]), List.take_of_length_le (by simp [hll])]
  · have hk0 : 0 < k := by
      have := (Sl.of_own hown).le
      omega
    have hold : (Builtin.firstCells i0.size n (.slice sa n c)).run Try.prog w.drew = .ok (BV l).toArray w.drew := by
      cases sa with
      | none =>
        have h0 := (Sl.of_own hown).nil rfl
        obtain ⟨rfl, _⟩ := h0
        obtain rfl : l = [] := List.eq_nil_of_length_eq_zero hll
        exact run_firstCells_none w.drew i0.size 0 0 c
      | some ad =>
        rw [hz1]
        exact run_firstCells_some (P := Try.prog) w.drew 1 n ad n c (BV l) (by simp [hll]) (fun j v hv => (Sl.of_own hown).lies ad rfl j v hv)
    have h := Lib.run_append_grow_zeros (P := Try.prog) w 23 3 ty 5 i0 (.int .u8 0) .i64 .i64 Try.underlying23 Try.underlying3 hi hz0 sa n c (BV l) hold k hk0 (by omega) (by omega) (by omega) (by rw [hz2]; omega) (growslice_fits (by omega) (by rw [hz2]; omega))
    have hGn : n + k ≤ grownCap w (n + k) c 5 := grownCap_ge w _ _ _
    have hGm := grownCap_le_maxLen w (n + k) c 5 (by unfold maxLen; omega)
    refine ⟨_, _, _, h, ⟨by simp [hll], Or.inr ⟨w.heap.size, _, _, rfl, hbase, World.alloc_heap_new w.drew _, hGn, hGm, ?_, ?_⟩⟩, (Keeps.refl _ w).drew.alloc _⟩
    · rw [zeroCells_byte, zeroCells_byte]
      simp [hll]
      omega
    · rw [zeroCells_byte, zeroCells_byte, Nat.mul_one, BV_append]
      simp only [Array.toList_append]
      rw [List.take_append_of_le_length (by simp [hll]), List.take_of_length_le (by simp [hll])]
theorem wpList_zerosB {w : World} {ops : Array Oper} {rest : List Oper} {o : Oper} {a : Act} {Q : Exit → Act → World → Prop} (hgd : o.guard = none) (s x : Operand)
    (ho : o.op = .call { callee := .builtin .append, args := #[s, x], argTypes := #[23, 3] }) (base : Nat)
    (sa : Option Addr) (n c : Nat) (l : List UInt8) (hs : a.eval s = .slice sa n c) (hown : w.ownsRow base 5 1 (.slice sa n c) n (BV l)) (k : Nat) (hx : a.eval x = .int .i64 (k : Int)) (hk : k ≤ 100000) (hn : n ≤ 100000) (hbase : base ≤ w.heap.size)
    (h : ∀ sa' cap' w', w'.ownsRow base 5 1 (.slice sa' (n + k) cap') (n + k) (BV (l ++ List.replicate k 0)) → Keeps (fun j => sa = some ⟨j, 0, none⟩) w w' → wpList Try.prog ops Q rest (a.put o.dst (.slice sa' (n + k) cap')) w') : wpList Try.prog ops Q (o :: rest) a w := by
  obtain ⟨sa', cap', w', hr, h2, h3⟩ := run_zerosB w base o.type sa n c l hown k hk hn hbase
  exact Lib.wpList_append_run _ hgd s x _ _ ho _ _ hs hx _ _ hr (h sa' cap' w' h2 h3)
end Go.Proofs.Ytpojkhjenbbodaa
