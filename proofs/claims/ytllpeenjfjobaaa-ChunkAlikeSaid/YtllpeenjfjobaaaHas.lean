/-
  Rows of ints: one put behind; is a number one of some (the reference's Has)? Conditions: sizes that fit.
-/
import Derived.Test.YtllpeenjfjobaaaPush
import Derived.Test.YtllpeenjfjobaaaOpen
namespace Go.Proofs.Ytllpeenjfjobaaa
open Go.RowKit

theorem infoInt : (Try.prog.info? 3).map (fun i => (i.zero, i.size, i.bytes)) = some (some (.int .i64 0), 1, 8) := by kernel_rfl
theorem wpList_pushI {ops : Array Oper} {rest : List Oper} {o : Oper} {a : Act} {Q : Exit → Act → World → Prop} (w0 : World) (v : Int) (hgd : o.guard = none) (s x : Operand)
    (ho : o.op = .call { callee := .builtin .append, args := #[s, x], argTypes := #[23, 23] }) (base : Nat)
    (sa : Option Addr) (n c : Nat) (xs : List Value) (hs : a.eval s = .slice sa n c) (hown : w0.ownsRow base 3 1 (.slice sa n c) n xs)
    (hx : a.eval x = .slice (some ⟨w0.heap.size, 0, none⟩) 1 1) (hn : n ≤ 4000000000) (hbase : base ≤ w0.heap.size)
    (h : ∀ sa' cap' w', w'.ownsRow base 3 1 (.slice sa' (n + 1) cap') (n + 1) (xs ++ [.int .i64 v]) → Keeps (fun k => sa = some ⟨k, 0, none⟩) w0 w' → w0.heap.size < w'.heap.size → wpList Try.prog ops Q rest (a.put o.dst (.slice sa' (n + 1) cap')) w') :
    wpList Try.prog ops Q (o :: rest) a (w0.alloc (.cells #[.int .i64 v] 3)) := by
  obtain ⟨i0, hi, hz0, hz1, hz2⟩ := info_parts infoInt
  exact wpList_push w0 _ hgd s x 23 ho base 3 i0 (.int .i64 0) 8 Try.underlying23 hi hz0 hz1 hz2 rfl sa n c xs hs hown hx rfl (by unfold maxLen; omega) (by omega) hbase h

/-- Is a number one of some? -/
def hasB (l : List Int) (n : Int) : Bool := l.any (· == n)
theorem hasB_snoc (l : List Int) (k : Nat) (n z : Int) (h : l[k]? = some z) : hasB (l.take (k + 1)) n = (hasB (l.take k) n || z == n) := by
  have hk := (List.getElem?_eq_some_iff.1 h).1
  rw [List.take_succ_eq_append_getElem hk, (List.getElem?_eq_some_iff.1 h).2]
  simp [hasB]
def HasRel (l : List Int) (n : Int) (m : Nat) (i : Value) : Prop := ∃ k : Nat, k ≤ m ∧ i = .int .i64 k ∧ hasB (l.take k) n = false

set_option maxHeartbeats 400000 in
theorem has_any (sa : Option Addr) (len cap : Nat) (l : List Int) (n : Int) (w : World) (hsl : Sl w sa len cap (IV l)) :
    Calls Try.prog 20 #[.slice sa len cap, .int .i64 n] w fun e w' => e = .returned (.bool (hasB l n)) ∧ w = w' := by
  have hlb := Nat.le_trans hsl.le hsl.capB
  have HL := Lib.hid (And.intro hsl (show l.length = len by have := hsl.len; simpa using this))
  clear hsl
  go_enter Try.func20, Try.ntmps20
  go_wp2
  go_loop [5] (fun i => HasRel l n len i) (fun i => len - (intOf i).toNat)
  case atStart => exact ⟨0, Nat.zero_le _, rfl, by simp [hasB]⟩
  case round =>
    obtain ⟨k, hk, rfl, hrel⟩ := hrel
    have HR := Lib.hid hrel
    clear hrel
    by_cases hlt : k < len
    · obtain ⟨b, off, rfl⟩ := HL.out.1.isSome (by omega)
      obtain ⟨z, hz⟩ : ∃ z, l[k]? = some z := ⟨_, List.getElem?_eq_getElem (by have := HL.out.2; omega)⟩
      have hc : w.cell? ⟨b, off + k, none⟩ = some (.int .i64 z) := HL.out.1.cell (by rw [IV_get, hz]; rfl)
      have HS := Lib.hid (hasB_snoc l k n z hz)
      have HZ := Lib.hid hz
      clear hz
      by_cases hzn : z = n
      · have hb : (z == n) = true := by simp [hzn]
        have hr : hasB l n = true := by
          have : z ∈ l := List.mem_of_getElem? HZ.out
          simp only [hasB, List.any_eq_true]
          exact ⟨z, this, hb⟩
        have H2 := Lib.hid hr
        clear hr hzn
        go_wp2
        go_ret
        exact ⟨by rw [H2.out]; rfl, rfl⟩
      · have hb : (z == n) = false := by simp [hzn]
        have H2 : Hid (hasB (l.take (k + 1)) n = false) := by show _ = _; rw [HS.out, HR.out, hb]; rfl
        clear hzn
        go_wp2
        go_round
        case rel => exact ⟨k + 1, by omega, by go_num, H2.out⟩
        case measure => simp [intOf]; omega
    · have hr : hasB l n = false := by
        have := HR.out
        rw [List.take_of_length_le (by rw [HL.out.2]; omega)] at this
        exact this
      have H2 := Lib.hid hr
      clear hr
      go_wp2
      go_ret
      exact ⟨by rw [H2.out]; rfl, rfl⟩
end Go.Proofs.Ytllpeenjfjobaaa
