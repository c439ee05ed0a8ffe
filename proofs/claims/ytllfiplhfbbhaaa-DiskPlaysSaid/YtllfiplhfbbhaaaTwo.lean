/-
  One disk, or two that lie apart, through a row of calls; rows of bytes that lie apart from them; what the law's arguments are. Nothing is walked here.
-/
import Derived.Test.YtllfiplhfbbhaaaLives28
import Derived.OpenShut
namespace Go.Proofs.Ytllfiplhfbbhaaa
open Go.RowKit

/-- The new blocks of a disk are its old ones, or new. -/
def Sub (w : World) (F F' : Nat → Prop) : Prop := ∀ k, F' k → F k ∨ w.heap.size ≤ k

/-- One disk, made since w0; nothing that was there has turned. -/
structure One (w0 w : World) (p : Nat) (D : DS) (F : Nat → Prop) : Prop where
  disk : Disk w p D F
  keep : Keeps (fun _ => False) w0 w
  own : ∀ k, F k → w0.heap.size ≤ k

theorem One.step {w0 w w' : World} {p q : Nat} {D D' : DS} {F F' : Nat → Prop} (h : One w0 w p D F) (hd : Disk w' q D' F') (hk : Keeps F w w') (hs : Sub w F F') : One w0 w' q D' F' :=
  ⟨hd, h.keep.trans hk (fun k hlt hf => by have := h.own k hf; omega), fun k hk' => by
    rcases hs k hk' with h1 | h1
    · exact h.own k h1
    · exact Nat.le_trans h.keep.size h1⟩
theorem One.quiet {w0 w w' : World} {p : Nat} {D : DS} {F : Nat → Prop} (h : One w0 w p D F) (hk : Keeps (fun _ => False) w w') : One w0 w' p D F :=
  ⟨h.disk.keep hk (fun _ _ h => h), h.keep.trans hk (fun _ _ h => h), h.own⟩
theorem One.below {w0 w : World} {p : Nat} {D : DS} {F : Nat → Prop} (h : One w0 w p D F) : Below w0.heap.size w0 w := h.keep.below (Nat.le_refl _) (fun _ h => h.elim)

/-- Two disks that lie apart. -/
structure Two (w0 w : World) (x : Nat) (D : DS) (F : Nat → Prop) (y : Nat) (E : DS) (G : Nat → Prop) : Prop where
  l : One w0 w x D F
  r : One w0 w y E G
  ap : ∀ k, F k → ¬ G k

theorem Two.mk' {w0 w w' : World} {x y : Nat} {D E : DS} {F G : Nat → Prop} (h : One w0 w x D F) (hd : Disk w' y E G) (hk : Keeps (fun _ => False) w w') (hG : ∀ k, G k → w.heap.size ≤ k) : Two w0 w' x D F y E G :=
  ⟨h.quiet hk, ⟨hd, h.keep.trans hk (fun _ _ h => h), fun k hk' => Nat.le_trans h.keep.size (hG k hk')⟩, fun k hf hg => by have := h.disk.foot_lt k hf; have := hG k hg; omega⟩
theorem Two.left {w0 w w' : World} {x q y : Nat} {D D' E : DS} {F F' G : Nat → Prop} (h : Two w0 w x D F y E G) (hd : Disk w' q D' F') (hk : Keeps F w w') (hs : Sub w F F') : Two w0 w' q D' F' y E G :=
  ⟨h.l.step hd hk hs, ⟨h.r.disk.keep hk (fun k hg hf => h.ap k hf hg), (h.l.step hd hk hs).keep, h.r.own⟩, fun k hf' hg => by
    rcases hs k hf' with h1 | h1
    · exact h.ap k h1 hg
    · have := h.r.disk.foot_lt k hg; omega⟩
theorem Two.swap {w0 w : World} {x y : Nat} {D E : DS} {F G : Nat → Prop} (h : Two w0 w x D F y E G) : Two w0 w y E G x D F := ⟨h.r, h.l, fun k hg hf => h.ap k hf hg⟩
theorem Two.right {w0 w w' : World} {x q y : Nat} {D E E' : DS} {F G G' : Nat → Prop} (h : Two w0 w x D F y E G) (hd : Disk w' q E' G') (hk : Keeps G w w') (hs : Sub w G G') : Two w0 w' x D F q E' G' :=
  (h.swap.left hd hk hs).swap
theorem Two.quiet {w0 w w' : World} {x y : Nat} {D E : DS} {F G : Nat → Prop} (h : Two w0 w x D F y E G) (hk : Keeps (fun _ => False) w w') : Two w0 w' x D F y E G := ⟨h.l.quiet hk, h.r.quiet hk, h.ap⟩

/-- Blocks beside both disks, made since w0, are written. -/
theorem Two.touch {w0 w w' : World} {x y : Nat} {D E : DS} {F G : Nat → Prop} (h : Two w0 w x D F y E G) (T : Nat → Prop) (hk : Keeps T w w') (h0 : ∀ k, T k → w0.heap.size ≤ k) (hF : ∀ k, F k → ¬ T k) (hG : ∀ k, G k → ¬ T k) : Two w0 w' x D F y E G :=
  ⟨⟨h.l.disk.keep hk hF, h.l.keep.trans hk (fun k hlt ht => by have := h0 k ht; omega), h.l.own⟩, ⟨h.r.disk.keep hk hG, h.r.keep.trans hk (fun k hlt ht => by have := h0 k ht; omega), h.r.own⟩, h.ap⟩
theorem One.touch {w0 w w' : World} {x : Nat} {D : DS} {F : Nat → Prop} (h : One w0 w x D F) (T : Nat → Prop) (hk : Keeps T w w') (h0 : ∀ k, T k → w0.heap.size ≤ k) (hF : ∀ k, F k → ¬ T k) : One w0 w' x D F :=
  ⟨h.disk.keep hk hF, h.keep.trans hk (fun k hlt ht => by have := h0 k ht; omega), h.own⟩

/-- A row of bytes that lies apart from F. -/
structure Row (w : World) (v : Value) (n : Nat) (l : List UInt8) (F : Nat → Prop) : Prop where
  own : w.ownsRow 0 5 1 v n (BV l)
  ap : ∀ k, v.ownBlock = some k → ¬ F k
theorem Row.mk' {w w' : World} {sa : Option Addr} {n m c : Nat} {l : List UInt8} {F : Nat → Prop} (h : w'.ownsRow w.heap.size 5 1 (.slice sa n c) m (BV l)) (hF : ∀ k, F k → k < w.heap.size) : Row w' (.slice sa n c) m l F :=
  ⟨own_base h (fun _ _ => Nat.zero_le _), fun k e hf => by have := (h.lt k e).1; have := hF k hf; omega⟩
theorem Row.step {w w' : World} {v : Value} {n : Nat} {l : List UInt8} {F F' : Nat → Prop} (h : Row w v n l F) (hk : Keeps F w w') (hs : Sub w F F') : Row w' v n l F' :=
  ⟨own_keep h.own hk h.ap, fun k e hf => by
    rcases hs k hf with h1 | h1
    · exact h.ap k e h1
    · have := (h.own.lt k e).2; omega⟩
theorem Row.quiet {w w' : World} {v : Value} {n : Nat} {l : List UInt8} {F : Nat → Prop} (h : Row w v n l F) (hk : Keeps (fun _ => False) w w') : Row w' v n l F := ⟨own_keep h.own hk (fun _ _ h => h), h.ap⟩
theorem Row.str {w : World} {sa : Option Addr} {n c : Nat} {l : List UInt8} {F : Nat → Prop} (h : Row w (.slice sa n c) n l F) : (convert 27 9 (.slice sa n c)).run Try.prog w = .ok (.string (strOf l)) w := run_str h.own

/-- A row as the source of a Write. -/
theorem Row.src {w : World} {sa : Option Addr} {n c : Nat} {l : List UInt8} {F : Nat → Prop} (h : Row w (.slice sa n c) n l F) :
    ∃ sb, (0 < n → sa = some ⟨sb, 0, none⟩) ∧ (∀ (j : Nat) (c : UInt8), l[j]? = some c → w.cell? ⟨sb, 0 + j, none⟩ = some (.int .u8 c.toNat)) ∧ (0 < n → ¬ F sb) := by
  have hl : l.length = n := by have := h.own.1; simpa using this
  rcases own_addr h.own with ⟨_, h0, _⟩ | ⟨g, rfl⟩
  · exact ⟨0, fun h => by omega, fun j c hc => by have := (List.getElem?_eq_some_iff.1 hc).1; omega, fun h => by omega⟩
  · exact ⟨g, fun _ => rfl, fun j c hc => by rw [Nat.zero_add]; exact own_cell h.own j _ (by rw [BV_get, hc]; rfl), fun _ => h.ap g rfl⟩
/-- The head of a row. -/
theorem Row.upto {w : World} {sa : Option Addr} {n c k : Nat} {l : List UInt8} {F : Nat → Prop} (h : Row w (.slice sa n c) n l F) (hk : k ≤ n) : Row w (.slice sa k c) k (l.take k) F := by
  have hl : l.length = n := by have := h.own.1; simpa using this
  refine ⟨⟨by simp; omega, ?_⟩, ?_⟩
  · rcases h.own.2 with ⟨e, h0⟩ | ⟨g, cap, cur, e, hb, hg, hn, hm, hs, ht⟩
    · simp only [Value.slice.injEq] at e
      obtain ⟨rfl, rfl, rfl⟩ := e
      exact Or.inl ⟨by rw [show k = 0 by omega], by omega⟩
    · simp only [Value.slice.injEq] at e
      obtain ⟨rfl, _, rfl⟩ := e
      refine Or.inr ⟨g, c, cur, rfl, hb, hg, by omega, hm, hs, ?_⟩
      have : cur.toList.take (k * 1) = (cur.toList.take (n * 1)).take (k * 1) := by rw [List.take_take]; congr 1; omega
      rw [this, ht]
      simp [BV, List.map_take]
  · intro j e
    refine h.ap j ?_
    rcases own_addr h.own with ⟨rfl, _⟩ | ⟨g, rfl⟩
    · simp [Value.ownBlock] at e
    · simpa [Value.ownBlock] using e

/-- What the law is told of a slice of numbers. -/
theorem row_open {w : World} {a : Option Addr} {len cap : Nat} {zs : List Int}
    (h : (a = none ∧ len = 0 ∧ cap = 0 ∧ zs = []) ∨ ∃ x, a = some x ∧ len ≤ cap ∧ cap ≤ maxLen ∧ zs.length = cap ∧ (∀ i, i < zs.length → w.cell? (x.add i) = some (.int .i64 (zs.getD i 0))) ∧ ∀ n ∈ zs, (Lit.int .i64 n).wf = true) :
    ∃ b off, (zs.take len).length = len ∧ len ≤ 9223372036854775807 ∧ (0 < len → a = some ⟨b, off, none⟩) ∧ (∀ (j : Nat) (z : Int), (zs.take len)[j]? = some z → w.cell? ⟨b, off + j, none⟩ = some (.int .i64 z)) ∧ (∀ z ∈ zs.take len, -9223372036854775808 ≤ z ∧ z ≤ 9223372036854775807) := by
  rcases h with ⟨rfl, rfl, rfl, rfl⟩ | ⟨x, rfl, hl, hm, hz, hc, hw⟩
  · exact ⟨0, 0, by simp, by omega, fun h => by omega, fun j z h => by simp at h, fun z h => by simp at h⟩
  · unfold maxLen at hm
    have hlen : (zs.take len).length = len := by simp; omega
    by_cases h0 : 0 < zs.length
    · obtain ⟨b, off, rfl, hc'⟩ := ints_at hc h0
      refine ⟨b, off, hlen, by omega, fun _ => rfl, fun j z hj => ?_, fun z hz' => bounds_i64 (hw z (List.mem_of_mem_take hz'))⟩
      have hj' : j < len := by have := (List.getElem?_eq_some_iff.1 hj).1; omega
      rw [List.getElem?_take_of_lt hj'] at hj
      rw [hc' j (List.getElem?_eq_some_iff.1 hj).1]
      simp [List.getD, hj]
    · have : len = 0 := by omega
      exact ⟨0, 0, hlen, by omega, fun h => by omega, fun j z hj => by have := (List.getElem?_eq_some_iff.1 hj).1; omega, fun z hz' => bounds_i64 (hw z (List.mem_of_mem_take hz'))⟩

/-- What the law is told of a slice of bytes. -/
theorem bytes_open {w : World} {a : Option Addr} {len cap : Nat} {zs : List Int}
    (h : (a = none ∧ len = 0 ∧ cap = 0 ∧ zs = []) ∨ ∃ x, a = some x ∧ len ≤ cap ∧ cap ≤ maxLen ∧ zs.length = cap ∧ (∀ i, i < zs.length → w.cell? (x.add i) = some (.int .u8 (zs.getD i 0))) ∧ ∀ n ∈ zs, (Lit.int .u8 n).wf = true) :
    ∃ l : List UInt8, l.length = len ∧ len ≤ cap ∧ cap ≤ 9223372036854775807 ∧ (a = none → len = 0 ∧ cap = 0) ∧ (∀ ad, a = some ad → ∀ (j : Nat) (u : Value), (BV l)[j]? = some u → w.cell? (ad.add j) = some u) := by
  rcases h with ⟨rfl, rfl, rfl, rfl⟩ | ⟨x, rfl, hl, hm, hz, hc, hw⟩
  · exact ⟨[], rfl, by omega, by omega, fun _ => ⟨rfl, rfl⟩, fun ad h => by cases h⟩
  · unfold maxLen at hm
    refine ⟨(zs.take len).map fun z => UInt8.ofNat z.toNat, by simp; omega, hl, hm, (fun h => by cases h), fun ad had j u hu => ?_⟩
    obtain rfl := Option.some.inj had
    rw [BV_get] at hu
    simp only [List.getElem?_map, List.getElem?_take] at hu
    split at hu
    · cases hj : zs[j]? with
      | none => rw [hj] at hu; simp at hu
      | some z =>
        rw [hj] at hu
        have hjl := (List.getElem?_eq_some_iff.1 hj).1
        have hb := bounds_u8 (hw z (List.mem_of_getElem? hj))
        have hz' : ((UInt8.ofNat z.toNat).toNat : Int) = z := by rw [UInt8.toNat_ofNat']; omega
        rw [hc j hjl]
        simp only [Option.map_some, Option.some.injEq] at hu
        rw [← hu, hz']
        simp [List.getD, hj]
    · simp at hu
/-- Where bytes that came in lie. -/
theorem bytes_addr {w : World} {a : Option Addr} {len : Nat} {l : List UInt8} (hl : l.length = len) (hnil : a = none → len = 0) (h : ∀ ad, a = some ad → ∀ (j : Nat) (u : Value), (BV l)[j]? = some u → w.cell? (ad.add j) = some u) (hp : 0 < len) :
    ∃ b off, a = some ⟨b, off, none⟩ ∧ ∀ (j : Nat) (c : UInt8), l[j]? = some c → w.cell? ⟨b, off + j, none⟩ = some (.int .u8 c.toNat) := by
  cases a with
  | none => have := hnil rfl; omega
  | some ad =>
    obtain ⟨b, off, spot⟩ := ad
    have h0 := h _ rfl 0 (.int .u8 (l[0]'(by omega)).toNat) (by rw [BV_get, List.getElem?_eq_getElem (by omega)]; rfl)
    have hspot : spot = none := by simpa [Addr.add] using World.cell?_spot h0
    subst hspot
    refine ⟨b, off, rfl, fun j c hc => ?_⟩
    rw [← addr_add]
    exact h _ rfl j _ (by rw [BV_get, hc]; rfl)
end Go.Proofs.Ytllfiplhfbbhaaa
