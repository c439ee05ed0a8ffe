/-
  Joined texts of the proofs of chapter 29: Base Laws Mem Push Conv RowsB CopyB Region Clone2 Clone Disk DiskNew DiskParts DiskWrite1 DiskWrite DiskSync DiskCrash DiskRead DiskOpen Make Around Few AppN. Conditions: those that each theorem names.
-/
import Derived.WalkKit
import Derived.WalkSpells
import Derived.WalkLawsBesides
import Derived.BigQuiet
import Derived.Lib.Hide
import Derived.Outline
import Derived.Deep.AppendLies
import Derived.Laws.CopyOwn
import Derived.Deep.RegionHeld3
import Derived.Laws.AppendOwnNone
import Derived.Test.YtpojkhjenbbodaaProg
import Derived.Lib.ConvBytes
import Derived.Laws.IdiomStrings
import Derived.Deep.DrawnRows
import Derived.Deep.QuietTactic
namespace Go.Proofs.Ytpojkhjenbbodaa
open Go.RowKit

/-- Of the blocks that were there only those in F may have turned; nothing else of the world has, but for the draws. -/
structure Keeps (F : Nat → Prop) (w w' : World) : Prop where
  os : w'.os = w.os
  tape : w'.tape = w.tape
  output : w'.output = w.output
  size : w.heap.size ≤ w'.heap.size
  block : ∀ k, k < w.heap.size → ¬ F k → w'.heap[k]? = w.heap[k]?

theorem Keeps.refl (F : Nat → Prop) (w : World) : Keeps F w w := ⟨rfl, rfl, rfl, Nat.le_refl _, fun _ _ _ => rfl⟩
theorem Keeps.trans {F G : Nat → Prop} {a b c : World} (h : Keeps F a b) (k : Keeps G b c) (hs : ∀ i, i < a.heap.size → G i → F i) : Keeps F a c :=
  ⟨k.os.trans h.os, k.tape.trans h.tape, k.output.trans h.output, Nat.le_trans h.size k.size, fun i hi hn =>
    (k.block i (Nat.lt_of_lt_of_le hi h.size) (fun hg => hn (hs i hi hg))).trans (h.block i hi hn)⟩
theorem Keeps.mono {F G : Nat → Prop} {a b : World} (h : Keeps F a b) (hs : ∀ i, i < a.heap.size → F i → G i) : Keeps G a b :=
  ⟨h.os, h.tape, h.output, h.size, fun i hi hn => h.block i hi (fun hf => hn (hs i hi hf))⟩
theorem Keeps.alloc {F : Nat → Prop} {a w : World} (h : Keeps F a w) (o : Obj) : Keeps F a (w.alloc o) :=
  ⟨h.os, h.tape, h.output, by have := h.size; simp; omega, fun i hi hn => (Below.heap_alloc _ _ _ (Nat.lt_of_lt_of_le hi h.size)).trans (h.block i hi hn)⟩
theorem Keeps.drew {F : Nat → Prop} {a w : World} (h : Keeps F a w) : Keeps F a w.drew := ⟨h.os, h.tape, h.output, h.size, h.block⟩
theorem Keeps.setCell {F : Nat → Prop} {a w : World} (h : Keeps F a w) {p : Addr} (hp : p.block < a.heap.size → F p.block) (u : Value) : Keeps F a (w.setCell p u) :=
  ⟨h.os, h.tape, h.output, by have := h.size; simp [World.setCell]; omega, fun i hi hn =>
    (Below.heap_setCell w p u i (fun e => by rw [e] at hi hn; exact hn (hp hi))).trans (h.block i hi hn)⟩
theorem Keeps.grown {F : Nat → Prop} {a w w' : World} {row : Option Nat} (h : Keeps F a w) (hg : w.grownBy w' row) (hr : ∀ k, row = some k → k < a.heap.size → F k) : Keeps F a w' :=
  ⟨hg.os.trans h.os, hg.tape.trans h.tape, hg.output.trans h.output, Nat.le_trans h.size hg.size, fun i hi hn =>
    (hg.block i (Nat.lt_of_lt_of_le hi h.size) (fun e => hn (hr i e.symm hi))).trans (h.block i hi hn)⟩
theorem Keeps.below {F : Nat → Prop} {w w' : World} (h : Keeps F w w') {B : Nat} (hB : B ≤ w.heap.size) (hF : ∀ k, F k → B ≤ k) : Below B w w' :=
  ⟨h.os, h.tape, h.output, h.size, fun k hk => h.block k (by omega) (fun hf => by have := hF k hf; omega)⟩
theorem Keeps.cell {F : Nat → Prop} {w w' : World} (h : Keeps F w w') {p : Addr} (hp : p.block < w.heap.size) (hn : ¬ F p.block) : w'.cell? p = w.cell? p := World.cell?_of_block (w := w) (h.block p.block hp hn)
theorem Keeps.frozen {F : Nat → Prop} {w w' : World} (h : Keeps F w w') {p : Addr} (hp : p.block < w.heap.size) (hn : ¬ F p.block) : w'.frozen? p = w.frozen? p := World.frozen?_of_block (w := w) (h.block p.block hp hn)
theorem lt_of_heap {w : World} {g : Nat} {o : Obj} (h : w.heap[g]? = some o) : g < w.heap.size := (Array.getElem?_eq_some_iff.1 h).1

/-- Bytes as cells. -/
def BV (l : List UInt8) : List Value := l.map fun c => .int .u8 c.toNat
@[simp] theorem BV_length (l : List UInt8) : (BV l).length = l.length := by simp [BV]
theorem BV_append (a b : List UInt8) : BV (a ++ b) = BV a ++ BV b := by simp [BV]
theorem BV_get (l : List UInt8) (j : Nat) : (BV l)[j]? = l[j]?.map fun c => .int .u8 c.toNat := by simp [BV]
theorem BV_one (l : List UInt8) : ∀ u ∈ BV l, u.oneCell' = true := by
  intro u hu
  simp only [BV, List.mem_map] at hu
  obtain ⟨c, _, rfl⟩ := hu
  rfl
end Go.Proofs.Ytpojkhjenbbodaa

namespace Go.Proofs.Ytpojkhjenbbodaa
open Go.RowKit

section
variable {P : Program} (w : World)

/-- append onto what is owned; the source nil, empty or not. -/
theorem run_app (t ty : TypeId) (base : Nat) (e : TypeId) (i : TypeInfo) (z : Value) (size bytes : Nat) (ht : P.underlying t = some (.slice e)) (hi : P.info? e = some i) (hz : i.zero = some z)
    (hsize : i.size = size) (hby : i.bytes = bytes) (hzs : z.cells.size = size) (hsz : 0 < size)
    (v : Value) (n : Nat) (xs : List Value) (hown : w.ownsRow base e size v n xs)
    (sa : Option Addr) (m c : Nat) (news : List Value) (hl : news.length = m * size) (hnil : sa = none → m = 0 ∧ c = 0)
    (hnews : ∀ ad, sa = some ad → ∀ j u, news[j]? = some u → w.cell? (ad.add j) = some u) (h1 : ∀ u ∈ news, u.oneCell' = true)
    (h63 : n + m ≤ maxLen) (hbytes : (n + m) * bytes ≤ 140737488355328) (hbase : base ≤ w.heap.size) :
    ∃ sa' cap' w', (Builtin.append_ #[t, t] ty #[v, .slice sa m c]).run P w = .ok (.slice sa' (n + m) cap') w' ∧
      w'.ownsRow base e size (.slice sa' (n + m) cap') (n + m) (xs ++ news) ∧ w.grownBy w' v.ownBlock ∧
      (Value.ownBlock (.slice sa' (n + m) cap') = v.ownBlock ∨ Value.ownBlock (.slice sa' (n + m) cap') = some w.heap.size) ∧ (v ≠ .slice none 0 0 → sa' ≠ none) := by
  have form : ∀ (v' : Value) (k : Nat) (ys : List Value) (w' : World), w'.ownsRow base e size v' k ys → ∃ sa' cap', v' = .slice sa' k cap' := by
    intro v' k ys w' h
    rcases h.2 with ⟨rfl, rfl⟩ | ⟨g, cap, cur, rfl, _⟩
    · exact ⟨none, 0, rfl⟩
    · exact ⟨_, _, rfl⟩
  cases sa with
  | none =>
    obtain ⟨rfl, rfl⟩ := hnil rfl
    obtain rfl : news = [] := List.eq_nil_of_length_eq_zero (by simpa using hl)
    have hr := run_append_owned_none (P := P) (w := w) base t ty e i size ht hi v n xs hown
    obtain ⟨sa', cap', rfl⟩ := form _ _ _ _ hown
    refine ⟨sa', cap', w, hr, by simpa using hown, ⟨rfl, rfl, rfl, Nat.le_refl _, fun _ _ _ => rfl⟩, Or.inl rfl, fun h e => h ?_⟩
    subst e
    rcases hown.2 with ⟨h, _⟩ | ⟨g, cap, cur, h, _⟩
    · exact h
    · simp at h
  | some ad =>
    obtain ⟨v', w', hr, h2, h3, h4, h5⟩ := run_append_own_at (P := P) w base t ty e i z size bytes ht hi hz hsize hby hzs hsz v n xs hown ad m c news hl (hnews ad rfl) h1 h63 hbytes hbase
    obtain ⟨sa', cap', rfl⟩ := form _ _ _ _ h2
    refine ⟨sa', cap', w', hr, h2, h3, h5, fun h e => ?_⟩
    subst e
    rcases h2.2 with ⟨h', _⟩ | ⟨g, cap, cur, h', _⟩
    · exact h (h4.1 h').1
    · simp at h'

theorem wp_app {o : Oper} {a : Act} {K : Act → World → Prop} {Q : Exit → Act → World → Prop} (s x : Operand) (t : TypeId)
    (ho : o.op = .call { callee := .builtin .append, args := #[s, x], argTypes := #[t, t] })
    (base : Nat) (e : TypeId) (i : TypeInfo) (z : Value) (size bytes : Nat) (ht : P.underlying t = some (.slice e)) (hi : P.info? e = some i) (hz : i.zero = some z)
    (hsize : i.size = size) (hby : i.bytes = bytes) (hzs : z.cells.size = size) (hsz : 0 < size)
    (v : Value) (n : Nat) (xs : List Value) (hs : a.eval s = v) (hown : w.ownsRow base e size v n xs)
    (sa : Option Addr) (m c : Nat) (news : List Value) (hx : a.eval x = .slice sa m c) (hl : news.length = m * size) (hnil : sa = none → m = 0 ∧ c = 0)
    (hnews : ∀ ad, sa = some ad → ∀ j u, news[j]? = some u → w.cell? (ad.add j) = some u) (h1 : ∀ u ∈ news, u.oneCell' = true)
    (h63 : n + m ≤ maxLen) (hbytes : (n + m) * bytes ≤ 140737488355328) (hbase : base ≤ w.heap.size)
    (h : ∀ sa' cap' w', w'.ownsRow base e size (.slice sa' (n + m) cap') (n + m) (xs ++ news) → w.grownBy w' v.ownBlock →
      (Value.ownBlock (.slice sa' (n + m) cap') = v.ownBlock ∨ Value.ownBlock (.slice sa' (n + m) cap') = some w.heap.size) → (v ≠ .slice none 0 0 → sa' ≠ none) → K (a.put o.dst (.slice sa' (n + m) cap')) w') : o.wp P a w K Q := by
  obtain ⟨g, cap, w', hr, h2, h3, h4, h5⟩ := run_app (P := P) w t o.type base e i z size bytes ht hi hz hsize hby hzs hsz v n xs hown sa m c news hl hnil hnews h1 h63 hbytes hbase
  unfold Oper.wp execOp
  simp only [ho, resolve, invoke, builtin, Sem.run_bind, Sem.run_pure, Result.andThen_ok, List.map_toArray, List.map_cons, List.map_nil, hs, hx, hr]
  exact h g cap w' h2 h3 h4 h5

theorem wpList_app {ops : Array Oper} {rest : List Oper} {o : Oper} {a : Act} {Q : Exit → Act → World → Prop} (hgd : o.guard = none) (s x : Operand) (t : TypeId)
    (ho : o.op = .call { callee := .builtin .append, args := #[s, x], argTypes := #[t, t] })
    (base : Nat) (e : TypeId) (i : TypeInfo) (z : Value) (size bytes : Nat) (ht : P.underlying t = some (.slice e)) (hi : P.info? e = some i) (hz : i.zero = some z)
    (hsize : i.size = size) (hby : i.bytes = bytes) (hzs : z.cells.size = size) (hsz : 0 < size)
    (v : Value) (n : Nat) (xs : List Value) (hs : a.eval s = v) (hown : w.ownsRow base e size v n xs)
    (sa : Option Addr) (m c : Nat) (news : List Value) (hx : a.eval x = .slice sa m c) (hl : news.length = m * size) (hnil : sa = none → m = 0 ∧ c = 0)
    (hnews : ∀ ad, sa = some ad → ∀ j u, news[j]? = some u → w.cell? (ad.add j) = some u) (h1 : ∀ u ∈ news, u.oneCell' = true)
    (h63 : n + m ≤ maxLen) (hbytes : (n + m) * bytes ≤ 140737488355328) (hbase : base ≤ w.heap.size)
    (h : ∀ sa' cap' w', w'.ownsRow base e size (.slice sa' (n + m) cap') (n + m) (xs ++ news) → w.grownBy w' v.ownBlock →
      (Value.ownBlock (.slice sa' (n + m) cap') = v.ownBlock ∨ Value.ownBlock (.slice sa' (n + m) cap') = some w.heap.size) → (v ≠ .slice none 0 0 → sa' ≠ none) → wpList P ops Q rest (a.put o.dst (.slice sa' (n + m) cap')) w') : wpList P ops Q (o :: rest) a w :=
  wpList_plain hgd fun _ hK => wp_app w s x t ho base e i z size bytes ht hi hz hsize hby hzs hsz v n xs hs hown sa m c news hx hl hnil hnews h1 h63 hbytes hbase fun g cap w' h2 h3 h4 h5 => hK _ _ (h g cap w' h2 h3 h4 h5)

theorem step_app {ops : Array Oper} {o : Oper} {a : Act} {K : Act → World → Prop} {Q : Exit → Act → World → Prop} {E : Prop} (hgd : o.guard = none) (s x : Operand) (t : TypeId)
    (ho : o.op = .call { callee := .builtin .append, args := #[s, x], argTypes := #[t, t] })
    (base : Nat) (e : TypeId) (i : TypeInfo) (z : Value) (size bytes : Nat) (ht : P.underlying t = some (.slice e)) (hi : P.info? e = some i) (hz : i.zero = some z)
    (hsize : i.size = size) (hby : i.bytes = bytes) (hzs : z.cells.size = size) (hsz : 0 < size)
    (v : Value) (n : Nat) (xs : List Value) (hs : a.eval s = v) (hown : w.ownsRow base e size v n xs)
    (sa : Option Addr) (m c : Nat) (news : List Value) (hx : a.eval x = .slice sa m c) (hl : news.length = m * size) (hnil : sa = none → m = 0 ∧ c = 0)
    (hnews : ∀ ad, sa = some ad → ∀ j u, news[j]? = some u → w.cell? (ad.add j) = some u) (h1 : ∀ u ∈ news, u.oneCell' = true)
    (h63 : n + m ≤ maxLen) (hbytes : (n + m) * bytes ≤ 140737488355328) (hbase : base ≤ w.heap.size)
    (h : ∀ sa' cap' w', w'.ownsRow base e size (.slice sa' (n + m) cap') (n + m) (xs ++ news) → w.grownBy w' v.ownBlock →
      (Value.ownBlock (.slice sa' (n + m) cap') = v.ownBlock ∨ Value.ownBlock (.slice sa' (n + m) cap') = some w.heap.size) → (v ≠ .slice none 0 0 → sa' ≠ none) → K (a.put o.dst (.slice sa' (n + m) cap')) w') :
    if Region.wanted o (yielded ops a.tmps) = true then Oper.wp P o a w K Q else E := by
  have hw : Region.wanted o (yielded ops a.tmps) = true := by simp [Region.wanted, hgd]
  rw [if_pos hw]
  exact wp_app w s x t ho base e i z size bytes ht hi hz hsize hby hzs hsz v n xs hs hown sa m c news hx hl hnil hnews h1 h63 hbytes hbase h

theorem take_splice {α : Type} (cur : List α) (off n : Nat) (cs : List α) (h : off + cs.length ≤ n) (hn : n ≤ cur.length) : (splice cur off cs).take n = splice (cur.take n) off cs := by
  simp only [splice, List.take_append, List.take_take, List.length_take, List.drop_take]
  rw [show min n off = off by omega, show min off cur.length = off by omega, show min off n = off by omega, List.take_of_length_le (show cs.length ≤ n - off by omega), show n - off - cs.length = n - (off + cs.length) by omega]

/-- What is owned behind cells that were laid over. -/
theorem ownsRow_splice {w w' : World} {base : Nat} {e : TypeId} {g n cap : Nat} {xs : List Value} (hown : w.ownsRow base e 1 (.slice (some ⟨g, 0, none⟩) n cap) n xs)
    {cur : List Value} (hg : w.heap[g]? = some (.cells cur.toArray e (0, 0))) (off : Nat) (cs : List Value) (hfit : off + cs.length ≤ n)
    (hg' : w'.heap[g]? = some (.cells (splice cur off cs).toArray e (0, 0))) : w'.ownsRow base e 1 (.slice (some ⟨g, 0, none⟩) n cap) n (splice xs off cs) := by
  obtain ⟨h1, h2⟩ := hown
  rcases h2 with ⟨h, _⟩ | ⟨g2, cap2, cur2, h, hb, hh, hn, hm, hs, ht⟩
  · simp at h
  · simp only [Value.slice.injEq, Option.some.injEq, Addr.mk.injEq, and_true, true_and] at h
    obtain ⟨rfl, rfl⟩ := h
    rw [hg] at hh
    simp only [Option.some.injEq, Obj.cells.injEq, and_true] at hh
    subst hh
    simp only [List.size_toArray, Nat.mul_one] at hs ht h1
    have hl : (splice xs off cs).length = xs.length := length_splice _ _ _ (by omega)
    refine ⟨by rw [hl]; simpa using h1, Or.inr ⟨g, cap, _, rfl, hb, hg', hn, hm, ?_, ?_⟩⟩
    · simp only [List.size_toArray, Nat.mul_one]
      rw [length_splice _ _ _ (by omega)]
      exact hs
    · simp only [Nat.mul_one]
      subst ht
      exact take_splice _ _ _ _ hfit (by omega)

theorem run_copy_in (dT sT ty elem : TypeId) (hu : P.underlying dT = some (.slice elem)) (hsz : (P.info? elem).map (·.size) = some 1)
    (dp sp : Option Addr) (dLen dCap sLen sCap : Nat) (base g n cap : Nat) (xs : List Value) (hown : w.ownsRow base elem 1 (.slice (some ⟨g, 0, none⟩) n cap) n xs)
    (off : Nat) (cs : List Value) (hn : cs.length = Nat.min sLen dLen) (hfit : off + cs.length ≤ n)
    (hpos : 0 < cs.length → dp = some ⟨g, off, none⟩ ∧ ∃ ad, sp = some ad ∧ ∀ j v, cs[j]? = some v → w.cell? (ad.add j) = some v) (h1 : ∀ v ∈ cs, v.oneCell' = true) :
    ∃ w', (Builtin.copy_ #[dT, sT] ty #[.slice dp dLen dCap, .slice sp sLen sCap]).run P w = .ok (goInt cs.length) w' ∧
      w'.ownsRow base elem 1 (.slice (some ⟨g, 0, none⟩) n cap) n (splice xs off cs) ∧ w.grownBy w' (some g) := by
  by_cases h0 : cs.length = 0
  · obtain rfl : cs = [] := List.eq_nil_of_length_eq_zero h0
    have hrun := run_copy_none (P := P) w dT sT ty elem dp sp dLen dCap sLen sCap hu hsz (by simpa using hn.symm)
    exact ⟨w, hrun, by simpa [splice] using hown, ⟨rfl, rfl, rfl, Nat.le_refl _, fun _ _ _ => rfl⟩⟩
  · obtain ⟨rfl, ad, rfl, hsrc⟩ := hpos (by omega)
    have hown' := hown
    obtain ⟨h1', h2⟩ := hown
    rcases h2 with ⟨h, _⟩ | ⟨g2, cap2, cur2, h, hb, hh, hn2, hm, hs, ht⟩
    · simp at h
    · simp only [Value.slice.injEq, Option.some.injEq, Addr.mk.injEq, and_true, true_and] at h
      obtain ⟨rfl, rfl⟩ := h
      have hfit' : off + cs.length ≤ cur2.size := by rw [hs]; omega
      have hrun := run_copy_row (P := P) w dT sT ty elem g off dLen dCap ad sLen sCap cur2 elem cs hu hsz hh hn hsrc hfit' h1
      refine ⟨_, hrun, ?_, ⟨rfl, rfl, rfl, by simp, fun k _ hk => setRow_other w g k _ (fun e => hk (by simp [e]))⟩⟩
      exact ownsRow_splice hown' (cur := cur2.toList) (by simpa using hh) off cs hfit (by simpa [splice] using setRow_heap w g _ _ elem _ hh)

theorem wp_copy {o : Oper} {a : Act} {K : Act → World → Prop} {Q : Exit → Act → World → Prop} (d s : Operand) (dT sT : TypeId)
    (ho : o.op = .call { callee := .builtin .copy, args := #[d, s], argTypes := #[dT, sT] }) (elem : TypeId) (hu : P.underlying dT = some (.slice elem)) (hsz : (P.info? elem).map (·.size) = some 1)
    (dp sp : Option Addr) (dLen dCap sLen sCap : Nat) (hd : a.eval d = .slice dp dLen dCap) (hs : a.eval s = .slice sp sLen sCap)
    (base g n cap : Nat) (xs : List Value) (hown : w.ownsRow base elem 1 (.slice (some ⟨g, 0, none⟩) n cap) n xs)
    (off : Nat) (cs : List Value) (hn : cs.length = Nat.min sLen dLen) (hfit : off + cs.length ≤ n)
    (hpos : 0 < cs.length → dp = some ⟨g, off, none⟩ ∧ ∃ ad, sp = some ad ∧ ∀ j v, cs[j]? = some v → w.cell? (ad.add j) = some v) (h1 : ∀ v ∈ cs, v.oneCell' = true)
    (h : ∀ w', w'.ownsRow base elem 1 (.slice (some ⟨g, 0, none⟩) n cap) n (splice xs off cs) → w.grownBy w' (some g) → K (a.put o.dst (goInt cs.length)) w') : o.wp P a w K Q := by
  obtain ⟨w', hr, h2, h3⟩ := run_copy_in (P := P) w dT sT o.type elem hu hsz dp sp dLen dCap sLen sCap base g n cap xs hown off cs hn hfit hpos h1
  unfold Oper.wp
  simp [execOp, ho, resolve, invoke, builtin, hd, hs, hr, Result.andThen]
  exact h w' h2 h3

theorem wpList_copy {ops : Array Oper} {rest : List Oper} {o : Oper} {a : Act} {Q : Exit → Act → World → Prop} (hgd : o.guard = none) (d s : Operand) (dT sT : TypeId)
    (ho : o.op = .call { callee := .builtin .copy, args := #[d, s], argTypes := #[dT, sT] }) (elem : TypeId) (hu : P.underlying dT = some (.slice elem)) (hsz : (P.info? elem).map (·.size) = some 1)
    (dp sp : Option Addr) (dLen dCap sLen sCap : Nat) (hd : a.eval d = .slice dp dLen dCap) (hs : a.eval s = .slice sp sLen sCap)
    (base g n cap : Nat) (xs : List Value) (hown : w.ownsRow base elem 1 (.slice (some ⟨g, 0, none⟩) n cap) n xs)
    (off : Nat) (cs : List Value) (hn : cs.length = Nat.min sLen dLen) (hfit : off + cs.length ≤ n)
    (hpos : 0 < cs.length → dp = some ⟨g, off, none⟩ ∧ ∃ ad, sp = some ad ∧ ∀ j v, cs[j]? = some v → w.cell? (ad.add j) = some v) (h1 : ∀ v ∈ cs, v.oneCell' = true)
    (h : ∀ w', w'.ownsRow base elem 1 (.slice (some ⟨g, 0, none⟩) n cap) n (splice xs off cs) → w.grownBy w' (some g) → wpList P ops Q rest (a.put o.dst (goInt cs.length)) w') : wpList P ops Q (o :: rest) a w :=
  wpList_plain hgd fun _ hK => wp_copy w d s dT sT ho elem hu hsz dp sp dLen dCap sLen sCap hd hs base g n cap xs hown off cs hn hfit hpos h1 fun w' h2 h3 => hK _ _ (h w' h2 h3)

theorem step_copy {ops : Array Oper} {o : Oper} {a : Act} {K : Act → World → Prop} {Q : Exit → Act → World → Prop} {E : Prop} (hgd : o.guard = none) (d s : Operand) (dT sT : TypeId)
    (ho : o.op = .call { callee := .builtin .copy, args := #[d, s], argTypes := #[dT, sT] }) (elem : TypeId) (hu : P.underlying dT = some (.slice elem)) (hsz : (P.info? elem).map (·.size) = some 1)
    (dp sp : Option Addr) (dLen dCap sLen sCap : Nat) (hd : a.eval d = .slice dp dLen dCap) (hs : a.eval s = .slice sp sLen sCap)
    (base g n cap : Nat) (xs : List Value) (hown : w.ownsRow base elem 1 (.slice (some ⟨g, 0, none⟩) n cap) n xs)
    (off : Nat) (cs : List Value) (hn : cs.length = Nat.min sLen dLen) (hfit : off + cs.length ≤ n)
    (hpos : 0 < cs.length → dp = some ⟨g, off, none⟩ ∧ ∃ ad, sp = some ad ∧ ∀ j v, cs[j]? = some v → w.cell? (ad.add j) = some v) (h1 : ∀ v ∈ cs, v.oneCell' = true)
    (h : ∀ w', w'.ownsRow base elem 1 (.slice (some ⟨g, 0, none⟩) n cap) n (splice xs off cs) → w.grownBy w' (some g) → K (a.put o.dst (goInt cs.length)) w') :
    if Region.wanted o (yielded ops a.tmps) = true then Oper.wp P o a w K Q else E := by
  have hw : Region.wanted o (yielded ops a.tmps) = true := by simp [Region.wanted, hgd]
  rw [if_pos hw]
  exact wp_copy w d s dT sT ho elem hu hsz dp sp dLen dCap sLen sCap hd hs base g n cap xs hown off cs hn hfit hpos h1 h
end
end Go.Proofs.Ytpojkhjenbbodaa

namespace Go.Proofs.Ytpojkhjenbbodaa
open Go.RowKit

theorem cellAt {w : World} {b : Nat} {c : Array Value} {t : TypeId} {fr : Nat × Nat} (h : w.heap[b]? = some (.cells c t fr)) (j : Nat) : w.cell? ⟨b, j, none⟩ = c[j]? := by
  simp [World.cell?, h]
theorem freeAt {w : World} {b : Nat} {c : Array Value} {t : TypeId} (h : w.heap[b]? = some (.cells c t (0, 0))) (j : Nat) : w.frozen? ⟨b, j, none⟩ = false := by
  simp [World.frozen?, h]
theorem heap_setCell_at {w : World} {b : Nat} {c : Array Value} {t : TypeId} {fr : Nat × Nat} (h : w.heap[b]? = some (.cells c t fr)) (j : Nat) (v : Value) :
    (w.setCell ⟨b, j, none⟩ v).heap[b]? = some (.cells (c.setIfInBounds j v) t fr) := by
  simp [World.setCell, Array.getElem?_modify, h]
theorem addr_add (b off j : Nat) : (⟨b, off, none⟩ : Addr).add j = ⟨b, off + j, none⟩ := by unfold Addr.add; split <;> simp_all

theorem own_lt {w : World} {base : Nat} {e : TypeId} {size : Nat} {sa : Option Addr} {n c m : Nat} {xs : List Value} {g : Nat} (h : w.ownsRow base e size (.slice sa n c) m xs) (hg : sa = some ⟨g, 0, none⟩) : base ≤ g ∧ g < w.heap.size :=
  h.lt g (by rw [hg]; rfl)
theorem own_addr {w : World} {base : Nat} {e : TypeId} {size : Nat} {sa : Option Addr} {n c m : Nat} {xs : List Value} (h : w.ownsRow base e size (.slice sa n c) m xs) : (sa = none ∧ n = 0 ∧ c = 0) ∨ ∃ g, sa = some ⟨g, 0, none⟩ := by
  rcases h.2 with ⟨h, _⟩ | ⟨g, _, _, h, _⟩
  · simp only [Value.slice.injEq] at h; exact Or.inl ⟨h.1, h.2.1, h.2.2⟩
  · simp only [Value.slice.injEq] at h; exact Or.inr ⟨g, h.1⟩
theorem own_blk {w : World} {base : Nat} {e : TypeId} {size : Nat} {sa : Option Addr} {n c m : Nat} {xs : List Value} {g : Nat} (h : w.ownsRow base e size (.slice sa n c) m xs) (hg : sa = some ⟨g, 0, none⟩) : ∃ cur, w.heap[g]? = some (.cells cur e (0, 0)) := by
  rcases h.2 with ⟨h, _⟩ | ⟨g', _, cur, h, _, hh, _⟩
  · simp only [Value.slice.injEq] at h; rw [h.1] at hg; cases hg
  · simp only [Value.slice.injEq] at h
    rw [h.1] at hg
    simp only [Option.some.injEq, Addr.mk.injEq, and_true] at hg
    subst hg
    exact ⟨cur, hh⟩
theorem own_keep {F : Nat → Prop} {w w' : World} {base : Nat} {e : TypeId} {size : Nat} {v : Value} {m : Nat} {xs : List Value} (h : w.ownsRow base e size v m xs) (hk : Keeps F w w') (hn : ∀ k, v.ownBlock = some k → ¬ F k) : w'.ownsRow base e size v m xs := by
  have hlt := h.lt
  obtain ⟨h1, h2⟩ := h
  refine ⟨h1, ?_⟩
  rcases h2 with h2 | ⟨g, cap, cur, rfl, hb, hh, r⟩
  · exact Or.inl h2
  · exact Or.inr ⟨g, cap, cur, rfl, hb, by rw [hk.block g (hlt g rfl).2 (hn g rfl)]; exact hh, r⟩
theorem own_base {w : World} {base base' : Nat} {e : TypeId} {size : Nat} {v : Value} {m : Nat} {xs : List Value} (h : w.ownsRow base e size v m xs) (hn : ∀ k, v.ownBlock = some k → base' ≤ k) : w.ownsRow base' e size v m xs := by
  obtain ⟨h1, h2⟩ := h
  refine ⟨h1, ?_⟩
  rcases h2 with h2 | ⟨g, cap, cur, rfl, hb, r⟩
  · exact Or.inl h2
  · exact Or.inr ⟨g, cap, cur, rfl, hn g rfl, r⟩
/-- A cell of what is owned. -/
theorem own_cell {w : World} {base : Nat} {e : TypeId} {size : Nat} {g n c m : Nat} {xs : List Value} (h : w.ownsRow base e size (.slice (some ⟨g, 0, none⟩) n c) m xs) (j : Nat) (u : Value) (hu : xs[j]? = some u) : w.cell? ⟨g, j, none⟩ = some u := by
  have := h.cells (g := g) rfl j u hu
  rwa [addr_add, Nat.zero_add] at this

/-- What a slice holds: the cells of l lie at its address. -/
def Lies (w : World) (sa : Option Addr) (l : List Value) : Prop := ∀ ad, sa = some ad → ∀ j u, l[j]? = some u → w.cell? (ad.add j) = some u

/-- A slice of elements of one cell each reads as xs. -/
structure Sl (w : World) (sa : Option Addr) (n cap : Nat) (xs : List Value) : Prop where
  len : xs.length = n
  le : n ≤ cap
  capB : cap ≤ 9223372036854775807
  nil : sa = none → n = 0 ∧ cap = 0
  path : 0 < n → ∀ ad, sa = some ad → ∃ b off, ad = ⟨b, off, none⟩
  lies : Lies w sa xs

theorem Sl.none0 (w : World) : Sl w none 0 0 [] := ⟨rfl, Nat.le_refl _, by omega, fun _ => ⟨rfl, rfl⟩, fun h => by omega, fun _ h => by simp at h⟩
theorem Sl.of_own {w : World} {base : Nat} {e : TypeId} {sa : Option Addr} {n cap : Nat} {xs : List Value} (h : w.ownsRow base e 1 (.slice sa n cap) n xs) : Sl w sa n cap xs := by
  rcases own_addr h with ⟨rfl, rfl, rfl⟩ | ⟨g, rfl⟩
  · have := h.1
    obtain rfl : xs = [] := List.eq_nil_of_length_eq_zero (by simpa using this)
    exact Sl.none0 w
  · refine ⟨by simpa using h.1, ?_, ?_, fun h => (by cases h), fun _ ad e => ⟨g, 0, by cases e; rfl⟩, fun ad e j u hu => ?_⟩
    · rcases h.2 with ⟨h', _⟩ | ⟨g', cap', cur, h', hb, hh, hn, hm, r⟩
      · simp at h'
      · simp only [Value.slice.injEq] at h'
        omega
    · rcases h.2 with ⟨h', _⟩ | ⟨g', cap', cur, h', hb, hh, hn, hm, r⟩
      · simp at h'
      · simp only [Value.slice.injEq] at h'
        unfold maxLen at hm
        omega
    · cases e
      rw [addr_add, Nat.zero_add]
      exact own_cell h j u hu
theorem Sl.keep {F : Nat → Prop} {w w' : World} {sa : Option Addr} {n cap : Nat} {xs : List Value} (h : Sl w sa n cap xs) (hk : Keeps F w w') (hn : ∀ ad, sa = some ad → 0 < n → ad.block < w.heap.size → ¬ F ad.block) : Sl w' sa n cap xs :=
  ⟨h.len, h.le, h.capB, h.nil, h.path, fun ad e j u hu => by
    have hc := h.lies ad e j u hu
    have hn0 : 0 < n := by have := h.len; have := (List.getElem?_eq_some_iff.1 hu).1; omega
    obtain ⟨b, off, rfl⟩ := h.path hn0 ad e
    rw [addr_add] at hc ⊢
    have hb := World.block_lt_of_cell? w _ hc
    exact (hk.cell (p := ⟨b, off + j, none⟩) hb (hn ⟨b, off, none⟩ e hn0 hb)).trans hc⟩
theorem Sl.cell {w : World} {b off n cap : Nat} {xs : List Value} (h : Sl w (some ⟨b, off, none⟩) n cap xs) {j : Nat} {u : Value} (hu : xs[j]? = some u) : w.cell? ⟨b, off + j, none⟩ = some u := by
  have := h.lies _ rfl j u hu
  rwa [addr_add] at this
theorem Sl.isSome {w : World} {sa : Option Addr} {n cap : Nat} {xs : List Value} (h : Sl w sa n cap xs) (hn : 0 < n) : ∃ b off, sa = some ⟨b, off, none⟩ := by
  cases sa with
  | none => have := h.nil rfl; omega
  | some ad => obtain ⟨b, off, rfl⟩ := h.path hn ad rfl; exact ⟨b, off, rfl⟩

theorem Keeps.quiet {F : Nat → Prop} {a b c : World} (h : Keeps F a b) (hk : Keeps (fun _ => False) b c) : Keeps F a c := h.trans hk (fun _ _ h => h.elim)
theorem Sl.quiet {w w' : World} {sa : Option Addr} {n cap : Nat} {xs : List Value} (h : Sl w sa n cap xs) (hk : Keeps (fun _ => False) w w') : Sl w' sa n cap xs := h.keep hk (fun _ _ _ _ h => h)
theorem Sl.upto {w : World} {sa : Option Addr} {n cap : Nat} {xs : List Value} (h : Sl w sa n cap xs) {k : Nat} (hk : k ≤ n) : Sl w sa k cap (xs.take k) := by
  have hl := h.len
  have hle := h.le
  refine ⟨by rw [List.length_take]; omega, by omega, h.capB, fun e => ?_, fun h0 => h.path (by omega), fun ad e j u hu => h.lies ad e j u ?_⟩
  · have := h.nil e; omega
  · rw [List.getElem?_take] at hu
    split at hu
    · exact hu
    · cases hu
theorem BV_take (l : List UInt8) (k : Nat) : (BV l).take k = BV (l.take k) := by simp [BV, List.map_take]
theorem BV_drop (l : List UInt8) (k : Nat) : (BV l).drop k = BV (l.drop k) := by simp [BV, List.map_drop]

theorem blk_lt {w : World} {sa : Option Addr} {n cap : Nat} {xs : List Value} (h : Sl w sa n cap xs) {ad : Addr} (e : sa = some ad) (h0 : 0 < n) : ad.block < w.heap.size := by
  subst e
  obtain ⟨b, off, rfl⟩ := h.path h0 ad rfl
  obtain ⟨u, hu⟩ : ∃ u, xs[0]? = some u := ⟨_, List.getElem?_eq_getElem (by have := h.len; omega)⟩
  exact World.block_lt_of_cell? w _ (h.cell hu)
/-- One cell of what is owned is written. -/
theorem own_set {w : World} {base : Nat} {e : TypeId} {g n c : Nat} {xs : List Value} (h : w.ownsRow base e 1 (.slice (some ⟨g, 0, none⟩) n c) n xs) (k : Nat) (v : Value) : (w.setCell ⟨g, k, none⟩ v).ownsRow base e 1 (.slice (some ⟨g, 0, none⟩) n c) n (xs.set k v) := by
  obtain ⟨h1, h2⟩ := h
  rcases h2 with ⟨h, _⟩ | ⟨g2, cap2, cur2, h, hb, hh, hn, hm, hs, ht⟩
  · simp at h
  · simp only [Value.slice.injEq, Option.some.injEq, Addr.mk.injEq, and_true, true_and] at h
    obtain ⟨rfl, rfl⟩ := h
    refine ⟨by rw [List.length_set]; exact h1, Or.inr ⟨g, c, _, rfl, hb, heap_setCell_at hh k v, hn, hm, by simpa using hs, ?_⟩⟩
    rw [← ht, Array.toList_setIfInBounds, List.take_set]
theorem own_free {w : World} {base : Nat} {e : TypeId} {size : Nat} {g n c m : Nat} {xs : List Value} (h : w.ownsRow base e size (.slice (some ⟨g, 0, none⟩) n c) m xs) (j : Nat) : w.frozen? ⟨g, j, none⟩ = false := by
  obtain ⟨cur, hc⟩ := own_blk h rfl
  exact freeAt hc j
/-- Numbers without a sign, as cells. -/
def NV (l : List Nat) : List Value := l.map fun x : Nat => .int .u64 (x : Int)
@[simp] theorem NV_length (l : List Nat) : (NV l).length = l.length := by simp [NV]
theorem NV_append (a b : List Nat) : NV (a ++ b) = NV a ++ NV b := by simp [NV]
theorem NV_get (l : List Nat) (j : Nat) : (NV l)[j]? = l[j]?.map fun x : Nat => .int .u64 (x : Int) := by simp [NV]
theorem NV_set (l : List Nat) (k x : Nat) : (NV l).set k (.int .u64 (x : Int)) = NV (l.set k x) := by simp [NV, List.map_set]
theorem BV_set (l : List UInt8) (k : Nat) (x : UInt8) : (BV l).set k (.int .u8 (x.toNat : Int)) = BV (l.set k x) := by simp [BV, List.map_set]
theorem NV_one (l : List Nat) : ∀ u ∈ NV l, u.oneCell' = true := by
  intro u hu
  simp only [NV, List.mem_map] at hu
  obtain ⟨c, _, rfl⟩ := hu
  rfl
end Go.Proofs.Ytpojkhjenbbodaa

namespace Go.Proofs.Ytpojkhjenbbodaa
open Go.RowKit

section
variable {P : Program}

theorem news_one (w0 : World) (v : Value) (e : TypeId) (fr : Nat × Nat) : ∀ ad, some (⟨w0.heap.size, 0, none⟩ : Addr) = some ad → ∀ (j : Nat) (u : Value), [v][j]? = some u → (w0.alloc (.cells #[v] e fr)).cell? (ad.add j) = some u := by
  intro ad had
  obtain rfl := Option.some.inj had
  exact World.news_of_block (cs := #[v]) (t := e) (fr := fr) (heap_alloc_new w0 _)

theorem keeps_app {w0 w' : World} {o : Obj} {sa : Option Addr} {n c m base : Nat} {e : TypeId} {size : Nat} {xs : List Value} (hown : w0.ownsRow base e size (.slice sa n c) m xs) (hg : (w0.alloc o).grownBy w' (Value.ownBlock (.slice sa n c))) : Keeps (fun k => sa = some ⟨k, 0, none⟩) w0 w' := by
  refine ((Keeps.refl _ w0).alloc o).grown hg (fun k e _ => ?_)
  rcases own_addr hown with ⟨rfl, _⟩ | ⟨g, rfl⟩
  · simp [Value.ownBlock] at e
  · simp [Value.ownBlock] at e; rw [e]

theorem wpList_push {ops : Array Oper} {rest : List Oper} {o : Oper} {a : Act} {Q : Exit → Act → World → Prop} (w0 : World) (v : Value) (hgd : o.guard = none) (s x : Operand) (t : TypeId)
    (ho : o.op = .call { callee := .builtin .append, args := #[s, x], argTypes := #[t, t] })
    (base : Nat) (e : TypeId) (i : TypeInfo) (z : Value) (bytes : Nat) (ht : P.underlying t = some (.slice e)) (hi : P.info? e = some i) (hz : i.zero = some z)
    (hsize : i.size = 1) (hby : i.bytes = bytes) (hzs : z.cells.size = 1)
    (sa : Option Addr) (n c : Nat) (xs : List Value) (hs : a.eval s = .slice sa n c) (hown : w0.ownsRow base e 1 (.slice sa n c) n xs)
    (hx : a.eval x = .slice (some ⟨w0.heap.size, 0, none⟩) 1 1) (h1 : v.oneCell' = true)
    (h63 : n + 1 ≤ maxLen) (hbytes : (n + 1) * bytes ≤ 140737488355328) (hbase : base ≤ w0.heap.size)
    (h : ∀ sa' cap' w', w'.ownsRow base e 1 (.slice sa' (n + 1) cap') (n + 1) (xs ++ [v]) → Keeps (fun k => sa = some ⟨k, 0, none⟩) w0 w' → w0.heap.size < w'.heap.size → wpList P ops Q rest (a.put o.dst (.slice sa' (n + 1) cap')) w') :
    wpList P ops Q (o :: rest) a (w0.alloc (.cells #[v] e)) := by
  refine wpList_app _ hgd s x t ho base e i z 1 bytes ht hi hz hsize hby hzs (by decide) (.slice sa n c) n xs hs (hown.alloc _) (some ⟨w0.heap.size, 0, none⟩) 1 1 [v] hx rfl (fun h => by cases h) (news_one w0 v e (0, 0)) (by simpa using h1) h63 hbytes (by simp; omega) ?_
  intro sa' cap' w' hown' hg _ _
  refine h sa' cap' w' hown' (keeps_app hown hg) ?_
  have := hg.size
  simp at this
  omega
end

theorem infoByte : (Try.prog.info? 5).map (fun i => (i.zero, i.size, i.bytes)) = some (some (.int .u8 0), 1, 1) := by kernel_rfl
theorem infoU64 : (Try.prog.info? 39).map (fun i => (i.zero, i.size, i.bytes)) = some (some (.int .u64 0), 1, 8) := by kernel_rfl

theorem wpList_pushB {ops : Array Oper} {rest : List Oper} {o : Oper} {a : Act} {Q : Exit → Act → World → Prop} (w0 : World) (v : Int) (hgd : o.guard = none) (s x : Operand)
    (ho : o.op = .call { callee := .builtin .append, args := #[s, x], argTypes := #[23, 23] }) (base : Nat)
    (sa : Option Addr) (n c : Nat) (xs : List Value) (hs : a.eval s = .slice sa n c) (hown : w0.ownsRow base 5 1 (.slice sa n c) n xs)
    (hx : a.eval x = .slice (some ⟨w0.heap.size, 0, none⟩) 1 1) (hn : n ≤ 4000000000) (hbase : base ≤ w0.heap.size)
    (h : ∀ sa' cap' w', w'.ownsRow base 5 1 (.slice sa' (n + 1) cap') (n + 1) (xs ++ [.int .u8 v]) → Keeps (fun k => sa = some ⟨k, 0, none⟩) w0 w' → w0.heap.size < w'.heap.size → wpList Try.prog ops Q rest (a.put o.dst (.slice sa' (n + 1) cap')) w') :
    wpList Try.prog ops Q (o :: rest) a (w0.alloc (.cells #[.int .u8 v] 5)) := by
  obtain ⟨i0, hi, hz0, hz1, hz2⟩ := info_parts infoByte
  exact wpList_push w0 _ hgd s x 23 ho base 5 i0 (.int .u8 0) 1 Try.underlying23 hi hz0 hz1 hz2 rfl sa n c xs hs hown hx rfl (by unfold maxLen; omega) (by omega) hbase h

theorem wpList_pushN {ops : Array Oper} {rest : List Oper} {o : Oper} {a : Act} {Q : Exit → Act → World → Prop} (w0 : World) (v : Int) (hgd : o.guard = none) (s x : Operand)
    (ho : o.op = .call { callee := .builtin .append, args := #[s, x], argTypes := #[87, 87] }) (base : Nat)
    (sa : Option Addr) (n c : Nat) (xs : List Value) (hs : a.eval s = .slice sa n c) (hown : w0.ownsRow base 39 1 (.slice sa n c) n xs)
    (hx : a.eval x = .slice (some ⟨w0.heap.size, 0, none⟩) 1 1) (hn : n ≤ 4000000000) (hbase : base ≤ w0.heap.size)
    (h : ∀ sa' cap' w', w'.ownsRow base 39 1 (.slice sa' (n + 1) cap') (n + 1) (xs ++ [.int .u64 v]) → Keeps (fun k => sa = some ⟨k, 0, none⟩) w0 w' → w0.heap.size < w'.heap.size → wpList Try.prog ops Q rest (a.put o.dst (.slice sa' (n + 1) cap')) w') :
    wpList Try.prog ops Q (o :: rest) a (w0.alloc (.cells #[.int .u64 v] 39)) := by
  obtain ⟨i0, hi, hz0, hz1, hz2⟩ := info_parts infoU64
  exact wpList_push w0 _ hgd s x 87 ho base 39 i0 (.int .u64 0) 8 Try.underlying87 hi hz0 hz1 hz2 rfl sa n c xs hs hown hx rfl (by unfold maxLen; omega) (by omega) hbase h

/-- A row that grew: nothing older than its base has turned. -/
theorem Keeps.pushed {w w0 w' : World} {base n c m : Nat} {e : TypeId} {size : Nat} {sa : Option Addr} {xs : List Value} (hk : Keeps (fun _ => False) w w0) (hown : w0.ownsRow base e size (.slice sa n c) m xs) (hb : w.heap.size ≤ base) (h : Keeps (fun k => sa = some ⟨k, 0, none⟩) w0 w') : Keeps (fun _ => False) w w' :=
  hk.trans h (fun k hk e => by have := (own_lt hown e).1; omega)
end Go.Proofs.Ytpojkhjenbbodaa

namespace Go.Proofs.Ytpojkhjenbbodaa
open Go.RowKit

theorem run_bytes (s : ByteArray) (hs : s.size ≤ 1000000000) (w : World) : ∃ cap w', (convert 9 23 (.string s)).run Try.prog w = .ok (.slice (some ⟨w.heap.size, 0, none⟩) s.size cap) w' ∧
    Sl w' (some ⟨w.heap.size, 0, none⟩) s.size cap (BV s.data.toList) ∧ Keeps (fun _ => False) w w' ∧ w'.heap.size = w.heap.size + 1 := by
  refine ⟨_, _, Lib.run_convert_string_bytes (P := Try.prog) w 9 23 5 s Try.underlying9 Try.underlying23 Try.underlying5, ?_, ?_, Lib.bytesWorld_size _ _ _⟩
  · refine ⟨by simp, grownCap_ge _ _ _ _, ?_, fun h => by simp at h, fun _ ad e => ⟨w.heap.size, 0, by cases e; rfl⟩, fun ad e j u hu => ?_⟩
    · have := grownCap_le_maxLen w s.size 0 5 (by unfold maxLen; omega)
      unfold maxLen at this
      exact this
    · cases e
      rw [addr_add, Nat.zero_add]
      rw [BV_get] at hu
      cases hc : s.data.toList[j]? with
      | none => rw [hc] at hu; simp at hu
      | some c =>
        rw [hc] at hu
        have hj := (List.getElem?_eq_some_iff.1 hc).1
        rw [Lib.bytesWorld_cell w 5 s j (by simpa using hj)]
        simp only [Option.map_some, Option.some.injEq] at hu
        rw [← hu]
        simp only [List.getD_eq_getElem?_getD, hc, Option.getD_some]
  · exact ⟨rfl, rfl, rfl, by rw [Lib.bytesWorld_size]; omega, fun k hk _ => Lib.bytesWorld_at_old w _ s k hk⟩

/-- Bytes as a string. -/
def strOf (l : List UInt8) : ByteArray := ⟨l.toArray⟩
theorem strOf_data (l : List UInt8) : (strOf l).data.toList = l := by simp [strOf]
theorem strOf_size (l : List UInt8) : (strOf l).size = l.length := by simp [strOf, ByteArray.size]

theorem run_strSl {w : World} {n c : Nat} {sa : Option Addr} {l : List UInt8} (h : Sl w sa n c (BV l)) :
    (convert 23 9 (.slice sa n c)).run Try.prog w = .ok (.string (strOf l)) w := by
  have hl : l.length = n := by have := h.len; simpa using this
  subst hl
  cases sa with
  | none =>
    have h0 := h.nil rfl
    obtain rfl : l = [] := List.eq_nil_of_length_eq_zero h0.1
    rw [run_convert_bytes_string w 23 9 5 none _ c Try.underlying23 Try.underlying5 Try.underlying9]
    rw [h0.2]
    rfl
  | some ad =>
    exact run_convert_bytes_back w 23 9 5 ad c l Try.underlying23 Try.underlying5 Try.underlying9 (fun j hj => h.lies ad rfl j _ (by rw [BV_get, List.getElem?_eq_getElem hj]; rfl))
end Go.Proofs.Ytpojkhjenbbodaa

namespace Go.Proofs.Ytpojkhjenbbodaa
open Go.RowKit

theorem infoRow : (Try.prog.info? 23).map (fun i => (i.zero, i.size, i.bytes)) = some (some (.slice none 0 0), 1, 24) := by kernel_rfl
theorem wpList_pushV {ops : Array Oper} {rest : List Oper} {o : Oper} {a : Act} {Q : Exit → Act → World → Prop} (w0 : World) (so : Option Addr) (no co : Nat) (hgd : o.guard = none) (s x : Operand)
    (ho : o.op = .call { callee := .builtin .append, args := #[s, x], argTypes := #[30, 30] }) (base : Nat)
    (sa : Option Addr) (n c : Nat) (xs : List Value) (hs : a.eval s = .slice sa n c) (hown : w0.ownsRow base 23 1 (.slice sa n c) n xs)
    (hx : a.eval x = .slice (some ⟨w0.heap.size, 0, none⟩) 1 1) (hn : n ≤ 4000000000) (hbase : base ≤ w0.heap.size)
    (h : ∀ sa' cap' w', w'.ownsRow base 23 1 (.slice sa' (n + 1) cap') (n + 1) (xs ++ [.slice so no co]) → Keeps (fun k => sa = some ⟨k, 0, none⟩) w0 w' → w0.heap.size < w'.heap.size → wpList Try.prog ops Q rest (a.put o.dst (.slice sa' (n + 1) cap')) w') :
    wpList Try.prog ops Q (o :: rest) a (w0.alloc (.cells #[.slice so no co] 23)) := by
  obtain ⟨i0, hi, hz0, hz1, hz2⟩ := info_parts infoRow
  exact wpList_push w0 _ hgd s x 30 ho base 23 i0 (.slice none 0 0) 24 Try.underlying30 hi hz0 hz1 hz2 rfl sa n c xs hs hown hx rfl (by unfold maxLen; omega) (by omega) hbase h

/-- Each value is a slice that reads as its row. -/
structure RowsS (w : World) (vs : List Value) (rs : List (List UInt8)) : Prop where
  len : vs.length = rs.length
  row : ∀ (i : Nat) r, rs[i]? = some r → ∃ sa cap, vs[i]? = some (.slice sa r.length cap) ∧ Sl w sa r.length cap (BV r)
/-- Each value is a slice that owns its row, in a block of its own. -/
structure RowsO (w : World) (base : Nat) (vs : List Value) (rs : List (List UInt8)) : Prop where
  len : vs.length = rs.length
  row : ∀ (i : Nat) r, rs[i]? = some r → ∃ sa cap, vs[i]? = some (.slice sa r.length cap) ∧ w.ownsRow base 5 1 (.slice sa r.length cap) r.length (BV r)
  apart : ∀ (i j : Nat) u v k, i ≠ j → vs[i]? = some u → vs[j]? = some v → u.ownBlock = some k → v.ownBlock = some k → False

theorem RowsS.nil (w : World) : RowsS w [] [] := ⟨rfl, fun _ _ h => by simp at h⟩
theorem RowsO.nil (w : World) (base : Nat) : RowsO w base [] [] := ⟨rfl, fun _ _ h => by simp at h, fun _ _ _ _ _ _ h => by simp at h⟩
theorem RowsO.reads {w : World} {base : Nat} {vs : List Value} {rs : List (List UInt8)} (h : RowsO w base vs rs) : RowsS w vs rs :=
  ⟨h.len, fun i r hr => by obtain ⟨sa, cap, h1, h2⟩ := h.row i r hr; exact ⟨sa, cap, h1, Sl.of_own h2⟩⟩
theorem RowsS.quiet {w w' : World} {vs : List Value} {rs : List (List UInt8)} (h : RowsS w vs rs) (hk : Keeps (fun _ => False) w w') : RowsS w' vs rs :=
  ⟨h.len, fun i r hr => by obtain ⟨sa, cap, h1, h2⟩ := h.row i r hr; exact ⟨sa, cap, h1, h2.quiet hk⟩⟩
theorem RowsO.keep {F : Nat → Prop} {w w' : World} {base : Nat} {vs : List Value} {rs : List (List UInt8)} (h : RowsO w base vs rs) (hk : Keeps F w w') (hn : ∀ k, base ≤ k → k < w.heap.size → (∃ (i : Nat) (v : Value), vs[i]? = some v ∧ v.ownBlock = some k) → ¬ F k) : RowsO w' base vs rs :=
  ⟨h.len, fun i r hr => by
    obtain ⟨sa, cap, h1, h2⟩ := h.row i r hr
    exact ⟨sa, cap, h1, own_keep h2 hk (fun k e => hn k (h2.lt k e).1 (h2.lt k e).2 ⟨i, _, h1, e⟩)⟩, h.apart⟩
theorem RowsO.quiet {w w' : World} {base : Nat} {vs : List Value} {rs : List (List UInt8)} (h : RowsO w base vs rs) (hk : Keeps (fun _ => False) w w') : RowsO w' base vs rs := h.keep hk (fun _ _ _ _ h => h)
theorem RowsO.rebase {w : World} {base base' : Nat} {vs : List Value} {rs : List (List UInt8)} (h : RowsO w base vs rs) (hb : base' ≤ base) : RowsO w base' vs rs :=
  ⟨h.len, fun i r hr => by
    obtain ⟨sa, cap, h1, h2⟩ := h.row i r hr
    exact ⟨sa, cap, h1, own_base h2 (fun k e => by have := (h2.lt k e).1; omega)⟩, h.apart⟩
theorem get_snoc {α : Type} {l : List α} {x y : α} {i : Nat} (h : (l ++ [x])[i]? = some y) : l[i]? = some y ∨ (i = l.length ∧ y = x) := by
  rw [List.getElem?_append] at h
  split at h
  · exact Or.inl h
  · rename_i hl
    obtain ⟨k, hk⟩ : ∃ k, i - l.length = k := ⟨_, rfl⟩
    rw [hk] at h
    cases k with
    | zero => simp at h; exact Or.inr ⟨by omega, h.symm⟩
    | succ k => simp at h
theorem RowsS.snoc {w : World} {vs : List Value} {rs : List (List UInt8)} (h : RowsS w vs rs) {sa : Option Addr} {cap : Nat} {r : List UInt8} {n : Nat} (hn : r.length = n) (hr : Sl w sa n cap (BV r)) : RowsS w (vs ++ [.slice sa n cap]) (rs ++ [r]) := by
  subst hn
  refine ⟨by simp [h.len], fun i x hx => ?_⟩
  rcases get_snoc hx with h1 | ⟨rfl, rfl⟩
  · obtain ⟨sa', cap', h2, h3⟩ := h.row i x h1
    exact ⟨sa', cap', by rw [List.getElem?_append_left (List.getElem?_eq_some_iff.1 h2).1, h2], h3⟩
  · exact ⟨sa, cap, by rw [List.getElem?_append_right (by rw [h.len]; exact Nat.le_refl _), h.len, Nat.sub_self]; rfl, hr⟩
theorem RowsO.snoc {w : World} {base b2 : Nat} {vs : List Value} {rs : List (List UInt8)} (h : RowsO w base vs rs) {sa : Option Addr} {cap : Nat} {r : List UInt8} {n : Nat} (hn : r.length = n) (hr : w.ownsRow b2 5 1 (.slice sa n cap) n (BV r)) (hb : base ≤ b2)
    (hlow : ∀ (i : Nat) v k, vs[i]? = some v → v.ownBlock = some k → k < b2) : RowsO w base (vs ++ [.slice sa n cap]) (rs ++ [r]) := by
  subst hn
  refine ⟨by simp [h.len], fun i x hx => ?_, fun i j u v k hij hu hv eu ev => ?_⟩
  · rcases get_snoc hx with h1 | ⟨rfl, rfl⟩
    · obtain ⟨sa', cap', h2, h3⟩ := h.row i x h1
      exact ⟨sa', cap', by rw [List.getElem?_append_left (List.getElem?_eq_some_iff.1 h2).1, h2], h3⟩
    · exact ⟨sa, cap, by rw [List.getElem?_append_right (by rw [h.len]; exact Nat.le_refl _), h.len, Nat.sub_self]; rfl, own_base hr (fun k e => by have := (hr.lt k e).1; omega)⟩
  · rcases get_snoc hu with h1 | ⟨rfl, rfl⟩
    · rcases get_snoc hv with h2 | ⟨rfl, rfl⟩
      · exact h.apart i j u v k hij h1 h2 eu ev
      · have h3 := hlow i u k h1 eu
        have h4 := (hr.lt k ev).1
        omega
    · rcases get_snoc hv with h2 | ⟨rfl, rfl⟩
      · have h3 := hlow j v k h2 ev
        have h4 := (hr.lt k eu).1
        omega
      · exact hij rfl
theorem RowsO.lt {w : World} {base : Nat} {vs : List Value} {rs : List (List UInt8)} (h : RowsO w base vs rs) {i : Nat} {v : Value} {k : Nat} (hv : vs[i]? = some v) (e : v.ownBlock = some k) : base ≤ k ∧ k < w.heap.size ∧ ∃ cur, w.heap[k]? = some (.cells cur 5 (0, 0)) := by
  have hi : i < rs.length := by rw [← h.len]; exact (List.getElem?_eq_some_iff.1 hv).1
  obtain ⟨sa, cap, h1, h2⟩ := h.row i _ (List.getElem?_eq_getElem hi)
  rw [hv] at h1
  cases h1
  refine ⟨(h2.lt k e).1, (h2.lt k e).2, ?_⟩
  rcases own_addr h2 with ⟨rfl, _⟩ | ⟨g, rfl⟩
  · simp [Value.ownBlock] at e
  · simp [Value.ownBlock] at e
    subst e
    exact own_blk h2 rfl
/-- A row of rows that is owned, and rows of their own, stand apart: their cells are of unlike types. -/
theorem RowsO.apartOuter {w : World} {base b2 : Nat} {vs xs : List Value} {rs : List (List UInt8)} {sa : Option Addr} {n c m : Nat} (h : RowsO w base vs rs) (ho : w.ownsRow b2 23 1 (.slice sa n c) m xs) {i : Nat} {v : Value} {k : Nat} (hv : vs[i]? = some v) (e : v.ownBlock = some k) (e2 : sa = some ⟨k, 0, none⟩) : False := by
  obtain ⟨cur, hc⟩ := own_blk ho e2
  obtain ⟨_, _, cur2, hc2⟩ := h.lt hv e
  rw [hc] at hc2
  simp at hc2
end Go.Proofs.Ytpojkhjenbbodaa

namespace Go.Proofs.Ytpojkhjenbbodaa
open Go.RowKit

theorem wpList_appB {w : World} {ops : Array Oper} {rest : List Oper} {o : Oper} {a : Act} {Q : Exit → Act → World → Prop} (hgd : o.guard = none) (s x : Operand)
    (ho : o.op = .call { callee := .builtin .append, args := #[s, x], argTypes := #[23, 23] }) (base : Nat)
    (sa : Option Addr) (n c : Nat) (xs : List Value) (hs : a.eval s = .slice sa n c) (hown : w.ownsRow base 5 1 (.slice sa n c) n xs)
    (sb : Option Addr) (m cb : Nat) (l : List UInt8) (hx : a.eval x = .slice sb m cb) (hl : Sl w sb m cb (BV l)) (hn : n + m ≤ 4000000000) (hbase : base ≤ w.heap.size)
    (h : ∀ sa' cap' w', w'.ownsRow base 5 1 (.slice sa' (n + m) cap') (n + m) (xs ++ BV l) → Keeps (fun k => sa = some ⟨k, 0, none⟩) w w' → wpList Try.prog ops Q rest (a.put o.dst (.slice sa' (n + m) cap')) w') :
    wpList Try.prog ops Q (o :: rest) a w := by
  obtain ⟨i0, hi, hz0, hz1, hz2⟩ := info_parts infoByte
  have hll : l.length = m := by have := hl.len; simpa using this
  refine wpList_app _ hgd s x 23 ho base 5 i0 (.int .u8 0) 1 1 Try.underlying23 hi hz0 hz1 hz2 rfl (by decide) (.slice sa n c) n xs hs hown sb m cb (BV l) hx (by simp [hll]) (fun e => by have := hl.nil e; omega) hl.lies (BV_one _) (by unfold maxLen; omega) (by omega) hbase ?_
  intro sa' cap' w' hown' hg _ _
  refine h sa' cap' w' hown' ((Keeps.refl _ w).grown hg (fun k e _ => ?_))
  rcases own_addr hown with ⟨rfl, _⟩ | ⟨g, rfl⟩
  · simp [Value.ownBlock] at e
  · simp [Value.ownBlock] at e; rw [e]

theorem wpList_copyB {w : World} {ops : Array Oper} {rest : List Oper} {o : Oper} {a : Act} {Q : Exit → Act → World → Prop} (hgd : o.guard = none) (s x : Operand)
    (ho : o.op = .call { callee := .builtin .append, args := #[s, x], argTypes := #[23, 23] }) (hs : a.eval s = .slice none 0 0)
    (sb : Option Addr) (m cb : Nat) (l : List UInt8) (hx : a.eval x = .slice sb m cb) (hl : Sl w sb m cb (BV l)) (hn : m ≤ 4000000000)
    (h : ∀ sa' cap' w', w'.ownsRow w.heap.size 5 1 (.slice sa' m cap') m (BV l) → Keeps (fun _ => False) w w' → wpList Try.prog ops Q rest (a.put o.dst (.slice sa' m cap')) w') :
    wpList Try.prog ops Q (o :: rest) a w := by
  refine wpList_appB hgd s x ho w.heap.size none 0 0 [] hs (World.ownsRow_nil w _ _ _) sb m cb l hx hl (by omega) (Nat.le_refl _) ?_
  intro sa' cap' w' hown hk
  rw [Nat.zero_add, List.nil_append] at hown
  rw [Nat.zero_add]
  exact h sa' cap' w' hown ((Keeps.refl _ w).trans hk (fun _ _ e => by cases e))
end Go.Proofs.Ytpojkhjenbbodaa

namespace Go.Proofs.Ytpojkhjenbbodaa
open Go.RowKit

section
variable {P : Program} {ops : Array Oper} {Q : Exit → Act → World → Prop} {md : Region.Mode} {S : World → Prop} {z : Nat}

def wpAnyZ (P : Program) (md : Region.Mode) (ops : Array Oper) (Q : Exit → Act → World → Prop) (S : World → Prop) (z : Nat) : Nat → Array Bool → Act → World → Prop
  | 0, listed, a, w => Region.ready md ops listed = [] ∧ Q .normal a w
  | fuel + 1, listed, a, w =>
    (Region.ready md ops listed = [] → Q .normal a w) ∧
    ∀ i ∈ Region.ready md ops listed, wpOp P ops Q i (fun a' w' => (i = z ∨ S w') ∧ wpAnyZ P md ops Q S z fuel (listed.setIfInBounds i true) a' w') a w

theorem wpAny_of_z : ∀ (fuel : Nat) (listed : Array Bool) (a : Act) (w : World), wpAnyZ P md ops Q S z fuel listed a w → wpAny P md ops Q fuel listed a w
  | 0, _, _, _, h => h
  | fuel + 1, _, _, _, h => ⟨h.1, fun i hi => wpOp_mono (fun a' w' h' => wpAny_of_z fuel _ a' w' h'.2) (h.2 i hi)⟩

/-- Does z wait for i? -/
def waitsFor (md : Region.Mode) (ops : Array Oper) (z i : Nat) : Bool :=
  match ops[z]? with
  | none => true
  | some oz => oz.after.any fun e => Region.binds md e && e.on == i

theorem wpAnyZ_first {i : Nat} {oi : Oper} {v : Value} (hi : ops[i]? = some oi) (hsel : ∀ (j : Nat) (o : Oper) cs b, ops[j]? = some o → o.op ≠ .select cs b) (hz : waitsFor md ops z i = true)
    (hQ : ∀ c a w, Q (.panic c) (a.put oi.dst v) w → Q (.panic c) a w) :
    ∀ (fuel : Nat) (listed : Array Bool) (a : Act) (w : World),
      (∀ j oj, ops[j]? = some oj → j ≠ i → listed.getD j true = false → (∀ e ∈ oj.after, Region.binds md e = true → e.on ≠ i) → oi.apart ops oj = true) →
      i ∈ Region.ready md ops listed → YieldsIf P ops S oi v a → S w →
      wpAnyZ P md ops Q S z fuel (listed.setIfInBounds i true) (a.put oi.dst v) w → wpAnyZ P md ops Q S z (fuel + 1) listed a w := by
  intro fuel
  induction fuel with
  | zero =>
    intro listed a w _ hr hy hS H
    refine ⟨fun h => (by rw [h] at hr; cases hr), fun j hj => ?_⟩
    by_cases hji : j = i
    · subst hji; exact hy.wpOp hi hS ⟨Or.inr hS, H⟩
    · have := ready_mono hj hji
      rw [H.1] at this
      cases this
  | succ fuel ih =>
    intro listed a w hfree hr hy hS H
    refine ⟨fun h => (by rw [h] at hr; cases hr), fun j hj => ?_⟩
    by_cases hji : j = i
    · subst hji; exact hy.wpOp hi hS ⟨Or.inr hS, H⟩
    · have h1 := H.2 j (ready_mono hj hji)
      obtain ⟨hjun, oj, hoj, hall⟩ := mem_ready.1 hj
      have hnot : ∀ e ∈ oj.after, Region.binds md e = true → e.on ≠ i := fun e he hb heq => by
        have h1 := hall e he hb
        have h0 := (mem_ready.1 hr).1
        rw [heq] at h1
        rcases Nat.lt_or_ge i listed.size with h' | h'
        · simp [h'] at h0 h1; rw [h0] at h1; cases h1
        · simp [Array.getElem?_eq_none h'] at h1
      have hjz : j ≠ z := fun e => by
        subst e
        simp only [waitsFor, hoj] at hz
        obtain ⟨e, he, hb⟩ := Array.any_eq_true'.1 hz
        simp only [Bool.and_eq_true, beq_iff_eq] at hb
        exact hnot e he hb.1 hb.2
      have h2 := wpOp_putIf hoj (hfree j oj hoj hji hjun hnot) (fun cs b => hsel i oi cs b hi) (fun cs b => hsel j oj cs b hoj) hQ hy h1
      have hfree' : ∀ k ok, ops[k]? = some ok → k ≠ i → (listed.setIfInBounds j true).getD k true = false →
          (∀ e ∈ ok.after, Region.binds md e = true → e.on ≠ i) → oi.apart ops ok = true := fun k ok hk hki hun hno => by
        refine hfree k ok hk hki ?_ hno
        by_cases hjk : j = k
        · subst hjk; exact hjun
        · rw [getD_set_ne true hjk] at hun; exact hun
      refine wpOp_mono (fun a' w' h3 => ?_) h2
      have hSw : S w' := h3.2.1.resolve_left hjz
      refine ⟨Or.inr hSw, ih (listed.setIfInBounds j true) a' w' hfree' (ready_mono hr (Ne.symm hji)) h3.1 hSw ?_⟩
      rw [Array.setIfInBounds_comm _ _ hji]
      exact h3.2.2

/-- Take number i first. -/
theorem z_take (i : Nat) {oi : Oper} {v : Value} {fuel : Nat} {listed : Array Bool} {a : Act} {w : World} (hi : ops[i]? = some oi)
    (hs : Region.noSelect ops = true) (hf : Region.free md ops listed i = true) (hr : (Region.ready md ops listed).contains i = true) (hz : waitsFor md ops z i = true)
    (hQ : ∀ c a w, Q (.panic c) (a.put oi.dst v) w → Q (.panic c) a w) (hS : S w) (hw : Region.wanted oi (yielded ops a.tmps) = true) (hy : ∀ w, S w → (execOp a.eval oi).run P w = .ok (.value v) w)
    (h : wpAnyZ P md ops Q S z fuel (listed.setIfInBounds i true) (a.put oi.dst v) w) : wpAnyZ P md ops Q S z (fuel + 1) listed a w :=
  wpAnyZ_first hi (Region.noSelect_spec hs) hz hQ fuel listed a w (Region.free_spec hi hf) (by simpa using hr) (Or.inl ⟨hw, hy⟩) hS h

/-- Take number i first, that is not wanted. -/
theorem z_skip (i : Nat) {oi : Oper} {fuel : Nat} {listed : Array Bool} {a : Act} {w : World} (hi : ops[i]? = some oi)
    (hs : Region.noSelect ops = true) (hf : Region.free md ops listed i = true) (hr : (Region.ready md ops listed).contains i = true) (hz : waitsFor md ops z i = true)
    (hQ : ∀ c a w, Q (.panic c) (a.put oi.dst undef) w → Q (.panic c) a w) (hS : S w) (hw : Region.wanted oi (yielded ops a.tmps) = false)
    (h : wpAnyZ P md ops Q S z fuel (listed.setIfInBounds i true) (a.put oi.dst undef) w) : wpAnyZ P md ops Q S z (fuel + 1) listed a w :=
  wpAnyZ_first hi (Region.noSelect_spec hs) hz hQ fuel listed a w (Region.free_spec hi hf) (by simpa using hr) (Or.inr ⟨hw, rfl⟩) hS h

/-- The one that may come up comes up. -/
theorem z_one (i : Nat) {oi : Oper} {fuel : Nat} {listed : Array Bool} {a : Act} {w : World} (hi : ops[i]? = some oi) (hr : Region.ready md ops listed = [i])
    (hw : Region.wanted oi (yielded ops a.tmps) = true)
    (h : ∀ K : Act → World → Prop, (∀ a' w', (i = z ∨ S w') → ((i = z ∨ S w') → wpAnyZ P md ops Q S z fuel (listed.setIfInBounds i true) a' w') → K a' w') → oi.wp P a w K Q) : wpAnyZ P md ops Q S z (fuel + 1) listed a w := by
  refine ⟨fun h0 => (by rw [hr] at h0; cases h0), fun j hj => ?_⟩
  rw [hr] at hj
  obtain rfl : j = i := by simpa using hj
  simp only [Go.wpOp, hi, hw, if_true]
  exact Or.inl (h _ fun a' w' hS hk => ⟨hS, hk hS⟩)

/-- One of two comes up. -/
theorem z_two (i j : Nat) {oi oj : Oper} {fuel : Nat} {listed : Array Bool} {a : Act} {w : World} (hi : ops[i]? = some oi) (hj : ops[j]? = some oj) (hr : Region.ready md ops listed = [i, j])
    (hwi : Region.wanted oi (yielded ops a.tmps) = true) (hwj : Region.wanted oj (yielded ops a.tmps) = true)
    (h : ∀ K : Act → World → Prop, (∀ a' w', (i = z ∨ S w') → ((i = z ∨ S w') → wpAnyZ P md ops Q S z fuel (listed.setIfInBounds i true) a' w') → K a' w') → oi.wp P a w K Q)
    (h2 : ∀ K : Act → World → Prop, (∀ a' w', (j = z ∨ S w') → ((j = z ∨ S w') → wpAnyZ P md ops Q S z fuel (listed.setIfInBounds j true) a' w') → K a' w') → oj.wp P a w K Q) : wpAnyZ P md ops Q S z (fuel + 1) listed a w := by
  refine ⟨fun h0 => (by rw [hr] at h0; cases h0), fun t ht => ?_⟩
  rw [hr] at ht
  simp only [List.mem_cons, List.not_mem_nil, or_false] at ht
  rcases ht with rfl | rfl
  · simp only [Go.wpOp, hi, hwi, if_true]
    exact Or.inl (h _ fun a' w' hS hk => ⟨hS, hk hS⟩)
  · simp only [Go.wpOp, hj, hwj, if_true]
    exact Or.inl (h2 _ fun a' w' hS hk => ⟨hS, hk hS⟩)

theorem z_done {listed : Array Bool} {a : Act} {w : World} (hr : Region.ready md ops listed = []) (h : Q .normal a w) :
    ∀ fuel, wpAnyZ P md ops Q S z fuel listed a w
  | 0 => ⟨hr, h⟩
  | _ + 1 => ⟨fun _ => h, by rw [hr]; simp⟩

/-- A condition that says more serves. -/
theorem z_more (S' : World → Prop) {S : World → Prop} (hs : ∀ w, S' w → S w) : ∀ (fuel : Nat) (listed : Array Bool) (a : Act) (w : World), wpAnyZ P md ops Q S' z fuel listed a w → wpAnyZ P md ops Q S z fuel listed a w
  | 0, _, _, _, h => h
  | fuel + 1, _, _, _, h => ⟨h.1, fun i hi => wpOp_mono (fun a' w' h' => ⟨h'.1.imp id (hs w'), z_more S' hs fuel _ a' w' h'.2⟩) (h.2 i hi)⟩

theorem z_begin (S : World → Prop) (z : Nat) {id : Nat} {a : Act} {w : World} (hm : P.follows .mixedOrders = true) (hS : S w.drew)
    (h : S w.drew → wpAnyZ P .any ops Q S z ops.size (Array.replicate ops.size false) a w.drew) : (Code.region id ops true).wp P Q a w :=
  wp_region_any hm (wpAny_of_z _ _ _ _ (h hS))
end
end Go.Proofs.Ytpojkhjenbbodaa

namespace Go.Proofs.Ytpojkhjenbbodaa
open Go.RowKit

set_option maxHeartbeats 400000 in
theorem clone_some (a : Addr) (len cap : Nat) (l : List UInt8) (w : World) (hl : l.length = len) (hlen : len ≤ 1000000000)
   (hsrc : ∀ j c, l[j]? = some c → w.cell? (a.add j) = some (.int .u8 c.toNat)) :
    Calls Try.prog 42 #[.slice (some a) len cap] w fun e w' => ∃ g cap', e = .returned (.slice (some ⟨g, 0, none⟩) len cap') ∧
      w'.ownsRow w.heap.size 5 1 (.slice (some ⟨g, 0, none⟩) len cap') len (BV l) ∧ Keeps (fun _ => False) w w' := by
  have HL := Lib.hid hl
  have HS := Lib.hid hsrc
  clear hl hsrc
  obtain ⟨i0, hi, hz0, hz1, hz2⟩ := info_parts infoByte
  have hnil := fun (w : World) => Lib.run_eql_slice_nil (P := Try.prog) w
  have hsrc' : ∀ (o : Obj) (ad : Addr), some a = some ad → ∀ (j : Nat) (u : Value), (BV l)[j]? = some u → (w.alloc o).cell? (ad.add j) = some u := by
    intro o ad had j u hu
    obtain rfl := Option.some.inj had
    rw [BV_get] at hu
    cases hc : l[j]? with
    | none => rw [hc] at hu; simp at hu
    | some c =>
      rw [hc] at hu
      have h := HS.out j c hc
      have hb := World.block_lt_of_cell? w _ h
      rw [show u = .int .u8 c.toNat by simpa using hu.symm, ← h]
      exact World.cell?_of_block (w := w) (Below.heap_alloc _ _ _ hb)
  have H := Lib.hid hsrc'
  clear hsrc'
  go_enter Try.func42, Try.ntmps42
  go_wp2_with (at_builtin; refine wpList_app _ rfl _ _ 23 rfl w.heap.size 5 i0 (.int .u8 0) 1 1 Try.underlying23 hi hz0 hz1 hz2 rfl (by decide) (.slice (some ⟨w.heap.size, 0, none⟩) 0 0) 0 [] rfl (World.ownsRow_made (cap := 0) w #[] (Nat.le_refl _) (by decide) rfl) (some a) len cap (BV l) rfl (by simpa using HL.out) (fun h => by cases h) (H.out _) (BV_one l) (by unfold maxLen; omega) (by omega) (by simp) ?_; intro sa' cap' w' hown hg hat hnn; have HH := Lib.hid hnn; clear hat hnn)
  have K1 : Keeps (fun _ => False) w w' := ((Keeps.refl _ w).alloc _).grown hg (fun k hk hlt => by simp [Value.ownBlock] at hk; omega)
  have hne := HH.out (by simp)
  rw [Nat.zero_add, List.nil_append] at hown
  obtain ⟨g, rfl⟩ : ∃ g, sa' = some ⟨g, 0, none⟩ := by
    rcases hown.2 with ⟨h, _⟩ | ⟨g, _, _, h, _⟩
    · simp only [Value.slice.injEq] at h; exact absurd h.1 hne
    · simp only [Value.slice.injEq] at h; exact ⟨g, h.1⟩
  go_ret
  exact ⟨g, cap', by simp, hown, K1⟩

theorem clone_nil (w : World) :
    Calls Try.prog 42 #[.slice none 0 0] w fun e w' => e = .returned (.slice none 0 0) ∧ w = w' := by
  have hnil := fun (w : World) => Lib.run_eql_slice_nil (P := Try.prog) w
  go_enter Try.func42, Try.ntmps42
  go_wp2
  go_ret
  exact ⟨rfl, rfl⟩

/-- A slice that is not nil, or is empty: a row of its own. -/
theorem clone_any (sa : Option Addr) (n cap : Nat) (l : List UInt8) (w : World) (hl : Sl w sa n cap (BV l)) (hn : n ≤ 1000000000) :
    Calls Try.prog 42 #[.slice sa n cap] w fun e w' => ∃ sa' cap', e = .returned (.slice sa' n cap') ∧
      w'.ownsRow w.heap.size 5 1 (.slice sa' n cap') n (BV l) ∧ Keeps (fun _ => False) w w' := by
  have hll : l.length = n := by have := hl.len; simpa using this
  cases sa with
  | none =>
    obtain ⟨rfl, rfl⟩ := hl.nil rfl
    refine (clone_nil w).mono ?_
    rintro e _ ⟨rfl, rfl⟩
    obtain rfl : l = [] := List.eq_nil_of_length_eq_zero hll
    exact ⟨none, 0, rfl, World.ownsRow_nil _ _ _ _, Keeps.refl _ _⟩
  | some a =>
    refine (clone_some a n cap l w hll hn (fun j c hc => hl.lies a rfl j _ (by rw [BV_get, hc]; rfl))).mono ?_
    rintro e w' ⟨g, cap', rfl, h1, h2⟩
    exact ⟨_, _, rfl, h1, h2⟩
end Go.Proofs.Ytpojkhjenbbodaa



namespace Go.Proofs.Ytpojkhjenbbodaa
open Go.RowKit

/-- What a disk is: all bytes, what is sure, the loose bytes and their places, whether it has crashed. -/
structure DS where
  now : List UInt8
  sure : List UInt8
  lo : List (Nat × UInt8)
  cr : Bool

/-- Loose bytes as cells. -/
def LV (l : List (Nat × UInt8)) : List Value := l.flatMap fun x => [.int .i64 x.1, .int .u8 x.2.toNat]
theorem LV_length (l : List (Nat × UInt8)) : (LV l).length = l.length * 2 := by induction l with | nil => rfl | cons x l ih => simp [LV] at *; omega
theorem LV_append (a b : List (Nat × UInt8)) : LV (a ++ b) = LV a ++ LV b := by simp [LV]

structure DiskAt (w : World) (p : Nat) (D : DS) (gn cn gs cs : Nat) (sl : Option Addr) (cl : Nat) : Prop where
  blk : w.heap[p]? = some (.cells #[.slice (some ⟨gn, 0, none⟩) D.now.length cn, .slice (some ⟨gs, 0, none⟩) D.now.length cs, .slice sl D.lo.length cl, .bool D.cr] 83 (0, 0))
  now : w.ownsRow 0 5 1 (.slice (some ⟨gn, 0, none⟩) D.now.length cn) D.now.length (BV D.now)
  sure : w.ownsRow 0 5 1 (.slice (some ⟨gs, 0, none⟩) D.now.length cs) D.now.length (BV D.sure)
  lo : w.ownsRow 0 90 2 (.slice sl D.lo.length cl) D.lo.length (LV D.lo)
  ne : gn ≠ gs

/-- The disk's own blocks. -/
def Foot (p gn gs : Nat) (sl : Option Addr) : Nat → Prop := fun k => k = p ∨ k = gn ∨ k = gs ∨ sl = some ⟨k, 0, none⟩

/-- A disk, its own blocks F. -/
def Disk (w : World) (p : Nat) (D : DS) (F : Nat → Prop) : Prop := ∃ gn cn gs cs sl cl, DiskAt w p D gn cn gs cs sl cl ∧ F = Foot p gn gs sl

section
variable {w w' : World} {p : Nat} {D : DS} {gn cn gs cs : Nat} {sl : Option Addr} {cl : Nat}

theorem DiskAt.nlt (h : DiskAt w p D gn cn gs cs sl cl) : p < w.heap.size ∧ gn < w.heap.size ∧ gs < w.heap.size ∧ (∀ g, sl = some ⟨g, 0, none⟩ → g < w.heap.size) :=
  ⟨lt_of_heap h.blk, (own_lt h.now rfl).2, (own_lt h.sure rfl).2, fun _ hg => (own_lt h.lo hg).2⟩
theorem DiskAt.apart (h : DiskAt w p D gn cn gs cs sl cl) : p ≠ gn ∧ p ≠ gs ∧ gn ≠ gs ∧ (∀ g, sl = some ⟨g, 0, none⟩ → g ≠ p ∧ g ≠ gn ∧ g ≠ gs) := by
  obtain ⟨c1, h1⟩ := own_blk h.now rfl
  obtain ⟨c2, h2⟩ := own_blk h.sure rfl
  have hb := h.blk
  refine ⟨fun e => ?_, fun e => ?_, h.ne, fun g hg => ?_⟩
  · subst e; rw [hb] at h1; simp at h1
  · subst e; rw [hb] at h2; simp at h2
  · obtain ⟨c3, h3⟩ := own_blk h.lo hg
    refine ⟨fun e => ?_, fun e => ?_, fun e => ?_⟩
    · subst e; rw [hb] at h3; simp at h3
    · subst e; rw [h1] at h3; simp at h3
    · subst e; rw [h2] at h3; simp at h3
theorem DiskAt.foot_lt (h : DiskAt w p D gn cn gs cs sl cl) : ∀ k, Foot p gn gs sl k → k < w.heap.size := by
  intro k hk
  have := h.nlt
  rcases hk with rfl | rfl | rfl | hk
  · exact this.1
  · exact this.2.1
  · exact this.2.2.1
  · exact this.2.2.2 k hk
theorem Disk.foot_lt {F : Nat → Prop} (h : Disk w p D F) : ∀ k, F k → k < w.heap.size := by
  obtain ⟨gn, cn, gs, cs, sl, cl, h, rfl⟩ := h
  exact h.foot_lt
/-- A disk whose blocks are kept is as it was. -/
theorem DiskAt.keep {G : Nat → Prop} (h : DiskAt w p D gn cn gs cs sl cl) (hk : Keeps G w w') (hn : ∀ k, Foot p gn gs sl k → ¬ G k) : DiskAt w' p D gn cn gs cs sl cl where
  blk := by rw [hk.block p (lt_of_heap h.blk) (hn p (Or.inl rfl))]; exact h.blk
  now := own_keep h.now hk (fun k e => hn k (Or.inr (Or.inl (by simpa [Value.ownBlock] using e.symm))))
  sure := own_keep h.sure hk (fun k e => hn k (Or.inr (Or.inr (Or.inl (by simpa [Value.ownBlock] using e.symm)))))
  lo := own_keep h.lo hk (fun k e => hn k (Or.inr (Or.inr (Or.inr (by
    rcases own_addr h.lo with ⟨rfl, _⟩ | ⟨g, rfl⟩
    · simp [Value.ownBlock] at e
    · simp [Value.ownBlock] at e; rw [e])))))
  ne := h.ne
theorem Disk.keep {F G : Nat → Prop} (h : Disk w p D F) (hk : Keeps G w w') (hn : ∀ k, F k → ¬ G k) : Disk w' p D F := by
  obtain ⟨gn, cn, gs, cs, sl, cl, h, rfl⟩ := h
  exact ⟨gn, cn, gs, cs, sl, cl, h.keep hk hn, rfl⟩
end

end Go.Proofs.Ytpojkhjenbbodaa

namespace Go.Proofs.Ytpojkhjenbbodaa
open Go.RowKit

theorem owns_zeros (w : World) (g n : Nat) (h : w.heap[g]? = some (.cells (madeCells #[.int .u8 0] n) 5 (0, 0))) (hn : n ≤ 65536) :
    w.ownsRow 0 5 1 (.slice (some ⟨g, 0, none⟩) n n) n (BV (List.replicate n 0)) :=
  ⟨by simp, Or.inr ⟨g, n, _, rfl, Nat.zero_le _, h, Nat.le_refl _, by unfold maxLen; omega, by simp [size_madeCells], by
    rw [toList_madeCells_one, Nat.mul_one, List.take_of_length_le (by simp)]; simp [BV]⟩⟩

theorem new_disk (w : World) (n gn gs : Nat) (hn : n ≤ 65536) (hg : (gn = w.heap.size ∧ gs = w.heap.size + 1) ∨ (gn = w.heap.size + 1 ∧ gs = w.heap.size)) :
    ∃ F, Disk (((w.alloc (.cells (madeCells #[.int .u8 0] n) 5)).alloc (.cells (madeCells #[.int .u8 0] n) 5)).alloc
      (.cells #[.slice (some ⟨gn, 0, none⟩) n n, .slice (some ⟨gs, 0, none⟩) n n, .slice none 0 0, .bool false] 83)).drew (w.heap.size + 1 + 1)
      ⟨List.replicate n 0, List.replicate n 0, [], false⟩ F ∧ (∀ k, F k → w.heap.size ≤ k) := by
  refine ⟨_, ⟨gn, n, gs, n, none, 0, ?_, rfl⟩, ?_⟩
  · have h1 : ∀ (a b c : Obj), (((w.alloc a).alloc b).alloc c).drew.heap[w.heap.size]? = some a := fun a b c =>
      (Below.heap_alloc ((w.alloc a).alloc b) c _ (by simp; omega)).trans ((Below.heap_alloc (w.alloc a) b _ (by simp)).trans (heap_alloc_new w a))
    have h2 : ∀ (a b c : Obj), (((w.alloc a).alloc b).alloc c).drew.heap[w.heap.size + 1]? = some b := fun a b c =>
      (Below.heap_alloc ((w.alloc a).alloc b) c _ (by simp)).trans (by simpa using heap_alloc_new (w.alloc a) b)
    have h3 : ∀ (a b c : Obj), (((w.alloc a).alloc b).alloc c).drew.heap[w.heap.size + 1 + 1]? = some c := fun a b c => by
      have h := heap_alloc_new ((w.alloc a).alloc b) c
      rw [show ((w.alloc a).alloc b).heap.size = w.heap.size + 1 + 1 by simp] at h
      exact h
    constructor
    · simpa using h3 _ _ _
    · rcases hg with ⟨rfl, rfl⟩ | ⟨rfl, rfl⟩
      · simpa using owns_zeros _ _ n (h1 _ _ _) hn
      · simpa using owns_zeros _ _ n (h2 _ _ _) hn
    · rcases hg with ⟨rfl, rfl⟩ | ⟨rfl, rfl⟩
      · simpa using owns_zeros _ _ n (h2 _ _ _) hn
      · simpa using owns_zeros _ _ n (h1 _ _ _) hn
    · exact World.ownsRow_nil _ _ _ _
    · omega
  · intro k hk
    simp only [Foot] at hk
    simp at hk
    omega

set_option maxRecDepth 10000 in
set_option maxHeartbeats 400000 in
theorem new_ok (n : Nat) (w : World) (hn : n ≤ 65536) :
    Calls Try.prog 30 #[.int .i64 n] w fun e w' => ∃ p F, e = .returned (.tuple #[.pointer (some ⟨p, 0, none⟩), .int .i64 0]) ∧
      Disk w' p ⟨List.replicate n 0, List.replicate n 0, [], false⟩ F ∧ Keeps (fun _ => False) w w' ∧ (∀ k, F k → w.heap.size ≤ k) := by
  obtain ⟨i0, hi, hz0, hz1, hz2⟩ := info_parts infoByte
  have hmk : ∀ u : World, (Instr.makeSlice 23 (.int .i64 (n : Int)) (.int .i64 (n : Int))).run Try.prog u =
      .ok (.slice (some ⟨u.heap.size, 0, none⟩) n n) (u.alloc (.cells (madeCells #[.int .u8 0] n) 5)) := fun u => by
    have h := run_make (P := Try.prog) u 23 5 i0 (.int .u8 0) Try.underlying23 hi hz0 .i64 .i64 (n : Int) (n : Int) (by omega) (Int.le_refl _) (by rw [hz2]; omega) (by omega)
    simpa [hz1, Value.cells] using h
  go_enter Try.func30, Try.ntmps30
  go_wp2
  go_region
  all_goals go_wp2
  all_goals go_ret2
  · obtain ⟨F, h1, h2⟩ := new_disk w n _ _ hn (Or.inl ⟨rfl, rfl⟩)
    exact ⟨_, F, rfl, h1, ((((Keeps.refl _ w).alloc _).alloc _).alloc _).drew, h2⟩
  · obtain ⟨F, h1, h2⟩ := new_disk w n _ _ hn (Or.inr ⟨rfl, rfl⟩)
    exact ⟨_, F, rfl, h1, ((((Keeps.refl _ w).alloc _).alloc _).alloc _).drew, h2⟩

theorem new_bad (n : Int) (w : World) (hn : n < 0 ∨ 65536 < n) :
    Calls Try.prog 30 #[.int .i64 n] w fun e w' => e = .returned (.tuple #[.pointer none, .int .i64 8]) ∧ w = w' := by
  rcases hn with hn | hn
  · go_enter Try.func30, Try.ntmps30
    go_wp2
    go_ret2
    exact ⟨rfl, rfl⟩
  · have h' : ¬ n < 0 := by omega
    go_enter Try.func30, Try.ntmps30
    go_wp2
    go_ret2
    exact ⟨rfl, rfl⟩

/-- Are so many bytes there, from a place on? -/
def inB (at_ n : Int) (len : Nat) : Bool := decide (0 ≤ at_ ∧ 0 ≤ n ∧ at_ ≤ len ∧ n ≤ len - at_)

set_option maxRecDepth 10000 in
set_option maxHeartbeats 400000 in
theorem in_any (b : Nat) (at_ n : Int) (a : Option Addr) (len cap : Nat) (w : World) (hl : len ≤ 65536)
   (hc : w.cell? ⟨b, 0, none⟩ = some (.slice a len cap)) :
    Calls Try.prog 48 #[.pointer (some ⟨b, 0, none⟩), .int .i64 at_, .int .i64 n] w fun e w' => e = .returned (.bool (inB at_ n len)) ∧ w = w' := by
  by_cases h1 : 0 ≤ at_
  · by_cases h2 : 0 ≤ n
    · by_cases h3 : at_ ≤ len
      · by_cases h4 : n ≤ len - at_
        · have H : Hid (inB at_ n len = true) := by show _ = _; unfold inB; simp; omega
          go_enter Try.func48, Try.ntmps48
          go_wp2
          go_ret
          exact ⟨by rw [H.out]; rfl, rfl⟩
        · have H : Hid (inB at_ n len = false) := by show _ = _; unfold inB; simp; omega
          go_enter Try.func48, Try.ntmps48
          go_wp2
          go_ret
          exact ⟨by rw [H.out]; rfl, rfl⟩
      · have H : Hid (inB at_ n len = false) := by show _ = _; unfold inB; simp; omega
        go_enter Try.func48, Try.ntmps48
        go_wp2
        go_ret
        exact ⟨by rw [H.out]; rfl, rfl⟩
    · have H : Hid (inB at_ n len = false) := by show _ = _; unfold inB; simp; omega
      go_enter Try.func48, Try.ntmps48
      go_wp2
      go_ret
      exact ⟨by rw [H.out]; rfl, rfl⟩
  · have H : Hid (inB at_ n len = false) := by show _ = _; unfold inB; simp; omega
    go_enter Try.func48, Try.ntmps48
    go_wp2
    go_ret
    exact ⟨by rw [H.out]; rfl, rfl⟩

theorem raw_any (p : Nat) (D : DS) (F : Nat → Prop) (w : World) (h : Disk w p D F) (hl : D.now.length ≤ 65536) :
    Calls Try.prog 15 #[.pointer (some ⟨p, 0, none⟩)] w fun e w' => ∃ g cap', e = .returned (.slice (some ⟨g, 0, none⟩) D.now.length cap') ∧
      w'.ownsRow w.heap.size 5 1 (.slice (some ⟨g, 0, none⟩) D.now.length cap') D.now.length (BV D.now) ∧ Keeps (fun _ => False) w w' := by
  obtain ⟨gn, cn, gs, cs, sl, cl, h, _⟩ := h
  have c0 := cellAt h.blk 0
  simp at c0
  have Hs : Hid (∀ (j : Nat) (c : UInt8), D.now[j]? = some c → w.cell? ((⟨gn, 0, none⟩ : Addr).add j) = some (.int .u8 c.toNat)) := fun j c hc => by
    rw [addr_add, Nat.zero_add]; exact own_cell h.now j _ (by rw [BV_get, hc]; rfl)
  have H := Lib.hid h
  clear h
  go_enter Try.func15, Try.ntmps15
  go_wp2_with fail
  refine (clone_some ⟨gn, 0, none⟩ _ cn D.now _ rfl (by omega) Hs.out).mono ?_
  rintro e w' ⟨g, cap', rfl, hown, hk⟩
  go_wp2
  go_ret
  exact ⟨g, cap', rfl, hown, hk⟩

theorem size_any (p : Nat) (D : DS) (F : Nat → Prop) (w : World) (h : Disk w p D F) :
    Calls Try.prog 54 #[.pointer (some ⟨p, 0, none⟩)] w fun e w' => e = .returned (.int .i64 D.now.length) ∧ w = w' := by
  obtain ⟨gn, cn, gs, cs, sl, cl, h, _⟩ := h
  have c0 := cellAt h.blk 0
  simp at c0
  have H := Lib.hid h
  clear h
  go_enter Try.func54, Try.ntmps54
  go_wp2
  go_ret
  exact ⟨rfl, rfl⟩
end Go.Proofs.Ytpojkhjenbbodaa

namespace Go.Proofs.Ytpojkhjenbbodaa
open Go.RowKit

def mkLo (at_ : Nat) (l : List UInt8) : List (Nat × UInt8) := l.zipIdx.map fun x => (at_ + x.2, x.1)
def DS.write (D : DS) (at_ : Nat) (l : List UInt8) : DS := { D with now := splice D.now at_ l, lo := D.lo ++ mkLo at_ l }
theorem mkLo_length (at_ : Nat) (l : List UInt8) : (mkLo at_ l).length = l.length := by simp [mkLo]
theorem mkLo_take (at_ : Nat) (l : List UInt8) (k : Nat) (c : UInt8) (h : l[k]? = some c) : (mkLo at_ l).take (k + 1) = (mkLo at_ l).take k ++ [(at_ + k, c)] := by
  have hk : k < l.length := (List.getElem?_eq_some_iff.1 h).1
  rw [List.take_succ_eq_append_getElem (by rw [mkLo_length]; exact hk)]
  congr 2
  simp only [mkLo, List.getElem_map, List.getElem_zipIdx]
  rw [(List.getElem?_eq_some_iff.1 h).2]
  simp

/-- Behind k rounds of Write's loop. -/
def DS.wrote (D : DS) (at_ : Nat) (l : List UInt8) (k : Nat) : DS := { D with now := splice D.now at_ l, lo := D.lo ++ (mkLo at_ l).take k }
theorem wrote_all (D : DS) (at_ : Nat) (l : List UInt8) : D.wrote at_ l l.length = D.write at_ l := by
  simp only [DS.wrote, DS.write]
  rw [List.take_of_length_le (by rw [mkLo_length]; exact Nat.le_refl _)]
theorem wrote_lo (D : DS) (at_ : Nat) (l : List UInt8) (k : Nat) (h : k ≤ l.length) : (D.wrote at_ l k).lo.length = D.lo.length + k := by
  simp only [DS.wrote, List.length_append, List.length_take, mkLo_length]; omega
theorem BV_splice (a : List UInt8) (k : Nat) (b : List UInt8) : splice (BV a) k (BV b) = BV (splice a k b) := by
  simp [splice, BV]

section
variable {w w' : World} {p : Nat} {D : DS} {gn cn gs cs : Nat} {sl : Option Addr} {cl : Nat}

theorem DiskAt.cap (h : DiskAt w p D gn cn gs cs sl cl) : D.now.length ≤ cn ∧ D.now.length ≤ cs := by
  refine ⟨?_, ?_⟩
  · rcases h.now.2 with ⟨h', _⟩ | ⟨_, _, _, h', _, _, h'', _⟩
    · simp at h'
    · simp at h'; omega
  · rcases h.sure.2 with ⟨h', _⟩ | ⟨_, _, _, h', _, _, h'', _⟩
    · simp at h'
    · simp at h'; omega

theorem keeps_grown {F : Nat → Prop} {row : Option Nat} (hg : w.grownBy w' row) (hr : ∀ k, row = some k → F k) : Keeps F w w' :=
  (Keeps.refl _ _).grown hg (fun k hk _ => hr k hk)

/-- Behind the copy of a Write. -/
theorem DiskAt.wrote (h : DiskAt w p D gn cn gs cs sl cl) (at_ : Nat) (l : List UInt8) (hfit : at_ + l.length ≤ D.now.length)
    (hown : w'.ownsRow 0 5 1 (.slice (some ⟨gn, 0, none⟩) D.now.length cn) D.now.length (splice (BV D.now) at_ (BV l))) (hg : w.grownBy w' (some gn)) :
    DiskAt w' p (D.wrote at_ l 0) gn cn gs cs sl cl := by
  have ap := h.apart
  have hk : Keeps (fun k => k = gn) w w' := keeps_grown hg (fun k e => (Option.some.inj e).symm)
  have hl : (splice D.now at_ l).length = D.now.length := length_splice _ _ _ hfit
  constructor
  · rw [hk.block p (lt_of_heap h.blk) ap.1, h.blk]; simp [DS.wrote, hl]
  · rw [BV_splice] at hown; simpa [DS.wrote, hl] using hown
  · have := own_keep h.sure hk (fun k e => by simp [Value.ownBlock] at e; omega); simpa [DS.wrote, hl] using this
  · have := own_keep h.lo hk (fun k e => by
      rcases own_addr h.lo with ⟨rfl, _⟩ | ⟨g, rfl⟩
      · simp [Value.ownBlock] at e
      · simp [Value.ownBlock] at e; have := (ap.2.2.2 g rfl).2.1; omega)
    simpa [DS.wrote] using this
  · exact h.ne

/-- Behind one round's append and store. -/
theorem DiskAt.pushed (h : DiskAt w p D gn cn gs cs sl cl) (x : Nat × UInt8) {w0 w' : World} {sl' : Option Addr} {cl' : Nat} (h0 : Keeps (fun _ => False) w w0)
    (hown : w'.ownsRow 0 90 2 (.slice sl' (D.lo.length + 1) cl') (D.lo.length + 1) (LV D.lo ++ [.int .i64 x.1, .int .u8 x.2.toNat]))
    (hg : w0.grownBy w' (Value.ownBlock (.slice sl D.lo.length cl)))
    (hat : Value.ownBlock (.slice sl' (D.lo.length + 1) cl') = Value.ownBlock (.slice sl D.lo.length cl) ∨ Value.ownBlock (.slice sl' (D.lo.length + 1) cl') = some w0.heap.size) :
    DiskAt (w'.setCell ⟨p, 2, none⟩ (.slice sl' (D.lo.length + 1) cl')) p { D with lo := D.lo ++ [x] } gn cn gs cs sl' cl' ∧
      Keeps (Foot p gn gs sl) w (w'.setCell ⟨p, 2, none⟩ (.slice sl' (D.lo.length + 1) cl')) ∧ (∀ k, sl' = some ⟨k, 0, none⟩ → sl = some ⟨k, 0, none⟩ ∨ w.heap.size ≤ k) := by
  have ap := h.apart
  have nl := h.nlt
  have hrow : ∀ k, Value.ownBlock (.slice sl D.lo.length cl) = some k → sl = some ⟨k, 0, none⟩ := fun k e => by
    rcases own_addr h.lo with ⟨rfl, _⟩ | ⟨g, rfl⟩
    · simp [Value.ownBlock] at e
    · simp [Value.ownBlock] at e; rw [e]
  have hk : Keeps (fun k => sl = some ⟨k, 0, none⟩) w w' := (h0.mono (fun _ _ hf => hf.elim)).grown hg (fun k e _ => hrow k e)
  have hk2 : Keeps (fun k => k = p) w' (w'.setCell ⟨p, 2, none⟩ (.slice sl' (D.lo.length + 1) cl')) := (Keeps.refl (fun k => k = p) w').setCell (p := ⟨p, 2, none⟩) (fun _ => rfl) _
  have hk3 : Keeps (fun k => k = p ∨ sl = some ⟨k, 0, none⟩) w (w'.setCell ⟨p, 2, none⟩ (.slice sl' (D.lo.length + 1) cl')) :=
    (hk.mono (fun _ _ h => Or.inr h)).trans hk2 (fun _ _ h => Or.inl h)
  have hb' : w'.heap[p]? = w.heap[p]? := hk.block p nl.1 (fun e => (ap.2.2.2 p e).1 rfl)
  have hnew : ∀ k, sl' = some ⟨k, 0, none⟩ → sl = some ⟨k, 0, none⟩ ∨ w.heap.size ≤ k := by
    intro k e
    rcases hat with hat | hat
    · rw [e] at hat; exact Or.inl (hrow k (by rw [← hat]; rfl))
    · rw [e] at hat; simp [Value.ownBlock] at hat; right; rw [hat]; exact h0.size
  refine ⟨⟨?_, ?_, ?_, ?_, h.ne⟩, hk3.mono (fun k _ e => ?_), hnew⟩
  · rw [heap_setCell_at (hb'.trans h.blk)]; simp
  · exact own_keep h.now hk3 (fun k e => by
      simp [Value.ownBlock] at e; subst e
      rintro (e | e)
      · omega
      · exact (ap.2.2.2 _ e).2.1 rfl)
  · exact own_keep h.sure hk3 (fun k e => by
      simp [Value.ownBlock] at e; subst e
      rintro (e | e)
      · omega
      · exact (ap.2.2.2 _ e).2.2 rfl)
  · have := own_keep hown hk2 (fun k e => by
      rintro rfl
      rcases own_addr hown with ⟨rfl, _⟩ | ⟨g, rfl⟩
      · simp [Value.ownBlock] at e
      · simp [Value.ownBlock] at e
        rcases hnew g rfl with h' | h'
        · exact (ap.2.2.2 g h').1 e
        · omega)
    simpa [LV_append, LV] using this
  · rcases e with rfl | e
    · exact Or.inl rfl
    · exact Or.inr (Or.inr (Or.inr e))
end
end Go.Proofs.Ytpojkhjenbbodaa

namespace Go.Proofs.Ytpojkhjenbbodaa
open Go.RowKit
attribute [local go_sem ↓] Go.wp_at_zero Go.wp_at_succ

theorem in_yes (b : Nat) (at_ n : Int) (a : Option Addr) (len cap : Nat) (w : World) (hl : len ≤ 65536)
   (hc : w.cell? ⟨b, 0, none⟩ = some (.slice a len cap)) (h : inB at_ n len = true) :
    Calls Try.prog 48 #[.pointer (some ⟨b, 0, none⟩), .int .i64 at_, .int .i64 n] w fun e w' => e = .returned (.bool true) ∧ w = w' := by
  rw [← h]; exact in_any b at_ n a len cap w hl hc
theorem infoLoose : (Try.prog.info? 90).map (fun i => (i.zero, i.size, i.bytes)) = some (some (.agg #[.int .i64 0, .int .u8 0]), 2, 16) := by kernel_rfl

/-- What holds at the head of each round of Write's loop. -/
def WRel (w : World) (p : Nat) (D : DS) (gn cn gs cs : Nat) (sl : Option Addr) (at_ : Nat) (l : List UInt8) (m : Nat) (i : Value) (wr : World) : Prop :=
  ∃ (k : Nat) (sl' : Option Addr) (cl' : Nat), k ≤ m ∧ i = .int .i64 k ∧ DiskAt wr p (D.wrote at_ l k) gn cn gs cs sl' cl' ∧ Keeps (Foot p gn gs sl) w wr ∧ (∀ k, sl' = some ⟨k, 0, none⟩ → sl = some ⟨k, 0, none⟩ ∨ w.heap.size ≤ k)

set_option maxRecDepth 10000 in
set_option maxHeartbeats 1000000 in
theorem write1_ok (c0 c1 c2 p at_ : Nat) (l : List UInt8) (n : Nat) (sa : Option Addr) (sb so scap : Nat) (D : DS) (gn cn gs cs : Nat) (sl : Option Addr) (cl : Nat) (w : World)
    (h : DiskAt w p D gn cn gs cs sl cl) (hn : D.now.length = n) (k0 : w.cell? ⟨c0, 0, none⟩ = some (.pointer (some ⟨p, 0, none⟩))) (k1 : w.cell? ⟨c1, 0, none⟩ = some (.int .i64 at_)) 
    (m : Nat) (hm : l.length = m) (k2 : w.cell? ⟨c2, 0, none⟩ = some (.slice sa m scap))
    (hsa : 0 < m → sa = some ⟨sb, so, none⟩) (hsrc : ∀ j c, l[j]? = some c → w.cell? ⟨sb, so + j, none⟩ = some (.int .u8 c.toNat))
    (n0 : ¬ Foot p gn gs sl c0) (n1 : ¬ Foot p gn gs sl c1) (n2 : ¬ Foot p gn gs sl c2) (nb : 0 < m → ¬ Foot p gn gs sl sb)
    (hfit : at_ + m ≤ n) (hD : n ≤ 65536) (hlo : D.lo.length ≤ 1000000) :
    Calls Try.prog 47 #[.pointer (some ⟨c0, 0, none⟩), .pointer (some ⟨c1, 0, none⟩), .pointer (some ⟨c2, 0, none⟩)] w fun e w' => e = .returned (.int .i64 0) ∧
      ∃ sl' cl', DiskAt w' p (D.write at_ l) gn cn gs cs sl' cl' ∧ Keeps (Foot p gn gs sl) w w' ∧ (∀ k, sl' = some ⟨k, 0, none⟩ → sl = some ⟨k, 0, none⟩ ∨ w.heap.size ≤ k) := by
  have q0 := cellAt h.blk 0
  rw [hn] at q0
  simp at q0
  have hnow := h.now
  have hcap : n ≤ cn := by have := h.cap; omega
  rw [hn] at hnow
  have HN := Lib.hid hn
  have HM := Lib.hid hm
  have H := Lib.hid h
  have HS := Lib.hid hsrc
  have HA := Lib.hid hsa
  have HO := Lib.hid hnow
  have hi : inB at_ m n = true := by unfold inB; simp; omega
  have HI := Lib.hid hi
  have HF := Lib.hid (And.intro n0 (And.intro n1 (And.intro n2 nb)))
  obtain ⟨i0, hi0, hz0, hz1, hz2⟩ := info_parts infoLoose
  clear hn hm h hsrc hsa hnow hi n0 n1 n2 nb
  have b1 : (0 : Int) ≤ (at_ : Int) := by omega
  have b2 : (at_ : Int) ≤ (cn : Int) := by omega
  have b3 : (at_ : Int) ≤ (n : Int) := by omega
  have b4 : (n : Int) ≤ (cn : Int) := by omega
  have HC : Hid (∀ ad : Addr, sa = some ad → 0 < m → ad = ⟨sb, so, none⟩) := fun ad e hp => by rw [HA.out hp] at e; exact (Option.some.inj e).symm
  have HP : Hid (0 < (BV l).length → (if cn = at_ then some (⟨gn, 0, none⟩ : Addr) else some ⟨gn, at_, none⟩) = some ⟨gn, at_, none⟩ ∧ ∃ ad, sa = some ad ∧ ∀ (j : Nat) (v : Value), (BV l)[j]? = some v → w.drew.cell? (ad.add j) = some v) := by
    intro hp
    rw [BV_length, HM.out] at hp
    refine ⟨if_neg (by omega), ⟨sb, so, none⟩, HA.out hp, fun j v hv => ?_⟩
    rw [BV_get] at hv
    cases hc : l[j]? with
    | none => rw [hc] at hv; simp at hv
    | some c =>
      rw [hc] at hv
      rw [addr_add, show v = .int .u8 c.toNat by simpa using hv.symm]
      exact HS.out j c hc
  have HK : Hid (∀ w1 : World, w.drew.grownBy w1 (some gn) → w1.cell? ⟨c0, 0, none⟩ = some (.pointer (some ⟨p, 0, none⟩)) ∧ w1.cell? ⟨c1, 0, none⟩ = some (.int .i64 at_) ∧ w1.cell? ⟨c2, 0, none⟩ = some (.slice sa m scap) ∧ w1.cell? ⟨p, 0, none⟩ = some (.slice (some ⟨gn, 0, none⟩) n cn)) := by
    intro w1 hg
    have hk : Keeps (fun k => k = gn) w w1 := (Keeps.refl _ w).drew.grown hg (fun k e _ => (Option.some.inj e).symm)
    have f := HF.out
    refine ⟨?_, ?_, ?_, ?_⟩
    · rw [hk.cell (World.block_lt_of_cell? w _ k0) (fun e => f.1 (Or.inr (Or.inl e)))]; exact k0
    · rw [hk.cell (World.block_lt_of_cell? w _ k1) (fun e => f.2.1 (Or.inr (Or.inl e)))]; exact k1
    · rw [hk.cell (World.block_lt_of_cell? w _ k2) (fun e => f.2.2.1 (Or.inr (Or.inl e)))]; exact k2
    · rw [hk.cell (World.block_lt_of_cell? w _ q0) (fun e => H.out.apart.1 e)]; exact q0
  go_enter Try.func47, Try.ntmps47
  go_wp2_with fail
  refine (in_yes p at_ m _ n cn _ hD q0 HI.out).mono ?_
  rintro e w' ⟨rfl, rfl⟩
  go_wp2_with fail
  go_region_held3 (fun w' => w'.cell? ⟨c0, 0, none⟩ = some (.pointer (some ⟨p, 0, none⟩)) ∧ w'.cell? ⟨c1, 0, none⟩ = some (.int .i64 at_) ∧ w'.cell? ⟨c2, 0, none⟩ = some (.slice sa m scap) ∧ w'.cell? ⟨p, 0, none⟩ = some (.slice (some ⟨gn, 0, none⟩) n cn))
    (first | exact HK.out _ hg1 | go_keep)
    ((refine step_copy _ (by rfl) (.tmp 17) (.tmp 18) 23 23 (by rfl) 5 Try.underlying23 (by kernel_rfl) _ _ _ _ _ _ (by rfl) (by rfl) 0 gn n cn (BV D.now) HO.out.drew at_ (BV l) (by rw [BV_length, HM.out]; exact (Nat.min_eq_left (by omega)).symm) (by rw [BV_length, HM.out]; omega) HP.out (BV_one l) ?_; intro w1 hown1 hg1))
  have e1 := HK.out _ hg1
  obtain ⟨e10, e11, e12, e13⟩ := e1
  generalize (if cn = at_ then some (⟨gn, 0, none⟩ : Addr) else some ⟨gn, at_, none⟩) = dp
  have hw1 : DiskAt w1 p (D.wrote at_ l 0) gn cn gs cs sl cl := DiskAt.wrote (w := w.drew) (H.out.keep (Keeps.refl (fun _ => False) w).drew (fun _ _ h => h)) at_ l (by rw [HM.out, HN.out]; exact hfit) (by rw [HN.out]; exact hown1) hg1
  have hk1 : Keeps (Foot p gn gs sl) w w1 := (Keeps.refl _ w).drew.grown hg1 (fun k e _ => Or.inr (Or.inl (Option.some.inj e).symm))
  have HW1 := Lib.hid (And.intro hw1 hk1)
  clear hw1 hk1 hown1 hg1
  go_wp2_with fail
  go_loopw [22] (fun i wr => WRel w p D gn cn gs cs sl at_ l m i wr)
    (fun i _ => m - (intOf i).toNat)
  case atStart => exact ⟨0, sl, cl, Nat.zero_le _, rfl, HW1.out.1, HW1.out.2, fun k h => Or.inl h⟩
  case round =>
    obtain ⟨k, sl', cl', hk, rfl, hd, hkp, hsl⟩ := hrel
    have HD := Lib.hid hd
    have HKP := Lib.hid hkp
    have HSL := Lib.hid hsl
    clear hd hkp hsl
    by_cases hlt : k < m
    · obtain rfl := HA.out (by omega)
      obtain ⟨c, hc⟩ : ∃ c, l[k]? = some c := ⟨_, List.getElem?_eq_getElem (by rw [HM.out]; exact hlt)⟩
      have f := HF.out
      have r0 : wr.cell? ⟨c0, 0, none⟩ = some (.pointer (some ⟨p, 0, none⟩)) := (HKP.out.cell (World.block_lt_of_cell? w _ k0) f.1).trans k0
      have r1 : wr.cell? ⟨c1, 0, none⟩ = some (.int .i64 at_) := (HKP.out.cell (World.block_lt_of_cell? w _ k1) f.2.1).trans k1
      have r3 : wr.cell? ⟨sb, so + k, none⟩ = some (.int .u8 c.toNat) := (HKP.out.cell (World.block_lt_of_cell? w _ (HS.out k c hc)) (f.2.2.2 (by omega))).trans (HS.out k c hc)
      have r2 := cellAt HD.out.blk 2
      have z2 := freeAt HD.out.blk 2
      have hl := HD.out.lo
      rw [wrote_lo _ _ _ _ (by rw [HM.out]; exact hk)] at r2 hl
      simp at r2
      have hbr := lt_of_heap HD.out.blk
      have HL := Lib.hid hl
      have HC2 := Lib.hid hc
      have HK2 : Hid (∀ (X : Obj) (w2 : World), (wr.alloc X).drew.grownBy w2 (Value.ownBlock (.slice sl' (D.lo.length + k) cl')) → (w2.cell? ⟨c0, 0, none⟩ = some (.pointer (some ⟨p, 0, none⟩)) ∧ w2.cell? ⟨c1, 0, none⟩ = some (.int .i64 at_) ∧ w2.cell? ⟨p, 2, none⟩ = some (.slice sl' (D.lo.length + k) cl')) ∧ w2.frozen? ⟨p, 2, none⟩ = false) := by
        intro X w2 hg
        have hk2 : Keeps (fun g => sl' = some ⟨g, 0, none⟩) wr w2 := (((Keeps.refl _ wr).alloc X).drew).grown hg (fun g e _ => by
          rcases own_addr HL.out with ⟨rfl, _⟩ | ⟨g', rfl⟩
          · simp [Value.ownBlock] at e
          · simp [Value.ownBlock] at e; rw [e])
        have hs : ∀ g, sl' = some ⟨g, 0, none⟩ → g < w.heap.size → Foot p gn gs sl g := fun g e hlt => by
          rcases HSL.out g e with h | h
          · exact Or.inr (Or.inr (Or.inr h))
          · omega
        refine ⟨⟨?_, ?_, ?_⟩, ?_⟩
        · rw [hk2.cell (World.block_lt_of_cell? wr _ r0) (fun e => f.1 (hs _ e (World.block_lt_of_cell? w _ k0)))]; exact r0
        · rw [hk2.cell (World.block_lt_of_cell? wr _ r1) (fun e => f.2.1 (hs _ e (World.block_lt_of_cell? w _ k1)))]; exact r1
        · rw [hk2.cell (World.block_lt_of_cell? wr _ r2) (fun e => (HD.out.apart.2.2.2 p e).1 rfl)]; exact r2
        · rw [hk2.frozen (World.block_lt_of_cell? wr _ r2) (fun e => (HD.out.apart.2.2.2 p e).1 rfl)]; exact z2
      clear hl hc f k0 k1 k2 q0 e10 e11 e12 e13
      have i1 : (0 : Int) ≤ (k : Int) := by omega
      have i2 : (k : Int) < (m : Int) := by omega
      have i3 : IntKind.i64.wrap ((at_ : Int) + (k : Int)) = (at_ : Int) + k := IntWalk.i64_in _ (by omega)
      go_wp2_with fail
      refine z_begin (fun w' => w'.cell? ⟨c0, 0, none⟩ = some (.pointer (some ⟨p, 0, none⟩)) ∧ w'.cell? ⟨c1, 0, none⟩ = some (.int .i64 at_) ∧ w'.cell? ⟨p, 2, none⟩ = some (.slice sl' (D.lo.length + k) cl')) 14 (by kernel_rfl) ⟨r0, r1, r2⟩ (fun hHeld => ?_)
      refine z_take 0 (v := ?_) rfl (by kernel_rfl) (by kernel_rfl) (by kernel_rfl) (by kernel_rfl) (fun _ _ _ h => h) hHeld (by rfl) (fun w hSw => ?_) ?_
      rotate_left
      · obtain ⟨hSw1, hSw2, hSw3⟩ := hSw; simp only [List.getElem_toArray, List.getElem_cons_zero]; go_simp; try rfl
      simp only [Act.put, List.getElem_toArray, List.getElem_cons_zero, List.setIfInBounds_toArray, List.set_cons_zero, List.set_cons_succ]
      refine z_take 1 (v := ?_) rfl (by kernel_rfl) (by kernel_rfl) (by kernel_rfl) (by kernel_rfl) (fun _ _ _ h => h) hHeld (by rfl) (fun w hSw => ?_) ?_
      rotate_left
      · obtain ⟨hSw1, hSw2, hSw3⟩ := hSw; simp only [List.getElem_toArray, List.getElem_cons_zero, List.getElem_cons_succ]; go_simp; try rfl
      simp only [Act.put, List.getElem_toArray, List.getElem_cons_zero, List.getElem_cons_succ, List.setIfInBounds_toArray, List.set_cons_zero, List.set_cons_succ]
      refine z_take 2 (v := ?_) rfl (by kernel_rfl) (by kernel_rfl) (by kernel_rfl) (by kernel_rfl) (fun _ _ _ h => h) hHeld (by rfl) (fun w hSw => ?_) ?_
      rotate_left
      · obtain ⟨hSw1, hSw2, hSw3⟩ := hSw; simp only [List.getElem_toArray, List.getElem_cons_zero, List.getElem_cons_succ]; go_simp; try rfl
      simp only [Act.put, List.getElem_toArray, List.getElem_cons_zero, List.getElem_cons_succ, List.setIfInBounds_toArray, List.set_cons_zero, List.set_cons_succ]
      refine z_take 3 (v := ?_) rfl (by kernel_rfl) (by kernel_rfl) (by kernel_rfl) (by kernel_rfl) (fun _ _ _ h => h) hHeld (by rfl) (fun w hSw => ?_) ?_
      rotate_left
      · obtain ⟨hSw1, hSw2, hSw3⟩ := hSw; simp only [List.getElem_toArray, List.getElem_cons_zero, List.getElem_cons_succ]; go_simp; try rfl
      simp only [Act.put, List.getElem_toArray, List.getElem_cons_zero, List.getElem_cons_succ, List.setIfInBounds_toArray, List.set_cons_zero, List.set_cons_succ]
      refine z_take 4 (v := ?_) rfl (by kernel_rfl) (by kernel_rfl) (by kernel_rfl) (by kernel_rfl) (fun _ _ _ h => h) hHeld (by rfl) (fun w hSw => ?_) ?_
      rotate_left
      · obtain ⟨hSw1, hSw2, hSw3⟩ := hSw; simp only [List.getElem_toArray, List.getElem_cons_zero, List.getElem_cons_succ]; go_simp; try rfl
      simp only [Act.put, List.getElem_toArray, List.getElem_cons_zero, List.getElem_cons_succ, List.setIfInBounds_toArray, List.set_cons_zero, List.set_cons_succ]
      refine z_take 5 (v := ?_) rfl (by kernel_rfl) (by kernel_rfl) (by kernel_rfl) (by kernel_rfl) (fun _ _ _ h => h) hHeld (by rfl) (fun w hSw => ?_) ?_
      rotate_left
      · obtain ⟨hSw1, hSw2, hSw3⟩ := hSw; simp only [List.getElem_toArray, List.getElem_cons_zero, List.getElem_cons_succ]; go_simp; try rfl
      simp only [Act.put, List.getElem_toArray, List.getElem_cons_zero, List.getElem_cons_succ, List.setIfInBounds_toArray, List.set_cons_zero, List.set_cons_succ]
      refine z_take 6 (v := ?_) rfl (by kernel_rfl) (by kernel_rfl) (by kernel_rfl) (by kernel_rfl) (fun _ _ _ h => h) hHeld (by rfl) (fun w hSw => ?_) ?_
      rotate_left
      · obtain ⟨hSw1, hSw2, hSw3⟩ := hSw; simp only [List.getElem_toArray, List.getElem_cons_zero, List.getElem_cons_succ]; go_simp; try rfl
      simp only [Act.put, List.getElem_toArray, List.getElem_cons_zero, List.getElem_cons_succ, List.setIfInBounds_toArray, List.set_cons_zero, List.set_cons_succ]
      refine z_take 7 (v := ?_) rfl (by kernel_rfl) (by kernel_rfl) (by kernel_rfl) (by kernel_rfl) (fun _ _ _ h => h) hHeld (by rfl) (fun w hSw => ?_) ?_
      rotate_left
      · obtain ⟨hSw1, hSw2, hSw3⟩ := hSw; simp only [List.getElem_toArray, List.getElem_cons_zero, List.getElem_cons_succ]; go_simp; try rfl
      simp only [Act.put, List.getElem_toArray, List.getElem_cons_zero, List.getElem_cons_succ, List.setIfInBounds_toArray, List.set_cons_zero, List.set_cons_succ]
      refine z_take 8 (v := ?_) rfl (by kernel_rfl) (by kernel_rfl) (by kernel_rfl) (by kernel_rfl) (fun _ _ _ h => h) hHeld (by rfl) (fun w hSw => ?_) ?_
      rotate_left
      · obtain ⟨hSw1, hSw2, hSw3⟩ := hSw; simp only [List.getElem_toArray, List.getElem_cons_zero, List.getElem_cons_succ]; go_simp; try rfl
      simp only [Act.put, List.getElem_toArray, List.getElem_cons_zero, List.getElem_cons_succ, List.setIfInBounds_toArray, List.set_cons_zero, List.set_cons_succ]
      refine z_take 9 (v := ?_) rfl (by kernel_rfl) (by kernel_rfl) (by kernel_rfl) (by kernel_rfl) (fun _ _ _ h => h) hHeld (by rfl) (fun w hSw => ?_) ?_
      rotate_left
      · obtain ⟨hSw1, hSw2, hSw3⟩ := hSw; simp only [List.getElem_toArray, List.getElem_cons_zero, List.getElem_cons_succ]; go_simp; try rfl
      simp only [Act.put, List.getElem_toArray, List.getElem_cons_zero, List.getElem_cons_succ, List.setIfInBounds_toArray, List.set_cons_zero, List.set_cons_succ]
      refine z_one 10 rfl (by kernel_rfl) (by rfl) (fun K hK => ?_)
      simp only [List.getElem_toArray, List.getElem_cons_zero, List.getElem_cons_succ]
      go_simp
      refine hK _ _ (Or.inr ?_) (fun _ => ?_)
      · exact ⟨(Below.cell ((Below.refl _ _).alloc (Nat.le_refl _) _) (World.block_lt_of_cell? wr _ r0)).trans r0, (Below.cell ((Below.refl _ _).alloc (Nat.le_refl _) _) (World.block_lt_of_cell? wr _ r1)).trans r1, (Below.cell ((Below.refl _ _).alloc (Nat.le_refl _) _) (World.block_lt_of_cell? wr _ r2)).trans r2⟩
      clear hK K
      refine z_one 11 rfl (by kernel_rfl) (by rfl) (fun K hK => ?_)
      simp only [List.getElem_toArray, List.getElem_cons_zero, List.getElem_cons_succ]
      refine wp_app _ (.tmp 31) (.tmp 37) 81 (by rfl) 0 90 i0 _ 2 16 Try.underlying81 hi0 hz0 hz1 hz2 rfl (by omega) (.slice sl' (D.lo.length + k) cl') (D.lo.length + k) (LV (D.wrote at_ l k).lo) (by rfl) ((HL.out.alloc _).drew) (some ⟨wr.heap.size, 0, none⟩) 1 1 [.int .i64 ((at_ : Int) + k), .int .u8 c.toNat] (by rfl) (by rfl) (fun h => by cases h) (fun ad had => by obtain rfl := Option.some.inj had; exact World.news_of_block (cs := #[.int .i64 ((at_ : Int) + k), .int .u8 c.toNat]) (t := 90) (fr := (0, 0)) (heap_alloc_new wr _)) (by simp [Value.oneCell']) (by unfold maxLen; omega) (by omega) (by simp) ?_
      intro sa2 cap2 w2 hown2 hg2 hat2 hnn2
      have HP2 := Lib.hid (And.intro hown2 (And.intro hg2 hat2))
      obtain ⟨hHeld, z3⟩ := HK2.out _ _ hg2
      refine hK _ _ (Or.inr hHeld) (fun _ => ?_)
      clear hK K hown2 hg2 hat2 hnn2
      simp only [Act.put, List.setIfInBounds_toArray, List.set_cons_zero, List.set_cons_succ]
      refine z_one 12 rfl (by kernel_rfl) (by rfl) (fun K hK => ?_)
      simp only [List.getElem_toArray, List.getElem_cons_zero, List.getElem_cons_succ]
      go_simp
      refine hK _ _ (Or.inr hHeld) (fun _ => ?_)
      clear hK K
      refine z_one 13 rfl (by kernel_rfl) (by rfl) (fun K hK => ?_)
      simp only [List.getElem_toArray, List.getElem_cons_zero, List.getElem_cons_succ]
      go_simp
      refine hK _ _ (Or.inr hHeld) (fun _ => ?_)
      clear hK K
      refine z_one 14 rfl (by kernel_rfl) (by rfl) (fun K hK => ?_)
      simp only [List.getElem_toArray, List.getElem_cons_zero, List.getElem_cons_succ]
      obtain ⟨hh0, hh1, hh2⟩ := hHeld
      go_simp
      refine hK _ _ (Or.inl rfl) (fun _ => ?_)
      clear hK K
      refine z_done (by kernel_rfl) ?_ _
      have HH2 := HP2.out
      have R := DiskAt.pushed HD.out (at_ + k, c) (((Keeps.refl _ wr).alloc _).drew) (by rw [wrote_lo _ _ _ _ (by rw [HM.out]; exact hk)]; simpa using HH2.1) (by rw [wrote_lo _ _ _ _ (by rw [HM.out]; exact hk)]; exact HH2.2.1) (by rw [wrote_lo _ _ _ _ (by rw [HM.out]; exact hk)]; exact HH2.2.2)
      rw [wrote_lo _ _ _ _ (by rw [HM.out]; exact hk)] at R
      have HR := Lib.hid R
      clear R HH2 hh0 hh1 hh2 z3 r0 r1 r2 r3 z2 i3
      go_wp2
      go_roundw
      case rel =>
        refine ⟨_, _, _, ?_, rfl, rfl, rfl⟩
        obtain ⟨R1, R2, R3⟩ := HR.out
        refine ⟨k + 1, sa2, cap2, by omega, by go_num, ?_, HKP.out.trans R2 ?_, ?_⟩
        · have e : { D.wrote at_ l k with lo := (D.wrote at_ l k).lo ++ [(at_ + k, c)] } = D.wrote at_ l (k + 1) := by
            simp only [DS.wrote, mkLo_take _ _ _ _ HC2.out, List.append_assoc]
          rw [← e]
          exact R1
        · intro j hj hf
          rcases hf with h | h | h | h
          · exact Or.inl h
          · exact Or.inr (Or.inl h)
          · exact Or.inr (Or.inr (Or.inl h))
          · rcases HSL.out j h with h' | h'
            · exact Or.inr (Or.inr (Or.inr h'))
            · omega
        · intro j hj
          rcases R3 j hj with h | h
          · exact HSL.out j h
          · right; have := HKP.out.size; omega
      case measure => simp [intOf]; omega
    · go_wp2
      go_ret
      obtain rfl : k = m := by omega
      exact ⟨rfl, sl', cl', by have := HD.out; rw [← HM.out, wrote_all] at this; exact this, HKP.out, HSL.out⟩
end Go.Proofs.Ytpojkhjenbbodaa

namespace Go.Proofs.Ytpojkhjenbbodaa
open Go.RowKit

theorem up_do (f : FuncId) (caps : Array Value) (p : Nat) (w : World) (R : Int → World → Prop) (hf : ∀ w, (callFunc f caps).run Try.prog w = .ok (.enter f caps) w) (hc : w.cell? ⟨p, 3, none⟩ = some (.bool false))
    (h : Calls Try.prog f caps w fun e w' => ∃ n, e = .returned (.int .i64 n) ∧ R n w') :
    Calls Try.prog 46 #[.pointer (some ⟨p, 0, none⟩), .func (.func f) #[] caps] w fun e w' => ∃ n, e = .returned (.int .i64 n) ∧ R n w' := by
  have H := Lib.hid h
  clear h
  go_enter Try.func46, Try.ntmps46
  go_wp2_with fail
  refine H.out.mono ?_
  rintro e w' ⟨n, rfl, hr⟩
  go_wp2
  go_ret
  exact ⟨n, rfl, hr⟩
theorem up_no (f : FuncId) (caps : Array Value) (p : Nat) (w : World) (hc : w.cell? ⟨p, 3, none⟩ = some (.bool true)) :
    Calls Try.prog 46 #[.pointer (some ⟨p, 0, none⟩), .func (.func f) #[] caps] w fun e w' => e = .returned (.int .i64 30) ∧ w = w' := by
  go_enter Try.func46, Try.ntmps46
  go_wp2_with fail
  go_ret
  exact ⟨rfl, rfl⟩

theorem box3 {w : World} {p : Nat} {D : DS} {gn cn gs cs : Nat} {sl : Option Addr} {cl : Nat} (h : DiskAt w p D gn cn gs cs sl cl) (a b c : Obj) :
    Keeps (fun _ => False) w (((w.alloc a).alloc b).alloc c) ∧ DiskAt (((w.alloc a).alloc b).alloc c) p D gn cn gs cs sl cl ∧ (((w.alloc a).alloc b).alloc c).heap[w.heap.size]? = some a ∧
      (((w.alloc a).alloc b).alloc c).heap[w.heap.size + 1]? = some b ∧ (((w.alloc a).alloc b).alloc c).heap[w.heap.size + 1 + 1]? = some c := by
  have hk : Keeps (fun _ => False) w (((w.alloc a).alloc b).alloc c) := (((Keeps.refl _ w).alloc a).alloc b).alloc c
  refine ⟨hk, h.keep hk (fun _ _ h => h), ?_, ?_, ?_⟩
  · exact (Below.heap_alloc ((w.alloc a).alloc b) c _ (by simp; omega)).trans ((Below.heap_alloc (w.alloc a) b _ (by simp)).trans (heap_alloc_new w a))
  · exact (Below.heap_alloc ((w.alloc a).alloc b) c _ (by simp)).trans (by simpa using heap_alloc_new (w.alloc a) b)
  · have h := heap_alloc_new ((w.alloc a).alloc b) c
    rw [show ((w.alloc a).alloc b).heap.size = w.heap.size + 1 + 1 by simp] at h
    exact h

set_option maxRecDepth 10000 in
set_option maxHeartbeats 1000000 in
theorem write_ok (p at_ : Nat) (l : List UInt8) (m : Nat) (sa : Option Addr) (sb so scap : Nat) (D : DS) (F : Nat → Prop) (w : World)
    (h : Disk w p D F) (hcr : D.cr = false) (hm : l.length = m)
    (hsa : 0 < m → sa = some ⟨sb, so, none⟩) (hsrc : ∀ j c, l[j]? = some c → w.cell? ⟨sb, so + j, none⟩ = some (.int .u8 c.toNat)) (nb : 0 < m → ¬ F sb)
    (hfit : at_ + m ≤ D.now.length) (hD : D.now.length ≤ 65536) (hlo : D.lo.length ≤ 1000000) :
    Calls Try.prog 19 #[.pointer (some ⟨p, 0, none⟩), .int .i64 at_, .slice sa m scap] w fun e w' => e = .returned (.int .i64 0) ∧
      ∃ F', Disk w' p (D.write at_ l) F' ∧ Keeps F w w' ∧ (∀ k, F' k → F k ∨ w.heap.size ≤ k) := by
  obtain ⟨gn, cn, gs, cs, sl, cl, h, rfl⟩ := h
  have H := Lib.hid (And.intro h (And.intro hm (And.intro hsa (And.intro hsrc (And.intro nb hcr)))))
  clear h hm hsa hsrc nb hcr
  go_enter Try.func19, Try.ntmps19
  go_wp2_with fail
  have hs := box3 H.out.1 (.cells #[.pointer (some ⟨p, 0, none⟩)] 24) (.cells #[.int .i64 at_] 3) (.cells #[.slice sa m scap] 23)
  generalize (((w.alloc (.cells #[.pointer (some ⟨p, 0, none⟩)] 24)).alloc (.cells #[.int .i64 at_] 3)).alloc (.cells #[.slice sa m scap] 23)) = W at hs
  obtain ⟨hk, hd, b0, b1, b2⟩ := hs
  obtain ⟨_, e1, e2, e3, e4, e5⟩ := H.out
  have q3 := cellAt hd.blk 3
  simp [e5] at q3
  refine (up_do 47 _ p W (fun n w' => n = 0 ∧ ∃ sl' cl', DiskAt w' p (D.write at_ l) gn cn gs cs sl' cl' ∧ Keeps (Foot p gn gs sl) W w' ∧ (∀ k, sl' = some ⟨k, 0, none⟩ → sl = some ⟨k, 0, none⟩ ∨ W.heap.size ≤ k)) (fun _ => rfl) q3 ?_).mono ?_
  · refine (write1_ok w.heap.size (w.heap.size + 1) (w.heap.size + 1 + 1) p at_ l _ sa sb so scap D gn cn gs cs sl cl W hd rfl ?_ ?_ m e1 ?_ e2 ?_ ?_ ?_ ?_ e4 hfit hD hlo).mono ?_
    · simpa using cellAt b0 0
    · simpa using cellAt b1 0
    · simpa using cellAt b2 0
    · exact fun j c hc => (hk.cell (World.block_lt_of_cell? w _ (e3 j c hc)) (fun h => h)).trans (e3 j c hc)
    · exact fun hf => Nat.lt_irrefl _ (H.out.1.foot_lt _ hf)
    · exact fun hf => by have := H.out.1.foot_lt _ hf; omega
    · exact fun hf => by have := H.out.1.foot_lt _ hf; omega
    · rintro e w' ⟨rfl, r⟩
      exact ⟨0, rfl, rfl, r⟩
  · rintro e w' ⟨n, rfl, rfl, sl', cl', r1, r2, r3⟩
    go_wp2
    go_ret
    refine ⟨rfl, _, ⟨gn, cn, gs, cs, sl', cl', r1, rfl⟩, (hk.mono (fun _ _ h => h.elim)).trans r2 (fun _ _ h => h), fun k hf => ?_⟩
    rcases hf with hf | hf | hf | hf
    · exact Or.inl (Or.inl hf)
    · exact Or.inl (Or.inr (Or.inl hf))
    · exact Or.inl (Or.inr (Or.inr (Or.inl hf)))
    · rcases r3 k hf with h' | h'
      · exact Or.inl (Or.inr (Or.inr (Or.inr h')))
      · right; have := hk.size; omega

theorem write_down (p : Nat) (at_ : Int) (sa : Option Addr) (m scap : Nat) (D : DS) (F : Nat → Prop) (w : World) (h : Disk w p D F) (hcr : D.cr = true) :
    Calls Try.prog 19 #[.pointer (some ⟨p, 0, none⟩), .int .i64 at_, .slice sa m scap] w fun e w' => e = .returned (.int .i64 30) ∧ Keeps (fun _ => False) w w' := by
  obtain ⟨gn, cn, gs, cs, sl, cl, h, rfl⟩ := h
  have H := Lib.hid (And.intro h hcr)
  clear h hcr
  go_enter Try.func19, Try.ntmps19
  go_wp2_with fail
  have hs := box3 H.out.1 (.cells #[.pointer (some ⟨p, 0, none⟩)] 24) (.cells #[.int .i64 at_] 3) (.cells #[.slice sa m scap] 23)
  generalize (((w.alloc (.cells #[.pointer (some ⟨p, 0, none⟩)] 24)).alloc (.cells #[.int .i64 at_] 3)).alloc (.cells #[.slice sa m scap] 23)) = W at hs
  obtain ⟨hk, hd, b0, b1, b2⟩ := hs
  have q3 := cellAt hd.blk 3
  simp [H.out.2] at q3
  refine (up_no 47 _ p W q3).mono ?_
  rintro e w' ⟨rfl, rfl⟩
  go_wp2
  go_ret
  exact ⟨rfl, hk⟩

theorem in_no (b : Nat) (at_ n : Int) (a : Option Addr) (len cap : Nat) (w : World) (hl : len ≤ 65536)
   (hc : w.cell? ⟨b, 0, none⟩ = some (.slice a len cap)) (h : inB at_ n len = false) :
    Calls Try.prog 48 #[.pointer (some ⟨b, 0, none⟩), .int .i64 at_, .int .i64 n] w fun e w' => e = .returned (.bool false) ∧ w = w' := by
  rw [← h]; exact in_any b at_ n a len cap w hl hc

theorem write1_no (c0 c1 c2 p : Nat) (at_ : Int) (m n : Nat) (sa a : Option Addr) (scap cn : Nat) (w : World)
    (k0 : w.cell? ⟨c0, 0, none⟩ = some (.pointer (some ⟨p, 0, none⟩))) (k1 : w.cell? ⟨c1, 0, none⟩ = some (.int .i64 at_)) (k2 : w.cell? ⟨c2, 0, none⟩ = some (.slice sa m scap))
    (q0 : w.cell? ⟨p, 0, none⟩ = some (.slice a n cn)) (hD : n ≤ 65536) (hi : inB at_ m n = false) :
    Calls Try.prog 47 #[.pointer (some ⟨c0, 0, none⟩), .pointer (some ⟨c1, 0, none⟩), .pointer (some ⟨c2, 0, none⟩)] w fun e w' => e = .returned (.int .i64 8) ∧ w = w' := by
  have HI := Lib.hid hi
  clear hi
  go_enter Try.func47, Try.ntmps47
  go_wp2_with fail
  refine (in_no p at_ m _ n cn _ hD q0 HI.out).mono ?_
  rintro e w' ⟨rfl, rfl⟩
  go_wp2_with fail
  go_ret
  exact ⟨rfl, rfl⟩

theorem write_no (p : Nat) (at_ : Int) (m : Nat) (sa : Option Addr) (scap : Nat) (D : DS) (F : Nat → Prop) (w : World) (h : Disk w p D F) (hcr : D.cr = false) (hD : D.now.length ≤ 65536) (hi : inB at_ m D.now.length = false) :
    Calls Try.prog 19 #[.pointer (some ⟨p, 0, none⟩), .int .i64 at_, .slice sa m scap] w fun e w' => e = .returned (.int .i64 8) ∧ Keeps (fun _ => False) w w' := by
  obtain ⟨gn, cn, gs, cs, sl, cl, h, rfl⟩ := h
  have H := Lib.hid (And.intro h (And.intro hcr hi))
  clear h hcr hi
  go_enter Try.func19, Try.ntmps19
  go_wp2_with fail
  have hs := box3 H.out.1 (.cells #[.pointer (some ⟨p, 0, none⟩)] 24) (.cells #[.int .i64 at_] 3) (.cells #[.slice sa m scap] 23)
  generalize (((w.alloc (.cells #[.pointer (some ⟨p, 0, none⟩)] 24)).alloc (.cells #[.int .i64 at_] 3)).alloc (.cells #[.slice sa m scap] 23)) = W at hs
  obtain ⟨hk, hd, b0, b1, b2⟩ := hs
  have q3 := cellAt hd.blk 3
  simp [H.out.2.1] at q3
  refine (up_do 47 _ p W (fun n w' => n = 8 ∧ W = w') (fun _ => rfl) q3 ?_).mono ?_
  · refine (write1_no w.heap.size (w.heap.size + 1) (w.heap.size + 1 + 1) p at_ m D.now.length sa (some ⟨gn, 0, none⟩) scap cn W (by simpa using cellAt b0 0) (by simpa using cellAt b1 0) (by simpa using cellAt b2 0) (by simpa using cellAt hd.blk 0) hD H.out.2.2).mono ?_
    rintro e w' ⟨rfl, rfl⟩
    exact ⟨8, rfl, rfl, rfl⟩
  · rintro e w' ⟨n, rfl, rfl, rfl⟩
    go_wp2
    go_ret
    exact ⟨rfl, hk⟩
end Go.Proofs.Ytpojkhjenbbodaa

namespace Go.Proofs.Ytpojkhjenbbodaa
open Go.RowKit
attribute [local go_sem ↓] Go.wp_at_zero Go.wp_at_succ

def DS.sync (D : DS) : DS := { D with sure := D.now, lo := [] }

theorem splice_all {α : Type} (a b : List α) (h : a.length = b.length) : splice a 0 b = b := by
  simp [splice, h]

section
variable {w w' : World} {p : Nat} {D : DS} {gn cn gs cs : Nat} {sl : Option Addr} {cl : Nat}
theorem DiskAt.sure_len (h : DiskAt w p D gn cn gs cs sl cl) : D.sure.length = D.now.length := by
  have := h.sure.1
  simpa using this

/-- Behind Sync's copy and store. -/
theorem DiskAt.synced (h : DiskAt w p D gn cn gs cs sl cl) (hown : w'.ownsRow 0 5 1 (.slice (some ⟨gs, 0, none⟩) D.now.length cs) D.now.length (splice (BV D.sure) 0 (BV D.now))) (hg : w.grownBy w' (some gs)) :
    DiskAt (w'.setCell ⟨p, 2, none⟩ (.slice none 0 0)) p D.sync gn cn gs cs none 0 ∧ Keeps (Foot p gn gs sl) w (w'.setCell ⟨p, 2, none⟩ (.slice none 0 0)) := by
  have ap := h.apart
  have nl := h.nlt
  have hk : Keeps (fun k => k = gs) w w' := keeps_grown hg (fun k e => (Option.some.inj e).symm)
  have hk2 : Keeps (fun k => k = p) w' (w'.setCell ⟨p, 2, none⟩ (.slice none 0 0)) := (Keeps.refl (fun k => k = p) w').setCell (p := ⟨p, 2, none⟩) (fun _ => rfl) _
  have hk3 : Keeps (fun k => k = p ∨ k = gs) w (w'.setCell ⟨p, 2, none⟩ (.slice none 0 0)) :=
    (hk.mono (fun _ _ h => Or.inr h)).trans hk2 (fun _ _ h => Or.inl h)
  have hb' : w'.heap[p]? = w.heap[p]? := hk.block p nl.1 ap.2.1
  rw [splice_all _ _ (by simp [h.sure_len])] at hown
  refine ⟨⟨?_, ?_, ?_, ?_, h.ne⟩, hk3.mono (fun k _ e => ?_)⟩
  · rw [heap_setCell_at (hb'.trans h.blk)]; simp [DS.sync]
  · exact own_keep h.now hk3 (fun k e => by simp [Value.ownBlock] at e; omega)
  · exact own_keep hown hk2 (fun k e => by simp [Value.ownBlock] at e; omega)
  · exact World.ownsRow_nil _ _ _ _
  · rcases e with rfl | rfl
    · exact Or.inl rfl
    · exact Or.inr (Or.inr (Or.inl rfl))
end

set_option maxRecDepth 10000 in
set_option maxHeartbeats 1000000 in
theorem sync1_ok (c0 p : Nat) (n : Nat) (D : DS) (gn cn gs cs : Nat) (sl : Option Addr) (cl : Nat) (w : World)
    (h : DiskAt w p D gn cn gs cs sl cl) (hn : D.now.length = n) (k0 : w.cell? ⟨c0, 0, none⟩ = some (.pointer (some ⟨p, 0, none⟩)))
    (n0 : ¬ Foot p gn gs sl c0) :
    Calls Try.prog 53 #[.pointer (some ⟨c0, 0, none⟩)] w fun e w' => e = .returned (.int .i64 0) ∧
      DiskAt w' p D.sync gn cn gs cs none 0 ∧ Keeps (Foot p gn gs sl) w w' := by
  have q0 := cellAt h.blk 0
  have q1 := cellAt h.blk 1
  have z2 := freeAt h.blk 2
  rw [hn] at q0 q1
  simp at q0 q1
  have HO : Hid (w.ownsRow 0 5 1 (.slice (some ⟨gs, 0, none⟩) n cs) n (BV D.sure)) := by rw [← hn]; exact h.sure
  have HC : Hid (∀ w1 : World, w.drew.grownBy w1 (some gs) → (w1.cell? ⟨c0, 0, none⟩ = some (.pointer (some ⟨p, 0, none⟩)) ∧ w1.cell? ⟨p, 0, none⟩ = some (.slice (some ⟨gn, 0, none⟩) n cn) ∧ w1.cell? ⟨p, 1, none⟩ = some (.slice (some ⟨gs, 0, none⟩) n cs)) ∧ (∃ v, w1.cell? ⟨p, 2, none⟩ = some v) ∧ w1.frozen? ⟨p, 2, none⟩ = false) := by
    intro w1 hg
    have hk : Keeps (fun k => k = gs) w w1 := (Keeps.refl _ w).drew.grown hg (fun k e _ => (Option.some.inj e).symm)
    have ap := h.apart.2.1
    refine ⟨⟨?_, ?_, ?_⟩, ?_, ?_⟩
    · rw [hk.cell (World.block_lt_of_cell? w _ k0) (fun e => n0 (Or.inr (Or.inr (Or.inl e))))]; exact k0
    · exact (hk.cell (p := ⟨p, 0, none⟩) h.nlt.1 ap).trans q0
    · exact (hk.cell (p := ⟨p, 1, none⟩) h.nlt.1 ap).trans q1
    · exact ⟨_, (hk.cell (p := ⟨p, 2, none⟩) h.nlt.1 ap).trans (cellAt h.blk 2)⟩
    · exact (hk.frozen (p := ⟨p, 2, none⟩) h.nlt.1 ap).trans z2
  have HP : Hid (∀ (j : Nat) (v : Value), (BV D.now)[j]? = some v → w.drew.cell? ((⟨gn, 0, none⟩ : Addr).add j) = some v) := by
    intro j v hv
    rw [addr_add, Nat.zero_add]
    exact own_cell h.now j v hv
  have H := Lib.hid h
  have HN := Lib.hid hn
  have HF := Lib.hid n0
  clear h hn n0
  go_enter Try.func53, Try.ntmps53
  go_wp2_with fail
  go_region_held3 (fun w' => w'.cell? ⟨c0, 0, none⟩ = some (.pointer (some ⟨p, 0, none⟩)) ∧ w'.cell? ⟨p, 0, none⟩ = some (.slice (some ⟨gn, 0, none⟩) n cn) ∧ w'.cell? ⟨p, 1, none⟩ = some (.slice (some ⟨gs, 0, none⟩) n cs))
    (first | exact (HC.out _ hg1).1 | go_keep)
    ((refine step_copy _ (by rfl) (.tmp 5) (.tmp 9) 23 23 (by rfl) 5 Try.underlying23 (by kernel_rfl) _ _ _ _ _ _ (by rfl) (by rfl) 0 gs n cs (BV D.sure) HO.out.drew 0 (BV D.now) (by rw [BV_length, HN.out]; exact (Nat.min_self _).symm) (by rw [BV_length, HN.out]; omega) (fun _ => ⟨rfl, ⟨gn, 0, none⟩, rfl, HP.out⟩) (BV_one _) ?_; intro w1 hown1 hg1))
  obtain ⟨⟨e0, e1, e2⟩, ⟨v2, e3⟩, e4⟩ := HC.out _ hg1
  have R := DiskAt.synced (w := w.drew) (H.out.keep (Keeps.refl (fun _ => False) w).drew (fun _ _ h => h)) (by rw [HN.out]; exact hown1) hg1
  have HR := Lib.hid R
  clear R hown1 hg1
  go_wp2
  go_ret
  exact ⟨rfl, HR.out.1, ((Keeps.refl _ w).drew).trans HR.out.2 (fun _ _ h => h)⟩

theorem box1 {w : World} {p : Nat} {D : DS} {gn cn gs cs : Nat} {sl : Option Addr} {cl : Nat} (h : DiskAt w p D gn cn gs cs sl cl) (a : Obj) :
    Keeps (fun _ => False) w (w.alloc a) ∧ DiskAt (w.alloc a) p D gn cn gs cs sl cl ∧ (w.alloc a).heap[w.heap.size]? = some a :=
  ⟨(Keeps.refl _ w).alloc a, h.keep ((Keeps.refl _ w).alloc a) (fun _ _ h => h), heap_alloc_new w a⟩

theorem foot_same {p gn gs : Nat} {sl : Option Addr} : ∀ k, Foot p gn gs none k → Foot p gn gs sl k := by
  intro k hk
  rcases hk with h | h | h | h
  · exact Or.inl h
  · exact Or.inr (Or.inl h)
  · exact Or.inr (Or.inr (Or.inl h))
  · cases h

theorem sync_ok (p : Nat) (D : DS) (F : Nat → Prop) (w : World) (h : Disk w p D F) (hcr : D.cr = false) :
    Calls Try.prog 28 #[.pointer (some ⟨p, 0, none⟩)] w fun e w' => e = .returned (.int .i64 0) ∧
      ∃ F', Disk w' p D.sync F' ∧ Keeps F w w' ∧ (∀ k, F' k → F k ∨ w.heap.size ≤ k) := by
  obtain ⟨gn, cn, gs, cs, sl, cl, h, rfl⟩ := h
  have H := Lib.hid (And.intro h hcr)
  clear h hcr
  go_enter Try.func28, Try.ntmps28
  go_wp2_with fail
  have hs := box1 H.out.1 (.cells #[.pointer (some ⟨p, 0, none⟩)] 24)
  generalize w.alloc (.cells #[.pointer (some ⟨p, 0, none⟩)] 24) = W at hs
  obtain ⟨hk, hd, b0⟩ := hs
  have q3 := cellAt hd.blk 3
  simp [H.out.2] at q3
  refine (up_do 53 _ p W (fun n w' => n = 0 ∧ DiskAt w' p D.sync gn cn gs cs none 0 ∧ Keeps (Foot p gn gs sl) W w') (fun _ => rfl) q3 ?_).mono ?_
  · refine (sync1_ok w.heap.size p _ D gn cn gs cs sl cl W hd rfl (by simpa using cellAt b0 0) (fun hf => Nat.lt_irrefl _ (H.out.1.foot_lt _ hf))).mono ?_
    rintro e w' ⟨rfl, r⟩
    exact ⟨0, rfl, rfl, r⟩
  · rintro e w' ⟨n, rfl, rfl, r1, r2⟩
    go_wp2
    go_ret
    exact ⟨rfl, _, ⟨gn, cn, gs, cs, none, 0, r1, rfl⟩, (hk.mono (fun _ _ h => h.elim)).trans r2 (fun _ _ h => h), fun k hf => Or.inl (foot_same k hf)⟩

theorem sync_down (p : Nat) (D : DS) (F : Nat → Prop) (w : World) (h : Disk w p D F) (hcr : D.cr = true) :
    Calls Try.prog 28 #[.pointer (some ⟨p, 0, none⟩)] w fun e w' => e = .returned (.int .i64 30) ∧ Keeps (fun _ => False) w w' := by
  obtain ⟨gn, cn, gs, cs, sl, cl, h, rfl⟩ := h
  have H := Lib.hid (And.intro h hcr)
  clear h hcr
  go_enter Try.func28, Try.ntmps28
  go_wp2_with fail
  have hs := box1 H.out.1 (.cells #[.pointer (some ⟨p, 0, none⟩)] 24)
  generalize w.alloc (.cells #[.pointer (some ⟨p, 0, none⟩)] 24) = W at hs
  obtain ⟨hk, hd, b0⟩ := hs
  have q3 := cellAt hd.blk 3
  simp [H.out.2] at q3
  refine (up_no 53 _ p W q3).mono ?_
  rintro e w' ⟨rfl, rfl⟩
  go_wp2
  go_ret
  exact ⟨rfl, hk⟩
end Go.Proofs.Ytpojkhjenbbodaa

namespace Go.Proofs.Ytpojkhjenbbodaa
open Go.RowKit
attribute [local go_sem ↓] Go.wp_at_zero Go.wp_at_succ

def putLo (s : List UInt8) (x : Nat × UInt8) : List UInt8 := s.set x.1 x.2
def DS.left (D : DS) (k : Nat) : List UInt8 := (D.lo.take k).foldl putLo D.sure

theorem left_succ (D : DS) (i : Nat) (x : Nat × UInt8) (h : D.lo[i]? = some x) : D.left (i + 1) = (D.left i).set x.1 x.2 := by
  have hi := (List.getElem?_eq_some_iff.1 h).1
  simp only [DS.left]
  rw [List.take_succ_eq_append_getElem hi, List.foldl_append, (List.getElem?_eq_some_iff.1 h).2]
  rfl
theorem left_len (D : DS) (i : Nat) : (D.left i).length = D.sure.length := by
  simp only [DS.left]
  generalize D.lo.take i = l
  generalize D.sure = s
  induction l generalizing s with
  | nil => rfl
  | cons x l ih => simp only [List.foldl_cons]; rw [ih]; simp [putLo]
theorem LV_at (l : List (Nat × UInt8)) (i : Nat) (x : Nat × UInt8) (h : l[i]? = some x) : (LV l)[i * 2]? = some (.int .i64 x.1) ∧ (LV l)[i * 2 + 1]? = some (.int .u8 x.2.toNat) := by
  induction l generalizing i with
  | nil => simp at h
  | cons y l ih =>
    cases i with
    | zero => simp at h; subst h; simp [LV]
    | succ i =>
      have := ih i (by simpa using h)
      simp only [LV, List.flatMap_cons] at this ⊢
      rw [show (i + 1) * 2 = i * 2 + 2 by omega]
      simpa using this

section
variable {w w0 : World} {p : Nat} {D : DS} {gn cn gs cs : Nat} {sl : Option Addr} {cl : Nat}
theorem DiskAt.putSure (h : DiskAt w p D gn cn gs cs sl cl) (h0 : Keeps (fun _ => False) w w0) (a : Nat) (b : UInt8) :
    DiskAt (w0.setCell ⟨gs, a, none⟩ (.int .u8 b.toNat)) p { D with sure := D.sure.set a b } gn cn gs cs sl cl ∧ Keeps (Foot p gn gs sl) w (w0.setCell ⟨gs, a, none⟩ (.int .u8 b.toNat)) := by
  have ap := h.apart
  have h1 := h.keep h0 (fun _ _ h => h)
  have hk : Keeps (fun k => k = gs) w0 (w0.setCell ⟨gs, a, none⟩ (.int .u8 b.toNat)) := (Keeps.refl (fun k => k = gs) w0).setCell (p := ⟨gs, a, none⟩) (fun _ => rfl) _
  refine ⟨⟨?_, ?_, ?_, ?_, h.ne⟩, (h0.mono (fun _ _ h => h.elim)).trans hk (fun k _ e => Or.inr (Or.inr (Or.inl e)))⟩
  · rw [hk.block p h1.nlt.1 ap.2.1]; exact h1.blk
  · exact own_keep h1.now hk (fun k e => by simp [Value.ownBlock] at e; omega)
  · have := (h1.sure.stored a (.int .u8 b.toNat)).1
    simpa [BV, List.map_set] using this
  · exact own_keep h1.lo hk (fun k e => by
      rcases own_addr h1.lo with ⟨rfl, _⟩ | ⟨g, rfl⟩
      · simp [Value.ownBlock] at e
      · simp [Value.ownBlock] at e; have := (ap.2.2.2 g rfl).2.2; omega)
end

theorem DiskAt.crashed {w w' : World} {p : Nat} {D : DS} {gn cn gs cs : Nat} {sl : Option Addr} {cl : Nat} (h : DiskAt w p D gn cn gs cs sl cl)
    (hown : w'.ownsRow 0 5 1 (.slice (some ⟨gn, 0, none⟩) D.now.length cn) D.now.length (splice (BV D.now) 0 (BV D.sure))) (hg : w.grownBy w' (some gn)) :
    DiskAt ((w'.setCell ⟨p, 2, none⟩ (.slice none 0 0)).setCell ⟨p, 3, none⟩ (.bool true)) p ⟨D.sure, D.sure, [], true⟩ gn cn gs cs none 0 ∧ Keeps (Foot p gn gs sl) w ((w'.setCell ⟨p, 2, none⟩ (.slice none 0 0)).setCell ⟨p, 3, none⟩ (.bool true)) := by
  have ap := h.apart
  have nl := h.nlt
  have hk : Keeps (fun k => k = gn) w w' := keeps_grown hg (fun k e => (Option.some.inj e).symm)
  have hk2 : Keeps (fun k => k = p) w' ((w'.setCell ⟨p, 2, none⟩ (.slice none 0 0)).setCell ⟨p, 3, none⟩ (.bool true)) :=
    ((Keeps.refl (fun k => k = p) w').setCell (p := ⟨p, 2, none⟩) (fun _ => rfl) _).setCell (p := ⟨p, 3, none⟩) (fun _ => rfl) _
  have hk3 : Keeps (fun k => k = p ∨ k = gn) w ((w'.setCell ⟨p, 2, none⟩ (.slice none 0 0)).setCell ⟨p, 3, none⟩ (.bool true)) :=
    (hk.mono (fun _ _ h => Or.inr h)).trans hk2 (fun _ _ h => Or.inl h)
  have hb' : w'.heap[p]? = w.heap[p]? := hk.block p nl.1 ap.1
  have hs := h.sure_len
  rw [splice_all _ _ (by simp [hs])] at hown
  refine ⟨⟨?_, ?_, ?_, ?_, h.ne⟩, hk3.mono (fun k _ e => ?_)⟩
  · rw [heap_setCell_at (heap_setCell_at (hb'.trans h.blk) _ _)]; simp [hs]
  · simpa [hs] using own_keep hown hk2 (fun k e => by simp [Value.ownBlock] at e; omega)
  · simpa [hs] using own_keep h.sure hk3 (fun k e => by simp [Value.ownBlock] at e; omega)
  · exact World.ownsRow_nil _ _ _ _
  · rcases e with rfl | rfl
    · exact Or.inl rfl
    · exact Or.inr (Or.inl rfl)

/-- What holds at the head of each round of Crash's loop. -/
def CRel (w : World) (p : Nat) (D : DS) (gn cn gs cs : Nat) (sl : Option Addr) (cl : Nat) (m : Nat) (i : Value) (wr : World) : Prop :=
  ∃ (k : Nat), k ≤ m ∧ i = .int .i64 k ∧ DiskAt wr p { D with sure := D.left k } gn cn gs cs sl cl ∧ Keeps (Foot p gn gs sl) w wr

set_option maxRecDepth 10000 in
set_option maxHeartbeats 1000000 in
theorem crash1_ok (c0 c1 p : Nat) (left : Int) (n nl : Nat) (D : DS) (gn cn gs cs : Nat) (sl : Option Addr) (cl : Nat) (w : World)
    (h : DiskAt w p D gn cn gs cs sl cl) (hn : D.now.length = n) (hnl : D.lo.length = nl) (k0 : w.cell? ⟨c0, 0, none⟩ = some (.pointer (some ⟨p, 0, none⟩))) (k1 : w.cell? ⟨c1, 0, none⟩ = some (.int .i64 left))
    (n0 : ¬ Foot p gn gs sl c0) (n1 : ¬ Foot p gn gs sl c1) (hlo : nl ≤ 2000000) (hin : ∀ x ∈ D.lo, x.1 < n) (mx : Int) (k : Nat) (e1 : (if left < 0 then 0 else left) = mx) (e2 : (if (nl : Int) < mx then (nl : Int) else mx) = (k : Int)) :
    Calls Try.prog 64 #[.pointer (some ⟨c0, 0, none⟩), .pointer (some ⟨c1, 0, none⟩)] w fun e w' => e = .returned (.int .i64 0) ∧
      DiskAt w' p ⟨D.left k, D.left k, [], true⟩ gn cn gs cs none 0 ∧ Keeps (Foot p gn gs sl) w w' := by
  have q0 := cellAt h.blk 0
  have q1 := cellAt h.blk 1
  have q2 := cellAt h.blk 2
  have z2 := freeAt h.blk 2
  rw [hn] at q0 q1
  rw [hnl] at q2
  simp at q0 q1 q2
  have hcl : nl ≤ cl := by
    rcases h.lo.2 with ⟨h', h''⟩ | ⟨_, _, _, h', _, _, h'', _⟩
    · omega
    · simp at h'; omega
  have hk : k ≤ nl := by split at e2 <;> omega
  have i1 : (0 : Int) ≤ (k : Int) := by omega
  have i2 : (k : Int) ≤ (nl : Int) := by omega
  have i3 : (nl : Int) ≤ (cl : Int) := by omega
  have i4 : (k : Int) ≤ (cl : Int) := by omega
  have H := Lib.hid h
  have HN := Lib.hid (And.intro hn (And.intro hnl (And.intro n0 (And.intro n1 hin))))
  clear h hn hnl n0 n1 hin
  go_enter Try.func64, Try.ntmps64
  go_wp2_with fail
  go_quiet (fail)
  have h0 : DiskAt (w.drewN nq) p { D with sure := D.left 0 } gn cn gs cs sl cl := H.out.keep (w' := w.drewN nq) ⟨rfl, rfl, rfl, Nat.le_refl _, fun _ _ _ => rfl⟩ (fun _ _ (h : False) => h)
  have hk0 : Keeps (Foot p gn gs sl) w (w.drewN nq) := ⟨rfl, rfl, rfl, Nat.le_refl _, fun _ _ _ => rfl⟩
  have H0 := Lib.hid (And.intro h0 hk0)
  clear h0 hk0
  go_wp2_with fail
  go_loopw [19] (fun i wr => CRel w p D gn cn gs cs sl cl k i wr) (fun i _ => k - (intOf i).toNat)
  case atStart => exact ⟨0, Nat.zero_le _, rfl, H0.out.1, H0.out.2⟩
  case round =>
    obtain ⟨i, hi, rfl, hd, hkp⟩ := hrel
    have HD := Lib.hid hd
    have HKP := Lib.hid hkp
    clear hd hkp
    by_cases hlt : i < k
    · obtain ⟨hn, hnl, n0, n1, hin⟩ := HN.out
      obtain ⟨x, hx⟩ : ∃ x, D.lo[i]? = some x := ⟨_, List.getElem?_eq_getElem (by omega)⟩
      have hxn := hin x (List.mem_of_getElem? hx)
      obtain ⟨gl, rfl⟩ : ∃ gl, sl = some ⟨gl, 0, none⟩ := by
        rcases own_addr H.out.lo with ⟨_, h, _⟩ | h
        · omega
        · exact h
      have c1 := own_cell HD.out.lo _ _ (LV_at _ _ _ hx).1
      have c2 := own_cell HD.out.lo _ _ (LV_at _ _ _ hx).2
      have r0 : wr.cell? ⟨c0, 0, none⟩ = some (.pointer (some ⟨p, 0, none⟩)) := (HKP.out.cell (World.block_lt_of_cell? w _ k0) n0).trans k0
      have r1 := cellAt HD.out.blk 1
      simp only [hn] at r1
      simp at r1
      have HX := Lib.hid hx
      clear hn hnl n0 n1 hin hx k0 k1 q0 q1 q2 z2
      have j1 : (0 : Int) ≤ (i : Int) := by omega
      have j2 : (i : Int) < (k : Int) := by omega
      have hW : Hid (∀ X, X = Obj.cells #[.int .i64 (x.1 : Int), .int .u8 (x.2.toNat : Int)] 90 → Keeps (fun _ => False) wr (wr.alloc X) ∧ (wr.alloc X).cell? ⟨c0, 0, none⟩ = some (.pointer (some ⟨p, 0, none⟩)) ∧ (wr.alloc X).cell? ⟨p, 1, none⟩ = some (.slice (some ⟨gs, 0, none⟩) n cs) ∧
          (wr.alloc X).cell? ⟨wr.heap.size, 0, none⟩ = some (.int .i64 (x.1 : Int)) ∧ (wr.alloc X).cell? ⟨wr.heap.size, 1, none⟩ = some (.int .u8 (x.2.toNat : Int)) ∧ (∃ v, (wr.alloc X).cell? ⟨gs, x.1, none⟩ = some v) ∧ (wr.alloc X).frozen? ⟨gs, x.1, none⟩ = false) := by
        intro X hX
        have hk := (Keeps.refl (fun _ => False) wr).alloc X
        have hnew := heap_alloc_new wr X
        subst hX
        refine ⟨hk, (hk.cell (World.block_lt_of_cell? wr _ r0) (fun h => h)).trans r0, (hk.cell (World.block_lt_of_cell? wr _ r1) (fun h => h)).trans r1, by rw [cellAt hnew 0]; rfl, by rw [cellAt hnew 1]; rfl, ?_, ?_⟩
        · have hc := HD.out.sure.cellAt x.1 (by simp only [HN.out.1]; omega)
          rw [List.getElem?_eq_getElem (by simp only [BV_length, left_len, H.out.sure_len, HN.out.1]; omega)] at hc
          exact ⟨_, (hk.cell (p := ⟨gs, x.1, none⟩) HD.out.nlt.2.2.1 (fun h => h)).trans hc⟩
        · exact (hk.frozen (p := ⟨gs, x.1, none⟩) HD.out.nlt.2.2.1 (fun h => h)).trans (HD.out.sure.frozenAt _)
      have HN0 : Hid (c0 ≠ gs ∧ p ≠ gs ∧ wr.heap.size ≠ gs) := ⟨fun e => HN.out.2.2.1 (Or.inr (Or.inr (Or.inl e))), HD.out.apart.2.1, fun e => by have := HD.out.nlt.2.2.1; omega⟩
      go_wp2_with fail
      have hw := hW.out _ rfl
      generalize wr.alloc (Obj.cells #[.int .i64 (x.1 : Int), .int .u8 (x.2.toNat : Int)] 90) = W at hw
      obtain ⟨hk2, s0, s1, s2, s3, ⟨v4, s4⟩, s5⟩ := hw
      have HK2 := Lib.hid hk2
      clear hk2 hW r0 r1 c1 c2
      generalize wr.heap.size = b4 at *
      have m1 : (0 : Int) ≤ (x.1 : Int) := by omega
      have m2 : (x.1 : Int) < (n : Int) := by omega
      have HS2 : Hid (∀ v, ((W.setCell ⟨gs, x.1, none⟩ v).cell? ⟨c0, 0, none⟩ = some (.pointer (some ⟨p, 0, none⟩)) ∧ (W.setCell ⟨gs, x.1, none⟩ v).cell? ⟨p, 1, none⟩ = some (.slice (some ⟨gs, 0, none⟩) n cs) ∧ (W.setCell ⟨gs, x.1, none⟩ v).cell? ⟨b4, 0, none⟩ = some (.int .i64 (x.1 : Int)) ∧ (W.setCell ⟨gs, x.1, none⟩ v).cell? ⟨b4, 1, none⟩ = some (.int .u8 (x.2.toNat : Int)))) := by
        intro v
        have hk : Keeps (fun k => k = gs) W (W.setCell ⟨gs, x.1, none⟩ v) := (Keeps.refl (fun k => k = gs) W).setCell (p := ⟨gs, x.1, none⟩) (fun _ => rfl) _
        exact ⟨(hk.cell (World.block_lt_of_cell? W _ s0) HN0.out.1).trans s0, (hk.cell (World.block_lt_of_cell? W _ s1) HN0.out.2.1).trans s1, (hk.cell (World.block_lt_of_cell? W _ s2) HN0.out.2.2).trans s2, (hk.cell (World.block_lt_of_cell? W _ s3) HN0.out.2.2).trans s3⟩
      go_region_held3 (fun w' => w'.cell? ⟨c0, 0, none⟩ = some (.pointer (some ⟨p, 0, none⟩)) ∧ w'.cell? ⟨p, 1, none⟩ = some (.slice (some ⟨gs, 0, none⟩) n cs) ∧ w'.cell? ⟨b4, 0, none⟩ = some (.int .i64 (x.1 : Int)) ∧ w'.cell? ⟨b4, 1, none⟩ = some (.int .u8 (x.2.toNat : Int)))
        (first | exact HS2.out _ | go_keep) (fail)
      have R := DiskAt.putSure HD.out HK2.out x.1 x.2
      have HR := Lib.hid R
      clear R s0 s1 s2 s3 s4 s5
      go_wp2
      go_roundw
      case rel =>
        obtain ⟨R1, R2⟩ := HR.out
        refine ⟨i + 1, by omega, by go_num, ?_, (HKP.out.trans R2 (fun _ _ h => h)).drew⟩
        have e : { { D with sure := D.left i } with sure := (D.left i).set x.1 x.2 } = { D with sure := D.left (i + 1) } := by rw [left_succ D i x HX.out]
        rw [← e]
        exact R1.keep (Keeps.refl (fun _ => False) _).drew (fun _ _ h => h)
      case measure => simp [intOf]; omega
    · obtain rfl : i = k := by omega
      obtain ⟨hn, hnl, n0, n1, hin⟩ := HN.out
      have r0 : wr.cell? ⟨c0, 0, none⟩ = some (.pointer (some ⟨p, 0, none⟩)) := (HKP.out.cell (World.block_lt_of_cell? w _ k0) n0).trans k0
      have r1 := cellAt HD.out.blk 1
      have r2 := cellAt HD.out.blk 0
      simp only [hn] at r1 r2
      simp at r1 r2
      have HO : Hid (wr.ownsRow 0 5 1 (.slice (some ⟨gn, 0, none⟩) n cn) n (BV D.now)) := by rw [← hn]; exact HD.out.now
      have HC : Hid (∀ w1 : World, wr.drew.grownBy w1 (some gn) → (w1.cell? ⟨c0, 0, none⟩ = some (.pointer (some ⟨p, 0, none⟩)) ∧ w1.cell? ⟨p, 0, none⟩ = some (.slice (some ⟨gn, 0, none⟩) n cn) ∧ w1.cell? ⟨p, 1, none⟩ = some (.slice (some ⟨gs, 0, none⟩) n cs)) ∧ (∃ v, w1.cell? ⟨p, 2, none⟩ = some v) ∧ (∃ v, w1.cell? ⟨p, 3, none⟩ = some v) ∧ w1.frozen? ⟨p, 2, none⟩ = false ∧ w1.frozen? ⟨p, 3, none⟩ = false) := by
        intro w1 hg
        have hk : Keeps (fun k => k = gn) wr w1 := (Keeps.refl _ wr).drew.grown hg (fun k e _ => (Option.some.inj e).symm)
        have ap := HD.out.apart.1
        have lt := HD.out.nlt.1
        refine ⟨⟨?_, ?_, ?_⟩, ?_, ?_, ?_, ?_⟩
        · exact (hk.cell (World.block_lt_of_cell? wr _ r0) (fun e => n0 (Or.inr (Or.inl e)))).trans r0
        · exact (hk.cell (p := ⟨p, 0, none⟩) lt ap).trans r2
        · exact (hk.cell (p := ⟨p, 1, none⟩) lt ap).trans r1
        · exact ⟨_, (hk.cell (p := ⟨p, 2, none⟩) lt ap).trans (cellAt HD.out.blk 2)⟩
        · exact ⟨_, (hk.cell (p := ⟨p, 3, none⟩) lt ap).trans (cellAt HD.out.blk 3)⟩
        · exact (hk.frozen (p := ⟨p, 2, none⟩) lt ap).trans (freeAt HD.out.blk 2)
        · exact (hk.frozen (p := ⟨p, 3, none⟩) lt ap).trans (freeAt HD.out.blk 3)
      have HL : Hid ((BV (D.left i)).length = n) := by show _ = _; simp only [BV_length, left_len, H.out.sure_len, hn]
      have HP : Hid (∀ (j : Nat) (v : Value), (BV (D.left i))[j]? = some v → wr.drew.cell? ((⟨gs, 0, none⟩ : Addr).add j) = some v) := by
        intro j v hv
        rw [addr_add, Nat.zero_add]
        exact own_cell HD.out.sure j v hv
      have HCP : Hid (p ≠ c0) := fun e => n0 (Or.inl e.symm)
      clear hn hnl n0 n1 hin k0 k1 q0 q1 q2 z2 e1 e2
      go_wp2_with fail
      go_region_held3 (fun w' => w'.cell? ⟨c0, 0, none⟩ = some (.pointer (some ⟨p, 0, none⟩)) ∧ w'.cell? ⟨p, 0, none⟩ = some (.slice (some ⟨gn, 0, none⟩) n cn) ∧ w'.cell? ⟨p, 1, none⟩ = some (.slice (some ⟨gs, 0, none⟩) n cs))
        (first | exact (HC.out _ hg1).1 | go_keep)
        ((refine step_copy _ (by rfl) (.tmp 36) (.tmp 40) 23 23 (by rfl) 5 Try.underlying23 (by kernel_rfl) _ _ _ _ _ _ (by rfl) (by rfl) 0 gn n cn (BV D.now) HO.out.drew 0 (BV (D.left i)) (by rw [HL.out]; exact (Nat.min_self _).symm) (by rw [HL.out]; omega) (fun _ => ⟨rfl, ⟨gs, 0, none⟩, rfl, HP.out⟩) (BV_one _) ?_; intro w1 hown1 hg1))
      obtain ⟨⟨e0, e1, e2⟩, ⟨v2, e3⟩, ⟨v3, e4⟩, e5, e6⟩ := HC.out _ hg1
      have R := DiskAt.crashed (w := wr.drew) (HD.out.keep (Keeps.refl (fun _ => False) wr).drew (fun _ _ h => h)) (by simp only [HN.out.1]; exact hown1) hg1
      have HR := Lib.hid R
      clear R hown1 hg1 r0 r1 r2
      have HS3 : Hid (∀ (v : Value) (j : Nat), (w1.setCell ⟨p, j, none⟩ v).cell? ⟨c0, 0, none⟩ = some (.pointer (some ⟨p, 0, none⟩))) := fun v j =>
        (((Keeps.refl (fun k => k = p) w1).setCell (p := ⟨p, j, none⟩) (fun _ => rfl) v).cell (World.block_lt_of_cell? w1 _ e0) (fun e => HCP.out e.symm)).trans e0
      have HS4 : Hid (∀ (v v' : Value) (j j' : Nat), ((w1.setCell ⟨p, j, none⟩ v).setCell ⟨p, j', none⟩ v').cell? ⟨c0, 0, none⟩ = some (.pointer (some ⟨p, 0, none⟩))) := fun v v' j j' =>
        ((((Keeps.refl (fun k => k = p) w1).setCell (p := ⟨p, j, none⟩) (fun _ => rfl) v).setCell (p := ⟨p, j', none⟩) (fun _ => rfl) v').cell (World.block_lt_of_cell? w1 _ e0) (fun e => HCP.out e.symm)).trans e0
      go_wp2_with fail
      go_region_held3 (fun w' => w'.cell? ⟨c0, 0, none⟩ = some (.pointer (some ⟨p, 0, none⟩)))
        (first | exact HS3.out _ _ | exact HS4.out _ _ _ _ | go_keep) (fail)
      go_wp2
      go_ret
      refine ⟨rfl, HR.out.1.keep (Keeps.refl (fun _ => False) _).drew (fun _ _ h => h), ?_⟩
      exact (HKP.out.drew.trans HR.out.2 (fun _ _ h => h)).drew

theorem box2 {w : World} {p : Nat} {D : DS} {gn cn gs cs : Nat} {sl : Option Addr} {cl : Nat} (h : DiskAt w p D gn cn gs cs sl cl) (a b : Obj) :
    Keeps (fun _ => False) w ((w.alloc a).alloc b) ∧ DiskAt ((w.alloc a).alloc b) p D gn cn gs cs sl cl ∧ ((w.alloc a).alloc b).heap[w.heap.size]? = some a ∧ ((w.alloc a).alloc b).heap[w.heap.size + 1]? = some b := by
  have hk : Keeps (fun _ => False) w ((w.alloc a).alloc b) := ((Keeps.refl _ w).alloc a).alloc b
  refine ⟨hk, h.keep hk (fun _ _ h => h), (Below.heap_alloc (w.alloc a) b _ (by simp)).trans (heap_alloc_new w a), by simpa using heap_alloc_new (w.alloc a) b⟩

/-- How many loose bytes a crash leaves. -/
def leftNat (left : Int) (nl : Nat) : Nat := min left.toNat nl
def DS.crash (D : DS) (left : Int) : DS := ⟨D.left (leftNat left D.lo.length), D.left (leftNat left D.lo.length), [], true⟩

theorem crash_ok (p : Nat) (left : Int) (D : DS) (F : Nat → Prop) (w : World) (h : Disk w p D F) (hcr : D.cr = false) (hlo : D.lo.length ≤ 2000000) (hin : ∀ x ∈ D.lo, x.1 < D.now.length) :
    Calls Try.prog 31 #[.pointer (some ⟨p, 0, none⟩), .int .i64 left] w fun e w' => e = .returned (.int .i64 0) ∧
      ∃ F', Disk w' p (D.crash left) F' ∧ Keeps F w w' ∧ (∀ k, F' k → F k ∨ w.heap.size ≤ k) := by
  obtain ⟨gn, cn, gs, cs, sl, cl, h, rfl⟩ := h
  have H := Lib.hid (And.intro h (And.intro hcr hin))
  clear h hcr hin
  go_enter Try.func31, Try.ntmps31
  go_wp2_with fail
  have hs := box2 H.out.1 (.cells #[.pointer (some ⟨p, 0, none⟩)] 24) (.cells #[.int .i64 left] 3)
  generalize (w.alloc (.cells #[.pointer (some ⟨p, 0, none⟩)] 24)).alloc (.cells #[.int .i64 left] 3) = W at hs
  obtain ⟨hk, hd, b0, b1⟩ := hs
  have q3 := cellAt hd.blk 3
  simp [H.out.2.1] at q3
  refine (up_do 64 _ p W (fun n w' => n = 0 ∧ DiskAt w' p (D.crash left) gn cn gs cs none 0 ∧ Keeps (Foot p gn gs sl) W w') (fun _ => rfl) q3 ?_).mono ?_
  · refine (crash1_ok w.heap.size (w.heap.size + 1) p left _ _ D gn cn gs cs sl cl W hd rfl rfl (by simpa using cellAt b0 0) (by simpa using cellAt b1 0) (fun hf => Nat.lt_irrefl _ (H.out.1.foot_lt _ hf)) (fun hf => by have := H.out.1.foot_lt _ hf; omega) hlo H.out.2.2 _ (leftNat left D.lo.length) rfl ?_).mono ?_
    · unfold leftNat; split <;> split at * <;> omega
    · rintro e w' ⟨rfl, r⟩
      exact ⟨0, rfl, rfl, r⟩
  · rintro e w' ⟨n, rfl, rfl, r1, r2⟩
    go_wp2
    go_ret
    exact ⟨rfl, _, ⟨gn, cn, gs, cs, none, 0, r1, rfl⟩, (hk.mono (fun _ _ h => h.elim)).trans r2 (fun _ _ h => h), fun k hf => Or.inl (foot_same k hf)⟩

theorem crash_down (p : Nat) (left : Int) (D : DS) (F : Nat → Prop) (w : World) (h : Disk w p D F) (hcr : D.cr = true) :
    Calls Try.prog 31 #[.pointer (some ⟨p, 0, none⟩), .int .i64 left] w fun e w' => e = .returned (.int .i64 30) ∧ Keeps (fun _ => False) w w' := by
  obtain ⟨gn, cn, gs, cs, sl, cl, h, rfl⟩ := h
  have H := Lib.hid (And.intro h hcr)
  clear h hcr
  go_enter Try.func31, Try.ntmps31
  go_wp2_with fail
  have hs := box2 H.out.1 (.cells #[.pointer (some ⟨p, 0, none⟩)] 24) (.cells #[.int .i64 left] 3)
  generalize (w.alloc (.cells #[.pointer (some ⟨p, 0, none⟩)] 24)).alloc (.cells #[.int .i64 left] 3) = W at hs
  obtain ⟨hk, hd, b0, b1⟩ := hs
  have q3 := cellAt hd.blk 3
  simp [H.out.2] at q3
  refine (up_no 64 _ p W q3).mono ?_
  rintro e w' ⟨rfl, rfl⟩
  go_wp2
  go_ret
  exact ⟨rfl, hk⟩
end Go.Proofs.Ytpojkhjenbbodaa

namespace Go.Proofs.Ytpojkhjenbbodaa
open Go.RowKit
attribute [local go_sem ↓] Go.wp_at_zero Go.wp_at_succ

/-- The inner function of Read, where the bytes are in. -/
def ReadPost (w : World) (c3 n : Nat) (l : List UInt8) (e : Ending) (w' : World) : Prop :=
  e = .returned (.int .i64 0) ∧ ∃ g cap', w'.ownsRow w.heap.size 5 1 (.slice (some ⟨g, 0, none⟩) n cap') n (BV l) ∧ w'.cell? ⟨c3, 0, none⟩ = some (.slice (some ⟨g, 0, none⟩) n cap') ∧ Keeps (fun k => k = c3) w w'

set_option maxRecDepth 10000 in
set_option maxHeartbeats 1000000 in
theorem read1_ok (c0 c1 c2 c3 p at_ m : Nat) (n : Nat) (D : DS) (gn cn gs cs : Nat) (sl : Option Addr) (cl : Nat) (w : World)
    (h : DiskAt w p D gn cn gs cs sl cl) (hn : D.now.length = n) (k0 : w.cell? ⟨c0, 0, none⟩ = some (.pointer (some ⟨p, 0, none⟩))) (k1 : w.cell? ⟨c1, 0, none⟩ = some (.int .i64 at_)) (k2 : w.cell? ⟨c2, 0, none⟩ = some (.int .i64 m))
    (v3 : Value) (k3 : w.cell? ⟨c3, 0, none⟩ = some v3) (z3 : w.frozen? ⟨c3, 0, none⟩ = false)
    (n0 : c0 ≠ c3) (n1 : c1 ≠ c3) (n2 : c2 ≠ c3) (n3 : ¬ Foot p gn gs sl c3)
    (hfit : at_ + m ≤ n) (hD : n ≤ 65536) :
    Calls Try.prog 71 #[.pointer (some ⟨c0, 0, none⟩), .pointer (some ⟨c1, 0, none⟩), .pointer (some ⟨c2, 0, none⟩), .pointer (some ⟨c3, 0, none⟩)] w (ReadPost w c3 m ((D.now.drop at_).take m)) := by
  have q0 := cellAt h.blk 0
  rw [hn] at q0
  simp at q0
  have hcap : n ≤ cn := by have := h.cap; omega
  have hi : inB at_ m n = true := by unfold inB; simp; omega
  have HI := Lib.hid hi
  obtain ⟨ad, had, hadp⟩ : ∃ ad : Addr, (if cn = at_ then some (⟨gn, 0, none⟩ : Addr) else some ⟨gn, at_, none⟩) = some ad ∧ (0 < m → ad = ⟨gn, at_, none⟩) := by
    by_cases e : cn = at_
    · exact ⟨_, if_pos e, fun h => by omega⟩
    · exact ⟨_, if_neg e, fun _ => rfl⟩
  have HL : Hid (((D.now.drop at_).take m).length = m) := by show _ = _; simp; omega
  have HS : Hid (∀ (j : Nat) (c : UInt8), ((D.now.drop at_).take m)[j]? = some c → w.cell? (ad.add j) = some (.int .u8 c.toNat)) := by
    intro j c hc
    have hj : j < m := by have := (List.getElem?_eq_some_iff.1 hc).1; rw [HL.out] at this; exact this
    rw [hadp (by omega), addr_add]
    refine own_cell h.now _ _ ?_
    rw [List.getElem?_take_of_lt hj, List.getElem?_drop] at hc
    rw [BV_get, hc]
    rfl
  have HK : Hid (∀ (w1 : World), Keeps (fun _ => False) w w1 → w1.cell? ⟨c0, 0, none⟩ = some (.pointer (some ⟨p, 0, none⟩)) ∧ w1.cell? ⟨c1, 0, none⟩ = some (.int .i64 at_) ∧ w1.cell? ⟨c2, 0, none⟩ = some (.int .i64 m) ∧ w1.cell? ⟨p, 0, none⟩ = some (.slice (some ⟨gn, 0, none⟩) n cn)) := by
    intro w1 hk
    exact ⟨(hk.cell (World.block_lt_of_cell? w _ k0) (fun h => h)).trans k0, (hk.cell (World.block_lt_of_cell? w _ k1) (fun h => h)).trans k1, (hk.cell (World.block_lt_of_cell? w _ k2) (fun h => h)).trans k2, (hk.cell (World.block_lt_of_cell? w _ q0) (fun h => h)).trans q0⟩
  have HK2 : Hid (∀ (w1 : World) (v : Value), Keeps (fun _ => False) w w1 → (w1.setCell ⟨c3, 0, none⟩ v).cell? ⟨c0, 0, none⟩ = some (.pointer (some ⟨p, 0, none⟩)) ∧ (w1.setCell ⟨c3, 0, none⟩ v).cell? ⟨c1, 0, none⟩ = some (.int .i64 at_) ∧ (w1.setCell ⟨c3, 0, none⟩ v).cell? ⟨c2, 0, none⟩ = some (.int .i64 m) ∧ (w1.setCell ⟨c3, 0, none⟩ v).cell? ⟨p, 0, none⟩ = some (.slice (some ⟨gn, 0, none⟩) n cn)) := by
    intro w1 v hk
    have hk' : Keeps (fun k => k = c3) w (w1.setCell ⟨c3, 0, none⟩ v) := Keeps.setCell (F := fun k => k = c3) (hk.mono (fun _ _ h => h.elim)) (p := ⟨c3, 0, none⟩) (fun _ => rfl) v
    exact ⟨(hk'.cell (World.block_lt_of_cell? w _ k0) n0).trans k0, (hk'.cell (World.block_lt_of_cell? w _ k1) n1).trans k1, (hk'.cell (World.block_lt_of_cell? w _ k2) n2).trans k2, (hk'.cell (World.block_lt_of_cell? w _ q0) (fun e => n3 (Or.inl e.symm))).trans q0⟩
  have HZ : Hid (∀ (w1 : World), Keeps (fun _ => False) w w1 → w1.cell? ⟨c3, 0, none⟩ = some v3 ∧ w1.frozen? ⟨c3, 0, none⟩ = false) := by
    intro w1 hk
    exact ⟨(hk.cell (World.block_lt_of_cell? w _ k3) (fun h => h)).trans k3, (hk.frozen (World.block_lt_of_cell? w _ k3) (fun h => h)).trans z3⟩
  have b1 : (0 : Int) ≤ (at_ : Int) := by omega
  have b2 : (at_ : Int) ≤ (cn : Int) := by omega
  have b3 : (at_ : Int) ≤ (at_ : Int) + (m : Int) := by omega
  have b4 : (at_ : Int) + (m : Int) ≤ (cn : Int) := by omega
  have b5 : IntKind.i64.wrap ((at_ : Int) + (m : Int)) = (at_ : Int) + m := IntWalk.i64_in _ (by omega)
  have b6 : ((at_ : Int) + (m : Int)).toNat = at_ + m := by omega
  have b7 : at_ + m - at_ = m := by omega
  have HF := Lib.hid (And.intro n0 (And.intro n1 (And.intro n2 n3)))
  have hb3 := World.block_lt_of_cell? w _ k3
  clear h hn hadp n0 n1 n2 n3 hi
  go_enter Try.func71, Try.ntmps71
  go_wp2_with fail
  refine (in_yes p at_ m _ n cn _ hD q0 HI.out).mono ?_
  rintro e w' ⟨rfl, rfl⟩
  go_wp2_with fail
  go_region_held3 (fun w' => w'.cell? ⟨c0, 0, none⟩ = some (.pointer (some ⟨p, 0, none⟩)) ∧ w'.cell? ⟨c1, 0, none⟩ = some (.int .i64 at_) ∧ w'.cell? ⟨c2, 0, none⟩ = some (.int .i64 m) ∧ w'.cell? ⟨p, 0, none⟩ = some (.slice (some ⟨gn, 0, none⟩) n cn))
    (first | exact HK.out _ HW1.out | exact HK2.out _ _ HW1.out | go_keep)
    ((go_at_call 42; refine (clone_some ad m _ _ w.drew HL.out (by omega) HS.out).mono ?_; rintro e w1 ⟨g, cap', rfl, hown, hk⟩; have HW1 : Hid (Keeps (fun _ => False) w w1) := (Keeps.refl _ w).drew.trans hk (fun _ _ h => h); have HOW := Lib.hid hown; obtain ⟨f1, f2⟩ := HZ.out _ HW1.out; clear hown hk))
  have hx : (w1.setCell ⟨c3, 0, none⟩ (.slice (some ⟨g, 0, none⟩) m cap')).cell? ⟨c3, 0, none⟩ = some (.slice (some ⟨g, 0, none⟩) m cap') := by
    obtain ⟨c, t, fr, hb⟩ : ∃ c t fr, w1.heap[c3]? = some (.cells c t fr) ∧ 0 < c.size := by
      have := f1
      unfold World.cell? at this
      split at this
      · rename_i c t fr hb
        simp at this
        exact ⟨c, t, fr, hb, (Array.getElem?_eq_some_iff.1 this).1⟩
      · cases this
    rw [cellAt (heap_setCell_at hb.1 0 _) 0]
    simp [hb.2]
  have HX := Lib.hid hx
  clear hx
  go_wp2
  go_ret
  refine ⟨rfl, g, cap', ?_, HX.out, Keeps.setCell (F := fun k => k = c3) (HW1.out.mono (fun _ _ h => h.elim)) (p := ⟨c3, 0, none⟩) (fun _ => rfl) _⟩
  have hlt := own_lt HOW.out rfl
  exact own_keep HOW.out ((Keeps.refl (fun k => k = c3) w1).setCell (p := ⟨c3, 0, none⟩) (fun _ => rfl) _) (fun k e => by
    simp [Value.ownBlock] at e
    have h1 := hlt.1
    have h2 : w.drew.heap.size = w.heap.size := rfl
    have h3 : c3 < w.heap.size := hb3
    omega)

theorem read1_no (c0 c1 c2 c3 p : Nat) (at_ m : Int) (n : Nat) (a : Option Addr) (cn : Nat) (w : World)
    (k0 : w.cell? ⟨c0, 0, none⟩ = some (.pointer (some ⟨p, 0, none⟩))) (k1 : w.cell? ⟨c1, 0, none⟩ = some (.int .i64 at_)) (k2 : w.cell? ⟨c2, 0, none⟩ = some (.int .i64 m))
    (q0 : w.cell? ⟨p, 0, none⟩ = some (.slice a n cn)) (hD : n ≤ 65536) (hi : inB at_ m n = false) :
    Calls Try.prog 71 #[.pointer (some ⟨c0, 0, none⟩), .pointer (some ⟨c1, 0, none⟩), .pointer (some ⟨c2, 0, none⟩), .pointer (some ⟨c3, 0, none⟩)] w fun e w' => e = .returned (.int .i64 8) ∧ w = w' := by
  have HI := Lib.hid hi
  clear hi
  go_enter Try.func71, Try.ntmps71
  go_wp2_with fail
  refine (in_no p at_ m _ n cn _ hD q0 HI.out).mono ?_
  rintro e w' ⟨rfl, rfl⟩
  go_wp2_with fail
  go_ret
  exact ⟨rfl, rfl⟩

theorem box4 {w : World} {p : Nat} {D : DS} {gn cn gs cs : Nat} {sl : Option Addr} {cl : Nat} (h : DiskAt w p D gn cn gs cs sl cl) (a b c d : Obj) :
    Keeps (fun _ => False) w ((((w.alloc a).alloc b).alloc c).alloc d) ∧ DiskAt ((((w.alloc a).alloc b).alloc c).alloc d) p D gn cn gs cs sl cl ∧ ((((w.alloc a).alloc b).alloc c).alloc d).heap[w.heap.size]? = some a ∧
      ((((w.alloc a).alloc b).alloc c).alloc d).heap[w.heap.size + 1]? = some b ∧ ((((w.alloc a).alloc b).alloc c).alloc d).heap[w.heap.size + 1 + 1]? = some c ∧ ((((w.alloc a).alloc b).alloc c).alloc d).heap[w.heap.size + 1 + 1 + 1]? = some d := by
  obtain ⟨hk, hd, h1, h2, h3⟩ := box3 h a b c
  have hs : (((w.alloc a).alloc b).alloc c).heap.size = w.heap.size + 1 + 1 + 1 := by simp
  have h4 := heap_alloc_new (((w.alloc a).alloc b).alloc c) d
  rw [hs] at h4
  refine ⟨hk.alloc d, hd.keep ((Keeps.refl (fun _ => False) _).alloc d) (fun _ _ h => h), ?_, ?_, ?_, h4⟩
  · exact (Below.heap_alloc _ d _ (by omega)).trans h1
  · exact (Below.heap_alloc _ d _ (by omega)).trans h2
  · exact (Below.heap_alloc _ d _ (by omega)).trans h3

set_option maxRecDepth 10000 in
set_option maxHeartbeats 1000000 in
theorem read_ok (p at_ m : Nat) (D : DS) (F : Nat → Prop) (w : World) (h : Disk w p D F) (hcr : D.cr = false) (hfit : at_ + m ≤ D.now.length) (hD : D.now.length ≤ 65536) :
    Calls Try.prog 55 #[.pointer (some ⟨p, 0, none⟩), .int .i64 at_, .int .i64 m] w fun e w' => ∃ g cap', e = .returned (.tuple #[.slice (some ⟨g, 0, none⟩) m cap', .int .i64 0]) ∧
      w'.ownsRow w.heap.size 5 1 (.slice (some ⟨g, 0, none⟩) m cap') m (BV ((D.now.drop at_).take m)) ∧ Keeps (fun _ => False) w w' := by
  obtain ⟨gn, cn, gs, cs, sl, cl, h, rfl⟩ := h
  have H := Lib.hid (And.intro h hcr)
  clear h hcr
  go_enter Try.func55, Try.ntmps55
  go_wp2_with fail
  have hs := box4 H.out.1 (.cells #[.pointer (some ⟨p, 0, none⟩)] 24) (.cells #[.int .i64 at_] 3) (.cells #[.int .i64 m] 3) (.cells #[.slice none 0 0] 23)
  generalize ((((w.alloc (.cells #[.pointer (some ⟨p, 0, none⟩)] 24)).alloc (.cells #[.int .i64 at_] 3)).alloc (.cells #[.int .i64 m] 3)).alloc (.cells #[.slice none 0 0] 23)) = W at hs
  obtain ⟨hk, hd, b0, b1, b2, b3⟩ := hs
  have q3 := cellAt hd.blk 3
  simp [H.out.2] at q3
  refine (up_do 71 _ p W (fun n w' => n = 0 ∧ ReadPost W (w.heap.size + 1 + 1 + 1) m ((D.now.drop at_).take m) (.returned (.int .i64 0)) w') (fun _ => rfl) q3 ?_).mono ?_
  · refine (read1_ok w.heap.size (w.heap.size + 1) (w.heap.size + 1 + 1) (w.heap.size + 1 + 1 + 1) p at_ m _ D gn cn gs cs sl cl W hd rfl (by simpa using cellAt b0 0) (by simpa using cellAt b1 0) (by simpa using cellAt b2 0) (.slice none 0 0) (by simpa using cellAt b3 0) (freeAt b3 0) (by omega) (by omega) (by omega) (fun hf => by have := H.out.1.foot_lt _ hf; omega) hfit hD).mono ?_
    rintro e w' ⟨rfl, r⟩
    exact ⟨0, rfl, rfl, rfl, r⟩
  · rintro e w' ⟨n, rfl, rfl, _, g, cap', r1, r2, r3⟩
    have HR := Lib.hid (And.intro r1 r3)
    clear r1 r3
    go_wp2
    go_ret2
    refine ⟨g, cap', rfl, own_base HR.out.1 (fun k e => ?_), ?_⟩
    · have h1 := own_lt HR.out.1 rfl
      have h2 := hk.size
      simp [Value.ownBlock] at e
      omega
    · refine hk.trans HR.out.2 (fun k hlt e => ?_)
      omega

set_option maxRecDepth 10000 in
set_option maxHeartbeats 1000000 in
theorem read_no (p : Nat) (at_ m : Int) (D : DS) (F : Nat → Prop) (w : World) (h : Disk w p D F) (hcr : D.cr = false) (hi : inB at_ m D.now.length = false) (hD : D.now.length ≤ 65536) :
    Calls Try.prog 55 #[.pointer (some ⟨p, 0, none⟩), .int .i64 at_, .int .i64 m] w fun e w' => e = .returned (.tuple #[.slice none 0 0, .int .i64 8]) ∧ Keeps (fun _ => False) w w' := by
  obtain ⟨gn, cn, gs, cs, sl, cl, h, rfl⟩ := h
  have H := Lib.hid (And.intro h (And.intro hcr hi))
  clear h hcr hi
  go_enter Try.func55, Try.ntmps55
  go_wp2_with fail
  have hs := box4 H.out.1 (.cells #[.pointer (some ⟨p, 0, none⟩)] 24) (.cells #[.int .i64 at_] 3) (.cells #[.int .i64 m] 3) (.cells #[.slice none 0 0] 23)
  generalize ((((w.alloc (.cells #[.pointer (some ⟨p, 0, none⟩)] 24)).alloc (.cells #[.int .i64 at_] 3)).alloc (.cells #[.int .i64 m] 3)).alloc (.cells #[.slice none 0 0] 23)) = W at hs
  obtain ⟨hk, hd, b0, b1, b2, b3⟩ := hs
  have q3 := cellAt hd.blk 3
  simp [H.out.2.1] at q3
  have q4 := cellAt b3 0
  simp at q4
  refine (up_do 71 _ p W (fun n w' => n = 8 ∧ W = w') (fun _ => rfl) q3 ?_).mono ?_
  · refine (read1_no w.heap.size (w.heap.size + 1) (w.heap.size + 1 + 1) (w.heap.size + 1 + 1 + 1) p at_ m D.now.length (some ⟨gn, 0, none⟩) cn W (by simpa using cellAt b0 0) (by simpa using cellAt b1 0) (by simpa using cellAt b2 0) (by simpa using cellAt hd.blk 0) hD H.out.2.2).mono ?_
    rintro e w' ⟨rfl, rfl⟩
    exact ⟨8, rfl, rfl, rfl⟩
  · rintro e w' ⟨n, rfl, rfl, rfl⟩
    go_wp2
    go_ret2
    exact ⟨rfl, hk⟩

theorem read_down (p : Nat) (at_ m : Int) (D : DS) (F : Nat → Prop) (w : World) (h : Disk w p D F) (hcr : D.cr = true) :
    Calls Try.prog 55 #[.pointer (some ⟨p, 0, none⟩), .int .i64 at_, .int .i64 m] w fun e w' => e = .returned (.tuple #[.slice none 0 0, .int .i64 30]) ∧ Keeps (fun _ => False) w w' := by
  obtain ⟨gn, cn, gs, cs, sl, cl, h, rfl⟩ := h
  have H := Lib.hid (And.intro h hcr)
  clear h hcr
  go_enter Try.func55, Try.ntmps55
  go_wp2_with fail
  have hs := box4 H.out.1 (.cells #[.pointer (some ⟨p, 0, none⟩)] 24) (.cells #[.int .i64 at_] 3) (.cells #[.int .i64 m] 3) (.cells #[.slice none 0 0] 23)
  generalize ((((w.alloc (.cells #[.pointer (some ⟨p, 0, none⟩)] 24)).alloc (.cells #[.int .i64 at_] 3)).alloc (.cells #[.int .i64 m] 3)).alloc (.cells #[.slice none 0 0] 23)) = W at hs
  obtain ⟨hk, hd, b0, b1, b2, b3⟩ := hs
  have q3 := cellAt hd.blk 3
  simp [H.out.2] at q3
  have q4 := cellAt b3 0
  simp at q4
  refine (up_no 71 _ p W q3).mono ?_
  rintro e w' ⟨rfl, rfl⟩
  go_wp2
  go_ret2
  exact ⟨rfl, hk⟩
end Go.Proofs.Ytpojkhjenbbodaa

namespace Go.Proofs.Ytpojkhjenbbodaa
open Go.RowKit
attribute [local go_sem ↓] Go.wp_at_zero Go.wp_at_succ

theorem open_no (p : Nat) (D : DS) (F : Nat → Prop) (w : World) (h : Disk w p D F) (hcr : D.cr = false) :
    Calls Try.prog 49 #[.pointer (some ⟨p, 0, none⟩)] w fun e w' => e = .returned (.tuple #[.pointer none, .int .i64 6]) ∧ w = w' := by
  obtain ⟨gn, cn, gs, cs, sl, cl, h, rfl⟩ := h
  have q3 := cellAt h.blk 3
  simp [hcr] at q3
  have H := Lib.hid h
  clear h hcr
  go_enter Try.func49, Try.ntmps49
  go_wp2
  go_ret2
  exact ⟨rfl, rfl⟩

def DS.opened (D : DS) : DS := ⟨D.now, D.now, [], false⟩

theorem opened_disk {w1 w2 : World} {D : DS} {g1 g2 c1 c2 : Nat}
    (h1 : w1.ownsRow 0 5 1 (.slice (some ⟨g1, 0, none⟩) D.now.length c1) D.now.length (BV D.now)) (hk : Keeps (fun _ => False) w1 w2)
    (h2 : w2.ownsRow w1.heap.size 5 1 (.slice (some ⟨g2, 0, none⟩) D.now.length c2) D.now.length (BV D.now)) :
    Disk (w2.alloc (.cells #[.slice (some ⟨g1, 0, none⟩) D.now.length c1, .slice (some ⟨g2, 0, none⟩) D.now.length c2, .slice none 0 0, .bool false] 83)) w2.heap.size D.opened (Foot w2.heap.size g1 g2 none) := by
  refine ⟨g1, c1, g2, c2, none, 0, ⟨?_, ?_, ?_, ?_, ?_⟩, rfl⟩
  · simpa [DS.opened] using heap_alloc_new w2 _
  · exact (own_keep h1 hk (fun _ _ h => h)).alloc _
  · exact (own_base h2 (fun _ _ => Nat.zero_le _)).alloc _
  · exact World.ownsRow_nil _ _ _ _
  · have := (own_lt h1 rfl).2
    have := (own_lt h2 rfl).1
    omega

set_option maxRecDepth 10000 in
set_option maxHeartbeats 1000000 in
theorem open_ok (p : Nat) (D : DS) (F : Nat → Prop) (w : World) (h : Disk w p D F) (hcr : D.cr = true) (hD : D.now.length ≤ 65536) :
    Calls Try.prog 49 #[.pointer (some ⟨p, 0, none⟩)] w fun e w' => ∃ q F', e = .returned (.tuple #[.pointer (some ⟨q, 0, none⟩), .int .i64 0]) ∧
      Disk w' q D.opened F' ∧ Keeps (fun _ => False) w w' ∧ (∀ k, F' k → w.heap.size ≤ k) := by
  obtain ⟨gn, cn, gs, cs, sl, cl, h, rfl⟩ := h
  have q3 := cellAt h.blk 3
  simp [hcr] at q3
  have q0 := cellAt h.blk 0
  simp at q0
  obtain ⟨n, hn⟩ : ∃ n, D.now.length = n := ⟨_, rfl⟩
  rw [hn] at q0
  have HS : Hid (∀ (j : Nat) (c : UInt8), D.now[j]? = some c → w.cell? ((⟨gn, 0, none⟩ : Addr).add j) = some (.int .u8 c.toNat)) := fun j c hc => by
    rw [addr_add, Nat.zero_add]; exact own_cell h.now j _ (by rw [BV_get, hc]; rfl)
  have HS1 : Hid (∀ w1 : World, Keeps (fun _ => False) w w1 → ∀ (j : Nat) (c : UInt8), D.now[j]? = some c → w1.cell? ((⟨gn, 0, none⟩ : Addr).add j) = some (.int .u8 c.toNat)) := fun w1 hk j c hc =>
    (hk.cell (World.block_lt_of_cell? w _ (HS.out j c hc)) (fun h => h)).trans (HS.out j c hc)
  have HK : Hid (∀ w1 : World, Keeps (fun _ => False) w w1 → w1.cell? ⟨p, 0, none⟩ = some (.slice (some ⟨gn, 0, none⟩) n cn)) := fun w1 hk =>
    (hk.cell (World.block_lt_of_cell? w _ q0) (fun h => h)).trans q0
  have HN := Lib.hid hn
  have hnb : n ≤ 65536 := by omega
  have H := Lib.hid h
  have tok1 : True := trivial
  clear h hcr hn
  go_enter Try.func49, Try.ntmps49
  go_wp2_with fail
  go_region_held3 (fun w' => w'.cell? ⟨p, 0, none⟩ = some (.slice (some ⟨gn, 0, none⟩) n cn))
    (first | exact HK.out _ (HW2.out.alloc _) | exact HK.out _ HW2.out | exact HK.out _ HW1.out | go_keep)
    (first | ((go_at_call 42; have _t := tok1; refine (clone_some ⟨gn, 0, none⟩ n _ _ w.drew HN.out (by omega) HS.out).mono ?_; rintro e w1 ⟨g1, cap1, rfl, hown, hk⟩; have HW1 : Hid (Keeps (fun _ => False) w w1) := (Keeps.refl _ w).drew.trans hk (fun _ _ h => h); have HO1 := Lib.hid hown; clear hown hk tok1 _t)) | ((go_at_call 42; refine (clone_some ⟨gn, 0, none⟩ n _ _ w1 HN.out (by omega) (HS1.out _ HW1.out)).mono ?_; rintro e w2 ⟨g2, cap2, rfl, hown, hk⟩; have HW2 : Hid (Keeps (fun _ => False) w w2) := HW1.out.trans hk (fun _ _ h => h); have HO2 := Lib.hid (And.intro hk hown); clear hown hk)))
  go_wp2
  go_ret2
  have hsz := HW1.out.size
  have hsz2 := HW2.out.size
  have l1 := own_lt HO1.out rfl
  have l2 := own_lt HO2.out.2 rfl
  have D1 := opened_disk (D := D) (own_base (by rw [HN.out]; exact HO1.out) (fun _ _ => Nat.zero_le _)) HO2.out.1 (by rw [HN.out]; exact HO2.out.2)
  rw [HN.out] at D1
  refine ⟨_, _, rfl, D1, HW2.out.alloc _, fun k hk => ?_⟩
  have e : w.drew.heap.size = w.heap.size := rfl
  rcases hk with h | h | h | h
  · omega
  · omega
  · omega
  · cases h
end Go.Proofs.Ytpojkhjenbbodaa

namespace Go.Proofs.Ytpojkhjenbbodaa
open Go.RowKit
theorem run_mk (n : Nat) (hn : n ≤ 1000000000) (u : World) : (Instr.makeSlice 23 (.int .i64 (n : Int)) (.int .i64 (n : Int))).run Try.prog u =
    .ok (.slice (some ⟨u.heap.size, 0, none⟩) n n) (u.alloc (.cells (madeCells #[.int .u8 0] n) 5)) := by
  obtain ⟨i0, hi, hz0, hz1, hz2⟩ := info_parts infoByte
  have h := run_make (P := Try.prog) u 23 5 i0 (.int .u8 0) Try.underlying23 hi hz0 .i64 .i64 (n : Int) (n : Int) (by omega) (Int.le_refl _) (by rw [hz2]; omega) (by omega)
  simpa [hz1, Value.cells] using h
theorem owns_made (w : World) (n : Nat) (hn : n ≤ 1000000000) :
    (w.alloc (.cells (madeCells #[.int .u8 0] n) 5)).ownsRow w.heap.size 5 1 (.slice (some ⟨w.heap.size, 0, none⟩) n n) n (BV (List.replicate n 0)) :=
  ⟨by simp, Or.inr ⟨w.heap.size, n, _, rfl, Nat.le_refl _, heap_alloc_new w _, Nat.le_refl _, by unfold maxLen; omega, by simp [size_madeCells], by
    rw [toList_madeCells_one, Nat.mul_one, List.take_of_length_le (by simp)]; simp [BV]⟩⟩
end Go.Proofs.Ytpojkhjenbbodaa

namespace Go.Proofs.Ytpojkhjenbbodaa
open Go.RowKit

/-- A number from 0 on, below most. -/
def around (n most : Int) : Int := (if n < 0 then -(n + 1) else n) % most
theorem around_pos (n most : Int) (h : 0 < most) : 0 ≤ around n most ∧ around n most < most := by
  unfold around
  exact ⟨Int.emod_nonneg _ (by omega), Int.emod_lt_of_pos _ h⟩

set_option maxHeartbeats 400000 in
theorem around_any (n most : Int) (w : World) (h1 : -9223372036854775808 ≤ n) (h2 : n ≤ 9223372036854775807) (hm : 0 < most) (hm2 : most ≤ 9223372036854775807) :
    Calls Try.prog 20 #[.int .i64 n, .int .i64 most] w fun e w' => e = .returned (.int .i64 (around n most)) ∧ w = w' := by
  have hz : (most == 0) = false := by simp; omega
  by_cases hn : n < 0
  · have hx : around n most = -((n + 1).tmod most) := by unfold around; rw [if_pos hn, ← Int.neg_tmod, Int.tmod_eq_emod_of_nonneg (by omega)]
    have H := Lib.hid hx
    clear hx
    go_enter Try.func20, Try.ntmps20
    go_wp2
    go_ret
    exact ⟨by rw [H.out]; rfl, rfl⟩
  · have hx : around n most = n % most := by unfold around; rw [if_neg hn]
    have H := Lib.hid hx
    clear hx
    have a1 : 0 ≤ n := by omega
    go_enter Try.func20, Try.ntmps20
    go_wp2
    go_ret
    exact ⟨by rw [H.out]; rfl, rfl⟩
/-- The same, as a number that is none below 0. -/
theorem around_nat (n : Int) (most : Nat) (w : World) (h1 : -9223372036854775808 ≤ n) (h2 : n ≤ 9223372036854775807) (hm : 0 < most) (hm2 : most ≤ 1000000000) :
    ∃ k : Nat, k < most ∧ around n most = (k : Int) ∧ Calls Try.prog 20 #[.int .i64 n, .int .i64 (most : Int)] w fun e w' => e = .returned (.int .i64 (k : Int)) ∧ w = w' := by
  have hp := around_pos n most (by omega)
  refine ⟨(around n most).toNat, by omega, by omega, ?_⟩
  have := around_any n most w h1 h2 (by omega) (by omega)
  rwa [show ((around n most).toNat : Int) = around n most by omega]
end Go.Proofs.Ytpojkhjenbbodaa

namespace Go.Proofs.Ytpojkhjenbbodaa
open Go.RowKit

set_option maxHeartbeats 400000 in
theorem few_any (sa : Option Addr) (len cap most : Nat) (l : List UInt8) (w : World) (hl : Sl w sa len cap (BV l)) (hmost : most ≤ 1000000) :
    Calls Try.prog 12 #[.slice sa len cap, .int .i64 most] w fun e w' => ∃ sa' cap', e = .returned (.slice sa' (l.take most).length cap') ∧
      w'.ownsRow w.heap.size 5 1 (.slice sa' (l.take most).length cap') (l.take most).length (BV (l.take most)) ∧ Keeps (fun _ => False) w w' := by
  have hll : l.length = len := by have := hl.len; simpa using this
  obtain ⟨k, hk⟩ : ∃ k, (l.take most).length = k := ⟨_, rfl⟩
  rw [hk]
  have hk' : k = min most len := by rw [← hk, List.length_take, hll]
  have hlc := hl.le
  have hcap := hl.capB
  have e1 : (if most < len then (most : Int) else (len : Int)) = (k : Int) := by split <;> omega
  have i1 : (0 : Int) ≤ (k : Int) := by omega
  have i2 : (k : Int) ≤ (len : Int) := by omega
  have i3 : (k : Int) ≤ (cap : Int) := by omega
  have i4 : (len : Int) ≤ (cap : Int) := by omega
  obtain ⟨i0, hi, hz0, hz1, hz2⟩ := info_parts infoByte
  have HT : Hid ((BV (l.take most)).length = k * 1) := by show _ = _; rw [BV_length, hk]; omega
  have HNil : Hid (sa = none → k = 0 ∧ cap = 0) := fun h => by have := hl.nil h; omega
  have HS : Hid (∀ ad, sa = some ad → ∀ (j : Nat) (u : Value), (BV (l.take most))[j]? = some u → w.cell? (ad.add j) = some u) := by
    intro ad had j u hu
    refine hl.lies ad had j u ?_
    rw [BV_get] at hu ⊢
    rw [List.getElem?_take] at hu
    split at hu
    · exact hu
    · cases hu
  have hkb : k ≤ 1000000 := by omega
  clear hk hl hll hk'
  go_enter Try.func12, Try.ntmps12
  go_wp2_with (at_builtin; refine wpList_app _ rfl _ _ 23 rfl w.heap.size 5 i0 (.int .u8 0) 1 1 Try.underlying23 hi hz0 hz1 hz2 rfl (by decide) (.slice none 0 0) 0 [] rfl (World.ownsRow_nil w _ _ _) sa k cap (BV (l.take most)) rfl HT.out HNil.out HS.out (BV_one _) (by unfold maxLen; omega) (by omega) (Nat.le_refl _) ?_; intro sa' cap' w' hown hg hat hnn; have HH := Lib.hid (And.intro hown hg); clear hown hg hat hnn)
  go_ret
  obtain ⟨hown, hg⟩ := HH.out
  rw [Nat.zero_add, List.nil_append] at hown
  exact ⟨sa', cap', by simp, hown, (Keeps.refl _ w).grown hg (fun k hk _ => by simp [Value.ownBlock] at hk)⟩
end Go.Proofs.Ytpojkhjenbbodaa

namespace Go.Proofs.Ytpojkhjenbbodaa
open Go.RowKit

theorem wpList_newB {w : World} {ops : Array Oper} {rest : List Oper} {o : Oper} {a : Act} {Q : Exit → Act → World → Prop} (hgd : o.guard = none) (s x : Operand)
    (ho : o.op = .call { callee := .builtin .append, args := #[s, x], argTypes := #[23, 23] }) (hs : a.eval s = .slice (some ⟨w.heap.size, 0, none⟩) 0 0)
    (sb : Option Addr) (m cb : Nat) (l : List UInt8) (hx : a.eval x = .slice sb m cb) (hl : Sl w sb m cb (BV l)) (hn : m ≤ 4000000000)
    (h : ∀ sa' cap' w', w'.ownsRow w.heap.size 5 1 (.slice sa' m cap') m (BV l) → Keeps (fun _ => False) w w' → wpList Try.prog ops Q rest (a.put o.dst (.slice sa' m cap')) w') :
    wpList Try.prog ops Q (o :: rest) a (w.alloc (.cells #[] 5)) := by
  refine wpList_appB hgd s x ho w.heap.size (some ⟨w.heap.size, 0, none⟩) 0 0 [] hs (World.ownsRow_made (cap := 0) w #[] (Nat.le_refl _) (by decide) rfl) sb m cb l hx (hl.quiet ((Keeps.refl _ w).alloc _)) (by omega) (by simp) ?_
  intro sa' cap' w' hown hk
  rw [Nat.zero_add, List.nil_append] at hown
  rw [Nat.zero_add]
  refine h sa' cap' w' hown (((Keeps.refl _ w).alloc _).trans hk (fun k hk e => ?_))
  simp only [Option.some.injEq, Addr.mk.injEq, and_true] at e
  omega
end Go.Proofs.Ytpojkhjenbbodaa
