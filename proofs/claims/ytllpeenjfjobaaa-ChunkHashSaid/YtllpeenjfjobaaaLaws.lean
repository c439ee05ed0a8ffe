/-
  Laws at the operations append and copy, in one form each for a plain region and for a step of a region that draws its order: the source may be nil or empty; what is owned behind it, and that only the one row has turned.
  Nothing of the program stands here. Conditions: sizes that fit.
-/
import Derived.Test.YtllpeenjfjobaaaBase
import Derived.Deep.RegionHeld3
import Derived.Laws.AppendOwnNone
namespace Go.Proofs.Ytllpeenjfjobaaa
open Go.RowKit

section
variable {P : Program} (w : World)

/-- append onto what is owned; the source nil, empty or not. -/
theorem run_app (t ty : TypeId) (base : Nat) (e : TypeId) (i : TypeInfo) (z : Value) (size bytes : Nat) (ht : P.underlying t = some (.slice e)) (hi : P.info? e = some i) (hz : i.zero = some z)
    (hsize : i.size = size) (hby : i.bytes = bytes) (hzs : z.cells.size = size) (hsz : 0 < size)
    (v : Value) (n : Nat) (xs : List Value) (hown : w.ownsRow base e size v n xs)
    (sa : Option Addr) (m c : Nat) (news : List Value) (hl : news.length = m * size) (hnil : sa = none → m = 0 ∧ c = 0)
    (hnews : ∀ ad, sa = some ad → ∀ j u, news[j]? = some u → w.cell? (ad.add j) = some u) (h1 : ∀ u ∈ news, u.oneCell' = true)
    (h63 : n + m ≤ maxLen) (hbytes : (n + m) * bytes ≤ 140737488355328) (hbase : base ≤ w.heap.size) :
    ∃ sa' cap' w', (Builtin.append_ #[t, t] ty #[v, .slice sa m c]).run P w = .ok (.slice sa' (n + m) cap') w' ∧
      w'.ownsRow base e size (.slice sa' (n + m) cap') (n + m) (xs ++ news) ∧ w.grownBy w' v.ownBlock ∧
      (Value.ownBlock (.slice sa' (n + m) cap') = v.ownBlock ∨ Value.ownBlock (.slice sa' (n + m) cap') = some w.heap.size) ∧ (v ≠ .slice none 0 0 → sa' ≠ none) := by
  have form : ∀ (v' : Value) (k : Nat) (ys : List Value) (w' : World), w'.ownsRow base e size v' k ys → ∃ sa' cap', v' = .slice sa' k cap' := by
    intro v' k ys w' h
    rcases h.2 with ⟨rfl, rfl⟩ | ⟨g, cap, cur, rfl, _⟩
    · exact ⟨none, 0, rfl⟩
    · exact ⟨_, _, rfl⟩
  cases sa with
  | none =>
    obtain ⟨rfl, rfl⟩ := hnil rfl
    obtain rfl : news = [] := List.eq_nil_of_length_eq_zero (by simpa using hl)
    have hr := run_append_owned_none (P := P) (w := w) base t ty e i size ht hi v n xs hown
    obtain ⟨sa', cap', rfl⟩ := form _ _ _ _ hown
    refine ⟨sa', cap', w, hr, by simpa using hown, ⟨rfl, rfl, rfl, Nat.le_refl _, fun _ _ _ => rfl⟩, Or.inl rfl, fun h e => h ?_⟩
    subst e
    rcases hown.2 with ⟨h, _⟩ | ⟨g, cap, cur, h, _⟩
    · exact h
    · simp at h
  | some ad =>
    obtain ⟨v', w', hr, h2, h3, h4, h5⟩ := run_append_own_at (P := P) w base t ty e i z size bytes ht hi hz hsize hby hzs hsz v n xs hown ad m c news hl (hnews ad rfl) h1 h63 hbytes hbase
    obtain ⟨sa', cap', rfl⟩ := form _ _ _ _ h2
    refine ⟨sa', cap', w', hr, h2, h3, h5, fun h e => ?_⟩
    subst e
    rcases h2.2 with ⟨h', _⟩ | ⟨g, cap, cur, h', _⟩
    · exact h (h4.1 h').1
    · simp at h'

theorem wp_app {o : Oper} {a : Act} {K : Act → World → Prop} {Q : Exit → Act → World → Prop} (s x : Operand) (t : TypeId)
    (ho : o.op = .call { callee := .builtin .append, args := #[s, x], argTypes := #[t, t] })
    (base : Nat) (e : TypeId) (i : TypeInfo) (z : Value) (size bytes : Nat) (ht : P.underlying t = some (.slice e)) (hi : P.info? e = some i) (hz : i.zero = some z)
    (hsize : i.size = size) (hby : i.bytes = bytes) (hzs : z.cells.size = size) (hsz : 0 < size)
    (v : Value) (n : Nat) (xs : List Value) (hs : a.eval s = v) (hown : w.ownsRow base e size v n xs)
    (sa : Option Addr) (m c : Nat) (news : List Value) (hx : a.eval x = .slice sa m c) (hl : news.length = m * size) (hnil : sa = none → m = 0 ∧ c = 0)
    (hnews : ∀ ad, sa = some ad → ∀ j u, news[j]? = some u → w.cell? (ad.add j) = some u) (h1 : ∀ u ∈ news, u.oneCell' = true)
    (h63 : n + m ≤ maxLen) (hbytes : (n + m) * bytes ≤ 140737488355328) (hbase : base ≤ w.heap.size)
    (h : ∀ sa' cap' w', w'.ownsRow base e size (.slice sa' (n + m) cap') (n + m) (xs ++ news) → w.grownBy w' v.ownBlock →
      (Value.ownBlock (.slice sa' (n + m) cap') = v.ownBlock ∨ Value.ownBlock (.slice sa' (n + m) cap') = some w.heap.size) → (v ≠ .slice none 0 0 → sa' ≠ none) → K (a.put o.dst (.slice sa' (n + m) cap')) w') : o.wp P a w K Q := by
  obtain ⟨g, cap, w', hr, h2, h3, h4, h5⟩ := run_app (P := P) w t o.type base e i z size bytes ht hi hz hsize hby hzs hsz v n xs hown sa m c news hl hnil hnews h1 h63 hbytes hbase
  unfold Oper.wp execOp
  simp only [ho, resolve, invoke, builtin, Sem.run_bind, Sem.run_pure, Result.andThen_ok, List.map_toArray, List.map_cons, List.map_nil, hs, hx, hr]
  exact h g cap w' h2 h3 h4 h5

theorem wpList_app {ops : Array Oper} {rest : List Oper} {o : Oper} {a : Act} {Q : Exit → Act → World → Prop} (hgd : o.guard = none) (s x : Operand) (t : TypeId)
    (ho : o.op = .call { callee := .builtin .append, args := #[s, x], argTypes := #[t, t] })
    (base : Nat) (e : TypeId) (i : TypeInfo) (z : Value) (size bytes : Nat) (ht : P.underlying t = some (.slice e)) (hi : P.info? e = some i) (hz : i.zero = some z)
    (hsize : i.size = size) (hby : i.bytes = bytes) (hzs : z.cells.size = size) (hsz : 0 < size)
    (v : Value) (n : Nat) (xs : List Value) (hs : a.eval s = v) (hown : w.ownsRow base e size v n xs)
    (sa : Option Addr) (m c : Nat) (news : List Value) (hx : a.eval x = .slice sa m c) (hl : news.length = m * size) (hnil : sa = none → m = 0 ∧ c = 0)
    (hnews : ∀ ad, sa = some ad → ∀ j u, news[j]? = some u → w.cell? (ad.add j) = some u) (h1 : ∀ u ∈ news, u.oneCell' = true)
    (h63 : n + m ≤ maxLen) (hbytes : (n + m) * bytes ≤ 140737488355328) (hbase : base ≤ w.heap.size)
    (h : ∀ sa' cap' w', w'.ownsRow base e size (.slice sa' (n + m) cap') (n + m) (xs ++ news) → w.grownBy w' v.ownBlock →
      (Value.ownBlock (.slice sa' (n + m) cap') = v.ownBlock ∨ Value.ownBlock (.slice sa' (n + m) cap') = some w.heap.size) → (v ≠ .slice none 0 0 → sa' ≠ none) → wpList P ops Q rest (a.put o.dst (.slice sa' (n + m) cap')) w') : wpList P ops Q (o :: rest) a w :=
  wpList_plain hgd fun _ hK => wp_app w s x t ho base e i z size bytes ht hi hz hsize hby hzs hsz v n xs hs hown sa m c news hx hl hnil hnews h1 h63 hbytes hbase fun g cap w' h2 h3 h4 h5 => hK _ _ (h g cap w' h2 h3 h4 h5)

theorem step_app {ops : Array Oper} {o : Oper} {a : Act} {K : Act → World → Prop} {Q : Exit → Act → World → Prop} {E : Prop} (hgd : o.guard = none) (s x : Operand) (t : TypeId)
    (ho : o.op = .call { callee := .builtin .append, args := #[s, x], argTypes := #[t, t] })
    (base : Nat) (e : TypeId) (i : TypeInfo) (z : Value) (size bytes : Nat) (ht : P.underlying t = some (.slice e)) (hi : P.info? e = some i) (hz : i.zero = some z)
    (hsize : i.size = size) (hby : i.bytes = bytes) (hzs : z.cells.size = size) (hsz : 0 < size)
    (v : Value) (n : Nat) (xs : List Value) (hs : a.eval s = v) (hown : w.ownsRow base e size v n xs)
    (sa : Option Addr) (m c : Nat) (news : List Value) (hx : a.eval x = .slice sa m c) (hl : news.length = m * size) (hnil : sa = none → m = 0 ∧ c = 0)
    (hnews : ∀ ad, sa = some ad → ∀ j u, news[j]? = some u → w.cell? (ad.add j) = some u) (h1 : ∀ u ∈ news, u.oneCell' = true)
    (h63 : n + m ≤ maxLen) (hbytes : (n + m) * bytes ≤ 140737488355328) (hbase : base ≤ w.heap.size)
    (h : ∀ sa' cap' w', w'.ownsRow base e size (.slice sa' (n + m) cap') (n + m) (xs ++ news) → w.grownBy w' v.ownBlock →
      (Value.ownBlock (.slice sa' (n + m) cap') = v.ownBlock ∨ Value.ownBlock (.slice sa' (n + m) cap') = some w.heap.size) → (v ≠ .slice none 0 0 → sa' ≠ none) → K (a.put o.dst (.slice sa' (n + m) cap')) w') :
    if Region.wanted o (yielded ops a.tmps) = true then Oper.wp P o a w K Q else E := by
  have hw : Region.wanted o (yielded ops a.tmps) = true := by simp [Region.wanted, hgd]
  rw [if_pos hw]
  exact wp_app w s x t ho base e i z size bytes ht hi hz hsize hby hzs hsz v n xs hs hown sa m c news hx hl hnil hnews h1 h63 hbytes hbase h

theorem take_splice {α : Type} (cur : List α) (off n : Nat) (cs : List α) (h : off + cs.length ≤ n) (hn : n ≤ cur.length) : (splice cur off cs).take n = splice (cur.take n) off cs := by
  simp only [splice, List.take_append, List.take_take, List.length_take, List.drop_take]
  rw [show min n off = off by omega, show min off cur.length = off by omega, show min off n = off by omega, List.take_of_length_le (show cs.length ≤ n - off by omega), show n - off - cs.length = n - (off + cs.length) by omega]

/-- What is owned behind cells that were laid over. -/
theorem ownsRow_splice {w w' : World} {base : Nat} {e : TypeId} {g n cap : Nat} {xs : List Value} (hown : w.ownsRow base e 1 (.slice (some ⟨g, 0, none⟩) n cap) n xs)
    {cur : List Value} (hg : w.heap[g]? = some (.cells cur.toArray e (0, 0))) (off : Nat) (cs : List Value) (hfit : off + cs.length ≤ n)
    (hg' : w'.heap[g]? = some (.cells (splice cur off cs).toArray e (0, 0))) : w'.ownsRow base e 1 (.slice (some ⟨g, 0, none⟩) n cap) n (splice xs off cs) := by
  obtain ⟨h1, h2⟩ := hown
  rcases h2 with ⟨h, _⟩ | ⟨g2, cap2, cur2, h, hb, hh, hn, hm, hs, ht⟩
  · simp at h
  · simp only [Value.slice.injEq, Option.some.injEq, Addr.mk.injEq, and_true, true_and] at h
    obtain ⟨rfl, rfl⟩ := h
    rw [hg] at hh
    simp only [Option.some.injEq, Obj.cells.injEq, and_true] at hh
    subst hh
    simp only [List.size_toArray, Nat.mul_one] at hs ht h1
    have hl : (splice xs off cs).length = xs.length := length_splice _ _ _ (by omega)
    refine ⟨by rw [hl]; simpa using h1, Or.inr ⟨g, cap, _, rfl, hb, hg', hn, hm, ?_, ?_⟩⟩
    · simp only [List.size_toArray, Nat.mul_one]
      rw [length_splice _ _ _ (by omega)]
      exact hs
    · simp only [Nat.mul_one]
      subst ht
      exact take_splice _ _ _ _ hfit (by omega)

theorem run_copy_in (dT sT ty elem : TypeId) (hu : P.underlying dT = some (.slice elem)) (hsz : (P.info? elem).map (·.size) = some 1)
    (dp sp : Option Addr) (dLen dCap sLen sCap : Nat) (base g n cap : Nat) (xs : List Value) (hown : w.ownsRow base elem 1 (.slice (some ⟨g, 0, none⟩) n cap) n xs)
    (off : Nat) (cs : List Value) (hn : cs.length = Nat.min sLen dLen) (hfit : off + cs.length ≤ n)
    (hpos : 0 < cs.length → dp = some ⟨g, off, none⟩ ∧ ∃ ad, sp = some ad ∧ ∀ j v, cs[j]? = some v → w.cell? (ad.add j) = some v) (h1 : ∀ v ∈ cs, v.oneCell' = true) :
    ∃ w', (Builtin.copy_ #[dT, sT] ty #[.slice dp dLen dCap, .slice sp sLen sCap]).run P w = .ok (goInt cs.length) w' ∧
      w'.ownsRow base elem 1 (.slice (some ⟨g, 0, none⟩) n cap) n (splice xs off cs) ∧ w.grownBy w' (some g) := by
  by_cases h0 : cs.length = 0
  · obtain rfl : cs = [] := List.eq_nil_of_length_eq_zero h0
    have hrun := run_copy_none (P := P) w dT sT ty elem dp sp dLen dCap sLen sCap hu hsz (by simpa using hn.symm)
    exact ⟨w, hrun, by simpa [splice] using hown, ⟨rfl, rfl, rfl, Nat.le_refl _, fun _ _ _ => rfl⟩⟩
  · obtain ⟨rfl, ad, rfl, hsrc⟩ := hpos (by omega)
    have hown' := hown
    obtain ⟨h1', h2⟩ := hown
    rcases h2 with ⟨h, _⟩ | ⟨g2, cap2, cur2, h, hb, hh, hn2, hm, hs, ht⟩
    · simp at h
    · simp only [Value.slice.injEq, Option.some.injEq, Addr.mk.injEq, and_true, true_and] at h
      obtain ⟨rfl, rfl⟩ := h
      have hfit' : off + cs.length ≤ cur2.size := by rw [hs]; omega
      have hrun := run_copy_row (P := P) w dT sT ty elem g off dLen dCap ad sLen sCap cur2 elem cs hu hsz hh hn hsrc hfit' h1
      refine ⟨_, hrun, ?_, ⟨rfl, rfl, rfl, by simp, fun k _ hk => setRow_other w g k _ (fun e => hk (by simp [e]))⟩⟩
      exact ownsRow_splice hown' (cur := cur2.toList) (by simpa using hh) off cs hfit (by simpa [splice] using setRow_heap w g _ _ elem _ hh)

theorem wp_copy {o : Oper} {a : Act} {K : Act → World → Prop} {Q : Exit → Act → World → Prop} (d s : Operand) (dT sT : TypeId)
    (ho : o.op = .call { callee := .builtin .copy, args := #[d, s], argTypes := #[dT, sT] }) (elem : TypeId) (hu : P.underlying dT = some (.slice elem)) (hsz : (P.info? elem).map (·.size) = some 1)
    (dp sp : Option Addr) (dLen dCap sLen sCap : Nat) (hd : a.eval d = .slice dp dLen dCap) (hs : a.eval s = .slice sp sLen sCap)
    (base g n cap : Nat) (xs : List Value) (hown : w.ownsRow base elem 1 (.slice (some ⟨g, 0, none⟩) n cap) n xs)
    (off : Nat) (cs : List Value) (hn : cs.length = Nat.min sLen dLen) (hfit : off + cs.length ≤ n)
    (hpos : 0 < cs.length → dp = some ⟨g, off, none⟩ ∧ ∃ ad, sp = some ad ∧ ∀ j v, cs[j]? = some v → w.cell? (ad.add j) = some v) (h1 : ∀ v ∈ cs, v.oneCell' = true)
    (h : ∀ w', w'.ownsRow base elem 1 (.slice (some ⟨g, 0, none⟩) n cap) n (splice xs off cs) → w.grownBy w' (some g) → K (a.put o.dst (goInt cs.length)) w') : o.wp P a w K Q := by
  obtain ⟨w', hr, h2, h3⟩ := run_copy_in (P := P) w dT sT o.type elem hu hsz dp sp dLen dCap sLen sCap base g n cap xs hown off cs hn hfit hpos h1
  unfold Oper.wp
  simp [execOp, ho, resolve, invoke, builtin, hd, hs, hr, Result.andThen]
  exact h w' h2 h3

theorem wpList_copy {ops : Array Oper} {rest : List Oper} {o : Oper} {a : Act} {Q : Exit → Act → World → Prop} (hgd : o.guard = none) (d s : Operand) (dT sT : TypeId)
    (ho : o.op = .call { callee := .builtin .copy, args := #[d, s], argTypes := #[dT, sT] }) (elem : TypeId) (hu : P.underlying dT = some (.slice elem)) (hsz : (P.info? elem).map (·.size) = some 1)
    (dp sp : Option Addr) (dLen dCap sLen sCap : Nat) (hd : a.eval d = .slice dp dLen dCap) (hs : a.eval s = .slice sp sLen sCap)
    (base g n cap : Nat) (xs : List Value) (hown : w.ownsRow base elem 1 (.slice (some ⟨g, 0, none⟩) n cap) n xs)
    (off : Nat) (cs : List Value) (hn : cs.length = Nat.min sLen dLen) (hfit : off + cs.length ≤ n)
    (hpos : 0 < cs.length → dp = some ⟨g, off, none⟩ ∧ ∃ ad, sp = some ad ∧ ∀ j v, cs[j]? = some v → w.cell? (ad.add j) = some v) (h1 : ∀ v ∈ cs, v.oneCell' = true)
    (h : ∀ w', w'.ownsRow base elem 1 (.slice (some ⟨g, 0, none⟩) n cap) n (splice xs off cs) → w.grownBy w' (some g) → wpList P ops Q rest (a.put o.dst (goInt cs.length)) w') : wpList P ops Q (o :: rest) a w :=
  wpList_plain hgd fun _ hK => wp_copy w d s dT sT ho elem hu hsz dp sp dLen dCap sLen sCap hd hs base g n cap xs hown off cs hn hfit hpos h1 fun w' h2 h3 => hK _ _ (h w' h2 h3)

theorem step_copy {ops : Array Oper} {o : Oper} {a : Act} {K : Act → World → Prop} {Q : Exit → Act → World → Prop} {E : Prop} (hgd : o.guard = none) (d s : Operand) (dT sT : TypeId)
    (ho : o.op = .call { callee := .builtin .copy, args := #[d, s], argTypes := #[dT, sT] }) (elem : TypeId) (hu : P.underlying dT = some (.slice elem)) (hsz : (P.info? elem).map (·.size) = some 1)
    (dp sp : Option Addr) (dLen dCap sLen sCap : Nat) (hd : a.eval d = .slice dp dLen dCap) (hs : a.eval s = .slice sp sLen sCap)
    (base g n cap : Nat) (xs : List Value) (hown : w.ownsRow base elem 1 (.slice (some ⟨g, 0, none⟩) n cap) n xs)
    (off : Nat) (cs : List Value) (hn : cs.length = Nat.min sLen dLen) (hfit : off + cs.length ≤ n)
    (hpos : 0 < cs.length → dp = some ⟨g, off, none⟩ ∧ ∃ ad, sp = some ad ∧ ∀ j v, cs[j]? = some v → w.cell? (ad.add j) = some v) (h1 : ∀ v ∈ cs, v.oneCell' = true)
    (h : ∀ w', w'.ownsRow base elem 1 (.slice (some ⟨g, 0, none⟩) n cap) n (splice xs off cs) → w.grownBy w' (some g) → K (a.put o.dst (goInt cs.length)) w') :
    if Region.wanted o (yielded ops a.tmps) = true then Oper.wp P o a w K Q else E := by
  have hw : Region.wanted o (yielded ops a.tmps) = true := by simp [Region.wanted, hgd]
  rw [if_pos hw]
  exact wp_copy w d s dT sT ho elem hu hsz dp sp dLen dCap sLen sCap hd hs base g n cap xs hown off cs hn hfit hpos h1 h
end
end Go.Proofs.Ytllpeenjfjobaaa
