/-
  Plain laws of layer 28's disk: no program in sight.
-/
import Derived.Test.YtllfiplhfbbhaaaTwo
namespace Go.Proofs.Ytllfiplhfbbhaaa

theorem set_splice {α : Type} (s : List α) (at_ : Nat) (b : List α) (c : α) (h : at_ + b.length < s.length) : (splice s at_ b).set (at_ + b.length) c = splice s at_ (b ++ [c]) := by
  simp only [splice]
  rw [List.set_append_right _ _ (by simp; omega)]
  simp only [List.length_take]
  rw [show at_ + b.length - min at_ s.length = b.length by omega, List.set_append_right _ _ (Nat.le_refl _), Nat.sub_self]
  have hd : s.drop (at_ + b.length) = s[at_ + b.length] :: s.drop (at_ + b.length + 1) := List.drop_eq_getElem_cons h
  rw [hd, List.set_cons_zero]
  simp [Nat.add_assoc]

theorem mkLo_snoc (at_ : Nat) (b : List UInt8) (c : UInt8) : mkLo at_ (b ++ [c]) = mkLo at_ b ++ [(at_ + b.length, c)] := by
  simp [mkLo, List.zipIdx_append]

theorem foldl_mkLo (s : List UInt8) (at_ : Nat) (b : List UInt8) (h : at_ + b.length ≤ s.length) : (mkLo at_ b).foldl putLo s = splice s at_ b := by
  have key : ∀ n, n ≤ b.length → (mkLo at_ (b.take n)).foldl putLo s = splice s at_ (b.take n) := by
    intro n
    induction n with
    | zero => intro _; simp [mkLo, splice]
    | succ n ih =>
      intro hn
      have hl : (b.take n).length = n := by simp; omega
      rw [List.take_succ_eq_append_getElem (by omega), mkLo_snoc, List.foldl_append, ih (by omega)]
      simp only [List.foldl_cons, List.foldl_nil, putLo]
      exact set_splice s at_ (b.take n) _ (by omega)
  have := key b.length (Nat.le_refl _)
  rwa [List.take_length] at this

/-- All loose bytes, laid over what is sure, are what there is. -/
def DS.Full (D : DS) : Prop := D.lo.foldl putLo D.sure = D.now

theorem full_act {D : DS} (a : PAct) (hf : D.Full) : (D.act a).1.Full := by
  unfold DS.act
  split
  · exact hf
  split
  · rfl
  split
  · rfl
  split
  · rename_i hi
    obtain ⟨k, hk, hfit⟩ := inB_nat hi
    show (D.lo ++ mkLo _ _).foldl putLo D.sure = splice _ _ _
    rw [List.foldl_append, hf, foldl_mkLo _ _ _ (by rw [hk, Int.toNat_natCast]; exact hfit)]
  · exact hf

/-- What acts lead to. -/
structure Good (D : DS) : Prop where
  ok : D.Ok 40 220
  full : D.Full

theorem playD_good (zs : List Int) : Good (playD ((zs.take 20).map mkAct)) := by
  have h1 : (playD ((zs.take 20).map mkAct)).Ok 40 220 := Ok_mono (playD_ok _ (fun a ha => by
    obtain ⟨x, _, rfl⟩ := List.mem_map.1 ha
    have := mkAct_len x
    omega)) (by simp only [List.length_map, List.length_take]; omega)
  refine ⟨h1, ?_⟩
  have : ∀ (m : List PAct) (D : DS) (L : Nat), D.Ok 40 L → D.Full → (m.foldl (fun D a => (D.act a).1) D).Full := by
    intro m
    induction m with
    | nil => intro D L _ hf; exact hf
    | cons a m ih => intro D L ho hf; exact ih _ _ (act_ok ho) (full_act a hf)
  exact this _ (D0 40) 0 (D0_ok 40) rfl

theorem left_all (D : DS) (h : D.Full) (k : Nat) (hk : D.lo.length ≤ k) : D.left k = D.now := by
  unfold DS.left
  rw [List.take_of_length_le hk]
  exact h
theorem mkLo_upto (at_ : Nat) (b : List UInt8) (k : Nat) : (mkLo at_ b).take k = mkLo at_ (b.take k) := by
  simp only [mkLo, ← List.map_take]
  congr 1
  apply List.ext_getElem?
  intro j
  simp only [List.getElem?_take, List.getElem?_zipIdx]
  split <;> simp

/-- A crash that leaves so many of the bytes that one Write behind Sync made loose. -/
theorem crash_take (D : DS) (p : Nat) (l : List UInt8) (k n : Nat) (hn : D.now.length = n) (hfit : p + l.length ≤ n) (hk : k ≤ l.length) : ((D.sync.write p l).crash k).now = splice D.now p (l.take k) := by
  show (D.sync.write p l).left (leftNat k _) = _
  have e : (D.sync.write p l).lo = mkLo p l := by simp [DS.write, DS.sync]
  rw [e, mkLo_length, show leftNat k l.length = k by unfold leftNat; omega]
  unfold DS.left
  rw [e, mkLo_upto]
  exact foldl_mkLo D.now p (l.take k) (by rw [List.length_take]; omega)

theorem mkLo_append (p : Nat) (a b : List UInt8) : mkLo p (a ++ b) = mkLo p a ++ mkLo (p + a.length) b := by
  simp only [mkLo, List.zipIdx_append, List.map_append]
  congr 1
  rw [Nat.zero_add]
  apply List.ext_getElem?
  intro j
  simp only [List.getElem?_map, List.getElem?_zipIdx]
  cases b[j]? <;> simp <;> omega
/-- Two writes of bytes that stand behind one another are as one. -/
theorem write_parts (D : DS) (p : Nat) (l : List UInt8) (k : Nat) (hfit : p + l.length ≤ D.now.length) (hk : k ≤ l.length) : (D.write p (l.take k)).write (p + k) (l.drop k) = D.write p l := by
  have hlk : (l.take k).length = k := by rw [List.length_take]; omega
  have h0 : mkLo p (l.take k) ++ mkLo (p + k) (l.drop k) = mkLo p l := by
    have := mkLo_append p (l.take k) (l.drop k)
    rw [hlk, List.take_append_drop] at this
    exact this.symm
  have h1 : splice (splice D.now p (l.take k)) (p + k) (l.drop k) = splice D.now p l := by
    rw [← foldl_mkLo D.now p l hfit, ← h0, List.foldl_append, foldl_mkLo D.now p (l.take k) (by omega),
      foldl_mkLo _ (p + k) (l.drop k) (by rw [length_splice _ _ _ (by omega), List.length_drop]; omega)]
  unfold DS.write
  simp only [h1, List.append_assoc, h0]

theorem left_nil (D : DS) (k : Nat) (h : D.lo = []) : D.left k = D.sure := by simp [DS.left, h]
theorem left_none (D : DS) : D.left 0 = D.sure := rfl

/-- Bytes, and noughts behind them, 40 in all. -/
def overL (l : List UInt8) (k : Nat) : List UInt8 := l.take k ++ List.replicate (40 - k) 0
theorem overL_len (l : List UInt8) (k : Nat) (h : k ≤ l.length) (h2 : k ≤ 40) : (overL l k).length = 40 := by simp [overL]; omega
theorem overL_set (l : List UInt8) (k : Nat) (c : UInt8) (h : l[k]? = some c) (h2 : k < 40) : (overL l k).set k c = overL l (k + 1) := by
  have hk := (List.getElem?_eq_some_iff.1 h).1
  unfold overL
  rw [List.set_append_right _ _ (by simp; omega), List.length_take, show k - min k l.length = 0 by omega, List.take_succ_eq_append_getElem hk, (List.getElem?_eq_some_iff.1 h).2,
    show 40 - k = (40 - (k + 1)) + 1 by omega, List.replicate_succ, List.set_cons_zero]
  simp
/-- All of it written over, and made sure. -/
theorem over_now (D : DS) (l : List UInt8) (n : Nat) (h : D.now.length = n) (hl : l.length = n) : ((D.write 0 l).sync).now = l := by
  show splice D.now 0 l = l
  exact splice_all _ _ (by omega)
end Go.Proofs.Ytllfiplhfbbhaaa
