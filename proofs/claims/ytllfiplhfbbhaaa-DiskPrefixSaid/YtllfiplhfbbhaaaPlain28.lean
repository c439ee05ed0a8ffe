/-
  Plain laws of layer 28's disk: no program in sight.
-/
import Derived.Test.YtllfiplhfbbhaaaTwo
namespace Go.Proofs.Ytllfiplhfbbhaaa

theorem set_splice {α : Type} (s : List α) (at_ : Nat) (b : List α) (c : α) (h : at_ + b.length < s.length) : (splice s at_ b).set (at_ + b.length) c = splice s at_ (b ++ [c]) := by
  simp only [splice]
  rw [List.set_append_right _ _ (by simp; omega)]
  simp only [List.length_take]
  rw [show at_ + b.length - min at_ s.length = b.length by omega, List.set_append_right _ _ (Nat.le_refl _), Nat.sub_self]
  have hd : s.drop (at_ + b.length) = s[at_ + b.length] :: s.drop (at_ + b.length + 1) := List.drop_eq_getElem_cons h
  rw [hd, List.set_cons_zero]
  simp [Nat.add_assoc]

theorem mkLo_snoc (at_ : Nat) (b : List UInt8) (c : UInt8) : mkLo at_ (b ++ [c]) = mkLo at_ b ++ [(at_ + b.length, c)] := by
  simp [mkLo, List.zipIdx_append]

theorem foldl_mkLo (s : List UInt8) (at_ : Nat) (b : List UInt8) (h : at_ + b.length ≤ s.length) : (mkLo at_ b).foldl putLo s = splice s at_ b := by
  have key : ∀ n, n ≤ b.length → (mkLo at_ (b.take n)).foldl putLo s = splice s at_ (b.take n) := by
    intro n
    induction n with
    | zero => intro _; simp [mkLo, splice]
    | succ n ih =>
      intro hn
      have hl : (b.take n).length = n := by simp; omega
      rw [List.take_succ_eq_append_getElem (by omega), mkLo_snoc, List.foldl_append, ih (by omega)]
      simp only [List.foldl_cons, List.foldl_nil, putLo]
      exact set_splice s at_ (b.take n) _ (by omega)
  have := key b.length (Nat.le_refl _)
  rwa [List.take_length] at this

/-- All loose bytes, laid over what is sure, are what there is. -/
def DS.Full (D : DS) : Prop := D.lo.foldl putLo D.sure = D.now

theorem full_act {D : DS} (a : PAct) (hf : D.Full) : (D.act a).1.Full := by
  unfold DS.act
  split
  · exact hf
  split
  · rfl
  split
  · rfl
  split
  · rename_i hi
    obtain ⟨k, hk, hfit⟩ := inB_nat hi
    show (D.lo ++ mkLo _ _).foldl putLo D.sure = splice _ _ _
    rw [List.foldl_append, hf, foldl_mkLo _ _ _ (by rw [hk, Int.toNat_natCast]; exact hfit)]
  · exact hf

/-- What acts lead to. -/
structure Good (D : DS) : Prop where
  ok : D.Ok 40 220
  full : D.Full

theorem playD_good (zs : List Int) : Good (playD ((zs.take 20).map mkAct)) := by
  have h1 : (playD ((zs.take 20).map mkAct)).Ok 40 220 := Ok_mono (playD_ok _ (fun a ha => by
    obtain ⟨x, _, rfl⟩ := List.mem_map.1 ha
    have := mkAct_len x
    omega)) (by simp only [List.length_map, List.length_take]; omega)
  refine ⟨h1, ?_⟩
  have : ∀ (m : List PAct) (D : DS) (L : Nat), D.Ok 40 L → D.Full → (m.foldl (fun D a => (D.act a).1) D).Full := by
    intro m
    induction m with
    | nil => intro D L _ hf; exact hf
    | cons a m ih => intro D L ho hf; exact ih _ _ (act_ok ho) (full_act a hf)
  exact this _ (D0 40) 0 (D0_ok 40) rfl

theorem left_all (D : DS) (h : D.Full) (k : Nat) (hk : D.lo.length ≤ k) : D.left k = D.now := by
  unfold DS.left
  rw [List.take_of_length_le hk]
  exact h
theorem mkLo_upto (at_ : Nat) (b : List UInt8) (k : Nat) : (mkLo at_ b).take k = mkLo at_ (b.take k) := by
  simp only [mkLo, ← List.map_take]
  congr 1
  apply List.ext_getElem?
  intro j
  simp only [List.getElem?_take, List.getElem?_zipIdx]
  split <;> simp

/-- A crash that leaves so many of the bytes that one Write behind Sync made loose. -/
theorem crash_take (D : DS) (p : Nat) (l : List UInt8) (k n : Nat) (hn : D.now.length = n) (hfit : p + l.length ≤ n) (hk : k ≤ l.length) : ((D.sync.write p l).crash k).now = splice D.now p (l.take k) := by
  show (D.sync.write p l).left (leftNat k _) = _
  have e : (D.sync.write p l).lo = mkLo p l := by simp [DS.write, DS.sync]
  rw [e, mkLo_length, show leftNat k l.length = k by unfold leftNat; omega]
  unfold DS.left
  rw [e, mkLo_upto]
  exact foldl_mkLo D.now p (l.take k) (by rw [List.length_take]; omega)

theorem left_none (D : DS) : D.left 0 = D.sure := rfl
end Go.Proofs.Ytllfiplhfbbhaaa
