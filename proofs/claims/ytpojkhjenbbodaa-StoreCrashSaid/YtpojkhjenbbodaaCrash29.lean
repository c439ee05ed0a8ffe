/-
  What a store is behind a crash in the middle of a write: plain laws. Conditions: those that are named.
-/
import Derived.Test.YtpojkhjenbbodaaRefSt
namespace Go.Proofs.Ytpojkhjenbbodaa
open Go.RowKit

theorem set_spliceC {α : Type} (s : List α) (at_ : Nat) (b : List α) (c : α) (h : at_ + b.length < s.length) : (splice s at_ b).set (at_ + b.length) c = splice s at_ (b ++ [c]) := by
  unfold splice
  have e1 : s.drop (at_ + b.length) = s[at_ + b.length] :: s.drop (at_ + (b.length + 1)) := by
    rw [List.drop_eq_getElem_cons h]
    rfl
  rw [List.length_append, List.length_singleton, e1, ← List.append_assoc, List.set_append_right _ _ (by rw [List.length_append, List.length_take]; omega)]
  rw [show at_ + b.length - (s.take at_ ++ b).length = 0 by rw [List.length_append, List.length_take]; omega]
  simp
/-- A crash leaves so many bytes of what was written. -/
theorem left_write (l : List UInt8) (at_ : Nat) (f : List UInt8) (hf : at_ + f.length ≤ l.length) : ∀ k, k ≤ f.length → ((DS.of l).write at_ f).left k = splice l at_ (f.take k) := by
  intro k
  induction k with
  | zero =>
    intro _
    simp only [DS.left, List.take_zero, List.foldl_nil]
    show l = splice l at_ []
    simp [splice]
  | succ k ih =>
    intro hk
    obtain ⟨c, hc⟩ : ∃ c, f[k]? = some c := ⟨_, List.getElem?_eq_getElem hk⟩
    have hlo : ((DS.of l).write at_ f).lo[k]? = some (at_ + k, c) := by
      show ([] ++ mkLo at_ f)[k]? = _
      rw [List.nil_append]
      simp only [mkLo, List.getElem?_map, List.getElem?_zipIdx, hc]
      simp
    rw [left_succ _ k _ hlo, ih (by omega)]
    have e : (f.take k).length = k := by rw [List.length_take]; omega
    have h1 := set_spliceC l at_ (f.take k) c (by rw [e]; omega)
    rw [e] at h1
    rw [h1, List.take_succ_eq_append_getElem (by omega), (List.getElem?_eq_some_iff.1 hc).2]

def torn (f : List UInt8) (k : Nat) : List UInt8 := f.take k ++ List.replicate (f.length - k) 0
theorem torn_length (f : List UInt8) (k : Nat) (h : k ≤ f.length) : (torn f k).length = f.length := by simp [torn]; omega
theorem pad_torn (n : Nat) (f : List UInt8) (k : Nat) (h : k ≤ f.length) (hn : f.length ≤ n) : pad n (f.take k) = torn f k ++ List.replicate (n - f.length) 0 := by
  unfold pad torn
  rw [List.append_assoc, List.replicate_append_replicate, List.length_take]
  congr 2
  omega
/-- The first two bytes of what is torn. -/
theorem torn_long (f : List UInt8) (k m : Nat) (rest : List UInt8) (hf : f = putB (m + 1) 2 ++ rest) (hm : m ≤ 200) (z : List UInt8) : longR (torn f k ++ z) < 0 ∨ longR (torn f k ++ z) = m := by
  have hp : putB (m + 1) 2 = [UInt8.ofNat (m + 1), 0] := by
    rw [putB_succ, putB_succ, putB_zero]
    congr 2
    rw [show (m + 1) / 256 = 0 by omega]
    rfl
  rw [hp] at hf
  subst hf
  rcases (show k = 0 ∨ k = 1 ∨ 2 ≤ k by omega) with rfl | rfl | hk
  · left
    simp only [torn, List.take_zero, List.nil_append, List.length_append, List.length_cons, List.length_nil, Nat.sub_zero]
    rw [show (0 + 1 + 1 + rest.length) = rest.length + 2 by omega, List.replicate_succ, List.replicate_succ]
    simp [longR, le]
  · right
    simp only [torn, List.cons_append, List.take_succ_cons, List.take_zero, List.nil_append, List.length_cons]
    rw [show (rest.length + 1 + 1 - 1) = rest.length + 1 by omega, List.replicate_succ]
    simp [longR, le]
    omega
  · right
    obtain ⟨j, rfl⟩ : ∃ j, k = j + 2 := ⟨k - 2, by omega⟩
    simp [torn, longR, le]
    omega
theorem take_app (a b : List UInt8) (n : Nat) (h : n ≤ a.length) : (a ++ b).take n = a.take n := List.take_append_of_le_length h
theorem cut_app (a b : List UInt8) (i k : Nat) (h : i + k ≤ a.length) : cut (a ++ b) i k = cut a i k := by
  unfold cut
  rw [List.drop_append_of_le_length (by omega), List.take_append_of_le_length (by rw [List.length_drop]; omega)]
theorem torn_rec {t z : List UInt8} {m : Nat} (hl : t.length = m + 10) (h : ∀ y, longR (t ++ y) < 0 ∨ longR (t ++ y) = m) : (parse 0 smRec t 0).isSome = (parse 0 smRec (t ++ z) 0).isSome := by
  have e0 : longR (t ++ z) = longR t := by
    unfold longR
    rw [if_neg (by simp; omega), if_neg (by omega), take_app _ _ _ (by omega)]
  have h1 := h []
  rw [List.append_nil] at h1
  rw [parse_rec0, parse_rec0, e0]
  rcases h1 with h1 | h1
  · rw [if_pos (Or.inl h1), if_pos (Or.inl h1)]
  · have n1 : ¬ ((m : Int) < 0 ∨ (t.length : Int) < 10 + (m : Int)) := by omega
    have n2 : ¬ ((m : Int) < 0 ∨ ((t ++ z).length : Int) < 10 + (m : Int)) := by rw [List.length_append]; omega
    rw [h1, if_neg n1, if_neg n2]
    simp only [Int.toNat_natCast]
    rw [take_app _ _ _ (by omega), cut_app _ _ _ _ (by omega)]
theorem torn_key {t z : List UInt8} {m : Nat} (hl : t.length = m + 14) (h : ∀ y, longR (t ++ y) < 0 ∨ longR (t ++ y) = m) : plOf t 0 t.length = plOf (t ++ z) 0 (t ++ z).length := by
  have c0 : ∀ l : List UInt8, cut l 0 l.length = l := fun l => by unfold cut; simp
  have e0 : longR (t ++ z) = longR t := by
    unfold longR
    rw [if_neg (by simp; omega), if_neg (by omega), take_app _ _ _ (by omega)]
  have h1 := h []
  rw [List.append_nil] at h1
  rw [plOf_spec t 0 t.length (by rw [c0]), plOf_spec (t ++ z) 0 (t ++ z).length (by rw [c0]), c0, c0, e0]
  rcases h1 with h1 | h1
  · rw [if_pos (Or.inl h1), if_pos (Or.inl h1)]
  · have n1 : ¬ ((m : Int) < 0 ∨ (t.length : Int) < 14 + (m : Int)) := by omega
    have n2 : ¬ ((m : Int) < 0 ∨ ((t ++ z).length : Int) < 14 + (m : Int)) := by rw [List.length_append]; omega
    rw [h1, if_neg n1, if_neg n2]
    simp only [Int.toNat_natCast]
    rw [take_app _ _ _ (by omega), cut_app _ _ _ _ (by omega), cut_app _ _ _ _ (by omega)]

def crashed (S : SS) (at_ : Nat) (f : List UInt8) (k : Nat) : DS := ((S.d.write at_ f).crash (k : Int)).opened
theorem crashed_now {H Z R : Nat} {S : SS} (h : Good H Z R S) (at_ : Nat) (f : List UInt8) (k : Nat) (hk : k ≤ f.length) (hf : at_ + f.length ≤ S.d.now.length) : (crashed S at_ f k).now = splice S.d.now at_ (f.take k) := by
  have e : S.d = DS.of S.d.now := by have := h.d; rw [this]; rfl
  show (S.d.write at_ f).left (leftNat (k : Int) (S.d.write at_ f).lo.length) = _
  have hlo : (S.d.write at_ f).lo.length = f.length := by
    show (S.d.lo ++ mkLo at_ f).length = _
    rw [h.lo, List.nil_append, mkLo_length]
  rw [hlo, show leftNat (k : Int) f.length = k by unfold leftNat; omega]
  have := left_write S.d.now at_ f hf k hk
  rw [← e] at this
  exact this
theorem open_recs (D : DS) : (openS D).recs = (recsOf (D.now.take (D.now.length / 2))).1 := rfl
theorem open_keys (D : DS) : (openS D).keys = if (plOf D.now (D.now.length / 2) ((D.now.length - D.now.length / 2) / 2)).1 < (plOf D.now (D.now.length / 2 + (D.now.length - D.now.length / 2) / 2) ((D.now.length - D.now.length / 2) / 2)).1 then (plOf D.now (D.now.length / 2 + (D.now.length - D.now.length / 2) / 2) ((D.now.length - D.now.length / 2) / 2)).2 else (plOf D.now (D.now.length / 2) ((D.now.length - D.now.length / 2) / 2)).2 := rfl

theorem crash_rec {H Z R : Nat} {S : SS} (h : Good H Z R S) (b : List UInt8) (hb : b.length ≤ 200) (k : Nat) (hk : k ≤ (recF b).length) (hr : (b.length : Int) ≤ S.room) :
    (openS (crashed S S.used (recF b) k)).keys = S.keys ∧ (torn (recF b) k = recF b → (openS (crashed S S.used (recF b) k)).recs = S.recs ++ [b]) ∧ (parse 0 smRec (torn (recF b) k) 0 = none → (openS (crashed S S.used (recF b) k)).recs = S.recs) := by
  have hfl : (frames S.recs).length ≤ H := h.used_sum
  have hu : S.used + (recF b).length ≤ H := by
    unfold SS.room at hr
    rw [h.half] at hr
    rw [recF_length]
    have := h.usedH
    omega
  have hN := h.len
  have hcn := crashed_now h S.used (recF b) k hk (by omega)
  have hnow : S.d.now = img H Z R S.recs (S.pl 0) (S.pl 1) := by rw [h.d]; rfl
  have hX : (crashed S S.used (recF b) k).now = pad H (frames S.recs ++ (recF b).take k) ++ (pad Z (S.pl 0) ++ (pad Z (S.pl 1) ++ List.replicate R 0)) := by
    rw [hcn, hnow, h.used]
    unfold img
    rw [splice_pad _ _ _ _ (by rw [List.length_take]; rw [← h.used]; omega)]
  have hpl : (frames S.recs ++ (recF b).take k).length ≤ H := by rw [List.length_append, List.length_take, ← h.used]; omega
  have hlX : (crashed S S.used (recF b) k).now.length = H + Z + Z + R := by
    rw [hX]
    simp only [List.length_append, pad_length _ _ hpl, pad_length _ _ (h.pl_len 0), pad_length _ _ (h.pl_len 1), List.length_replicate]
    omega
  have hpr : pad H (frames S.recs ++ (recF b).take k) = frames S.recs ++ (torn (recF b) k ++ List.replicate (H - (frames S.recs).length - (recF b).length) 0) := by
    rw [pad_more]
    congr 1
    unfold torn
    rw [List.append_assoc, List.replicate_append_replicate, List.length_take]
    congr 2
    rw [← h.used]
    omega
  have hlong := fun z => torn_long (recF b) k b.length (b ++ recSum b) (by unfold recF; rw [List.append_assoc]) hb z
  have hsmall : ∀ r ∈ S.recs, r.length + 1 < 65536 := fun r hr => by have := frames_mem _ _ hr; have := h.big; omega
  refine ⟨?_, fun ht => ?_, fun hn => ?_⟩
  · have hg : (openS S.d).keys = S.keys := by rw [good_open h]
    rw [open_keys] at hg
    rw [open_keys, hlX]
    rw [hN] at hg
    have p0 : ∀ a, H ≤ a → plOf (crashed S S.used (recF b) k).now a Z = plOf S.d.now a Z := fun a ha => by
      unfold plOf
      have e : cut (crashed S S.used (recF b) k).now a Z = cut S.d.now a Z := by
        rw [hX, hnow]
        unfold img
        have l1 := pad_length _ _ hpl
        have l2 := pad_length _ _ hfl
        have e1 := cut_shift (pad H (frames S.recs ++ (recF b).take k)) (pad Z (S.pl 0) ++ (pad Z (S.pl 1) ++ List.replicate R 0)) (a - H) Z
        have e2 := cut_shift (pad H (frames S.recs)) (pad Z (S.pl 0) ++ (pad Z (S.pl 1) ++ List.replicate R 0)) (a - H) Z
        rw [l1, show H + (a - H) = a by omega] at e1
        rw [l2, show H + (a - H) = a by omega] at e2
        rw [e1, e2]
      rw [e]
    rw [h.hH, show (H + Z + Z + R - H) / 2 = Z by rw [show H + Z + Z + R - H = Z + Z + R by omega, h.hZ]] at hg ⊢
    rw [p0 H (Nat.le_refl _), p0 (H + Z) (by omega)]
    exact hg
  · rw [open_recs, hlX, h.hH, hX, List.take_append_of_le_length (by rw [pad_length _ _ hpl]; exact Nat.le_refl _), List.take_of_length_le (by rw [pad_length _ _ hpl]; exact Nat.le_refl _), hpr, ht, ← List.append_assoc, ← frames_snoc]
    rw [recsOf_frames (S.recs ++ [b]) (fun r hr => by rcases List.mem_append.1 hr with hr | hr; exact hsmall r hr; simp at hr; subst hr; omega) _ (parse_zeros _ _ _)]
  · rw [open_recs, hlX, h.hH, hX, List.take_append_of_le_length (by rw [pad_length _ _ hpl]; exact Nat.le_refl _), List.take_of_length_le (by rw [pad_length _ _ hpl]; exact Nat.le_refl _), hpr]
    rw [recsOf_frames S.recs hsmall]
    have := torn_rec (t := torn (recF b) k) (z := List.replicate (H - (frames S.recs).length - (recF b).length) 0) (m := b.length) (by rw [torn_length _ _ hk, recF_length]) hlong
    rw [hn] at this
    cases hq : parse 0 smRec (torn (recF b) k ++ List.replicate (H - (frames S.recs).length - (recF b).length) 0) 0 with
    | none => rfl
    | some v => rw [hq] at this; cases this

/-- The place that is not in use. -/
def SS.other (S : SS) : Nat := if S.atR = 0 then 1 else 0
theorem other_nil {H Z R : Nat} {S : SS} (h : Good H Z R S) : S.pl S.other = [] := by
  unfold SS.pl
  rw [if_neg]
  rintro ⟨a, b⟩
  have hn := h.now1
  unfold SS.other SS.atR at a
  rw [if_neg (show ¬ S.turn = 0 by omega)] at a
  by_cases h0 : (S.now : Int) = 0
  · rw [if_pos h0] at a; omega
  · rw [if_neg h0] at a; omega
theorem crash_key {H Z R : Nat} {S : SS} (h : Good H Z R S) (b : List UInt8) (hb : b.length ≤ 200) (hbz : b.length + 14 ≤ Z) (ht : S.turn + 1 < 4294967296) (k : Nat) (hk : k ≤ (keyF (S.turn + 1) b).length) :
    (openS (crashed S (H + S.other * Z) (keyF (S.turn + 1) b) k)).recs = S.recs ∧ (torn (keyF (S.turn + 1) b) k = keyF (S.turn + 1) b → (openS (crashed S (H + S.other * Z) (keyF (S.turn + 1) b) k)).keys = b) ∧
      ((plOf (torn (keyF (S.turn + 1) b) k) 0 (torn (keyF (S.turn + 1) b) k).length).1 = 0 → (openS (crashed S (H + S.other * Z) (keyF (S.turn + 1) b) k)).keys = S.keys) := by
  obtain ⟨f, hf⟩ : ∃ f, keyF (S.turn + 1) b = f := ⟨_, rfl⟩
  have hfl : f.length = b.length + 14 := by rw [← hf, keyF_length]
  have hfz : f.length ≤ Z := by omega
  have hfr : (pad H (frames S.recs)).length = H := pad_length _ _ h.used_sum
  have hus := h.used_sum
  have hl0 := h.pl_len 0
  have hl1 := h.pl_len 1
  have hN := h.len
  have ho : S.other = 0 ∨ S.other = 1 := by unfold SS.other; split <;> omega
  have hon := other_nil h
  have hnow : S.d.now = img H Z R S.recs (S.pl 0) (S.pl 1) := by rw [h.d]; rfl
  have htz : (f.take k).length ≤ Z := by rw [List.length_take]; omega
  have hcn := crashed_now h (H + S.other * Z) f k (by rw [hf] at hk; exact hk) (by rw [hN]; rcases ho with e | e <;> rw [e] <;> omega)
  -- what stands at the two places
  obtain ⟨p0, p1, hX, hp⟩ : ∃ p0 p1 : List UInt8, (crashed S (H + S.other * Z) f k).now = img H Z R S.recs p0 p1 ∧ (S.other = 0 ∧ p0 = f.take k ∧ p1 = S.pl 1 ∨ S.other = 1 ∧ p0 = S.pl 0 ∧ p1 = f.take k) := by
    rcases ho with e | e
    · refine ⟨f.take k, S.pl 1, ?_, Or.inl ⟨e, rfl, rfl⟩⟩
      rw [e] at hon
      rw [hcn, hnow, e, Nat.zero_mul, Nat.add_zero]
      unfold img
      rw [splice_place _ _ _ _ _ hl0 htz H hfr.symm hon]
    · refine ⟨S.pl 0, f.take k, ?_, Or.inr ⟨e, rfl, rfl⟩⟩
      rw [e] at hon
      rw [hcn, hnow, e, Nat.one_mul]
      unfold img
      rw [← List.append_assoc, splice_place (pad H (frames S.recs) ++ pad Z (S.pl 0)) _ _ _ _ hl1 htz (H + Z) (by rw [List.length_append, hfr, pad_length _ _ hl0]) hon, List.append_assoc]
  have hp0 : p0.length ≤ Z := by rcases hp with ⟨_, e, _⟩ | ⟨_, e, _⟩ <;> rw [e] <;> assumption
  have hp1 : p1.length ≤ Z := by rcases hp with ⟨_, _, e⟩ | ⟨_, _, e⟩ <;> rw [e] <;> assumption
  have hlX : (crashed S (H + S.other * Z) f k).now.length = H + Z + Z + R := by rw [hX]; exact img_length h.used_sum hp0 hp1
  have hsmall : ∀ r ∈ S.recs, r.length + 1 < 65536 := fun r hr => by have := frames_mem _ _ hr; have := h.big; omega
  have c0 : cut (crashed S (H + S.other * Z) f k).now H Z = pad Z p0 := by rw [hX]; exact cut_mid _ _ _ _ _ hfr.symm (pad_length _ _ hp0).symm
  have c1 : cut (crashed S (H + S.other * Z) f k).now (H + Z) Z = pad Z p1 := by
    rw [hX]
    unfold img
    rw [← List.append_assoc]
    exact cut_mid _ _ _ _ _ (by rw [List.length_append, hfr, pad_length _ _ hp0]) (pad_length _ _ hp1).symm
  have plc : ∀ (l l' : List UInt8) (a a' : Nat), cut l a Z = cut l' a' Z → plOf l a Z = plOf l' a' Z := fun l l' a a' e => by unfold plOf; rw [e]
  have hlong := fun z => torn_long f k b.length (putB (S.turn + 1) 4 ++ b ++ keySum (S.turn + 1) b) (by rw [← hf]; unfold keyF; simp) hb z
  have hpt := pad_torn Z f k (by rw [hf] at hk; exact hk) hfz
  have htl : (torn f k).length = b.length + 14 := by rw [torn_length _ _ (by rw [hf] at hk; exact hk), hfl]
  rw [hf]
  refine ⟨?_, ?_⟩
  · rw [open_recs, hlX, h.hH, hX]
    unfold img
    rw [List.take_append_of_le_length (by omega), List.take_of_length_le (by omega), recsOf_pad _ hsmall]
  -- the new keys' place
  have qn : ∀ (l : List UInt8) (a : Nat), cut l a Z = pad Z (f.take k) → (torn f k = f → plOf l a Z = (S.turn + 1, b)) ∧ ((plOf (torn f k) 0 (torn f k).length).1 = 0 → (plOf l a Z).1 = 0) := fun l a hc => by
    refine ⟨fun hall => ?_, fun hno => ?_⟩
    · refine plOf_key l a Z (S.turn + 1) b ?_ ht (by omega) (by have := h.big; omega)
      rw [hc, hpt, hall, hf]
      rfl
    · have e := torn_key (t := torn f k) (z := List.replicate (Z - f.length) 0) (m := b.length) htl hlong
      rw [e] at hno
      have hz : (torn f k ++ List.replicate (Z - f.length) 0).length = Z := by rw [List.length_append, htl, List.length_replicate]; omega
      rw [hz] at hno
      have := plc l (torn f k ++ List.replicate (Z - f.length) 0) a 0 (by rw [hc, hpt]; unfold cut; rw [List.drop_zero, List.take_of_length_le (by omega)])
      rw [this]
      exact hno
  have qo : ∀ (i : Nat) (l : List UInt8) (a : Nat), cut l a Z = pad Z (S.pl i) → plOf l a Z = if S.now = i ∧ 0 < S.turn then (S.turn, S.keys) else (0, []) := fun i l a hc => pl_here h i l a hc
  have fin : (openS (crashed S (H + S.other * Z) f k)).keys = if (plOf (crashed S (H + S.other * Z) f k).now H Z).1 < (plOf (crashed S (H + S.other * Z) f k).now (H + Z) Z).1 then (plOf (crashed S (H + S.other * Z) f k).now (H + Z) Z).2 else (plOf (crashed S (H + S.other * Z) f k).now H Z).2 := by
    rw [open_keys, hlX, h.hH, show (H + Z + Z + R - H) / 2 = Z by rw [show H + Z + Z + R - H = Z + Z + R by omega, h.hZ]]
  have hoe : ∀ j, S.other = j → (j = 0 → S.turn = 0 ∨ S.now = 1) ∧ (j = 1 → S.now = 0 ∧ 0 < S.turn) := fun j e => by
    unfold SS.other SS.atR at e
    have := h.now1
    by_cases h0 : S.turn = 0
    · rw [if_pos h0, if_neg (by decide)] at e
      exact ⟨fun _ => Or.inl h0, fun e1 => by omega⟩
    · rw [if_neg h0] at e
      split at e
      · exact ⟨fun e1 => by omega, fun _ => ⟨by omega, by omega⟩⟩
      · exact ⟨fun _ => Or.inr (by omega), fun e1 => by omega⟩
  have pf := fun (l : List UInt8) (a : Nat) => plOf_facts l a Z
  rcases hp with ⟨e, rfl, rfl⟩ | ⟨e, rfl, rfl⟩
  · have hoo := (hoe 0 e).1 rfl
    obtain ⟨n1, n2⟩ := qn _ _ c0
    have o1 := qo 1 _ _ c1
    refine ⟨fun hall => ?_, fun hno => ?_⟩
    · rw [fin, n1 hall, o1, if_neg]
      by_cases hc : S.now = 1 ∧ 0 < S.turn
      · rw [if_pos hc]; dsimp only; omega
      · rw [if_neg hc]; dsimp only; omega
    · have hz := n2 hno
      have hk0 := (pf (crashed S (H + S.other * Z) f k).now H).2.2 hz
      rw [fin, o1, hz, hk0]
      by_cases hc : S.now = 1 ∧ 0 < S.turn
      · rw [if_pos hc, if_pos hc.2]
      · rw [if_neg hc]
        have h0 : S.turn = 0 := by
          rcases hoo with h0 | h0
          · exact h0
          · have := h.nowT h0; omega
        rw [h.turn0 h0]
        simp
  · have hoo := (hoe 1 e).2 rfl
    obtain ⟨n1, n2⟩ := qn _ _ c1
    have o0 := qo 0 _ _ c0
    rw [if_pos hoo] at o0
    refine ⟨fun hall => ?_, fun hno => ?_⟩
    · rw [fin, n1 hall, o0, if_pos (by dsimp only; omega)]
    · have hz := n2 hno
      rw [fin, hz, if_neg (by omega), o0]
end Go.Proofs.Ytpojkhjenbbodaa
