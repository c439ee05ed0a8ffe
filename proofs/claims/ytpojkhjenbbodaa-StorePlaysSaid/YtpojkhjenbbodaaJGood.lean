/-
  Joined texts of the proofs of chapter 29: StoreG StoreI Made Lives29 SameR29 Acts29. Conditions: those that each theorem names.
-/
import Derived.Lib.SlBytesConst
import Derived.Test.YtpojkhjenbbodaaJTools
import Derived.Test.YtpojkhjenbbodaaJHash
import Derived.Test.YtpojkhjenbbodaaJStore
import Derived.Test.YtpojkhjenbbodaaJSet
import Derived.Test.YtpojkhjenbbodaaJOpen
namespace Go.Proofs.Ytpojkhjenbbodaa
open Go.RowKit

def pad (n : Nat) (l : List UInt8) : List UInt8 := l ++ List.replicate (n - l.length) 0
theorem pad_length (n : Nat) (l : List UInt8) (h : l.length ≤ n) : (pad n l).length = n := by simp [pad]; omega
def frames (rs : List (List UInt8)) : List UInt8 := (rs.map recF).flatten
theorem frames_snoc (rs : List (List UInt8)) (r : List UInt8) : frames (rs ++ [r]) = frames rs ++ recF r := by simp [frames]
theorem frames_cons (rs : List (List UInt8)) (r : List UInt8) : frames (r :: rs) = recF r ++ frames rs := by simp [frames]
theorem frames_length (rs : List (List UInt8)) : (frames rs).length = (rs.map fun r => 10 + r.length).sum := by
  induction rs with
  | nil => rfl
  | cons r rs ih => rw [frames_cons, List.length_append, recF_length, ih]; simp; omega

theorem le_zero_cons (l : List UInt8) : le (0 :: l) = 256 * le l := by simp [le]
theorem le_replicate (n : Nat) : le (List.replicate n 0) = 0 := by
  induction n with
  | zero => rfl
  | succ n ih => rw [List.replicate_succ, le_zero_cons, ih]
theorem putB_zero (n : Nat) : putB n 0 = [] := rfl
theorem putB_succ (n k : Nat) : putB n (k + 1) = UInt8.ofNat n :: putB (n / 256) k := by
  unfold putB
  rw [List.range_succ_eq_map]
  simp only [List.map_cons, List.map_map, Nat.pow_zero, Nat.div_one]
  congr 1
  refine List.map_congr_left (fun i _ => ?_)
  simp only [Function.comp_apply]
  rw [Nat.pow_succ, Nat.mul_comm, ← Nat.div_div_eq_div_mul]
theorem le_putB (k : Nat) : ∀ n, n < 256 ^ k → le (putB n k) = n := by
  induction k with
  | zero => intro n h; simp at h; subst h; rfl
  | succ k ih =>
    intro n h
    rw [putB_succ]
    show (UInt8.ofNat n).toNat + 256 * le (putB (n / 256) k) = n
    rw [ih (n / 256) (by rw [Nat.pow_succ, Nat.mul_comm] at h; exact Nat.div_lt_of_lt_mul h), UInt8.toNat_ofNat']
    omega

theorem cut_append (a b : List UInt8) (i k : Nat) (h : i = a.length) : cut (a ++ b) i k = b.take k := by
  subst h
  unfold cut
  rw [List.drop_left]
theorem cut_shift (a b : List UInt8) (i k : Nat) : cut (a ++ b) (a.length + i) k = cut b i k := by
  unfold cut
  rw [List.drop_append, List.drop_eq_nil_of_le (by omega), Nat.add_sub_cancel_left, List.nil_append]
theorem cut_take (l : List UInt8) (n i k : Nat) (h : i + k ≤ n) : cut (l.take n) i k = cut l i k := by
  unfold cut
  rw [List.drop_take, List.take_take]
  congr 1
  omega

/-- A frame is read from where it stands. -/
theorem parse_shift (btw : Nat) (sm : List UInt8 → List UInt8 → List UInt8) (a b : List UInt8) (i : Nat) :
    parse btw sm (a ++ b) (a.length + i) = (parse btw sm b i).map fun v => (v.1, v.2.1, a.length + v.2.2) := by
  unfold parse
  have e1 : cut (a ++ b) (a.length + i) 2 = cut b i 2 := cut_shift a b i 2
  simp only [e1, List.length_append]
  have e2 : ∀ j, cut (a ++ b) (a.length + i + j) = cut b (i + j) := fun j => by funext k; rw [Nat.add_assoc]; exact cut_shift a b (i + j) k
  simp only [Nat.add_assoc] at e2 ⊢
  simp only [e2]
  by_cases h1 : b.length < i + 2 ∨ le (cut b i 2) = 0
  · rw [if_pos h1, if_pos (by omega)]; rfl
  · rw [if_neg h1, if_neg (by omega)]
    by_cases h2 : b.length < i + (2 + (btw + (le (cut b i 2) - 1 + 8)))
    · rw [if_pos h2, if_pos (by omega)]; rfl
    · rw [if_neg h2, if_neg (by omega)]
      by_cases h3 : cut b (i + (2 + (btw + (le (cut b i 2) - 1)))) 8 = sm (cut b (i + 2) btw) (cut b (i + (2 + btw)) (le (cut b i 2) - 1))
      · rw [if_pos h3, if_pos h3]
        simp
      · rw [if_neg h3, if_neg h3]; rfl
theorem parse_at (btw : Nat) (sm : List UInt8 → List UInt8 → List UInt8) (a b : List UInt8) : parse btw sm (a ++ b) a.length = (parse btw sm b 0).map fun v => (v.1, v.2.1, a.length + v.2.2) := parse_shift btw sm a b 0

theorem parse_of (btw : Nat) (sm : List UInt8 → List UInt8 → List UInt8) (x y rest : List UInt8) (hx : x.length = btw) (hy : y.length + 1 < 65536) (hs : (sm x y).length = 8) :
    parse btw sm (putB (y.length + 1) 2 ++ (x ++ (y ++ (sm x y ++ rest)))) 0 = some (x, y, 10 + btw + y.length) := by
  have hp : (putB (y.length + 1) 2).length = 2 := putB_length _ _
  have c0 : cut (putB (y.length + 1) 2 ++ (x ++ (y ++ (sm x y ++ rest)))) 0 2 = putB (y.length + 1) 2 := by
    unfold cut; rw [List.drop_zero, List.take_append_of_le_length (by omega), List.take_of_length_le (by omega)]
  have hl : le (putB (y.length + 1) 2) = y.length + 1 := le_putB 2 _ (by omega)
  have c1 : cut (putB (y.length + 1) 2 ++ (x ++ (y ++ (sm x y ++ rest)))) 2 btw = x := by
    rw [cut_append _ _ _ _ hp.symm, ← hx, List.take_left]
  have c2 : cut (putB (y.length + 1) 2 ++ (x ++ (y ++ (sm x y ++ rest)))) (2 + btw) y.length = y := by
    rw [← List.append_assoc, cut_append _ _ _ _ (by rw [List.length_append]; omega), List.take_left]
  have c3 : cut (putB (y.length + 1) 2 ++ (x ++ (y ++ (sm x y ++ rest)))) (2 + btw + y.length) 8 = sm x y := by
    rw [← List.append_assoc, ← List.append_assoc, cut_append _ _ _ _ (by rw [List.length_append, List.length_append]; omega), ← hs, List.take_left]
  unfold parse
  simp only [c0, hl, Nat.zero_add, Nat.add_sub_cancel, c1, c2, c3]
  rw [if_neg (by simp only [List.length_append, hp, hs]; omega), if_neg (by simp only [List.length_append, hp, hs]; omega)]
  simp
  omega
theorem parse_rec (r rest : List UInt8) (h : r.length + 1 < 65536) : parse 0 smRec (recF r ++ rest) 0 = some ([], r, r.length + 10) := by
  have := parse_of 0 smRec [] r rest rfl h (recSum_length r)
  simp only [smRec, List.nil_append] at this
  rw [show recF r ++ rest = putB (r.length + 1) 2 ++ (r ++ (recSum r ++ rest)) by simp [recF], this]
  simp; omega
theorem parse_key (t : Nat) (k rest : List UInt8) (ht : t < 4294967296) (h : k.length + 1 < 65536) : parse 4 smKey (keyF t k ++ rest) 0 = some (putB t 4, k, k.length + 14) := by
  have hl : le (putB t 4) = t := le_putB 4 t (by omega)
  have := parse_of 4 smKey (putB t 4) k rest (putB_length _ _) h (keySum_length _ _)
  simp only [smKey, hl] at this
  rw [show keyF t k ++ rest = putB (k.length + 1) 2 ++ (putB t 4 ++ (k ++ (keySum t k ++ rest))) by simp [keyF], this]
  simp; omega
theorem parse_zeros (btw : Nat) (sm : List UInt8 → List UInt8 → List UInt8) (n : Nat) : parse btw sm (List.replicate n 0) 0 = none := by
  unfold parse
  rw [if_pos]
  by_cases h : n < 2
  · left; simp; omega
  · right
    unfold cut
    rw [List.drop_zero, List.take_replicate]
    exact le_replicate _

theorem recsF_frames (rs : List (List UInt8)) (hr : ∀ r ∈ rs, r.length + 1 < 65536) : ∀ (a b : List UInt8) (k : Nat), rs.length ≤ k →
    recsF (a ++ (frames rs ++ b)) k a.length = (rs ++ (recsF (a ++ (frames rs ++ b)) (k - rs.length) (a.length + (frames rs).length)).1, (recsF (a ++ (frames rs ++ b)) (k - rs.length) (a.length + (frames rs).length)).2) := by
  induction rs with
  | nil => intro a b k _; simp [frames]
  | cons r rs ih =>
    intro a b k hk
    obtain ⟨k, rfl⟩ : ∃ j, k = j + 1 := ⟨k - 1, by simp at hk; omega⟩
    have hp : parse 0 smRec (a ++ (frames (r :: rs) ++ b)) a.length = some ([], r, a.length + (r.length + 10)) := by
      rw [parse_at, frames_cons, List.append_assoc, parse_rec r _ (hr r (by simp))]
      rfl
    rw [recsF_some _ k _ hp]
    have e : a ++ (frames (r :: rs) ++ b) = (a ++ recF r) ++ (frames rs ++ b) := by rw [frames_cons]; simp
    have hla : (a ++ recF r).length = a.length + (r.length + 10) := by rw [List.length_append, recF_length]
    have i := ih (fun x hx => hr x (List.mem_cons_of_mem _ hx)) (a ++ recF r) b k (by simp at hk; omega)
    rw [e, ← hla, i]
    have h1 : (frames (r :: rs)).length = (recF r).length + (frames rs).length := by rw [frames_cons, List.length_append]
    simp only [List.length_cons, Nat.add_sub_add_right, h1, List.cons_append, List.length_append, Nat.add_assoc]
theorem frames_many (rs : List (List UInt8)) : rs.length ≤ (frames rs).length := by
  induction rs with
  | nil => simp
  | cons r rs ih => rw [frames_cons, List.length_append, recF_length]; simp; omega
/-- What Open reads of records, if behind them stands no other. -/
theorem recsOf_frames (rs : List (List UInt8)) (hr : ∀ r ∈ rs, r.length + 1 < 65536) (b : List UInt8) (hb : parse 0 smRec b 0 = none) : recsOf (frames rs ++ b) = (rs, (frames rs).length) := by
  have h := recsF_frames rs hr [] b ((frames rs ++ b).length + 1) (by have := frames_many rs; simp; omega)
  simp only [List.nil_append, List.length_nil, Nat.zero_add] at h
  unfold recsOf
  rw [h, recsF_none _ _ _ (by rw [parse_at, hb]; rfl), List.append_nil]
theorem recsOf_pad (rs : List (List UInt8)) (hr : ∀ r ∈ rs, r.length + 1 < 65536) (n : Nat) : recsOf (pad n (frames rs)) = (rs, (frames rs).length) := recsOf_frames rs hr _ (parse_zeros _ _ _)
end Go.Proofs.Ytpojkhjenbbodaa

namespace Go.Proofs.Ytpojkhjenbbodaa
open Go.RowKit

theorem splice_mid {α : Type} (a b c d : List α) (i : Nat) (hi : i = a.length) (h : d.length = b.length) : splice (a ++ (b ++ c)) i d = a ++ (d ++ c) := by
  subst hi
  unfold splice
  rw [List.take_left, h, List.drop_append, List.drop_eq_nil_of_le (by omega), Nat.add_sub_cancel_left, List.nil_append, List.drop_left]
theorem pad_more (n : Nat) (f g : List UInt8) : pad n (f ++ g) = f ++ (g ++ List.replicate (n - (f.length + g.length)) 0) := by simp [pad]
theorem pad_split (n m : Nat) (f : List UInt8) (h : f.length + m ≤ n) : pad n f = f ++ (List.replicate m 0 ++ List.replicate (n - (f.length + m)) 0) := by
  rw [List.replicate_append_replicate]
  unfold pad
  congr 2
  omega
theorem splice_pad (n : Nat) (f g x : List UInt8) (h : f.length + g.length ≤ n) : splice (pad n f ++ x) f.length g = pad n (f ++ g) ++ x := by
  rw [pad_split n g.length f h, pad_more]
  simp only [List.append_assoc]
  rw [splice_mid _ _ _ _ _ rfl (by simp)]
theorem splice_rest (n : Nat) (f x : List UInt8) : splice (pad n f ++ x) f.length (List.replicate (n - f.length) 0) = pad n f ++ x := by
  unfold pad
  rw [List.append_assoc, splice_mid _ _ _ _ _ rfl rfl]
theorem splice_place (a x : List UInt8) (n : Nat) (p g : List UInt8) (hp : p.length ≤ n) (hg : g.length ≤ n) (i : Nat) (hi : i = a.length) (h0 : p = []) : splice (a ++ (pad n p ++ x)) i g = a ++ (pad n g ++ x) := by
  subst h0 hi
  have h1 : pad n [] = List.replicate g.length 0 ++ List.replicate (n - g.length) 0 := by
    rw [List.replicate_append_replicate]; simp [pad]; omega
  rw [h1, List.append_assoc, splice_mid _ _ _ _ _ rfl (by simp)]
  simp [pad]
theorem splice_clear (a x : List UInt8) (n : Nat) (p : List UInt8) (hp : p.length ≤ n) (i : Nat) (hi : i = a.length) : splice (a ++ (pad n p ++ x)) i (List.replicate n 0) = a ++ (pad n [] ++ x) := by
  rw [splice_mid _ _ _ _ _ hi (by rw [pad_length _ _ hp]; simp)]
  simp [pad]

/-- What stands at a place for keys. -/
def SS.pl (S : SS) (i : Nat) : List UInt8 := if S.now = i ∧ 0 < S.turn then keyF S.turn S.keys else []
/-- A disk's bytes. -/
def img (H Z R : Nat) (rs : List (List UInt8)) (p0 p1 : List UInt8) : List UInt8 := pad H (frames rs) ++ (pad Z p0 ++ (pad Z p1 ++ List.replicate R 0))
def DS.of (l : List UInt8) : DS := ⟨l, l, [], false⟩

structure Good (H Z R : Nat) (S : SS) : Prop where
  d : S.d = DS.of (img H Z R S.recs (S.pl 0) (S.pl 1))
  used : S.used = (frames S.recs).length
  usedH : S.used ≤ H
  now1 : S.now ≤ 1
  nowT : S.now = 1 → 0 < S.turn
  turn0 : S.turn = 0 → S.keys = []
  turnB : S.turn < 4294967296
  fit : 0 < S.turn → S.keys.length + 14 ≤ Z
  hH : (H + Z + Z + R) / 2 = H
  hZ : (Z + Z + R) / 2 = Z
  big : H + Z + Z + R ≤ 65536

theorem Good.pl_len {H Z R : Nat} {S : SS} (h : Good H Z R S) (i : Nat) : (S.pl i).length ≤ Z := by
  unfold SS.pl
  split
  · rename_i hc
    rw [keyF_length]
    have := h.fit hc.2
    omega
  · simp
theorem frames_mem (rs : List (List UInt8)) (r : List UInt8) (h : r ∈ rs) : r.length + 10 ≤ (frames rs).length := by
  induction rs with
  | nil => cases h
  | cons x rs ih =>
    rw [frames_cons, List.length_append, recF_length]
    rcases List.mem_cons.1 h with rfl | h
    · omega
    · have := ih h; omega
theorem img_length {H Z R : Nat} {rs : List (List UInt8)} {p0 p1 : List UInt8} (h : (frames rs).length ≤ H) (h0 : p0.length ≤ Z) (h1 : p1.length ≤ Z) : (img H Z R rs p0 p1).length = H + Z + Z + R := by
  unfold img
  simp only [List.length_append, pad_length _ _ h, pad_length _ _ h0, pad_length _ _ h1, List.length_replicate]
  omega
theorem Good.len {H Z R : Nat} {S : SS} (h : Good H Z R S) : S.d.now.length = H + Z + Z + R := by
  rw [h.d]
  exact img_length (by rw [← h.used]; exact h.usedH) (h.pl_len 0) (h.pl_len 1)
theorem Good.half {H Z R : Nat} {S : SS} (h : Good H Z R S) : S.half = H := by
  unfold SS.half; rw [h.len, h.hH]
theorem Good.sz {H Z R : Nat} {S : SS} (h : Good H Z R S) : S.sz = Z := by
  unfold SS.sz
  rw [h.len, h.hH, show H + Z + Z + R - H = Z + Z + R by omega, h.hZ]
theorem Good.cr {H Z R : Nat} {S : SS} (h : Good H Z R S) : S.d.cr = false := by rw [h.d]; rfl
theorem Good.lo {H Z R : Nat} {S : SS} (h : Good H Z R S) : S.d.lo = [] := by rw [h.d]; rfl

/-- The empty store of a disk of noughts. -/
def S0 (N : Nat) : SS := ⟨DS.of (List.replicate N 0), 0, [], 0, 0, []⟩
theorem S0_good {H Z R : Nat} (hH : (H + Z + Z + R) / 2 = H) (hZ : (Z + Z + R) / 2 = Z) (big : H + Z + Z + R ≤ 65536) : Good H Z R (S0 (H + Z + Z + R)) where
  d := by
    show DS.of (List.replicate (H + Z + Z + R) 0) = _
    congr 1
    show _ = pad H [] ++ (pad Z [] ++ (pad Z [] ++ List.replicate R 0))
    simp only [pad, List.nil_append, List.length_nil, Nat.sub_zero, List.replicate_append_replicate]
    congr 1
    omega
  used := rfl
  usedH := Nat.zero_le _
  now1 := Nat.zero_le _
  nowT := fun h => by cases h
  turn0 := fun _ => rfl
  turnB := by show 0 < _; omega
  fit := fun h => by cases h
  hH := hH
  hZ := hZ
  big := big

theorem good_append {H Z R : Nat} {S : SS} (h : Good H Z R S) (r : List UInt8) (hr : (r.length : Int) ≤ S.room) : (S.append r).2 = 0 ∧ Good H Z R (S.append r).1 ∧ (S.append r).1.recs = S.recs ++ [r] ∧ (S.append r).1.keys = S.keys ∧ (S.append r).1.turn = S.turn ∧ (S.append r).1.now = S.now := by
  have hc := h.cr
  have e : S.append r = ({ S with d := (S.d.write S.used (recF r)).sync, used := S.used + (r.length + 10), recs := S.recs ++ [r] }, 0) := by
    unfold SS.append
    rw [if_neg (by omega), hc]
    rfl
  rw [e]
  have hu : S.used + (r.length + 10) ≤ H := by
    unfold SS.room at hr
    rw [h.half] at hr
    have := h.usedH
    omega
  refine ⟨rfl, ?_, rfl, rfl, rfl, rfl⟩
  refine { d := ?_, used := ?_, usedH := hu, now1 := h.now1, nowT := h.nowT, turn0 := h.turn0, turnB := h.turnB, fit := h.fit, hH := h.hH, hZ := h.hZ, big := h.big }
  · show (S.d.write S.used (recF r)).sync = DS.of (img H Z R (S.recs ++ [r]) (S.pl 0) (S.pl 1))
    rw [h.d, h.used]
    unfold DS.write DS.sync DS.of img
    simp only
    rw [splice_pad _ _ _ _ (by rw [recF_length, ← h.used]; exact hu), ← frames_snoc]
  · show S.used + (r.length + 10) = (frames (S.recs ++ [r])).length
    rw [frames_snoc, List.length_append, recF_length, h.used]
theorem append_full {S : SS} (r : List UInt8) (hr : S.room < (r.length : Int)) : S.append r = (S, 3) := by
  unfold SS.append
  rw [if_pos hr]

theorem good_set {H Z R : Nat} {S : SS} (h : Good H Z R S) (k : List UInt8) (hk : k.length + 14 ≤ Z) (ht : S.turn + 1 < 4294967296) : (S.set k).2 = 0 ∧ Good H Z R (S.set k).1 ∧ (S.set k).1.recs = S.recs ∧ (S.set k).1.keys = k ∧ (S.set k).1.turn = S.turn + 1 ∧ (S.set k).1.used = S.used ∧ (S.set k).1.now = S.to := by
  have hc := h.cr
  have e : S.set k = ({ S with d := ((((S.d.write (S.atP S.to) (keyF (S.turn + 1) k)).sync).zero (S.atP (1 - S.to)) S.sz).sync), now := S.to, turn := S.turn + 1, keys := k }, 0) := by
    unfold SS.set
    rw [if_neg (by rw [h.sz]; omega), hc]
    rfl
  rw [e]
  refine ⟨rfl, ?_, rfl, rfl, rfl, rfl, rfl⟩
  have n1 := h.now1
  have hto : S.to = 0 ∨ S.to = 1 := by unfold SS.to; split <;> omega
  have hl0 := h.pl_len 0
  have hl1 := h.pl_len 1
  have hkl : (keyF (S.turn + 1) k).length ≤ Z := by rw [keyF_length]; exact hk
  have hfr : (pad H (frames S.recs)).length = H := pad_length _ _ (by rw [← h.used]; exact h.usedH)
  refine { d := ?_, used := h.used, usedH := h.usedH, now1 := by show S.to ≤ 1; omega, nowT := fun _ => Nat.succ_pos _, turn0 := fun h0 => absurd h0 (by show ¬ S.turn + 1 = 0; omega), turnB := ht, fit := fun _ => hk, hH := h.hH, hZ := h.hZ, big := h.big }
  show ((S.d.write (S.atP S.to) (keyF (S.turn + 1) k)).sync.zero (S.atP (1 - S.to)) S.sz).sync = DS.of (img H Z R S.recs (if S.to = 0 ∧ 0 < S.turn + 1 then keyF (S.turn + 1) k else []) (if S.to = 1 ∧ 0 < S.turn + 1 then keyF (S.turn + 1) k else []))
  unfold SS.atP
  rw [h.d, h.sz, h.half]
  rcases hto with hto | hto
  · have p0 : S.pl 0 = [] := by
      unfold SS.pl
      rw [if_neg]
      rintro ⟨a, b⟩
      unfold SS.to at hto
      rw [if_pos b] at hto
      omega
    rw [hto]
    unfold DS.zero DS.write DS.sync DS.of img
    simp only [Nat.zero_mul, Nat.add_zero, Nat.sub_zero, Nat.one_mul, true_and, Nat.succ_pos, if_true]
    rw [splice_place _ _ _ _ _ hl0 hkl H hfr.symm p0]
    rw [← List.append_assoc (pad H (frames S.recs)), splice_clear (pad H (frames S.recs) ++ pad Z (keyF (S.turn + 1) k)) _ _ _ hl1 (H + Z) (by rw [List.length_append, hfr, pad_length _ _ hkl]), List.append_assoc]
    simp
  · have p1 : S.pl 1 = [] := by
      unfold SS.pl
      rw [if_neg]
      rintro ⟨a, b⟩
      unfold SS.to at hto
      rw [if_pos b] at hto
      omega
    rw [hto]
    unfold DS.zero DS.write DS.sync DS.of img
    simp only [Nat.zero_mul, Nat.add_zero, Nat.sub_self, Nat.one_mul, true_and, Nat.succ_pos, if_true]
    rw [← List.append_assoc (pad H (frames S.recs)), splice_place (pad H (frames S.recs) ++ pad Z (S.pl 0)) _ _ _ _ hl1 hkl (H + Z) (by rw [List.length_append, hfr, pad_length _ _ hl0]) p1, List.append_assoc]
    rw [splice_clear _ _ _ _ hl0 H hfr.symm]
    simp
theorem set_full {S : SS} (k : List UInt8) (hk : S.sz < k.length + 14) : S.set k = (S, 3) := by
  unfold SS.set
  rw [if_pos hk]

theorem cut_mid (a b c : List UInt8) (i n : Nat) (hi : i = a.length) (hn : n = b.length) : cut (a ++ (b ++ c)) i n = b := by
  subst hi hn
  rw [cut_append _ _ _ _ rfl, List.take_left]
theorem parse_pad_nil (z : Nat) : parse 4 smKey (pad z []) 0 = none := by
  have : pad z [] = List.replicate z 0 := by simp [pad]
  rw [this]
  exact parse_zeros _ _ _
theorem plOf_nil (l : List UInt8) (a z : Nat) (hc : cut l a z = pad z []) : plOf l a z = (0, []) := by
  unfold plOf
  rw [hc, parse_pad_nil]
theorem plOf_key (l : List UInt8) (a z t : Nat) (k : List UInt8) (hc : cut l a z = pad z (keyF t k)) (ht : t < 4294967296) (h0 : 0 < t) (hk : k.length + 1 < 65536) : plOf l a z = (t, k) := by
  unfold plOf
  rw [hc]
  unfold pad
  rw [parse_key t k _ ht hk]
  show (if le (putB t 4) = 0 then (0, []) else (le (putB t 4), k)) = (t, k)
  rw [le_putB 4 t (by omega), if_neg (by omega)]
theorem pl_here {H Z R : Nat} {S : SS} (h : Good H Z R S) (i : Nat) (l : List UInt8) (a : Nat) (hc : cut l a Z = pad Z (S.pl i)) : plOf l a Z = if S.now = i ∧ 0 < S.turn then (S.turn, S.keys) else (0, []) := by
  unfold SS.pl at hc
  split
  · rename_i hi
    rw [if_pos hi] at hc
    exact plOf_key l a Z _ _ hc h.turnB hi.2 (by have := h.fit hi.2; have := h.big; omega)
  · rename_i hi
    rw [if_neg hi] at hc
    exact plOf_nil l a Z hc
/-- Open finds what is there. -/
theorem good_open {H Z R : Nat} {S : SS} (h : Good H Z R S) : openS S.d = S := by
  have n1 := h.now1
  have hl0 := h.pl_len 0
  have hl1 := h.pl_len 1
  have hfl : (frames S.recs).length ≤ H := by rw [← h.used]; exact h.usedH
  have hfr : (pad H (frames S.recs)).length = H := pad_length _ _ hfl
  have hN := h.len
  have hhf : S.d.now.length / 2 = H := by rw [hN, h.hH]
  have hsz : (S.d.now.length - H) / 2 = Z := by rw [hN, show H + Z + Z + R - H = Z + Z + R by omega, h.hZ]
  have hnow : S.d.now = img H Z R S.recs (S.pl 0) (S.pl 1) := by rw [h.d]; rfl
  have htake : S.d.now.take H = pad H (frames S.recs) := by rw [hnow]; unfold img; rw [List.take_append_of_le_length (by omega), List.take_of_length_le (by omega)]
  have hrec : (S.recs, S.used) = recsOf (S.d.now.take H) := by
    rw [htake, recsOf_pad _ (fun r hr => by have := frames_mem _ _ hr; have := h.big; omega), h.used]
  have q0 : plOf S.d.now H Z = if S.now = 0 ∧ 0 < S.turn then (S.turn, S.keys) else (0, []) := by
    refine pl_here h 0 _ _ ?_
    rw [hnow]
    exact cut_mid _ _ _ _ _ hfr.symm (pad_length _ _ hl0).symm
  have q1 : plOf S.d.now (H + Z) Z = if S.now = 1 ∧ 0 < S.turn then (S.turn, S.keys) else (0, []) := by
    refine pl_here h 1 _ _ ?_
    rw [hnow]
    unfold img
    rw [← List.append_assoc]
    exact cut_mid _ _ _ _ _ (by rw [List.length_append, hfr, pad_length _ _ hl0]) (pad_length _ _ hl1).symm
  have z1 : S.d.zero S.used (H - S.used) = { now := S.d.now, sure := S.d.now, lo := mkLo S.used (List.replicate (H - S.used) 0), cr := false } := by
    rw [h.d, h.used]
    unfold DS.zero DS.write DS.of img
    simp only [splice_rest, List.nil_append]
  have zz : ∀ (lo : List (Nat × UInt8)) (a i : Nat), S.pl i = [] → (i = 0 ∧ a = H ∨ i = 1 ∧ a = H + Z) → ∃ lo', DS.zero { now := S.d.now, sure := S.d.now, lo := lo, cr := false } a Z = { now := S.d.now, sure := S.d.now, lo := lo', cr := false } := by
    intro lo a i hp ha
    refine ⟨lo ++ mkLo a (List.replicate Z 0), ?_⟩
    unfold DS.zero DS.write
    simp only
    congr 1
    rw [hnow]
    unfold img
    rcases ha with ⟨rfl, rfl⟩ | ⟨rfl, rfl⟩
    · rw [splice_clear _ _ _ _ hl0 _ hfr.symm, hp]
    · rw [← List.append_assoc, splice_clear _ _ _ _ hl1 _ (by rw [List.length_append, hfr, pad_length _ _ hl0]), hp]
  have hs : ∀ lo, (DS.sync { now := S.d.now, sure := S.d.now, lo := lo, cr := false }) = S.d := by
    intro lo
    rw [h.d]
    rfl
  rcases (show S.now = 0 ∨ S.now = 1 by omega) with h0 | h0
  · by_cases ht : S.turn = 0
    · have e0 : plOf S.d.now H Z = (0, []) := by rw [q0, if_neg (by omega)]
      have e1 : plOf S.d.now (H + Z) Z = (0, []) := by rw [q1, if_neg (by omega)]
      rw [openS_zero hhf hsz rfl hrec e0 e1 (by omega) rfl, z1]
      obtain ⟨lo1, w1⟩ := zz (mkLo S.used (List.replicate (H - S.used) 0)) H 0 (by unfold SS.pl; rw [if_neg (by omega)]) (Or.inl ⟨rfl, rfl⟩)
      obtain ⟨lo2, w2⟩ := zz lo1 (H + Z) 1 (by unfold SS.pl; rw [if_neg (by omega)]) (Or.inr ⟨rfl, rfl⟩)
      rw [w1, w2, hs]
      have hk := h.turn0 ht
      obtain ⟨d, used, recs, now, turn, keys⟩ := S
      simp only at h0 ht hk ⊢
      subst h0 ht hk
      rfl
    · have e0 : plOf S.d.now H Z = (S.turn, S.keys) := by rw [q0, if_pos (by omega)]
      have e1 : plOf S.d.now (H + Z) Z = (0, []) := by rw [q1, if_neg (by omega)]
      rw [openS_ge hhf hsz rfl hrec e0 e1 (by omega) ht, z1]
      obtain ⟨lo2, w2⟩ := zz (mkLo S.used (List.replicate (H - S.used) 0)) (H + Z) 1 (by unfold SS.pl; rw [if_neg (by omega)]) (Or.inr ⟨rfl, rfl⟩)
      rw [w2, hs]
      obtain ⟨d, used, recs, now, turn, keys⟩ := S
      simp only at h0 ⊢
      subst h0
      rfl
  · have ht := h.nowT h0
    have e0 : plOf S.d.now H Z = (0, []) := by rw [q0, if_neg (by omega)]
    have e1 : plOf S.d.now (H + Z) Z = (S.turn, S.keys) := by rw [q1, if_pos ⟨h0, ht⟩]
    rw [openS_lt hhf hsz rfl hrec e0 e1 ht, z1]
    obtain ⟨lo2, w2⟩ := zz (mkLo S.used (List.replicate (H - S.used) 0)) H 0 (by unfold SS.pl; rw [if_neg (by omega)]) (Or.inl ⟨rfl, rfl⟩)
    rw [w2, hs]
    obtain ⟨d, used, recs, now, turn, keys⟩ := S
    simp only at h0 ⊢
    subst h0
    rfl
/-- A crash changes nothing of it. -/
theorem good_crash {H Z R : Nat} {S : SS} (h : Good H Z R S) (left : Int) : (S.d.crash left).opened = S.d := by
  rw [h.d]
  unfold DS.crash DS.opened DS.of DS.left
  simp
end Go.Proofs.Ytpojkhjenbbodaa

namespace Go.Proofs.Ytpojkhjenbbodaa
open Go.RowKit

theorem parts_of (N : Nat) : ∃ H Z R, N = H + Z + Z + R ∧ (H + Z + Z + R) / 2 = H ∧ (Z + Z + R) / 2 = Z ∧ H = N / 2 ∧ Z = (N - N / 2) / 2 :=
  ⟨N / 2, (N - N / 2) / 2, N - N / 2 - (N - N / 2) / 2 - (N - N / 2) / 2, by omega, by omega, by omega, rfl, rfl⟩
theorem open_new (N : Nat) (h : N ≤ 65536) : openS ⟨List.replicate N 0, List.replicate N 0, [], false⟩ = S0 N := by
  obtain ⟨H, Z, R, e, h1, h2, _⟩ := parts_of N
  have g := S0_good h1 h2 (by omega)
  rw [← e] at g
  exact good_open g

set_option maxHeartbeats 1000000 in
set_option maxRecDepth 10000 in
theorem made_any (n : Nat) (w : World) (h1 : 64 ≤ n) (h2 : n ≤ 65536) :
    Calls Try.prog 9 #[.int .i64 (n : Int)] w fun e w' => ∃ p pd F R, e = .returned (.tuple #[.pointer (some ⟨pd, 0, none⟩), .pointer (some ⟨p, 0, none⟩)]) ∧
      StoreAt w' p pd (S0 n) F R ∧ Keeps (fun _ => False) w w' ∧ (∀ k, F k → w.heap.size ≤ k) ∧ (∀ k, R k → w.heap.size ≤ k) := by
  have HN := Lib.hid (new_ok n w h2)
  have e00 : ((0 : Int) != 0) = false := by decide
  have HH := Lib.hid (And.intro h1 h2)
  clear h1 h2
  go_enter Try.func9, Try.ntmps9
  go_wp2_with fail
  refine HN.out.mono ?_
  rintro e w1 ⟨pd, Fd, rfl, hd, hk, hf⟩
  have HO := Lib.hid (open_ok_ pd _ Fd w1 hd (by simpa using HH.out.1) (by simpa using HH.out.2) rfl (by simp))
  have H1 := Lib.hid (And.intro hk hf)
  clear hd hk hf HN
  go_wp2_with fail
  refine HO.out.mono ?_
  rintro e w2 ⟨p, F, R, rfl, hst, hk2, hF, hR⟩
  rw [open_new n HH.out.2] at hst
  have H2 := Lib.hid (And.intro hst (And.intro hk2 (And.intro hF hR)))
  clear HO hst hk2 hF hR
  go_wp2
  go_ret2
  have hs := H1.out.1.size
  exact ⟨p, pd, F, R, rfl, H2.out.1, H1.out.1.trans H2.out.2.1 (fun k hk h => by have := H1.out.2 k h; omega), fun k h => (H2.out.2.2.1 k h).elim (H1.out.2 k) (fun h => by omega), fun k h => by have := H2.out.2.2.2 k h; omega⟩

/-- What an act does that is no crash. -/
def SS.does (S : SS) (d : Int) (b : List UInt8) : SS × Int := if d = 2 then S.set b else S.append b

set_option maxHeartbeats 1000000 in
set_option maxRecDepth 10000 in
theorem does_any (p pd : Nat) (S : SS) (F R : Nat → Prop) (w : World) (h : StoreAt w p pd S F R) (d : Int) (sa : Option Addr) (n cap : Nat) (l : List UInt8) (hl : Sl w sa n cap (BV l)) (hn : n ≤ 65536) (hav : ∀ ad, sa = some ad → 0 < n → ¬ F ad.block) (hlo : S.d.lo.length ≤ 1000000) (htn : S.turn + 1 ≤ 10000000000) (hrn : S.recs.length + 1 ≤ 100000) :
    Calls Try.prog 11 #[.pointer (some ⟨p, 0, none⟩), .agg #[.int .i64 d, .slice sa n cap]] w fun e w' => e = .returned (.int .i64 (S.does d l).2) ∧
      ∃ F' R', StoreAt w' p pd (S.does d l).1 F' R' ∧ Keeps F w w' ∧ (∀ k, F' k → F k ∨ w.heap.size ≤ k) ∧ (∀ k, R' k → R k ∨ w.heap.size ≤ k) := by
  have hFlt : ∀ k, F k → k < w.heap.size := by obtain ⟨Fd, so, co, vs, sk, ck, h⟩ := h; exact h.flt
  have HQ := Lib.hid (And.intro h (And.intro hl (And.intro hav (And.intro hlo (And.intro htn (And.intro hrn hFlt))))))
  clear h hl hav hlo htn hrn hFlt
  go_enter Try.func11, Try.ntmps11
  obtain ⟨b, hb⟩ : ∃ b, w.heap.size = b := ⟨_, rfl⟩
  obtain ⟨w1, hw1⟩ : ∃ v, w.alloc (.cells #[.int .i64 d, .slice sa n cap] 32) = v := ⟨_, rfl⟩
  have hk : Keeps (fun _ => False) w w1 := by rw [← hw1]; exact (Keeps.refl _ w).alloc _
  have hblk : w1.heap[b]? = some (.cells #[.int .i64 d, .slice sa n cap] 32 (0, 0)) := by rw [← hw1, ← hb]; exact World.alloc_heap_new w _
  have c0 := cellAt hblk 0
  have c1 := cellAt hblk 1
  simp at c0 c1
  have hS := HQ.out.1.quiet hk
  have hL := HQ.out.2.1.quiet hk
  have hsz := hk.size
  have HK := Lib.hid hk
  by_cases hd : d = 2
  · have HC := Lib.hid (set_any p pd S F R w1 hS sa n cap l hL hn HQ.out.2.2.1 HQ.out.2.2.2.1 HQ.out.2.2.2.2.1)
    have he : S.does d l = S.set l := by unfold SS.does; rw [if_pos hd]
    have HE := Lib.hid he
    subst hd
    clear hblk hk he hS hL
    go_wp2_with fail
    refine HC.out.mono ?_
    rintro e w2 ⟨rfl, F2, R2, hst, hk2, hF, hR⟩
    have H2 := Lib.hid (And.intro hst (And.intro hk2 (And.intro hF hR)))
    clear HC hst hk2 hF hR
    go_wp2
    go_ret
    rw [HE.out]
    exact ⟨rfl, F2, R2, H2.out.1, (HK.out.mono (fun _ _ h => h.elim)).trans H2.out.2.1 (fun k _ h => h), fun k h => (H2.out.2.2.1 k h).imp id (fun h => by omega), fun k h => (H2.out.2.2.2 k h).imp id (fun h => by omega)⟩
  · have HC := Lib.hid (append_any p pd S F R w1 hS sa n cap l hL hn HQ.out.2.2.1 HQ.out.2.2.2.1 HQ.out.2.2.2.2.2.1)
    have he : S.does d l = S.append l := by unfold SS.does; rw [if_neg hd]
    have HE := Lib.hid he
    clear hblk hk he hS hL
    go_wp2_with fail
    refine HC.out.mono ?_
    rintro e w2 ⟨rfl, F2, R2, hst, hk2, hF, hR⟩
    have H2 := Lib.hid (And.intro hst (And.intro hk2 (And.intro hF hR)))
    clear HC hst hk2 hF hR
    go_wp2
    go_ret
    rw [HE.out]
    exact ⟨rfl, F2, R2, H2.out.1, (HK.out.mono (fun _ _ h => h.elim)).trans H2.out.2.1 (fun k _ h => h), fun k h => (H2.out.2.2.1 k h).imp id (fun h => by omega), fun k h => (H2.out.2.2.2 k h).imp id (fun h => by omega)⟩
end Go.Proofs.Ytpojkhjenbbodaa

namespace Go.Proofs.Ytpojkhjenbbodaa
open Go.RowKit

theorem left_length (D : DS) (k : Nat) : (D.left k).length = D.sure.length := left_len D k

set_option maxHeartbeats 1000000 in
set_option maxRecDepth 10000 in
theorem again_any (pd : Nat) (left : Int) (D : DS) (Fd : Nat → Prop) (w : World) (hd : Disk w pd D Fd) (hcr : D.cr = false) (hlo : D.lo.length ≤ 2000000) (hin : ∀ x ∈ D.lo, x.1 < D.now.length) (hs : D.sure.length = D.now.length) (h64 : 64 ≤ D.now.length) (hN : D.now.length ≤ 65536) :
    Calls Try.prog 21 #[.pointer (some ⟨pd, 0, none⟩), .int .i64 left] w fun e w' => ∃ q p F R, e = .returned (.tuple #[.pointer (some ⟨q, 0, none⟩), .pointer (some ⟨p, 0, none⟩)]) ∧
      StoreAt w' p q (openS (D.crash left).opened) F R ∧ Keeps Fd w w' ∧ (∀ k, F k → w.heap.size ≤ k) ∧ (∀ k, R k → w.heap.size ≤ k) := by
  have hlen : (D.crash left).now.length = D.now.length := by
    show (D.left _).length = _
    rw [left_length, hs]
  have HC := Lib.hid (crash_ok pd left D Fd w hd hcr hlo hin)
  have e00 : ((0 : Int) != 0) = false := by decide
  have HH := Lib.hid (And.intro hlen (And.intro h64 hN))
  clear hd hcr hlo hin hs h64 hN hlen
  go_enter Try.func21, Try.ntmps21
  go_wp2_with fail
  refine HC.out.mono ?_
  rintro e w1 ⟨rfl, F1, hd1, hk1, hf1⟩
  have H1 := Lib.hid hk1
  have HO := Lib.hid (open_ok pd (D.crash left) F1 w1 hd1 rfl (by rw [HH.out.1]; exact HH.out.2.2))
  clear hd1 hk1 hf1 HC
  go_wp2_with fail
  refine HO.out.mono ?_
  rintro e w2 ⟨q, F2, rfl, hd2, hk2, hf2⟩
  have H2 := Lib.hid (And.intro hk2 hf2)
  have HS := Lib.hid (open_ok_ q (D.crash left).opened F2 w2 hd2 (by show 64 ≤ (D.crash left).now.length; rw [HH.out.1]; exact HH.out.2.1) (by show (D.crash left).now.length ≤ _; rw [HH.out.1]; exact HH.out.2.2) rfl (by simp [DS.opened]))
  clear hd2 hk2 hf2 HO
  go_wp2_with fail
  refine HS.out.mono ?_
  rintro e w3 ⟨p, F, R, rfl, hst, hk3, hF, hR⟩
  have H3 := Lib.hid (And.intro hst (And.intro hk3 (And.intro hF hR)))
  clear HS hst hk3 hF hR
  go_wp2
  go_ret2
  have s1 := H1.out.size
  have s2 := H2.out.1.size
  refine ⟨q, p, F, R, rfl, H3.out.1, ?_, fun k h => (H3.out.2.2.1 k h).elim (fun h => by have := H2.out.2 k h; omega) (fun h => by omega), fun k h => by have := H3.out.2.2.2 k h; omega⟩
  exact (H1.out.trans H2.out.1 (fun k _ h => h.elim)).trans H3.out.2.1 (fun k hk h => by have := H2.out.2 k h; omega)

def z11 : List UInt8 := List.replicate 11 0
def z12 : List UInt8 := List.replicate 12 0
def sAb : List UInt8 := [97, 98]
def S1 : SS := ((S0 100).set z11).1
def S2 : SS := (S1.append sAb).1
theorem good0 : Good 50 25 0 (S0 100) := S0_good (H := 50) (Z := 25) (R := 0) rfl rfl (by omega)
theorem room_of {H Z R : Nat} {S : SS} (h : Good H Z R S) : S.room = max ((H : Int) - S.used - 10) (-1) := by unfold SS.room; rw [h.half]
theorem facts1 : (S0 100).room = 40 ∧ (S0 100).set z12 = (S0 100, 3) ∧ ((S0 100).set z11).2 = 0 ∧ Good 50 25 0 S1 ∧ S1.keys = z11 ∧ S1.used = 0 ∧ S1.turn = 1 ∧ S1.recs = [] := by
  obtain ⟨a, b, c, d, e, f, _⟩ := good_set good0 z11 (by decide) (by decide)
  refine ⟨rfl, set_full z12 (by rw [good0.sz]; decide), a, b, d, f, e, c⟩
theorem facts2 : (S1.append sAb).2 = 0 ∧ Good 50 25 0 S2 ∧ S2.keys = z11 ∧ S2.room = 28 := by
  obtain ⟨_, _, _, g, k, u, t, r⟩ := facts1
  obtain ⟨a, b, c, d, _⟩ := good_append g sAb (by rw [room_of g, u]; decide)
  have e : S2 = (S1.append sAb).1 := rfl
  rw [← e] at b c d
  refine ⟨a, b, d.trans k, ?_⟩
  have hu := b.used
  rw [c, r] at hu
  have h3 : (frames ([] ++ [sAb])).length = 12 := by rw [frames_length]; rfl
  rw [h3] at hu
  rw [room_of b, hu]
  omega
theorem run_mk12 (u : World) : (Instr.makeSlice 23 (.int .i64 12) (.int .i64 12)).run Try.prog u = .ok (.slice (some ⟨u.heap.size, 0, none⟩) 12 12) (u.alloc (.cells (madeCells #[.int .u8 0] 12) 5)) := run_mk 12 (by omega) u
theorem run_mk11 (u : World) : (Instr.makeSlice 23 (.int .i64 11) (.int .i64 11)).run Try.prog u = .ok (.slice (some ⟨u.heap.size, 0, none⟩) 11 11) (u.alloc (.cells (madeCells #[.int .u8 0] 11) 5)) := run_mk 11 (by omega) u
theorem conv_ab (w : World) : (convert 23 23 (.slice (some ⟨w.heap.size, 0, none⟩) 2 2)).run Try.prog (w.alloc (.cells #[.int .u8 97, .int .u8 98] 5)) = .ok (.slice (some ⟨w.heap.size, 0, none⟩) 2 2) (w.alloc (.cells (BV sAb).toArray 5 (2, 3))) :=
  Lib.run_convert_bytes_const w 23 5 _ 2 2 Try.underlying23 Try.underlying5
theorem StoreAt.flt {w : World} {p pd : Nat} {S : SS} {F R : Nat → Prop} (h : StoreAt w p pd S F R) : ∀ k, F k → k < w.heap.size := by obtain ⟨Fd, so, co, vs, sk, ck, h⟩ := h; exact h.flt

set_option maxHeartbeats 4000000 in
set_option maxRecDepth 10000 in
theorem lives_any (w : World) : Calls Try.prog 18 #[] w fun e w' => e = .returned (.bool true) ∧ Keeps (fun _ => False) w w' := by
  have HM := Lib.hid (made_any 100 w (by omega) (by omega))
  go_enter Try.func18, Try.ntmps18
  go_wp2_with fail
  refine HM.out.mono ?_
  rintro e w1 ⟨p, pd, F, R, rfl, hst, hk, hF, hR⟩
  have HK := Lib.hid hk
  have HS := Lib.hid hst
  have HF := Lib.hid hF
  have HR := Lib.hid (room_any p pd (S0 100) F R w1 hst)
  rw [facts1.1] at HR
  clear HM hst hk hF hR
  go_wp2_with fail
  refine HR.out.mono ?_
  rintro e w2 ⟨rfl, hk⟩
  replace HK := Lib.hid (HK.out.quiet hk)
  replace HS := Lib.hid (HS.out.quiet hk)
  clear HR hk
  have cv := run_mk12 w2
  obtain ⟨wa, hwa⟩ : ∃ wa, w2.alloc (.cells (madeCells #[.int .u8 0] 12) 5) = wa := ⟨_, rfl⟩
  rw [hwa] at cv
  have hk : Keeps (fun _ => False) w2 wa := by rw [← hwa]; exact (Keeps.refl _ w2).alloc _
  have hsl : Sl wa (some ⟨w2.heap.size, 0, none⟩) 12 12 (BV z12) := by rw [← hwa]; exact Sl.of_own (owns_made w2 12 (by omega))
  have hfl := HS.out.flt
  replace HK := Lib.hid (HK.out.quiet hk)
  replace HS := Lib.hid (HS.out.quiet hk)
  have HT := Lib.hid (set_any p pd (S0 100) F R wa HS.out (some ⟨w2.heap.size, 0, none⟩) 12 12 z12 hsl (by omega) (fun ad e _ h => by cases e; have := hfl _ h; simp only at this; omega) (by rw [good0.lo]; simp) (by decide))
  rw [facts1.2.1] at HT
  clear hwa hk hsl hfl HS
  go_wp2_with fail
  refine HT.out.mono ?_
  rintro e w3 ⟨rfl, F3, R3, hst, hk, hf, _⟩
  have hs1 := HK.out.size
  have HF3 : Hid (∀ k, F3 k → w.heap.size ≤ k) := fun k h => (hf k h).elim (HF.out k) (fun h => by omega)
  replace HK := Lib.hid (HK.out.trans hk (fun k hk h => by have := HF.out k h; omega))
  have HS := Lib.hid hst
  clear HT hst hk hf cv hs1
  have cv := run_mk11 w3
  obtain ⟨wa, hwa⟩ : ∃ wa, w3.alloc (.cells (madeCells #[.int .u8 0] 11) 5) = wa := ⟨_, rfl⟩
  rw [hwa] at cv
  have hk : Keeps (fun _ => False) w3 wa := by rw [← hwa]; exact (Keeps.refl _ w3).alloc _
  have hsl : Sl wa (some ⟨w3.heap.size, 0, none⟩) 11 11 (BV z11) := by rw [← hwa]; exact Sl.of_own (owns_made w3 11 (by omega))
  have hfl := HS.out.flt
  replace HK := Lib.hid (HK.out.quiet hk)
  replace HS := Lib.hid (HS.out.quiet hk)
  have HT := Lib.hid (set_any p pd (S0 100) F3 R3 wa HS.out (some ⟨w3.heap.size, 0, none⟩) 11 11 z11 hsl (by omega) (fun ad e _ h => by cases e; have := hfl _ h; simp only at this; omega) (by rw [good0.lo]; simp) (by decide))
  rw [facts1.2.2.1] at HT
  clear hwa hk hsl hfl HS
  go_wp2_with fail
  refine HT.out.mono ?_
  rintro e w4 ⟨rfl, F4, R4, hst, hk, hf, _⟩
  have hs1 := HK.out.size
  have HF4 : Hid (∀ k, F4 k → w.heap.size ≤ k) := fun k h => (hf k h).elim (HF3.out k) (fun h => by omega)
  replace HK := Lib.hid (HK.out.trans hk (fun k hk h => by have := HF3.out k h; omega))
  have HS : Hid (StoreAt w4 p pd S1 F4 R4) := Lib.hid hst
  clear HT hst hk hf cv hs1
  have cv := conv_ab w4
  obtain ⟨wa, hwa⟩ : ∃ wa, w4.alloc (.cells (BV sAb).toArray 5 (2, 3)) = wa := ⟨_, rfl⟩
  rw [hwa] at cv
  have hk : Keeps (fun _ => False) w4 wa := by rw [← hwa]; exact (Keeps.refl _ w4).alloc _
  have hsl : Sl wa (some ⟨w4.heap.size, 0, none⟩) 2 2 (BV sAb) := by rw [← hwa]; exact lies_vals w4 (BV sAb) 2 5 rfl (by omega) _
  have hfl := HS.out.flt
  replace HK := Lib.hid (HK.out.quiet hk)
  replace HS := Lib.hid (HS.out.quiet hk)
  have f1 := facts1
  have HT := Lib.hid (append_any p pd S1 F4 R4 wa HS.out (some ⟨w4.heap.size, 0, none⟩) 2 2 sAb hsl (by omega) (fun ad e _ h => by cases e; have := hfl _ h; simp only at this; omega) (by rw [f1.2.2.2.1.lo]; simp) (by rw [f1.2.2.2.2.2.2.2]; simp))
  rw [facts2.1] at HT
  clear hwa hk hsl hfl HS f1
  go_wp2_with fail
  refine HT.out.mono ?_
  rintro e w5 ⟨rfl, F5, R5, hst, hk, hf, _⟩
  replace HK := Lib.hid (HK.out.trans hk (fun k hk h => by have := HF4.out k h; omega))
  have HS : Hid (StoreAt w5 p pd S2 F5 R5) := Lib.hid hst
  have HR := Lib.hid (room_any p pd S2 F5 R5 w5 HS.out)
  rw [facts2.2.2.2] at HR
  clear HT hst hk hf cv
  go_wp2_with fail
  refine HR.out.mono ?_
  rintro e w6 ⟨rfl, hk⟩
  replace HK := Lib.hid (HK.out.quiet hk)
  have HY := Lib.hid (keys_any p pd S2 F5 R5 w6 (HS.out.quiet hk))
  rw [facts2.2.2.1, show z11.length = 11 from rfl] at HY
  clear HR hk HS
  go_wp2_with fail
  refine HY.out.mono ?_
  rintro e w7 ⟨sa, c, rfl, _, hk⟩
  replace HK := Lib.hid (HK.out.quiet hk)
  clear HY hk
  go_wp2
  go_ret
  exact ⟨rfl, HK.out⟩
end Go.Proofs.Ytpojkhjenbbodaa

namespace Go.Proofs.Ytpojkhjenbbodaa
open Go.RowKit

theorem strl (a : List UInt8) : (strOf a).toList = a := by rw [ByteArray.toList_eq, strOf_data]
def SrRel (w : World) (a b : List (List UInt8)) (i : Value) (wr : World) : Prop := ∃ k : Nat, i = .int .i64 (k : Int) ∧ k ≤ a.length ∧ a.take k = b.take k ∧ Keeps (fun _ => False) w wr

set_option maxHeartbeats 1000000 in
theorem sameR_any (sa sb : Option Addr) (n m ca cb : Nat) (va vb : List Value) (a b : List (List UInt8)) (w : World) (ha : Sl w sa n ca va) (hra : RowsS w va a) (hb : Sl w sb m cb vb) (hrb : RowsS w vb b) :
    Calls Try.prog 24 #[.slice sa n ca, .slice sb m cb] w fun e w' => e = .returned (.bool (decide (a = b))) ∧ Keeps (fun _ => False) w w' := by
  have hal : a.length = n := by rw [← hra.len]; exact ha.len
  have hbl : b.length = m := by rw [← hrb.len]; exact hb.len
  have hna := Nat.le_trans ha.le ha.capB
  by_cases hnm : n = m
  · subst hnm
    have HA := Lib.hid (And.intro ha (And.intro hb (And.intro hal (And.intro hbl (And.intro hra hrb)))))
    clear ha hb hal hbl hra hrb
    go_enter Try.func24, Try.ntmps24
    go_wp2_with fail
    go_loopw [5] (fun i wr => SrRel w a b i wr) (fun i _ => n - (intOf i).toNat)
    case atStart => exact ⟨0, rfl, Nat.zero_le _, by simp, Keeps.refl _ _⟩
    case round =>
      obtain ⟨k, rfl, hk, he, hkp⟩ := hrel
      have HR := Lib.hid (And.intro hk (And.intro he hkp))
      clear hk he hkp
      by_cases hlt : k < n
      · obtain ⟨c, hc⟩ : ∃ c, a[k]? = some c := ⟨_, List.getElem?_eq_getElem (by have := HA.out.2.2.1; omega)⟩
        obtain ⟨d, hd⟩ : ∃ d, b[k]? = some d := ⟨_, List.getElem?_eq_getElem (by have := HA.out.2.2.2.1; omega)⟩
        obtain ⟨ba, oa, rfl⟩ := HA.out.1.isSome (by omega)
        obtain ⟨bb, ob, rfl⟩ := HA.out.2.1.isSome (by omega)
        obtain ⟨sc, cc, hvc, hsc⟩ := HA.out.2.2.2.2.1.row k c hc
        obtain ⟨sd, cd, hvd, hsd⟩ := HA.out.2.2.2.2.2.row k d hd
        have c1 : wr.cell? ⟨ba, oa + k, none⟩ = some (.slice sc c.length cc) := (HA.out.1.quiet HR.out.2.2).cell hvc
        have c2 : wr.cell? ⟨bb, ob + k, none⟩ = some (.slice sd d.length cd) := (HA.out.2.1.quiet HR.out.2.2).cell hvd
        have c3 := run_strSl (hsc.quiet HR.out.2.2)
        have c4 := run_strSl (hsd.quiet HR.out.2.2)
        have HC := Lib.hid (And.intro hc hd)
        have t0 : (0 : Int) ≤ (k : Int) := by omega
        have t1 : (k : Int) < (n : Int) := by omega
        generalize c.length = lc at *
        generalize d.length = ld at *
        by_cases hcd : c = d
        · have e1 : ((strOf c).toList == (strOf d).toList) = true := by subst hcd; exact beq_self_eq_true _
          have HR2 : Hid (SrRel w a b (.int .i64 ((k : Int) + 1)) wr.drew) := by
            have l1 := (List.getElem?_eq_some_iff.1 HC.out.1).1
            have l2 := (List.getElem?_eq_some_iff.1 HC.out.2).1
            refine ⟨k + 1, rfl, l1, ?_, HR.out.2.2.drew⟩
            rw [List.take_succ_eq_append_getElem l1, List.take_succ_eq_append_getElem l2, HR.out.2.1, (List.getElem?_eq_some_iff.1 HC.out.1).2, (List.getElem?_eq_some_iff.1 HC.out.2).2, hcd]
          clear hcd hc hd hvc hvd c3 c4
          have HSS := Lib.hid (And.intro hsc hsd)
          clear hsc hsd
          go_wp2_with fail
          have z3 := run_strSl ((HSS.out.1.quiet HR.out.2.2).quiet (Keeps.refl _ _).drew)
          have z4 := run_strSl ((HSS.out.2.quiet HR.out.2.2).quiet (Keeps.refl _ _).drew)
          refine z_begin (fun w' => w'.cell? ⟨ba, oa + k, none⟩ = some (.slice sc lc cc) ∧ w'.cell? ⟨bb, ob + k, none⟩ = some (.slice sd ld cd) ∧ (convert 23 9 (.slice sc lc cc)).run Try.prog w' = .ok (.string (strOf c)) w' ∧ (convert 23 9 (.slice sd ld cd)).run Try.prog w' = .ok (.string (strOf d)) w') 11 (by kernel_rfl) ⟨c1, c2, z3, z4⟩ (fun hHeld => ?_)
          refine z_take 0 (v := ?_) rfl (by kernel_rfl) (by kernel_rfl) (by kernel_rfl) (by kernel_rfl) (fun _ _ _ h => h) hHeld (by rfl) (fun w hSw => ?_) ?_
          rotate_left
          · obtain ⟨hSw1, hSw2, hSw3, hSw4⟩ := hSw; simp only [List.getElem_toArray, List.getElem_cons_zero]; go_simp; try rfl
          simp only [Act.put, List.getElem_toArray, List.getElem_cons_zero, List.setIfInBounds_toArray, List.set_cons_zero, List.set_cons_succ]
          refine z_take 1 (v := ?_) rfl (by kernel_rfl) (by kernel_rfl) (by kernel_rfl) (by kernel_rfl) (fun _ _ _ h => h) hHeld (by rfl) (fun w hSw => ?_) ?_
          rotate_left
          · obtain ⟨hSw1, hSw2, hSw3, hSw4⟩ := hSw; simp only [List.getElem_toArray, List.getElem_cons_zero, List.getElem_cons_succ]; go_simp; try rfl
          simp only [Act.put, List.getElem_toArray, List.getElem_cons_zero, List.getElem_cons_succ, List.setIfInBounds_toArray, List.set_cons_zero, List.set_cons_succ]
          refine z_take 2 (v := ?_) rfl (by kernel_rfl) (by kernel_rfl) (by kernel_rfl) (by kernel_rfl) (fun _ _ _ h => h) hHeld (by rfl) (fun w hSw => ?_) ?_
          rotate_left
          · obtain ⟨hSw1, hSw2, hSw3, hSw4⟩ := hSw; simp only [List.getElem_toArray, List.getElem_cons_zero, List.getElem_cons_succ]; go_simp; try rfl
          simp only [Act.put, List.getElem_toArray, List.getElem_cons_zero, List.getElem_cons_succ, List.setIfInBounds_toArray, List.set_cons_zero, List.set_cons_succ]
          refine z_take 3 (v := ?_) rfl (by kernel_rfl) (by kernel_rfl) (by kernel_rfl) (by kernel_rfl) (fun _ _ _ h => h) hHeld (by rfl) (fun w hSw => ?_) ?_
          rotate_left
          · obtain ⟨hSw1, hSw2, hSw3, hSw4⟩ := hSw; simp only [List.getElem_toArray, List.getElem_cons_zero, List.getElem_cons_succ]; go_simp; try rfl
          simp only [Act.put, List.getElem_toArray, List.getElem_cons_zero, List.getElem_cons_succ, List.setIfInBounds_toArray, List.set_cons_zero, List.set_cons_succ]
          refine z_take 4 (v := ?_) rfl (by kernel_rfl) (by kernel_rfl) (by kernel_rfl) (by kernel_rfl) (fun _ _ _ h => h) hHeld (by rfl) (fun w hSw => ?_) ?_
          rotate_left
          · obtain ⟨hSw1, hSw2, hSw3, hSw4⟩ := hSw; simp only [List.getElem_toArray, List.getElem_cons_zero, List.getElem_cons_succ]; go_simp; try rfl
          simp only [Act.put, List.getElem_toArray, List.getElem_cons_zero, List.getElem_cons_succ, List.setIfInBounds_toArray, List.set_cons_zero, List.set_cons_succ]
          refine z_take 5 (v := ?_) rfl (by kernel_rfl) (by kernel_rfl) (by kernel_rfl) (by kernel_rfl) (fun _ _ _ h => h) hHeld (by rfl) (fun w hSw => ?_) ?_
          rotate_left
          · obtain ⟨hSw1, hSw2, hSw3, hSw4⟩ := hSw; simp only [List.getElem_toArray, List.getElem_cons_zero, List.getElem_cons_succ]; go_simp; try rfl
          simp only [Act.put, List.getElem_toArray, List.getElem_cons_zero, List.getElem_cons_succ, List.setIfInBounds_toArray, List.set_cons_zero, List.set_cons_succ]
          refine z_take 6 (v := ?_) rfl (by kernel_rfl) (by kernel_rfl) (by kernel_rfl) (by kernel_rfl) (fun _ _ _ h => h) hHeld (by rfl) (fun w hSw => ?_) ?_
          rotate_left
          · obtain ⟨hSw1, hSw2, hSw3, hSw4⟩ := hSw; simp only [List.getElem_toArray, List.getElem_cons_zero, List.getElem_cons_succ]; go_simp; try rfl
          simp only [Act.put, List.getElem_toArray, List.getElem_cons_zero, List.getElem_cons_succ, List.setIfInBounds_toArray, List.set_cons_zero, List.set_cons_succ]
          refine z_take 7 (v := ?_) rfl (by kernel_rfl) (by kernel_rfl) (by kernel_rfl) (by kernel_rfl) (fun _ _ _ h => h) hHeld (by rfl) (fun w hSw => ?_) ?_
          rotate_left
          · obtain ⟨hSw1, hSw2, hSw3, hSw4⟩ := hSw; simp only [List.getElem_toArray, List.getElem_cons_zero, List.getElem_cons_succ]; go_simp; try rfl
          simp only [Act.put, List.getElem_toArray, List.getElem_cons_zero, List.getElem_cons_succ, List.setIfInBounds_toArray, List.set_cons_zero, List.set_cons_succ]
          refine z_take 8 (v := ?_) rfl (by kernel_rfl) (by kernel_rfl) (by kernel_rfl) (by kernel_rfl) (fun _ _ _ h => h) hHeld (by rfl) (fun w hSw => ?_) ?_
          rotate_left
          · obtain ⟨hSw1, hSw2, hSw3, hSw4⟩ := hSw; simp only [List.getElem_toArray, List.getElem_cons_zero, List.getElem_cons_succ]; go_simp; try rfl
          simp only [Act.put, List.getElem_toArray, List.getElem_cons_zero, List.getElem_cons_succ, List.setIfInBounds_toArray, List.set_cons_zero, List.set_cons_succ]
          refine z_take 9 (v := ?_) rfl (by kernel_rfl) (by kernel_rfl) (by kernel_rfl) (by kernel_rfl) (fun _ _ _ h => h) hHeld (by rfl) (fun w hSw => ?_) ?_
          rotate_left
          · obtain ⟨hSw1, hSw2, hSw3, hSw4⟩ := hSw; simp only [List.getElem_toArray, List.getElem_cons_zero, List.getElem_cons_succ]; go_simp; try rfl
          simp only [Act.put, List.getElem_toArray, List.getElem_cons_zero, List.getElem_cons_succ, List.setIfInBounds_toArray, List.set_cons_zero, List.set_cons_succ]
          refine z_take 10 (v := ?_) rfl (by kernel_rfl) (by kernel_rfl) (by kernel_rfl) (by kernel_rfl) (fun _ _ _ h => h) hHeld (by rfl) (fun w hSw => ?_) ?_
          rotate_left
          · obtain ⟨hSw1, hSw2, hSw3, hSw4⟩ := hSw; simp only [List.getElem_toArray, List.getElem_cons_zero, List.getElem_cons_succ]; go_simp; try rfl
          simp only [Act.put, List.getElem_toArray, List.getElem_cons_zero, List.getElem_cons_succ, List.setIfInBounds_toArray, List.set_cons_zero, List.set_cons_succ]
          refine z_done (by kernel_rfl) ?_ _
          clear hHeld c1 c2 z3 z4
          go_wp2
          go_roundw
          case rel => exact HR2.out
          case measure => simp [intOf]; omega
        · have e1 : ((strOf c).toList == (strOf d).toList) = false := by rw [strl, strl]; exact beq_false_of_ne hcd
          have hne : decide (a = b) = false := by
            simp
            intro h
            subst h
            have := HC.out.1.symm.trans HC.out.2
            exact hcd (Option.some.inj this)
          have HN := Lib.hid hne
          clear hcd hne hc hd hvc hvd c3 c4
          have HSS := Lib.hid (And.intro hsc hsd)
          clear hsc hsd
          go_wp2_with fail
          have z3 := run_strSl ((HSS.out.1.quiet HR.out.2.2).quiet (Keeps.refl _ _).drew)
          have z4 := run_strSl ((HSS.out.2.quiet HR.out.2.2).quiet (Keeps.refl _ _).drew)
          refine z_begin (fun w' => w'.cell? ⟨ba, oa + k, none⟩ = some (.slice sc lc cc) ∧ w'.cell? ⟨bb, ob + k, none⟩ = some (.slice sd ld cd) ∧ (convert 23 9 (.slice sc lc cc)).run Try.prog w' = .ok (.string (strOf c)) w' ∧ (convert 23 9 (.slice sd ld cd)).run Try.prog w' = .ok (.string (strOf d)) w') 11 (by kernel_rfl) ⟨c1, c2, z3, z4⟩ (fun hHeld => ?_)
          refine z_take 0 (v := ?_) rfl (by kernel_rfl) (by kernel_rfl) (by kernel_rfl) (by kernel_rfl) (fun _ _ _ h => h) hHeld (by rfl) (fun w hSw => ?_) ?_
          rotate_left
          · obtain ⟨hSw1, hSw2, hSw3, hSw4⟩ := hSw; simp only [List.getElem_toArray, List.getElem_cons_zero]; go_simp; try rfl
          simp only [Act.put, List.getElem_toArray, List.getElem_cons_zero, List.setIfInBounds_toArray, List.set_cons_zero, List.set_cons_succ]
          refine z_take 1 (v := ?_) rfl (by kernel_rfl) (by kernel_rfl) (by kernel_rfl) (by kernel_rfl) (fun _ _ _ h => h) hHeld (by rfl) (fun w hSw => ?_) ?_
          rotate_left
          · obtain ⟨hSw1, hSw2, hSw3, hSw4⟩ := hSw; simp only [List.getElem_toArray, List.getElem_cons_zero, List.getElem_cons_succ]; go_simp; try rfl
          simp only [Act.put, List.getElem_toArray, List.getElem_cons_zero, List.getElem_cons_succ, List.setIfInBounds_toArray, List.set_cons_zero, List.set_cons_succ]
          refine z_take 2 (v := ?_) rfl (by kernel_rfl) (by kernel_rfl) (by kernel_rfl) (by kernel_rfl) (fun _ _ _ h => h) hHeld (by rfl) (fun w hSw => ?_) ?_
          rotate_left
          · obtain ⟨hSw1, hSw2, hSw3, hSw4⟩ := hSw; simp only [List.getElem_toArray, List.getElem_cons_zero, List.getElem_cons_succ]; go_simp; try rfl
          simp only [Act.put, List.getElem_toArray, List.getElem_cons_zero, List.getElem_cons_succ, List.setIfInBounds_toArray, List.set_cons_zero, List.set_cons_succ]
          refine z_take 3 (v := ?_) rfl (by kernel_rfl) (by kernel_rfl) (by kernel_rfl) (by kernel_rfl) (fun _ _ _ h => h) hHeld (by rfl) (fun w hSw => ?_) ?_
          rotate_left
          · obtain ⟨hSw1, hSw2, hSw3, hSw4⟩ := hSw; simp only [List.getElem_toArray, List.getElem_cons_zero, List.getElem_cons_succ]; go_simp; try rfl
          simp only [Act.put, List.getElem_toArray, List.getElem_cons_zero, List.getElem_cons_succ, List.setIfInBounds_toArray, List.set_cons_zero, List.set_cons_succ]
          refine z_take 4 (v := ?_) rfl (by kernel_rfl) (by kernel_rfl) (by kernel_rfl) (by kernel_rfl) (fun _ _ _ h => h) hHeld (by rfl) (fun w hSw => ?_) ?_
          rotate_left
          · obtain ⟨hSw1, hSw2, hSw3, hSw4⟩ := hSw; simp only [List.getElem_toArray, List.getElem_cons_zero, List.getElem_cons_succ]; go_simp; try rfl
          simp only [Act.put, List.getElem_toArray, List.getElem_cons_zero, List.getElem_cons_succ, List.setIfInBounds_toArray, List.set_cons_zero, List.set_cons_succ]
          refine z_take 5 (v := ?_) rfl (by kernel_rfl) (by kernel_rfl) (by kernel_rfl) (by kernel_rfl) (fun _ _ _ h => h) hHeld (by rfl) (fun w hSw => ?_) ?_
          rotate_left
          · obtain ⟨hSw1, hSw2, hSw3, hSw4⟩ := hSw; simp only [List.getElem_toArray, List.getElem_cons_zero, List.getElem_cons_succ]; go_simp; try rfl
          simp only [Act.put, List.getElem_toArray, List.getElem_cons_zero, List.getElem_cons_succ, List.setIfInBounds_toArray, List.set_cons_zero, List.set_cons_succ]
          refine z_take 6 (v := ?_) rfl (by kernel_rfl) (by kernel_rfl) (by kernel_rfl) (by kernel_rfl) (fun _ _ _ h => h) hHeld (by rfl) (fun w hSw => ?_) ?_
          rotate_left
          · obtain ⟨hSw1, hSw2, hSw3, hSw4⟩ := hSw; simp only [List.getElem_toArray, List.getElem_cons_zero, List.getElem_cons_succ]; go_simp; try rfl
          simp only [Act.put, List.getElem_toArray, List.getElem_cons_zero, List.getElem_cons_succ, List.setIfInBounds_toArray, List.set_cons_zero, List.set_cons_succ]
          refine z_take 7 (v := ?_) rfl (by kernel_rfl) (by kernel_rfl) (by kernel_rfl) (by kernel_rfl) (fun _ _ _ h => h) hHeld (by rfl) (fun w hSw => ?_) ?_
          rotate_left
          · obtain ⟨hSw1, hSw2, hSw3, hSw4⟩ := hSw; simp only [List.getElem_toArray, List.getElem_cons_zero, List.getElem_cons_succ]; go_simp; try rfl
          simp only [Act.put, List.getElem_toArray, List.getElem_cons_zero, List.getElem_cons_succ, List.setIfInBounds_toArray, List.set_cons_zero, List.set_cons_succ]
          refine z_take 8 (v := ?_) rfl (by kernel_rfl) (by kernel_rfl) (by kernel_rfl) (by kernel_rfl) (fun _ _ _ h => h) hHeld (by rfl) (fun w hSw => ?_) ?_
          rotate_left
          · obtain ⟨hSw1, hSw2, hSw3, hSw4⟩ := hSw; simp only [List.getElem_toArray, List.getElem_cons_zero, List.getElem_cons_succ]; go_simp; try rfl
          simp only [Act.put, List.getElem_toArray, List.getElem_cons_zero, List.getElem_cons_succ, List.setIfInBounds_toArray, List.set_cons_zero, List.set_cons_succ]
          refine z_take 9 (v := ?_) rfl (by kernel_rfl) (by kernel_rfl) (by kernel_rfl) (by kernel_rfl) (fun _ _ _ h => h) hHeld (by rfl) (fun w hSw => ?_) ?_
          rotate_left
          · obtain ⟨hSw1, hSw2, hSw3, hSw4⟩ := hSw; simp only [List.getElem_toArray, List.getElem_cons_zero, List.getElem_cons_succ]; go_simp; try rfl
          simp only [Act.put, List.getElem_toArray, List.getElem_cons_zero, List.getElem_cons_succ, List.setIfInBounds_toArray, List.set_cons_zero, List.set_cons_succ]
          refine z_take 10 (v := ?_) rfl (by kernel_rfl) (by kernel_rfl) (by kernel_rfl) (by kernel_rfl) (fun _ _ _ h => h) hHeld (by rfl) (fun w hSw => ?_) ?_
          rotate_left
          · obtain ⟨hSw1, hSw2, hSw3, hSw4⟩ := hSw; simp only [List.getElem_toArray, List.getElem_cons_zero, List.getElem_cons_succ]; go_simp; try rfl
          simp only [Act.put, List.getElem_toArray, List.getElem_cons_zero, List.getElem_cons_succ, List.setIfInBounds_toArray, List.set_cons_zero, List.set_cons_succ]
          refine z_done (by kernel_rfl) ?_ _
          clear hHeld c1 c2 z3 z4
          go_wp2
          go_ret
          exact ⟨by rw [HN.out]; rfl, HR.out.2.2.drew⟩
      · have heq : decide (a = b) = true := by
          have h1 := HR.out.2.1
          rw [List.take_of_length_le (by have := HA.out.2.2.1; omega), List.take_of_length_le (by have := HA.out.2.2.2.1; omega)] at h1
          simpa using h1
        have HN := Lib.hid heq
        have t1 : ¬ (k : Int) < (n : Int) := by omega
        clear heq
        go_wp2
        go_ret
        exact ⟨by rw [HN.out]; rfl, HR.out.2.2⟩
  · have hne : decide (a = b) = false := by
      simp
      intro h
      subst h
      omega
    have HN := Lib.hid hne
    have e1 : ((n : Int) != (m : Int)) = true := by simp; omega
    clear hne ha hb hal hbl hra hrb
    go_enter Try.func24, Try.ntmps24
    go_wp2
    go_ret
    exact ⟨by rw [HN.out]; rfl, Keeps.refl _ _⟩
end Go.Proofs.Ytpojkhjenbbodaa

namespace Go.Proofs.Ytpojkhjenbbodaa
open Go.RowKit

/-- An act. -/
structure PAct where
  doo : Int
  b : List UInt8

def actByte (n : Int) (k : Nat) : UInt8 := UInt8.ofNat ((n / 126 + k * (1 + n % 5)).toNat)
def doOf (r : Nat) : Int := if r = 2 ∨ r = 4 then 2 else if r = 1 then 1 else if r = 5 then 3 else 0
def mkAct (x : Int) : PAct :=
  let n := around x 10000000
  ⟨doOf (n % 6).toNat, (List.range (n / 6 % 21).toNat).map (actByte n)⟩
theorem mkAct_len (x : Int) : (mkAct x).b.length ≤ 20 := by
  simp only [mkAct, List.length_map, List.length_range]
  have := Int.emod_lt_of_pos (around x 10000000 / 6) (show (0 : Int) < 21 by omega)
  omega
theorem do_cell (w : World) (r : Nat) (h : r < 6) : (w.alloc (.cells #[.int .i64 0, .int .i64 1, .int .i64 2, .int .i64 0, .int .i64 2, .int .i64 3] 3)).cell? ⟨w.heap.size, r, none⟩ = some (.int .i64 (doOf r)) := by
  rw [cellAt (heap_alloc_new w _)]
  rcases (show r = 0 ∨ r = 1 ∨ r = 2 ∨ r = 3 ∨ r = 4 ∨ r = 5 by omega) with rfl | rfl | rfl | rfl | rfl | rfl <;> rfl

/-- An act's row in memory: the act, and where its bytes lie. -/
structure ARow where
  a : PAct
  sa : Option Addr
  cap : Nat

def ARow.cells (r : ARow) : List Value := [.int .i64 r.a.doo, .slice r.sa r.a.b.length r.cap]
def AV (l : List ARow) : List Value := l.flatMap ARow.cells
theorem AV_length (l : List ARow) : (AV l).length = l.length * 2 := by induction l with | nil => rfl | cons x l ih => simp [AV, ARow.cells] at *; omega

structure ActsAt (w : World) (B : Nat) (v : Value) (rows : List ARow) : Prop where
  row : w.ownsRow B 32 2 v rows.length (AV rows)
  each : ∀ r ∈ rows, w.ownsRow B 5 1 (.slice r.sa r.a.b.length r.cap) r.a.b.length (BV r.a.b)

theorem infoAct : (Try.prog.info? 32).map (fun i => (i.zero, i.size, i.bytes)) = some (some (.agg #[.int .i64 0, .slice none 0 0]), 2, 32) := by kernel_rfl

theorem ActsAt.keep {w w' : World} {B : Nat} {v : Value} {rows : List ARow} {F : Nat → Prop} (h : ActsAt w B v rows) (hk : Keeps F w w') (hn : ∀ k, B ≤ k → k < w.heap.size → ¬ F k) : ActsAt w' B v rows :=
  ⟨own_keep h.row hk (fun k e => hn k (h.row.lt k e).1 (h.row.lt k e).2), fun r hr => own_keep (h.each r hr) hk (fun k e => hn k ((h.each r hr).lt k e).1 ((h.each r hr).lt k e).2)⟩

/-- What holds at the head of each round of the inner loop. -/
def BRel (wo : World) (ab : Nat) (d : Int) (n : Int) (N : Nat) (k_ : Value) (wr : World) : Prop :=
  ∃ (k : Nat) (sa : Option Addr) (cap : Nat), k ≤ N ∧ k_ = .int .i64 k ∧ wr.heap[ab]? = some (.cells #[.int .i64 d, .slice sa k cap] 32 (0, 0)) ∧
    wr.ownsRow wo.heap.size 5 1 (.slice sa k cap) k (BV ((List.range k).map (actByte n))) ∧ Keeps (fun _ => False) wo wr

/-- What holds at the head of each round. -/
def ARel (w : World) (zs : List Int) (m : Nat) (out i_ : Value) (wr : World) : Prop :=
  ∃ (k : Nat) (sa : Option Addr) (cap : Nat) (rows : List ARow), k ≤ m ∧ i_ = .int .i64 k ∧ out = .slice sa k cap ∧ rows.map ARow.a = (zs.take k).map mkAct ∧ rows.length = k ∧
    ActsAt wr w.heap.size (.slice sa k cap) rows ∧ Keeps (fun _ => False) w wr

theorem row_ne {w : World} {base ab g n c m : Nat} {xs : List Value} {cells : Array Value} {t e : TypeId} {size : Nat} {sa : Option Addr} (hblk : w.heap[ab]? = some (.cells cells t (0, 0))) (hrow : w.ownsRow base e size (.slice sa n c) m xs) (hne : t ≠ e) (hg : sa = some ⟨g, 0, none⟩) : g ≠ ab := by
  obtain ⟨cur, hc⟩ := own_blk hrow hg
  intro e'
  subst e'
  rw [hblk] at hc
  simp only [Option.some.injEq, Obj.cells.injEq] at hc
  exact hne hc.2.1

theorem range_snoc (n : Int) (q : Nat) : (List.range (q + 1)).map (actByte n) = (List.range q).map (actByte n) ++ [actByte n q] := by
  rw [List.range_succ, List.map_append]; rfl

theorem actByte_val (n : Int) (q : Nat) (h0 : 0 ≤ n) (h : 0 ≤ (q : Int) * (1 + n % 5)) : ((actByte n q).toNat : Int) = (n / 126 + q * (1 + n % 5)) % 256 := by
  unfold actByte
  rw [UInt8.toNat_ofNat']
  have h1 : 0 ≤ n / 126 := Int.ediv_nonneg h0 (by omega)
  omega

/-- One round of the inner loop. -/
theorem brel_step {wo wr w2 : World} {ab : Nat} {d n : Int} {N q : Nat} {sa : Option Addr} {cap : Nat} {X : Obj} {sa2 : Option Addr} {cap2 : Nat} (h0 : 0 ≤ n) (hg0 : 0 ≤ (q : Int) * (1 + n % 5)) (hab : ab = wo.heap.size)
    (hblk : wr.heap[ab]? = some (.cells #[.int .i64 d, .slice sa q cap] 32 (0, 0))) (hrow : wr.ownsRow wo.heap.size 5 1 (.slice sa q cap) q (BV ((List.range q).map (actByte n)))) (hkq : Keeps (fun _ => False) wo wr)
    (hown : w2.ownsRow wo.heap.size 5 1 (.slice sa2 (q + 1) cap2) (q + 1) (BV ((List.range q).map (actByte n)) ++ [.int .u8 ((n / 126 + q * (1 + n % 5)) % 256)])) (hg : (wr.alloc X).grownBy w2 (Value.ownBlock (.slice sa q cap)))
    (hat : Value.ownBlock (.slice sa2 (q + 1) cap2) = Value.ownBlock (.slice sa q cap) ∨ Value.ownBlock (.slice sa2 (q + 1) cap2) = some (wr.alloc X).heap.size) (hq : q + 1 ≤ N) :
    (∃ v, w2.cell? ⟨ab, 1, none⟩ = some v) ∧ w2.frozen? ⟨ab, 1, none⟩ = false ∧ BRel wo ab d n N (.int .i64 ((q + 1 : Nat) : Int)) (w2.setCell ⟨ab, 1, none⟩ (.slice sa2 (q + 1) cap2)) := by
  have hlt := lt_of_heap hblk
  have hsa : ∀ k, Value.ownBlock (.slice sa q cap) = some k → sa = some ⟨k, 0, none⟩ := fun k e => by
    rcases own_addr hrow with ⟨rfl, _⟩ | ⟨g, rfl⟩
    · simp [Value.ownBlock] at e
    · simp [Value.ownBlock] at e; rw [e]
  have hk2 : Keeps (fun k => sa = some ⟨k, 0, none⟩) wr w2 := ((Keeps.refl _ wr).alloc X).grown hg (fun k e _ => hsa k e)
  have hb2 : w2.heap[ab]? = wr.heap[ab]? := hk2.block ab hlt (fun e => row_ne hblk hrow (by decide) e rfl)
  rw [hblk] at hb2
  have hset := heap_setCell_at hb2 1 (.slice sa2 (q + 1) cap2)
  refine ⟨⟨_, cellAt hb2 1⟩, freeAt hb2 1, q + 1, sa2, cap2, hq, rfl, ?_, ?_, ?_⟩
  · rw [hset]; simp
  · rw [range_snoc, BV_append]
    have e : BV [actByte n q] = [.int .u8 ((n / 126 + q * (1 + n % 5)) % 256)] := by simp only [BV, List.map_cons, List.map_nil]; rw [actByte_val n q h0 hg0]
    rw [e]
    refine own_keep hown ((Keeps.refl (fun k => k = ab) w2).setCell (p := ⟨ab, 1, none⟩) (fun _ => rfl) _) (fun k e' => ?_)
    rintro rfl
    rcases own_addr hown with ⟨rfl, _⟩ | ⟨g, rfl⟩
    · simp [Value.ownBlock] at e'
    · simp [Value.ownBlock] at e'
      exact row_ne hb2 hown (by decide) rfl e'
  · refine Keeps.setCell (F := fun _ => False) (hkq.trans hk2 (fun k hlt' e => ?_)) (p := ⟨ab, 1, none⟩) (fun h => ?_) _
    · have := (own_lt hrow e).1; omega
    · simp only at h; omega

/-- Rows of two element types lie apart. -/
theorem rows_ne {w : World} {base base' : Nat} {e e' : TypeId} {size size' n n' c c' m m' : Nat} {xs xs' : List Value} {sa sa' : Option Addr} (h : w.ownsRow base e size (.slice sa n c) m xs) (h' : w.ownsRow base' e' size' (.slice sa' n' c') m' xs') (hne : e ≠ e') :
    ∀ k, Value.ownBlock (.slice sa n c) = some k → ¬ sa' = some ⟨k, 0, none⟩ := by
  intro k hk hs
  rcases own_addr h with ⟨rfl, _⟩ | ⟨g, rfl⟩
  · simp [Value.ownBlock] at hk
  · simp [Value.ownBlock] at hk
    subst hk
    obtain ⟨c1, h1⟩ := own_blk h rfl
    obtain ⟨c2, h2⟩ := own_blk h' hs
    rw [h1] at h2
    simp only [Option.some.injEq, Obj.cells.injEq] at h2
    exact hne h2.2.1

/-- One round. -/
theorem arel_step {w wo wr w2 : World} {zs : List Int} {m k : Nat} {sa : Option Addr} {cp : Nat} {rows : List ARow} {z n : Int} {r N : Nat} {sb : Option Addr} {cq : Nat} {X : Obj} {sa2 : Option Addr} {cap2 : Nat} (hk : k + 1 ≤ m)
    (hrows : rows.map ARow.a = (zs.take k).map mkAct) (hrl : rows.length = k) (hat : ActsAt wo w.heap.size (.slice sa k cp) rows) (hkp : Keeps (fun _ => False) w wo) (hz : zs[k]? = some z) (hn : around z 10000000 = n) (hr6 : n % 6 = (r : Int)) (hN : n / 6 % 21 = (N : Int))
    (hrow : wr.ownsRow wo.heap.size 5 1 (.slice sb N cq) N (BV ((List.range N).map (actByte n)))) (hkq : Keeps (fun _ => False) wo wr)
    (hown : w2.ownsRow w.heap.size 32 2 (.slice sa2 (k + 1) cap2) (k + 1) (AV rows ++ [.int .i64 (doOf r), .slice sb N cq])) (hg : (wr.alloc X).grownBy w2 (Value.ownBlock (.slice sa k cp))) :
    ARel w zs m (.slice sa2 (k + 1) cap2) (.int .i64 ((k + 1 : Nat) : Int)) w2 := by
  have hat' := hat.keep hkq (fun _ _ _ h => h)
  have hsa : ∀ j, Value.ownBlock (.slice sa k cp) = some j → sa = some ⟨j, 0, none⟩ := fun j e => by
    rcases own_addr hat.row with ⟨rfl, _⟩ | ⟨g, rfl⟩
    · simp [Value.ownBlock] at e
    · simp [Value.ownBlock] at e; rw [e]
  have hk2 : Keeps (fun j => sa = some ⟨j, 0, none⟩) wr w2 := ((Keeps.refl _ wr).alloc X).grown hg (fun j e _ => hsa j e)
  have hact : mkAct z = ⟨doOf r, (List.range N).map (actByte n)⟩ := by
    simp only [mkAct, hn, hN, hr6, Int.toNat_natCast]
  have hlt := (List.getElem?_eq_some_iff.1 hz).1
  refine ⟨k + 1, sa2, cap2, rows ++ [⟨mkAct z, sb, cq⟩], hk, rfl, rfl, ?_, by simp [hrl], ⟨?_, ?_⟩, ?_⟩
  · rw [List.take_succ_eq_append_getElem hlt, List.map_append, List.map_append, hrows, (List.getElem?_eq_some_iff.1 hz).2]
    simp
  · have e : AV (rows ++ [⟨mkAct z, sb, cq⟩]) = AV rows ++ [.int .i64 (doOf r), .slice sb N cq] := by
      simp [AV, ARow.cells, hact]
    rw [e]
    simpa [hrl] using hown
  · intro r hr
    rcases List.mem_append.1 hr with hr | hr
    · exact own_keep (hat'.each r hr) hk2 (rows_ne (hat'.each r hr) hat'.row (by decide))
    · obtain rfl : r = ⟨mkAct z, sb, cq⟩ := by simpa using hr
      rw [hact]
      have hrow' := own_base (base' := w.heap.size) hrow (fun j e => by have := (hrow.lt j e).1; have := hkp.size; omega)
      have := own_keep hrow' hk2 (rows_ne hrow' hat'.row (by decide))
      simpa using this
  · exact (hkp.trans hkq (fun _ _ h => h)).trans hk2 (fun j hj e => by have := (own_lt hat.row e).1; omega)

set_option maxHeartbeats 2000000 in
set_option maxRecDepth 10000 in
theorem acts_any (la : Option Addr) (len cap : Nat) (zs : List Int) (w : World) (hs : Sl w la len cap (IV zs)) (hwf : ∀ z ∈ zs, -9223372036854775808 ≤ z ∧ z ≤ 9223372036854775807) :
    Calls Try.prog 10 #[.slice la len cap] w fun e w' => ∃ sa cap' rows, e = .returned (.slice sa rows.length cap') ∧ rows.map ARow.a = (zs.take 14).map mkAct ∧
      ActsAt w' w.heap.size (.slice sa rows.length cap') rows ∧ Keeps (fun _ => False) w w' := by
  have hl : zs.length = len := by have := hs.len; simpa [IV] using this
  have hlen := Nat.le_trans hs.le hs.capB
  obtain ⟨m, hm⟩ : ∃ m, min len 14 = m := ⟨_, rfl⟩
  have hm1 : m ≤ len := by omega
  have hm2 : m ≤ 14 := by omega
  have HL := Lib.hid (And.intro hm (And.intro hl (And.intro hs hwf)))
  clear hl hs hwf hm
  obtain ⟨i0, hi, hz0, hz1, hz2⟩ := info_parts infoByte
  obtain ⟨j0, hj, hy0, hy1, hy2⟩ := info_parts infoAct
  go_enter Try.func10, Try.ntmps10
  go_wp2
  go_loopw [3, 4] (fun out i wr => ARel w zs m out i wr) (fun _ i _ => m - (intOf i).toNat)
  case atStart => exact ⟨0, none, 0, [], Nat.zero_le _, rfl, rfl, by simp, rfl, ⟨World.ownsRow_nil _ _ _ _, by simp⟩, Keeps.refl _ _⟩
  case round =>
    obtain ⟨k, sa, cp, rows, hk, rfl, rfl, hrows, hrl, hat, hkp⟩ := hrel
    have HR := Lib.hid (And.intro hrows (And.intro hrl (And.intro hat hkp)))
    clear hrows hrl hat hkp
    by_cases hlt : k < m
    · obtain ⟨hm, hl, hs, hwf⟩ := HL.out
      obtain ⟨b, off, rfl⟩ := hs.isSome (by omega)
      obtain ⟨z, hz⟩ : ∃ z, zs[k]? = some z := ⟨_, List.getElem?_eq_getElem (by omega)⟩
      have hwz := hwf z (List.mem_of_getElem? hz)
      have hc : wr.cell? ⟨b, off + k, none⟩ = some (.int .i64 z) := (hs.quiet HR.out.2.2.2).cell (by rw [IV_get, hz]; rfl)
      have HZ := Lib.hid hz
      clear hm hl hs hwf hz
      have t1 : k < len := by omega
      have t2 : k < 14 := by omega
      obtain ⟨wo, rfl⟩ : ∃ wo : World, wo = wr := ⟨_, rfl⟩
      go_wp2_with fail
      refine (around_any z 10000000 _ hwz.1 hwz.2 (by omega) (by omega)).mono ?_
      rintro e w' ⟨rfl, rfl⟩
      have hp := around_pos z 10000000 (by omega)
      generalize hn : around z 10000000 = n at *
      have HNN := Lib.hid hn
      clear hn
      obtain ⟨p1, p2⟩ := hp
      obtain ⟨N, hN⟩ : ∃ N : Nat, n / 6 % 21 = (N : Int) := ⟨(n / 6 % 21).toNat, by omega⟩
      have hNb : N ≤ 20 := by omega
      obtain ⟨r, hr6⟩ : ∃ r : Nat, n % 6 = (r : Int) := ⟨(n % 6).toNat, by omega⟩
      have hr6b : r < 6 := by omega
      have HNI := Lib.hid (And.intro hr6 hN)
      have dc := do_cell wo r hr6b
      obtain ⟨wl, hwl⟩ : ∃ v, wo.alloc (.cells #[.int .i64 0, .int .i64 1, .int .i64 2, .int .i64 0, .int .i64 2, .int .i64 3] 3) = v := ⟨_, rfl⟩
      rw [hwl] at dc
      have hr0 : (0 : Int) ≤ (r : Int) := by omega
      have hr1 : (r : Int) < 6 := by omega
      have HWL : Hid (Keeps (fun _ => False) wo wl) := Lib.hid (by rw [← hwl]; exact (Keeps.refl _ wo).alloc _)
      go_wp2_with fail
      clear hwl dc hr0 hr1 hr6
      have hstart : BRel wl wl.heap.size (doOf r) n N (.int .i64 0) (wl.alloc (Obj.cells #[.int .i64 (doOf r), .slice none 0 0] 32)) :=
        ⟨0, none, 0, Nat.zero_le _, rfl, heap_alloc_new wl _, World.ownsRow_nil _ _ _ _, (Keeps.refl _ wl).alloc _⟩
      have HST := Lib.hid hstart
      clear hstart
      go_loopw [7] (fun k_ wr => BRel wl wl.heap.size (doOf r) n N k_ wr) (fun k_ _ => N - (intOf k_).toNat)
      case atStart => exact HST.out
      case round =>
        obtain ⟨q, sb, cq, hq, rfl, hblk, hrow, hkq⟩ := hrel
        have d2 := cellAt hblk 1
        have f2 := freeAt hblk 1
        simp at d2
        have HB := Lib.hid (And.intro hblk (And.intro hrow hkq))
        clear hblk hrow hkq
        by_cases hltq : q < N
        · have g1 : 0 ≤ (q : Int) * (1 + n % 5) := Int.mul_nonneg (by omega) (by omega)
          have g2 : (q : Int) * (1 + n % 5) ≤ 20 * 5 := Int.mul_le_mul (by omega) (by omega) (by omega) (by omega)
          have hdlt : wl.heap.size < wr.heap.size := lt_of_heap HB.out.1
          have HST2 : Hid (∀ (X : Obj) (w2 : World) (sa2 : Option Addr) (cap2 : Nat), w2.ownsRow wl.heap.size 5 1 (.slice sa2 (q + 1) cap2) (q + 1) (BV ((List.range q).map (actByte n)) ++ [.int .u8 ((n / 126 + q * (1 + n % 5)) % 256)]) → (wr.alloc X).grownBy w2 (Value.ownBlock (.slice sb q cq)) →
              (Value.ownBlock (.slice sa2 (q + 1) cap2) = Value.ownBlock (.slice sb q cq) ∨ Value.ownBlock (.slice sa2 (q + 1) cap2) = some (wr.alloc X).heap.size) →
              (∃ v, w2.cell? ⟨wl.heap.size, 1, none⟩ = some v) ∧ w2.frozen? ⟨wl.heap.size, 1, none⟩ = false ∧ BRel wl wl.heap.size (doOf r) n N (.int .i64 ((q + 1 : Nat) : Int)) (w2.setCell ⟨wl.heap.size, 1, none⟩ (.slice sa2 (q + 1) cap2))) :=
            fun X w2 sa2 cap2 h1 h2 h3 => brel_step p1 g1 rfl HB.out.1 HB.out.2.1 HB.out.2.2 h1 h2 h3 (by omega)
          go_wp2_with (at_builtin; refine wpList_app _ rfl _ _ 23 rfl wl.heap.size 5 i0 (.int .u8 0) 1 1 Try.underlying23 hi hz0 hz1 hz2 rfl (by decide) (.slice sb q cq) q (BV ((List.range q).map (actByte n))) rfl (HB.out.2.1.alloc _) (some ⟨wr.heap.size, 0, none⟩) 1 1 [.int .u8 ((n / 126 + q * (1 + n % 5)) % 256)] rfl rfl (fun h => by cases h) (fun ad had => by obtain rfl := Option.some.inj had; exact World.news_of_block (cs := #[.int .u8 ((n / 126 + q * (1 + n % 5)) % 256)]) (t := 5) (fr := (0, 0)) (heap_alloc_new wr _)) (by simp [Value.oneCell']) (by unfold maxLen; omega) (by omega) (by simp; omega) ?_; intro sa2 cap2 w2 hown2 hg2 hat2 hnn2; obtain ⟨⟨v2, s1⟩, s2, s3⟩ := HST2.out _ _ _ _ hown2 hg2 hat2; have HS3 := Lib.hid s3; clear hown2 hg2 hat2 hnn2 s3)
          go_roundw
          case rel => exact HS3.out
          case measure => simp [intOf]; omega
        · clear HST
          obtain rfl : q = N := by omega
          have d0 := cellAt HB.out.1 0
          simp at d0
          have HO : Hid (wr.ownsRow w.heap.size 32 2 (.slice sa k cp) k (AV rows)) := by
            obtain ⟨_, h2, h3, _⟩ := HR.out
            have := own_keep (own_keep h3.row HWL.out (fun _ _ h => h)) HB.out.2.2 (fun _ _ h => h)
            rw [h2] at this
            exact this
          have hws : w.heap.size ≤ wr.heap.size := Nat.le_trans HR.out.2.2.2.size (Nat.le_trans HWL.out.size HB.out.2.2.size)
          have HST3 : Hid (∀ (X : Obj) (w2 : World) (sa2 : Option Addr) (cap2 : Nat), w2.ownsRow w.heap.size 32 2 (.slice sa2 (k + 1) cap2) (k + 1) (AV rows ++ [.int .i64 (doOf r), .slice sb q cq]) → (wr.alloc X).grownBy w2 (Value.ownBlock (.slice sa k cp)) →
              ARel w zs m (.slice sa2 (k + 1) cap2) (.int .i64 ((k + 1 : Nat) : Int)) w2) :=
            fun X w2 sa2 cap2 h1 h2 => arel_step (by omega) HR.out.1 HR.out.2.1 (HR.out.2.2.1.keep HWL.out (fun _ _ _ h => h)) (HR.out.2.2.2.quiet HWL.out) HZ.out HNN.out HNI.out.1 HNI.out.2 HB.out.2.1 HB.out.2.2 h1 h2
          go_wp2_with (at_builtin; refine wpList_app _ rfl _ _ 28 rfl w.heap.size 32 j0 _ 2 32 Try.underlying28 hj hy0 hy1 hy2 rfl (by decide) (.slice sa k cp) k (AV rows) rfl (HO.out.alloc _) (some ⟨wr.heap.size, 0, none⟩) 1 1 [.int .i64 (doOf r), .slice sb q cq] rfl rfl (fun h => by cases h) (fun ad had => by obtain rfl := Option.some.inj had; exact World.news_of_block (cs := #[.int .i64 (doOf r), .slice sb q cq]) (t := 32) (fr := (0, 0)) (heap_alloc_new wr _)) (by simp [Value.oneCell']) (by unfold maxLen; omega) (by omega) (by simp; omega) ?_; intro sa2 cap2 w2 hown2 hg2 hat2 hnn2; have HS3 := Lib.hid (HST3.out _ _ _ _ hown2 hg2); clear hown2 hg2 hat2 hnn2)
          go_roundw
          case rel => exact HS3.out
          case measure => simp [intOf]; omega
    · obtain rfl : k = m := by omega
      have t1 : Hid ((zs.take k).map mkAct = (zs.take 14).map mkAct) := by
        obtain ⟨hm, hl, _⟩ := HL.out
        show _ = _
        congr 1
        apply List.ext_getElem?
        intro j
        simp only [List.getElem?_take]
        split <;> split <;> first | rfl | omega | (symm; apply List.getElem?_eq_none; omega)
      by_cases hkl : k < len
      · have t3 : (k : Int) < (len : Int) := by omega
        have t4 : ¬ (k : Int) < 14 := by have := HL.out.1; omega
        go_wp2
        go_ret
        obtain ⟨h1, h2, h3, h4⟩ := HR.out
        exact ⟨sa, cp, rows, by simp [h2], h1.trans (t1.out.trans (by rw [List.map_take])), by rw [h2]; exact h3, h4⟩
      · have t3 : ¬ (k : Int) < (len : Int) := by omega
        go_wp2
        go_ret
        obtain ⟨h1, h2, h3, h4⟩ := HR.out
        exact ⟨sa, cp, rows, by simp [h2], h1.trans (t1.out.trans (by rw [List.map_take])), by rw [h2]; exact h3, h4⟩
end Go.Proofs.Ytpojkhjenbbodaa
