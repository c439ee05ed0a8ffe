/-
  Bytes that are turned one by one (seal.pad), by a stream, or by a tag's number. Conditions: fewer than 10^6 bytes.
-/
import Derived.Test.YtnnhndnckpnkmaaStream
import Derived.Test.YtnnhndnckpnkmaaMake
import Derived.Laws.BitsAllLaws
namespace Go.Proofs.Ytnnhndnckpnkmaa
open Go.RowKit

theorem xor_u8 (a b : UInt8) : bits .xor .u8 (a.toNat : Int) (b.toNat : Int) = ((a ^^^ b).toNat : Int) := by
  rw [u8_xor_nat _ _ a.toNat_lt b.toNat_lt, UInt8.toNat_xor]
def PdRel (w : World) (g n : Nat) (l : List UInt8) (f : Nat → UInt8 → UInt8) (i : Value) (wr : World) : Prop :=
  ∃ (k : Nat) (xs : List UInt8), i = .int .i64 (k : Int) ∧ k ≤ n ∧ xs.take k = (l.mapIdx f).take k ∧ wr.ownsRow w.heap.size 5 1 (.slice (some ⟨g, 0, none⟩) n n) n (BV xs) ∧ Keeps (fun _ => False) w wr

theorem xor1_any (vb i : Nat) (c : UInt8) (ss : Option Addr) (n cs : Nat) (s : List UInt8) (w : World) (hv : w.heap[vb]? = some (.cells #[.slice ss n cs] 23 (0, 0))) (hs : Sl w ss n cs (BV s)) (hi : i < n) (hn : n ≤ 1000000) :
    Calls Try.prog 26 #[.int .i64 (i : Int), .int .u8 (c.toNat : Int), .pointer (some ⟨vb, 0, none⟩)] w fun e w' => e = .returned (.int .u8 ((c ^^^ s.getD i 0).toNat : Int)) ∧ w = w' := by
  have hsl : s.length = n := by have := hs.len; simpa using this
  obtain ⟨d, hd⟩ : ∃ d, s[i]? = some d := ⟨_, List.getElem?_eq_getElem (by omega)⟩
  have e1 : s.getD i 0 = d := by simp [List.getD, hd]
  obtain ⟨b, off, rfl⟩ := hs.isSome (by omega)
  have c1 : w.cell? ⟨b, off + i, none⟩ = some (.int .u8 d.toNat) := hs.cell (by rw [BV_get, hd]; rfl)
  have c0 := cellAt hv 0
  simp at c0
  have t0 : (0 : Int) ≤ (i : Int) := by omega
  have t1 : (i : Int) < (n : Int) := by omega
  have ex := xor_u8 c d
  rw [e1]
  clear hd e1 hsl hs hv
  go_enter Try.func26, Try.ntmps26
  go_wp2
  go_ret
  exact ⟨by simp [ex], rfl⟩
theorem tag1_any (vb i : Nat) (c : UInt8) (x : Nat) (w : World) (hv : w.heap[vb]? = some (.cells #[.int .u64 (x : Int)] 22 (0, 0))) (hi : i < 8) (hx : U64 x) :
    Calls Try.prog 29 #[.int .i64 (i : Int), .int .u8 (c.toNat : Int), .pointer (some ⟨vb, 0, none⟩)] w fun e w' => e = .returned (.int .u8 ((UInt8.ofNat (x / 256 ^ i)).toNat : Int)) ∧ w = w' := by
  have c0 := cellAt hv 0
  simp at c0
  have e : (256 : Nat) ^ i = 2 ^ (8 * i) := by rw [Nat.pow_mul]
  obtain ⟨y, hy⟩ : ∃ y, x / 256 ^ i = y := ⟨_, rfl⟩
  have e1 : (x : Int) / 2 ^ (8 * i) = (y : Int) := by rw [← hy, e, Int.natCast_ediv, Int.natCast_pow]; rfl
  have e2 : IntKind.u8.wrap (y : Int) = ((UInt8.ofNat y).toNat : Int) := by rw [UInt8.toNat_ofNat', IntKind.wrap_u8]; omega
  rw [hy]
  clear hv e hy
  generalize UInt8.ofNat y = z at *
  go_enter Try.func29, Try.ntmps29
  go_wp2
  go_ret
  exact ⟨by simp [e2], rfl⟩

set_option maxHeartbeats 1000000 in
theorem pad_xor (vb : Nat) (ss : Option Addr) (cs : Nat) (s : List UInt8) (sa : Option Addr) (n cap : Nat) (l : List UInt8) (w : World) (hl : Sl w sa n cap (BV l)) (hn : n ≤ 1000000) (hcond : w.heap[vb]? = some (.cells #[.slice ss n cs] 23 (0, 0)) ∧ Sl w ss n cs (BV s)) :
    Calls Try.prog 25 #[.slice sa n cap, .func (.func 26) #[] #[.pointer (some ⟨vb, 0, none⟩)]] w fun e w' => ∃ g, e = .returned (.slice (some ⟨g, 0, none⟩) n n) ∧ w'.ownsRow w.heap.size 5 1 (.slice (some ⟨g, 0, none⟩) n n) n (BV (l.mapIdx (fun i c => c ^^^ s.getD i 0))) ∧ Keeps (fun _ => False) w w' := by
  have hll : l.length = n := by have := hl.len; simpa using this
  have hmk := run_mk n (by omega) w
  have hown := owns_made w n (by omega)
  obtain ⟨g, hg⟩ : ∃ g, w.heap.size = g := ⟨_, rfl⟩
  obtain ⟨W0, hW0⟩ : ∃ W0, w.alloc (.cells (madeCells #[.int .u8 0] n) 5) = W0 := ⟨_, rfl⟩
  have hk0 : Keeps (fun _ => False) w W0 := by rw [← hW0]; exact (Keeps.refl _ w).alloc _
  rw [hg] at hmk hown
  rw [hW0] at hmk hown
  have HL := Lib.hid (And.intro hl (And.intro hll (And.intro hg (And.intro hown hk0))))
  have HC := Lib.hid hcond
  have HW0 := Lib.hid hW0
  clear hl hll hg hown hk0 hcond hW0
  go_enter Try.func25, Try.ntmps25
  go_wp2_with fail
  clear hmk
  go_loopw [13] (fun i wr => PdRel w g n l (fun i c => c ^^^ s.getD i 0) i wr) (fun i _ => n - (intOf i).toNat)
  case atStart => exact ⟨0, List.replicate n 0, rfl, Nat.zero_le _, by simp, by have := HL.out.2.2.2.1; rw [← HL.out.2.2.1] at this; rw [HL.out.2.2.1] at this ⊢; exact this, HL.out.2.2.2.2⟩
  case round =>
    obtain ⟨k, xs, rfl, hk, hxs, ho, hkp⟩ := hrel
    have hxl : xs.length = n := by have := ho.1; simpa using this
    have HB := Lib.hid (And.intro hxs (And.intro ho (And.intro hkp hxl)))
    clear hxs ho hkp
    by_cases hlt : k < n
    · obtain ⟨c, hc⟩ : ∃ c, l[k]? = some c := ⟨_, List.getElem?_eq_getElem (by have := HL.out.2.1; omega)⟩
      obtain ⟨b, off, rfl⟩ := HL.out.1.isSome (by omega)
      have c1 : wr.cell? ⟨b, off + k, none⟩ = some (.int .u8 c.toNat) := (HL.out.1.quiet HB.out.2.2.1).cell (by rw [BV_get, hc]; rfl)
      have t1 : (k : Int) < (n : Int) := by omega
      have t0 : (0 : Int) ≤ (k : Int) := by omega
      have HCC := Lib.hid hc
      clear hc hxl
      go_wp2_with fail
      refine (xor1_any vb k c ss n cs s wr ((HB.out.2.2.1.block vb (lt_of_heap HC.out.1) (fun h => h)).trans HC.out.1) (HC.out.2.quiet HB.out.2.2.1) hlt hn).mono ?_
      rintro e _ ⟨rfl, rfl⟩
      obtain ⟨v, hv⟩ : ∃ v, (fun i c => c ^^^ s.getD i 0) k c = v := ⟨_, rfl⟩
      simp only at hv
      rw [hv]
      obtain ⟨u, hu⟩ : ∃ u, xs[k]? = some u := ⟨_, List.getElem?_eq_getElem (by have := HB.out.2.2.2; omega)⟩
      have c2 : wr.cell? ⟨g, k, none⟩ = some (.int .u8 u.toNat) := own_cell HB.out.2.1 k _ (by rw [BV_get, hu]; rfl)
      have f2 := own_free HB.out.2.1 k
      have HR : Hid (PdRel w g n l (fun i c => c ^^^ s.getD i 0) (.int .i64 ((k : Int) + 1)) (wr.setCell ⟨g, k, none⟩ (.int .u8 (v.toNat : Int)))) := by
        have hkx : k < xs.length := by have := HB.out.2.2.2; omega
        have hkm : k < (l.mapIdx (fun i c => c ^^^ s.getD i 0)).length := by rw [List.length_mapIdx]; have := HL.out.2.1; omega
        refine ⟨k + 1, xs.set k v, rfl, by omega, ?_, by rw [← BV_set]; exact own_set HB.out.2.1 k _, HB.out.2.2.1.setCell (p := ⟨g, k, none⟩) (fun h => by simp only at h; have := HL.out.2.2.1; omega) _⟩
        rw [List.take_succ_eq_append_getElem hkm, ← HB.out.1, List.take_succ_eq_append_getElem (by rw [List.length_set]; exact hkx), List.take_set_of_le (Nat.le_refl _)]
        congr 2
        rw [List.getElem_set_self, List.getElem_mapIdx, ← hv]
        try rw [(List.getElem?_eq_some_iff.1 HCC.out).2]
      clear hu hv c1
      go_wp2
      go_roundw
      case rel => exact HR.out
      case measure => simp [intOf]; omega
    · obtain rfl : k = n := by omega
      have t1 : ¬ (k : Int) < (k : Int) := by omega
      go_wp2
      go_ret
      obtain ⟨h1, h2, h3, h4⟩ := HB.out
      rw [List.take_of_length_le (by omega), List.take_of_length_le (by rw [List.length_mapIdx]; have := HL.out.2.1; omega)] at h1
      rw [h1] at h2
      exact ⟨g, by simp, h2, h3⟩

set_option maxHeartbeats 1000000 in
theorem pad_tag (vb : Nat) (x : Nat) (sa : Option Addr) (n cap : Nat) (l : List UInt8) (w : World) (hl : Sl w sa n cap (BV l)) (hn : n ≤ 1000000) (hcond : w.heap[vb]? = some (.cells #[.int .u64 (x : Int)] 22 (0, 0)) ∧ U64 x ∧ n ≤ 8) :
    Calls Try.prog 25 #[.slice sa n cap, .func (.func 29) #[] #[.pointer (some ⟨vb, 0, none⟩)]] w fun e w' => ∃ g, e = .returned (.slice (some ⟨g, 0, none⟩) n n) ∧ w'.ownsRow w.heap.size 5 1 (.slice (some ⟨g, 0, none⟩) n n) n (BV (l.mapIdx (fun i _ => UInt8.ofNat (x / 256 ^ i)))) ∧ Keeps (fun _ => False) w w' := by
  have hll : l.length = n := by have := hl.len; simpa using this
  have hmk := run_mk n (by omega) w
  have hown := owns_made w n (by omega)
  obtain ⟨g, hg⟩ : ∃ g, w.heap.size = g := ⟨_, rfl⟩
  obtain ⟨W0, hW0⟩ : ∃ W0, w.alloc (.cells (madeCells #[.int .u8 0] n) 5) = W0 := ⟨_, rfl⟩
  have hk0 : Keeps (fun _ => False) w W0 := by rw [← hW0]; exact (Keeps.refl _ w).alloc _
  rw [hg] at hmk hown
  rw [hW0] at hmk hown
  have HL := Lib.hid (And.intro hl (And.intro hll (And.intro hg (And.intro hown hk0))))
  have HC := Lib.hid hcond
  have HW0 := Lib.hid hW0
  clear hl hll hg hown hk0 hcond hW0
  go_enter Try.func25, Try.ntmps25
  go_wp2_with fail
  clear hmk
  go_loopw [13] (fun i wr => PdRel w g n l (fun i _ => UInt8.ofNat (x / 256 ^ i)) i wr) (fun i _ => n - (intOf i).toNat)
  case atStart => exact ⟨0, List.replicate n 0, rfl, Nat.zero_le _, by simp, by have := HL.out.2.2.2.1; rw [← HL.out.2.2.1] at this; rw [HL.out.2.2.1] at this ⊢; exact this, HL.out.2.2.2.2⟩
  case round =>
    obtain ⟨k, xs, rfl, hk, hxs, ho, hkp⟩ := hrel
    have hxl : xs.length = n := by have := ho.1; simpa using this
    have HB := Lib.hid (And.intro hxs (And.intro ho (And.intro hkp hxl)))
    clear hxs ho hkp
    by_cases hlt : k < n
    · obtain ⟨c, hc⟩ : ∃ c, l[k]? = some c := ⟨_, List.getElem?_eq_getElem (by have := HL.out.2.1; omega)⟩
      obtain ⟨b, off, rfl⟩ := HL.out.1.isSome (by omega)
      have c1 : wr.cell? ⟨b, off + k, none⟩ = some (.int .u8 c.toNat) := (HL.out.1.quiet HB.out.2.2.1).cell (by rw [BV_get, hc]; rfl)
      have t1 : (k : Int) < (n : Int) := by omega
      have t0 : (0 : Int) ≤ (k : Int) := by omega
      have HCC := Lib.hid hc
      clear hc hxl
      go_wp2_with fail
      refine (tag1_any vb k c x wr ((HB.out.2.2.1.block vb (lt_of_heap HC.out.1) (fun h => h)).trans HC.out.1) (by have := HC.out.2.2; omega) HC.out.2.1).mono ?_
      rintro e _ ⟨rfl, rfl⟩
      obtain ⟨v, hv⟩ : ∃ v, (fun i _ => UInt8.ofNat (x / 256 ^ i)) k c = v := ⟨_, rfl⟩
      simp only at hv
      rw [hv]
      obtain ⟨u, hu⟩ : ∃ u, xs[k]? = some u := ⟨_, List.getElem?_eq_getElem (by have := HB.out.2.2.2; omega)⟩
      have c2 : wr.cell? ⟨g, k, none⟩ = some (.int .u8 u.toNat) := own_cell HB.out.2.1 k _ (by rw [BV_get, hu]; rfl)
      have f2 := own_free HB.out.2.1 k
      have HR : Hid (PdRel w g n l (fun i _ => UInt8.ofNat (x / 256 ^ i)) (.int .i64 ((k : Int) + 1)) (wr.setCell ⟨g, k, none⟩ (.int .u8 (v.toNat : Int)))) := by
        have hkx : k < xs.length := by have := HB.out.2.2.2; omega
        have hkm : k < (l.mapIdx (fun i _ => UInt8.ofNat (x / 256 ^ i))).length := by rw [List.length_mapIdx]; have := HL.out.2.1; omega
        refine ⟨k + 1, xs.set k v, rfl, by omega, ?_, by rw [← BV_set]; exact own_set HB.out.2.1 k _, HB.out.2.2.1.setCell (p := ⟨g, k, none⟩) (fun h => by simp only at h; have := HL.out.2.2.1; omega) _⟩
        rw [List.take_succ_eq_append_getElem hkm, ← HB.out.1, List.take_succ_eq_append_getElem (by rw [List.length_set]; exact hkx), List.take_set_of_le (Nat.le_refl _)]
        congr 2
        rw [List.getElem_set_self, List.getElem_mapIdx, ← hv]
        try rw [(List.getElem?_eq_some_iff.1 HCC.out).2]
      clear hu hv c1
      go_wp2
      go_roundw
      case rel => exact HR.out
      case measure => simp [intOf]; omega
    · obtain rfl : k = n := by omega
      have t1 : ¬ (k : Int) < (k : Int) := by omega
      go_wp2
      go_ret
      obtain ⟨h1, h2, h3, h4⟩ := HB.out
      rw [List.take_of_length_le (by omega), List.take_of_length_le (by rw [List.length_mapIdx]; have := HL.out.2.1; omega)] at h1
      rw [h1] at h2
      exact ⟨g, by simp, h2, h3⟩
end Go.Proofs.Ytnnhndnckpnkmaa
