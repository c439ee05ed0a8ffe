/-
  Sealing: xor, tag, Seal: what they tell. Conditions: fewer than 10^6 bytes; the key is below 2^64.
-/
import Derived.Test.YtnnhndnckpnkmaaSealPad
import Derived.Test.YtnnhndnckpnkmaaSecret
import Derived.Test.YtnnhndnckpnkmaaBytes
namespace Go.Proofs.Ytnnhndnckpnkmaa
open Go.RowKit

def sSeal : List UInt8 := [115, 101, 97, 108]
def sAlong : List UInt8 := [97, 108, 111, 110, 103]
def sText : List UInt8 := [116, 101, 120, 116]
def sMac : List UInt8 := [109, 97, 99]
def padKey (key : Nat) : Nat := hsec sSeal [key]
/-- Bytes, xor a key's stream. -/
def xorS (key : Nat) (b : List UInt8) : List UInt8 := b.mapIdx fun i c => c ^^^ (stream (padKey key) b.length).getD i 0
theorem xorS_length (key : Nat) (b : List UInt8) : (xorS key b).length = b.length := by simp [xorS]
def tagN (key : Nat) (along b : List UInt8) : Nat := hof sMac [key, hby sAlong along, hby sText b]
def tagB (x : Nat) : List UInt8 := (List.replicate 8 (0 : UInt8)).mapIdx fun i _ => UInt8.ofNat (x / 256 ^ i)
theorem tagB_length (x : Nat) : (tagB x).length = 8 := by simp [tagB]
def sealS (key : Nat) (along t : List UInt8) : List UInt8 := xorS key t ++ tagB (tagN key along (xorS key t))

theorem secret_one (s : ByteArray) (x : Nat) (w : World) (hs : s.size ≤ 1000000000) (hx : U64 x) :
    Calls Try.prog 24 #[.string s, .slice (some ⟨w.heap.size, 0, none⟩) 1 1] (w.alloc (.cells #[.int .u64 (x : Int)] 22)) fun e w' => e = .returned (.int .u64 (hsec s.data.toList [x] : Int)) ∧ Keeps (fun _ => False) w w' :=
  (secret_any s _ 1 1 [x] _ hs (by omega) (lies_one w x (0, 0)) (by simpa using hx)).mono fun _ _ ⟨h1, h2⟩ => ⟨h1, ((Keeps.refl _ w).alloc _).trans h2 (fun _ _ h => h)⟩

set_option maxHeartbeats 1000000 in
theorem xor_any (key : Nat) (sa : Option Addr) (n cap : Nat) (l : List UInt8) (w : World) (hk : U64 key) (hl : Sl w sa n cap (BV l)) (hn : n ≤ 1000000) :
    Calls Try.prog 19 #[.int .u64 key, .slice sa n cap] w fun e w' => ∃ g, e = .returned (.slice (some ⟨g, 0, none⟩) n n) ∧ w'.ownsRow w.heap.size 5 1 (.slice (some ⟨g, 0, none⟩) n n) n (BV (xorS key l)) ∧ Keeps (fun _ => False) w w' := by
  have hll : l.length = n := by have := hl.len; simpa using this
  obtain ⟨pk, hpk⟩ : ∃ pk, padKey key = pk := ⟨_, rfl⟩
  have hpu : U64 pk := by rw [← hpk]; have := hsec_pos sSeal [key]; unfold padKey U64; omega
  have HE := Lib.hid (And.intro hpk (And.intro hpu (And.intro hk hll)))
  have Sx := Lib.hid hl
  clear hpk hpu hk hll hl
  go_enter Try.func19, Try.ntmps19
  go_wp2_with fail
  refine (secret_one ⟨#[115, 101, 97, 108]⟩ key w (by decide) HE.out.2.2.1).mono ?_
  rw [show hsec (⟨#[115, 101, 97, 108]⟩ : ByteArray).data.toList [key] = pk from HE.out.1]
  rintro e w1 ⟨rfl, hk1⟩
  have HK := Lib.hid hk1
  replace Sx := Lib.hid (Sx.out.quiet hk1)
  clear hk1
  go_wp2_with fail
  refine (stream_any pk n w1 HE.out.2.1 hn).mono ?_
  rintro e w2 ⟨ss, cs, rfl, hown, hk2⟩
  have Ss := Lib.hid (Sl.of_own hown)
  replace Sx := Lib.hid (Sx.out.quiet hk2)
  replace HK := Lib.hid (HK.out.quiet hk2)
  clear hown hk2
  obtain ⟨vb, hvb⟩ : ∃ vb, w2.heap.size = vb := ⟨_, rfl⟩
  obtain ⟨w3, hw3⟩ : ∃ w3, w2.alloc (.cells #[.slice ss n cs] 23) = w3 := ⟨_, rfl⟩
  have hk3 : Keeps (fun _ => False) w2 w3 := by rw [← hw3]; exact (Keeps.refl _ w2).alloc _
  have BV_ : Hid (w3.heap[vb]? = some (.cells #[.slice ss n cs] 23 (0, 0))) := by rw [← hw3, ← hvb]; exact World.alloc_heap_new w2 _
  replace Sx := Lib.hid (Sx.out.quiet hk3)
  replace Ss := Lib.hid (Ss.out.quiet hk3)
  replace HK := Lib.hid (HK.out.quiet hk3)
  have E3 := Lib.hid (And.intro hw3 hvb)
  clear hw3 hvb hk3
  go_wp2_with fail
  rw [E3.out.2, E3.out.1]
  refine (pad_xor vb ss cs (stream pk n) sa n cap l w3 Sx.out hn ⟨BV_.out, Ss.out⟩).mono ?_
  rintro e w4 ⟨g, rfl, hown, hk4⟩
  have HO : Hid (w4.ownsRow w.heap.size 5 1 (.slice (some ⟨g, 0, none⟩) n n) n (BV (xorS key l)) ∧ Keeps (fun _ => False) w w4) := by
    refine ⟨?_, HK.out.quiet hk4⟩
    have h1 := own_base (base' := w.heap.size) hown (fun k e => Nat.le_trans HK.out.size (hown.lt k e).1)
    unfold xorS
    rw [HE.out.1, HE.out.2.2.2]
    exact h1
  clear hown hk4
  go_wp2
  go_ret
  exact ⟨g, rfl, HO.out.1, HO.out.2⟩

set_option maxHeartbeats 1000000 in
theorem tag_any (key : Nat) (sa : Option Addr) (n cap : Nat) (l : List UInt8) (sb : Option Addr) (m cb : Nat) (lb : List UInt8) (w : World) (hk : U64 key) (hl : Sl w sa n cap (BV l)) (hn : n ≤ 1000000) (hlb : Sl w sb m cb (BV lb)) (hm : m ≤ 1000000) :
    Calls Try.prog 20 #[.int .u64 key, .slice sa n cap, .slice sb m cb] w fun e w' => ∃ g, e = .returned (.slice (some ⟨g, 0, none⟩) 8 8) ∧ w'.ownsRow w.heap.size 5 1 (.slice (some ⟨g, 0, none⟩) 8 8) 8 (BV (tagB (tagN key l lb))) ∧ Keeps (fun _ => False) w w' := by
  obtain ⟨x1, hx1⟩ : ∃ x, hby sAlong l = x := ⟨_, rfl⟩
  obtain ⟨x2, hx2⟩ : ∃ x, hby sText lb = x := ⟨_, rfl⟩
  obtain ⟨x3, hx3⟩ : ∃ x, tagN key l lb = x := ⟨_, rfl⟩
  have u1 : U64 x1 := by rw [← hx1]; have := hby_lt sAlong l; unfold U64; omega
  have u2 : U64 x2 := by rw [← hx2]; have := hby_lt sText lb; unfold U64; omega
  have hx3' : hof sMac [key, x1, x2] = x3 := by rw [← hx3, ← hx1, ← hx2]; rfl
  have u3 : U64 x3 := by rw [← hx3']; have := hof_lt sMac [key, x1, x2]; unfold U64; omega
  have HE := Lib.hid (And.intro hx1 (And.intro hx2 (And.intro hx3' (And.intro hk (And.intro u1 (And.intro u2 u3))))))
  have Sx := Lib.hid hl
  have Sy := Lib.hid hlb
  rw [hx3]
  clear hx1 hx2 hx3 hx3' hk u1 u2 u3 hl hlb
  have hmk : ∀ u : World, (Instr.makeSlice 23 (.int .i64 8) (.int .i64 8)).run Try.prog u = .ok (.slice (some ⟨u.heap.size, 0, none⟩) 8 8) (u.alloc (.cells (madeCells #[.int .u8 0] 8) 5)) := fun u => run_mk 8 (by omega) u
  go_enter Try.func20, Try.ntmps20
  go_wp2_with fail
  refine (bytes_any ⟨#[97, 108, 111, 110, 103]⟩ sa n cap l w (by decide) (by omega) Sx.out).mono ?_
  rw [show hby (⟨#[97, 108, 111, 110, 103]⟩ : ByteArray).data.toList l = x1 from HE.out.1]
  rintro e w1 ⟨rfl, hk1⟩
  have HK := Lib.hid hk1
  replace Sy := Lib.hid (Sy.out.quiet hk1)
  clear hk1 Sx
  go_wp2_with fail
  refine (bytes_any ⟨#[116, 101, 120, 116]⟩ sb m cb lb w1 (by decide) (by omega) Sy.out).mono ?_
  rw [show hby (⟨#[116, 101, 120, 116]⟩ : ByteArray).data.toList lb = x2 from HE.out.2.1]
  rintro e w2 ⟨rfl, hk2⟩
  replace HK := Lib.hid (HK.out.quiet hk2)
  clear hk2 Sy
  go_wp2_with fail
  refine (of_three ⟨#[109, 97, 99]⟩ key x1 x2 w2 (by decide) HE.out.2.2.2.1 HE.out.2.2.2.2.1 HE.out.2.2.2.2.2.1).mono ?_
  rw [show hof (⟨#[109, 97, 99]⟩ : ByteArray).data.toList [key, x1, x2] = x3 from HE.out.2.2.1]
  rintro e w3 ⟨rfl, hk3⟩
  replace HK := Lib.hid (HK.out.quiet hk3)
  clear hk3
  obtain ⟨vb, hvb⟩ : ∃ vb, w3.heap.size = vb := ⟨_, rfl⟩
  obtain ⟨w4, hw4⟩ : ∃ w4, w3.alloc (.cells #[.int .u64 (x3 : Int)] 22) = w4 := ⟨_, rfl⟩
  have hk4 : Keeps (fun _ => False) w3 w4 := by rw [← hw4]; exact (Keeps.refl _ w3).alloc _
  have B4 : Hid (w4.heap[vb]? = some (.cells #[.int .u64 (x3 : Int)] 22 (0, 0))) := by rw [← hw4, ← hvb]; exact World.alloc_heap_new w3 _
  have hz4 : w4.heap.size = vb + 1 := by rw [← hw4, ← hvb]; simp
  obtain ⟨w5, hw5⟩ : ∃ w5, w4.alloc (.cells (madeCells #[.int .u8 0] 8) 5) = w5 := ⟨_, rfl⟩
  have hk5 : Keeps (fun _ => False) w4 w5 := by rw [← hw5]; exact (Keeps.refl _ w4).alloc _
  have hown5 := owns_made w4 8 (by omega)
  rw [hw5, hz4] at hown5
  have S5 := Lib.hid (Sl.of_own hown5)
  have B5 := Lib.hid ((hk5.block vb (lt_of_heap B4.out) (fun h => h)).trans B4.out)
  replace HK := Lib.hid ((HK.out.quiet hk4).quiet hk5)
  have E5 := Lib.hid (And.intro hw4 (And.intro hvb hw5))
  clear hw4 hvb hk4 hw5 hk5 hown5 hz4 B4
  go_wp2_with fail
  rw [E5.out.2.1, E5.out.1, E5.out.2.2]
  refine (pad_tag vb x3 (some ⟨vb + 1, 0, none⟩) 8 8 (List.replicate 8 0) w5 S5.out (by omega) ⟨B5.out, HE.out.2.2.2.2.2.2, by omega⟩).mono ?_
  rintro e w6 ⟨g, rfl, hown, hk6⟩
  have HO : Hid (w6.ownsRow w.heap.size 5 1 (.slice (some ⟨g, 0, none⟩) 8 8) 8 (BV (tagB x3)) ∧ Keeps (fun _ => False) w w6) := by
    refine ⟨own_base (base' := w.heap.size) hown (fun k e => Nat.le_trans HK.out.size (hown.lt k e).1), HK.out.quiet hk6⟩
  clear hown hk6
  go_wp2
  go_ret
  exact ⟨g, rfl, HO.out.1, HO.out.2⟩

set_option maxHeartbeats 1000000 in
theorem seal_any (key : Nat) (sa : Option Addr) (n cap : Nat) (l : List UInt8) (sb : Option Addr) (m cb : Nat) (lb : List UInt8) (w : World) (hk : U64 key) (hl : Sl w sa n cap (BV l)) (hn : n ≤ 1000000) (hlb : Sl w sb m cb (BV lb)) (hm : m ≤ 900000) :
    Calls Try.prog 12 #[.int .u64 key, .slice sa n cap, .slice sb m cb] w fun e w' => ∃ sa' cap', e = .returned (.slice sa' (m + 8) cap') ∧ w'.ownsRow w.heap.size 5 1 (.slice sa' (m + 8) cap') (m + 8) (BV (sealS key l lb)) ∧ Keeps (fun _ => False) w w' := by
  have Sx := Lib.hid hl
  have Sy := Lib.hid hlb
  have HU := Lib.hid hk
  obtain ⟨i0, hi, hz0, hz1, hz2⟩ := info_parts infoByte
  clear hl hlb hk
  go_enter Try.func12, Try.ntmps12
  go_wp2_with fail
  refine (xor_any key sb m cb lb w HU.out Sy.out (by omega)).mono ?_
  rintro e w1 ⟨g, rfl, hown, hk1⟩
  have O1 := Lib.hid hown
  have HG : Hid (g < w1.heap.size) := (own_lt hown rfl).2
  have HK := Lib.hid hk1
  replace Sx := Lib.hid (Sx.out.quiet hk1)
  clear hown hk1 Sy
  go_wp2_with fail
  refine (tag_any key sa n cap l (some ⟨g, 0, none⟩) m m (xorS key lb) w1 HU.out Sx.out hn (Sl.of_own O1.out) (by omega)).mono ?_
  rintro e w2 ⟨g2, rfl, hown2, hk2⟩
  replace O1 := Lib.hid (own_keep O1.out hk2 (fun _ _ h => h))
  have hne : g2 ≠ g := by have h1 := (own_lt hown2 rfl).1; have h2 := HG.out; omega
  have hsz := Nat.le_trans HK.out.size hk2.size
  replace HK := Lib.hid (HK.out.quiet hk2)
  have S2 := Lib.hid (Sl.of_own hown2)
  clear hown2 hk2
  go_wp2_with (at_builtin; refine wpList_app _ rfl _ _ 23 rfl w.heap.size 5 i0 (.int .u8 0) 1 1 Try.underlying23 hi hz0 hz1 hz2 rfl (by decide) (.slice (some ⟨g, 0, none⟩) m m) m (BV (xorS key lb)) rfl O1.out (some ⟨g2, 0, none⟩) 8 8 (BV (tagB (tagN key l (xorS key lb)))) rfl (by simp [tagB_length]) (fun h => by cases h) S2.out.lies (BV_one _) (by unfold maxLen; omega) (by omega) hsz ?_; intro sa3 cap3 w3 hown3 hg3 hat3 hnn3; have H3 := Lib.hid (And.intro hown3 hg3); clear hown3 hg3 hat3 hnn3)
  go_ret
  refine ⟨sa3, cap3, by simp, ?_, ?_⟩
  · have := H3.out.1
    rw [← BV_append] at this
    exact this
  · exact HK.out.grown H3.out.2 (fun k e hlt => by simp [Value.ownBlock] at e; have := (own_lt O1.out rfl).1; omega)
end Go.Proofs.Ytnnhndnckpnkmaa
