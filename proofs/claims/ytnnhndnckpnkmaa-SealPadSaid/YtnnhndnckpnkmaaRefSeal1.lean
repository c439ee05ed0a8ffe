/-
  Sealing, as the document has it: Xor, tag, Seal, Open. Conditions: fewer than 10^6 bytes; the key is below 2^64.
-/
import Derived.Test.YtnnhndnckpnkmaaSealLaw
import Derived.Test.YtnnhndnckpnkmaaRefStream
import Derived.Test.YtnnhndnckpnkmaaRefBytes
import Derived.Test.YtnnhndnckpnkmaaRefSecret
import Derived.Test.YtnnhndnckpnkmaaRefOfArgs
import Derived.Test.YtnnhndnckpnkmaaSame
import Derived.Test.YtnnhndnckpnkmaaCopyB
namespace Go.Proofs.Ytnnhndnckpnkmaa
open Go.RowKit

theorem wp_pushB {o : Oper} {a : Act} {K : Act → World → Prop} {Q : Exit → Act → World → Prop} (w0 : World) (v : Int) (s x : Operand)
    (ho : o.op = .call { callee := .builtin .append, args := #[s, x], argTypes := #[23, 23] }) (base : Nat)
    (sa : Option Addr) (n c : Nat) (xs : List Value) (hs : a.eval s = .slice sa n c) (hown : w0.ownsRow base 5 1 (.slice sa n c) n xs)
    (hx : a.eval x = .slice (some ⟨w0.heap.size, 0, none⟩) 1 1) (hn : n ≤ 4000000000) (hbase : base ≤ w0.heap.size)
    (h : ∀ sa' cap' w', w'.ownsRow base 5 1 (.slice sa' (n + 1) cap') (n + 1) (xs ++ [.int .u8 v]) → Keeps (fun k => sa = some ⟨k, 0, none⟩) w0 w' → K (a.put o.dst (.slice sa' (n + 1) cap')) w') :
    o.wp Try.prog a (w0.alloc (.cells #[.int .u8 v] 5)) K Q := by
  obtain ⟨i0, hi, hz0, hz1, hz2⟩ := info_parts infoByte
  refine wp_app _ s x 23 ho base 5 i0 (.int .u8 0) 1 1 Try.underlying23 hi hz0 hz1 hz2 rfl (by decide) (.slice sa n c) n xs hs (hown.alloc _) (some ⟨w0.heap.size, 0, none⟩) 1 1 [.int .u8 v] hx rfl (fun h => by cases h) (news_one w0 (.int .u8 v) 5 (0, 0)) (by simp [Value.oneCell']) (by unfold maxLen; omega) (by omega) (by simp; omega) ?_
  intro sa' cap' w' hown' hg _ _
  exact h sa' cap' w' hown' (keeps_app hown hg)

theorem kcell {w w' : World} {F : Nat → Prop} (hk : Keeps F w w') {p : Addr} {v : Value} (h : w.cell? p = some v) (hn : ¬ F p.block := by exact fun h => h) : w'.cell? p = some v := by
  rw [hk.cell (World.block_lt_of_cell? _ _ h) hn]; exact h
def XrRel (w : World) (n : Nat) (l : List UInt8) (out i : Value) (wr : World) : Prop :=
  ∃ k : Nat, k ≤ n ∧ i = .int .i64 (k : Int) ∧ ∃ sa cap, out = .slice sa k cap ∧ wr.ownsRow w.heap.size 5 1 (.slice sa k cap) k (BV (l.take k)) ∧ Keeps (fun _ => False) w wr

set_option maxHeartbeats 2000000 in
set_option maxRecDepth 10000 in
theorem refXor_any (key : Nat) (sb : Option Addr) (n cap : Nat) (l : List UInt8) (w : World) (hk : U64 key) (hl : Sl w sb n cap (BV l)) (hn : n ≤ 1000000) :
    Calls Try.prog 21 #[.int .u64 key, .slice sb n cap] w fun e w' => ∃ sa' cap', e = .returned (.slice sa' n cap') ∧ w'.ownsRow w.heap.size 5 1 (.slice sa' n cap') n (BV (xorS key l)) ∧ Keeps (fun _ => False) w w' := by
  have hll : l.length = n := by have := hl.len; simpa using this
  have Sx := Lib.hid hl
  have HT := Lib.hid (refSecret_any ⟨#[115, 101, 97, 108]⟩ (some ⟨w.heap.size, 0, none⟩) 1 1 [key] (w.alloc (.cells #[.int .u64 (key : Int)] 22)) (by decide) (by omega) (lies_one w key (0, 0)) (by simpa using hk))
  have HL := Lib.hid hll
  clear hl hk hll
  go_enter Try.func21, Try.ntmps21
  go_wp2_with fail
  refine HT.out.mono ?_
  rintro e w1 ⟨rfl, hk⟩
  have HK : Hid (Keeps (fun _ => False) w w1) := ((Keeps.refl _ w).alloc _).quiet hk
  replace Sx := Lib.hid (Sx.out.quiet HK.out)
  have hp := hsec_pos sSeal [key]
  rw [show hsec (⟨#[115, 101, 97, 108]⟩ : ByteArray).data.toList [key] = padKey key from rfl]
  rw [show hsec sSeal [key] = padKey key from rfl] at hp
  clear hk HT
  go_wp2_with fail
  refine (refStream_any (padKey key) n w1 (by unfold U64; omega) hn).mono ?_
  rintro e w2 ⟨ss, cs, rfl, hown, hk⟩
  have Ss := Lib.hid (Sl.of_own hown)
  replace HK := Lib.hid (HK.out.quiet hk)
  replace Sx := Lib.hid (Sx.out.quiet hk)
  clear hown hk
  go_wp2_with fail
  go_loopw [6, 7] (fun out i wr => XrRel w2 n (xorS key l) out i wr) (fun _ i _ => n - (intOf i).toNat)
  case atStart => exact ⟨0, Nat.zero_le _, rfl, none, 0, rfl, World.ownsRow_nil _ _ _ _, Keeps.refl _ _⟩
  case round =>
    obtain ⟨k, hk, rfl, sa, co, rfl, hown, hkp⟩ := hrel
    by_cases hlt : k < n
    · obtain ⟨x, hx⟩ : ∃ x, l[k]? = some x := ⟨_, List.getElem?_eq_getElem (by rw [HL.out]; exact hlt)⟩
      have hy : (stream (padKey key) n)[k]? = some (streamByte (padKey key) k) := by simp [stream, hlt]
      have hz : (xorS key l)[k]? = some (x ^^^ streamByte (padKey key) k) := by rw [xorS_get, hx]; rfl
      have ex := xor_u8 x (streamByte (padKey key) k)
      generalize streamByte (padKey key) k = y at *
      generalize x ^^^ y = z at *
      obtain ⟨bb, ob, rfl⟩ := Sx.out.isSome (by omega)
      obtain ⟨bs, os, rfl⟩ := Ss.out.isSome (by omega)
      have c1 : wr.cell? ⟨bb, ob + k, none⟩ = some (.int .u8 (x.toNat : Int)) := (Sx.out.quiet hkp).cell (by rw [BV_get, hx]; rfl)
      have c2 : wr.cell? ⟨bs, os + k, none⟩ = some (.int .u8 (y.toNat : Int)) := (Ss.out.quiet hkp).cell (by rw [BV_get, hy]; rfl)
      have hb1 : bb < w2.heap.size := blk_lt Sx.out rfl (by omega)
      have hb2 : bs < w2.heap.size := blk_lt Ss.out rfl (by omega)
      have HO := Lib.hid hown
      have HR := Lib.hid hkp
      have HZ := Lib.hid hz
      have t0 : (0 : Int) ≤ (k : Int) := by omega
      have t1 : (k : Int) < (n : Int) := by omega
      clear hown hkp hx hy hz
      go_wp2_with fail
      refine z_begin (fun w' => w'.cell? ⟨bb, ob + k, none⟩ = some (.int .u8 (x.toNat : Int)) ∧ w'.cell? ⟨bs, os + k, none⟩ = some (.int .u8 (y.toNat : Int))) 13 (by kernel_rfl) ⟨c1, c2⟩ (fun hHeld => ?_)
      have hd : Keeps (fun _ => False) wr wr.drew := (Keeps.refl _ _).drew
      replace HO := Lib.hid (own_keep HO.out hd (fun _ _ h => h))
      replace HR := Lib.hid (HR.out.quiet hd)
      clear c1 c2 hd
      generalize wr.drew = v1 at *
      refine z_take 0 (v := ?_) rfl (by kernel_rfl) (by kernel_rfl) (by kernel_rfl) (by kernel_rfl) (fun _ _ _ h => h) hHeld (by rfl) (fun w hSw => ?_) ?_
      rotate_left
      · obtain ⟨hSw1, hSw2⟩ := hSw; simp only [List.getElem_toArray, List.getElem_cons_zero]; go_simp; try rfl
      simp only [Act.put, List.getElem_toArray, List.getElem_cons_zero, List.setIfInBounds_toArray, List.set_cons_zero, List.set_cons_succ]
      refine z_take 1 (v := ?_) rfl (by kernel_rfl) (by kernel_rfl) (by kernel_rfl) (by kernel_rfl) (fun _ _ _ h => h) hHeld (by rfl) (fun w hSw => ?_) ?_
      rotate_left
      · obtain ⟨hSw1, hSw2⟩ := hSw; simp only [List.getElem_toArray, List.getElem_cons_zero, List.getElem_cons_succ]; go_simp; try rfl
      simp only [Act.put, List.getElem_toArray, List.getElem_cons_zero, List.getElem_cons_succ, List.setIfInBounds_toArray, List.set_cons_zero, List.set_cons_succ]
      refine z_take 2 (v := ?_) rfl (by kernel_rfl) (by kernel_rfl) (by kernel_rfl) (by kernel_rfl) (fun _ _ _ h => h) hHeld (by rfl) (fun w hSw => ?_) ?_
      rotate_left
      · obtain ⟨hSw1, hSw2⟩ := hSw; simp only [List.getElem_toArray, List.getElem_cons_zero, List.getElem_cons_succ]; go_simp; try rfl
      simp only [Act.put, List.getElem_toArray, List.getElem_cons_zero, List.getElem_cons_succ, List.setIfInBounds_toArray, List.set_cons_zero, List.set_cons_succ]
      refine z_take 3 (v := ?_) rfl (by kernel_rfl) (by kernel_rfl) (by kernel_rfl) (by kernel_rfl) (fun _ _ _ h => h) hHeld (by rfl) (fun w hSw => ?_) ?_
      rotate_left
      · obtain ⟨hSw1, hSw2⟩ := hSw; simp only [List.getElem_toArray, List.getElem_cons_zero, List.getElem_cons_succ]; go_simp; try rfl
      simp only [Act.put, List.getElem_toArray, List.getElem_cons_zero, List.getElem_cons_succ, List.setIfInBounds_toArray, List.set_cons_zero, List.set_cons_succ]
      refine z_take 4 (v := ?_) rfl (by kernel_rfl) (by kernel_rfl) (by kernel_rfl) (by kernel_rfl) (fun _ _ _ h => h) hHeld (by rfl) (fun w hSw => ?_) ?_
      rotate_left
      · obtain ⟨hSw1, hSw2⟩ := hSw; simp only [List.getElem_toArray, List.getElem_cons_zero, List.getElem_cons_succ]; go_simp; try rfl
      simp only [Act.put, List.getElem_toArray, List.getElem_cons_zero, List.getElem_cons_succ, List.setIfInBounds_toArray, List.set_cons_zero, List.set_cons_succ]
      refine z_take 5 (v := ?_) rfl (by kernel_rfl) (by kernel_rfl) (by kernel_rfl) (by kernel_rfl) (fun _ _ _ h => h) hHeld (by rfl) (fun w hSw => ?_) ?_
      rotate_left
      · obtain ⟨hSw1, hSw2⟩ := hSw; simp only [List.getElem_toArray, List.getElem_cons_zero, List.getElem_cons_succ]; go_simp; try rfl
      simp only [Act.put, List.getElem_toArray, List.getElem_cons_zero, List.getElem_cons_succ, List.setIfInBounds_toArray, List.set_cons_zero, List.set_cons_succ]
      refine z_take 6 (v := ?_) rfl (by kernel_rfl) (by kernel_rfl) (by kernel_rfl) (by kernel_rfl) (fun _ _ _ h => h) hHeld (by rfl) (fun w hSw => ?_) ?_
      rotate_left
      · obtain ⟨hSw1, hSw2⟩ := hSw; simp only [List.getElem_toArray, List.getElem_cons_zero, List.getElem_cons_succ]; go_simp; try rfl
      simp only [Act.put, List.getElem_toArray, List.getElem_cons_zero, List.getElem_cons_succ, List.setIfInBounds_toArray, List.set_cons_zero, List.set_cons_succ]
      refine z_take 7 (v := ?_) rfl (by kernel_rfl) (by kernel_rfl) (by kernel_rfl) (by kernel_rfl) (fun _ _ _ h => h) hHeld (by rfl) (fun w hSw => ?_) ?_
      rotate_left
      · obtain ⟨hSw1, hSw2⟩ := hSw; simp only [List.getElem_toArray, List.getElem_cons_zero, List.getElem_cons_succ]; go_simp; try rfl
      simp only [Act.put, List.getElem_toArray, List.getElem_cons_zero, List.getElem_cons_succ, List.setIfInBounds_toArray, List.set_cons_zero, List.set_cons_succ]
      refine z_take 8 (v := ?_) rfl (by kernel_rfl) (by kernel_rfl) (by kernel_rfl) (by kernel_rfl) (fun _ _ _ h => h) hHeld (by rfl) (fun w hSw => ?_) ?_
      rotate_left
      · obtain ⟨hSw1, hSw2⟩ := hSw; simp only [List.getElem_toArray, List.getElem_cons_zero, List.getElem_cons_succ]; go_simp; try rfl
      simp only [Act.put, List.getElem_toArray, List.getElem_cons_zero, List.getElem_cons_succ, List.setIfInBounds_toArray, List.set_cons_zero, List.set_cons_succ]
      refine z_take 9 (v := ?_) rfl (by kernel_rfl) (by kernel_rfl) (by kernel_rfl) (by kernel_rfl) (fun _ _ _ h => h) hHeld (by rfl) (fun w hSw => ?_) ?_
      rotate_left
      · obtain ⟨hSw1, hSw2⟩ := hSw; simp only [List.getElem_toArray, List.getElem_cons_zero, List.getElem_cons_succ]; go_simp; try rfl
      simp only [Act.put, List.getElem_toArray, List.getElem_cons_zero, List.getElem_cons_succ, List.setIfInBounds_toArray, List.set_cons_zero, List.set_cons_succ]
      refine z_one 10 rfl (by kernel_rfl) (by rfl) (fun K hK => ?_)
      simp only [List.getElem_toArray, List.getElem_cons_zero, List.getElem_cons_succ]
      go_simp
      have hH1 := hHeld.1
      have hH2 := hHeld.2
      have hk1 : Keeps (fun _ => False) v1 (v1.alloc (.cells #[.int .u8 (z.toNat : Int)] 5)) := (Keeps.refl _ v1).alloc _
      refine hK _ _ (Or.inr ?_) (fun hHeld => ?_)
      · exact ⟨kcell hk1 hHeld.1, kcell hk1 hHeld.2⟩
      clear hK K
      replace hHeld := hHeld.resolve_left (by decide)
      clear hk1
      try simp only [Act.put, List.setIfInBounds_toArray, List.set_cons_zero, List.set_cons_succ]
      refine z_one 11 rfl (by kernel_rfl) (by rfl) (fun K hK => ?_)
      simp only [List.getElem_toArray, List.getElem_cons_zero, List.getElem_cons_succ]
      refine wp_pushB v1 (z.toNat : Int) _ _ rfl w2.heap.size sa k co (BV ((xorS key l).take k)) rfl HO.out rfl (by omega) HR.out.size ?_
      intro sa2 co2 v2 hown2 hk2
      have HN : Hid (v2.ownsRow w2.heap.size 5 1 (.slice sa2 (k + 1) co2) (k + 1) (BV ((xorS key l).take (k + 1))) ∧ Keeps (fun _ => False) w2 v2) := by
        refine ⟨?_, HR.out.pushed HO.out (Nat.le_refl _) hk2⟩
        rw [List.take_add_one, HZ.out, BV_append]
        exact hown2
      refine hK _ _ (Or.inr ?_) (fun hHeld => ?_)
      · exact ⟨kcell hk2 hH1 (fun e => by have := (own_lt HO.out e).1; simp only at this; omega), kcell hk2 hH2 (fun e => by have := (own_lt HO.out e).1; simp only at this; omega)⟩
      clear hK K hown2 hk2 hH1 hH2
      replace hHeld := hHeld.resolve_left (by decide)
      try simp only [Act.put, List.setIfInBounds_toArray, List.set_cons_zero, List.set_cons_succ]
      refine z_one 12 rfl (by kernel_rfl) (by rfl) (fun K hK => ?_)
      simp only [List.getElem_toArray, List.getElem_cons_zero, List.getElem_cons_succ]
      go_simp
      refine hK _ _ (Or.inr ?_) (fun hHeld => ?_)
      · exact hHeld
      clear hK K
      replace hHeld := hHeld.resolve_left (by decide)
      try simp only [Act.put, List.setIfInBounds_toArray, List.set_cons_zero, List.set_cons_succ]
      refine z_done (by kernel_rfl) ?_ _
      clear hHeld
      go_wp2
      go_roundw
      case rel => exact ⟨k + 1, by omega, rfl, sa2, co2, rfl, HN.out.1, HN.out.2⟩
      case measure => simp [intOf]; omega
    · obtain rfl : k = n := by omega
      have t1 : ¬ (k : Int) < (k : Int) := by omega
      have HF : Hid (wr.ownsRow w.heap.size 5 1 (.slice sa k co) k (BV (xorS key l)) ∧ Keeps (fun _ => False) w wr) := by
        refine ⟨?_, HK.out.quiet hkp⟩
        have h1 := own_base (base' := w.heap.size) hown (fun j e => Nat.le_trans HK.out.size (hown.lt j e).1)
        rwa [List.take_of_length_le (by rw [xorS_length, HL.out]; omega)] at h1
      clear hown hkp
      go_wp2
      go_ret
      exact ⟨sa, co, rfl, HF.out.1, HF.out.2⟩

def TgRel (w : World) (X : Nat) (out x i : Value) (wr : World) : Prop :=
  ∃ q : Nat, q ≤ 8 ∧ i = .int .i64 (q : Int) ∧ x = .int .u64 ((X / 256 ^ q : Nat) : Int) ∧ ∃ sa cap, out = .slice sa q cap ∧ wr.ownsRow w.heap.size 5 1 (.slice sa q cap) q (BV ((tagB X).take q)) ∧ Keeps (fun _ => False) w wr

set_option maxHeartbeats 2000000 in
set_option maxRecDepth 10000 in
theorem refTag_any (key : Nat) (sa : Option Addr) (n cap : Nat) (l : List UInt8) (sb : Option Addr) (m cb : Nat) (lb : List UInt8) (w : World) (hk : U64 key) (hl : Sl w sa n cap (BV l)) (hn : n ≤ 1000000) (hlb : Sl w sb m cb (BV lb)) (hm : m ≤ 1000000) :
    Calls Try.prog 22 #[.int .u64 key, .slice sa n cap, .slice sb m cb] w fun e w' => ∃ so co, e = .returned (.slice so 8 co) ∧ w'.ownsRow w.heap.size 5 1 (.slice so 8 co) 8 (BV (tagB (tagN key l lb))) ∧ Keeps (fun _ => False) w w' := by
  have Sx := Lib.hid hl
  have Sy := Lib.hid hlb
  have HU := Lib.hid hk
  clear hl hlb hk
  have ha := hby_lt sAlong l
  have ht := hby_lt sText lb
  obtain ⟨A, hA⟩ : ∃ A, hby sAlong l = A := ⟨_, rfl⟩
  obtain ⟨B, hB⟩ : ∃ B, hby sText lb = B := ⟨_, rfl⟩
  obtain ⟨X, hX⟩ : ∃ X, tagN key l lb = X := ⟨_, rfl⟩
  have hXl := tagN_lt key l lb
  rw [hX] at hXl ⊢
  rw [hA] at ha
  rw [hB] at ht
  have HE : Hid (hby sText lb = B ∧ hof sMac [key, A, B] = X ∧ hby sAlong l = A) := ⟨hB, by rw [← hX, ← hA, ← hB]; rfl, hA⟩
  clear hA hB hX
  go_enter Try.func22, Try.ntmps22
  go_wp2_with fail
  refine (refBytes_any ⟨#[97, 108, 111, 110, 103]⟩ sa n cap l w (by decide) (by omega) Sx.out).mono ?_
  rintro e w1 ⟨rfl, hk⟩
  have HK : Hid (Keeps (fun _ => False) w w1) := hk
  replace Sy := Lib.hid (Sy.out.quiet hk)
  rw [show hby (⟨#[97, 108, 111, 110, 103]⟩ : ByteArray).data.toList l = A from HE.out.2.2]
  clear hk
  go_wp2_with fail
  refine (refBytes_any ⟨#[116, 101, 120, 116]⟩ sb m cb lb w1 (by decide) (by omega) Sy.out).mono ?_
  rintro e w2 ⟨rfl, hk⟩
  replace HK := Lib.hid (HK.out.quiet hk)
  rw [show hby (⟨#[116, 101, 120, 116]⟩ : ByteArray).data.toList lb = B from HE.out.1]
  clear hk
  go_wp2_with fail
  refine (refOf_three ⟨#[109, 97, 99]⟩ key A B w2 (by decide) HU.out (by unfold U64; omega) (by unfold U64; omega)).mono ?_
  rintro e w3 ⟨rfl, hk⟩
  replace HK := Lib.hid (HK.out.quiet hk)
  rw [show hof (⟨#[109, 97, 99]⟩ : ByteArray).data.toList [key, A, B] = X from HE.out.2.1]
  clear hk
  go_wp2_with fail
  go_loopw [8, 7, 9] (fun out x i wr => TgRel w3 X out x i wr) (fun _ _ i _ => 8 - (intOf i).toNat)
  case atStart => exact ⟨0, by omega, rfl, by simp, none, 0, rfl, World.ownsRow_nil _ _ _ _, Keeps.refl _ _⟩
  case round =>
    obtain ⟨q, hq, rfl, rfl, so, co, rfl, hown, hkp⟩ := hrel
    by_cases hlt : q < 8
    · have t1 : (q : Int) < 8 := by omega
      have hg := tagB_get X q hlt
      obtain ⟨x, hx⟩ : ∃ x, X / 256 ^ q = x := ⟨_, rfl⟩
      have hx1 : X / 256 ^ (q + 1) = x / 256 := by rw [← hx, Nat.pow_succ, Nat.div_div_eq_div_mul]
      have hxl : x < 2305843009213693951 := by rw [← hx]; exact Nat.lt_of_le_of_lt (Nat.div_le_self _ _) hXl
      rw [hx] at hg ⊢
      have e1 : (x : Int) % 256 = ((UInt8.ofNat x).toNat : Int) := by rw [UInt8.toNat_ofNat']; omega
      generalize UInt8.ofNat x = y at *
      have hyl := y.toNat_lt
      have e3 : IntKind.u8.wrap (y.toNat : Int) = (y.toNat : Int) := by rw [IntKind.wrap_u8]; omega
      obtain ⟨xd, hxd⟩ : ∃ xd, x / 256 = xd := ⟨_, rfl⟩
      have e4 : (x : Int) / 256 = (xd : Int) := by omega
      have HO := Lib.hid hown
      have HR := Lib.hid hkp
      have HX := Lib.hid (And.intro hg (And.intro hx1 hxd))
      have hsz := hkp.size
      clear hown hkp hg hx1 hx hxd
      go_wp2_with (at_builtin; refine wpList_pushB _ (y.toNat : Int) rfl _ _ rfl w3.heap.size so q co (BV ((tagB X).take q)) rfl HO.out rfl (by omega) hsz ?_; intro so2 co2 v2 hown2 hk2 hs2; have HN := Lib.hid (And.intro hown2 hk2); clear hown2 hk2)
      go_roundw
      case rel =>
        refine ⟨q + 1, by omega, by go_num, by rw [HX.out.2.1, HX.out.2.2], so2, co2, rfl, ?_, HR.out.pushed HO.out (Nat.le_refl _) HN.out.2⟩
        rw [List.take_add_one, HX.out.1, BV_append]
        exact HN.out.1
      case measure => simp [intOf]; omega
    · obtain rfl : q = 8 := by omega
      have HF : Hid (wr.ownsRow w.heap.size 5 1 (.slice so 8 co) 8 (BV (tagB X)) ∧ Keeps (fun _ => False) w wr) := by
        refine ⟨?_, HK.out.quiet hkp⟩
        have h1 := own_base (base' := w.heap.size) hown (fun j e => Nat.le_trans HK.out.size (hown.lt j e).1)
        rwa [List.take_of_length_le (by rw [tagB_length]; omega)] at h1
      clear hown hkp
      go_wp2
      go_ret
      exact ⟨so, co, rfl, HF.out.1, HF.out.2⟩
end Go.Proofs.Ytnnhndnckpnkmaa
