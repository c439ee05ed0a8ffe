/-
  The law's own does: one act on a disk. Conditions: a disk that has not crashed, of up to 65536 bytes, at most a million loose bytes.
-/
import Derived.Test.YtllfiplhfbbhaaaActs
import Derived.Test.YtllfiplhfbbhaaaDiskOpen
namespace Go.Proofs.Ytllfiplhfbbhaaa
open Go.RowKit

/-- What an act makes of a disk, and what it tells. -/
def DS.act (D : DS) (a : PAct) : DS × Int :=
  if a.doo = 4 then (D, if inB a.at_ a.n D.now.length then 0 else 8)
  else if a.doo = 5 then (D.sync, 0)
  else if a.doo = 6 then ((D.crash a.n).opened, 0)
  else if inB a.at_ a.b.length D.now.length then (D.write a.at_.toNat a.b, 0) else (D, 8)

/-- A disk that may be acted on. -/
structure DS.Ok (D : DS) (n L : Nat) : Prop where
  up : D.cr = false
  len : D.now.length = n
  sure : D.sure.length = n
  lo : D.lo.length ≤ L
  at_ : ∀ x ∈ D.lo, x.1 < n

/-- What does leaves. -/
def DoesPost (w : World) (D : DS) (F : Nat → Prop) (a : PAct) (e : Ending) (w' : World) : Prop :=
  ∃ q F', e = .returned (.tuple #[.pointer (some ⟨q, 0, none⟩), .int .i64 (D.act a).2]) ∧ Disk w' q (D.act a).1 F' ∧ Keeps F w w' ∧ (∀ k, F' k → F k ∨ w.heap.size ≤ k)

theorem inB_nat {at_ : Int} {n len : Nat} (h : inB at_ n len = true) : ∃ k : Nat, at_ = k ∧ k + n ≤ len := by
  unfold inB at h
  simp at h
  exact ⟨at_.toNat, by omega, by omega⟩

set_option maxHeartbeats 1000000 in
theorem does_read (p : Nat) (D : DS) (F : Nat → Prop) (n L : Nat) (at_ : Int) (b : List UInt8) (m : Nat) (sa : Option Addr) (cap : Nat) (w : World) (h : Disk w p D F) (hok : D.Ok n L) (hn : n ≤ 65536) :
    Calls Try.prog 19 #[.pointer (some ⟨p, 0, none⟩), .agg #[.int .i64 4, .int .i64 at_, .slice sa b.length cap, .int .i64 m]] w (DoesPost w D F ⟨4, at_, b, m⟩) := by
  obtain ⟨lb, hlb⟩ : ∃ lb, b.length = lb := ⟨_, rfl⟩
  rw [hlb]
  have HX : Hid (∀ X : Obj, Disk (w.alloc X) p D F) := fun X => h.keep ((Keeps.refl (fun _ => False) w).alloc X) (fun _ _ h => h)
  have H := Lib.hid (And.intro h (And.intro hok hlb))
  have hlen := hok.len
  cases hi : inB at_ m D.now.length with
  | true =>
    obtain ⟨k, rfl, hk⟩ := inB_nat hi
    have hact : D.act ⟨4, k, b, m⟩ = (D, 0) := by simp [DS.act, hi]
    have HA := Lib.hid hact
    have HK := Lib.hid hk
    have HL := Lib.hid hlen
    clear h hok hlb hi hact hk hlen
    go_enter Try.func19, Try.ntmps19
    go_wp2_with fail
    refine (read_ok p k m D F _ (HX.out _) H.out.2.1.up HK.out (by rw [HL.out]; exact hn)).mono ?_
    rintro e w' ⟨g, cap', rfl, hown, hkp⟩
    have HR := Lib.hid (And.intro hown hkp)
    clear hown hkp
    go_wp2
    go_ret2
    refine ⟨p, F, by rw [HA.out]; rfl, ?_, ?_, fun k hk => Or.inl hk⟩
    · rw [HA.out]; exact (HX.out _).keep HR.out.2 (fun _ _ h => h)
    · exact ((Keeps.refl _ w).alloc _).trans HR.out.2 (fun _ _ h => h.elim)
  | false =>
    have hact : D.act ⟨4, at_, b, m⟩ = (D, 8) := by simp [DS.act, hi]
    have HA := Lib.hid hact
    have HL := Lib.hid (And.intro hlen hi)
    clear h hok hlb hi hact hlen
    go_enter Try.func19, Try.ntmps19
    go_wp2_with fail
    refine (read_no p at_ m D F _ (HX.out _) H.out.2.1.up HL.out.2 (by rw [HL.out.1]; exact hn)).mono ?_
    rintro e w' ⟨rfl, hkp⟩
    have HR := Lib.hid hkp
    clear hkp
    go_wp2
    go_ret2
    refine ⟨p, F, by rw [HA.out]; rfl, ?_, ?_, fun k hk => Or.inl hk⟩
    · rw [HA.out]; exact (HX.out _).keep HR.out (fun _ _ h => h)
    · exact ((Keeps.refl _ w).alloc _).trans HR.out (fun _ _ h => h.elim)

set_option maxHeartbeats 1000000 in
theorem does_sync (p : Nat) (D : DS) (F : Nat → Prop) (n L : Nat) (at_ : Int) (b : List UInt8) (m : Nat) (sa : Option Addr) (cap : Nat) (w : World) (h : Disk w p D F) (hok : D.Ok n L) :
    Calls Try.prog 19 #[.pointer (some ⟨p, 0, none⟩), .agg #[.int .i64 5, .int .i64 at_, .slice sa b.length cap, .int .i64 m]] w (DoesPost w D F ⟨5, at_, b, m⟩) := by
  obtain ⟨lb, hlb⟩ : ∃ lb, b.length = lb := ⟨_, rfl⟩
  rw [hlb]
  have HX : Hid (∀ X : Obj, Disk (w.alloc X) p D F) := fun X => h.keep ((Keeps.refl (fun _ => False) w).alloc X) (fun _ _ h => h)
  have H := Lib.hid (And.intro h (And.intro hok hlb))
  have hact : D.act ⟨5, at_, b, m⟩ = (D.sync, 0) := by simp [DS.act]
  have HA := Lib.hid hact
  clear h hok hlb hact
  go_enter Try.func19, Try.ntmps19
  go_wp2_with fail
  refine (sync_ok p D F _ (HX.out _) H.out.2.1.up).mono ?_
  rintro e w' ⟨rfl, F', hd, hkp, hf⟩
  have HR := Lib.hid (And.intro hd (And.intro hkp hf))
  clear hd hkp hf
  go_wp2
  go_ret2
  refine ⟨p, F', by rw [HA.out]; rfl, by rw [HA.out]; exact HR.out.1, ((Keeps.refl _ w).alloc _).trans HR.out.2.1 (fun _ _ h => h), fun k hk => ?_⟩
  rcases HR.out.2.2 k hk with h | h
  · exact Or.inl h
  · right; simp at h; omega

theorem left_len' (D : DS) (k : Nat) (n L : Nat) (h : D.Ok n L) : (D.left k).length = n := by rw [left_len, h.sure]

set_option maxHeartbeats 1000000 in
theorem does_crash (p : Nat) (D : DS) (F : Nat → Prop) (n L : Nat) (at_ : Int) (b : List UInt8) (m : Nat) (sa : Option Addr) (cap : Nat) (w : World) (h : Disk w p D F) (hok : D.Ok n L) (hn : n ≤ 65536) (hL : L ≤ 1000000) :
    Calls Try.prog 19 #[.pointer (some ⟨p, 0, none⟩), .agg #[.int .i64 6, .int .i64 at_, .slice sa b.length cap, .int .i64 m]] w (DoesPost w D F ⟨6, at_, b, m⟩) := by
  obtain ⟨lb, hlb⟩ : ∃ lb, b.length = lb := ⟨_, rfl⟩
  rw [hlb]
  have HX : Hid (∀ X : Obj, Disk (w.alloc X) p D F) := fun X => h.keep ((Keeps.refl (fun _ => False) w).alloc X) (fun _ _ h => h)
  have H := Lib.hid (And.intro h (And.intro hok hlb))
  have hact : D.act ⟨6, at_, b, m⟩ = ((D.crash m).opened, 0) := by simp [DS.act]
  have HA := Lib.hid hact
  clear h hok hlb hact
  go_enter Try.func19, Try.ntmps19
  go_wp2_with fail
  refine (crash_ok p m D F _ (HX.out _) H.out.2.1.up (by have := H.out.2.1.lo; omega) (by rw [H.out.2.1.len]; exact H.out.2.1.at_)).mono ?_
  rintro e w1 ⟨rfl, F', hd, hkp, hf⟩
  have HR := Lib.hid (And.intro hd (And.intro hkp hf))
  clear hd hkp hf
  go_wp2_with fail
  refine (open_ok p (D.crash m) F' _ HR.out.1 rfl (by show (D.left _).length ≤ _; rw [left_len' D _ n L H.out.2.1]; exact hn)).mono ?_
  rintro e w2 ⟨q, F2, rfl, hd2, hkp2, hf2⟩
  have HR2 := Lib.hid (And.intro hd2 (And.intro hkp2 hf2))
  clear hd2 hkp2 hf2
  go_wp2
  go_ret2
  refine ⟨q, F2, by rw [HA.out]; rfl, by rw [HA.out]; exact HR2.out.1, (((Keeps.refl _ w).alloc _).trans HR.out.2.1 (fun _ _ h => h)).trans HR2.out.2.1 (fun _ _ h => h.elim), fun k hk => ?_⟩
  right
  have h1 := HR2.out.2.2 k hk
  have h2 := HR.out.2.1.size
  simp at h2
  omega

set_option maxHeartbeats 1000000 in
theorem does_write (p : Nat) (D : DS) (F : Nat → Prop) (n L : Nat) (d at_ : Int) (b : List UInt8) (m : Nat) (sa : Option Addr) (cap : Nat) (w : World) (h : Disk w p D F) (hok : D.Ok n L) (hn : n ≤ 65536) (hL : L ≤ 1000000)
    (h4 : d ≠ 4) (h5 : d ≠ 5) (h6 : d ≠ 6) (hrow : w.ownsRow 0 5 1 (.slice sa b.length cap) b.length (BV b)) (hF : ∀ k, sa = some ⟨k, 0, none⟩ → ¬ F k) :
    Calls Try.prog 19 #[.pointer (some ⟨p, 0, none⟩), .agg #[.int .i64 d, .int .i64 at_, .slice sa b.length cap, .int .i64 m]] w (DoesPost w D F ⟨d, at_, b, m⟩) := by
  have t4 : (d == 4) = false := by simp [h4]
  have t5 : (d == 5) = false := by simp [h5]
  have t6 : (d == 6) = false := by simp [h6]
  have HX : Hid (∀ X : Obj, Disk (w.alloc X) p D F) := fun X => h.keep ((Keeps.refl (fun _ => False) w).alloc X) (fun _ _ h => h)
  obtain ⟨sb, hsb, hsrc, hFb⟩ : ∃ sb, (0 < b.length → sa = some ⟨sb, 0, none⟩) ∧ (∀ j c, b[j]? = some c → w.cell? ⟨sb, 0 + j, none⟩ = some (.int .u8 c.toNat)) ∧ (0 < b.length → ¬ F sb) := by
    rcases own_addr hrow with ⟨_, h0, _⟩ | ⟨g, rfl⟩
    · exact ⟨0, fun h => by omega, fun j c hc => by have := (List.getElem?_eq_some_iff.1 hc).1; omega, fun h => by omega⟩
    · exact ⟨g, fun _ => rfl, fun j c hc => by rw [Nat.zero_add]; exact own_cell hrow j _ (by rw [BV_get, hc]; rfl), fun _ => hF g rfl⟩
  have HS : Hid (∀ (X : Obj) (j : Nat) (c : UInt8), b[j]? = some c → (w.alloc X).cell? ⟨sb, 0 + j, none⟩ = some (.int .u8 c.toNat)) := fun X j c hc =>
    (((Keeps.refl (fun _ => False) w).alloc X).cell (World.block_lt_of_cell? w _ (hsrc j c hc)) (fun h => h)).trans (hsrc j c hc)
  obtain ⟨lb, hlb⟩ : ∃ lb, b.length = lb := ⟨_, rfl⟩
  rw [hlb] at hsb hFb ⊢
  have H := Lib.hid (And.intro h (And.intro hok (And.intro hlb (And.intro hsb hFb))))
  have hlen := hok.len
  cases hi : inB at_ lb D.now.length with
  | true =>
    obtain ⟨k, rfl, hk⟩ := inB_nat hi
    have hact : D.act ⟨d, k, b, m⟩ = (D.write k b, 0) := by simp [DS.act, hi, h4, h5, h6, hlb]
    have HA := Lib.hid hact
    have HK := Lib.hid hk
    have HL := Lib.hid hlen
    clear h hok hlb hi hact hk hlen hsb hFb hsrc hF hrow h4 h5 h6
    go_enter Try.func19, Try.ntmps19
    go_wp2_with fail
    obtain ⟨_, o1, o2, o3, o4⟩ := H.out
    refine (write_ok p k b lb sa sb 0 cap D F _ (HX.out _) o1.up o2 o3 (HS.out _) o4 HK.out (by rw [HL.out]; exact hn) (by have := o1.lo; omega)).mono ?_
    clear o1 o2 o3 o4
    rintro e w' ⟨rfl, F', hd, hkp, hf⟩
    have HR := Lib.hid (And.intro hd (And.intro hkp hf))
    clear hd hkp hf
    go_wp2
    go_ret2
    refine ⟨p, F', by rw [HA.out]; rfl, by rw [HA.out]; exact HR.out.1, ((Keeps.refl _ w).alloc _).trans HR.out.2.1 (fun _ _ h => h), fun k hk => ?_⟩
    rcases HR.out.2.2 k hk with h | h
    · exact Or.inl h
    · right; simp at h; omega
  | false =>
    have hact : D.act ⟨d, at_, b, m⟩ = (D, 8) := by simp [DS.act, hi, h4, h5, h6, hlb]
    have HA := Lib.hid hact
    have HL := Lib.hid (And.intro hlen hi)
    clear h hok hlb hi hact hlen hsb hFb hsrc hF hrow h4 h5 h6
    go_enter Try.func19, Try.ntmps19
    go_wp2_with fail
    refine (write_no p at_ lb sa cap D F _ (HX.out _) H.out.2.1.up (by rw [HL.out.1]; exact hn) HL.out.2).mono ?_
    rintro e w' ⟨rfl, hkp⟩
    have HR := Lib.hid hkp
    clear hkp
    go_wp2
    go_ret2
    refine ⟨p, F, by rw [HA.out]; rfl, ?_, ?_, fun k hk => Or.inl hk⟩
    · rw [HA.out]; exact (HX.out _).keep HR.out (fun _ _ h => h)
    · exact ((Keeps.refl _ w).alloc _).trans HR.out (fun _ _ h => h.elim)

/-- One act, whichever. -/
theorem does_any (p : Nat) (D : DS) (F : Nat → Prop) (n L : Nat) (a : PAct) (sa : Option Addr) (cap : Nat) (w : World) (h : Disk w p D F) (hok : D.Ok n L) (hn : n ≤ 65536) (hL : L ≤ 1000000)
    (hrow : w.ownsRow 0 5 1 (.slice sa a.b.length cap) a.b.length (BV a.b)) (hF : ∀ k, sa = some ⟨k, 0, none⟩ → ¬ F k) :
    Calls Try.prog 19 #[.pointer (some ⟨p, 0, none⟩), .agg #[.int .i64 a.doo, .int .i64 a.at_, .slice sa a.b.length cap, .int .i64 a.n]] w (DoesPost w D F a) := by
  obtain ⟨d, at_, b, m⟩ := a
  by_cases h4 : d = 4
  · subst h4; exact does_read p D F n L at_ b m sa cap w h hok hn
  by_cases h5 : d = 5
  · subst h5; exact does_sync p D F n L at_ b m sa cap w h hok
  by_cases h6 : d = 6
  · subst h6; exact does_crash p D F n L at_ b m sa cap w h hok hn hL
  exact does_write p D F n L d at_ b m sa cap w h hok hn hL h4 h5 h6 hrow hF
end Go.Proofs.Ytllfiplhfbbhaaa
