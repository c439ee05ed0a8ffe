/-
  A disk's Open: another disk with what is left; one that has not crashed is refused. Condition: sizes up to 65536.
-/
import Derived.Test.YtllfiplhfbbhaaaDiskRead
namespace Go.Proofs.Ytllfiplhfbbhaaa
open Go.RowKit
attribute [local go_sem ↓] Go.wp_at_zero Go.wp_at_succ

theorem open_no (p : Nat) (D : DS) (F : Nat → Prop) (w : World) (h : Disk w p D F) (hcr : D.cr = false) :
    Calls Try.prog 25 #[.pointer (some ⟨p, 0, none⟩)] w fun e w' => e = .returned (.tuple #[.pointer none, .int .i64 6]) ∧ w = w' := by
  obtain ⟨gn, cn, gs, cs, sl, cl, h, rfl⟩ := h
  have q3 := cellAt h.blk 3
  simp [hcr] at q3
  have H := Lib.hid h
  clear h hcr
  go_enter Try.func25, Try.ntmps25
  go_wp2
  go_ret2
  exact ⟨rfl, rfl⟩

def DS.opened (D : DS) : DS := ⟨D.now, D.now, [], false⟩

theorem opened_disk {w1 w2 : World} {D : DS} {g1 g2 c1 c2 : Nat}
    (h1 : w1.ownsRow 0 5 1 (.slice (some ⟨g1, 0, none⟩) D.now.length c1) D.now.length (BV D.now)) (hk : Keeps (fun _ => False) w1 w2)
    (h2 : w2.ownsRow w1.heap.size 5 1 (.slice (some ⟨g2, 0, none⟩) D.now.length c2) D.now.length (BV D.now)) :
    Disk (w2.alloc (.cells #[.slice (some ⟨g1, 0, none⟩) D.now.length c1, .slice (some ⟨g2, 0, none⟩) D.now.length c2, .slice none 0 0, .bool false] 64)) w2.heap.size D.opened (Foot w2.heap.size g1 g2 none) := by
  refine ⟨g1, c1, g2, c2, none, 0, ⟨?_, ?_, ?_, ?_, ?_⟩, rfl⟩
  · simpa [DS.opened] using heap_alloc_new w2 _
  · exact (own_keep h1 hk (fun _ _ h => h)).alloc _
  · exact (own_base h2 (fun _ _ => Nat.zero_le _)).alloc _
  · exact World.ownsRow_nil _ _ _ _
  · have := (own_lt h1 rfl).2
    have := (own_lt h2 rfl).1
    omega

set_option maxHeartbeats 1000000 in
theorem open_ok (p : Nat) (D : DS) (F : Nat → Prop) (w : World) (h : Disk w p D F) (hcr : D.cr = true) (hD : D.now.length ≤ 65536) :
    Calls Try.prog 25 #[.pointer (some ⟨p, 0, none⟩)] w fun e w' => ∃ q F', e = .returned (.tuple #[.pointer (some ⟨q, 0, none⟩), .int .i64 0]) ∧
      Disk w' q D.opened F' ∧ Keeps (fun _ => False) w w' ∧ (∀ k, F' k → w.heap.size ≤ k) := by
  obtain ⟨gn, cn, gs, cs, sl, cl, h, rfl⟩ := h
  have q3 := cellAt h.blk 3
  simp [hcr] at q3
  have q0 := cellAt h.blk 0
  simp at q0
  obtain ⟨n, hn⟩ : ∃ n, D.now.length = n := ⟨_, rfl⟩
  rw [hn] at q0
  have HS : Hid (∀ (j : Nat) (c : UInt8), D.now[j]? = some c → w.cell? ((⟨gn, 0, none⟩ : Addr).add j) = some (.int .u8 c.toNat)) := fun j c hc => by
    rw [addr_add, Nat.zero_add]; exact own_cell h.now j _ (by rw [BV_get, hc]; rfl)
  have HS1 : Hid (∀ w1 : World, Keeps (fun _ => False) w w1 → ∀ (j : Nat) (c : UInt8), D.now[j]? = some c → w1.cell? ((⟨gn, 0, none⟩ : Addr).add j) = some (.int .u8 c.toNat)) := fun w1 hk j c hc =>
    (hk.cell (World.block_lt_of_cell? w _ (HS.out j c hc)) (fun h => h)).trans (HS.out j c hc)
  have HK : Hid (∀ w1 : World, Keeps (fun _ => False) w w1 → w1.cell? ⟨p, 0, none⟩ = some (.slice (some ⟨gn, 0, none⟩) n cn)) := fun w1 hk =>
    (hk.cell (World.block_lt_of_cell? w _ q0) (fun h => h)).trans q0
  have HN := Lib.hid hn
  have hnb : n ≤ 65536 := by omega
  have H := Lib.hid h
  have tok1 : True := trivial
  clear h hcr hn
  go_enter Try.func25, Try.ntmps25
  go_wp2_with fail
  go_region_held3 (fun w' => w'.cell? ⟨p, 0, none⟩ = some (.slice (some ⟨gn, 0, none⟩) n cn))
    (first | exact HK.out _ (HW2.out.alloc _) | exact HK.out _ HW2.out | exact HK.out _ HW1.out | go_keep)
    (first | ((go_at_call 35; have _t := tok1; refine (clone_some ⟨gn, 0, none⟩ n _ _ w.drew HN.out (by omega) HS.out).mono ?_; rintro e w1 ⟨g1, cap1, rfl, hown, hk⟩; have HW1 : Hid (Keeps (fun _ => False) w w1) := (Keeps.refl _ w).drew.trans hk (fun _ _ h => h); have HO1 := Lib.hid hown; clear hown hk tok1 _t)) | ((go_at_call 35; refine (clone_some ⟨gn, 0, none⟩ n _ _ w1 HN.out (by omega) (HS1.out _ HW1.out)).mono ?_; rintro e w2 ⟨g2, cap2, rfl, hown, hk⟩; have HW2 : Hid (Keeps (fun _ => False) w w2) := HW1.out.trans hk (fun _ _ h => h); have HO2 := Lib.hid (And.intro hk hown); clear hown hk)))
  go_wp2
  go_ret2
  have hsz := HW1.out.size
  have hsz2 := HW2.out.size
  have l1 := own_lt HO1.out rfl
  have l2 := own_lt HO2.out.2 rfl
  have D1 := opened_disk (D := D) (own_base (by rw [HN.out]; exact HO1.out) (fun _ _ => Nat.zero_le _)) HO2.out.1 (by rw [HN.out]; exact HO2.out.2)
  rw [HN.out] at D1
  refine ⟨_, _, rfl, D1, HW2.out.alloc _, fun k hk => ?_⟩
  have e : w.drew.heap.size = w.heap.size := rfl
  rcases hk with h | h | h | h
  · omega
  · omega
  · omega
  · cases h
end Go.Proofs.Ytllfiplhfbbhaaa
