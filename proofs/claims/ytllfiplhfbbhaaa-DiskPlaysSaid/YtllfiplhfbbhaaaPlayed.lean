/-
  The law's own played: a disk of 40 bytes behind acts. Condition: fewer than 2^47 bytes of numbers.
-/
import Derived.Test.YtllfiplhfbbhaaaDoes
namespace Go.Proofs.Ytllfiplhfbbhaaa
open Go.RowKit

def D0 (n : Nat) : DS := ⟨List.replicate n 0, List.replicate n 0, [], false⟩
def playD (l : List PAct) : DS := l.foldl (fun D a => (D.act a).1) (D0 40)
theorem playD_snoc (l : List PAct) (a : PAct) : playD (l ++ [a]) = ((playD l).act a).1 := by simp [playD]
theorem D0_ok (n : Nat) : (D0 n).Ok n 0 := ⟨rfl, by simp [D0], by simp [D0], by simp [D0], by simp [D0]⟩

theorem write_okD {D : DS} {n L at_ : Nat} {b : List UInt8} (h : D.Ok n L) (hfit : at_ + b.length ≤ n) : (D.write at_ b).Ok n (L + b.length) := by
  refine ⟨h.up, ?_, h.sure, ?_, ?_⟩
  · show (splice _ _ _).length = n
    rw [length_splice _ _ _ (by rw [h.len]; exact hfit), h.len]
  · show (_ ++ _ : List _).length ≤ _
    rw [List.length_append, mkLo_length]
    have := h.lo
    omega
  · intro x hx
    rcases List.mem_append.1 hx with hx | hx
    · exact h.at_ x hx
    · simp only [mkLo, List.mem_map] at hx
      obtain ⟨y, hy, rfl⟩ := hx
      have := List.snd_lt_of_mem_zipIdx hy
      simp only
      omega
theorem sync_okD {D : DS} {n L : Nat} (h : D.Ok n L) : D.sync.Ok n 0 :=
  ⟨h.up, h.len, h.len, by simp [DS.sync], by simp [DS.sync]⟩
theorem crash_okD {D : DS} {n L : Nat} (h : D.Ok n L) (left : Int) : (D.crash left).opened.Ok n 0 :=
  ⟨rfl, left_len' D _ n L h, left_len' D _ n L h, by simp [DS.opened], by simp [DS.opened]⟩
theorem Ok_mono {D : DS} {n L L' : Nat} (h : D.Ok n L) (hl : L ≤ L') : D.Ok n L' := ⟨h.up, h.len, h.sure, Nat.le_trans h.lo hl, h.at_⟩
theorem act_ok {D : DS} {n L : Nat} {a : PAct} (h : D.Ok n L) : (D.act a).1.Ok n (L + a.b.length) := by
  unfold DS.act
  split
  · exact Ok_mono h (by omega)
  split
  · exact Ok_mono (sync_okD h) (by omega)
  split
  · exact Ok_mono (crash_okD h _) (by omega)
  split
  · rename_i hi
    obtain ⟨k, hk, hf⟩ := inB_nat hi
    rw [hk]
    exact write_okD h (by rw [Int.toNat_natCast, ← h.len]; exact hf)
  · exact Ok_mono h (by omega)
theorem mkAct_len (x : Int) : (mkAct x).b.length = (mkAct x).n ∧ (mkAct x).n ≤ 11 := by
  simp only [mkAct, List.length_map, List.length_range, true_and]
  omega
theorem playD_ok (l : List PAct) (h : ∀ a ∈ l, a.b.length ≤ 11) : (playD l).Ok 40 (11 * l.length) := by
  have : ∀ (m : List PAct) (D : DS) (L : Nat), (∀ a ∈ m, a.b.length ≤ 11) → D.Ok 40 L → (m.foldl (fun D a => (D.act a).1) D).Ok 40 (L + 11 * m.length) := by
    intro m
    induction m with
    | nil => intro D L _ hD; simpa using hD
    | cons a m ih =>
      intro D L hm hD
      have h1 := ih (D.act a).1 (L + a.b.length) (fun x hx => hm x (List.mem_cons_of_mem _ hx)) (act_ok hD)
      have h2 := hm a (List.mem_cons_self ..)
      exact Ok_mono h1 (by simp only [List.length_cons]; omega)
  have h0 := this l (D0 40) 0 h (D0_ok 40)
  rw [Nat.zero_add] at h0
  exact h0

theorem AV_at (l : List ARow) (i : Nat) (r : ARow) (h : l[i]? = some r) : (AV l)[i * 4]? = some (.int .i64 r.a.doo) ∧ (AV l)[i * 4 + 1]? = some (.int .i64 r.a.at_) ∧ (AV l)[i * 4 + 2]? = some (.slice r.sa r.a.b.length r.cap) ∧ (AV l)[i * 4 + 3]? = some (.int .i64 r.a.n) := by
  induction l generalizing i with
  | nil => simp at h
  | cons y l ih =>
    cases i with
    | zero => simp at h; subst h; simp [AV, ARow.cells]
    | succ i =>
      have := ih i (by simpa using h)
      simp only [AV, List.flatMap_cons] at this ⊢
      rw [show (i + 1) * 4 = i * 4 + 4 by omega]
      simpa [ARow.cells] using this

/-- What holds at the head of each round. -/
def PRel (w : World) (B1 B2 : Nat) (acts : Value) (rows : List ARow) (d i_ : Value) (wr : World) : Prop :=
  ∃ (k p : Nat) (F : Nat → Prop), k ≤ rows.length ∧ i_ = .int .i64 k ∧ d = .pointer (some ⟨p, 0, none⟩) ∧ Disk wr p (playD ((rows.map ARow.a).take k)) F ∧ ActsAt wr B1 acts rows ∧ Keeps (fun _ => False) w wr ∧
    B2 ≤ wr.heap.size ∧ (∀ j, F j → w.heap.size ≤ j ∧ (j < B1 ∨ B2 ≤ j))

/-- One round. -/
theorem prel_step {w wr w' : World} {B1 B2 : Nat} {acts : Value} {rows : List ARow} {k : Nat} {F : Nat → Prop} {r : ARow} (hr : rows[k]? = some r)
    (hat : ActsAt wr B1 acts rows) (hkp : Keeps (fun _ => False) w wr) (hB : B2 ≤ wr.heap.size) (hF : ∀ j, F j → w.heap.size ≤ j ∧ (j < B1 ∨ B2 ≤ j)) (hlt : ∀ j, acts.ownBlock = some j → j < B2) (hltr : ∀ r ∈ rows, ∀ j, Value.ownBlock (.slice r.sa r.a.b.length r.cap) = some j → j < B2)
    {q : Nat} {F' : Nat → Prop} (hd : Disk w' q ((playD ((rows.map ARow.a).take k)).act r.a).1 F') (hk' : Keeps F wr w') (hF' : ∀ j, F' j → F j ∨ wr.heap.size ≤ j) :
    PRel w B1 B2 acts rows (.pointer (some ⟨q, 0, none⟩)) (.int .i64 ((k + 1 : Nat) : Int)) w' := by
  have hkl := (List.getElem?_eq_some_iff.1 hr).1
  refine ⟨k + 1, q, F', hkl, rfl, rfl, ?_, ⟨?_, ?_⟩, ?_, Nat.le_trans hB hk'.size, ?_⟩
  · rw [List.take_succ_eq_append_getElem (by simpa using hkl), playD_snoc]
    simp only [List.getElem_map, (List.getElem?_eq_some_iff.1 hr).2]
    exact hd
  · exact own_keep hat.row hk' (fun j e hf => by have := (hat.row.lt j e).1; have := hlt j e; have := (hF j hf).2; omega)
  · intro x hx
    exact own_keep (hat.each x hx) hk' (fun j e hf => by have := ((hat.each x hx).lt j e).1; have := hltr x hx j e; have := (hF j hf).2; omega)
  · exact hkp.trans hk' (fun j hj hf => by have := (hF j hf).1; omega)
  · intro j hj
    rcases hF' j hj with h | h
    · exact hF j h
    · exact ⟨Nat.le_trans hkp.size h, Or.inr (by omega)⟩

set_option maxHeartbeats 2000000 in
theorem played_any (la : Option Addr) (b off len cap : Nat) (zs : List Int) (w : World) (hl : zs.length = len) (hlen : len ≤ 9223372036854775807) (hla : 0 < len → la = some ⟨b, off, none⟩)
    (hsrc : ∀ j z, zs[j]? = some z → w.cell? ⟨b, off + j, none⟩ = some (.int .i64 z)) (hwf : ∀ z ∈ zs, -9223372036854775808 ≤ z ∧ z ≤ 9223372036854775807) :
    Calls Try.prog 24 #[.slice la len cap] w fun e w' => ∃ p F, e = .returned (.pointer (some ⟨p, 0, none⟩)) ∧ Disk w' p (playD ((zs.take 20).map mkAct)) F ∧ Keeps (fun _ => False) w w' ∧ (∀ k, F k → w.heap.size ≤ k) := by
  have HL := Lib.hid (And.intro hl (And.intro hla (And.intro hsrc hwf)))
  clear hl hla hsrc hwf
  go_enter Try.func24, Try.ntmps24
  go_wp2_with fail
  refine (new_ok 40 w (by omega)).mono ?_
  rintro e w1 ⟨p, F, rfl, hd, hkp, hF⟩
  have H1 := Lib.hid (And.intro hd (And.intro hkp hF))
  clear hd hkp hF
  go_wp2_with fail
  obtain ⟨hl, hla, hsrc, hwf⟩ := HL.out
  refine (acts_any la b off len cap zs w1 hl hlen hla (fun j z hz => (H1.out.2.1.cell (World.block_lt_of_cell? w _ (hsrc j z hz)) (fun h => h)).trans (hsrc j z hz)) hwf).mono ?_
  clear hl hla hsrc hwf
  rintro e w2 ⟨sa, cap', rows, rfl, hrows, hat, hk2⟩
  have H2 := Lib.hid (And.intro hrows (And.intro hat hk2))
  have hrl : rows.length ≤ 20 := by
    have := congrArg List.length hrows
    simp at this
    omega
  clear hrows hat hk2
  obtain ⟨m, hm⟩ : ∃ m, rows.length = m := ⟨_, rfl⟩
  rw [hm]
  rw [hm] at hrl
  have HM := Lib.hid hm
  clear hm
  go_wp2_with fail
  go_loopw [3, 6] (fun d i wr => PRel w w1.heap.size w2.heap.size (.slice sa m cap') rows d i wr) (fun _ i _ => m - (intOf i).toNat)
  case atStart =>
    refine ⟨0, p, F, Nat.zero_le _, rfl, rfl, H1.out.1.keep H2.out.2.2 (fun _ _ h => h), ?_, H1.out.2.1.trans H2.out.2.2 (fun _ _ h => h), Nat.le_refl _, fun j hj => ⟨H1.out.2.2 j hj, Or.inl (H1.out.1.foot_lt j hj)⟩⟩
    have := H2.out.2.1
    rw [HM.out] at this
    exact this
  case round =>
    obtain ⟨k, p', F', hk, rfl, rfl, hd, hat, hkp, hB, hF'⟩ := hrel
    rw [HM.out] at hk
    have HR := Lib.hid (And.intro hd (And.intro hat (And.intro hkp (And.intro hB hF'))))
    clear hd hat hkp hB hF'
    by_cases hlt : k < m
    · obtain ⟨r, hr⟩ : ∃ r, rows[k]? = some r := ⟨_, List.getElem?_eq_getElem (by rw [HM.out]; exact hlt)⟩
      obtain ⟨ga, rfl⟩ : ∃ ga, sa = some ⟨ga, 0, none⟩ := by
        rcases own_addr HR.out.2.1.row with ⟨_, h, _⟩ | h
        · omega
        · exact h
      obtain ⟨a0, a1, a2, a3⟩ := AV_at rows k r hr
      have c0 := own_cell HR.out.2.1.row _ _ a0
      have c1 := own_cell HR.out.2.1.row _ _ a1
      have c2 := own_cell HR.out.2.1.row _ _ a2
      have c3 := own_cell HR.out.2.1.row _ _ a3
      have HRR := Lib.hid hr
      clear a0 a1 a2 a3 hr
      have j1 : (0 : Int) ≤ (k : Int) := by omega
      have j2 : (k : Int) < (m : Int) := by omega
      have HOK : Hid ((playD ((rows.map ARow.a).take k)).Ok 40 (11 * 20)) := by
        refine Ok_mono (playD_ok _ (fun a ha => ?_)) ?_
        · have := List.mem_of_mem_take ha
          rw [H2.out.1] at this
          obtain ⟨x, _, rfl⟩ := List.mem_map.1 this
          have := mkAct_len x
          omega
        · simp only [List.length_take, List.length_map]; omega
      have HLT : Hid (∀ r ∈ rows, ∀ j, Value.ownBlock (.slice r.sa r.a.b.length r.cap) = some j → j < w2.heap.size) := fun r hr j e => ((H2.out.2.1.each r hr).lt j e).2
      have hmem : r ∈ rows := List.mem_of_getElem? HRR.out
      have HMEM := Lib.hid hmem
      clear hmem
      go_wp2_with fail
      refine (does_any p' _ F' 40 (11 * 20) r.a r.sa r.cap wr HR.out.1 HOK.out (by omega) (by omega) (own_base (HR.out.2.1.each r HMEM.out) (fun _ _ => Nat.zero_le _)) (fun j e hf => ?_)).mono ?_
      · have h1 := (own_lt (HR.out.2.1.each r HMEM.out) e).1
        have h2 := HLT.out r HMEM.out j (by rw [e]; rfl)
        have h3 := (HR.out.2.2.2.2 j hf).2
        omega
      · rintro e w' ⟨q, F2, rfl, hd2, hk2, hf2⟩
        have hstep := prel_step HRR.out HR.out.2.1 HR.out.2.2.1 HR.out.2.2.2.1 HR.out.2.2.2.2 (fun j e => by have := (H2.out.2.1.row.lt j (by simpa [Value.ownBlock] using e)).2; exact this) HLT.out hd2 hk2 hf2
        have HS := Lib.hid hstep
        clear hstep hd2 hk2 hf2 c0 c1 c2 c3
        go_wp2
        go_roundw
        case rel => exact HS.out
        case measure => simp [intOf]; omega
    · go_wp2_with fail
      go_ret
      obtain rfl : k = m := by omega
      refine ⟨p', F', rfl, ?_, HR.out.2.2.1, fun j hj => (HR.out.2.2.2.2 j hj).1⟩
      have := HR.out.1
      rw [List.take_of_length_le (by simp [HM.out]), H2.out.1] at this
      exact this
end Go.Proofs.Ytllfiplhfbbhaaa
