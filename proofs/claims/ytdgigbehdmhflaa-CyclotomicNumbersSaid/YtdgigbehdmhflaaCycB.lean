/- Contracts: quotient, phi. -/
import Derived.Test.YtdgigbehdmhflaaCycA
import Derived.Test.YtdgigbehdmhflaaCycM
import Derived.Test.YtdgigbehdmhflaaLib
namespace Go.Proofs.Ytdgigbehdmhflaa
open Go.RowKit
set_option linter.unusedVariables false

theorem int_info : (Try.prog.info? 3).map (fun i => (i.zero, i.size, i.bytes)) = some (some (.int .i64 0), 1, 8) := by kernel_rfl

set_option maxHeartbeats 1000000 in
theorem quotient_any (A B : Option Addr) (t r c d : Nat) (p q : List Int) (w : World) (hp : SlR .i64 w A (t + r) c p) (hq : SlR .i64 w B (t + 1) d q) (hr : 1 ≤ r) (hn' : t + r ≤ 100) :
    Calls Try.prog 41 #[.slice A (t + r : Nat) c, .slice B (t + 1 : Nat) d] w fun e w' => ∃ A' c', e = .returned (.slice A' r c') ∧ OwnK .i64 w' w.heap.size 3 A' r c' (Cyc.quot p q) ∧ Below w.heap.size w w' := by
  have hnc := hp.2.1
  have hmd := hq.2.1
  have hquot : Hid (Cyc.quot p q = Cyc.divGo q t r p (List.replicate r 0)) := by
    show _ = _
    unfold Cyc.quot
    rw [hp.1, hq.1, show t + 1 - 1 = t by omega, show t + r - t = r by omega]
  go_enter Try.func41, Try.ntmps41
  go_wp2_with (at_builtin; refine wpList_appendK _ rfl (.tmp 12) (.tmp 13) _ rfl 3 .i64 8 Try.underlying23 int_info w.heap.size (some ⟨w.heap.size, 0, none⟩) 0 0 [] rfl ?own A (t + r) c p rfl ?slr ?h63 ?hby ?hbase ?_)
  case own => exact (KBlk.new w 3 []).own (Nat.le_refl _) rfl (Nat.zero_le _)
  case slr => exact hp.alloc _
  case h63 => unfold maxLen; omega
  case hby => omega
  case hbase => simp
  intro A1 c1 w1 ho1 hb1
  have hbw1 : Below w.heap.size w w1 := ((Below.refl _ _).alloc (Nat.le_refl _) _).trans hb1
  obtain ⟨g, rfl, hg1, hg2⟩ := ho1.pos (by omega)
  clear hb1
  go_wp2_with (at_make; refine wpList_makeK _ rfl (.tmp 21) (.tmp 21) _ rfl 3 .i64 8 Try.underlying23 int_info _ _ _ _ r rfl rfl ?L ?C ?b2 ?b3 ?_)
  case L => omega
  case C => omega
  case b2 => omega
  case b3 => unfold maxLen; omega
  intro w2 hk2 hb2 hz2
  have ho2 := ho1.below hb2
  have hbw2 : Below w.heap.size w w2 := hbw1.trans (hb2.mono hbw1.size)
  obtain ⟨h, hh⟩ : ∃ h, h = w1.heap.size := ⟨_, rfl⟩
  rw [← hh] at hk2 hg2 ⊢
  have hgh : g ≠ h := by omega
  have hwh : w.heap.size ≤ h := by have := hbw1.size; omega
  clear hb2 hbw1 ho1 hz2 hh
  go_wp2
  go_loopw [8] (fun x wr => ∃ (j : Nat) (R rr : List Int), j ≤ r ∧ x = .int .i64 ((j : Int) - 1) ∧ OwnK .i64 wr w.heap.size 3 (some ⟨g, 0, none⟩) (t + r) c1 R ∧ KBlk .i64 wr h 3 rr ∧ Hid (rr.length = r) ∧ Below w.heap.size w wr ∧ Hid (Cyc.quot p q = Cyc.divGo q t j R rr)) (fun x _ => (intOf x + 1).toNat)
  case atStart => exact ⟨r, p, _, Nat.le_refl _, rfl, ho2, hk2, by simp [Hid], hbw2, hquot⟩
  case round =>
    obtain ⟨j, R, rr, hj, rfl, ho, hk, hrl, hb, hq1⟩ := hrel
    clear ho2 hk2 hbw2 hquot
    rcases j with _ | j
    · go_wp2
      go_ret
      exact ⟨_, _, rfl, by rw [hq1.out]; exact hk.own hwh hrl.out (by unfold maxLen; omega), hb⟩
    · have hc1 := ho.cell (i := j + t) (by omega)
      have hf1 := hk.frozen j
      have hf0 := hk.cell (i := j) (by have := hrl.out; omega)
      have hqs : Hid (Cyc.quot p q = Cyc.divGo q t j (Cyc.subRow R j (R[j + t]?.getD 0) q (t + 1)) (rr.set j (R[j + t]?.getD 0))) := by
        have := hq1.out
        show _ = _
        rw [this, Cyc.divGo, hq.1]
      have hos := ho.far (p := ⟨h, j, none⟩) (.int .i64 (R[j + t]?.getD 0)) (by rintro a ⟨⟩; exact hgh)
      have hks := hk.set j (R[j + t]?.getD 0)
      have hbs := hb.setCell (p := ⟨h, j, none⟩) hwh (.int .i64 (R[j + t]?.getD 0))
      go_wp2
      clear hq1 ho hk hb hc1 hf1 hf0
      go_loopw [42] (fun x wi => ∃ (i : Nat), i ≤ t + 1 ∧ x = .int .i64 i ∧ OwnK .i64 wi w.heap.size 3 (some ⟨g, 0, none⟩) (t + r) c1 (Cyc.subRow R j (R[j + t]?.getD 0) q i) ∧ KBlk .i64 wi h 3 (rr.set j (R[j + t]?.getD 0)) ∧ Below w.heap.size w wi) (fun x _ => t + 1 - (intOf x).toNat)
      case atStart => exact ⟨0, by omega, rfl, hos, hks, hbs⟩
      case round =>
        obtain ⟨i, hi, rfl, ho, hk, hb⟩ := hrel
        clear hos hks hbs
        by_cases hit : i < t + 1
        · obtain ⟨b, o, rfl, hblt, hcq⟩ := (hq.below hb).pos (i := i) hit
          have hc2 := ho.cell (i := j + i) (by omega)
          have hf2 := ho.frozen (j + i)
          go_wp2
          go_roundw
          case rel => exact ⟨i + 1, by omega, by go_num, ho.set _ _, hk.far (p := ⟨g, j + i, none⟩) (Ne.symm hgh) _, hb.setCell (p := ⟨g, j + i, none⟩) hg1 _⟩
          case measure => simp [intOf]; omega
        · obtain rfl : i = t + 1 := by omega
          go_wp2
          go_roundw
          case rel => exact ⟨j, _, _, by omega, by go_num, ho, hk, by have := hrl.out; show _ = _; simpa using this, hb, hqs⟩
          case measure => simp [intOf]
theorem quotient_len (A B : Option Addr) (n m c d : Nat) (p q : List Int) (w : World) (hp : SlR .i64 w A n c p) (hq : SlR .i64 w B m d q) (hm : 1 ≤ m) (hmn : m ≤ n) (hn' : n ≤ 100) :
    Calls Try.prog 41 #[.slice A n c, .slice B m d] w fun e w' => ∃ A' c', e = .returned (.slice A' (n + 1 - m) c') ∧ OwnK .i64 w' w.heap.size 3 A' (n + 1 - m) c' (Cyc.quot p q) ∧ Below w.heap.size w w' := by
  obtain ⟨t, rfl⟩ : ∃ t, m = t + 1 := ⟨m - 1, by omega⟩
  obtain ⟨r, rfl⟩ : ∃ r, n = t + r := ⟨n - t, by omega⟩
  rw [show t + r + 1 - (t + 1) = r by omega]
  exact quotient_any A B t r c d p q w hp hq (by omega) hn'
end Go.Proofs.Ytdgigbehdmhflaa
