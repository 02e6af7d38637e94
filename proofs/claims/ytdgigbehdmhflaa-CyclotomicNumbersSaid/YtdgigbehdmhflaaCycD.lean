/- Contracts: normal, Root, SameInts. -/
import Derived.Test.YtdgigbehdmhflaaCycC
namespace Go.Proofs.Ytdgigbehdmhflaa
open Go.RowKit
set_option linter.unusedVariables false

/-- An array of ints, as a value. -/
def arr (l : List Int) : Value := .agg (l.map (Value.int .i64)).toArray

theorem sum_under : Try.prog.underlying 46 = some (.array 64 3) := by kernel_rfl
theorem slice_sum (g t : Nat) (ht : t ≤ 64) (w : World) :
    (Instr.sliceAt 46 (.pointer (some ⟨g, 0, none⟩)) none (some (.int .i64 (t : Int))) none).run Try.prog w = .ok (.slice (some ⟨g, 0, none⟩) t 64) w := by
  obtain ⟨i0, hi, hz0, hz1, hz2⟩ := info_parts int_info
  simp [Instr.sliceAt, Instr.sureAddr, run_underlying sum_under, Instr.sliceBounds, run_sliceBound (P := Try.prog) w .i64 (t : Int) 64 .sliceAlen (by omega) (by omega), sizeOf, typeInfo, hi, Addr.add]

set_option maxHeartbeats 1000000 in
theorem normal_any (S : List Int) (z : Int) (w : World) (hS : S.length = 64) (h1 : 1 ≤ z) (h2 : z ≤ 64) :
    Calls Try.prog 33 #[arr S, .int .i64 z] w fun e w' => ∃ A c, e = .returned (.slice A (Cyc.deg z.toNat) c) ∧ OwnK .i64 w' w.heap.size 3 A (Cyc.deg z.toNat) c (Cyc.normalW S z.toNat) ∧ Below w.heap.size w w' := by
  obtain ⟨n, rfl⟩ := Int.eq_ofNat_of_zero_le (show 0 ≤ z by omega)
  rw [Int.toNat_natCast]
  have h1 : 1 ≤ n := by omega
  have h2 : n ≤ 64 := by omega
  have hlen : Hid ((Cyc.T n).length = Cyc.deg n + 1) := Cyc.T_length n h1 h2
  have hdn := Cyc.deg_le n h1 h2
  have HS := Lib.hid hS; clear hS
  unfold arr
  go_enter Try.func33, Try.ntmps33
  go_wp2_with fail
  refine (phi_any _ _ (by omega) (by omega)).mono ?_
  rintro e w1 ⟨A1, c1, rfl, ho1, hb1⟩
  rw [Int.toNat_natCast, hlen.out] at ho1 ⊢
  have hk1 : KBlk .i64 w1 w.heap.size 46 S := (KBlk.new w _ S).same hb1
  have hbw1 : Below w.heap.size w w1 := ((Below.refl _ _).alloc (Nat.le_refl _) _).trans (hb1.mono (by simp))
  have hsl1 := ho1.slr
  obtain ⟨t, ht⟩ : ∃ t, t = Cyc.deg n := ⟨_, rfl⟩
  have hN : Hid (Cyc.normalW S n = (Cyc.redGo (Cyc.T n) t (n - t) S).take t) := by rw [ht]; exact rfl
  rw [← ht] at hsl1 hlen hdn ⊢
  have hgw : w.heap.size < w1.heap.size := hk1.lt
  have hAg : ∀ a, A1 = some a → a.block ≠ w.heap.size := by
    obtain ⟨ga, rfl, hga, _⟩ := ho1.pos (by omega)
    rintro a ⟨⟩
    simp at hga ⊢
    omega
  have Ht := Lib.hid ht
  clear ho1 hb1 ht
  go_wp2
  obtain ⟨g, hg⟩ : ∃ g, g = w.heap.size := ⟨_, rfl⟩
  have hgw1 : w.heap.size ≤ g := by omega
  rw [← hg] at hk1 hgw hAg ⊢
  clear hg
  go_loopw [7] (fun x wr => ∃ (j : Nat) (R : List Int), j + t ≤ n ∧ x = .int .i64 ((j : Int) + t - 1) ∧ KBlk .i64 wr g 46 R ∧ Hid (R.length = 64) ∧ Below w.heap.size w wr ∧ SlR .i64 wr A1 (t + 1) c1 (Cyc.T n) ∧ (∀ a, A1 = some a → a.block ≠ g) ∧ Hid (Cyc.normalW S n = (Cyc.redGo (Cyc.T n) t j R).take t)) (fun x _ => (intOf x + 1 - t).toNat)
  case atStart =>
    refine ⟨n - t, S, by omega, by go_num, hk1, HS, hbw1, hsl1, hAg, hN⟩
  case round =>
    obtain ⟨j, R, hj, rfl, hk, hR, hb, hsl, hA, hq1⟩ := hrel
    clear hk1 hsl1 hbw1 hN
    rcases j with _ | j
    · have hrs := slice_sum g t (by omega)
      have hsk := (hk.slr (n := t) (c := 64) (by have := hR.out; omega) (by omega) (by unfold maxLen; omega))
      go_wp2_with (at_builtin; refine wpList_appendK _ rfl (.tmp 46) (.tmp 48) _ rfl 3 .i64 8 Try.underlying23 int_info wr.heap.size (some ⟨wr.heap.size, 0, none⟩) 0 0 [] rfl ?own (some ⟨g, 0, none⟩) t 64 (R.take t) rfl ?slr ?h63 ?hby ?hbase ?_)
      case own => exact (KBlk.new wr 3 []).own (Nat.le_refl _) rfl (Nat.zero_le _)
      case slr => exact hsk.alloc _
      case h63 => unfold maxLen; omega
      case hby => omega
      case hbase => simp
      intro A2 c2 w3 ho3 hb3
      go_wp2
      go_ret
      have hfin := hq1.out
      rw [Cyc.redGo] at hfin
      obtain rfl := Ht.out
      refine ⟨A2, c2, rfl, ?_, hb.trans (((Below.refl _ _).alloc hb.size _).trans (hb3.mono hb.size))⟩
      rw [hfin]
      exact ho3.mono hb.size
    · have hc1 := hk.cell (i := j + t) (by have := hR.out; omega)
      have hqs : Hid (Cyc.normalW S n = (Cyc.redGo (Cyc.T n) t j (Cyc.subRow R j (R[j + t]?.getD 0) (Cyc.T n) (t + 1))).take t) := by
        have := hq1.out
        show _ = _
        rw [this, Cyc.redGo, hlen.out]
      go_wp2
      clear hq1 hc1
      obtain ⟨wo, rfl⟩ : ∃ wo : World, wo = wr := ⟨_, rfl⟩
      go_loopw [28] (fun x wi => ∃ (i : Nat), i ≤ t + 1 ∧ x = .int .i64 i ∧ KBlk .i64 wi g 46 (Cyc.subRow R j (R[j + t]?.getD 0) (Cyc.T n) i) ∧ Below w.heap.size w wi ∧ SlR .i64 wi A1 (t + 1) c1 (Cyc.T n)) (fun x _ => t + 1 - (intOf x).toNat)
      case atStart => exact ⟨0, by omega, rfl, hk, hb, hsl⟩
      case round =>
        obtain ⟨i, hi, rfl, hk, hb, hsl⟩ := hrel
        by_cases hit : i < t + 1
        · obtain ⟨b, o, rfl, hblt, hcq⟩ := hsl.pos (i := i) hit
          have hc2 := hk.cell (i := j + i) (by have := hR.out; rw [Cyc.subRow_length]; omega)
          have hf2 := hk.frozen (j + i)
          go_wp2
          go_roundw
          case rel => exact ⟨i + 1, by omega, by go_num, hk.set _ _, hb.setCell (p := ⟨g, j + i, none⟩) hgw1 _, hsl.setCell _ hA⟩
          case measure => simp [intOf]; omega
        · obtain rfl : i = t + 1 := by omega
          go_wp2
          go_roundw
          case rel => exact ⟨j, _, by omega, by go_num, hk, by have := hR.out; show _ = _; rw [Cyc.subRow_length]; exact this, hb, hsl, hA, hqs⟩
          case measure => simp [intOf]; omega

theorem SameInts_eq (A B : Option Addr) (n c d : Nat) (l : List Int) (w : World) (ha : SlR .i64 w A n c l) (hb : SlR .i64 w B n d l) :
    Calls Try.prog 16 #[.slice A n c, .slice B n d] w fun e w' => e = .returned (.bool true) ∧ ∃ m, w' = w.drewN m := by
  have hnm : n ≤ maxLen := Nat.le_trans ha.2.1 ha.2.2.1
  unfold maxLen at hnm
  have hne : ((n : Int) != n) = false := by simp
  go_enter Try.func16, Try.ntmps16
  go_wp2
  go_loopw [5] (fun y wr => ∃ k : Nat, k ≤ n ∧ y = .int .i64 k ∧ ∃ m, wr = w.drewN m) (fun y _ => n - (intOf y).toNat)
  case atStart => exact ⟨0, by omega, rfl, 0, rfl⟩
  case round =>
    obtain ⟨k, hk, rfl, m, rfl⟩ := hrel
    by_cases hkn : k < n
    · obtain ⟨b, o, rfl, _, hc1⟩ := ha.pos hkn
      obtain ⟨b', o', rfl, _, hc2⟩ := hb.pos hkn
      have hl1 : (k : Int) < n := by omega
      go_wp2
      go_quiet (fail)
      go_wp2
      go_roundw
      case rel => exact ⟨k + 1, by omega, by go_num, m + nq, rfl⟩
      case measure => simp [intOf]; omega
    · obtain rfl : k = n := by omega
      go_wp2
      go_ret
      exact ⟨rfl, m, rfl⟩
end Go.Proofs.Ytdgigbehdmhflaa
