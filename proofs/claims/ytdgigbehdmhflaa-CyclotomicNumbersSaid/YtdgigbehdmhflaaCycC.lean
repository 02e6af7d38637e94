/- Contracts: phi, Phi, Totient. -/
import Derived.Test.YtdgigbehdmhflaaCycB
import Derived.Test.YtdgigbehdmhflaaCycF
namespace Go.Proofs.Ytdgigbehdmhflaa
open Go.RowKit
set_option linter.unusedVariables false

theorem emod_succ (n d : Nat) : (n : Int) % ((d : Int) + 1) = ((n % (d + 1) : Nat) : Int) := by simp
set_option maxHeartbeats 1000000 in
theorem phi_all (k : Nat) : ∀ (z : Int) (w : World), z.toNat ≤ k → 1 ≤ z → z ≤ 64 →
    Calls Try.prog 28 #[.int .i64 z] w fun e w' => ∃ A c, e = .returned (.slice A (Cyc.T z.toNat).length c) ∧ OwnK .i64 w' w.heap.size 3 A (Cyc.T z.toNat).length c (Cyc.T z.toNat) ∧ Below w.heap.size w w' := by
  induction k with
  | zero => intro n w h1 h2; omega
  | succ k ih =>
    intro z w hk h1 h2
    have IH := Lib.hid ih; clear ih
    obtain ⟨n, rfl⟩ := Int.eq_ofNat_of_zero_le (show 0 ≤ z by omega)
    rw [Int.toNat_natCast] at hk ⊢
    have h1 : 1 ≤ n := by omega
    have h2 : n ≤ 64 := by omega
    have hT : Hid (Cyc.phiTo n (n - 1) = Cyc.T n) := Cyc.phi_T n h1 h2
    go_enter Try.func28, Try.ntmps28
    go_wp2_with (at_make; refine wpList_makeK _ rfl (.tmp 6) (.tmp 6) _ rfl 3 .i64 8 Try.underlying23 int_info _ _ _ _ (n + 1) rfl rfl ?L ?C ?b2 ?b3 ?_)
    case L => omega
    case C => omega
    case b2 => omega
    case b3 => unfold maxLen; omega
    intro w2 hk2 hb2 hz2
    have hc0 := hk2.cell (i := 0) (by simp)
    have hf0 := hk2.frozen 0
    have hk3 := hk2.set 0 (-1)
    have hc1 := hk3.cell (i := n) (by simp)
    have hf1 := hk3.frozen n
    have hk4 := hk3.set n 1
    rw [Cyc.start_eq n h1] at hk4
    have hb4 := (hb2.setCell (p := ⟨w.heap.size, 0, none⟩) (Nat.le_refl _) (.int .i64 (-1))).setCell (p := ⟨w.heap.size, n, none⟩) (Nat.le_refl _) (.int .i64 1)
    go_wp2
    clear hc0 hf0 hc1 hf1 hk3 hb2 hk2
    go_loopw [3, 4] (fun x y wr => ∃ (d : Nat) (A : Option Addr) (m c : Nat), d + 1 ≤ n ∧ y = .int .i64 ((d : Int) + 1) ∧ x = .slice A m c ∧ OwnK .i64 wr w.heap.size 3 A m c (Cyc.phiTo n d) ∧ Below w.heap.size w wr) (fun _ y _ => n - (intOf y).toNat)
    case atStart => exact ⟨0, _, _, _, h1, rfl, rfl, hk4.own (Nat.le_refl _) (Cyc.start_length n h1) (by unfold maxLen; omega), hb4⟩
    case round =>
      obtain ⟨d, A, m, c, hd, rfl, rfl, ho, hb⟩ := hrel
      clear hk4 hb4
      have hml := ho.1
      have hm := Cyc.phiTo_length n d h1
      have Hml := Lib.hid hml; clear hml
      by_cases hdn : d + 1 < n
      · by_cases h0 : n % (d + 1) = 0
        · have hb0 : ((n : Int) % ((d : Int) + 1) == 0) = true := by rw [emod_succ, h0]; rfl
          have hlen := Cyc.phi_len n d h1 h2 hdn h0
          have hlen1 : 1 ≤ (Cyc.T (d + 1)).length := by rcases Cyc.T_len d with h | h <;> omega
          have H0 := Lib.hid h0; clear h0
          go_wp2_with fail
          refine (IH.out _ _ (by omega) (by omega) (by omega)).mono ?_
          rintro e w1 ⟨A1, c1, rfl, ho1, hb1⟩
          rw [show ((d : Int) + 1).toNat = d + 1 by omega] at *
          go_wp2_with fail
          refine (quotient_len A A1 m _ c c1 _ _ w1 (ho.slr.below hb1) ho1.slr hlen1 (by rw [← Hml.out]; exact hlen) (by rw [← Hml.out]; omega)).mono ?_
          rintro e w2 ⟨A2, c2, rfl, ho2, hb2⟩
          go_wp2
          go_roundw
          case rel => exact ⟨d + 1, A2, _, c2, by omega, by go_num, rfl, by rw [Cyc.phiTo, if_pos H0.out]; exact ho2.mono (Nat.le_trans hb.size hb1.size), hb.trans ((hb1.trans (hb2.mono hb1.size)).mono hb.size)⟩
          case measure => simp [intOf]; omega
        · have hb0 : ((n : Int) % ((d : Int) + 1) == 0) = false := by rw [emod_succ, beq_eq_false_iff_ne]; omega
          have H0 := Lib.hid h0; clear h0
          go_wp2
          go_roundw
          case rel => exact ⟨d + 1, A, m, c, by omega, by go_num, rfl, by rw [Cyc.phiTo, if_neg H0.out]; exact ho, hb⟩
          case measure => simp [intOf]; omega
      · obtain rfl : n = d + 1 := by omega
        have hT' : Hid (Cyc.phiTo (d + 1) d = Cyc.T (d + 1)) := hT
        clear hT
        go_wp2
        go_ret
        have e1 := hT'.out
        have e2 : m = (Cyc.T (d + 1)).length := by rw [← e1]; exact Hml.out.symm
        rw [e1, e2] at ho
        exact ⟨A, c, by rw [e2]; rfl, ho, hb⟩
theorem phi_any (z : Int) (w : World) (h1 : 1 ≤ z) (h2 : z ≤ 64) :
    Calls Try.prog 28 #[.int .i64 z] w fun e w' => ∃ A c, e = .returned (.slice A (Cyc.T z.toNat).length c) ∧ OwnK .i64 w' w.heap.size 3 A (Cyc.T z.toNat).length c (Cyc.T z.toNat) ∧ Below w.heap.size w w' :=
  phi_all 64 z w (by omega) h1 h2

theorem Phi_yes (z : Int) (w : World) (h1 : 1 ≤ z) (h2 : z ≤ 64) :
    Calls Try.prog 9 #[.int .i64 z] w fun e w' => ∃ A c, e = .returned (.tuple #[.slice A (Cyc.T z.toNat).length c, .int .i64 0]) ∧ OwnK .i64 w' w.heap.size 3 A (Cyc.T z.toNat).length c (Cyc.T z.toNat) ∧ Below w.heap.size w w' := by
  go_enter Try.func9, Try.ntmps9
  go_wp2_with fail
  refine (permitted_yes z _ h1 h2).mono ?_
  rintro e w1 ⟨rfl, rfl⟩
  go_wp2_with fail
  refine (phi_any z _ h1 h2).mono ?_
  rintro e w2 ⟨A, c, rfl, ho, hb⟩
  go_wp2
  go_ret2
  exact ⟨A, c, rfl, ho, hb⟩

theorem Phi_no (z : Int) (w : World) (h : z < 1 ∨ 64 < z) :
    Calls Try.prog 9 #[.int .i64 z] w fun e w' => e = .returned (.tuple #[.slice none 0 0, .int .i64 1]) ∧ w = w' := by
  go_enter Try.func9, Try.ntmps9
  go_wp2_with fail
  refine (permitted_no z _ h).mono ?_
  rintro e w1 ⟨rfl, rfl⟩
  go_wp2
  go_ret2
  exact ⟨rfl, rfl⟩

set_option maxHeartbeats 400000 in
theorem Totient_yes (z : Int) (w : World) (h1 : 1 ≤ z) (h2 : z ≤ 64) :
    Calls Try.prog 10 #[.int .i64 z] w fun e w' => e = .returned (.tuple #[.int .i64 (Cyc.totTo z.toNat z.toNat), .int .i64 0]) ∧ ∃ m, w' = w.drewN m := by
  obtain ⟨n, rfl⟩ := Int.eq_ofNat_of_zero_le (show 0 ≤ z by omega)
  rw [Int.toNat_natCast]
  go_enter Try.func10, Try.ntmps10
  go_wp2_with fail
  refine (permitted_yes n _ h1 h2).mono ?_
  rintro e w1 ⟨rfl, rfl⟩
  go_wp2
  go_loopw [4, 5] (fun x y wr => ∃ k : Nat, k ≤ n ∧ x = .int .i64 (Cyc.totTo n k : Nat) ∧ y = .int .i64 ((k : Int) + 1) ∧ ∃ m, wr = w.drewN m) (fun _ y _ => n + 1 - (intOf y).toNat)
  case atStart => exact ⟨0, by omega, rfl, rfl, 0, rfl⟩
  case round =>
    obtain ⟨k, hk, rfl, rfl, m, rfl⟩ := hrel
    have hle := Cyc.totTo_le n k
    by_cases hkn : k < n
    · by_cases hg : Int.gcd ((k : Int) + 1) n = 1
      · have hb0 : (((Int.gcd ((k : Int) + 1) n : Nat) : Int) == 1) = true := by rw [hg]; rfl
        have Hg := Lib.hid hg; clear hg
        go_wp2_with fail
        refine (gcd_any _ _ _ (by omega) (by omega)).mono ?_
        rintro e w1 ⟨rfl, m1, rfl⟩
        go_wp2
        go_roundw
        case rel => exact ⟨k + 1, by omega, by rw [Cyc.totTo, if_pos Hg.out]; go_num, by go_num, m + m1, rfl⟩
        case measure => simp [intOf]; omega
      · have hb0 : (((Int.gcd ((k : Int) + 1) n : Nat) : Int) == 1) = false := by rw [beq_eq_false_iff_ne]; omega
        have Hg := Lib.hid hg; clear hg
        go_wp2_with fail
        refine (gcd_any _ _ _ (by omega) (by omega)).mono ?_
        rintro e w1 ⟨rfl, m1, rfl⟩
        go_wp2
        go_roundw
        case rel => exact ⟨k + 1, by omega, by rw [Cyc.totTo, if_neg Hg.out], by go_num, m + m1, rfl⟩
        case measure => simp [intOf]; omega
    · obtain rfl : k = n := by omega
      go_wp2
      go_ret2
      exact ⟨rfl, m, rfl⟩

theorem Totient_no (z : Int) (w : World) (h : z < 1 ∨ 64 < z) :
    Calls Try.prog 10 #[.int .i64 z] w fun e w' => e = .returned (.tuple #[.int .i64 0, .int .i64 1]) ∧ w = w' := by
  go_enter Try.func10, Try.ntmps10
  go_wp2_with fail
  refine (permitted_no z _ h).mono ?_
  rintro e w1 ⟨rfl, rfl⟩
  go_wp2
  go_ret2
  exact ⟨rfl, rfl⟩
end Go.Proofs.Ytdgigbehdmhflaa
