/- Contracts of the small integer functions of the layer cyclotomic. -/
import Derived.Test.YtdgigbehdmhflaaProg
import Derived.WalkKit
import Derived.LoopTactic
import Derived.Outline
import Derived.Lib.Hide
import Derived.Deep.QuietTactic
import Derived.BigQuiet
namespace Go.Proofs.Ytdgigbehdmhflaa
set_option linter.unusedVariables false
open Go.RowKit

theorem neg_lt_tmod (v m : Int) (h : 0 < m) : -m < v.tmod m := by
  have := Int.tmod_lt_of_pos (-v) h
  rw [Int.neg_tmod] at this
  omega
theorem mod_of_tmod (v m : Int) (h : 0 < m) : v % m = if 0 ≤ v.tmod m then v.tmod m else v.tmod m + m := by
  have h1 := Int.tmod_lt_of_pos v h
  have h2 := neg_lt_tmod v m h
  have h3 := Int.mul_tdiv_add_tmod v m
  split
  · rename_i hp
    conv => lhs; rw [← h3]
    rw [Int.add_emod, Int.mul_emod_right, Int.zero_add, Int.emod_emod_of_dvd _ (Int.dvd_refl m), Int.emod_eq_of_lt hp h1]
  · rename_i hp
    have : v = m * (v.tdiv m - 1) + (v.tmod m + m) := by rw [Int.mul_sub]; omega
    conv => lhs; rw [this]
    rw [Int.add_emod, Int.mul_emod_right, Int.zero_add, Int.emod_emod_of_dvd _ (Int.dvd_refl m), Int.emod_eq_of_lt (by omega) (by omega)]
theorem gcd_step (p q : Int) : Int.gcd q (p % q) = Int.gcd p q := by
  have e : p % q = p + (-(p / q)) * q := by rw [Int.emod_def, Int.neg_mul, Int.mul_comm q]; omega
  rw [e, Int.gcd_add_mul_right_right, Int.gcd_comm]

theorem within_any (v m : Int) (w : World) (h1 : -9223372036854775808 ≤ v) (h2 : v ≤ 9223372036854775807) (hm : 1 ≤ m) (hm' : m ≤ 1000000) :
    Calls Try.prog 8 #[.int .i64 v, .int .i64 m] w fun e w' => e = .returned (.int .i64 (v % m)) ∧ w = w' := by
  have hq1 := Int.tmod_lt_of_pos v (show 0 < m by omega)
  have hq2 : -m < v.tmod m := neg_lt_tmod v m (by omega)
  have hmod : Hid (v % m = if 0 ≤ v.tmod m then v.tmod m else v.tmod m + m) := mod_of_tmod v m (by omega)
  have h0 : ¬ m < 1 := by omega
  by_cases hneg : v.tmod m < 0
  · go_enter Try.func8, Try.ntmps8
    go_wp2
    go_ret
    refine ⟨?_, rfl⟩
    rw [hmod.out, if_neg (by omega)]; rfl
  · go_enter Try.func8, Try.ntmps8
    go_wp2
    go_ret
    refine ⟨?_, rfl⟩
    rw [hmod.out, if_pos (by omega)]; rfl

theorem permitted_yes (v : Int) (w : World) (h1 : 1 ≤ v) (h2 : v ≤ 64) :
    Calls Try.prog 27 #[.int .i64 v] w fun e w' => e = .returned (.bool true) ∧ w = w' := by
  go_enter Try.func27, Try.ntmps27
  go_wp2
  go_ret
  exact ⟨by simp, rfl⟩

theorem permitted_no (v : Int) (w : World) (h : v < 1 ∨ 64 < v) :
    Calls Try.prog 27 #[.int .i64 v] w fun e w' => e = .returned (.bool false) ∧ w = w' := by
  rcases h with h | h
  · go_enter Try.func27, Try.ntmps27
    go_wp2
    go_ret
    exact ⟨by simp, rfl⟩
  · have h1 : 1 ≤ v := by omega
    have h2 : ¬ v ≤ 64 := by omega
    go_enter Try.func27, Try.ntmps27
    go_wp2
    go_ret
    exact ⟨by simp, rfl⟩

theorem residue_any (k n : Int) (w : World) (h1 : -9223372036854775808 ≤ k) (h2 : k ≤ 9223372036854775807) (hm : 1 ≤ n) (hm' : n ≤ 64) :
    Calls Try.prog 35 #[.int .i64 k, .int .i64 n] w fun e w' => e = .returned (.int .i64 (k % n)) ∧ w = w' := by
  have hq1 := Int.tmod_lt_of_pos k (show 0 < n by omega)
  have hq2 : -n < k.tmod n := neg_lt_tmod k n (by omega)
  have hmod : Hid (k % n = if 0 ≤ k.tmod n then k.tmod n else k.tmod n + n) := mod_of_tmod k n (by omega)
  by_cases hneg : k.tmod n < 0
  · go_enter Try.func35, Try.ntmps35
    go_wp2
    go_ret
    refine ⟨?_, rfl⟩
    rw [hmod.out, if_neg (by omega)]; rfl
  · go_enter Try.func35, Try.ntmps35
    go_wp2
    go_ret
    refine ⟨?_, rfl⟩
    rw [hmod.out, if_pos (by omega)]; rfl

/-- 'gcd' returns the greatest common divisor; only draws are made. -/
theorem gcd_any (a b : Int) (w : World) (ha : 0 ≤ a) (hb : 0 ≤ b) :
    Calls Try.prog 29 #[.int .i64 a, .int .i64 b] w fun e w' => e = .returned (.int .i64 (Int.gcd a b)) ∧ ∃ m, w' = w.drewN m := by
  go_enter Try.func29, Try.ntmps29
  go_wp2
  go_loopw [0, 1] (fun x y wr => ∃ p q : Int, 0 ≤ p ∧ 0 ≤ q ∧ x = .int .i64 p ∧ y = .int .i64 q ∧ Hid (Int.gcd p q = Int.gcd a b) ∧ ∃ m, wr = w.drewN m) (fun _ y _ => (intOf y).toNat)
  case atStart => exact ⟨a, b, ha, hb, rfl, rfl, rfl, 0, rfl⟩
  case round =>
    obtain ⟨p, q, hp, hq, rfl, rfl, hg, m, rfl⟩ := hrel
    by_cases h0 : q = 0
    · subst h0
      go_wp2
      go_ret
      refine ⟨?_, m, rfl⟩
      have := hg.out
      simp at this
      rw [← this]
      simp; omega
    · have hne : (q != 0) = true := by simp [h0]
      have hne' : (q == 0) = false := by simp [h0]
      have hg' : Hid (Int.gcd q (p % q) = Int.gcd a b) := by
        have h2 := hg.out
        show _ = _
        rw [← h2]; exact gcd_step p q
      clear hg
      go_wp2
      go_quiet (fail)
      go_wp2
      go_roundw
      case rel => exact ⟨q, p % q, hq, Int.emod_nonneg _ h0, by go_num, by go_num, hg', m + nq, by rw [World.drewN_drewN]⟩
      case measure => have := Int.emod_lt_of_pos p (show 0 < q by omega); simp [intOf]; omega
end Go.Proofs.Ytdgigbehdmhflaa
