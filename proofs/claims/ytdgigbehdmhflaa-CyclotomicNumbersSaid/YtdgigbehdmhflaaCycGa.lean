/- CyclotomicGalois: the walk. -/
import Derived.Test.YtdgigbehdmhflaaCycRing
namespace Go.Proofs.Ytdgigbehdmhflaa
open Go.RowKit
set_option linter.unusedVariables false
namespace Cyc
section
variable {n : Nat} (h1 : 1 ≤ n) (h2 : n ≤ 64)
include h1 h2
theorem gal_lin (x : List Int) (r : Nat) (s : Nat) (hs : Moves n s) (i : Nat) : linS n (specL n (linS n x r)) s i = sumTo x.length (fun m => x[m]?.getD 0 * red n (m * r * s) i) := by
  rw [lin_move h1 h2]
  unfold linS
  rw [sumTo_sum_mul]
  refine sumTo_congr fun m _ => ?_
  have e : sumTo (deg n) (fun j => x[m]?.getD 0 * red n (m * r) j * red n (j * s) i) = x[m]?.getD 0 * sumTo (deg n) (fun j => red n (m * r) j * red n (j * s) i) := by
    rw [← sumTo_mul]; exact sumTo_congr fun j _ => Int.mul_assoc _ _ _
  rw [e, hs]
theorem gal_mul (x y : List Int) (r : Nat) (hr : Moves n r) (i : Nat) : linS n (specL n (mulS n x y)) r i = sumTo x.length (fun p => x[p]?.getD 0 * sumTo y.length (fun q => y[q]?.getD 0 * red n ((p + q) * r) i)) := by
  rw [lin_move h1 h2]
  unfold mulS
  rw [sumTo_sum_mul]
  refine sumTo_congr fun p _ => ?_
  have e : sumTo (deg n) (fun j => x[p]?.getD 0 * sumTo y.length (fun q => y[q]?.getD 0 * red n (p + q) j) * red n (j * r) i) = x[p]?.getD 0 * sumTo (deg n) (fun j => sumTo y.length (fun q => y[q]?.getD 0 * red n (p + q) j) * red n (j * r) i) := by
    rw [← sumTo_mul]; exact sumTo_congr fun j _ => Int.mul_assoc _ _ _
  rw [e, sumTo_sum_mul]
  congr 1
  refine sumTo_congr fun q _ => ?_
  have e : sumTo (deg n) (fun j => y[q]?.getD 0 * red n (p + q) j * red n (j * r) i) = y[q]?.getD 0 * sumTo (deg n) (fun j => red n (p + q) j * red n (j * r) i) := by
    rw [← sumTo_mul]; exact sumTo_congr fun j _ => Int.mul_assoc _ _ _
  rw [e, hr]
theorem mul_gal (x y : List Int) (r : Nat) (i : Nat) : mulS n (specL n (linS n x r)) (specL n (linS n y r)) i = sumTo x.length (fun p => x[p]?.getD 0 * sumTo y.length (fun q => y[q]?.getD 0 * red n ((p + q) * r) i)) := by
  rw [mul_left_spec h1 h2, specL_length]
  have e : sumTo (deg n) (fun k => (specL n (linS n y r))[k]?.getD 0 * act n (linS n x r) k i) = sumTo (deg n) (fun k => sumTo x.length (fun m => x[m]?.getD 0 * (linS n y r k * red n (k + m * r) i))) := sumTo_congr fun k hk => by
    rw [specL_getD, if_pos hk, act_lin h1 h2, ← sumTo_mul]
    exact sumTo_congr fun m _ => by rw [Int.mul_left_comm, Nat.add_comm (m * r) k]
  rw [e, sumTo_swap]
  refine sumTo_congr fun m _ => ?_
  rw [sumTo_mul]
  congr 1
  have := act_lin h1 h2 y r (m * r) i
  refine this.trans (sumTo_congr fun q _ => ?_)
  rw [show q * r + m * r = (m + q) * r by rw [Nat.add_mul]; omega]
end
end Cyc

theorem rgcd_any (a b : Int) (w : World) (ha : 0 ≤ a) (hb : 0 ≤ b) :
    Calls Try.prog 37 #[.int .i64 a, .int .i64 b] w fun e w' => e = .returned (.int .i64 (Int.gcd a b)) ∧ ∃ m, w' = w.drewN m := by
  go_enter Try.func37, Try.ntmps37
  go_wp2
  go_loopw [0, 1] (fun x y wr => ∃ p q : Int, 0 ≤ p ∧ 0 ≤ q ∧ x = .int .i64 p ∧ y = .int .i64 q ∧ Hid (Int.gcd p q = Int.gcd a b) ∧ ∃ m, wr = w.drewN m) (fun _ y _ => (intOf y).toNat)
  case atStart => exact ⟨a, b, ha, hb, rfl, rfl, rfl, 0, rfl⟩
  case round =>
    obtain ⟨p, q, hp, hq, rfl, rfl, hg, m, rfl⟩ := hrel
    by_cases h0 : q = 0
    · subst h0
      go_wp2
      go_ret
      refine ⟨?_, m, rfl⟩
      have := hg.out
      simp at this
      rw [← this]
      simp; omega
    · have hne : (q != 0) = true := by simp [h0]
      have hne' : (q == 0) = false := by simp [h0]
      have hg' : Hid (Int.gcd q (p % q) = Int.gcd a b) := by
        have h2 := hg.out
        show _ = _
        rw [← h2]; exact gcd_step p q
      clear hg
      go_wp2
      go_quiet (fail)
      go_wp2
      go_roundw
      case rel => exact ⟨q, p % q, hq, Int.emod_nonneg _ h0, by go_num, by go_num, hg', m + nq, by rw [World.drewN_drewN]⟩
      case measure => have := Int.emod_lt_of_pos p (show 0 < q by omega); simp [intOf]; omega
theorem In_yes (v lo hi : Int) (w : World) (h1 : lo ≤ v) (h2 : v ≤ hi) :
    Calls Try.prog 36 #[.int .i64 v, .int .i64 lo, .int .i64 hi] w fun e w' => e = .returned (.bool true) ∧ w = w' := by
  go_enter Try.func36, Try.ntmps36
  go_wp2
  go_ret
  exact ⟨by simp, rfl⟩
theorem emod_plus (k z : Int) (h : 0 < z) : k.tmod z % z = k % z := by
  have := Int.mul_tdiv_add_tmod k z
  conv => rhs; rw [← this]
  rw [Int.add_emod, Int.mul_emod_right, Int.zero_add, Int.emod_emod_of_dvd _ (Int.dvd_refl z)]
theorem rGalois_gcd (A : Option Addr) (m c : Nat) (k z : Int) (w : World) (hk1 : -9223372036854775808 ≤ k) (hk2 : k ≤ 9223372036854775807) (h1 : 1 ≤ z) (h2 : z ≤ 64) (hg : Int.gcd (k % z) z ≠ 1) :
    Calls Try.prog 18 #[.slice A m c, .int .i64 k, .int .i64 z] w fun e w' => e = .returned (.tuple #[.slice none 0 0, .int .i64 1]) ∧ Below w.heap.size w w' := by
  have hr1 := Int.emod_nonneg k (show z ≠ 0 by omega)
  have hq1 := Int.tmod_lt_of_pos k (show 0 < z by omega)
  have hq2 := neg_lt_tmod k z (by omega)
  have hgb : (((Int.gcd (k % z) z : Nat) : Int) != 1) = true := by rw [bne_iff_ne]; omega
  have He := Lib.hid (emod_plus k z (by omega))
  clear hg
  go_enter Try.func18, Try.ntmps18
  go_wp2_with fail
  refine (In_yes _ _ _ _ h1 h2).mono ?_
  rintro e w1 ⟨rfl, rfl⟩
  go_wp2_with fail
  rw [He.out]
  refine (rgcd_any _ _ _ (by omega) (by omega)).mono ?_
  rintro e w1 ⟨rfl, m1, rfl⟩
  go_wp2
  go_ret2
  exact ⟨rfl, ⟨rfl, rfl, rfl, Nat.le_refl _, fun _ _ => rfl⟩⟩

set_option maxHeartbeats 4000000 in
set_option maxRecDepth 100000 in
theorem galois_walk (A B : Option Addr) (na ca nb cb : Nat) (a b : List Int) (j k v : Int) (w : World) (ha : SlR .i64 w A na ca a) (hb : SlR .i64 w B nb cb b) (fa : Fit a) (fb : Fit b) (hv1 : -9223372036854775808 ≤ v) (hv2 : v ≤ 9223372036854775807) :
    Calls Try.prog 5 #[.slice A na ca, .slice B nb cb, .int .i64 j, .int .i64 k, .int .i64 v] w fun e w' => e = .returned (.bool true) ∧ Below w.heap.size w w' := by
  have hn0 := Int.emod_nonneg v (show (64 : Int) ≠ 0 by omega)
  have hn1 := Int.emod_lt_of_pos v (show (0 : Int) < 64 by omega)
  obtain ⟨n', hn'⟩ := Int.eq_ofNat_of_zero_le hn0
  obtain ⟨n, hn⟩ : ∃ n, n = n' + 1 := ⟨_, rfl⟩
  have h1 : 1 ≤ n := by omega
  have h2 : n ≤ 64 := by omega
  have z1 : (1 : Int) ≤ n := by omega
  have z2 : (n : Int) ≤ 64 := by omega
  have Hn : Hid (1 + v % 64 = (n : Int)) := by show _ = _; omega
  have hlo : 0 ≤ v % 64 := hn0
  have hhi : v % 64 < 64 := hn1
  clear hn' hn hn0 hn1
  have j1 := neg_lt_tmod j 1000 (by omega)
  have j2 := Int.tmod_lt_of_pos j (show (0 : Int) < 1000 by omega)
  have k1 := neg_lt_tmod k 1000 (by omega)
  have k2 := Int.tmod_lt_of_pos k (show (0 : Int) < 1000 by omega)
  have ham : na ≤ maxLen := Nat.le_trans ha.2.1 ha.2.2.1
  have hbm : nb ≤ maxLen := Nat.le_trans hb.2.1 hb.2.2.1
  unfold maxLen at ham hbm
  obtain ⟨kx, hkx1, hkx2⟩ : ∃ kz : Nat, kz ≤ 20 ∧ (if (20 : Int) < (na : Int) then (20 : Int) else (na : Int)) = kz := by
    by_cases h : na ≤ 20
    · exact ⟨na, h, by rw [if_neg (by omega)]⟩
    · exact ⟨20, by omega, by rw [if_pos (by omega)]; rfl⟩
  obtain ⟨ky, hky1, hky2⟩ : ∃ kz : Nat, kz ≤ 20 ∧ (if (20 : Int) < (nb : Int) then (20 : Int) else (nb : Int)) = kz := by
    by_cases h : nb ≤ 20
    · exact ⟨nb, h, by rw [if_neg (by omega)]⟩
    · exact ⟨20, by omega, by rw [if_pos (by omega)]; rfl⟩
  have Hfa := Lib.hid fa; have Hfb := Lib.hid fb
  clear fa fb
  go_enter Try.func5, Try.ntmps5
  go_wp2_with fail
  refine (within_any v 64 _ hv1 hv2 (by omega) (by omega)).mono ?_
  rintro e w1 ⟨rfl, rfl⟩
  go_wp2_with fail
  refine (Below_any 60 A na ca a _ _ ha Hfa.out (by omega) (by omega) (by omega) (by omega)).mono ?_
  rintro e w1 ⟨Ax, cx, x, rfl, ox, bx, b1⟩
  rw [Int.toNat_natCast] at ox ⊢
  have hx := ox.slr
  replace hb := hb.below b1
  have bel := b1
  clear ox b1 ha
  go_wp2_with fail
  refine (Below_any 60 B nb cb b _ _ hb Hfb.out (by omega) (by omega) (by omega) (by omega)).mono ?_
  rintro e w2 ⟨Ay, cy, y, rfl, oy, by_, b2⟩
  rw [Int.toNat_natCast] at oy ⊢
  have hy := oy.slr
  replace hx := hx.below b2
  replace bel := bel.trans (b2.mono bel.size)
  clear oy b2 hb Hfa Hfb
  have hlx : x.length ≤ 20 := by rw [hx.1]; exact hkx1
  have hly : y.length ≤ 20 := by rw [hy.1]; exact hky1
  have vx : Hid (Valid x) := Cyc.valid_bd bx.out (by omega) (by omega) (by omega)
  have vy : Hid (Valid y) := Cyc.valid_bd by_.out (by omega) (by omega) (by omega)
  have gx := Lib.hid (Cyc.get_lt x 60 bx.out (by omega))
  have gy := Lib.hid (Cyc.get_lt y 60 by_.out (by omega))
  have vp : Hid (Valid (Cyc.specL n (Cyc.mulS n x y))) := Cyc.valid_spec h1 h2 fun i _ => by
    have e1 := Cyc.mulS_bd h1 h2 (a := x) (b := y) 60 60 gx.out gy.out 20 20 hlx hly i
    omega
  go_wp2_with fail
  rw [Hn.out]
  clear hlo hhi hkx2 hky2
  generalize j.tmod 1000 = J at *
  generalize k.tmod 1000 = K at *
  refine (Mul_ok _ _ _ _ _ _ _ _ _ _ hx hy vx.out vy.out z1 z2).mono ?_
  rintro e w3 ⟨Ap, cp, rfl, op, b3⟩
  rw [Int.toNat_natCast] at op ⊢
  have hp := op.slr
  replace hx := hx.below b3
  replace hy := hy.below b3
  replace bel := bel.trans (b3.mono bel.size)
  clear op b3
  go_wp2_with fail
  have hr1 := Int.emod_nonneg K (show (n : Int) ≠ 0 by omega)
  have hr2 := Int.emod_lt_of_pos K (show (0 : Int) < n by omega)
  by_cases hg : Int.gcd (K % n) n = 1
  · have Hg := Lib.hid hg; clear hg
    have hmv := Cyc.moves_res h1 h2 (K % n).toNat (by omega) (by
      have := Hg.out
      rw [← Int.toNat_of_nonneg hr1] at this
      exact this)
    have vu : Hid (Valid (Cyc.specL n (Cyc.linS n x (K % n).toNat))) := Cyc.valid_spec h1 h2 fun i _ => by
      have e1 := Cyc.linS_bd h1 h2 (b := 60) (l := 20) gx.out hlx (K % n).toNat i
      omega
    have vv : Hid (Valid (Cyc.specL n (Cyc.linS n y (K % n).toNat))) := Cyc.valid_spec h1 h2 fun i _ => by
      have e1 := Cyc.linS_bd h1 h2 (b := 60) (l := 20) gy.out hly (K % n).toNat i
      omega
    have LW : Hid (Cyc.specL n (Cyc.linS n (Cyc.specL n (Cyc.mulS n x y)) (K % n).toNat) = Cyc.specL n (Cyc.mulS n (Cyc.specL n (Cyc.linS n x (K % n).toNat)) (Cyc.specL n (Cyc.linS n y (K % n).toNat)))) := Cyc.specL_congr fun i _ => by
      rw [Cyc.gal_mul h1 h2 x y _ hmv, Cyc.mul_gal h1 h2]
    have Hmv := Lib.hid hmv
    clear hmv bx by_ gx gy hlx hly
    refine (Galois_ok _ _ _ _ K n _ hx vx.out (by omega) (by omega) z1 z2 Hg.out).mono ?_
    rintro e w4 ⟨Au, cu, rfl, ou, b4⟩
    rw [Int.toNat_natCast] at ou ⊢
    have hu := ou.slr
    replace hx := hx.below b4
    replace hy := hy.below b4
    replace hp := hp.below b4
    replace bel := bel.trans (b4.mono bel.size)
    clear ou b4
    go_wp2_with fail
    refine (Galois_ok _ _ _ _ K n _ hy vy.out (by omega) (by omega) z1 z2 Hg.out).mono ?_
    rintro e w5 ⟨Av, cv, rfl, ov, b5⟩
    rw [Int.toNat_natCast] at ov ⊢
    have hv := ov.slr
    replace hx := hx.below b5
    replace hy := hy.below b5
    replace hp := hp.below b5
    replace hu := hu.below b5
    replace bel := bel.trans (b5.mono bel.size)
    clear ov b5
    go_wp2_with fail
    refine (Galois_ok _ _ _ _ K n _ hp vp.out (by omega) (by omega) z1 z2 Hg.out).mono ?_
    rintro e w6 ⟨Aw, cw, rfl, ow, b6⟩
    rw [Int.toNat_natCast] at ow ⊢
    have hw := ow.slr
    replace hx := hx.below b6
    replace hy := hy.below b6
    replace hp := hp.below b6
    replace hu := hu.below b6
    replace hv := hv.below b6
    replace bel := bel.trans (b6.mono bel.size)
    clear ow b6
    go_wp2_with fail
    refine (Mul_ok _ _ _ _ _ _ _ _ _ _ hu hv vu.out vv.out z1 z2).mono ?_
    rintro e w7 ⟨Aq, cq, rfl, oq, b7⟩
    rw [Int.toNat_natCast] at oq ⊢
    have hq := oq.slr
    replace hx := hx.below b7
    replace hy := hy.below b7
    replace hp := hp.below b7
    replace hu := hu.below b7
    replace hv := hv.below b7
    replace hw := hw.below b7
    replace bel := bel.trans (b7.mono bel.size)
    clear oq b7
    go_wp2_with fail
    have hs1 := Int.emod_nonneg J (show (n : Int) ≠ 0 by omega)
    have hs2 := Int.emod_lt_of_pos J (show (0 : Int) < n by omega)
    have hjk1 : -1000000 ≤ J * K := by have := (Cyc.mul_bd (A := 1000) (B := 1000) (x := J) (y := K) (by omega) (by omega)).1; omega
    have hjk2 : J * K ≤ 1000000 := by have := (Cyc.mul_bd (A := 1000) (B := 1000) (x := J) (y := K) (by omega) (by omega)).2; omega
    have hjk3 := Int.emod_nonneg (J * K) (show (n : Int) ≠ 0 by omega)
    have hjk4 := Int.emod_lt_of_pos (J * K) (show (0 : Int) < n by omega)
    by_cases hg2 : Int.gcd (J % n) n = 1
    · have Hg2 := Lib.hid hg2; clear hg2
      have hmv2 := Cyc.moves_res h1 h2 (J % n).toNat (by omega) (by
        have := Hg2.out
        rw [← Int.toNat_of_nonneg hs1] at this
        exact this)
      have e5 : (((K % n).toNat * (J % n).toNat % n : Nat) : Int) = (J * K) % n := by
        rw [Int.natCast_emod, Int.natCast_mul, Int.toNat_of_nonneg hr1, Int.toNat_of_nonneg hs1, ← Int.mul_emod, Int.mul_comm]
      have hg3 : Hid (Int.gcd (J * K % n) n = 1) := by
        have a1 := Hg.out
        have a2 := Hg2.out
        rw [← Int.toNat_of_nonneg hr1] at a1
        rw [← Int.toNat_of_nonneg hs1] at a2
        show _ = _
        rw [← e5]
        change Nat.gcd ((K % n).toNat * (J % n).toNat % n) n = 1
        rw [← Nat.gcd_rec, Nat.gcd_comm]
        exact Nat.Coprime.mul_left a1 a2
      have LS : Hid (Cyc.specL n (Cyc.linS n (Cyc.specL n (Cyc.linS n x (K % n).toNat)) (J % n).toNat) = Cyc.specL n (Cyc.linS n x (J * K % n).toNat)) := Cyc.specL_congr fun i _ => by
        rw [Cyc.gal_lin h1 h2 x _ _ hmv2]
        unfold Cyc.linS
        refine Cyc.sumTo_congr fun m _ => ?_
        congr 1
        have e6 : (J * K % n).toNat = (K % n).toNat * (J % n).toNat % n := by omega
        rw [e6, ← Cyc.red_mod h1 h2 (m * ((K % n).toNat * (J % n).toNat % n)), Nat.mul_mod_mod, Cyc.red_mod h1 h2, Nat.mul_assoc]
      clear hmv2 e5
      refine (Galois_ok _ _ _ _ J n _ hu vu.out (by omega) (by omega) z1 z2 Hg2.out).mono ?_
      rintro e w8 ⟨Ar, cr, rfl, or, b8⟩
      rw [Int.toNat_natCast] at or ⊢
      have hr := or.slr
      replace hx := hx.below b8
      replace hy := hy.below b8
      replace hp := hp.below b8
      replace hu := hu.below b8
      replace hv := hv.below b8
      replace hw := hw.below b8
      replace hq := hq.below b8
      replace bel := bel.trans (b8.mono bel.size)
      clear or b8
      go_wp2_with fail
      refine (Galois_ok _ _ _ _ (J * K) n _ hx vx.out (by omega) (by omega) z1 z2 hg3.out).mono ?_
      rintro e w9 ⟨As, cs, rfl, os, b9⟩
      rw [Int.toNat_natCast] at os ⊢
      have hs := os.slr
      replace hx := hx.below b9
      replace hy := hy.below b9
      replace hp := hp.below b9
      replace hu := hu.below b9
      replace hv := hv.below b9
      replace hw := hw.below b9
      replace hq := hq.below b9
      replace hr := hr.below b9
      replace bel := bel.trans (b9.mono bel.size)
      clear os b9
      go_wp2_with fail
      refine (known_true _).mono ?_
      rintro e w20 ⟨rfl, b20⟩
      replace hw := hw.below b20
      replace hq := hq.below b20
      replace hr := hr.below b20
      replace hs := hs.below b20
      replace bel := bel.trans (b20.mono bel.size)
      rw [LW.out] at hw
      rw [LS.out] at hr
      go_wp2_with fail
      refine (SameInts_eq _ _ _ _ _ _ _ hw hq).mono ?_
      rintro e w21 ⟨rfl, m21, rfl⟩
      go_wp2_with fail
      refine (SameInts_eq _ _ _ _ _ _ _ (hr.drewN m21) (hs.drewN m21)).mono ?_
      rintro e w22 ⟨rfl, m22, rfl⟩
      go_wp2
      go_ret
      exact ⟨rfl, bel.trans ⟨rfl, rfl, rfl, Nat.le_refl _, fun _ _ => rfl⟩⟩
    · have Hg2 := Lib.hid hg2; clear hg2
      refine (Galois_gcd _ _ _ J n _ (by omega) (by omega) z1 z2 Hg2.out).mono ?_
      rintro e w15 ⟨rfl, b15⟩
      replace hx := hx.below b15
      replace hy := hy.below b15
      replace hp := hp.below b15
      replace hu := hu.below b15
      replace hv := hv.below b15
      replace hw := hw.below b15
      replace hq := hq.below b15
      replace bel := bel.trans (b15.mono bel.size)
      clear b15
      go_wp2_with fail
      by_cases hg3 : Int.gcd (J * K % n) n = 1
      · have Hg3 := Lib.hid hg3; clear hg3
        refine (Galois_ok _ _ _ _ (J * K) n _ hx vx.out (by omega) (by omega) z1 z2 Hg3.out).mono ?_
        rintro e w8 ⟨As, cs, rfl, os, b8⟩
        rw [Int.toNat_natCast] at os ⊢
        have hs := os.slr
        replace hx := hx.below b8
        replace hy := hy.below b8
        replace hp := hp.below b8
        replace hu := hu.below b8
        replace hv := hv.below b8
        replace hw := hw.below b8
        replace hq := hq.below b8
        replace bel := bel.trans (b8.mono bel.size)
        clear os b8
        go_wp2_with fail
        refine (known_true _).mono ?_
        rintro e w20 ⟨rfl, b20⟩
        replace hw := hw.below b20
        replace hq := hq.below b20
        replace bel := bel.trans (b20.mono bel.size)
        rw [LW.out] at hw
        go_wp2_with fail
        refine (SameInts_eq _ _ _ _ _ _ _ hw hq).mono ?_
        rintro e w21 ⟨rfl, m21, rfl⟩
        go_wp2
        go_ret
        exact ⟨rfl, bel.trans ⟨rfl, rfl, rfl, Nat.le_refl _, fun _ _ => rfl⟩⟩
      · have Hg3 := Lib.hid hg3; clear hg3
        refine (Galois_gcd _ _ _ (J * K) n _ (by omega) (by omega) z1 z2 Hg3.out).mono ?_
        rintro e w16 ⟨rfl, b16⟩
        replace hx := hx.below b16
        replace hy := hy.below b16
        replace hp := hp.below b16
        replace hu := hu.below b16
        replace hv := hv.below b16
        replace hw := hw.below b16
        replace hq := hq.below b16
        replace bel := bel.trans (b16.mono bel.size)
        clear b16
        go_wp2_with fail
        refine (known_true _).mono ?_
        rintro e w20 ⟨rfl, b20⟩
        replace hw := hw.below b20
        replace hq := hq.below b20
        replace bel := bel.trans (b20.mono bel.size)
        rw [LW.out] at hw
        go_wp2_with fail
        refine (SameInts_eq _ _ _ _ _ _ _ hw hq).mono ?_
        rintro e w21 ⟨rfl, m21, rfl⟩
        go_wp2
        go_ret
        exact ⟨rfl, bel.trans ⟨rfl, rfl, rfl, Nat.le_refl _, fun _ _ => rfl⟩⟩
  · have Hg := Lib.hid hg; clear hg
    refine (Galois_gcd _ _ _ K n _ (by omega) (by omega) z1 z2 Hg.out).mono ?_
    rintro e w4 ⟨rfl, b4⟩
    replace hx := hx.below b4
    replace hy := hy.below b4
    replace hp := hp.below b4
    replace bel := bel.trans (b4.mono bel.size)
    clear b4
    go_wp2_with fail
    refine (Galois_gcd _ _ _ K n _ (by omega) (by omega) z1 z2 Hg.out).mono ?_
    rintro e w5 ⟨rfl, b5⟩
    replace hx := hx.below b5
    replace hy := hy.below b5
    replace hp := hp.below b5
    replace bel := bel.trans (b5.mono bel.size)
    clear b5
    go_wp2_with fail
    refine (Galois_gcd _ _ _ K n _ (by omega) (by omega) z1 z2 Hg.out).mono ?_
    rintro e w6 ⟨rfl, b6⟩
    replace hx := hx.below b6
    replace hy := hy.below b6
    replace hp := hp.below b6
    replace bel := bel.trans (b6.mono bel.size)
    clear b6
    go_wp2_with fail
    refine (rGalois_gcd _ _ _ K n _ (by omega) (by omega) z1 z2 Hg.out).mono ?_
    rintro e w7 ⟨rfl, b7⟩
    replace bel := bel.trans (b7.mono bel.size)
    clear b7
    go_wp2_with fail
    refine (known_true _).mono ?_
    rintro e w20 ⟨rfl, b20⟩
    replace bel := bel.trans (b20.mono bel.size)
    go_wp2
    go_ret
    exact ⟨rfl, bel⟩
end Go.Proofs.Ytdgigbehdmhflaa
