/- CyclotomicIsARing: the walk. -/
import Derived.Test.YtdgigbehdmhflaaCycRing
namespace Go.Proofs.Ytdgigbehdmhflaa
open Go.RowKit
set_option linter.unusedVariables false

theorem SlR.of_own {k : IntKind} {w : World} {B : Nat} {t : TypeId} {A : Option Addr} {n c : Nat} {l : List Int} (h : OwnK k w B t A n c l) : SlR k w A n c l := h.slr

set_option maxHeartbeats 4000000 in
set_option maxRecDepth 100000 in
theorem ring_walk (A B C : Option Addr) (na ca nb cb nc cc : Nat) (a b c : List Int) (v : Int) (w : World) (ha : SlR .i64 w A na ca a) (hb : SlR .i64 w B nb cb b) (hc : SlR .i64 w C nc cc c) (fa : Fit a) (fb : Fit b) (fc : Fit c) (hv1 : -9223372036854775808 ≤ v) (hv2 : v ≤ 9223372036854775807) :
    Calls Try.prog 4 #[.slice A na ca, .slice B nb cb, .slice C nc cc, .int .i64 v] w fun e w' => e = .returned (.bool true) ∧ Below w.heap.size w w' := by
  have hn0 := Int.emod_nonneg v (show (64 : Int) ≠ 0 by omega)
  have hn1 := Int.emod_lt_of_pos v (show (0 : Int) < 64 by omega)
  obtain ⟨n', hn'⟩ := Int.eq_ofNat_of_zero_le hn0
  obtain ⟨n, hn⟩ : ∃ n, n = n' + 1 := ⟨_, rfl⟩
  have h1 : 1 ≤ n := by omega
  have h2 : n ≤ 64 := by omega
  have z1 : (1 : Int) ≤ n := by omega
  have z2 : (n : Int) ≤ 64 := by omega
  have Hn : Hid (1 + v % 64 = (n : Int)) := by show _ = _; omega
  have hlo : 0 ≤ v % 64 := hn0
  have hhi : v % 64 < 64 := hn1
  clear hn' hn hn0 hn1
  have hcm : nc ≤ maxLen := Nat.le_trans hc.2.1 hc.2.2.1
  unfold maxLen at hcm
  obtain ⟨kz, hkz1, hkz2⟩ : ∃ kz : Nat, kz ≤ 20 ∧ (if (20 : Int) < (nc : Int) then (20 : Int) else (nc : Int)) = kz := by
    by_cases h : nc ≤ 20
    · exact ⟨nc, h, by rw [if_neg (by omega)]⟩
    · exact ⟨20, by omega, by rw [if_pos (by omega)]; rfl⟩
  have Hfa := Lib.hid fa; have Hfb := Lib.hid fb; have Hfc := Lib.hid fc
  clear fa fb fc
  go_enter Try.func4, Try.ntmps4
  go_wp2_with fail
  refine (within_any v 64 _ hv1 hv2 (by omega) (by omega)).mono ?_
  rintro e w1 ⟨rfl, rfl⟩
  go_wp2_with fail
  refine (small_any A na ca a _ ha Hfa.out).mono ?_
  rintro e w1 ⟨mx, Ax, cx, x, hmx, rfl, ox, bx, b1⟩
  have hx := ox.slr
  replace hb := hb.below b1
  replace hc := hc.below b1
  have bel := b1
  clear ox b1 ha
  go_wp2_with fail
  refine (small_any B nb cb b _ hb Hfb.out).mono ?_
  rintro e w2 ⟨my, Ay, cy, y, hmy, rfl, oy, by_, b2⟩
  have hy := oy.slr
  replace hx := hx.below b2
  replace hc := hc.below b2
  replace bel := bel.trans (b2.mono bel.size)
  clear oy b2 hb
  go_wp2_with fail
  refine (Below_any 25 C nc cc c _ _ hc Hfc.out (by omega) (by omega) (by omega) (by omega)).mono ?_
  rintro e w3 ⟨Az, cz, z, rfl, oz, bz, b3⟩
  rw [Int.toNat_natCast] at oz ⊢
  have hz := oz.slr
  replace hx := hx.below b3
  replace hy := hy.below b3
  replace bel := bel.trans (b3.mono bel.size)
  clear oz b3 hc Hfa Hfb Hfc
  have vx : Hid (Valid x) := Cyc.valid_bd bx.out (by omega) (by omega) (by rw [hx.1]; omega)
  have vy : Hid (Valid y) := Cyc.valid_bd by_.out (by omega) (by omega) (by rw [hy.1]; omega)
  have vz : Hid (Valid z) := Cyc.valid_bd bz.out (by omega) (by omega) (by rw [hz.1]; omega)
  have hlx : x.length ≤ 40 := by rw [hx.1]; exact hmx
  have hly : y.length ≤ 40 := by rw [hy.1]; exact hmy
  have hlz : z.length ≤ 20 := by rw [hz.1]; exact hkz1
  have gx := Lib.hid (Cyc.get_lt x 200 bx.out (by omega))
  have gy := Lib.hid (Cyc.get_lt y 200 by_.out (by omega))
  have gz := Lib.hid (Cyc.get_lt z 25 bz.out (by omega))
  have vs : Hid (Valid (Cyc.specL n (fun i => Cyc.linS n x 1 i + Cyc.linS n y 1 i))) := Cyc.valid_spec h1 h2 fun i _ => by
    have e1 := Cyc.linS_bd h1 h2 (b := 200) (l := 40) gx.out hlx 1 i
    have e2 := Cyc.linS_bd h1 h2 (b := 200) (l := 40) gy.out hly 1 i
    omega
  have vu : Hid (Valid (Cyc.specL n (Cyc.mulS n x z))) := Cyc.valid_spec h1 h2 fun i _ => by
    have e1 := Cyc.mulS_bd h1 h2 (a := x) (b := z) 200 25 gx.out gz.out 40 20 hlx hlz i
    omega
  have vv : Hid (Valid (Cyc.specL n (Cyc.mulS n y z))) := Cyc.valid_spec h1 h2 fun i _ => by
    have e1 := Cyc.mulS_bd h1 h2 (a := y) (b := z) 200 25 gy.out gz.out 40 20 hly hlz i
    omega
  have LC : Hid (Cyc.specL n (Cyc.mulS n y x) = Cyc.specL n (Cyc.mulS n x y)) := Cyc.specL_congr fun i _ => Cyc.mul_comm' y x i
  have LD : Hid (Cyc.specL n (fun i => Cyc.linS n (Cyc.specL n (Cyc.mulS n x z)) 1 i + Cyc.linS n (Cyc.specL n (Cyc.mulS n y z)) 1 i) = Cyc.specL n (Cyc.mulS n (Cyc.specL n (fun i => Cyc.linS n x 1 i + Cyc.linS n y 1 i)) z)) := Cyc.specL_congr fun i hi => (Cyc.dist h1 h2 x y z i hi).symm
  have LA : Hid (Cyc.specL n (Cyc.mulS n x (Cyc.specL n (Cyc.mulS n y z))) = Cyc.specL n (Cyc.mulS n (Cyc.specL n (Cyc.mulS n x y)) z)) := Cyc.specL_congr fun i _ => (Cyc.assoc h1 h2 x y z i).symm
  clear bx by_ bz gx gy gz hlx hly hlz
  go_wp2_with fail
  rw [Hn.out]
  clear hlo hhi
  refine (Mul_ok _ _ _ _ _ _ _ _ _ _ hx hy vx.out vy.out z1 z2).mono ?_
  rintro e w4 ⟨Ap, cp, rfl, op, b4⟩
  rw [Int.toNat_natCast] at op ⊢
  have hp := op.slr
  replace hx := hx.below b4
  replace hy := hy.below b4
  replace hz := hz.below b4
  replace bel := bel.trans (b4.mono bel.size)
  clear op b4
  go_wp2_with fail
  refine (Mul_ok _ _ _ _ _ _ _ _ _ _ hy hx vy.out vx.out z1 z2).mono ?_
  rintro e w5 ⟨Aq, cq, rfl, oq, b5⟩
  rw [Int.toNat_natCast] at oq ⊢
  have hq := oq.slr
  replace hx := hx.below b5
  replace hy := hy.below b5
  replace hz := hz.below b5
  replace hp := hp.below b5
  replace bel := bel.trans (b5.mono bel.size)
  clear oq b5
  go_wp2_with fail
  refine (Add_ok _ _ _ _ _ _ _ _ _ _ hx hy vx.out vy.out z1 z2).mono ?_
  rintro e w6 ⟨As, cs, rfl, os, b6⟩
  rw [Int.toNat_natCast] at os ⊢
  have hs := os.slr
  replace hx := hx.below b6
  replace hy := hy.below b6
  replace hz := hz.below b6
  replace hp := hp.below b6
  replace hq := hq.below b6
  replace bel := bel.trans (b6.mono bel.size)
  clear os b6
  go_wp2_with fail
  refine (Mul_ok _ _ _ _ _ _ _ _ _ _ hs hz vs.out vz.out z1 z2).mono ?_
  rintro e w7 ⟨Al, cl, rfl, ol, b7⟩
  rw [Int.toNat_natCast] at ol ⊢
  have hl := ol.slr
  replace hx := hx.below b7
  replace hy := hy.below b7
  replace hz := hz.below b7
  replace hp := hp.below b7
  replace hq := hq.below b7
  replace hs := hs.below b7
  replace bel := bel.trans (b7.mono bel.size)
  clear ol b7
  go_wp2_with fail
  refine (Mul_ok _ _ _ _ _ _ _ _ _ _ hx hz vx.out vz.out z1 z2).mono ?_
  rintro e w8 ⟨Au, cu, rfl, ou, b8⟩
  rw [Int.toNat_natCast] at ou ⊢
  have hu := ou.slr
  replace hx := hx.below b8
  replace hy := hy.below b8
  replace hz := hz.below b8
  replace hp := hp.below b8
  replace hq := hq.below b8
  replace hs := hs.below b8
  replace hl := hl.below b8
  replace bel := bel.trans (b8.mono bel.size)
  clear ou b8
  go_wp2_with fail
  refine (Mul_ok _ _ _ _ _ _ _ _ _ _ hy hz vy.out vz.out z1 z2).mono ?_
  rintro e w9 ⟨Av, cv, rfl, ov, b9⟩
  rw [Int.toNat_natCast] at ov ⊢
  have hv := ov.slr
  replace hx := hx.below b9
  replace hy := hy.below b9
  replace hz := hz.below b9
  replace hp := hp.below b9
  replace hq := hq.below b9
  replace hs := hs.below b9
  replace hl := hl.below b9
  replace hu := hu.below b9
  replace bel := bel.trans (b9.mono bel.size)
  clear ov b9
  go_wp2_with fail
  refine (Add_ok _ _ _ _ _ _ _ _ _ _ hu hv vu.out vv.out z1 z2).mono ?_
  rintro e w10 ⟨Ar, cr, rfl, or, b10⟩
  rw [Int.toNat_natCast] at or ⊢
  have hr := or.slr
  replace hx := hx.below b10
  replace hy := hy.below b10
  replace hz := hz.below b10
  replace hp := hp.below b10
  replace hq := hq.below b10
  replace hs := hs.below b10
  replace hl := hl.below b10
  replace hu := hu.below b10
  replace hv := hv.below b10
  replace bel := bel.trans (b10.mono bel.size)
  clear or b10
  go_wp2_with fail
  by_cases vp : Valid (Cyc.specL n (Cyc.mulS n x y))
  · have Vp := Lib.hid vp; clear vp
    refine (Mul_ok _ _ _ _ _ _ _ _ _ _ hp hz Vp.out vz.out z1 z2).mono ?_
    rintro e w11 ⟨Ai, ci, rfl, oi, b11⟩
    rw [Int.toNat_natCast] at oi ⊢
    have hi := oi.slr
    replace hx := hx.below b11
    replace hy := hy.below b11
    replace hz := hz.below b11
    replace hp := hp.below b11
    replace hq := hq.below b11
    replace hs := hs.below b11
    replace hl := hl.below b11
    replace hu := hu.below b11
    replace hv := hv.below b11
    replace hr := hr.below b11
    replace bel := bel.trans (b11.mono bel.size)
    clear oi b11
    go_wp2_with fail
    refine (Mul_ok _ _ _ _ _ _ _ _ _ _ hx hv vx.out vv.out z1 z2).mono ?_
    rintro e w12 ⟨Aj, cj, rfl, oj, b12⟩
    rw [Int.toNat_natCast] at oj ⊢
    have hj := oj.slr
    replace hx := hx.below b12
    replace hy := hy.below b12
    replace hz := hz.below b12
    replace hp := hp.below b12
    replace hq := hq.below b12
    replace hs := hs.below b12
    replace hl := hl.below b12
    replace hu := hu.below b12
    replace hv := hv.below b12
    replace hr := hr.below b12
    replace hi := hi.below b12
    replace bel := bel.trans (b12.mono bel.size)
    clear oj b12
    go_wp2_with fail
    refine (known_true _).mono ?_
    rintro e w20 ⟨rfl, b20⟩
    replace hp := hp.below b20
    replace hq := hq.below b20
    replace hl := hl.below b20
    replace hr := hr.below b20
    replace hi := hi.below b20
    replace hj := hj.below b20
    replace bel := bel.trans (b20.mono bel.size)
    rw [LC.out] at hq
    rw [LD.out] at hr
    rw [LA.out] at hj
    go_wp2_with fail
    refine (SameInts_eq _ _ _ _ _ _ _ hp hq).mono ?_
    rintro e w21 ⟨rfl, m21, rfl⟩
    go_wp2_with fail
    refine (SameInts_eq _ _ _ _ _ _ _ (hl.drewN m21) (hr.drewN m21)).mono ?_
    rintro e w22 ⟨rfl, m22, rfl⟩
    go_wp2_with fail
    refine (SameInts_eq _ _ _ _ _ _ _ (hi.drewN (m21 + m22)) (hj.drewN (m21 + m22))).mono ?_
    rintro e w23 ⟨rfl, m23, rfl⟩
    go_wp2
    go_ret
    exact ⟨rfl, bel.trans ⟨rfl, rfl, rfl, Nat.le_refl _, fun _ _ => rfl⟩⟩
  · have hcode : code2 (Cyc.specL n (Cyc.mulS n x y)) z ≠ 0 := fun h => vp (code2_zero.1 h).1
    have Hcode := Lib.hid hcode
    clear vp hcode
    refine (Mul_err _ _ _ _ _ _ _ _ _ _ hp hz Hcode.out z1 z2).mono ?_
    rintro e w11 ⟨rfl, b11⟩
    replace hx := hx.below b11
    replace hy := hy.below b11
    replace hz := hz.below b11
    replace hp := hp.below b11
    replace hq := hq.below b11
    replace hs := hs.below b11
    replace hl := hl.below b11
    replace hu := hu.below b11
    replace hv := hv.below b11
    replace hr := hr.below b11
    replace bel := bel.trans (b11.mono bel.size)
    have hcb : (code2 (Cyc.specL n (Cyc.mulS n x y)) z != 0) = true := by rw [bne_iff_ne]; exact Hcode.out
    generalize code2 (Cyc.specL n (Cyc.mulS n x y)) z = code at *
    clear Hcode b11
    go_wp2_with fail
    refine (Mul_ok _ _ _ _ _ _ _ _ _ _ hx hv vx.out vv.out z1 z2).mono ?_
    rintro e w12 ⟨Aj, cj, rfl, oj, b12⟩
    rw [Int.toNat_natCast] at oj ⊢
    have hj := oj.slr
    replace hx := hx.below b12
    replace hy := hy.below b12
    replace hz := hz.below b12
    replace hp := hp.below b12
    replace hq := hq.below b12
    replace hs := hs.below b12
    replace hl := hl.below b12
    replace hu := hu.below b12
    replace hv := hv.below b12
    replace hr := hr.below b12
    replace bel := bel.trans (b12.mono bel.size)
    clear oj b12
    go_wp2_with fail
    refine (known_true _).mono ?_
    rintro e w20 ⟨rfl, b20⟩
    replace hp := hp.below b20
    replace hq := hq.below b20
    replace hl := hl.below b20
    replace hr := hr.below b20
    replace bel := bel.trans (b20.mono bel.size)
    rw [LC.out] at hq
    rw [LD.out] at hr
    go_wp2_with fail
    refine (SameInts_eq _ _ _ _ _ _ _ hp hq).mono ?_
    rintro e w21 ⟨rfl, m21, rfl⟩
    go_wp2_with fail
    refine (SameInts_eq _ _ _ _ _ _ _ (hl.drewN m21) (hr.drewN m21)).mono ?_
    rintro e w22 ⟨rfl, m22, rfl⟩
    go_wp2
    go_ret
    exact ⟨rfl, bel.trans ⟨rfl, rfl, rfl, Nat.le_refl _, fun _ _ => rfl⟩⟩
end Go.Proofs.Ytdgigbehdmhflaa
