/- CyclotomicNumbers: program and reference have the same results; the walk. -/
import Derived.Test.YtdgigbehdmhflaaCycN4
namespace Go.Proofs.Ytdgigbehdmhflaa
open Go.RowKit
set_option linter.unusedVariables false

/-- The call returns the list and the code of R, in memory of its own; nothing that was there is changed. -/
def Uni (R : List Int × Int) (w : World) (e : Ending) (w' : World) : Prop := ∃ A c, e = .returned (.tuple #[.slice A R.1.length c, .int .i64 R.2]) ∧ SlR .i64 w' A R.1.length c R.1 ∧ Below w.heap.size w w'
theorem uni_ok {f : FuncId} {args : Array Value} {w : World} {D : Nat} {L : List Int} (h : Calls Try.prog f args w fun e w' => ∃ A' c', e = .returned (.tuple #[.slice A' D c', .int .i64 0]) ∧ OwnK .i64 w' w.heap.size 3 A' D c' L ∧ Below w.heap.size w w') (hD : L.length = D) : Calls Try.prog f args w (Uni (L, 0) w) := by
  subst hD
  exact h.mono fun e w' ⟨A, c, he, ho, hb⟩ => ⟨A, c, he, ho.slr, hb⟩
theorem uni_err {f : FuncId} {args : Array Value} {w : World} {code : Int} (h : Calls Try.prog f args w fun e w' => e = .returned (.tuple #[.slice none 0 0, .int .i64 code]) ∧ Below w.heap.size w w') : Calls Try.prog f args w (Uni ([], code) w) :=
  h.mono fun e w' ⟨he, hb⟩ => ⟨none, 0, he, SlR.nil _ _ _ (Nat.zero_le _), hb⟩
theorem below_same {w w' : World} (h : w = w') : Below w.heap.size w w' := h ▸ Below.refl _ _

def phiR (z : Int) : List Int × Int := if 1 ≤ z ∧ z ≤ 64 then (Cyc.T z.toNat, 0) else ([], 1)
def totR (z : Int) : Int × Int := if 1 ≤ z ∧ z ≤ 64 then ((Cyc.totTo z.toNat z.toNat : Nat), 0) else (0, 1)
def redR (a : List Int) (z : Int) : List Int × Int := if 1 ≤ z ∧ z ≤ 64 then (if code1 a = 0 then (Cyc.specL z.toNat (Cyc.linS z.toNat a 1), 0) else ([], code1 a)) else ([], 1)
def rootR (k z : Int) : List Int × Int := if 1 ≤ z ∧ z ≤ 64 then (Cyc.specL z.toNat (Cyc.red z.toNat (k % z).toNat), 0) else ([], 1)
def addR (a b : List Int) (z : Int) : List Int × Int := if 1 ≤ z ∧ z ≤ 64 then (if code2 a b = 0 then (Cyc.specL z.toNat (fun i => Cyc.linS z.toNat a 1 i + Cyc.linS z.toNat b 1 i), 0) else ([], code2 a b)) else ([], 1)
def mulR (a b : List Int) (z : Int) : List Int × Int := if 1 ≤ z ∧ z ≤ 64 then (if code2 a b = 0 then (Cyc.specL z.toNat (Cyc.mulS z.toNat a b), 0) else ([], code2 a b)) else ([], 1)
def galR (a : List Int) (k z : Int) : List Int × Int := if 1 ≤ z ∧ z ≤ 64 then (if Int.gcd (k % z) z = 1 then (if code1 a = 0 then (Cyc.specL z.toNat (Cyc.linS z.toNat a (k % z).toNat), 0) else ([], code1 a)) else ([], 1)) else ([], 1)
theorem bad_of {z : Int} (h : ¬ (1 ≤ z ∧ z ≤ 64)) : z < 1 ∨ 64 < z := by omega

theorem Phi_u (z : Int) (w : World) : Calls Try.prog 9 #[.int .i64 z] w (Uni (phiR z) w) := by
  unfold phiR
  split
  · rename_i h
    exact uni_ok (Phi_yes z w h.1 h.2) rfl
  · rename_i h
    exact uni_err ((Phi_no z w (bad_of h)).mono fun _ _ ⟨he, hw⟩ => ⟨he, below_same hw⟩)
theorem Totient_u (z : Int) (w : World) : Calls Try.prog 10 #[.int .i64 z] w fun e w' => e = .returned (.tuple #[.int .i64 (totR z).1, .int .i64 (totR z).2]) ∧ Below w.heap.size w w' := by
  unfold totR
  split
  · rename_i h
    exact (Totient_yes z w h.1 h.2).mono fun _ _ ⟨he, m, hw⟩ => ⟨he, by rw [hw]; exact ⟨rfl, rfl, rfl, Nat.le_refl _, fun _ _ => rfl⟩⟩
  · rename_i h
    exact (Totient_no z w (bad_of h)).mono fun _ _ ⟨he, hw⟩ => ⟨he, below_same hw⟩
theorem Reduce_u (A : Option Addr) (m c : Nat) (a : List Int) (z : Int) (w : World) (ha : SlR .i64 w A m c a) : Calls Try.prog 20 #[.slice A m c, .int .i64 z] w (Uni (redR a z) w) := by
  unfold redR
  split
  · rename_i h
    split
    · rename_i h0
      exact uni_ok (Reduce_ok A m c a z w ha (code1_zero.1 h0) h.1 h.2) (Cyc.specL_length _)
    · rename_i h0
      exact uni_err (Reduce_err A m c a z w ha h0 h.1 h.2)
  · rename_i h
    exact uni_err (Reduce_no A m c z w (bad_of h))
theorem Root_u (k z : Int) (w : World) (hk1 : -9223372036854775808 ≤ k) (hk2 : k ≤ 9223372036854775807) : Calls Try.prog 19 #[.int .i64 k, .int .i64 z] w (Uni (rootR k z) w) := by
  unfold rootR
  split
  · rename_i h
    exact uni_ok (Root_spec k z w hk1 hk2 h.1 h.2) (Cyc.specL_length _)
  · rename_i h
    exact uni_err ((Root_no k z w (bad_of h)).mono fun _ _ ⟨he, hw⟩ => ⟨he, below_same hw⟩)
theorem Add_u (A B : Option Addr) (m c m' c' : Nat) (a b : List Int) (z : Int) (w : World) (ha : SlR .i64 w A m c a) (hb : SlR .i64 w B m' c' b) : Calls Try.prog 15 #[.slice A m c, .slice B m' c', .int .i64 z] w (Uni (addR a b z) w) := by
  unfold addR
  split
  · rename_i h
    split
    · rename_i h0
      exact uni_ok (Add_ok A B m c m' c' a b z w ha hb (code2_zero.1 h0).1 (code2_zero.1 h0).2 h.1 h.2) (Cyc.specL_length _)
    · rename_i h0
      exact uni_err (Add_err A B m c m' c' a b z w ha hb h0 h.1 h.2)
  · rename_i h
    exact uni_err (Add_no A B m c m' c' z w (bad_of h))
theorem Mul_u (A B : Option Addr) (m c m' c' : Nat) (a b : List Int) (z : Int) (w : World) (ha : SlR .i64 w A m c a) (hb : SlR .i64 w B m' c' b) : Calls Try.prog 14 #[.slice A m c, .slice B m' c', .int .i64 z] w (Uni (mulR a b z) w) := by
  unfold mulR
  split
  · rename_i h
    split
    · rename_i h0
      exact uni_ok (Mul_ok A B m c m' c' a b z w ha hb (code2_zero.1 h0).1 (code2_zero.1 h0).2 h.1 h.2) (Cyc.specL_length _)
    · rename_i h0
      exact uni_err (Mul_err A B m c m' c' a b z w ha hb h0 h.1 h.2)
  · rename_i h
    exact uni_err (Mul_no A B m c m' c' z w (bad_of h))
theorem Galois_u (A : Option Addr) (m c : Nat) (a : List Int) (k z : Int) (w : World) (ha : SlR .i64 w A m c a) (hk1 : -9223372036854775808 ≤ k) (hk2 : k ≤ 9223372036854775807) : Calls Try.prog 17 #[.slice A m c, .int .i64 k, .int .i64 z] w (Uni (galR a k z) w) := by
  unfold galR
  split
  · rename_i h
    split
    · rename_i hg
      split
      · rename_i h0
        exact uni_ok (Galois_ok A m c a k z w ha (code1_zero.1 h0) hk1 hk2 h.1 h.2 hg) (Cyc.specL_length _)
      · rename_i h0
        exact uni_err (Galois_err A m c a k z w ha h0 hk1 hk2 h.1 h.2 hg)
    · rename_i hg
      exact uni_err (Galois_gcd A m c k z w hk1 hk2 h.1 h.2 hg)
  · rename_i h
    exact uni_err (Galois_no A m c k z w (bad_of h))
theorem rPhi_u (z : Int) (w : World) : Calls Try.prog 21 #[.int .i64 z] w (Uni (phiR z) w) := by
  unfold phiR
  split
  · rename_i h
    exact uni_ok (rPhi_yes z w h.1 h.2) rfl
  · rename_i h
    exact uni_err (rPhi_no z w (bad_of h))
theorem rTotient_u (z : Int) (w : World) : Calls Try.prog 22 #[.int .i64 z] w fun e w' => e = .returned (.tuple #[.int .i64 (totR z).1, .int .i64 (totR z).2]) ∧ Below w.heap.size w w' := by
  unfold totR
  split
  · rename_i h
    exact (rTotient_yes z w h.1 h.2).mono fun _ _ ⟨he, m, hw⟩ => ⟨he, by rw [hw]; exact ⟨rfl, rfl, rfl, Nat.le_refl _, fun _ _ => rfl⟩⟩
  · rename_i h
    exact (rTotient_no z w (bad_of h)).mono fun _ _ ⟨he, hw⟩ => ⟨he, below_same hw⟩
theorem rReduce_u (A : Option Addr) (m c : Nat) (a : List Int) (z : Int) (w : World) (ha : SlR .i64 w A m c a) : Calls Try.prog 23 #[.slice A m c, .int .i64 z] w (Uni (redR a z) w) := by
  unfold redR
  split
  · rename_i h
    split
    · rename_i h0
      exact uni_ok (rReduce_ok A m c a z w ha (code1_zero.1 h0) h.1 h.2) (Cyc.specL_length _)
    · rename_i h0
      exact uni_err (rReduce_err A m c a z w ha h0 h.1 h.2)
  · rename_i h
    exact uni_err (rReduce_no A m c a z w (bad_of h))
theorem rRoot_u (k z : Int) (w : World) (hk1 : -9223372036854775808 ≤ k) (hk2 : k ≤ 9223372036854775807) : Calls Try.prog 24 #[.int .i64 k, .int .i64 z] w (Uni (rootR k z) w) := by
  unfold rootR
  split
  · rename_i h
    exact uni_ok (rRoot_ok k z w hk1 hk2 h.1 h.2) (Cyc.specL_length _)
  · rename_i h
    exact uni_err (rRoot_no k z w (bad_of h))
theorem rAdd_u (A B : Option Addr) (m c m' c' : Nat) (a b : List Int) (z : Int) (w : World) (ha : SlR .i64 w A m c a) (hb : SlR .i64 w B m' c' b) : Calls Try.prog 25 #[.slice A m c, .slice B m' c', .int .i64 z] w (Uni (addR a b z) w) := by
  unfold addR
  split
  · rename_i h
    split
    · rename_i h0
      exact uni_ok (rAdd_ok A B m c m' c' a b z w ha hb (code2_zero.1 h0).1 (code2_zero.1 h0).2 h.1 h.2) (Cyc.specL_length _)
    · rename_i h0
      exact uni_err (rAdd_err A B m c m' c' a b z w ha hb h0 h.1 h.2)
  · rename_i h
    exact uni_err (rAdd_no A B m c m' c' a b z w (bad_of h))
theorem rMul_u (A B : Option Addr) (m c m' c' : Nat) (a b : List Int) (z : Int) (w : World) (ha : SlR .i64 w A m c a) (hb : SlR .i64 w B m' c' b) : Calls Try.prog 26 #[.slice A m c, .slice B m' c', .int .i64 z] w (Uni (mulR a b z) w) := by
  unfold mulR
  split
  · rename_i h
    split
    · rename_i h0
      exact uni_ok (rMul_ok A B m c m' c' a b z w ha hb (code2_zero.1 h0).1 (code2_zero.1 h0).2 h.1 h.2) (Cyc.specL_length _)
    · rename_i h0
      exact uni_err (rMul_err A B m c m' c' a b z w ha hb h0 h.1 h.2)
  · rename_i h
    exact uni_err (rMul_no A B m c m' c' a b z w (bad_of h))
theorem rGalois_u (A : Option Addr) (m c : Nat) (a : List Int) (k z : Int) (w : World) (ha : SlR .i64 w A m c a) (hk1 : -9223372036854775808 ≤ k) (hk2 : k ≤ 9223372036854775807) : Calls Try.prog 18 #[.slice A m c, .int .i64 k, .int .i64 z] w (Uni (galR a k z) w) := by
  unfold galR
  split
  · rename_i h
    split
    · rename_i hg
      split
      · rename_i h0
        exact uni_ok (rGalois_ok A m c a k z w ha (code1_zero.1 h0) h.1 h.2 hg) (Cyc.specL_length _)
      · rename_i h0
        exact uni_err (rGalois_err A m c a k z w ha h0 h.1 h.2 hg)
    · rename_i hg
      exact uni_err (rGalois_gcd A m c k z w hk1 hk2 h.1 h.2 hg)
  · rename_i h
    exact uni_err (rGalois_no A m c k z w (bad_of h))

set_option maxHeartbeats 4000000 in
set_option maxRecDepth 100000 in
theorem numbers_small (A B : Option Addr) (na ca nb cb : Nat) (a b : List Int) (k z : Int) (w : World) (ha : SlR .i64 w A na ca a) (hb : SlR .i64 w B nb cb b) (hk1 : -9223372036854775808 ≤ k) (hk2 : k ≤ 9223372036854775807) (hna : na ≤ 150) (hnb : nb ≤ 150) :
    Calls Try.prog 7 #[.slice A na ca, .slice B nb cb, .int .i64 k, .int .i64 z] w fun e w' => e = .returned (.bool true) ∧ Below w.heap.size w w' := by
  have g1 : ¬ (150 : Int) < na := by omega
  have g2 : ¬ (150 : Int) < nb := by omega
  go_enter Try.func7, Try.ntmps7
  have bel := Below.refl w.heap.size w
  go_wp2_with fail
  refine (Phi_u z _).mono ?_
  rintro e w1 ⟨Ap, cp, rfl, hp, b1⟩
  replace ha := ha.below b1
  replace hb := hb.below b1
  replace bel := bel.trans (b1.mono bel.size)
  clear b1
  go_wp2_with fail
  refine (rPhi_u z _).mono ?_
  rintro e w2 ⟨Aq, cq, rfl, hq, b2⟩
  replace ha := ha.below b2
  replace hb := hb.below b2
  replace hp := hp.below b2
  replace bel := bel.trans (b2.mono bel.size)
  clear b2
  go_wp2_with fail
  refine (Totient_u z _).mono ?_
  rintro e w3 ⟨rfl, b3⟩
  replace ha := ha.below b3
  replace hb := hb.below b3
  replace hp := hp.below b3
  replace hq := hq.below b3
  replace bel := bel.trans (b3.mono bel.size)
  clear b3
  go_wp2_with fail
  refine (rTotient_u z _).mono ?_
  rintro e w4 ⟨rfl, b4⟩
  replace ha := ha.below b4
  replace hb := hb.below b4
  replace hp := hp.below b4
  replace hq := hq.below b4
  replace bel := bel.trans (b4.mono bel.size)
  clear b4
  go_wp2_with fail
  refine (Reduce_u _ _ _ _ z _ ha).mono ?_
  rintro e w5 ⟨Ac, cc, rfl, hc, b5⟩
  replace ha := ha.below b5
  replace hb := hb.below b5
  replace hp := hp.below b5
  replace hq := hq.below b5
  replace bel := bel.trans (b5.mono bel.size)
  clear b5
  go_wp2_with fail
  refine (rReduce_u _ _ _ _ z _ ha).mono ?_
  rintro e w6 ⟨Ad, cd, rfl, hd, b6⟩
  replace ha := ha.below b6
  replace hb := hb.below b6
  replace hp := hp.below b6
  replace hq := hq.below b6
  replace hc := hc.below b6
  replace bel := bel.trans (b6.mono bel.size)
  clear b6
  go_wp2_with fail
  refine (Root_u k z _ hk1 hk2).mono ?_
  rintro e w7 ⟨Ar, cr, rfl, hr, b7⟩
  replace ha := ha.below b7
  replace hb := hb.below b7
  replace hp := hp.below b7
  replace hq := hq.below b7
  replace hc := hc.below b7
  replace hd := hd.below b7
  replace bel := bel.trans (b7.mono bel.size)
  clear b7
  go_wp2_with fail
  refine (rRoot_u k z _ hk1 hk2).mono ?_
  rintro e w8 ⟨As, cs, rfl, hs, b8⟩
  replace ha := ha.below b8
  replace hb := hb.below b8
  replace hp := hp.below b8
  replace hq := hq.below b8
  replace hc := hc.below b8
  replace hd := hd.below b8
  replace hr := hr.below b8
  replace bel := bel.trans (b8.mono bel.size)
  clear b8
  go_wp2_with fail
  refine (Add_u _ _ _ _ _ _ _ _ z _ ha hb).mono ?_
  rintro e w9 ⟨Ag, cg, rfl, hg, b9⟩
  replace ha := ha.below b9
  replace hb := hb.below b9
  replace hp := hp.below b9
  replace hq := hq.below b9
  replace hc := hc.below b9
  replace hd := hd.below b9
  replace hr := hr.below b9
  replace hs := hs.below b9
  replace bel := bel.trans (b9.mono bel.size)
  clear b9
  go_wp2_with fail
  refine (rAdd_u _ _ _ _ _ _ _ _ z _ ha hb).mono ?_
  rintro e w10 ⟨Ah, ch, rfl, hh, b10⟩
  replace ha := ha.below b10
  replace hb := hb.below b10
  replace hp := hp.below b10
  replace hq := hq.below b10
  replace hc := hc.below b10
  replace hd := hd.below b10
  replace hr := hr.below b10
  replace hs := hs.below b10
  replace hg := hg.below b10
  replace bel := bel.trans (b10.mono bel.size)
  clear b10
  go_wp2_with fail
  refine (Mul_u _ _ _ _ _ _ _ _ z _ ha hb).mono ?_
  rintro e w11 ⟨Ai, ci, rfl, hi, b11⟩
  replace ha := ha.below b11
  replace hb := hb.below b11
  replace hp := hp.below b11
  replace hq := hq.below b11
  replace hc := hc.below b11
  replace hd := hd.below b11
  replace hr := hr.below b11
  replace hs := hs.below b11
  replace hg := hg.below b11
  replace hh := hh.below b11
  replace bel := bel.trans (b11.mono bel.size)
  clear b11
  go_wp2_with fail
  refine (rMul_u _ _ _ _ _ _ _ _ z _ ha hb).mono ?_
  rintro e w12 ⟨Aj, cj, rfl, hj, b12⟩
  replace ha := ha.below b12
  replace hb := hb.below b12
  replace hp := hp.below b12
  replace hq := hq.below b12
  replace hc := hc.below b12
  replace hd := hd.below b12
  replace hr := hr.below b12
  replace hs := hs.below b12
  replace hg := hg.below b12
  replace hh := hh.below b12
  replace hi := hi.below b12
  replace bel := bel.trans (b12.mono bel.size)
  clear b12
  go_wp2_with fail
  refine (Galois_u _ _ _ _ k z _ ha hk1 hk2).mono ?_
  rintro e w13 ⟨Av, cv, rfl, hv, b13⟩
  replace ha := ha.below b13
  replace hb := hb.below b13
  replace hp := hp.below b13
  replace hq := hq.below b13
  replace hc := hc.below b13
  replace hd := hd.below b13
  replace hr := hr.below b13
  replace hs := hs.below b13
  replace hg := hg.below b13
  replace hh := hh.below b13
  replace hi := hi.below b13
  replace hj := hj.below b13
  replace bel := bel.trans (b13.mono bel.size)
  clear b13
  go_wp2_with fail
  refine (rGalois_u _ _ _ _ k z _ ha hk1 hk2).mono ?_
  rintro e w14 ⟨Aw, cw, rfl, hw, b14⟩
  replace ha := ha.below b14
  replace hb := hb.below b14
  replace hp := hp.below b14
  replace hq := hq.below b14
  replace hc := hc.below b14
  replace hd := hd.below b14
  replace hr := hr.below b14
  replace hs := hs.below b14
  replace hg := hg.below b14
  replace hh := hh.below b14
  replace hi := hi.below b14
  replace hj := hj.below b14
  replace hv := hv.below b14
  replace bel := bel.trans (b14.mono bel.size)
  clear b14
  go_wp2_with fail
  refine (known_true _).mono ?_
  rintro e w20 ⟨rfl, b20⟩
  replace ha := ha.below b20
  replace hb := hb.below b20
  replace hp := hp.below b20
  replace hq := hq.below b20
  replace hc := hc.below b20
  replace hd := hd.below b20
  replace hr := hr.below b20
  replace hs := hs.below b20
  replace hg := hg.below b20
  replace hh := hh.below b20
  replace hi := hi.below b20
  replace hj := hj.below b20
  replace hv := hv.below b20
  replace hw := hw.below b20
  replace bel := bel.trans (b20.mono bel.size)
  clear b20
  go_wp2_with fail
  refine (SameInts_eq _ _ _ _ _ _ _ hp hq).mono ?_
  rintro e x0 ⟨rfl, m0, rfl⟩
  go_wp2_with fail
  refine (SameInts_eq _ _ _ _ _ _ _ (hc.drewN (m0)) (hd.drewN (m0))).mono ?_
  rintro e x1 ⟨rfl, m1, rfl⟩
  go_wp2_with fail
  refine (SameInts_eq _ _ _ _ _ _ _ (hr.drewN (m0 + m1)) (hs.drewN (m0 + m1))).mono ?_
  rintro e x2 ⟨rfl, m2, rfl⟩
  go_wp2_with fail
  refine (SameInts_eq _ _ _ _ _ _ _ (hg.drewN (m0 + m1 + m2)) (hh.drewN (m0 + m1 + m2))).mono ?_
  rintro e x3 ⟨rfl, m3, rfl⟩
  go_wp2_with fail
  refine (SameInts_eq _ _ _ _ _ _ _ (hi.drewN (m0 + m1 + m2 + m3)) (hj.drewN (m0 + m1 + m2 + m3))).mono ?_
  rintro e x4 ⟨rfl, m4, rfl⟩
  go_wp2_with fail
  refine (SameInts_eq _ _ _ _ _ _ _ (hv.drewN (m0 + m1 + m2 + m3 + m4)) (hw.drewN (m0 + m1 + m2 + m3 + m4))).mono ?_
  rintro e x5 ⟨rfl, m5, rfl⟩
  go_wp2
  go_ret
  exact ⟨rfl, bel.trans ⟨rfl, rfl, rfl, Nat.le_refl _, fun _ _ => rfl⟩⟩
set_option maxRecDepth 100000 in
theorem numbers_large (A B : Option Addr) (na ca nb cb : Nat) (k z : Int) (w : World) (h : 150 < na ∨ na ≤ 150 ∧ 150 < nb) :
    Calls Try.prog 7 #[.slice A na ca, .slice B nb cb, .int .i64 k, .int .i64 z] w fun e w' => e = .returned (.bool true) ∧ Below w.heap.size w w' := by
  rcases h with h | ⟨h, h'⟩
  · have g1 : (150 : Int) < na := by omega
    go_enter Try.func7, Try.ntmps7
    go_wp2_with fail
    refine (known_true _).mono ?_
    rintro e w20 ⟨rfl, b20⟩
    go_wp2
    go_ret
    exact ⟨rfl, b20⟩
  · have g1 : ¬ (150 : Int) < na := by omega
    have g2 : (150 : Int) < nb := by omega
    go_enter Try.func7, Try.ntmps7
    go_wp2_with fail
    refine (known_true _).mono ?_
    rintro e w20 ⟨rfl, b20⟩
    go_wp2
    go_ret
    exact ⟨rfl, b20⟩
end Go.Proofs.Ytdgigbehdmhflaa
