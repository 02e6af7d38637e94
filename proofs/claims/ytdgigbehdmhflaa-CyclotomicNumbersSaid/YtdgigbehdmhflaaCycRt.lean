/- CyclotomicRoots: the walk. -/
import Derived.Test.YtdgigbehdmhflaaCycRing
namespace Go.Proofs.Ytdgigbehdmhflaa
open Go.RowKit
set_option linter.unusedVariables false
namespace Cyc
theorem root_spec {n : Nat} (h1 : 1 ≤ n) (h2 : n ≤ 64) (r : Nat) (hr : r < n) : normalW (zeros.set r 1) n = specL n (red n r) := by
  have hin : InR (zeros.set r 1) := by
    intro j
    rw [get_set _ _ _ _ (by rw [zeros_length]; omega)]
    split
    · omega
    · exact inR_zeros j
  rw [normalW_spec h1 h2 _ (by simp [zeros_length]) hin]
  refine specL_congr fun i _ => ?_
  rw [lin_set _ _ _ hr (by rw [zeros_length]; omega), lin_zeros]
  have hz : zeros[r]?.getD 0 = 0 := by unfold zeros; rw [List.getElem?_replicate]; split <;> rfl
  have hs := red_small h1 h2 r i
  rw [hz, Int.zero_add, Int.sub_zero, Int.one_mul]
  exact wrap_id (by omega) (by omega)
theorem root_mul {n : Nat} (h1 : 1 ≤ n) (h2 : n ≤ 64) (j k i : Nat) : mulS n (specL n (red n j)) (specL n (red n k)) i = red n (j + k) i := by
  rw [mul_left_spec h1 h2, specL_length]
  have e : sumTo (deg n) (fun m => (specL n (red n k))[m]?.getD 0 * act n (red n j) m i) = sumTo (deg n) (fun m => red n k m * red n (m + j) i) := sumTo_congr fun m hm => by
    rw [specL_getD, if_pos hm, act_red h1 h2, Nat.add_comm j m]
  rw [e, red_mul h1 h2, Nat.add_comm]
theorem red_valid {n : Nat} (h1 : 1 ≤ n) (h2 : n ≤ 64) (r : Nat) : Valid (specL n (red n r)) := valid_spec h1 h2 fun i _ => by have := red_small h1 h2 r i; omega
theorem sum_bd {n : Nat} (h1 : 1 ≤ n) (h2 : n ≤ 64) (t : Nat) (ht : t ≤ 64) (i : Nat) : -64 ≤ sumTo t (fun k => red n k i) ∧ sumTo t (fun k => red n k i) ≤ 64 := by
  have := sumTo_abs (n := t) (f := fun k => red n k i) (g := fun _ => 1) (fun k _ => red_small h1 h2 k i)
  rw [sumTo_const] at this
  omega
theorem sum_valid {n : Nat} (h1 : 1 ≤ n) (h2 : n ≤ 64) (t : Nat) (ht : t ≤ 64) : Valid (specL n (fun i => sumTo t (fun k => red n k i))) := valid_spec h1 h2 fun i _ => by have := sum_bd h1 h2 t ht i; omega
theorem sum_step {n : Nat} (h1 : 1 ≤ n) (h2 : n ≤ 64) (t : Nat) : specL n (fun i => linS n (specL n (fun i => sumTo t (fun k => red n k i))) 1 i + linS n (specL n (red n t)) 1 i) = specL n (fun i => sumTo (t + 1) (fun k => red n k i)) :=
  specL_congr fun i hi => by rw [lin_spec h1 h2 _ i hi, lin_spec h1 h2 _ i hi]; rfl
theorem sum_start (n : Nat) : specL n (linS n [] 1) = specL n (fun i => sumTo 0 (fun k => red n k i)) := rfl
theorem sum_end {n : Nat} (h1 : 1 ≤ n) (h2 : n ≤ 64) (hn : n ≠ 1) : specL n (fun i => sumTo n (fun k => red n k i)) = List.replicate (deg n) 0 := by
  rw [specL_congr (g := fun _ => 0) fun i _ => roots_sum h1 h2 hn i]
  unfold specL
  apply List.ext_getElem (by simp)
  intro i h h'
  simp
theorem sum_end1 : specL 1 (fun i => sumTo 1 (fun k => red 1 k i)) = [1] := by decide +kernel
theorem deg1 : deg 1 = 1 := by decide +kernel
end Cyc
theorem Root_spec (k z : Int) (w : World) (hk1 : -9223372036854775808 ≤ k) (hk2 : k ≤ 9223372036854775807) (h1 : 1 ≤ z) (h2 : z ≤ 64) :
    Calls Try.prog 19 #[.int .i64 k, .int .i64 z] w fun e w' => ∃ A c, e = .returned (.tuple #[.slice A (Cyc.deg z.toNat) c, .int .i64 0]) ∧ OwnK .i64 w' w.heap.size 3 A (Cyc.deg z.toNat) c (Cyc.specL z.toNat (Cyc.red z.toNat (k % z).toNat)) ∧ Below w.heap.size w w' := by
  have hr1 := Int.emod_nonneg k (show z ≠ 0 by omega)
  have hr2 := Int.emod_lt_of_pos k (show 0 < z by omega)
  rw [← Cyc.root_spec (n := z.toNat) (by omega) (by omega) (k % z).toNat (by omega)]
  exact Root_yes k z w hk1 hk2 h1 h2

set_option maxHeartbeats 4000000 in
set_option maxRecDepth 100000 in
theorem roots_walk (j k v : Int) (w : World) (hv1 : -9223372036854775808 ≤ v) (hv2 : v ≤ 9223372036854775807) :
    Calls Try.prog 6 #[.int .i64 j, .int .i64 k, .int .i64 v] w fun e w' => e = .returned (.bool true) ∧ Below w.heap.size w w' := by
  have hn0 := Int.emod_nonneg v (show (64 : Int) ≠ 0 by omega)
  have hn1 := Int.emod_lt_of_pos v (show (0 : Int) < 64 by omega)
  obtain ⟨n', hn'⟩ := Int.eq_ofNat_of_zero_le hn0
  obtain ⟨n, hn⟩ : ∃ n, n = n' + 1 := ⟨_, rfl⟩
  have h1 : 1 ≤ n := by omega
  have h2 : n ≤ 64 := by omega
  have z1 : (1 : Int) ≤ n := by omega
  have z2 : (n : Int) ≤ 64 := by omega
  have Hn : Hid (1 + v % 64 = (n : Int)) := by show _ = _; omega
  have hlo : 0 ≤ v % 64 := hn0
  have hhi : v % 64 < 64 := hn1
  clear hn' hn hn0 hn1
  have j1 := neg_lt_tmod j 100000 (by omega)
  have j2 := Int.tmod_lt_of_pos j (show (0 : Int) < 100000 by omega)
  have k1 := neg_lt_tmod k 100000 (by omega)
  have k2 := Int.tmod_lt_of_pos k (show (0 : Int) < 100000 by omega)
  have hdp := Cyc.deg_pos h1 h2
  have hdl := Cyc.deg_le n h1 h2
  go_enter Try.func6, Try.ntmps6
  go_wp2_with fail
  refine (within_any v 64 _ hv1 hv2 (by omega) (by omega)).mono ?_
  rintro e w1 ⟨rfl, rfl⟩
  go_wp2_with fail
  rw [Hn.out]
  generalize j.tmod 100000 = J at *
  generalize k.tmod 100000 = K at *
  clear hlo hhi
  refine (Root_spec J n _ (by omega) (by omega) z1 z2).mono ?_
  rintro e w1 ⟨Aa, ca, rfl, oa, b1⟩
  rw [Int.toNat_natCast] at oa ⊢
  have ha := oa.slr
  have bel := b1
  clear oa b1
  go_wp2_with fail
  refine (Root_spec K n _ (by omega) (by omega) z1 z2).mono ?_
  rintro e w2 ⟨Ab, cb, rfl, ob, b2⟩
  rw [Int.toNat_natCast] at ob ⊢
  have hb := ob.slr
  replace ha := ha.below b2
  replace bel := bel.trans (b2.mono bel.size)
  clear ob b2
  go_wp2_with fail
  refine (Root_spec (J + K) n _ (by omega) (by omega) z1 z2).mono ?_
  rintro e w3 ⟨Ac, cc, rfl, oc, b3⟩
  rw [Int.toNat_natCast] at oc ⊢
  have hc := oc.slr
  replace ha := ha.below b3
  replace hb := hb.below b3
  replace bel := bel.trans (b3.mono bel.size)
  clear oc b3
  go_wp2_with fail
  refine (Root_spec (J + n) n _ (by omega) (by omega) z1 z2).mono ?_
  rintro e w4 ⟨Ad, cd, rfl, od, b4⟩
  rw [Int.toNat_natCast] at od ⊢
  have hd := od.slr
  replace ha := ha.below b4
  replace hb := hb.below b4
  replace hc := hc.below b4
  replace bel := bel.trans (b4.mono bel.size)
  clear od b4
  have ed : Hid ((J + n) % n = J % n) := by show _ = _; exact Int.add_emod_right J n
  have va := Cyc.red_valid h1 h2 (J % n).toNat
  have vb := Cyc.red_valid h1 h2 (K % n).toNat
  have LP : Hid (Cyc.specL n (Cyc.mulS n (Cyc.specL n (Cyc.red n (J % n).toNat)) (Cyc.specL n (Cyc.red n (K % n).toNat))) = Cyc.specL n (Cyc.red n ((J + K) % n).toNat)) := Cyc.specL_congr fun i _ => by
    rw [Cyc.root_mul h1 h2, ← Cyc.red_mod h1 h2]
    congr 1
    have e1 := Int.emod_nonneg J (show (n : Int) ≠ 0 by omega)
    have e2 := Int.emod_nonneg K (show (n : Int) ≠ 0 by omega)
    have e3 := Int.emod_nonneg (J + K) (show (n : Int) ≠ 0 by omega)
    have e4 : ((((J % n).toNat + (K % n).toNat) % n : Nat) : Int) = (J + K) % n := by
      rw [Int.natCast_emod, Int.natCast_add, Int.toNat_of_nonneg e1, Int.toNat_of_nonneg e2, ← Int.add_emod]
    omega
  rw [ed.out] at hd
  have Va := Lib.hid va; have Vb := Lib.hid vb
  clear va vb ed
  go_wp2_with fail
  refine (Mul_ok _ _ _ _ _ _ _ _ _ _ ha hb Va.out Vb.out z1 z2).mono ?_
  rintro e w5 ⟨Ap, cp, rfl, op, b5⟩
  rw [Int.toNat_natCast] at op ⊢
  have hp := op.slr
  rw [LP.out] at hp
  replace ha := ha.below b5
  replace hc := hc.below b5
  replace hd := hd.below b5
  replace bel := bel.trans (b5.mono bel.size)
  clear op b5 hb LP Va Vb
  go_wp2_with fail
  refine (Reduce_ok none 0 0 [] _ _ (SlR.nil _ _ _ (Nat.zero_le _)) ⟨by simp, fun j => by simp⟩ z1 z2).mono ?_
  rintro e w6 ⟨As, cs, rfl, os, b6⟩
  rw [Int.toNat_natCast] at os ⊢
  rw [Cyc.sum_start] at os
  have hs := os.slr
  replace ha := ha.below b6
  replace hc := hc.below b6
  replace hd := hd.below b6
  replace hp := hp.below b6
  replace bel := bel.trans (b6.mono bel.size)
  clear os b6
  have HD := Lib.hid (And.intro ha (And.intro hc (And.intro hd hp)))
  clear ha hc hd hp
  go_wp2
  go_loopw [17, 18, 19] (fun x y z wr => ∃ (t : Nat) (A : Option Addr) (c : Nat), t ≤ n ∧ x = .slice A (Cyc.deg n) c ∧ y = .int .i64 0 ∧ z = .int .i64 t ∧ SlR .i64 wr A (Cyc.deg n) c (Cyc.specL n (fun i => Cyc.sumTo t (fun k => Cyc.red n k i))) ∧ Below w6.heap.size w6 wr) (fun _ _ z _ => n - (intOf z).toNat)
  case atStart => exact ⟨0, _, _, by omega, rfl, rfl, rfl, hs, Below.refl _ _⟩
  case round =>
    obtain ⟨t, A, c, ht, rfl, rfl, rfl, hst, hbt⟩ := hrel
    clear hs
    by_cases htn : t < n
    · have hlt : (t : Int) < n := by omega
      have vt := Lib.hid (Cyc.sum_valid h1 h2 t (by omega))
      have vr := Lib.hid (Cyc.red_valid h1 h2 t)
      have emt : Hid (((t : Int) % n).toNat = t) := by
        show _ = _
        rw [← Int.natCast_emod, Int.toNat_natCast, Nat.mod_eq_of_lt htn]
      go_wp2_with fail
      refine (Root_spec t n _ (by omega) (by omega) z1 z2).mono ?_
      rintro e w7 ⟨Aw, cw, rfl, ow, b7⟩
      rw [Int.toNat_natCast, emt.out] at ow
      rw [Int.toNat_natCast]
      have hw := ow.slr
      replace hst := hst.below b7
      replace hbt := hbt.trans (b7.mono hbt.size)
      clear ow b7
      go_wp2_with fail
      refine (Add_ok _ _ _ _ _ _ _ _ _ _ hst hw vt.out vr.out z1 z2).mono ?_
      rintro e w8 ⟨A8, c8, rfl, o8, b8⟩
      rw [Int.toNat_natCast] at o8 ⊢
      rw [Cyc.sum_step h1 h2] at o8
      replace hbt := hbt.trans (b8.mono hbt.size)
      go_wp2
      go_roundw
      case rel => exact ⟨t + 1, A8, c8, by omega, rfl, rfl, by go_num, o8.slr, hbt⟩
      case measure => simp [intOf]; omega
    · obtain rfl : t = n := by omega
      have hnl : ¬ (t : Int) < t := by omega
      have hnl' : decide ((t : Int) < t) = false := by simp
      replace bel := bel.trans (hbt.mono bel.size)
      obtain ⟨ha, hc, hd, hp⟩ := HD.out
      replace ha := ha.below hbt
      replace hc := hc.below hbt
      replace hd := hd.below hbt
      replace hp := hp.below hbt
      have HD' := Lib.hid (And.intro ha (And.intro hc (And.intro hd hp)))
      clear ha hc hd hp HD hbt
      go_wp2_with (at_make; refine wpList_makeK _ rfl (.tmp 95) (.tmp 95) _ rfl 3 .i64 8 Try.underlying23 int_info _ _ _ _ (Cyc.deg t) rfl rfl ?L ?C ?b2 ?b3 ?_)
      case L => rfl
      case C => rfl
      case b2 => omega
      case b3 => unfold maxLen; omega
      intro w9 hk9 hb9 hz9
      obtain ⟨ha, hc, hd, hp⟩ := HD'.out
      have bel9 := bel.trans (hb9.mono bel.size)
      have hN := bel.size
      have hb9s := hb9.setCell (p := ⟨wr.heap.size, 0, none⟩) (Nat.le_refl _) (.int .i64 1)
      have bel9s := bel.trans (hb9s.mono bel.size)
      have HD9s := Lib.hid (And.intro (ha.below hb9s) (And.intro (hc.below hb9s) (And.intro (hd.below hb9s) (hp.below hb9s))))
      have hst9s := hst.below hb9s
      have HD9w := Lib.hid (And.intro (ha.below hb9) (And.intro (hc.below hb9) (And.intro (hd.below hb9) (hp.below hb9))))
      have hst9 := hst.below hb9
      obtain ⟨gw, hgw⟩ : ∃ g, g = wr.heap.size := ⟨_, rfl⟩
      rw [← hgw] at hk9 hN bel9s HD9s hst9s ⊢
      clear ha hc hd hp HD' hb9 hb9s hz9 hst bel hgw
      by_cases e1 : t = 1
      · subst e1
        have hst := hst9s
        rw [Cyc.sum_end1] at hst
        have hk9' := hk9
        rw [Cyc.deg1] at hk9' hst
        have hc0 := hk9'.cell (i := 0) (by simp)
        have hf0 := hk9'.frozen 0
        have hwa : SlR .i64 (w9.setCell ⟨gw, 0, none⟩ (.int .i64 1)) (some ⟨gw, 0, none⟩) 1 1 [1] := (hk9'.set 0 1).slr_all rfl (by omega) (by unfold maxLen; omega)
        have HD9 := HD9s
        have bel := bel9s
        have hd1 := Cyc.deg1
        clear hk9 hk9' hst9 hst9s bel9 bel9s HD9w HD9s
        go_wp2_with fail
        clear hd1 hc0 hf0
        refine (known_true _).mono ?_
        rintro e w20 ⟨rfl, b20⟩
        replace bel := bel.trans (b20.mono bel.size)
        obtain ⟨ha, hc, hd, hp⟩ := HD9.out
        replace ha := ha.below b20
        replace hc := hc.below b20
        replace hd := hd.below b20
        replace hp := hp.below b20
        replace hst := hst.below b20
        replace hwa := hwa.below b20
        clear b20 HD9
        go_wp2_with fail
        refine (SameInts_eq _ _ _ _ _ _ _ hp hc).mono ?_
        rintro e w21 ⟨rfl, m21, rfl⟩
        go_wp2_with fail
        refine (SameInts_eq _ _ _ _ _ _ _ (ha.drewN m21) (hd.drewN m21)).mono ?_
        rintro e w22 ⟨rfl, m22, rfl⟩
        go_wp2_with fail
        refine (SameInts_eq _ _ _ _ _ _ _ (hst.drewN (m21 + m22)) (hwa.drewN (m21 + m22))).mono ?_
        rintro e w23 ⟨rfl, m23, rfl⟩
        go_wp2
        go_ret
        exact ⟨by simp; omega, bel.trans ⟨rfl, rfl, rfl, Nat.le_refl _, fun _ _ => rfl⟩⟩
      · have hne : ((t : Int) == 1) = false := by rw [beq_eq_false_iff_ne]; omega
        have hst := hst9
        rw [Cyc.sum_end h1 h2 e1] at hst
        have hwa := hk9.slr_all (n := Cyc.deg t) (c := Cyc.deg t) (by simp) (by omega) (by unfold maxLen; omega)
        have HD9 := HD9w
        have bel := bel9
        clear hk9 hst9 bel9 HD9w e1
        go_wp2_with fail
        refine (known_true _).mono ?_
        rintro e w20 ⟨rfl, b20⟩
        replace bel := bel.trans (b20.mono bel.size)
        obtain ⟨ha, hc, hd, hp⟩ := HD9.out
        replace ha := ha.below b20
        replace hc := hc.below b20
        replace hd := hd.below b20
        replace hp := hp.below b20
        replace hst := hst.below b20
        replace hwa := hwa.below b20
        clear b20 HD9
        go_wp2_with fail
        refine (SameInts_eq _ _ _ _ _ _ _ hp hc).mono ?_
        rintro e w21 ⟨rfl, m21, rfl⟩
        go_wp2_with fail
        refine (SameInts_eq _ _ _ _ _ _ _ (ha.drewN m21) (hd.drewN m21)).mono ?_
        rintro e w22 ⟨rfl, m22, rfl⟩
        go_wp2_with fail
        refine (SameInts_eq _ _ _ _ _ _ _ (hst.drewN (m21 + m22)) (hwa.drewN (m21 + m22))).mono ?_
        rintro e w23 ⟨rfl, m23, rfl⟩
        go_wp2
        go_ret
        exact ⟨by simp; omega, bel.trans ⟨rfl, rfl, rfl, Nat.le_refl _, fun _ _ => rfl⟩⟩
end Go.Proofs.Ytdgigbehdmhflaa
