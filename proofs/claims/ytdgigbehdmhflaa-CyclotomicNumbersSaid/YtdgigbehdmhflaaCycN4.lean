/- Contracts of the reference: reduced, Reduce, Root, Add, Mul, Galois. -/
import Derived.Test.YtdgigbehdmhflaaCycN3
import Derived.Test.YtdgigbehdmhflaaCycRt
namespace Go.Proofs.Ytdgigbehdmhflaa
open Go.RowKit
set_option linter.unusedVariables false
namespace Cyc
theorem linS_lin (n : Nat) (S : List Int) (i : Nat) : linS n S 1 i = lin S.length S (fun k => red n k i) := sumTo_congr fun j _ => by rw [Nat.mul_one]
theorem addRow_lin (R : List Int) (k : Nat) (c : Int) (Q : List Int) (g : Nat → Int) : ∀ m, k + m ≤ R.length → Cg (lin R.length (addRow R k c Q m) g) (lin R.length R g + c * sumTo m (fun j => Q[j]?.getD 0 * g (k + j)))
  | 0, _ => Cg.of_eq (by simp [addRow, sumTo])
  | m + 1, h' => by
    rw [addRow, lin_set _ _ _ (by omega) (by rw [addRow_length]; omega)]
    have ih := addRow_lin R k c Q g m (by omega)
    have hx : Cg (wrap64 ((addRow R k c Q m)[k + m]?.getD 0 + wrap64 (c * Q[m]?.getD 0)) - (addRow R k c Q m)[k + m]?.getD 0) (c * Q[m]?.getD 0) := by
      refine (((wrap_cg _).trans ((Cg.refl _).add (wrap_cg (c * Q[m]?.getD 0)))).sub (Cg.refl _)).trans (Cg.of_eq ?_)
      omega
    refine (ih.add (hx.mul' (g (k + m)))).trans (Cg.of_eq ?_)
    rw [sumTo, Int.mul_add, Int.mul_assoc]
    omega
theorem mulGo_lin (P Q : List Int) (len : Nat) (g : Nat → Int) (hl : P.length + Q.length ≤ len) : ∀ i, i ≤ P.length → Cg (lin len (mulGo P Q len i) g) (sumTo i (fun j => P[j]?.getD 0 * sumTo Q.length (fun k => Q[k]?.getD 0 * g (j + k))))
  | 0, _ => Cg.of_eq (by
    unfold lin
    refine sumTo_zero fun k _ => ?_
    simp only [mulGo, List.getElem?_replicate]
    split <;> simp)
  | i + 1, hi => by
    rw [mulGo, sumTo]
    have h := addRow_lin (mulGo P Q len i) i (P[i]?.getD 0) Q g Q.length (by rw [mulGo_length]; omega)
    rw [mulGo_length] at h
    exact h.trans ((mulGo_lin P Q len g hl i (by omega)).add (Cg.refl _))
theorem lin_repl (n : Nat) (g : Nat → Int) : lin n (List.replicate n 0) g = 0 := by
  unfold lin
  refine sumTo_zero fun k _ => ?_
  simp only [List.getElem?_replicate]
  split <;> simp
end Cyc

theorem reduced_ok (A : Option Addr) (m c : Nat) (a : List Int) (z : Int) (f : Nat → Int) (w : World) (ha : SlR .i64 w A m c a) (hm : m ≤ 1000) (h1 : 1 ≤ z) (h2 : z ≤ 64)
    (hf : ∀ i, i < Cyc.deg z.toNat → Cyc.Cg (Cyc.linS z.toNat a 1 i) (f i) ∧ -4611686018427387904 ≤ f i ∧ f i ≤ 4611686018427387904) :
    Calls Try.prog 39 #[.slice A m c, .int .i64 z] w fun e w' => ∃ A' c', e = .returned (.tuple #[.slice A' (Cyc.deg z.toNat) c', .int .i64 0]) ∧ OwnK .i64 w' w.heap.size 3 A' (Cyc.deg z.toNat) c' (Cyc.specL z.toNat f) ∧ Below w.heap.size w w' := by
  have hnorm : Hid (Cyc.normS z.toNat a = Cyc.specL z.toNat f) := Cyc.specL_congr fun i hi => by
    have := hf i hi
    rw [this.1.wrap]
    exact Cyc.wrap_id (by omega) (by omega)
  have hsm : Hid (anyTo (outAt 4611686018427387904 (Cyc.specL z.toNat f)) (Cyc.deg z.toNat) = false) := anyTo_none fun j hj => by
    have := hf j hj
    unfold outAt
    rw [Cyc.specL_getD, if_pos hj]
    simp; omega
  clear hf
  go_enter Try.func39, Try.ntmps39
  go_wp2_with fail
  refine (Normal_any A m c a z w ha hm h1 h2).mono ?_
  rintro e w1 ⟨A1, c1, rfl, o1, b1⟩
  rw [hnorm.out] at o1
  go_wp2_with fail
  refine (Small62 _ _ _ _ _ o1.slr).mono ?_
  rintro e w2 ⟨rfl, rfl⟩
  rw [hsm.out]
  go_wp2
  go_ret2
  exact ⟨A1, c1, rfl, o1, b1⟩
theorem rcheck_zero (z : Int) (w : World) (h1 : 1 ≤ z) (h2 : z ≤ 64) :
    Calls Try.prog 38 #[.int .i64 z, .slice none 0 0] w fun e w' => e = .returned (.int .i64 0) ∧ w = w' := by
  go_enter Try.func38, Try.ntmps38
  go_wp2_with fail
  refine (In_yes _ _ _ _ h1 h2).mono ?_
  rintro e w1 ⟨rfl, rfl⟩
  go_wp2
  refine wp_loop_rounds 1 ?_; rw [rounds_succ]
  go_wp2
  refine wp_loop_rounds 1 ?_; rw [rounds_succ]
  go_wp2
  go_ret
  exact ⟨rfl, rfl⟩
theorem rReduce_err (A : Option Addr) (m c : Nat) (a : List Int) (z : Int) (w : World) (ha : SlR .i64 w A m c a) (hc : (code1 a) ≠ 0) (h1 : 1 ≤ z) (h2 : z ≤ 64) :
    Calls Try.prog 23 #[.slice A m c, .int .i64 z] w fun e w' => e = .returned (.tuple #[.slice none 0 0, .int .i64 (code1 a)]) ∧ Below w.heap.size w w' := by
  have hb0 : ((code1 a) != 0) = true := by rw [bne_iff_ne]; exact hc
  clear hc
  go_enter Try.func23, Try.ntmps23
  go_wp2_with fail
  refine (rcheck_one z A m c a w ha h1 h2).mono ?_
  rintro e w1 ⟨rfl, rfl⟩
  go_wp2
  go_ret2
  exact ⟨rfl, (Below.refl _ _).alloc (Nat.le_refl _) _⟩
theorem rReduce_no (A : Option Addr) (m c : Nat) (a : List Int) (z : Int) (w : World) (h : z < 1 ∨ 64 < z) :
    Calls Try.prog 23 #[.slice A m c, .int .i64 z] w fun e w' => e = .returned (.tuple #[.slice none 0 0, .int .i64 1]) ∧ Below w.heap.size w w' := by
  go_enter Try.func23, Try.ntmps23
  go_wp2_with fail
  refine (rcheck_no z _ _ h).mono ?_
  rintro e w1 ⟨rfl, rfl⟩
  go_wp2
  go_ret2
  exact ⟨rfl, (Below.refl _ _).alloc (Nat.le_refl _) _⟩
theorem rAdd_err (A B : Option Addr) (m c m' c' : Nat) (a b : List Int) (z : Int) (w : World) (ha : SlR .i64 w A m c a) (hb : SlR .i64 w B m' c' b) (hc : (code2 a b) ≠ 0) (h1 : 1 ≤ z) (h2 : z ≤ 64) :
    Calls Try.prog 25 #[.slice A m c, .slice B m' c', .int .i64 z] w fun e w' => e = .returned (.tuple #[.slice none 0 0, .int .i64 (code2 a b)]) ∧ Below w.heap.size w w' := by
  have hb0 : ((code2 a b) != 0) = true := by rw [bne_iff_ne]; exact hc
  clear hc
  go_enter Try.func25, Try.ntmps25
  go_wp2_with fail
  refine (rcheck_two z A B m c m' c' a b w ha hb h1 h2).mono ?_
  rintro e w1 ⟨rfl, rfl⟩
  go_wp2
  go_ret2
  exact ⟨rfl, (Below.refl _ _).alloc (Nat.le_refl _) _⟩
theorem rAdd_no (A B : Option Addr) (m c m' c' : Nat) (a b : List Int) (z : Int) (w : World) (h : z < 1 ∨ 64 < z) :
    Calls Try.prog 25 #[.slice A m c, .slice B m' c', .int .i64 z] w fun e w' => e = .returned (.tuple #[.slice none 0 0, .int .i64 1]) ∧ Below w.heap.size w w' := by
  go_enter Try.func25, Try.ntmps25
  go_wp2_with fail
  refine (rcheck_no z _ _ h).mono ?_
  rintro e w1 ⟨rfl, rfl⟩
  go_wp2
  go_ret2
  exact ⟨rfl, (Below.refl _ _).alloc (Nat.le_refl _) _⟩
theorem rMul_err (A B : Option Addr) (m c m' c' : Nat) (a b : List Int) (z : Int) (w : World) (ha : SlR .i64 w A m c a) (hb : SlR .i64 w B m' c' b) (hc : (code2 a b) ≠ 0) (h1 : 1 ≤ z) (h2 : z ≤ 64) :
    Calls Try.prog 26 #[.slice A m c, .slice B m' c', .int .i64 z] w fun e w' => e = .returned (.tuple #[.slice none 0 0, .int .i64 (code2 a b)]) ∧ Below w.heap.size w w' := by
  have hb0 : ((code2 a b) != 0) = true := by rw [bne_iff_ne]; exact hc
  clear hc
  go_enter Try.func26, Try.ntmps26
  go_wp2_with fail
  refine (rcheck_two z A B m c m' c' a b w ha hb h1 h2).mono ?_
  rintro e w1 ⟨rfl, rfl⟩
  go_wp2
  go_ret2
  exact ⟨rfl, (Below.refl _ _).alloc (Nat.le_refl _) _⟩
theorem rMul_no (A B : Option Addr) (m c m' c' : Nat) (a b : List Int) (z : Int) (w : World) (h : z < 1 ∨ 64 < z) :
    Calls Try.prog 26 #[.slice A m c, .slice B m' c', .int .i64 z] w fun e w' => e = .returned (.tuple #[.slice none 0 0, .int .i64 1]) ∧ Below w.heap.size w w' := by
  go_enter Try.func26, Try.ntmps26
  go_wp2_with fail
  refine (rcheck_no z _ _ h).mono ?_
  rintro e w1 ⟨rfl, rfl⟩
  go_wp2
  go_ret2
  exact ⟨rfl, (Below.refl _ _).alloc (Nat.le_refl _) _⟩
theorem rRoot_no (k z : Int) (w : World) (h : z < 1 ∨ 64 < z) :
    Calls Try.prog 24 #[.int .i64 k, .int .i64 z] w fun e w' => e = .returned (.tuple #[.slice none 0 0, .int .i64 1]) ∧ Below w.heap.size w w' := by
  go_enter Try.func24, Try.ntmps24
  go_wp2_with fail
  refine (rcheck_no z _ _ h).mono ?_
  rintro e w1 ⟨rfl, rfl⟩
  go_wp2
  go_ret2
  exact ⟨rfl, Below.refl _ _⟩
theorem rGalois_no (A : Option Addr) (m c : Nat) (k z : Int) (w : World) (h : z < 1 ∨ 64 < z) :
    Calls Try.prog 18 #[.slice A m c, .int .i64 k, .int .i64 z] w fun e w' => e = .returned (.tuple #[.slice none 0 0, .int .i64 1]) ∧ Below w.heap.size w w' := by
  go_enter Try.func18, Try.ntmps18
  go_wp2_with fail
  refine (In_no z _ _ _ h).mono ?_
  rintro e w1 ⟨rfl, rfl⟩
  go_wp2
  go_ret2
  exact ⟨rfl, Below.refl _ _⟩
theorem rGalois_err (A : Option Addr) (m c : Nat) (a : List Int) (k z : Int) (w : World) (ha : SlR .i64 w A m c a) (hc : code1 a ≠ 0) (h1 : 1 ≤ z) (h2 : z ≤ 64) (hg : Int.gcd (k % z) z = 1) :
    Calls Try.prog 18 #[.slice A m c, .int .i64 k, .int .i64 z] w fun e w' => e = .returned (.tuple #[.slice none 0 0, .int .i64 (code1 a)]) ∧ Below w.heap.size w w' := by
  have hr1 := Int.emod_nonneg k (show z ≠ 0 by omega)
  have hq1 := Int.tmod_lt_of_pos k (show 0 < z by omega)
  have hq2 := neg_lt_tmod k z (by omega)
  have hgb : (((Int.gcd (k % z) z : Nat) : Int) != 1) = false := by rw [hg]; rfl
  have hb0 : (code1 a != 0) = true := by rw [bne_iff_ne]; exact hc
  have He := Lib.hid (emod_plus k z (by omega))
  clear hg hc
  go_enter Try.func18, Try.ntmps18
  go_wp2_with fail
  refine (In_yes _ _ _ _ h1 h2).mono ?_
  rintro e w1 ⟨rfl, rfl⟩
  go_wp2_with fail
  rw [He.out]
  refine (rgcd_any _ _ _ (by omega) (by omega)).mono ?_
  rintro e w1 ⟨rfl, m1, rfl⟩
  go_wp2_with fail
  refine (rcheck_one z A m c a (w.drewN m1) (ha.drewN m1) h1 h2).mono ?_
  rintro e w1 ⟨rfl, rfl⟩
  go_wp2
  go_ret2
  exact ⟨rfl, ⟨rfl, rfl, rfl, by simp, fun k hk => Below.heap_alloc (w.drewN m1) _ k hk⟩⟩

theorem rReduce_ok (A : Option Addr) (m c : Nat) (a : List Int) (z : Int) (w : World) (ha : SlR .i64 w A m c a) (hv : Valid a) (h1 : 1 ≤ z) (h2 : z ≤ 64) :
    Calls Try.prog 23 #[.slice A m c, .int .i64 z] w fun e w' => ∃ A' c', e = .returned (.tuple #[.slice A' (Cyc.deg z.toNat) c', .int .i64 0]) ∧ OwnK .i64 w' w.heap.size 3 A' (Cyc.deg z.toNat) c' (Cyc.specL z.toNat (Cyc.linS z.toNat a 1)) ∧ Below w.heap.size w w' := by
  have Hc0 : Hid (code1 a = 0) := code1_zero.2 hv
  have hm : m ≤ 128 := by rw [← ha.1]; exact hv.1
  have Hf : Hid (∀ i, i < Cyc.deg z.toNat → Cyc.Cg (Cyc.linS z.toNat a 1 i) (Cyc.linS z.toNat a 1 i) ∧ -4611686018427387904 ≤ Cyc.linS z.toNat a 1 i ∧ Cyc.linS z.toNat a 1 i ≤ 4611686018427387904) := fun i _ => by
    have := Cyc.linS_bd (n := z.toNat) (by omega) (by omega) (b := 16777216) (l := 128) hv.2 hv.1 1 i
    exact ⟨Cyc.Cg.refl _, by omega, by omega⟩
  clear hv
  go_enter Try.func23, Try.ntmps23
  go_wp2_with fail
  refine (rcheck_one z A m c a w ha h1 h2).mono ?_
  rintro e w1 ⟨rfl, rfl⟩
  rw [Hc0.out]
  generalize hw1 : w.alloc (.cells #[.slice A m c] 23) = w1
  have hb1 : Below w.heap.size w w1 := by rw [← hw1]; exact (Below.refl _ _).alloc (Nat.le_refl _) _
  clear hw1
  go_wp2_with fail
  refine (reduced_ok A m c a z _ w1 (ha.below hb1) (by omega) h1 h2 Hf.out).mono ?_
  rintro e w2 ⟨A', c', rfl, o, b⟩
  go_wp2
  go_ret2
  exact ⟨A', c', rfl, o.mono hb1.size, hb1.trans (b.mono hb1.size)⟩

set_option maxHeartbeats 1000000 in
theorem rRoot_ok (k z : Int) (w : World) (hk1 : -9223372036854775808 ≤ k) (hk2 : k ≤ 9223372036854775807) (h1 : 1 ≤ z) (h2 : z ≤ 64) :
    Calls Try.prog 24 #[.int .i64 k, .int .i64 z] w fun e w' => ∃ A' c', e = .returned (.tuple #[.slice A' (Cyc.deg z.toNat) c', .int .i64 0]) ∧ OwnK .i64 w' w.heap.size 3 A' (Cyc.deg z.toNat) c' (Cyc.specL z.toNat (Cyc.red z.toNat (k % z).toNat)) ∧ Below w.heap.size w w' := by
  have hr1 := Int.emod_nonneg k (show z ≠ 0 by omega)
  have hr2 := Int.emod_lt_of_pos k (show 0 < z by omega)
  have hq1 := Int.tmod_lt_of_pos k (show 0 < z by omega)
  have hq2 := neg_lt_tmod k z (by omega)
  have hmod := mod_of_tmod k z (by omega)
  obtain ⟨r, hr⟩ := Int.eq_ofNat_of_zero_le hr1
  rw [hr] at hmod hr1 hr2 ⊢
  obtain ⟨n, rfl⟩ := Int.eq_ofNat_of_zero_le (show 0 ≤ z by omega)
  rw [Int.toNat_natCast, Int.toNat_natCast]
  have h1' : 1 ≤ n := by omega
  have h2' : n ≤ 64 := by omega
  have Hf : Hid (∀ i, i < Cyc.deg n → Cyc.Cg (Cyc.linS n ((List.replicate n 0).set r 1) 1 i) (Cyc.red n r i) ∧ -4611686018427387904 ≤ Cyc.red n r i ∧ Cyc.red n r i ≤ 4611686018427387904) := fun i _ => by
    have := Cyc.red_small h1' h2' r i
    refine ⟨Cyc.Cg.of_eq ?_, by omega, by omega⟩
    rw [Cyc.linS_lin, List.length_set, List.length_replicate, Cyc.lin_set _ _ _ (by omega) (by simp; omega), Cyc.lin_repl]
    simp [show r < n by omega]
  by_cases hneg : k.tmod n < 0
  · have Hm : Hid (k.tmod n + n = (r : Int)) := by rw [if_neg (by omega)] at hmod; exact hmod.symm
    clear hmod hr
    go_enter Try.func24, Try.ntmps24
    go_wp2_with fail
    refine (rcheck_zero _ _ h1 h2).mono ?_
    rintro e w1 ⟨rfl, rfl⟩
    go_wp2_with (at_make; refine wpList_makeK _ rfl (.tmp 21) (.tmp 21) _ rfl 3 .i64 8 Try.underlying23 int_info _ _ _ _ n rfl rfl ?L ?C ?b2 ?b3 ?_)
    case L => rfl
    case C => rfl
    case b2 => omega
    case b3 => unfold maxLen; omega
    intro w2 hk2 hb2 hz2
    rw [Hm.out]
    have hc0 := hk2.cell (i := r) (by simp; omega)
    have hf0 := hk2.frozen r
    have hks := (hk2.set r 1).slr_all (n := n) (c := n) (by simp) (Nat.le_refl _) (by unfold maxLen; omega)
    have hbs := hb2.setCell (p := ⟨w.heap.size, r, none⟩) (Nat.le_refl _) (.int .i64 1)
    clear hz2
    go_wp2_with fail
    refine (reduced_ok _ n n _ n _ _ hks (by omega) h1 h2 (by rw [Int.toNat_natCast]; exact Hf.out)).mono ?_
    rintro e w3 ⟨A', c', rfl, o, b⟩
    rw [Int.toNat_natCast] at o ⊢
    go_wp2
    go_ret2
    exact ⟨A', c', rfl, o.mono hbs.size, hbs.trans (b.mono hbs.size)⟩
  · have Hm : Hid (k.tmod n = (r : Int)) := by rw [if_pos (by omega)] at hmod; exact hmod.symm
    clear hmod hr
    go_enter Try.func24, Try.ntmps24
    go_wp2_with fail
    refine (rcheck_zero _ _ h1 h2).mono ?_
    rintro e w1 ⟨rfl, rfl⟩
    go_wp2_with (at_make; refine wpList_makeK _ rfl (.tmp 21) (.tmp 21) _ rfl 3 .i64 8 Try.underlying23 int_info _ _ _ _ n rfl rfl ?L ?C ?b2 ?b3 ?_)
    case L => rfl
    case C => rfl
    case b2 => omega
    case b3 => unfold maxLen; omega
    intro w2 hk2 hb2 hz2
    rw [Hm.out]
    have hc0 := hk2.cell (i := r) (by simp; omega)
    have hf0 := hk2.frozen r
    have hks := (hk2.set r 1).slr_all (n := n) (c := n) (by simp) (Nat.le_refl _) (by unfold maxLen; omega)
    have hbs := hb2.setCell (p := ⟨w.heap.size, r, none⟩) (Nat.le_refl _) (.int .i64 1)
    clear hz2
    go_wp2_with fail
    refine (reduced_ok _ n n _ n _ _ hks (by omega) h1 h2 (by rw [Int.toNat_natCast]; exact Hf.out)).mono ?_
    rintro e w3 ⟨A', c', rfl, o, b⟩
    rw [Int.toNat_natCast] at o ⊢
    go_wp2
    go_ret2
    exact ⟨A', c', rfl, o.mono hbs.size, hbs.trans (b.mono hbs.size)⟩

set_option maxHeartbeats 2000000 in
theorem rAdd_ok (A B : Option Addr) (m c m' c' : Nat) (a b : List Int) (z : Int) (w : World) (ha : SlR .i64 w A m c a) (hb : SlR .i64 w B m' c' b) (hv : Valid a) (hv' : Valid b) (h1 : 1 ≤ z) (h2 : z ≤ 64) :
    Calls Try.prog 25 #[.slice A m c, .slice B m' c', .int .i64 z] w fun e w' => ∃ A' c', e = .returned (.tuple #[.slice A' (Cyc.deg z.toNat) c', .int .i64 0]) ∧ OwnK .i64 w' w.heap.size 3 A' (Cyc.deg z.toNat) c' (Cyc.specL z.toNat (fun i => Cyc.linS z.toNat a 1 i + Cyc.linS z.toNat b 1 i)) ∧ Below w.heap.size w w' := by
  have Hc0 : Hid (code2 a b = 0) := code2_zero.2 ⟨hv, hv'⟩
  have hm : m ≤ 128 := by rw [← ha.1]; exact hv.1
  have hm' : m' ≤ 128 := by rw [← hb.1]; exact hv'.1
  obtain ⟨M, hM1, hM2, hM3, hM4⟩ : ∃ M : Nat, m ≤ M ∧ m' ≤ M ∧ M ≤ 128 ∧ (if m < m' then (m' : Int) else (m : Int)) = M := by
    by_cases h : m < m'
    · exact ⟨m', by omega, by omega, by omega, by rw [if_pos (by omega)]⟩
    · exact ⟨m, by omega, by omega, by omega, by rw [if_neg (by omega)]⟩
  have Hf : Hid (∀ i, i < Cyc.deg z.toNat → Cyc.Cg (Cyc.linS z.toNat (Cyc.addT (Cyc.addT (List.replicate M 0) a m) b m') 1 i) (Cyc.linS z.toNat a 1 i + Cyc.linS z.toNat b 1 i) ∧ -4611686018427387904 ≤ Cyc.linS z.toNat a 1 i + Cyc.linS z.toNat b 1 i ∧ Cyc.linS z.toNat a 1 i + Cyc.linS z.toNat b 1 i ≤ 4611686018427387904) := fun i _ => by
    have e1 := Cyc.linS_bd (n := z.toNat) (by omega) (by omega) (b := 16777216) (l := 128) hv.2 hv.1 1 i
    have e2 := Cyc.linS_bd (n := z.toNat) (by omega) (by omega) (b := 16777216) (l := 128) hv'.2 hv'.1 1 i
    refine ⟨?_, by omega, by omega⟩
    rw [Cyc.linS_lin, Cyc.addT_length, Cyc.addT_length, List.length_replicate]
    have q1 := Cyc.addT_lin (Cyc.addT (List.replicate M 0) a m) b M (fun k => Cyc.red z.toNat k i) (by rw [Cyc.addT_length]; simp) m' hM2
    have q2 := Cyc.addT_lin (List.replicate M 0) a M (fun k => Cyc.red z.toNat k i) (by simp) m hM1
    refine q1.trans ((q2.add (Cyc.Cg.refl _)).trans (Cyc.Cg.of_eq ?_))
    rw [Cyc.lin_repl, Int.zero_add]
    unfold Cyc.linS
    rw [show a.length = m from ha.1, show b.length = m' from hb.1]
    simp only [Nat.mul_one]
  clear hv hv'
  go_enter Try.func25, Try.ntmps25
  go_wp2_with fail
  refine (rcheck_two z A B m c m' c' a b w ha hb h1 h2).mono ?_
  rintro e w1 ⟨rfl, rfl⟩
  rw [Hc0.out]
  generalize hw1 : w.alloc (.cells #[.slice A m c, .slice B m' c'] 23) = w1
  have hb1 : Below w.heap.size w w1 := by rw [← hw1]; exact (Below.refl _ _).alloc (Nat.le_refl _) _
  clear hw1
  go_wp2_with (at_make; refine wpList_makeK _ rfl (.tmp 24) (.tmp 24) _ rfl 3 .i64 8 Try.underlying23 int_info _ _ _ _ M rfl rfl ?L ?C ?b2 ?b3 ?_)
  case L => rfl
  case C => rfl
  case b2 => omega
  case b3 => unfold maxLen; omega
  intro w2 hk2 hb2 hz2
  obtain ⟨g, hg⟩ : ∃ g, g = w1.heap.size := ⟨_, rfl⟩
  have hgw : w.heap.size ≤ g := by rw [hg]; exact hb1.size
  have hb2' := hb1.trans (hb2.mono hb1.size)
  rw [← hg] at hk2 ⊢
  clear hg hb2 hz2 hM4
  go_wp2
  go_loopw [10] (fun x wr => ∃ i : Nat, i ≤ m ∧ x = .int .i64 i ∧ KBlk .i64 wr g 3 (Cyc.addT (List.replicate M 0) a i) ∧ Below w.heap.size w wr) (fun x _ => m - (intOf x).toNat)
  case atStart => exact ⟨0, by omega, rfl, hk2, hb2'⟩
  case round =>
    obtain ⟨i, hi, rfl, hk, hbr⟩ := hrel
    clear hk2 hb2'
    by_cases him : i < m
    · obtain ⟨b0, o, rfl, _, hca⟩ := (ha.below hbr).pos him
      have hc := hk.cell (i := i) (by rw [Cyc.addT_length]; simp; omega)
      have hf := hk.frozen i
      have Hset := Lib.hid (hk.set i (wrap64 ((Cyc.addT (List.replicate M 0) a i)[i]?.getD 0 + a[i]?.getD 0)))
      go_wp2
      go_region
      go_wp2
      go_roundw
      case rel => exact ⟨i + 1, by omega, by go_num, Hset.out, (hbr.setCell (p := ⟨g, i, none⟩) hgw _).drew⟩
      case measure => simp [intOf]; omega
    · obtain rfl : i = m := by omega
      go_wp2
      go_loopw [11] (fun x wr => ∃ j : Nat, j ≤ m' ∧ x = .int .i64 j ∧ KBlk .i64 wr g 3 (Cyc.addT (Cyc.addT (List.replicate M 0) a i) b j) ∧ Below w.heap.size w wr) (fun x _ => m' - (intOf x).toNat)
      case atStart => exact ⟨0, by omega, rfl, hk, hbr⟩
      case round =>
        obtain ⟨j, hj, rfl, hk, hbr⟩ := hrel
        by_cases hjm : j < m'
        · obtain ⟨b0, o, rfl, _, hca⟩ := (hb.below hbr).pos hjm
          have hc := hk.cell (i := j) (by rw [Cyc.addT_length, Cyc.addT_length]; simp; omega)
          have hf := hk.frozen j
          have Hset := Lib.hid (hk.set j (wrap64 ((Cyc.addT (Cyc.addT (List.replicate M 0) a i) b j)[j]?.getD 0 + b[j]?.getD 0)))
          go_wp2
          go_region
          go_wp2
          go_roundw
          case rel => exact ⟨j + 1, by omega, by go_num, Hset.out, (hbr.setCell (p := ⟨g, j, none⟩) hgw _).drew⟩
          case measure => simp [intOf]; omega
        · obtain rfl : j = m' := by omega
          have hks := hk.slr_all (n := M) (c := M) (by rw [Cyc.addT_length, Cyc.addT_length]; simp) (Nat.le_refl _) (by unfold maxLen; omega)
          go_wp2_with fail
          refine (reduced_ok _ M M _ z _ _ hks (by omega) h1 h2 Hf.out).mono ?_
          rintro e w3 ⟨A', c', rfl, o, b⟩
          go_wp2
          go_ret2
          exact ⟨A', c', rfl, o.mono hbr.size, hbr.trans (b.mono hbr.size)⟩

set_option maxHeartbeats 2000000 in
theorem rMul_ok (A B : Option Addr) (m c m' c' : Nat) (a b : List Int) (z : Int) (w : World) (ha : SlR .i64 w A m c a) (hb : SlR .i64 w B m' c' b) (hv : Valid a) (hv' : Valid b) (h1 : 1 ≤ z) (h2 : z ≤ 64) :
    Calls Try.prog 26 #[.slice A m c, .slice B m' c', .int .i64 z] w fun e w' => ∃ A' c', e = .returned (.tuple #[.slice A' (Cyc.deg z.toNat) c', .int .i64 0]) ∧ OwnK .i64 w' w.heap.size 3 A' (Cyc.deg z.toNat) c' (Cyc.specL z.toNat (Cyc.mulS z.toNat a b)) ∧ Below w.heap.size w w' := by
  have Hc0 : Hid (code2 a b = 0) := code2_zero.2 ⟨hv, hv'⟩
  have hm : m ≤ 128 := by rw [← ha.1]; exact hv.1
  have hm' : m' ≤ 128 := by rw [← hb.1]; exact hv'.1
  have hlb : Hid (b.length = m') := hb.1
  have Hf : Hid (∀ i, i < Cyc.deg z.toNat → Cyc.Cg (Cyc.linS z.toNat (Cyc.mulGo a b (m + m') m) 1 i) (Cyc.mulS z.toNat a b i) ∧ -4611686018427387904 ≤ Cyc.mulS z.toNat a b i ∧ Cyc.mulS z.toNat a b i ≤ 4611686018427387904) := fun i _ => by
    have e1 := Cyc.mulS_bd (n := z.toNat) (by omega) (by omega) (a := a) (b := b) 16777216 16777216 hv.2 hv'.2 128 128 hv.1 hv'.1 i
    refine ⟨?_, by omega, by omega⟩
    rw [Cyc.linS_lin, Cyc.mulGo_length]
    have q1 := Cyc.mulGo_lin a b (m + m') (fun k => Cyc.red z.toNat k i) (by rw [ha.1, hb.1]; exact Nat.le_refl _) m (by rw [ha.1]; exact Nat.le_refl _)
    refine q1.trans (Cyc.Cg.of_eq ?_)
    unfold Cyc.mulS
    rw [show a.length = m from ha.1]
  clear hv hv'
  go_enter Try.func26, Try.ntmps26
  go_wp2_with fail
  refine (rcheck_two z A B m c m' c' a b w ha hb h1 h2).mono ?_
  rintro e w1 ⟨rfl, rfl⟩
  rw [Hc0.out]
  generalize hw1 : w.alloc (.cells #[.slice A m c, .slice B m' c'] 23) = w1
  have hb1 : Below w.heap.size w w1 := by rw [← hw1]; exact (Below.refl _ _).alloc (Nat.le_refl _) _
  clear hw1
  go_wp2_with (at_make; refine wpList_makeK _ rfl (.tmp 24) (.tmp 24) _ rfl 3 .i64 8 Try.underlying23 int_info _ _ _ _ (m + m') rfl rfl ?L ?C ?b2 ?b3 ?_)
  case L => omega
  case C => omega
  case b2 => omega
  case b3 => unfold maxLen; omega
  intro w2 hk2 hb2 hz2
  obtain ⟨g, hg⟩ : ∃ g, g = w1.heap.size := ⟨_, rfl⟩
  have hgw : w.heap.size ≤ g := by rw [hg]; exact hb1.size
  have hb2' := hb1.trans (hb2.mono hb1.size)
  rw [← hg] at hk2 ⊢
  clear hg hb2 hz2
  go_wp2
  go_loopw [10] (fun x wr => ∃ i : Nat, i ≤ m ∧ x = .int .i64 i ∧ KBlk .i64 wr g 3 (Cyc.mulGo a b (m + m') i) ∧ Below w.heap.size w wr) (fun x _ => m - (intOf x).toNat)
  case atStart => exact ⟨0, by omega, rfl, hk2, hb2'⟩
  case round =>
    obtain ⟨i, hi, rfl, hk, hbr⟩ := hrel
    clear hk2 hb2'
    by_cases him : i < m
    · go_wp2
      obtain ⟨wo, rfl⟩ : ∃ wo : World, wo = wr := ⟨_, rfl⟩
      go_loopw [11] (fun x wr => ∃ j : Nat, j ≤ m' ∧ x = .int .i64 j ∧ KBlk .i64 wr g 3 (Cyc.addRow (Cyc.mulGo a b (m + m') i) i (a[i]?.getD 0) b j) ∧ Below w.heap.size w wr) (fun x _ => m' - (intOf x).toNat)
      case atStart => exact ⟨0, by omega, rfl, hk, hbr⟩
      case round =>
        obtain ⟨j, hj, rfl, hk, hbr⟩ := hrel
        by_cases hjm : j < m'
        · obtain ⟨b0, o, rfl, _, hca⟩ := (ha.below hbr).pos him
          obtain ⟨b0', o', rfl, _, hcb⟩ := (hb.below hbr).pos hjm
          have hc := hk.cell (i := i + j) (by rw [Cyc.addRow_length, Cyc.mulGo_length]; omega)
          have hf := hk.frozen (i + j)
          have Hset := Lib.hid (hk.set (i + j) (wrap64 ((Cyc.addRow (Cyc.mulGo a b (m + m') i) i (a[i]?.getD 0) b j)[i + j]?.getD 0 + wrap64 (a[i]?.getD 0 * b[j]?.getD 0))))
          go_wp2
          go_region
          go_wp2
          go_roundw
          case rel => exact ⟨j + 1, by omega, by go_num, Hset.out, (hbr.setCell (p := ⟨g, i + j, none⟩) hgw _).drew⟩
          case measure => simp [intOf]; omega
        · obtain rfl : j = m' := by omega
          go_wp2
          go_roundw
          case rel => exact ⟨i + 1, by omega, by go_num, by rw [Cyc.mulGo, hlb.out]; exact hk, hbr⟩
          case measure => simp [intOf]; omega
    · obtain rfl : i = m := by omega
      have hks := hk.slr_all (n := i + m') (c := i + m') (by rw [Cyc.mulGo_length]) (Nat.le_refl _) (by unfold maxLen; omega)
      go_wp2_with fail
      refine (reduced_ok _ (i + m') (i + m') _ z _ _ hks (by omega) h1 h2 Hf.out).mono ?_
      rintro e w3 ⟨A', c', rfl, o, b⟩
      go_wp2
      go_ret2
      exact ⟨A', c', rfl, o.mono hbr.size, hbr.trans (b.mono hbr.size)⟩

set_option maxHeartbeats 2000000 in
theorem rGalois_ok (A : Option Addr) (m c : Nat) (a : List Int) (k z : Int) (w : World) (ha : SlR .i64 w A m c a) (hv : Valid a) (h1 : 1 ≤ z) (h2 : z ≤ 64) (hg : Int.gcd (k % z) z = 1) :
    Calls Try.prog 18 #[.slice A m c, .int .i64 k, .int .i64 z] w fun e w' => ∃ A' c', e = .returned (.tuple #[.slice A' (Cyc.deg z.toNat) c', .int .i64 0]) ∧ OwnK .i64 w' w.heap.size 3 A' (Cyc.deg z.toNat) c' (Cyc.specL z.toNat (Cyc.linS z.toNat a (k % z).toNat)) ∧ Below w.heap.size w w' := by
  have hr1 := Int.emod_nonneg k (show z ≠ 0 by omega)
  have hr2 := Int.emod_lt_of_pos k (show 0 < z by omega)
  have hq1 := Int.tmod_lt_of_pos k (show 0 < z by omega)
  have hq2 := neg_lt_tmod k z (by omega)
  have he := emod_plus k z (by omega)
  obtain ⟨r, hr⟩ := Int.eq_ofNat_of_zero_le hr1
  rw [hr] at he hg hr1 hr2 ⊢
  have he2 : (k.tmod z + z) % z = r := by rw [Int.add_emod_right, he]
  clear hr
  obtain ⟨n, rfl⟩ := Int.eq_ofNat_of_zero_le (show 0 ≤ z by omega)
  rw [Int.toNat_natCast, Int.toNat_natCast]
  have h1' : 1 ≤ n := by omega
  have h2' : n ≤ 64 := by omega
  have hgb : (((Nat.gcd r n : Nat) : Int) != 1) = false := by rw [show Nat.gcd r n = 1 from hg]; rfl
  have Hc0 : Hid (code1 a = 0) := code1_zero.2 hv
  have hm : m ≤ 128 := by rw [← ha.1]; exact hv.1
  have Hf : Hid (∀ i, i < Cyc.deg n → Cyc.Cg (Cyc.linS n (Cyc.foldN a n (fun i => i * r % n) m) 1 i) (Cyc.linS n a r i) ∧ -4611686018427387904 ≤ Cyc.linS n a r i ∧ Cyc.linS n a r i ≤ 4611686018427387904) := fun i _ => by
    have e1 := Cyc.linS_bd h1' h2' (b := 16777216) (l := 128) hv.2 hv.1 r i
    refine ⟨?_, by omega, by omega⟩
    rw [Cyc.linS_lin, Cyc.foldN_length]
    refine (Cyc.foldN_lin a n _ (fun i => Nat.mod_lt _ (by omega)) _ m).trans (Cyc.Cg.of_eq ?_)
    unfold Cyc.linS
    rw [show a.length = m from ha.1]
    refine Cyc.sumTo_congr fun j _ => ?_
    rw [Cyc.red_mod h1' h2']
  clear hv hg
  go_enter Try.func18, Try.ntmps18
  go_wp2_with fail
  refine (In_yes _ _ _ _ h1 h2).mono ?_
  rintro e w1 ⟨rfl, rfl⟩
  go_wp2_with fail
  refine (rgcd_any _ _ _ (by omega) (by omega)).mono ?_
  rintro e w1 ⟨rfl, m1, rfl⟩
  go_wp2_with fail
  refine (rcheck_one n A m c a (w.drewN m1) (ha.drewN m1) h1 h2).mono ?_
  rintro e w1 ⟨rfl, rfl⟩
  rw [Hc0.out]
  generalize hw1 : (w.drewN m1).alloc (.cells #[.slice A m c] 23) = w1
  have hb1 : Below w.heap.size w w1 := by rw [← hw1]; exact ⟨rfl, rfl, rfl, by simp, fun k hk => Below.heap_alloc (w.drewN m1) _ k hk⟩
  clear hw1
  go_wp2_with (at_make; refine wpList_makeK _ rfl (.tmp 32) (.tmp 32) _ rfl 3 .i64 8 Try.underlying23 int_info _ _ _ _ n rfl rfl ?L ?C ?b2 ?b3 ?_)
  case L => rfl
  case C => rfl
  case b2 => omega
  case b3 => unfold maxLen; omega
  intro w2 hk2 hb2 hz2
  obtain ⟨g, hg⟩ : ∃ g, g = w1.heap.size := ⟨_, rfl⟩
  have hgw : w.heap.size ≤ g := by rw [hg]; exact hb1.size
  have hb2' := hb1.trans (hb2.mono hb1.size)
  rw [← hg] at hk2 ⊢
  clear hg hb2 hz2
  go_wp2
  go_loopw [10] (fun x wr => ∃ i : Nat, i ≤ m ∧ x = .int .i64 i ∧ KBlk .i64 wr g 3 (Cyc.foldN a n (fun i => i * r % n) i) ∧ Below w.heap.size w wr) (fun x _ => m - (intOf x).toNat)
  case atStart => exact ⟨0, by omega, rfl, hk2, hb2'⟩
  case round =>
    obtain ⟨i, hi, rfl, hk, hbr⟩ := hrel
    clear hk2 hb2'
    by_cases him : i < m
    · obtain ⟨b0, o, rfl, _, hca⟩ := (ha.below hbr).pos him
      have m1 : i % n < n := Nat.mod_lt _ (by omega)
      have m2 : i * r % n < n := Nat.mod_lt _ (by omega)
      have m3 : i % n * r ≤ 64 * 64 := Nat.mul_le_mul (by omega) (by omega)
      have q0 : 0 ≤ (i : Int) % n := Int.emod_nonneg _ (by omega)
      have q1 : (i : Int) % n < n := Int.emod_lt_of_pos _ (by omega)
      have q2 : (i : Int) % n * r = ((i % n * r : Nat) : Int) := by rw [Int.natCast_mul, Int.natCast_emod]
      have q3 : 0 ≤ (i : Int) % n * r := by rw [q2]; omega
      have q4 : (i : Int) % n * r ≤ 4096 := by rw [q2]; omega
      have q5 : ((i : Int) % n * r % n).toNat = i * r % n := by rw [q2, ← Int.natCast_emod, Int.toNat_natCast, Nat.mod_mul_mod]
      have q6 : 0 ≤ (i : Int) % n * r % n := Int.emod_nonneg _ (by omega)
      have q7 : (i : Int) % n * r % n < n := Int.emod_lt_of_pos _ (by omega)
      have q8 : ((i : Int) * r % n).toNat = i * r % n := by rw [← Int.natCast_mul, ← Int.natCast_emod, Int.toNat_natCast]
      have q9 : 0 ≤ (i : Int) * r % n := Int.emod_nonneg _ (by omega)
      have q10 : (i : Int) * r % n < n := Int.emod_lt_of_pos _ (by omega)
      clear q2
      have hc := hk.cell (i := i * r % n) (by rw [Cyc.foldN_length]; exact m2)
      have hf := hk.frozen (i * r % n)
      have Hset := Lib.hid (hk.set (i * r % n) (wrap64 ((Cyc.foldN a n (fun i => i * r % n) i)[i * r % n]?.getD 0 + a[i]?.getD 0)))
      go_wp2
      go_region
      go_wp2
      go_roundw
      case rel => exact ⟨i + 1, by omega, by go_num, Hset.out, (hbr.setCell (p := ⟨g, i * r % n, none⟩) hgw _).drew⟩
      case measure => simp [intOf]; omega
    · obtain rfl : i = m := by omega
      have hks := hk.slr_all (n := n) (c := n) (by rw [Cyc.foldN_length]) (Nat.le_refl _) (by unfold maxLen; omega)
      go_wp2_with fail
      refine (reduced_ok _ n n _ n _ _ hks (by omega) h1 h2 (by rw [Int.toNat_natCast]; exact Hf.out)).mono ?_
      rintro e w3 ⟨A', c', rfl, o, b⟩
      rw [Int.toNat_natCast] at o ⊢
      go_wp2
      go_ret2
      exact ⟨A', c', rfl, o.mono hbr.size, hbr.trans (b.mono hbr.size)⟩
end Go.Proofs.Ytdgigbehdmhflaa
