/- Contracts: Reduce, Galois, Add. -/
import Derived.Test.YtdgigbehdmhflaaCycV
namespace Go.Proofs.Ytdgigbehdmhflaa
open Go.RowKit
set_option linter.unusedVariables false

def code1 (a : List Int) : Int := checkCode 1 (fun _ => a.length) (fun _ => a)
def code2 (a b : List Int) : Int := checkCode 2 (fun j => if j = 0 then a.length else b.length) (fun j => if j = 0 then a else b)
def Valid (a : List Int) : Prop := a.length ≤ 128 ∧ ∀ j : Nat, -16777216 ≤ a[j]?.getD 0 ∧ a[j]?.getD 0 ≤ 16777216

theorem anyTo_false {p : Nat → Bool} {m : Nat} (h : anyTo p m = false) : ∀ j, j < m → p j = false := by
  intro j hj
  cases e : p j
  · rfl
  · rw [anyTo_hit hj e] at h; cases h
theorem anyTo_none {p : Nat → Bool} {m : Nat} (h : ∀ j, j < m → p j = false) : anyTo p m = false := by
  induction m with
  | zero => rfl
  | succ m ih => rw [anyTo, ih (fun j hj => h j (by omega)), h m (by omega)]; rfl
theorem wide_none {a : List Int} : anyTo (wideAt a) a.length = false ↔ ∀ j : Nat, -16777216 ≤ a[j]?.getD 0 ∧ a[j]?.getD 0 ≤ 16777216 := by
  constructor
  · intro h j
    rcases Nat.lt_or_ge j a.length with hj | hj
    · have := anyTo_false h j hj
      simp [wideAt] at this
      omega
    · rw [List.getElem?_eq_none hj]; simp
  · intro h
    refine anyTo_none fun j hj => ?_
    have := h j
    simp [wideAt] at this ⊢; omega
theorem code1_zero {a : List Int} : code1 a = 0 ↔ Valid a := by
  unfold code1 checkCode Valid
  simp only [anyTo, longAt, wideList, Bool.false_or]
  by_cases h : 128 < a.length
  · rw [if_pos (by simp [h])]; constructor
    · intro h; simp at h
    · intro h'; omega
  · rw [if_neg (by simp [h])]
    by_cases hw : anyTo (wideAt a) a.length = true
    · rw [if_pos hw]; constructor
      · intro h; simp at h
      · intro h'; rw [wide_none.2 h'.2] at hw; cases hw
    · rw [if_neg hw]
      simp at hw
      exact ⟨fun _ => ⟨by omega, wide_none.1 hw⟩, fun _ => rfl⟩
theorem code2_zero {a b : List Int} : code2 a b = 0 ↔ Valid a ∧ Valid b := by
  unfold code2 checkCode Valid
  simp only [anyTo, longAt, wideList, Bool.false_or, if_pos, Nat.one_ne_zero, if_false]
  by_cases h : 128 < a.length ∨ 128 < b.length
  · rw [if_pos (by simpa using h)]; constructor
    · intro h; simp at h
    · intro h'; omega
  · rw [if_neg (by simpa using h)]
    by_cases hw : anyTo (wideAt a) a.length = true ∨ anyTo (wideAt b) b.length = true
    · rw [if_pos (by simpa using hw)]; constructor
      · intro h; simp at h
      · rintro ⟨h', h''⟩
        rcases hw with hw | hw
        · rw [wide_none.2 h'.2] at hw; cases hw
        · rw [wide_none.2 h''.2] at hw; cases hw
    · rw [if_neg (by simpa using hw)]
      simp at hw
      exact ⟨fun _ => ⟨⟨by omega, wide_none.1 hw.1⟩, by omega, wide_none.1 hw.2⟩, fun _ => rfl⟩

theorem check_one (A : Option Addr) (m c : Nat) (a : List Int) (w : World) (ha : SlR .i64 w A m c a) :
    Calls Try.prog 31 #[.slice (some ⟨w.heap.size, 0, none⟩) 1 1] (w.alloc (.cells #[.slice A m c] 23)) fun e w' => e = .returned (.int .i64 (code1 a)) ∧ w.alloc (.cells #[.slice A m c] 23) = w' := by
  have := check_any 1 w.heap.size (fun _ => A) (fun _ => m) (fun _ => c) (fun _ => a) (w.alloc (.cells #[.slice A m c] 23)) (by omega) (by
    intro j hj
    obtain rfl : j = 0 := by omega
    rw [cell_of_row _ _ _ _ _ _ (heap_alloc_new w _)]; rfl) (fun j hj => ha.alloc _)
  rw [show m = a.length from ha.1.symm] at this ⊢
  exact this
theorem check_two (A B : Option Addr) (m c m' c' : Nat) (a b : List Int) (w : World) (ha : SlR .i64 w A m c a) (hb : SlR .i64 w B m' c' b) :
    Calls Try.prog 31 #[.slice (some ⟨w.heap.size, 0, none⟩) 2 2] (w.alloc (.cells #[.slice A m c, .slice B m' c'] 23)) fun e w' => e = .returned (.int .i64 (code2 a b)) ∧ w.alloc (.cells #[.slice A m c, .slice B m' c'] 23) = w' := by
  have := check_any 2 w.heap.size (fun j => if j = 0 then A else B) (fun j => if j = 0 then m else m') (fun j => if j = 0 then c else c') (fun j => if j = 0 then a else b) (w.alloc (.cells #[.slice A m c, .slice B m' c'] 23)) (by omega) (by
    intro j hj
    rw [cell_of_row _ _ _ _ _ _ (heap_alloc_new w _)]
    rcases j with _ | _ | j
    · rfl
    · rfl
    · omega) (by
    intro j hj
    rcases j with _ | _ | j
    · exact ha.alloc _
    · exact hb.alloc _
    · omega)
  rw [show m = a.length from ha.1.symm, show m' = b.length from hb.1.symm] at this ⊢
  exact this

namespace Cyc
/-- The i-th coordinate of the number that a list stands for, with w^k in the place of w. -/
def linS (n : Nat) (a : List Int) (k i : Nat) : Int := sumTo a.length (fun j => a[j]?.getD 0 * red n (j * k) i)
theorem linS_bd {n : Nat} (h1 : 1 ≤ n) (h2 : n ≤ 64) {a : List Int} {b : Int} {l : Nat} (hb : ∀ j : Nat, -b ≤ a[j]?.getD 0 ∧ a[j]?.getD 0 ≤ b) (hl : a.length ≤ l) (k i : Nat) : -(l * b) ≤ linS n a k i ∧ linS n a k i ≤ l * b := by
  have hb0 : 0 ≤ b := by have := hb 0; omega
  have h := sumTo_abs (n := a.length) (f := fun j => a[j]?.getD 0 * red n (j * k) i) (g := fun _ => b) (by
    intro j _
    have hr := red_small h1 h2 (j * k) i
    have hbj := hb j
    generalize red n (j * k) i = r at *
    have : r = -1 ∨ r = 0 ∨ r = 1 := by omega
    rcases this with rfl | rfl | rfl <;> omega)
  rw [sumTo_const] at h
  have : (a.length : Int) * b ≤ l * b := Int.mul_le_mul_of_nonneg_right (by omega) hb0
  unfold linS; omega
theorem fold_norm {n : Nat} (h1 : 1 ≤ n) (h2 : n ≤ 64) (a : List Int) (k : Nat) (hv : Valid a) : normalW (foldW a k n a.length) n = specL n (linS n a k) := by
  rw [normalW_spec h1 h2 _ (foldW_length _ _ _ _) (foldW_inR _ _ _ h1 h2 _)]
  refine specL_congr fun i _ => ?_
  rw [(foldW_lin a k n h1 h2 (fun k => red n k i) a.length).wrap]
  have e : sumTo a.length (fun j => a[j]?.getD 0 * red n (j * k % n) i) = linS n a k i := sumTo_congr fun j _ => by rw [red_mod h1 h2]
  rw [e]
  have := linS_bd h1 h2 (b := 16777216) (l := 128) hv.2 hv.1 k i
  exact wrap_id (by omega) (by omega)
end Cyc

set_option maxHeartbeats 1000000 in
theorem Reduce_ok (A : Option Addr) (m c : Nat) (a : List Int) (z : Int) (w : World) (ha : SlR .i64 w A m c a) (hv : Valid a) (h1 : 1 ≤ z) (h2 : z ≤ 64) :
    Calls Try.prog 20 #[.slice A m c, .int .i64 z] w fun e w' => ∃ A' c', e = .returned (.tuple #[.slice A' (Cyc.deg z.toNat) c', .int .i64 0]) ∧ OwnK .i64 w' w.heap.size 3 A' (Cyc.deg z.toNat) c' (Cyc.specL z.toNat (Cyc.linS z.toNat a 1)) ∧ Below w.heap.size w w' := by
  obtain ⟨n, rfl⟩ := Int.eq_ofNat_of_zero_le (show 0 ≤ z by omega)
  have hc0 : code1 a = 0 := code1_zero.2 hv
  have Hc0 := Lib.hid hc0
  have hnm := Cyc.fold_norm (n := n) (by omega) (by omega) a 1 hv
  rw [show a.length = m from ha.1] at hnm
  have Hnm := Lib.hid hnm
  have hm : m ≤ 128 := by rw [← ha.1]; exact hv.1
  have Hv := Lib.hid hv
  clear hc0 hnm hv
  rw [Int.toNat_natCast]
  go_enter Try.func20, Try.ntmps20
  go_wp2_with fail
  refine (permitted_yes _ _ h1 h2).mono ?_
  rintro e w1 ⟨rfl, rfl⟩
  go_wp2_with fail
  refine (check_one A m c a w ha).mono ?_
  rintro e w1 ⟨rfl, rfl⟩
  rw [Hc0.out]
  generalize hw1 : w.alloc (.cells #[.slice A m c] 23) = w1
  have hb1 : Below w.heap.size w w1 := by rw [← hw1]; exact (Below.refl _ _).alloc (Nat.le_refl _) _
  clear hw1
  go_wp2_with fail
  refine (fold_any A m c a 1 n w1 (ha.below hb1) (by omega) (by omega) (by omega) (by omega)).mono ?_
  rintro e w2 ⟨rfl, hb2⟩
  go_wp2_with fail
  refine (normal_any _ _ _ (foldW_length _ _ _ _) h1 h2).mono ?_
  rintro e w3 ⟨A', c', rfl, ho, hb3⟩
  rw [Int.toNat_natCast, Hnm.out] at ho
  rw [Int.toNat_natCast]
  go_wp2
  go_ret2
  have hb12 := hb1.trans (hb2.mono hb1.size)
  exact ⟨A', c', rfl, ho.mono hb12.size, hb12.trans (hb3.mono hb12.size)⟩

theorem Reduce_err (A : Option Addr) (m c : Nat) (a : List Int) (z : Int) (w : World) (ha : SlR .i64 w A m c a) (hc : code1 a ≠ 0) (h1 : 1 ≤ z) (h2 : z ≤ 64) :
    Calls Try.prog 20 #[.slice A m c, .int .i64 z] w fun e w' => e = .returned (.tuple #[.slice none 0 0, .int .i64 (code1 a)]) ∧ Below w.heap.size w w' := by
  have hb0 : (code1 a != 0) = true := by rw [bne_iff_ne]; exact hc
  clear hc
  go_enter Try.func20, Try.ntmps20
  go_wp2_with fail
  refine (permitted_yes _ _ h1 h2).mono ?_
  rintro e w1 ⟨rfl, rfl⟩
  go_wp2_with fail
  refine (check_one A m c a w ha).mono ?_
  rintro e w1 ⟨rfl, rfl⟩
  go_wp2
  go_ret2
  exact ⟨rfl, (Below.refl _ _).alloc (Nat.le_refl _) _⟩

theorem Reduce_no (A : Option Addr) (m c : Nat) (z : Int) (w : World) (h : z < 1 ∨ 64 < z) :
    Calls Try.prog 20 #[.slice A m c, .int .i64 z] w fun e w' => e = .returned (.tuple #[.slice none 0 0, .int .i64 1]) ∧ Below w.heap.size w w' := by
  go_enter Try.func20, Try.ntmps20
  go_wp2_with fail
  refine (permitted_no z _ h).mono ?_
  rintro e w1 ⟨rfl, rfl⟩
  go_wp2
  go_ret2
  exact ⟨rfl, Below.refl _ _⟩

set_option maxHeartbeats 1000000 in
theorem Galois_ok (A : Option Addr) (m c : Nat) (a : List Int) (k z : Int) (w : World) (ha : SlR .i64 w A m c a) (hv : Valid a) (hk1 : -9223372036854775808 ≤ k) (hk2 : k ≤ 9223372036854775807) (h1 : 1 ≤ z) (h2 : z ≤ 64) (hg : Int.gcd (k % z) z = 1) :
    Calls Try.prog 17 #[.slice A m c, .int .i64 k, .int .i64 z] w fun e w' => ∃ A' c', e = .returned (.tuple #[.slice A' (Cyc.deg z.toNat) c', .int .i64 0]) ∧ OwnK .i64 w' w.heap.size 3 A' (Cyc.deg z.toNat) c' (Cyc.specL z.toNat (Cyc.linS z.toNat a (k % z).toNat)) ∧ Below w.heap.size w w' := by
  have hr1 := Int.emod_nonneg k (show z ≠ 0 by omega)
  have hr2 := Int.emod_lt_of_pos k (show 0 < z by omega)
  obtain ⟨r, hr⟩ := Int.eq_ofNat_of_zero_le hr1
  have Hr := Lib.hid hr
  rw [hr] at hg hr1 hr2 ⊢
  clear hr
  rw [Int.toNat_natCast]
  obtain ⟨n, rfl⟩ := Int.eq_ofNat_of_zero_le (show 0 ≤ z by omega)
  have hgb : (((Nat.gcd r n : Nat) : Int) != 1) = false := by rw [show Nat.gcd r n = 1 from hg]; rfl
  have hc0 : code1 a = 0 := code1_zero.2 hv
  have Hc0 := Lib.hid hc0
  have hnm := Cyc.fold_norm (n := n) (by omega) (by omega) a r hv
  rw [show a.length = m from ha.1] at hnm
  have Hnm := Lib.hid hnm
  have hm : m ≤ 128 := by rw [← ha.1]; exact hv.1
  have Hv := Lib.hid hv
  clear hc0 hnm hv hg
  rw [Int.toNat_natCast]
  go_enter Try.func17, Try.ntmps17
  go_wp2_with fail
  refine (permitted_yes _ _ h1 h2).mono ?_
  rintro e w1 ⟨rfl, rfl⟩
  go_wp2_with fail
  refine (residue_any k _ _ hk1 hk2 h1 h2).mono ?_
  rintro e w1 ⟨rfl, rfl⟩
  rw [Hr.out]
  go_wp2_with fail
  refine (gcd_any _ _ _ (by omega) (by omega)).mono ?_
  rintro e w1 ⟨rfl, m1, rfl⟩
  go_wp2_with fail
  refine (check_one A m c a (w.drewN m1) (ha.drewN m1)).mono ?_
  rintro e w1 ⟨rfl, rfl⟩
  rw [Hc0.out]
  generalize hw1 : (w.drewN m1).alloc (.cells #[.slice A m c] 23) = w1
  have hb1 : Below w.heap.size w w1 := by rw [← hw1]; exact ⟨rfl, rfl, rfl, by simp, fun k hk => Below.heap_alloc (w.drewN m1) _ k hk⟩
  clear hw1
  go_wp2_with fail
  refine (residue_any k _ _ hk1 hk2 h1 h2).mono ?_
  rintro e w2 ⟨rfl, rfl⟩
  rw [Hr.out]
  go_wp2_with fail
  refine (fold_any A m c a r n w1 (ha.below hb1) (by omega) (by omega) (by omega) (by omega)).mono ?_
  rintro e w2 ⟨rfl, hb2⟩
  go_wp2_with fail
  refine (normal_any _ _ _ (foldW_length _ _ _ _) h1 h2).mono ?_
  rintro e w3 ⟨A', c', rfl, ho, hb3⟩
  rw [Int.toNat_natCast, Hnm.out] at ho
  rw [Int.toNat_natCast]
  go_wp2
  go_ret2
  have hb12 := hb1.trans (hb2.mono hb1.size)
  exact ⟨A', c', rfl, ho.mono hb12.size, hb12.trans (hb3.mono hb12.size)⟩

theorem Galois_no (A : Option Addr) (m c : Nat) (k z : Int) (w : World) (h : z < 1 ∨ 64 < z) :
    Calls Try.prog 17 #[.slice A m c, .int .i64 k, .int .i64 z] w fun e w' => e = .returned (.tuple #[.slice none 0 0, .int .i64 1]) ∧ Below w.heap.size w w' := by
  go_enter Try.func17, Try.ntmps17
  go_wp2_with fail
  refine (permitted_no z _ h).mono ?_
  rintro e w1 ⟨rfl, rfl⟩
  go_wp2
  go_ret2
  exact ⟨rfl, Below.refl _ _⟩
theorem Galois_gcd (A : Option Addr) (m c : Nat) (k z : Int) (w : World) (hk1 : -9223372036854775808 ≤ k) (hk2 : k ≤ 9223372036854775807) (h1 : 1 ≤ z) (h2 : z ≤ 64) (hg : Int.gcd (k % z) z ≠ 1) :
    Calls Try.prog 17 #[.slice A m c, .int .i64 k, .int .i64 z] w fun e w' => e = .returned (.tuple #[.slice none 0 0, .int .i64 1]) ∧ Below w.heap.size w w' := by
  have hr1 := Int.emod_nonneg k (show z ≠ 0 by omega)
  have hgb : (((Int.gcd (k % z) z : Nat) : Int) != 1) = true := by rw [bne_iff_ne]; omega
  clear hg
  go_enter Try.func17, Try.ntmps17
  go_wp2_with fail
  refine (permitted_yes _ _ h1 h2).mono ?_
  rintro e w1 ⟨rfl, rfl⟩
  go_wp2_with fail
  refine (residue_any k _ _ hk1 hk2 h1 h2).mono ?_
  rintro e w1 ⟨rfl, rfl⟩
  go_wp2_with fail
  refine (gcd_any _ _ _ (by omega) (by omega)).mono ?_
  rintro e w1 ⟨rfl, m1, rfl⟩
  go_wp2
  go_ret2
  exact ⟨rfl, ⟨rfl, rfl, rfl, Nat.le_refl _, fun _ _ => rfl⟩⟩
theorem Galois_err (A : Option Addr) (m c : Nat) (a : List Int) (k z : Int) (w : World) (ha : SlR .i64 w A m c a) (hc : code1 a ≠ 0) (hk1 : -9223372036854775808 ≤ k) (hk2 : k ≤ 9223372036854775807) (h1 : 1 ≤ z) (h2 : z ≤ 64) (hg : Int.gcd (k % z) z = 1) :
    Calls Try.prog 17 #[.slice A m c, .int .i64 k, .int .i64 z] w fun e w' => e = .returned (.tuple #[.slice none 0 0, .int .i64 (code1 a)]) ∧ Below w.heap.size w w' := by
  have hr1 := Int.emod_nonneg k (show z ≠ 0 by omega)
  have hgb : (((Int.gcd (k % z) z : Nat) : Int) != 1) = false := by rw [hg]; rfl
  have hb0 : (code1 a != 0) = true := by rw [bne_iff_ne]; exact hc
  clear hg hc
  go_enter Try.func17, Try.ntmps17
  go_wp2_with fail
  refine (permitted_yes _ _ h1 h2).mono ?_
  rintro e w1 ⟨rfl, rfl⟩
  go_wp2_with fail
  refine (residue_any k _ _ hk1 hk2 h1 h2).mono ?_
  rintro e w1 ⟨rfl, rfl⟩
  go_wp2_with fail
  refine (gcd_any _ _ _ (by omega) (by omega)).mono ?_
  rintro e w1 ⟨rfl, m1, rfl⟩
  go_wp2_with fail
  refine (check_one A m c a (w.drewN m1) (ha.drewN m1)).mono ?_
  rintro e w1 ⟨rfl, rfl⟩
  go_wp2
  go_ret2
  exact ⟨rfl, ⟨rfl, rfl, rfl, by simp, fun k hk => Below.heap_alloc (w.drewN m1) _ k hk⟩⟩
end Go.Proofs.Ytdgigbehdmhflaa
