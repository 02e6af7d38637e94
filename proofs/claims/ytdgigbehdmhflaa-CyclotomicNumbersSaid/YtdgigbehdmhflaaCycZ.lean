/- What Mul computes, in coordinates; its contract. -/
import Derived.Test.YtdgigbehdmhflaaCycY
namespace Go.Proofs.Ytdgigbehdmhflaa
open Go.RowKit
set_option linter.unusedVariables false
namespace Cyc
theorem i64_and8191 (n : Int) : bits .and .i64 n 8191 = n % 8192 := by
  have h127 : (BitVec.ofInt 64 8191).toNat = 2 ^ 13 - 1 := by decide
  have key : (BitVec.ofInt 64 n &&& BitVec.ofInt 64 8191).toNat = (n % ((2 ^ 64 : Nat) : Int)).toNat % 2 ^ 13 := by
    rw [BitVec.toNat_and, BitVec.toNat_ofInt, h127, Nat.and_two_pow_sub_one_eq_mod]
  show IntKind.i64.wrap ((BitVec.ofInt 64 n &&& BitVec.ofInt 64 8191).toNat : Nat) = n % 8192
  rw [key, IntKind.wrap_i64]
  omega
theorem mul_bd {x y A B : Int} (hx : -A ≤ x ∧ x ≤ A) (hy : -B ≤ y ∧ y ≤ B) : -(A * B) ≤ x * y ∧ x * y ≤ A * B := by
  have hA : 0 ≤ A := by omega
  have hB : 0 ≤ B := by omega
  have h1 : ((x * y).natAbs : Int) ≤ A * B := by
    rw [Int.natAbs_mul, Int.natCast_mul]
    have e1 : (x.natAbs : Int) ≤ A := by omega
    have e2 : (y.natAbs : Int) ≤ B := by omega
    exact Int.mul_le_mul e1 e2 (by omega) hA
  omega
theorem mapT_get (f : Int → Int) (t : List Int) : ∀ i j, j < i → i ≤ 64 → (mapT f t i)[j]?.getD 0 = f (t[j]?.getD 0)
  | 0, j, h, _ => by omega
  | i + 1, j, h, hi => by
    rw [mapT, get_set _ _ _ _ (by rw [mapT_length]; omega)]
    by_cases e : j = i
    · rw [if_pos e, e]
    · rw [if_neg e, mapT_get f t i j (by omega) (by omega)]
def L1 (n : Nat) (S : List Int) : Int := sumTo n (fun k => ((S[k]?.getD 0).natAbs : Int))
theorem foldW_L1 (a : List Int) (k n : Nat) (h1 : 1 ≤ n) (h2 : n ≤ 64) : ∀ m, L1 n (foldW a k n m) ≤ sumTo m (fun j => ((a[j]?.getD 0).natAbs : Int))
  | 0 => by
    unfold L1 foldW zeros
    rw [sumTo_zero]
    · simp [sumTo]
    · intro j _; rw [List.getElem?_replicate]; split <;> rfl
  | m + 1 => by
    have hm := Nat.mod_lt (m * k) (show 0 < n by omega)
    have ih := foldW_L1 a k n h1 h2 m
    unfold L1 at ih ⊢
    have hS : m * k % n < (foldW a k n m).length := by rw [foldW_length]; omega
    rw [foldW, sumTo_change hm (fun j => (((foldW a k n m)[j]?.getD 0).natAbs : Int)) _ (fun j hj => by rw [get_set _ _ j _ hS, if_neg hj]), get_set _ _ _ _ hS, if_pos rfl, sumTo]
    have hw := wrap_abs ((foldW a k n m)[m * k % n]?.getD 0 + a[m]?.getD 0)
    omega
theorem valid_L1 {a : List Int} (hv : Valid a) : sumTo a.length (fun j => ((a[j]?.getD 0).natAbs : Int)) ≤ 2147483648 := by
  have h := sumTo_le (n := a.length) (f := fun j => ((a[j]?.getD 0).natAbs : Int)) (g := fun _ => 16777216) (fun j _ => by have := hv.2 j; show ((a[j]?.getD 0).natAbs : Int) ≤ 16777216; omega)
  rw [sumTo_const] at h
  have := hv.1
  omega
/-- A double sum is at most the product of the sums of the absolute values. -/
theorem double_bd {n : Nat} (h1 : 1 ≤ n) (h2 : n ≤ 64) (s t : List Int) (i : Nat) {A B : Int} (hA : L1 n s ≤ A) (hB : L1 n t ≤ B) (hB0 : 0 ≤ B) : -(A * B) ≤ sumTo n (fun p => sumTo n (fun q => s[p]?.getD 0 * t[q]?.getD 0 * red n (p + q) i)) ∧ sumTo n (fun p => sumTo n (fun q => s[p]?.getD 0 * t[q]?.getD 0 * red n (p + q) i)) ≤ A * B := by
  have h := sumTo_abs (n := n) (f := fun p => sumTo n (fun q => s[p]?.getD 0 * t[q]?.getD 0 * red n (p + q) i)) (g := fun p => ((s[p]?.getD 0).natAbs : Int) * B) (by
    intro p _
    have e : sumTo n (fun q => s[p]?.getD 0 * t[q]?.getD 0 * red n (p + q) i) = s[p]?.getD 0 * sumTo n (fun q => t[q]?.getD 0 * red n (p + q) i) := by
      rw [← sumTo_mul]; exact sumTo_congr fun q _ => Int.mul_assoc _ _ _
    have hin := sumTo_abs (n := n) (f := fun q => t[q]?.getD 0 * red n (p + q) i) (g := fun q => ((t[q]?.getD 0).natAbs : Int)) (by
      intro q _
      have hr := red_small h1 h2 (p + q) i
      generalize red n (p + q) i = r at *
      have : r = -1 ∨ r = 0 ∨ r = 1 := by omega
      rcases this with rfl | rfl | rfl <;> omega)
    have hb : -B ≤ sumTo n (fun q => t[q]?.getD 0 * red n (p + q) i) ∧ sumTo n (fun q => t[q]?.getD 0 * red n (p + q) i) ≤ B := by unfold L1 at hB; omega
    simp only [e]
    exact mul_bd (by omega) hb)
  rw [sumTo_mul'] at h
  have hs0 : 0 ≤ L1 n s := sumTo_nonneg fun k _ => by omega
  have : L1 n s * B ≤ A * B := Int.mul_le_mul_of_nonneg_right hA hB0
  unfold L1 at this
  omega
/-- The i-th coordinate of the product. -/
def mulS (n : Nat) (a b : List Int) (i : Nat) : Int := sumTo a.length (fun j => a[j]?.getD 0 * sumTo b.length (fun k => b[k]?.getD 0 * red n (j + k) i))
theorem mulS_bd {n : Nat} (h1 : 1 ≤ n) (h2 : n ≤ 64) {a b : List Int} (A B : Int) (hA : ∀ j : Nat, -A ≤ a[j]?.getD 0 ∧ a[j]?.getD 0 ≤ A) (hB : ∀ j : Nat, -B ≤ b[j]?.getD 0 ∧ b[j]?.getD 0 ≤ B) (la lb : Nat) (hla : a.length ≤ la) (hlb : b.length ≤ lb) (i : Nat) :
    -(la * (A * (lb * B))) ≤ mulS n a b i ∧ mulS n a b i ≤ la * (A * (lb * B)) := by
  have hA0 : 0 ≤ A := by have := hA 0; omega
  have hB0 : 0 ≤ B := by have := hB 0; omega
  have h := sumTo_abs (n := a.length) (f := fun j => a[j]?.getD 0 * sumTo b.length (fun k => b[k]?.getD 0 * red n (j + k) i)) (g := fun _ => A * (lb * B)) (by
    intro j _
    refine mul_bd (hA j) ?_
    have hin := sumTo_abs (n := b.length) (f := fun k => b[k]?.getD 0 * red n (j + k) i) (g := fun _ => B) (by
      intro k _
      have hr := red_small h1 h2 (j + k) i
      have hb := hB k
      generalize red n (j + k) i = r at *
      have : r = -1 ∨ r = 0 ∨ r = 1 := by omega
      rcases this with rfl | rfl | rfl <;> omega)
    rw [sumTo_const] at hin
    have : (b.length : Int) * B ≤ lb * B := Int.mul_le_mul_of_nonneg_right (by omega) hB0
    omega)
  rw [sumTo_const] at h
  have h0 : 0 ≤ A * (lb * B) := Int.mul_nonneg hA0 (Int.mul_nonneg (by omega) hB0)
  have : (a.length : Int) * (A * (lb * B)) ≤ la * (A * (lb * B)) := Int.mul_le_mul_of_nonneg_right (by omega) h0
  unfold mulS
  omega
section
variable {n : Nat} (h1 : 1 ≤ n) (h2 : n ≤ 64)
include h1 h2
theorem prod_norm (s t : List Int) (i : Nat) (hi : i < deg n) : (normalW (prodW s t n n) n)[i]?.getD 0 = wrap64 (sumTo n (fun p => sumTo n (fun q => s[p]?.getD 0 * t[q]?.getD 0 * red n (p + q) i))) := by
  rw [normalW_spec h1 h2 _ (prodW_length _ _ _ _) (prodW_inR _ _ _ h1 h2 _), specL_get _ _ hi, Option.getD_some, (prodW_lin s t n h1 h2 (fun k => red n k i) n).wrap]
  congr 1
  exact sumTo_congr fun p _ => sumTo_congr fun q _ => by rw [red_mod h1 h2]
theorem fold_double (a b : List Int) (i : Nat) : Cg (sumTo n (fun p => sumTo n (fun q => (foldW a 1 n a.length)[p]?.getD 0 * (foldW b 1 n b.length)[q]?.getD 0 * red n (p + q) i))) (mulS n a b i) := by
  have e1 : ∀ p, Cg (sumTo n (fun q => (foldW a 1 n a.length)[p]?.getD 0 * (foldW b 1 n b.length)[q]?.getD 0 * red n (p + q) i)) ((foldW a 1 n a.length)[p]?.getD 0 * sumTo b.length (fun k => b[k]?.getD 0 * red n (p + k) i)) := by
    intro p
    have e : sumTo n (fun q => (foldW a 1 n a.length)[p]?.getD 0 * (foldW b 1 n b.length)[q]?.getD 0 * red n (p + q) i) = (foldW a 1 n a.length)[p]?.getD 0 * lin n (foldW b 1 n b.length) (fun q => red n (p + q) i) := by
      unfold lin
      rw [← sumTo_mul]; exact sumTo_congr fun q _ => Int.mul_assoc _ _ _
    rw [e]
    refine Cg.mul ((foldW_lin b 1 n h1 h2 (fun q => red n (p + q) i) b.length).trans (Cg.of_eq ?_)) _
    exact sumTo_congr fun k _ => by rw [Nat.mul_one, Nat.add_comm p (k % n), red_mod_add h1 h2, Nat.add_comm]
  refine (Cg.sum fun p _ => e1 p).trans ?_
  refine (foldW_lin a 1 n h1 h2 (fun p => sumTo b.length (fun k => b[k]?.getD 0 * red n (p + k) i)) a.length).trans (Cg.of_eq ?_)
  exact sumTo_congr fun j _ => by
    rw [Nat.mul_one]
    congr 1
    exact sumTo_congr fun k _ => by rw [red_mod_add h1 h2]
theorem mul_parts (a b : List Int) (hv : Valid a) (hv' : Valid b) (i : Nat) (hi : i < deg n) :
    FitsAt (hiPart (foldW a 1 n a.length) (foldW b 1 n b.length) n) (loPart (foldW a 1 n a.length) (foldW b 1 n b.length) n) i ∧
    wrap64 ((hiPart (foldW a 1 n a.length) (foldW b 1 n b.length) n)[i]?.getD 0 * 8192 + (loPart (foldW a 1 n a.length) (foldW b 1 n b.length) n)[i]?.getD 0) = mulS n a b i := by
  have hd := deg_le n h1 h2
  have hs := Int.le_trans (foldW_L1 a 1 n h1 h2 a.length) (valid_L1 hv)
  have ht := Int.le_trans (foldW_L1 b 1 n h1 h2 b.length) (valid_L1 hv')
  have hdbl := fold_double h1 h2 a b i
  have hbd := mulS_bd h1 h2 (a := a) (b := b) 16777216 16777216 hv.2 hv'.2 128 128 hv.1 hv'.1 i
  unfold FitsAt hiPart loPart
  rw [prod_norm h1 h2 _ _ i hi, prod_norm h1 h2 _ _ i hi]
  generalize foldW a 1 n a.length = s at *
  generalize foldW b 1 n b.length = t at *
  have eh : sumTo n (fun p => sumTo n (fun q => s[p]?.getD 0 * (mapT (fun x => x / 8192) t n)[q]?.getD 0 * red n (p + q) i)) = sumTo n (fun p => sumTo n (fun q => s[p]?.getD 0 * (t[q]?.getD 0 / 8192) * red n (p + q) i)) :=
    sumTo_congr fun p _ => sumTo_congr fun q hq => by rw [mapT_get _ _ _ _ hq (by omega)]
  have el : sumTo n (fun p => sumTo n (fun q => s[p]?.getD 0 * (mapT (fun x => bits .and .i64 x 8191) t n)[q]?.getD 0 * red n (p + q) i)) = sumTo n (fun p => sumTo n (fun q => s[p]?.getD 0 * (t[q]?.getD 0 % 8192) * red n (p + q) i)) :=
    sumTo_congr fun p _ => sumTo_congr fun q hq => by rw [mapT_get _ _ _ _ hq (by omega), i64_and8191]
  have hhi : L1 n (mapT (fun x => x / 8192) t n) ≤ 262208 := by
    have h8 : 8192 * L1 n (mapT (fun x => x / 8192) t n) ≤ sumTo n (fun k => ((t[k]?.getD 0).natAbs : Int) + 8192) := by
      unfold L1
      rw [← sumTo_mul]
      refine sumTo_le fun k hk => ?_
      rw [mapT_get _ _ _ _ hk (by omega)]
      omega
    rw [sumTo_add, sumTo_const] at h8
    unfold L1 at ht h8 ⊢
    omega
  have hH := double_bd h1 h2 s (mapT (fun x => x / 8192) t n) i hs hhi (by omega)
  rw [eh] at hH ⊢
  rw [el]
  have hsum : sumTo n (fun p => sumTo n (fun q => s[p]?.getD 0 * (t[q]?.getD 0 / 8192) * red n (p + q) i)) * 8192 + sumTo n (fun p => sumTo n (fun q => s[p]?.getD 0 * (t[q]?.getD 0 % 8192) * red n (p + q) i)) = sumTo n (fun p => sumTo n (fun q => s[p]?.getD 0 * t[q]?.getD 0 * red n (p + q) i)) := by
    rw [← sumTo_mul', ← sumTo_add]
    refine sumTo_congr fun p _ => ?_
    rw [← sumTo_mul', ← sumTo_add]
    refine sumTo_congr fun q _ => ?_
    have e := Int.mul_ediv_add_emod (t[q]?.getD 0) 8192
    generalize t[q]?.getD 0 / 8192 = u at *
    generalize t[q]?.getD 0 % 8192 = v at *
    rw [← e]
    generalize s[p]?.getD 0 = x
    generalize red n (p + q) i = r
    rw [Int.mul_add, Int.add_mul, ← Int.mul_assoc, Int.mul_comm x 8192, Int.mul_assoc 8192, Int.mul_assoc 8192, Int.mul_comm 8192]
  generalize sumTo n (fun p => sumTo n (fun q => s[p]?.getD 0 * (t[q]?.getD 0 / 8192) * red n (p + q) i)) = H at *
  generalize sumTo n (fun p => sumTo n (fun q => s[p]?.getD 0 * (t[q]?.getD 0 % 8192) * red n (p + q) i)) = L at *
  have hwH : wrap64 H = H := wrap_id (by omega) (by omega)
  have hfin : wrap64 (H * 8192 + wrap64 L) = mulS n a b i := by
    have c : Cg (H * 8192 + wrap64 L) (mulS n a b i) := ((Cg.refl _).add (wrap_cg L)).trans (by rw [hsum]; exact hdbl)
    rw [c.wrap]
    exact wrap_id (by omega) (by omega)
  rw [hwH, hfin]
  exact ⟨⟨by omega, by omega, by omega, by omega⟩, rfl⟩
omit h1 h2 in
theorem finT_all (R L : List Int) : ∀ k j, k ≤ R.length → (finT R L k)[j]?.getD 0 = if j < k then wrap64 (R[j]?.getD 0 * 8192 + L[j]?.getD 0) else R[j]?.getD 0
  | 0, j, _ => by rw [if_neg (by omega)]; rfl
  | k + 1, j, h => by
    rw [finT, get_set _ _ _ _ (by rw [finT_length]; omega)]
    by_cases e : j = k
    · rw [if_pos e, if_pos (by omega), e]
    · rw [if_neg e, finT_all R L k j (by omega)]
      by_cases e2 : j < k
      · rw [if_pos e2, if_pos (by omega)]
      · rw [if_neg e2, if_neg (by omega)]
theorem mul_norm (a b : List Int) (hv : Valid a) (hv' : Valid b) : finT (hiPart (foldW a 1 n a.length) (foldW b 1 n b.length) n) (loPart (foldW a 1 n a.length) (foldW b 1 n b.length) n) (deg n) = specL n (mulS n a b) := by
  have hl : (hiPart (foldW a 1 n a.length) (foldW b 1 n b.length) n).length = deg n := normalW_length _ n h1 h2 (prodW_length _ _ _ _)
  apply List.ext_getElem?
  intro i
  by_cases hi : i < deg n
  · have h := finT_all (hiPart (foldW a 1 n a.length) (foldW b 1 n b.length) n) (loPart (foldW a 1 n a.length) (foldW b 1 n b.length) n) (deg n) i (by omega)
    rw [if_pos hi, (mul_parts h1 h2 a b hv hv' i hi).2] at h
    rw [specL_get _ _ hi, ← h, List.getElem?_eq_getElem (by rw [finT_length, hl]; exact hi)]
    rfl
  · rw [List.getElem?_eq_none (by rw [finT_length, hl]; omega), List.getElem?_eq_none (by rw [specL_length]; omega)]
end
end Cyc

theorem Mul_ok (A B : Option Addr) (m c m' c' : Nat) (a b : List Int) (z : Int) (w : World) (ha : SlR .i64 w A m c a) (hb : SlR .i64 w B m' c' b) (hv : Valid a) (hv' : Valid b) (h1 : 1 ≤ z) (h2 : z ≤ 64) :
    Calls Try.prog 14 #[.slice A m c, .slice B m' c', .int .i64 z] w fun e w' => ∃ A' c', e = .returned (.tuple #[.slice A' (Cyc.deg z.toNat) c', .int .i64 0]) ∧ OwnK .i64 w' w.heap.size 3 A' (Cyc.deg z.toNat) c' (Cyc.specL z.toNat (Cyc.mulS z.toNat a b)) ∧ Below w.heap.size w w' := by
  obtain ⟨n, rfl⟩ := Int.eq_ofNat_of_zero_le (show 0 ≤ z by omega)
  rw [Int.toNat_natCast]
  have e1 := ha.1
  have e2 := hb.1
  rw [← Cyc.mul_norm (n := n) (by omega) (by omega) a b hv hv']
  rw [show a.length = m from e1, show b.length = m' from e2]
  exact Mul_walk A B m c m' c' a b n w ha hb (code2_zero.2 ⟨hv, hv'⟩) (by rw [← e1]; exact hv.1) (by rw [← e2]; exact hv'.1) h1 h2 (by
    intro i hi
    have := (Cyc.mul_parts (n := n) (by omega) (by omega) a b hv hv' i hi).1
    rwa [show a.length = m from e1, show b.length = m' from e2] at this)

theorem Mul_err (A B : Option Addr) (m c m' c' : Nat) (a b : List Int) (z : Int) (w : World) (ha : SlR .i64 w A m c a) (hb : SlR .i64 w B m' c' b) (hc : code2 a b ≠ 0) (h1 : 1 ≤ z) (h2 : z ≤ 64) :
    Calls Try.prog 14 #[.slice A m c, .slice B m' c', .int .i64 z] w fun e w' => e = .returned (.tuple #[.slice none 0 0, .int .i64 (code2 a b)]) ∧ Below w.heap.size w w' := by
  have hb0 : (code2 a b != 0) = true := by rw [bne_iff_ne]; exact hc
  clear hc
  go_enter Try.func14, Try.ntmps14
  go_wp2_with fail
  refine (permitted_yes _ _ h1 h2).mono ?_
  rintro e w1 ⟨rfl, rfl⟩
  go_wp2_with fail
  refine (check_two A B m c m' c' a b w ha hb).mono ?_
  rintro e w1 ⟨rfl, rfl⟩
  go_wp2
  go_ret2
  exact ⟨rfl, (Below.refl _ _).alloc (Nat.le_refl _) _⟩
theorem Mul_no (A B : Option Addr) (m c m' c' : Nat) (z : Int) (w : World) (h : z < 1 ∨ 64 < z) :
    Calls Try.prog 14 #[.slice A m c, .slice B m' c', .int .i64 z] w fun e w' => e = .returned (.tuple #[.slice none 0 0, .int .i64 1]) ∧ Below w.heap.size w w' := by
  go_enter Try.func14, Try.ntmps14
  go_wp2_with fail
  refine (permitted_no z _ h).mono ?_
  rintro e w1 ⟨rfl, rfl⟩
  go_wp2
  go_ret2
  exact ⟨rfl, Below.refl _ _⟩
end Go.Proofs.Ytdgigbehdmhflaa
