/- What fold, product and normal compute, in coordinates. No program in sight (but for the plain functions that the walks name). -/
import Derived.Test.YtdgigbehdmhflaaCycU
import Derived.Test.YtdgigbehdmhflaaCycJ
namespace Go.Proofs.Ytdgigbehdmhflaa.Cyc
open Go.RowKit

theorem has_prime : (List.range 64).all (fun k => decide (k < 2) || primes.any (fun p => decide (k % p = 0))) = true := by decide +kernel
theorem prime_of (k : Nat) (h1 : 2 ≤ k) (h2 : k < 64) : ∃ p, p ∈ primes ∧ k % p = 0 := by
  have := List.all_eq_true.1 has_prime k (List.mem_range.2 h2)
  simp only [Bool.or_eq_true, decide_eq_true_eq, List.any_eq_true] at this
  rcases this with h | ⟨p, hp, h⟩
  · omega
  · exact ⟨p, hp, h⟩
theorem prime_two (p : Nat) (h : p ∈ primes) : 2 ≤ p := by
  have : primes.all (fun p => decide (2 ≤ p)) = true := by decide
  simpa using List.all_eq_true.1 this p h
theorem moves_all {n : Nat} (h1 : 1 ≤ n) (h2 : n ≤ 64) : ∀ (f k : Nat), k ≤ f → 1 ≤ k → k < n → Nat.gcd k n = 1 → Moves n k
  | 0, k, hf, hk, _, _ => by omega
  | f + 1, k, hf, hk, hkn, hg => by
    by_cases e : k = 1
    · subst e; exact moves_one h1 h2
    · obtain ⟨p, hp, hm⟩ := prime_of k (by omega) (by omega)
      have hp2 := prime_two p hp
      obtain ⟨q, rfl⟩ := Nat.dvd_of_mod_eq_zero hm
      have hq1 : 1 ≤ q := by rcases q with _ | q; simp at hk; omega
      have hpq : p ≤ p * q := Nat.le_mul_of_pos_right p (by omega)
      have hqp : q < p * q := by
        have : 2 * q ≤ p * q := Nat.mul_le_mul_right q hp2
        omega
      have gp : Nat.gcd p n = 1 := Nat.eq_one_of_dvd_one (by rw [← hg]; exact Nat.dvd_gcd (Nat.dvd_trans (Nat.gcd_dvd_left p n) (Nat.dvd_mul_right p q)) (Nat.gcd_dvd_right p n))
      have gq : Nat.gcd q n = 1 := Nat.eq_one_of_dvd_one (by rw [← hg]; exact Nat.dvd_gcd (Nat.dvd_trans (Nat.gcd_dvd_left q n) (Nat.dvd_mul_left q p)) (Nat.gcd_dvd_right q n))
      exact moves_mul (moves_of h1 h2 p (gal_prime h1 h2 p hp (by omega) gp)) (moves_all h1 h2 f q (by omega) hq1 (by omega) gq)
/-- For every residue that has no common divisor with n. -/
theorem moves_res {n : Nat} (h1 : 1 ≤ n) (h2 : n ≤ 64) (k : Nat) (hk : k < n) (hg : Nat.gcd k n = 1) : Moves n k := by
  by_cases h0 : k = 0
  · subst h0
    rw [Nat.gcd_zero_left] at hg
    subst hg
    intro m i
    have hd := deg_pos h1 h2
    have hd2 := deg_le 1 h1 h2
    rw [show deg 1 = 1 by omega]
    simp only [sumTo, Nat.mul_zero, Int.zero_add]
    rw [← red_mod h1 h2 m, Nat.mod_one]
    simp [red]
  · exact moves_all h1 h2 64 k (by omega) (by omega) hk hg

/-! ### Linear functionals of lists -/
def lin (n : Nat) (S : List Int) (g : Nat → Int) : Int := sumTo n (fun k => S[k]?.getD 0 * g k)
theorem get_set (S : List Int) (k j : Nat) (x : Int) (hk : k < S.length) : (S.set k x)[j]?.getD 0 = if j = k then x else S[j]?.getD 0 := by
  rw [List.getElem?_set]
  by_cases h : k = j
  · subst h; simp [hk]
  · rw [if_neg h, if_neg (by omega)]
theorem sumTo_change {n k : Nat} (hk : k < n) (f f' : Nat → Int) (h : ∀ j, j ≠ k → f' j = f j) : sumTo n f' = sumTo n f + (f' k - f k) := by
  induction n with
  | zero => omega
  | succ n ih =>
    simp only [sumTo]
    by_cases e : k = n
    · subst e
      rw [sumTo_congr (f := f') (g := f) fun i hi => h i (by omega)]; omega
    · rw [ih (by omega), h n (by omega)]; omega
theorem lin_set {n k : Nat} (S : List Int) (x : Int) (g : Nat → Int) (hk : k < n) (hS : k < S.length) : lin n (S.set k x) g = lin n S g + (x - S[k]?.getD 0) * g k := by
  unfold lin
  rw [sumTo_change hk (fun j => S[j]?.getD 0 * g j) _ (fun j hj => by rw [get_set S k j x hS, if_neg hj]), get_set S k k x hS, if_pos rfl, Int.sub_mul]
def InR (S : List Int) : Prop := ∀ j : Nat, -9223372036854775808 ≤ S[j]?.getD 0 ∧ S[j]?.getD 0 ≤ 9223372036854775807
theorem inR_set {S : List Int} (h : InR S) (k : Nat) (x : Int) (hk : k < S.length) : InR (S.set k (wrap64 x)) := by
  intro j
  rw [get_set S k j _ hk]
  split
  · exact wrap64_bd x
  · exact h j
theorem inR_zeros : InR zeros := by
  intro j
  unfold zeros
  rw [List.getElem?_replicate]
  split <;> simp
theorem lin_zeros (n : Nat) (g : Nat → Int) : lin n zeros g = 0 := by
  unfold lin zeros
  refine sumTo_zero fun k _ => ?_
  rw [List.getElem?_replicate]
  split <;> simp

theorem subRow_lin {n : Nat} (R : List Int) (k : Nat) (c : Int) (Q : List Int) (g : Nat → Int) : ∀ m, k + m ≤ n → k + m ≤ R.length → Cg (lin n (subRow R k c Q m) g) (lin n R g - c * sumTo m (fun j => Q[j]?.getD 0 * g (k + j)))
  | 0, _, _ => Cg.of_eq (by simp [subRow, sumTo])
  | m + 1, h, h' => by
    rw [subRow, lin_set _ _ _ (by omega) (by rw [subRow_length]; omega)]
    have ih := subRow_lin (n := n) R k c Q g m (by omega) (by omega)
    have hx : Cg (wrap64 ((subRow R k c Q m)[k + m]?.getD 0 - wrap64 (c * Q[m]?.getD 0)) - (subRow R k c Q m)[k + m]?.getD 0) (-(c * Q[m]?.getD 0)) := by
      have := ((wrap_cg ((subRow R k c Q m)[k + m]?.getD 0 - wrap64 (c * Q[m]?.getD 0))).trans ((Cg.refl _).sub (wrap_cg (c * Q[m]?.getD 0)))).sub (Cg.refl ((subRow R k c Q m)[k + m]?.getD 0))
      refine this.trans (Cg.of_eq ?_)
      omega
    refine (ih.add (hx.mul' (g (k + m)))).trans (Cg.of_eq ?_)
    rw [sumTo, Int.mul_add, Int.neg_mul, Int.mul_assoc]
    omega
theorem subRow_inR (R : List Int) (k : Nat) (c : Int) (Q : List Int) (h : InR R) : ∀ m, k + m ≤ R.length → InR (subRow R k c Q m)
  | 0, _ => h
  | m + 1, hl => by
    rw [subRow]
    exact inR_set (subRow_inR R k c Q h m (by omega)) _ _ (by rw [subRow_length]; omega)
section
variable {n : Nat} (h1 : 1 ≤ n) (h2 : n ≤ 64)
include h1 h2
theorem redGo_spec : ∀ (m : Nat) (S : List Int), m + deg n ≤ n → S.length = 64 → InR S → (∀ k, m + deg n ≤ k → k < n → Cg (S[k]?.getD 0) 0) →
    InR (redGo (T n) (deg n) m S) ∧ (∀ i, Cg (lin n (redGo (T n) (deg n) m S) (fun k => red n k i)) (lin n S (fun k => red n k i))) ∧ ∀ k, deg n ≤ k → k < n → Cg ((redGo (T n) (deg n) m S)[k]?.getD 0) 0
  | 0, S, _, _, hr, hz => ⟨hr, fun i => Cg.refl _, fun k hk hn => hz k (by omega) hn⟩
  | m + 1, S, hm, hl, hr, hz => by
    have hT := T_length n h1 h2
    have hlen : (subRow S m (S[m + deg n]?.getD 0) (T n) (T n).length).length = 64 := by rw [subRow_length, hl]
    have hget := fun i => subRow_get S m (S[m + deg n]?.getD 0) (T n) (T n).length i (by omega)
    obtain ⟨g1, g2, g3⟩ := redGo_spec m (subRow S m (S[m + deg n]?.getD 0) (T n) (T n).length) (by omega) hlen (subRow_inR S _ _ _ hr _ (by omega)) (by
      intro k hk hn
      by_cases e : k = m + deg n
      · subst e
        rw [hget, if_pos (by omega), Option.getD_some, show m + deg n - m = deg n by omega, show (T n)[deg n]?.getD 0 = 1 from T_monic n h1 h2, Int.mul_one]
        have := (wrap_cg (S[m + deg n]?.getD 0 - wrap64 (S[m + deg n]?.getD 0))).trans ((Cg.refl _).sub (wrap_cg (S[m + deg n]?.getD 0)))
        exact this.trans (Cg.of_eq (by omega))
      · rw [hget, if_neg (by omega)]
        exact hz k (by omega) hn)
    rw [redGo]
    refine ⟨g1, fun i => (g2 i).trans ?_, g3⟩
    have := subRow_lin S m (S[m + deg n]?.getD 0) (T n) (fun k => red n k i) (T n).length (n := n) (by omega) (by omega)
    refine this.trans (Cg.of_eq ?_)
    have hz := phi_zero h1 h2 m i
    rw [hT]
    rw [show sumTo (deg n + 1) (fun j => (T n)[j]?.getD 0 * red n (m + j) i) = 0 from hz]
    omega
/-- The list of the coordinates. -/
def specL (n : Nat) (f : Nat → Int) : List Int := (List.range (deg n)).map f
omit h1 h2 in
theorem specL_get (f : Nat → Int) (i : Nat) (hi : i < deg n) : (specL n f)[i]? = some (f i) := by simp [specL, hi]
omit h1 h2 in
theorem specL_length (f : Nat → Int) : (specL n f).length = deg n := by simp [specL]
omit h1 h2 in
theorem specL_congr {f g : Nat → Int} (h : ∀ i, i < deg n → f i = g i) : specL n f = specL n g := by
  unfold specL
  exact List.map_congr_left fun i hi => h i (List.mem_range.1 hi)
theorem normalW_spec (S : List Int) (hl : S.length = 64) (hr : InR S) : normalW S n = specL n (fun i => wrap64 (lin n S (fun k => red n k i))) := by
  have hd := deg_le n h1 h2
  obtain ⟨g1, g2, g3⟩ := redGo_spec h1 h2 (n - deg n) S (by omega) hl hr (by intro k hk hn; omega)
  apply List.ext_getElem?
  intro i
  by_cases hi : i < deg n
  · rw [specL_get _ _ hi, normalW, List.getElem?_take_of_lt hi]
    have hlen : i < (redGo (T n) (deg n) (n - deg n) S).length := by rw [redGo_length, hl]; omega
    rw [List.getElem?_eq_getElem hlen]
    congr 1
    have hgd : (redGo (T n) (deg n) (n - deg n) S)[i] = (redGo (T n) (deg n) (n - deg n) S)[i]?.getD 0 := by rw [List.getElem?_eq_getElem hlen]; rfl
    rw [hgd, ← wrap_id (g1 i).1 (g1 i).2]
    apply Cg.wrap
    refine Cg.trans (Cg.symm ?_) (g2 i)
    unfold lin
    -- only the term i stays
    have key : Cg (sumTo n (fun k => (redGo (T n) (deg n) (n - deg n) S)[k]?.getD 0 * red n k i)) (sumTo n (fun k => if k = i then (redGo (T n) (deg n) (n - deg n) S)[k]?.getD 0 else 0)) := by
      refine Cg.sum fun k hk => ?_
      by_cases hkt : k < deg n
      · rw [red_lo k hkt]
        by_cases e : k = i
        · subst e; simp; exact Cg.refl _
        · rw [if_neg (by omega), if_neg e]; simp; exact Cg.refl _
      · rw [if_neg (by omega)]
        have := (g3 k (by omega) hk).mul' (red n k i)
        simpa using this
    refine key.trans (Cg.of_eq ?_)
    rw [sumTo_single (k := i) (by omega)]
    · simp
    · intro j _ hne; rw [if_neg hne]
  · rw [List.getElem?_eq_none (by rw [normalW_length S n h1 h2 hl]; omega), List.getElem?_eq_none (by rw [specL_length]; omega)]
end
theorem foldW_inR (a : List Int) (k n : Nat) (h1 : 1 ≤ n) (h2 : n ≤ 64) : ∀ m, InR (foldW a k n m)
  | 0 => inR_zeros
  | m + 1 => inR_set (foldW_inR a k n h1 h2 m) _ _ (by rw [foldW_length]; have := Nat.mod_lt (m * k) (show 0 < n by omega); omega)
theorem foldW_lin (a : List Int) (k n : Nat) (h1 : 1 ≤ n) (h2 : n ≤ 64) (g : Nat → Int) : ∀ m, Cg (lin n (foldW a k n m) g) (sumTo m (fun j => a[j]?.getD 0 * g (j * k % n)))
  | 0 => Cg.of_eq (lin_zeros n g)
  | m + 1 => by
    have hm := Nat.mod_lt (m * k) (show 0 < n by omega)
    rw [foldW, lin_set _ _ _ hm (by rw [foldW_length]; omega), sumTo]
    refine (foldW_lin a k n h1 h2 g m).add ((?_ : Cg _ _).mul' _)
    refine ((wrap_cg _).sub (Cg.refl _)).trans (Cg.of_eq ?_)
    omega
theorem prodRow_inR (R : List Int) (x : Int) (t : List Int) (i n : Nat) (h1 : 1 ≤ n) (h2 : n ≤ 64) (hl : R.length = 64) (h : InR R) : ∀ m, InR (prodRow R x t i n m)
  | 0 => h
  | m + 1 => inR_set (prodRow_inR R x t i n h1 h2 hl h m) _ _ (by rw [prodRow_length, hl]; have := Nat.mod_lt (i + m) (show 0 < n by omega); omega)
theorem prodRow_lin (R : List Int) (x : Int) (t : List Int) (i n : Nat) (h1 : 1 ≤ n) (h2 : n ≤ 64) (hl : R.length = 64) (g : Nat → Int) : ∀ m, Cg (lin n (prodRow R x t i n m) g) (lin n R g + sumTo m (fun j => x * t[j]?.getD 0 * g ((i + j) % n)))
  | 0 => Cg.of_eq (by simp [prodRow, sumTo])
  | m + 1 => by
    have hm := Nat.mod_lt (i + m) (show 0 < n by omega)
    rw [prodRow, lin_set _ _ _ hm (by rw [prodRow_length, hl]; omega), sumTo, ← Int.add_assoc]
    refine (prodRow_lin R x t i n h1 h2 hl g m).add ((?_ : Cg _ _).mul' _)
    refine (((wrap_cg _).trans ((Cg.refl _).add (wrap_cg _))).sub (Cg.refl _)).trans (Cg.of_eq ?_)
    omega
theorem prodW_inR (s t : List Int) (n : Nat) (h1 : 1 ≤ n) (h2 : n ≤ 64) : ∀ m, InR (prodW s t n m)
  | 0 => inR_zeros
  | m + 1 => prodRow_inR _ _ _ _ _ h1 h2 (prodW_length _ _ _ _) (prodW_inR s t n h1 h2 m) _
theorem prodW_lin (s t : List Int) (n : Nat) (h1 : 1 ≤ n) (h2 : n ≤ 64) (g : Nat → Int) : ∀ m, Cg (lin n (prodW s t n m) g) (sumTo m (fun i => sumTo n (fun j => s[i]?.getD 0 * t[j]?.getD 0 * g ((i + j) % n))))
  | 0 => Cg.of_eq (lin_zeros n g)
  | m + 1 => (prodRow_lin _ _ _ _ _ h1 h2 (prodW_length _ _ _ _) g n).trans ((prodW_lin s t n h1 h2 g m).add (Cg.refl _))
end Go.Proofs.Ytdgigbehdmhflaa.Cyc
