/- What the checks give: the powers repeat, are small, are moved by Galois. No program in sight. -/
import Derived.Test.YtdgigbehdmhflaaCycQ
namespace Go.Proofs.Ytdgigbehdmhflaa.Cyc
open Go.RowKit

theorem from_spec (a m : Nat) (h : checkFrom a m = true) (n : Nat) (h1 : a + 1 ≤ n) (h2 : n ≤ a + m) : checkAll n (rowsGo (T n) n (firstV n)) = true := by
  have := List.all_eq_true.1 h (n - a - 1) (List.mem_range.2 (by omega))
  rwa [show a + (n - a - 1) + 1 = n by omega] at this
section
variable {n : Nat} (h1 : 1 ≤ n) (h2 : n ≤ 64)
include h1 h2
theorem checked : checkAll n (rowsGo (T n) n (firstV n)) = true := by
  by_cases a : n ≤ 32
  · exact from_spec 0 32 all_checked0 n (by omega) (by omega)
  by_cases a : n ≤ 40
  · exact from_spec 32 8 all_checked1 n (by omega) (by omega)
  by_cases a : n ≤ 46
  · exact from_spec 40 6 all_checked2 n (by omega) (by omega)
  by_cases a : n ≤ 52
  · exact from_spec 46 6 all_checked3 n (by omega) (by omega)
  by_cases a : n ≤ 58
  · exact from_spec 52 6 all_checked4 n (by omega) (by omega)
  by_cases a : n ≤ 61
  · exact from_spec 58 3 all_checked5 n (by omega) (by omega)
  · exact from_spec 61 3 all_checked6 n (by omega) (by omega)
omit h1 h2 in
theorem rows_at (j : Nat) (hj : j < n) : (rowsGo (T n) n (firstV n))[j]? = some (redV n j) := by
  have := rowsGo_get n n 0 j hj
  rwa [Nat.zero_add] at this
theorem red_n (i : Nat) : red n n i = red n 0 i := by
  have h := checked h1 h2
  simp only [checkAll, Bool.and_eq_true, beq_iff_eq] at h
  rw [← redV_get h1 h2, ← redV_get h1 h2, h.1.1.1]; rfl
theorem red_period (k i : Nat) : red n (k + n) i = red n k i := by
  induction k generalizing i with
  | zero => rw [Nat.zero_add]; exact red_n h1 h2 i
  | succ k ih =>
    rw [show k + 1 + n = k + n + 1 by omega, red, red]
    exact up_congr n ih i
theorem red_add_mul (k q i : Nat) : red n (k + n * q) i = red n k i := by
  induction q with
  | zero => rfl
  | succ q ih => rw [Nat.mul_succ, ← Nat.add_assoc, red_period h1 h2, ih]
theorem red_mod (k i : Nat) : red n (k % n) i = red n k i := by
  conv => rhs; rw [← Nat.mod_add_div k n]
  exact (red_add_mul h1 h2 _ _ _).symm
theorem red_mod_add (a b i : Nat) : red n (a % n + b) i = red n (a + b) i := by
  rw [← red_mod h1 h2 (a % n + b), ← red_mod h1 h2 (a + b), Nat.mod_add_mod]
theorem red_small (k i : Nat) : -1 ≤ red n k i ∧ red n k i ≤ 1 := by
  rw [← red_mod h1 h2]
  have hk : k % n < n := Nat.mod_lt _ (by omega)
  have h := checked h1 h2
  simp only [checkAll, Bool.and_eq_true] at h
  have hr := List.all_eq_true.1 h.1.1.2 _ (List.mem_of_getElem? (rows_at _ hk))
  rw [← redV_get h1 h2]
  rcases Nat.lt_or_ge i (redV n (k % n)).length with hi | hi
  · rw [List.getElem?_eq_getElem hi]
    have := List.all_eq_true.1 hr _ (List.getElem_mem hi)
    simpa using this
  · rw [List.getElem?_eq_none hi]; simp
theorem combV_get (k : Nat) (i : Nat) : ∀ (cs : List Int) (j : Nat) (acc : List Int), acc.length = deg n →
    (combV (rowsGo (T n) n (firstV n)) k n cs j acc)[i]?.getD 0 = acc[i]?.getD 0 + sumTo cs.length (fun a => cs[a]?.getD 0 * red n ((j + a) * k % n) i)
  | [], j, acc, _ => by simp [combV, sumTo]
  | c :: cs, j, acc, hl => by
    have hm : j * k % n < n := Nat.mod_lt _ (by omega)
    rw [combV, rows_at _ hm, Option.getD_some, combV_get k i cs (j + 1) _ (by rw [addV_length, hl]), addV_get _ _ _ _ (by rw [redV_length h1 h2, hl]), redV_get h1 h2, List.length_cons, sumTo_shift]
    simp only [Nat.add_zero, List.getElem?_cons_zero, Option.getD_some, List.getElem?_cons_succ]
    rw [Int.add_assoc]
    congr 2
    exact sumTo_congr fun a _ => by rw [show j + 1 + a = j + (a + 1) by omega]
omit h1 h2 in
theorem allZero_get {v : List Int} (h : allZero v = true) (i : Nat) : v[i]?.getD 0 = 0 := by
  rcases Nat.lt_or_ge i v.length with hi | hi
  · rw [List.getElem?_eq_getElem hi]
    have := List.all_eq_true.1 h _ (List.getElem_mem hi)
    simpa using this
  · rw [List.getElem?_eq_none hi]; rfl
omit h1 h2 in
theorem repl_get (m i : Nat) : (List.replicate m (0 : Int))[i]?.getD 0 = 0 := by
  rw [List.getElem?_replicate]; split <;> rfl
/-- Phi at the p-th power is zero. -/
theorem gal_prime (p : Nat) (hp : p ∈ primes) (hpn : p < n) (hg : Nat.gcd p n = 1) (i : Nat) : sumTo (deg n + 1) (fun j => ph n j * red n (j * p) i) = 0 := by
  have h := checked h1 h2
  simp only [checkAll, Bool.and_eq_true, checkGal] at h
  have hk := List.all_eq_true.1 h.2 p hp
  simp only [hpn, decide_true, hg, BEq.rfl, Bool.and_self, Bool.not_true, Bool.false_or] at hk
  have hz := allZero_get hk i
  rw [combV_get h1 h2 p i (T n) 0 _ (by simp), repl_get, Int.zero_add, T_length n h1 h2] at hz
  rw [← hz]
  exact sumTo_congr fun j _ => by rw [Nat.zero_add, red_mod h1 h2]; rfl
theorem roots_sum (hn : n ≠ 1) (i : Nat) : sumTo n (fun j => red n j i) = 0 := by
  have h := checked h1 h2
  simp only [checkAll, Bool.and_eq_true, Bool.or_eq_true, beq_iff_eq] at h
  have hz := allZero_get (h.1.2.resolve_left hn) i
  rw [combV_get h1 h2 1 i _ 0 _ (by simp), repl_get, Int.zero_add, List.length_replicate] at hz
  rw [← hz]
  exact sumTo_congr fun j hj => by rw [Nat.zero_add, Nat.mul_one, red_mod h1 h2, List.getElem?_replicate, if_pos hj, Option.getD_some, Int.one_mul]

/-- The map x -> x^p keeps the reduction. -/
def Moves (n p : Nat) : Prop := ∀ m i, sumTo (deg n) (fun a => red n m a * red n (a * p) i) = red n (m * p) i
theorem red_up (k j i : Nat) : sumTo (deg n) (fun a => red n k a * red n (a + j) i) = red n (k + j) i := red_mul h1 h2 k j i
theorem moves_of (p : Nat) (hz : ∀ i, sumTo (deg n + 1) (fun j => ph n j * red n (j * p) i) = 0) : Moves n p := by
  have hd := deg_pos h1 h2
  intro m
  induction m with
  | zero =>
    intro i
    rw [Nat.zero_mul]
    rw [sumTo_single (k := 0) (by omega)]
    · rw [Nat.zero_mul]; simp [red]
    · intro a _ hne; simp [red, hne]
  | succ m ih =>
    intro i
    -- sum over a of red (m+1) a * red (a p) = x^p times the sum for m
    have e1 : sumTo (deg n) (fun a => red n (m + 1) a * red n (a * p) i) =
        sumTo (deg n) (fun a => (if a = 0 then 0 else red n m (a - 1)) * red n (a * p) i) - red n m (deg n - 1) * sumTo (deg n) (fun a => ph n a * red n (a * p) i) := by
      rw [← sumTo_mul, ← sumTo_sub]
      refine sumTo_congr fun a ha => ?_
      rw [red, up, if_pos ha, Int.sub_mul, Int.mul_assoc]
    have e2 := hz i
    rw [sumTo, show ph n (deg n) = 1 from T_monic n h1 h2, Int.one_mul] at e2
    obtain ⟨t, ht⟩ : ∃ t, deg n = t + 1 := ⟨deg n - 1, by omega⟩
    have e3 : sumTo (deg n) (fun a => (if a = 0 then 0 else red n m (a - 1)) * red n (a * p) i) = sumTo t (fun a => red n m a * red n (a * p + p) i) := by
      rw [ht, sumTo_shift, if_pos rfl, Int.zero_mul, Int.zero_add]
      exact sumTo_congr fun a _ => by rw [if_neg (by omega), Nat.add_sub_cancel, Nat.succ_mul]
    have e4 : sumTo (deg n) (fun a => red n m a * red n (a * p + p) i) = red n (m * p + p) i := by
      -- apply x^p to the hypothesis
      have key : ∀ q i, sumTo (deg n) (fun a => red n m a * red n (a * p + q) i) = red n (m * p + q) i := by
        intro q
        induction q with
        | zero => intro i; simpa using ih i
        | succ q ihq =>
          intro i
          have e : ∀ a, red n (a * p + (q + 1)) i = up n (red n (a * p + q)) i := fun a => rfl
          simp only [e]
          rw [← up_sum, up_congr n ihq]
      exact key p i
    have e5 : sumTo (deg n) (fun a => ph n a * red n (a * p) i) = - red n (deg n * p) i := by omega
    rw [e1, e3, e5, Nat.succ_mul, ← e4, ht, Nat.add_sub_cancel, Int.mul_neg, Nat.succ_mul]
    conv => rhs; rw [sumTo]
    omega
omit h1 h2 in
theorem moves_mul {p q : Nat} (hp : Moves n p) (hq : Moves n q) : Moves n (p * q) := by
  intro m i
  have e : ∀ a, red n (a * (p * q)) i = sumTo (deg n) (fun b => red n (a * p) b * red n (b * q) i) := fun a => by rw [hq, Nat.mul_assoc]
  simp only [e]
  have : sumTo (deg n) (fun a => red n m a * sumTo (deg n) (fun b => red n (a * p) b * red n (b * q) i)) = sumTo (deg n) (fun b => sumTo (deg n) (fun a => red n m a * red n (a * p) b) * red n (b * q) i) := by
    rw [sumTo_sum_mul]
    exact sumTo_congr fun a _ => by rw [← sumTo_mul]; exact sumTo_congr fun b _ => (Int.mul_assoc _ _ _).symm
  rw [this]
  simp only [hp m]
theorem moves_one : Moves n 1 := by
  intro m i
  have := red_mul h1 h2 m 0 i
  simpa using this
end
end Go.Proofs.Ytdgigbehdmhflaa.Cyc
