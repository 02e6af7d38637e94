/- Products of polynomials, as the statements' code computes them; the product over the divisors, checked by the kernel. No program in sight. -/
import Derived.Test.YtdgigbehdmhflaaCycL
namespace Go.Proofs.Ytdgigbehdmhflaa.Cyc
open Go.RowKit

/-- R with c times the first m elements of Q added from k on. -/
def addRow (R : List Int) (k : Nat) (c : Int) (Q : List Int) : Nat → List Int
  | 0 => R
  | m + 1 => (addRow R k c Q m).set (k + m) (wrap64 ((addRow R k c Q m)[k + m]?.getD 0 + wrap64 (c * Q[m]?.getD 0)))
theorem addRow_length (R : List Int) (k : Nat) (c : Int) (Q : List Int) (m : Nat) : (addRow R k c Q m).length = R.length := by
  induction m with
  | zero => rfl
  | succ m ih => simp [addRow, ih]
theorem addRow_get (R : List Int) (k : Nat) (c : Int) (Q : List Int) (m : Nat) : ∀ i, k + m ≤ R.length → (addRow R k c Q m)[i]? = if k ≤ i ∧ i < k + m then some (wrap64 (R[i]?.getD 0 + wrap64 (c * Q[i - k]?.getD 0))) else R[i]? := by
  induction m with
  | zero => intro i _; rw [if_neg (by omega)]; rfl
  | succ m ih =>
    intro i hl
    rw [addRow, List.getElem?_set]
    by_cases h1 : k + m = i
    · subst h1
      rw [if_pos rfl, if_pos (by rw [addRow_length]; omega), if_pos (by omega), ih _ (by omega), if_neg (by omega), Nat.add_sub_cancel_left]
    · rw [if_neg h1, ih _ (by omega)]
      by_cases h2 : k ≤ i ∧ i < k + m
      · rw [if_pos h2, if_pos (by omega)]
      · rw [if_neg h2, if_neg (by omega)]

/-- The same, quickly. -/
def addZip (c : Int) : List Int → List Int → List Int
  | x :: R, y :: Q => wrap64 (x + wrap64 (c * y)) :: addZip c R Q
  | R, _ => R
def addAt (c : Int) (Q : List Int) : Nat → List Int → List Int
  | 0, R => addZip c R Q
  | k + 1, x :: R => x :: addAt c Q k R
  | _ + 1, [] => []
theorem addZip_get (c : Int) : ∀ (R Q : List Int) (i : Nat), Q.length ≤ R.length → (addZip c R Q)[i]? = if i < Q.length then some (wrap64 (R[i]?.getD 0 + wrap64 (c * Q[i]?.getD 0))) else R[i]?
  | [], [], i, _ => by simp [addZip]
  | [], y :: Q, i, h => by simp at h
  | x :: R, [], i, _ => by simp [addZip]
  | x :: R, y :: Q, 0, _ => by simp [addZip]
  | x :: R, y :: Q, i + 1, h => by
    simp only [addZip, List.getElem?_cons_succ, List.length_cons]
    rw [addZip_get c R Q i (by simpa using h)]
    simp
theorem addAt_get (c : Int) (Q : List Int) : ∀ (k : Nat) (R : List Int) (i : Nat), k + Q.length ≤ R.length → (addAt c Q k R)[i]? = if k ≤ i ∧ i < k + Q.length then some (wrap64 (R[i]?.getD 0 + wrap64 (c * Q[i - k]?.getD 0))) else R[i]?
  | 0, R, i, h => by rw [addAt, addZip_get c R Q i (by omega)]; simp
  | k + 1, [], i, h => by simp at h
  | k + 1, x :: R, 0, _ => by simp [addAt]
  | k + 1, x :: R, i + 1, h => by
    simp only [addAt, List.getElem?_cons_succ]
    rw [addAt_get c Q k R i (by simp at h; omega), show i + 1 - (k + 1) = i - k by omega]
    by_cases h2 : k ≤ i ∧ i < k + Q.length
    · rw [if_pos h2, if_pos (by omega)]
    · rw [if_neg h2, if_neg (by omega)]
theorem addRow_eq (c : Int) (Q R : List Int) (k : Nat) (h : k + Q.length ≤ R.length) : addRow R k c Q Q.length = addAt c Q k R := by
  apply List.ext_getElem?
  intro i
  rw [addRow_get R k c Q Q.length i h, addAt_get c Q k R i h]

def mulGo (P Q : List Int) (len : Nat) : Nat → List Int
  | 0 => List.replicate len 0
  | i + 1 => addRow (mulGo P Q len i) i (P[i]?.getD 0) Q Q.length
theorem mulGo_length (P Q : List Int) (len i : Nat) : (mulGo P Q len i).length = len := by
  induction i with
  | zero => simp [mulGo]
  | succ i ih => rw [mulGo, addRow_length, ih]
def mulW (P Q : List Int) : List Int := mulGo P Q (P.length + (Q.length - 1)) P.length
theorem mulW_length (P Q : List Int) : (mulW P Q).length = P.length + (Q.length - 1) := mulGo_length _ _ _ _
def mulQgo (Q : List Int) : List Int → Nat → List Int → List Int
  | [], _, N => N
  | x :: P, i, N => mulQgo Q P (i + 1) (addAt x Q i N)
theorem mulGo_eq (P Q : List Int) (len : Nat) (hl : len = P.length + (Q.length - 1)) (hQ : 1 ≤ Q.length) : ∀ (R : List Int) (i : Nat), i + R.length = P.length → P.drop i = R → mulGo P Q len P.length = mulQgo Q R i (mulGo P Q len i)
  | [], i, h, _ => by simp at h; subst h; rfl
  | x :: R, i, h, hd => by
    simp at h
    have hx : P[i]? = some x := by rw [← List.head?_drop, hd]; rfl
    have hd' : P.drop (i + 1) = R := by rw [← List.drop_drop, hd]; rfl
    rw [mulGo_eq P Q len hl hQ R (i + 1) (by omega) hd', mulQgo]
    congr 1
    rw [mulGo, hx, addRow_eq _ _ _ _ (by rw [mulGo_length]; omega)]
    rfl
def mulQ (P Q : List Int) : List Int := mulQgo Q P 0 (List.replicate (P.length + (Q.length - 1)) 0)
theorem mulW_eq (P Q : List Int) (hQ : 1 ≤ Q.length) : mulW P Q = mulQ P Q := by
  unfold mulW mulQ
  rw [mulGo_eq P Q _ rfl hQ P 0 (by omega) rfl]
  rfl

/-- The product over the divisors 1 .. d of n. -/
def facTo (n : Nat) : Nat → List Int
  | 0 => [1]
  | d + 1 => if n % (d + 1) = 0 then mulW (facTo n d) (T (d + 1)) else facTo n d
def degTo (n : Nat) : Nat → Nat
  | 0 => 0
  | d + 1 => if n % (d + 1) = 0 then degTo n d + deg (d + 1) else degTo n d
def facQ (n : Nat) : Nat → Nat → List Int → Nat → Bool
  | 0, _, p, s => p == start n && s == n
  | m + 1, d, p, s => if n % d = 0 then facQ n m (d + 1) (mulQ p (T d)) (s + deg d) else facQ n m (d + 1) p s
theorem fac_checked : (List.range 64).all (fun i => facQ (i + 1) (i + 1) 1 [1] 0) = true := by decide +kernel
theorem facQ_spec (n : Nat) : ∀ (m d : Nat) (p : List Int) (s : Nat), d + m ≤ 64 → facTo n d = p → degTo n d = s → facQ n m (d + 1) p s = true → facTo n (d + m) = start n ∧ degTo n (d + m) = n
  | 0, d, p, s, _, h, h', hq => by simp [facQ] at hq; rw [Nat.add_zero, h, h', hq.1, hq.2]; exact ⟨rfl, rfl⟩
  | m + 1, d, p, s, hd, h, h', hq => by
    rw [facQ] at hq
    by_cases h0 : n % (d + 1) = 0
    · rw [if_pos h0] at hq
      have := facQ_spec n m (d + 1) _ _ (by omega) (by rw [facTo, if_pos h0, h, mulW_eq _ _ (by rcases T_len d with h' | h' <;> omega)]) (by rw [degTo, if_pos h0, h']) hq
      rw [show d + (m + 1) = d + 1 + m by omega]; exact this
    · rw [if_neg h0] at hq
      have := facQ_spec n m (d + 1) _ _ (by omega) (by rw [facTo, if_neg h0, h]) (by rw [degTo, if_neg h0, h']) hq
      rw [show d + (m + 1) = d + 1 + m by omega]; exact this
theorem fac_all (n : Nat) (h1 : 1 ≤ n) (h2 : n ≤ 64) : facTo n n = start n ∧ degTo n n = n := by
  have := List.all_eq_true.1 fac_checked (n - 1) (List.mem_range.2 (by omega))
  rw [show n - 1 + 1 = n by omega] at this
  have h := facQ_spec n n 0 [1] 0 (by omega) rfl rfl this
  rwa [Nat.zero_add] at h
theorem degTo_mono (n : Nat) : ∀ k d, degTo n d ≤ degTo n (d + k)
  | 0, d => Nat.le_refl _
  | k + 1, d => by
    have := degTo_mono n k d
    rw [← Nat.add_assoc, degTo]
    split <;> omega
theorem degTo_le (n d : Nat) (h1 : 1 ≤ n) (h2 : n ≤ 64) (hd : d ≤ n) : degTo n d ≤ n := by
  have := degTo_mono n (n - d) d
  rw [show d + (n - d) = n by omega, (fac_all n h1 h2).2] at this
  exact this
theorem facTo_length (n d : Nat) (h2 : n ≤ 64) (hd : d ≤ n) : (facTo n d).length = degTo n d + 1 := by
  induction d with
  | zero => rfl
  | succ d ih =>
    have := ih (by omega)
    rw [facTo, degTo]
    split
    · rw [mulW_length, this]
      have := T_length (d + 1) (by omega) (by omega)
      omega
    · exact this
theorem start_get (n i : Nat) (h : 1 ≤ n) (hi : i ≤ n) : (start n)[i]?.getD 0 = if i = 0 then -1 else if i = n then 1 else 0 := by
  obtain ⟨m, rfl⟩ : ∃ m, n = m + 1 := ⟨n - 1, by omega⟩
  unfold start
  rcases i with _ | i
  · rfl
  · rw [List.getElem?_cons_succ, Nat.add_sub_cancel, if_neg (by omega)]
    by_cases h1 : i = m
    · subst h1; simp
    · rw [if_neg (by omega), List.getElem?_append_left (by simp; omega)]
      simp [show i < m by omega]
/-- How many of 1 .. m have no common divisor with n. -/
def totTo (n : Nat) : Nat → Nat
  | 0 => 0
  | m + 1 => if Int.gcd ((m : Int) + 1) n = 1 then totTo n m + 1 else totTo n m
theorem totTo_le (n m : Nat) : totTo n m ≤ m := by
  induction m with
  | zero => exact Nat.le_refl _
  | succ m ih => rw [totTo]; split <;> omega
theorem tot_checked : (List.range 64).all (fun i => totTo (i + 1) (i + 1) == deg (i + 1) && ((T (i + 1))[deg (i + 1)]?.getD 0 == 1)) = true := by decide +kernel
theorem tot_deg (n : Nat) (h1 : 1 ≤ n) (h2 : n ≤ 64) : totTo n n = deg n := by
  have := List.all_eq_true.1 tot_checked (n - 1) (List.mem_range.2 (by omega))
  rw [show n - 1 + 1 = n by omega] at this
  simp at this
  exact this.1
theorem T_monic (n : Nat) (h1 : 1 ≤ n) (h2 : n ≤ 64) : (T n)[deg n]?.getD 0 = 1 := by
  have := List.all_eq_true.1 tot_checked (n - 1) (List.mem_range.2 (by omega))
  rw [show n - 1 + 1 = n by omega] at this
  simp at this
  exact this.2
end Go.Proofs.Ytdgigbehdmhflaa.Cyc
