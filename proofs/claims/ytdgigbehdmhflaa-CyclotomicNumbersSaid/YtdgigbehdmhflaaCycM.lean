/- The plain functions of the layer cyclotomic, as its code computes them (with wrapping). No program in sight. -/
import Derived.WalkKit
namespace Go.Proofs.Ytdgigbehdmhflaa.Cyc
open Go.RowKit

/-- R with c times the first m elements of Q subtracted from k on. -/
def subRow (R : List Int) (k : Nat) (c : Int) (Q : List Int) : Nat → List Int
  | 0 => R
  | m + 1 => (subRow R k c Q m).set (k + m) (wrap64 ((subRow R k c Q m)[k + m]?.getD 0 - wrap64 (c * Q[m]?.getD 0)))
theorem subRow_length (R : List Int) (k : Nat) (c : Int) (Q : List Int) (m : Nat) : (subRow R k c Q m).length = R.length := by
  induction m with
  | zero => rfl
  | succ m ih => simp [subRow, ih]

/-- The division of R by Q (of degree top): m rounds are still to be made; r is the quotient so far. -/
def divGo (Q : List Int) (top : Nat) : Nat → List Int → List Int → List Int
  | 0, _, r => r
  | m + 1, R, r => divGo Q top m (subRow R m (R[m + top]?.getD 0) Q Q.length) (r.set m (R[m + top]?.getD 0))
def quot (p q : List Int) : List Int := divGo q (q.length - 1) (p.length - (q.length - 1)) p (List.replicate (p.length - (q.length - 1)) 0)
theorem divGo_length (Q : List Int) (top m : Nat) : ∀ R r, (divGo Q top m R r).length = r.length := by
  induction m with
  | zero => intro R r; rfl
  | succ m ih => intro R r; simp [divGo, ih]
theorem quot_length (p q : List Int) : (quot p q).length = p.length - (q.length - 1) := by simp [quot, divGo_length]

theorem subRow_get (R : List Int) (k : Nat) (c : Int) (Q : List Int) (m : Nat) : ∀ i, k + m ≤ R.length → (subRow R k c Q m)[i]? = if k ≤ i ∧ i < k + m then some (wrap64 (R[i]?.getD 0 - wrap64 (c * Q[i - k]?.getD 0))) else R[i]? := by
  induction m with
  | zero => intro i _; rw [if_neg (by omega)]; rfl
  | succ m ih =>
    intro i hl
    rw [subRow, List.getElem?_set]
    by_cases h1 : k + m = i
    · subst h1
      rw [if_pos rfl, if_pos (by rw [subRow_length]; omega), if_pos (by omega), ih _ (by omega), if_neg (by omega), Nat.add_sub_cancel_left]
    · rw [if_neg h1, ih _ (by omega)]
      by_cases h2 : k ≤ i ∧ i < k + m
      · rw [if_pos h2, if_pos (by omega)]
      · rw [if_neg h2, if_neg (by omega)]

/-- The same, quickly. -/
def subZip (c : Int) : List Int → List Int → List Int
  | x :: R, y :: Q => wrap64 (x - wrap64 (c * y)) :: subZip c R Q
  | R, _ => R
def subAt (c : Int) (Q : List Int) : Nat → List Int → List Int
  | 0, R => subZip c R Q
  | k + 1, x :: R => x :: subAt c Q k R
  | _ + 1, [] => []
theorem subZip_get (c : Int) : ∀ (R Q : List Int) (i : Nat), Q.length ≤ R.length → (subZip c R Q)[i]? = if i < Q.length then some (wrap64 (R[i]?.getD 0 - wrap64 (c * Q[i]?.getD 0))) else R[i]?
  | [], [], i, _ => by simp [subZip]
  | [], y :: Q, i, h => by simp at h
  | x :: R, [], i, _ => by simp [subZip]
  | x :: R, y :: Q, 0, _ => by simp [subZip]
  | x :: R, y :: Q, i + 1, h => by
    simp only [subZip, List.getElem?_cons_succ, List.length_cons]
    rw [subZip_get c R Q i (by simpa using h)]
    simp
theorem subAt_get (c : Int) (Q : List Int) : ∀ (k : Nat) (R : List Int) (i : Nat), k + Q.length ≤ R.length → (subAt c Q k R)[i]? = if k ≤ i ∧ i < k + Q.length then some (wrap64 (R[i]?.getD 0 - wrap64 (c * Q[i - k]?.getD 0))) else R[i]?
  | 0, R, i, h => by rw [subAt, subZip_get c R Q i (by omega)]; simp
  | k + 1, [], i, h => by simp at h
  | k + 1, x :: R, 0, _ => by simp [subAt]
  | k + 1, x :: R, i + 1, h => by
    simp only [subAt, List.getElem?_cons_succ]
    rw [subAt_get c Q k R i (by simp at h; omega), show i + 1 - (k + 1) = i - k by omega]
    by_cases h2 : k ≤ i ∧ i < k + Q.length
    · rw [if_pos h2, if_pos (by omega)]
    · rw [if_neg h2, if_neg (by omega)]
theorem subRow_eq (c : Int) (Q R : List Int) (k : Nat) (h : k + Q.length ≤ R.length) : subRow R k c Q Q.length = subAt c Q k R := by
  apply List.ext_getElem?
  intro i
  rw [subRow_get R k c Q Q.length i h, subAt_get c Q k R i h]
def divQ (Q : List Int) (top : Nat) : Nat → List Int → List Int → List Int
  | 0, _, r => r
  | m + 1, R, r => divQ Q top m (subAt (R[m + top]?.getD 0) Q m R) ((R[m + top]?.getD 0) :: r)
theorem subAt_length (c : Int) (Q : List Int) (k : Nat) (R : List Int) (h : k + Q.length ≤ R.length) : (subAt c Q k R).length = R.length := by
  rw [← subRow_eq c Q R k h, subRow_length]
theorem divGo_eq (Q : List Int) (top : Nat) (hQ : Q.length = top + 1) : ∀ (m : Nat) (R r : List Int), m + top ≤ R.length → m ≤ r.length → divGo Q top m R r = divQ Q top m R (r.drop m)
  | 0, R, r, _, _ => by simp [divGo, divQ]
  | m + 1, R, r, h, h2 => by
    rw [divGo, divQ, subRow_eq _ _ _ _ (by omega)]
    rw [divGo_eq Q top hQ m _ _ (by rw [subAt_length _ _ _ _ (by omega)]; omega) (by simp; omega)]
    congr 1
    rw [List.drop_eq_getElem_cons (i := m) (by simp; omega)]
    simp [List.drop_set]
def quotQ (p q : List Int) : List Int := divQ q (q.length - 1) (p.length - (q.length - 1)) p []
theorem quot_eq (p q : List Int) (hq : 1 ≤ q.length) (hp : q.length ≤ p.length + 1) : quot p q = quotQ p q := by
  unfold quot quotQ
  rw [divGo_eq q _ (by omega) _ _ _ (by omega) (by simp)]
  simp

def tab : List (List Int) := [[],
  [-1, 1],
  [1, 1],
  [1, 1, 1],
  [1, 0, 1],
  [1, 1, 1, 1, 1],
  [1, -1, 1],
  [1, 1, 1, 1, 1, 1, 1],
  [1, 0, 0, 0, 1],
  [1, 0, 0, 1, 0, 0, 1],
  [1, -1, 1, -1, 1],
  [1, 1, 1, 1, 1, 1, 1, 1, 1, 1, 1],
  [1, 0, -1, 0, 1],
  [1, 1, 1, 1, 1, 1, 1, 1, 1, 1, 1, 1, 1],
  [1, -1, 1, -1, 1, -1, 1],
  [1, -1, 0, 1, -1, 1, 0, -1, 1],
  [1, 0, 0, 0, 0, 0, 0, 0, 1],
  [1, 1, 1, 1, 1, 1, 1, 1, 1, 1, 1, 1, 1, 1, 1, 1, 1],
  [1, 0, 0, -1, 0, 0, 1],
  [1, 1, 1, 1, 1, 1, 1, 1, 1, 1, 1, 1, 1, 1, 1, 1, 1, 1, 1],
  [1, 0, -1, 0, 1, 0, -1, 0, 1],
  [1, -1, 0, 1, -1, 0, 1, 0, -1, 1, 0, -1, 1],
  [1, -1, 1, -1, 1, -1, 1, -1, 1, -1, 1],
  [1, 1, 1, 1, 1, 1, 1, 1, 1, 1, 1, 1, 1, 1, 1, 1, 1, 1, 1, 1, 1, 1, 1],
  [1, 0, 0, 0, -1, 0, 0, 0, 1],
  [1, 0, 0, 0, 0, 1, 0, 0, 0, 0, 1, 0, 0, 0, 0, 1, 0, 0, 0, 0, 1],
  [1, -1, 1, -1, 1, -1, 1, -1, 1, -1, 1, -1, 1],
  [1, 0, 0, 0, 0, 0, 0, 0, 0, 1, 0, 0, 0, 0, 0, 0, 0, 0, 1],
  [1, 0, -1, 0, 1, 0, -1, 0, 1, 0, -1, 0, 1],
  [1, 1, 1, 1, 1, 1, 1, 1, 1, 1, 1, 1, 1, 1, 1, 1, 1, 1, 1, 1, 1, 1, 1, 1, 1, 1, 1, 1, 1],
  [1, 1, 0, -1, -1, -1, 0, 1, 1],
  [1, 1, 1, 1, 1, 1, 1, 1, 1, 1, 1, 1, 1, 1, 1, 1, 1, 1, 1, 1, 1, 1, 1, 1, 1, 1, 1, 1, 1, 1, 1],
  [1, 0, 0, 0, 0, 0, 0, 0, 0, 0, 0, 0, 0, 0, 0, 0, 1],
  [1, -1, 0, 1, -1, 0, 1, -1, 0, 1, -1, 1, 0, -1, 1, 0, -1, 1, 0, -1, 1],
  [1, -1, 1, -1, 1, -1, 1, -1, 1, -1, 1, -1, 1, -1, 1, -1, 1],
  [1, -1, 0, 0, 0, 1, -1, 1, -1, 0, 1, -1, 1, -1, 1, 0, -1, 1, -1, 1, 0, 0, 0, -1, 1],
  [1, 0, 0, 0, 0, 0, -1, 0, 0, 0, 0, 0, 1],
  [1, 1, 1, 1, 1, 1, 1, 1, 1, 1, 1, 1, 1, 1, 1, 1, 1, 1, 1, 1, 1, 1, 1, 1, 1, 1, 1, 1, 1, 1, 1, 1, 1, 1, 1, 1, 1],
  [1, -1, 1, -1, 1, -1, 1, -1, 1, -1, 1, -1, 1, -1, 1, -1, 1, -1, 1],
  [1, -1, 0, 1, -1, 0, 1, -1, 0, 1, -1, 0, 1, 0, -1, 1, 0, -1, 1, 0, -1, 1, 0, -1, 1],
  [1, 0, 0, 0, -1, 0, 0, 0, 1, 0, 0, 0, -1, 0, 0, 0, 1],
  [1, 1, 1, 1, 1, 1, 1, 1, 1, 1, 1, 1, 1, 1, 1, 1, 1, 1, 1, 1, 1, 1, 1, 1, 1, 1, 1, 1, 1, 1, 1, 1, 1, 1, 1, 1, 1, 1, 1, 1, 1],
  [1, 1, 0, -1, -1, 0, 1, 0, -1, -1, 0, 1, 1],
  [1, 1, 1, 1, 1, 1, 1, 1, 1, 1, 1, 1, 1, 1, 1, 1, 1, 1, 1, 1, 1, 1, 1, 1, 1, 1, 1, 1, 1, 1, 1, 1, 1, 1, 1, 1, 1, 1, 1, 1, 1, 1, 1],
  [1, 0, -1, 0, 1, 0, -1, 0, 1, 0, -1, 0, 1, 0, -1, 0, 1, 0, -1, 0, 1],
  [1, 0, 0, -1, 0, 0, 0, 0, 0, 1, 0, 0, -1, 0, 0, 1, 0, 0, 0, 0, 0, -1, 0, 0, 1],
  [1, -1, 1, -1, 1, -1, 1, -1, 1, -1, 1, -1, 1, -1, 1, -1, 1, -1, 1, -1, 1, -1, 1],
  [1, 1, 1, 1, 1, 1, 1, 1, 1, 1, 1, 1, 1, 1, 1, 1, 1, 1, 1, 1, 1, 1, 1, 1, 1, 1, 1, 1, 1, 1, 1, 1, 1, 1, 1, 1, 1, 1, 1, 1, 1, 1, 1, 1, 1, 1, 1],
  [1, 0, 0, 0, 0, 0, 0, 0, -1, 0, 0, 0, 0, 0, 0, 0, 1],
  [1, 0, 0, 0, 0, 0, 0, 1, 0, 0, 0, 0, 0, 0, 1, 0, 0, 0, 0, 0, 0, 1, 0, 0, 0, 0, 0, 0, 1, 0, 0, 0, 0, 0, 0, 1, 0, 0, 0, 0, 0, 0, 1],
  [1, 0, 0, 0, 0, -1, 0, 0, 0, 0, 1, 0, 0, 0, 0, -1, 0, 0, 0, 0, 1],
  [1, -1, 0, 1, -1, 0, 1, -1, 0, 1, -1, 0, 1, -1, 0, 1, -1, 1, 0, -1, 1, 0, -1, 1, 0, -1, 1, 0, -1, 1, 0, -1, 1],
  [1, 0, -1, 0, 1, 0, -1, 0, 1, 0, -1, 0, 1, 0, -1, 0, 1, 0, -1, 0, 1, 0, -1, 0, 1],
  [1, 1, 1, 1, 1, 1, 1, 1, 1, 1, 1, 1, 1, 1, 1, 1, 1, 1, 1, 1, 1, 1, 1, 1, 1, 1, 1, 1, 1, 1, 1, 1, 1, 1, 1, 1, 1, 1, 1, 1, 1, 1, 1, 1, 1, 1, 1, 1, 1, 1, 1, 1, 1],
  [1, 0, 0, 0, 0, 0, 0, 0, 0, -1, 0, 0, 0, 0, 0, 0, 0, 0, 1],
  [1, -1, 0, 0, 0, 1, -1, 0, 0, 0, 1, 0, -1, 0, 0, 1, 0, -1, 0, 0, 1, 0, 0, -1, 0, 1, 0, 0, -1, 0, 1, 0, 0, 0, -1, 1, 0, 0, 0, -1, 1],
  [1, 0, 0, 0, -1, 0, 0, 0, 1, 0, 0, 0, -1, 0, 0, 0, 1, 0, 0, 0, -1, 0, 0, 0, 1],
  [1, -1, 0, 1, -1, 0, 1, -1, 0, 1, -1, 0, 1, -1, 0, 1, -1, 0, 1, 0, -1, 1, 0, -1, 1, 0, -1, 1, 0, -1, 1, 0, -1, 1, 0, -1, 1],
  [1, -1, 1, -1, 1, -1, 1, -1, 1, -1, 1, -1, 1, -1, 1, -1, 1, -1, 1, -1, 1, -1, 1, -1, 1, -1, 1, -1, 1],
  [1, 1, 1, 1, 1, 1, 1, 1, 1, 1, 1, 1, 1, 1, 1, 1, 1, 1, 1, 1, 1, 1, 1, 1, 1, 1, 1, 1, 1, 1, 1, 1, 1, 1, 1, 1, 1, 1, 1, 1, 1, 1, 1, 1, 1, 1, 1, 1, 1, 1, 1, 1, 1, 1, 1, 1, 1, 1, 1],
  [1, 0, 1, 0, 0, 0, -1, 0, -1, 0, -1, 0, 0, 0, 1, 0, 1],
  [1, 1, 1, 1, 1, 1, 1, 1, 1, 1, 1, 1, 1, 1, 1, 1, 1, 1, 1, 1, 1, 1, 1, 1, 1, 1, 1, 1, 1, 1, 1, 1, 1, 1, 1, 1, 1, 1, 1, 1, 1, 1, 1, 1, 1, 1, 1, 1, 1, 1, 1, 1, 1, 1, 1, 1, 1, 1, 1, 1, 1],
  [1, -1, 1, -1, 1, -1, 1, -1, 1, -1, 1, -1, 1, -1, 1, -1, 1, -1, 1, -1, 1, -1, 1, -1, 1, -1, 1, -1, 1, -1, 1],
  [1, 0, 0, -1, 0, 0, 0, 0, 0, 1, 0, 0, -1, 0, 0, 0, 0, 0, 1, 0, 0, 0, 0, 0, -1, 0, 0, 1, 0, 0, 0, 0, 0, -1, 0, 0, 1],
  [1, 0, 0, 0, 0, 0, 0, 0, 0, 0, 0, 0, 0, 0, 0, 0, 0, 0, 0, 0, 0, 0, 0, 0, 0, 0, 0, 0, 0, 0, 0, 0, 1]]

def T (n : Nat) : List Int := (tab[n]?).getD []
def start (n : Nat) : List Int := -1 :: (List.replicate (n - 1) 0 ++ [1])
/-- What phi's variable holds after the divisors 1 .. d have been seen. -/
def phiTo (n : Nat) : Nat → List Int
  | 0 => start n
  | d + 1 => if n % (d + 1) = 0 then quot (phiTo n d) (T (d + 1)) else phiTo n d
def phiQ (n : Nat) : Nat → Nat → List Int → Bool
  | 0, _, p => p == T n
  | m + 1, d, p => if n % d = 0 then decide ((T d).length ≤ p.length) && phiQ n m (d + 1) (quotQ p (T d)) else phiQ n m (d + 1) p
def phiOk (n : Nat) : Bool := decide (1 ≤ (T n).length) && phiQ n (n - 1) 1 (start n)


/-- The reduction of S by Q (monic, of degree top): m rounds are still to be made. -/
def redGo (Q : List Int) (top : Nat) : Nat → List Int → List Int
  | 0, S => S
  | m + 1, S => redGo Q top m (subRow S m (S[m + top]?.getD 0) Q Q.length)
def deg (n : Nat) : Nat := (T n).length - 1
def normalW (S : List Int) (n : Nat) : List Int := (redGo (T n) (deg n) (n - deg n) S).take (deg n)
theorem redGo_length (Q : List Int) (top m : Nat) : ∀ S, (redGo Q top m S).length = S.length := by
  induction m with
  | zero => intro S; rfl
  | succ m ih => intro S; rw [redGo, ih, subRow_length]
end Go.Proofs.Ytdgigbehdmhflaa.Cyc
