/- Facts on the powers of the root for n up to 64, checked by the kernel's own reckoning. No program in sight. -/
import Derived.Test.YtdgigbehdmhflaaCycS
namespace Go.Proofs.Ytdgigbehdmhflaa.Cyc
open Go.RowKit

def zipUp (l : Int) : List Int → List Int → List Int
  | x :: v, p :: P => (x - l * p) :: zipUp l v P
  | _, _ => []
def lastOf : List Int → Int
  | [] => 0
  | [x] => x
  | _ :: v => lastOf v
def dropEnd : List Int → List Int
  | [] => []
  | [_] => []
  | x :: v => x :: dropEnd v
/-- One power more, for a vector as long as the degree. -/
def stepV (P v : List Int) : List Int := zipUp (lastOf v) (0 :: dropEnd v) P
def firstV (n : Nat) : List Int := 1 :: List.replicate (deg n - 1) 0
def redV (n : Nat) : Nat → List Int
  | 0 => firstV n
  | k + 1 => stepV (T n) (redV n k)
theorem dropEnd_length : ∀ v : List Int, (dropEnd v).length = v.length - 1
  | [] => rfl
  | [_] => rfl
  | _ :: y :: v => by simp only [dropEnd, List.length_cons, dropEnd_length (y :: v)]; simp
theorem dropEnd_get : ∀ (v : List Int) (i : Nat), i + 1 < v.length → (dropEnd v)[i]? = v[i]?
  | [], i, h => by simp at h
  | [_], i, h => by simp at h
  | x :: y :: v, 0, _ => rfl
  | x :: y :: v, i + 1, h => by
    simp only [dropEnd, List.getElem?_cons_succ]
    exact dropEnd_get (y :: v) i (by simpa using h)
theorem lastOf_get : ∀ (v : List Int), lastOf v = v[v.length - 1]?.getD 0
  | [] => rfl
  | [x] => rfl
  | x :: y :: v => by simp only [lastOf, lastOf_get (y :: v)]; simp
theorem zipUp_get (l : Int) : ∀ (v P : List Int) (i : Nat), (zipUp l v P)[i]? = if i < v.length ∧ i < P.length then some (v[i]?.getD 0 - l * P[i]?.getD 0) else none
  | [], P, i => by simp [zipUp]
  | x :: v, [], i => by simp [zipUp]
  | x :: v, p :: P, 0 => by simp [zipUp]
  | x :: v, p :: P, i + 1 => by simp [zipUp, zipUp_get l v P i]
theorem zipUp_length (l : Int) : ∀ (v P : List Int), (zipUp l v P).length = min v.length P.length
  | [], P => by simp [zipUp]
  | x :: v, [] => by simp [zipUp]
  | x :: v, p :: P => by simp [zipUp, zipUp_length l v P]
section
variable {n : Nat} (h1 : 1 ≤ n) (h2 : n ≤ 64)
include h1 h2
theorem redV_length (k : Nat) : (redV n k).length = deg n := by
  have hd := deg_pos h1 h2
  induction k with
  | zero => simp [redV, firstV]; omega
  | succ k ih => rw [redV, stepV, zipUp_length, List.length_cons, dropEnd_length, ih, T_length n h1 h2]; omega
theorem redV_get (k i : Nat) : (redV n k)[i]?.getD 0 = red n k i := by
  have hd := deg_pos h1 h2
  induction k generalizing i with
  | zero =>
    rw [redV, firstV, red]
    cases i with
    | zero => rfl
    | succ i => simp [List.getElem?_replicate]; split <;> rfl
  | succ k ih =>
    have hl := redV_length h1 h2 k
    rw [redV, stepV, zipUp_get, red, up, lastOf_get, hl, ih, List.length_cons, dropEnd_length, hl, T_length n h1 h2]
    by_cases h : i < deg n
    · rw [if_pos (by omega), if_pos h]
      cases i with
      | zero => rfl
      | succ i =>
        rw [List.getElem?_cons_succ, dropEnd_get _ _ (by omega), ih, if_neg (by omega)]
        rfl
    · rw [if_neg (by omega), if_neg h]; rfl
end

def rowsGo (P : List Int) : Nat → List Int → List (List Int)
  | 0, _ => []
  | m + 1, v => v :: rowsGo P m (stepV P v)
theorem rowsGo_get (n : Nat) : ∀ (m k j : Nat), j < m → (rowsGo (T n) m (redV n k))[j]? = some (redV n (k + j))
  | 0, k, j, h => by omega
  | m + 1, k, 0, _ => rfl
  | m + 1, k, j + 1, h => by
    rw [rowsGo, List.getElem?_cons_succ, show k + (j + 1) = k + 1 + j by omega, ← rowsGo_get n m (k + 1) j (by omega)]
    rfl
def addV (c : Int) : List Int → List Int → List Int
  | x :: v, y :: u => (x + c * y) :: addV c v u
  | v, _ => v
theorem addV_get (c : Int) : ∀ (v u : List Int) (i : Nat), u.length = v.length → (addV c v u)[i]?.getD 0 = v[i]?.getD 0 + c * u[i]?.getD 0
  | [], [], i, _ => by simp [addV]
  | [], y :: u, i, h => by simp at h
  | x :: v, [], i, h => by simp at h
  | x :: v, y :: u, 0, _ => by simp [addV]
  | x :: v, y :: u, i + 1, h => by simp only [addV, List.getElem?_cons_succ]; exact addV_get c v u i (by simpa using h)
theorem addV_length (c : Int) : ∀ (v u : List Int), (addV c v u).length = v.length
  | [], u => by cases u <;> rfl
  | x :: v, [] => rfl
  | x :: v, y :: u => by simp [addV, addV_length c v u]
/-- The sum of c_j times row (j k modulo n), over the list of the c_j from j on. -/
def combV (rows : List (List Int)) (k n : Nat) : List Int → Nat → List Int → List Int
  | [], _, acc => acc
  | c :: cs, j, acc => combV rows k n cs (j + 1) (addV c acc ((rows[j * k % n]?).getD []))
def allZero (v : List Int) : Bool := v.all (fun x => x == 0)
def smallV (v : List Int) : Bool := v.all (fun x => decide (-1 ≤ x) && decide (x ≤ 1))
def primes : List Nat := [2, 3, 5, 7, 11, 13, 17, 19, 23, 29, 31, 37, 41, 43, 47, 53, 59, 61]
def checkGal (n : Nat) (rows : List (List Int)) : Bool :=
  primes.all (fun k => !(decide (k < n) && Nat.gcd k n == 1) || allZero (combV rows k n (T n) 0 (List.replicate (deg n) 0)))
def checkAll (n : Nat) (rows : List (List Int)) : Bool :=
  redV n n == firstV n && rows.all smallV && (n == 1 || allZero (combV rows 1 n (List.replicate n 1) 0 (List.replicate (deg n) 0))) && checkGal n rows
def checkFrom (a m : Nat) : Bool := (List.range m).all (fun i => checkAll (a + i + 1) (rowsGo (T (a + i + 1)) (a + i + 1) (firstV (a + i + 1))))
theorem all_checked0 : checkFrom 0 32 = true := by decide +kernel
theorem all_checked1 : checkFrom 32 8 = true := by decide +kernel
theorem all_checked2 : checkFrom 40 6 = true := by decide +kernel
theorem all_checked3 : checkFrom 46 6 = true := by decide +kernel
theorem all_checked4 : checkFrom 52 6 = true := by decide +kernel
theorem all_checked5 : checkFrom 58 3 = true := by decide +kernel
theorem all_checked6 : checkFrom 61 3 = true := by decide +kernel
end Go.Proofs.Ytdgigbehdmhflaa.Cyc
