/- Long division to the base 2^32: the guess of a digit (Knuth). No program in sight. -/
import Derived.Test.YtnedhbidmfoegaaNat
namespace Go.Proofs.Ytnedhbidmfoegaa.Nt

/-- A guess that passes the test is at least the quotient's digit: q V <= U gives q (v1 B + v2) <= top B + u2. -/
theorem guess_ge {q V U P a b : Int} {Vl Ul : Int} (hP : 0 < P) (hV : V = a * P + Vl) (hVl : 0 ≤ Vl) (hU : U = b * P + Ul) (hUl : Ul < P) (hq : 0 ≤ q) (h : q * V ≤ U) : q * a ≤ b := by
  have h1 : q * a * P ≤ q * V := by
    rw [hV, Int.mul_add, Int.mul_assoc]
    have : 0 ≤ q * Vl := Int.mul_nonneg hq hVl
    omega
  have h2 : q * a * P < (b + 1) * P := by rw [Int.add_mul]; omega
  have := Int.lt_of_mul_lt_mul_right h2 (by omega)
  omega
/-- A guess that passes the test is at most one too great. -/
theorem guess_le {Q V U P a b c : Int} {Vl Ul : Int} (hP : 0 < P) (ha : 0 < a) (hV : V = a * P + Vl) (hVl : 0 ≤ Vl) (hVl' : Vl < P) (hU : U = b * P + Ul) (hUl : 0 ≤ Ul) (hQ : 0 ≤ Q) (hQc : Q ≤ c) (hca : c ≤ a) (h : Q * a ≤ b) : Q * V < U + V := by
  have h1 : Q * a * P ≤ b * P := Int.mul_le_mul_of_nonneg_right h (by omega)
  have h2 : Q * Vl ≤ c * Vl := Int.mul_le_mul_of_nonneg_right hQc hVl
  have h3 : c * Vl ≤ a * Vl := Int.mul_le_mul_of_nonneg_right hca hVl
  have h4 : a * Vl < a * P := Int.mul_lt_mul_of_pos_left hVl' (by omega)
  rw [hV, Int.mul_add, ← Int.mul_assoc]
  omega
/-- The remainders of the guess: what the loop keeps. T is the quotient's true digit. -/
structure Guess (T top v1 v2 u2 q r : Int) : Prop where
  sum : top = q * v1 + r
  q0 : 0 ≤ q
  r0 : 0 ≤ r
  ge : T ≤ q
/-- The test failed: the guess is good. -/
structure Good (T top v1 v2 u2 q : Int) : Prop where
  q0 : 0 ≤ q
  q1 : q < 4294967296
  ge : T ≤ q
  le : q * (v1 * 4294967296 + v2) ≤ top * 4294967296 + u2
theorem Guess.good {T top v1 v2 u2 q r : Int} (h : Guess T top v1 v2 u2 q r) (hq : q < 4294967296) (ht : q * v2 ≤ r * 4294967296 + u2) : Good T top v1 v2 u2 q := by
  refine ⟨h.q0, hq, h.ge, ?_⟩
  have := h.sum
  rw [this]
  grind
theorem Guess.next {T top v1 v2 u2 q r : Int} (h : Guess T top v1 v2 u2 q r) (hT0 : 0 ≤ T) (hT : T < 4294967296) (hTle : T * (v1 * 4294967296 + v2) ≤ top * 4294967296 + u2) (hv1 : 0 ≤ v1) (ha : 0 < v1 * 4294967296 + v2) (ht : 4294967296 ≤ q ∨ r * 4294967296 + u2 < q * v2) : Guess T top v1 v2 u2 (q - 1) (r + v1) := by
  have hlt : T < q := by
    rcases ht with ht | ht
    · omega
    · have : T * (v1 * 4294967296 + v2) < q * (v1 * 4294967296 + v2) := by
        have e := h.sum
        rw [e] at hTle
        have : q * (v1 * 4294967296 + v2) = q * v1 * 4294967296 + q * v2 := by grind
        rw [this]
        have : (q * v1 + r) * 4294967296 + u2 = q * v1 * 4294967296 + r * 4294967296 + u2 := by grind
        omega
      exact Int.lt_of_mul_lt_mul_right this (by omega)
  have := h.r0
  exact ⟨by rw [h.sum]; grind, by omega, by omega, by omega⟩
/-- The loop's break: the remainder has gone over the base. -/
theorem Guess.broke {T top v1 v2 u2 q r : Int} (h : Guess T top v1 v2 u2 q r) (htop : top < v1 * 4294967296 + 4294967296) (hr : 4294967296 ≤ r) (hv1 : 0 < v1) (h20 : 0 ≤ v2) (h2 : v2 < 4294967296) (hu : 0 ≤ u2) : Good T top v1 v2 u2 q := by
  have hq : q < 4294967296 := by
    have e := h.sum
    have : q * v1 < 4294967296 * v1 := by omega
    exact Int.lt_of_mul_lt_mul_right this (by omega)
  refine h.good hq ?_
  have h1 : q * v2 ≤ q * 4294967296 := Int.mul_le_mul_of_nonneg_left (by omega) h.q0
  have h2 : r * 4294967296 ≥ 4294967296 * 4294967296 := by omega
  omega
theorem Guess.start {T top v1 v2 u2 : Int} (htop0 : 0 ≤ top) (hv1 : 0 < v1) (hT0 : 0 ≤ T) (hTle : T * (v1 * 4294967296 + v2) ≤ top * 4294967296 + u2) (h20 : 0 ≤ v2) (hu : u2 < 4294967296) : Guess T top v1 v2 u2 (top / v1) (top % v1) := by
  have e := Int.mul_ediv_add_emod top v1
  have m0 := Int.emod_nonneg top (b := v1) (by omega)
  have m1 := Int.emod_lt_of_pos top hv1
  refine ⟨by rw [Int.mul_comm]; omega, Int.ediv_nonneg htop0 (by omega), m0, ?_⟩
  have h1 : T * v1 ≤ top := by
    have : T * v1 * 4294967296 < (top + 1) * 4294967296 := by
      have e2 : T * (v1 * 4294967296 + v2) = T * v1 * 4294967296 + T * v2 := by grind
      have := Int.mul_nonneg hT0 h20
      omega
    have := Int.lt_of_mul_lt_mul_right this (by omega)
    omega
  exact (Int.le_ediv_iff_mul_le hv1).2 h1
/-- One digit of the product taken away. -/
theorem ms_step {M u v : List Int} {i : Nat} {q cr bo p t : Int} (hi : i < M.length) (h : valTo M i + q * valTo v i = valTo u i + (cr + bo) * pw i) (hM : M[i]?.getD 0 = u[i]?.getD 0) (hp : p = q * v[i]?.getD 0 + cr) (ht : t = M[i]?.getD 0 - p % 4294967296 - bo) (h0 : -4294967296 ≤ t) (h1 : t < 4294967296) :
    valTo (M.set i (t % 4294967296)) (i + 1) + q * valTo v (i + 1) = valTo u (i + 1) + (p / 4294967296 + (if t < 0 then 1 else 0)) * pw (i + 1) := by
  rw [valTo_set M _ hi, valTo_succ, valTo_succ, pw]
  have e : t % 4294967296 = t + 4294967296 * (if t < 0 then 1 else 0) := by split <;> omega
  rw [e]
  have e2 := Int.mul_ediv_add_emod p 4294967296
  generalize (if t < 0 then (1 : Int) else 0) = b at *
  generalize p % 4294967296 = r at *
  generalize p / 4294967296 = z at *
  rw [hM] at ht
  grind
end Go.Proofs.Ytnedhbidmfoegaa.Nt
