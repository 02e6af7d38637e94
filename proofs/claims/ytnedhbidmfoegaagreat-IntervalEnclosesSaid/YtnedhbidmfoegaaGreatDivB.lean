/- Long division to the base 2^32: one digit, and the whole. No program in sight. -/
import Derived.Test.YtnedhbidmfoegaaGreatDiv
namespace Go.Proofs.YtnedhbidmfoegaaGreat.Nt

/-- The true digit T = U / V and what is known of it. -/
theorem true_digit {U V P a b Vl Ul : Int} (hP : 0 < P) (hV : V = a * P + Vl) (hVl : 0 ≤ Vl) (hU : U = b * P + Ul) (hUl0 : 0 ≤ Ul) (hUl : Ul < P) (ha : 0 < a) (hb : 0 ≤ b) (h : U < 4294967296 * V) :
    0 ≤ U / V ∧ U / V < 4294967296 ∧ (U / V) * V ≤ U ∧ U < (U / V + 1) * V ∧ (U / V) * a ≤ b := by
  have hVp : 0 < V := by
    have : 0 < a * P := Int.mul_pos ha hP
    omega
  have hU0 : 0 ≤ U := by
    have : 0 ≤ b * P := Int.mul_nonneg hb (by omega)
    omega
  have e := Int.mul_ediv_add_emod U V
  have m0 := Int.emod_nonneg U (b := V) (by omega)
  have m1 := Int.emod_lt_of_pos U hVp
  have h0 : 0 ≤ U / V := Int.ediv_nonneg hU0 (by omega)
  have h1 : (U / V) * V ≤ U := by rw [Int.mul_comm]; omega
  refine ⟨h0, ?_, h1, ?_, guess_ge hP hV hVl hU hUl h0 h1⟩
  · exact Int.ediv_lt_of_lt_mul hVp h
  · rw [Int.add_mul, Int.mul_comm]; omega
/-- A good guess is the true digit or one more. -/
theorem Good.end {T top v1 v2 u2 q U V P Vl Ul : Int} (g : Good T top v1 v2 u2 q) (hP : 0 < P) (hV : V = (v1 * 4294967296 + v2) * P + Vl) (hVl : 0 ≤ Vl) (hVl' : Vl < P) (hU : U = (top * 4294967296 + u2) * P + Ul) (hUl : 0 ≤ Ul) (hv1 : 1 ≤ v1) (hv2 : 0 ≤ v2) (hT : U < (T + 1) * V) (hVp : 0 < V) :
    -V < U - q * V ∧ U - q * V < V := by
  have h1 := guess_le (c := 4294967296) hP (a := v1 * 4294967296 + v2) (by omega) hV hVl hVl' hU hUl g.q0 (by have := g.q1; omega) (by omega) g.le
  refine ⟨by omega, ?_⟩
  have h2 : (T + 1) * V ≤ (q + 1) * V := Int.mul_le_mul_of_nonneg_right (by have := g.ge; omega) (by omega)
  have e : (q + 1) * V = q * V + V := by rw [Int.add_mul, Int.one_mul]
  omega
/-- One digit added back. -/
theorem ab_step {M R v : List Int} {i : Nat} {c t : Int} (hi : i < R.length) (h : valTo R i + c * pw i = valTo M i + valTo v i) (hR : R[i]?.getD 0 = M[i]?.getD 0) (ht : t = R[i]?.getD 0 + v[i]?.getD 0 + c) :
    valTo (R.set i (t % 4294967296)) (i + 1) + (t / 4294967296) * pw (i + 1) = valTo M (i + 1) + valTo v (i + 1) := by
  rw [valTo_set R _ hi, valTo_succ, valTo_succ, pw]
  have e := Int.mul_ediv_add_emod t 4294967296
  generalize t % 4294967296 = r at *
  generalize t / 4294967296 = q at *
  rw [hR] at ht
  grind
/-- The end of the subtraction: no borrow. -/
theorem ms_end0 {X U V Ul q cr bo t P uN : Int} (h : X + q * V = Ul + (cr + bo) * P) (hU : U = Ul + P * uN) (ht : t = uN - cr - bo) : X + P * t = U - q * V := by
  rw [ht, hU]; grind
/-- The end of the adding back: the highest digit is 0. -/
theorem ab_end {X Y V W P t c : Int} (hP : 0 < P) (h : Y + c * P = X + V) (hw : W = X + P * t) (hY0 : 0 ≤ Y) (hY1 : Y < P) (hW0 : 0 ≤ W + V) (hW1 : W + V < P) : c + t = 0 ∧ Y = W + V := by
  have e : W + V = Y + P * (c + t) := by rw [hw]; grind
  have h1 : c + t = 0 := by
    rcases Int.lt_trichotomy (c + t) 0 with h | h | h
    · have : P * (c + t) ≤ P * (-1) := Int.mul_le_mul_of_nonneg_left (by omega) (by omega)
      omega
    · exact h
    · have : P * 1 ≤ P * (c + t) := Int.mul_le_mul_of_nonneg_left (by omega) (by omega)
      omega
  rw [h1] at e
  exact ⟨h1, by omega⟩
theorem drop_set {l : List Int} {j i : Nat} (x : Int) : (l.set (j + i) x).drop j = (l.drop j).set i x := by
  rw [List.drop_set]; simp [show ¬ j + i < j by omega]
theorem drop_getD (l : List Int) (j i : Nat) : (l.drop j)[i]?.getD 0 = l[j + i]?.getD 0 := by rw [List.getElem?_drop]
theorem val_take_drop (l : List Int) (n : Nat) : val l = valTo l n + pw n * val (l.drop n) := by
  rcases Nat.lt_or_ge n l.length with h | h
  · exact val_split l n (by omega)
  · rw [valTo_all l h, List.drop_of_length_le h]; simp [val]
/-- Numbers below the base's power: the digits above are 0. -/
theorem val_low {l : List Int} (d : Dig l) {n : Nat} (h : val l < pw n) : val (l.drop n) = 0 ∧ valTo l n = val l := by
  have e := val_take_drop l n
  have h0 := val_nonneg (d.drop n)
  have h1 := valTo_nonneg d n
  have hp := pw_pos n
  have hz : val (l.drop n) = 0 := by
    rcases Int.lt_or_le 0 (val (l.drop n)) with h' | h'
    · have : pw n * 1 ≤ pw n * val (l.drop n) := Int.mul_le_mul_of_nonneg_left (by omega) (by omega)
      omega
    · omega
  rw [hz] at e
  exact ⟨hz, by omega⟩
end Go.Proofs.YtnedhbidmfoegaaGreat.Nt
