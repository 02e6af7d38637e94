/- Contracts of nat: divide by two digits or more (Knuth D), and any divide. -/
import Derived.Test.YtnedhbidmfoegaaNatI
import Derived.Deep.RegionWith
namespace Go.Proofs.Ytnedhbidmfoegaa
open Go.RowKit
set_option linter.unusedVariables false
namespace Nt
theorem norm_last {l : List Int} {k : Nat} (hn : Norm l) (hl : l.length = k + 1) : l[k]?.getD 0 ≠ 0 := by
  intro h
  have e := take_snoc l k (by omega)
  rw [List.take_of_length_le (by omega), h] at e
  unfold Norm at hn
  have h1 := strip_length_le (l.take k)
  rw [e, strip_snoc_zero] at hn
  have := congrArg List.length hn
  simp at this
  have h2 : (strip (l.take k)).length ≤ k := by simp at h1; omega
  omega
/-- The divisor, lifted: nothing goes over, and its highest bit is set. -/
theorem liftv {b v : List Int} {N : Nat} {z lo y : Int} (db : Dig b) (hb : b.length = N + 2) (dv : Dig v) (hv : v.length = N + 2) (hlo : 0 ≤ lo) (h : val v + lo * pw (N + 2) = val b * z) (hz : 0 < z) (hy : y = b[N + 1]?.getD 0) (h1 : 2147483648 ≤ y * z) (h2 : (y + 1) * z ≤ 4294967296) : val v = val b * z ∧ 2147483648 ≤ v[N + 1]?.getD 0 := by
  have hp := pw_pos (N + 1)
  have eb : val b = valTo b (N + 1) + pw (N + 1) * y := by rw [← valTo_all b (n := N + 2) (by omega), valTo_succ, ← hy]
  have ev : val v = valTo v (N + 1) + pw (N + 1) * v[N + 1]?.getD 0 := by rw [← valTo_all v (n := N + 2) (by omega), valTo_succ]
  have b0 := valTo_nonneg db (N + 1)
  have b1 := valTo_lt db (N + 1)
  have v1 := valTo_lt dv (N + 1)
  have v0 := val_nonneg dv
  have ep : pw (N + 2) = 4294967296 * pw (N + 1) := rfl
  have hlt : val b * z < pw (N + 2) := by
    have k1 : val b * z < (pw (N + 1) * (y + 1)) * z := Int.mul_lt_mul_of_pos_right (by rw [eb, Int.mul_add]; omega) hz
    have k2 : (pw (N + 1) * (y + 1)) * z ≤ pw (N + 1) * 4294967296 := by rw [Int.mul_assoc]; exact Int.mul_le_mul_of_nonneg_left h2 (by omega)
    omega
  have hl0 : lo = 0 := by
    rcases (show lo = 0 ∨ 1 ≤ lo by omega) with h' | h'
    · exact h'
    · have : 1 * pw (N + 2) ≤ lo * pw (N + 2) := Int.mul_le_mul_of_nonneg_right h' (by omega)
      omega
  rw [hl0] at h
  have e : val v = val b * z := by omega
  refine ⟨e, ?_⟩
  have k3 : pw (N + 1) * (y * z) ≤ val v := by
    rw [e, eb, Int.add_mul, Int.mul_assoc]
    have : 0 ≤ valTo b (N + 1) * z := Int.mul_nonneg b0 (by omega)
    omega
  have k4 : pw (N + 1) * 2147483648 ≤ pw (N + 1) * (y * z) := Int.mul_le_mul_of_nonneg_left h1 (by omega)
  have k5 : pw (N + 1) * 2147483648 < pw (N + 1) * (v[N + 1]?.getD 0 + 1) := by rw [Int.mul_add _ _ 1]; omega
  have := Int.lt_of_mul_lt_mul_left k5 (by omega)
  omega
/-- The dividend, lifted: above it is less than the divisor. -/
theorem liftu {a u v : List Int} {n N M : Nat} {z lo : Int} (da : Dig a) (ha : a.length = n) (du : Dig u) (hu : val u = val a * z) (hM : M + (N + 1) = n) (hz : 0 < z) (hz2 : z ≤ 2147483648) (dv : Dig v) (hv : v.length = N + 2) (hv1 : 2147483648 ≤ v[N + 1]?.getD 0) : val (u.drop M) < val v := by
  have a1 := val_lt da
  rw [ha, ← hM, pw_add] at a1
  have e := val_take_drop u M
  have u0 := valTo_nonneg du M
  have hp := pw_pos M
  have hp1 := pw_pos (N + 1)
  have ev : val v = valTo v (N + 1) + pw (N + 1) * v[N + 1]?.getD 0 := by rw [← valTo_all v (n := N + 2) (by omega), valTo_succ]
  have v0 := valTo_nonneg dv (N + 1)
  have k1 : val a * z < pw M * pw (N + 1) * z := Int.mul_lt_mul_of_pos_right a1 hz
  have k2 : pw M * val (u.drop M) < pw M * (pw (N + 1) * z) := by rw [← Int.mul_assoc]; omega
  have k3 := Int.lt_of_mul_lt_mul_left k2 (by omega)
  have k4 : pw (N + 1) * z ≤ pw (N + 1) * v[N + 1]?.getD 0 := Int.mul_le_mul_of_nonneg_left (by omega) (by omega)
  omega
/-- What the long division keeps. -/
structure DivL (i N : Nat) (A V : Int) (U Q : List Int) : Prop where
  dU : Dig U
  dQ : Dig Q
  sum : A = val (Q.drop i) * pw i * V + val U
  low : val (U.drop i) < V
theorem DivL.start {a u v Q : List Int} {i N : Nat} {A : Int} (du : Dig u) (dQ : Dig Q) (hQ : Q.length ≤ i) (hA : A = val u) (hl : val (u.drop i) < val v) : DivL i N A (val v) u Q :=
  ⟨du, dQ, by rw [val_drop_all hQ, hA]; simp, hl⟩
theorem DivL.pre {j N : Nat} {A : Int} {U Q v : List Int} (h : DivL (j + 1) N A (val v) U Q) (hj : j < U.length) (hv : v.length = N + 2) (dv : Dig v) : valTo (U.drop j) (N + 3) < 4294967296 * val v := by
  have h1 := val_drop (l := U) hj
  have h2 := h.low
  have h3 := h.dU.at j
  have h4 := val_lt dv
  have e := val_take_drop (U.drop j) (N + 3)
  have h5 := val_nonneg ((h.dU.drop j).drop (N + 3))
  have hp := pw_pos (N + 3)
  have : 0 ≤ pw (N + 3) * val ((U.drop j).drop (N + 3)) := Int.mul_nonneg (by omega) h5
  omega
theorem drop_same {U U' : List Int} {j : Nat} (hl : U'.length = U.length) (h : ∀ k, j ≤ k → U'[k]? = U[k]?) : U'.drop j = U.drop j := by
  apply List.ext_getElem?
  intro k
  rw [List.getElem?_drop, List.getElem?_drop]
  exact h _ (by omega)
theorem take_same {U U' : List Int} {j : Nat} (h : ∀ k, k < j → U'[k]? = U[k]?) : U'.take j = U.take j := by
  apply List.ext_getElem?
  intro k
  rcases Nat.lt_or_ge k j with hk | hk
  · rw [List.getElem?_take_of_lt hk, List.getElem?_take_of_lt hk]; exact h k hk
  · rw [List.getElem?_take_eq_none hk, List.getElem?_take_eq_none hk]
theorem DivL.next {j N : Nat} {A q : Int} {U U' Q v : List Int} (h : DivL (j + 1) N A (val v) U Q) (hj : j < U.length) (hjQ : j < Q.length) (hv : v.length = N + 2) (dv : Dig v) (hl : U'.length = U.length) (dU' : Dig U') (hs : ∀ k, k < j ∨ j + (N + 2) + 1 ≤ k → U'[k]? = U[k]?) (q0 : 0 ≤ q) (q1 : q < 4294967296) (he : valTo (U.drop j) (N + 3) = q * val v + valTo (U'.drop j) (N + 3)) (hlt : valTo (U'.drop j) (N + 3) < val v) :
    DivL j N A (val v) U' (Q.set j q) := by
  have e1 := val_take_drop (U.drop j) (N + 3)
  have e2 := val_take_drop (U'.drop j) (N + 3)
  rw [List.drop_drop] at e1 e2
  have e3 : U'.drop (j + (N + 3)) = U.drop (j + (N + 3)) := drop_same hl (fun k hk => hs k (by omega))
  rw [e3] at e2
  have e4 : val (U.drop (j + (N + 3))) = 0 := by
    have k1 : val (U.drop (j + 1)) < pw (N + 2) := by have := h.low; have := val_lt dv; rw [hv] at this; omega
    have k2 := (val_low (h.dU.drop (j + 1)) k1).1
    rw [List.drop_drop, show j + 1 + (N + 2) = j + (N + 3) by omega] at k2
    exact k2
  rw [e4] at e1 e2
  have e5 := val_take_drop U j
  have e6 := val_take_drop U' j
  have e7 : valTo U' j = valTo U j := by unfold valTo; rw [take_same (fun k hk => hs k (.inl hk))]
  refine ⟨dU', h.dQ.set _ ⟨q0, q1⟩, ?_, by omega⟩
  rw [val_drop_set _ hjQ, h.sum, e5, e6, e7, e1, e2, he, pw]
  grind
theorem div_end {a b z Q U : Int} (hz : 0 < z) (h : a * z = Q * (b * z) + U) (u0 : 0 ≤ U) (u1 : U < b * z) : a / b = Q ∧ a % b = U / z := by
  have hb : 0 < b := by
    rcases Int.lt_or_le 0 b with h' | h'
    · exact h'
    · have := Int.mul_nonpos_of_nonpos_of_nonneg h' (Int.le_of_lt hz); omega
  have e : U = (a - Q * b) * z := by grind
  have e2 : U / z = a - Q * b := by rw [e]; exact Int.mul_ediv_cancel _ (by omega)
  have h0 : 0 ≤ a - Q * b := Int.nonneg_of_mul_nonneg_left (by omega) hz
  have h1 : a - Q * b < b := by rw [e] at u1; exact Int.lt_of_mul_lt_mul_right u1 (by omega)
  rw [e2]
  exact div_of hb (by omega) h0 h1
end Nt
end Go.Proofs.Ytnedhbidmfoegaa
