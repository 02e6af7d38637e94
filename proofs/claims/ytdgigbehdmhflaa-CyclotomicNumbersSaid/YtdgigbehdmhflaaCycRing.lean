/- The laws of the ring, in coordinates. No program in sight. -/
import Derived.Test.YtdgigbehdmhflaaCycZ
namespace Go.Proofs.Ytdgigbehdmhflaa.Cyc
open Go.RowKit
set_option linter.unusedSectionVars false

theorem get_lt (l : List Int) (b : Int) (h : Bd b l) (hb : 0 ≤ b) (j : Nat) : -b ≤ l[j]?.getD 0 ∧ l[j]?.getD 0 ≤ b := by
  rcases Nat.lt_or_ge j l.length with hj | hj
  · rw [List.getElem?_eq_getElem hj]; exact h _ (List.getElem_mem hj)
  · rw [List.getElem?_eq_none hj]; simp; omega
theorem valid_bd {l : List Int} {b : Int} (h : Bd b l) (hb : 0 ≤ b) (hb' : b ≤ 16777216) (hl : l.length ≤ 128) : Valid l :=
  ⟨hl, fun j => by have := get_lt l b h hb j; omega⟩
theorem specL_getD {n : Nat} (f : Nat → Int) (i : Nat) : (specL n f)[i]?.getD 0 = if i < deg n then f i else 0 := by
  by_cases h : i < deg n
  · rw [specL_get f i h, if_pos h]; rfl
  · rw [if_neg h, List.getElem?_eq_none (by rw [specL_length]; omega)]; rfl
section
variable {n : Nat} (h1 : 1 ≤ n) (h2 : n ≤ 64)
include h1 h2
theorem valid_spec {f : Nat → Int} (h : ∀ i, i < deg n → -16777216 ≤ f i ∧ f i ≤ 16777216) : Valid (specL n f) := by
  have hd := deg_le n h1 h2
  refine ⟨by rw [specL_length]; omega, fun j => ?_⟩
  rw [specL_getD]
  split
  · exact h j (by assumption)
  · omega
/-- x^k times the number with the coordinates F. -/
def act (n : Nat) (F : Nat → Int) (k i : Nat) : Int := sumTo (deg n) (fun j => F j * red n (j + k) i)
omit h1 h2 in
theorem act_add (F G : Nat → Int) (k i : Nat) : act n (fun j => F j + G j) k i = act n F k i + act n G k i := by
  unfold act
  rw [← sumTo_add]; exact sumTo_congr fun j _ => Int.add_mul _ _ _
theorem act_sum (N : Nat) (c : Nat → Int) (F : Nat → Nat → Int) (k i : Nat) : act n (fun j => sumTo N (fun m => c m * F m j)) k i = sumTo N (fun m => c m * act n (F m) k i) := by
  unfold act
  rw [sumTo_sum_mul]
  exact sumTo_congr fun m _ => by rw [← sumTo_mul]; exact sumTo_congr fun j _ => Int.mul_assoc _ _ _
theorem act_red (m k i : Nat) : act n (red n m) k i = red n (m + k) i := red_mul h1 h2 m k i
theorem act_lin (a : List Int) (r k i : Nat) : act n (linS n a r) k i = sumTo a.length (fun m => a[m]?.getD 0 * red n (m * r + k) i) := by
  have := act_sum h1 h2 a.length (fun m => a[m]?.getD 0) (fun m => red n (m * r)) k i
  refine this.trans (sumTo_congr fun m _ => ?_)
  rw [act_red h1 h2]
theorem act_mul (a b : List Int) (k i : Nat) : act n (mulS n a b) k i = sumTo a.length (fun p => a[p]?.getD 0 * sumTo b.length (fun q => b[q]?.getD 0 * red n (p + q + k) i)) := by
  have := act_sum h1 h2 a.length (fun p => a[p]?.getD 0) (fun p j => sumTo b.length (fun q => b[q]?.getD 0 * red n (p + q) j)) k i
  refine this.trans (sumTo_congr fun p _ => ?_)
  rw [act_sum h1 h2]
  congr 1
  exact sumTo_congr fun q _ => by rw [act_red h1 h2]
theorem lin_spec (F : Nat → Int) (i : Nat) (hi : i < deg n) : linS n (specL n F) 1 i = F i := by
  unfold linS
  rw [specL_length]
  have e : sumTo (deg n) (fun j => (specL n F)[j]?.getD 0 * red n (j * 1) i) = sumTo (deg n) (fun j => F j * red n j i) := sumTo_congr fun j hj => by rw [specL_getD, if_pos hj, Nat.mul_one]
  rw [e, sum_delta h1 h2, if_pos hi]
theorem lin_move (F : Nat → Int) (r i : Nat) : linS n (specL n F) r i = sumTo (deg n) (fun j => F j * red n (j * r) i) := by
  unfold linS
  rw [specL_length]
  exact sumTo_congr fun j hj => by rw [specL_getD, if_pos hj]
theorem mul_left_spec (F : Nat → Int) (z : List Int) (i : Nat) : mulS n (specL n F) z i = sumTo z.length (fun k => z[k]?.getD 0 * act n F k i) := by
  unfold mulS
  rw [specL_length]
  have e : sumTo (deg n) (fun j => (specL n F)[j]?.getD 0 * sumTo z.length (fun k => z[k]?.getD 0 * red n (j + k) i)) = sumTo (deg n) (fun j => sumTo z.length (fun k => z[k]?.getD 0 * (F j * red n (j + k) i))) := sumTo_congr fun j hj => by
    rw [specL_getD, if_pos hj, ← sumTo_mul]
    exact sumTo_congr fun k _ => Int.mul_left_comm _ _ _
  rw [e, sumTo_swap]
  exact sumTo_congr fun k _ => by rw [sumTo_mul]; rfl
theorem mul_right_spec (G : Nat → Int) (x : List Int) (i : Nat) : mulS n x (specL n G) i = sumTo x.length (fun p => x[p]?.getD 0 * act n G p i) := by
  unfold mulS act
  rw [specL_length]
  exact sumTo_congr fun p _ => by
    congr 1
    exact sumTo_congr fun k hk => by rw [specL_getD, if_pos hk, Nat.add_comm p k]
omit h1 h2 in
theorem mul_comm' (x y : List Int) (i : Nat) : mulS n x y i = mulS n y x i := by
  unfold mulS
  have e : ∀ a b : List Int, sumTo a.length (fun j => a[j]?.getD 0 * sumTo b.length (fun k => b[k]?.getD 0 * red n (j + k) i)) = sumTo a.length (fun j => sumTo b.length (fun k => a[j]?.getD 0 * (b[k]?.getD 0 * red n (j + k) i))) := fun a b => sumTo_congr fun j _ => (sumTo_mul _ _ _).symm
  rw [e, e, sumTo_swap]
  exact sumTo_congr fun j _ => sumTo_congr fun k _ => by rw [Int.mul_left_comm, Nat.add_comm]
theorem dist (x y z : List Int) (i : Nat) (hi : i < deg n) : mulS n (specL n (fun i => linS n x 1 i + linS n y 1 i)) z i = linS n (specL n (mulS n x z)) 1 i + linS n (specL n (mulS n y z)) 1 i := by
  rw [lin_spec h1 h2 _ i hi, lin_spec h1 h2 _ i hi, mul_left_spec h1 h2]
  have e : ∀ a : List Int, mulS n a z i = sumTo z.length (fun k => z[k]?.getD 0 * act n (linS n a 1) k i) := by
    intro a
    rw [mul_comm']
    unfold mulS
    exact sumTo_congr fun k _ => by
      rw [act_lin h1 h2]
      congr 1
      exact sumTo_congr fun m _ => by rw [Nat.mul_one, Nat.add_comm k m]
  rw [e, e, ← sumTo_add]
  exact sumTo_congr fun k _ => by rw [act_add, Int.mul_add]
theorem assoc (x y z : List Int) (i : Nat) : mulS n (specL n (mulS n x y)) z i = mulS n x (specL n (mulS n y z)) i := by
  rw [mul_left_spec h1 h2, mul_right_spec h1 h2]
  have e1 : sumTo z.length (fun k => z[k]?.getD 0 * act n (mulS n x y) k i) = sumTo z.length (fun k => sumTo x.length (fun p => x[p]?.getD 0 * (z[k]?.getD 0 * sumTo y.length (fun q => y[q]?.getD 0 * red n (p + q + k) i)))) := sumTo_congr fun k _ => by
    rw [act_mul h1 h2, ← sumTo_mul]
    exact sumTo_congr fun p _ => Int.mul_left_comm _ _ _
  rw [e1, sumTo_swap]
  refine sumTo_congr fun p _ => ?_
  rw [sumTo_mul]
  congr 1
  rw [act_mul h1 h2]
  have e2 : sumTo z.length (fun k => z[k]?.getD 0 * sumTo y.length (fun q => y[q]?.getD 0 * red n (p + q + k) i)) = sumTo z.length (fun k => sumTo y.length (fun q => y[q]?.getD 0 * (z[k]?.getD 0 * red n (p + q + k) i))) := sumTo_congr fun k _ => by
    rw [← sumTo_mul]
    exact sumTo_congr fun q _ => Int.mul_left_comm _ _ _
  rw [e2, sumTo_swap]
  refine sumTo_congr fun q _ => ?_
  rw [sumTo_mul]
  congr 1
  exact sumTo_congr fun k _ => by rw [show p + q + k = q + k + p by omega]
end
end Go.Proofs.Ytdgigbehdmhflaa.Cyc
