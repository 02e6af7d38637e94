/- Plain laws for the reference of integers and rationals. -/
import Derived.Test.YtnedhbidmfoegaaGreatQ
namespace Go.Proofs.YtnedhbidmfoegaaGreat
open Go.RowKit
set_option linter.unusedVariables false
namespace Nt
theorem sg_add4 {s t : Bool} (N M : Nat) (h : (s == t) = false) (c : decide ((0 : Int) ≤ cmpS (N : Int) (M : Int)) = true) : sg s (N - M) = sg s N + sg t M := by
  unfold cmpS at c
  cases s <;> cases t <;> simp_all [sg] <;> (split at c <;> omega)
theorem sg_add5 {s t : Bool} (N M : Nat) (h : (s == t) = false) (c : decide ((0 : Int) ≤ cmpS (N : Int) (M : Int)) = false) : sg t (M - N) = sg s N + sg t M := by
  have c' : (cmpS (N : Int) (M : Int) == -1) = true := by
    rcases cmp_range (N : Int) (M : Int) with ⟨e, h⟩ | ⟨e, h⟩ | ⟨e, h⟩ <;> rw [e] at c ⊢ <;> simp at c ⊢
  exact sg_add2 N M h c'
theorem ediv_uniq {z y q r : Int} (hy : y ≠ 0) (h : z = y * q + r) (h0 : 0 ≤ r) (h1 : r < (y.natAbs : Int)) : z / y = q ∧ z % y = r := by
  rcases Int.lt_or_le y 0 with hn | hn
  · exact (Int.ediv_emod_unique' hn).2 ⟨by omega, h0, by omega⟩
  · exact (Int.ediv_emod_unique (by omega)).2 ⟨by omega, h0, by omega⟩
/-- Division with a remainder that is not negative, of signs and natural numbers. -/
theorem ediv_pos {N M : Nat} (z y : Int) (hz : z.natAbs = N) (hy : y.natAbs = M) (hM : 0 < M) (hr : ¬ (z < 0 ∧ 0 < N % M)) : z / y = sg (!(decide (z < 0) == decide (y < 0))) (N / M) ∧ z % y = ((N % M : Nat) : Int) := by
  have key : z = y * sg (!(decide (z < 0) == decide (y < 0))) (N / M) + ((N % M : Nat) : Int) := by
    have h := Nat.div_add_mod N M
    have h' : ((M * (N / M) + N % M : Nat) : Int) = N := by rw [h]
    rw [Int.natCast_add, Int.natCast_mul] at h'
    rcases Int.lt_or_le z 0 with hz0 | hz0
    · have hm : N % M = 0 := by omega
      rw [hm] at h' ⊢
      rcases Int.lt_or_le y 0 with hy0 | hy0
      · have e1 : z = -(N : Int) := by omega
        have e2 : y = -(M : Int) := by omega
        simp only [hz0, hy0, decide_true, beq_self_eq_true, Bool.not_true, sg_false]
        rw [e1, e2, ← h', Int.neg_mul]; omega
      · have e1 : z = -(N : Int) := by omega
        have e2 : y = (M : Int) := by omega
        have hy1 : decide (y < 0) = false := by simp; omega
        simp only [hz0, hy1, decide_true]
        show z = y * sg true _ + _
        rw [sg_true, e1, e2, ← h', Int.mul_neg]; omega
    · have hz1 : decide (z < 0) = false := by simp; omega
      have e1 : z = (N : Int) := by omega
      rcases Int.lt_or_le y 0 with hy0 | hy0
      · have e2 : y = -(M : Int) := by omega
        simp only [hz1, hy0, decide_true]
        show z = y * sg true _ + _
        rw [sg_true, e1, e2, ← h', Int.neg_mul_neg]
      · have e2 : y = (M : Int) := by omega
        have hy1 : decide (y < 0) = false := by simp; omega
        simp only [hz1, hy1, beq_self_eq_true, Bool.not_true, sg_false]
        rw [e1, e2, ← h']
  have hm := Nat.mod_lt N hM
  exact ediv_uniq (by omega) key (by omega) (by omega)
theorem ediv_neg' {N M : Nat} (z y : Int) (hz : z.natAbs = N) (hy : y.natAbs = M) (hM : 0 < M) (hz0 : z < 0) (hr : 0 < N % M) : z / y = sg (!(decide (z < 0) == decide (y < 0))) (N / M + 1) ∧ z % y = ((M - N % M : Nat) : Int) := by
  have hm := Nat.mod_lt N hM
  have key : z = y * sg (!(decide (z < 0) == decide (y < 0))) (N / M + 1) + ((M - N % M : Nat) : Int) := by
    have h := Nat.div_add_mod N M
    have h' : ((M * (N / M) + N % M : Nat) : Int) = N := by rw [h]
    rw [Int.natCast_add, Int.natCast_mul] at h'
    have e1 : z = -(N : Int) := by omega
    have e3 : ((M - N % M : Nat) : Int) = (M : Int) - ((N % M : Nat) : Int) := by omega
    have e4 : ((N / M + 1 : Nat) : Int) = ((N / M : Nat) : Int) + 1 := by omega
    rcases Int.lt_or_le y 0 with hy0 | hy0
    · have e2 : y = -(M : Int) := by omega
      simp only [hz0, hy0, decide_true, beq_self_eq_true, Bool.not_true, sg_false]
      rw [e1, e2, e3, e4, ← h', Int.neg_mul, Int.mul_add]; omega
    · have e2 : y = (M : Int) := by omega
      have hy1 : decide (y < 0) = false := by simp; omega
      simp only [hz0, hy1, decide_true]
      show z = y * sg true _ + _
      rw [sg_true, e1, e2, e3, e4, ← h', Int.mul_neg, Int.mul_add]; omega
  exact ediv_uniq (by omega) key (by omega) (by omega)
theorem add_div2 {a c : Int} {b d : Nat} (hb : 0 < b) (hd : 0 < d) : (((a * d + c * b : Int)) : Rat) / (((b * d : Int)) : Rat) = mkRat a b + mkRat c d := by
  rw [← add_mk hb hd, Rat.mkRat_eq_div]
  congr 1
theorem mul_div2 {a c : Int} {b d : Nat} : (((a * c : Int)) : Rat) / (((b * d : Int)) : Rat) = mkRat a b * mkRat c d := by
  rw [← mul_mk, Rat.mkRat_eq_div]
  congr 1
theorem mk_div (a : Int) (b : Nat) : (a : Rat) / ((b : Int) : Rat) = mkRat a b := by rw [Rat.mkRat_eq_div]; rfl
theorem cmpQ_lt (x y : Rat) : decide (cmpQ x y < 0) = decide (x < y) := by
  unfold cmpQ
  rw [decide_eq_decide]
  split
  · simp [*]
  · split <;> simp [*]
/-- The lesser, the greater one. -/
def lo (x y : Rat) : Rat := if y < x then y else x
def hi (x y : Rat) : Rat := if x < y then y else x
theorem same_q {x y : Rat} : (decide (x.num = y.num) && decide (x.den = y.den)) = decide (x = y) := by
  rw [Bool.eq_iff_iff]
  simp
  constructor
  · rintro ⟨h1, h2⟩; exact Rat.ext h1 h2
  · rintro rfl; exact ⟨rfl, rfl⟩
end Nt
section
variable {u u' w w' : World} {x y : Sl} {i j : IL} {r r' : RL} {N M K L : Nat} {z z' : Int} {q q' : Rat}
theorem IntN.sg (h : IntN u i z K) : z = Nt.sg i.s z.natAbs := by
  rw [h.1]; unfold Nt.sg
  by_cases hz : z < 0
  · simp [hz]; omega
  · simp [hz]; omega
theorem sign_len (h : IntN u i z K) : Nt.cmpS z 0 = if ((i.m.n : Int) == 0) = true then 0 else if i.s = true then -1 else 1 := by
  have hp := h.2.pos
  rw [h.1]
  rcases Nt.cmp_range z 0 with ⟨e, h1⟩ | ⟨e, h1⟩ | ⟨e, h1⟩
  · rw [e, if_neg (by simp; omega), if_pos (by simpa using h1)]
  · rw [e, if_pos (by simp; omega)]
  · rw [e, if_neg (by simp; omega), if_neg (by simp; omega)]
theorem neg_int (h : IntN u i z K) : IntN u ⟨(!i.s) && decide ((0 : Int) < (i.m.n : Int)), i.m⟩ (-z) K := by
  have hp := h.2.pos
  refine ⟨?_, by rw [Int.natAbs_neg]; exact h.2⟩
  show ((!i.s) && _) = _
  rw [h.1, Bool.eq_iff_iff]
  simp
  omega
theorem same_int (h : IntN u i z K) (h' : IntN u' j z' L) : ((i.s == j.s) && decide (z.natAbs = z'.natAbs)) = decide (z = z') := by
  rw [h.1, h'.1, Bool.eq_iff_iff]
  simp
  omega
theorem RatN.num (h : RatN u r q K) : IntN u ⟨r.s, r.m⟩ q.num K := h.1
theorem RatN.den (h : RatN u r q K) : NatN u r.d q.den K := h.2
theorem neg_rat (h : RatN u r q K) (h' : IntN u i (-q.num) K) : RatN u ⟨i.s, i.m, r.d⟩ (-q) K := by
  refine ⟨?_, ?_⟩
  · show IntN u i _ _; rw [Rat.neg_num]; exact h'
  · show NatN u r.d _ _; rw [Rat.neg_den]; exact h.2
theorem Nt.absQ_num (q : Rat) : (Nt.absQ q).num = (q.num.natAbs : Int) := by
  unfold Nt.absQ
  by_cases hq : q < 0
  · rw [if_pos hq, Rat.neg_num]; have h0 : ¬ 0 ≤ q.num := fun h => by have := Rat.num_nonneg.1 h; grind
    omega
  · rw [if_neg hq]; have h0 : 0 ≤ q.num := Rat.num_nonneg.2 (by grind)
    omega
theorem Nt.absQ_den (q : Rat) : (Nt.absQ q).den = q.den := by unfold Nt.absQ; split <;> simp
theorem abs_ratN (h : RatN u r q K) (h' : NatN u x q.num.natAbs K) : RatN u ⟨false, x, r.d⟩ (Nt.absQ q) K := by
  refine ⟨?_, ?_⟩
  · show IntN u ⟨false, x⟩ _ _; rw [Nt.absQ_num]; exact nat_intN h'
  · show NatN u r.d _ _; rw [Nt.absQ_den]; exact h.2
/-- The quotient in lowest terms. -/
theorem red_mk (hy : z' ≠ 0) : (z : Rat) / (z' : Rat) = mkRat (Nt.quoI z z') z'.natAbs := (Nt.div_mk2 hy).symm
theorem quoI_neg (z z' : Int) (h : z' < 0) : Nt.quoI z z' = -z := by
  unfold Nt.quoI
  by_cases hz : z < 0
  · simp [hz, h]; omega
  · simp [hz, h]; omega
theorem quoI_pos (z z' : Int) (h : 0 ≤ z') : Nt.quoI z z' = z := by
  have h' : ¬ z' < 0 := by omega
  unfold Nt.quoI
  by_cases hz : z < 0
  · simp [hz, h']; omega
  · simp [hz, h']; omega
theorem red_fin {G : Nat} (hy : z' ≠ 0) (hG : G = Nat.gcd z.natAbs z'.natAbs) (h1 : IntN u i (Nt.quoI z z' / (G : Int)) K) (h2 : NatN u y (z'.natAbs / G) L) : RatN u ⟨i.s, i.m, y⟩ ((z : Rat) / (z' : Rat)) (max K L) := by
  have hp : 0 < z'.natAbs := Int.natAbs_pos.2 hy
  rw [red_mk hy]
  have e := Nt.mk_den (z := Nt.quoI z z') hp
  rw [Nt.quoI_abs, ← hG] at e
  refine ⟨?_, ?_⟩
  · show IntN u i _ _; rw [e.2]; exact h1.more (Nat.le_max_left _ _)
  · show NatN u y _ _; rw [e.1]; exact h2.more (Nat.le_max_right _ _)
theorem gcd_div_abs {G : Nat} (hG : G = Nat.gcd z.natAbs z'.natAbs) (hp : 0 < G) : (z' / (G : Int)).natAbs = z'.natAbs / G := by
  have hd : (G : Int) ∣ z' := by rw [hG]; exact Int.ofNat_dvd_left.2 (Nat.gcd_dvd_right _ _)
  obtain ⟨k, hk⟩ := hd
  subst hk
  rw [Int.mul_ediv_cancel_left _ (by omega), Int.natAbs_mul, Int.natAbs_natCast, Nat.mul_div_cancel_left _ hp]
/-- The end of reduce, where the divided denominator is negative (the numerator has been turned round). -/
theorem red_neg {G : Nat} (hy : z' ≠ 0) (hG : G = Nat.gcd z.natAbs z'.natAbs) (h1 : IntN u i (-(z / (G : Int))) K) (h2 : IntN u' j (z' / (G : Int)) L) (hs : j.s = true) (h3 : NatN u y (z' / (G : Int)).natAbs L) : RatN u ⟨i.s, i.m, y⟩ ((z : Rat) / (z' : Rat)) (max K L) := by
  have hp : 0 < G := by rw [hG]; exact Nat.gcd_pos_of_pos_right _ (Int.natAbs_pos.2 hy)
  have hneg : z' < 0 := by
    rw [h2.1] at hs
    have h4 : z' / (G : Int) < 0 := by simpa using hs
    rcases Int.lt_or_le z' 0 with h | h
    · exact h
    · have := Int.ediv_nonneg h (show (0 : Int) ≤ (G : Int) by omega); omega
  have hd : (G : Int) ∣ z := by rw [hG]; exact Int.ofNat_dvd_left.2 (Nat.gcd_dvd_left _ _)
  refine red_fin hy hG ?_ (by rw [← gcd_div_abs hG hp]; exact h3)
  rw [quoI_neg z z' hneg]
  obtain ⟨k, hk⟩ := hd
  rw [hk, Int.mul_ediv_cancel_left _ (by omega)] at h1
  rw [hk, ← Int.mul_neg, Int.mul_ediv_cancel_left _ (by omega)]
  exact h1
theorem red_pos {G : Nat} (hy : z' ≠ 0) (hG : G = Nat.gcd z.natAbs z'.natAbs) (h1 : IntN u i (z / (G : Int)) K) (h2 : IntN u' j (z' / (G : Int)) L) (hs : j.s = false) (h3 : NatN u y (z' / (G : Int)).natAbs L) : RatN u ⟨i.s, i.m, y⟩ ((z : Rat) / (z' : Rat)) (max K L) := by
  have hp : 0 < G := by rw [hG]; exact Nat.gcd_pos_of_pos_right _ (Int.natAbs_pos.2 hy)
  have hd2 : (G : Int) ∣ z' := by rw [hG]; exact Int.ofNat_dvd_left.2 (Nat.gcd_dvd_right _ _)
  have hnn : 0 ≤ z' := by
    rw [h2.1] at hs
    have h4 : ¬ z' / (G : Int) < 0 := by simpa using hs
    obtain ⟨k, hk⟩ := hd2
    rw [hk, Int.mul_ediv_cancel_left _ (by omega)] at h4
    rw [hk]
    exact Int.mul_nonneg (by omega) (by omega)
  refine red_fin hy hG ?_ (by rw [← gcd_div_abs hG hp]; exact h3)
  rw [quoI_pos z z' hnn]
  exact h1
/-- What 'parts' answers. -/
def PartV (q : Rat) (K : Nat) (v : Value) (u : World) : Prop := ∃ (i j : IL) (z : Int) (D : Nat), v = .tuple #[i.v, j.v] ∧ IntV u i z K ∧ IntN u j (D : Int) K ∧ 0 < D ∧ q = mkRat z D ∧ 1 ≤ K
end
end Go.Proofs.YtnedhbidmfoegaaGreat
