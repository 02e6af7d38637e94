/- Lehmer's steps of Euclid's algorithm. No program in sight. -/
import Derived.Test.YtnedhbidmfoegaaGreatNat
namespace Go.Proofs.YtnedhbidmfoegaaGreat.Nt

/-- What the loop of cofactors keeps: x and y are the numbers, p0 and q0 what they begin with, at the scale K / Z. -/
structure Leh (x y p0 q0 p q a b c d : Int) : Prop where
  ep : p = a * p0 + b * q0
  eq : q = c * p0 + d * q0
  sign : (0 ≤ a ∧ b ≤ 0 ∧ c ≤ 0 ∧ 0 ≤ d) ∨ (a ≤ 0 ∧ 0 ≤ b ∧ 0 ≤ c ∧ d ≤ 0)
  pa : 0 ≤ p + a
  pb : 0 ≤ p + b
  qc : 0 ≤ q + c
  qd : 0 ≤ q + d
  ba : -2147483647 ≤ a ∧ a ≤ 2147483647
  bb : -2147483647 ≤ b ∧ b ≤ 2147483647
  bc : -2147483647 ≤ c ∧ c ≤ 2147483647
  bd : -2147483647 ≤ d ∧ d ≤ 2147483647
  y0 : 0 ≤ c * x + d * y
  yx : c * x + d * y ≤ a * x + b * y
  xx : a * x + b * y ≤ x
  less : (a = 1 ∧ b = 0 ∧ c = 0 ∧ d = 1) ∨ c * x + d * y < y
  xy : (a = 1 ∧ b = 0 ∧ c = 0 ∧ d = 1) ∨ a * x + b * y ≤ y
  gcd : Int.gcd (a * x + b * y) (c * x + d * y) = Int.gcd x y
  pm : p ≤ 4611686018427387904
  qm : q ≤ 4611686018427387904

theorem Leh.start {x y p0 q0 : Int} (hy : 0 ≤ y) (hxy : y ≤ x) (hp : 0 ≤ p0) (hq : 0 ≤ q0) (hp' : p0 ≤ 4611686018427387904) (hq' : q0 ≤ 4611686018427387904) : Leh x y p0 q0 p0 q0 1 0 0 1 := by
  refine ⟨by omega, by omega, by omega, by omega, by omega, by omega, by omega, by omega, by omega, by omega, by omega, by omega, by omega, by omega, .inl ⟨rfl, rfl, rfl, rfl⟩, .inl ⟨rfl, rfl, rfl, rfl⟩, by simp, hp', hq'⟩
theorem Leh.p0 {x y p0 q0 p q a b c d : Int} (h : Leh x y p0 q0 p q a b c d) : 0 ≤ p := by
  have := h.pa; have := h.pb; rcases h.sign with s | s <;> omega
theorem Leh.q0 {x y p0 q0 p q a b c d : Int} (h : Leh x y p0 q0 p q a b c d) : 0 ≤ q := by
  have := h.qc; have := h.qd; rcases h.sign with s | s <;> omega

theorem fl {n m f : Int} (hm : 0 < m) (hf : f = n / m) : 0 ≤ n - f * m ∧ n - f * m < m := by
  have e := Int.mul_ediv_add_emod n m
  have h0 := Int.emod_nonneg n (b := m) (by omega)
  have h1 := Int.emod_lt_of_pos n hm
  rw [hf, Int.mul_comm]; omega

/-- The corners decide: r K + e ex + g ey is not negative. -/
theorem corner_ge {r e g K ex ey : Int} (hK : 0 ≤ K) (hx0 : 0 ≤ ex) (hx1 : ex ≤ K) (hy0 : 0 ≤ ey) (hy1 : ey ≤ K) (h : (0 ≤ e ∧ g ≤ 0 ∧ 0 ≤ r + g) ∨ (e ≤ 0 ∧ 0 ≤ g ∧ 0 ≤ r + e)) : 0 ≤ r * K + e * ex + g * ey := by
  rcases h with ⟨h1, h2, h3⟩ | ⟨h1, h2, h3⟩
  · have a1 : 0 ≤ e * ex := Int.mul_nonneg h1 hx0
    have a2 : g * K ≤ g * ey := Int.mul_le_mul_of_nonpos_left h2 hy1
    have a3 : 0 ≤ (r + g) * K := Int.mul_nonneg h3 hK
    rw [Int.add_mul] at a3
    omega
  · have a1 : 0 ≤ g * ey := Int.mul_nonneg h2 hy0
    have a2 : e * K ≤ e * ex := Int.mul_le_mul_of_nonpos_left h1 hx1
    have a3 : 0 ≤ (r + e) * K := Int.mul_nonneg h3 hK
    rw [Int.add_mul] at a3
    omega

/-- One step: f is the quotient of all numbers that begin with p and q. -/
theorem Leh.step {x y p0 q0 p q a b c d f K Z ex ey : Int} (h : Leh x y p0 q0 p q a b c d) (hK : 0 < K) (hZ : 0 < Z)
    (hx : x * Z = p0 * K + ex) (hx0 : 0 ≤ ex) (hx1 : ex < K) (hy : y * Z = q0 * K + ey) (hy0 : 0 ≤ ey) (hy1 : ey < K)
    (h1 : q + c ≠ 0) (h2 : q + d ≠ 0) (f1 : f = (p + a) / (q + c)) (f2 : f = (p + b) / (q + d))
    (be : -2147483647 ≤ a - f * c ∧ a - f * c ≤ 2147483647) (bg : -2147483647 ≤ b - f * d ∧ b - f * d ≤ 2147483647) :
    Leh x y p0 q0 q (p - f * q) c d (a - f * c) (b - f * d) ∧ (p - f * q) + (a - f * c) < q + c := by
  have u1 := fl (by have := h.qc; omega) f1
  have u2 := fl (by have := h.qd; omega) f2
  have f0 : 0 ≤ f := by rw [f1]; exact Int.ediv_nonneg h.pa h.qc
  have q0' := h.q0
  have hqm := h.qm
  have hpm := h.pm
  have e1 : (p - f * q) + (a - f * c) = (p + a) - f * (q + c) := by grind
  have e2 : (p - f * q) + (b - f * d) = (p + b) - f * (q + d) := by grind
  have s : (0 ≤ c ∧ d ≤ 0 ∧ a - f * c ≤ 0 ∧ 0 ≤ b - f * d) ∨ (c ≤ 0 ∧ 0 ≤ d ∧ 0 ≤ a - f * c ∧ b - f * d ≤ 0) := by
    rcases h.sign with ⟨s1, s2, s3, s4⟩ | ⟨s1, s2, s3, s4⟩
    · have := Int.mul_nonpos_of_nonneg_of_nonpos f0 s3
      have := Int.mul_nonneg f0 s4
      omega
    · have := Int.mul_nonpos_of_nonneg_of_nonpos f0 s4
      have := Int.mul_nonneg f0 s3
      omega
  -- the remainder is not negative
  have r0 : 0 ≤ (a - f * c) * x + (b - f * d) * y := by
    have k := corner_ge (r := p - f * q) (e := a - f * c) (g := b - f * d) (K := K) (ex := ex) (ey := ey) (by omega) hx0 (by omega) hy0 (by omega) (by omega)
    have e : (p - f * q) * K + (a - f * c) * ex + (b - f * d) * ey = ((a - f * c) * x + (b - f * d) * y) * Z := by
      have ex' : ex = x * Z - p0 * K := by omega
      have ey' : ey = y * Z - q0 * K := by omega
      rw [ex', ey', h.ep, h.eq]; grind
    rw [e] at k
    exact Int.nonneg_of_mul_nonneg_left k hZ
  -- and less than the divisor
  have r1 : (a - f * c) * x + (b - f * d) * y < c * x + d * y := by
    have k := corner_ge (r := -(p - f * q - q) - 1) (e := -(a - f * c - c)) (g := -(b - f * d - d)) (K := K) (ex := ex) (ey := ey) (by omega) hx0 (by omega) hy0 (by omega)
      (by rcases s with s | s
          · exact .inl ⟨by omega, by omega, by omega⟩
          · exact .inr ⟨by omega, by omega, by omega⟩)
    have e : (-(p - f * q - q) - 1) * K + -(a - f * c - c) * ex + -(b - f * d - d) * ey = (c * x + d * y - ((a - f * c) * x + (b - f * d) * y)) * Z - K := by
      have ex' : ex = x * Z - p0 * K := by omega
      have ey' : ey = y * Z - q0 * K := by omega
      rw [ex', ey', h.ep, h.eq]; grind
    rw [e] at k
    have k' : 0 < (c * x + d * y - ((a - f * c) * x + (b - f * d) * y)) * Z := by omega
    rcases Int.lt_or_le 0 (c * x + d * y - ((a - f * c) * x + (b - f * d) * y)) with h' | h'
    · omega
    · have := Int.mul_nonpos_of_nonpos_of_nonneg h' (Int.le_of_lt hZ)
      omega
  refine ⟨⟨h.eq, by rw [h.ep, h.eq]; grind, s, h.qc, h.qd, by omega, by omega, h.bc, h.bd, be, bg, r0, by omega, ?_, ?_, ?_, ?_, hqm, ?_⟩, by omega⟩
  · have := h.yx; have := h.xx; omega
  · right
    rcases h.xy with ⟨_, _, rfl, rfl⟩ | hxy
    · omega
    · have := h.yx; omega
  · right
    rcases h.less with ⟨_, _, rfl, rfl⟩ | hl
    · omega
    · omega
  · rw [← h.gcd]
    have e : (a - f * c) * x + (b - f * d) * y = (a * x + b * y) - f * (c * x + d * y) := by grind
    rw [e, Int.gcd_comm, Int.sub_eq_add_neg, ← Int.neg_mul, Int.gcd_add_mul_right_left]
  · have : 0 ≤ f * q := Int.mul_nonneg f0 q0'
    omega

/-- The combination's step. -/
theorem comb_step {S x y : List Int} {i : Nat} {f g cy t : Int} (hi : i < S.length) (h : valTo S i + cy * pw i = f * valTo x i + g * valTo y i) (ht : t = f * x[i]?.getD 0 + cy + g * y[i]?.getD 0) :
    valTo (S.set i (t % 4294967296)) (i + 1) + (t / 4294967296) * pw (i + 1) = f * valTo x (i + 1) + g * valTo y (i + 1) := by
  rw [valTo_set S _ hi, valTo_succ, valTo_succ, pw]
  have e := Int.mul_ediv_add_emod t 4294967296
  generalize t % 4294967296 = r at *
  generalize t / 4294967296 = q at *
  grind
theorem mul_range {f d : Int} (h0 : -2147483647 ≤ f) (h1 : f ≤ 2147483647) (d0 : 0 ≤ d) (d1 : d < 4294967296) : -9223372030412324865 ≤ f * d ∧ f * d ≤ 9223372030412324865 ∧ (0 ≤ f → 0 ≤ f * d) ∧ (f ≤ 0 → f * d ≤ 0) := by
  have a1 : f * d ≤ 2147483647 * d := Int.mul_le_mul_of_nonneg_right h1 d0
  have a2 : -2147483647 * d ≤ f * d := Int.mul_le_mul_of_nonneg_right h0 d0
  exact ⟨by omega, by omega, fun h => Int.mul_nonneg h d0, fun h => Int.mul_nonpos_of_nonpos_of_nonneg h d0⟩
theorem mul_range2 {f c : Int} (h0 : 0 ≤ f) (h1 : f ≤ 2147483647) (d0 : -2147483647 ≤ c) (d1 : c ≤ 2147483647) : -4611686014132420609 ≤ f * c ∧ f * c ≤ 4611686014132420609 := by
  have a1 : f * c ≤ f * 2147483647 := Int.mul_le_mul_of_nonneg_left d1 h0
  have a2 : f * (-2147483647) ≤ f * c := Int.mul_le_mul_of_nonneg_left d0 h0
  omega
end Go.Proofs.YtnedhbidmfoegaaGreat.Nt
