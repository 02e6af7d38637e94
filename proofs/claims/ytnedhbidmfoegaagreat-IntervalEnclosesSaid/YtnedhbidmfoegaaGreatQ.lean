/- Plain laws of rationals and their sizes; how rationals read. -/
import Derived.Test.YtnedhbidmfoegaaGreatVl
namespace Go.Proofs.YtnedhbidmfoegaaGreat
open Go.RowKit
set_option linter.unusedVariables false
namespace Nt
/-- The parts of a quotient in lowest terms. -/
theorem mk_den {z : Int} {D : Nat} (hD : 0 < D) : (mkRat z D).den = D / Nat.gcd z.natAbs D ∧ (mkRat z D).num = z / ((Nat.gcd z.natAbs D : Nat) : Int) := by
  rw [← Rat.normalize_eq_mkRat (by omega), Rat.normalize_eq]
  exact ⟨rfl, rfl⟩
theorem mk_num {z : Int} {D : Nat} (hD : 0 < D) : (mkRat z D).num.natAbs = z.natAbs / Nat.gcd z.natAbs D ∧ ((mkRat z D).num < 0 ↔ z < 0) := by
  have h := (mk_den (z := z) hD).2
  have hg : 0 < Nat.gcd z.natAbs D := Nat.gcd_pos_of_pos_right _ hD
  obtain ⟨k, hk⟩ := Nat.gcd_dvd_left z.natAbs D
  generalize Nat.gcd z.natAbs D = g at *
  rw [h]
  have hk2 : z.natAbs / g = k := by rw [hk]; exact Nat.mul_div_cancel_left _ hg
  rw [hk2]
  rcases Int.lt_or_le z 0 with hz | hz
  · have e : z = -((g : Int) * (k : Int)) := by rw [← Int.natCast_mul, ← hk]; omega
    have hk0 : 0 < k := by
      rcases Nat.eq_zero_or_pos k with h | h
      · rw [h] at hk; simp at hk; omega
      · exact h
    have e2 : z / (g : Int) = -(k : Int) := by
      rw [e, ← Int.mul_neg]
      exact Int.mul_ediv_cancel_left _ (by omega)
    rw [e2]
    exact ⟨by omega, by omega⟩
  · have e : z = (g : Int) * (k : Int) := by rw [← Int.natCast_mul, ← hk]; omega
    have e2 : z / (g : Int) = (k : Int) := by rw [e]; exact Int.mul_ediv_cancel_left _ (by omega)
    rw [e2]
    exact ⟨by omega, by omega⟩
theorem mk_whole {z : Int} {D : Nat} (hD : 0 < D) (h : z.natAbs % D = 0) : (mkRat z D).den = 1 ∧ (mkRat z D).num.natAbs = z.natAbs / D := by
  have hg : Nat.gcd z.natAbs D = D := Nat.gcd_eq_right (Nat.dvd_of_mod_eq_zero h)
  rw [(mk_den hD).1, (mk_num hD).1, hg]
  exact ⟨Nat.div_self hD, rfl⟩
theorem mk_gcd (N D : Nat) : Nat.gcd D (N % D) = Nat.gcd N D := by rw [Nat.gcd_comm N D, Nat.gcd_rec D N, Nat.gcd_comm]
/-- The size of a rational: how many digits its parts have at most. -/
def rs (q : Rat) : Nat := max (dl q.num.natAbs) (dl q.den)
theorem rs_mk {z : Int} {D K : Nat} (hz : dl z.natAbs ≤ K) (hd : dl D ≤ K) (hK : 1 ≤ K) : rs (mkRat z D) ≤ K := by
  rcases Nat.eq_zero_or_pos D with h | h
  · rw [h, Rat.mkRat_zero]
    unfold rs
    rw [show (0 : Rat).num.natAbs = 0 from rfl, show (0 : Rat).den = 1 from rfl, dl_zero, dl_one]
    omega
  · unfold rs
    have h1 : dl (mkRat z D).num.natAbs ≤ dl z.natAbs := by rw [(mk_num h).1]; exact dl_mono (Nat.div_le_self _ _)
    have h2 : dl (mkRat z D).den ≤ dl D := by rw [(mk_den h).1]; exact dl_mono (Nat.div_le_self _ _)
    omega
theorem den_pos (q : Rat) : 0 < q.den := Nat.pos_of_ne_zero q.den_nz
theorem rs_pos (q : Rat) : 1 ≤ rs q := by
  unfold rs
  have := dl_mono (den_pos q)
  rw [show Nat.succ 0 = 1 from rfl, dl_one] at this
  omega
def cmpQ (x y : Rat) : Int := if x < y then -1 else if x = y then 0 else 1
theorem cmp_nat0 {D : Nat} {b : Bool} (h : (cmpS (D : Int) 0 == 0) = b) : (b = true → D = 0) ∧ (b = false → 0 < D) := by
  unfold cmpS at h
  by_cases h0 : D = 0
  · subst h0; simp at h; subst h; simp
  · rw [if_neg (by omega), if_neg (by omega)] at h
    simp at h; subst h; simp; omega
theorem cmp_natE {D E : Nat} (h : (cmpS (D : Int) (E : Int) == 0) = true) : D = E := by
  unfold cmpS at h
  by_cases h1 : (D : Int) < E
  · simp only [h1, if_true] at h; simp at h
  · by_cases h2 : (D : Int) = E
    · omega
    · simp only [h1, h2, if_false] at h; simp at h
theorem cmp_eq0 {z : Int} (h : (cmpS z 0 == 0) = true) : z = 0 := by
  unfold cmpS at h
  by_cases h1 : z < 0
  · simp only [h1, if_true] at h; simp at h
  · by_cases h2 : z = 0
    · exact h2
    · simp only [h1, h2, if_false] at h; simp at h
theorem cmp_ne0 {z : Int} (h : (cmpS z 0 == 0) = false) : z ≠ 0 := by
  rintro rfl; simp [cmpS] at h
theorem mk_lt {a c : Int} {b d : Nat} (hb : 0 < b) (hd : 0 < d) : (mkRat a b < mkRat c d ↔ a * d < c * b) ∧ (mkRat a b = mkRat c d ↔ a * d = c * b) := by
  have e : mkRat a b = mkRat c d ↔ a * d = c * b := Rat.mkRat_eq_iff (by omega) (by omega)
  refine ⟨?_, e⟩
  have hb' : (0 : Rat) < (b : Rat) := Rat.natCast_pos.2 hb
  have hd' : (0 : Rat) < (d : Rat) := Rat.natCast_pos.2 hd
  rw [Rat.mkRat_eq_div, Rat.mkRat_eq_div, Rat.div_lt_iff hb']
  have e2 : (c : Rat) / (d : Rat) * (b : Rat) = (c * b : Rat) / d := by rw [Rat.div_def, Rat.div_def]; grind
  rw [e2, Rat.lt_div_iff hd']
  have e3 : (a : Rat) * ((d : Nat) : Rat) = ((a * d : Int) : Rat) := by rw [Rat.intCast_mul]; rfl
  have e4 : (c : Rat) * ((b : Nat) : Rat) = ((c * b : Int) : Rat) := by rw [Rat.intCast_mul]; rfl
  rw [e3, e4, Rat.intCast_lt_intCast]
theorem cmp_mk {a c : Int} {b d : Nat} (hb : 0 < b) (hd : 0 < d) : cmpS (a * d) (c * b) = cmpQ (mkRat a b) (mkRat c d) := by
  obtain ⟨h1, h2⟩ := mk_lt (a := a) (c := c) hb hd
  unfold cmpS cmpQ
  simp only [h1, h2]
theorem add_mk {a c : Int} {b d : Nat} (hb : 0 < b) (hd : 0 < d) : mkRat (a * d + c * b) (b * d) = mkRat a b + mkRat c d := (Rat.mkRat_add_mkRat a c (by omega) (by omega)).symm
theorem add_same {a c : Int} {b : Nat} (hb : 0 < b) : mkRat (a + c) b = mkRat a b + mkRat c b := by
  rw [← add_mk hb hb, ← Int.add_mul, ← Rat.mkRat_mul_right (a := b) (by omega)]
theorem mul_mk {a c : Int} {b d : Nat} : mkRat (a * c) (b * d) = mkRat a b * mkRat c d := (Rat.mkRat_mul_mkRat a c b d).symm
theorem mk_one (a : Int) : mkRat a 1 = (a : Rat) := by rw [Rat.mkRat_eq_div]; show (a : Rat) / ((1 : Nat) : Rat) = a; grind
theorem neg_mk {a : Int} {b : Nat} : mkRat (-a) b = -mkRat a b := (Rat.neg_mkRat a b).symm
def sgQ (x : Rat) : Int := cmpQ x 0
theorem sg_mk {a : Int} {b : Nat} (hb : 0 < b) : cmpS a 0 = sgQ (mkRat a b) := by
  have := cmp_mk (a := a) (c := 0) (b := b) (d := 1) hb (by omega)
  rw [Rat.zero_mkRat] at this
  unfold sgQ
  rw [← this]
  congr 1 <;> omega
def absQ (x : Rat) : Rat := if x < 0 then -x else x
theorem abs_mk {a : Int} {b : Nat} : mkRat (a.natAbs : Int) b = absQ (mkRat a b) := by
  rcases Nat.eq_zero_or_pos b with h | h
  · subst h; simp [absQ]
  · have h1 := (mk_lt (a := a) (c := 0) (b := b) (d := 1) h (by omega)).1
    rw [Rat.zero_mkRat] at h1
    unfold absQ
    by_cases ha : a < 0
    · rw [if_pos (h1.2 (by omega)), ← neg_mk]
      congr 1; omega
    · rw [if_neg (fun k => by have := h1.1 k; omega)]
      congr 1; omega
theorem rs_zero : rs 0 = 1 := by unfold rs; rw [show (0 : Rat).num.natAbs = 0 from rfl, show (0 : Rat).den = 1 from rfl, dl_zero, dl_one]; rfl
theorem rs_int {z : Int} {K : Nat} (h : dl z.natAbs ≤ K) (hK : 1 ≤ K) : rs (z : Rat) ≤ K := by
  rw [← mk_one]; exact rs_mk h (by rw [dl_one]; exact hK) hK
theorem rs_neg (q : Rat) : rs (-q) = rs q := by unfold rs; rw [Rat.neg_num, Rat.neg_den, Int.natAbs_neg]
theorem rs_abs (q : Rat) : rs (absQ q) = rs q := by
  unfold absQ; split
  · exact rs_neg q
  · rfl
/-- The numerator of a quotient of integers. -/
def quoI (x y : Int) : Int := if decide (x < 0) == decide (y < 0) then (x.natAbs : Int) else -(x.natAbs : Int)
theorem quoI_abs (x y : Int) : (quoI x y).natAbs = x.natAbs := by unfold quoI; split <;> omega
theorem div_mk2 {x y : Int} (hy : y ≠ 0) : mkRat (quoI x y) y.natAbs = (x : Rat) / (y : Rat) := by
  unfold quoI
  rw [← Rat.divInt_eq_div, ← Rat.divInt_ofNat]
  by_cases hx : x < 0 <;> by_cases hy' : y < 0
  · rw [if_pos (by simp [hx, hy']), ← Rat.neg_divInt_neg x y, show ((x.natAbs : Nat) : Int) = -x by omega, show ((y.natAbs : Nat) : Int) = -y by omega]
  · rw [if_neg (by simp [hx, hy']), show ((x.natAbs : Nat) : Int) = -x by omega, show ((y.natAbs : Nat) : Int) = y by omega, Int.neg_neg]
  · rw [if_neg (by simp [hx, hy']), ← Rat.neg_divInt_neg x y, show ((x.natAbs : Nat) : Int) = x by omega, show ((y.natAbs : Nat) : Int) = -y by omega]
  · rw [if_pos (by simp [hx, hy']), show ((x.natAbs : Nat) : Int) = x by omega, show ((y.natAbs : Nat) : Int) = y by omega]
theorem quo_mk {a c : Int} {b d : Nat} (hb : 0 < b) (hd : 0 < d) (hc : c ≠ 0) : ((a * d : Int) : Rat) / ((b * c : Int) : Rat) = mkRat a b / mkRat c d := by
  have hb' : (b : Rat) ≠ 0 := Ne.symm (Rat.ne_of_lt (Rat.natCast_pos.2 hb))
  have hd' : (d : Rat) ≠ 0 := Ne.symm (Rat.ne_of_lt (Rat.natCast_pos.2 hd))
  have hc' : (c : Rat) ≠ 0 := fun h => hc (by have : (c : Rat) = ((0 : Int) : Rat) := h; exact Rat.intCast_inj.1 this)
  rw [Rat.mkRat_eq_div, Rat.mkRat_eq_div, Rat.intCast_mul, Rat.intCast_mul]
  show (a : Rat) * (d : Rat) / ((b : Rat) * (c : Rat)) = _
  grind
end Nt
/-- A rational as it stands reads as q (0 if the denominator is 0); each part has at most K digits. -/
def RatV (u : World) (r : RL) (q : Rat) (K : Nat) : Prop := (∃ z D, IntV u ⟨r.s, r.m⟩ z K ∧ NatV u r.d D K ∧ q = mkRat z D) ∧ 1 ≤ K
/-- The canonical rational q; each part has at most K digits. -/
def RatN (u : World) (r : RL) (q : Rat) (K : Nat) : Prop := IntN u ⟨r.s, r.m⟩ q.num K ∧ NatN u r.d q.den K
section
variable {u u' w w' : World} {x y : Sl} {i j : IL} {r : RL} {N M K L : Nat} {z z' : Int} {q : Rat}
theorem RatV.ext (h : RatV u r q K) (e : Ext u u') : RatV u' r q K := by
  obtain ⟨⟨z, D, h1, h2, h3⟩, h4⟩ := h; exact ⟨⟨z, D, h1.ext e, h2.ext e, h3⟩, h4⟩
theorem RatN.ext (h : RatN u r q K) (e : Ext u u') : RatN u' r q K := ⟨h.1.ext e, h.2.ext e⟩
theorem RatV.more (h : RatV u r q K) (k : K ≤ L) : RatV u r q L := by
  obtain ⟨⟨z, D, h1, h2, h3⟩, h4⟩ := h; exact ⟨⟨z, D, h1.more k, h2.more k, h3⟩, by omega⟩
theorem RatN.more (h : RatN u r q K) (k : K ≤ L) : RatN u r q L := ⟨h.1.more k, h.2.more k⟩
theorem RatN.rs (h : RatN u r q K) : Nt.rs q ≤ K := by
  have h1 := h.1.2.2.2
  have h2 := h.2.2.2
  unfold Nt.rs; omega
theorem RatN.fit (h : RatN u r q K) (k : Nt.rs q ≤ L) : RatN u r q L := by
  unfold Nt.rs at k
  exact ⟨⟨h.1.1, h.1.2.1, h.1.2.2.1, by omega⟩, h.2.1, h.2.2.1, by omega⟩
theorem RatN.raw (h : RatN u r q K) : RatV u r q K := ⟨⟨q.num, q.den, h.1.raw, h.2.raw, (Rat.mkRat_self q).symm⟩, by have := Nt.rs_pos q; have := h.rs; omega⟩
theorem RatV.rs (h : RatV u r q K) : Nt.rs q ≤ K := by
  obtain ⟨⟨z, D, h1, h2, h3⟩, h4⟩ := h
  rw [h3]; exact Nt.rs_mk h1.size h2.size h4
/-- What 'read' answers. -/
def NumV (u : World) (r : RL) (wh : Bool) (q : Rat) (K : Nat) : Prop := ∃ z D, IntV u ⟨r.s, r.m⟩ z K ∧ NatV u r.d D K ∧ 0 < D ∧ q = mkRat z D ∧ (wh = true → D = 1) ∧ 1 ≤ K
theorem quot_int {L : Nat} (h : IntN u i z K) (h2 : IntN u j z' L) : IntV u ⟨!(i.s == j.s), i.m⟩ (Nt.quoI z z') K := by
  refine ⟨z.natAbs, h.2.raw, ?_⟩
  show Nt.quoI z z' = Nt.sg (!(i.s == j.s)) _
  rw [h.1, h2.1]
  unfold Nt.quoI Nt.sg
  cases (decide (z < 0) == decide (z' < 0)) <;> rfl
theorem flip_rat (h : RatV u r q K) : RatV u ⟨!r.s, r.m, r.d⟩ (-q) K := by
  obtain ⟨⟨z, D, ⟨N, h1, h2⟩, h3, h4⟩, h5⟩ := h
  refine ⟨⟨-z, D, ⟨N, h1, ?_⟩, h3, by rw [h4, Nt.neg_mk]⟩, h5⟩
  rw [h2]; exact (Nt.sg_neg _ _).symm
theorem abs_rat (h : RatV u r q K) : RatV u ⟨false, r.m, r.d⟩ (Nt.absQ q) K := by
  obtain ⟨⟨z, D, ⟨N, h1, h2⟩, h3, h4⟩, h5⟩ := h
  refine ⟨⟨z.natAbs, D, ⟨N, h1, ?_⟩, h3, by rw [h4, Nt.abs_mk]⟩, h5⟩
  rw [h2, Nt.sg_abs]; rfl
theorem whole_rat (h : IntN u i z K) (h1 : NatN u y 1 L) : RatN u ⟨i.s, i.m, y⟩ (z : Rat) (max K L) := by
  refine ⟨?_, ?_⟩
  · show IntN u i (z : Rat).num _; rw [Rat.num_intCast]; exact h.more (Nat.le_max_left _ _)
  · show NatN u y (z : Rat).den _; rw [Rat.den_intCast]; exact h1.more (Nat.le_max_right _ _)
theorem rat_mk {D : Nat} (hi : IntV u ⟨r.s, r.m⟩ z K) (hd : NatV u r.d D K) (hK : 1 ≤ K) : RatV u r (mkRat z D) K := ⟨⟨z, D, hi, hd, rfl⟩, hK⟩
theorem rat_mk2 {s : Bool} {D : Nat} (hi : IntV u ⟨s, x⟩ z K) (hd : NatV u y D L) : RatV u ⟨s, x, y⟩ (mkRat z D) (max (max K L) 1) :=
  ⟨⟨z, D, hi.more (by omega), hd.more (by omega), rfl⟩, by omega⟩
theorem rat_nil (u : World) : RatV u ⟨false, ⟨none, 0, 0⟩, ⟨none, 0, 0⟩⟩ 0 1 := ⟨⟨0, 0, ⟨0, nat_nil _ _, rfl⟩, nat_nil _ _, by simp⟩, Nat.le_refl _⟩
theorem low1 {s : Bool} {D : Nat} (hD : 0 < D) (h : N % D = 0) : ((Nt.sg s (N / D) : Int) : Rat) = mkRat (Nt.sg s N) D := by
  obtain ⟨k, hk⟩ := Nat.dvd_of_mod_eq_zero h
  subst hk
  rw [Nat.mul_div_cancel_left _ hD, ← Nt.mk_one, Rat.mkRat_eq_iff (by omega) (by omega)]
  unfold Nt.sg
  cases s
  · simp [Int.mul_comm]
  · simp [Int.mul_comm, Int.mul_neg, Int.neg_mul]
theorem low2 {s : Bool} {D : Nat} (hD : 0 < D) (hg : Nat.gcd D (N % D) = 1) (h1 : IntN u i (Nt.sg s N) K) (h2 : NatN u y D L) : RatN u ⟨i.s, i.m, y⟩ (mkRat (Nt.sg s N) D) (max K L) := by
  rw [Nt.mk_gcd] at hg
  have hg' : Nat.gcd (Nt.sg s N).natAbs D = 1 := by rw [Nt.sg_abs]; exact hg
  have e1 := (Nt.mk_den (z := Nt.sg s N) hD).1
  have e2 := (Nt.mk_den (z := Nt.sg s N) hD).2
  rw [hg', Nat.div_one] at e1
  rw [hg'] at e2
  simp at e2
  refine ⟨?_, ?_⟩
  · show IntN u i _ _; rw [e2]; exact h1.more (Nat.le_max_left _ _)
  · show NatN u y _ _; rw [e1]; exact h2.more (Nat.le_max_right _ _)
theorem low3 {s : Bool} {D : Nat} (hD : 0 < D) (hr : N % D ≠ 0) (h1 : NatN u x (N / Nat.gcd D (N % D)) K) (h2 : NatN u y (D / Nat.gcd D (N % D)) L) : RatN u ⟨s, x, y⟩ (mkRat (Nt.sg s N) D) (max K L) := by
  rw [Nt.mk_gcd] at h1 h2
  have e1 := (Nt.mk_den (z := Nt.sg s N) hD).1
  have e2 := Nt.mk_num (z := Nt.sg s N) hD
  rw [Nt.sg_abs] at e1 e2
  refine ⟨⟨?_, ?_⟩, ?_⟩
  · have hN : 0 < N := by
      rcases Nat.eq_zero_or_pos N with h | h
      · rw [h] at hr; simp at hr
      · exact h
    have e3 : decide ((mkRat (Nt.sg s N) D).num < 0) = decide (Nt.sg s N < 0) := decide_eq_decide.2 e2.2
    show s = decide _
    rw [e3]
    unfold Nt.sg
    cases s <;> simp <;> omega
  · show NatN u x _ _; rw [e2.1]; exact h1.more (Nat.le_max_left _ _)
  · show NatN u y _ _; rw [e1]; exact h2.more (Nat.le_max_right _ _)
theorem dl_add_int {x y : Int} {K L : Nat} (hx : dl x.natAbs ≤ K) (hy : dl y.natAbs ≤ L) : dl (x + y).natAbs ≤ max K L + 1 := by
  have h1 := Nt.dl_add x.natAbs y.natAbs
  have h2 := Nt.dl_mono (Int.natAbs_add_le x y)
  omega
theorem dl_mul_int {x y : Int} {K L : Nat} (hx : dl x.natAbs ≤ K) (hy : dl y.natAbs ≤ L) : dl (x * y).natAbs ≤ K + L := by
  have h1 := Nt.dl_mul x.natAbs y.natAbs
  rw [Int.natAbs_mul]
  omega
theorem dl_i64 {z : Int} (h0 : -9223372036854775808 ≤ z) (h1 : z ≤ 9223372036854775807) : dl z.natAbs ≤ 2 := Nt.dl_of_lt (by omega)
end
end Go.Proofs.YtnedhbidmfoegaaGreat
