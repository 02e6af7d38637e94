/- Parts of the proof: contracts of functions, each walked once, and plain laws. -/
import Derived.Test.YtbolmkfphieogaaGreatDioD
import Derived.IntWalk
import Derived.ScopeJumps
set_option linter.unusedVariables false
namespace Go.Proofs.YtbolmkfphieogaaGreat
namespace Nt
theorem cdw {a b d W : Int} (hd : 0 < d) (h : b - a ≤ W * d) : cdiv b d - a / d ≤ W + 1 := by
 have h1 := cd_width (a := a) (b := b) hd
 rcases Int.lt_or_le (W + 1) (cdiv b d - a / d) with h2 | h2
 ·have h3 := Int.mul_le_mul_of_nonneg_right (show W + 2 ≤ cdiv b d - a / d by omega) (show 0 ≤ d by omega)
  rw [Int.add_mul] at h3
  omega
 exact h2
theorem prod_width {U a b c d W V A C : Int} (hU : 0 < U) (ha : 0 ≤ a) (hc : 0 ≤ c) (h1 : b - a ≤ W) (h2 : d - c ≤ V) (h3 : a ≤ A * U) (h4 : d ≤ C * U) (hA : 0 ≤ A) (hC : 0 ≤ C) (hW : 0 ≤ W) (hV : 0 ≤ V) (hab : a ≤ b) (hcd : c ≤ d) : cdiv (b * d) U - a * c / U ≤ W * C + V * A + 1 := by
 refine cdw hU ?_
 have e : b * d - a * c = (b - a) * d + (d - c) * a := by grind
 have k1 : (b - a) * d ≤ W * (C * U) := Int.le_trans (Int.mul_le_mul_of_nonneg_right h1 xq) (Int.mul_le_mul_of_nonneg_left h4 hW)
 have k2 : (d - c) * a ≤ V * (A * U) := Int.le_trans (Int.mul_le_mul_of_nonneg_right h2 ha) (Int.mul_le_mul_of_nonneg_left h3 hV)
 have e2 : (W * C + V * A) * U = W * (C * U) + V * (A * U) := by grind
 rw [e, e2]; omega
def CsY (p q w : Nat) (lo hi : Int) : Prop := (∃ N : Nat, ∀ m, N ≤ m → Enc (u2 w) lo hi (csY p q m)) ∧ hi - lo ≤ 128 * (w : Int) + 402 ∧ 0 ≤ lo ∧ hi ≤ 2 * u2 w ∧ lo ≤ hi ∧ 1 ≤ hi
theorem csY_b {p q m : Nat} (hq : 0 < q) (hp : 2 * p ≤ q) (hm : 1 ≤ m) : 0 ≤ csY p q m ∧ csY p q m ≤ 8 / 5 := by
 have h1 := piN_b hm
 have hq' := cast_pos hq
 have hp0 : (0 : Rat) ≤ (p : Rat) := Rat.natCast_le_natCast.2 (Nat.zero_le p)
 have hpi0 : 0 ≤ piN m := Rat.le_trans (by decide +kernel) h1.1
 unfold csY
 refine ⟨div_nn (Rat.mul_nonneg hpi0 hp0) hq', dv_le hq' ?_⟩
 have h2 : ((2 * p : Nat) : Rat) ≤ (q : Rat) := Rat.natCast_le_natCast.2 hp
 rw [Rat.natCast_mul] at h2
 have e2 : ((2 : Nat) : Rat) = 2 := rfl
 rw [e2] at h2
 have h3 := Rat.mul_le_mul_of_nonneg_right h1.2 hp0
 have h4 := Rat.mul_le_mul_of_nonneg_left (c := (8 / 5 : Rat)) h2 (by decide +kernel)
 have e3 : (8 / 5 : Rat) * (2 * (p : Rat)) = 16 / 5 * (p : Rat) := by grind
 rw [e3] at h4
 exact Rat.le_trans h3 h4
theorem CsY.of {p q w : Nat} {a b : Int} (h : PiR w a b) (hw : 16 ≤ w) (hq : 0 < q) (hp : 2 * p ≤ q) (hp1 : 1 ≤ p) : CsY p q w (a * (p : Int) / (q : Int)) (cdiv (b * (p : Int)) (q : Int)) := by
 obtain ⟨h0, h4, hab, hb1⟩ := h.bd hw
 obtain ⟨⟨N, h1⟩, h2⟩ := h
 have l8 := lin8 w hw
 have hU := u2_pos w
 have E : ∀ m, N ≤ m → Enc (u2 w) (a * (p : Int) / (q : Int)) (cdiv (b * (p : Int)) (q : Int)) (csY p q m) := fun m hm => ((h1 m hm).times (n := p)).over (d := (q : Int)) xq
 have hwd : cdiv (b * (p : Int)) (q : Int) - a * (p : Int) / (q : Int) ≤ 128 * (w : Int) + 402 := by
  have := cdw (a := a * (p : Int)) (b := b * (p : Int)) (d := (q : Int)) (W := 128 * (w : Int) + 400) xq (by
   rw [← Int.sub_mul]
   exact Int.le_trans (Int.mul_le_mul_of_nonneg_right h2 xq) (Int.mul_le_mul_of_nonneg_left (show (p : Int) ≤ (q : Int) by omega) xq))
  omega
 have hlo : 0 ≤ a * (p : Int) / (q : Int) := fl_nn (Int.mul_nonneg h0 xq) xq
 have e1 := E (N + 1) xq
 have h5 : 5 * (a * (p : Int) / (q : Int)) ≤ 8 * u2 w := by
  have h6 := csY_b (m := N + 1) hq hp xq
  have h7 := Rat.mul_le_mul_of_nonneg_right h6.2 (Rat.le_of_lt (castI_pos hU))
  have h8 := e1.1
  refine Rat.intCast_le_intCast.1 ?_
  rw [Rat.intCast_mul, Rat.intCast_mul]
  have e5 : ((5 : Int) : Rat) = 5 := rfl
  have e16 : ((8 : Int) : Rat) = 8 := rfl
  rw [e5, e16]
  grind
 have hbp : 1 ≤ b * (p : Int) := by
  have := Int.mul_le_mul hb1 (show (1 : Int) ≤ (p : Int) by omega) xw xq
  omega
 exact ⟨⟨N, E⟩, hwd, hlo, by omega, e1.le, cd_ge (c := 0) xq xq⟩
def CsQ (p q w : Nat) (lo hi : Int) : Prop := (∃ N : Nat, ∀ m, N ≤ m → Enc (u2 w) lo hi (csY p q m * csY p q m)) ∧ hi - lo ≤ 512 * (w : Int) + 1609 ∧ 0 ≤ lo ∧ hi ≤ 4 * u2 w ∧ lo ≤ hi ∧ 1 ≤ hi
theorem CsQ.of {p q w : Nat} {a b : Int} (h : CsY p q w a b) : CsQ p q w (a * a / u2 w) (cdiv (b * b) (u2 w)) := by
 obtain ⟨⟨N, h1⟩, h2, h3, h4, h5, h51⟩ := h
 have hU := u2_pos w
 have E : ∀ m, N ≤ m → Enc (u2 w) (a * a / u2 w) (cdiv (b * b) (u2 w)) (csY p q m * csY p q m) := fun m hm => (h1 m hm).prod (h1 m hm) h3 h3 hU
 refine ⟨⟨N, E⟩, ?_, fl_nn (Int.mul_nonneg h3 h3) hU, cd_le hU ?_, (E N (Nat.le_refl _)).le, cd_ge (c := 0) hU (by have := Int.mul_le_mul h51 h51 xw xq; omega)⟩
 ·have := prod_width (A := 2) (C := 2) hU h3 h3 h2 h2 xq h4 xq xq xq xq h5 h5
  omega
 have h6 := Int.mul_le_mul h4 h4 xq xq
 have e : 2 * u2 w * (2 * u2 w) = 4 * u2 w * u2 w := by grind
 rw [e] at h6; exact h6
def csW (w : Nat) : Int := 512 * (w : Int) + 1611
structure CsT (p q w j : Nat) (tl th : Int) : Prop where
 e : ∃ N : Nat, ∀ m, N ≤ m → Enc (u2 w) tl th (csT (csY p q m) j)
 t0 : 0 ≤ tl
 t1 : 1 ≤ th
 tt : tl ≤ th
 t2 : th ≤ 2 * u2 w
 tw : th - tl ≤ csW w
 t00 : j = 0 → tl = th ∧ th = u2 w
 fall : th * u2 j ≤ 4 * u2 w
theorem CsT.start {p q w : Nat} : CsT p q w 0 (u2 w) (u2 w) := by
 have hU := u2_pos w
 refine ⟨⟨0, fun m _ => Enc.one⟩, by omega, by omega, by omega, by omega, ?_, fun _ => ⟨rfl, rfl⟩, ?_⟩
 ·unfold csW; omega
 show u2 w * 1 ≤ _; omega
def coD (j : Nat) : Int := (((2 * j + 2) * (2 * j + 1) : Nat) : Int)
theorem coD_pos (j : Nat) : 2 ≤ coD j := by
 have := Nat.mul_le_mul (show 2 ≤ 2 * j + 2 by omega) (show 1 ≤ 2 * j + 1 by omega)
 unfold coD; omega
theorem coD_12 {j : Nat} (hj : 1 ≤ j) : 12 ≤ coD j := by
 have := Nat.mul_le_mul (show 4 ≤ 2 * j + 2 by omega) (show 3 ≤ 2 * j + 1 by omega)
 unfold coD; omega
def csL (w j : Nat) (tl ql : Int) : Int := tl * ql / u2 w / coD j
def csH (w j : Nat) (th qh : Int) : Int := cdiv (cdiv (th * qh) (u2 w)) (coD j)
section
variable {p q w j : Nat} {tl th ql qh : Int}
theorem CsT.jw (h : CsT p q w j tl th) : j ≤ w + 2 := by
 refine u2_le_iff (Int.le_trans ?_ (Int.le_trans h.fall (by rw [u2_add w 2]; show 4 * u2 w ≤ u2 w * 4; omega)))
 have := Int.mul_le_mul_of_nonneg_right h.t1 (Int.le_of_lt (u2_pos j))
 omega
theorem CsT.term (h : CsT p q w j tl th) (hq : CsQ p q w ql qh) : ∃ N : Nat, ∀ m, N ≤ m → Enc (u2 w) (csL w j tl ql) (csH w j th qh) (csT (csY p q m) (j + 1)) := by
 obtain ⟨N, h1⟩ := h.e
 obtain ⟨⟨M, k1⟩, k2, k3, k4, k5, k6⟩ := hq
 exact ⟨max N M, fun m hm => (((h1 m xq).prod (k1 m xq) h.t0 k3 (u2_pos w)).over (by have := coD_pos j; omega))⟩
theorem CsT.next (h : CsT p q w j tl th) (hq : CsQ p q w ql qh) (ht : j ≤ 1 ∨ 2 ≤ th) : CsT p q w (j + 1) (csL w j tl ql) (csH w j th qh) ∧ (1 ≤ j → csH w j th qh ≤ th) ∧ (1 ≤ j → 2 ≤ th → 2 * csH w j th qh ≤ th) := by
 have hE := h.term hq
 have hU := u2_pos w
 have hd := coD_pos j
 obtain ⟨N, h1⟩ := id hE
 have hle := (h1 N (Nat.le_refl _)).le
 obtain ⟨_, k2, k3, k4, k5, k6⟩ := hq
 have t0 := h.t0
 have t1 := h.t1
 have t2 := h.t2
 have tt := h.tt
 have tw := h.tw
 have hfl := h.fall
 have g0 : 0 ≤ csL w j tl ql := fl_nn (fl_nn (Int.mul_nonneg t0 k3) hU) xq
 have g1 : cdiv (th * qh) (u2 w) ≤ 4 * th := cd_le hU (by
  have := Int.mul_le_mul_of_nonneg_left k4 (show 0 ≤ th by omega)
  have e : th * (4 * u2 w) = 4 * th * u2 w := by grind
  rw [e] at this; exact this)
 have g2 : csH w j th qh ≤ 2 * th := cd_le xq (by
  have := Int.mul_le_mul_of_nonneg_left hd (show 0 ≤ 2 * th by omega); omega)
 have g3 : 1 ≤ j → csH w j th qh ≤ cdiv th 3 := fun hj => cd_le xq (by
  have h5 := (cd_mul (b := th) (d := 3) xw).1
  have h6 := Int.mul_le_mul_of_nonneg_left (coD_12 hj) (show 0 ≤ cdiv th 3 by omega)
  omega)
 have g4 : cdiv th 3 ≤ th := cd_self xq xw
 have g5 : 1 ≤ th * qh := by
  have := Int.mul_le_mul t1 k6 xw xq
  omega
 have g6 : 1 ≤ cdiv (th * qh) (u2 w) := cd_ge (c := 0) hU xq
 have g7 : 1 ≤ csH w j th qh := cd_ge (c := 0) xq xq
 have g8 : 1 ≤ j → 2 ≤ th → 2 * csH w j th qh ≤ th := fun hj h2 => by
  have h3 := g3 hj
  have h4 := cd_half (b := th) (d := 3) h2 xw
  omega
 have g9 : 1 ≤ j → csH w j th qh ≤ th := fun hj => Int.le_trans (g3 hj) g4
 have aa : csH w j th qh ≤ 2 * u2 w := by
  by_cases hj : j = 0
  ·rw [(h.t00 hj).2] at g2 ⊢
   exact g2
  have := g9 xq; omega
 refine ⟨⟨hE, g0, g7, hle, aa, ?_, by omega, ?_⟩, g9, g8⟩
 ·by_cases hj : j = 0
  ·obtain ⟨e1, e2⟩ := h.t00 hj
   have := prod_width (A := 1) (C := 4) (W := 0) (V := 512 * (w : Int) + 1609) hU t0 k3 xq k2 xq k4 xq xq xq xq tt k5
   have h9 := cdw (a := tl * ql / u2 w) (b := cdiv (th * qh) (u2 w)) (d := coD j) (W := 512 * (w : Int) + 1610) xq (by
    have := Int.mul_le_mul_of_nonneg_left (show 1 ≤ coD j by omega) (show 0 ≤ 512 * (w : Int) + 1610 by omega)
    omega)
   unfold csW csL csH; omega
  have ab : 1 ≤ j := by omega
  have hd12 := coD_12 ab
  have := prod_width (A := 2) (C := 4) (W := csW w) (V := 512 * (w : Int) + 1609) hU t0 k3 tw k2 xq k4 xq xq (by unfold csW; omega) xq tt k5
  have h9 := cdw (a := tl * ql / u2 w) (b := cdiv (th * qh) (u2 w)) (d := coD j) (W := 512 * (w : Int) + 1610) xq (by
   have := Int.mul_le_mul_of_nonneg_left hd12 (show 0 ≤ 512 * (w : Int) + 1610 by omega)
   unfold csW at *
   omega)
  unfold csW csL csH; omega
 have e2 : u2 (j + 1) = u2 j * 2 := u2_add j 1
 rw [e2]
 have e : csH w j th qh * (u2 j * 2) = 2 * csH w j th qh * u2 j := by grind
 rw [e]
 by_cases hj : j = 0
 ·subst hj
  show 2 * csH w 0 th qh * 1 ≤ _
  omega
 by_cases h2 : 2 ≤ th
 ·have h4 := g8 xq h2
  exact Int.le_trans (Int.mul_le_mul_of_nonneg_right h4 (Int.le_of_lt (u2_pos j))) hfl
 have h4 := g9 xq
 obtain rfl : j = 1 := by omega
 show 2 * csH w 1 th qh * 2 ≤ _
 omega
end
structure CsI (p q w j : Nat) (tl th sl sh : Int) : Prop where
 c : CsT p q w j tl th
 s : ∃ N : Nat, ∀ m, N ≤ m → Enc (u2 w) sl sh (alt (csT (csY p q m)) (j + 1))
 sw : sh - sl ≤ csW w * (j : Int)
def CsR (p q w : Nat) (lo hi : Int) : Prop := (∃ N : Nat, ∀ m, N ≤ m → Enc (u2 w) lo hi (coN p q m)) ∧ hi - lo ≤ csW w * ((w : Int) + 4) + 2
theorem CsI.start {p q w : Nat} : CsI p q w 0 (u2 w) (u2 w) (u2 w) (u2 w) := by
 refine ⟨CsT.start, ⟨0, fun m _ => ?_⟩, by omega⟩
 have : alt (csT (csY p q m)) (0 + 1) = 1 := by show 0 + (1 : Rat) * 1 = 1; decide +kernel
 rw [this]; exact Enc.one
def csM (w j : Nat) (th : Int) : Nat := if j = 0 then (4 * u2 w).toNat else th.toNat
def CsS (w j : Nat) (tl th ql qh sl sh sl' sh' : Int) : Prop := j % 2 = 0 ∧ sl' = sl - csH w j th qh ∧ sh' = sh - csL w j tl ql ∨ ¬ j % 2 = 0 ∧ sl' = sl + csL w j tl ql ∧ sh' = sh + csH w j th qh
section
variable {p q w j : Nat} {tl th sl sh ql qh sl' sh' : Int}
theorem CsI.sum (h : CsI p q w j tl th sl sh) (hq : CsQ p q w ql qh) (hs : CsS w j tl th ql qh sl sh sl' sh') : (∃ N : Nat, ∀ m, N ≤ m → Enc (u2 w) sl' sh' (alt (csT (csY p q m)) (j + 1 + 1))) ∧ sh' - sl' = sh - sl + (csH w j th qh - csL w j tl ql) := by
 obtain ⟨N, h1⟩ := h.c.term hq
 obtain ⟨M, h2⟩ := h.s
 rcases hs with ⟨e, rfl, rfl⟩ | ⟨e, rfl, rfl⟩
 ·refine ⟨⟨max N M, fun m hm => ?_⟩, by omega⟩
  have e2 : alt (csT (csY p q m)) (j + 1 + 1) = alt (csT (csY p q m)) (j + 1) - csT (csY p q m) (j + 1) := by
   rw [alt_s]; unfold sgn; rw [if_neg xq]; grind
  rw [e2]; exact (h2 m xq).sub (h1 m xq)
 refine ⟨⟨max N M, fun m hm => ?_⟩, by omega⟩
 have e2 : alt (csT (csY p q m)) (j + 1 + 1) = alt (csT (csY p q m)) (j + 1) + csT (csY p q m) (j + 1) := by
  rw [alt_s]; unfold sgn; rw [if_pos xq]; grind
 rw [e2]; exact (h2 m xq).add (h1 m xq)
theorem CsI.go (h : CsI p q w j tl th sl sh) (hq : CsQ p q w ql qh) (ht : j = 0 ∨ 2 ≤ csH w j th qh) (hs : CsS w j tl th ql qh sl sh sl' sh') :
  CsI p q w (j + 1) (csL w j tl ql) (csH w j th qh) sl' sh' ∧ csM w (j + 1) (csH w j th qh) < csM w j th := by
 have hT : 1 ≤ j → csH w j th qh ≤ th := fun hj => (h.c.next hq (by
  rcases Int.lt_or_le th 2 with h2 | h2
  ·exact .inl (by
    have hd := coD_12 hj
    have hU := u2_pos w
    have t1 := h.c.t1
    have k4 := hq.2.2.2.1
    have k1 : csH w j th qh ≤ 1 := cd_le xq (by
     have : cdiv (th * qh) (u2 w) ≤ 4 := cd_le hU (by
      have e : th = 1 := by omega
      rw [e, Int.one_mul]; exact k4)
     omega)
    omega)
  exact .inr h2)).2.1 hj
 have hN := h.c.next hq (by
  by_cases hj : j = 0
  ·exact .inl xq
  have := hT xq; exact .inr xq)
 obtain ⟨S1, S2⟩ := h.sum hq hs
 have hsw := h.sw
 have hU := u2_pos w
 have htw := hN.1.tw
 have e : csW w * (((j + 1 : Nat)) : Int) = csW w * (j : Int) + csW w := by rw [Int.natCast_add, Int.mul_add]; simp
 refine ⟨⟨hN.1, S1, by rw [e]; omega⟩, ?_⟩
 have ht2 := hN.1.t2
 unfold csM
 rw [if_neg xq]
 by_cases hj : j = 0
 ·rw [if_pos hj]; omega
 rw [if_neg hj]
 have h4 := hN.2.2 xq (by have := hT xq; omega)
 omega
theorem cs_near {x : Nat → Rat} {m : Nat} {y : Rat} {j : Nat} (hy : 0 ≤ y ∧ y ≤ 8 / 5) (hj : 1 ≤ j) (hm : j ≤ m) : alt (csT y) j - csT y j ≤ alt (csT y) m ∧ alt (csT y) m ≤ alt (csT y) j + csT y j := by
 have hyy : y * y ≤ 12 := Rat.le_trans (mulm hy.2 hy.2 hy.1 hy.1) (by decide +kernel)
 exact alt_near (j0 := 1) (csT_nn _) (csT_le hyy) hj hm
theorem CsI.out (h : CsI p q w j tl th sl sh) (hq : CsQ p q w ql qh) (h0 : 0 < q) (hp : 2 * p ≤ q) (hj : 1 ≤ j) (ht : csH w j th qh ≤ 1) (hs : CsS w j tl th ql qh sl sh sl' sh') : CsR p q w (sl' - 1) (sh' + 1) := by
 obtain ⟨S1, S2⟩ := h.sum hq hs
 obtain ⟨M, h2⟩ := S1
 obtain ⟨N, h1⟩ := h.c.term hq
 have hU := u2_pos w
 have hL : 0 ≤ csL w j tl ql := fl_nn (fl_nn (Int.mul_nonneg h.c.t0 hq.2.2.1) hU) (by have := coD_pos j; omega)
 refine ⟨⟨max (max N M) (j + 2), fun m hm => ?_⟩, ?_⟩
 ·have hy := csY_b (m := m) h0 hp xq
  have hyy : csY p q m * csY p q m ≤ 12 := Rat.le_trans (mulm hy.2 hy.2 hy.1 hy.1) (by decide +kernel)
  have h3 := cs_near (x := fun _ => 0) (m := m) (j := j + 1 + 1) hy xq xq
  have h4 := csT_le hyy (j + 1) xq
  refine (h2 m xq).near h3.1 h3.2 ?_ hU
  have h5 := Rat.mul_le_mul_of_nonneg_right h4 (Rat.le_of_lt (castI_pos hU))
  have h6 : ((csH w j th qh : Int) : Rat) ≤ ((1 : Int) : Rat) := Rat.intCast_le_intCast.2 ht
  have e : ((1 : Int) : Rat) = 1 := rfl
  rw [e] at h6
  exact Rat.le_trans h5 (Rat.le_trans (h1 m xq).2 h6)
 have h6 := h.sw
 have h7 := h.c.jw
 have h8 := Int.mul_le_mul_of_nonneg_left (show (j : Int) + 1 ≤ (w : Int) + 4 by omega) (show 0 ≤ csW w by unfold csW; omega)
 rw [Int.mul_add] at h8
 have : 1 ≤ csW w := by unfold csW; omega
 omega
theorem cs_bd {N : Nat} {m : Nat} (h0 : 0 < q) (hp : 2 * p ≤ q) (hm : 1 ≤ m) (hj : 1 ≤ j) (h2 : Enc (u2 w) sl sh (alt (csT (csY p q m)) j)) : sl ≤ 3 * u2 w ∧ -(3 * u2 w) ≤ sh := by
 have hy := csY_b (m := m) h0 hp hm
 have h3 := cs_near (x := fun _ => 0) (j := 1) (m := j) hy xq xq
 have hyy := mulm hy.2 hy.2 hy.1 hy.1
 have e1 : alt (csT (csY p q m)) 1 = 1 := by show 0 + (1 : Rat) * 1 = 1; decide +kernel
 have h4 : csT (csY p q m) 1 ≤ 2 := by
  show 1 * (csY p q m * csY p q m) / (((2 * 0 + 2) * (2 * 0 + 1) : Nat) : Rat) ≤ 2
  refine dv_le (cast_pos xw) ?_
  rw [Rat.one_mul]
  exact Rat.le_trans hyy (by decide +kernel)
 rw [e1] at h3
 have hU := castI_pos (u2_pos w)
 have h5 : alt (csT (csY p q m)) j * (u2 w : Rat) ≤ ((3 * u2 w : Int) : Rat) := by
  rw [Rat.intCast_mul]
  refine Rat.mul_le_mul_of_nonneg_right ?_ (Rat.le_of_lt hU)
  have e : ((3 : Int) : Rat) = 3 := rfl
  rw [e]; grind
 have h6 : ((-(3 * u2 w) : Int) : Rat) ≤ alt (csT (csY p q m)) j * (u2 w : Rat) := by
  have e : -(3 * u2 w) = (-3) * u2 w := by omega
  rw [e, Rat.intCast_mul]
  refine Rat.mul_le_mul_of_nonneg_right ?_ (Rat.le_of_lt hU)
  have e : ((-3 : Int) : Rat) = -3 := rfl
  rw [e]; grind
 exact ⟨h2.lo_le h5, h2.le_hi h6⟩
theorem CsI.bd (h : CsI p q w j tl th sl sh) (h0 : 0 < q) (hp : 2 * p ≤ q) : -(csW w * ((w : Int) + 2)) - 3 * u2 w ≤ sl ∧ sl ≤ 3 * u2 w ∧ -(3 * u2 w) ≤ sh ∧ sh ≤ 3 * u2 w + csW w * ((w : Int) + 2) := by
 obtain ⟨N, h1⟩ := h.s
 have h2 := cs_bd (N := N) (m := N + 1) h0 hp xq xq (h1 (N + 1) xq)
 have h9 := h.sw
 have h10 := h.c.jw
 have h11 := Int.mul_le_mul_of_nonneg_left (show (j : Int) ≤ (w : Int) + 2 by omega) (show 0 ≤ csW w by unfold csW; omega)
 omega
end
def FlO (X : Nat → Rat) (b : Nat) (z : Int) : Prop := ∃ N : Nat, ∀ m, N ≤ m → (z : Rat) ≤ X m * (u2 b : Rat) ∧ X m * (u2 b : Rat) < ((z + 1 : Int) : Rat)
theorem FlO.uniq {X : Nat → Rat} {b : Nat} {y z : Int} (h : FlO X b y) (k : FlO X b z) : y = z := by
 obtain ⟨N, h⟩ := h
 obtain ⟨M, k⟩ := k
 have h1 := h (max N M) xq
 have k1 := k (max N M) xq
 have a := Rat.intCast_lt_intCast.1 (Std.lt_of_le_of_lt h1.1 k1.2)
 have c := Rat.intCast_lt_intCast.1 (Std.lt_of_le_of_lt k1.1 h1.2)
 omega
theorem FlO.of {X : Nat → Rat} {b w : Nat} {lo hi z : Int} (h : ∃ N : Nat, ∀ m, N ≤ m → Enc (u2 w) lo hi (X m)) (hb : b ≤ w) (h1 : lo / u2 (w - b) = z) (h2 : hi / u2 (w - b) = z) : FlO X b z := by
 obtain ⟨N, h⟩ := h
 refine ⟨N, fun m hm => ?_⟩
 have h3 := h m hm
 have hp := u2_pos (w - b)
 have e : u2 w = u2 b * u2 (w - b) := by rw [← u2_add, show b + (w - b) = w by omega]
 have k1 := (fl_mul (a := lo) hp).1
 have k2 := Int.lt_ediv_add_one_mul_self hi hp
 rw [h1] at k1
 rw [h2] at k2
 have r1 := Rat.intCast_le_intCast.2 k1
 have r2 := Rat.intCast_lt_intCast.2 k2
 rw [Rat.intCast_mul] at r1 r2
 obtain ⟨h4, h5⟩ := h3
 rw [e, Rat.intCast_mul, ← Rat.mul_assoc] at h4 h5
 refine ⟨Rat.le_of_mul_le_mul_right (Rat.le_trans r1 h4) (castI_pos hp), ?_⟩
 by_cases h6 : X m * (u2 b : Rat) < ((z + 1 : Int) : Rat)
 ·exact h6
 have h7 := Rat.mul_le_mul_of_nonneg_right (Rat.not_lt.1 h6) (Rat.le_of_lt (castI_pos hp))
 exact absurd (Std.lt_of_le_of_lt (Rat.le_trans h7 h5) r2) (by grind)
def Gap (X : Nat → Rat) (b g : Nat) : Prop := b ≤ g ∧ ∃ (z : Int) (N : Nat), ∀ m, N ≤ m → ((z * u2 (g - b) + 1 : Int) : Rat) ≤ X m * (u2 g : Rat) ∧ X m * (u2 g : Rat) ≤ ((z * u2 (g - b) + u2 (g - b) - 1 : Int) : Rat)
theorem Gap.decides {X : Nat → Rat} {b g w : Nat} {lo hi : Int} (h0 : Gap X b g) (h : ∃ N : Nat, ∀ m, N ≤ m → Enc (u2 w) lo hi (X m)) (hb : g ≤ w) (hw : hi - lo < u2 (w - g)) : lo / u2 (w - b) = hi / u2 (w - b) := by
 obtain ⟨hbg, z, N, g0⟩ := h0
 obtain ⟨M, h⟩ := h
 have g1 := g0 (max N M) xq
 have h1 := h (max N M) xq
 have e : u2 w = u2 g * u2 (w - g) := by rw [← u2_add, show g + (w - g) = w by omega]
 have e2 : u2 (w - b) = u2 (g - b) * u2 (w - g) := by rw [← u2_add, show g - b + (w - g) = w - b by omega]
 have hs := u2_pos (w - g)
 have hB := u2_pos (g - b)
 generalize u2 (w - g) = s at *
 generalize u2 (g - b) = B at *
 obtain ⟨h4, h5⟩ := h1
 rw [e, Rat.intCast_mul, ← Rat.mul_assoc] at h4 h5
 have r1 := Rat.mul_le_mul_of_nonneg_right g1.1 (Rat.le_of_lt (castI_pos hs))
 have r2 := Rat.mul_le_mul_of_nonneg_right g1.2 (Rat.le_of_lt (castI_pos hs))
 rw [← Rat.intCast_mul] at r1 r2
 have k1 := Rat.intCast_le_intCast.1 (Rat.le_trans r1 h5)
 have k2 := Rat.intCast_le_intCast.1 (Rat.le_trans h4 r2)
 have hS : 0 < B * s := Int.mul_pos hB hs
 have e3 : (z * B + 1) * s = z * (B * s) + s := by grind
 have e4 : (z * B + B - 1) * s = z * (B * s) + B * s - s := by grind
 rw [e3] at k1
 rw [e4] at k2
 have f : ∀ y : Int, z * (B * s) ≤ y → y < z * (B * s) + B * s → y / u2 (w - b) = z := fun y h1 h2 => by
  rw [e2]
  have a1 := Int.le_ediv_of_mul_le hS h1
  have a2 : y / (B * s) < z + 1 := Int.ediv_lt_of_lt_mul hS (by rw [Int.add_mul, Int.one_mul]; exact h2)
  omega
 have hle : lo ≤ hi := (h (max N M) xq).le
 rw [f lo xq xq, f hi xq xq]
theorem Gap.lower {X : Nat → Rat} {b c g : Nat} (h : Gap X b g) (hc : c ≤ b) : Gap X c g := by
 obtain ⟨hbg, z, N, h⟩ := h
 have e : u2 (g - c) = u2 (g - b) * u2 (b - c) := by rw [← u2_add, show g - b + (b - c) = g - c by omega]
 have hB := u2_pos (g - b)
 have hC := u2_pos (b - c)
 have h1 := (fl_mul (a := z) hC).1
 have h2 := Int.lt_ediv_add_one_mul_self z hC
 refine ⟨by omega, z / u2 (b - c), N, fun m hm => ?_⟩
 have h3 := h m hm
 rw [e]
 generalize z / u2 (b - c) = y at *
 generalize u2 (b - c) = C at *
 generalize u2 (g - b) = B at *
 refine ⟨Rat.le_trans (Rat.intCast_le_intCast.2 ?_) h3.1, Rat.le_trans h3.2 (Rat.intCast_le_intCast.2 ?_)⟩
 ·have := Int.mul_le_mul_of_nonneg_right h1 (Int.le_of_lt hB)
  have e2 : y * (B * C) = y * C * B := by grind
  omega
 have := Int.mul_le_mul_of_nonneg_right (show z + 1 ≤ (y + 1) * C by omega) (Int.le_of_lt hB)
 have e2 : y * (B * C) + B * C = (y + 1) * C * B := by grind
 rw [Int.add_mul] at this
 omega
theorem Gap.of {X : Nat → Rat} {b g w : Nat} {lo hi : Int} (h : ∃ N : Nat, ∀ m, N ≤ m → Enc (u2 w) lo hi (X m)) (z : Int) (hb : b ≤ g) (hg : g ≤ w) (h1 : (z * u2 (g - b) + 1) * u2 (w - g) ≤ lo) (h2 : hi ≤ (z * u2 (g - b) + u2 (g - b) - 1) * u2 (w - g)) : Gap X b g := by
 obtain ⟨N, h⟩ := h
 have e : u2 w = u2 g * u2 (w - g) := by rw [← u2_add, show g + (w - g) = w by omega]
 have hs := castI_pos (u2_pos (w - g))
 refine ⟨hb, z, N, fun m hm => ?_⟩
 obtain ⟨h4, h5⟩ := h m hm
 rw [e, Rat.intCast_mul, ← Rat.mul_assoc] at h4 h5
 have k1 := Rat.le_trans (Rat.intCast_le_intCast.2 h1) h4
 have k2 := Rat.le_trans h5 (Rat.intCast_le_intCast.2 h2)
 rw [Rat.intCast_mul] at k1 k2
 exact ⟨Rat.le_of_mul_le_mul_right k1 hs, Rat.le_of_mul_le_mul_right k2 hs⟩
end Nt
namespace Nt
theorem flr_div {z d : Int} (hd : 0 < d) : flr ((z : Rat) / (d : Rat)) = z / d := by
 obtain ⟨D, rfl⟩ : ∃ D : Nat, d = (D : Int) := ⟨d.toNat, by omega⟩
 rw [mk_div, flr_mk xq]
def flU (w : Nat) (x : Rat) : Int := flr (x * (u2 w : Rat))
def ceU (w : Nat) (x : Rat) : Int := -flr (-(x * (u2 w : Rat)))
theorem flU_eq {w : Nat} {x : Rat} {z d : Int} (hd : 0 < d) (h : x * (u2 w : Rat) = (z : Rat) / (d : Rat)) : flU w x = z / d := by unfold flU; rw [h, flr_div hd]
theorem ceU_eq {w : Nat} {x : Rat} {z d : Int} (hd : 0 < d) (h : x * (u2 w : Rat) = (z : Rat) / (d : Rat)) : ceU w x = cdiv z d := by
 unfold ceU cdiv
 have e : -((z : Rat) / (d : Rat)) = ((-z : Int) : Rat) / (d : Rat) := by rw [Rat.intCast_neg, Rat.div_def, Rat.div_def, Rat.neg_mul]
 rw [h, e, flr_div hd]
theorem flr_b (q : Rat) : ((flr q : Int) : Rat) ≤ q ∧ q < ((flr q + 1 : Int) : Rat) := by
 have hd : (0 : Int) < (q.den : Int) := by have := q.den_pos; omega
 have e : q = (q.num : Rat) / ((q.den : Int) : Rat) := by
  rw [mk_div]; exact (Rat.mkRat_self q).symm
 have h1 := (fl_mul (a := q.num) hd).1
 have h2 := Int.lt_ediv_add_one_mul_self q.num hd
 have hD := castI_pos hd
 have k1 := Rat.intCast_le_intCast.2 h1
 have k2 := Rat.intCast_lt_intCast.2 h2
 rw [Rat.intCast_mul] at k1 k2
 have e2 : (q.num : Rat) = q * ((q.den : Int) : Rat) := by
  have := div_mul_c (x := (q.num : Rat)) hD
  rw [← e] at this
  exact this.symm
 rw [e2] at k1 k2
 refine ⟨Rat.le_of_mul_le_mul_right k1 hD, ?_⟩
 by_cases h6 : q < ((flr q + 1 : Int) : Rat)
 ·exact h6
 have h7 := Rat.mul_le_mul_of_nonneg_right (Rat.not_lt.1 h6) (Rat.le_of_lt hD)
 exact absurd k2 (Rat.not_lt.2 h7)
theorem flU_b (w : Nat) (x : Rat) : ((flU w x : Int) : Rat) ≤ x * (u2 w : Rat) ∧ x * (u2 w : Rat) < ((flU w x + 1 : Int) : Rat) := flr_b _
theorem ceU_b (w : Nat) (x : Rat) : x * (u2 w : Rat) ≤ ((ceU w x : Int) : Rat) ∧ ((ceU w x - 1 : Int) : Rat) < x * (u2 w : Rat) := by
 have h := flr_b (-(x * (u2 w : Rat)))
 unfold ceU
 rw [Rat.intCast_add] at h
 have e : -flr (-(x * (u2 w : Rat))) - 1 = -(flr (-(x * (u2 w : Rat))) + 1) := by omega
 rw [e, Rat.intCast_neg, Rat.intCast_neg, Rat.intCast_add]
 have e1 : ((1 : Int) : Rat) = 1 := rfl
 rw [e1] at h ⊢
 constructor <;> grind
def gr (w : Nat) (a : Int) : Rat := (a : Rat) / (u2 w : Rat)
theorem gr_mul (w : Nat) (a : Int) : gr w a * (u2 w : Rat) = (a : Rat) := div_mul_c (castI_pos (u2_pos w))
theorem gr_mono {w : Nat} {a b : Int} (h : a ≤ b) : gr w a ≤ gr w b := div_mono (castI_pos (u2_pos w)) (Rat.intCast_le_intCast.2 h)
theorem gr_nn {w : Nat} {a : Int} (h : 0 ≤ a) : 0 ≤ gr w a := div_nn (Rat.intCast_le_intCast.2 h) (castI_pos (u2_pos w))
theorem gr_le {w : Nat} {a b : Int} : gr w a ≤ gr w b ↔ a ≤ b := by
 refine ⟨fun h => ?_, gr_mono⟩
 have := Rat.mul_le_mul_of_nonneg_right h (Rat.le_of_lt (castI_pos (u2_pos w)))
 rw [gr_mul, gr_mul] at this
 exact Rat.intCast_le_intCast.1 this
theorem gr_neg (w : Nat) (a : Int) : -gr w a = gr w (-a) := by unfold gr; rw [Rat.intCast_neg, Rat.div_def, Rat.div_def, Rat.neg_mul]
theorem gr_add (w : Nat) (a b : Int) : gr w a + gr w b = gr w (a + b) := by unfold gr; rw [Rat.intCast_add, Rat.div_def, Rat.div_def, Rat.div_def, Rat.add_mul]
theorem gr_sub (w : Nat) (a b : Int) : gr w a - gr w b = gr w (a - b) := by rw [Rat.sub_eq_add_neg, gr_neg, gr_add]; congr 1
theorem gr_int (w : Nat) (a c : Int) : (c : Rat) * gr w a = gr w (c * a) := by unfold gr; rw [Rat.intCast_mul, Rat.div_def, Rat.div_def, Rat.mul_assoc]
theorem gr_zero (w : Nat) : gr w 0 = 0 := by unfold gr; rw [Rat.div_def]; exact Rat.zero_mul _
theorem gr_one (w : Nat) : gr w (u2 w) = 1 := Rat.mul_inv_cancel _ (by have := castI_pos (u2_pos w); grind)
theorem lo4_pt {x y r : Rat} (h : x ≤ y) (hr : 0 ≤ r) : lo4 (x * r) (x * r) (y * r) (y * r) = x * r ∧ hi4 (x * r) (x * r) (y * r) (y * r) = y * r := by
 have h1 := Rat.mul_le_mul_of_nonneg_right h hr
 unfold lo4 hi4 lo hi
 generalize x * r = a at *
 generalize y * r = b at *
 grind
theorem lo4_nn {x y z t : Rat} (h : x ≤ y) (k : z ≤ t) (hx : 0 ≤ x) (hz : 0 ≤ z) : lo4 (x * z) (x * t) (y * z) (y * t) = x * z ∧ hi4 (x * z) (x * t) (y * z) (y * t) = y * t := by
 have h1 := Rat.mul_le_mul_of_nonneg_right h hz
 have h2 := Rat.mul_le_mul_of_nonneg_right h (Rat.le_trans hz k)
 have h3 := Rat.mul_le_mul_of_nonneg_left k hx
 have h4 := Rat.mul_le_mul_of_nonneg_left k (Rat.le_trans hx h)
 unfold lo4 hi4 lo hi
 generalize x * z = a at *
 generalize y * z = b at *
 generalize x * t = c at *
 generalize y * t = d at *
 grind
structure AtF (n w k : Nat) (a b c d : Int) : Prop where
 p : Enc (u2 w) a b (atP n k)
 s : Enc (u2 w) c d (alt (atT n) k)
 p0 : 0 ≤ a
 p1 : 1 ≤ b
 ab : a ≤ b
 pw : b - a ≤ 3
 sw : d - c ≤ 3 * (k : Int)
 cd : c ≤ d
 fall : b * u2 k ≤ u2 w
theorem AtF.start {n w : Nat} (hn : 0 < n) : AtF n w 0 (u2 w / (n : Int)) (cdiv (u2 w) (n : Int)) 0 0 := by
 have h := AtI.start (w := w) hn
 refine ⟨h.p, ?_, h.p0, h.p1, h.p.le, h.pw, by omega, by omega, h.fall⟩
 show ((0 : Int) : Rat) ≤ 0 * (u2 w : Rat) ∧ (0 : Rat) * (u2 w : Rat) ≤ ((0 : Int) : Rat)
 rw [Rat.zero_mul]
 exact ⟨Rat.le_refl, Rat.le_refl⟩
section
variable {n w k : Nat} {a b c d : Int}
theorem AtF.kw (h : AtF n w k a b c d) : k ≤ w := by
 refine u2_le_iff (Int.le_trans ?_ h.fall)
 have := Int.mul_le_mul_of_nonneg_right h.p1 (Int.le_of_lt (u2_pos k))
 omega
theorem AtF.term (h : AtF n w k a b c d) : Enc (u2 w) (a / ((2 * k + 1 : Nat) : Int)) (cdiv b ((2 * k + 1 : Nat) : Int)) (atT n k) := h.p.over (d := ((2 * k + 1 : Nat) : Int)) xq
theorem AtF.go {c' d' : Int} (h : AtF n w k a b c d) (hn : 2 ≤ n) (hb : ((2 * k + 1 : Nat) : Int) < b)
  (hs : k % 2 = 0 ∧ c' = c + a / ((2 * k + 1 : Nat) : Int) ∧ d' = d + cdiv b ((2 * k + 1 : Nat) : Int) ∨ ¬ k % 2 = 0 ∧ c' = c - cdiv b ((2 * k + 1 : Nat) : Int) ∧ d' = d - a / ((2 * k + 1 : Nat) : Int)) :
  AtF n w (k + 1) (a / ((n * n : Nat) : Int)) (cdiv b ((n * n : Nat) : Int)) c' d' ∧ cdiv b ((n * n : Nat) : Int) < b := by
 have hnn : 4 ≤ n * n := Nat.mul_le_mul hn hn
 have h0 := h.p1
 have h1 : 1 ≤ cdiv b ((n * n : Nat) : Int) := cd_ge (c := 0) xq xq
 have h3 := cd_self (b := b) (d := ((n * n : Nat) : Int)) xq xq
 have h4 := cd_half (b := b) (d := ((n * n : Nat) : Int)) xq xq
 have hp : Enc (u2 w) (a / ((n * n : Nat) : Int)) (cdiv b ((n * n : Nat) : Int)) (atP n (k + 1)) := h.p.over xq
 have ht := h.term
 have htw := w3 (a := a) (b := b) (d := ((2 * k + 1 : Nat) : Int)) h.pw xq
 have hsw := h.sw
 have hS : Enc (u2 w) c' d' (alt (atT n) (k + 1)) := by
  rcases hs with ⟨e, rfl, rfl⟩ | ⟨e, rfl, rfl⟩
  ·have e2 : alt (atT n) (k + 1) = alt (atT n) k + atT n k := by rw [alt_s]; unfold sgn; rw [if_pos e]; grind
   rw [e2]; exact h.s.add ht
  have e2 : alt (atT n) (k + 1) = alt (atT n) k - atT n k := by rw [alt_s]; unfold sgn; rw [if_neg e]; grind
  rw [e2]; exact h.s.sub ht
 refine ⟨⟨hp, hS, fl_nn h.p0 xq, h1, hp.le, w3 h.pw xq, by rcases hs with ⟨e, rfl, rfl⟩ | ⟨e, rfl, rfl⟩ <;> omega, hS.le, ?_⟩, by omega⟩
 have h5 : u2 (k + 1) = u2 k * 2 := u2_add k 1
 have h6 := Int.mul_le_mul_of_nonneg_right h4 (Int.le_of_lt (u2_pos k))
 have h7 := h.fall
 rw [h5]
 have e : cdiv b ((n * n : Nat) : Int) * (u2 k * 2) = 2 * cdiv b ((n * n : Nat) : Int) * u2 k := by grind
 rw [e]; omega
theorem AtF.out (h : AtF n w k a b c d) (hn : 0 < n) (hb : b ≤ ((2 * k + 1 : Nat) : Int)) : AtR n w (c - cdiv b ((2 * k + 1 : Nat) : Int)) (d + cdiv b ((2 * k + 1 : Nat) : Int)) := by
 have ht1 : cdiv b ((2 * k + 1 : Nat) : Int) ≤ 1 := cd_le xq xq
 have ht0 : 1 ≤ cdiv b ((2 * k + 1 : Nat) : Int) := cd_ge (c := 0) xq (by have := h.p1; omega)
 have e : cdiv b ((2 * k + 1 : Nat) : Int) = 1 := by omega
 refine ⟨⟨k, fun m hm => ?_⟩, by have := h.kw; have := h.sw; omega⟩
 have h1 := alt_near (j0 := 0) (atT_nn hn) (fun j _ => atT_le hn j) (Nat.zero_le _) hm
 rw [e]
 refine h.s.near h1.1 h1.2 ?_ (u2_pos w)
 have h2 := h.term.2
 rw [e] at h2
 exact h2
theorem AtF.bd (h : AtF n w k a b c d) (hn : 0 < n) : b ≤ u2 w ∧ -(3 * (w : Int)) ≤ c ∧ c ≤ u2 w ∧ 0 ≤ d ∧ d ≤ u2 w + 3 * (w : Int) := by
 have h3 : 0 ≤ alt (atT n) k ∧ alt (atT n) k ≤ 1 := by
  cases k with
  | zero => exact ⟨Rat.le_refl, by show (0 : Rat) ≤ 1; decide⟩
  | succ k =>
   have h1 := atT_b (n := n) hn (m := k + 1) xq
   have h2 := atT_le hn 0
   refine ⟨by grind, Rat.le_trans h1.2 ?_⟩
   refine Rat.le_trans (div_le_self (atP_nn hn 0) (cast_one xq)) ?_
   show 1 / (n : Rat) ≤ 1
   exact div_le_self xw (cast_one hn)
 have hU := castI_pos (u2_pos w)
 have h4 : alt (atT n) k * (u2 w : Rat) ≤ (u2 w : Rat) := by
  have := Rat.mul_le_mul_of_nonneg_right h3.2 (Rat.le_of_lt hU)
  rwa [Rat.one_mul] at this
 have h5 := h.s.lo_le h4
 have h6 := h.s.nonneg h3.1 (u2_pos w)
 have h7 := h.sw
 have h8 := h.kw
 have h9 := h.fall
 have h10 := Int.mul_le_mul_of_nonneg_left (show 1 ≤ u2 k by have := u2_pos k; omega) (show 0 ≤ b by have := h.p1; omega)
 refine ⟨by omega, by omega, h5, h6, by omega⟩
end
theorem CsQ.ofR {p q w : Nat} {a b : Int} (h : PiR w a b) (hw : 16 ≤ w) (hq : 0 < q) (hp : 2 * p ≤ q) (hp1 : 1 ≤ p) :
  CsQ p q w (flU w (gr w a * ((p : Rat) / (q : Rat)) * (gr w a * ((p : Rat) / (q : Rat))))) (ceU w (gr w b * ((p : Rat) / (q : Rat)) * (gr w b * ((p : Rat) / (q : Rat))))) ∧ 0 ≤ gr w a * ((p : Rat) / (q : Rat)) ∧ gr w a * ((p : Rat) / (q : Rat)) ≤ gr w b * ((p : Rat) / (q : Rat)) ∧ 0 < gr w b * ((p : Rat) / (q : Rat)) := by
 obtain ⟨h0, h4, hab, hb1⟩ := h.bd hw
 obtain ⟨⟨N, h1⟩, h2⟩ := h
 have l8 := lin8 w hw
 have hU := u2_pos w
 have hUr := castI_pos hU
 have hq' := cast_pos hq
 have hp' := cast_pos hp1
 have aa : (0 : Rat) < (p : Rat) / (q : Rat) := by
  rw [Rat.div_def]; exact Rat.mul_pos hp' (Rat.inv_pos.2 hq')
 have ac : (p : Rat) / (q : Rat) ≤ 1 / 2 := by
  refine dv_le hq' ?_
  have h2 : ((2 * p : Nat) : Rat) ≤ (q : Rat) := Rat.natCast_le_natCast.2 hp
  rw [Rat.natCast_mul] at h2
  have e2 : ((2 : Nat) : Rat) = 2 := rfl
  rw [e2] at h2
  grind
 have hya : ∀ m, N ≤ m → gr w a * ((p : Rat) / (q : Rat)) ≤ csY p q m ∧ csY p q m ≤ gr w b * ((p : Rat) / (q : Rat)) := fun m hm => by
  have h3 := h1 m hm
  have e : csY p q m = piN m * ((p : Rat) / (q : Rat)) := by unfold csY; rw [Rat.div_def, Rat.div_def, Rat.mul_assoc]
  have f1 : gr w a ≤ piN m := dv_le hUr h3.1
  have f2 : piN m ≤ gr w b := le_dv hUr h3.2
  rw [e]
  exact ⟨Rat.mul_le_mul_of_nonneg_right f1 (Rat.le_of_lt aa), Rat.mul_le_mul_of_nonneg_right f2 (Rat.le_of_lt aa)⟩
 have hgb : gr w b ≤ 4 := by
  refine dv_le hUr ?_
  have := Rat.intCast_le_intCast.2 h4
  rw [Rat.intCast_mul] at this
  exact this
 have hgw : (gr w b - gr w a) * (u2 w : Rat) ≤ ((128 * (w : Int) + 400 : Int) : Rat) := by
  rw [gr_sub, gr_mul]; exact Rat.intCast_le_intCast.2 h2
 have hga := gr_nn (w := w) h0
 have hgab := gr_mono (w := w) hab
 have ab : 0 < gr w b := by
  unfold gr; rw [Rat.div_def]; exact Rat.mul_pos (castI_pos xq) (Rat.inv_pos.2 hUr)
 generalize (p : Rat) / (q : Rat) = r at *
 have x0 : 0 ≤ gr w a * r := Rat.mul_nonneg hga (Rat.le_of_lt aa)
 have xy : gr w a * r ≤ gr w b * r := Rat.mul_le_mul_of_nonneg_right hgab (Rat.le_of_lt aa)
 have y2 : gr w b * r ≤ 2 := by
  have := mulm hgb ac (Rat.le_of_lt ab) (Rat.le_of_lt aa)
  refine Rat.le_trans this (by decide +kernel)
 have yp : 0 < gr w b * r := Rat.mul_pos ab aa
 have hxw : (gr w b * r - gr w a * r) * (u2 w : Rat) ≤ ((128 * (w : Int) + 400 : Int) : Rat) := by
  have e : (gr w b * r - gr w a * r) * (u2 w : Rat) = (gr w b - gr w a) * (u2 w : Rat) * r := by grind
  rw [e]
  have hn : 0 ≤ (gr w b - gr w a) * (u2 w : Rat) := Rat.mul_nonneg (by grind) (Rat.le_of_lt hUr)
  have k1 := Rat.mul_le_mul_of_nonneg_left (c := (gr w b - gr w a) * (u2 w : Rat)) (show r ≤ 1 by
   refine Rat.le_trans ac (by decide +kernel)) hn
  rw [Rat.mul_one] at k1
  exact Rat.le_trans k1 hgw
 refine ⟨?_, x0, xy, yp⟩
 generalize gr w a * r = x at *
 generalize gr w b * r = y at *
 have f1 := flU_b w (x * x)
 have f2 := ceU_b w (y * y)
 have ad : 0 ≤ x * x := Rat.mul_nonneg x0 x0
 have E : ∀ m, N ≤ m → Enc (u2 w) (flU w (x * x)) (ceU w (y * y)) (csY p q m * csY p q m) := fun m hm => by
  obtain ⟨g1, g2⟩ := hya m hm
  have k1 := mulm g1 g1 x0 x0
  have k2 := mulm g2 g2 (Rat.le_trans x0 g1) (Rat.le_trans x0 g1)
  exact ⟨Rat.le_trans f1.1 (Rat.mul_le_mul_of_nonneg_right k1 (Rat.le_of_lt hUr)), Rat.le_trans (Rat.mul_le_mul_of_nonneg_right k2 (Rat.le_of_lt hUr)) f2.1⟩
 have hyy : (y * y - x * x) * (u2 w : Rat) ≤ 4 * ((128 * (w : Int) + 400 : Int) : Rat) := by
  have e : (y * y - x * x) * (u2 w : Rat) = (y - x) * (u2 w : Rat) * (y + x) := by grind
  rw [e]
  have hn : 0 ≤ (y - x) * (u2 w : Rat) := Rat.mul_nonneg (by grind) (Rat.le_of_lt hUr)
  have k1 := Rat.mul_le_mul_of_nonneg_left (c := (y - x) * (u2 w : Rat)) (show y + x ≤ 4 by grind) hn
  grind
 refine ⟨⟨N, E⟩, ?_, ?_, ?_, (E N (Nat.le_refl _)).le, ?_⟩
 ·have g : ((ceU w (y * y) - 1 - (flU w (x * x) + 1) : Int) : Rat) < ((4 * (128 * (w : Int) + 400) : Int) : Rat) := by
   rw [Rat.intCast_sub, Rat.intCast_mul]
   have e4 : ((4 : Int) : Rat) = 4 := rfl
   rw [e4]
   have := f1.2
   have := f2.2
   grind
  have := Rat.intCast_lt_intCast.1 g
  omega
 ·have g : ((0 : Int) : Rat) < ((flU w (x * x) + 1 : Int) : Rat) := Std.lt_of_le_of_lt (Rat.mul_nonneg ad (Rat.le_of_lt hUr)) f1.2
  have := Rat.intCast_lt_intCast.1 g
  omega
 ·have k1 : y * y ≤ 4 := by
   have := mulm y2 y2 (Rat.le_of_lt yp) (Rat.le_of_lt yp)
   refine Rat.le_trans this (by decide +kernel)
  have k2 := Rat.mul_le_mul_of_nonneg_right k1 (Rat.le_of_lt hUr)
  have g : ((ceU w (y * y) - 1 : Int) : Rat) < ((4 * u2 w : Int) : Rat) := by
   rw [Rat.intCast_mul]
   exact Std.lt_of_lt_of_le f2.2 k2
  have := Rat.intCast_lt_intCast.1 g
  omega
 have g : ((0 : Int) : Rat) < ((ceU w (y * y) : Int) : Rat) := Std.lt_of_lt_of_le (Rat.mul_pos (Rat.mul_pos yp yp) hUr) f2.1
 have := Rat.intCast_lt_intCast.1 g
 omega
theorem cdiv_cdiv {a b d : Int} (hb : 0 < b) (hd : 0 < d) : cdiv (cdiv a b) d = cdiv a (b * d) := by
 unfold cdiv
 rw [Int.neg_neg, Int.ediv_ediv_of_nonneg xq]
structure CsF (p q w k : Nat) (tl th c d : Int) : Prop where
 t : CsT p q w k tl th
 s : ∃ N : Nat, ∀ m, N ≤ m → Enc (u2 w) c d (alt (csT (csY p q m)) k)
 sw : d - c ≤ csW w * (k : Int)
 cd : c ≤ d
theorem CsF.start {p q w : Nat} : CsF p q w 0 (u2 w) (u2 w) 0 0 := by
 refine ⟨CsT.start, ⟨0, fun m _ => ?_⟩, by omega, by omega⟩
 show ((0 : Int) : Rat) ≤ 0 * (u2 w : Rat) ∧ (0 : Rat) * (u2 w : Rat) ≤ ((0 : Int) : Rat)
 rw [Rat.zero_mul]
 exact ⟨Rat.le_refl, Rat.le_refl⟩
def csMF (w k : Nat) (th : Int) : Nat := if k = 0 then (2 * u2 w).toNat + 2 else if k = 1 then (2 * u2 w).toNat + 1 else th.toNat
section
variable {p q w k : Nat} {tl th c d ql qh c' d' : Int}
theorem CsF.go (h : CsF p q w k tl th c d) (hq : CsQ p q w ql qh) (ht : k ≤ 1 ∨ 2 ≤ th)
  (hs : k % 2 = 0 ∧ c' = c + tl ∧ d' = d + th ∨ ¬ k % 2 = 0 ∧ c' = c - th ∧ d' = d - tl) :
  CsF p q w (k + 1) (csL w k tl ql) (csH w k th qh) c' d' ∧ csMF w (k + 1) (csH w k th qh) < csMF w k th := by
 have htw := h.t.tw
 have hsw := h.sw
 have htt := h.t.tt
 have ht2 := h.t.t2
 have hU := u2_pos w
 obtain ⟨N, h1⟩ := h.t.e
 obtain ⟨M, h2⟩ := h.s
 have hS : ∀ m, max N M ≤ m → Enc (u2 w) c' d' (alt (csT (csY p q m)) (k + 1)) := fun m hm => by
  rcases hs with ⟨e, rfl, rfl⟩ | ⟨e, rfl, rfl⟩
  ·have e2 : alt (csT (csY p q m)) (k + 1) = alt (csT (csY p q m)) k + csT (csY p q m) k := by rw [alt_s]; unfold sgn; rw [if_pos e]; grind
   rw [e2]; exact (h2 m xq).add (h1 m xq)
  have e2 : alt (csT (csY p q m)) (k + 1) = alt (csT (csY p q m)) k - csT (csY p q m) k := by rw [alt_s]; unfold sgn; rw [if_neg e]; grind
  rw [e2]; exact (h2 m xq).sub (h1 m xq)
 have e3 : csW w * (((k + 1 : Nat)) : Int) = csW w * (k : Int) + csW w := by rw [Int.natCast_add, Int.mul_add]; simp
 obtain ⟨n1, n2, n3⟩ := h.t.next hq ht
 refine ⟨⟨n1, ⟨_, hS⟩, by rw [e3]; rcases hs with ⟨e, rfl, rfl⟩ | ⟨e, rfl, rfl⟩ <;> omega, (hS _ (Nat.le_refl _)).le⟩, ?_⟩
 have n1t2 := n1.t2
 have n1t1 := n1.t1
 unfold csMF
 rw [if_neg xq]
 rcases Nat.lt_or_ge k 1 with hk | hk
 ·rw [if_pos (show k + 1 = 1 by omega), if_pos (show k = 0 by omega)]; omega
 rw [if_neg (show ¬ k + 1 = 1 by omega), if_neg (show ¬ k = 0 by omega)]
 have := n2 hk
 by_cases hk1 : k = 1
 ·rw [if_pos hk1]; omega
 rw [if_neg hk1]
 have := n3 hk xq
 omega
theorem CsF.out (h : CsF p q w k tl th c d) (h0 : 0 < q) (hp : 2 * p ≤ q) (hk : 1 < k) (ht : th ≤ 1) : CsR p q w (c - th) (d + th) := by
 obtain ⟨N, h1⟩ := h.t.e
 obtain ⟨M, h2⟩ := h.s
 have hU := u2_pos w
 have e : th = 1 := by have := h.t.t1; omega
 subst e
 refine ⟨⟨max (max N M) (k + 1), fun m hm => ?_⟩, ?_⟩
 ·have hy := csY_b (m := m) h0 hp xq
  have h3 := cs_near (x := fun _ => 0) (m := m) (j := k) hy xq xq
  exact (h2 m xq).near h3.1 h3.2 (h1 m xq).2 hU
 have h6 := h.sw
 have h7 := h.t.jw
 have h8 := Int.mul_le_mul_of_nonneg_left (show (k : Int) ≤ (w : Int) + 4 by omega) (show 0 ≤ csW w by unfold csW; omega)
 omega
theorem CsF.bd (h : CsF p q w k tl th c d) (h0 : 0 < q) (hp : 2 * p ≤ q) : -(csW w * ((w : Int) + 2)) - 3 * u2 w ≤ c ∧ c ≤ 3 * u2 w ∧ -(3 * u2 w) ≤ d ∧ d ≤ 3 * u2 w + csW w * ((w : Int) + 2) := by
 obtain ⟨N, h1⟩ := h.s
 have hU := u2_pos w
 have h9 := h.sw
 have h10 := h.t.jw
 have h11 := Int.mul_le_mul_of_nonneg_left (show (k : Int) ≤ (w : Int) + 2 by omega) (show 0 ≤ csW w by unfold csW; omega)
 by_cases hk : k = 0
 ·subst hk
  have h2 := h1 N (Nat.le_refl _)
  have e : alt (csT (csY p q N)) 0 = 0 := rfl
  rw [e] at h2
  have a := h2.lo_le (c := 0) (by rw [Rat.zero_mul]; exact Rat.le_refl)
  have b := h2.le_hi (c := 0) (by rw [Rat.zero_mul]; exact Rat.le_refl)
  omega
 have h2 := cs_bd (N := N) (m := N + 1) h0 hp xq xq (h1 (N + 1) xq)
 omega
end
theorem flr_gr {b w : Nat} {a : Int} (h : b ≤ w) : flr (gr w a * (((2 ^ b : Nat) : Int) : Rat)) = a / u2 (w - b) := by
 have e : u2 w = u2 b * u2 (w - b) := by rw [← u2_add, show b + (w - b) = w by omega]
 have hb := castI_pos (u2_pos b)
 have hs := castI_pos (u2_pos (w - b))
 rw [show (((2 ^ b : Nat) : Int) : Rat) = (u2 b : Rat) from rfl, ← flr_div (u2_pos (w - b))]
 congr 1
 unfold gr
 rw [e, Rat.intCast_mul]
 generalize (u2 b : Rat) = x at *
 generalize (u2 (w - b) : Rat) = y at *
 have hx : x ≠ 0 := by grind
 have hy : y ≠ 0 := by grind
 grind
end Nt
open Go.RowKit
namespace Nt
def nrZ (q : Rat) (k : Nat) : Int := flr (q * ((2 ^ k : Nat) : Rat) + 1 / 2)
theorem nr_mk {z : Int} {D k : Nat} (hD : 0 < D) : mkRat ((z * ((2 ^ (k + 1) : Nat) : Int) + (D : Int)) / ((D * 2 ^ 1 : Nat) : Int)) (2 ^ k) = gr k (nrZ (mkRat z D) k) := by
 have e : mkRat z D * ((2 ^ k : Nat) : Rat) + 1 / 2 = mkRat (z * ((2 ^ (k + 1) : Nat) : Int) + (D : Int)) (D * 2 ^ 1) := by
  rw [shl_mk, ← mk_div, ← mk_div, Rat.intCast_add, Rat.intCast_mul, Rat.intCast_mul]
  have hd := cast_pos hD
  have h2 : (((D * 2 ^ 1 : Nat) : Int) : Rat) = 2 * (D : Rat) := by
   have : (((D * 2 ^ 1 : Nat) : Int) : Rat) = ((D * 2 : Nat) : Rat) := rfl
   rw [this, Rat.natCast_mul]
   have e2 : ((2 : Nat) : Rat) = 2 := rfl
   rw [e2]; grind
  have h3 : (((2 ^ (k + 1) : Nat) : Int) : Rat) = 2 * (((2 ^ k : Nat) : Int) : Rat) := by
   have : (((2 ^ (k + 1) : Nat) : Int) : Rat) = ((2 ^ k * 2 : Nat) : Rat) := rfl
   rw [this, Rat.natCast_mul]
   have e2 : ((2 : Nat) : Rat) = 2 := rfl
   have e3 : (((2 ^ k : Nat) : Int) : Rat) = ((2 ^ k : Nat) : Rat) := rfl
   rw [e2, e3]; grind
  have h4 : ((D : Int) : Rat) = (D : Rat) := rfl
  rw [h2, h3, h4]
  have hd' : (D : Rat) ≠ 0 := by grind
  grind
 unfold nrZ
 rw [e, flr_mk (Nat.mul_pos hD xw), ← mk_div]
 rfl
theorem flr_half (z : Int) : flr ((z : Rat) + 1 / 2) = z := by
 have h := flr_b ((z : Rat) + 1 / 2)
 obtain ⟨h1, h2⟩ := h
 have e1 : ((flr ((z : Rat) + 1 / 2) : Int) : Rat) < ((z + 1 : Int) : Rat) := by rw [Rat.intCast_add]; have : ((1 : Int) : Rat) = 1 := rfl; rw [this]; grind
 have e2 : ((z : Int) : Rat) < ((flr ((z : Rat) + 1 / 2) + 1 : Int) : Rat) := by grind
 have k1 := Rat.intCast_lt_intCast.1 e1
 have k2 := Rat.intCast_lt_intCast.1 e2
 omega
theorem nr_gr (z : Int) (k : Nat) : flr (gr k z * (((2 ^ k : Nat) : Int) : Rat) + ((1 : Int) : Rat) / ((2 : Int) : Rat)) = z := by
 have h := gr_mul k z
 have e : (u2 k : Rat) = (((2 ^ k : Nat) : Int) : Rat) := rfl
 rw [e] at h
 rw [h]
 exact flr_half z
def coZ (x y : Rat) (k : Nat) : Int := nrZ ((x + y) * (((1 : Int) : Rat) / ((2 : Int) : Rat))) k
theorem digits_small {N : Nat} (h0 : 0 < N) (h1 : N < 4294967296) : digits N = [(N : Int)] := by
 rw [digits, if_neg xq, show N / 4294967296 = 0 by omega, zxa, show N % 4294967296 = N by omega]
end Nt
theorem NatN.one_len {u : World} {x : Sl} {N K : Nat} (h : NatN u x N K) (h1 : N < 4294967296) : x.n = if N = 0 then 0 else 1 := by
 rw [h.1]
 split
 ·rename_i e; subst e; exact Nt.dl_zero
 rename_i e
 unfold dl
 rw [Nt.digits_small xq h1]; rfl
theorem NatN.one_cell {u : World} {x : Sl} {N K : Nat} (h : NatN u x N K) (h0 : 0 < N) (h1 : N < 4294967296) : ∃ b o, x.a = some ⟨b, o, none⟩ ∧ u.cell? ⟨b, o + 0 * 1, none⟩ = some (.int .u32 (N : Int)) := by
 have hn := h.one_len h1
 rw [if_neg xq] at hn
 have h2 := h.2.1
 rw [Nt.digits_small h0 h1] at h2
 obtain ⟨b, o, e, hc⟩ := ints_at h2 (i := 0) xq
 exact ⟨b, o, e, hc⟩
end Go.Proofs.YtbolmkfphieogaaGreat
namespace Go.Proofs.YtbolmkfphieogaaGreat
namespace Nt
def force {α : Type} (n : Nat) (k : Nat → α) : α := Nat.rec (k 0) (fun m _ => k (m + 1)) n
theorem force_eq {α : Type} (n : Nat) (k : Nat → α) : force n k = k n := by cases n <;> rfl
def cdn (a d : Nat) : Nat := (a + d - 1) / d
theorem cdn_cdiv {a d : Nat} (hd : 0 < d) : ((cdn a d : Nat) : Int) = cdiv (a : Int) (d : Int) := by
 have h1 := cd_mul (b := (a : Int)) (d := (d : Int)) xq
 have h2 := Nat.div_mul_le_self (a + d - 1) d
 have h3 := Nat.lt_div_mul_add (a := a + d - 1) hd
 have e : cdn a d = (a + d - 1) / d := rfl
 rw [← e] at h2 h3
 have k1 : ((cdn a d : Nat) : Int) * (d : Int) < (cdiv (a : Int) (d : Int) + 1) * (d : Int) := by
  rw [Int.add_mul, ← Int.natCast_mul]; omega
 have k2 : cdiv (a : Int) (d : Int) * (d : Int) < (((cdn a d : Nat) : Int) + 1) * (d : Int) := by
  rw [Int.add_mul, ← Int.natCast_mul]; omega
 have k3 := Int.lt_of_mul_lt_mul_right k1 xq
 have k4 := Int.lt_of_mul_lt_mul_right k2 xq
 omega
def sumAB (a : Nat → Rat) : Nat → Rat × Rat
 | 0 => (0, 0)
 | n + 1 => ((sumAB a n).2, (sumAB a n).1 + a n)
theorem alt_AB (a : Nat → Rat) (n : Nat) : alt a n = sgn n * ((sumAB a n).1 - (sumAB a n).2) := by
 induction n with
 | zero => show (0 : Rat) = 1 * (0 - 0); decide +kernel
 | succ n ih =>
  rw [alt_s, ih, sgn_s]
  show _ = -sgn n * ((sumAB a n).2 - ((sumAB a n).1 + a n))
  grind
structure EvS where
 (l h el eh ol oh : Nat)
def EvI (U : Int) (a t : Nat → Rat) (k : Nat) (s : EvS) : Prop := Enc U (s.l : Int) (s.h : Int) (t k) ∧ Enc U (s.el : Int) (s.eh : Int) (sumAB a k).1 ∧ Enc U (s.ol : Int) (s.oh : Int) (sumAB a k).2
def atEv (nn : Nat) (r : Nat) : Nat → Nat → Nat → Nat → Nat → Nat → Nat → EvS :=
 Nat.rec (fun _ l h el eh ol oh => ⟨l, h, el, eh, ol, oh⟩)
  (fun _ ih k l h el eh ol oh =>
   force (l / nn) fun l' => force (cdn h nn) fun h' => force (2 * k + 1) fun d => force (l / d) fun tl => force (cdn h d) fun th =>
   force (el + tl) fun el' => force (eh + th) fun eh' => ih (k + 1) l' h' ol oh el' eh') r
theorem Enc.overN {U : Int} {a b d : Nat} {x : Rat} (h : Enc U (a : Int) (b : Int) x) (hd : 0 < d) : Enc U ((a / d : Nat) : Int) ((cdn b d : Nat) : Int) (x / (d : Rat)) := by
 rw [cdn_cdiv hd]
 exact h.over (d := (d : Int)) xq
theorem atEv_ok {n : Nat} (hn : 0 < n) {U : Int} : ∀ r k l h el eh ol oh, EvI U (atT n) (atP n) k ⟨l, h, el, eh, ol, oh⟩ → EvI U (atT n) (atP n) (k + r) (atEv (n * n) r k l h el eh ol oh) := by
 intro r
 induction r with
 | zero => intro k l h el eh ol oh hi; exact hi
 | succ r ih =>
  intro k l h el eh ol oh hi
  obtain ⟨h1, h2, h3⟩ := hi
  have t : Enc U ((l / (2 * k + 1) : Nat) : Int) ((cdn h (2 * k + 1) : Nat) : Int) (atT n k) := h1.overN xq
  have p : Enc U ((l / (n * n) : Nat) : Int) ((cdn h (n * n) : Nat) : Int) (atP n (k + 1)) := h1.overN (Nat.mul_pos hn hn)
  have e0 : atEv (n * n) (r + 1) k l h el eh ol oh = force (l / (n * n)) fun l' => force (cdn h (n * n)) fun h' => force (2 * k + 1) fun d => force (l / d) fun tl => force (cdn h d) fun th => force (el + tl) fun el' => force (eh + th) fun eh' => atEv (n * n) r (k + 1) l' h' ol oh el' eh' := rfl
  have e : atEv (n * n) (r + 1) k l h el eh ol oh = atEv (n * n) r (k + 1) (l / (n * n)) (cdn h (n * n)) ol oh (el + l / (2 * k + 1)) (eh + cdn h (2 * k + 1)) := by
   rw [e0]; simp only [force_eq]
  rw [show k + (r + 1) = k + 1 + r by omega, e]
  exact ih (k + 1) _ _ _ _ _ _ ⟨p, h3, h2.add t⟩
theorem ev_late {U : Int} {a : Nat → Rat} {k j0 e : Nat} {s : EvS} (hU : 0 < U) (h0 : ∀ j, 0 ≤ a j) (hd : ∀ j, j0 ≤ j → a (j + 1) ≤ a j) (hk : j0 ≤ k) (hk2 : k % 2 = 0) (h1 : Enc U (s.el : Int) (s.eh : Int) (sumAB a k).1) (h2 : Enc U (s.ol : Int) (s.oh : Int) (sumAB a k).2) (he : a k * (U : Rat) ≤ (e : Rat)) : ∀ m, k ≤ m → Enc U ((s.el : Int) - (s.oh : Int) - (e : Int)) ((s.eh : Int) - (s.ol : Int) + (e : Int)) (alt a m) := by
 intro m hm
 have h3 := alt_near h0 hd hk hm
 have h4 := h1.sub h2
 have e4 : (sumAB a k).1 - (sumAB a k).2 = alt a k := by
  rw [alt_AB]; unfold sgn; rw [if_pos hk2, Rat.one_mul]
 rw [e4] at h4
 obtain ⟨g1, g2⟩ := h4
 have hUr := Rat.le_of_lt (castI_pos hU)
 have k3 := Rat.mul_le_mul_of_nonneg_right h3.1 hUr
 have k4 := Rat.mul_le_mul_of_nonneg_right h3.2 hUr
 have ee : (((e : Nat) : Int) : Rat) = (e : Rat) := rfl
 unfold Enc
 rw [Rat.intCast_sub ((s.el : Int) - (s.oh : Int)), Rat.intCast_add, ee]
 constructor <;> grind
def atB (n w r : Nat) : Int × Int :=
 let x := atEv (n * n) r 0 (2 ^ w / n) (cdn (2 ^ w) n) 0 0 0 0
 ((x.el : Int) - (x.oh : Int) - (x.h : Int), (x.eh : Int) - (x.ol : Int) + (x.h : Int))
theorem Enc.zero (U : Int) : Enc U ((0 : Nat) : Int) ((0 : Nat) : Int) 0 := by
 show ((0 : Int) : Rat) ≤ 0 * (U : Rat) ∧ (0 : Rat) * (U : Rat) ≤ ((0 : Int) : Rat)
 rw [Rat.zero_mul]
 exact ⟨Rat.le_refl, Rat.le_refl⟩
theorem atB_ok {n w r : Nat} (hn : 0 < n) (hr : r % 2 = 0) : ∀ m, r ≤ m → Enc (u2 w) (atB n w r).1 (atB n w r).2 (alt (atT n) m) := by
 have h1 : Enc (u2 w) ((2 ^ w / n : Nat) : Int) ((cdn (2 ^ w) n : Nat) : Int) (atP n 0) := Enc.overN (a := 2 ^ w) (b := 2 ^ w) Enc.one hn
 obtain ⟨e2, e3, e4⟩ := atEv_ok hn (U := u2 w) r 0 _ _ _ _ _ _ ⟨h1, Enc.zero _, Enc.zero _⟩
 rw [Nat.zero_add] at e2 e3 e4
 intro m hm
 refine ev_late (u2_pos w) (atT_nn hn) (fun j _ => atT_le hn j) (Nat.zero_le _) hr e3 e4 ?_ m hm
 have hle : atT n r ≤ atP n r := div_le_self (atP_nn hn r) (cast_one xq)
 exact Rat.le_trans (Rat.mul_le_mul_of_nonneg_right hle (Rat.le_of_lt (castI_pos (u2_pos w)))) e2.2
def piB (w r s : Nat) : Int × Int :=
 let a := atB 5 w r
 let b := atB 239 w s
 (a.1 * 16 - b.2 * 4, a.2 * 16 - b.1 * 4)
theorem piB_ok {w r s : Nat} (hr : r % 2 = 0) (hs : s % 2 = 0) : ∀ m, r + s ≤ m → Enc (u2 w) (piB w r s).1 (piB w r s).2 (piN m) := by
 intro m hm
 have e := ((atB_ok (n := 5) (w := w) xw hr m xq).times (n := 16)).sub ((atB_ok (n := 239) (w := w) xw hs m xq).times (n := 4))
 have e2 : piN m = alt (atT 5) m * ((16 : Nat) : Rat) - alt (atT 239) m * ((4 : Nat) : Rat) := by
  unfold piN
  rw [Rat.mul_comm, Rat.mul_comm 4]; rfl
 rw [e2]; exact e
def csEv (U ql qh r : Nat) : Nat → Nat → Nat → Nat → Nat → Nat → Nat → EvS :=
 Nat.rec (fun _ l h el eh ol oh => ⟨l, h, el, eh, ol, oh⟩)
  (fun _ ih k l h el eh ol oh =>
   force ((2 * k + 2) * (2 * k + 1)) fun d => force (l * ql / U / d) fun l' => force (cdn (cdn (h * qh) U) d) fun h' =>
   force (el + l) fun el' => force (eh + h) fun eh' => ih (k + 1) l' h' ol oh el' eh') r
theorem Enc.prodN {U a b c d : Nat} {x y : Rat} (hU : 0 < U) (h : Enc (U : Int) (a : Int) (b : Int) x) (k : Enc (U : Int) (c : Int) (d : Int) y) : Enc (U : Int) ((a * c / U : Nat) : Int) ((cdn (b * d) U : Nat) : Int) (x * y) := by
 rw [cdn_cdiv hU]
 exact h.prod k xq xq xq
theorem csEv_ok {U ql qh : Nat} (hU : 0 < U) {y : Rat} (hq : Enc (U : Int) (ql : Int) (qh : Int) (y * y)) : ∀ r k l h el eh ol oh, EvI (U : Int) (csT y) (csT y) k ⟨l, h, el, eh, ol, oh⟩ → EvI (U : Int) (csT y) (csT y) (k + r) (csEv U ql qh r k l h el eh ol oh) := by
 intro r
 induction r with
 | zero => intro k l h el eh ol oh hi; exact hi
 | succ r ih =>
  intro k l h el eh ol oh hi
  obtain ⟨h1, h2, h3⟩ := hi
  have p : Enc (U : Int) ((l * ql / U / ((2 * k + 2) * (2 * k + 1)) : Nat) : Int) ((cdn (cdn (h * qh) U) ((2 * k + 2) * (2 * k + 1)) : Nat) : Int) (csT y (k + 1)) := (Enc.prodN hU h1 hq).overN (Nat.mul_pos xq xq)
  have e0 : csEv U ql qh (r + 1) k l h el eh ol oh = force ((2 * k + 2) * (2 * k + 1)) fun d => force (l * ql / U / d) fun l' => force (cdn (cdn (h * qh) U) d) fun h' => force (el + l) fun el' => force (eh + h) fun eh' => csEv U ql qh r (k + 1) l' h' ol oh el' eh' := rfl
  have e : csEv U ql qh (r + 1) k l h el eh ol oh = csEv U ql qh r (k + 1) (l * ql / U / ((2 * k + 2) * (2 * k + 1))) (cdn (cdn (h * qh) U) ((2 * k + 2) * (2 * k + 1))) ol oh (el + l) (eh + h) := by
   rw [e0]; simp only [force_eq]
  rw [show k + (r + 1) = k + 1 + r by omega, e]
  exact ih (k + 1) _ _ _ _ _ _ ⟨p, h3, h2.add h1⟩
def csX (U pl ph r p q : Nat) : EvS :=
 force (pl * p / q) fun yl => force (cdn (ph * p) q) fun yh => force (yl * yl / U) fun ql => force (cdn (yh * yh) U) fun qh => csEv U ql qh r 0 U U 0 0 0 0
def xLo (x : EvS) : Int := (x.el : Int) - (x.oh : Int) - (x.h : Int)
def xHi (x : EvS) : Int := (x.eh : Int) - (x.ol : Int) + (x.h : Int)
theorem csX_ok {w pl ph r p q N : Nat} (hpi : ∀ m, N ≤ m → Enc (u2 w) (pl : Int) (ph : Int) (piN m)) (hq : 0 < q) (hp : 2 * p ≤ q) (hr : 1 ≤ r) (hr2 : r % 2 = 0) : ∀ m, max N r ≤ m → Enc (u2 w) (xLo (csX (2 ^ w) pl ph r p q)) (xHi (csX (2 ^ w) pl ph r p q)) (coN p q m) := by
 intro m hm
 have hU : 0 < 2 ^ w := Nat.pow_pos xw
 have hy := csY_b (m := m) hq hp xq
 have hyy : csY p q m * csY p q m ≤ 12 := Rat.le_trans (mulm hy.2 hy.2 hy.1 hy.1) (by decide +kernel)
 have y1 : Enc (((2 ^ w : Nat) : Nat) : Int) ((pl * p / q : Nat) : Int) ((cdn (ph * p) q : Nat) : Int) (csY p q m) := by
  have h1 := (hpi m xq).times (n := p)
  rw [← Int.natCast_mul, ← Int.natCast_mul] at h1
  exact h1.overN hq
 have q1 := Enc.prodN hU y1 y1
 have hE := csEv_ok hU q1 r 0 (2 ^ w) (2 ^ w) 0 0 0 0 ⟨Enc.one, Enc.zero _, Enc.zero _⟩
 rw [Nat.zero_add] at hE
 obtain ⟨e1, e2, e3⟩ := hE
 unfold csX
 simp only [force_eq]
 exact ev_late (u2_pos w) (csT_nn _) (csT_le hyy) hr hr2 e2 e3 e1.2 m xq
end Nt
set_option maxRecDepth 20000
namespace Nt
theorem pi_ev : piB 340 84 24 = (7036365627942155232378451105383714118229498621515162138157626346021022039982006998243213719805928137372, 7036365627942155232378451105383714118229498621515162138157626346021022039982006998243213719805928138852) := by decide +kernel
def pl8 : Nat := 1069028584064966747859680373161870783300
def ph8 : Nat := 1069028584064966747859680373161870783301
theorem pi_340 : ∀ m, 110 ≤ m → Enc (u2 340) 7036365627942155232378451105383714118229498621515162138157626346021022039982006998243213719805928137372 7036365627942155232378451105383714118229498621515162138157626346021022039982006998243213719805928138852 (piN m) := fun m hm => by
 have h := piB_ok (w := 340) (r := 84) (s := 24) xw xw m xq
 rw [pi_ev] at h
 exact h
theorem pi_128 : ∀ m, 110 ≤ m → Enc (u2 128) (pl8 : Int) (ph8 : Int) (piN m) := fun m hm => by
 have h := pi_340 m hm
 have hp := castI_pos (u2_pos 212)
 have e : u2 340 = u2 128 * u2 212 := by rw [← u2_add]
 obtain ⟨h1, h2⟩ := h
 rw [e, Rat.intCast_mul, ← Rat.mul_assoc] at h1 h2
 have k1 : ((pl8 : Int) * u2 212 : Int) ≤ 7036365627942155232378451105383714118229498621515162138157626346021022039982006998243213719805928137372 := by decide +kernel
 have k2 : (7036365627942155232378451105383714118229498621515162138157626346021022039982006998243213719805928138852 : Int) ≤ (ph8 : Int) * u2 212 := by decide +kernel
 have r1 := Rat.le_trans (Rat.intCast_le_intCast.2 k1) h1
 have r2 := Rat.le_trans h2 (Rat.intCast_le_intCast.2 k2)
 rw [Rat.intCast_mul] at r1 r2
 exact ⟨Rat.le_of_mul_le_mul_right r1 hp, Rat.le_of_mul_le_mul_right r2 hp⟩
def cs8 (p q : Nat) : EvS := csX (2 ^ 128) pl8 ph8 16 p q
theorem cs8_ok {p q : Nat} (hq : 0 < q) (hp : 2 * p ≤ q) : ∃ N : Nat, ∀ m, N ≤ m → Enc (u2 128) (xLo (cs8 p q)) (xHi (cs8 p q)) (coN p q m) := ⟨_, csX_ok pi_128 hq hp xw xw⟩
def gapX (B S T : Nat) (x : EvS) : Bool :=
 force (x.el - x.oh - x.h) fun lo => force (x.eh + x.h - x.ol) fun hi => force (lo / T) fun z =>
  Nat.ble 1 lo && (Nat.ble ((z * B + 1) * S) lo && Nat.ble hi ((z * B + B - 1) * S))
def gapB (p q b g : Nat) : Bool := gapX (2 ^ (g - b)) (2 ^ (128 - g)) (2 ^ (128 - b)) (cs8 p q)
theorem gapB_ok {p q b g : Nat} (h : gapB p q b g = true) (hq : 0 < q) (hp : 2 * p ≤ q) (hb : b ≤ g) (hg : g ≤ 128) : Gap (coN p q) b g := by
 unfold gapB gapX at h
 simp only [force_eq, Bool.and_eq_true, Nat.ble_eq] at h
 obtain ⟨h1, h2, h3⟩ := h
 have k := cs8_ok hq hp
 generalize cs8 p q = x at *
 have e1 : xLo x = ((x.el - x.oh - x.h : Nat) : Int) := by unfold xLo; omega
 have e2 : xHi x ≤ ((x.eh + x.h - x.ol : Nat) : Int) := by unfold xHi; omega
 generalize x.el - x.oh - x.h = lo at *
 generalize x.eh + x.h - x.ol = hi at *
 have hB := Nat.pow_pos (n := g - b) (show 0 < 2 by decide)
 refine Gap.of k ((lo / 2 ^ (128 - b) : Nat) : Int) hb hg ?_ ?_
 ·rw [e1]
  have := Int.ofNat_le.2 h2
  rw [Int.natCast_mul, Int.natCast_add, Int.natCast_mul] at this
  exact this
 refine Int.le_trans e2 ?_
 have := Int.ofNat_le.2 h3
 rw [Int.natCast_mul, Int.natCast_sub xq, Int.natCast_add, Int.natCast_mul] at this
 exact this
def gapP (b g q n : Nat) : Bool := Nat.rec true (fun p ih => (bif Nat.ble (2 * p + 3) q then bif Nat.beq (3 * p + 3) q then true else gapB (p + 1) q b g else true) && ih) n
def gapN (b g n : Nat) : Bool := Nat.rec true (fun q ih => gapP b g (q + 1) ((q + 1) / 2) && ih) n
theorem gapP_s (b g q n : Nat) : gapP b g q (n + 1) = ((bif Nat.ble (2 * n + 3) q then bif Nat.beq (3 * n + 3) q then true else gapB (n + 1) q b g else true) && gapP b g q n) := rfl
theorem gapN_s (b g n : Nat) : gapN b g (n + 1) = (gapP b g (n + 1) ((n + 1) / 2) && gapN b g n) := rfl
theorem gapP_ok {b g q : Nat} : ∀ n p, gapP b g q n = true → 1 ≤ p → p ≤ n → 2 * p < q → 3 * p ≠ q → gapB p q b g = true := by
 intro n
 induction n with
 | zero => intro p _ h1 h2; omega
 | succ n ih =>
  intro p h h1 h2 h3 h4
  have h' := h
  rw [gapP_s, Bool.and_eq_true] at h'
  by_cases e : p = n + 1
  ·subst e
   have h5 := h'.1
   rw [show Nat.ble (2 * n + 3) q = true by rw [Nat.ble_eq]; omega, show Nat.beq (3 * n + 3) q = false by
    cases hh : Nat.beq (3 * n + 3) q with
    | false => rfl
    | true => exact absurd (Nat.eq_of_beq_eq_true hh) xq, cond_true, cond_false] at h5
   exact h5
  exact ih p h'.2 h1 xq h3 h4
theorem gapN_ok {b g : Nat} : ∀ n q, gapN b g n = true → 1 ≤ q → q ≤ n → gapP b g q (q / 2) = true := by
 intro n
 induction n with
 | zero => intro q _ h1 h2; omega
 | succ n ih =>
  intro q h h1 h2
  have h' := h
  rw [gapN_s, Bool.and_eq_true] at h'
  by_cases e : q = n + 1
  ·subst e; exact h'.1
  exact ih q h'.2 h1 xq
def GapQ (q b : Nat) : Prop := ∃ g, g ≤ 300 ∧ ∀ p, 1 ≤ p → 2 * p < q → 3 * p ≠ q → Gap (coN p q) b g
theorem gapQ_of {b g n q : Nat} (h : gapN b g n = true) (hb : b ≤ g) (hg : g ≤ 128) (h1 : 1 ≤ q) (hq : q ≤ n) : GapQ q b :=
 ⟨g, by omega, fun p hp1 hp h3 => gapB_ok (gapP_ok _ p (gapN_ok n q h xq hq) hp1 xq hp h3) xq xq hb hg⟩
theorem GapQ.lower {q b c : Nat} (h : GapQ q b) (hc : c ≤ b) : GapQ q c := by
 obtain ⟨g, hg, h⟩ := h
 exact ⟨g, hg, fun p h1 h2 h3 => (h p h1 h2 h3).lower hc⟩
theorem gap_all : gapN 59 70 80 = true := by decide +kernel
theorem gap_64 : gapN 64 80 16 = true := by decide +kernel
theorem gapQ_80 {q b : Nat} (h1 : 1 ≤ q) (hq : q ≤ 80) (hb : b ≤ 59) : GapQ q b := (gapQ_of gap_all xw xw h1 hq).lower hb
theorem gapQ_16 {q : Nat} (h1 : 1 ≤ q) (hq : q ≤ 16) : GapQ q 64 := gapQ_of gap_64 xw xw h1 hq
end Nt
namespace Nt
open Classical in
noncomputable def flo (X : Nat → Rat) (b : Nat) : Int := if h : ∃ z, FlO X b z then h.choose else 0
theorem FlO.flo {X : Nat → Rat} {b : Nat} {z : Int} (h : FlO X b z) : flo X b = z := by
 have hz : ∃ z, FlO X b z := ⟨z, h⟩
 unfold Nt.flo
 rw [dif_pos hz]
 exact hz.choose_spec.uniq h
def fold (p : Int) (q : Nat) : Nat := let r := (Int.tmod p (2 * (q : Int))).natAbs; if q < r then 2 * q - r else r
theorem fold_le (p : Int) (q : Nat) (hq : 0 < q) : fold p q ≤ q := by
 have h : (Int.tmod p (2 * (q : Int))).natAbs < 2 * q := by
  rw [Int.natAbs_tmod]
  have : (2 * (q : Int)).natAbs = 2 * q := by omega
  rw [this]
  exact Nat.mod_lt _ xq
 unfold fold
 dsimp only
 split <;> omega
theorem fold_mod (p : Int) (q : Nat) (hq : 0 < q) : (fold p q : Int) = p % (2 * (q : Int)) ∨ (fold p q : Int) = 2 * (q : Int) - p % (2 * (q : Int)) := by
 have hm : 0 < 2 * (q : Int) := by omega
 have h1 := Int.emod_nonneg p (b := 2 * (q : Int)) xq
 have h2 := Int.emod_lt_of_pos p hm
 have h3 : Int.tmod p (2 * (q : Int)) = p % (2 * (q : Int)) ∨ Int.tmod p (2 * (q : Int)) = p % (2 * (q : Int)) - 2 * (q : Int) := by
  rcases Int.lt_or_le p 0 with h | h
  ·have e1 := Int.tmod_add_mul_tdiv p (2 * (q : Int))
   have e2 := Int.emod_add_mul_ediv p (2 * (q : Int))
   have e3 : Int.tmod p (2 * (q : Int)) ≤ 0 := by
    have h8 := Int.neg_tmod p (2 * (q : Int))
    have h9 : Int.tmod (-p) (2 * (q : Int)) = (-p) % (2 * (q : Int)) := Int.tmod_eq_emod_of_nonneg xq
    have h10 := Int.emod_nonneg (-p) (b := 2 * (q : Int)) xq
    omega
   have e4 : -(2 * (q : Int)) < Int.tmod p (2 * (q : Int)) := Int.lt_tmod_of_pos p hm
   generalize Int.tmod p (2 * (q : Int)) = t at *
   generalize p % (2 * (q : Int)) = s at *
   generalize p.tdiv (2 * (q : Int)) = x at *
   generalize p / (2 * (q : Int)) = y at *
   generalize 2 * (q : Int) = M at *
   have e5 : M * (x - y) = s - t := by rw [Int.mul_sub]; omega
   have e6 : 0 ≤ M * (x - y) := by omega
   have e7 : M * (x - y) < M * 2 := by omega
   have e8 : 0 ≤ x - y := Int.nonneg_of_mul_nonneg_right e6 hm
   have e9 : x - y < 2 := Int.lt_of_mul_lt_mul_left e7 xq
   obtain h | h : x - y = 0 ∨ x - y = 1 := by omega
   ·rw [h] at e5; omega
   rw [h] at e5; omega
  exact .inl (Int.tmod_eq_emod_of_nonneg h)
 unfold fold
 dsimp only
 split <;> omega
theorem fold_of {p p' : Int} {q : Nat} (hq : 0 < q) (h : p % (2 * (q : Int)) = p' % (2 * (q : Int)) ∨ (p + p') % (2 * (q : Int)) = 0) : fold p q = fold p' q := by
 have a := fold_mod p q hq
 have b := fold_mod p' q hq
 have c := fold_le p q hq
 have d := fold_le p' q hq
 have hm : 0 < 2 * (q : Int) := by omega
 have h1 := Int.emod_nonneg p (b := 2 * (q : Int)) xq
 have h2 := Int.emod_lt_of_pos p hm
 have h3 := Int.emod_nonneg p' (b := 2 * (q : Int)) xq
 have h4 := Int.emod_lt_of_pos p' hm
 rcases h with h | h
 ·omega
 rw [Int.add_emod] at h
 have h5 : p % (2 * (q : Int)) + p' % (2 * (q : Int)) = 0 ∨ p % (2 * (q : Int)) + p' % (2 * (q : Int)) = 2 * (q : Int) := by
  generalize p % (2 * (q : Int)) = x at *
  generalize p' % (2 * (q : Int)) = y at *
  generalize 2 * (q : Int) = M at *
  by_cases hx : x + y < M
  ·rw [Int.emod_eq_of_lt xq hx] at h; exact .inl h
  have e : (x + y) % M = x + y - M := by
   rw [← Int.sub_emod_right, Int.emod_eq_of_lt xq xq]
  omega
 omega
noncomputable def cosA (p q b : Nat) : Rat × Rat :=
 if p = 0 then (1, 1) else if 2 * p = q then (0, 0) else if 3 * p = q then (dnQ (1 / 2) b, -dnQ (-(1 / 2)) b)
 else (gr b (flo (coN p q) b), gr b (flo (coN p q) b + 1))
noncomputable def cosF (p q b : Nat) : Rat × Rat := if q < 2 * p then (-(cosA (q - p) q b).2, -(cosA (q - p) q b).1) else cosA p q b
noncomputable def cosV (p : Int) (q b : Nat) : Rat × Rat := cosF (fold p q) q b
theorem cosV_turn {p k : Int} {q b : Nat} (hq : 0 < q) : cosV (p + 2 * (q : Int) * k) q b = cosV p q b := by
 unfold cosV; rw [fold_of hq (.inl (Int.add_mul_emod_self_left ..))]
end Nt
open Go.RowKit
namespace Nt
theorem lo4_eq (a b c d : Rat) : lo (lo a b) (lo c d) = lo4 a b c d := by unfold lo4 lo; grind
theorem hi4_eq (a b c d : Rat) : hi (hi a b) (hi c d) = hi4 a b c d := by unfold hi4 hi; grind
end Nt
theorem k_r4Add {u w : World} {a1 a2 : RL} {x1 x2 : Rat} {b1 b2 : RL} {y1 y2 : Rat} {K L : Nat} (d : Dat u w) (ha1 : RatV u a1 x1 K) (ha2 : RatV u a2 x2 K) (hb1 : RatV u b1 y1 L) (hb2 : RatV u b2 y2 L) (hK : K ≤ 40000000) (hL : L ≤ 40000000) : Calls Tryz.prog 43 #[IV a1 a2, IV b1 b2] w (Post u w fun v u' => ∃ p q : RL, v = IV p q ∧ RatN u' p (Nt.lo x1 x2 + Nt.lo y1 y2) (K + L + 2) ∧ RatN u' q (Nt.hi x1 x2 + Nt.hi y1 y2) (K + L + 2)) := by
 refine zzl (args := [.agg #[.bool a1.s, a1.m.v, a1.d.v, .bool a2.s, a2.m.v, a2.d.v], .agg #[.bool b1.s, b1.m.v, b1.d.v, .bool b2.s, b2.m.v, b2.d.v]]) Tryz.func43 rfl Tryz.ntmps43 (rs := [.cell 4 32]) Tryz.results43 (le_b rfl) (le_b rfl) d ?_
 refine sq9 (zzj 2 ⟨32, a1.cs ++ a2.cs⟩ (zzj 3 ⟨32, b1.cs ++ b2.cs⟩ (zzj 4 ⟨32, zw6⟩ (zzb (zzd (zzy [0, 1, 0, 7, 15, 31] [(0, []), (2, []), (1, []), (3, []), (4, []), (5, [])] xj xj (zzh 5 (.v (.agg #[.bool a1.s, a1.m.v, a1.d.v, .bool a2.s, a2.m.v, a2.d.v])) ty32 zze (zzh 7 (.v (.agg #[.bool b1.s, b1.m.v, b1.d.v, .bool b2.s, b2.m.v, b2.d.v])) ty32 zze (zzg 6 95 _ fun _ _ ad aA => Post.mono (k_r4Trim aA (ha1.ext ad) (ha2.ext ad) xq) ?_)))))))))
 rintro _ u16 ak ⟨ah, aj, rfl, ay, au⟩
 refine zzg 8 95 _ fun _ _ ae ax => Post.mono (k_r4Trim ax (hb1.ext (ad.t (ak.t ae))) (hb2.ext (ad.t (ak.t ae))) xq) ?_
 rintro _ u24 am ⟨ag, ai, rfl, ar, av⟩
 refine zzi ⟨32, ah.cs ++ aj.cs⟩ ty32 ?_
 refine zzi ⟨32, ag.cs ++ ai.cs⟩ ty32 ?_
 refine zzb (zzd (zzy [0, 1, 0, 4, 15, 0, 32, 0, 128, 511, 1023, 2047] [(0, []), (1, []), (2, []), (3, []), (5, []), (6, []), (7, []), (8, []), (4, []), (9, []), (10, []), (11, [])] xj xj (zza 9 (.adr 2 0) (zzh 10 (.v (ah.v)) ty26 zze (zza 11 (.adr 3 0) (zzh 12 (.v (ag.v)) ty26 zze (zza 14 (.adr 2 3) (zzh 15 (.v (aj.v)) ty26 zze (zza 16 (.adr 3 3) (zzh 17 (.v (ai.v)) ty26 zze (zzg 13 57 _ fun _ _ ac aw => Post.mono (k_rqAdd aw (ay.ext (ae.t (am.t ac))).raw (ar.ext ac).raw xq xq) ?_)))))))))))
 rintro _ u30 an ⟨aa, rfl, ap⟩
 refine zzg 18 57 _ fun _ _ af ao => Post.mono (k_rqAdd ao (au.ext (ae.t (am.t (ac.t (an.t af))))).raw (av.ext (ac.t (an.t af))).raw xq xq) ?_
 rintro _ u36 az ⟨ab, rfl, aq⟩
 refine zza 19 (.v (.agg #[.bool aa.s, aa.m.v, aa.d.v, .bool ab.s, ab.m.v, ab.d.v])) (zzi ⟨32, aa.cs ++ ab.cs⟩ ty32 ?_)
 refine zzb (zzn (ret0 [.agg #[.bool aa.s, aa.m.v, aa.d.v, .bool ab.s, ab.m.v, ab.d.v]] ⟨zzq ty32 zze, trivial⟩ fun u39 al => ?_))
 refine ⟨aa, ab, rfl, RatN.more (K := (K + L + 2)) ?_ xq, RatN.more (K := (K + L + 2)) ?_ xq⟩
 ·exact (ap.ext (af.t (az.t al)))
 exact (aq.ext al)
theorem k_r4Mul {u w : World} {a1 a2 : RL} {x1 x2 : Rat} {b1 b2 : RL} {y1 y2 : Rat} {K L : Nat} (d : Dat u w) (ha1 : RatV u a1 x1 K) (ha2 : RatV u a2 x2 K) (hb1 : RatV u b1 y1 L) (hb2 : RatV u b2 y2 L) (hK : K ≤ 40000000) (hL : L ≤ 40000000) : Calls Tryz.prog 68 #[IV a1 a2, IV b1 b2] w (Post u w fun v u' => ∃ p q : RL, v = IV p q ∧ RatN u' p (Nt.lo4 (x1 * y1) (x1 * y2) (x2 * y1) (x2 * y2)) (K + L + 1) ∧ RatN u' q (Nt.hi4 (x1 * y1) (x1 * y2) (x2 * y1) (x2 * y2)) (K + L + 1)) := by
 refine zzl (args := [.agg #[.bool a1.s, a1.m.v, a1.d.v, .bool a2.s, a2.m.v, a2.d.v], .agg #[.bool b1.s, b1.m.v, b1.d.v, .bool b2.s, b2.m.v, b2.d.v]]) Tryz.func68 rfl Tryz.ntmps68 (rs := [.cell 4 32]) Tryz.results68 (le_b rfl) (le_b rfl) d ?_
 refine sq9 (zzj 2 ⟨32, a1.cs ++ a2.cs⟩ (zzj 3 ⟨32, b1.cs ++ b2.cs⟩ (zzj 4 ⟨32, zw6⟩ (zzb (zzd (zzy [0, 1, 0, 4, 15, 0, 32, 0, 128, 511, 0, 1024, 0, 4096, 16383, 0, 32768, 0, 131072, 524287, 0, 0, 0, 0, 16777215, 33554431, 67108863, 134217727] [(0, []), (1, []), (2, []), (3, []), (5, []), (6, []), (7, []), (8, []), (10, []), (11, []), (12, []), (13, []), (15, []), (16, []), (17, []), (18, []), (20, []), (21, []), (22, []), (23, []), (4, []), (9, []), (14, []), (19, []), (24, []), (25, []), (26, []), (27, [])] xj xj (zza 9 (.adr 2 0) (zzh 10 (.v (a1.v)) ty26 zze (zza 11 (.adr 3 0) (zzh 12 (.v (b1.v)) ty26 zze (zza 14 (.adr 2 0) ?_)))))))))))
 refine zzh 15 (.v (a1.v)) ty26 zze (zza 16 (.adr 3 3) (zzh 17 (.v (b2.v)) ty26 zze (zza 19 (.adr 2 3) (zzh 20 (.v (a2.v)) ty26 zze (zza 21 (.adr 3 0) (zzh 22 (.v (b1.v)) ty26 zze (zza 24 (.adr 2 3) (zzh 25 (.v (a2.v)) ty26 zze (zza 26 (.adr 3 3) (zzh 27 (.v (b2.v)) ty26 zze (zzj 5 ⟨26, zw3⟩ ?_)))))))))))
 refine zzj 6 ⟨26, zw3⟩ (zzj 7 ⟨26, zw3⟩ (zzj 8 ⟨26, zw3⟩ (zzg 13 25 _ fun _ _ af aW => Post.mono (k_rqMul aW (ha1.ext af) (hb1.ext af) xq xq) ?_)))
 rintro _ u14 an ⟨aq, rfl, aD⟩
 refine zzg 18 25 _ fun _ _ ab aT => Post.mono (k_rqMul aT (ha1.ext (af.t (an.t ab))) (hb2.ext (af.t (an.t ab))) xq xq) ?_
 rintro _ u20 am ⟨ax, rfl, aC⟩
 refine zzg 23 25 _ fun _ _ ac aK => Post.mono (k_rqMul aK (ha2.ext (af.t (an.t (ab.t (am.t ac))))) (hb1.ext (af.t (an.t (ab.t (am.t ac))))) xq xq) ?_
 rintro _ u26 al ⟨au, rfl, aA⟩
 refine zzg 28 25 _ fun _ _ aa aQ => Post.mono (k_rqMul aQ (ha2.ext (af.t (an.t (ab.t (am.t (ac.t (al.t aa))))))) (hb2.ext (af.t (an.t (ab.t (am.t (ac.t (al.t aa))))))) xq xq) ?_
 rintro _ u32 aj ⟨av, rfl, aE⟩
 refine zzi ⟨26, aq.cs⟩ ty26 ?_
 refine zzi ⟨26, ax.cs⟩ ty26 ?_
 refine zzi ⟨26, au.cs⟩ ty26 ?_
 refine zzi ⟨26, av.cs⟩ ty26 ?_
 refine zzc 44 [(4, .adr 4 0), (5, .adr 5 0), (6, .adr 6 0), (7, .adr 7 0), (8, .adr 8 0)] [(4, ⟨32, zw6⟩), (5, ⟨26, aq.cs⟩), (6, ⟨26, ax.cs⟩), (7, ⟨26, au.cs⟩), (8, ⟨26, av.cs⟩)] (zzd (zzy [0, 0, 3, 0, 0, 31, 63, 0, 0, 511, 0, 0, 4095, 8191, 16383, 32767] [(0, []), (1, []), (3, []), (4, []), (7, []), (8, []), (10, []), (11, []), (2, []), (5, []), (6, []), (9, []), (12, []), (13, []), (14, []), (15, [])] xj xj (zzh 29 (.v (aq.v)) ty26 zze (zzh 30 (.v (ax.v)) ty26 zze (zzh 32 (.v (au.v)) ty26 zze (zzh 33 (.v (av.v)) ty26 zze (zzh 36 (.v (aq.v)) ty26 zze (zzh 37 (.v (ax.v)) ty26 zze (zzh 39 (.v (au.v)) ty26 zze (zzh 40 (.v (av.v)) ty26 zze (zzg 31 134 _ fun _ _ ae aH => Post.mono (k_rqMin aH (aD.ext (ab.t (am.t (ac.t (al.t (aa.t (aj.t ae))))))).raw (aC.ext (ac.t (al.t (aa.t (aj.t ae))))).raw xq xq) ?_)))))))))))
 rintro _ u38 ai ⟨r36, rfl, aP⟩
 refine zzg 34 134 _ fun _ _ ah aL => Post.mono (k_rqMin aL (aA.ext (aa.t (aj.t (ae.t (ai.t ah))))).raw (aE.ext (ae.t (ai.t ah))).raw xq xq) ?_
 rintro _ u44 ao ⟨r42, rfl, aR⟩
 refine zzg 35 134 _ fun _ _ ak aV => Post.mono (k_rqMin aV (aP.ext (ah.t (ao.t ak))).raw (aR.ext ak).raw xq xq) ?_
 rintro _ u50 aw ⟨ad, rfl, aN⟩
 refine zzg 38 135 _ fun _ _ ap aG => Post.mono (k_rqMax aG (aD.ext (ab.t (am.t (ac.t (al.t (aa.t (aj.t (ae.t (ai.t (ah.t (ao.t (ak.t (aw.t ap))))))))))))).raw (aC.ext (ac.t (al.t (aa.t (aj.t (ae.t (ai.t (ah.t (ao.t (ak.t (aw.t ap))))))))))).raw xq xq) ?_
 rintro _ u56 az ⟨r54, rfl, aS⟩
 refine zzg 41 135 _ fun _ _ ar aM => Post.mono (k_rqMax aM (aA.ext (aa.t (aj.t (ae.t (ai.t (ah.t (ao.t (ak.t (aw.t (ap.t (az.t ar))))))))))).raw (aE.ext (ae.t (ai.t (ah.t (ao.t (ak.t (aw.t (ap.t (az.t ar))))))))).raw xq xq) ?_
 rintro _ u62 aB ⟨r60, rfl, aO⟩
 refine zzg 42 135 _ fun _ _ ay aU => Post.mono (k_rqMax aU (aS.ext (ar.t (aB.t ay))).raw (aO.ext ay).raw xq xq) ?_
 rintro _ u68 aI ⟨ag, rfl, aJ⟩
 refine zza 43 (.v (.agg #[.bool ad.s, ad.m.v, ad.d.v, .bool ag.s, ag.m.v, ag.d.v])) (zzi ⟨32, ad.cs ++ ag.cs⟩ ty32 ?_)
 refine zzb (zzn (ret0 [.agg #[.bool ad.s, ad.m.v, ad.d.v, .bool ag.s, ag.m.v, ag.d.v]] ⟨zzq ty32 zze, trivial⟩ fun u71 aF => ?_))
 refine ⟨ad, ag, rfl, RatN.more (K := (max (max (K + L + 1) (K + L + 1)) (max (K + L + 1) (K + L + 1)))) ?_ xq, RatN.more (K := (max (max (K + L + 1) (K + L + 1)) (max (K + L + 1) (K + L + 1)))) ?_ xq⟩
 ·rw [← Nt.lo4_eq]; exact (aN.ext (ap.t (az.t (ar.t (aB.t (ay.t (aI.t aF)))))))
 rw [← Nt.hi4_eq]; exact (aJ.ext aF)
section
variable {P : Program} (w : World)
theorem wpList_makeKC {ops : Array Oper} {rest : List Oper} {o : Oper} {a : Act} {Q : Exit → Act → World → Prop}
  (hg : o.guard = none) (l c : Operand) (t : TypeId) (hop : o.op = Op.makeSlice t l c) (e : TypeId) (k : IntKind) (bytes : Nat) (h1 : P.underlying t = some (.slice e))
  (h2 : (P.info? e).map (fun i => (i.zero, i.size, i.bytes)) = some (some (.int k 0), 1, bytes))
  (kl kc : IntKind) (L C : Int) (n m : Nat) (hl : a.eval l = .int kl L) (hc : a.eval c = .int kc C) (hL : L = (n : Int)) (hC : C = (m : Int)) (hnm : n ≤ m) (b2 : bytes * m ≤ 281474976710656) (b3 : m ≤ maxLen)
  (hK : ∀ w', OwnK k w' w.heap.size e (some ⟨w.heap.size, 0, none⟩) n m (List.replicate n 0) → Below w.heap.size w w' → w'.heap.size = w.heap.size + 1 → wpList P ops Q rest (a.put o.dst (.slice (some ⟨w.heap.size, 0, none⟩) n m)) w') :
  wpList P ops Q (o :: rest) a w := by
 obtain ⟨i, hi, hz, hs, hb⟩ := info_parts h2
 refine wpList_plain hg fun K hK' => ?_
 subst hL hC hb
 have h63 : (m : Int) ≤ 9223372036854775807 := by have := b3; unfold maxLen at this; omega
 have hb' : (i.bytes : Int) * (m : Int) ≤ 281474976710656 := by
  have h : ((i.bytes * m : Nat) : Int) ≤ 281474976710656 := by omega
  rwa [Int.natCast_mul] at h
 have hrun := run_make (P := P) w t e i _ h1 hi hz kl kc n m xq xq hb' h63
 unfold Oper.wp
 simp [execOp, hop, hl, hc, hrun, Result.andThen]
 have hblk : KBlk k (w.alloc (.cells (madeCells (Value.int k 0).cells (m * i.size)) e)) w.heap.size e (List.replicate m 0) := by
  unfold KBlk
  rw [heap_alloc_new, hs, Nat.mul_one]
  congr 2
  apply Array.ext'
  have h3 := toList_madeCells_one (.int k 0) m
  have h4 : (Value.int k 0).cells = #[Value.int k 0] := rfl
  rw [h4, h3]
  simp
 refine hK' _ _ (hK _ ⟨by simp, by simp, .inr ⟨w.heap.size, m, _, rfl, Nat.le_refl _, hblk, hnm, b3, by simp, by simp [List.take_replicate, Nat.min_eq_left hnm]⟩⟩ ((Below.refl _ _).alloc (Nat.le_refl _) _) (by simp))
end
namespace Nt
theorem bitLen_bitl {t : Nat} (h : t < 4294967296) : Lib.bitLen t = bitl t := by
 rcases Nat.eq_zero_or_pos t with h0 | h0
 ·subst h0; rfl
 have hb : 1 ≤ Lib.bitLen t ∧ 2 ^ (Lib.bitLen t - 1) ≤ t ∧ t < 2 ^ Lib.bitLen t := Lib.bitLenAux_bounds 64 t xq xq
 exact (bitl_unique xq hb.2.1 hb.2.2).symm
theorem bitl_le32 {t : Nat} (h : t < 4294967296) : bitl t ≤ 32 := by
 rcases Nat.eq_zero_or_pos t with h0 | h0
 ·subst h0; decide
 have h1 := bitl_le h0
 have h3 : 2 ^ (bitl t - 1) < 2 ^ 32 := by omega
 have := (Nat.pow_lt_pow_iff_right (show 1 < 2 by omega)).1 h3
 omega
end Nt
set_option maxHeartbeats 1000000 in
theorem BitLen_any (A : Option Addr) (n c : Nat) (a : List Int) (w : World) (ha : SlR .u32 w A n c a) (da : Nt.Dig a) (hn : n ≤ 1000000000) :
  Calls Tryz.prog 150 #[.slice A n c] w fun e w' => e = .returned (.int .i64 (Nt.bitl (Nt.val a).toNat)) ∧ w' = w := by
 have lx : (Nt.strip a).length ≤ n := by rw [← ha.1]; exact Nt.zyh a
 have hx := ha.upto (m := (Nt.strip a).length) lx
 rw [← Nt.strip_take] at hx
 have hcut := zwj A n c a w ha
 have eN := Nt.zxs da
 rw [eN] at hx lx hcut
 generalize hX : (Nt.val a).toNat = X at *
 obtain ⟨N, hN⟩ : ∃ N, N = (Nt.digits X).length := ⟨_, rfl⟩
 rw [← hN] at hx lx hcut
 clear eN hX
 rcases N with _ | k
 ·have h0 : Hid (Nt.bitl X = 0) := by
   have : X = 0 := by
    rcases Nat.eq_zero_or_pos X with h | h
    ·exact h
    have := Nt.zwn h; omega
   show _ = _
   rw [this]; rfl
  clear ha da
  go_enter Tryz.func150, Tryz.ntmps150
  go_wp2_with fail
  refine hcut.mono ?_
  rintro e w1 ⟨rfl, rfl⟩
  go_wp2
  go_ret
  exact ⟨by rw [h0.out]; rfl, rfl⟩
 obtain ⟨b, o, rfl, _, hc⟩ := hx.pos (i := k) xq
 have hcm := hx.2.1
 have ht := (Nt.zyj X).at k
 have hne := Nt.norm_last (k := k) (Nt.zxm X) hN.symm
 obtain ⟨t, aa⟩ : ∃ t : Nat, (Nt.digits X)[k]?.getD 0 = (t : Int) := ⟨((Nt.digits X)[k]?.getD 0).toNat, by omega⟩
 have hfin := Nt.bitl_digits hN.symm aa xq
 rw [aa] at hc hne ht
 have Hfin := Lib.hid hfin
 have HN := Lib.hid hN
 have hkb : ((k : Int) + 1 == 0) = false := by rw [beq_eq_false_iff_ne]; omega
 have hb32 := Nt.bitl_le32 (t := t) xq
 have hbe := Nt.bitLen_bitl (t := t) xq
 clear hfin aa hx ha da hN
 go_enter Tryz.func150, Tryz.ntmps150
 go_wp2_with fail
 refine hcut.mono ?_
 rintro e w1 ⟨rfl, rfl⟩
 go_wp2_with fail
 refine (Len32_any (t : Int) _ xq xq).mono ?_
 rintro e w1 ⟨rfl, rfl⟩
 rw [Int.toNat_natCast, hbe]
 generalize Nt.bitl t = bt at *
 go_wp2
 go_ret
 exact ⟨by rw [Hfin.out]; refine congrArg (fun z : Int => Ending.returned (.int .i64 z)) ?_; omega, rfl⟩
theorem own_strip {w0 w : World} {B : Nat} {A : Option Addr} {n c : Nat} {l : List Int} (h : OwnK .u32 w B 104 A n c l) (hd : Nt.Dig l) (hB : w0.heap.size ≤ B) : NatF w0 w A (Nt.strip l).length c (Nt.val l).toNat := by
 have e := Nt.zxs hd
 have hl := Nt.zyh l
 have h1 := h.1
 have hx := h.slr.upto (m := (Nt.strip l).length) xq
 rw [← Nt.strip_take, e] at hx
 refine ⟨by rw [e], by rw [e]; exact hx, fun hp => ?_⟩
 obtain ⟨a, ha, hb, ht⟩ := h.ty xq
 exact ⟨a, ha, by omega, ht⟩
theorem Nt.raise_val {q s : Nat} {a S : List Int} (hq : q = s / 32) (h : Nt.val S = Nt.val a * 2 ^ (s % 32)) : Nt.val (List.replicate q 0 ++ S) = Nt.val a * 2 ^ s := by
 rw [Nt.val_append, Nt.val_repl, h, Nt.p2_pw s, ← hq]
 simp
 rw [Int.mul_comm, Int.mul_assoc]
theorem Nt.bitl_le_len (l : List Int) (h : Nt.Dig l) : Nt.bitl (Nt.val l).toNat ≤ 32 * l.length := by
 rcases Nat.eq_zero_or_pos (Nt.val l).toNat with h0 | h0
 ·rw [h0]; exact Nat.zero_le _
 have h1 := Nt.val_lt h
 rw [Nt.pw_two] at h1
 have h2 := Nt.bitl_le h0
 have h3 : 2 ^ (Nt.bitl (Nt.val l).toNat - 1) < 2 ^ (32 * l.length) := by omega
 have := (Nat.pow_lt_pow_iff_right (show 1 < 2 by omega)).1 h3
 omega
theorem Nt.dl_shift {N K s : Nat} (h : dl N ≤ K) : dl (N * 2 ^ s) ≤ K + s / 32 + 1 := by
 apply Nt.dl_le
 have h1 := Nt.dl_lt (x := N)
 have h2 := Nt.pw_mono h
 rw [Nt.pw_two] at h1 ⊢
 rw [Nt.pw_two, Nt.pw_two] at h2
 have h3 : N < 2 ^ (32 * K) := by omega
 have h4 : N * 2 ^ s < 2 ^ (32 * K) * 2 ^ s := Nat.mul_lt_mul_of_pos_right h3 (Nat.pow_pos xq)
 rw [← Nat.pow_add] at h4
 have h5 : 2 ^ (32 * K + s) ≤ 2 ^ (32 * (K + s / 32 + 1)) := Nat.pow_le_pow_right xq xq
 have h6 := Nat.lt_of_lt_of_le h4 h5
 exact_mod_cast h6
set_option maxHeartbeats 2000000 in
theorem raise_any (A : Option Addr) (n c s : Nat) (a : List Int) (w : World) (ha : SlR .u32 w A n c a) (da : Nt.Dig a) (hn : n ≤ 1000000000) (hs : s ≤ 65536) :
  Calls Tryz.prog 151 #[.slice A n c, .int .i64 s] w fun e w' => ∃ A' n' c', e = .returned (.slice A' n' c') ∧ NatF w w' A' n' c' (Nt.val a * 2 ^ s).toNat ∧ Below w.heap.size w w' := by
 rcases Nat.eq_zero_or_pos n with h0 | h0
 ·subst h0
  have hz : Hid ((Nt.val a * 2 ^ s).toNat = 0) := by
   have e1 : a = [] := List.eq_nil_of_length_eq_zero ha.1
   show _ = _
   rw [e1]; simp [Nt.val]
  clear da ha
  go_enter Tryz.func151, Tryz.ntmps151
  go_wp2
  go_ret
  refine ⟨none, 0, 0, rfl, ?_, Below.refl _ _⟩
  rw [hz.out]
  exact ⟨by rw [Nt.zxa]; rfl, by rw [Nt.zxa]; exact SlR.nil _ _ _ (Nat.zero_le _), fun h => absurd h xq⟩
 have hn0 : ((n : Int) == 0) = false := by rw [beq_eq_false_iff_ne]; omega
 obtain ⟨q, hq1, hq2⟩ : ∃ q, 32 * q ≤ s ∧ s < 32 * q + 32 := ⟨s / 32, by omega, by omega⟩
 have hqs : Hid (q = s / 32) := by show _ = _; omega
 have aa : s % 32 < 32 := by omega
 have Hda := Lib.hid da
 clear da
 go_enter Tryz.func151, Tryz.ntmps151
 go_wp2_with (at_make; refine wpList_makeKC _ rfl (.tmp 10) (.tmp 16) _ rfl 104 .u32 4 Tryz.underlying22 zxj _ _ _ _ q (q + n + 1) rfl rfl ?L ?C ?nm ?b2 ?b3 ?_)
 case L => show _ = _; omega
 case C => show _ = _; omega
 case nm => omega
 case b2 => omega
 case b3 => unfold maxLen; omega
 intro w2 ae ab ah
 have hx2 := ha.below ab
 have HB2 := Lib.hid ab
 clear ah ab ha
 go_wp2_with fail
 refine (lift_any A n c (s % 32) (n + 1) a w2 hx2 Hda.out hn aa (.inr rfl)).mono ?_
 rintro e w3 ⟨g, rfl, ⟨S, lo, hg, hk, hSl, hSd, hlo, hlo0, hv⟩, ac⟩
 have hlo0 := hlo0 rfl
 rw [hlo0] at hv
 have hval := Nt.raise_val hqs.out (a := a) (S := S) xq
 have hs3 := Lib.hid (hk.slr_all (n := n + 1) (c := n + 1) hSl (Nat.le_refl _) yq)
 have hk3 := Lib.hid (ae.below ac)
 have Hval := Lib.hid hval
 have Hd := Lib.hid (Nt.Dig.append (Nt.Dig.repl q) hSd)
 have ad : Hid (Below w.heap.size w w3) := HB2.out.trans (ac.mono HB2.out.size)
 have hw3 := ad.out.size
 clear hval hv hk hg ae hlo hlo0 hSl hSd hx2 ac
 go_wp2_with (at_builtin; refine zxh _ rfl (.tmp 18) (.tmp 26) _ rfl 104 .u32 4 Tryz.underlying22 zxj w.heap.size (some ⟨w.heap.size, 0, none⟩) q (q + n + 1) (List.replicate q 0) rfl ?own (some ⟨g, 0, none⟩) (n + 1) (n + 1) S rfl ?slr ?h63 ?hby ?hbase ?_)
 case own => exact hk3.out
 case slr => exact hs3.out
 case h63 => unfold maxLen; omega
 case hby => omega
 case hbase => omega
 intro A3 c3 w4 ho af
 have HO := Lib.hid ho
 have ag : Hid (Below w.heap.size w w4) := ad.out.trans af
 clear hs3 hk3 ho af
 go_wp2_with fail
 refine (zwj _ _ _ _ _ HO.out.slr).mono ?_
 rintro e w5 ⟨rfl, rfl⟩
 go_wp2
 go_ret
 have hf := own_strip HO.out Hd.out (Nat.le_refl _)
 rw [Hval.out] at hf
 exact ⟨_, _, _, rfl, hf, ag.out⟩
set_option maxHeartbeats 1000000 in
theorem Shift_pos (A : Option Addr) (n c s : Nat) (a : List Int) (w : World) (ha : SlR .u32 w A n c a) (da : Nt.Dig a) (hn : n ≤ 1000000000) (hs : s ≤ 65536) :
  Calls Tryz.prog 79 #[.slice A n c, .int .i64 s] w fun e w' => ∃ A' n' c', e = .returned (.slice A' n' c') ∧ NatF w w' A' n' c' (Nt.val a * 2 ^ s).toNat ∧ Below w.heap.size w w' := by
 have lx : (Nt.strip a).length ≤ n := by rw [← ha.1]; exact Nt.zyh a
 have hx := ha.upto (m := (Nt.strip a).length) lx
 rw [← Nt.strip_take] at hx
 have hd := Nt.strip_dig da
 have hv := Nt.zwm a
 have hsd : decide (65536 < (s : Int)) = false := by simp; omega
 have hbl := Nt.bitl_le_len (Nt.strip a) hd
 have hraise := raise_any A (Nt.strip a).length c s (Nt.strip a) w hx hd xq hs
 have hbit := BitLen_any A (Nt.strip a).length c (Nt.strip a) w hx hd xq
 rw [hv] at hraise hbit hbl
 have hz : Nt.bitl (Nt.val a).toNat = 0 → Nt.val a = 0 := fun h => by
  have h1 := Nt.bitl_lt (Nt.val a).toNat
  have h2 := Nt.zxc da
  rw [h] at h1
  simp at h1
  omega
 generalize Nt.bitl (Nt.val a).toNat = B at *
 have hcut := zwj A n c a w ha
 generalize (Nt.strip a).length = m at *
 by_cases h0 : (s : Int) ≤ -(B : Int)
 ·have ab : Hid ((Nt.val a * 2 ^ s).toNat = 0) := by
   show _ = _
   rw [hz xq]; simp
  have hle : decide ((s : Int) ≤ -(B : Int)) = true := decide_eq_true h0
  clear hx ha hd hv hraise hz h0
  go_enter Tryz.func79, Tryz.ntmps79
  go_wp2_with fail
  refine hcut.mono ?_
  rintro e w1 ⟨rfl, rfl⟩
  go_wp2_with fail
  refine hbit.mono ?_
  rintro e w1 ⟨rfl, rfl⟩
  go_wp2
  go_ret
  refine ⟨none, 0, 0, rfl, ?_, Below.refl _ _⟩
  rw [ab.out]
  exact ⟨by rw [Nt.zxa]; rfl, by rw [Nt.zxa]; exact SlR.nil _ _ _ (Nat.zero_le _), fun h => absurd h xq⟩
 have hle : decide ((s : Int) ≤ -(B : Int)) = false := decide_eq_false h0
 clear hx ha hd hv hz
 go_enter Tryz.func79, Tryz.ntmps79
 go_wp2_with fail
 refine hcut.mono ?_
 rintro e w1 ⟨rfl, rfl⟩
 go_wp2_with fail
 refine hbit.mono ?_
 rintro e w1 ⟨rfl, rfl⟩
 go_wp2_with fail
 refine hraise.mono ?_
 rintro e w1 ⟨A1, n1, c1, rfl, f1, aa⟩
 have F1 := Lib.hid f1
 clear f1
 go_wp2
 go_ret
 exact ⟨A1, n1, c1, rfl, F1.out, aa⟩
theorem k_natShift {u w : World} {x : Sl} {N K s : Nat} (d : Dat u w) (h1 : NatV u x N K) (hK : K ≤ 500000000) (hs : s ≤ 65536) : Calls Tryz.prog 79 #[x.v, .int .i64 (s : Int)] w (Post u w fun v u' => ∃ x : Sl, v = x.v ∧ NatN u' x (N * 2 ^ s) (K + s / 32 + 1)) := by
 have hs1 := h1.size
 obtain ⟨a, a1, a2, a3, a4⟩ := h1
 refine (Shift_pos _ _ _ _ _ _ (a1.ext d.ext) a2 xq hs).mono fun e w' ⟨A', n', c', h⟩ => ?_
 rw [a4] at h
 exact post_nat d (nat_fits h (by simp [Int.natCast_mul, Int.natCast_pow])) (Nt.dl_shift hs1)
theorem k_rnShift {u w : World} {x : Sl} {N K s : Nat} (d : Dat u w) (h1 : NatV u x N K) (hK : K ≤ 500000000) (hs : s ≤ 65536) : Calls Tryz.prog 96 #[x.v, .int .i64 (s : Int)] w (Post u w fun v u' => ∃ x : Sl, v = x.v ∧ NatN u' x (N * 2 ^ s) (K + s / 32 + 1)) := by
 have hs1 := h1.size
 obtain ⟨a, a1, a2, a3, a4⟩ := h1
 refine (rShift_pos _ _ _ _ _ _ (a1.ext d.ext) a2 xq hs).mono fun e w' ⟨A', n', c', h⟩ => ?_
 rw [a4] at h
 exact post_nat d (nat_fits ⟨h.1, h.2.1.nat, h.2.2⟩ (by simp [Int.natCast_mul, Int.natCast_pow])) (Nt.dl_shift hs1)
set_option maxHeartbeats 1000000 in
theorem k_intDivP {u w : World} {i1 : IL} {y : Sl} {zN : Int} {M K L : Nat} (d : Dat u w) (hi : IntV u i1 zN K) (hy : NatV u y M L) (hM : 0 < M) (hK : K ≤ 100000000) (hL : L ≤ 100000000) : Calls Tryz.prog 180 #[i1.v, .agg #[.bool false, y.v]] w (Post u w fun v u' => ∃ i j : IL, v = .tuple #[i.v, j.v, .int .i64 0] ∧ IntN u' i (zN / (M : Int)) (K + 1) ∧ IntN u' j (zN % (M : Int)) L) := by
 have hL1 : 1 ≤ L := by have h2 := hy.size; have h3 := Nt.dl_mono (x := M) (y := 1) xq; rw [Nt.dl_one] at h3; omega
 obtain ⟨N, hN, hzN⟩ := hi
 refine zzl (args := [i1.v, .agg #[.bool false, y.v]]) Tryz.func180 rfl Tryz.ntmps180 (rs := [.cell 4 24, .cell 5 24, .tmp 6]) Tryz.results180 (le_b rfl) (le_b rfl) d ?_
 refine sq9 (zzj 2 ⟨24, i1.cs⟩ (zzj 3 ⟨24, [.bool false, y.v]⟩ (zzj 4 ⟨24, [.bool false, .slice none 0 0]⟩ (zzj 5 ⟨24, [.bool false, .slice none 0 0]⟩ (zza 6 (zI 0) (zzb (sq9 (zza 11 (.adr 2 1) (zzh 12 (.v (i1.m.v)) ty22 zzk (zza 13 (.adr 3 1) (zzh 14 (.v (y.v)) ty22 zzk ?_)))))))))))
 refine zzg 15 80 _ fun _ _ ap a2 => Post.mono (k_natDivMod a2 (hN.ext ap) (hy.ext ap) hM xq xq) ?_
 rintro _ u16 aO ⟨ad, aa, rfl, ao, ac⟩
 refine zza 10 (.v (.tuple #[ad.v, aa.v, .int .i64 0])) (zza 16 (.v (ad.v)) (zza 17 (.v (aa.v)) (zza 18 (zI 0) (zza 7 (.v (ad.v)) (zza 8 (.v (aa.v)) (zza 9 (zI 0) (zzb (zzd (sq9 (zza 19 (zI 0) (zza 20 (zB false) ?_)))))))))))
 refine zzb (zyr xj (zzr (zzo ?_)))
 refine zzd (sq9 (zza 24 (.adr 2 0) (zzh 25 (zB i1.s) ty4 zzk ?_)))
 rcases Bool.eq_false_or_eq_true i1.s with hs19 | hs19
 ·refine zyp 26 (x := zB i1.s) (zB true) (by rw [hs19]) (zza 27 (.v (aa.v)) ?_ (hw := w1 2 true 26))
  refine zza 28 (zI aa.n) ?_ (hw := w1 2 true 26)
  refine zza 29 (zB (decide ((0 : Int) < (aa.n : Int)))) ?_ (hw := w1 2 true 26)
  refine zza 30 (zB (decide ((0 : Int) < (aa.n : Int)))) (zzb (zzt (b := decide ((0 : Int) < (aa.n : Int))) xj (fun ab => ?_) (fun ab => ?_)))
  ·have qhb20 := of_decide_eq_true ab
   refine sq9 (zza 31 (.v (ad.v)) (zxw 32 ⟨104, [.int .u32 1]⟩ 1 (fun b21 u22 ak aQ => ?_)))
   refine zzg 33 155 _ fun _ _ ae aR => Post.mono (k_natAdd aR (ao.ext (ak.trans ae)).raw ((one_data aQ).ext ae).raw xq xq) ?_
   rintro _ u28 aB ⟨an, rfl, aM⟩
   refine zza 7 (.v (an.v)) (zzb (zzf (zza 34 (.adr 3 1) (zzh 35 (.v (y.v)) ty22 zzk (zza 36 (.v (aa.v)) (zzg 37 223 _ fun _ _ aj aX => Post.mono (k_natSub aX (hy.ext (ap.t (aO.t (ak.t (ae.t (aB.t aj)))))) (ac.ext (ak.t (ae.t (aB.t aj)))).raw xq xq) ?_))))))
   rintro _ u34 aF ⟨aq, rfl, aJ⟩
   refine zza 8 (.v (aq.v)) (zzc 47 [(2, .adr 2 0), (3, .adr 3 0), (4, .adr 4 0), (5, .adr 5 0), (7, .v (an.v)), (8, .v (aq.v))] [(2, ⟨24, i1.cs⟩), (3, ⟨24, [.bool false, y.v]⟩), (4, ⟨24, [.bool false, .slice none 0 0]⟩), (5, ⟨24, [.bool false, .slice none 0 0]⟩)] (sq9 (zza 38 (.adr 2 0) (zzh 39 (zB i1.s) ty4 zzk (zza 40 (.adr 3 0) (zzh 41 (zB false) ty4 zzk (zza 42 (zB (!(i1.s == false))) (zza 43 (.v (an.v)) (zzg 44 222 _ fun _ _ aA a0 => Post.mono (k_signed a0 (s := !(i1.s == false)) (aM.ext (aj.t (aF.t aA)))) ?_)))))))))
   rintro _ u40 aN ⟨al, rfl, aE⟩
   refine zza 45 (.v (aq.v)) (zzg 46 222 _ fun _ _ ax a1 => Post.mono (k_signed a1 (s := false) (aJ.ext (aA.t (aN.t ax)))) ?_)
   rintro _ u46 aK ⟨am, rfl, aS⟩
   refine zzi ⟨24, al.cs⟩ ty24 ?_
   refine zzi ⟨24, am.cs⟩ ty24 ?_
   refine zza 6 (zI 0) (zzb (zzn (ret0 [al.v, am.v, .int .i64 0] ⟨zzq ty24 zze, zzq ty24 zze, zzp, trivial⟩ fun u49 ar => ?_)))
   have hrp := ac.pos
   have e9 := hs19
   have key := Nt.rdiv1 (N := N) hM xq
   have g1 := (aE.ext (ax.t (aK.t ar)))
   have g2 := (aS.ext ar)
   rw [e9] at g1
   rw [e9] at hzN
   have hK1 : 1 ≤ K := by have h2 := hN.size; have h3 := (Nt.dl_pos (x := N)).2 (by rcases Nat.eq_zero_or_pos N with e | e; (rw [e, Nat.zero_mod] at hrp; omega); exact e); omega
   rw [hzN]
   refine ⟨al, am, rfl, IntN.more (K := (max K 1 + 1)) ?_ xq, IntN.more (K := L) ?_ xq⟩
   ·rw [key.1]; exact g1
   rw [key.2]; exact g2
  have qhb20 := of_decide_eq_false ab
  refine zzr (zzo ?_)
  refine sq9 (zza 38 (.adr 2 0) (zzh 39 (zB i1.s) ty4 zzk (zza 40 (.adr 3 0) (zzh 41 (zB false) ty4 zzk (zza 42 (zB (!(i1.s == false))) (zza 43 (.v (ad.v)) (zzg 44 222 _ fun _ _ aw aZ => Post.mono (k_signed aZ (s := !(i1.s == false)) (ao.ext aw)) ?_)))))))
  rintro _ u54 aD ⟨af, rfl, aL⟩
  refine zza 45 (.v (aa.v)) (zzg 46 222 _ fun _ _ az aY => Post.mono (k_signed aY (s := false) (ac.ext (aw.t (aD.t az)))) ?_)
  rintro _ u60 aT ⟨ai, rfl, aH⟩
  refine zzi ⟨24, af.cs⟩ ty24 ?_
  refine zzi ⟨24, ai.cs⟩ ty24 ?_
  refine zza 6 (zI 0) (zzc 47 [(4, .adr 4 0), (5, .adr 5 0), (6, zI 0)] [(4, ⟨24, af.cs⟩), (5, ⟨24, ai.cs⟩)] (zzn (ret0 [af.v, ai.v, .int .i64 0] ⟨zzq ty24 zze, zzq ty24 zze, zzp, trivial⟩ fun u63 ay => ?_)))
  have hrp := ac.pos
  have key := Nt.rdiv0 (s := i1.s) (N := N) hM (by rintro ⟨k1, k2⟩; omega)
  have g1 := (aL.ext (az.t (aT.t ay)))
  have g2 := (aH.ext ay)
  rw [hzN]
  refine ⟨af, ai, rfl, IntN.more (K := K) ?_ xq, IntN.more (K := L) ?_ xq⟩
  ·rw [key.1]; exact g1
  rw [key.2]; exact g2
 refine zyp 26 (x := zB i1.s) (zB false) (by rw [hs19]) (zzm 27 (uw 2 true false 26) (zzm 28 (uw 2 true false 26) (zzm 29 (uw 2 true false 26) (zza 30 (zB false) (zzb (zyr xj (zzr (zzo ?_))))))))
 refine sq9 (zza 38 (.adr 2 0) (zzh 39 (zB i1.s) ty4 zzk (zza 40 (.adr 3 0) (zzh 41 (zB false) ty4 zzk (zza 42 (zB (!(i1.s == false))) (zza 43 (.v (ad.v)) (zzg 44 222 _ fun _ _ aC aW => Post.mono (k_signed aW (s := !(i1.s == false)) (ao.ext aC)) ?_)))))))
 rintro _ u68 aG ⟨ah, rfl, aI⟩
 refine zza 45 (.v (aa.v)) (zzg 46 222 _ fun _ _ av aU => Post.mono (k_signed aU (s := false) (ac.ext (aC.t (aG.t av)))) ?_)
 rintro _ u74 aP ⟨ag, rfl, aV⟩
 refine zzi ⟨24, ah.cs⟩ ty24 ?_
 refine zzi ⟨24, ag.cs⟩ ty24 ?_
 refine zza 6 (zI 0) (zzc 47 [(4, .adr 4 0), (5, .adr 5 0), (6, zI 0)] [(4, ⟨24, ah.cs⟩), (5, ⟨24, ag.cs⟩)] (zzn (ret0 [ah.v, ag.v, .int .i64 0] ⟨zzq ty24 zze, zzq ty24 zze, zzp, trivial⟩ fun u77 au => ?_)))
 have hrp := ac.pos
 have key := Nt.rdiv0 (s := i1.s) (N := N) hM (by rintro ⟨k1, k2⟩; rw [k1] at hs19; exact absurd hs19 xw)
 have g1 := (aI.ext (av.t (aP.t au)))
 have g2 := (aV.ext au)
 rw [hzN]
 refine ⟨ah, ag, rfl, IntN.more (K := K) ?_ xq, IntN.more (K := L) ?_ xq⟩
 ·rw [key.1]; exact g1
 rw [key.2]; exact g2
theorem k_double {u w : World} {i : IL} {z : Int} {K s : Nat} (d : Dat u w) (hi : IntV u i z K) (hK : K ≤ 100000000) (hs : s ≤ 65536) : Calls Tryz.prog 242 #[i.v, .int .i64 (s : Int)] w (Post u w fun v u' => ∃ y : Sl, v = .agg #[.bool i.s, y.v] ∧ IntV u' ⟨i.s, y⟩ (z * ((2 ^ s : Nat) : Int)) (K + s / 32 + 1)) := by
 refine zzl (args := [i.v, .int .i64 s]) Tryz.func242 rfl Tryz.ntmps242 (rs := [.cell 4 24]) Tryz.results242 (le_b rfl) (le_b rfl) d ?_
 refine sq9 (zzj 2 ⟨24, i.cs⟩ (zzj 4 ⟨24, [.bool false, .slice none 0 0]⟩ (zzb (zzd (zzy [0, 1, 0, 4, 0, 28, 63, 127] [(0, []), (1, []), (2, []), (3, []), (4, []), (5, []), (6, []), (7, [])] xj xj (zza 5 (.adr 2 0) (zzh 6 (zB i.s) ty4 zzk (zza 7 (.adr 2 1) (zzh 8 (.v (i.m.v)) ty22 zzk (zza 9 (zI s) (zzg 10 79 _ fun _ _ ad af => Post.mono (k_natShift (s := s) af ((IntV.abs hi).ext ad) xq xq) ?_)))))))))))
 rintro _ u14 g15 ⟨aa, rfl, ac⟩
 refine zza 11 (.v (.agg #[.bool i.s, aa.v])) (zzi ⟨24, [.bool i.s, aa.v]⟩ ty24 ?_)
 refine zzb (zzn (ret0 [.agg #[.bool i.s, aa.v]] ⟨zzq ty24 zze, trivial⟩ fun u17 ae => ?_))
 obtain ⟨N9, hN9, ab⟩ := hi
 refine ⟨aa, rfl, ?_⟩
 rw [ab, ← Nt.sg_mulN]
 have h9 := IntV.same (s := i.s) (ac.ext ae).raw
 rw [ab] at h9
 exact h9
theorem k_onGrid {u w : World} {i : IL} {y : Sl} {z : Int} {D K L s : Nat} (d : Dat u w) (hi : IntV u i z K) (hy : NatV u y D L) (hD : 0 < D) (hK : K ≤ 10000000) (hL : L ≤ 10000000) (hs : s ≤ 65536) : Calls Tryz.prog 243 #[i.v, y.v, .int .i64 (s : Int)] w (Post u w fun v u' => ∃ r : RL, v = r.v ∧ RatN u' r (mkRat (z / (D : Int)) (2 ^ s)) (K + s / 32 + 3)) := by
 have an : 0 < 1 * 2 ^ s := by rw [Nat.one_mul]; exact Nat.pow_pos xw
 refine zzl (args := [i.v, y.v, .int .i64 s]) Tryz.func243 rfl Tryz.ntmps243 (rs := [.cell 6 26]) Tryz.results243 (le_b rfl) (le_b rfl) d ?_
 refine sq9 (zzj 3 ⟨24, i.cs⟩ (zzj 6 ⟨26, zw3⟩ (zzb (zzd (zzy [0, 0, 2, 7, 15, 31, 31, 31, 0, 0, 831, 1919, 4095] [(0, []), (1, []), (8, []), (9, []), (2, []), (3, []), (4, []), (5, []), (6, []), (7, []), (10, []), (11, []), (12, [])] xj xj (zzh 11 (.v (i.v)) ty24 zze (zza 12 (.v (y.v)) (zzj 7 ⟨24, [.bool false, .slice none 0 0]⟩ (zzj 8 ⟨24, [.bool false, .slice none 0 0]⟩ (zzg 13 195 _ fun _ _ aj az => Post.mono (k_natural (x := y) az) ?_))))))))))
 rintro _ u12 ah rfl
 refine zzg 14 180 _ fun _ _ ai al => Post.mono (k_intDivP al (hi.ext (aj.t (ah.t ai))) (hy.ext (aj.t (ah.t ai))) hD xq xq) ?_
 rintro _ u20 g21 ⟨ab, ac, rfl, am, h19⟩
 refine zza 10 (.v (.tuple #[ab.v, ac.v, .int .i64 0])) (zza 15 (.v (ab.v)) (zza 16 (.v (ac.v)) (zza 17 (zI 0) (zzi ⟨24, ab.cs⟩ ty24 ?_))))
 refine zzi ⟨24, ac.cs⟩ ty24 ?_
 refine zza 9 (zI 0) (zzb (zzd (zzy [0, 0, 0, 6, 15, 31, 63] [(0, []), (1, []), (2, []), (3, [19]), (4, []), (5, []), (6, [])] xj xj (zzh 18 (.v (ab.v)) ty24 zze (sy_lit 19 ⟨104, [.int .u32 1]⟩ 1 ?_)))))
 refine zza 20 (zI s) (zyn 21 79 [.slc 19 0 1 1, zI s] [19] (.inr rfl) (pub_mk xz) (k := ?_))
 intro ae w23 ak au aq aw
 have af : ak.heap[ae 19]? = some (.cells #[.int .u32 1] 104 (0, 0)) := aw 19 (by simp) _ rfl
 obtain ⟨b24, aa⟩ : ∃ b, ae 19 = b := ⟨_, rfl⟩
 rw [aa] at af
 show Calls _ _ #[.slice (some ⟨ae 19, 0, none⟩) 1 1, .int .i64 (s : Int)] _ _
 rw [aa]
 have k30 := k_natShift (s := s) aq (one_data af).raw xq xq
 with_reducible refine zPm k30 ?_
 rintro _ u28 av ⟨ay, rfl, ar⟩
 refine zza 22 (.v (.agg #[.bool ab.s, ab.m.v, ay.v])) (zzg 23 148 _ fun _ _ ag ax => Post.mono (k_lowest ax (am.ext (au.t (av.t ag))).raw (ar.ext ag).raw an xq xq) ?_)
 rintro _ u34 g35 ⟨ad, rfl, ap⟩
 refine zzi ⟨26, ad.cs⟩ ty26 ?_
 refine zzb (zzn (ret0 [ad.v] ⟨zzq ty26 zze, trivial⟩ fun u37 ao => ?_))
 refine ⟨ad, rfl, RatN.more (K := (max (K + 1) (1 + s / 32 + 1))) ?_ xq⟩
 have h9 := (ap.ext ao)
 rw [Nat.one_mul] at h9
 exact h9
set_option maxHeartbeats 1000000 in
theorem k_downG {u w : World} {r : RL} {q : Rat} {K : Nat} {k : Nat} (hk : k ≤ 256) (d : Dat u w) (hr : RatV u r q K) (hK : K ≤ 1000000) : Calls Tryz.prog 252 #[r.v, .int .i64 (k : Int)] w (Post u w fun v u' => ∃ p : RL, v = .tuple #[p.v, .int .i64 0] ∧ RatN u' p (Nt.dnQ q k) (K + 20)) := by
 refine zzl (args := [r.v, .int .i64 k]) Tryz.func252 rfl Tryz.ntmps252 (rs := [.cell 4 26, .tmp 5]) Tryz.results252 (le_b rfl) (le_b rfl) d ?_
 refine sq9 (zzj 2 ⟨26, r.cs⟩ (zzj 4 ⟨26, zw3⟩ (zza 5 (zI 0) (zzb (zzd (sq9 (zza 7 (zI k) (zza 8 (zB (decide ((k : Int) < 0))) (zqB 9 (show (decide ((k : Int) < 0)) = false from decide_eq_false xq) (zza 10 (zI k) ?_ (hw := w1 2 false 9)))))))))))
 refine zza 11 (zB (decide ((256 : Int) < (k : Int)))) ?_ (hw := w1 2 false 9)
 refine zza 12 (zB (decide ((256 : Int) < (k : Int)))) (zzb (zzt (b := decide ((256 : Int) < (k : Int))) xj (fun hb => ?_) (fun hb => ?_)))
 ·exact absurd hb (by rw [show (decide ((256 : Int) < (k : Int))) = false from decide_eq_false xq]; decide)
 clear hb
 refine zzr (zzo ?_)
 refine sq9 (zzh 14 (.v (r.v)) ty26 zze (zzg 15 147 _ fun _ _ ao al => Post.mono (k_read al (hr.ext ao)) ?_))
 rintro _ u14 g15 ⟨ab, ag, rfl, z13, D13, af, ad, aa, ae, an, ak⟩
 refine zzj 6 ⟨149, [.bool false, .slice none 0 0, .slice none 0 0, .bool false]⟩ (zzi ⟨149, ab.cs ++ [.bool ag]⟩ ty149 ?_)
 refine zzb (zzd (zzy [0, 1, 3, 0, 15, 0, 32, 96, 0, 511, 1023, 2047] [(0, []), (1, []), (2, []), (3, []), (5, []), (6, []), (7, []), (8, []), (4, []), (9, []), (10, []), (11, [])] xj xj (zza 16 (.adr 6 0) (zza 17 (.adr 6 0) (zzh 18 (.v (.agg #[.bool ab.s, ab.m.v])) ty24 zze (zza 19 (zI k) (zza 21 (.adr 6 0) (zza 22 (.adr 6 2) (zzh 23 (.v (ab.d.v)) ty22 zzk (zza 24 (zI k) (zzg 20 242 _ fun _ _ ah au => Post.mono (k_double (s := k) au (af.ext ah) xq xq) ?_)))))))))))
 rintro _ u20 ar ⟨y18, rfl, ap⟩
 refine zzg 25 243 _ fun _ _ ai am => Post.mono (k_onGrid (s := k) am (ap.ext ai) (ad.ext (ah.t (ar.t ai))) aa xq xq xq) ?_
 rintro _ u26 g27 ⟨ac, rfl, aj⟩
 refine zzi ⟨26, ac.cs⟩ ty26 ?_
 refine zza 5 (zI 0) (zzb (zzn (ret0 [ac.v, .int .i64 0] ⟨zzq ty26 zze, zzp, trivial⟩ fun u29 aq => ?_)))
 refine ⟨ac, rfl, RatN.more (K := ((K + k / 32 + 1) + k / 32 + 3)) ?_ xq⟩
 rw [ae, Nt.dn_mk aa]
 exact (aj.ext aq)
set_option maxHeartbeats 1000000 in
theorem k_upG {u w : World} {r : RL} {q : Rat} {K : Nat} {k : Nat} (hk : k ≤ 256) (d : Dat u w) (hr : RatV u r q K) (hK : K ≤ 1000000) : Calls Tryz.prog 253 #[r.v, .int .i64 (k : Int)] w (Post u w fun v u' => ∃ p : RL, v = .tuple #[p.v, .int .i64 0] ∧ RatN u' p (-Nt.dnQ (-q) k) (K + 20)) := by
 refine zzl (args := [r.v, .int .i64 k]) Tryz.func253 rfl Tryz.ntmps253 (rs := [.cell 4 26, .tmp 5]) Tryz.results253 (le_b rfl) (le_b rfl) d ?_
 refine sq9 (zzj 2 ⟨26, r.cs⟩ (zzj 4 ⟨26, zw3⟩ (zza 5 (zI 0) (zzb (sq9 (zzh 9 (.v (r.v)) ty26 zze (zzg 10 226 _ fun _ _ ag aj => Post.mono (k_flip (r := r) aj) ?_)))))))
 rintro _ u12 al rfl
 refine zza 11 (zI k) (zzg 12 252 _ fun _ _ ae af => Post.mono (k_downG (k := k) xq af ((flip_rat (hr.ext (ag.t al.ext))).ext ae) xq) ?_)
 rintro _ u18 g19 ⟨aa, rfl, ai⟩
 refine zza 8 (.v (.tuple #[aa.v, .int .i64 0])) (zza 13 (.v (aa.v)) (zza 14 (zI 0) (zzj 6 ⟨26, zw3⟩ (zzi ⟨26, aa.cs⟩ ty26 ?_))))
 refine zza 7 (zI 0) (zzb (zzd (sq9 (zza 15 (zI 0) (zza 16 (zB false) (zzb (zyr xj (zzr (zzo ?_)))))))))
 refine sq9 (zzh 19 (.v (aa.v)) ty26 zze (zzg 20 176 _ fun _ _ ak ad => Post.mono (k_ratNeg ad (ai.ext ak).raw xq) ?_))
 rintro _ u24 g25 ⟨ab, rfl, ah⟩
 refine zzi ⟨26, ab.cs⟩ ty26 ?_
 refine zza 5 (zI 0) (zzb (zzn (ret0 [ab.v, .int .i64 0] ⟨zzq ty26 zze, zzp, trivial⟩ fun u27 ac => ?_)))
 refine ⟨ab, rfl, RatN.more (K := (K + 20)) ?_ xq⟩
 exact (ah.ext ac)
theorem k_unit {u w : World} {k : Nat} (d : Dat u w) (hk : k ≤ 65536) : Calls Tryz.prog 27 #[.int .i64 (k : Int)] w (Post u w fun v u' => ∃ r : RL, v = r.v ∧ RatN u' r (((2 ^ k : Nat) : Int) : Rat) (k / 32 + 2)) := by
 refine zzl (args := [.int .i64 k]) Tryz.func27 rfl Tryz.ntmps27 (rs := [.cell 2 26]) Tryz.results27 (le_b rfl) (le_b rfl) d ?_
 refine sq9 (zzj 2 ⟨26, zw3⟩ (zzb (sq9 (zxw 3 ⟨104, [.int .u32 1]⟩ 1 (fun b11 u12 e13 ag => ?_)))))
 refine zza 4 (zI k) (zzg 5 96 _ fun _ _ ad ae => Post.mono (k_rnShift (s := k) ae ((one_data ag).ext ad).raw xq xq) ?_)
 rintro _ u18 g19 ⟨aa, rfl, ah⟩
 refine zza 6 (.v (.agg #[.bool false, aa.v])) (zxw 7 ⟨104, [.int .u32 1]⟩ 1 (fun ab u22 af ai => ?_))
 refine zza 8 (.v (.agg #[.bool false, aa.v, .slice (some ⟨ab, 0, none⟩) 1 1])) (zzi ⟨26, [.bool false, aa.v, .slice (some ⟨ab, 0, none⟩) 1 1]⟩ ty26 ?_)
 refine zzb (zzn (ret0 [.agg #[.bool false, aa.v, .slice (some ⟨ab, 0, none⟩) 1 1]] ⟨zzq ty26 zze, trivial⟩ fun u25 ac => ?_))
 refine ⟨(⟨false, aa, (⟨some ⟨ab, 0, none⟩, 1, 1⟩ : Sl)⟩ : RL), rfl, ?_⟩
 have h9 := whole_rat (nat_intN (ah.ext (af.trans ac))) ((one_data ai).ext ac)
 rw [Nat.one_mul] at h9
 exact h9.more xq
theorem k_floor {u w : World} {r : RL} {q : Rat} {K : Nat} (d : Dat u w) (hr : RatV u r q K) (hK : K ≤ 10000000) : Calls Tryz.prog 87 #[r.v] w (Post u w fun v u' => ∃ i : IL, v = i.v ∧ IntN u' i (Nt.flr q) (K + 1)) := by
 refine zzl (args := [r.v]) Tryz.func87 rfl Tryz.ntmps87 (rs := [.cell 2 24]) Tryz.results87 (le_b rfl) (le_b rfl) d ?_
 refine sq9 (zzj 1 ⟨26, r.cs⟩ (zzj 2 ⟨24, [.bool false, .slice none 0 0]⟩ (zzb (sq9 (zzh 9 (.v (r.v)) ty26 zze (zzg 10 92 _ fun _ _ an ap => Post.mono (k_parts ap (hr.ext an) xq) ?_))))))
 rintro _ u13 g14 ⟨ac, ad, z12, ak, rfl, ah, af, ab, ae, ao⟩
 refine zza 8 (.v (.tuple #[ac.v, ad.v])) (zza 11 (.v (ac.v)) (zza 12 (.v (ad.v)) (zzj 3 ⟨24, [.bool false, .slice none 0 0]⟩ (zzj 4 ⟨24, [.bool false, .slice none 0 0]⟩ (zzi ⟨24, ac.cs⟩ ty24 ?_)))))
 refine zzi ⟨24, ad.cs⟩ ty24 ?_
 refine zzb (sq9 (zzh 14 (.v (ac.v)) ty24 zze (zzh 15 (.v (ad.v)) ty24 zze (zzg 16 167 _ fun _ _ ai am => Post.mono (k_riDiv am (ah.ext ai) (af.ext ai).raw (show ((ak : Nat) : Int) ≠ 0 by have h9 := ab; omega) xq xq) ?_))))
 rintro _ u21 g22 ⟨aa, ag, rfl, al, h20⟩
 refine zza 13 (.v (.tuple #[aa.v, ag.v, .int .i64 0])) (zza 17 (.v (aa.v)) (zza 18 (.v (ag.v)) (zza 19 (zI 0) (zzj 5 ⟨24, [.bool false, .slice none 0 0]⟩ (zzj 6 ⟨24, [.bool false, .slice none 0 0]⟩ (zzi ⟨24, aa.cs⟩ ty24 ?_))))))
 refine zzi ⟨24, ag.cs⟩ ty24 ?_
 refine zza 7 (zI 0) (zzb (sq9 (zzh 20 (.v (aa.v)) ty24 zze (zzi ⟨24, aa.cs⟩ ty24 ?_))))
 refine zzb (zzn (ret0 [aa.v] ⟨zzq ty24 zze, trivial⟩ fun u24 aj => ?_))
 refine ⟨aa, rfl, IntN.more (K := (K + 1)) ?_ xq⟩
 rw [ae, Nt.flr_mk ab]
 exact (al.ext aj)
theorem k_bad {u w : World} {n : Int} (d : Dat u w) : Calls Tryz.prog 247 #[.int .i64 n] w (Post u w fun v _ => v = .bool (decide (n < 0 ∨ 256 < n))) := by
 refine zzl (args := [.int .i64 n]) Tryz.func247 rfl Tryz.ntmps247 (rs := [.tmp 2]) Tryz.results247 (le_b rfl) (le_b rfl) d ?_
 refine sq9 (zza 2 (zB false) (zzb (sq9 (zza 3 (zI n) (zza 4 (zB (decide (n < 0))) ?_)))))
 rcases Bool.eq_false_or_eq_true (decide (n < 0)) with hs11 | hs11
 ·refine zyp 5 (x := zB (decide (n < 0))) (zB true) (by rw [hs11]) ?_
  have qhs11 := of_decide_eq_true hs11
  refine zzm 6 (uw 2 false true 5) (zzm 7 (uw 2 false true 5) (zza 8 (zB true) (zza 2 (zB true) (zzb (zzn (ret0 [.bool true] ⟨zzp, trivial⟩ fun u12 e13 => ?_))))))
  show Value.bool _ = Value.bool _
  congr 1
  symm
  exact decide_eq_true (.inl (of_decide_eq_true hs11))
 refine zyp 5 (x := zB (decide (n < 0))) (zB false) (by rw [hs11]) ?_
 have qhs11 := of_decide_eq_false hs11
 refine zza 6 (zI n) ?_ (hw := w1 2 false 5)
 refine zza 7 (zB (decide ((256 : Int) < n))) ?_ (hw := w1 2 false 5)
 refine zza 8 (zB (decide ((256 : Int) < n))) (zza 2 (zB (decide ((256 : Int) < n))) (zzb (zzn (ret0 [.bool (decide ((256 : Int) < n))] ⟨zzp, trivial⟩ fun u14 e15 => ?_))))
 show Value.bool _ = Value.bool _
 congr 1
 symm
 have h9 := of_decide_eq_false hs11
 by_cases h8 : (256 : Int) < n
 ·rw [decide_eq_true h8]; exact decide_eq_true (.inr h8)
 rw [decide_eq_false h8]; exact decide_eq_false xq
set_option maxHeartbeats 1000000 in
theorem k_rdown {u w : World} {r : RL} {q : Rat} {K k : Nat} (hk : k ≤ 256) (d : Dat u w) (hr : RatV u r q K) (hK : K ≤ 1000000) : Calls Tryz.prog 248 #[r.v, .int .i64 (k : Int)] w (Post u w fun v u' => ∃ p : RL, v = p.v ∧ RatN u' p (Nt.dnQ q k) (K + 40)) := by
 refine zzl (args := [r.v, .int .i64 k]) Tryz.func248 rfl Tryz.ntmps248 (rs := [.cell 4 26]) Tryz.results248 (le_b rfl) (le_b rfl) d ?_
 refine sq9 (zzj 2 ⟨26, r.cs⟩ (zzj 4 ⟨26, zw3⟩ (zzb (sq9 (zza 6 (zI k) (zzg 7 27 _ fun _ _ ay az => Post.mono (k_unit (k := k) az xq) ?_))))))
 rintro _ u14 aw ⟨ac, rfl, ai⟩
 refine zzj 5 ⟨26, zw3⟩ (zzi ⟨26, ac.cs⟩ ty26 ?_)
 refine zzb (zzd (zzy [0, 0, 3, 7, 0, 31, 0, 127, 255] [(0, []), (1, []), (4, []), (6, []), (2, []), (3, []), (5, []), (7, [12, 13]), (8, [])] xj xj (zzh 8 (.v (r.v)) ty26 zze (zzh 9 (.v (ac.v)) ty26 zze (sy_lit 12 ⟨104, [.int .u32 1]⟩ 1 ?_)))))
 refine zzh 14 (.v (ac.v)) ty26 zze (zzg 10 25 _ fun _ _ ae ax => Post.mono (k_rqMul ax (hr.ext (ay.t (aw.t ae))) (ai.ext ae).raw xq xq) ?_)
 rintro _ u20 av ⟨r18, rfl, ap⟩
 refine zzg 11 87 _ fun _ _ ah ao => Post.mono (k_floor ao (ap.ext ah).raw xq) ?_
 rintro _ u26 ar ⟨ab, rfl, ak⟩
 refine zza 13 (.ags ab.cs 12 0 1 1) (zyn 15 88 [.ags ab.cs 12 0 1 1, .v (ac.v)] [12, 13] (.inr rfl) (pub_mk xz) (k := ?_))
 intro ad w29 an ag au aq
 have aj : an.heap[ad 12]? = some (.cells #[.int .u32 1] 104 (0, 0)) := aq 12 (by simp) _ rfl
 obtain ⟨b30, aa⟩ : ∃ b, ad 12 = b := ⟨_, rfl⟩
 rw [aa] at aj
 show Calls _ _ #[.agg #[.bool ab.s, .slice ab.m.a ab.m.n ab.m.c, .slice (some ⟨ad 12, 0, none⟩) 1 1], ac.v] _ _
 rw [aa]
 have k36 := k_rqOver au (rat_mk2 (s := ab.s) (ak.ext ag).raw (one_data aj).raw) (ai.ext (ae.t (av.t (ah.t (ar.t ag))))).raw xq xq
 with_reducible refine zPm k36 ?_
 rintro _ u34 g35 ⟨af, rfl, am⟩
 refine zzi ⟨26, af.cs⟩ ty26 ?_
 refine zzb (zzn (ret0 [af.v] ⟨zzq ty26 zze, trivial⟩ fun u37 al => ?_))
 refine ⟨af, rfl, RatN.more (K := ((max (max ((K + (k / 32 + 2) + 1) + 1) 1) 1) + (k / 32 + 2) + 2)) ?_ xq⟩
 unfold Nt.dnQ
 rw [Rat.mkRat_eq_div]
 have h9 := (am.ext al)
 rw [Nt.mk_one] at h9
 exact h9
set_option maxHeartbeats 1000000 in
theorem k_rdownG {u w : World} {r : RL} {q : Rat} {K : Nat} {k : Nat} (hk : k ≤ 256) (d : Dat u w) (hr : RatV u r q K) (hK : K ≤ 1000000) : Calls Tryz.prog 234 #[r.v, .int .i64 (k : Int)] w (Post u w fun v u' => ∃ p : RL, v = .tuple #[p.v, .int .i64 0] ∧ RatN u' p (Nt.dnQ q k) (K + 60)) := by
 refine zzl (args := [r.v, .int .i64 k]) Tryz.func234 rfl Tryz.ntmps234 (rs := [.cell 4 26, .tmp 5]) Tryz.results234 (le_b rfl) (le_b rfl) d ?_
 refine sq9 (zzj 2 ⟨26, r.cs⟩ (zzj 4 ⟨26, zw3⟩ (zza 5 (zI 0) (zzb (zzd (sq9 (zza 6 (zI k) (zzg 7 247 _ fun _ _ ae ah => Post.mono (k_bad (n := (k : Int)) ah) ?_))))))))
 rintro _ u12 ab rfl
 refine zzb (zzt (b := decide ((k : Int) < 0 ∨ 256 < (k : Int))) xj (fun hb => ?_) (fun hb => ?_))
 ·exact absurd hb (by rw [show (decide ((k : Int) < 0 ∨ 256 < (k : Int))) = false from decide_eq_false xq]; decide)
 clear hb
 refine zzr (zzo ?_)
 refine sq9 (zzh 9 (.v (r.v)) ty26 zze (zza 10 (zI k) (zzg 11 248 _ fun _ _ ac ad => Post.mono (k_rdown (k := k) xq ad (hr.ext (ae.t (ab.t ac))) xq) ?_)))
 rintro _ u18 g19 ⟨aa, rfl, ag⟩
 refine zzi ⟨26, aa.cs⟩ ty26 ?_
 refine zza 5 (zI 0) (zzb (zzn (ret0 [aa.v, .int .i64 0] ⟨zzq ty26 zze, zzp, trivial⟩ fun u21 af => ?_)))
 refine ⟨aa, rfl, RatN.more (K := (K + 40)) ?_ xq⟩
 exact (ag.ext af)
set_option maxHeartbeats 1000000 in
theorem k_rupG {u w : World} {r : RL} {q : Rat} {K : Nat} {k : Nat} (hk : k ≤ 256) (d : Dat u w) (hr : RatV u r q K) (hK : K ≤ 1000000) : Calls Tryz.prog 235 #[r.v, .int .i64 (k : Int)] w (Post u w fun v u' => ∃ p : RL, v = .tuple #[p.v, .int .i64 0] ∧ RatN u' p (-Nt.dnQ (-q) k) (K + 60)) := by
 refine zzl (args := [r.v, .int .i64 k]) Tryz.func235 rfl Tryz.ntmps235 (rs := [.cell 4 26, .tmp 5]) Tryz.results235 (le_b rfl) (le_b rfl) d ?_
 refine sq9 (zzj 2 ⟨26, r.cs⟩ (zzj 4 ⟨26, zw3⟩ (zza 5 (zI 0) (zzb (zzd (sq9 (zza 6 (zI k) (zzg 7 247 _ fun _ _ am an => Post.mono (k_bad (n := (k : Int)) an) ?_))))))))
 rintro _ u12 ai rfl
 refine zzb (zzt (b := decide ((k : Int) < 0 ∨ 256 < (k : Int))) xj (fun hb => ?_) (fun hb => ?_))
 ·exact absurd hb (by rw [show (decide ((k : Int) < 0 ∨ 256 < (k : Int))) = false from decide_eq_false xq]; decide)
 clear hb
 refine zzr (zzo ?_)
 refine sq9 (zzh 9 (.v (r.v)) ty26 zze (zzg 10 39 _ fun _ _ ak ab => Post.mono (k_rqNeg ab (hr.ext (am.t (ai.t ak))) xq) ?_))
 rintro _ u18 g19 ⟨r16, rfl, ac⟩
 refine zza 11 (zI k) (zzg 12 248 _ fun _ _ ag af => Post.mono (k_rdown (k := k) xq af (ac.ext ag).raw xq) ?_)
 rintro _ u24 g25 ⟨r22, rfl, ah⟩
 refine zzg 13 39 _ fun _ _ ae aj => Post.mono (k_rqNeg aj (ah.ext ae).raw xq) ?_
 rintro _ u30 g31 ⟨aa, rfl, ad⟩
 refine zzi ⟨26, aa.cs⟩ ty26 ?_
 refine zza 5 (zI 0) (zzb (zzn (ret0 [aa.v, .int .i64 0] ⟨zzq ty26 zze, zzp, trivial⟩ fun u33 al => ?_)))
 refine ⟨aa, rfl, RatN.more (K := (K + 40)) ?_ xq⟩
 exact (ad.ext al)
namespace Nt
theorem lo_neg (a b : Rat) : lo (-a) (-b) = -hi a b ∧ hi (-a) (-b) = -lo a b := by unfold lo hi; grind
theorem lohi9 (x y : Rat) : lo (lo x y) (hi x y) = lo x y ∧ hi (lo x y) (hi x y) = hi x y := lo_of_le (lo_le_hi x y)
theorem sub_ends (a b : Rat) (x : Rat) : x + lo (lo (-a) (-b)) (hi (-a) (-b)) = x - hi a b ∧ x + hi (lo (-a) (-b)) (hi (-a) (-b)) = x - lo a b := by
 rw [(lohi9 _ _).1, (lohi9 _ _).2, (lo_neg a b).1, (lo_neg a b).2, Rat.sub_eq_add_neg, Rat.sub_eq_add_neg]
 exact ⟨rfl, rfl⟩
def divO (x1 x2 y1 y2 : Rat) : Option (Rat × Rat) := if sgI y1 y2 = 0 then none else some (lo4 (x1 / y1) (x1 / y2) (x2 / y1) (x2 / y2), hi4 (x1 / y1) (x1 / y2) (x2 / y1) (x2 / y2))
def divE (y1 y2 : Rat) : Int := if sgI y1 y2 = 0 then 3 else 0
def rndO (x1 x2 : Rat) (n : Int) : Option (Rat × Rat) := if n < 0 ∨ 256 < n then none else some (dnQ (lo x1 x2) n.toNat, -dnQ (-hi x1 x2) n.toNat)
def rndE (n : Int) : Int := if n < 0 ∨ 256 < n then 1 else 0
end Nt
def OptI (u : World) (a b : RL) (o : Option (Rat × Rat)) (K : Nat) : Prop := match o with | none => a = rl0 ∧ b = rl0 | some (p, q) => RatN u a p K ∧ RatN u b q K
theorem OptI.ext {u u' : World} {a b : RL} {o : Option (Rat × Rat)} {K : Nat} (h : OptI u a b o K) (e : Ext u u') : OptI u' a b o K := by
 cases o with
 | none => exact h
 | some x => exact ⟨h.1.ext e, h.2.ext e⟩
theorem k_r4neg {u w : World} {a1 a2 : RL} {x1 x2 : Rat} {K : Nat} (d : Dat u w) (ha1 : RatV u a1 x1 K) (ha2 : RatV u a2 x2 K) (hK : K ≤ 4000000) : Calls Tryz.prog 210 #[IV a1 a2] w (Post u w fun v u' => ∃ p q : RL, v = IV p q ∧ RatN u' p (Nt.lo (-x1) (-x2)) K ∧ RatN u' q (Nt.hi (-x1) (-x2)) K) := by
 refine zzl (args := [.agg #[.bool a1.s, a1.m.v, a1.d.v, .bool a2.s, a2.m.v, a2.d.v]]) Tryz.func210 rfl Tryz.ntmps210 (rs := [.cell 2 32]) Tryz.results210 (le_b rfl) (le_b rfl) d ?_
 refine sq9 (zzj 1 ⟨32, a1.cs ++ a2.cs⟩ (zzj 2 ⟨32, zw6⟩ (zzb (zzd (zzy [0, 1, 3, 0, 8, 31, 63, 127] [(0, []), (1, []), (3, []), (4, []), (2, []), (5, []), (6, []), (7, [])] xj xj (zza 3 (.adr 1 0) (zzh 4 (.v (a1.v)) ty26 zze (zza 6 (.adr 1 3) (zzh 7 (.v (a2.v)) ty26 zze (zzg 5 39 _ fun _ _ af ao => Post.mono (k_rqNeg ao (ha1.ext af) xq) ?_))))))))))
 rintro _ u14 am ⟨r12, rfl, al⟩
 refine zzg 8 39 _ fun _ _ ad an => Post.mono (k_rqNeg an (ha2.ext (af.t (am.t ad))) xq) ?_
 rintro _ u20 ak ⟨r18, rfl, aj⟩
 refine zzg 9 38 _ fun _ _ ae ah => Post.mono (k_r4Make ah (al.ext (ad.t (ak.t ae))).raw (aj.ext ae).raw xq) ?_
 rintro _ u28 g29 ⟨aa, ab, rfl, ag, ai⟩
 refine zzi ⟨32, aa.cs ++ ab.cs⟩ ty32 ?_
 refine zzb (zzn (ret0 [.agg #[.bool aa.s, aa.m.v, aa.d.v, .bool ab.s, ab.m.v, ab.d.v]] ⟨zzq ty32 zze, trivial⟩ fun u31 ac => ?_))
 refine ⟨aa, ab, rfl, RatN.more (K := K) ?_ xq, RatN.more (K := K) ?_ xq⟩
 ·exact (ag.ext ac)
 exact (ai.ext ac)
theorem k_r4Sub {u w : World} {a1 a2 : RL} {x1 x2 : Rat} {b1 b2 : RL} {y1 y2 : Rat} {K L : Nat} (d : Dat u w) (ha1 : RatV u a1 x1 K) (ha2 : RatV u a2 x2 K) (hb1 : RatV u b1 y1 L) (hb2 : RatV u b2 y2 L) (hK : K ≤ 4000000) (hL : L ≤ 4000000) : Calls Tryz.prog 145 #[IV a1 a2, IV b1 b2] w (Post u w fun v u' => ∃ p q : RL, v = IV p q ∧ RatN u' p (Nt.lo x1 x2 - Nt.hi y1 y2) (K + L + 2) ∧ RatN u' q (Nt.hi x1 x2 - Nt.lo y1 y2) (K + L + 2)) := by
 refine zzl (args := [.agg #[.bool a1.s, a1.m.v, a1.d.v, .bool a2.s, a2.m.v, a2.d.v], .agg #[.bool b1.s, b1.m.v, b1.d.v, .bool b2.s, b2.m.v, b2.d.v]]) Tryz.func145 rfl Tryz.ntmps145 (rs := [.cell 4 32]) Tryz.results145 (le_b rfl) (le_b rfl) d ?_
 refine sq9 (zzj 2 ⟨32, a1.cs ++ a2.cs⟩ (zzj 3 ⟨32, b1.cs ++ b2.cs⟩ (zzj 4 ⟨32, zw6⟩ (zzb (zzd (zzy [0, 0, 2, 7, 15] [(0, []), (1, []), (2, []), (3, []), (4, [])] xj xj (zzh 5 (.v (.agg #[.bool a1.s, a1.m.v, a1.d.v, .bool a2.s, a2.m.v, a2.d.v])) ty32 zze (zzh 6 (.v (.agg #[.bool b1.s, b1.m.v, b1.d.v, .bool b2.s, b2.m.v, b2.d.v])) ty32 zze (zzg 7 210 _ fun _ _ ac ak => Post.mono (k_r4neg ak (hb1.ext ac) (hb2.ext ac) xq) ?_)))))))))
 rintro _ u16 af ⟨r12, r14, rfl, al, aj⟩
 refine zzg 8 43 _ fun _ _ ad ah => Post.mono (k_r4Add ah (ha1.ext (ac.t (af.t ad))) (ha2.ext (ac.t (af.t ad))) (al.ext ad).raw (aj.ext ad).raw xq xq) ?_
 rintro _ u24 g25 ⟨aa, ab, rfl, ag, ai⟩
 refine zzi ⟨32, aa.cs ++ ab.cs⟩ ty32 ?_
 refine zzb (zzn (ret0 [.agg #[.bool aa.s, aa.m.v, aa.d.v, .bool ab.s, ab.m.v, ab.d.v]] ⟨zzq ty32 zze, trivial⟩ fun u27 ae => ?_))
 refine ⟨aa, ab, rfl, RatN.more (K := (K + L + 2)) ?_ xq, RatN.more (K := (K + L + 2)) ?_ xq⟩
 ·rw [← (Nt.sub_ends y1 y2 _).1]; exact (ag.ext ae)
 rw [← (Nt.sub_ends y1 y2 _).2]; exact (ai.ext ae)
theorem k_r4Sign {u w : World} {a1 a2 : RL} {x1 x2 : Rat} {K : Nat} (d : Dat u w) (ha1 : RatV u a1 x1 K) (ha2 : RatV u a2 x2 K) (hK : K ≤ 4000000) : Calls Tryz.prog 112 #[IV a1 a2] w (Post u w fun v u' => v = .int .i64 (Nt.sgI x1 x2)) := by
 refine zzl (args := [.agg #[.bool a1.s, a1.m.v, a1.d.v, .bool a2.s, a2.m.v, a2.d.v]]) Tryz.func112 rfl Tryz.ntmps112 (rs := [.tmp 2]) Tryz.results112 (le_b rfl) (le_b rfl) d ?_
 refine sq9 (zzj 1 ⟨32, a1.cs ++ a2.cs⟩ (zza 2 (zI 0) (zzb (sq9 (zzh 3 (.v (.agg #[.bool a1.s, a1.m.v, a1.d.v, .bool a2.s, a2.m.v, a2.d.v])) ty32 zze (zzg 4 95 _ fun _ _ ae am => Post.mono (k_r4Trim am (ha1.ext ae) (ha2.ext ae) xq) ?_))))))
 rintro _ u16 g17 ⟨ac, ad, rfl, al, ai⟩
 refine zzi ⟨32, ac.cs ++ ad.cs⟩ ty32 ?_
 refine zzb (zzd (zzs (sq9 (zza 6 (.adr 1 0) (zzh 7 (.v (ac.v)) ty26 zze (zzg 8 29 _ fun _ _ af aj => Post.mono (k_rqSign aj (al.ext af).raw xq) ?_))))))
 rintro _ u20 ak rfl
 refine zza 9 (zB (decide ((0 : Int) < (Nt.sgQ (Nt.lo x1 x2))))) (zza 5 (zB (decide ((0 : Int) < (Nt.sgQ (Nt.lo x1 x2))))) (zzb (zzt (b := decide ((0 : Int) < (Nt.sgQ (Nt.lo x1 x2)))) xj (fun aa => ?_) (fun aa => ?_))))
 ·have qhb23 := of_decide_eq_true aa
  refine sq9 (zza 2 (zI 1) (zzb (zzn (zyt (zzv (ret0 [.int .i64 1] ⟨zzp, trivial⟩ fun u24 e25 => ?_))))))
  show _ = _
  unfold Nt.sgI
  rw [Nt.sgQ_gt] at aa
  rw [if_pos (of_decide_eq_true aa)]
  rfl
 have qhb23 := of_decide_eq_false aa
 refine sq9 (zza 11 (.adr 1 3) (zzh 12 (.v (ad.v)) ty26 zze (zzg 13 29 _ fun _ _ ag ah => Post.mono (k_rqSign ah (ai.ext (af.t (ak.t ag))).raw xq) ?_)))
 rintro _ u27 g28 rfl
 refine zza 14 (zB (decide ((Nt.sgQ (Nt.hi x1 x2)) < 0))) (zza 10 (zB (decide ((Nt.sgQ (Nt.hi x1 x2)) < 0))) (zzb (zzt (b := decide ((Nt.sgQ (Nt.hi x1 x2)) < 0)) xj (fun ab => ?_) (fun ab => ?_))))
 ·have qhb30 := of_decide_eq_true ab
  refine sq9 (zza 2 (zI (-1)) (zzb (zzn (zyt (zzv (ret0 [.int .i64 (-1)] ⟨zzp, trivial⟩ fun u31 e32 => ?_))))))
  show _ = _
  unfold Nt.sgI
  rw [Nt.sgQ_gt] at aa
  rw [if_neg (of_decide_eq_false aa)]
  rw [Nt.sgQ_lt] at ab
  rw [if_pos (of_decide_eq_true ab)]
  rfl
 have qhb30 := of_decide_eq_false ab
 refine zzr (zzo ?_)
 refine sq9 (zza 2 (zI 0) (zzb (zzn (ret0 [.int .i64 0] ⟨zzp, trivial⟩ fun u33 e34 => ?_))))
 show _ = _
 unfold Nt.sgI
 rw [Nt.sgQ_gt] at aa
 rw [if_neg (of_decide_eq_false aa)]
 rw [Nt.sgQ_lt] at ab
 rw [if_neg (of_decide_eq_false ab)]
 rfl
theorem k_r4Square {u w : World} {a1 a2 : RL} {x1 x2 : Rat} {K : Nat} (d : Dat u w) (ha1 : RatV u a1 x1 K) (ha2 : RatV u a2 x2 K) (hK : K ≤ 4000000) : Calls Tryz.prog 44 #[IV a1 a2] w (Post u w fun v u' => ∃ p q : RL, v = IV p q ∧ RatN u' p (if Nt.sgI x1 x2 = 0 then 0 else Nt.lo (x1 * x1) (x2 * x2)) (K + K + 3) ∧ RatN u' q (Nt.hi (x1 * x1) (x2 * x2)) (K + K + 3)) := by
 refine zzl (args := [.agg #[.bool a1.s, a1.m.v, a1.d.v, .bool a2.s, a2.m.v, a2.d.v]]) Tryz.func44 rfl Tryz.ntmps44 (rs := [.cell 2 32]) Tryz.results44 (le_b rfl) (le_b rfl) d ?_
 refine sq9 (zzj 1 ⟨32, a1.cs ++ a2.cs⟩ (zzj 2 ⟨32, zw6⟩ (zzb (zzd (zzy [0, 1, 0, 4, 15, 0, 32, 0, 128, 511, 1023, 0, 4095] [(0, []), (1, []), (2, []), (3, []), (5, []), (6, []), (7, []), (8, []), (11, []), (4, []), (9, []), (10, []), (12, [])] xj xj (zza 4 (.adr 1 0) (zzh 5 (.v (a1.v)) ty26 zze (zza 6 (.adr 1 0) (zzh 7 (.v (a1.v)) ty26 zze (zza 9 (.adr 1 3) (zzh 10 (.v (a2.v)) ty26 zze ?_)))))))))))
 refine zza 11 (.adr 1 3) (zzh 12 (.v (a2.v)) ty26 zze (zzj 3 ⟨32, zw6⟩ (zzg 8 25 _ fun _ _ ae aB => Post.mono (k_rqMul aB (ha1.ext ae) (ha1.ext ae) xq xq) ?_)))
 rintro _ u14 ai ⟨r12, rfl, ay⟩
 refine zzg 13 25 _ fun _ _ ag az => Post.mono (k_rqMul az (ha2.ext (ae.t (ai.t ag))) (ha2.ext (ae.t (ai.t ag))) xq xq) ?_
 rintro _ u20 ak ⟨r18, rfl, av⟩
 refine zzg 14 38 _ fun _ _ ah au => Post.mono (k_r4Make au (ay.ext (ag.t (ak.t ah))).raw (av.ext ah).raw xq) ?_
 rintro _ u28 an ⟨ac, aa, rfl, ap, al⟩
 refine zzi ⟨32, ac.cs ++ aa.cs⟩ ty32 ?_
 refine zzb (zzd (sq9 (zzh 15 (.v (.agg #[.bool a1.s, a1.m.v, a1.d.v, .bool a2.s, a2.m.v, a2.d.v])) ty32 zze (zzg 16 112 _ fun _ _ af aA => Post.mono (k_r4Sign aA (ha1.ext (ae.t (ai.t (ag.t (ak.t (ah.t (an.t af))))))) (ha2.ext (ae.t (ai.t (ag.t (ak.t (ah.t (an.t af))))))) xq) ?_))))
 rintro _ u32 aj rfl
 refine zza 17 (zB ((Nt.sgI x1 x2) == 0)) (zzb (zzt (b := (Nt.sgI x1 x2) == 0) xj (fun ad => ?_) (fun ad => ?_)))
 ·refine zzf (zzg 18 30 _ fun _ _ aq aw => Post.mono (k_rqOf aw (z := 0) xq xq) ?_)
  rintro _ u39 ar ⟨ab, rfl, ax⟩
  refine zza 19 (.adr 3 0) (zzi ⟨32, ab.cs ++ aa.cs⟩ ty26 ?_)
  refine zzb (sq9 (zzh 20 (.v (.agg #[.bool ab.s, ab.m.v, ab.d.v, .bool aa.s, aa.m.v, aa.d.v])) ty32 zze (zzi ⟨32, ab.cs ++ aa.cs⟩ ty32 ?_)))
  refine zzb (zzn (ret0 [.agg #[.bool ab.s, ab.m.v, ab.d.v, .bool aa.s, aa.m.v, aa.d.v]] ⟨zzq ty32 zze, trivial⟩ fun u42 am => ?_))
  refine ⟨ab, aa, rfl, RatN.more (K := 2) ?_ xq, RatN.more (K := (K + K + 1)) ?_ xq⟩
  ·rw [if_pos (by simpa using ad)]; exact (ax.ext am)
  exact (al.ext (af.t (aj.t (aq.t (ar.t am)))))
 refine zzr (zzo ?_)
 refine sq9 (zzh 20 (.v (.agg #[.bool ac.s, ac.m.v, ac.d.v, .bool aa.s, aa.m.v, aa.d.v])) ty32 zze (zzi ⟨32, ac.cs ++ aa.cs⟩ ty32 ?_))
 refine zzb (zzn (ret0 [.agg #[.bool ac.s, ac.m.v, ac.d.v, .bool aa.s, aa.m.v, aa.d.v]] ⟨zzq ty32 zze, trivial⟩ fun u44 ao => ?_))
 refine ⟨ac, aa, rfl, RatN.more (K := (K + K + 1)) ?_ xq, RatN.more (K := (K + K + 1)) ?_ xq⟩
 ·rw [if_neg (by simpa using ad)]; exact (ap.ext (af.t (aj.t ao)))
 exact (al.ext (af.t (aj.t ao)))
theorem k_ivDivO {u w : World} {a1 a2 b1 b2 : RL} {x1 x2 y1 y2 : Rat} {K L : Nat} (d : Dat u w) (ha1 : RatV u a1 x1 K) (ha2 : RatV u a2 x2 K) (hb1 : RatV u b1 y1 L) (hb2 : RatV u b2 y2 L) (hK : K ≤ 4000000) (hL : L ≤ 4000000) : Calls Tryz.prog 136 #[IV a1 a2, IV b1 b2] w (Post u w fun v u' => ∃ p q : RL, v = .tuple #[IV p q, .int .i64 (Nt.divE y1 y2)] ∧ OptI u' p q (Nt.divO x1 x2 y1 y2) (K + L + 20)) :=
 Post.mono (k_ivDiv d ha1 ha2 hb1 hb2 xq xq) fun v u' _ h => by
  rcases h with ⟨h0, h1⟩ | ⟨h0, p, q, h1, h2, h3⟩
  ·exact ⟨rl0, rl0, by unfold Nt.divE; rw [if_pos h0, h1]; rfl, by unfold Nt.divO; rw [if_pos h0]; exact ⟨rfl, rfl⟩⟩
  exact ⟨p, q, by unfold Nt.divE; rw [if_neg h0, h1], by unfold Nt.divO; rw [if_neg h0]; exact ⟨h2.more xq, h3.more xq⟩⟩
set_option maxHeartbeats 1000000 in
theorem k_ivRoundG {u w : World} {a1 a2 : RL} {x1 x2 : Rat} {K : Nat} {k : Nat} (hk : k ≤ 256) (d : Dat u w) (ha1 : RatV u a1 x1 K) (ha2 : RatV u a2 x2 K) (hK : K ≤ 100000) : Calls Tryz.prog 227 #[IV a1 a2, .int .i64 (k : Int)] w (Post u w fun v u' => ∃ p q : RL, v = .tuple #[IV p q, .int .i64 (Nt.rndE (k : Int))] ∧ OptI u' p q (Nt.rndO x1 x2 (k : Int)) (K + 70)) := by
 refine zzl (args := [.agg #[.bool a1.s, a1.m.v, a1.d.v, .bool a2.s, a2.m.v, a2.d.v], .int .i64 k]) Tryz.func227 rfl Tryz.ntmps227 (rs := [.cell 4 32, .tmp 5]) Tryz.results227 (le_b rfl) (le_b rfl) d ?_
 refine sq9 (zzj 2 ⟨32, a1.cs ++ a2.cs⟩ (zzj 4 ⟨32, zw6⟩ (zza 5 (zI 0) (zzb (zzd (sq9 (zza 12 (zI k) (zza 13 (zB (decide ((k : Int) < 0))) (zqB 14 (show (decide ((k : Int) < 0)) = false from decide_eq_false xq) (zza 15 (zI k) ?_ (hw := w1 2 false 14)))))))))))
 refine zza 16 (zB (decide ((256 : Int) < (k : Int)))) ?_ (hw := w1 2 false 14)
 refine zza 17 (zB (decide ((256 : Int) < (k : Int)))) (zzb (zzt (b := decide ((256 : Int) < (k : Int))) xj (fun hb => ?_) (fun hb => ?_)))
 ·exact absurd hb (by rw [show (decide ((256 : Int) < (k : Int))) = false from decide_eq_false xq]; decide)
 clear hb
 refine zzr (zzo ?_)
 refine sq9 (zzh 20 (.v (.agg #[.bool a1.s, a1.m.v, a1.d.v, .bool a2.s, a2.m.v, a2.d.v])) ty32 zze (zzg 21 208 _ fun _ _ ah ai => Post.mono (k_ends ai (ha1.ext ah) (ha2.ext ah) xq) ?_))
 rintro _ u17 g18 ⟨ad, ac, rfl, ap, am⟩
 refine zza 19 (.v (.tuple #[ad.v, ac.v])) (zza 22 (.v (ad.v)) (zza 23 (.v (ac.v)) (zzj 6 ⟨26, zw3⟩ (zzj 7 ⟨26, zw3⟩ (zzi ⟨26, ad.cs⟩ ty26 ?_)))))
 refine zzi ⟨26, ac.cs⟩ ty26 ?_
 refine zzb (sq9 (zzh 25 (.v (ad.v)) ty26 zze (zza 26 (zI k) (zzg 27 252 _ fun _ _ ag an => Post.mono (k_downG (k := k) xq an (ap.ext ag) xq) ?_))))
 rintro _ u23 ao ⟨aa, rfl, aq⟩
 refine zza 24 (.v (.tuple #[aa.v, .int .i64 0])) (zza 28 (.v (aa.v)) (zza 29 (zI 0) (zzj 8 ⟨26, zw3⟩ (zzi ⟨26, aa.cs⟩ ty26 ?_))))
 refine zza 9 (zI 0) (zzb (sq9 (zzh 31 (.v (ac.v)) ty26 zze (zza 32 (zI k) (zzg 33 253 _ fun _ _ ae ak => Post.mono (k_upG (k := k) xq ak (am.ext (ag.t (ao.t ae))) xq) ?_)))))
 rintro _ u29 aj ⟨ab, rfl, al⟩
 refine zza 30 (.v (.tuple #[ab.v, .int .i64 0])) (zza 34 (.v (ab.v)) (zza 35 (zI 0) (zzj 10 ⟨26, zw3⟩ (zzi ⟨26, ab.cs⟩ ty26 ?_))))
 refine zza 11 (zI 0) (zzc 39 [(4, .adr 4 0), (8, .adr 8 0), (10, .adr 10 0)] [(4, ⟨32, zw6⟩), (8, ⟨26, aa.cs⟩), (10, ⟨26, ab.cs⟩)] (sq9 (zzh 36 (.v (aa.v)) ty26 zze (zzh 37 (.v (ab.v)) ty26 zze (zza 38 (.v (.agg #[.bool aa.s, aa.m.v, aa.d.v, .bool ab.s, ab.m.v, ab.d.v])) (zzi ⟨32, aa.cs ++ ab.cs⟩ ty32 ?_))))))
 refine zza 5 (zI 0) (zzb (zzn (ret0 [.agg #[.bool aa.s, aa.m.v, aa.d.v, .bool ab.s, ab.m.v, ab.d.v], .int .i64 0] ⟨zzq ty32 zze, zzp, trivial⟩ fun u32 af => ?_)))
 have h9 : ¬ ((k : Int) < 0 ∨ 256 < (k : Int)) := by omega
 refine ⟨aa, ab, by unfold Nt.rndE; rw [if_neg h9]; rfl, ?_⟩
 unfold Nt.rndO
 rw [if_neg h9, Int.toNat_natCast]
 exact ⟨RatN.more (K := (K + 20)) (aq.ext (ae.t (aj.t af))) xq, RatN.more (K := (K + 20)) (al.ext af) xq⟩
set_option maxHeartbeats 1000000 in
theorem k_r4RoundG {u w : World} {a1 a2 : RL} {x1 x2 : Rat} {K : Nat} {k : Nat} (hk : k ≤ 256) (d : Dat u w) (ha1 : RatV u a1 x1 K) (ha2 : RatV u a2 x2 K) (hK : K ≤ 100000) : Calls Tryz.prog 186 #[IV a1 a2, .int .i64 (k : Int)] w (Post u w fun v u' => ∃ p q : RL, v = .tuple #[IV p q, .int .i64 (Nt.rndE (k : Int))] ∧ OptI u' p q (Nt.rndO x1 x2 (k : Int)) (K + 70)) := by
 refine zzl (args := [.agg #[.bool a1.s, a1.m.v, a1.d.v, .bool a2.s, a2.m.v, a2.d.v], .int .i64 k]) Tryz.func186 rfl Tryz.ntmps186 (rs := [.cell 4 32, .tmp 5]) Tryz.results186 (le_b rfl) (le_b rfl) d ?_
 refine sq9 (zzj 2 ⟨32, a1.cs ++ a2.cs⟩ (zzj 4 ⟨32, zw6⟩ (zza 5 (zI 0) (zzb (sq9 (zzh 10 (.v (.agg #[.bool a1.s, a1.m.v, a1.d.v, .bool a2.s, a2.m.v, a2.d.v])) ty32 zze (zzg 11 95 _ fun _ _ ag aq => Post.mono (k_r4Trim aq (ha1.ext ag) (ha2.ext ag) xq) ?_)))))))
 rintro _ u16 g17 ⟨ad, af, rfl, ap, aj⟩
 refine zzi ⟨32, ad.cs ++ af.cs⟩ ty32 ?_
 refine zzb (sq9 (zza 13 (.adr 2 0) (zzh 14 (.v (ad.v)) ty26 zze (zza 15 (zI k) (zzg 16 234 _ fun _ _ ah an => Post.mono (k_rdownG (k := k) xq an (ap.ext ah).raw xq) ?_)))))
 rintro _ u22 am ⟨aa, rfl, ai⟩
 refine zza 12 (.v (.tuple #[aa.v, .int .i64 0])) (zza 17 (.v (aa.v)) (zza 18 (zI 0) (zzj 6 ⟨26, zw3⟩ (zzi ⟨26, aa.cs⟩ ty26 ?_))))
 refine zza 7 (zI 0) (zzb (zzd (sq9 (zza 19 (zI 0) (zza 20 (zB false) (zzb (zyr xj (zzr (zzo ?_)))))))))
 refine sq9 (zza 24 (.adr 2 3) (zzh 25 (.v (af.v)) ty26 zze (zza 26 (zI k) (zzg 27 235 _ fun _ _ ac al => Post.mono (k_rupG (k := k) xq al (aj.ext (ah.t (am.t ac))).raw xq) ?_))))
 rintro _ u28 ao ⟨ab, rfl, ak⟩
 refine zza 23 (.v (.tuple #[ab.v, .int .i64 0])) (zza 28 (.v (ab.v)) (zza 29 (zI 0) (zzj 8 ⟨26, zw3⟩ (zzi ⟨26, ab.cs⟩ ty26 ?_))))
 refine zza 9 (zI 0) (zzb (sq9 (zzh 30 (.v (aa.v)) ty26 zze (zzh 31 (.v (ab.v)) ty26 zze (zza 32 (.v (.agg #[.bool aa.s, aa.m.v, aa.d.v, .bool ab.s, ab.m.v, ab.d.v])) (zzi ⟨32, aa.cs ++ ab.cs⟩ ty32 ?_))))))
 refine zza 5 (zI 0) (zzc 33 [(4, .adr 4 0), (5, zI 0)] [(4, ⟨32, aa.cs ++ ab.cs⟩)] (zzn (ret0 [.agg #[.bool aa.s, aa.m.v, aa.d.v, .bool ab.s, ab.m.v, ab.d.v], .int .i64 0] ⟨zzq ty32 zze, zzp, trivial⟩ fun u31 ae => ?_)))
 have h9 : ¬ ((k : Int) < 0 ∨ 256 < (k : Int)) := by omega
 refine ⟨aa, ab, by unfold Nt.rndE; rw [if_neg h9]; rfl, ?_⟩
 unfold Nt.rndO
 rw [if_neg h9, Int.toNat_natCast]
 exact ⟨RatN.more (K := (K + 60)) (ai.ext (ac.t (ao.t ae))) xq, RatN.more (K := (K + 60)) (ak.ext ae) xq⟩
@[reducible] def SP (a b : IL) : Value := .agg #[.bool a.s, .slice a.m.a a.m.n a.m.c, .bool b.s, .slice b.m.a b.m.n b.m.c]
namespace Nt
theorem pw_u2 (k : Nat) : pw k = u2 (32 * k) := by
 induction k with
 | zero => rfl
 | succ k ih =>
  have h : u2 (32 * (k + 1)) = u2 (32 * k) * u2 32 := by rw [← u2_add]; rfl
  have e : u2 32 = 4294967296 := by decide +kernel
  show 4294967296 * pw k = _
  rw [ih, h, e, Int.mul_comm]
theorem dl_u2 {z : Int} {L b : Nat} (h0 : -(u2 b) ≤ z) (h1 : z ≤ u2 b) (h : b < 32 * L) : dl z.natAbs ≤ L := by
 refine dl_le ?_
 rw [pw_u2]
 have h2 := u2_mono (a := b + 1) (b := 32 * L) xq
 have h3 : u2 (b + 1) = u2 b * 2 := u2_add b 1
 have h4 := u2_pos b
 omega
theorem big {w : Nat} (hw : w ≤ 800) : 8 * u2 w + 1152921504606846976 ≤ u2 1000 := by
 have h1 := u2_mono hw
 have h2 : 8 * u2 800 + 1152921504606846976 ≤ u2 1000 := by decide +kernel
 omega
theorem cmp_le (x y : Int) : decide (cmpS x y ≤ 0) = decide (x ≤ y) := by
 rw [decide_eq_decide]
 rcases cmp_range x y with ⟨e, h⟩ | ⟨e, h⟩ | ⟨e, h⟩ <;> rw [e] <;> omega
theorem cmp_ne (x y : Int) : (cmpS x y != 0) = decide (x ≠ y) := by
 rcases cmp_range x y with ⟨e, h⟩ | ⟨e, h⟩ | ⟨e, h⟩ <;> rw [e] <;> simp <;> omega
theorem csW_le {w : Nat} (hw : w ≤ 800) : csW w * ((w : Int) + 4) + 2 ≤ 1000000000 ∧ 0 ≤ csW w * ((w : Int) + 2) ∧ csW w * ((w : Int) + 2) ≤ 1000000000 := by
 have h0 : 0 ≤ csW w := by unfold csW; omega
 have h1 : csW w ≤ 411211 := by unfold csW; omega
 have h2 := Int.mul_le_mul h1 (show (w : Int) + 4 ≤ 804 by omega) xq xw
 have h3 := Int.mul_le_mul_of_nonneg_left (show (w : Int) + 2 ≤ (w : Int) + 4 by omega) h0
 have h4 := Int.mul_nonneg h0 (show 0 ≤ (w : Int) + 2 by omega)
 omega
theorem width_lt {lo hi : Int} {g w : Nat} (h : hi - lo ≤ 1000000000) (hw : g + 37 ≤ w) : hi - lo < u2 (w - g) := by
 have h1 := u2_mono (a := 37) (b := w - g) xq
 have h2 : u2 37 = 137438953472 := by decide +kernel
 omega
theorem atR_bd {n w : Nat} {a b : Int} (h : AtR n w a b) (hn : 0 < n) : -(5 * (w : Int) + 8) ≤ a ∧ a ≤ u2 w ∧ 0 ≤ b ∧ b ≤ u2 w + 5 * (w : Int) + 8 ∧ a ≤ b := by
 obtain ⟨⟨N, h1⟩, h2⟩ := h
 have h3 := h1 (N + 1) xq
 have k1 := atT_b (n := n) hn (m := N + 1) xq
 have k2 := atT_le hn 0
 have hU := castI_pos (u2_pos w)
 have h4 : alt (atT n) (N + 1) ≤ 1 := by
  refine Rat.le_trans k1.2 ?_
  refine Rat.le_trans (div_le_self (atP_nn hn 0) (cast_one xq)) ?_
  show 1 / (n : Rat) ≤ 1
  exact div_le_self xw (cast_one hn)
 have h5 := h3.lo_le (c := u2 w) (by
  have := Rat.mul_le_mul_of_nonneg_right h4 (Rat.le_of_lt hU)
  rwa [Rat.one_mul] at this)
 have h6 := h3.nonneg (by grind) (u2_pos w)
 have := h3.le
 omega
theorem coD_mul {j : Nat} (h : j ≤ 1000) : IntKind.i64.wrap (((2 * j + 2 : Nat) : Int) * ((2 * j + 2 - 1 : Nat) : Int)) = coD j ∧ coD j ≤ 10000000 := by
 have h1 := Nat.mul_le_mul (show 2 * j + 2 ≤ 2002 by omega) (show 2 * j + 1 ≤ 2001 by omega)
 have e : ((2 * j + 2 : Nat) : Int) * ((2 * j + 2 - 1 : Nat) : Int) = coD j := by
  unfold coD
  rw [Int.natCast_mul, show 2 * j + 2 - 1 = 2 * j + 1 by omega]
 have h2 : coD j ≤ 10000000 := by unfold coD; omega
 have h3 := coD_pos j
 rw [e]
 exact ⟨IntWalk.i64_in _ xq, h2⟩
theorem csR_bd {p q w : Nat} {a b : Int} (h : CsR p q w a b) (h0 : 0 < q) (hp : 2 * p ≤ q) (hw : w ≤ 800) : -(3 * u2 w) - 1000000000 ≤ a ∧ a ≤ 3 * u2 w ∧ -(3 * u2 w) ≤ b ∧ b ≤ 3 * u2 w + 1000000000 ∧ a ≤ b ∧ b - a ≤ 1000000000 := by
 have h9 := csW_le hw
 obtain ⟨⟨N, h1⟩, h2⟩ := h
 have h3 := h1 (N + 1) xq
 have h4 := cs_bd (N := N) (m := N + 1) h0 hp xq xq h3
 have := h3.le
 omega
theorem flo_of {X : Nat → Rat} {b w : Nat} {lo hi : Int} (h : ∃ N : Nat, ∀ m, N ≤ m → Enc (u2 w) lo hi (X m)) (hb : b ≤ w) (he : (cmpS (lo / u2 (w - b)) (hi / u2 (w - b)) != 0) = false) : lo / u2 (w - b) = flo X b := by
 rw [cmp_ne] at he
 have h1 : lo / u2 (w - b) = hi / u2 (w - b) := by simpa using he
 exact (FlO.of h hb rfl h1.symm).flo.symm
theorem not_yet {X : Nat → Rat} {b g w : Nat} {lo hi : Int} (hg : Gap X b g) (h : ∃ N : Nat, ∀ m, N ≤ m → Enc (u2 w) lo hi (X m)) (hw : hi - lo ≤ 1000000000) (he : (cmpS (lo / u2 (w - b)) (hi / u2 (w - b)) != 0) = true) : w < g + 37 := by
 rcases Nat.lt_or_ge w (g + 37) with k | k
 ·exact k
 have := hg.decides h xq (width_lt hw k)
 rw [cmp_ne] at he
 exact absurd this (by simpa using he)
theorem dnQ_int (z : Int) (b : Nat) : dnQ (z : Rat) b = (z : Rat) := by
 unfold dnQ
 have e : (z : Rat) * ((2 ^ b : Nat) : Rat) = ((z * ((2 ^ b : Nat) : Int) : Int) : Rat) := by rw [Rat.intCast_mul]; rfl
 have f : flr ((z * ((2 ^ b : Nat) : Int) : Int) : Rat) = z * ((2 ^ b : Nat) : Int) := by
  unfold flr
  show (z * ((2 ^ b : Nat) : Int)) / ((1 : Nat) : Int) = _
  exact Int.ediv_one _
 have hp : (2 ^ b : Nat) ≠ 0 := by have := Nat.pow_pos (n := b) (show 0 < 2 by decide); omega
 rw [e, f, Rat.mkRat_eq_div, Rat.intCast_mul]
 show (z : Rat) * ((2 ^ b : Nat) : Rat) / ((2 ^ b : Nat) : Rat) = _
 have : ((2 ^ b : Nat) : Rat) ≠ 0 := by
  have := cast_pos (Nat.pow_pos (n := b) (show 0 < 2 by decide))
  grind
 generalize ((2 ^ b : Nat) : Rat) = x at *
 grind
theorem rnd_pt {q : Rat} {k : Nat} (hk : k ≤ 256) : rndO (lo q q) (hi q q) (k : Int) = some (dnQ q k, -dnQ (-q) k) := by
 unfold rndO
 have e := lo_of_le (Rat.le_refl (a := q))
 rw [if_neg (show ¬ ((k : Int) < 0 ∨ 256 < (k : Int)) by omega), e.1, e.2, e.1, e.2, Int.toNat_natCast]
theorem cosA_0 {r q b : Nat} (h : r = 0) : cosA r q b = (dnQ ((1 : Int) : Rat) b, -dnQ (-((1 : Int) : Rat)) b) := by
 have e : -((1 : Int) : Rat) = ((-1 : Int) : Rat) := rfl
 unfold cosA
 rw [if_pos h, dnQ_int, e, dnQ_int]; rfl
theorem cosA_h {r q b : Nat} (h : ¬ r = 0) (h2 : 2 * r = q) : cosA r q b = (dnQ ((0 : Int) : Rat) b, -dnQ (-((0 : Int) : Rat)) b) := by
 have e : -((0 : Int) : Rat) = ((0 : Int) : Rat) := rfl
 unfold cosA
 rw [if_neg h, if_pos h2, e, dnQ_int]; rfl
theorem cosA_3 {r q b : Nat} (h : ¬ r = 0) (h2 : ¬ 2 * r = q) (h3 : 3 * r = q) : cosA r q b = (dnQ (((1 : Int) : Rat) / ((2 : Int) : Rat)) b, -dnQ (-(((1 : Int) : Rat) / ((2 : Int) : Rat))) b) := by
 unfold cosA
 rw [if_neg h, if_neg h2, if_pos h3]; rfl
theorem cosA_g {r q b : Nat} (h : ¬ r = 0) (h2 : ¬ 2 * r = q) (h3 : ¬ 3 * r = q) : cosA r q b = (gr b (flo (coN r q) b), gr b (flo (coN r q) b + 1)) := by
 unfold cosA
 rw [if_neg h, if_neg h2, if_neg h3]
theorem cosV_lo {p : Int} {q b r : Nat} (h : fold p q = r) (h2 : ¬ q < 2 * r) : cosV p q b = cosA r q b := by
 unfold cosV cosF; rw [h, if_neg h2]
theorem cosV_hi {p : Int} {q b r : Nat} (h : fold p q = r) (h2 : q < 2 * r) : cosV p q b = (-(cosA (q - r) q b).2, -(cosA (q - r) q b).1) := by
 unfold cosV cosF; rw [h, if_pos h2]
theorem fold_id {r q : Nat} (h : r ≤ q) : fold (r : Int) q = r := by
 unfold fold
 dsimp only
 rcases Nat.eq_zero_or_pos q with h0 | h0
 ·have : r = 0 := by omega
  subst this; subst h0; rfl
 rw [Int.tmod_eq_of_lt xq xq, if_neg xq]
 omega
theorem tmod_bd (p : Int) {q : Nat} (hq : 0 < q) : -(2 * (q : Int)) < Int.tmod p (2 * (q : Int)) ∧ Int.tmod p (2 * (q : Int)) < 2 * (q : Int) := ⟨Int.lt_tmod_of_pos p xq, Int.tmod_lt_of_pos p xq⟩
end Nt
theorem IntN.fit {u : World} {i : IL} {z : Int} {K L : Nat} (h : IntN u i z K) (k : dl z.natAbs ≤ L) : IntN u i z L := ⟨h.1, h.2.1, h.2.2.1, k⟩
theorem IntN.lim {u : World} {i : IL} {z : Int} {K : Nat} (h : IntN u i z K) (h0 : -(Nt.u2 1000) ≤ z) (h1 : z ≤ Nt.u2 1000) : IntN u i z 40 := h.fit (Nt.dl_u2 h0 h1 xw)
theorem IntN.lim2 {u : World} {i : IL} {z : Int} {K : Nat} (h : IntN u i z K) (h0 : -(Nt.u2 1000) ≤ z) (h1 : z ≤ Nt.u2 1000) : IntN u i z 42 := (h.lim h0 h1).more xw
end Go.Proofs.YtbolmkfphieogaaGreat
namespace Go.Proofs.YtbolmkfphieogaaGreat
namespace Nt
def irt (n : Nat) : Nat → Nat
 | 0 => 0
 | N + 1 => if (irt n N + 1) ^ n ≤ N + 1 then irt n N + 1 else irt n N
theorem irt_ok {n : Nat} (hn : 1 ≤ n) : ∀ N, irt n N ^ n ≤ N ∧ N < (irt n N + 1) ^ n
 | 0 => ⟨by show 0 ^ n ≤ 0; rw [Nat.zero_pow xq]; exact Nat.le_refl _, Nat.pow_pos xq⟩
 | N + 1 => by
  obtain ⟨h1, h2⟩ := irt_ok hn N
  have h3 := Nat.pow_lt_pow_left (show irt n N + 1 < irt n N + 1 + 1 by omega) (show n ≠ 0 by omega)
  unfold irt
  split
  ·exact ⟨by assumption, by omega⟩
  exact ⟨by omega, by omega⟩
theorem irt_uniq {n N r : Nat} (hn : 1 ≤ n) (h1 : r ^ n ≤ N) (h2 : N < (r + 1) ^ n) : r = irt n N := by
 obtain ⟨k1, k2⟩ := irt_ok hn N
 have a : r < irt n N + 1 := by
  rcases Nat.lt_or_ge r (irt n N + 1) with h | h
  ·exact h
  have := Nat.pow_le_pow_left h n; omega
 have b : irt n N < r + 1 := by
  rcases Nat.lt_or_ge (irt n N) (r + 1) with h | h
  ·exact h
  have := Nat.pow_le_pow_left h n; omega
 omega
theorem bern (r s : Int) (hr : 0 ≤ r) (hs : 0 ≤ s) : ∀ n : Nat, r ^ n * ((n + 1 : Nat) * s - n * r) ≤ s ^ (n + 1) := by
 intro n
 induction n with
 | zero => simp; rw [Int.pow_succ, Int.pow_zero, Int.one_mul]; exact Int.le_refl _
 | succ n ih =>
  have h1 := Int.mul_le_mul_of_nonneg_left ih hs
  have h2 : 0 ≤ (n + 1 : Int) * r ^ n * ((s - r) * (s - r)) := by
   refine Int.mul_nonneg (Int.mul_nonneg xq (Int.pow_nonneg hr)) ?_
   rcases Int.le_total 0 (s - r) with h | h
   ·exact Int.mul_nonneg h h
   exact Int.mul_nonneg_of_nonpos_of_nonpos h h
  have e1 : s ^ (n + 1 + 1) = s * s ^ (n + 1) := by rw [Int.pow_succ, Int.mul_comm]
  have e2 : r ^ (n + 1) = r ^ n * r := Int.pow_succ ..
  rw [e1, e2]
  refine Int.le_trans ?_ h1
  have e3 : s * (r ^ n * (((n + 1 : Nat) : Int) * s - (n : Int) * r)) - r ^ n * r * (((n + 1 + 1 : Nat) : Int) * s - ((n + 1 : Nat) : Int) * r) = (n + 1 : Int) * r ^ n * ((s - r) * (s - r)) := by
   rw [Int.natCast_add, Int.natCast_add, Int.natCast_add]
   generalize r ^ n = R at *
   grind
  omega
theorem newton_ge {n N r s : Nat} (hr : 0 < r) (hs : s ^ (n + 1) ≤ N) : s ≤ (n * r + N / r ^ n) / (n + 1) := by
 refine (Nat.le_div_iff_mul_le xq).2 ?_
 have hb := bern (r : Int) (s : Int) xq xq n
 rcases Nat.lt_or_ge (n * r) ((n + 1) * s) with h | h
 ·have h1 : (n + 1) * s - n * r ≤ N / r ^ n := by
   refine (Nat.le_div_iff_mul_le (Nat.pow_pos hr)).2 (Nat.le_trans ?_ hs)
   have h2 : ((((n + 1) * s - n * r) * r ^ n : Nat) : Int) ≤ ((s ^ (n + 1) : Nat) : Int) := by
    rw [Int.natCast_mul, Int.natCast_sub (Nat.le_of_lt h), Int.natCast_mul, Int.natCast_mul, Int.natCast_pow, Int.natCast_pow, Int.mul_comm]
    exact hb
   exact Int.ofNat_le.1 h2
  have e := Nat.mul_comm s (n + 1)
  rw [e]; omega
 have e := Nat.mul_comm s (n + 1)
 rw [e]
 exact Nat.le_trans h (Nat.le_add_right _ _)
theorem newton_end {n N r : Nat} (h : r ≤ (n * r + N / r ^ n) / (n + 1)) : r ^ (n + 1) ≤ N := by
 have h1 := (Nat.le_div_iff_mul_le xq).1 h
 rw [Nat.mul_add, Nat.mul_one, Nat.mul_comm r n] at h1
 have h2 : r ≤ N / r ^ n := by omega
 rcases Nat.eq_zero_or_pos r with h0 | h0
 ·rw [h0, Nat.zero_pow xq]; omega
 have := (Nat.le_div_iff_mul_le (Nat.pow_pos h0)).1 h2
 rw [Nat.pow_succ, Nat.mul_comm]; exact this
theorem newton_done {n N r : Nat} (hr : irt (n + 1) N ≤ r) (h : r ≤ (n * r + N / r ^ n) / (n + 1)) : r = irt (n + 1) N := by
 refine irt_uniq xq (newton_end h) ?_
 have := (irt_ok (n := n + 1) xq N).2
 exact Nat.lt_of_lt_of_le this (Nat.pow_le_pow_left xq _)
theorem newton_start {n N B : Nat} (hn : 1 ≤ n) (h : N < 2 ^ B) : irt n N ≤ 2 ^ ((B + n - 1) / n) := by
 rcases Nat.lt_or_ge (2 ^ ((B + n - 1) / n)) (irt n N) with h1 | h1
 ·exfalso
  have h2 := (irt_ok hn N).1
  have h3 := Nat.pow_le_pow_left (Nat.le_of_lt h1) n
  rw [← Nat.pow_mul] at h3
  have h4 : B ≤ (B + n - 1) / n * n := by
   have h5 := Nat.div_add_mod (B + n - 1) n
   have h6 := Nat.mod_lt (B + n - 1) (show 0 < n by omega)
   rw [Nat.mul_comm] at h5; omega
  have h7 := Nat.pow_le_pow_right (show 0 < 2 by decide) h4
  omega
 exact h1
theorem nw_ge {n N r : Nat} (hn : 1 ≤ n) (hr : 0 < r) : irt n N ≤ (r * (n - 1) + N / r ^ (n - 1)) / n := by
 obtain ⟨m, rfl⟩ : ∃ m, n = m + 1 := ⟨n - 1, by omega⟩
 have := newton_ge (n := m) hr (irt_ok (n := m + 1) xq N).1
 rw [Nat.mul_comm r]; exact this
theorem nw_done {n N r : Nat} (hn : 1 ≤ n) (h1 : irt n N ≤ r) (h : r ≤ (r * (n - 1) + N / r ^ (n - 1)) / n) : r = irt n N := by
 obtain ⟨m, rfl⟩ : ∃ m, n = m + 1 := ⟨n - 1, by omega⟩
 rw [Nat.mul_comm r] at h
 exact newton_done h1 h
theorem irt_pos {n N : Nat} (hn : 1 ≤ n) (h : 1 ≤ N) : 1 ≤ irt n N := by
 rcases Nat.eq_zero_or_pos (irt n N) with h0 | h0
 ·have := (irt_ok hn N).2
  rw [h0, Nat.zero_add, Nat.one_pow] at this
  omega
 exact h0
theorem cmp_geN (a b : Nat) : decide ((0 : Int) ≤ cmpS (a : Int) (b : Int)) = decide (b ≤ a) := by
 rw [decide_eq_decide]
 rcases cmp_range (a : Int) (b : Int) with ⟨e, h⟩ | ⟨e, h⟩ | ⟨e, h⟩ <;> rw [e] <;> omega
def BitI (n N k out : Nat) : Prop := out ^ n ≤ N ∧ N < (out + 2 ^ k) ^ n
theorem BitI.start {n N B : Nat} (hn : 1 ≤ n) (h : N < 2 ^ B) : BitI n N (B / n + 1) 0 := by
 refine ⟨by rw [Nat.zero_pow xq]; omega, ?_⟩
 rw [Nat.zero_add, ← Nat.pow_mul]
 refine Nat.lt_of_lt_of_le h (Nat.pow_le_pow_right xw ?_)
 have h5 := Nat.div_add_mod B n
 have h6 := Nat.mod_lt B (show 0 < n by omega)
 rw [Nat.add_mul, Nat.mul_comm]; omega
theorem BitI.yes {n N k out : Nat} (h : BitI n N (k + 1) out) (h1 : (out + 2 ^ k) ^ n ≤ N) : BitI n N k (out + 2 ^ k) := by
 refine ⟨h1, ?_⟩
 have h2 := h.2
 rw [Nat.pow_succ] at h2
 rwa [Nat.add_assoc, ← Nat.mul_two]
theorem BitI.no {n N k out : Nat} (h : BitI n N (k + 1) out) (h1 : ¬ (out + 2 ^ k) ^ n ≤ N) : BitI n N k out := ⟨h.1, by omega⟩
theorem BitI.done {n N out : Nat} (hn : 1 ≤ n) (h : BitI n N 0 out) : out = irt n N := irt_uniq hn h.1 h.2
end Nt
open Go.RowKit
set_option maxRecDepth 20000
namespace Nt
def rtD (q : Rat) (n b : Nat) : Nat := q.num.natAbs * 2 ^ (n * b) / q.den
def rtN (q : Rat) (n b : Nat) : Nat := irt n (rtD q n b)
def rtX (q : Rat) (n b : Nat) : Prop := q.num.natAbs * 2 ^ (n * b) % q.den = 0 ∧ rtN q n b ^ n = rtD q n b
instance (q : Rat) (n b : Nat) : Decidable (rtX q n b) := by unfold rtX; infer_instance
def rtH (q : Rat) (n b : Nat) : Int := if rtX q n b then (rtN q n b : Int) else (rtN q n b : Int) + 1
theorem sgQ_nn {q : Rat} (h : 0 ≤ q) : ¬ sgQ q < 0 := by
 intro h1
 have h2 := (sgQ_lt q).symm
 rw [decide_eq_true h1] at h2
 exact absurd (of_decide_eq_true h2) (Rat.not_lt.2 h)
theorem flo_of2 {X : Nat → Rat} {b w : Nat} {lo hi z : Int} (h : ∃ N : Nat, ∀ m, N ≤ m → Enc (u2 w) lo hi (X m)) (hb : b ≤ w) (h1 : lo / u2 (w - b) = z) (h2 : hi / u2 (w - b) = z) : flo X b = z := (FlO.of h hb h1 h2).flo
theorem rat_pow_cast (a : Nat) : ∀ n : Nat, ((a ^ n : Nat) : Rat) = (a : Rat) ^ n
 | 0 => by rw [Nat.pow_zero, Rat.pow_zero]; rfl
 | n + 1 => by rw [Nat.pow_succ, Rat.pow_succ, Rat.natCast_mul, rat_pow_cast a n]
theorem rat_mul_pow (a b : Rat) : ∀ n : Nat, (a * b) ^ n = a ^ n * b ^ n
 | 0 => by rw [Rat.pow_zero, Rat.pow_zero, Rat.pow_zero, Rat.mul_one]
 | n + 1 => by rw [Rat.pow_succ, Rat.pow_succ, Rat.pow_succ, rat_mul_pow a b n]; grind
theorem gr_pow (k z n : Nat) : gr k (z : Int) ^ n * ((2 ^ (n * k) : Nat) : Rat) = ((z ^ n : Nat) : Rat) := by
 have h := gr_mul k (z : Int)
 have e : (u2 k : Rat) = ((2 ^ k : Nat) : Rat) := rfl
 rw [e] at h
 rw [show n * k = k * n from Nat.mul_comm .., Nat.pow_mul, rat_pow_cast, rat_pow_cast z, ← rat_mul_pow, h]; rfl
theorem q_den {q : Rat} (h : 0 ≤ q) : q * (q.den : Rat) = (q.num.natAbs : Rat) := by
 have h1 : q * (q.den : Rat) = (q.num : Rat) := by
  have e : q = (q.num : Rat) / ((q.den : Int) : Rat) := by rw [mk_div]; exact (Rat.mkRat_self q).symm
  have := div_mul_c (x := (q.num : Rat)) (cast_pos q.den_pos)
  have e2 : (q.num : Rat) / (q.den : Rat) = q := e.symm
  rw [e2] at this; exact this
 have h2 : 0 ≤ q.num := Rat.num_nonneg.2 h
 rw [h1]
 have : ((q.num.natAbs : Nat) : Int) = q.num := by omega
 have e : ((q.num.natAbs : Nat) : Rat) = (((q.num.natAbs : Nat) : Int) : Rat) := rfl
 rw [e, this]
theorem rt_tight {q : Rat} {n k : Nat} (hq : 0 ≤ q) (hn : 1 ≤ n) : gr k (rtN q n k : Int) ^ n ≤ q ∧ q ≤ gr k (rtH q n k) ^ n ∧ (gr k (rtN q n k : Int) ^ n = q ↔ rtX q n k) := by
 have hd := q.den_pos
 have hdr := cast_pos hd
 have hp := cast_pos (Nat.pow_pos (n := n * k) (show 0 < 2 by decide))
 obtain ⟨a1, a2⟩ := irt_ok hn (rtD q n k)
 have b1 := Rat.natCast_le_natCast.2 ((Nat.le_div_iff_mul_le hd).1 a1)
 have b2 := Rat.natCast_lt_natCast.2 ((Nat.div_lt_iff_lt_mul hd).1 a2)
 rw [Rat.natCast_mul, Rat.natCast_mul, ← q_den hq] at b1 b2
 have g1 := gr_pow k (rtN q n k) n
 have g2 := gr_pow k (rtN q n k + 1) n
 have e1 : gr k (rtN q n k : Int) ^ n ≤ q := by
  refine Rat.le_of_mul_le_mul_right (c := ((2 ^ (n * k) : Nat) : Rat)) (Rat.le_of_mul_le_mul_right (c := (q.den : Rat)) ?_ hdr) hp
  rw [g1]
  have : q * ((2 ^ (n * k) : Nat) : Rat) * (q.den : Rat) = q * (q.den : Rat) * ((2 ^ (n * k) : Nat) : Rat) := by grind
  rw [this]; exact b1
 have e2 : q ≤ gr k ((rtN q n k + 1 : Nat) : Int) ^ n := by
  refine Rat.le_of_mul_le_mul_right (c := ((2 ^ (n * k) : Nat) : Rat)) (Rat.le_of_mul_le_mul_right (c := (q.den : Rat)) ?_ hdr) hp
  rw [g2]
  have : q * ((2 ^ (n * k) : Nat) : Rat) * (q.den : Rat) = q * (q.den : Rat) * ((2 ^ (n * k) : Nat) : Rat) := by grind
  rw [this]; exact Rat.le_of_lt b2
 have hx : gr k (rtN q n k : Int) ^ n = q ↔ rtX q n k := by
  have key : gr k (rtN q n k : Int) ^ n = q ↔ ((rtN q n k ^ n * q.den : Nat) : Rat) = ((q.num.natAbs * 2 ^ (n * k) : Nat) : Rat) := by
   rw [Rat.natCast_mul, Rat.natCast_mul, ← g1, ← q_den hq]
   have hd' : (q.den : Rat) ≠ 0 := by grind
   have hp' : ((2 ^ (n * k) : Nat) : Rat) ≠ 0 := by grind
   generalize gr k (rtN q n k : Int) ^ n = y at *
   generalize ((2 ^ (n * k) : Nat) : Rat) = P at *
   generalize (q.den : Rat) = D at *
   constructor
   ·intro h; rw [h]; grind
   intro h
   have : (y - q) * (P * D) = 0 := by grind
   rcases Rat.mul_eq_zero.1 this with h9 | h9
   ·grind
   rcases Rat.mul_eq_zero.1 h9 with h8 | h8
   ·exact absurd h8 hp'
   exact absurd h8 hd'
  rw [key, Rat.natCast_inj]
  unfold rtX
  have hm := Nat.div_add_mod (q.num.natAbs * 2 ^ (n * k)) q.den
  have eD : rtD q n k = q.num.natAbs * 2 ^ (n * k) / q.den := rfl
  rw [← eD] at hm
  constructor
  ·intro h
   rw [← h]
   refine ⟨Nat.mul_mod_left _ _, ?_⟩
   rw [eD, ← h, Nat.mul_div_cancel _ hd]
  rintro ⟨h1, h2⟩
  rw [h1] at hm
  rw [h2, Nat.mul_comm]; exact hm
 refine ⟨e1, ?_, hx⟩
 unfold rtH
 by_cases h : rtX q n k
 ·rw [if_pos h, hx.2 h]; exact Rat.le_refl
 rw [if_neg h]; exact e2
end Nt
section
variable {L : List (List Int)} {p l : List Int} {i n c b k : Nat} {u u' : World} {x : Sl} {cs : List Value}
theorem rows_nil : Rows k [] := fun q hq => by cases hq
theorem ir_cell4 (h : IrV 4 u x L) (hi : i < L.length) : ∃ b o, x.a = some ⟨b, o, none⟩ ∧ ∀ j, j < 4 → u.cell? ⟨b, o + i * 4 + j, none⟩ = some (.int .i64 (gi L i j)) := by
 obtain ⟨b, o, h1, h2, h3⟩ := ir_at h hi
 refine ⟨b, o, h1, fun j hj => ?_⟩
 rw [h3 j (by rw [zwi, h.rows.get hi]; exact hj), ics_at (by rw [h.rows.get hi]; exact hj)]
 rfl
end
namespace Nt
noncomputable section
def rSH (p q : Nat) : Rat × Rat := cosV (((2 * q : Nat) : Int) - 2 * (p : Int)) (2 * (2 * q)) 64
def rCH (p q : Nat) : Rat × Rat := cosV (p : Int) (2 * q) 64
def rSI (p q : Nat) : Rat × Rat := cosV (((q : Nat) : Int) - 2 * (p : Int)) (2 * q) 64
def rTA (p q : Nat) : Rat × Rat := (divO (rSH p q).1 (rSH p q).2 (rCH p q).1 (rCH p q).2).getD (0, 0)
def roT (p q k : Nat) : Int := coZ (rTA p q).1 (rTA p q).2 k
def roS (p q k : Nat) : Int := coZ (rSI p q).1 (rSI p q).2 k
structure RotOK (p q k : Nat) : Prop where
 g1 : GapQ (2 * (2 * q)) 64
 g2 : GapQ (2 * q) 64
 hs : sgI (rCH p q).1 (rCH p q).2 ≠ 0
 t0 : -2097152 ≤ roT p q k
 t1 : roT p q k ≤ 2097152
 s0 : -2097152 ≤ roS p q k
 s1 : roS p q k ≤ 2097152
def roL (i j p q k : Nat) : List (List Int) := [[(i : Int), (j : Int), roT p q k, (k : Int)], [(j : Int), (i : Int), -roS p q k, (k : Int)], [(i : Int), (j : Int), roT p q k, (k : Int)], [(j : Int), (j : Int), 0, -2]]
theorem RotOK.div {p q k : Nat} (h : RotOK p q k) : divE (rCH p q).1 (rCH p q).2 = 0 ∧ divO (rSH p q).1 (rSH p q).2 (rCH p q).1 (rCH p q).2 = some ((rTA p q).1, (rTA p q).2) := by
 constructor
 ·exact if_neg h.hs
 unfold rTA
 have : divO (rSH p q).1 (rSH p q).2 (rCH p q).1 (rCH p q).2 = _ := if_neg h.hs
 rw [this]; rfl
theorem flo_616 : flo (coN 6 16) 64 = xLo (cs8 6 16) / u2 (128 - 64) := flo_of2 (w := 128) (cs8_ok xw xw) xw rfl (by decide +kernel)
theorem flo_18 : flo (coN 1 8) 64 = xLo (cs8 1 8) / u2 (128 - 64) := flo_of2 (w := 128) (cs8_ok xw xw) xw rfl (by decide +kernel)
theorem flo_28 : flo (coN 2 8) 64 = xLo (cs8 2 8) / u2 (128 - 64) := flo_of2 (w := 128) (cs8_ok xw xw) xw rfl (by decide +kernel)
theorem rSH_14 : rSH 1 4 = (gr 64 (xLo (cs8 6 16) / u2 (128 - 64)), gr 64 (xLo (cs8 6 16) / u2 (128 - 64) + 1)) := by
 have h : fold 6 16 = 6 := by decide +kernel
 show cosV 6 16 64 = _
 rw [cosV_lo h xw, cosA_g xw xw xw, flo_616]
theorem rCH_14 : rCH 1 4 = (gr 64 (xLo (cs8 1 8) / u2 (128 - 64)), gr 64 (xLo (cs8 1 8) / u2 (128 - 64) + 1)) := by
 have h : fold 1 8 = 1 := by decide +kernel
 show cosV 1 8 64 = _
 rw [cosV_lo h xw, cosA_g xw xw xw, flo_18]
theorem rSI_14 : rSI 1 4 = (gr 64 (xLo (cs8 2 8) / u2 (128 - 64)), gr 64 (xLo (cs8 2 8) / u2 (128 - 64) + 1)) := by
 have h : fold 2 8 = 2 := by decide +kernel
 show cosV 2 8 64 = _
 rw [cosV_lo h xw, cosA_g xw xw xw, flo_28]
theorem roT_14 : roT 1 4 4 = 7 := by unfold roT rTA; rw [rSH_14, rCH_14]; decide +kernel
theorem roS_14 : roS 1 4 4 = 11 := by unfold roS; rw [rSI_14]; decide +kernel
theorem rotOK_14 : RotOK 1 4 4 := by
 refine ⟨gapQ_16 xw xw, gapQ_16 xw xw, ?_, ?_, ?_, ?_, ?_⟩
 ·rw [rCH_14]; decide +kernel
 ·rw [roT_14]; decide
 ·rw [roT_14]; decide
 ·rw [roS_14]; decide
 rw [roS_14]; decide
end
end Nt
end Go.Proofs.YtbolmkfphieogaaGreat
namespace Go.Proofs.YtbolmkfphieogaaGreat
open Go.RowKit
theorem k_intDivI {u w : World} {i1 i2 : IL} {z D : Int} {K L : Nat} (d : Dat u w) (h1 : IntV u i1 z K) (h2 : IntN u i2 D L) (hD : 0 < D) (hK : K ≤ 100000000) (hL : L ≤ 100000000) : Calls Tryz.prog 180 #[i1.v, i2.v] w (Post u w fun v u' => ∃ i j : IL, v = .tuple #[i.v, j.v, .int .i64 0] ∧ IntN u' i (z / D) (K + 1) ∧ IntN u' j (z % D) L) := by
 obtain ⟨s, y⟩ := i2
 have hs : s = false := by have h3 := h2.1; rw [decide_eq_false xq] at h3; exact h3
 subst hs
 have hd : ((D.natAbs : Nat) : Int) = D := by omega
 have := k_intDivP d h1 (y := y) (M := D.natAbs) h2.2.raw xq hK hL
 rw [hd] at this
 exact this
theorem k_intSub {u w : World} {i1 : IL} {zN : Int} {K : Nat} {i2 : IL} {zM : Int} {L : Nat} (d : Dat u w) (hi1 : IntV u i1 zN K) (hi2 : IntV u i2 zM L) (hK : K ≤ 400000000) (hL : L ≤ 400000000) : Calls Tryz.prog 233 #[i1.v, i2.v] w (Post u w fun v u' => ∃ i : IL, v = i.v ∧ IntN u' i (zN - zM) (max K L + 1)) := by
 obtain ⟨N, hN, hzN⟩ := hi1
 obtain ⟨M, hM, hzM⟩ := hi2
 refine zzl (args := [i1.v, i2.v]) Tryz.func233 rfl Tryz.ntmps233 (rs := [.cell 4 24]) Tryz.results233 (le_b rfl) (le_b rfl) d ?_
 refine sq9 (zzj 2 ⟨24, i1.cs⟩ (zzj 3 ⟨24, i2.cs⟩ (zzj 4 ⟨24, [.bool false, .slice none 0 0]⟩ (zzb (sq9 (zzh 5 (.v (i1.v)) ty24 zze (zza 6 (.adr 3 0) (zzh 7 (zB i2.s) ty4 zzk (zza 8 (zB (!i2.s)) (zza 9 (.adr 3 1) (zzh 10 (.v (i2.m.v)) ty22 zzk ?_)))))))))))
 refine zza 11 (.v (.agg #[.bool (!i2.s), i2.m.v])) (zzg 12 159 _ fun _ _ ab ae => Post.mono (k_intAdd ae (IntV.same (s := i1.s) (hN.ext ab)) (IntV.same (s := !i2.s) (hM.ext ab)) xq xq) ?_)
 rintro _ u14 g15 ⟨aa, rfl, ac⟩
 refine zzi ⟨24, aa.cs⟩ ty24 ?_
 refine zzb (zzn (ret0 [aa.v] ⟨zzq ty24 zze, trivial⟩ fun u17 ad => ?_))
 refine ⟨aa, rfl, IntN.more (K := (max K L + 1)) ?_ xq⟩
 have e9 : zN - zM = Nt.sg i1.s N + Nt.sg (!i2.s) M := by rw [hzN, hzM]; unfold Nt.sg; cases i1.s <;> cases i2.s <;> simp <;> omega
 rw [e9]
 exact (ac.ext ad)
theorem k_eUnit {u w : World} {k : Nat} (d : Dat u w) (hk : k ≤ 65536) : Calls Tryz.prog 161 #[.int .i64 (k : Int)] w (Post u w fun v u' => ∃ i : IL, v = SP i i ∧ IntN u' i (Nt.u2 k) (k / 32 + 2)) := by
 refine zzl (args := [.int .i64 k]) Tryz.func161 rfl Tryz.ntmps161 (rs := [.cell 2 160]) Tryz.results161 (le_b rfl) (le_b rfl) d ?_
 refine sq9 (zzj 2 ⟨160, [.bool false, .slice none 0 0, .bool false, .slice none 0 0]⟩ (zzb (sq9 (zxw 4 ⟨104, [.int .u32 1]⟩ 1 (fun b11 u12 e13 ad => ?_)))))
 refine zza 5 (zI k) (zzg 6 79 _ fun _ _ ac ab => Post.mono (k_natShift (s := k) ab ((one_data ad).ext ac).raw xq xq) ?_)
 rintro _ u18 g19 ⟨aa, rfl, af⟩
 refine zza 7 (.v (.agg #[.bool false, aa.v])) (zzj 3 ⟨24, [.bool false, .slice none 0 0]⟩ (zzi ⟨24, [.bool false, aa.v]⟩ ty24 ?_))
 refine zzb (sq9 (zzh 8 (.v (.agg #[.bool false, aa.v])) ty24 zze (zzh 9 (.v (.agg #[.bool false, aa.v])) ty24 zze (zza 10 (.v (.agg #[.bool false, aa.v, .bool false, aa.v])) (zzi ⟨160, [.bool false, aa.v, .bool false, aa.v]⟩ ty160 ?_)))))
 refine zzb (zzn (ret0 [.agg #[.bool false, aa.v, .bool false, aa.v]] ⟨zzq ty160 zze, trivial⟩ fun u21 ae => ?_))
 refine ⟨(⟨false, aa⟩ : IL), rfl, ?_⟩
 have h9 := nat_intN (af.ext ae)
 rw [Nat.one_mul] at h9
 exact h9.more xq
theorem k_eAdd {u w : World} {i j : IL} {a b : Int} {K : Nat} {k l : IL} {e f : Int} {L : Nat} (d : Dat u w) (hi : IntN u i a K) (hj : IntN u j b K) (hk : IntN u k e L) (hl : IntN u l f L) (hK : K ≤ 1000000) (hL : L ≤ 1000000) : Calls Tryz.prog 230 #[SP i j, SP k l] w (Post u w fun v u' => ∃ i j : IL, v = SP i j ∧ IntN u' i (a + e) (max K L + 1) ∧ IntN u' j (b + f) (max K L + 1)) := by
 refine zzl (args := [.agg #[.bool i.s, i.m.v, .bool j.s, j.m.v], .agg #[.bool k.s, k.m.v, .bool l.s, l.m.v]]) Tryz.func230 rfl Tryz.ntmps230 (rs := [.cell 4 160]) Tryz.results230 (le_b rfl) (le_b rfl) d ?_
 refine sq9 (zzj 2 ⟨160, i.cs ++ j.cs⟩ (zzj 3 ⟨160, k.cs ++ l.cs⟩ (zzj 4 ⟨160, [.bool false, .slice none 0 0, .bool false, .slice none 0 0]⟩ (zzb (zzd (zzy [0, 1, 0, 4, 15, 0, 32, 0, 128, 511, 1023, 2047] [(0, []), (1, []), (2, []), (3, []), (5, []), (6, []), (7, []), (8, []), (4, []), (9, []), (10, []), (11, [])] xj xj (zza 5 (.adr 2 0) (zzh 6 (.v (i.v)) ty24 zze (zza 7 (.adr 3 0) (zzh 8 (.v (k.v)) ty24 zze (zza 10 (.adr 2 2) ?_)))))))))))
 refine zzh 11 (.v (j.v)) ty24 zze (zza 12 (.adr 3 2) (zzh 13 (.v (l.v)) ty24 zze (zzg 9 159 _ fun _ _ ac ak => Post.mono (k_intAdd ak (hi.ext ac).raw (hk.ext ac).raw xq xq) ?_)))
 rintro _ u14 ae ⟨ab, rfl, ai⟩
 refine zzg 14 159 _ fun _ _ ad ah => Post.mono (k_intAdd ah (hj.ext (ac.t (ae.t ad))).raw (hl.ext (ac.t (ae.t ad))).raw xq xq) ?_
 rintro _ u20 aj ⟨aa, rfl, ag⟩
 refine zza 15 (.v (.agg #[.bool ab.s, ab.m.v, .bool aa.s, aa.m.v])) (zzi ⟨160, ab.cs ++ aa.cs⟩ ty160 ?_)
 refine zzb (zzn (ret0 [.agg #[.bool ab.s, ab.m.v, .bool aa.s, aa.m.v]] ⟨zzq ty160 zze, trivial⟩ fun u23 af => ?_))
 refine ⟨ab, aa, rfl, IntN.more (K := (max K L + 1)) ?_ xq, IntN.more (K := (max K L + 1)) ?_ xq⟩
 ·exact (ai.ext (ad.t (aj.t af)))
 exact (ag.ext af)
theorem k_eSub {u w : World} {i j : IL} {a b : Int} {K : Nat} {k l : IL} {e f : Int} {L : Nat} (d : Dat u w) (hi : IntN u i a K) (hj : IntN u j b K) (hk : IntN u k e L) (hl : IntN u l f L) (hK : K ≤ 1000000) (hL : L ≤ 1000000) : Calls Tryz.prog 184 #[SP i j, SP k l] w (Post u w fun v u' => ∃ i j : IL, v = SP i j ∧ IntN u' i (a - f) (max K L + 1) ∧ IntN u' j (b - e) (max K L + 1)) := by
 refine zzl (args := [.agg #[.bool i.s, i.m.v, .bool j.s, j.m.v], .agg #[.bool k.s, k.m.v, .bool l.s, l.m.v]]) Tryz.func184 rfl Tryz.ntmps184 (rs := [.cell 4 160]) Tryz.results184 (le_b rfl) (le_b rfl) d ?_
 refine sq9 (zzj 2 ⟨160, i.cs ++ j.cs⟩ (zzj 3 ⟨160, k.cs ++ l.cs⟩ (zzj 4 ⟨160, [.bool false, .slice none 0 0, .bool false, .slice none 0 0]⟩ (zzb (zzd (zzy [0, 1, 0, 4, 15, 0, 32, 0, 128, 511, 1023, 2047] [(0, []), (1, []), (2, []), (3, []), (5, []), (6, []), (7, []), (8, []), (4, []), (9, []), (10, []), (11, [])] xj xj (zza 5 (.adr 2 0) (zzh 6 (.v (i.v)) ty24 zze (zza 7 (.adr 3 2) (zzh 8 (.v (l.v)) ty24 zze (zza 10 (.adr 2 2) ?_)))))))))))
 refine zzh 11 (.v (j.v)) ty24 zze (zza 12 (.adr 3 0) (zzh 13 (.v (k.v)) ty24 zze (zzg 9 233 _ fun _ _ ac ak => Post.mono (k_intSub ak (hi.ext ac).raw (hl.ext ac).raw xq xq) ?_)))
 rintro _ u14 ae ⟨ab, rfl, ai⟩
 refine zzg 14 233 _ fun _ _ ad ah => Post.mono (k_intSub ah (hj.ext (ac.t (ae.t ad))).raw (hk.ext (ac.t (ae.t ad))).raw xq xq) ?_
 rintro _ u20 aj ⟨aa, rfl, ag⟩
 refine zza 15 (.v (.agg #[.bool ab.s, ab.m.v, .bool aa.s, aa.m.v])) (zzi ⟨160, ab.cs ++ aa.cs⟩ ty160 ?_)
 refine zzb (zzn (ret0 [.agg #[.bool ab.s, ab.m.v, .bool aa.s, aa.m.v]] ⟨zzq ty160 zze, trivial⟩ fun u23 af => ?_))
 refine ⟨ab, aa, rfl, IntN.more (K := (max K L + 1)) ?_ xq, IntN.more (K := (max K L + 1)) ?_ xq⟩
 ·exact (ai.ext (ad.t (aj.t af)))
 exact (ag.ext af)
theorem k_eTimes {u w : World} {i j : IL} {a b : Int} {K : Nat} {n9 : Nat} (d : Dat u w) (hi : IntN u i a K) (hj : IntN u j b K)  (hK : K ≤ 1000000) (hn : n9 ≤ 1000000000) : Calls Tryz.prog 183 #[SP i j, .int .i64 (n9 : Int)] w (Post u w fun v u' => ∃ i j : IL, v = SP i j ∧ IntN u' i (a * (n9 : Int)) (K + 2) ∧ IntN u' j (b * (n9 : Int)) (K + 2)) := by
 refine zzl (args := [.agg #[.bool i.s, i.m.v, .bool j.s, j.m.v], .int .i64 n9]) Tryz.func183 rfl Tryz.ntmps183 (rs := [.cell 4 160]) Tryz.results183 (le_b rfl) (le_b rfl) d ?_
 refine sq9 (zzj 2 ⟨160, i.cs ++ j.cs⟩ (zzj 4 ⟨160, [.bool false, .slice none 0 0, .bool false, .slice none 0 0]⟩ (zzb (zzd (zzy [0, 1, 0, 4, 15, 0, 32, 0, 159, 511, 1023, 2047] [(0, []), (1, []), (2, []), (5, []), (6, []), (7, []), (3, []), (4, []), (8, []), (9, []), (10, []), (11, [])] xj xj (zza 5 (.adr 2 0) (zzh 6 (.v (i.v)) ty24 zze (zza 7 (zI n9) (zza 10 (.adr 2 2) (zzh 11 (.v (j.v)) ty24 zze (zza 12 (zI n9) ?_)))))))))))
 refine zzg 8 160 _ fun _ _ ai ao => Post.mono (k_intOf ao (z := (n9 : Int)) xq xq) ?_
 rintro _ u14 ah ⟨i12, rfl, aq⟩
 refine zzg 9 194 _ fun _ _ ad au => Post.mono (k_intMul au (hi.ext (ai.t (ah.t ad))).raw (aq.ext ad).raw xq xq) ?_
 rintro _ u20 ap ⟨ab, rfl, am⟩
 refine zzg 13 160 _ fun _ _ ag al => Post.mono (k_intOf al (z := (n9 : Int)) xq xq) ?_
 rintro _ u26 af ⟨i24, rfl, aj⟩
 refine zzg 14 194 _ fun _ _ ac an => Post.mono (k_intMul an (hj.ext (ai.t (ah.t (ad.t (ap.t (ag.t (af.t ac))))))).raw (aj.ext ac).raw xq xq) ?_
 rintro _ u32 ak ⟨aa, rfl, ar⟩
 refine zza 15 (.v (.agg #[.bool ab.s, ab.m.v, .bool aa.s, aa.m.v])) (zzi ⟨160, ab.cs ++ aa.cs⟩ ty160 ?_)
 refine zzb (zzn (ret0 [.agg #[.bool ab.s, ab.m.v, .bool aa.s, aa.m.v]] ⟨zzq ty160 zze, trivial⟩ fun u35 ae => ?_))
 refine ⟨ab, aa, rfl, IntN.more (K := (K + 2)) ?_ xq, IntN.more (K := (K + 2)) ?_ xq⟩
 ·exact (am.ext (ag.t (af.t (ac.t (ak.t ae)))))
 exact (ar.ext ae)
theorem k_eOver {u w : World} {i j : IL} {a b : Int} {K : Nat} {l : IL} {D : Int} {L : Nat} (d : Dat u w) (hi : IntN u i a K) (hj : IntN u j b K) (hl : IntN u l D L) (hD : 0 < D) (hK : K ≤ 1000000) (hL : L ≤ 1000000) : Calls Tryz.prog 228 #[SP i j, l.v] w (Post u w fun v u' => ∃ i j : IL, v = SP i j ∧ IntN u' i (a / D) (K + 3) ∧ IntN u' j (Nt.cdiv b D) (K + 3)) := by
 refine zzl (args := [.agg #[.bool i.s, i.m.v, .bool j.s, j.m.v], l.v]) Tryz.func228 rfl Tryz.ntmps228 (rs := [.cell 4 160]) Tryz.results228 (le_b rfl) (le_b rfl) d ?_
 refine sq9 (zzj 2 ⟨160, i.cs ++ j.cs⟩ (zzj 3 ⟨24, l.cs⟩ (zzj 4 ⟨160, [.bool false, .slice none 0 0, .bool false, .slice none 0 0]⟩ (zzb (sq9 (zza 12 (.adr 2 0) (zzh 13 (.v (i.v)) ty24 zze (zzh 14 (.v (l.v)) ty24 zze (zzg 15 180 _ fun _ _ ah aD => Post.mono (k_intDivI aD (hi.ext ah).raw (hl.ext ah) hD xq xq) ?_)))))))))
 rintro _ u16 ao ⟨aa, aj, rfl, ar, h15⟩
 refine zza 11 (.v (.tuple #[aa.v, aj.v, .int .i64 0])) (zza 16 (.v (aa.v)) (zza 17 (.v (aj.v)) (zza 18 (zI 0) (zzj 5 ⟨24, [.bool false, .slice none 0 0]⟩ (zzj 6 ⟨24, [.bool false, .slice none 0 0]⟩ (zzi ⟨24, aa.cs⟩ ty24 ?_))))))
 refine zzi ⟨24, aj.cs⟩ ty24 ?_
 refine zza 7 (zI 0) (zzb (sq9 (zza 20 (.adr 2 2) (zzh 21 (.v (j.v)) ty24 zze (zzh 22 (.v (l.v)) ty24 zze (zzg 23 180 _ fun _ _ ai az => Post.mono (k_intDivI az (hj.ext (ah.t (ao.t ai))).raw (hl.ext (ah.t (ao.t ai))) hD xq xq) ?_))))))
 rintro _ u24 ap ⟨ab, ag, rfl, am, ax⟩
 refine zza 19 (.v (.tuple #[ab.v, ag.v, .int .i64 0])) (zza 24 (.v (ab.v)) (zza 25 (.v (ag.v)) (zza 26 (zI 0) (zzj 8 ⟨24, [.bool false, .slice none 0 0]⟩ (zzj 9 ⟨24, [.bool false, .slice none 0 0]⟩ (zzi ⟨24, ab.cs⟩ ty24 ?_))))))
 refine zzi ⟨24, ag.cs⟩ ty24 ?_
 refine zza 10 (zI 0) (zzb (zzd (sq9 (zzh 27 (.v (ag.v)) ty24 zze (zzg 28 146 _ fun _ _ ae ay => Post.mono (k_intSign ay (ax.ext ae).raw) ?_)))))
 rintro _ u28 af rfl
 refine zza 29 (zB ((Nt.cmpS (b % D) 0) != 0)) (zzc 36 [(4, .adr 4 0), (5, .adr 5 0), (8, .adr 8 0), (29, zB ((Nt.cmpS (b % D) 0) != 0))] [(4, ⟨160, [.bool false, .slice none 0 0, .bool false, .slice none 0 0]⟩), (5, ⟨24, aa.cs⟩), (8, ⟨24, ab.cs⟩)] (zzt (b := (Nt.cmpS (b % D) 0) != 0) xj (fun ac => ?_) (fun ac => ?_)))
 ·refine zzy [0, 0, 3, 7] [(0, []), (1, []), (2, []), (3, [])] xj xj (zzh 30 (.v (ab.v)) ty24 zze (zzg 31 160 _ fun _ _ al aw => Post.mono (k_intOf aw (z := 1) xq xq) ?_))
  rintro _ u35 aq ⟨i33, rfl, av⟩
  refine zzg 32 159 _ fun _ _ ak aB => Post.mono (k_intAdd aB (am.ext (ae.t (af.t (al.t (aq.t ak))))).raw (av.ext ak).raw xq xq) ?_
  rintro _ u41 aC ⟨ad, rfl, aA⟩
  refine zzi ⟨24, ad.cs⟩ ty24 ?_
  refine zzb (sq9 (zzh 33 (.v (aa.v)) ty24 zze (zzh 34 (.v (ad.v)) ty24 zze (zza 35 (.v (.agg #[.bool aa.s, aa.m.v, .bool ad.s, ad.m.v])) (zzi ⟨160, aa.cs ++ ad.cs⟩ ty160 ?_)))))
  refine zzb (zzn (ret0 [.agg #[.bool aa.s, aa.m.v, .bool ad.s, ad.m.v]] ⟨zzq ty160 zze, trivial⟩ fun u44 au => ?_))
  have h8 : ¬ b % D = 0 := by intro h7; rw [h7] at ac; exact absurd ac xw
  rw [Nt.cd_eq1 hD h8]
  refine ⟨aa, ad, rfl, IntN.more (K := (K + 1)) ?_ xq, IntN.more (K := (max (K + 1) 2 + 1)) ?_ xq⟩
  ·exact (ar.ext (ai.t (ap.t (ae.t (af.t (al.t (aq.t (ak.t (aC.t au)))))))))
  exact (aA.ext au)
 refine zzr (zzo ?_)
 refine sq9 (zzh 33 (.v (aa.v)) ty24 zze (zzh 34 (.v (ab.v)) ty24 zze (zza 35 (.v (.agg #[.bool aa.s, aa.m.v, .bool ab.s, ab.m.v])) (zzi ⟨160, aa.cs ++ ab.cs⟩ ty160 ?_))))
 refine zzb (zzn (ret0 [.agg #[.bool aa.s, aa.m.v, .bool ab.s, ab.m.v]] ⟨zzq ty160 zze, trivial⟩ fun u46 an => ?_))
 have h8 : b % D = 0 := by rw [Nt.cmp_ne] at ac; simpa using ac
 rw [Nt.cd_eq0 hD h8]
 refine ⟨aa, ab, rfl, IntN.more (K := (K + 1)) ?_ xq, IntN.more (K := (K + 1)) ?_ xq⟩
 ·exact (ar.ext (ai.t (ap.t (ae.t (af.t an)))))
 exact (am.ext (ae.t (af.t an)))
theorem k_eProd {u w : World} {i j : IL} {a b : Int} {K : Nat} {k l : IL} {e f : Int} {L p : Nat} (d : Dat u w) (hi : IntN u i a K) (hj : IntN u j b K) (hk : IntN u k e L) (hl : IntN u l f L) (hK : K ≤ 400000) (hL : L ≤ 400000) (hp : p ≤ 60000) : Calls Tryz.prog 229 #[SP i j, SP k l, .int .i64 (p : Int)] w (Post u w fun v u' => ∃ i j : IL, v = SP i j ∧ IntN u' i (a * e / Nt.u2 p) (K + L + 3) ∧ IntN u' j (Nt.cdiv (b * f) (Nt.u2 p)) (K + L + 3)) := by
 refine zzl (args := [.agg #[.bool i.s, i.m.v, .bool j.s, j.m.v], .agg #[.bool k.s, k.m.v, .bool l.s, l.m.v], .int .i64 p]) Tryz.func229 rfl Tryz.ntmps229 (rs := [.cell 6 160]) Tryz.results229 (le_b rfl) (le_b rfl) d ?_
 refine sq9 (zzj 3 ⟨160, i.cs ++ j.cs⟩ (zzj 4 ⟨160, k.cs ++ l.cs⟩ (zzj 6 ⟨160, [.bool false, .slice none 0 0, .bool false, .slice none 0 0]⟩ (zzb (zzd (zzy [0, 1, 0, 4, 15, 0, 32, 0, 128, 511, 1023, 0, 3071, 7167, 16383, 32767] [(0, []), (1, []), (2, []), (3, []), (5, []), (6, []), (7, []), (8, []), (11, []), (4, []), (9, []), (10, []), (12, []), (13, []), (14, []), (15, [])] xj xj (zza 7 (.adr 3 0) (zzh 8 (.v (i.v)) ty24 zze (zza 9 (.adr 4 0) (zzh 10 (.v (k.v)) ty24 zze (zza 12 (.adr 3 2) ?_)))))))))))
 refine zzh 13 (.v (j.v)) ty24 zze (zza 14 (.adr 4 2) (zzh 15 (.v (l.v)) ty24 zze (zza 18 (zI p) (zzg 11 194 _ fun _ _ ab ax => Post.mono (k_intMul ax (hi.ext ab).raw (hk.ext ab).raw xq xq) ?_))))
 rintro _ u14 ak ⟨af, rfl, au⟩
 refine zzg 16 194 _ fun _ _ ae aw => Post.mono (k_intMul aw (hj.ext (ab.t (ak.t ae))).raw (hl.ext (ab.t (ak.t ae))).raw xq xq) ?_
 rintro _ u20 ar ⟨aj, rfl, ap⟩
 refine zza 17 (.v (.agg #[.bool af.s, af.m.v, .bool aj.s, aj.m.v])) (zzg 19 161 _ fun _ _ ai ao => Post.mono (k_eUnit (k := p) ao xq) ?_)
 rintro _ u26 ah ⟨am, rfl, al⟩
 refine zza 20 (.v (am.v)) (zzg 21 228 _ fun _ _ ad aq => Post.mono (k_eOver aq (au.ext (ae.t (ar.t (ai.t (ah.t ad))))) (ap.ext (ai.t (ah.t ad))) (al.ext ad) (Nt.u2_pos p) xq xq) ?_)
 rintro _ u34 g35 ⟨aa, ac, rfl, av, an⟩
 refine zzi ⟨160, aa.cs ++ ac.cs⟩ ty160 ?_
 refine zzb (zzn (ret0 [.agg #[.bool aa.s, aa.m.v, .bool ac.s, ac.m.v]] ⟨zzq ty160 zze, trivial⟩ fun u37 ag => ?_))
 refine ⟨aa, ac, rfl, IntN.more (K := ((K + L) + 3)) ?_ xq, IntN.more (K := ((K + L) + 3)) ?_ xq⟩
 ·exact (av.ext ag)
 exact (an.ext ag)
theorem k_eWider {u w : World} {i j : IL} {a b : Int} {K : Nat}  (d : Dat u w) (hi : IntN u i a K) (hj : IntN u j b K)  (hK : K ≤ 1000000)  : Calls Tryz.prog 232 #[SP i j] w (Post u w fun v u' => ∃ i j : IL, v = SP i j ∧ IntN u' i (a - 1) (K + 3) ∧ IntN u' j (b + 1) (K + 3)) := by
 refine zzl (args := [.agg #[.bool i.s, i.m.v, .bool j.s, j.m.v]]) Tryz.func232 rfl Tryz.ntmps232 (rs := [.cell 2 160]) Tryz.results232 (le_b rfl) (le_b rfl) d ?_
 refine sq9 (zzj 1 ⟨160, i.cs ++ j.cs⟩ (zzj 2 ⟨160, [.bool false, .slice none 0 0, .bool false, .slice none 0 0]⟩ (zzb (sq9 (zzg 4 160 _ fun _ _ aj ap => Post.mono (k_intOf ap (z := 1) xq xq) ?_)))))
 rintro _ u14 ai ⟨ad, rfl, ah⟩
 refine zzj 3 ⟨24, [.bool false, .slice none 0 0]⟩ (zzi ⟨24, ad.cs⟩ ty24 ?_)
 refine zzb (zzd (zzy [0, 1, 0, 7, 0, 16, 0, 127, 255, 511] [(0, []), (1, []), (2, []), (4, []), (5, []), (6, []), (3, []), (7, []), (8, []), (9, [])] xj xj (zza 5 (.adr 1 0) (zzh 6 (.v (i.v)) ty24 zze (zzh 7 (.v (ad.v)) ty24 zze (zza 9 (.adr 1 2) (zzh 10 (.v (j.v)) ty24 zze (zzh 11 (.v (ad.v)) ty24 zze (zzg 8 233 _ fun _ _ ac ao => Post.mono (k_intSub ao (hi.ext (aj.t (ai.t ac))).raw (ah.ext ac).raw xq xq) ?_)))))))))
 rintro _ u20 ag ⟨ab, rfl, am⟩
 refine zzg 12 159 _ fun _ _ ae al => Post.mono (k_intAdd al (hj.ext (aj.t (ai.t (ac.t (ag.t ae))))).raw (ah.ext (ac.t (ag.t ae))).raw xq xq) ?_
 rintro _ u26 an ⟨aa, rfl, ak⟩
 refine zza 13 (.v (.agg #[.bool ab.s, ab.m.v, .bool aa.s, aa.m.v])) (zzi ⟨160, ab.cs ++ aa.cs⟩ ty160 ?_)
 refine zzb (zzn (ret0 [.agg #[.bool ab.s, ab.m.v, .bool aa.s, aa.m.v]] ⟨zzq ty160 zze, trivial⟩ fun u29 af => ?_))
 refine ⟨ab, aa, rfl, IntN.more (K := (max K 2 + 1)) ?_ xq, IntN.more (K := (max K 2 + 1)) ?_ xq⟩
 ·exact (am.ext (ae.t (an.t af)))
 exact (ak.ext af)
theorem k_eTiny {u w : World} {i j : IL} {a b : Int} {K : Nat}  (d : Dat u w) (hi : IntN u i a K) (hj : IntN u j b K)  (hK : K ≤ 1000000)  : Calls Tryz.prog 231 #[SP i j] w (Post u w fun v u' => v = .bool (decide (b ≤ 1))) := by
 refine zzl (args := [.agg #[.bool i.s, i.m.v, .bool j.s, j.m.v]]) Tryz.func231 rfl Tryz.ntmps231 (rs := [.tmp 2]) Tryz.results231 (le_b rfl) (le_b rfl) d ?_
 refine sq9 (zzj 1 ⟨160, i.cs ++ j.cs⟩ (zza 2 (zB false) (zzb (zzd (zzy [0, 1, 0, 7, 15, 31] [(0, []), (1, []), (2, []), (3, []), (4, []), (5, [])] xj xj (zza 3 (.adr 1 2) (zzh 4 (.v (j.v)) ty24 zze (zzg 5 160 _ fun _ _ ae af => Post.mono (k_intOf af (z := 1) xq xq) ?_))))))))
 rintro _ u14 ac ⟨i12, rfl, ad⟩
 refine zzg 6 181 _ fun _ _ aa ab => Post.mono (k_intCompare ab (hj.ext (ae.t (ac.t aa))).raw (ad.ext aa).raw) ?_
 rintro _ u18 g19 rfl
 refine zza 7 (zB (decide ((Nt.cmpS b 1) ≤ 0))) (zza 2 (zB (decide ((Nt.cmpS b 1) ≤ 0))) (zzb (zzn (ret0 [.bool (decide ((Nt.cmpS b 1) ≤ 0))] ⟨zzp, trivial⟩ fun u21 e22 => ?_))))
 show Value.bool _ = Value.bool _
 rw [Nt.cmp_le]
set_option maxHeartbeats 4000000 in
theorem k_arctan {u w : World} {n k : Nat} (d : Dat u w) (hn : 2 ≤ n) (hn2 : n ≤ 1000) (hk : k ≤ 800) : Calls Tryz.prog 182 #[.int .i64 (n : Int), .int .i64 (k : Int)] w (Post u w fun v u' => ∃ (i j : IL) (a b : Int), v = SP i j ∧ IntN u' i a 42 ∧ IntN u' j b 42 ∧ Nt.AtR n k a b) := by
 have hN2 : 4 ≤ n * n := Nat.mul_le_mul hn hn
 have hN3 : n * n ≤ 1000000 := Nat.mul_le_mul hn2 hn2
 have hnn : -9223372036854775808 ≤ (n : Int) * (n : Int) ∧ (n : Int) * (n : Int) ≤ 9223372036854775807 := by rw [← Int.natCast_mul]; omega
 have hbig := Nt.big hk
 have hu2 := Nt.u2_pos k
 refine zzl (args := [.int .i64 n, .int .i64 k]) Tryz.func182 rfl Tryz.ntmps182 (rs := [.cell 4 160]) Tryz.results182 (le_b rfl) (le_b rfl) d ?_
 refine sq9 (zzj 4 ⟨160, [.bool false, .slice none 0 0, .bool false, .slice none 0 0]⟩ (zzb (sq9 (zza 9 (zI k) (zzg 10 161 _ fun _ _ _ bg => Post.mono (k_eUnit (k := k) bg xq) ?_)))))
 rintro _ u14 g15 ⟨i12, rfl, a3⟩
 refine zza 11 (zI n) (zzg 12 160 _ fun _ _ aR bn => Post.mono (k_intOf bn (z := (n : Int)) xq xq) ?_)
 rintro _ u20 aS ⟨i18, rfl, bl⟩
 refine zzg 13 228 _ fun _ _ aN br => Post.mono (k_eOver br (a3.ext (aR.t (aS.t aN))) (a3.ext (aR.t (aS.t aN))) (bl.ext aN) xq xq xq) ?_
 rintro _ bf g29 ⟨aA, az, rfl, aT, aV⟩
 refine zzj 5 ⟨160, [.bool false, .slice none 0 0, .bool false, .slice none 0 0]⟩ (zzi ⟨160, aA.cs ++ az.cs⟩ ty160 ?_)
 refine zzb (sq9 (zzh 14 (.v (.agg #[.bool aA.s, aA.m.v, .bool az.s, az.m.v])) ty160 zze (zzj 6 ⟨160, [.bool false, .slice none 0 0, .bool false, .slice none 0 0]⟩ (zzi ⟨160, aA.cs ++ az.cs⟩ ty160 ?_))))
 refine zzb (sq9 (zza 7 (zI 3) (zzb (zzs (zym (I := fun aY S' u' => ∃ (j : Nat) (x1 : IL) (x2 : IL) (y1 : IL) (y2 : IL) (a : Int) (b : Int) (cc : Int) (dd : Int), (aY = b.toNat) ∧ (Nt.AtI n k j a b cc dd) ∧ (S' = St.of 40 [(0, zI n), (4, .adr 4 0), (5, .adr 5 0), (6, .adr 6 0), (7, zI (2 * j + 3 : Nat))] [(4, ⟨160, [.bool false, .slice none 0 0, .bool false, .slice none 0 0]⟩), (5, ⟨160, x1.cs ++ x2.cs⟩), (6, ⟨160, y1.cs ++ y2.cs⟩)]) ∧ (Ext bf u') ∧ (IntN u' x1 a 40) ∧ (IntN u' x2 b 40) ∧ (IntN u' y1 cc 40) ∧ (IntN u' y2 dd 40)) (fun m S u1 u2 e h => by obtain ⟨j, x1, x2, y1, y2, a, b, cc, dd, hm, p0, hS, hE, f0, f1, f2, f3⟩ := h; exact ⟨j, x1, x2, y1, y2, a, b, cc, dd, hm, p0, hS, hE.trans e, f0.ext e, f1.ext e, f2.ext e, f3.ext e⟩) _ yz ⟨0, aA, az, aA, az, ((Nt.u2 k) / (n : Int)), (Nt.cdiv (Nt.u2 k) (n : Int)), ((Nt.u2 k) / (n : Int)), (Nt.cdiv (Nt.u2 k) (n : Int)), rfl, (Nt.AtI.start xq), rfl, (Ext.refl _), (IntN.lim aT (by have h8 := (Nt.AtI.start (n := n) (w := k) xq).bd xq; omega) (by have h8 := (Nt.AtI.start (n := n) (w := k) xq).bd xq; omega)), (IntN.lim aV (by have h8 := (Nt.AtI.start (n := n) (w := k) xq).bd xq; have h9 := (Nt.AtI.start (n := n) (w := k) xq).p1; omega) (by have h8 := (Nt.AtI.start (n := n) (w := k) xq).bd xq; omega)), (IntN.lim aT (by have h8 := (Nt.AtI.start (n := n) (w := k) xq).bd xq; omega) (by have h8 := (Nt.AtI.start (n := n) (w := k) xq).bd xq; omega)), (IntN.lim aV (by have h8 := (Nt.AtI.start (n := n) (w := k) xq).bd xq; have h9 := (Nt.AtI.start (n := n) (w := k) xq).p1; omega) (by have h8 := (Nt.AtI.start (n := n) (w := k) xq).bd xq; omega))⟩ ?_)))))
 rintro aY _ u31 ⟨j, x1, x2, y1, y2, a, b, cc, dd, bk, hI, rfl, a0, f0, f1, f2, f3⟩
 have hjw := hI.jw
 refine zzd (zzs (zzd (zzy [0, 0, 0, 6, 14, 31, 63] [(0, []), (1, []), (2, []), (3, []), (4, []), (5, []), (6, [])] xj xj (zzh 17 (.v (.agg #[.bool x1.s, x1.m.v, .bool x2.s, x2.m.v])) ty160 zze (zza 18 (zI n) (zza 19 (zI n) (zyp 20 (x := zI (IntKind.i64.wrap ((n : Int) * (n : Int)))) (zI (((n * n : Nat) : Int))) (by rw [show (IntKind.i64.wrap ((n : Int) * (n : Int))) = ((n * n : Nat) : Int) from (by rw [IntWalk.i64_in _ hnn]; rfl)]) (zzg 21 160 _ fun _ _ aq a5 => Post.mono (k_intOf a5 (z := ((n * n : Nat) : Int)) xq xq) ?_))))))))
 rintro _ u35 ar ⟨i33, rfl, bh⟩
 refine zzg 22 228 _ fun _ _ an ba => Post.mono (k_eOver ba (f0.ext (aq.t (ar.t an))) (f1.ext (aq.t (ar.t an))) (bh.ext an) xq xq xq) ?_
 rintro _ u43 aB ⟨av, aw, rfl, aP, aO⟩
 refine zzi ⟨160, av.cs ++ aw.cs⟩ ty160 ?_
 refine zzb (zzd (zzy [0, 0, 2, 7, 0, 31] [(0, []), (1, []), (4, []), (2, []), (3, []), (5, [])] xj xj (zzh 23 (.v (.agg #[.bool av.s, av.m.v, .bool aw.s, aw.m.v])) ty160 zze (zza 24 (zI (2 * j + 3 : Nat)) (zzj 8 ⟨160, [.bool false, .slice none 0 0, .bool false, .slice none 0 0]⟩ (zzg 25 160 _ fun _ _ ac bo => Post.mono (k_intOf bo (z := ((2 * j + 3 : Nat) : Int)) xq xq) ?_))))))
 rintro _ u49 ad ⟨i47, rfl, a8⟩
 refine zzg 26 228 _ fun _ _ ab bc => Post.mono (k_eOver bc (aP.ext (ac.t (ad.t ab))) (aO.ext (ac.t (ad.t ab))) (a8.ext ab) xq xq xq) ?_
 rintro _ u57 aj ⟨ag, af, rfl, aL, aM⟩
 refine zzi ⟨160, ag.cs ++ af.cs⟩ ty160 ?_
 refine zzb (zzd (sq9 (zza 27 (zI (2 * j + 3 : Nat)) (zza 28 (zI (Int.tmod ((2 * j + 3 : Nat) : Int) 4)) (zza 29 (zB ((Int.tmod ((2 * j + 3 : Nat) : Int) 4) == 3)) (zzb (zzt (b := (Int.tmod ((2 * j + 3 : Nat) : Int) 4) == 3) xj (fun ay => ?_) (fun ay => ?_))))))))
 ·have ah : Int.tmod ((2 * j + 3 : Nat) : Int) 4 = ((2 * j + 3 : Nat) : Int) % 4 := Int.tmod_eq_emod_of_nonneg xq
  have aa :  j % 2 = 0 := by have h9 := ay; rw [ah] at h9; simp at h9; omega
  refine zzf (zzh 30 (.v (.agg #[.bool y1.s, y1.m.v, .bool y2.s, y2.m.v])) ty160 zze (zzh 31 (.v (.agg #[.bool ag.s, ag.m.v, .bool af.s, af.m.v])) ty160 zze (zzg 32 184 _ fun _ _ ap bm => Post.mono (k_eSub bm (f2.ext (aq.t (ar.t (an.t (aB.t (ac.t (ad.t (ab.t (aj.t ap))))))))) (f3.ext (aq.t (ar.t (an.t (aB.t (ac.t (ad.t (ab.t (aj.t ap))))))))) (aL.ext ap) (aM.ext ap) xq xq) ?_)))
  rintro _ u66 aC ⟨aE, i64, rfl, aW, a4⟩
  refine zzi ⟨160, aE.cs ++ i64.cs⟩ ty160 ?_
  refine zzc 40 [(0, zI n), (4, .adr 4 0), (5, .adr 5 0), (6, .adr 6 0), (7, zI (2 * j + 3 : Nat)), (8, .adr 8 0)] [(4, ⟨160, [.bool false, .slice none 0 0, .bool false, .slice none 0 0]⟩), (5, ⟨160, av.cs ++ aw.cs⟩), (6, ⟨160, aE.cs ++ i64.cs⟩), (8, ⟨160, ag.cs ++ af.cs⟩)] (sq9 (zzh 36 (.v (.agg #[.bool ag.s, ag.m.v, .bool af.s, af.m.v])) ty160 zze (zzg 37 231 _ fun _ _ ak be => Post.mono (k_eTiny be (aL.ext (ap.t (aC.t ak))) (aM.ext (ap.t (aC.t ak))) xq) ?_)))
  rintro _ u70 ax rfl
  refine zzb (zzt (b := decide ((Nt.cdiv (Nt.cdiv b ((n * n : Nat) : Int)) ((2 * j + 3 : Nat) : Int)) ≤ 1)) xj (fun ai => ?_) (fun ai => ?_))
  ·have qhb73 := of_decide_eq_true ai
   refine sq9 (zzh 38 (.v (.agg #[.bool aE.s, aE.m.v, .bool i64.s, i64.m.v])) ty160 zze (zzg 39 232 _ fun _ _ a1 bs => Post.mono (k_eWider bs (aW.ext (ak.t (ax.t a1))) (a4.ext (ak.t (ax.t a1))) xq) ?_))
   rintro _ u79 g80 ⟨aJ, aK, rfl, bj, bi⟩
   refine zzi ⟨160, aJ.cs ++ aK.cs⟩ ty160 ?_
   refine zzb (zzn (zyt (zzv (zys (zyt (ret0 [.agg #[.bool aJ.s, aJ.m.v, .bool aK.s, aK.m.v]] ⟨zzq ty160 zze, trivial⟩ fun u82 aZ => ?_))))))
   have ho := hI.out xq (of_decide_eq_true ai) (hI.sub xq aa) (by have h9 := hI.tw xq; omega)
   have hob := Nt.atR_bd ho xq
   exact ⟨aJ, aK, _, _, rfl, IntN.lim2 (bj.ext aZ) xq xq, IntN.lim2 (bi.ext aZ) xq xq, ho⟩
  have qhb73 := of_decide_eq_false ai
  refine zzr (zzo ?_)
  refine zzf (zza 15 (zI (2 * j + 3 : Nat)) (zyp 16 (x := zI (IntKind.i64.wrap (((2 * j + 3 : Nat) : Int) + 2))) (zI (((2 * j + 3) + 2 : Nat) : Int)) (eqI xk) (zza 7 (zI (((2 * j + 3) + 2 : Nat) : Int)) (zzw ?_))))
  have hgo := hI.go xq (by have h9 := of_decide_eq_false ai; omega) (hI.sub xq aa) (by have h9 := hI.tw xq; omega)
  have hb := hgo.1.bd xq
  have hp0 := hgo.1.p0
  have hp1 := hgo.1.p1
  have hple := hgo.1.p.le
  have hpp := hI.p1
  refine ⟨_, ?_, _, by exact zzu _ _ _, j + 1, av, aw, aE, i64, (a / ((n * n : Nat) : Int)), (Nt.cdiv b ((n * n : Nat) : Int)), (cc - (Nt.cdiv (Nt.cdiv b ((n * n : Nat) : Int)) ((2 * j + 3 : Nat) : Int))), (dd - ((a / ((n * n : Nat) : Int)) / ((2 * j + 3 : Nat) : Int))), rfl, hgo.1, rfl, (a0.t (aq.t (ar.t (an.t (aB.t (ac.t (ad.t (ab.t (aj.t (ap.t (aC.t (ak.t ax.ext)))))))))))), (IntN.lim (aP.ext (ac.t (ad.t (ab.t (aj.t (ap.t (aC.t (ak.t ax.ext)))))))) xq xq), (IntN.lim (aO.ext (ac.t (ad.t (ab.t (aj.t (ap.t (aC.t (ak.t ax.ext)))))))) xq xq), (IntN.lim (aW.ext (ak.t ax.ext)) xq xq), (IntN.lim (a4.ext (ak.t ax.ext)) xq xq)⟩
  omega
 have ah : Int.tmod ((2 * j + 3 : Nat) : Int) 4 = ((2 * j + 3 : Nat) : Int) % 4 := Int.tmod_eq_emod_of_nonneg xq
 have aa : ¬ j % 2 = 0 := by have h9 := ay; rw [ah] at h9; simp at h9; omega
 refine zzf (zzh 33 (.v (.agg #[.bool y1.s, y1.m.v, .bool y2.s, y2.m.v])) ty160 zze (zzh 34 (.v (.agg #[.bool ag.s, ag.m.v, .bool af.s, af.m.v])) ty160 zze (zzg 35 230 _ fun _ _ am a7 => Post.mono (k_eAdd a7 (f2.ext (aq.t (ar.t (an.t (aB.t (ac.t (ad.t (ab.t (aj.t am))))))))) (f3.ext (aq.t (ar.t (an.t (aB.t (ac.t (ad.t (ab.t (aj.t am))))))))) (aL.ext am) (aM.ext am) xq xq) ?_)))
 rintro _ u89 aF ⟨aD, aH, rfl, aU, a2⟩
 refine zzi ⟨160, aD.cs ++ aH.cs⟩ ty160 ?_
 refine zzc 40 [(0, zI n), (4, .adr 4 0), (5, .adr 5 0), (6, .adr 6 0), (7, zI (2 * j + 3 : Nat)), (8, .adr 8 0)] [(4, ⟨160, [.bool false, .slice none 0 0, .bool false, .slice none 0 0]⟩), (5, ⟨160, av.cs ++ aw.cs⟩), (6, ⟨160, aD.cs ++ aH.cs⟩), (8, ⟨160, ag.cs ++ af.cs⟩)] (sq9 (zzh 36 (.v (.agg #[.bool ag.s, ag.m.v, .bool af.s, af.m.v])) ty160 zze (zzg 37 231 _ fun _ _ ao bb => Post.mono (k_eTiny bb (aL.ext (am.t (aF.t ao))) (aM.ext (am.t (aF.t ao))) xq) ?_)))
 rintro _ u93 au rfl
 refine zzb (zzt (b := decide ((Nt.cdiv (Nt.cdiv b ((n * n : Nat) : Int)) ((2 * j + 3 : Nat) : Int)) ≤ 1)) xj (fun ae => ?_) (fun ae => ?_))
 ·have qhb96 := of_decide_eq_true ae
  refine sq9 (zzh 38 (.v (.agg #[.bool aD.s, aD.m.v, .bool aH.s, aH.m.v])) ty160 zze (zzg 39 232 _ fun _ _ aX bt => Post.mono (k_eWider bt (aU.ext (ao.t (au.t aX))) (a2.ext (ao.t (au.t aX))) xq) ?_))
  rintro _ a9 bp ⟨aI, al, rfl, bq, aQ⟩
  refine zzi ⟨160, aI.cs ++ al.cs⟩ ty160 ?_
  refine zzb (zzn (zyt (zzv (zys (zyt (ret0 [.agg #[.bool aI.s, aI.m.v, .bool al.s, al.m.v]] ⟨zzq ty160 zze, trivial⟩ fun a6 aG => ?_))))))
  have ho := hI.out xq (of_decide_eq_true ae) (hI.add xq aa) (by have h9 := hI.tw xq; omega)
  have hob := Nt.atR_bd ho xq
  exact ⟨aI, al, _, _, rfl, IntN.lim2 (bq.ext aG) xq xq, IntN.lim2 (aQ.ext aG) xq xq, ho⟩
 have qhb96 := of_decide_eq_false ae
 refine zzr (zzo ?_)
 refine zzf (zza 15 (zI (2 * j + 3 : Nat)) (zyp 16 (x := zI (IntKind.i64.wrap (((2 * j + 3 : Nat) : Int) + 2))) (zI (((2 * j + 3) + 2 : Nat) : Int)) (eqI xk) (zza 7 (zI (((2 * j + 3) + 2 : Nat) : Int)) (zzw ?_))))
 have hgo := hI.go xq (by have h9 := of_decide_eq_false ae; omega) (hI.add xq aa) (by have h9 := hI.tw xq; omega)
 have hb := hgo.1.bd xq
 have hp0 := hgo.1.p0
 have hp1 := hgo.1.p1
 have hple := hgo.1.p.le
 have hpp := hI.p1
 refine ⟨_, ?_, _, by exact zzu _ _ _, j + 1, av, aw, aD, aH, (a / ((n * n : Nat) : Int)), (Nt.cdiv b ((n * n : Nat) : Int)), (cc + ((a / ((n * n : Nat) : Int)) / ((2 * j + 3 : Nat) : Int))), (dd + (Nt.cdiv (Nt.cdiv b ((n * n : Nat) : Int)) ((2 * j + 3 : Nat) : Int))), rfl, hgo.1, rfl, (a0.t (aq.t (ar.t (an.t (aB.t (ac.t (ad.t (ab.t (aj.t (am.t (aF.t (ao.t au.ext)))))))))))), (IntN.lim (aP.ext (ac.t (ad.t (ab.t (aj.t (am.t (aF.t (ao.t au.ext)))))))) xq xq), (IntN.lim (aO.ext (ac.t (ad.t (ab.t (aj.t (am.t (aF.t (ao.t au.ext)))))))) xq xq), (IntN.lim (aU.ext (ao.t au.ext)) xq xq), (IntN.lim (a2.ext (ao.t au.ext)) xq xq)⟩
 omega
set_option maxHeartbeats 1000000 in
theorem k_ePi {u w : World} {k : Nat} (d : Dat u w) (hk0 : 16 ≤ k) (hk : k ≤ 800) : Calls Tryz.prog 102 #[.int .i64 (k : Int)] w (Post u w fun v u' => ∃ (i j : IL) (a b : Int), v = SP i j ∧ IntN u' i a 42 ∧ IntN u' j b 42 ∧ Nt.PiR k a b) := by
 have hbig := Nt.big hk
 have hu2 := Nt.u2_pos k
 refine zzl (args := [.int .i64 k]) Tryz.func102 rfl Tryz.ntmps102 (rs := [.cell 2 160]) Tryz.results102 (le_b rfl) (le_b rfl) d ?_
 refine sq9 (zzj 2 ⟨160, [.bool false, .slice none 0 0, .bool false, .slice none 0 0]⟩ (zzb (sq9 (zza 3 (zI k) (zzg 4 182 _ fun _ _ _ aJ => Post.mono (k_arctan aJ (n := 5) (k := k) xq xq xq) ?_)))))
 rintro _ u13 g14 ⟨aA, aw, aF, aq, rfl, ag, aj, ah⟩
 refine zzg 5 183 _ fun _ _ an aD => Post.mono (k_eTimes aD (ag.ext an) (aj.ext an) (n9 := 16) xq xq) ?_
 rintro _ u21 g22 ⟨i17, i19, rfl, ax, av⟩
 refine zza 6 (zI k) (zzg 7 182 _ fun _ _ ak ar => Post.mono (k_arctan ar (n := 239) (k := k) xq xq xq) ?_)
 rintro _ u26 ao ⟨aB, aI, ay, aG, rfl, ai, ae, af⟩
 refine zzg 8 183 _ fun _ _ aa az => Post.mono (k_eTimes az (ai.ext aa) (ae.ext aa) (n9 := 4) xq xq) ?_
 rintro _ u34 al ⟨i30, i32, rfl, aE, au⟩
 refine zzg 9 184 _ fun _ _ ac aH => Post.mono (k_eSub aH (ax.ext (ak.t (ao.t (aa.t (al.t ac))))) (av.ext (ak.t (ao.t (aa.t (al.t ac))))) (aE.ext ac) (au.ext ac) xq xq) ?_
 rintro _ u42 g43 ⟨ad, ab, rfl, ap, aC⟩
 refine zzi ⟨160, ad.cs ++ ab.cs⟩ ty160 ?_
 refine zzb (zzn (ret0 [.agg #[.bool ad.s, ad.m.v, .bool ab.s, ab.m.v]] ⟨zzq ty160 zze, trivial⟩ fun u45 am => ?_))
 have hP := Nt.PiR.of ah af
 have hb9 := hP.bd hk0
 exact ⟨ad, ab, _, _, rfl, IntN.lim2 (ap.ext am) xq xq, IntN.lim2 (aC.ext am) xq xq, hP⟩
set_option maxHeartbeats 4000000 in
theorem k_cosineOf {u w : World} {p q k : Nat} (d : Dat u w) (hq0 : 0 < q) (hq : q ≤ 100000) (hp : 2 * p ≤ q) (hp1 : 1 ≤ p) (hk0 : 16 ≤ k) (hk : k ≤ 800) : Calls Tryz.prog 179 #[.int .i64 (p : Int), .int .i64 (q : Int), .int .i64 (k : Int)] w (Post u w fun v u' => ∃ (i j : IL) (a b : Int), v = SP i j ∧ IntN u' i a 42 ∧ IntN u' j b 42 ∧ Nt.CsR p q k a b) := by
 have hbig := Nt.big hk
 have hu2 := Nt.u2_pos k
 refine zzl (args := [.int .i64 p, .int .i64 q, .int .i64 k]) Tryz.func179 rfl Tryz.ntmps179 (rs := [.cell 6 160]) Tryz.results179 (le_b rfl) (le_b rfl) d ?_
 refine sq9 (zzj 6 ⟨160, [.bool false, .slice none 0 0, .bool false, .slice none 0 0]⟩ (zzb (sq9 (zza 12 (zI k) (zzg 13 102 _ fun _ _ _ bF => Post.mono (k_ePi bF (k := k) xq xq) ?_)))))
 rintro _ u13 g14 ⟨bJ, bm, al, am, rfl, a4, aY, a6⟩
 refine zza 14 (zI p) (zzg 15 183 _ fun _ _ a8 bT => Post.mono (k_eTimes bT (a4.ext a8) (aY.ext a8) (n9 := p) xq xq) ?_)
 rintro _ u21 g22 ⟨i17, i19, rfl, bA, bR⟩
 refine zza 16 (zI q) (zzg 17 160 _ fun _ _ bh bG => Post.mono (k_intOf bG (z := (q : Int)) xq xq) ?_)
 rintro _ u27 be ⟨i25, rfl, bQ⟩
 refine zzg 18 228 _ fun _ _ a5 bH => Post.mono (k_eOver bH (bA.ext (bh.t (be.t a5))) (bR.ext (bh.t (be.t a5))) (bQ.ext a5) xq xq xq) ?_
 rintro _ u35 g36 ⟨aQ, aM, rfl, bc, bf⟩
 refine zzj 7 ⟨160, [.bool false, .slice none 0 0, .bool false, .slice none 0 0]⟩ (zzi ⟨160, aQ.cs ++ aM.cs⟩ ty160 ?_)
 refine zzb (zzd ?_)
 have hY : Nt.CsY p q k ((al * ((p : Nat) : Int)) / (q : Int)) (Nt.cdiv (am * ((p : Nat) : Int)) (q : Int)) := Nt.CsY.of a6 hk0 hq0 hp hp1
 refine zzf (zzh 19 (.v (.agg #[.bool aQ.s, aQ.m.v, .bool aM.s, aM.m.v])) ty160 zze (zzh 20 (.v (.agg #[.bool aQ.s, aQ.m.v, .bool aM.s, aM.m.v])) ty160 zze (zza 21 (zI k) (zzg 22 229 _ fun _ _ aT bs => Post.mono (k_eProd (p := k) bs (bc.ext aT) (bf.ext aT) (bc.ext aT) (bf.ext aT) xq xq xq) ?_))))
 rintro _ u43 g44 ⟨aJ, aK, rfl, br, bp⟩
 refine zzj 8 ⟨160, [.bool false, .slice none 0 0, .bool false, .slice none 0 0]⟩ (zzi ⟨160, aJ.cs ++ aK.cs⟩ ty160 ?_)
 refine zzb (zzd ?_)
 have hQ : Nt.CsQ p q k (((al * ((p : Nat) : Int)) / (q : Int)) * ((al * ((p : Nat) : Int)) / (q : Int)) / Nt.u2 k) (Nt.cdiv ((Nt.cdiv (am * ((p : Nat) : Int)) (q : Int)) * (Nt.cdiv (am * ((p : Nat) : Int)) (q : Int))) (Nt.u2 k)) := Nt.CsQ.of hY
 obtain ⟨_, bg, bk, bP, ba, bS⟩ := id hQ
 obtain ⟨ql, hql⟩ : ∃ z : Int, (((al * ((p : Nat) : Int)) / (q : Int)) * ((al * ((p : Nat) : Int)) / (q : Int)) / Nt.u2 k) = z := ⟨_, rfl⟩
 obtain ⟨qh, hqh⟩ : ∃ z : Int, (Nt.cdiv ((Nt.cdiv (am * ((p : Nat) : Int)) (q : Int)) * (Nt.cdiv (am * ((p : Nat) : Int)) (q : Int))) (Nt.u2 k)) = z := ⟨_, rfl⟩
 have hs46 := br
 have hs47 := bp
 rw [hql] at hQ bg bk ba hs46
 rw [hqh] at hQ bg bP ba bS hs47
 have hs48 := IntN.lim2 hs46 xq xq
 have hs49 := IntN.lim2 hs47 xq xq
 refine zzf (zza 23 (zI k) (zzg 24 161 _ fun _ _ a7 bO => Post.mono (k_eUnit (k := k) bO xq) ?_))
 rintro _ bu bb ⟨aj, rfl, aV⟩
 refine zzj 9 ⟨160, [.bool false, .slice none 0 0, .bool false, .slice none 0 0]⟩ (zzi ⟨160, aj.cs ++ aj.cs⟩ ty160 ?_)
 refine zzb (sq9 (zzh 25 (.v (.agg #[.bool aj.s, aj.m.v, .bool aj.s, aj.m.v])) ty160 zze (zzj 10 ⟨160, [.bool false, .slice none 0 0, .bool false, .slice none 0 0]⟩ (zzi ⟨160, aj.cs ++ aj.cs⟩ ty160 ?_))))
 refine zzb (sq9 (zza 11 (zI 2) (zzb (zzs (zym (I := fun a9 S' u' => ∃ (j : Nat) (x1 : IL) (x2 : IL) (y1 : IL) (y2 : IL) (tl : Int) (th : Int) (sl : Int) (sh : Int), (a9 = Nt.csM k j th) ∧ (Nt.CsI p q k j tl th sl sh) ∧ (S' = St.of 55 [(2, zI k), (6, .adr 6 0), (8, .adr 8 0), (9, .adr 9 0), (10, .adr 10 0), (11, zI (2 * j + 2 : Nat))] [(6, ⟨160, [.bool false, .slice none 0 0, .bool false, .slice none 0 0]⟩), (8, ⟨160, aJ.cs ++ aK.cs⟩), (9, ⟨160, x1.cs ++ x2.cs⟩), (10, ⟨160, y1.cs ++ y2.cs⟩)]) ∧ (Ext bu u') ∧ (IntN u' x1 tl 42) ∧ (IntN u' x2 th 42) ∧ (IntN u' y1 sl 42) ∧ (IntN u' y2 sh 42)) (fun m S u1 u2 e h => by obtain ⟨j, x1, x2, y1, y2, tl, th, sl, sh, hm, p0, hS, hE, f0, f1, f2, f3⟩ := h; exact ⟨j, x1, x2, y1, y2, tl, th, sl, sh, hm, p0, hS, hE.trans e, f0.ext e, f1.ext e, f2.ext e, f3.ext e⟩) _ yz ⟨0, aj, aj, aj, aj, (Nt.u2 k), (Nt.u2 k), (Nt.u2 k), (Nt.u2 k), rfl, Nt.CsI.start, rfl, (Ext.refl _), (IntN.lim2 aV xq xq), (IntN.lim2 aV xq xq), (IntN.lim2 aV xq xq), (IntN.lim2 aV xq xq)⟩ ?_)))))
 rintro a9 _ u56 ⟨j, x1, x2, y1, y2, tl, th, sl, sh, bK, hI, rfl, aI, f0, f1, f2, f3⟩
 have hjw := hI.c.jw
 have hD1 := Nt.coD_pos j
 have hD2 := Nt.coD_mul (j := j) xq
 refine zzd (zzs (sq9 (zzh 28 (.v (.agg #[.bool x1.s, x1.m.v, .bool x2.s, x2.m.v])) ty160 zze (zzh 29 (.v (.agg #[.bool aJ.s, aJ.m.v, .bool aK.s, aK.m.v])) ty160 zze (zza 30 (zI k) (zzg 31 229 _ fun _ _ ai bN => Post.mono (k_eProd (p := k) bN (f0.ext ai) (f1.ext ai) (hs48.ext (a7.t (bb.t (aI.trans ai)))) (hs49.ext (a7.t (bb.t (aI.trans ai)))) xq xq xq) ?_))))))
 rintro _ u62 aC ⟨i58, i60, rfl, bw, bn⟩
 refine zza 32 (zI (2 * j + 2 : Nat)) (zza 33 (zI (2 * j + 2 : Nat)) (zyp 34 (x := zI (IntKind.i64.wrap (((2 * j + 2 : Nat) : Int) - 1))) (zI (((2 * j + 2) - 1 : Nat) : Int)) (eqI xk) (zqI 35 (show (IntKind.i64.wrap (((2 * j + 2 : Nat) : Int) * ((2 * j + 2 - 1 : Nat) : Int))) = (Nt.coD j) from hD2.1) (zzg 36 160 _ fun _ _ au bM => Post.mono (k_intOf bM (z := (Nt.coD j)) xq xq) ?_))))
 rintro _ u68 av ⟨i66, rfl, bx⟩
 refine zzg 37 228 _ fun _ _ aq bt => Post.mono (k_eOver bt (bw.ext (au.t (av.t aq))) (bn.ext (au.t (av.t aq))) (bx.ext aq) xq xq xq) ?_
 rintro _ u76 aA ⟨ag, ah, rfl, aD, az⟩
 refine zzi ⟨160, ag.cs ++ ah.cs⟩ ty160 ?_
 refine zzc 55 [(2, zI k), (6, .adr 6 0), (8, .adr 8 0), (9, .adr 9 0), (10, .adr 10 0), (11, zI (2 * j + 2 : Nat))] [(6, ⟨160, [.bool false, .slice none 0 0, .bool false, .slice none 0 0]⟩), (8, ⟨160, aJ.cs ++ aK.cs⟩), (9, ⟨160, ag.cs ++ ah.cs⟩), (10, ⟨160, y1.cs ++ y2.cs⟩)] (zzd (sq9 (zza 38 (zI (2 * j + 2 : Nat)) (zza 39 (zI (Int.tmod ((2 * j + 2 : Nat) : Int) 4)) (zza 40 (zB ((Int.tmod ((2 * j + 2 : Nat) : Int) 4) == 2)) (zzb (zzt (b := (Int.tmod ((2 * j + 2 : Nat) : Int) 4) == 2) xj (fun aF => ?_) (fun aF => ?_))))))))
 ·have ao : Int.tmod ((2 * j + 2 : Nat) : Int) 4 = ((2 * j + 2 : Nat) : Int) % 4 := Int.tmod_eq_emod_of_nonneg xq
  have aa :  j % 2 = 0 := by have h9 := aF; rw [ao] at h9; simp at h9; omega
  refine zzf (zzh 41 (.v (.agg #[.bool y1.s, y1.m.v, .bool y2.s, y2.m.v])) ty160 zze (zzh 42 (.v (.agg #[.bool ag.s, ag.m.v, .bool ah.s, ah.m.v])) ty160 zze (zzg 43 184 _ fun _ _ ak bD => Post.mono (k_eSub bD (f2.ext (ai.t (aC.t (au.t (av.t (aq.t (aA.t ak))))))) (f3.ext (ai.t (aC.t (au.t (av.t (aq.t (aA.t ak))))))) (aD.ext ak) (az.ext ak) xq xq) ?_)))
  rintro _ u85 aB ⟨aN, aP, rfl, a1, a0⟩
  refine zzi ⟨160, aN.cs ++ aP.cs⟩ ty160 ?_
  refine zzb (sq9 (zza 47 (zI (2 * j + 2 : Nat)) (zza 48 (zB (decide ((4 : Int) ≤ ((2 * j + 2 : Nat) : Int)))) ?_)))
  rcases Bool.eq_false_or_eq_true (decide ((4 : Int) ≤ ((2 * j + 2 : Nat) : Int))) with hs88 | hs88
  ·refine zyp 49 (x := zB (decide ((4 : Int) ≤ ((2 * j + 2 : Nat) : Int)))) (zB true) (by rw [hs88]) ?_
   have qhs88 := of_decide_eq_true hs88
   refine zzh 50 (.v (.agg #[.bool ag.s, ag.m.v, .bool ah.s, ah.m.v])) ty160 zze ?_ (hw := w1 2 true 49)
   refine zzg 51 231 _ (fun _ _ aw bC => Post.mono (k_eTiny bC (aD.ext (ak.t (aB.t aw))) (az.ext (ak.t (aB.t aw))) xq) ?_) (hw := w1 2 true 49)
   rintro _ u90 aG rfl
   refine zza 52 (zB (decide ((Nt.cdiv (Nt.cdiv (th * qh) (Nt.u2 k)) (Nt.coD j)) ≤ 1))) (zzb (zzt (b := decide ((Nt.cdiv (Nt.cdiv (th * qh) (Nt.u2 k)) (Nt.coD j)) ≤ 1)) xj (fun ap => ?_) (fun ap => ?_)))
   ·have qhb93 := of_decide_eq_true ap
    refine sq9 (zzh 53 (.v (.agg #[.bool aN.s, aN.m.v, .bool aP.s, aP.m.v])) ty160 zze (zzg 54 232 _ fun _ _ bi bE => Post.mono (k_eWider bE (a1.ext (aw.t (aG.t bi))) (a0.ext (aw.t (aG.t bi))) xq) ?_))
    rintro _ u99 bB ⟨aU, aS, rfl, bv, bq⟩
    refine zzi ⟨160, aU.cs ++ aS.cs⟩ ty160 ?_
    refine zzb (zzn (zyt (zzv (zys (zyt (ret0 [.agg #[.bool aU.s, aU.m.v, .bool aS.s, aS.m.v]] ⟨zzq ty160 zze, trivial⟩ fun bo aL => ?_))))))
    have ho := hI.out hQ hq0 hp (by have h9 := of_decide_eq_true hs88; omega) (of_decide_eq_true ap) (sl' := (sl - (Nt.cdiv (Nt.cdiv (th * qh) (Nt.u2 k)) (Nt.coD j)))) (sh' := (sh - ((tl * ql / Nt.u2 k) / (Nt.coD j)))) (.inl ⟨aa, rfl, rfl⟩)
    have hob := Nt.csR_bd ho hq0 hp hk
    exact ⟨aU, aS, _, _, rfl, IntN.lim2 (bv.ext aL) xq xq, IntN.lim2 (bq.ext aL) xq xq, ho⟩
   have qhb93 := of_decide_eq_false ap
   refine zzr (zzo ?_)
   refine zzf (zza 26 (zI (2 * j + 2 : Nat)) (zyp 27 (x := zI (IntKind.i64.wrap (((2 * j + 2 : Nat) : Int) + 2))) (zI (((2 * j + 2) + 2 : Nat) : Int)) (eqI xk) (zza 11 (zI (((2 * j + 2) + 2 : Nat) : Int)) (zzw ?_))))
   have hgo := hI.go hQ (.inr (by have h9 : ¬ Nt.csH k j th qh ≤ 1 := of_decide_eq_false ap; omega)) (sl' := (sl - (Nt.cdiv (Nt.cdiv (th * qh) (Nt.u2 k)) (Nt.coD j)))) (sh' := (sh - ((tl * ql / Nt.u2 k) / (Nt.coD j)))) (.inl ⟨aa, rfl, rfl⟩)
   have hb9 := hgo.1.bd hq0 hp
   have hw9 := Nt.csW_le hk
   have ht0 := hgo.1.c.t0
   have ht1 := hgo.1.c.t1
   have htt := hgo.1.c.tt
   have ht2 := hgo.1.c.t2
   have hmm := hgo.2
   simp only [Nt.csL, Nt.csH] at ht0 ht1 htt ht2 hmm
   refine ⟨_, ?_, _, by exact zzu _ _ _, j + 1, ag, ah, aN, aP, ((tl * ql / Nt.u2 k) / (Nt.coD j)), (Nt.cdiv (Nt.cdiv (th * qh) (Nt.u2 k)) (Nt.coD j)), (sl - (Nt.cdiv (Nt.cdiv (th * qh) (Nt.u2 k)) (Nt.coD j))), (sh - ((tl * ql / Nt.u2 k) / (Nt.coD j))), rfl, hgo.1, rfl, (aI.t (ai.t (aC.t (au.t (av.t (aq.t (aA.t (ak.t (aB.t (aw.t aG.ext)))))))))), (IntN.lim2 (aD.ext (ak.t (aB.t (aw.t aG.ext)))) xq xq), (IntN.lim2 (az.ext (ak.t (aB.t (aw.t aG.ext)))) xq xq), (IntN.lim2 (a1.ext (aw.t aG.ext)) xq xq), (IntN.lim2 (a0.ext (aw.t aG.ext)) xq xq)⟩
   omega
  refine zyp 49 (x := zB (decide ((4 : Int) ≤ ((2 * j + 2 : Nat) : Int)))) (zB false) (by rw [hs88]) ?_
  have qhs88 := of_decide_eq_false hs88
  refine zzm 50 (uw 2 true false 49) (zzm 51 (uw 2 true false 49) (zza 52 (zB false) (zzb (zyr xj (zzr (zzo ?_))))))
  refine zzf (zza 26 (zI (2 * j + 2 : Nat)) (zyp 27 (x := zI (IntKind.i64.wrap (((2 * j + 2 : Nat) : Int) + 2))) (zI (((2 * j + 2) + 2 : Nat) : Int)) (eqI xk) (zza 11 (zI (((2 * j + 2) + 2 : Nat) : Int)) (zzw ?_))))
  have hgo := hI.go hQ (.inl (by have h9 := of_decide_eq_false hs88; omega)) (sl' := (sl - (Nt.cdiv (Nt.cdiv (th * qh) (Nt.u2 k)) (Nt.coD j)))) (sh' := (sh - ((tl * ql / Nt.u2 k) / (Nt.coD j)))) (.inl ⟨aa, rfl, rfl⟩)
  have hb9 := hgo.1.bd hq0 hp
  have hw9 := Nt.csW_le hk
  have ht0 := hgo.1.c.t0
  have ht1 := hgo.1.c.t1
  have htt := hgo.1.c.tt
  have ht2 := hgo.1.c.t2
  have hmm := hgo.2
  simp only [Nt.csL, Nt.csH] at ht0 ht1 htt ht2 hmm
  refine ⟨_, ?_, _, by exact zzu _ _ _, j + 1, ag, ah, aN, aP, ((tl * ql / Nt.u2 k) / (Nt.coD j)), (Nt.cdiv (Nt.cdiv (th * qh) (Nt.u2 k)) (Nt.coD j)), (sl - (Nt.cdiv (Nt.cdiv (th * qh) (Nt.u2 k)) (Nt.coD j))), (sh - ((tl * ql / Nt.u2 k) / (Nt.coD j))), rfl, hgo.1, rfl, (aI.t (ai.t (aC.t (au.t (av.t (aq.t (aA.t (ak.t aB.ext)))))))), (IntN.lim2 (aD.ext (ak.t aB.ext)) xq xq), (IntN.lim2 (az.ext (ak.t aB.ext)) xq xq), (IntN.lim2 a1 xq xq), (IntN.lim2 a0 xq xq)⟩
  omega
 have ao : Int.tmod ((2 * j + 2 : Nat) : Int) 4 = ((2 * j + 2 : Nat) : Int) % 4 := Int.tmod_eq_emod_of_nonneg xq
 have aa : ¬ j % 2 = 0 := by have h9 := aF; rw [ao] at h9; simp at h9; omega
 refine zzf (zzh 44 (.v (.agg #[.bool y1.s, y1.m.v, .bool y2.s, y2.m.v])) ty160 zze (zzh 45 (.v (.agg #[.bool ag.s, ag.m.v, .bool ah.s, ah.m.v])) ty160 zze (zzg 46 230 _ fun _ _ ab aX => Post.mono (k_eAdd aX (f2.ext (ai.t (aC.t (au.t (av.t (aq.t (aA.t ab))))))) (f3.ext (ai.t (aC.t (au.t (av.t (aq.t (aA.t ab))))))) (aD.ext ab) (az.ext ab) xq xq) ?_)))
 rintro _ bL ae ⟨an, ar, rfl, aE, aH⟩
 refine zzi ⟨160, an.cs ++ ar.cs⟩ ty160 ?_
 refine zzb (sq9 (zza 47 (zI (2 * j + 2 : Nat)) (zza 48 (zB (decide ((4 : Int) ≤ ((2 * j + 2 : Nat) : Int)))) ?_)))
 rcases Bool.eq_false_or_eq_true (decide ((4 : Int) ≤ ((2 * j + 2 : Nat) : Int))) with hs112 | hs112
 ·refine zyp 49 (x := zB (decide ((4 : Int) ≤ ((2 * j + 2 : Nat) : Int)))) (zB true) (by rw [hs112]) ?_
  have qhs112 := of_decide_eq_true hs112
  refine zzh 50 (.v (.agg #[.bool ag.s, ag.m.v, .bool ah.s, ah.m.v])) ty160 zze ?_ (hw := w1 2 true 49)
  refine zzg 51 231 _ (fun _ _ ac aW => Post.mono (k_eTiny aW (aD.ext (ab.t (ae.t ac))) (az.ext (ab.t (ae.t ac))) xq) ?_) (hw := w1 2 true 49)
  rintro _ bI af rfl
  refine zza 52 (zB (decide ((Nt.cdiv (Nt.cdiv (th * qh) (Nt.u2 k)) (Nt.coD j)) ≤ 1))) (zzb (zzt (b := decide ((Nt.cdiv (Nt.cdiv (th * qh) (Nt.u2 k)) (Nt.coD j)) ≤ 1)) xj (fun ad => ?_) (fun ad => ?_)))
  ·have qhb117 := of_decide_eq_true ad
   refine sq9 (zzh 53 (.v (.agg #[.bool an.s, an.m.v, .bool ar.s, ar.m.v])) ty160 zze (zzg 54 232 _ fun _ _ aR a2 => Post.mono (k_eWider a2 (aE.ext (ac.t (af.t aR))) (aH.ext (ac.t (af.t aR))) xq) ?_))
   rintro _ bl bz ⟨ax, ay, rfl, a3, aZ⟩
   refine zzi ⟨160, ax.cs ++ ay.cs⟩ ty160 ?_
   refine zzb (zzn (zyt (zzv (zys (zyt (ret0 [.agg #[.bool ax.s, ax.m.v, .bool ay.s, ay.m.v]] ⟨zzq ty160 zze, trivial⟩ fun bj aO => ?_))))))
   have ho := hI.out hQ hq0 hp (by have h9 := of_decide_eq_true hs112; omega) (of_decide_eq_true ad) (sl' := (sl + ((tl * ql / Nt.u2 k) / (Nt.coD j)))) (sh' := (sh + (Nt.cdiv (Nt.cdiv (th * qh) (Nt.u2 k)) (Nt.coD j)))) (.inr ⟨aa, rfl, rfl⟩)
   have hob := Nt.csR_bd ho hq0 hp hk
   exact ⟨ax, ay, _, _, rfl, IntN.lim2 (a3.ext aO) xq xq, IntN.lim2 (aZ.ext aO) xq xq, ho⟩
  have qhb117 := of_decide_eq_false ad
  refine zzr (zzo ?_)
  refine zzf (zza 26 (zI (2 * j + 2 : Nat)) (zyp 27 (x := zI (IntKind.i64.wrap (((2 * j + 2 : Nat) : Int) + 2))) (zI (((2 * j + 2) + 2 : Nat) : Int)) (eqI xk) (zza 11 (zI (((2 * j + 2) + 2 : Nat) : Int)) (zzw ?_))))
  have hgo := hI.go hQ (.inr (by have h9 : ¬ Nt.csH k j th qh ≤ 1 := of_decide_eq_false ad; omega)) (sl' := (sl + ((tl * ql / Nt.u2 k) / (Nt.coD j)))) (sh' := (sh + (Nt.cdiv (Nt.cdiv (th * qh) (Nt.u2 k)) (Nt.coD j)))) (.inr ⟨aa, rfl, rfl⟩)
  have hb9 := hgo.1.bd hq0 hp
  have hw9 := Nt.csW_le hk
  have ht0 := hgo.1.c.t0
  have ht1 := hgo.1.c.t1
  have htt := hgo.1.c.tt
  have ht2 := hgo.1.c.t2
  have hmm := hgo.2
  simp only [Nt.csL, Nt.csH] at ht0 ht1 htt ht2 hmm
  refine ⟨_, ?_, _, by exact zzu _ _ _, j + 1, ag, ah, an, ar, ((tl * ql / Nt.u2 k) / (Nt.coD j)), (Nt.cdiv (Nt.cdiv (th * qh) (Nt.u2 k)) (Nt.coD j)), (sl + ((tl * ql / Nt.u2 k) / (Nt.coD j))), (sh + (Nt.cdiv (Nt.cdiv (th * qh) (Nt.u2 k)) (Nt.coD j))), rfl, hgo.1, rfl, (aI.t (ai.t (aC.t (au.t (av.t (aq.t (aA.t (ab.t (ae.t (ac.t af.ext)))))))))), (IntN.lim2 (aD.ext (ab.t (ae.t (ac.t af.ext)))) xq xq), (IntN.lim2 (az.ext (ab.t (ae.t (ac.t af.ext)))) xq xq), (IntN.lim2 (aE.ext (ac.t af.ext)) xq xq), (IntN.lim2 (aH.ext (ac.t af.ext)) xq xq)⟩
  omega
 refine zyp 49 (x := zB (decide ((4 : Int) ≤ ((2 * j + 2 : Nat) : Int)))) (zB false) (by rw [hs112]) ?_
 have qhs112 := of_decide_eq_false hs112
 refine zzm 50 (uw 2 true false 49) (zzm 51 (uw 2 true false 49) (zza 52 (zB false) (zzb (zyr xj (zzr (zzo ?_))))))
 refine zzf (zza 26 (zI (2 * j + 2 : Nat)) (zyp 27 (x := zI (IntKind.i64.wrap (((2 * j + 2 : Nat) : Int) + 2))) (zI (((2 * j + 2) + 2 : Nat) : Int)) (eqI xk) (zza 11 (zI (((2 * j + 2) + 2 : Nat) : Int)) (zzw ?_))))
 have hgo := hI.go hQ (.inl (by have h9 := of_decide_eq_false hs112; omega)) (sl' := (sl + ((tl * ql / Nt.u2 k) / (Nt.coD j)))) (sh' := (sh + (Nt.cdiv (Nt.cdiv (th * qh) (Nt.u2 k)) (Nt.coD j)))) (.inr ⟨aa, rfl, rfl⟩)
 have hb9 := hgo.1.bd hq0 hp
 have hw9 := Nt.csW_le hk
 have ht0 := hgo.1.c.t0
 have ht1 := hgo.1.c.t1
 have htt := hgo.1.c.tt
 have ht2 := hgo.1.c.t2
 have hmm := hgo.2
 simp only [Nt.csL, Nt.csH] at ht0 ht1 htt ht2 hmm
 refine ⟨_, ?_, _, by exact zzu _ _ _, j + 1, ag, ah, an, ar, ((tl * ql / Nt.u2 k) / (Nt.coD j)), (Nt.cdiv (Nt.cdiv (th * qh) (Nt.u2 k)) (Nt.coD j)), (sl + ((tl * ql / Nt.u2 k) / (Nt.coD j))), (sh + (Nt.cdiv (Nt.cdiv (th * qh) (Nt.u2 k)) (Nt.coD j))), rfl, hgo.1, rfl, (aI.t (ai.t (aC.t (au.t (av.t (aq.t (aA.t (ab.t ae.ext)))))))), (IntN.lim2 (aD.ext (ab.t ae.ext)) xq xq), (IntN.lim2 (az.ext (ab.t ae.ext)) xq xq), (IntN.lim2 aE xq xq), (IntN.lim2 aH xq xq)⟩
 omega
section
variable (P : Program) (w0 : Base) (u0 : World)
def MP.into (I : Nat → St → World → Prop) (Q : MP) (hI : ∀ m, Mono (I m)) : MP where
 f e S u := match e with | .normal => ∃ m T, Weak S T ∧ I m T u | .goto _ => False | e => Q.f e S u
 mono e := by
  cases e <;> first | exact Q.mono _ | skip
  ·rintro S u u' he ⟨m, T, h1, h2⟩
   exact ⟨m, T, h1, hI m T u u' he h2⟩
  exact fun S u u' he h => h
def MP.jump (l : Nat) (I : Nat → St → World → Prop) (n : Nat) (Q : MP) (hI : ∀ m, Mono (I m)) : MP where
 f e S u := match e with | .goto l' => l' = l ∧ ∃ m, m < n ∧ ∃ T, Weak S T ∧ I m T u | e => Q.f e S u
 mono e := by
  cases e <;> first | exact Q.mono _ | skip
  rintro S u u' he ⟨hl, m, hm, T, h1, h2⟩
  exact ⟨hl, m, hm, T, h1, hI m T u u' he h2⟩
end
section
variable {P : Program} {w0 : Base} {u0 : World} {S T : St} {B : Tmp → Nat} {a : Act} {w u u' : World} {Q : MP} {c d A R : Code}
theorem sw_goto {l : Nat} (h : Q.f (.goto l) S u) : SW P w0 u0 (.goto l) S u Q := fun B a w u' e hr => wp_goto ⟨S, B, u', hr, Q.mono _ _ _ _ e h⟩
theorem mpg_seq {l : Nat} {c : Code} {Q : MP} (h : Q.f (.goto l) S u) : (MP.seq P w0 u0 c Q).f (.goto l) S u := h
theorem mpg_jump {l n m : Nat} {I : Nat → St → World → Prop} {Q : MP} {hI : ∀ m, Mono (I m)} (hm : m < n) (hw : Weak S T) (h : I m T u) : (MP.jump l I n Q hI).f (.goto l) S u := ⟨rfl, m, hm, T, hw, h⟩
theorem mpr_jump {l n : Nat} {I : Nat → St → World → Prop} {Q : MP} {hI : ∀ m, Mono (I m)} (h : Q.f .ret S u) : (MP.jump l I n Q hI).f .ret S u := h
theorem mpi_into {m : Nat} {I : Nat → St → World → Prop} {Q : MP} {hI : ∀ m, Mono (I m)} (hw : Weak S T) (h : I m T u) : (MP.into I Q hI).f .normal S u := ⟨m, T, hw, h⟩
theorem sw_scope {l : Nat} {I : Nat → St → World → Prop} (hI : ∀ m, Mono (I m)) (hf : findLabel (.seq A (.seq (.label l) R)) l = some (.seq .skip R)) (hA : SW P w0 u0 A S u (MP.into I Q hI)) (h : ∀ n S u, I n S u → SW P w0 u0 R S u (MP.jump l I n Q hI)) : SW P w0 u0 (.scope (.seq A (.seq (.label l) R))) S u Q := by
 intro B a w u' e hr
 let J : Nat → Act → World → Prop := fun n a w => ∃ S B u'', Rep w0 u0 S B a w u'' ∧ I n S u''
 let μ : Act → World → Nat := fun a w => Classical.epsilon fun m => J m a w ∧ ∀ k, J k a w → m ≤ k
 have hμ : ∀ a w n, J n a w → J (μ a w) a w ∧ μ a w ≤ n := fun a w n hn => by
  have := Classical.epsilon_spec (p := fun m => J m a w ∧ ∀ k, J k a w → m ≤ k) (least n hn)
  exact ⟨this.1, this.2 n hn⟩
 refine wp_scope_jumps l (fun a w => ∃ n, J n a w) μ hf ?_ ?_
 ·refine wp_seq (wp_mono (hA B a w u' e hr) fun ex a' w' ⟨S', B', u'', k1, k3⟩ => ?_)
  cases ex with
  | normal =>
   obtain ⟨m, T', t1, t2⟩ := k3
   refine wp_seq (wp_label ?_)
   refine wp_mono (h m T' u'' t2 B' a' w' u'' (Ext.refl _) (k1.weak t1)) fun ex a' w' ⟨S', B', u'', k1, k3⟩ => ?_
   cases ex with
   | goto l' =>
    obtain ⟨rfl, m, hm, T', t1, t2⟩ := k3
    exact ⟨rfl, m, T', B', u'', k1.weak t1, t2⟩
   | _ => exact ⟨S', B', u'', k1, k3⟩
  | goto l' => exact k3.elim
  | _ => exact ⟨S', B', u'', k1, k3⟩
 rintro a w ⟨n, hn⟩
 obtain ⟨S1, B1, u1, r1, i1⟩ := (hμ a w n hn).1
 refine wp_seq (wp_skip ?_)
 refine wp_mono (h _ S1 u1 i1 B1 a w u1 (Ext.refl _) r1) fun ex a' w' ⟨S', B', u'', k1, k3⟩ => ?_
 cases ex with
 | goto l' =>
  obtain ⟨rfl, m, hm, T', t1, t2⟩ := k3
  have hJ : J m a' w' := ⟨T', B', u'', k1.weak t1, t2⟩
  exact ⟨rfl, ⟨m, hJ⟩, Nat.lt_of_le_of_lt (hμ a' w' m hJ).2 hm⟩
 | _ => exact ⟨S', B', u'', k1, k3⟩
end
theorem sw_joinP {P : Program} {w0 : Base} {u0 u : World} {S : St} {r c : Code} {Q : MP} (I : St → World → Prop) (h1 : ∀ S' u1, Ext u u1 → I S' u1 → SW P w0 u0 c S' u1 Q) (h2 : (∀ S' u1, Ext u u1 → I S' u1 → SW P w0 u0 c S' u1 Q) → SW P w0 u0 r S u (MP.seq P w0 u0 c Q)) : SW P w0 u0 r S u (MP.seq P w0 u0 c Q) := h2 h1
theorem k_ratMake {u w : World} {i j : IL} {z D : Int} {K L : Nat} (d : Dat u w) (hi : IntN u i z K) (hj : IntN u j D L) (hD : 0 < D) (hK : K ≤ 1000000) (hL : L ≤ 1000000) : Calls Tryz.prog 162 #[i.v, j.v] w (Post u w fun v u' => ∃ r : RL, v = .tuple #[r.v, .int .i64 0] ∧ RatN u' r ((z : Rat) / (D : Rat)) (K + L + 1)) := by
 refine zzl (args := [i.v, j.v]) Tryz.func162 rfl Tryz.ntmps162 (rs := [.cell 4 26, .tmp 5]) Tryz.results162 (le_b rfl) (le_b rfl) d ?_
 refine sq9 (zzj 2 ⟨24, i.cs⟩ (zzj 3 ⟨24, j.cs⟩ (zzj 4 ⟨26, zw3⟩ (zza 5 (zI 0) (zzb (zzd (sq9 (zzh 6 (.v (j.v)) ty24 zze (zzg 7 146 _ fun _ _ aa ak => Post.mono (k_intSign ak (hj.ext aa).raw) ?_)))))))))
 rintro _ u12 ae rfl
 refine zza 8 (zB ((Nt.cmpS D 0) == 0)) (zzb (zzt (b := (Nt.cmpS D 0) == 0) xj (fun hb => ?_) (fun hb => ?_)))
 ·exact absurd hb (by rw [show ((Nt.cmpS D 0) == 0) = false from (by rw [Nt.cmp_gt hD]; rfl)]; decide)
 clear hb
 refine zzr (zzo ?_)
 refine sq9 (zzh 10 (.v (i.v)) ty24 zze (zzh 11 (.v (j.v)) ty24 zze (zzg 12 196 _ fun _ _ ac ah => Post.mono (k_quotient (i := i) (j := j) ah) ?_)))
 rintro _ u16 ad rfl
 refine zzg 13 148 _ fun _ _ af aj => Post.mono (k_lowest aj ((quot_int (hi.ext (aa.t (ae.t (ac.t ad.ext)))) (hj.ext (aa.t (ae.t (ac.t ad.ext))))).ext af) ((int_mag (hj.ext (aa.t (ae.t (ac.t ad.ext))))).ext af).raw (show 0 < (D : Int).natAbs by omega) xq xq) ?_
 rintro _ u22 g23 ⟨ab, rfl, ai⟩
 refine zzi ⟨26, ab.cs⟩ ty26 ?_
 refine zza 5 (zI 0) (zzb (zzn (ret0 [ab.v, .int .i64 0] ⟨zzq ty26 zze, zzp, trivial⟩ fun u25 ag => ?_)))
 refine ⟨ab, rfl, RatN.more (K := (max K L)) ?_ xq⟩
 rw [← Nt.div_mk2 xq]
 exact (ai.ext ag)
theorem k_betweenN {u w : World} {i : IL} {z : Int} {k K : Nat} (d : Dat u w) (hi : IntN u i z K) (hk : k ≤ 256) (hK0 : 1 ≤ K) (hK : K ≤ 900000) : Calls Tryz.prog 84 #[i.v, .bool false, .int .i64 (k : Int)] w (Post u w fun v u' => ∃ r1 r2 : RL, v = IV r1 r2 ∧ RatN u' r1 (Nt.gr k z) (K + 20) ∧ RatN u' r2 (Nt.gr k (z + 1)) (K + 20)) := by
 refine zzl (args := [i.v, .bool false, .int .i64 k]) Tryz.func84 rfl Tryz.ntmps84 (rs := [.cell 6 32]) Tryz.results84 (le_b rfl) (le_b rfl) d ?_
 refine sq9 (zzj 3 ⟨24, i.cs⟩ (zzj 6 ⟨32, zw6⟩ (zzb (sq9 (zzh 13 (.v (i.v)) ty24 zze (zzj 7 ⟨24, [.bool false, .slice none 0 0]⟩ (zzi ⟨24, i.cs⟩ ty24 ?_)))))))
 refine zzb (zzd (sq9 (zza 14 (zB false) (zza 15 (zB true) (zzb (zyq xj (zzy [0, 0, 3, 7] [(0, []), (1, []), (2, []), (3, [])] xj xj (zzh 16 (.v (i.v)) ty24 zze (zzg 17 160 _ fun _ _ an aA => Post.mono (k_intOf aA (z := 1) xq xq) ?_)))))))))
 rintro _ u14 am ⟨i12, rfl, ax⟩
 refine zzg 18 159 _ fun _ _ ae az => Post.mono (k_intAdd az (hi.ext (an.t (am.t ae))).raw (ax.ext ae).raw xq xq) ?_
 rintro _ u20 aw ⟨al, rfl, ar⟩
 refine zzi ⟨24, al.cs⟩ ty24 ?_
 refine zzb (sq9 (zza 19 (zI k) (zzg 20 161 _ fun _ _ ak aq => Post.mono (k_eUnit (k := k) aq xq) ?_)))
 rintro _ u26 aj ⟨ac, rfl, ag⟩
 refine zza 21 (.v (ac.v)) (zzj 8 ⟨24, [.bool false, .slice none 0 0]⟩ (zzi ⟨24, ac.cs⟩ ty24 ?_))
 refine zzb (sq9 (zzh 23 (.v (i.v)) ty24 zze (zzh 24 (.v (ac.v)) ty24 zze (zzg 25 162 _ fun _ _ ad av => Post.mono (k_ratMake av (hi.ext (an.t (am.t (ae.t (aw.t (ak.t (aj.t ad))))))) (ag.ext ad) (Nt.u2_pos _) xq xq) ?_))))
 rintro _ u32 ai ⟨ab, rfl, ay⟩
 refine zza 22 (.v (.tuple #[ab.v, .int .i64 0])) (zza 26 (.v (ab.v)) (zza 27 (zI 0) (zzj 9 ⟨26, zw3⟩ (zzi ⟨26, ab.cs⟩ ty26 ?_))))
 refine zza 10 (zI 0) (zzb (sq9 (zzh 29 (.v (al.v)) ty24 zze (zzh 30 (.v (ac.v)) ty24 zze (zzg 31 162 _ fun _ _ af ap => Post.mono (k_ratMake ap (ar.ext (ak.t (aj.t (ad.t (ai.t af))))) (ag.ext (ad.t (ai.t af))) (Nt.u2_pos _) xq xq) ?_)))))
 rintro _ u38 ao ⟨aa, rfl, au⟩
 refine zza 28 (.v (.tuple #[aa.v, .int .i64 0])) (zza 32 (.v (aa.v)) (zza 33 (zI 0) (zzj 11 ⟨26, zw3⟩ (zzi ⟨26, aa.cs⟩ ty26 ?_))))
 refine zza 12 (zI 0) (zzc 37 [(6, .adr 6 0), (9, .adr 9 0), (11, .adr 11 0)] [(6, ⟨32, zw6⟩), (9, ⟨26, ab.cs⟩), (11, ⟨26, aa.cs⟩)] (sq9 (zzh 34 (.v (ab.v)) ty26 zze (zzh 35 (.v (aa.v)) ty26 zze (zza 36 (.v (.agg #[.bool ab.s, ab.m.v, ab.d.v, .bool aa.s, aa.m.v, aa.d.v])) (zzi ⟨32, ab.cs ++ aa.cs⟩ ty32 ?_))))))
 refine zzb (zzn (ret0 [.agg #[.bool ab.s, ab.m.v, ab.d.v, .bool aa.s, aa.m.v, aa.d.v]] ⟨zzq ty32 zze, trivial⟩ fun u41 ah => ?_))
 refine ⟨ab, aa, rfl, RatN.more (K := (K + (k / 32 + 2) + 1)) ?_ xq, RatN.more (K := ((max K 2 + 1) + (k / 32 + 2) + 1)) ?_ xq⟩
 ·exact (ay.ext (af.t (ao.t ah)))
 exact (au.ext ah)
theorem k_betweenE {u w : World} {i : IL} {z : Int} {k K : Nat} (d : Dat u w) (hi : IntN u i z K) (hk : k ≤ 256) (hK0 : 1 ≤ K) (hK : K ≤ 900000) : Calls Tryz.prog 84 #[i.v, .bool true, .int .i64 (k : Int)] w (Post u w fun v u' => ∃ r1 r2 : RL, v = IV r1 r2 ∧ RatN u' r1 (Nt.gr k z) (K + 20) ∧ RatN u' r2 (Nt.gr k z) (K + 20)) := by
 refine zzl (args := [i.v, .bool true, .int .i64 k]) Tryz.func84 rfl Tryz.ntmps84 (rs := [.cell 6 32]) Tryz.results84 (le_b rfl) (le_b rfl) d ?_
 refine sq9 (zzj 3 ⟨24, i.cs⟩ (zzj 6 ⟨32, zw6⟩ (zzb (sq9 (zzh 13 (.v (i.v)) ty24 zze (zzj 7 ⟨24, [.bool false, .slice none 0 0]⟩ (zzi ⟨24, i.cs⟩ ty24 ?_)))))))
 refine zzb (zzd (sq9 (zza 14 (zB true) (zza 15 (zB false) (zzb (zyr xj (zzr (zzo ?_))))))))
 refine sq9 (zza 19 (zI k) (zzg 20 161 _ fun _ _ aj ap => Post.mono (k_eUnit (k := k) ap xq) ?_))
 rintro _ u14 ai ⟨ac, rfl, ah⟩
 refine zza 21 (.v (ac.v)) (zzj 8 ⟨24, [.bool false, .slice none 0 0]⟩ (zzi ⟨24, ac.cs⟩ ty24 ?_))
 refine zzb (sq9 (zzh 23 (.v (i.v)) ty24 zze (zzh 24 (.v (ac.v)) ty24 zze (zzg 25 162 _ fun _ _ ad ao => Post.mono (k_ratMake ao (hi.ext (aj.t (ai.t ad))) (ah.ext ad) (Nt.u2_pos _) xq xq) ?_))))
 rintro _ u20 ag ⟨ab, rfl, am⟩
 refine zza 22 (.v (.tuple #[ab.v, .int .i64 0])) (zza 26 (.v (ab.v)) (zza 27 (zI 0) (zzj 9 ⟨26, zw3⟩ (zzi ⟨26, ab.cs⟩ ty26 ?_))))
 refine zza 10 (zI 0) (zzb (sq9 (zzh 29 (.v (i.v)) ty24 zze (zzh 30 (.v (ac.v)) ty24 zze (zzg 31 162 _ fun _ _ ae al => Post.mono (k_ratMake al (hi.ext (aj.t (ai.t (ad.t (ag.t ae))))) (ah.ext (ad.t (ag.t ae))) (Nt.u2_pos _) xq xq) ?_)))))
 rintro _ u26 an ⟨aa, rfl, ak⟩
 refine zza 28 (.v (.tuple #[aa.v, .int .i64 0])) (zza 32 (.v (aa.v)) (zza 33 (zI 0) (zzj 11 ⟨26, zw3⟩ (zzi ⟨26, aa.cs⟩ ty26 ?_))))
 refine zza 12 (zI 0) (zzb (sq9 (zzh 34 (.v (ab.v)) ty26 zze (zzh 35 (.v (aa.v)) ty26 zze (zza 36 (.v (.agg #[.bool ab.s, ab.m.v, ab.d.v, .bool aa.s, aa.m.v, aa.d.v])) (zzi ⟨32, ab.cs ++ aa.cs⟩ ty32 ?_))))))
 refine zzc 37 [(6, .adr 6 0)] [(6, ⟨32, ab.cs ++ aa.cs⟩)] (zzn (ret0 [.agg #[.bool ab.s, ab.m.v, ab.d.v, .bool aa.s, aa.m.v, aa.d.v]] ⟨zzq ty32 zze, trivial⟩ fun u29 af => ?_))
 refine ⟨ab, aa, rfl, RatN.more (K := (K + (k / 32 + 2) + 1)) ?_ xq, RatN.more (K := (K + (k / 32 + 2) + 1)) ?_ xq⟩
 ·exact (am.ext (ae.t (an.t af)))
 exact (ak.ext af)
theorem k_betweenB {u w : World} {i : IL} {z : Int} {e : Bool} {k K : Nat} (d : Dat u w) (hi : IntN u i z K) (hk : k ≤ 256) (hK0 : 1 ≤ K) (hK : K ≤ 900000) : Calls Tryz.prog 84 #[i.v, .bool e, .int .i64 (k : Int)] w (Post u w fun v u' => ∃ r1 r2 : RL, v = IV r1 r2 ∧ RatN u' r1 (Nt.gr k z) (K + 20) ∧ RatN u' r2 (Nt.gr k (if e = true then z else z + 1)) (K + 20)) := by
 cases e with
 | true => exact k_betweenE d hi hk hK0 hK
 | false => exact k_betweenN d hi hk hK0 hK
theorem k_cos1 {u w : World} {p q k bp bq : Nat} (d : Dat u w) (hbp : u.heap[bp]? = some (.cells [Value.int .i64 (p : Int)].toArray 3 (0, 0))) (hbq : u.heap[bq]? = some (.cells [Value.int .i64 (q : Int)].toArray 3 (0, 0))) (hq0 : 0 < q) (hq : q ≤ 100000) (hp : 2 * p ≤ q) (hp1 : 1 ≤ p) (hk0 : 16 ≤ k) (hk : k ≤ 800) : Calls Tryz.prog 178 #[.int .i64 (k : Int), .pointer (some ⟨bp, 0, none⟩), .pointer (some ⟨bq, 0, none⟩)] w (Post u w fun v u' => ∃ (i j : IL) (a b : Int), v = SP i j ∧ IntN u' i a 42 ∧ IntN u' j b 42 ∧ Nt.CsR p q k a b) := by
 refine zzl (args := [.int .i64 k, .pointer (some ⟨bp, 0, none⟩), .pointer (some ⟨bq, 0, none⟩)]) Tryz.func178 rfl Tryz.ntmps178 (rs := [.cell 4 160]) Tryz.results178 (le_b rfl) (le_b rfl) d ?_
 refine sq9 (zzj 4 ⟨160, [.bool false, .slice none 0 0, .bool false, .slice none 0 0]⟩ (zzb (sq9 (zyk 5 (.int .i64 p) (var_cell1 hbp) ty3 (zyk 6 (.int .i64 q) (var_cell1 hbq) ty3 (zza 7 (zI k) (zzg 8 179 _ fun _ _ _ ai => Post.mono (k_cosineOf ai (p := p) (q := q) (k := k) hq0 hq hp hp1 xq xq) ?_)))))))
 rintro _ u13 g14 ⟨ab, aa, ag, ah, rfl, ac, ad, ae⟩
 refine zzi ⟨160, ab.cs ++ aa.cs⟩ ty160 ?_
 refine zzb (zzn (ret0 [.agg #[.bool ab.s, ab.m.v, .bool aa.s, aa.m.v]] ⟨zzq ty160 zze, trivial⟩ fun u16 af => ?_))
 exact ⟨ab, aa, _, _, rfl, (ac.ext af), (ad.ext af), ae⟩
set_option maxHeartbeats 2000000 in
theorem k_irrCos {u w : World} {p q bp bq : Nat} {k g : Nat} (d : Dat u w) (hbp : u.heap[bp]? = some (.cells [Value.int .i64 (p : Int)].toArray 3 (0, 0))) (hbq : u.heap[bq]? = some (.cells [Value.int .i64 (q : Int)].toArray 3 (0, 0))) (hq0 : 0 < q) (hq : q ≤ 100000) (hp : 2 * p ≤ q) (hp1 : 1 ≤ p) (hg : Nt.Gap (Nt.coN p q) k g) (hg3 : g ≤ 300) (hk : k ≤ 256) : Calls Tryz.prog 101 #[.func (.func 178) #[] #[.pointer (some ⟨bp, 0, none⟩), .pointer (some ⟨bq, 0, none⟩)], .int .i64 (k : Int)] w (Post u w fun v u' => ∃ r1 r2 : RL, v = IV r1 r2 ∧ RatN u' r1 (Nt.gr k (Nt.flo (Nt.coN p q) k)) 70 ∧ RatN u' r2 (Nt.gr k (Nt.flo (Nt.coN p q) k + 1)) 70) := by
 refine zzl (args := [.func (.func 178) #[] #[.pointer (some ⟨bp, 0, none⟩), .pointer (some ⟨bq, 0, none⟩)], .int .i64 k]) Tryz.func101 rfl Tryz.ntmps101 (rs := [.cell 4 32]) Tryz.results101 (le_b rfl) (le_b rfl) d ?_
 refine sq9 (zzj 4 ⟨32, zw6⟩ (zzb (sw_scope (I := fun aE S' u' => ∃ (wk : Nat), (aE = 1000 - wk) ∧ (k + 32 ≤ wk) ∧ (wk ≤ 674 ∨ wk = k + 32) ∧ (S' = St.of 49 [(0, .v (.func (.func 178) #[] #[.pointer (some ⟨bp, 0, none⟩), .pointer (some ⟨bq, 0, none⟩)])), (1, zI k), (4, .adr 4 0), (5, zI wk)] [(4, ⟨32, zw6⟩)]) ∧ (Ext u u')) (fun m S u1 u2 e h => by obtain ⟨wk, hm, p0, p1, hS, hE⟩ := h; exact ⟨wk, hm, p0, p1, hS, hE.trans e⟩) xj ?_ ?_)))
 ·skip
  refine zzf (zza 14 (zI k) (zyp 15 (x := zI (IntKind.i64.wrap ((k : Int) + 32))) (zI (k + 32 : Nat)) (eqI xk) (zza 5 (zI (k + 32 : Nat)) (zzw ?_))))
  exact mpi_into (T := St.of 49 [(0, .v (.func (.func 178) #[] #[.pointer (some ⟨bp, 0, none⟩), .pointer (some ⟨bq, 0, none⟩)])), (1, .v (.int .i64 (k : Int))), (4, .adr 4 0), (5, .v (.int .i64 ((k + 32 : Nat) : Int)))] [(4, ⟨32, zw6⟩)]) yz ⟨k + 32, rfl, by omega, .inr rfl, rfl, (Ext.refl _)⟩
 rintro aE _ u11 ⟨wk, aF, hw0, hw1, rfl, ay⟩
 refine sq9 (zza 16 (.v (.func (.func 178) #[] #[.pointer (some ⟨bp, 0, none⟩), .pointer (some ⟨bq, 0, none⟩)])) (zza 17 (zI wk) (zzg 18 178 _ fun _ _ ar aG => Post.mono (k_cos1 aG (k := wk) ((ay.trans ar).cells hbp) ((ay.trans ar).cells hbq) hq0 hq hp hp1 xq xq) ?_)))
 rintro _ u14 aO ⟨ag, ae, ah, ak, rfl, av, aq, aa⟩
 refine zzj 6 ⟨160, [.bool false, .slice none 0 0, .bool false, .slice none 0 0]⟩ (zzi ⟨160, ag.cs ++ ae.cs⟩ ty160 ?_)
 refine zzb (sq9 (zza 19 (zI wk) (zza 20 (zI k) (zyp 21 (x := zI (IntKind.i64.wrap ((wk : Int) - (k : Int)))) (zI (wk - k : Nat)) (eqI xk) (zzg 22 161 _ fun _ _ au aP => Post.mono (k_eUnit (k := wk - k) aP xq) ?_)))))
 rintro _ u20 ax ⟨an, rfl, aD⟩
 refine zza 23 (.v (an.v)) (zzj 7 ⟨24, [.bool false, .slice none 0 0]⟩ (zzi ⟨24, an.cs⟩ ty24 ?_))
 refine zzb (sq9 (zza 25 (.adr 6 0) (zzh 26 (.v (ag.v)) ty24 zze (zzh 27 (.v (an.v)) ty24 zze (zzg 28 180 _ fun _ _ af aI => Post.mono (k_intDivI aI (av.ext (au.t (ax.t af))).raw (aD.ext af) (Nt.u2_pos _) xq xq) ?_)))))
 rintro _ u28 aw ⟨ac, ap, rfl, aA, h27⟩
 refine zza 24 (.v (.tuple #[ac.v, ap.v, .int .i64 0])) (zza 29 (.v (ac.v)) (zza 30 (.v (ap.v)) (zza 31 (zI 0) (zzj 8 ⟨24, [.bool false, .slice none 0 0]⟩ (zzj 9 ⟨24, [.bool false, .slice none 0 0]⟩ (zzi ⟨24, ac.cs⟩ ty24 ?_))))))
 refine zzi ⟨24, ap.cs⟩ ty24 ?_
 refine zza 10 (zI 0) (zzb (sq9 (zza 33 (.adr 6 2) (zzh 34 (.v (ae.v)) ty24 zze (zzh 35 (.v (an.v)) ty24 zze (zzg 36 180 _ fun _ _ ad aQ => Post.mono (k_intDivI aQ (aq.ext (au.t (ax.t (af.t (aw.t ad))))).raw (aD.ext (af.t (aw.t ad))) (Nt.u2_pos _) xq xq) ?_))))))
 rintro _ u36 az ⟨al, ao, rfl, aH, h35⟩
 refine zza 32 (.v (.tuple #[al.v, ao.v, .int .i64 0])) (zza 37 (.v (al.v)) (zza 38 (.v (ao.v)) (zza 39 (zI 0) (zzj 11 ⟨24, [.bool false, .slice none 0 0]⟩ (zzj 12 ⟨24, [.bool false, .slice none 0 0]⟩ (zzi ⟨24, al.cs⟩ ty24 ?_))))))
 refine zzi ⟨24, ao.cs⟩ ty24 ?_
 refine zza 13 (zI 0) (zzc 49 [(0, .v (.func (.func 178) #[] #[.pointer (some ⟨bp, 0, none⟩), .pointer (some ⟨bq, 0, none⟩)])), (1, zI k), (4, .adr 4 0), (5, zI wk), (8, .adr 8 0), (11, .adr 11 0)] [(4, ⟨32, zw6⟩), (8, ⟨24, ac.cs⟩), (11, ⟨24, al.cs⟩)] (zzd (sq9 (zzh 40 (.v (ac.v)) ty24 zze (zzh 41 (.v (al.v)) ty24 zze (zzg 42 181 _ fun _ _ am aM => Post.mono (k_intCompare aM (aA.ext (ad.t (az.t am))).raw (aH.ext am).raw) ?_))))))
 rintro _ u40 aB rfl
 refine zza 43 (zB ((Nt.cmpS (ah / (Nt.u2 (wk - k))) (ak / (Nt.u2 (wk - k)))) != 0)) (zzb (zzt (b := (Nt.cmpS (ah / (Nt.u2 (wk - k))) (ak / (Nt.u2 (wk - k)))) != 0) xj (fun ab => ?_) (fun ab => ?_)))
 ·refine sq9 (zza 44 (zI wk) (zyp 45 (x := zI (IntKind.i64.wrap ((wk : Int) * 2))) (zI (wk * 2 : Nat)) (eqI xk) (zza 5 (zI (wk * 2 : Nat)) (zzb ?_))))
  have hny := Nt.not_yet hg aa.1 ((Nt.csR_bd aa hq0 hp xq).2.2.2.2.2) ab
  refine sw_goto (mpg_seq (mpg_jump (m := _) (T := St.of 49 [(0, .v (.func (.func 178) #[] #[.pointer (some ⟨bp, 0, none⟩), .pointer (some ⟨bq, 0, none⟩)])), (1, zI k), (4, .adr 4 0), (5, zI (wk * 2 : Nat))] [(4, ⟨32, zw6⟩)]) ?_ yz ⟨wk * 2, rfl, by omega, by omega, rfl, (ay.t (ar.t (aO.t (au.t (ax.t (af.t (aw.t (ad.t (az.t (am.t aB.ext))))))))))⟩))
  omega
 refine zzr (zzo ?_)
 refine sq9 (zzh 46 (.v (ac.v)) ty24 zze (zza 47 (zI k) (zzg 48 84 _ fun _ _ aK aL => Post.mono (k_betweenN (k := k) aL (aA.ext (ad.t (az.t (am.t (aB.t aK))))) xq xq xq) ?_)))
 rintro _ u49 g50 ⟨aj, ai, rfl, aN, aJ⟩
 refine zzi ⟨32, aj.cs ++ ai.cs⟩ ty32 ?_
 refine zzb (zzn (mpr_jump (ret0 [.agg #[.bool aj.s, aj.m.v, aj.d.v, .bool ai.s, ai.m.v, ai.d.v]] ⟨zzq ty32 zze, trivial⟩ fun u52 aC => ?_)))
 have hfl := Nt.flo_of aa.1 xq ab
 refine ⟨aj, ai, rfl, RatN.more (K := ((42 + 1) + 20)) ?_ xq, RatN.more (K := ((42 + 1) + 20)) ?_ xq⟩
 ·rw [← hfl]; exact (aN.ext aC)
 rw [← hfl]; exact (aJ.ext aC)
end Go.Proofs.YtbolmkfphieogaaGreat
