/- Parts of the proof: contracts of functions, each walked once, and plain laws. -/
import Derived.Test.YtbolmkfphieogaaGreatDdoD
import Derived.IntWalk
import Derived.ScopeJumps
set_option linter.unusedVariables false
namespace Go.Proofs.YtbolmkfphieogaaGreat
namespace Nt
theorem cdw {a b d W : Int} (hd : 0 < d) (h : b - a ≤ W * d) : cdiv b d - a / d ≤ W + 1 := by
 have h1 := cd_width (a := a) (b := b) hd
 rcases Int.lt_or_le (W + 1) (cdiv b d - a / d) with h2 | h2
 ·have h3 := Int.mul_le_mul_of_nonneg_right (show W + 2 ≤ cdiv b d - a / d by omega) (show 0 ≤ d by omega)
  rw [Int.add_mul] at h3
  omega
 exact h2
theorem prod_width {U a b c d W V A C : Int} (hU : 0 < U) (ha : 0 ≤ a) (hc : 0 ≤ c) (h1 : b - a ≤ W) (h2 : d - c ≤ V) (h3 : a ≤ A * U) (h4 : d ≤ C * U) (hA : 0 ≤ A) (hC : 0 ≤ C) (hW : 0 ≤ W) (hV : 0 ≤ V) (hab : a ≤ b) (hcd : c ≤ d) : cdiv (b * d) U - a * c / U ≤ W * C + V * A + 1 := by
 refine cdw hU ?_
 have e : b * d - a * c = (b - a) * d + (d - c) * a := by grind
 have k1 : (b - a) * d ≤ W * (C * U) := Int.le_trans (Int.mul_le_mul_of_nonneg_right h1 xq) (Int.mul_le_mul_of_nonneg_left h4 hW)
 have k2 : (d - c) * a ≤ V * (A * U) := Int.le_trans (Int.mul_le_mul_of_nonneg_right h2 ha) (Int.mul_le_mul_of_nonneg_left h3 hV)
 have e2 : (W * C + V * A) * U = W * (C * U) + V * (A * U) := by grind
 rw [e, e2]; omega
def CsY (p q w : Nat) (lo hi : Int) : Prop := (∃ N : Nat, ∀ m, N ≤ m → Enc (u2 w) lo hi (csY p q m)) ∧ hi - lo ≤ 128 * (w : Int) + 402 ∧ 0 ≤ lo ∧ hi ≤ 2 * u2 w ∧ lo ≤ hi ∧ 1 ≤ hi
theorem csY_b {p q m : Nat} (hq : 0 < q) (hp : 2 * p ≤ q) (hm : 1 ≤ m) : 0 ≤ csY p q m ∧ csY p q m ≤ 8 / 5 := by
 have h1 := piN_b hm
 have hq' := cast_pos hq
 have hp0 : (0 : Rat) ≤ (p : Rat) := Rat.natCast_le_natCast.2 (Nat.zero_le p)
 have hpi0 : 0 ≤ piN m := Rat.le_trans (by decide +kernel) h1.1
 unfold csY
 refine ⟨div_nn (Rat.mul_nonneg hpi0 hp0) hq', dv_le hq' ?_⟩
 have h2 : ((2 * p : Nat) : Rat) ≤ (q : Rat) := Rat.natCast_le_natCast.2 hp
 rw [Rat.natCast_mul] at h2
 have e2 : ((2 : Nat) : Rat) = 2 := rfl
 rw [e2] at h2
 have h3 := Rat.mul_le_mul_of_nonneg_right h1.2 hp0
 have h4 := Rat.mul_le_mul_of_nonneg_left (c := (8 / 5 : Rat)) h2 (by decide +kernel)
 have e3 : (8 / 5 : Rat) * (2 * (p : Rat)) = 16 / 5 * (p : Rat) := by grind
 rw [e3] at h4
 exact Rat.le_trans h3 h4
theorem CsY.of {p q w : Nat} {a b : Int} (h : PiR w a b) (hw : 16 ≤ w) (hq : 0 < q) (hp : 2 * p ≤ q) (hp1 : 1 ≤ p) : CsY p q w (a * (p : Int) / (q : Int)) (cdiv (b * (p : Int)) (q : Int)) := by
 obtain ⟨h0, h4, hab, hb1⟩ := h.bd hw
 obtain ⟨⟨N, h1⟩, h2⟩ := h
 have l8 := lin8 w hw
 have hU := u2_pos w
 have E : ∀ m, N ≤ m → Enc (u2 w) (a * (p : Int) / (q : Int)) (cdiv (b * (p : Int)) (q : Int)) (csY p q m) := fun m hm => ((h1 m hm).times (n := p)).over (d := (q : Int)) xq
 have hwd : cdiv (b * (p : Int)) (q : Int) - a * (p : Int) / (q : Int) ≤ 128 * (w : Int) + 402 := by
  have := cdw (a := a * (p : Int)) (b := b * (p : Int)) (d := (q : Int)) (W := 128 * (w : Int) + 400) xq (by
   rw [← Int.sub_mul]
   exact Int.le_trans (Int.mul_le_mul_of_nonneg_right h2 xq) (Int.mul_le_mul_of_nonneg_left (show (p : Int) ≤ (q : Int) by omega) xq))
  omega
 have hlo : 0 ≤ a * (p : Int) / (q : Int) := fl_nn (Int.mul_nonneg h0 xq) xq
 have e1 := E (N + 1) xq
 have h5 : 5 * (a * (p : Int) / (q : Int)) ≤ 8 * u2 w := by
  have h6 := csY_b (m := N + 1) hq hp xq
  have h7 := Rat.mul_le_mul_of_nonneg_right h6.2 (Rat.le_of_lt (castI_pos hU))
  have h8 := e1.1
  refine Rat.intCast_le_intCast.1 ?_
  rw [Rat.intCast_mul, Rat.intCast_mul]
  have e5 : ((5 : Int) : Rat) = 5 := rfl
  have e16 : ((8 : Int) : Rat) = 8 := rfl
  rw [e5, e16]
  grind
 have hbp : 1 ≤ b * (p : Int) := by
  have := Int.mul_le_mul hb1 (show (1 : Int) ≤ (p : Int) by omega) xw xq
  omega
 exact ⟨⟨N, E⟩, hwd, hlo, by omega, e1.le, cd_ge (c := 0) xq xq⟩
def CsQ (p q w : Nat) (lo hi : Int) : Prop := (∃ N : Nat, ∀ m, N ≤ m → Enc (u2 w) lo hi (csY p q m * csY p q m)) ∧ hi - lo ≤ 512 * (w : Int) + 1609 ∧ 0 ≤ lo ∧ hi ≤ 4 * u2 w ∧ lo ≤ hi ∧ 1 ≤ hi
theorem CsQ.of {p q w : Nat} {a b : Int} (h : CsY p q w a b) : CsQ p q w (a * a / u2 w) (cdiv (b * b) (u2 w)) := by
 obtain ⟨⟨N, h1⟩, h2, h3, h4, h5, h51⟩ := h
 have hU := u2_pos w
 have E : ∀ m, N ≤ m → Enc (u2 w) (a * a / u2 w) (cdiv (b * b) (u2 w)) (csY p q m * csY p q m) := fun m hm => (h1 m hm).prod (h1 m hm) h3 h3 hU
 refine ⟨⟨N, E⟩, ?_, fl_nn (Int.mul_nonneg h3 h3) hU, cd_le hU ?_, (E N (Nat.le_refl _)).le, cd_ge (c := 0) hU (by have := Int.mul_le_mul h51 h51 xw xq; omega)⟩
 ·have := prod_width (A := 2) (C := 2) hU h3 h3 h2 h2 xq h4 xq xq xq xq h5 h5
  omega
 have h6 := Int.mul_le_mul h4 h4 xq xq
 have e : 2 * u2 w * (2 * u2 w) = 4 * u2 w * u2 w := by grind
 rw [e] at h6; exact h6
def csW (w : Nat) : Int := 512 * (w : Int) + 1611
structure CsT (p q w j : Nat) (tl th : Int) : Prop where
 e : ∃ N : Nat, ∀ m, N ≤ m → Enc (u2 w) tl th (csT (csY p q m) j)
 t0 : 0 ≤ tl
 t1 : 1 ≤ th
 tt : tl ≤ th
 t2 : th ≤ 2 * u2 w
 tw : th - tl ≤ csW w
 t00 : j = 0 → tl = th ∧ th = u2 w
 fall : th * u2 j ≤ 4 * u2 w
theorem CsT.start {p q w : Nat} : CsT p q w 0 (u2 w) (u2 w) := by
 have hU := u2_pos w
 refine ⟨⟨0, fun m _ => Enc.one⟩, by omega, by omega, by omega, by omega, ?_, fun _ => ⟨rfl, rfl⟩, ?_⟩
 ·unfold csW; omega
 show u2 w * 1 ≤ _; omega
def coD (j : Nat) : Int := (((2 * j + 2) * (2 * j + 1) : Nat) : Int)
theorem coD_pos (j : Nat) : 2 ≤ coD j := by
 have := Nat.mul_le_mul (show 2 ≤ 2 * j + 2 by omega) (show 1 ≤ 2 * j + 1 by omega)
 unfold coD; omega
theorem coD_12 {j : Nat} (hj : 1 ≤ j) : 12 ≤ coD j := by
 have := Nat.mul_le_mul (show 4 ≤ 2 * j + 2 by omega) (show 3 ≤ 2 * j + 1 by omega)
 unfold coD; omega
def csL (w j : Nat) (tl ql : Int) : Int := tl * ql / u2 w / coD j
def csH (w j : Nat) (th qh : Int) : Int := cdiv (cdiv (th * qh) (u2 w)) (coD j)
section
variable {p q w j : Nat} {tl th ql qh : Int}
theorem CsT.jw (h : CsT p q w j tl th) : j ≤ w + 2 := by
 refine u2_le_iff (Int.le_trans ?_ (Int.le_trans h.fall (by rw [u2_add w 2]; show 4 * u2 w ≤ u2 w * 4; omega)))
 have := Int.mul_le_mul_of_nonneg_right h.t1 (Int.le_of_lt (u2_pos j))
 omega
theorem CsT.term (h : CsT p q w j tl th) (hq : CsQ p q w ql qh) : ∃ N : Nat, ∀ m, N ≤ m → Enc (u2 w) (csL w j tl ql) (csH w j th qh) (csT (csY p q m) (j + 1)) := by
 obtain ⟨N, h1⟩ := h.e
 obtain ⟨⟨M, k1⟩, k2, k3, k4, k5, k6⟩ := hq
 exact ⟨max N M, fun m hm => (((h1 m xq).prod (k1 m xq) h.t0 k3 (u2_pos w)).over (by have := coD_pos j; omega))⟩
theorem CsT.next (h : CsT p q w j tl th) (hq : CsQ p q w ql qh) (ht : j ≤ 1 ∨ 2 ≤ th) : CsT p q w (j + 1) (csL w j tl ql) (csH w j th qh) ∧ (1 ≤ j → csH w j th qh ≤ th) ∧ (1 ≤ j → 2 ≤ th → 2 * csH w j th qh ≤ th) := by
 have hE := h.term hq
 have hU := u2_pos w
 have hd := coD_pos j
 obtain ⟨N, h1⟩ := id hE
 have hle := (h1 N (Nat.le_refl _)).le
 obtain ⟨_, k2, k3, k4, k5, k6⟩ := hq
 have t0 := h.t0
 have t1 := h.t1
 have t2 := h.t2
 have tt := h.tt
 have tw := h.tw
 have hfl := h.fall
 have g0 : 0 ≤ csL w j tl ql := fl_nn (fl_nn (Int.mul_nonneg t0 k3) hU) xq
 have g1 : cdiv (th * qh) (u2 w) ≤ 4 * th := cd_le hU (by
  have := Int.mul_le_mul_of_nonneg_left k4 (show 0 ≤ th by omega)
  have e : th * (4 * u2 w) = 4 * th * u2 w := by grind
  rw [e] at this; exact this)
 have g2 : csH w j th qh ≤ 2 * th := cd_le xq (by
  have := Int.mul_le_mul_of_nonneg_left hd (show 0 ≤ 2 * th by omega); omega)
 have g3 : 1 ≤ j → csH w j th qh ≤ cdiv th 3 := fun hj => cd_le xq (by
  have h5 := (cd_mul (b := th) (d := 3) xw).1
  have h6 := Int.mul_le_mul_of_nonneg_left (coD_12 hj) (show 0 ≤ cdiv th 3 by omega)
  omega)
 have g4 : cdiv th 3 ≤ th := cd_self xq xw
 have g5 : 1 ≤ th * qh := by
  have := Int.mul_le_mul t1 k6 xw xq
  omega
 have g6 : 1 ≤ cdiv (th * qh) (u2 w) := cd_ge (c := 0) hU xq
 have g7 : 1 ≤ csH w j th qh := cd_ge (c := 0) xq xq
 have g8 : 1 ≤ j → 2 ≤ th → 2 * csH w j th qh ≤ th := fun hj h2 => by
  have h3 := g3 hj
  have h4 := cd_half (b := th) (d := 3) h2 xw
  omega
 have g9 : 1 ≤ j → csH w j th qh ≤ th := fun hj => Int.le_trans (g3 hj) g4
 have aa : csH w j th qh ≤ 2 * u2 w := by
  by_cases hj : j = 0
  ·rw [(h.t00 hj).2] at g2 ⊢
   exact g2
  have := g9 xq; omega
 refine ⟨⟨hE, g0, g7, hle, aa, ?_, by omega, ?_⟩, g9, g8⟩
 ·by_cases hj : j = 0
  ·obtain ⟨e1, e2⟩ := h.t00 hj
   have := prod_width (A := 1) (C := 4) (W := 0) (V := 512 * (w : Int) + 1609) hU t0 k3 xq k2 xq k4 xq xq xq xq tt k5
   have h9 := cdw (a := tl * ql / u2 w) (b := cdiv (th * qh) (u2 w)) (d := coD j) (W := 512 * (w : Int) + 1610) xq (by
    have := Int.mul_le_mul_of_nonneg_left (show 1 ≤ coD j by omega) (show 0 ≤ 512 * (w : Int) + 1610 by omega)
    omega)
   unfold csW csL csH; omega
  have ab : 1 ≤ j := by omega
  have hd12 := coD_12 ab
  have := prod_width (A := 2) (C := 4) (W := csW w) (V := 512 * (w : Int) + 1609) hU t0 k3 tw k2 xq k4 xq xq (by unfold csW; omega) xq tt k5
  have h9 := cdw (a := tl * ql / u2 w) (b := cdiv (th * qh) (u2 w)) (d := coD j) (W := 512 * (w : Int) + 1610) xq (by
   have := Int.mul_le_mul_of_nonneg_left hd12 (show 0 ≤ 512 * (w : Int) + 1610 by omega)
   unfold csW at *
   omega)
  unfold csW csL csH; omega
 have e2 : u2 (j + 1) = u2 j * 2 := u2_add j 1
 rw [e2]
 have e : csH w j th qh * (u2 j * 2) = 2 * csH w j th qh * u2 j := by grind
 rw [e]
 by_cases hj : j = 0
 ·subst hj
  show 2 * csH w 0 th qh * 1 ≤ _
  omega
 by_cases h2 : 2 ≤ th
 ·have h4 := g8 xq h2
  exact Int.le_trans (Int.mul_le_mul_of_nonneg_right h4 (Int.le_of_lt (u2_pos j))) hfl
 have h4 := g9 xq
 obtain rfl : j = 1 := by omega
 show 2 * csH w 1 th qh * 2 ≤ _
 omega
end
structure CsI (p q w j : Nat) (tl th sl sh : Int) : Prop where
 c : CsT p q w j tl th
 s : ∃ N : Nat, ∀ m, N ≤ m → Enc (u2 w) sl sh (alt (csT (csY p q m)) (j + 1))
 sw : sh - sl ≤ csW w * (j : Int)
def CsR (p q w : Nat) (lo hi : Int) : Prop := (∃ N : Nat, ∀ m, N ≤ m → Enc (u2 w) lo hi (coN p q m)) ∧ hi - lo ≤ csW w * ((w : Int) + 4) + 2
theorem CsI.start {p q w : Nat} : CsI p q w 0 (u2 w) (u2 w) (u2 w) (u2 w) := by
 refine ⟨CsT.start, ⟨0, fun m _ => ?_⟩, by omega⟩
 have : alt (csT (csY p q m)) (0 + 1) = 1 := by show 0 + (1 : Rat) * 1 = 1; decide +kernel
 rw [this]; exact Enc.one
def csM (w j : Nat) (th : Int) : Nat := if j = 0 then (4 * u2 w).toNat else th.toNat
def CsS (w j : Nat) (tl th ql qh sl sh sl' sh' : Int) : Prop := j % 2 = 0 ∧ sl' = sl - csH w j th qh ∧ sh' = sh - csL w j tl ql ∨ ¬ j % 2 = 0 ∧ sl' = sl + csL w j tl ql ∧ sh' = sh + csH w j th qh
section
variable {p q w j : Nat} {tl th sl sh ql qh sl' sh' : Int}
theorem CsI.sum (h : CsI p q w j tl th sl sh) (hq : CsQ p q w ql qh) (hs : CsS w j tl th ql qh sl sh sl' sh') : (∃ N : Nat, ∀ m, N ≤ m → Enc (u2 w) sl' sh' (alt (csT (csY p q m)) (j + 1 + 1))) ∧ sh' - sl' = sh - sl + (csH w j th qh - csL w j tl ql) := by
 obtain ⟨N, h1⟩ := h.c.term hq
 obtain ⟨M, h2⟩ := h.s
 rcases hs with ⟨e, rfl, rfl⟩ | ⟨e, rfl, rfl⟩
 ·refine ⟨⟨max N M, fun m hm => ?_⟩, by omega⟩
  have e2 : alt (csT (csY p q m)) (j + 1 + 1) = alt (csT (csY p q m)) (j + 1) - csT (csY p q m) (j + 1) := by
   rw [alt_s]; unfold sgn; rw [if_neg xq]; grind
  rw [e2]; exact (h2 m xq).sub (h1 m xq)
 refine ⟨⟨max N M, fun m hm => ?_⟩, by omega⟩
 have e2 : alt (csT (csY p q m)) (j + 1 + 1) = alt (csT (csY p q m)) (j + 1) + csT (csY p q m) (j + 1) := by
  rw [alt_s]; unfold sgn; rw [if_pos xq]; grind
 rw [e2]; exact (h2 m xq).add (h1 m xq)
theorem CsI.go (h : CsI p q w j tl th sl sh) (hq : CsQ p q w ql qh) (ht : j = 0 ∨ 2 ≤ csH w j th qh) (hs : CsS w j tl th ql qh sl sh sl' sh') :
  CsI p q w (j + 1) (csL w j tl ql) (csH w j th qh) sl' sh' ∧ csM w (j + 1) (csH w j th qh) < csM w j th := by
 have hT : 1 ≤ j → csH w j th qh ≤ th := fun hj => (h.c.next hq (by
  rcases Int.lt_or_le th 2 with h2 | h2
  ·exact .inl (by
    have hd := coD_12 hj
    have hU := u2_pos w
    have t1 := h.c.t1
    have k4 := hq.2.2.2.1
    have k1 : csH w j th qh ≤ 1 := cd_le xq (by
     have : cdiv (th * qh) (u2 w) ≤ 4 := cd_le hU (by
      have e : th = 1 := by omega
      rw [e, Int.one_mul]; exact k4)
     omega)
    omega)
  exact .inr h2)).2.1 hj
 have hN := h.c.next hq (by
  by_cases hj : j = 0
  ·exact .inl xq
  have := hT xq; exact .inr xq)
 obtain ⟨S1, S2⟩ := h.sum hq hs
 have hsw := h.sw
 have hU := u2_pos w
 have htw := hN.1.tw
 have e : csW w * (((j + 1 : Nat)) : Int) = csW w * (j : Int) + csW w := by rw [Int.natCast_add, Int.mul_add]; simp
 refine ⟨⟨hN.1, S1, by rw [e]; omega⟩, ?_⟩
 have ht2 := hN.1.t2
 unfold csM
 rw [if_neg xq]
 by_cases hj : j = 0
 ·rw [if_pos hj]; omega
 rw [if_neg hj]
 have h4 := hN.2.2 xq (by have := hT xq; omega)
 omega
theorem cs_near {x : Nat → Rat} {m : Nat} {y : Rat} {j : Nat} (hy : 0 ≤ y ∧ y ≤ 8 / 5) (hj : 1 ≤ j) (hm : j ≤ m) : alt (csT y) j - csT y j ≤ alt (csT y) m ∧ alt (csT y) m ≤ alt (csT y) j + csT y j := by
 have hyy : y * y ≤ 12 := Rat.le_trans (mulm hy.2 hy.2 hy.1 hy.1) (by decide +kernel)
 exact alt_near (j0 := 1) (csT_nn _) (csT_le hyy) hj hm
theorem CsI.out (h : CsI p q w j tl th sl sh) (hq : CsQ p q w ql qh) (h0 : 0 < q) (hp : 2 * p ≤ q) (hj : 1 ≤ j) (ht : csH w j th qh ≤ 1) (hs : CsS w j tl th ql qh sl sh sl' sh') : CsR p q w (sl' - 1) (sh' + 1) := by
 obtain ⟨S1, S2⟩ := h.sum hq hs
 obtain ⟨M, h2⟩ := S1
 obtain ⟨N, h1⟩ := h.c.term hq
 have hU := u2_pos w
 have hL : 0 ≤ csL w j tl ql := fl_nn (fl_nn (Int.mul_nonneg h.c.t0 hq.2.2.1) hU) (by have := coD_pos j; omega)
 refine ⟨⟨max (max N M) (j + 2), fun m hm => ?_⟩, ?_⟩
 ·have hy := csY_b (m := m) h0 hp xq
  have hyy : csY p q m * csY p q m ≤ 12 := Rat.le_trans (mulm hy.2 hy.2 hy.1 hy.1) (by decide +kernel)
  have h3 := cs_near (x := fun _ => 0) (m := m) (j := j + 1 + 1) hy xq xq
  have h4 := csT_le hyy (j + 1) xq
  refine (h2 m xq).near h3.1 h3.2 ?_ hU
  have h5 := Rat.mul_le_mul_of_nonneg_right h4 (Rat.le_of_lt (castI_pos hU))
  have h6 : ((csH w j th qh : Int) : Rat) ≤ ((1 : Int) : Rat) := Rat.intCast_le_intCast.2 ht
  have e : ((1 : Int) : Rat) = 1 := rfl
  rw [e] at h6
  exact Rat.le_trans h5 (Rat.le_trans (h1 m xq).2 h6)
 have h6 := h.sw
 have h7 := h.c.jw
 have h8 := Int.mul_le_mul_of_nonneg_left (show (j : Int) + 1 ≤ (w : Int) + 4 by omega) (show 0 ≤ csW w by unfold csW; omega)
 rw [Int.mul_add] at h8
 have : 1 ≤ csW w := by unfold csW; omega
 omega
theorem cs_bd {N : Nat} {m : Nat} (h0 : 0 < q) (hp : 2 * p ≤ q) (hm : 1 ≤ m) (hj : 1 ≤ j) (h2 : Enc (u2 w) sl sh (alt (csT (csY p q m)) j)) : sl ≤ 3 * u2 w ∧ -(3 * u2 w) ≤ sh := by
 have hy := csY_b (m := m) h0 hp hm
 have h3 := cs_near (x := fun _ => 0) (j := 1) (m := j) hy xq xq
 have hyy := mulm hy.2 hy.2 hy.1 hy.1
 have e1 : alt (csT (csY p q m)) 1 = 1 := by show 0 + (1 : Rat) * 1 = 1; decide +kernel
 have h4 : csT (csY p q m) 1 ≤ 2 := by
  show 1 * (csY p q m * csY p q m) / (((2 * 0 + 2) * (2 * 0 + 1) : Nat) : Rat) ≤ 2
  refine dv_le (cast_pos xw) ?_
  rw [Rat.one_mul]
  exact Rat.le_trans hyy (by decide +kernel)
 rw [e1] at h3
 have hU := castI_pos (u2_pos w)
 have h5 : alt (csT (csY p q m)) j * (u2 w : Rat) ≤ ((3 * u2 w : Int) : Rat) := by
  rw [Rat.intCast_mul]
  refine Rat.mul_le_mul_of_nonneg_right ?_ (Rat.le_of_lt hU)
  have e : ((3 : Int) : Rat) = 3 := rfl
  rw [e]; grind
 have h6 : ((-(3 * u2 w) : Int) : Rat) ≤ alt (csT (csY p q m)) j * (u2 w : Rat) := by
  have e : -(3 * u2 w) = (-3) * u2 w := by omega
  rw [e, Rat.intCast_mul]
  refine Rat.mul_le_mul_of_nonneg_right ?_ (Rat.le_of_lt hU)
  have e : ((-3 : Int) : Rat) = -3 := rfl
  rw [e]; grind
 exact ⟨h2.lo_le h5, h2.le_hi h6⟩
theorem CsI.bd (h : CsI p q w j tl th sl sh) (h0 : 0 < q) (hp : 2 * p ≤ q) : -(csW w * ((w : Int) + 2)) - 3 * u2 w ≤ sl ∧ sl ≤ 3 * u2 w ∧ -(3 * u2 w) ≤ sh ∧ sh ≤ 3 * u2 w + csW w * ((w : Int) + 2) := by
 obtain ⟨N, h1⟩ := h.s
 have h2 := cs_bd (N := N) (m := N + 1) h0 hp xq xq (h1 (N + 1) xq)
 have h9 := h.sw
 have h10 := h.c.jw
 have h11 := Int.mul_le_mul_of_nonneg_left (show (j : Int) ≤ (w : Int) + 2 by omega) (show 0 ≤ csW w by unfold csW; omega)
 omega
end
def FlO (X : Nat → Rat) (b : Nat) (z : Int) : Prop := ∃ N : Nat, ∀ m, N ≤ m → (z : Rat) ≤ X m * (u2 b : Rat) ∧ X m * (u2 b : Rat) < ((z + 1 : Int) : Rat)
theorem FlO.uniq {X : Nat → Rat} {b : Nat} {y z : Int} (h : FlO X b y) (k : FlO X b z) : y = z := by
 obtain ⟨N, h⟩ := h
 obtain ⟨M, k⟩ := k
 have h1 := h (max N M) xq
 have k1 := k (max N M) xq
 have a := Rat.intCast_lt_intCast.1 (Std.lt_of_le_of_lt h1.1 k1.2)
 have c := Rat.intCast_lt_intCast.1 (Std.lt_of_le_of_lt k1.1 h1.2)
 omega
theorem FlO.of {X : Nat → Rat} {b w : Nat} {lo hi z : Int} (h : ∃ N : Nat, ∀ m, N ≤ m → Enc (u2 w) lo hi (X m)) (hb : b ≤ w) (h1 : lo / u2 (w - b) = z) (h2 : hi / u2 (w - b) = z) : FlO X b z := by
 obtain ⟨N, h⟩ := h
 refine ⟨N, fun m hm => ?_⟩
 have h3 := h m hm
 have hp := u2_pos (w - b)
 have e : u2 w = u2 b * u2 (w - b) := by rw [← u2_add, show b + (w - b) = w by omega]
 have k1 := (fl_mul (a := lo) hp).1
 have k2 := Int.lt_ediv_add_one_mul_self hi hp
 rw [h1] at k1
 rw [h2] at k2
 have r1 := Rat.intCast_le_intCast.2 k1
 have r2 := Rat.intCast_lt_intCast.2 k2
 rw [Rat.intCast_mul] at r1 r2
 obtain ⟨h4, h5⟩ := h3
 rw [e, Rat.intCast_mul, ← Rat.mul_assoc] at h4 h5
 refine ⟨Rat.le_of_mul_le_mul_right (Rat.le_trans r1 h4) (castI_pos hp), ?_⟩
 by_cases h6 : X m * (u2 b : Rat) < ((z + 1 : Int) : Rat)
 ·exact h6
 have h7 := Rat.mul_le_mul_of_nonneg_right (Rat.not_lt.1 h6) (Rat.le_of_lt (castI_pos hp))
 exact absurd (Std.lt_of_le_of_lt (Rat.le_trans h7 h5) r2) (by grind)
def Gap (X : Nat → Rat) (b g : Nat) : Prop := b ≤ g ∧ ∃ (z : Int) (N : Nat), ∀ m, N ≤ m → ((z * u2 (g - b) + 1 : Int) : Rat) ≤ X m * (u2 g : Rat) ∧ X m * (u2 g : Rat) ≤ ((z * u2 (g - b) + u2 (g - b) - 1 : Int) : Rat)
theorem Gap.decides {X : Nat → Rat} {b g w : Nat} {lo hi : Int} (h0 : Gap X b g) (h : ∃ N : Nat, ∀ m, N ≤ m → Enc (u2 w) lo hi (X m)) (hb : g ≤ w) (hw : hi - lo < u2 (w - g)) : lo / u2 (w - b) = hi / u2 (w - b) := by
 obtain ⟨hbg, z, N, g0⟩ := h0
 obtain ⟨M, h⟩ := h
 have g1 := g0 (max N M) xq
 have h1 := h (max N M) xq
 have e : u2 w = u2 g * u2 (w - g) := by rw [← u2_add, show g + (w - g) = w by omega]
 have e2 : u2 (w - b) = u2 (g - b) * u2 (w - g) := by rw [← u2_add, show g - b + (w - g) = w - b by omega]
 have hs := u2_pos (w - g)
 have hB := u2_pos (g - b)
 generalize u2 (w - g) = s at *
 generalize u2 (g - b) = B at *
 obtain ⟨h4, h5⟩ := h1
 rw [e, Rat.intCast_mul, ← Rat.mul_assoc] at h4 h5
 have r1 := Rat.mul_le_mul_of_nonneg_right g1.1 (Rat.le_of_lt (castI_pos hs))
 have r2 := Rat.mul_le_mul_of_nonneg_right g1.2 (Rat.le_of_lt (castI_pos hs))
 rw [← Rat.intCast_mul] at r1 r2
 have k1 := Rat.intCast_le_intCast.1 (Rat.le_trans r1 h5)
 have k2 := Rat.intCast_le_intCast.1 (Rat.le_trans h4 r2)
 have hS : 0 < B * s := Int.mul_pos hB hs
 have e3 : (z * B + 1) * s = z * (B * s) + s := by grind
 have e4 : (z * B + B - 1) * s = z * (B * s) + B * s - s := by grind
 rw [e3] at k1
 rw [e4] at k2
 have f : ∀ y : Int, z * (B * s) ≤ y → y < z * (B * s) + B * s → y / u2 (w - b) = z := fun y h1 h2 => by
  rw [e2]
  have a1 := Int.le_ediv_of_mul_le hS h1
  have a2 : y / (B * s) < z + 1 := Int.ediv_lt_of_lt_mul hS (by rw [Int.add_mul, Int.one_mul]; exact h2)
  omega
 have hle : lo ≤ hi := (h (max N M) xq).le
 rw [f lo xq xq, f hi xq xq]
theorem Gap.of {X : Nat → Rat} {b g w : Nat} {lo hi : Int} (h : ∃ N : Nat, ∀ m, N ≤ m → Enc (u2 w) lo hi (X m)) (z : Int) (hb : b ≤ g) (hg : g ≤ w) (h1 : (z * u2 (g - b) + 1) * u2 (w - g) ≤ lo) (h2 : hi ≤ (z * u2 (g - b) + u2 (g - b) - 1) * u2 (w - g)) : Gap X b g := by
 obtain ⟨N, h⟩ := h
 have e : u2 w = u2 g * u2 (w - g) := by rw [← u2_add, show g + (w - g) = w by omega]
 have hs := castI_pos (u2_pos (w - g))
 refine ⟨hb, z, N, fun m hm => ?_⟩
 obtain ⟨h4, h5⟩ := h m hm
 rw [e, Rat.intCast_mul, ← Rat.mul_assoc] at h4 h5
 have k1 := Rat.le_trans (Rat.intCast_le_intCast.2 h1) h4
 have k2 := Rat.le_trans h5 (Rat.intCast_le_intCast.2 h2)
 rw [Rat.intCast_mul] at k1 k2
 exact ⟨Rat.le_of_mul_le_mul_right k1 hs, Rat.le_of_mul_le_mul_right k2 hs⟩
end Nt
namespace Nt
theorem flr_b (q : Rat) : ((flr q : Int) : Rat) ≤ q ∧ q < ((flr q + 1 : Int) : Rat) := by
 have hd : (0 : Int) < (q.den : Int) := by have := q.den_pos; omega
 have e : q = (q.num : Rat) / ((q.den : Int) : Rat) := by
  rw [mk_div]; exact (Rat.mkRat_self q).symm
 have h1 := (fl_mul (a := q.num) hd).1
 have h2 := Int.lt_ediv_add_one_mul_self q.num hd
 have hD := castI_pos hd
 have k1 := Rat.intCast_le_intCast.2 h1
 have k2 := Rat.intCast_lt_intCast.2 h2
 rw [Rat.intCast_mul] at k1 k2
 have e2 : (q.num : Rat) = q * ((q.den : Int) : Rat) := by
  have := div_mul_c (x := (q.num : Rat)) hD
  rw [← e] at this
  exact this.symm
 rw [e2] at k1 k2
 refine ⟨Rat.le_of_mul_le_mul_right k1 hD, ?_⟩
 by_cases h6 : q < ((flr q + 1 : Int) : Rat)
 ·exact h6
 have h7 := Rat.mul_le_mul_of_nonneg_right (Rat.not_lt.1 h6) (Rat.le_of_lt hD)
 exact absurd k2 (Rat.not_lt.2 h7)
def gr (w : Nat) (a : Int) : Rat := (a : Rat) / (u2 w : Rat)
theorem gr_mul (w : Nat) (a : Int) : gr w a * (u2 w : Rat) = (a : Rat) := div_mul_c (castI_pos (u2_pos w))
end Nt
open Go.RowKit
namespace Nt
def nrZ (q : Rat) (k : Nat) : Int := flr (q * ((2 ^ k : Nat) : Rat) + 1 / 2)
theorem nr_mk {z : Int} {D k : Nat} (hD : 0 < D) : mkRat ((z * ((2 ^ (k + 1) : Nat) : Int) + (D : Int)) / ((D * 2 ^ 1 : Nat) : Int)) (2 ^ k) = gr k (nrZ (mkRat z D) k) := by
 have e : mkRat z D * ((2 ^ k : Nat) : Rat) + 1 / 2 = mkRat (z * ((2 ^ (k + 1) : Nat) : Int) + (D : Int)) (D * 2 ^ 1) := by
  rw [shl_mk, ← mk_div, ← mk_div, Rat.intCast_add, Rat.intCast_mul, Rat.intCast_mul]
  have hd := cast_pos hD
  have h2 : (((D * 2 ^ 1 : Nat) : Int) : Rat) = 2 * (D : Rat) := by
   have : (((D * 2 ^ 1 : Nat) : Int) : Rat) = ((D * 2 : Nat) : Rat) := rfl
   rw [this, Rat.natCast_mul]
   have e2 : ((2 : Nat) : Rat) = 2 := rfl
   rw [e2]; grind
  have h3 : (((2 ^ (k + 1) : Nat) : Int) : Rat) = 2 * (((2 ^ k : Nat) : Int) : Rat) := by
   have : (((2 ^ (k + 1) : Nat) : Int) : Rat) = ((2 ^ k * 2 : Nat) : Rat) := rfl
   rw [this, Rat.natCast_mul]
   have e2 : ((2 : Nat) : Rat) = 2 := rfl
   have e3 : (((2 ^ k : Nat) : Int) : Rat) = ((2 ^ k : Nat) : Rat) := rfl
   rw [e2, e3]; grind
  have h4 : ((D : Int) : Rat) = (D : Rat) := rfl
  rw [h2, h3, h4]
  have hd' : (D : Rat) ≠ 0 := by grind
  grind
 unfold nrZ
 rw [e, flr_mk (Nat.mul_pos hD xw), ← mk_div]
 rfl
theorem flr_half (z : Int) : flr ((z : Rat) + 1 / 2) = z := by
 have h := flr_b ((z : Rat) + 1 / 2)
 obtain ⟨h1, h2⟩ := h
 have e1 : ((flr ((z : Rat) + 1 / 2) : Int) : Rat) < ((z + 1 : Int) : Rat) := by rw [Rat.intCast_add]; have : ((1 : Int) : Rat) = 1 := rfl; rw [this]; grind
 have e2 : ((z : Int) : Rat) < ((flr ((z : Rat) + 1 / 2) + 1 : Int) : Rat) := by grind
 have k1 := Rat.intCast_lt_intCast.1 e1
 have k2 := Rat.intCast_lt_intCast.1 e2
 omega
theorem nr_gr (z : Int) (k : Nat) : flr (gr k z * (((2 ^ k : Nat) : Int) : Rat) + ((1 : Int) : Rat) / ((2 : Int) : Rat)) = z := by
 have h := gr_mul k z
 have e : (u2 k : Rat) = (((2 ^ k : Nat) : Int) : Rat) := rfl
 rw [e] at h
 rw [h]
 exact flr_half z
def coZ (x y : Rat) (k : Nat) : Int := nrZ ((x + y) * (((1 : Int) : Rat) / ((2 : Int) : Rat))) k
theorem digits_small {N : Nat} (h0 : 0 < N) (h1 : N < 4294967296) : digits N = [(N : Int)] := by
 rw [digits, if_neg xq, show N / 4294967296 = 0 by omega, zxa, show N % 4294967296 = N by omega]
end Nt
theorem NatN.one_len {u : World} {x : Sl} {N K : Nat} (h : NatN u x N K) (h1 : N < 4294967296) : x.n = if N = 0 then 0 else 1 := by
 rw [h.1]
 split
 ·rename_i e; subst e; exact Nt.dl_zero
 rename_i e
 unfold dl
 rw [Nt.digits_small xq h1]; rfl
theorem NatN.one_cell {u : World} {x : Sl} {N K : Nat} (h : NatN u x N K) (h0 : 0 < N) (h1 : N < 4294967296) : ∃ b o, x.a = some ⟨b, o, none⟩ ∧ u.cell? ⟨b, o + 0 * 1, none⟩ = some (.int .u32 (N : Int)) := by
 have hn := h.one_len h1
 rw [if_neg xq] at hn
 have h2 := h.2.1
 rw [Nt.digits_small h0 h1] at h2
 obtain ⟨b, o, e, hc⟩ := ints_at h2 (i := 0) xq
 exact ⟨b, o, e, hc⟩
end Go.Proofs.YtbolmkfphieogaaGreat
namespace Go.Proofs.YtbolmkfphieogaaGreat
namespace Nt
def force {α : Type} (n : Nat) (k : Nat → α) : α := Nat.rec (k 0) (fun m _ => k (m + 1)) n
theorem force_eq {α : Type} (n : Nat) (k : Nat → α) : force n k = k n := by cases n <;> rfl
def cdn (a d : Nat) : Nat := (a + d - 1) / d
theorem cdn_cdiv {a d : Nat} (hd : 0 < d) : ((cdn a d : Nat) : Int) = cdiv (a : Int) (d : Int) := by
 have h1 := cd_mul (b := (a : Int)) (d := (d : Int)) xq
 have h2 := Nat.div_mul_le_self (a + d - 1) d
 have h3 := Nat.lt_div_mul_add (a := a + d - 1) hd
 have e : cdn a d = (a + d - 1) / d := rfl
 rw [← e] at h2 h3
 have k1 : ((cdn a d : Nat) : Int) * (d : Int) < (cdiv (a : Int) (d : Int) + 1) * (d : Int) := by
  rw [Int.add_mul, ← Int.natCast_mul]; omega
 have k2 : cdiv (a : Int) (d : Int) * (d : Int) < (((cdn a d : Nat) : Int) + 1) * (d : Int) := by
  rw [Int.add_mul, ← Int.natCast_mul]; omega
 have k3 := Int.lt_of_mul_lt_mul_right k1 xq
 have k4 := Int.lt_of_mul_lt_mul_right k2 xq
 omega
def sumAB (a : Nat → Rat) : Nat → Rat × Rat
 | 0 => (0, 0)
 | n + 1 => ((sumAB a n).2, (sumAB a n).1 + a n)
theorem alt_AB (a : Nat → Rat) (n : Nat) : alt a n = sgn n * ((sumAB a n).1 - (sumAB a n).2) := by
 induction n with
 | zero => show (0 : Rat) = 1 * (0 - 0); decide +kernel
 | succ n ih =>
  rw [alt_s, ih, sgn_s]
  show _ = -sgn n * ((sumAB a n).2 - ((sumAB a n).1 + a n))
  grind
structure EvS where
 (l h el eh ol oh : Nat)
def EvI (U : Int) (a t : Nat → Rat) (k : Nat) (s : EvS) : Prop := Enc U (s.l : Int) (s.h : Int) (t k) ∧ Enc U (s.el : Int) (s.eh : Int) (sumAB a k).1 ∧ Enc U (s.ol : Int) (s.oh : Int) (sumAB a k).2
def atEv (nn : Nat) (r : Nat) : Nat → Nat → Nat → Nat → Nat → Nat → Nat → EvS :=
 Nat.rec (fun _ l h el eh ol oh => ⟨l, h, el, eh, ol, oh⟩)
  (fun _ ih k l h el eh ol oh =>
   force (l / nn) fun l' => force (cdn h nn) fun h' => force (2 * k + 1) fun d => force (l / d) fun tl => force (cdn h d) fun th =>
   force (el + tl) fun el' => force (eh + th) fun eh' => ih (k + 1) l' h' ol oh el' eh') r
theorem Enc.overN {U : Int} {a b d : Nat} {x : Rat} (h : Enc U (a : Int) (b : Int) x) (hd : 0 < d) : Enc U ((a / d : Nat) : Int) ((cdn b d : Nat) : Int) (x / (d : Rat)) := by
 rw [cdn_cdiv hd]
 exact h.over (d := (d : Int)) xq
theorem atEv_ok {n : Nat} (hn : 0 < n) {U : Int} : ∀ r k l h el eh ol oh, EvI U (atT n) (atP n) k ⟨l, h, el, eh, ol, oh⟩ → EvI U (atT n) (atP n) (k + r) (atEv (n * n) r k l h el eh ol oh) := by
 intro r
 induction r with
 | zero => intro k l h el eh ol oh hi; exact hi
 | succ r ih =>
  intro k l h el eh ol oh hi
  obtain ⟨h1, h2, h3⟩ := hi
  have t : Enc U ((l / (2 * k + 1) : Nat) : Int) ((cdn h (2 * k + 1) : Nat) : Int) (atT n k) := h1.overN xq
  have p : Enc U ((l / (n * n) : Nat) : Int) ((cdn h (n * n) : Nat) : Int) (atP n (k + 1)) := h1.overN (Nat.mul_pos hn hn)
  have e0 : atEv (n * n) (r + 1) k l h el eh ol oh = force (l / (n * n)) fun l' => force (cdn h (n * n)) fun h' => force (2 * k + 1) fun d => force (l / d) fun tl => force (cdn h d) fun th => force (el + tl) fun el' => force (eh + th) fun eh' => atEv (n * n) r (k + 1) l' h' ol oh el' eh' := rfl
  have e : atEv (n * n) (r + 1) k l h el eh ol oh = atEv (n * n) r (k + 1) (l / (n * n)) (cdn h (n * n)) ol oh (el + l / (2 * k + 1)) (eh + cdn h (2 * k + 1)) := by
   rw [e0]; simp only [force_eq]
  rw [show k + (r + 1) = k + 1 + r by omega, e]
  exact ih (k + 1) _ _ _ _ _ _ ⟨p, h3, h2.add t⟩
theorem ev_late {U : Int} {a : Nat → Rat} {k j0 e : Nat} {s : EvS} (hU : 0 < U) (h0 : ∀ j, 0 ≤ a j) (hd : ∀ j, j0 ≤ j → a (j + 1) ≤ a j) (hk : j0 ≤ k) (hk2 : k % 2 = 0) (h1 : Enc U (s.el : Int) (s.eh : Int) (sumAB a k).1) (h2 : Enc U (s.ol : Int) (s.oh : Int) (sumAB a k).2) (he : a k * (U : Rat) ≤ (e : Rat)) : ∀ m, k ≤ m → Enc U ((s.el : Int) - (s.oh : Int) - (e : Int)) ((s.eh : Int) - (s.ol : Int) + (e : Int)) (alt a m) := by
 intro m hm
 have h3 := alt_near h0 hd hk hm
 have h4 := h1.sub h2
 have e4 : (sumAB a k).1 - (sumAB a k).2 = alt a k := by
  rw [alt_AB]; unfold sgn; rw [if_pos hk2, Rat.one_mul]
 rw [e4] at h4
 obtain ⟨g1, g2⟩ := h4
 have hUr := Rat.le_of_lt (castI_pos hU)
 have k3 := Rat.mul_le_mul_of_nonneg_right h3.1 hUr
 have k4 := Rat.mul_le_mul_of_nonneg_right h3.2 hUr
 have ee : (((e : Nat) : Int) : Rat) = (e : Rat) := rfl
 unfold Enc
 rw [Rat.intCast_sub ((s.el : Int) - (s.oh : Int)), Rat.intCast_add, ee]
 constructor <;> grind
def atB (n w r : Nat) : Int × Int :=
 let x := atEv (n * n) r 0 (2 ^ w / n) (cdn (2 ^ w) n) 0 0 0 0
 ((x.el : Int) - (x.oh : Int) - (x.h : Int), (x.eh : Int) - (x.ol : Int) + (x.h : Int))
theorem Enc.zero (U : Int) : Enc U ((0 : Nat) : Int) ((0 : Nat) : Int) 0 := by
 show ((0 : Int) : Rat) ≤ 0 * (U : Rat) ∧ (0 : Rat) * (U : Rat) ≤ ((0 : Int) : Rat)
 rw [Rat.zero_mul]
 exact ⟨Rat.le_refl, Rat.le_refl⟩
theorem atB_ok {n w r : Nat} (hn : 0 < n) (hr : r % 2 = 0) : ∀ m, r ≤ m → Enc (u2 w) (atB n w r).1 (atB n w r).2 (alt (atT n) m) := by
 have h1 : Enc (u2 w) ((2 ^ w / n : Nat) : Int) ((cdn (2 ^ w) n : Nat) : Int) (atP n 0) := Enc.overN (a := 2 ^ w) (b := 2 ^ w) Enc.one hn
 obtain ⟨e2, e3, e4⟩ := atEv_ok hn (U := u2 w) r 0 _ _ _ _ _ _ ⟨h1, Enc.zero _, Enc.zero _⟩
 rw [Nat.zero_add] at e2 e3 e4
 intro m hm
 refine ev_late (u2_pos w) (atT_nn hn) (fun j _ => atT_le hn j) (Nat.zero_le _) hr e3 e4 ?_ m hm
 have hle : atT n r ≤ atP n r := div_le_self (atP_nn hn r) (cast_one xq)
 exact Rat.le_trans (Rat.mul_le_mul_of_nonneg_right hle (Rat.le_of_lt (castI_pos (u2_pos w)))) e2.2
def piB (w r s : Nat) : Int × Int :=
 let a := atB 5 w r
 let b := atB 239 w s
 (a.1 * 16 - b.2 * 4, a.2 * 16 - b.1 * 4)
theorem piB_ok {w r s : Nat} (hr : r % 2 = 0) (hs : s % 2 = 0) : ∀ m, r + s ≤ m → Enc (u2 w) (piB w r s).1 (piB w r s).2 (piN m) := by
 intro m hm
 have e := ((atB_ok (n := 5) (w := w) xw hr m xq).times (n := 16)).sub ((atB_ok (n := 239) (w := w) xw hs m xq).times (n := 4))
 have e2 : piN m = alt (atT 5) m * ((16 : Nat) : Rat) - alt (atT 239) m * ((4 : Nat) : Rat) := by
  unfold piN
  rw [Rat.mul_comm, Rat.mul_comm 4]; rfl
 rw [e2]; exact e
def csEv (U ql qh r : Nat) : Nat → Nat → Nat → Nat → Nat → Nat → Nat → EvS :=
 Nat.rec (fun _ l h el eh ol oh => ⟨l, h, el, eh, ol, oh⟩)
  (fun _ ih k l h el eh ol oh =>
   force ((2 * k + 2) * (2 * k + 1)) fun d => force (l * ql / U / d) fun l' => force (cdn (cdn (h * qh) U) d) fun h' =>
   force (el + l) fun el' => force (eh + h) fun eh' => ih (k + 1) l' h' ol oh el' eh') r
theorem Enc.prodN {U a b c d : Nat} {x y : Rat} (hU : 0 < U) (h : Enc (U : Int) (a : Int) (b : Int) x) (k : Enc (U : Int) (c : Int) (d : Int) y) : Enc (U : Int) ((a * c / U : Nat) : Int) ((cdn (b * d) U : Nat) : Int) (x * y) := by
 rw [cdn_cdiv hU]
 exact h.prod k xq xq xq
theorem csEv_ok {U ql qh : Nat} (hU : 0 < U) {y : Rat} (hq : Enc (U : Int) (ql : Int) (qh : Int) (y * y)) : ∀ r k l h el eh ol oh, EvI (U : Int) (csT y) (csT y) k ⟨l, h, el, eh, ol, oh⟩ → EvI (U : Int) (csT y) (csT y) (k + r) (csEv U ql qh r k l h el eh ol oh) := by
 intro r
 induction r with
 | zero => intro k l h el eh ol oh hi; exact hi
 | succ r ih =>
  intro k l h el eh ol oh hi
  obtain ⟨h1, h2, h3⟩ := hi
  have p : Enc (U : Int) ((l * ql / U / ((2 * k + 2) * (2 * k + 1)) : Nat) : Int) ((cdn (cdn (h * qh) U) ((2 * k + 2) * (2 * k + 1)) : Nat) : Int) (csT y (k + 1)) := (Enc.prodN hU h1 hq).overN (Nat.mul_pos xq xq)
  have e0 : csEv U ql qh (r + 1) k l h el eh ol oh = force ((2 * k + 2) * (2 * k + 1)) fun d => force (l * ql / U / d) fun l' => force (cdn (cdn (h * qh) U) d) fun h' => force (el + l) fun el' => force (eh + h) fun eh' => csEv U ql qh r (k + 1) l' h' ol oh el' eh' := rfl
  have e : csEv U ql qh (r + 1) k l h el eh ol oh = csEv U ql qh r (k + 1) (l * ql / U / ((2 * k + 2) * (2 * k + 1))) (cdn (cdn (h * qh) U) ((2 * k + 2) * (2 * k + 1))) ol oh (el + l) (eh + h) := by
   rw [e0]; simp only [force_eq]
  rw [show k + (r + 1) = k + 1 + r by omega, e]
  exact ih (k + 1) _ _ _ _ _ _ ⟨p, h3, h2.add h1⟩
def csX (U pl ph r p q : Nat) : EvS :=
 force (pl * p / q) fun yl => force (cdn (ph * p) q) fun yh => force (yl * yl / U) fun ql => force (cdn (yh * yh) U) fun qh => csEv U ql qh r 0 U U 0 0 0 0
def xLo (x : EvS) : Int := (x.el : Int) - (x.oh : Int) - (x.h : Int)
def xHi (x : EvS) : Int := (x.eh : Int) - (x.ol : Int) + (x.h : Int)
theorem csX_ok {w pl ph r p q N : Nat} (hpi : ∀ m, N ≤ m → Enc (u2 w) (pl : Int) (ph : Int) (piN m)) (hq : 0 < q) (hp : 2 * p ≤ q) (hr : 1 ≤ r) (hr2 : r % 2 = 0) : ∀ m, max N r ≤ m → Enc (u2 w) (xLo (csX (2 ^ w) pl ph r p q)) (xHi (csX (2 ^ w) pl ph r p q)) (coN p q m) := by
 intro m hm
 have hU : 0 < 2 ^ w := Nat.pow_pos xw
 have hy := csY_b (m := m) hq hp xq
 have hyy : csY p q m * csY p q m ≤ 12 := Rat.le_trans (mulm hy.2 hy.2 hy.1 hy.1) (by decide +kernel)
 have y1 : Enc (((2 ^ w : Nat) : Nat) : Int) ((pl * p / q : Nat) : Int) ((cdn (ph * p) q : Nat) : Int) (csY p q m) := by
  have h1 := (hpi m xq).times (n := p)
  rw [← Int.natCast_mul, ← Int.natCast_mul] at h1
  exact h1.overN hq
 have q1 := Enc.prodN hU y1 y1
 have hE := csEv_ok hU q1 r 0 (2 ^ w) (2 ^ w) 0 0 0 0 ⟨Enc.one, Enc.zero _, Enc.zero _⟩
 rw [Nat.zero_add] at hE
 obtain ⟨e1, e2, e3⟩ := hE
 unfold csX
 simp only [force_eq]
 exact ev_late (u2_pos w) (csT_nn _) (csT_le hyy) hr hr2 e2 e3 e1.2 m xq
end Nt
set_option maxRecDepth 20000
namespace Nt
theorem pi_ev : piB 340 84 24 = (7036365627942155232378451105383714118229498621515162138157626346021022039982006998243213719805928137372, 7036365627942155232378451105383714118229498621515162138157626346021022039982006998243213719805928138852) := by decide +kernel
def pl8 : Nat := 1069028584064966747859680373161870783300
def ph8 : Nat := 1069028584064966747859680373161870783301
theorem pi_340 : ∀ m, 110 ≤ m → Enc (u2 340) 7036365627942155232378451105383714118229498621515162138157626346021022039982006998243213719805928137372 7036365627942155232378451105383714118229498621515162138157626346021022039982006998243213719805928138852 (piN m) := fun m hm => by
 have h := piB_ok (w := 340) (r := 84) (s := 24) xw xw m xq
 rw [pi_ev] at h
 exact h
theorem pi_128 : ∀ m, 110 ≤ m → Enc (u2 128) (pl8 : Int) (ph8 : Int) (piN m) := fun m hm => by
 have h := pi_340 m hm
 have hp := castI_pos (u2_pos 212)
 have e : u2 340 = u2 128 * u2 212 := by rw [← u2_add]
 obtain ⟨h1, h2⟩ := h
 rw [e, Rat.intCast_mul, ← Rat.mul_assoc] at h1 h2
 have k1 : ((pl8 : Int) * u2 212 : Int) ≤ 7036365627942155232378451105383714118229498621515162138157626346021022039982006998243213719805928137372 := by decide +kernel
 have k2 : (7036365627942155232378451105383714118229498621515162138157626346021022039982006998243213719805928138852 : Int) ≤ (ph8 : Int) * u2 212 := by decide +kernel
 have r1 := Rat.le_trans (Rat.intCast_le_intCast.2 k1) h1
 have r2 := Rat.le_trans h2 (Rat.intCast_le_intCast.2 k2)
 rw [Rat.intCast_mul] at r1 r2
 exact ⟨Rat.le_of_mul_le_mul_right r1 hp, Rat.le_of_mul_le_mul_right r2 hp⟩
def cs8 (p q : Nat) : EvS := csX (2 ^ 128) pl8 ph8 16 p q
theorem cs8_ok {p q : Nat} (hq : 0 < q) (hp : 2 * p ≤ q) : ∃ N : Nat, ∀ m, N ≤ m → Enc (u2 128) (xLo (cs8 p q)) (xHi (cs8 p q)) (coN p q m) := ⟨_, csX_ok pi_128 hq hp xw xw⟩
def gapX (B S T : Nat) (x : EvS) : Bool :=
 force (x.el - x.oh - x.h) fun lo => force (x.eh + x.h - x.ol) fun hi => force (lo / T) fun z =>
  Nat.ble 1 lo && (Nat.ble ((z * B + 1) * S) lo && Nat.ble hi ((z * B + B - 1) * S))
def gapB (p q b g : Nat) : Bool := gapX (2 ^ (g - b)) (2 ^ (128 - g)) (2 ^ (128 - b)) (cs8 p q)
theorem gapB_ok {p q b g : Nat} (h : gapB p q b g = true) (hq : 0 < q) (hp : 2 * p ≤ q) (hb : b ≤ g) (hg : g ≤ 128) : Gap (coN p q) b g := by
 unfold gapB gapX at h
 simp only [force_eq, Bool.and_eq_true, Nat.ble_eq] at h
 obtain ⟨h1, h2, h3⟩ := h
 have k := cs8_ok hq hp
 generalize cs8 p q = x at *
 have e1 : xLo x = ((x.el - x.oh - x.h : Nat) : Int) := by unfold xLo; omega
 have e2 : xHi x ≤ ((x.eh + x.h - x.ol : Nat) : Int) := by unfold xHi; omega
 generalize x.el - x.oh - x.h = lo at *
 generalize x.eh + x.h - x.ol = hi at *
 have hB := Nat.pow_pos (n := g - b) (show 0 < 2 by decide)
 refine Gap.of k ((lo / 2 ^ (128 - b) : Nat) : Int) hb hg ?_ ?_
 ·rw [e1]
  have := Int.ofNat_le.2 h2
  rw [Int.natCast_mul, Int.natCast_add, Int.natCast_mul] at this
  exact this
 refine Int.le_trans e2 ?_
 have := Int.ofNat_le.2 h3
 rw [Int.natCast_mul, Int.natCast_sub xq, Int.natCast_add, Int.natCast_mul] at this
 exact this
def gapP (b g q n : Nat) : Bool := Nat.rec true (fun p ih => (bif Nat.ble (2 * p + 3) q then bif Nat.beq (3 * p + 3) q then true else gapB (p + 1) q b g else true) && ih) n
def gapN (b g n : Nat) : Bool := Nat.rec true (fun q ih => gapP b g (q + 1) ((q + 1) / 2) && ih) n
theorem gapP_s (b g q n : Nat) : gapP b g q (n + 1) = ((bif Nat.ble (2 * n + 3) q then bif Nat.beq (3 * n + 3) q then true else gapB (n + 1) q b g else true) && gapP b g q n) := rfl
theorem gapN_s (b g n : Nat) : gapN b g (n + 1) = (gapP b g (n + 1) ((n + 1) / 2) && gapN b g n) := rfl
theorem gapP_ok {b g q : Nat} : ∀ n p, gapP b g q n = true → 1 ≤ p → p ≤ n → 2 * p < q → 3 * p ≠ q → gapB p q b g = true := by
 intro n
 induction n with
 | zero => intro p _ h1 h2; omega
 | succ n ih =>
  intro p h h1 h2 h3 h4
  have h' := h
  rw [gapP_s, Bool.and_eq_true] at h'
  by_cases e : p = n + 1
  ·subst e
   have h5 := h'.1
   rw [show Nat.ble (2 * n + 3) q = true by rw [Nat.ble_eq]; omega, show Nat.beq (3 * n + 3) q = false by
    cases hh : Nat.beq (3 * n + 3) q with
    | false => rfl
    | true => exact absurd (Nat.eq_of_beq_eq_true hh) xq, cond_true, cond_false] at h5
   exact h5
  exact ih p h'.2 h1 xq h3 h4
theorem gapN_ok {b g : Nat} : ∀ n q, gapN b g n = true → 1 ≤ q → q ≤ n → gapP b g q (q / 2) = true := by
 intro n
 induction n with
 | zero => intro q _ h1 h2; omega
 | succ n ih =>
  intro q h h1 h2
  have h' := h
  rw [gapN_s, Bool.and_eq_true] at h'
  by_cases e : q = n + 1
  ·subst e; exact h'.1
  exact ih q h'.2 h1 xq
def GapQ (q b : Nat) : Prop := ∃ g, g ≤ 300 ∧ ∀ p, 1 ≤ p → 2 * p < q → 3 * p ≠ q → Gap (coN p q) b g
theorem gapQ_of {b g n q : Nat} (h : gapN b g n = true) (hb : b ≤ g) (hg : g ≤ 128) (h1 : 1 ≤ q) (hq : q ≤ n) : GapQ q b :=
 ⟨g, by omega, fun p hp1 hp h3 => gapB_ok (gapP_ok _ p (gapN_ok n q h xq hq) hp1 xq hp h3) xq xq hb hg⟩
theorem gap_64 : gapN 64 80 16 = true := by decide +kernel
theorem gapQ_16 {q : Nat} (h1 : 1 ≤ q) (hq : q ≤ 16) : GapQ q 64 := gapQ_of gap_64 xw xw h1 hq
end Nt
namespace Nt
open Classical in
noncomputable def flo (X : Nat → Rat) (b : Nat) : Int := if h : ∃ z, FlO X b z then h.choose else 0
theorem FlO.flo {X : Nat → Rat} {b : Nat} {z : Int} (h : FlO X b z) : flo X b = z := by
 have hz : ∃ z, FlO X b z := ⟨z, h⟩
 unfold Nt.flo
 rw [dif_pos hz]
 exact hz.choose_spec.uniq h
def fold (p : Int) (q : Nat) : Nat := let r := (Int.tmod p (2 * (q : Int))).natAbs; if q < r then 2 * q - r else r
theorem fold_le (p : Int) (q : Nat) (hq : 0 < q) : fold p q ≤ q := by
 have h : (Int.tmod p (2 * (q : Int))).natAbs < 2 * q := by
  rw [Int.natAbs_tmod]
  have : (2 * (q : Int)).natAbs = 2 * q := by omega
  rw [this]
  exact Nat.mod_lt _ xq
 unfold fold
 dsimp only
 split <;> omega
noncomputable def cosA (p q b : Nat) : Rat × Rat :=
 if p = 0 then (1, 1) else if 2 * p = q then (0, 0) else if 3 * p = q then (dnQ (1 / 2) b, -dnQ (-(1 / 2)) b)
 else (gr b (flo (coN p q) b), gr b (flo (coN p q) b + 1))
noncomputable def cosF (p q b : Nat) : Rat × Rat := if q < 2 * p then (-(cosA (q - p) q b).2, -(cosA (q - p) q b).1) else cosA p q b
noncomputable def cosV (p : Int) (q b : Nat) : Rat × Rat := cosF (fold p q) q b
end Nt
open Go.RowKit
section
variable {P : Program} (w : World)
theorem wpList_makeKC {ops : Array Oper} {rest : List Oper} {o : Oper} {a : Act} {Q : Exit → Act → World → Prop}
  (hg : o.guard = none) (l c : Operand) (t : TypeId) (hop : o.op = Op.makeSlice t l c) (e : TypeId) (k : IntKind) (bytes : Nat) (h1 : P.underlying t = some (.slice e))
  (h2 : (P.info? e).map (fun i => (i.zero, i.size, i.bytes)) = some (some (.int k 0), 1, bytes))
  (kl kc : IntKind) (L C : Int) (n m : Nat) (hl : a.eval l = .int kl L) (hc : a.eval c = .int kc C) (hL : L = (n : Int)) (hC : C = (m : Int)) (hnm : n ≤ m) (b2 : bytes * m ≤ 281474976710656) (b3 : m ≤ maxLen)
  (hK : ∀ w', OwnK k w' w.heap.size e (some ⟨w.heap.size, 0, none⟩) n m (List.replicate n 0) → Below w.heap.size w w' → w'.heap.size = w.heap.size + 1 → wpList P ops Q rest (a.put o.dst (.slice (some ⟨w.heap.size, 0, none⟩) n m)) w') :
  wpList P ops Q (o :: rest) a w := by
 obtain ⟨i, hi, hz, hs, hb⟩ := info_parts h2
 refine wpList_plain hg fun K hK' => ?_
 subst hL hC hb
 have h63 : (m : Int) ≤ 9223372036854775807 := by have := b3; unfold maxLen at this; omega
 have hb' : (i.bytes : Int) * (m : Int) ≤ 281474976710656 := by
  have h : ((i.bytes * m : Nat) : Int) ≤ 281474976710656 := by omega
  rwa [Int.natCast_mul] at h
 have hrun := run_make (P := P) w t e i _ h1 hi hz kl kc n m xq xq hb' h63
 unfold Oper.wp
 simp [execOp, hop, hl, hc, hrun, Result.andThen]
 have hblk : KBlk k (w.alloc (.cells (madeCells (Value.int k 0).cells (m * i.size)) e)) w.heap.size e (List.replicate m 0) := by
  unfold KBlk
  rw [heap_alloc_new, hs, Nat.mul_one]
  congr 2
  apply Array.ext'
  have h3 := toList_madeCells_one (.int k 0) m
  have h4 : (Value.int k 0).cells = #[Value.int k 0] := rfl
  rw [h4, h3]
  simp
 refine hK' _ _ (hK _ ⟨by simp, by simp, .inr ⟨w.heap.size, m, _, rfl, Nat.le_refl _, hblk, hnm, b3, by simp, by simp [List.take_replicate, Nat.min_eq_left hnm]⟩⟩ ((Below.refl _ _).alloc (Nat.le_refl _) _) zk)
end
namespace Nt
theorem bitLen_bitl {t : Nat} (h : t < 4294967296) : Lib.bitLen t = bitl t := by
 rcases Nat.eq_zero_or_pos t with h0 | h0
 ·subst h0; rfl
 have hb : 1 ≤ Lib.bitLen t ∧ 2 ^ (Lib.bitLen t - 1) ≤ t ∧ t < 2 ^ Lib.bitLen t := Lib.bitLenAux_bounds 64 t xq xq
 exact (bitl_unique xq hb.2.1 hb.2.2).symm
theorem bitl_le32 {t : Nat} (h : t < 4294967296) : bitl t ≤ 32 := by
 rcases Nat.eq_zero_or_pos t with h0 | h0
 ·subst h0; decide
 have h1 := bitl_le h0
 have h3 : 2 ^ (bitl t - 1) < 2 ^ 32 := by omega
 have := (Nat.pow_lt_pow_iff_right (show 1 < 2 by omega)).1 h3
 omega
end Nt
set_option maxHeartbeats 1000000 in
theorem BitLen_any (A : Option Addr) (n c : Nat) (a : List Int) (w : World) (ha : SlR .u32 w A n c a) (da : Nt.Dig a) (hn : n ≤ 1000000000) :
  Calls Tryz.prog 150 #[.slice A n c] w fun e w' => e = .returned (.int .i64 (Nt.bitl (Nt.val a).toNat)) ∧ w' = w := by
 have lx : (Nt.strip a).length ≤ n := by rw [← ha.1]; exact Nt.zyh a
 have hx := ha.upto (m := (Nt.strip a).length) lx
 rw [← Nt.strip_take] at hx
 have hcut := zwj A n c a w ha
 have eN := Nt.zxs da
 rw [eN] at hx lx hcut
 generalize hX : (Nt.val a).toNat = X at *
 obtain ⟨N, hN⟩ : ∃ N, N = (Nt.digits X).length := ⟨_, rfl⟩
 rw [← hN] at hx lx hcut
 clear eN hX
 rcases N with _ | k
 ·have h0 : Hid (Nt.bitl X = 0) := by
   have : X = 0 := by
    rcases Nat.eq_zero_or_pos X with h | h
    ·exact h
    have := Nt.zwo h; omega
   show _ = _
   rw [this]; rfl
  clear ha da
  go_enter Tryz.func150, Tryz.ntmps150
  go_wp2_with fail
  refine hcut.mono ?_
  rintro e w1 ⟨rfl, rfl⟩
  go_wp2
  go_ret
  exact ⟨by rw [h0.out]; rfl, rfl⟩
 obtain ⟨b, o, rfl, _, hc⟩ := hx.pos (i := k) xq
 have hcm := hx.2.1
 have ht := (Nt.zyj X).at k
 have hne := Nt.norm_last (k := k) (Nt.zxm X) hN.symm
 obtain ⟨t, aa⟩ : ∃ t : Nat, (Nt.digits X)[k]?.getD 0 = (t : Int) := ⟨((Nt.digits X)[k]?.getD 0).toNat, by omega⟩
 have hfin := Nt.bitl_digits hN.symm aa xq
 rw [aa] at hc hne ht
 have Hfin := Lib.hid hfin
 have HN := Lib.hid hN
 have hkb : ((k : Int) + 1 == 0) = false := by rw [beq_eq_false_iff_ne]; omega
 have hb32 := Nt.bitl_le32 (t := t) xq
 have hbe := Nt.bitLen_bitl (t := t) xq
 clear hfin aa hx ha da hN
 go_enter Tryz.func150, Tryz.ntmps150
 go_wp2_with fail
 refine hcut.mono ?_
 rintro e w1 ⟨rfl, rfl⟩
 go_wp2_with fail
 refine (Len32_any (t : Int) _ xq xq).mono ?_
 rintro e w1 ⟨rfl, rfl⟩
 rw [Int.toNat_natCast, hbe]
 generalize Nt.bitl t = bt at *
 go_wp2
 go_ret
 exact ⟨by rw [Hfin.out]; refine congrArg (fun z : Int => Ending.returned (.int .i64 z)) ?_; omega, rfl⟩
theorem own_strip {w0 w : World} {B : Nat} {A : Option Addr} {n c : Nat} {l : List Int} (h : OwnK .u32 w B 104 A n c l) (hd : Nt.Dig l) (hB : w0.heap.size ≤ B) : NatF w0 w A (Nt.strip l).length c (Nt.val l).toNat := by
 have e := Nt.zxs hd
 have hl := Nt.zyh l
 have h1 := h.1
 have hx := h.slr.upto (m := (Nt.strip l).length) xq
 rw [← Nt.strip_take, e] at hx
 refine ⟨by rw [e], by rw [e]; exact hx, fun hp => ?_⟩
 obtain ⟨a, ha, hb, ht⟩ := h.ty xq
 exact ⟨a, ha, by omega, ht⟩
theorem Nt.raise_val {q s : Nat} {a S : List Int} (hq : q = s / 32) (h : Nt.val S = Nt.val a * 2 ^ (s % 32)) : Nt.val (List.replicate q 0 ++ S) = Nt.val a * 2 ^ s := by
 rw [Nt.val_append, Nt.val_repl, h, Nt.p2_pw s, ← hq]
 simp
 rw [Int.mul_comm, Int.mul_assoc]
theorem Nt.bitl_le_len (l : List Int) (h : Nt.Dig l) : Nt.bitl (Nt.val l).toNat ≤ 32 * l.length := by
 rcases Nat.eq_zero_or_pos (Nt.val l).toNat with h0 | h0
 ·rw [h0]; exact Nat.zero_le _
 have h1 := Nt.val_lt h
 rw [Nt.pw_two] at h1
 have h2 := Nt.bitl_le h0
 have h3 : 2 ^ (Nt.bitl (Nt.val l).toNat - 1) < 2 ^ (32 * l.length) := by omega
 have := (Nat.pow_lt_pow_iff_right (show 1 < 2 by omega)).1 h3
 omega
theorem Nt.dl_shift {N K s : Nat} (h : dl N ≤ K) : dl (N * 2 ^ s) ≤ K + s / 32 + 1 := by
 apply Nt.dl_le
 have h1 := Nt.dl_lt (x := N)
 have h2 := Nt.pw_mono h
 rw [Nt.pw_two] at h1 ⊢
 rw [Nt.pw_two, Nt.pw_two] at h2
 have h3 : N < 2 ^ (32 * K) := by omega
 have h4 : N * 2 ^ s < 2 ^ (32 * K) * 2 ^ s := Nat.mul_lt_mul_of_pos_right h3 (Nat.pow_pos xq)
 rw [← Nat.pow_add] at h4
 have h5 : 2 ^ (32 * K + s) ≤ 2 ^ (32 * (K + s / 32 + 1)) := Nat.pow_le_pow_right xq xq
 have h6 := Nat.lt_of_lt_of_le h4 h5
 exact_mod_cast h6
set_option maxHeartbeats 2000000 in
theorem raise_any (A : Option Addr) (n c s : Nat) (a : List Int) (w : World) (ha : SlR .u32 w A n c a) (da : Nt.Dig a) (hn : n ≤ 1000000000) (hs : s ≤ 65536) :
  Calls Tryz.prog 151 #[.slice A n c, .int .i64 s] w fun e w' => ∃ A' n' c', e = .returned (.slice A' n' c') ∧ NatF w w' A' n' c' (Nt.val a * 2 ^ s).toNat ∧ Below w.heap.size w w' := by
 rcases Nat.eq_zero_or_pos n with h0 | h0
 ·subst h0
  have hz : Hid ((Nt.val a * 2 ^ s).toNat = 0) := by
   have e1 : a = [] := List.eq_nil_of_length_eq_zero ha.1
   show _ = _
   rw [e1]; simp [Nt.val]
  clear da ha
  go_enter Tryz.func151, Tryz.ntmps151
  go_wp2
  go_ret
  refine ⟨none, 0, 0, rfl, ?_, Below.refl _ _⟩
  rw [hz.out]
  exact ⟨by rw [Nt.zxa]; rfl, by rw [Nt.zxa]; exact SlR.nil _ _ _ (Nat.zero_le _), fun h => absurd h xq⟩
 have hn0 : ((n : Int) == 0) = false := by rw [beq_eq_false_iff_ne]; omega
 obtain ⟨q, hq1, hq2⟩ : ∃ q, 32 * q ≤ s ∧ s < 32 * q + 32 := ⟨s / 32, by omega, by omega⟩
 have hqs : Hid (q = s / 32) := by show _ = _; omega
 have ab : s % 32 < 32 := by omega
 have Hda := Lib.hid da
 clear da
 go_enter Tryz.func151, Tryz.ntmps151
 go_wp2_with (at_make; refine wpList_makeKC _ rfl (.tmp 10) (.tmp 16) _ rfl 104 .u32 4 Tryz.underlying22 zxj _ _ _ _ q (q + n + 1) rfl rfl ?L ?C ?nm ?b2 ?b3 ?_)
 case L => show _ = _; omega
 case C => show _ = _; omega
 case nm => omega
 case b2 => omega
 case b3 => unfold maxLen; omega
 intro w2 ae aa ah
 have hx2 := ha.below aa
 have HB2 := Lib.hid aa
 clear ah aa ha
 go_wp2_with fail
 refine (lift_any A n c (s % 32) (n + 1) a w2 hx2 Hda.out hn ab (.inr rfl)).mono ?_
 rintro e w3 ⟨g, rfl, ⟨S, lo, hg, hk, hSl, hSd, hlo, hlo0, hv⟩, ac⟩
 have hlo0 := hlo0 rfl
 rw [hlo0] at hv
 have hval := Nt.raise_val hqs.out (a := a) (S := S) xq
 have hs3 := Lib.hid (hk.slr_all (n := n + 1) (c := n + 1) hSl (Nat.le_refl _) yv)
 have hk3 := Lib.hid (ae.below ac)
 have Hval := Lib.hid hval
 have Hd := Lib.hid (Nt.Dig.append (Nt.Dig.repl q) hSd)
 have ad : Hid (Below w.heap.size w w3) := HB2.out.trans (ac.mono HB2.out.size)
 have hw3 := ad.out.size
 clear hval hv hk hg ae hlo hlo0 hSl hSd hx2 ac
 go_wp2_with (at_builtin; refine zxh _ rfl (.tmp 18) (.tmp 26) _ rfl 104 .u32 4 Tryz.underlying22 zxj w.heap.size (some ⟨w.heap.size, 0, none⟩) q (q + n + 1) (List.replicate q 0) rfl ?own (some ⟨g, 0, none⟩) (n + 1) (n + 1) S rfl ?slr ?h63 ?hby ?hbase ?_)
 case own => exact hk3.out
 case slr => exact hs3.out
 case h63 => unfold maxLen; omega
 case hby => omega
 case hbase => omega
 intro A3 c3 w4 ho af
 have HO := Lib.hid ho
 have ag : Hid (Below w.heap.size w w4) := ad.out.trans af
 clear hs3 hk3 ho af
 go_wp2_with fail
 refine (zwj _ _ _ _ _ HO.out.slr).mono ?_
 rintro e w5 ⟨rfl, rfl⟩
 go_wp2
 go_ret
 have hf := own_strip HO.out Hd.out (Nat.le_refl _)
 rw [Hval.out] at hf
 exact ⟨_, _, _, rfl, hf, ag.out⟩
set_option maxHeartbeats 1000000 in
theorem Shift_pos (A : Option Addr) (n c s : Nat) (a : List Int) (w : World) (ha : SlR .u32 w A n c a) (da : Nt.Dig a) (hn : n ≤ 1000000000) (hs : s ≤ 65536) :
  Calls Tryz.prog 79 #[.slice A n c, .int .i64 s] w fun e w' => ∃ A' n' c', e = .returned (.slice A' n' c') ∧ NatF w w' A' n' c' (Nt.val a * 2 ^ s).toNat ∧ Below w.heap.size w w' := by
 have lx : (Nt.strip a).length ≤ n := by rw [← ha.1]; exact Nt.zyh a
 have hx := ha.upto (m := (Nt.strip a).length) lx
 rw [← Nt.strip_take] at hx
 have hd := Nt.strip_dig da
 have hv := Nt.zwn a
 have hsd : decide (65536 < (s : Int)) = false := by simp; omega
 have hbl := Nt.bitl_le_len (Nt.strip a) hd
 have hraise := raise_any A (Nt.strip a).length c s (Nt.strip a) w hx hd xq hs
 have hbit := BitLen_any A (Nt.strip a).length c (Nt.strip a) w hx hd xq
 rw [hv] at hraise hbit hbl
 have hz : Nt.bitl (Nt.val a).toNat = 0 → Nt.val a = 0 := fun h => by
  have h1 := Nt.bitl_lt (Nt.val a).toNat
  have h2 := Nt.zxc da
  rw [h] at h1
  simp at h1
  omega
 generalize Nt.bitl (Nt.val a).toNat = B at *
 have hcut := zwj A n c a w ha
 generalize (Nt.strip a).length = m at *
 by_cases h0 : (s : Int) ≤ -(B : Int)
 ·have aa : Hid ((Nt.val a * 2 ^ s).toNat = 0) := by
   show _ = _
   rw [hz xq]; simp
  have hle : decide ((s : Int) ≤ -(B : Int)) = true := decide_eq_true h0
  clear hx ha hd hv hraise hz h0
  go_enter Tryz.func79, Tryz.ntmps79
  go_wp2_with fail
  refine hcut.mono ?_
  rintro e w1 ⟨rfl, rfl⟩
  go_wp2_with fail
  refine hbit.mono ?_
  rintro e w1 ⟨rfl, rfl⟩
  go_wp2
  go_ret
  refine ⟨none, 0, 0, rfl, ?_, Below.refl _ _⟩
  rw [aa.out]
  exact ⟨by rw [Nt.zxa]; rfl, by rw [Nt.zxa]; exact SlR.nil _ _ _ (Nat.zero_le _), fun h => absurd h xq⟩
 have hle : decide ((s : Int) ≤ -(B : Int)) = false := decide_eq_false h0
 clear hx ha hd hv hz
 go_enter Tryz.func79, Tryz.ntmps79
 go_wp2_with fail
 refine hcut.mono ?_
 rintro e w1 ⟨rfl, rfl⟩
 go_wp2_with fail
 refine hbit.mono ?_
 rintro e w1 ⟨rfl, rfl⟩
 go_wp2_with fail
 refine hraise.mono ?_
 rintro e w1 ⟨A1, n1, c1, rfl, f1, ab⟩
 have F1 := Lib.hid f1
 clear f1
 go_wp2
 go_ret
 exact ⟨A1, n1, c1, rfl, F1.out, ab⟩
theorem k_natShift {u w : World} {x : Sl} {N K s : Nat} (d : Dat u w) (h1 : NatV u x N K) (hK : K ≤ 500000000) (hs : s ≤ 65536) : Calls Tryz.prog 79 #[x.v, .int .i64 (s : Int)] w (Post u w fun v u' => ∃ x : Sl, v = x.v ∧ NatN u' x (N * 2 ^ s) (K + s / 32 + 1)) := by
 have hs1 := h1.size
 obtain ⟨a, a1, a2, a3, a4⟩ := h1
 refine (Shift_pos _ _ _ _ _ _ (a1.ext d.ext) a2 xq hs).mono fun e w' ⟨A', n', c', h⟩ => ?_
 rw [a4] at h
 exact post_nat d (nat_fits h (by simp [Int.natCast_mul, Int.natCast_pow])) (Nt.dl_shift hs1)
set_option maxHeartbeats 1000000 in
theorem k_intDivP {u w : World} {i1 : IL} {y : Sl} {zN : Int} {M K L : Nat} (d : Dat u w) (hi : IntV u i1 zN K) (hy : NatV u y M L) (hM : 0 < M) (hK : K ≤ 100000000) (hL : L ≤ 100000000) : Calls Tryz.prog 180 #[i1.v, .agg #[.bool false, y.v]] w (Post u w fun v u' => ∃ i j : IL, v = .tuple #[i.v, j.v, .int .i64 0] ∧ IntN u' i (zN / (M : Int)) (K + 1) ∧ IntN u' j (zN % (M : Int)) L) := by
 have hL1 : 1 ≤ L := by have h2 := hy.size; have h3 := Nt.dl_mono (x := M) (y := 1) xq; rw [Nt.dl_one] at h3; omega
 obtain ⟨N, hN, hzN⟩ := hi
 refine zzl (args := [i1.v, .agg #[.bool false, y.v]]) Tryz.func180 rfl Tryz.ntmps180 (rs := [.cell 4 24, .cell 5 24, .tmp 6]) Tryz.results180 (le_b rfl) (le_b rfl) d ?_
 refine sq9 (zzj 2 ⟨24, i1.cs⟩ (zzj 3 ⟨24, [.bool false, y.v]⟩ (zzj 4 ⟨24, [.bool false, .slice none 0 0]⟩ (zzj 5 ⟨24, [.bool false, .slice none 0 0]⟩ (zza 6 (zI 0) (zzb (sq9 (zza 11 (.adr 2 1) (zzh 12 (.v (i1.m.v)) ty22 zzk (zza 13 (.adr 3 1) (zzh 14 (.v (y.v)) ty22 zzk ?_)))))))))))
 refine zzg 15 80 _ fun _ _ ao aJ => Post.mono (k_natDivMod aJ (hN.ext ao) (hy.ext ao) hM xq xq) ?_
 rintro _ u16 a1 ⟨ad, aa, rfl, aq, ac⟩
 refine zza 10 (.v (.tuple #[ad.v, aa.v, .int .i64 0])) (zza 16 (.v (ad.v)) (zza 17 (.v (aa.v)) (zza 18 (zI 0) (zza 7 (.v (ad.v)) (zza 8 (.v (aa.v)) (zza 9 (zI 0) (zzb (zzd (sq9 (zza 19 (zI 0) (zza 20 (zB false) ?_)))))))))))
 refine zzb (zyr xj (zzr (zzo ?_)))
 refine zzd (sq9 (zza 24 (.adr 2 0) (zzh 25 (zB i1.s) ty4 zzk ?_)))
 rcases Bool.eq_false_or_eq_true i1.s with hs19 | hs19
 ·refine zyp 26 (x := zB i1.s) (zB true) (by rw [hs19]) (zza 27 (.v (aa.v)) ?_ (hw := w1 2 true 26))
  refine zza 28 (zI aa.n) ?_ (hw := w1 2 true 26)
  refine zza 29 (zB (decide ((0 : Int) < (aa.n : Int)))) ?_ (hw := w1 2 true 26)
  refine zza 30 (zB (decide ((0 : Int) < (aa.n : Int)))) (zzb (zzt (b := decide ((0 : Int) < (aa.n : Int))) xj (fun ab => ?_) (fun ab => ?_)))
  ·have qhb20 := of_decide_eq_true ab
   refine sq9 (zza 31 (.v (ad.v)) (zxw 32 ⟨104, [.int .u32 1]⟩ 1 (fun b21 u22 ak aE => ?_)))
   refine zzg 33 155 _ fun _ _ ae aU => Post.mono (k_natAdd aU (aq.ext (ak.trans ae)).raw ((one_data aE).ext ae).raw xq xq) ?_
   rintro _ u28 ax ⟨am, rfl, aD⟩
   refine zza 7 (.v (am.v)) (zzb (zzf (zza 34 (.adr 3 1) (zzh 35 (.v (y.v)) ty22 zzk (zza 36 (.v (aa.v)) (zzg 37 223 _ fun _ _ aj aR => Post.mono (k_natSub aR (hy.ext (ao.trans (a1.ext.trans (ak.trans (ae.trans (ax.ext.trans aj)))))) (ac.ext (ak.trans (ae.trans (ax.ext.trans aj)))).raw xq xq) ?_))))))
   rintro _ u34 aQ ⟨an, rfl, aL⟩
   refine zza 8 (.v (an.v)) (zzc 47 [(2, .adr 2 0), (3, .adr 3 0), (4, .adr 4 0), (5, .adr 5 0), (7, .v (am.v)), (8, .v (an.v))] [(2, ⟨24, i1.cs⟩), (3, ⟨24, [.bool false, y.v]⟩), (4, ⟨24, [.bool false, .slice none 0 0]⟩), (5, ⟨24, [.bool false, .slice none 0 0]⟩)] (sq9 (zza 38 (.adr 2 0) (zzh 39 (zB i1.s) ty4 zzk (zza 40 (.adr 3 0) (zzh 41 (zB false) ty4 zzk (zza 42 (zB (!(i1.s == false))) (zza 43 (.v (am.v)) (zzg 44 222 _ fun _ _ aw aP => Post.mono (k_signed aP (s := !(i1.s == false)) (aD.ext (aj.trans (aQ.ext.trans aw)))) ?_)))))))))
   rintro _ u40 a2 ⟨ap, rfl, aZ⟩
   refine zza 45 (.v (an.v)) (zzg 46 222 _ fun _ _ ay aM => Post.mono (k_signed aM (s := false) (aL.ext (aw.trans (a2.ext.trans ay)))) ?_)
   rintro _ u46 aG ⟨al, rfl, aX⟩
   refine zzi ⟨24, ap.cs⟩ ty24 ?_
   refine zzi ⟨24, al.cs⟩ ty24 ?_
   refine zza 6 (zI 0) (zzb (zzn (ret0 [ap.v, al.v, .int .i64 0] ⟨zzq ty24 zze, zzq ty24 zze, zzp, trivial⟩ fun u49 au => ?_)))
   have hrp := ac.pos
   have e9 := hs19
   have key := Nt.rdiv1 (N := N) hM xq
   have g1 := (aZ.ext (ay.trans (aG.ext.trans au)))
   have g2 := (aX.ext au)
   rw [e9] at g1
   rw [e9] at hzN
   have hK1 : 1 ≤ K := by have h2 := hN.size; have h3 := (Nt.dl_pos (x := N)).2 (by rcases Nat.eq_zero_or_pos N with e | e; (rw [e, Nat.zero_mod] at hrp; omega); exact e); omega
   rw [hzN]
   refine ⟨ap, al, rfl, IntN.more (K := (max K 1 + 1)) ?_ xq, IntN.more (K := L) ?_ xq⟩
   ·rw [key.1]; exact g1
   rw [key.2]; exact g2
  have qhb20 := of_decide_eq_false ab
  refine zzr (zzo ?_)
  refine sq9 (zza 38 (.adr 2 0) (zzh 39 (zB i1.s) ty4 zzk (zza 40 (.adr 3 0) (zzh 41 (zB false) ty4 zzk (zza 42 (zB (!(i1.s == false))) (zza 43 (.v (ad.v)) (zzg 44 222 _ fun _ _ aA aT => Post.mono (k_signed aT (s := !(i1.s == false)) (aq.ext aA)) ?_)))))))
  rintro _ u54 a0 ⟨ai, rfl, aY⟩
  refine zza 45 (.v (aa.v)) (zzg 46 222 _ fun _ _ az aW => Post.mono (k_signed aW (s := false) (ac.ext (aA.trans (a0.ext.trans az)))) ?_)
  rintro _ u60 aN ⟨ag, rfl, aS⟩
  refine zzi ⟨24, ai.cs⟩ ty24 ?_
  refine zzi ⟨24, ag.cs⟩ ty24 ?_
  refine zza 6 (zI 0) (zzc 47 [(4, .adr 4 0), (5, .adr 5 0), (6, zI 0)] [(4, ⟨24, ai.cs⟩), (5, ⟨24, ag.cs⟩)] (zzn (ret0 [ai.v, ag.v, .int .i64 0] ⟨zzq ty24 zze, zzq ty24 zze, zzp, trivial⟩ fun u63 av => ?_)))
  have hrp := ac.pos
  have key := Nt.rdiv0 (s := i1.s) (N := N) hM (by rintro ⟨k1, k2⟩; omega)
  have g1 := (aY.ext (az.trans (aN.ext.trans av)))
  have g2 := (aS.ext av)
  rw [hzN]
  refine ⟨ai, ag, rfl, IntN.more (K := K) ?_ xq, IntN.more (K := L) ?_ xq⟩
  ·rw [key.1]; exact g1
  rw [key.2]; exact g2
 refine zyp 26 (x := zB i1.s) (zB false) (by rw [hs19]) (zzm 27 (uw 2 true false 26) (zzm 28 (uw 2 true false 26) (zzm 29 (uw 2 true false 26) (zza 30 (zB false) (zzb (zyr xj (zzr (zzo ?_))))))))
 refine sq9 (zza 38 (.adr 2 0) (zzh 39 (zB i1.s) ty4 zzk (zza 40 (.adr 3 0) (zzh 41 (zB false) ty4 zzk (zza 42 (zB (!(i1.s == false))) (zza 43 (.v (ad.v)) (zzg 44 222 _ fun _ _ aB aI => Post.mono (k_signed aI (s := !(i1.s == false)) (aq.ext aB)) ?_)))))))
 rintro _ u68 aF ⟨ah, rfl, aK⟩
 refine zza 45 (.v (aa.v)) (zzg 46 222 _ fun _ _ ar aV => Post.mono (k_signed aV (s := false) (ac.ext (aB.trans (aF.ext.trans ar)))) ?_)
 rintro _ u74 aO ⟨af, rfl, aH⟩
 refine zzi ⟨24, ah.cs⟩ ty24 ?_
 refine zzi ⟨24, af.cs⟩ ty24 ?_
 refine zza 6 (zI 0) (zzc 47 [(4, .adr 4 0), (5, .adr 5 0), (6, zI 0)] [(4, ⟨24, ah.cs⟩), (5, ⟨24, af.cs⟩)] (zzn (ret0 [ah.v, af.v, .int .i64 0] ⟨zzq ty24 zze, zzq ty24 zze, zzp, trivial⟩ fun u77 aC => ?_)))
 have hrp := ac.pos
 have key := Nt.rdiv0 (s := i1.s) (N := N) hM (by rintro ⟨k1, k2⟩; rw [k1] at hs19; exact absurd hs19 xw)
 have g1 := (aK.ext (ar.trans (aO.ext.trans aC)))
 have g2 := (aH.ext aC)
 rw [hzN]
 refine ⟨ah, af, rfl, IntN.more (K := K) ?_ xq, IntN.more (K := L) ?_ xq⟩
 ·rw [key.1]; exact g1
 rw [key.2]; exact g2
theorem k_double {u w : World} {i : IL} {z : Int} {K s : Nat} (d : Dat u w) (hi : IntV u i z K) (hK : K ≤ 100000000) (hs : s ≤ 65536) : Calls Tryz.prog 242 #[i.v, .int .i64 (s : Int)] w (Post u w fun v u' => ∃ y : Sl, v = .agg #[.bool i.s, y.v] ∧ IntV u' ⟨i.s, y⟩ (z * ((2 ^ s : Nat) : Int)) (K + s / 32 + 1)) := by
 refine zzl (args := [i.v, .int .i64 s]) Tryz.func242 rfl Tryz.ntmps242 (rs := [.cell 4 24]) Tryz.results242 (le_b rfl) (le_b rfl) d ?_
 refine sq9 (zzj 2 ⟨24, i.cs⟩ (zzj 4 ⟨24, [.bool false, .slice none 0 0]⟩ (zzb (zzd (zzy [0, 1, 0, 4, 0, 28, 63, 127] [(0, []), (1, []), (2, []), (3, []), (4, []), (5, []), (6, []), (7, [])] xj xj (zza 5 (.adr 2 0) (zzh 6 (zB i.s) ty4 zzk (zza 7 (.adr 2 1) (zzh 8 (.v (i.m.v)) ty22 zzk (zza 9 (zI s) (zzg 10 79 _ fun _ _ ad af => Post.mono (k_natShift (s := s) af ((IntV.abs hi).ext ad) xq xq) ?_)))))))))))
 rintro _ u14 g15 ⟨aa, rfl, ac⟩
 refine zza 11 (.v (.agg #[.bool i.s, aa.v])) (zzi ⟨24, [.bool i.s, aa.v]⟩ ty24 ?_)
 refine zzb (zzn (ret0 [.agg #[.bool i.s, aa.v]] ⟨zzq ty24 zze, trivial⟩ fun u17 ae => ?_))
 obtain ⟨N9, hN9, ab⟩ := hi
 refine ⟨aa, rfl, ?_⟩
 rw [ab, ← Nt.sg_mulN]
 have h9 := IntV.same (s := i.s) (ac.ext ae).raw
 rw [ab] at h9
 exact h9
theorem k_onGrid {u w : World} {i : IL} {y : Sl} {z : Int} {D K L s : Nat} (d : Dat u w) (hi : IntV u i z K) (hy : NatV u y D L) (hD : 0 < D) (hK : K ≤ 10000000) (hL : L ≤ 10000000) (hs : s ≤ 65536) : Calls Tryz.prog 243 #[i.v, y.v, .int .i64 (s : Int)] w (Post u w fun v u' => ∃ r : RL, v = r.v ∧ RatN u' r (mkRat (z / (D : Int)) (2 ^ s)) (K + s / 32 + 3)) := by
 have ax : 0 < 1 * 2 ^ s := by rw [Nat.one_mul]; exact Nat.pow_pos xw
 refine zzl (args := [i.v, y.v, .int .i64 s]) Tryz.func243 rfl Tryz.ntmps243 (rs := [.cell 6 26]) Tryz.results243 (le_b rfl) (le_b rfl) d ?_
 refine sq9 (zzj 3 ⟨24, i.cs⟩ (zzj 6 ⟨26, zw3⟩ (zzb (zzd (zzy [0, 0, 2, 7, 15, 31, 31, 31, 0, 0, 831, 1919, 4095] [(0, []), (1, []), (8, []), (9, []), (2, []), (3, []), (4, []), (5, []), (6, []), (7, []), (10, []), (11, []), (12, [])] xj xj (zzh 11 (.v (i.v)) ty24 zze (zza 12 (.v (y.v)) (zzj 7 ⟨24, [.bool false, .slice none 0 0]⟩ (zzj 8 ⟨24, [.bool false, .slice none 0 0]⟩ (zzg 13 195 _ fun _ _ ai al => Post.mono (k_natural (x := y) al) ?_))))))))))
 rintro _ u12 ag rfl
 refine zzg 14 180 _ fun _ _ aj ay => Post.mono (k_intDivP ay (hi.ext (ai.trans (ag.ext.trans aj))) (hy.ext (ai.trans (ag.ext.trans aj))) hD xq xq) ?_
 rintro _ u20 g21 ⟨ab, ac, rfl, az, h19⟩
 refine zza 10 (.v (.tuple #[ab.v, ac.v, .int .i64 0])) (zza 15 (.v (ab.v)) (zza 16 (.v (ac.v)) (zza 17 (zI 0) (zzi ⟨24, ab.cs⟩ ty24 ?_))))
 refine zzi ⟨24, ac.cs⟩ ty24 ?_
 refine zza 9 (zI 0) (zzb (zzd (zzy [0, 0, 0, 6, 15, 31, 63] [(0, []), (1, []), (2, []), (3, [19]), (4, []), (5, []), (6, [])] xj xj (zzh 18 (.v (ab.v)) ty24 zze (sy_lit 19 ⟨104, [.int .u32 1]⟩ 1 ?_)))))
 refine zza 20 (zI s) (zyn 21 79 [.slc 19 0 1 1, zI s] [19] (.inr rfl) (pub_mk xz) (k := ?_))
 intro ae w23 av am aw au
 have ah : av.heap[ae 19]? = some (.cells #[.int .u32 1] 104 (0, 0)) := au 19 zk _ rfl
 obtain ⟨b24, aa⟩ : ∃ b, ae 19 = b := ⟨_, rfl⟩
 rw [aa] at ah
 show Calls _ _ #[.slice (some ⟨ae 19, 0, none⟩) 1 1, .int .i64 (s : Int)] _ _
 rw [aa]
 have k30 := k_natShift (s := s) aw (one_data ah).raw xq xq
 with_reducible refine zPm k30 ?_
 rintro _ u28 ap ⟨ar, rfl, ak⟩
 refine zza 22 (.v (.agg #[.bool ab.s, ab.m.v, ar.v])) (zzg 23 148 _ fun _ _ af aq => Post.mono (k_lowest aq (az.ext (am.trans (ap.ext.trans af))).raw (ak.ext af).raw ax xq xq) ?_)
 rintro _ u34 g35 ⟨ad, rfl, ao⟩
 refine zzi ⟨26, ad.cs⟩ ty26 ?_
 refine zzb (zzn (ret0 [ad.v] ⟨zzq ty26 zze, trivial⟩ fun u37 an => ?_))
 refine ⟨ad, rfl, RatN.more (K := (max (K + 1) (1 + s / 32 + 1))) ?_ xq⟩
 have h9 := (ao.ext an)
 rw [Nat.one_mul] at h9
 exact h9
set_option maxHeartbeats 1000000 in
theorem k_downG {u w : World} {r : RL} {q : Rat} {K : Nat} {k : Nat} (hk : k ≤ 256) (d : Dat u w) (hr : RatV u r q K) (hK : K ≤ 1000000) : Calls Tryz.prog 252 #[r.v, .int .i64 (k : Int)] w (Post u w fun v u' => ∃ p : RL, v = .tuple #[p.v, .int .i64 0] ∧ RatN u' p (Nt.dnQ q k) (K + 20)) := by
 refine zzl (args := [r.v, .int .i64 k]) Tryz.func252 rfl Tryz.ntmps252 (rs := [.cell 4 26, .tmp 5]) Tryz.results252 (le_b rfl) (le_b rfl) d ?_
 refine sq9 (zzj 2 ⟨26, r.cs⟩ (zzj 4 ⟨26, zw3⟩ (zza 5 (zI 0) (zzb (zzd (sq9 (zza 7 (zI k) (zza 8 (zB (decide ((k : Int) < 0))) (zqB 9 (show (decide ((k : Int) < 0)) = false from decide_eq_false xq) (zza 10 (zI k) ?_ (hw := w1 2 false 9)))))))))))
 refine zza 11 (zB (decide ((256 : Int) < (k : Int)))) ?_ (hw := w1 2 false 9)
 refine zza 12 (zB (decide ((256 : Int) < (k : Int)))) (zzb (zzt (b := decide ((256 : Int) < (k : Int))) xj (fun hb => ?_) (fun hb => ?_)))
 ·exact absurd hb (by rw [show (decide ((256 : Int) < (k : Int))) = false from decide_eq_false xq]; decide)
 clear hb
 refine zzr (zzo ?_)
 refine sq9 (zzh 14 (.v (r.v)) ty26 zze (zzg 15 147 _ fun _ _ ak ap => Post.mono (k_read ap (hr.ext ak)) ?_))
 rintro _ u14 g15 ⟨ab, ag, rfl, z13, D13, ad, ac, aa, ae, au, aj⟩
 refine zzj 6 ⟨149, [.bool false, .slice none 0 0, .slice none 0 0, .bool false]⟩ (zzi ⟨149, ab.cs ++ [.bool ag]⟩ ty149 ?_)
 refine zzb (zzd (zzy [0, 1, 3, 0, 15, 0, 32, 96, 0, 511, 1023, 2047] [(0, []), (1, []), (2, []), (3, []), (5, []), (6, []), (7, []), (8, []), (4, []), (9, []), (10, []), (11, [])] xj xj (zza 16 (.adr 6 0) (zza 17 (.adr 6 0) (zzh 18 (.v (.agg #[.bool ab.s, ab.m.v])) ty24 zze (zza 19 (zI k) (zza 21 (.adr 6 0) (zza 22 (.adr 6 2) (zzh 23 (.v (ab.d.v)) ty22 zzk (zza 24 (zI k) (zzg 20 242 _ fun _ _ ai an => Post.mono (k_double (s := k) an (ad.ext ai) xq xq) ?_)))))))))))
 rintro _ u20 ar ⟨y18, rfl, ao⟩
 refine zzg 25 243 _ fun _ _ ah am => Post.mono (k_onGrid (s := k) am (ao.ext ah) (ac.ext (ai.trans (ar.ext.trans ah))) aa xq xq xq) ?_
 rintro _ u26 g27 ⟨af, rfl, aq⟩
 refine zzi ⟨26, af.cs⟩ ty26 ?_
 refine zza 5 (zI 0) (zzb (zzn (ret0 [af.v, .int .i64 0] ⟨zzq ty26 zze, zzp, trivial⟩ fun u29 al => ?_)))
 refine ⟨af, rfl, RatN.more (K := ((K + k / 32 + 1) + k / 32 + 3)) ?_ xq⟩
 rw [ae, Nt.dn_mk aa]
 exact (aq.ext al)
set_option maxHeartbeats 1000000 in
theorem k_upG {u w : World} {r : RL} {q : Rat} {K : Nat} {k : Nat} (hk : k ≤ 256) (d : Dat u w) (hr : RatV u r q K) (hK : K ≤ 1000000) : Calls Tryz.prog 253 #[r.v, .int .i64 (k : Int)] w (Post u w fun v u' => ∃ p : RL, v = .tuple #[p.v, .int .i64 0] ∧ RatN u' p (-Nt.dnQ (-q) k) (K + 20)) := by
 refine zzl (args := [r.v, .int .i64 k]) Tryz.func253 rfl Tryz.ntmps253 (rs := [.cell 4 26, .tmp 5]) Tryz.results253 (le_b rfl) (le_b rfl) d ?_
 refine sq9 (zzj 2 ⟨26, r.cs⟩ (zzj 4 ⟨26, zw3⟩ (zza 5 (zI 0) (zzb (sq9 (zzh 9 (.v (r.v)) ty26 zze (zzg 10 226 _ fun _ _ ad ai => Post.mono (k_flip (r := r) ai) ?_)))))))
 rintro _ u12 ah rfl
 refine zza 11 (zI k) (zzg 12 252 _ fun _ _ af ak => Post.mono (k_downG (k := k) xq ak ((flip_rat (hr.ext (ad.trans ah.ext))).ext af) xq) ?_)
 rintro _ u18 g19 ⟨aa, rfl, ae⟩
 refine zza 8 (.v (.tuple #[aa.v, .int .i64 0])) (zza 13 (.v (aa.v)) (zza 14 (zI 0) (zzj 6 ⟨26, zw3⟩ (zzi ⟨26, aa.cs⟩ ty26 ?_))))
 refine zza 7 (zI 0) (zzb (zzd (sq9 (zza 15 (zI 0) (zza 16 (zB false) (zzb (zyr xj (zzr (zzo ?_)))))))))
 refine sq9 (zzh 19 (.v (aa.v)) ty26 zze (zzg 20 176 _ fun _ _ ac ag => Post.mono (k_ratNeg ag (ae.ext ac).raw xq) ?_))
 rintro _ u24 g25 ⟨ab, rfl, al⟩
 refine zzi ⟨26, ab.cs⟩ ty26 ?_
 refine zza 5 (zI 0) (zzb (zzn (ret0 [ab.v, .int .i64 0] ⟨zzq ty26 zze, zzp, trivial⟩ fun u27 aj => ?_)))
 refine ⟨ab, rfl, RatN.more (K := (K + 20)) ?_ xq⟩
 exact (al.ext aj)
namespace Nt
def divO (x1 x2 y1 y2 : Rat) : Option (Rat × Rat) := if sgI y1 y2 = 0 then none else some (lo4 (x1 / y1) (x1 / y2) (x2 / y1) (x2 / y2), hi4 (x1 / y1) (x1 / y2) (x2 / y1) (x2 / y2))
def divE (y1 y2 : Rat) : Int := if sgI y1 y2 = 0 then 3 else 0
def rndO (x1 x2 : Rat) (n : Int) : Option (Rat × Rat) := if n < 0 ∨ 256 < n then none else some (dnQ (lo x1 x2) n.toNat, -dnQ (-hi x1 x2) n.toNat)
def rndE (n : Int) : Int := if n < 0 ∨ 256 < n then 1 else 0
end Nt
def OptI (u : World) (a b : RL) (o : Option (Rat × Rat)) (K : Nat) : Prop := match o with | none => a = rl0 ∧ b = rl0 | some (p, q) => RatN u a p K ∧ RatN u b q K
theorem OptI.ext {u u' : World} {a b : RL} {o : Option (Rat × Rat)} {K : Nat} (h : OptI u a b o K) (e : Ext u u') : OptI u' a b o K := by
 cases o with
 | none => exact h
 | some x => exact ⟨h.1.ext e, h.2.ext e⟩
theorem k_ivDivO {u w : World} {a1 a2 b1 b2 : RL} {x1 x2 y1 y2 : Rat} {K L : Nat} (d : Dat u w) (ha1 : RatV u a1 x1 K) (ha2 : RatV u a2 x2 K) (hb1 : RatV u b1 y1 L) (hb2 : RatV u b2 y2 L) (hK : K ≤ 4000000) (hL : L ≤ 4000000) : Calls Tryz.prog 136 #[IV a1 a2, IV b1 b2] w (Post u w fun v u' => ∃ p q : RL, v = .tuple #[IV p q, .int .i64 (Nt.divE y1 y2)] ∧ OptI u' p q (Nt.divO x1 x2 y1 y2) (K + L + 20)) :=
 Post.mono (k_ivDiv d ha1 ha2 hb1 hb2 xq xq) fun v u' _ h => by
  rcases h with ⟨h0, h1⟩ | ⟨h0, p, q, h1, h2, h3⟩
  ·exact ⟨rl0, rl0, by unfold Nt.divE; rw [if_pos h0, h1]; rfl, by unfold Nt.divO; rw [if_pos h0]; exact ⟨rfl, rfl⟩⟩
  exact ⟨p, q, by unfold Nt.divE; rw [if_neg h0, h1], by unfold Nt.divO; rw [if_neg h0]; exact ⟨h2.more xq, h3.more xq⟩⟩
set_option maxHeartbeats 1000000 in
theorem k_ivRoundG {u w : World} {a1 a2 : RL} {x1 x2 : Rat} {K : Nat} {k : Nat} (hk : k ≤ 256) (d : Dat u w) (ha1 : RatV u a1 x1 K) (ha2 : RatV u a2 x2 K) (hK : K ≤ 100000) : Calls Tryz.prog 227 #[IV a1 a2, .int .i64 (k : Int)] w (Post u w fun v u' => ∃ p q : RL, v = .tuple #[IV p q, .int .i64 (Nt.rndE (k : Int))] ∧ OptI u' p q (Nt.rndO x1 x2 (k : Int)) (K + 70)) := by
 refine zzl (args := [.agg #[.bool a1.s, a1.m.v, a1.d.v, .bool a2.s, a2.m.v, a2.d.v], .int .i64 k]) Tryz.func227 rfl Tryz.ntmps227 (rs := [.cell 4 32, .tmp 5]) Tryz.results227 (le_b rfl) (le_b rfl) d ?_
 refine sq9 (zzj 2 ⟨32, a1.cs ++ a2.cs⟩ (zzj 4 ⟨32, zw6⟩ (zza 5 (zI 0) (zzb (zzd (sq9 (zza 12 (zI k) (zza 13 (zB (decide ((k : Int) < 0))) (zqB 14 (show (decide ((k : Int) < 0)) = false from decide_eq_false xq) (zza 15 (zI k) ?_ (hw := w1 2 false 14)))))))))))
 refine zza 16 (zB (decide ((256 : Int) < (k : Int)))) ?_ (hw := w1 2 false 14)
 refine zza 17 (zB (decide ((256 : Int) < (k : Int)))) (zzb (zzt (b := decide ((256 : Int) < (k : Int))) xj (fun hb => ?_) (fun hb => ?_)))
 ·exact absurd hb (by rw [show (decide ((256 : Int) < (k : Int))) = false from decide_eq_false xq]; decide)
 clear hb
 refine zzr (zzo ?_)
 refine sq9 (zzh 20 (.v (.agg #[.bool a1.s, a1.m.v, a1.d.v, .bool a2.s, a2.m.v, a2.d.v])) ty32 zze (zzg 21 208 _ fun _ _ af al => Post.mono (k_ends al (ha1.ext af) (ha2.ext af) xq) ?_))
 rintro _ u17 g18 ⟨ac, ad, rfl, aq, ap⟩
 refine zza 19 (.v (.tuple #[ac.v, ad.v])) (zza 22 (.v (ac.v)) (zza 23 (.v (ad.v)) (zzj 6 ⟨26, zw3⟩ (zzj 7 ⟨26, zw3⟩ (zzi ⟨26, ac.cs⟩ ty26 ?_)))))
 refine zzi ⟨26, ad.cs⟩ ty26 ?_
 refine zzb (sq9 (zzh 25 (.v (ac.v)) ty26 zze (zza 26 (zI k) (zzg 27 252 _ fun _ _ ah an => Post.mono (k_downG (k := k) xq an (aq.ext ah) xq) ?_))))
 rintro _ u23 ai ⟨ab, rfl, ao⟩
 refine zza 24 (.v (.tuple #[ab.v, .int .i64 0])) (zza 28 (.v (ab.v)) (zza 29 (zI 0) (zzj 8 ⟨26, zw3⟩ (zzi ⟨26, ab.cs⟩ ty26 ?_))))
 refine zza 9 (zI 0) (zzb (sq9 (zzh 31 (.v (ad.v)) ty26 zze (zza 32 (zI k) (zzg 33 253 _ fun _ _ ae ak => Post.mono (k_upG (k := k) xq ak (ap.ext (ah.trans (ai.ext.trans ae))) xq) ?_)))))
 rintro _ u29 aj ⟨aa, rfl, am⟩
 refine zza 30 (.v (.tuple #[aa.v, .int .i64 0])) (zza 34 (.v (aa.v)) (zza 35 (zI 0) (zzj 10 ⟨26, zw3⟩ (zzi ⟨26, aa.cs⟩ ty26 ?_))))
 refine zza 11 (zI 0) (zzc 39 [(4, .adr 4 0), (8, .adr 8 0), (10, .adr 10 0)] [(4, ⟨32, zw6⟩), (8, ⟨26, ab.cs⟩), (10, ⟨26, aa.cs⟩)] (sq9 (zzh 36 (.v (ab.v)) ty26 zze (zzh 37 (.v (aa.v)) ty26 zze (zza 38 (.v (.agg #[.bool ab.s, ab.m.v, ab.d.v, .bool aa.s, aa.m.v, aa.d.v])) (zzi ⟨32, ab.cs ++ aa.cs⟩ ty32 ?_))))))
 refine zza 5 (zI 0) (zzb (zzn (ret0 [.agg #[.bool ab.s, ab.m.v, ab.d.v, .bool aa.s, aa.m.v, aa.d.v], .int .i64 0] ⟨zzq ty32 zze, zzp, trivial⟩ fun u32 ag => ?_)))
 have h9 : ¬ ((k : Int) < 0 ∨ 256 < (k : Int)) := by omega
 refine ⟨ab, aa, by unfold Nt.rndE; rw [if_neg h9]; rfl, ?_⟩
 unfold Nt.rndO
 rw [if_neg h9, Int.toNat_natCast]
 exact ⟨RatN.more (K := (K + 20)) (ao.ext (ae.trans (aj.ext.trans ag))) xq, RatN.more (K := (K + 20)) (am.ext ag) xq⟩
@[reducible] def SP (a b : IL) : Value := .agg #[.bool a.s, .slice a.m.a a.m.n a.m.c, .bool b.s, .slice b.m.a b.m.n b.m.c]
namespace Nt
theorem pw_u2 (k : Nat) : pw k = u2 (32 * k) := by
 induction k with
 | zero => rfl
 | succ k ih =>
  have h : u2 (32 * (k + 1)) = u2 (32 * k) * u2 32 := by rw [← u2_add]; rfl
  have e : u2 32 = 4294967296 := by decide +kernel
  show 4294967296 * pw k = _
  rw [ih, h, e, Int.mul_comm]
theorem dl_u2 {z : Int} {L b : Nat} (h0 : -(u2 b) ≤ z) (h1 : z ≤ u2 b) (h : b < 32 * L) : dl z.natAbs ≤ L := by
 refine dl_le ?_
 rw [pw_u2]
 have h2 := u2_mono (a := b + 1) (b := 32 * L) xq
 have h3 : u2 (b + 1) = u2 b * 2 := u2_add b 1
 have h4 := u2_pos b
 omega
theorem big {w : Nat} (hw : w ≤ 800) : 8 * u2 w + 1152921504606846976 ≤ u2 1000 := by
 have h1 := u2_mono hw
 have h2 : 8 * u2 800 + 1152921504606846976 ≤ u2 1000 := by decide +kernel
 omega
theorem cmp_le (x y : Int) : decide (cmpS x y ≤ 0) = decide (x ≤ y) := by
 rw [decide_eq_decide]
 rcases cmp_range x y with ⟨e, h⟩ | ⟨e, h⟩ | ⟨e, h⟩ <;> rw [e] <;> omega
theorem cmp_ne (x y : Int) : (cmpS x y != 0) = decide (x ≠ y) := by
 rcases cmp_range x y with ⟨e, h⟩ | ⟨e, h⟩ | ⟨e, h⟩ <;> rw [e] <;> simp <;> omega
theorem csW_le {w : Nat} (hw : w ≤ 800) : csW w * ((w : Int) + 4) + 2 ≤ 1000000000 ∧ 0 ≤ csW w * ((w : Int) + 2) ∧ csW w * ((w : Int) + 2) ≤ 1000000000 := by
 have h0 : 0 ≤ csW w := by unfold csW; omega
 have h1 : csW w ≤ 411211 := by unfold csW; omega
 have h2 := Int.mul_le_mul h1 (show (w : Int) + 4 ≤ 804 by omega) xq xw
 have h3 := Int.mul_le_mul_of_nonneg_left (show (w : Int) + 2 ≤ (w : Int) + 4 by omega) h0
 have h4 := Int.mul_nonneg h0 (show 0 ≤ (w : Int) + 2 by omega)
 omega
theorem width_lt {lo hi : Int} {g w : Nat} (h : hi - lo ≤ 1000000000) (hw : g + 37 ≤ w) : hi - lo < u2 (w - g) := by
 have h1 := u2_mono (a := 37) (b := w - g) xq
 have h2 : u2 37 = 137438953472 := by decide +kernel
 omega
theorem atR_bd {n w : Nat} {a b : Int} (h : AtR n w a b) (hn : 0 < n) : -(5 * (w : Int) + 8) ≤ a ∧ a ≤ u2 w ∧ 0 ≤ b ∧ b ≤ u2 w + 5 * (w : Int) + 8 ∧ a ≤ b := by
 obtain ⟨⟨N, h1⟩, h2⟩ := h
 have h3 := h1 (N + 1) xq
 have k1 := atT_b (n := n) hn (m := N + 1) xq
 have k2 := atT_le hn 0
 have hU := castI_pos (u2_pos w)
 have h4 : alt (atT n) (N + 1) ≤ 1 := by
  refine Rat.le_trans k1.2 ?_
  refine Rat.le_trans (div_le_self (atP_nn hn 0) (cast_one xq)) ?_
  show 1 / (n : Rat) ≤ 1
  exact div_le_self xw (cast_one hn)
 have h5 := h3.lo_le (c := u2 w) (by
  have := Rat.mul_le_mul_of_nonneg_right h4 (Rat.le_of_lt hU)
  rwa [Rat.one_mul] at this)
 have h6 := h3.nonneg (by grind) (u2_pos w)
 have := h3.le
 omega
theorem coD_mul {j : Nat} (h : j ≤ 1000) : IntKind.i64.wrap (((2 * j + 2 : Nat) : Int) * ((2 * j + 2 - 1 : Nat) : Int)) = coD j ∧ coD j ≤ 10000000 := by
 have h1 := Nat.mul_le_mul (show 2 * j + 2 ≤ 2002 by omega) (show 2 * j + 1 ≤ 2001 by omega)
 have e : ((2 * j + 2 : Nat) : Int) * ((2 * j + 2 - 1 : Nat) : Int) = coD j := by
  unfold coD
  rw [Int.natCast_mul, show 2 * j + 2 - 1 = 2 * j + 1 by omega]
 have h2 : coD j ≤ 10000000 := by unfold coD; omega
 have h3 := coD_pos j
 rw [e]
 exact ⟨IntWalk.i64_in _ xq, h2⟩
theorem csR_bd {p q w : Nat} {a b : Int} (h : CsR p q w a b) (h0 : 0 < q) (hp : 2 * p ≤ q) (hw : w ≤ 800) : -(3 * u2 w) - 1000000000 ≤ a ∧ a ≤ 3 * u2 w ∧ -(3 * u2 w) ≤ b ∧ b ≤ 3 * u2 w + 1000000000 ∧ a ≤ b ∧ b - a ≤ 1000000000 := by
 have h9 := csW_le hw
 obtain ⟨⟨N, h1⟩, h2⟩ := h
 have h3 := h1 (N + 1) xq
 have h4 := cs_bd (N := N) (m := N + 1) h0 hp xq xq h3
 have := h3.le
 omega
theorem flo_of {X : Nat → Rat} {b w : Nat} {lo hi : Int} (h : ∃ N : Nat, ∀ m, N ≤ m → Enc (u2 w) lo hi (X m)) (hb : b ≤ w) (he : (cmpS (lo / u2 (w - b)) (hi / u2 (w - b)) != 0) = false) : lo / u2 (w - b) = flo X b := by
 rw [cmp_ne] at he
 have h1 : lo / u2 (w - b) = hi / u2 (w - b) := by simpa using he
 exact (FlO.of h hb rfl h1.symm).flo.symm
theorem not_yet {X : Nat → Rat} {b g w : Nat} {lo hi : Int} (hg : Gap X b g) (h : ∃ N : Nat, ∀ m, N ≤ m → Enc (u2 w) lo hi (X m)) (hw : hi - lo ≤ 1000000000) (he : (cmpS (lo / u2 (w - b)) (hi / u2 (w - b)) != 0) = true) : w < g + 37 := by
 rcases Nat.lt_or_ge w (g + 37) with k | k
 ·exact k
 have := hg.decides h xq (width_lt hw k)
 rw [cmp_ne] at he
 exact absurd this (by simpa using he)
theorem dnQ_int (z : Int) (b : Nat) : dnQ (z : Rat) b = (z : Rat) := by
 unfold dnQ
 have e : (z : Rat) * ((2 ^ b : Nat) : Rat) = ((z * ((2 ^ b : Nat) : Int) : Int) : Rat) := by rw [Rat.intCast_mul]; rfl
 have f : flr ((z * ((2 ^ b : Nat) : Int) : Int) : Rat) = z * ((2 ^ b : Nat) : Int) := by
  unfold flr
  show (z * ((2 ^ b : Nat) : Int)) / ((1 : Nat) : Int) = _
  exact Int.ediv_one _
 have hp : (2 ^ b : Nat) ≠ 0 := by have := Nat.pow_pos (n := b) (show 0 < 2 by decide); omega
 rw [e, f, Rat.mkRat_eq_div, Rat.intCast_mul]
 show (z : Rat) * ((2 ^ b : Nat) : Rat) / ((2 ^ b : Nat) : Rat) = _
 have : ((2 ^ b : Nat) : Rat) ≠ 0 := by
  have := cast_pos (Nat.pow_pos (n := b) (show 0 < 2 by decide))
  grind
 generalize ((2 ^ b : Nat) : Rat) = x at *
 grind
theorem rnd_pt {q : Rat} {k : Nat} (hk : k ≤ 256) : rndO (lo q q) (hi q q) (k : Int) = some (dnQ q k, -dnQ (-q) k) := by
 unfold rndO
 have e := lo_of_le (Rat.le_refl (a := q))
 rw [if_neg (show ¬ ((k : Int) < 0 ∨ 256 < (k : Int)) by omega), e.1, e.2, e.1, e.2, Int.toNat_natCast]
theorem cosA_0 {r q b : Nat} (h : r = 0) : cosA r q b = (dnQ ((1 : Int) : Rat) b, -dnQ (-((1 : Int) : Rat)) b) := by
 have e : -((1 : Int) : Rat) = ((-1 : Int) : Rat) := rfl
 unfold cosA
 rw [if_pos h, dnQ_int, e, dnQ_int]; rfl
theorem cosA_h {r q b : Nat} (h : ¬ r = 0) (h2 : 2 * r = q) : cosA r q b = (dnQ ((0 : Int) : Rat) b, -dnQ (-((0 : Int) : Rat)) b) := by
 have e : -((0 : Int) : Rat) = ((0 : Int) : Rat) := rfl
 unfold cosA
 rw [if_neg h, if_pos h2, e, dnQ_int]; rfl
theorem cosA_3 {r q b : Nat} (h : ¬ r = 0) (h2 : ¬ 2 * r = q) (h3 : 3 * r = q) : cosA r q b = (dnQ (((1 : Int) : Rat) / ((2 : Int) : Rat)) b, -dnQ (-(((1 : Int) : Rat) / ((2 : Int) : Rat))) b) := by
 unfold cosA
 rw [if_neg h, if_neg h2, if_pos h3]; rfl
theorem cosA_g {r q b : Nat} (h : ¬ r = 0) (h2 : ¬ 2 * r = q) (h3 : ¬ 3 * r = q) : cosA r q b = (gr b (flo (coN r q) b), gr b (flo (coN r q) b + 1)) := by
 unfold cosA
 rw [if_neg h, if_neg h2, if_neg h3]
theorem cosV_lo {p : Int} {q b r : Nat} (h : fold p q = r) (h2 : ¬ q < 2 * r) : cosV p q b = cosA r q b := by
 unfold cosV cosF; rw [h, if_neg h2]
theorem cosV_hi {p : Int} {q b r : Nat} (h : fold p q = r) (h2 : q < 2 * r) : cosV p q b = (-(cosA (q - r) q b).2, -(cosA (q - r) q b).1) := by
 unfold cosV cosF; rw [h, if_pos h2]
theorem fold_id {r q : Nat} (h : r ≤ q) : fold (r : Int) q = r := by
 unfold fold
 dsimp only
 rcases Nat.eq_zero_or_pos q with h0 | h0
 ·have : r = 0 := by omega
  subst this; subst h0; rfl
 rw [Int.tmod_eq_of_lt xq xq, if_neg xq]
 omega
theorem tmod_bd (p : Int) {q : Nat} (hq : 0 < q) : -(2 * (q : Int)) < Int.tmod p (2 * (q : Int)) ∧ Int.tmod p (2 * (q : Int)) < 2 * (q : Int) := ⟨Int.lt_tmod_of_pos p xq, Int.tmod_lt_of_pos p xq⟩
end Nt
theorem IntN.fit {u : World} {i : IL} {z : Int} {K L : Nat} (h : IntN u i z K) (k : dl z.natAbs ≤ L) : IntN u i z L := ⟨h.1, h.2.1, h.2.2.1, k⟩
theorem IntN.lim {u : World} {i : IL} {z : Int} {K : Nat} (h : IntN u i z K) (h0 : -(Nt.u2 1000) ≤ z) (h1 : z ≤ Nt.u2 1000) : IntN u i z 40 := h.fit (Nt.dl_u2 h0 h1 xw)
theorem IntN.lim2 {u : World} {i : IL} {z : Int} {K : Nat} (h : IntN u i z K) (h0 : -(Nt.u2 1000) ≤ z) (h1 : z ≤ Nt.u2 1000) : IntN u i z 42 := (h.lim h0 h1).more xw
end Go.Proofs.YtbolmkfphieogaaGreat
namespace Go.Proofs.YtbolmkfphieogaaGreat
namespace Nt
def irt (n : Nat) : Nat → Nat
 | 0 => 0
 | N + 1 => if (irt n N + 1) ^ n ≤ N + 1 then irt n N + 1 else irt n N
end Nt
open Go.RowKit
set_option maxRecDepth 20000
namespace Nt
def rtD (q : Rat) (n b : Nat) : Nat := q.num.natAbs * 2 ^ (n * b) / q.den
def rtN (q : Rat) (n b : Nat) : Nat := irt n (rtD q n b)
def rtX (q : Rat) (n b : Nat) : Prop := q.num.natAbs * 2 ^ (n * b) % q.den = 0 ∧ rtN q n b ^ n = rtD q n b
instance (q : Rat) (n b : Nat) : Decidable (rtX q n b) := by unfold rtX; infer_instance
theorem flo_of2 {X : Nat → Rat} {b w : Nat} {lo hi z : Int} (h : ∃ N : Nat, ∀ m, N ≤ m → Enc (u2 w) lo hi (X m)) (hb : b ≤ w) (h1 : lo / u2 (w - b) = z) (h2 : hi / u2 (w - b) = z) : flo X b = z := (FlO.of h hb h1 h2).flo
end Nt
section
variable {L : List (List Int)} {p l : List Int} {i n c b k : Nat} {u u' : World} {x : Sl} {cs : List Value}
theorem rows_nil : Rows k [] := fun q hq => by cases hq
theorem ir_cell4 (h : IrV 4 u x L) (hi : i < L.length) : ∃ b o, x.a = some ⟨b, o, none⟩ ∧ ∀ j, j < 4 → u.cell? ⟨b, o + i * 4 + j, none⟩ = some (.int .i64 (gi L i j)) := by
 obtain ⟨b, o, h1, h2, h3⟩ := ir_at h hi
 refine ⟨b, o, h1, fun j hj => ?_⟩
 rw [h3 j (by rw [zwi, h.rows.get hi]; exact hj), ics_at (by rw [h.rows.get hi]; exact hj)]
 rfl
end
namespace Nt
noncomputable section
def rSH (p q : Nat) : Rat × Rat := cosV (((2 * q : Nat) : Int) - 2 * (p : Int)) (2 * (2 * q)) 64
def rCH (p q : Nat) : Rat × Rat := cosV (p : Int) (2 * q) 64
def rSI (p q : Nat) : Rat × Rat := cosV (((q : Nat) : Int) - 2 * (p : Int)) (2 * q) 64
def rTA (p q : Nat) : Rat × Rat := (divO (rSH p q).1 (rSH p q).2 (rCH p q).1 (rCH p q).2).getD (0, 0)
def roT (p q k : Nat) : Int := coZ (rTA p q).1 (rTA p q).2 k
def roS (p q k : Nat) : Int := coZ (rSI p q).1 (rSI p q).2 k
structure RotOK (p q k : Nat) : Prop where
 g1 : GapQ (2 * (2 * q)) 64
 g2 : GapQ (2 * q) 64
 hs : sgI (rCH p q).1 (rCH p q).2 ≠ 0
 t0 : -2097152 ≤ roT p q k
 t1 : roT p q k ≤ 2097152
 s0 : -2097152 ≤ roS p q k
 s1 : roS p q k ≤ 2097152
def roL (i j p q k : Nat) : List (List Int) := [[(i : Int), (j : Int), roT p q k, (k : Int)], [(j : Int), (i : Int), -roS p q k, (k : Int)], [(i : Int), (j : Int), roT p q k, (k : Int)], [(j : Int), (j : Int), 0, -2]]
theorem RotOK.div {p q k : Nat} (h : RotOK p q k) : divE (rCH p q).1 (rCH p q).2 = 0 ∧ divO (rSH p q).1 (rSH p q).2 (rCH p q).1 (rCH p q).2 = some ((rTA p q).1, (rTA p q).2) := by
 constructor
 ·exact if_neg h.hs
 unfold rTA
 have : divO (rSH p q).1 (rSH p q).2 (rCH p q).1 (rCH p q).2 = _ := if_neg h.hs
 rw [this]; rfl
theorem flo_616 : flo (coN 6 16) 64 = xLo (cs8 6 16) / u2 (128 - 64) := flo_of2 (w := 128) (cs8_ok xw xw) xw rfl (by decide +kernel)
theorem flo_18 : flo (coN 1 8) 64 = xLo (cs8 1 8) / u2 (128 - 64) := flo_of2 (w := 128) (cs8_ok xw xw) xw rfl (by decide +kernel)
theorem flo_28 : flo (coN 2 8) 64 = xLo (cs8 2 8) / u2 (128 - 64) := flo_of2 (w := 128) (cs8_ok xw xw) xw rfl (by decide +kernel)
theorem rSH_14 : rSH 1 4 = (gr 64 (xLo (cs8 6 16) / u2 (128 - 64)), gr 64 (xLo (cs8 6 16) / u2 (128 - 64) + 1)) := by
 have h : fold 6 16 = 6 := by decide +kernel
 show cosV 6 16 64 = _
 rw [cosV_lo h xw, cosA_g xw xw xw, flo_616]
theorem rCH_14 : rCH 1 4 = (gr 64 (xLo (cs8 1 8) / u2 (128 - 64)), gr 64 (xLo (cs8 1 8) / u2 (128 - 64) + 1)) := by
 have h : fold 1 8 = 1 := by decide +kernel
 show cosV 1 8 64 = _
 rw [cosV_lo h xw, cosA_g xw xw xw, flo_18]
theorem rSI_14 : rSI 1 4 = (gr 64 (xLo (cs8 2 8) / u2 (128 - 64)), gr 64 (xLo (cs8 2 8) / u2 (128 - 64) + 1)) := by
 have h : fold 2 8 = 2 := by decide +kernel
 show cosV 2 8 64 = _
 rw [cosV_lo h xw, cosA_g xw xw xw, flo_28]
theorem roT_14 : roT 1 4 4 = 7 := by unfold roT rTA; rw [rSH_14, rCH_14]; decide +kernel
theorem roS_14 : roS 1 4 4 = 11 := by unfold roS; rw [rSI_14]; decide +kernel
theorem rotOK_14 : RotOK 1 4 4 := by
 refine ⟨gapQ_16 xw xw, gapQ_16 xw xw, ?_, ?_, ?_, ?_, ?_⟩
 ·rw [rCH_14]; decide +kernel
 ·rw [roT_14]; decide
 ·rw [roT_14]; decide
 ·rw [roS_14]; decide
 rw [roS_14]; decide
end
end Nt
end Go.Proofs.YtbolmkfphieogaaGreat
namespace Go.Proofs.YtbolmkfphieogaaGreat
open Go.RowKit
theorem k_intDivI {u w : World} {i1 i2 : IL} {z D : Int} {K L : Nat} (d : Dat u w) (h1 : IntV u i1 z K) (h2 : IntN u i2 D L) (hD : 0 < D) (hK : K ≤ 100000000) (hL : L ≤ 100000000) : Calls Tryz.prog 180 #[i1.v, i2.v] w (Post u w fun v u' => ∃ i j : IL, v = .tuple #[i.v, j.v, .int .i64 0] ∧ IntN u' i (z / D) (K + 1) ∧ IntN u' j (z % D) L) := by
 obtain ⟨s, y⟩ := i2
 have hs : s = false := by have h3 := h2.1; rw [decide_eq_false xq] at h3; exact h3
 subst hs
 have hd : ((D.natAbs : Nat) : Int) = D := by omega
 have := k_intDivP d h1 (y := y) (M := D.natAbs) h2.2.raw xq hK hL
 rw [hd] at this
 exact this
theorem k_intSub {u w : World} {i1 : IL} {zN : Int} {K : Nat} {i2 : IL} {zM : Int} {L : Nat} (d : Dat u w) (hi1 : IntV u i1 zN K) (hi2 : IntV u i2 zM L) (hK : K ≤ 400000000) (hL : L ≤ 400000000) : Calls Tryz.prog 233 #[i1.v, i2.v] w (Post u w fun v u' => ∃ i : IL, v = i.v ∧ IntN u' i (zN - zM) (max K L + 1)) := by
 obtain ⟨N, hN, hzN⟩ := hi1
 obtain ⟨M, hM, hzM⟩ := hi2
 refine zzl (args := [i1.v, i2.v]) Tryz.func233 rfl Tryz.ntmps233 (rs := [.cell 4 24]) Tryz.results233 (le_b rfl) (le_b rfl) d ?_
 refine sq9 (zzj 2 ⟨24, i1.cs⟩ (zzj 3 ⟨24, i2.cs⟩ (zzj 4 ⟨24, [.bool false, .slice none 0 0]⟩ (zzb (sq9 (zzh 5 (.v (i1.v)) ty24 zze (zza 6 (.adr 3 0) (zzh 7 (zB i2.s) ty4 zzk (zza 8 (zB (!i2.s)) (zza 9 (.adr 3 1) (zzh 10 (.v (i2.m.v)) ty22 zzk ?_)))))))))))
 refine zza 11 (.v (.agg #[.bool (!i2.s), i2.m.v])) (zzg 12 159 _ fun _ _ ab ae => Post.mono (k_intAdd ae (IntV.same (s := i1.s) (hN.ext ab)) (IntV.same (s := !i2.s) (hM.ext ab)) xq xq) ?_)
 rintro _ u14 g15 ⟨aa, rfl, ac⟩
 refine zzi ⟨24, aa.cs⟩ ty24 ?_
 refine zzb (zzn (ret0 [aa.v] ⟨zzq ty24 zze, trivial⟩ fun u17 ad => ?_))
 refine ⟨aa, rfl, IntN.more (K := (max K L + 1)) ?_ xq⟩
 have e9 : zN - zM = Nt.sg i1.s N + Nt.sg (!i2.s) M := by rw [hzN, hzM]; unfold Nt.sg; cases i1.s <;> cases i2.s <;> simp <;> omega
 rw [e9]
 exact (ac.ext ad)
theorem k_eUnit {u w : World} {k : Nat} (d : Dat u w) (hk : k ≤ 65536) : Calls Tryz.prog 161 #[.int .i64 (k : Int)] w (Post u w fun v u' => ∃ i : IL, v = SP i i ∧ IntN u' i (Nt.u2 k) (k / 32 + 2)) := by
 refine zzl (args := [.int .i64 k]) Tryz.func161 rfl Tryz.ntmps161 (rs := [.cell 2 160]) Tryz.results161 (le_b rfl) (le_b rfl) d ?_
 refine sq9 (zzj 2 ⟨160, [.bool false, .slice none 0 0, .bool false, .slice none 0 0]⟩ (zzb (sq9 (zxw 4 ⟨104, [.int .u32 1]⟩ 1 (fun b11 u12 e13 ac => ?_)))))
 refine zza 5 (zI k) (zzg 6 79 _ fun _ _ ab ae => Post.mono (k_natShift (s := k) ae ((one_data ac).ext ab).raw xq xq) ?_)
 rintro _ u18 g19 ⟨aa, rfl, af⟩
 refine zza 7 (.v (.agg #[.bool false, aa.v])) (zzj 3 ⟨24, [.bool false, .slice none 0 0]⟩ (zzi ⟨24, [.bool false, aa.v]⟩ ty24 ?_))
 refine zzb (sq9 (zzh 8 (.v (.agg #[.bool false, aa.v])) ty24 zze (zzh 9 (.v (.agg #[.bool false, aa.v])) ty24 zze (zza 10 (.v (.agg #[.bool false, aa.v, .bool false, aa.v])) (zzi ⟨160, [.bool false, aa.v, .bool false, aa.v]⟩ ty160 ?_)))))
 refine zzb (zzn (ret0 [.agg #[.bool false, aa.v, .bool false, aa.v]] ⟨zzq ty160 zze, trivial⟩ fun u21 ad => ?_))
 refine ⟨(⟨false, aa⟩ : IL), rfl, ?_⟩
 have h9 := nat_intN (af.ext ad)
 rw [Nat.one_mul] at h9
 exact h9.more xq
theorem k_eAdd {u w : World} {i j : IL} {a b : Int} {K : Nat} {k l : IL} {e f : Int} {L : Nat} (d : Dat u w) (hi : IntN u i a K) (hj : IntN u j b K) (hk : IntN u k e L) (hl : IntN u l f L) (hK : K ≤ 1000000) (hL : L ≤ 1000000) : Calls Tryz.prog 230 #[SP i j, SP k l] w (Post u w fun v u' => ∃ i j : IL, v = SP i j ∧ IntN u' i (a + e) (max K L + 1) ∧ IntN u' j (b + f) (max K L + 1)) := by
 refine zzl (args := [.agg #[.bool i.s, i.m.v, .bool j.s, j.m.v], .agg #[.bool k.s, k.m.v, .bool l.s, l.m.v]]) Tryz.func230 rfl Tryz.ntmps230 (rs := [.cell 4 160]) Tryz.results230 (le_b rfl) (le_b rfl) d ?_
 refine sq9 (zzj 2 ⟨160, i.cs ++ j.cs⟩ (zzj 3 ⟨160, k.cs ++ l.cs⟩ (zzj 4 ⟨160, [.bool false, .slice none 0 0, .bool false, .slice none 0 0]⟩ (zzb (zzd (zzy [0, 1, 0, 4, 15, 0, 32, 0, 128, 511, 1023, 2047] [(0, []), (1, []), (2, []), (3, []), (5, []), (6, []), (7, []), (8, []), (4, []), (9, []), (10, []), (11, [])] xj xj (zza 5 (.adr 2 0) (zzh 6 (.v (i.v)) ty24 zze (zza 7 (.adr 3 0) (zzh 8 (.v (k.v)) ty24 zze (zza 10 (.adr 2 2) ?_)))))))))))
 refine zzh 11 (.v (j.v)) ty24 zze (zza 12 (.adr 3 2) (zzh 13 (.v (l.v)) ty24 zze (zzg 9 159 _ fun _ _ ac ak => Post.mono (k_intAdd ak (hi.ext ac).raw (hk.ext ac).raw xq xq) ?_)))
 rintro _ u14 af ⟨aa, rfl, ag⟩
 refine zzg 14 159 _ fun _ _ ad ai => Post.mono (k_intAdd ai (hj.ext (ac.trans (af.ext.trans ad))).raw (hl.ext (ac.trans (af.ext.trans ad))).raw xq xq) ?_
 rintro _ u20 ah ⟨ab, rfl, aj⟩
 refine zza 15 (.v (.agg #[.bool aa.s, aa.m.v, .bool ab.s, ab.m.v])) (zzi ⟨160, aa.cs ++ ab.cs⟩ ty160 ?_)
 refine zzb (zzn (ret0 [.agg #[.bool aa.s, aa.m.v, .bool ab.s, ab.m.v]] ⟨zzq ty160 zze, trivial⟩ fun u23 ae => ?_))
 refine ⟨aa, ab, rfl, IntN.more (K := (max K L + 1)) ?_ xq, IntN.more (K := (max K L + 1)) ?_ xq⟩
 ·exact (ag.ext (ad.trans (ah.ext.trans ae)))
 exact (aj.ext ae)
theorem k_eSub {u w : World} {i j : IL} {a b : Int} {K : Nat} {k l : IL} {e f : Int} {L : Nat} (d : Dat u w) (hi : IntN u i a K) (hj : IntN u j b K) (hk : IntN u k e L) (hl : IntN u l f L) (hK : K ≤ 1000000) (hL : L ≤ 1000000) : Calls Tryz.prog 184 #[SP i j, SP k l] w (Post u w fun v u' => ∃ i j : IL, v = SP i j ∧ IntN u' i (a - f) (max K L + 1) ∧ IntN u' j (b - e) (max K L + 1)) := by
 refine zzl (args := [.agg #[.bool i.s, i.m.v, .bool j.s, j.m.v], .agg #[.bool k.s, k.m.v, .bool l.s, l.m.v]]) Tryz.func184 rfl Tryz.ntmps184 (rs := [.cell 4 160]) Tryz.results184 (le_b rfl) (le_b rfl) d ?_
 refine sq9 (zzj 2 ⟨160, i.cs ++ j.cs⟩ (zzj 3 ⟨160, k.cs ++ l.cs⟩ (zzj 4 ⟨160, [.bool false, .slice none 0 0, .bool false, .slice none 0 0]⟩ (zzb (zzd (zzy [0, 1, 0, 4, 15, 0, 32, 0, 128, 511, 1023, 2047] [(0, []), (1, []), (2, []), (3, []), (5, []), (6, []), (7, []), (8, []), (4, []), (9, []), (10, []), (11, [])] xj xj (zza 5 (.adr 2 0) (zzh 6 (.v (i.v)) ty24 zze (zza 7 (.adr 3 2) (zzh 8 (.v (l.v)) ty24 zze (zza 10 (.adr 2 2) ?_)))))))))))
 refine zzh 11 (.v (j.v)) ty24 zze (zza 12 (.adr 3 0) (zzh 13 (.v (k.v)) ty24 zze (zzg 9 233 _ fun _ _ ac ak => Post.mono (k_intSub ak (hi.ext ac).raw (hl.ext ac).raw xq xq) ?_)))
 rintro _ u14 af ⟨aa, rfl, ag⟩
 refine zzg 14 233 _ fun _ _ ad ai => Post.mono (k_intSub ai (hj.ext (ac.trans (af.ext.trans ad))).raw (hk.ext (ac.trans (af.ext.trans ad))).raw xq xq) ?_
 rintro _ u20 ah ⟨ab, rfl, aj⟩
 refine zza 15 (.v (.agg #[.bool aa.s, aa.m.v, .bool ab.s, ab.m.v])) (zzi ⟨160, aa.cs ++ ab.cs⟩ ty160 ?_)
 refine zzb (zzn (ret0 [.agg #[.bool aa.s, aa.m.v, .bool ab.s, ab.m.v]] ⟨zzq ty160 zze, trivial⟩ fun u23 ae => ?_))
 refine ⟨aa, ab, rfl, IntN.more (K := (max K L + 1)) ?_ xq, IntN.more (K := (max K L + 1)) ?_ xq⟩
 ·exact (ag.ext (ad.trans (ah.ext.trans ae)))
 exact (aj.ext ae)
theorem k_eTimes {u w : World} {i j : IL} {a b : Int} {K : Nat} {n9 : Nat} (d : Dat u w) (hi : IntN u i a K) (hj : IntN u j b K)  (hK : K ≤ 1000000) (hn : n9 ≤ 1000000000) : Calls Tryz.prog 183 #[SP i j, .int .i64 (n9 : Int)] w (Post u w fun v u' => ∃ i j : IL, v = SP i j ∧ IntN u' i (a * (n9 : Int)) (K + 2) ∧ IntN u' j (b * (n9 : Int)) (K + 2)) := by
 refine zzl (args := [.agg #[.bool i.s, i.m.v, .bool j.s, j.m.v], .int .i64 n9]) Tryz.func183 rfl Tryz.ntmps183 (rs := [.cell 4 160]) Tryz.results183 (le_b rfl) (le_b rfl) d ?_
 refine sq9 (zzj 2 ⟨160, i.cs ++ j.cs⟩ (zzj 4 ⟨160, [.bool false, .slice none 0 0, .bool false, .slice none 0 0]⟩ (zzb (zzd (zzy [0, 1, 0, 4, 15, 0, 32, 0, 159, 511, 1023, 2047] [(0, []), (1, []), (2, []), (5, []), (6, []), (7, []), (3, []), (4, []), (8, []), (9, []), (10, []), (11, [])] xj xj (zza 5 (.adr 2 0) (zzh 6 (.v (i.v)) ty24 zze (zza 7 (zI n9) (zza 10 (.adr 2 2) (zzh 11 (.v (j.v)) ty24 zze (zza 12 (zI n9) ?_)))))))))))
 refine zzg 8 160 _ fun _ _ ai ak => Post.mono (k_intOf ak (z := (n9 : Int)) xq xq) ?_
 rintro _ u14 ae ⟨i12, rfl, al⟩
 refine zzg 9 194 _ fun _ _ ac ao => Post.mono (k_intMul ao (hi.ext (ai.trans (ae.ext.trans ac))).raw (al.ext ac).raw xq xq) ?_
 rintro _ u20 ar ⟨aa, rfl, ap⟩
 refine zzg 13 160 _ fun _ _ af an => Post.mono (k_intOf an (z := (n9 : Int)) xq xq) ?_
 rintro _ u26 ah ⟨i24, rfl, aq⟩
 refine zzg 14 194 _ fun _ _ ad aj => Post.mono (k_intMul aj (hj.ext (ai.trans (ae.ext.trans (ac.trans (ar.ext.trans (af.trans (ah.ext.trans ad))))))).raw (aq.ext ad).raw xq xq) ?_
 rintro _ u32 am ⟨ab, rfl, au⟩
 refine zza 15 (.v (.agg #[.bool aa.s, aa.m.v, .bool ab.s, ab.m.v])) (zzi ⟨160, aa.cs ++ ab.cs⟩ ty160 ?_)
 refine zzb (zzn (ret0 [.agg #[.bool aa.s, aa.m.v, .bool ab.s, ab.m.v]] ⟨zzq ty160 zze, trivial⟩ fun u35 ag => ?_))
 refine ⟨aa, ab, rfl, IntN.more (K := (K + 2)) ?_ xq, IntN.more (K := (K + 2)) ?_ xq⟩
 ·exact (ap.ext (af.trans (ah.ext.trans (ad.trans (am.ext.trans ag)))))
 exact (au.ext ag)
theorem k_eOver {u w : World} {i j : IL} {a b : Int} {K : Nat} {l : IL} {D : Int} {L : Nat} (d : Dat u w) (hi : IntN u i a K) (hj : IntN u j b K) (hl : IntN u l D L) (hD : 0 < D) (hK : K ≤ 1000000) (hL : L ≤ 1000000) : Calls Tryz.prog 228 #[SP i j, l.v] w (Post u w fun v u' => ∃ i j : IL, v = SP i j ∧ IntN u' i (a / D) (K + 3) ∧ IntN u' j (Nt.cdiv b D) (K + 3)) := by
 refine zzl (args := [.agg #[.bool i.s, i.m.v, .bool j.s, j.m.v], l.v]) Tryz.func228 rfl Tryz.ntmps228 (rs := [.cell 4 160]) Tryz.results228 (le_b rfl) (le_b rfl) d ?_
 refine sq9 (zzj 2 ⟨160, i.cs ++ j.cs⟩ (zzj 3 ⟨24, l.cs⟩ (zzj 4 ⟨160, [.bool false, .slice none 0 0, .bool false, .slice none 0 0]⟩ (zzb (sq9 (zza 12 (.adr 2 0) (zzh 13 (.v (i.v)) ty24 zze (zzh 14 (.v (l.v)) ty24 zze (zzg 15 180 _ fun _ _ ai aw => Post.mono (k_intDivI aw (hi.ext ai).raw (hl.ext ai) hD xq xq) ?_)))))))))
 rintro _ u16 au ⟨aa, ak, rfl, am, h15⟩
 refine zza 11 (.v (.tuple #[aa.v, ak.v, .int .i64 0])) (zza 16 (.v (aa.v)) (zza 17 (.v (ak.v)) (zza 18 (zI 0) (zzj 5 ⟨24, [.bool false, .slice none 0 0]⟩ (zzj 6 ⟨24, [.bool false, .slice none 0 0]⟩ (zzi ⟨24, aa.cs⟩ ty24 ?_))))))
 refine zzi ⟨24, ak.cs⟩ ty24 ?_
 refine zza 7 (zI 0) (zzb (sq9 (zza 20 (.adr 2 2) (zzh 21 (.v (j.v)) ty24 zze (zzh 22 (.v (l.v)) ty24 zze (zzg 23 180 _ fun _ _ ah aC => Post.mono (k_intDivI aC (hj.ext (ai.trans (au.ext.trans ah))).raw (hl.ext (ai.trans (au.ext.trans ah))) hD xq xq) ?_))))))
 rintro _ u24 an ⟨ab, ag, rfl, ao, az⟩
 refine zza 19 (.v (.tuple #[ab.v, ag.v, .int .i64 0])) (zza 24 (.v (ab.v)) (zza 25 (.v (ag.v)) (zza 26 (zI 0) (zzj 8 ⟨24, [.bool false, .slice none 0 0]⟩ (zzj 9 ⟨24, [.bool false, .slice none 0 0]⟩ (zzi ⟨24, ab.cs⟩ ty24 ?_))))))
 refine zzi ⟨24, ag.cs⟩ ty24 ?_
 refine zza 10 (zI 0) (zzb (zzd (sq9 (zzh 27 (.v (ag.v)) ty24 zze (zzg 28 146 _ fun _ _ ae aB => Post.mono (k_intSign aB (az.ext ae).raw) ?_)))))
 rintro _ u28 af rfl
 refine zza 29 (zB ((Nt.cmpS (b % D) 0) != 0)) (zzc 36 [(4, .adr 4 0), (5, .adr 5 0), (8, .adr 8 0), (29, zB ((Nt.cmpS (b % D) 0) != 0))] [(4, ⟨160, [.bool false, .slice none 0 0, .bool false, .slice none 0 0]⟩), (5, ⟨24, aa.cs⟩), (8, ⟨24, ab.cs⟩)] (zzt (b := (Nt.cmpS (b % D) 0) != 0) xj (fun ac => ?_) (fun ac => ?_)))
 ·refine zzy [0, 0, 3, 7] [(0, []), (1, []), (2, []), (3, [])] xj xj (zzh 30 (.v (ab.v)) ty24 zze (zzg 31 160 _ fun _ _ ar aA => Post.mono (k_intOf aA (z := 1) xq xq) ?_))
  rintro _ u35 ap ⟨i33, rfl, av⟩
  refine zzg 32 159 _ fun _ _ aj aD => Post.mono (k_intAdd aD (ao.ext (ae.trans (af.ext.trans (ar.trans (ap.ext.trans aj))))).raw (av.ext aj).raw xq xq) ?_
  rintro _ u41 ax ⟨ad, rfl, ay⟩
  refine zzi ⟨24, ad.cs⟩ ty24 ?_
  refine zzb (sq9 (zzh 33 (.v (aa.v)) ty24 zze (zzh 34 (.v (ad.v)) ty24 zze (zza 35 (.v (.agg #[.bool aa.s, aa.m.v, .bool ad.s, ad.m.v])) (zzi ⟨160, aa.cs ++ ad.cs⟩ ty160 ?_)))))
  refine zzb (zzn (ret0 [.agg #[.bool aa.s, aa.m.v, .bool ad.s, ad.m.v]] ⟨zzq ty160 zze, trivial⟩ fun u44 aq => ?_))
  have h8 : ¬ b % D = 0 := by intro h7; rw [h7] at ac; exact absurd ac xw
  rw [Nt.cd_eq1 hD h8]
  refine ⟨aa, ad, rfl, IntN.more (K := (K + 1)) ?_ xq, IntN.more (K := (max (K + 1) 2 + 1)) ?_ xq⟩
  ·exact (am.ext (ah.trans (an.ext.trans (ae.trans (af.ext.trans (ar.trans (ap.ext.trans (aj.trans (ax.ext.trans aq)))))))))
  exact (ay.ext aq)
 refine zzr (zzo ?_)
 refine sq9 (zzh 33 (.v (aa.v)) ty24 zze (zzh 34 (.v (ab.v)) ty24 zze (zza 35 (.v (.agg #[.bool aa.s, aa.m.v, .bool ab.s, ab.m.v])) (zzi ⟨160, aa.cs ++ ab.cs⟩ ty160 ?_))))
 refine zzb (zzn (ret0 [.agg #[.bool aa.s, aa.m.v, .bool ab.s, ab.m.v]] ⟨zzq ty160 zze, trivial⟩ fun u46 al => ?_))
 have h8 : b % D = 0 := by rw [Nt.cmp_ne] at ac; simpa using ac
 rw [Nt.cd_eq0 hD h8]
 refine ⟨aa, ab, rfl, IntN.more (K := (K + 1)) ?_ xq, IntN.more (K := (K + 1)) ?_ xq⟩
 ·exact (am.ext (ah.trans (an.ext.trans (ae.trans (af.ext.trans al)))))
 exact (ao.ext (ae.trans (af.ext.trans al)))
theorem k_eProd {u w : World} {i j : IL} {a b : Int} {K : Nat} {k l : IL} {e f : Int} {L p : Nat} (d : Dat u w) (hi : IntN u i a K) (hj : IntN u j b K) (hk : IntN u k e L) (hl : IntN u l f L) (hK : K ≤ 400000) (hL : L ≤ 400000) (hp : p ≤ 60000) : Calls Tryz.prog 229 #[SP i j, SP k l, .int .i64 (p : Int)] w (Post u w fun v u' => ∃ i j : IL, v = SP i j ∧ IntN u' i (a * e / Nt.u2 p) (K + L + 3) ∧ IntN u' j (Nt.cdiv (b * f) (Nt.u2 p)) (K + L + 3)) := by
 refine zzl (args := [.agg #[.bool i.s, i.m.v, .bool j.s, j.m.v], .agg #[.bool k.s, k.m.v, .bool l.s, l.m.v], .int .i64 p]) Tryz.func229 rfl Tryz.ntmps229 (rs := [.cell 6 160]) Tryz.results229 (le_b rfl) (le_b rfl) d ?_
 refine sq9 (zzj 3 ⟨160, i.cs ++ j.cs⟩ (zzj 4 ⟨160, k.cs ++ l.cs⟩ (zzj 6 ⟨160, [.bool false, .slice none 0 0, .bool false, .slice none 0 0]⟩ (zzb (zzd (zzy [0, 1, 0, 4, 15, 0, 32, 0, 128, 511, 1023, 0, 3071, 7167, 16383, 32767] [(0, []), (1, []), (2, []), (3, []), (5, []), (6, []), (7, []), (8, []), (11, []), (4, []), (9, []), (10, []), (12, []), (13, []), (14, []), (15, [])] xj xj (zza 7 (.adr 3 0) (zzh 8 (.v (i.v)) ty24 zze (zza 9 (.adr 4 0) (zzh 10 (.v (k.v)) ty24 zze (zza 12 (.adr 3 2) ?_)))))))))))
 refine zzh 13 (.v (j.v)) ty24 zze (zza 14 (.adr 4 2) (zzh 15 (.v (l.v)) ty24 zze (zza 18 (zI p) (zzg 11 194 _ fun _ _ ac am => Post.mono (k_intMul am (hi.ext ac).raw (hk.ext ac).raw xq xq) ?_))))
 rintro _ u14 af ⟨ak, rfl, ao⟩
 refine zzg 16 194 _ fun _ _ ad aq => Post.mono (k_intMul aq (hj.ext (ac.trans (af.ext.trans ad))).raw (hl.ext (ac.trans (af.ext.trans ad))).raw xq xq) ?_
 rintro _ u20 aw ⟨ai, rfl, ar⟩
 refine zza 17 (.v (.agg #[.bool ak.s, ak.m.v, .bool ai.s, ai.m.v])) (zzg 19 161 _ fun _ _ ag ap => Post.mono (k_eUnit (k := p) ap xq) ?_)
 rintro _ u26 aj ⟨av, rfl, au⟩
 refine zza 20 (.v (av.v)) (zzg 21 228 _ fun _ _ ae al => Post.mono (k_eOver al (ao.ext (ad.trans (aw.ext.trans (ag.trans (aj.ext.trans ae))))) (ar.ext (ag.trans (aj.ext.trans ae))) (au.ext ae) (Nt.u2_pos p) xq xq) ?_)
 rintro _ u34 g35 ⟨ab, aa, rfl, ax, an⟩
 refine zzi ⟨160, ab.cs ++ aa.cs⟩ ty160 ?_
 refine zzb (zzn (ret0 [.agg #[.bool ab.s, ab.m.v, .bool aa.s, aa.m.v]] ⟨zzq ty160 zze, trivial⟩ fun u37 ah => ?_))
 refine ⟨ab, aa, rfl, IntN.more (K := ((K + L) + 3)) ?_ xq, IntN.more (K := ((K + L) + 3)) ?_ xq⟩
 ·exact (ax.ext ah)
 exact (an.ext ah)
theorem k_eWider {u w : World} {i j : IL} {a b : Int} {K : Nat}  (d : Dat u w) (hi : IntN u i a K) (hj : IntN u j b K)  (hK : K ≤ 1000000)  : Calls Tryz.prog 232 #[SP i j] w (Post u w fun v u' => ∃ i j : IL, v = SP i j ∧ IntN u' i (a - 1) (K + 3) ∧ IntN u' j (b + 1) (K + 3)) := by
 refine zzl (args := [.agg #[.bool i.s, i.m.v, .bool j.s, j.m.v]]) Tryz.func232 rfl Tryz.ntmps232 (rs := [.cell 2 160]) Tryz.results232 (le_b rfl) (le_b rfl) d ?_
 refine sq9 (zzj 1 ⟨160, i.cs ++ j.cs⟩ (zzj 2 ⟨160, [.bool false, .slice none 0 0, .bool false, .slice none 0 0]⟩ (zzb (sq9 (zzg 4 160 _ fun _ _ aj ak => Post.mono (k_intOf ak (z := 1) xq xq) ?_)))))
 rintro _ u14 af ⟨ae, rfl, ag⟩
 refine zzj 3 ⟨24, [.bool false, .slice none 0 0]⟩ (zzi ⟨24, ae.cs⟩ ty24 ?_)
 refine zzb (zzd (zzy [0, 1, 0, 7, 0, 16, 0, 127, 255, 511] [(0, []), (1, []), (2, []), (4, []), (5, []), (6, []), (3, []), (7, []), (8, []), (9, [])] xj xj (zza 5 (.adr 1 0) (zzh 6 (.v (i.v)) ty24 zze (zzh 7 (.v (ae.v)) ty24 zze (zza 9 (.adr 1 2) (zzh 10 (.v (j.v)) ty24 zze (zzh 11 (.v (ae.v)) ty24 zze (zzg 8 233 _ fun _ _ ac am => Post.mono (k_intSub am (hi.ext (aj.trans (af.ext.trans ac))).raw (ag.ext ac).raw xq xq) ?_)))))))))
 rintro _ u20 ai ⟨aa, rfl, ao⟩
 refine zzg 12 159 _ fun _ _ ad al => Post.mono (k_intAdd al (hj.ext (aj.trans (af.ext.trans (ac.trans (ai.ext.trans ad))))).raw (ag.ext (ac.trans (ai.ext.trans ad))).raw xq xq) ?_
 rintro _ u26 an ⟨ab, rfl, ap⟩
 refine zza 13 (.v (.agg #[.bool aa.s, aa.m.v, .bool ab.s, ab.m.v])) (zzi ⟨160, aa.cs ++ ab.cs⟩ ty160 ?_)
 refine zzb (zzn (ret0 [.agg #[.bool aa.s, aa.m.v, .bool ab.s, ab.m.v]] ⟨zzq ty160 zze, trivial⟩ fun u29 ah => ?_))
 refine ⟨aa, ab, rfl, IntN.more (K := (max K 2 + 1)) ?_ xq, IntN.more (K := (max K 2 + 1)) ?_ xq⟩
 ·exact (ao.ext (ad.trans (an.ext.trans ah)))
 exact (ap.ext ah)
theorem k_eTiny {u w : World} {i j : IL} {a b : Int} {K : Nat}  (d : Dat u w) (hi : IntN u i a K) (hj : IntN u j b K)  (hK : K ≤ 1000000)  : Calls Tryz.prog 231 #[SP i j] w (Post u w fun v u' => v = .bool (decide (b ≤ 1))) := by
 refine zzl (args := [.agg #[.bool i.s, i.m.v, .bool j.s, j.m.v]]) Tryz.func231 rfl Tryz.ntmps231 (rs := [.tmp 2]) Tryz.results231 (le_b rfl) (le_b rfl) d ?_
 refine sq9 (zzj 1 ⟨160, i.cs ++ j.cs⟩ (zza 2 (zB false) (zzb (zzd (zzy [0, 1, 0, 7, 15, 31] [(0, []), (1, []), (2, []), (3, []), (4, []), (5, [])] xj xj (zza 3 (.adr 1 2) (zzh 4 (.v (j.v)) ty24 zze (zzg 5 160 _ fun _ _ ad af => Post.mono (k_intOf af (z := 1) xq xq) ?_))))))))
 rintro _ u14 ae ⟨i12, rfl, ab⟩
 refine zzg 6 181 _ fun _ _ aa ac => Post.mono (k_intCompare ac (hj.ext (ad.trans (ae.ext.trans aa))).raw (ab.ext aa).raw) ?_
 rintro _ u18 g19 rfl
 refine zza 7 (zB (decide ((Nt.cmpS b 1) ≤ 0))) (zza 2 (zB (decide ((Nt.cmpS b 1) ≤ 0))) (zzb (zzn (ret0 [.bool (decide ((Nt.cmpS b 1) ≤ 0))] ⟨zzp, trivial⟩ fun u21 e22 => ?_))))
 show Value.bool _ = Value.bool _
 rw [Nt.cmp_le]
set_option maxHeartbeats 4000000 in
theorem k_arctan {u w : World} {n k : Nat} (d : Dat u w) (hn : 2 ≤ n) (hn2 : n ≤ 1000) (hk : k ≤ 800) : Calls Tryz.prog 182 #[.int .i64 (n : Int), .int .i64 (k : Int)] w (Post u w fun v u' => ∃ (i j : IL) (a b : Int), v = SP i j ∧ IntN u' i a 42 ∧ IntN u' j b 42 ∧ Nt.AtR n k a b) := by
 have hN2 : 4 ≤ n * n := Nat.mul_le_mul hn hn
 have hN3 : n * n ≤ 1000000 := Nat.mul_le_mul hn2 hn2
 have hnn : -9223372036854775808 ≤ (n : Int) * (n : Int) ∧ (n : Int) * (n : Int) ≤ 9223372036854775807 := by rw [← Int.natCast_mul]; omega
 have hbig := Nt.big hk
 have hu2 := Nt.u2_pos k
 refine zzl (args := [.int .i64 n, .int .i64 k]) Tryz.func182 rfl Tryz.ntmps182 (rs := [.cell 4 160]) Tryz.results182 (le_b rfl) (le_b rfl) d ?_
 refine sq9 (zzj 4 ⟨160, [.bool false, .slice none 0 0, .bool false, .slice none 0 0]⟩ (zzb (sq9 (zza 9 (zI k) (zzg 10 161 _ fun _ _ _ a5 => Post.mono (k_eUnit (k := k) a5 xq) ?_)))))
 rintro _ u14 g15 ⟨i12, rfl, aX⟩
 refine zza 11 (zI n) (zzg 12 160 _ fun _ _ aU be => Post.mono (k_intOf be (z := (n : Int)) xq xq) ?_)
 rintro _ u20 a3 ⟨i18, rfl, bg⟩
 refine zzg 13 228 _ fun _ _ aP bq => Post.mono (k_eOver bq (aX.ext (aU.trans (a3.ext.trans aP))) (aX.ext (aU.trans (a3.ext.trans aP))) (bg.ext aP) xq xq xq) ?_
 rintro _ bs g29 ⟨aA, aB, rfl, aV, aR⟩
 refine zzj 5 ⟨160, [.bool false, .slice none 0 0, .bool false, .slice none 0 0]⟩ (zzi ⟨160, aA.cs ++ aB.cs⟩ ty160 ?_)
 refine zzb (sq9 (zzh 14 (.v (.agg #[.bool aA.s, aA.m.v, .bool aB.s, aB.m.v])) ty160 zze (zzj 6 ⟨160, [.bool false, .slice none 0 0, .bool false, .slice none 0 0]⟩ (zzi ⟨160, aA.cs ++ aB.cs⟩ ty160 ?_))))
 refine zzb (sq9 (zza 7 (zI 3) (zzb (zzs (zym (I := fun a0 S' u' => ∃ (j : Nat) (x1 : IL) (x2 : IL) (y1 : IL) (y2 : IL) (a : Int) (b : Int) (cc : Int) (dd : Int), (a0 = b.toNat) ∧ (Nt.AtI n k j a b cc dd) ∧ (S' = St.of 40 [(0, zI n), (4, .adr 4 0), (5, .adr 5 0), (6, .adr 6 0), (7, zI (2 * j + 3 : Nat))] [(4, ⟨160, [.bool false, .slice none 0 0, .bool false, .slice none 0 0]⟩), (5, ⟨160, x1.cs ++ x2.cs⟩), (6, ⟨160, y1.cs ++ y2.cs⟩)]) ∧ (Ext bs u') ∧ (IntN u' x1 a 40) ∧ (IntN u' x2 b 40) ∧ (IntN u' y1 cc 40) ∧ (IntN u' y2 dd 40)) (fun m S u1 u2 e h => by obtain ⟨j, x1, x2, y1, y2, a, b, cc, dd, hm, p0, hS, hE, f0, f1, f2, f3⟩ := h; exact ⟨j, x1, x2, y1, y2, a, b, cc, dd, hm, p0, hS, hE.trans e, f0.ext e, f1.ext e, f2.ext e, f3.ext e⟩) _ yz ⟨0, aA, aB, aA, aB, ((Nt.u2 k) / (n : Int)), (Nt.cdiv (Nt.u2 k) (n : Int)), ((Nt.u2 k) / (n : Int)), (Nt.cdiv (Nt.u2 k) (n : Int)), rfl, (Nt.AtI.start xq), rfl, (Ext.refl _), (IntN.lim aV (by have h8 := (Nt.AtI.start (n := n) (w := k) xq).bd xq; omega) (by have h8 := (Nt.AtI.start (n := n) (w := k) xq).bd xq; omega)), (IntN.lim aR (by have h8 := (Nt.AtI.start (n := n) (w := k) xq).bd xq; have h9 := (Nt.AtI.start (n := n) (w := k) xq).p1; omega) (by have h8 := (Nt.AtI.start (n := n) (w := k) xq).bd xq; omega)), (IntN.lim aV (by have h8 := (Nt.AtI.start (n := n) (w := k) xq).bd xq; omega) (by have h8 := (Nt.AtI.start (n := n) (w := k) xq).bd xq; omega)), (IntN.lim aR (by have h8 := (Nt.AtI.start (n := n) (w := k) xq).bd xq; have h9 := (Nt.AtI.start (n := n) (w := k) xq).p1; omega) (by have h8 := (Nt.AtI.start (n := n) (w := k) xq).bd xq; omega))⟩ ?_)))))
 rintro a0 _ u31 ⟨j, x1, x2, y1, y2, a, b, cc, dd, bn, hI, rfl, aS, f0, f1, f2, f3⟩
 have hjw := hI.jw
 refine zzd (zzs (zzd (zzy [0, 0, 0, 6, 14, 31, 63] [(0, []), (1, []), (2, []), (3, []), (4, []), (5, []), (6, [])] xj xj (zzh 17 (.v (.agg #[.bool x1.s, x1.m.v, .bool x2.s, x2.m.v])) ty160 zze (zza 18 (zI n) (zza 19 (zI n) (zyp 20 (x := zI (IntKind.i64.wrap ((n : Int) * (n : Int)))) (zI (((n * n : Nat) : Int))) (by rw [show (IntKind.i64.wrap ((n : Int) * (n : Int))) = ((n * n : Nat) : Int) from (by rw [IntWalk.i64_in _ hnn]; rfl)]) (zzg 21 160 _ fun _ _ ar bf => Post.mono (k_intOf bf (z := ((n * n : Nat) : Int)) xq xq) ?_))))))))
 rintro _ u35 aq ⟨i33, rfl, bj⟩
 refine zzg 22 228 _ fun _ _ ak bb => Post.mono (k_eOver bb (f0.ext (ar.trans (aq.ext.trans ak))) (f1.ext (ar.trans (aq.ext.trans ak))) (bj.ext ak) xq xq xq) ?_
 rintro _ u43 az ⟨ay, au, rfl, aO, aN⟩
 refine zzi ⟨160, ay.cs ++ au.cs⟩ ty160 ?_
 refine zzb (zzd (zzy [0, 0, 2, 7, 0, 31] [(0, []), (1, []), (4, []), (2, []), (3, []), (5, [])] xj xj (zzh 23 (.v (.agg #[.bool ay.s, ay.m.v, .bool au.s, au.m.v])) ty160 zze (zza 24 (zI (2 * j + 3 : Nat)) (zzj 8 ⟨160, [.bool false, .slice none 0 0, .bool false, .slice none 0 0]⟩ (zzg 25 160 _ fun _ _ ac bc => Post.mono (k_intOf bc (z := ((2 * j + 3 : Nat) : Int)) xq xq) ?_))))))
 rintro _ u49 ad ⟨i47, rfl, a8⟩
 refine zzg 26 228 _ fun _ _ ab bm => Post.mono (k_eOver bm (aO.ext (ac.trans (ad.ext.trans ab))) (aN.ext (ac.trans (ad.ext.trans ab))) (a8.ext ab) xq xq xq) ?_
 rintro _ u57 aj ⟨ae, ai, rfl, aJ, aM⟩
 refine zzi ⟨160, ae.cs ++ ai.cs⟩ ty160 ?_
 refine zzb (zzd (sq9 (zza 27 (zI (2 * j + 3 : Nat)) (zza 28 (zI (Int.tmod ((2 * j + 3 : Nat) : Int) 4)) (zza 29 (zB ((Int.tmod ((2 * j + 3 : Nat) : Int) 4) == 3)) (zzb (zzt (b := (Int.tmod ((2 * j + 3 : Nat) : Int) 4) == 3) xj (fun aw => ?_) (fun aw => ?_))))))))
 ·have af : Int.tmod ((2 * j + 3 : Nat) : Int) 4 = ((2 * j + 3 : Nat) : Int) % 4 := Int.tmod_eq_emod_of_nonneg xq
  have aa :  j % 2 = 0 := by have h9 := aw; rw [af] at h9; simp at h9; omega
  refine zzf (zzh 30 (.v (.agg #[.bool y1.s, y1.m.v, .bool y2.s, y2.m.v])) ty160 zze (zzh 31 (.v (.agg #[.bool ae.s, ae.m.v, .bool ai.s, ai.m.v])) ty160 zze (zzg 32 184 _ fun _ _ al bl => Post.mono (k_eSub bl (f2.ext (ar.trans (aq.ext.trans (ak.trans (az.ext.trans (ac.trans (ad.ext.trans (ab.trans (aj.ext.trans al))))))))) (f3.ext (ar.trans (aq.ext.trans (ak.trans (az.ext.trans (ac.trans (ad.ext.trans (ab.trans (aj.ext.trans al))))))))) (aJ.ext al) (aM.ext al) xq xq) ?_)))
  rintro _ u66 aF ⟨aH, i64, rfl, aZ, a4⟩
  refine zzi ⟨160, aH.cs ++ i64.cs⟩ ty160 ?_
  refine zzc 40 [(0, zI n), (4, .adr 4 0), (5, .adr 5 0), (6, .adr 6 0), (7, zI (2 * j + 3 : Nat)), (8, .adr 8 0)] [(4, ⟨160, [.bool false, .slice none 0 0, .bool false, .slice none 0 0]⟩), (5, ⟨160, ay.cs ++ au.cs⟩), (6, ⟨160, aH.cs ++ i64.cs⟩), (8, ⟨160, ae.cs ++ ai.cs⟩)] (sq9 (zzh 36 (.v (.agg #[.bool ae.s, ae.m.v, .bool ai.s, ai.m.v])) ty160 zze (zzg 37 231 _ fun _ _ am bh => Post.mono (k_eTiny bh (aJ.ext (al.trans (aF.ext.trans am))) (aM.ext (al.trans (aF.ext.trans am))) xq) ?_)))
  rintro _ u70 ax rfl
  refine zzb (zzt (b := decide ((Nt.cdiv (Nt.cdiv b ((n * n : Nat) : Int)) ((2 * j + 3 : Nat) : Int)) ≤ 1)) xj (fun ah => ?_) (fun ah => ?_))
  ·have qhb73 := of_decide_eq_true ah
   refine sq9 (zzh 38 (.v (.agg #[.bool aH.s, aH.m.v, .bool i64.s, i64.m.v])) ty160 zze (zzg 39 232 _ fun _ _ aY bo => Post.mono (k_eWider bo (aZ.ext (am.trans (ax.ext.trans aY))) (a4.ext (am.trans (ax.ext.trans aY))) xq) ?_))
   rintro _ u79 g80 ⟨aI, aL, rfl, bi, bk⟩
   refine zzi ⟨160, aI.cs ++ aL.cs⟩ ty160 ?_
   refine zzb (zzn (zyt (zzv (zys (zyt (ret0 [.agg #[.bool aI.s, aI.m.v, .bool aL.s, aL.m.v]] ⟨zzq ty160 zze, trivial⟩ fun u82 a1 => ?_))))))
   have ho := hI.out xq (of_decide_eq_true ah) (hI.sub xq aa) (by have h9 := hI.tw xq; omega)
   have hob := Nt.atR_bd ho xq
   exact ⟨aI, aL, _, _, rfl, IntN.lim2 (bi.ext a1) xq xq, IntN.lim2 (bk.ext a1) xq xq, ho⟩
  have qhb73 := of_decide_eq_false ah
  refine zzr (zzo ?_)
  refine zzf (zza 15 (zI (2 * j + 3 : Nat)) (zyp 16 (x := zI (IntKind.i64.wrap (((2 * j + 3 : Nat) : Int) + 2))) (zI (((2 * j + 3) + 2 : Nat) : Int)) (eqI xk) (zza 7 (zI (((2 * j + 3) + 2 : Nat) : Int)) (zzw ?_))))
  have hgo := hI.go xq (by have h9 := of_decide_eq_false ah; omega) (hI.sub xq aa) (by have h9 := hI.tw xq; omega)
  have hb := hgo.1.bd xq
  have hp0 := hgo.1.p0
  have hp1 := hgo.1.p1
  have hple := hgo.1.p.le
  have hpp := hI.p1
  refine ⟨_, ?_, _, by exact zzu _ _ _, j + 1, ay, au, aH, i64, (a / ((n * n : Nat) : Int)), (Nt.cdiv b ((n * n : Nat) : Int)), (cc - (Nt.cdiv (Nt.cdiv b ((n * n : Nat) : Int)) ((2 * j + 3 : Nat) : Int))), (dd - ((a / ((n * n : Nat) : Int)) / ((2 * j + 3 : Nat) : Int))), rfl, hgo.1, rfl, (aS.trans (ar.trans (aq.ext.trans (ak.trans (az.ext.trans (ac.trans (ad.ext.trans (ab.trans (aj.ext.trans (al.trans (aF.ext.trans (am.trans ax.ext)))))))))))), (IntN.lim (aO.ext (ac.trans (ad.ext.trans (ab.trans (aj.ext.trans (al.trans (aF.ext.trans (am.trans ax.ext)))))))) xq xq), (IntN.lim (aN.ext (ac.trans (ad.ext.trans (ab.trans (aj.ext.trans (al.trans (aF.ext.trans (am.trans ax.ext)))))))) xq xq), (IntN.lim (aZ.ext (am.trans ax.ext)) xq xq), (IntN.lim (a4.ext (am.trans ax.ext)) xq xq)⟩
  omega
 have af : Int.tmod ((2 * j + 3 : Nat) : Int) 4 = ((2 * j + 3 : Nat) : Int) % 4 := Int.tmod_eq_emod_of_nonneg xq
 have aa : ¬ j % 2 = 0 := by have h9 := aw; rw [af] at h9; simp at h9; omega
 refine zzf (zzh 33 (.v (.agg #[.bool y1.s, y1.m.v, .bool y2.s, y2.m.v])) ty160 zze (zzh 34 (.v (.agg #[.bool ae.s, ae.m.v, .bool ai.s, ai.m.v])) ty160 zze (zzg 35 230 _ fun _ _ an bt => Post.mono (k_eAdd bt (f2.ext (ar.trans (aq.ext.trans (ak.trans (az.ext.trans (ac.trans (ad.ext.trans (ab.trans (aj.ext.trans an))))))))) (f3.ext (ar.trans (aq.ext.trans (ak.trans (az.ext.trans (ac.trans (ad.ext.trans (ab.trans (aj.ext.trans an))))))))) (aJ.ext an) (aM.ext an) xq xq) ?_)))
 rintro _ u89 aG ⟨aE, aC, rfl, aW, a2⟩
 refine zzi ⟨160, aE.cs ++ aC.cs⟩ ty160 ?_
 refine zzc 40 [(0, zI n), (4, .adr 4 0), (5, .adr 5 0), (6, .adr 6 0), (7, zI (2 * j + 3 : Nat)), (8, .adr 8 0)] [(4, ⟨160, [.bool false, .slice none 0 0, .bool false, .slice none 0 0]⟩), (5, ⟨160, ay.cs ++ au.cs⟩), (6, ⟨160, aE.cs ++ aC.cs⟩), (8, ⟨160, ae.cs ++ ai.cs⟩)] (sq9 (zzh 36 (.v (.agg #[.bool ae.s, ae.m.v, .bool ai.s, ai.m.v])) ty160 zze (zzg 37 231 _ fun _ _ ap ba => Post.mono (k_eTiny ba (aJ.ext (an.trans (aG.ext.trans ap))) (aM.ext (an.trans (aG.ext.trans ap))) xq) ?_)))
 rintro _ u93 av rfl
 refine zzb (zzt (b := decide ((Nt.cdiv (Nt.cdiv b ((n * n : Nat) : Int)) ((2 * j + 3 : Nat) : Int)) ≤ 1)) xj (fun ag => ?_) (fun ag => ?_))
 ·have qhb96 := of_decide_eq_true ag
  refine sq9 (zzh 38 (.v (.agg #[.bool aE.s, aE.m.v, .bool aC.s, aC.m.v])) ty160 zze (zzg 39 232 _ fun _ _ aT br => Post.mono (k_eWider br (aW.ext (ap.trans (av.ext.trans aT))) (a2.ext (ap.trans (av.ext.trans aT))) xq) ?_))
  rintro _ a7 a6 ⟨aK, ao, rfl, a9, aQ⟩
  refine zzi ⟨160, aK.cs ++ ao.cs⟩ ty160 ?_
  refine zzb (zzn (zyt (zzv (zys (zyt (ret0 [.agg #[.bool aK.s, aK.m.v, .bool ao.s, ao.m.v]] ⟨zzq ty160 zze, trivial⟩ fun bp aD => ?_))))))
  have ho := hI.out xq (of_decide_eq_true ag) (hI.add xq aa) (by have h9 := hI.tw xq; omega)
  have hob := Nt.atR_bd ho xq
  exact ⟨aK, ao, _, _, rfl, IntN.lim2 (a9.ext aD) xq xq, IntN.lim2 (aQ.ext aD) xq xq, ho⟩
 have qhb96 := of_decide_eq_false ag
 refine zzr (zzo ?_)
 refine zzf (zza 15 (zI (2 * j + 3 : Nat)) (zyp 16 (x := zI (IntKind.i64.wrap (((2 * j + 3 : Nat) : Int) + 2))) (zI (((2 * j + 3) + 2 : Nat) : Int)) (eqI xk) (zza 7 (zI (((2 * j + 3) + 2 : Nat) : Int)) (zzw ?_))))
 have hgo := hI.go xq (by have h9 := of_decide_eq_false ag; omega) (hI.add xq aa) (by have h9 := hI.tw xq; omega)
 have hb := hgo.1.bd xq
 have hp0 := hgo.1.p0
 have hp1 := hgo.1.p1
 have hple := hgo.1.p.le
 have hpp := hI.p1
 refine ⟨_, ?_, _, by exact zzu _ _ _, j + 1, ay, au, aE, aC, (a / ((n * n : Nat) : Int)), (Nt.cdiv b ((n * n : Nat) : Int)), (cc + ((a / ((n * n : Nat) : Int)) / ((2 * j + 3 : Nat) : Int))), (dd + (Nt.cdiv (Nt.cdiv b ((n * n : Nat) : Int)) ((2 * j + 3 : Nat) : Int))), rfl, hgo.1, rfl, (aS.trans (ar.trans (aq.ext.trans (ak.trans (az.ext.trans (ac.trans (ad.ext.trans (ab.trans (aj.ext.trans (an.trans (aG.ext.trans (ap.trans av.ext)))))))))))), (IntN.lim (aO.ext (ac.trans (ad.ext.trans (ab.trans (aj.ext.trans (an.trans (aG.ext.trans (ap.trans av.ext)))))))) xq xq), (IntN.lim (aN.ext (ac.trans (ad.ext.trans (ab.trans (aj.ext.trans (an.trans (aG.ext.trans (ap.trans av.ext)))))))) xq xq), (IntN.lim (aW.ext (ap.trans av.ext)) xq xq), (IntN.lim (a2.ext (ap.trans av.ext)) xq xq)⟩
 omega
set_option maxHeartbeats 1000000 in
theorem k_ePi {u w : World} {k : Nat} (d : Dat u w) (hk0 : 16 ≤ k) (hk : k ≤ 800) : Calls Tryz.prog 102 #[.int .i64 (k : Int)] w (Post u w fun v u' => ∃ (i j : IL) (a b : Int), v = SP i j ∧ IntN u' i a 42 ∧ IntN u' j b 42 ∧ Nt.PiR k a b) := by
 have hbig := Nt.big hk
 have hu2 := Nt.u2_pos k
 refine zzl (args := [.int .i64 k]) Tryz.func102 rfl Tryz.ntmps102 (rs := [.cell 2 160]) Tryz.results102 (le_b rfl) (le_b rfl) d ?_
 refine sq9 (zzj 2 ⟨160, [.bool false, .slice none 0 0, .bool false, .slice none 0 0]⟩ (zzb (sq9 (zza 3 (zI k) (zzg 4 182 _ fun _ _ _ ar => Post.mono (k_arctan ar (n := 5) (k := k) xq xq xq) ?_)))))
 rintro _ u13 g14 ⟨aC, aD, aB, aA, rfl, ae, ah, ag⟩
 refine zzg 5 183 _ fun _ _ al aF => Post.mono (k_eTimes aF (ae.ext al) (ah.ext al) (n9 := 16) xq xq) ?_
 rintro _ u21 g22 ⟨i17, i19, rfl, aI, ay⟩
 refine zza 6 (zI k) (zzg 7 182 _ fun _ _ ao ax => Post.mono (k_arctan ax (n := 239) (k := k) xq xq xq) ?_)
 rintro _ u26 an ⟨au, az, aJ, aq, rfl, aj, af, ai⟩
 refine zzg 8 183 _ fun _ _ ac ap => Post.mono (k_eTimes ap (aj.ext ac) (af.ext ac) (n9 := 4) xq xq) ?_
 rintro _ u34 am ⟨i30, i32, rfl, aH, av⟩
 refine zzg 9 184 _ fun _ _ aa aw => Post.mono (k_eSub aw (aI.ext (ao.trans (an.ext.trans (ac.trans (am.ext.trans aa))))) (ay.ext (ao.trans (an.ext.trans (ac.trans (am.ext.trans aa))))) (aH.ext aa) (av.ext aa) xq xq) ?_
 rintro _ u42 g43 ⟨ad, ab, rfl, aG, aE⟩
 refine zzi ⟨160, ad.cs ++ ab.cs⟩ ty160 ?_
 refine zzb (zzn (ret0 [.agg #[.bool ad.s, ad.m.v, .bool ab.s, ab.m.v]] ⟨zzq ty160 zze, trivial⟩ fun u45 ak => ?_))
 have hP := Nt.PiR.of ag ai
 have hb9 := hP.bd hk0
 exact ⟨ad, ab, _, _, rfl, IntN.lim2 (aG.ext ak) xq xq, IntN.lim2 (aE.ext ak) xq xq, hP⟩
set_option maxHeartbeats 4000000 in
theorem k_cosineOf {u w : World} {p q k : Nat} (d : Dat u w) (hq0 : 0 < q) (hq : q ≤ 100000) (hp : 2 * p ≤ q) (hp1 : 1 ≤ p) (hk0 : 16 ≤ k) (hk : k ≤ 800) : Calls Tryz.prog 179 #[.int .i64 (p : Int), .int .i64 (q : Int), .int .i64 (k : Int)] w (Post u w fun v u' => ∃ (i j : IL) (a b : Int), v = SP i j ∧ IntN u' i a 42 ∧ IntN u' j b 42 ∧ Nt.CsR p q k a b) := by
 have hbig := Nt.big hk
 have hu2 := Nt.u2_pos k
 refine zzl (args := [.int .i64 p, .int .i64 q, .int .i64 k]) Tryz.func179 rfl Tryz.ntmps179 (rs := [.cell 6 160]) Tryz.results179 (le_b rfl) (le_b rfl) d ?_
 refine sq9 (zzj 6 ⟨160, [.bool false, .slice none 0 0, .bool false, .slice none 0 0]⟩ (zzb (sq9 (zza 12 (zI k) (zzg 13 102 _ fun _ _ _ bk => Post.mono (k_ePi bk (k := k) xq xq) ?_)))))
 rintro _ u13 g14 ⟨bB, bC, ap, ar, rfl, a1, aY, a4⟩
 refine zza 14 (zI p) (zzg 15 183 _ fun _ _ a7 bD => Post.mono (k_eTimes bD (a1.ext a7) (aY.ext a7) (n9 := p) xq xq) ?_)
 rintro _ u21 g22 ⟨i17, i19, rfl, bS, bo⟩
 refine zza 16 (zI q) (zzg 17 160 _ fun _ _ be bz => Post.mono (k_intOf bz (z := (q : Int)) xq xq) ?_)
 rintro _ u27 bh ⟨i25, rfl, bK⟩
 refine zzg 18 228 _ fun _ _ a5 bH => Post.mono (k_eOver bH (bS.ext (be.trans (bh.ext.trans a5))) (bo.ext (be.trans (bh.ext.trans a5))) (bK.ext a5) xq xq xq) ?_
 rintro _ u35 g36 ⟨aK, aO, rfl, a8, bb⟩
 refine zzj 7 ⟨160, [.bool false, .slice none 0 0, .bool false, .slice none 0 0]⟩ (zzi ⟨160, aK.cs ++ aO.cs⟩ ty160 ?_)
 refine zzb (zzd ?_)
 have hY : Nt.CsY p q k ((ap * ((p : Nat) : Int)) / (q : Int)) (Nt.cdiv (ar * ((p : Nat) : Int)) (q : Int)) := Nt.CsY.of a4 hk0 hq0 hp hp1
 refine zzf (zzh 19 (.v (.agg #[.bool aK.s, aK.m.v, .bool aO.s, aO.m.v])) ty160 zze (zzh 20 (.v (.agg #[.bool aK.s, aK.m.v, .bool aO.s, aO.m.v])) ty160 zze (zza 21 (zI k) (zzg 22 229 _ fun _ _ aU bs => Post.mono (k_eProd (p := k) bs (a8.ext aU) (bb.ext aU) (a8.ext aU) (bb.ext aU) xq xq xq) ?_))))
 rintro _ u43 g44 ⟨aQ, aM, rfl, bn, bl⟩
 refine zzj 8 ⟨160, [.bool false, .slice none 0 0, .bool false, .slice none 0 0]⟩ (zzi ⟨160, aQ.cs ++ aM.cs⟩ ty160 ?_)
 refine zzb (zzd ?_)
 have hQ : Nt.CsQ p q k (((ap * ((p : Nat) : Int)) / (q : Int)) * ((ap * ((p : Nat) : Int)) / (q : Int)) / Nt.u2 k) (Nt.cdiv ((Nt.cdiv (ar * ((p : Nat) : Int)) (q : Int)) * (Nt.cdiv (ar * ((p : Nat) : Int)) (q : Int))) (Nt.u2 k)) := Nt.CsQ.of hY
 obtain ⟨_, bf, bA, bM, a9, bp⟩ := id hQ
 obtain ⟨ql, hql⟩ : ∃ z : Int, (((ap * ((p : Nat) : Int)) / (q : Int)) * ((ap * ((p : Nat) : Int)) / (q : Int)) / Nt.u2 k) = z := ⟨_, rfl⟩
 obtain ⟨qh, hqh⟩ : ∃ z : Int, (Nt.cdiv ((Nt.cdiv (ar * ((p : Nat) : Int)) (q : Int)) * (Nt.cdiv (ar * ((p : Nat) : Int)) (q : Int))) (Nt.u2 k)) = z := ⟨_, rfl⟩
 have hs46 := bn
 have hs47 := bl
 rw [hql] at hQ bf bA a9 hs46
 rw [hqh] at hQ bf bM a9 bp hs47
 have hs48 := IntN.lim2 hs46 xq xq
 have hs49 := IntN.lim2 hs47 xq xq
 refine zzf (zza 23 (zI k) (zzg 24 161 _ fun _ _ bg bI => Post.mono (k_eUnit (k := k) bI xq) ?_))
 rintro _ bE bi ⟨aj, rfl, aV⟩
 refine zzj 9 ⟨160, [.bool false, .slice none 0 0, .bool false, .slice none 0 0]⟩ (zzi ⟨160, aj.cs ++ aj.cs⟩ ty160 ?_)
 refine zzb (sq9 (zzh 25 (.v (.agg #[.bool aj.s, aj.m.v, .bool aj.s, aj.m.v])) ty160 zze (zzj 10 ⟨160, [.bool false, .slice none 0 0, .bool false, .slice none 0 0]⟩ (zzi ⟨160, aj.cs ++ aj.cs⟩ ty160 ?_))))
 refine zzb (sq9 (zza 11 (zI 2) (zzb (zzs (zym (I := fun ba S' u' => ∃ (j : Nat) (x1 : IL) (x2 : IL) (y1 : IL) (y2 : IL) (tl : Int) (th : Int) (sl : Int) (sh : Int), (ba = Nt.csM k j th) ∧ (Nt.CsI p q k j tl th sl sh) ∧ (S' = St.of 55 [(2, zI k), (6, .adr 6 0), (8, .adr 8 0), (9, .adr 9 0), (10, .adr 10 0), (11, zI (2 * j + 2 : Nat))] [(6, ⟨160, [.bool false, .slice none 0 0, .bool false, .slice none 0 0]⟩), (8, ⟨160, aQ.cs ++ aM.cs⟩), (9, ⟨160, x1.cs ++ x2.cs⟩), (10, ⟨160, y1.cs ++ y2.cs⟩)]) ∧ (Ext bE u') ∧ (IntN u' x1 tl 42) ∧ (IntN u' x2 th 42) ∧ (IntN u' y1 sl 42) ∧ (IntN u' y2 sh 42)) (fun m S u1 u2 e h => by obtain ⟨j, x1, x2, y1, y2, tl, th, sl, sh, hm, p0, hS, hE, f0, f1, f2, f3⟩ := h; exact ⟨j, x1, x2, y1, y2, tl, th, sl, sh, hm, p0, hS, hE.trans e, f0.ext e, f1.ext e, f2.ext e, f3.ext e⟩) _ yz ⟨0, aj, aj, aj, aj, (Nt.u2 k), (Nt.u2 k), (Nt.u2 k), (Nt.u2 k), rfl, Nt.CsI.start, rfl, (Ext.refl _), (IntN.lim2 aV xq xq), (IntN.lim2 aV xq xq), (IntN.lim2 aV xq xq), (IntN.lim2 aV xq xq)⟩ ?_)))))
 rintro ba _ u56 ⟨j, x1, x2, y1, y2, tl, th, sl, sh, bx, hI, rfl, aI, f0, f1, f2, f3⟩
 have hjw := hI.c.jw
 have hD1 := Nt.coD_pos j
 have hD2 := Nt.coD_mul (j := j) xq
 refine zzd (zzs (sq9 (zzh 28 (.v (.agg #[.bool x1.s, x1.m.v, .bool x2.s, x2.m.v])) ty160 zze (zzh 29 (.v (.agg #[.bool aQ.s, aQ.m.v, .bool aM.s, aM.m.v])) ty160 zze (zza 30 (zI k) (zzg 31 229 _ fun _ _ ak bu => Post.mono (k_eProd (p := k) bu (f0.ext ak) (f1.ext ak) (hs48.ext (bg.trans (bi.ext.trans (aI.trans ak)))) (hs49.ext (bg.trans (bi.ext.trans (aI.trans ak)))) xq xq xq) ?_))))))
 rintro _ u62 aB ⟨i58, i60, rfl, bQ, bO⟩
 refine zza 32 (zI (2 * j + 2 : Nat)) (zza 33 (zI (2 * j + 2 : Nat)) (zyp 34 (x := zI (IntKind.i64.wrap (((2 * j + 2 : Nat) : Int) - 1))) (zI (((2 * j + 2) - 1 : Nat) : Int)) (eqI xk) (zqI 35 (show (IntKind.i64.wrap (((2 * j + 2 : Nat) : Int) * ((2 * j + 2 - 1 : Nat) : Int))) = (Nt.coD j) from hD2.1) (zzg 36 160 _ fun _ _ au bv => Post.mono (k_intOf bv (z := (Nt.coD j)) xq xq) ?_))))
 rintro _ u68 av ⟨i66, rfl, bw⟩
 refine zzg 37 228 _ fun _ _ aq bt => Post.mono (k_eOver bt (bQ.ext (au.trans (av.ext.trans aq))) (bO.ext (au.trans (av.ext.trans aq))) (bw.ext aq) xq xq xq) ?_
 rintro _ u76 aD ⟨ah, ag, rfl, aA, az⟩
 refine zzi ⟨160, ah.cs ++ ag.cs⟩ ty160 ?_
 refine zzc 55 [(2, zI k), (6, .adr 6 0), (8, .adr 8 0), (9, .adr 9 0), (10, .adr 10 0), (11, zI (2 * j + 2 : Nat))] [(6, ⟨160, [.bool false, .slice none 0 0, .bool false, .slice none 0 0]⟩), (8, ⟨160, aQ.cs ++ aM.cs⟩), (9, ⟨160, ah.cs ++ ag.cs⟩), (10, ⟨160, y1.cs ++ y2.cs⟩)] (zzd (sq9 (zza 38 (zI (2 * j + 2 : Nat)) (zza 39 (zI (Int.tmod ((2 * j + 2 : Nat) : Int) 4)) (zza 40 (zB ((Int.tmod ((2 * j + 2 : Nat) : Int) 4) == 2)) (zzb (zzt (b := (Int.tmod ((2 * j + 2 : Nat) : Int) 4) == 2) xj (fun aF => ?_) (fun aF => ?_))))))))
 ·have an : Int.tmod ((2 * j + 2 : Nat) : Int) 4 = ((2 * j + 2 : Nat) : Int) % 4 := Int.tmod_eq_emod_of_nonneg xq
  have aa :  j % 2 = 0 := by have h9 := aF; rw [an] at h9; simp at h9; omega
  refine zzf (zzh 41 (.v (.agg #[.bool y1.s, y1.m.v, .bool y2.s, y2.m.v])) ty160 zze (zzh 42 (.v (.agg #[.bool ah.s, ah.m.v, .bool ag.s, ag.m.v])) ty160 zze (zzg 43 184 _ fun _ _ ai bJ => Post.mono (k_eSub bJ (f2.ext (ak.trans (aB.ext.trans (au.trans (av.ext.trans (aq.trans (aD.ext.trans ai))))))) (f3.ext (ak.trans (aB.ext.trans (au.trans (av.ext.trans (aq.trans (aD.ext.trans ai))))))) (aA.ext ai) (az.ext ai) xq xq) ?_)))
  rintro _ u85 aC ⟨aR, aP, rfl, a6, aX⟩
  refine zzi ⟨160, aR.cs ++ aP.cs⟩ ty160 ?_
  refine zzb (sq9 (zza 47 (zI (2 * j + 2 : Nat)) (zza 48 (zB (decide ((4 : Int) ≤ ((2 * j + 2 : Nat) : Int)))) ?_)))
  rcases Bool.eq_false_or_eq_true (decide ((4 : Int) ≤ ((2 * j + 2 : Nat) : Int))) with hs88 | hs88
  ·refine zyp 49 (x := zB (decide ((4 : Int) ≤ ((2 * j + 2 : Nat) : Int)))) (zB true) (by rw [hs88]) ?_
   have qhs88 := of_decide_eq_true hs88
   refine zzh 50 (.v (.agg #[.bool ah.s, ah.m.v, .bool ag.s, ag.m.v])) ty160 zze ?_ (hw := w1 2 true 49)
   refine zzg 51 231 _ (fun _ _ ay bR => Post.mono (k_eTiny bR (aA.ext (ai.trans (aC.ext.trans ay))) (az.ext (ai.trans (aC.ext.trans ay))) xq) ?_) (hw := w1 2 true 49)
   rintro _ u90 aH rfl
   refine zza 52 (zB (decide ((Nt.cdiv (Nt.cdiv (th * qh) (Nt.u2 k)) (Nt.coD j)) ≤ 1))) (zzb (zzt (b := decide ((Nt.cdiv (Nt.cdiv (th * qh) (Nt.u2 k)) (Nt.coD j)) ≤ 1)) xj (fun ao => ?_) (fun ao => ?_)))
   ·have qhb93 := of_decide_eq_true ao
    refine sq9 (zzh 53 (.v (.agg #[.bool aR.s, aR.m.v, .bool aP.s, aP.m.v])) ty160 zze (zzg 54 232 _ fun _ _ bc br => Post.mono (k_eWider br (a6.ext (ay.trans (aH.ext.trans bc))) (aX.ext (ay.trans (aH.ext.trans bc))) xq) ?_))
    rintro _ u99 bG ⟨aT, aS, rfl, bT, bq⟩
    refine zzi ⟨160, aT.cs ++ aS.cs⟩ ty160 ?_
    refine zzb (zzn (zyt (zzv (zys (zyt (ret0 [.agg #[.bool aT.s, aT.m.v, .bool aS.s, aS.m.v]] ⟨zzq ty160 zze, trivial⟩ fun bm aN => ?_))))))
    have ho := hI.out hQ hq0 hp (by have h9 := of_decide_eq_true hs88; omega) (of_decide_eq_true ao) (sl' := (sl - (Nt.cdiv (Nt.cdiv (th * qh) (Nt.u2 k)) (Nt.coD j)))) (sh' := (sh - ((tl * ql / Nt.u2 k) / (Nt.coD j)))) (.inl ⟨aa, rfl, rfl⟩)
    have hob := Nt.csR_bd ho hq0 hp hk
    exact ⟨aT, aS, _, _, rfl, IntN.lim2 (bT.ext aN) xq xq, IntN.lim2 (bq.ext aN) xq xq, ho⟩
   have qhb93 := of_decide_eq_false ao
   refine zzr (zzo ?_)
   refine zzf (zza 26 (zI (2 * j + 2 : Nat)) (zyp 27 (x := zI (IntKind.i64.wrap (((2 * j + 2 : Nat) : Int) + 2))) (zI (((2 * j + 2) + 2 : Nat) : Int)) (eqI xk) (zza 11 (zI (((2 * j + 2) + 2 : Nat) : Int)) (zzw ?_))))
   have hgo := hI.go hQ (.inr (by have h9 : ¬ Nt.csH k j th qh ≤ 1 := of_decide_eq_false ao; omega)) (sl' := (sl - (Nt.cdiv (Nt.cdiv (th * qh) (Nt.u2 k)) (Nt.coD j)))) (sh' := (sh - ((tl * ql / Nt.u2 k) / (Nt.coD j)))) (.inl ⟨aa, rfl, rfl⟩)
   have hb9 := hgo.1.bd hq0 hp
   have hw9 := Nt.csW_le hk
   have ht0 := hgo.1.c.t0
   have ht1 := hgo.1.c.t1
   have htt := hgo.1.c.tt
   have ht2 := hgo.1.c.t2
   have hmm := hgo.2
   simp only [Nt.csL, Nt.csH] at ht0 ht1 htt ht2 hmm
   refine ⟨_, ?_, _, by exact zzu _ _ _, j + 1, ah, ag, aR, aP, ((tl * ql / Nt.u2 k) / (Nt.coD j)), (Nt.cdiv (Nt.cdiv (th * qh) (Nt.u2 k)) (Nt.coD j)), (sl - (Nt.cdiv (Nt.cdiv (th * qh) (Nt.u2 k)) (Nt.coD j))), (sh - ((tl * ql / Nt.u2 k) / (Nt.coD j))), rfl, hgo.1, rfl, (aI.trans (ak.trans (aB.ext.trans (au.trans (av.ext.trans (aq.trans (aD.ext.trans (ai.trans (aC.ext.trans (ay.trans aH.ext)))))))))), (IntN.lim2 (aA.ext (ai.trans (aC.ext.trans (ay.trans aH.ext)))) xq xq), (IntN.lim2 (az.ext (ai.trans (aC.ext.trans (ay.trans aH.ext)))) xq xq), (IntN.lim2 (a6.ext (ay.trans aH.ext)) xq xq), (IntN.lim2 (aX.ext (ay.trans aH.ext)) xq xq)⟩
   omega
  refine zyp 49 (x := zB (decide ((4 : Int) ≤ ((2 * j + 2 : Nat) : Int)))) (zB false) (by rw [hs88]) ?_
  have qhs88 := of_decide_eq_false hs88
  refine zzm 50 (uw 2 true false 49) (zzm 51 (uw 2 true false 49) (zza 52 (zB false) (zzb (zyr xj (zzr (zzo ?_))))))
  refine zzf (zza 26 (zI (2 * j + 2 : Nat)) (zyp 27 (x := zI (IntKind.i64.wrap (((2 * j + 2 : Nat) : Int) + 2))) (zI (((2 * j + 2) + 2 : Nat) : Int)) (eqI xk) (zza 11 (zI (((2 * j + 2) + 2 : Nat) : Int)) (zzw ?_))))
  have hgo := hI.go hQ (.inl (by have h9 := of_decide_eq_false hs88; omega)) (sl' := (sl - (Nt.cdiv (Nt.cdiv (th * qh) (Nt.u2 k)) (Nt.coD j)))) (sh' := (sh - ((tl * ql / Nt.u2 k) / (Nt.coD j)))) (.inl ⟨aa, rfl, rfl⟩)
  have hb9 := hgo.1.bd hq0 hp
  have hw9 := Nt.csW_le hk
  have ht0 := hgo.1.c.t0
  have ht1 := hgo.1.c.t1
  have htt := hgo.1.c.tt
  have ht2 := hgo.1.c.t2
  have hmm := hgo.2
  simp only [Nt.csL, Nt.csH] at ht0 ht1 htt ht2 hmm
  refine ⟨_, ?_, _, by exact zzu _ _ _, j + 1, ah, ag, aR, aP, ((tl * ql / Nt.u2 k) / (Nt.coD j)), (Nt.cdiv (Nt.cdiv (th * qh) (Nt.u2 k)) (Nt.coD j)), (sl - (Nt.cdiv (Nt.cdiv (th * qh) (Nt.u2 k)) (Nt.coD j))), (sh - ((tl * ql / Nt.u2 k) / (Nt.coD j))), rfl, hgo.1, rfl, (aI.trans (ak.trans (aB.ext.trans (au.trans (av.ext.trans (aq.trans (aD.ext.trans (ai.trans aC.ext)))))))), (IntN.lim2 (aA.ext (ai.trans aC.ext)) xq xq), (IntN.lim2 (az.ext (ai.trans aC.ext)) xq xq), (IntN.lim2 a6 xq xq), (IntN.lim2 aX xq xq)⟩
  omega
 have an : Int.tmod ((2 * j + 2 : Nat) : Int) 4 = ((2 * j + 2 : Nat) : Int) % 4 := Int.tmod_eq_emod_of_nonneg xq
 have aa : ¬ j % 2 = 0 := by have h9 := aF; rw [an] at h9; simp at h9; omega
 refine zzf (zzh 44 (.v (.agg #[.bool y1.s, y1.m.v, .bool y2.s, y2.m.v])) ty160 zze (zzh 45 (.v (.agg #[.bool ah.s, ah.m.v, .bool ag.s, ag.m.v])) ty160 zze (zzg 46 230 _ fun _ _ ab aZ => Post.mono (k_eAdd aZ (f2.ext (ak.trans (aB.ext.trans (au.trans (av.ext.trans (aq.trans (aD.ext.trans ab))))))) (f3.ext (ak.trans (aB.ext.trans (au.trans (av.ext.trans (aq.trans (aD.ext.trans ab))))))) (aA.ext ab) (az.ext ab) xq xq) ?_)))
 rintro _ bP ae ⟨am, al, rfl, aE, aG⟩
 refine zzi ⟨160, am.cs ++ al.cs⟩ ty160 ?_
 refine zzb (sq9 (zza 47 (zI (2 * j + 2 : Nat)) (zza 48 (zB (decide ((4 : Int) ≤ ((2 * j + 2 : Nat) : Int)))) ?_)))
 rcases Bool.eq_false_or_eq_true (decide ((4 : Int) ≤ ((2 * j + 2 : Nat) : Int))) with hs112 | hs112
 ·refine zyp 49 (x := zB (decide ((4 : Int) ≤ ((2 * j + 2 : Nat) : Int)))) (zB true) (by rw [hs112]) ?_
  have qhs112 := of_decide_eq_true hs112
  refine zzh 50 (.v (.agg #[.bool ah.s, ah.m.v, .bool ag.s, ag.m.v])) ty160 zze ?_ (hw := w1 2 true 49)
  refine zzg 51 231 _ (fun _ _ ac a0 => Post.mono (k_eTiny a0 (aA.ext (ab.trans (ae.ext.trans ac))) (az.ext (ab.trans (ae.ext.trans ac))) xq) ?_) (hw := w1 2 true 49)
  rintro _ bL af rfl
  refine zza 52 (zB (decide ((Nt.cdiv (Nt.cdiv (th * qh) (Nt.u2 k)) (Nt.coD j)) ≤ 1))) (zzb (zzt (b := decide ((Nt.cdiv (Nt.cdiv (th * qh) (Nt.u2 k)) (Nt.coD j)) ≤ 1)) xj (fun ad => ?_) (fun ad => ?_)))
  ·have qhb117 := of_decide_eq_true ad
   refine sq9 (zzh 53 (.v (.agg #[.bool am.s, am.m.v, .bool al.s, al.m.v])) ty160 zze (zzg 54 232 _ fun _ _ aL a2 => Post.mono (k_eWider a2 (aE.ext (ac.trans (af.ext.trans aL))) (aG.ext (ac.trans (af.ext.trans aL))) xq) ?_))
   rintro _ bF bj ⟨aw, ax, rfl, a3, aW⟩
   refine zzi ⟨160, aw.cs ++ ax.cs⟩ ty160 ?_
   refine zzb (zzn (zyt (zzv (zys (zyt (ret0 [.agg #[.bool aw.s, aw.m.v, .bool ax.s, ax.m.v]] ⟨zzq ty160 zze, trivial⟩ fun bN aJ => ?_))))))
   have ho := hI.out hQ hq0 hp (by have h9 := of_decide_eq_true hs112; omega) (of_decide_eq_true ad) (sl' := (sl + ((tl * ql / Nt.u2 k) / (Nt.coD j)))) (sh' := (sh + (Nt.cdiv (Nt.cdiv (th * qh) (Nt.u2 k)) (Nt.coD j)))) (.inr ⟨aa, rfl, rfl⟩)
   have hob := Nt.csR_bd ho hq0 hp hk
   exact ⟨aw, ax, _, _, rfl, IntN.lim2 (a3.ext aJ) xq xq, IntN.lim2 (aW.ext aJ) xq xq, ho⟩
  have qhb117 := of_decide_eq_false ad
  refine zzr (zzo ?_)
  refine zzf (zza 26 (zI (2 * j + 2 : Nat)) (zyp 27 (x := zI (IntKind.i64.wrap (((2 * j + 2 : Nat) : Int) + 2))) (zI (((2 * j + 2) + 2 : Nat) : Int)) (eqI xk) (zza 11 (zI (((2 * j + 2) + 2 : Nat) : Int)) (zzw ?_))))
  have hgo := hI.go hQ (.inr (by have h9 : ¬ Nt.csH k j th qh ≤ 1 := of_decide_eq_false ad; omega)) (sl' := (sl + ((tl * ql / Nt.u2 k) / (Nt.coD j)))) (sh' := (sh + (Nt.cdiv (Nt.cdiv (th * qh) (Nt.u2 k)) (Nt.coD j)))) (.inr ⟨aa, rfl, rfl⟩)
  have hb9 := hgo.1.bd hq0 hp
  have hw9 := Nt.csW_le hk
  have ht0 := hgo.1.c.t0
  have ht1 := hgo.1.c.t1
  have htt := hgo.1.c.tt
  have ht2 := hgo.1.c.t2
  have hmm := hgo.2
  simp only [Nt.csL, Nt.csH] at ht0 ht1 htt ht2 hmm
  refine ⟨_, ?_, _, by exact zzu _ _ _, j + 1, ah, ag, am, al, ((tl * ql / Nt.u2 k) / (Nt.coD j)), (Nt.cdiv (Nt.cdiv (th * qh) (Nt.u2 k)) (Nt.coD j)), (sl + ((tl * ql / Nt.u2 k) / (Nt.coD j))), (sh + (Nt.cdiv (Nt.cdiv (th * qh) (Nt.u2 k)) (Nt.coD j))), rfl, hgo.1, rfl, (aI.trans (ak.trans (aB.ext.trans (au.trans (av.ext.trans (aq.trans (aD.ext.trans (ab.trans (ae.ext.trans (ac.trans af.ext)))))))))), (IntN.lim2 (aA.ext (ab.trans (ae.ext.trans (ac.trans af.ext)))) xq xq), (IntN.lim2 (az.ext (ab.trans (ae.ext.trans (ac.trans af.ext)))) xq xq), (IntN.lim2 (aE.ext (ac.trans af.ext)) xq xq), (IntN.lim2 (aG.ext (ac.trans af.ext)) xq xq)⟩
  omega
 refine zyp 49 (x := zB (decide ((4 : Int) ≤ ((2 * j + 2 : Nat) : Int)))) (zB false) (by rw [hs112]) ?_
 have qhs112 := of_decide_eq_false hs112
 refine zzm 50 (uw 2 true false 49) (zzm 51 (uw 2 true false 49) (zza 52 (zB false) (zzb (zyr xj (zzr (zzo ?_))))))
 refine zzf (zza 26 (zI (2 * j + 2 : Nat)) (zyp 27 (x := zI (IntKind.i64.wrap (((2 * j + 2 : Nat) : Int) + 2))) (zI (((2 * j + 2) + 2 : Nat) : Int)) (eqI xk) (zza 11 (zI (((2 * j + 2) + 2 : Nat) : Int)) (zzw ?_))))
 have hgo := hI.go hQ (.inl (by have h9 := of_decide_eq_false hs112; omega)) (sl' := (sl + ((tl * ql / Nt.u2 k) / (Nt.coD j)))) (sh' := (sh + (Nt.cdiv (Nt.cdiv (th * qh) (Nt.u2 k)) (Nt.coD j)))) (.inr ⟨aa, rfl, rfl⟩)
 have hb9 := hgo.1.bd hq0 hp
 have hw9 := Nt.csW_le hk
 have ht0 := hgo.1.c.t0
 have ht1 := hgo.1.c.t1
 have htt := hgo.1.c.tt
 have ht2 := hgo.1.c.t2
 have hmm := hgo.2
 simp only [Nt.csL, Nt.csH] at ht0 ht1 htt ht2 hmm
 refine ⟨_, ?_, _, by exact zzu _ _ _, j + 1, ah, ag, am, al, ((tl * ql / Nt.u2 k) / (Nt.coD j)), (Nt.cdiv (Nt.cdiv (th * qh) (Nt.u2 k)) (Nt.coD j)), (sl + ((tl * ql / Nt.u2 k) / (Nt.coD j))), (sh + (Nt.cdiv (Nt.cdiv (th * qh) (Nt.u2 k)) (Nt.coD j))), rfl, hgo.1, rfl, (aI.trans (ak.trans (aB.ext.trans (au.trans (av.ext.trans (aq.trans (aD.ext.trans (ab.trans ae.ext)))))))), (IntN.lim2 (aA.ext (ab.trans ae.ext)) xq xq), (IntN.lim2 (az.ext (ab.trans ae.ext)) xq xq), (IntN.lim2 aE xq xq), (IntN.lim2 aG xq xq)⟩
 omega
section
variable (P : Program) (w0 : Base) (u0 : World)
def MP.into (I : Nat → St → World → Prop) (Q : MP) (hI : ∀ m, Mono (I m)) : MP where
 f e S u := match e with | .normal => ∃ m T, Weak S T ∧ I m T u | .goto _ => False | e => Q.f e S u
 mono e := by
  cases e <;> first | exact Q.mono _ | skip
  ·rintro S u u' he ⟨m, T, h1, h2⟩
   exact ⟨m, T, h1, hI m T u u' he h2⟩
  exact fun S u u' he h => h
def MP.jump (l : Nat) (I : Nat → St → World → Prop) (n : Nat) (Q : MP) (hI : ∀ m, Mono (I m)) : MP where
 f e S u := match e with | .goto l' => l' = l ∧ ∃ m, m < n ∧ ∃ T, Weak S T ∧ I m T u | e => Q.f e S u
 mono e := by
  cases e <;> first | exact Q.mono _ | skip
  rintro S u u' he ⟨hl, m, hm, T, h1, h2⟩
  exact ⟨hl, m, hm, T, h1, hI m T u u' he h2⟩
end
section
variable {P : Program} {w0 : Base} {u0 : World} {S T : St} {B : Tmp → Nat} {a : Act} {w u u' : World} {Q : MP} {c d A R : Code}
theorem sw_goto {l : Nat} (h : Q.f (.goto l) S u) : SW P w0 u0 (.goto l) S u Q := fun B a w u' e hr => wp_goto ⟨S, B, u', hr, Q.mono _ _ _ _ e h⟩
theorem mpg_seq {l : Nat} {c : Code} {Q : MP} (h : Q.f (.goto l) S u) : (MP.seq P w0 u0 c Q).f (.goto l) S u := h
theorem mpg_jump {l n m : Nat} {I : Nat → St → World → Prop} {Q : MP} {hI : ∀ m, Mono (I m)} (hm : m < n) (hw : Weak S T) (h : I m T u) : (MP.jump l I n Q hI).f (.goto l) S u := ⟨rfl, m, hm, T, hw, h⟩
theorem mpr_jump {l n : Nat} {I : Nat → St → World → Prop} {Q : MP} {hI : ∀ m, Mono (I m)} (h : Q.f .ret S u) : (MP.jump l I n Q hI).f .ret S u := h
theorem mpi_into {m : Nat} {I : Nat → St → World → Prop} {Q : MP} {hI : ∀ m, Mono (I m)} (hw : Weak S T) (h : I m T u) : (MP.into I Q hI).f .normal S u := ⟨m, T, hw, h⟩
theorem sw_scope {l : Nat} {I : Nat → St → World → Prop} (hI : ∀ m, Mono (I m)) (hf : findLabel (.seq A (.seq (.label l) R)) l = some (.seq .skip R)) (hA : SW P w0 u0 A S u (MP.into I Q hI)) (h : ∀ n S u, I n S u → SW P w0 u0 R S u (MP.jump l I n Q hI)) : SW P w0 u0 (.scope (.seq A (.seq (.label l) R))) S u Q := by
 intro B a w u' e hr
 let J : Nat → Act → World → Prop := fun n a w => ∃ S B u'', Rep w0 u0 S B a w u'' ∧ I n S u''
 let μ : Act → World → Nat := fun a w => Classical.epsilon fun m => J m a w ∧ ∀ k, J k a w → m ≤ k
 have hμ : ∀ a w n, J n a w → J (μ a w) a w ∧ μ a w ≤ n := fun a w n hn => by
  have := Classical.epsilon_spec (p := fun m => J m a w ∧ ∀ k, J k a w → m ≤ k) (least n hn)
  exact ⟨this.1, this.2 n hn⟩
 refine wp_scope_jumps l (fun a w => ∃ n, J n a w) μ hf ?_ ?_
 ·refine wp_seq (wp_mono (hA B a w u' e hr) fun ex a' w' ⟨S', B', u'', k1, k3⟩ => ?_)
  cases ex with
  | normal =>
   obtain ⟨m, T', t1, t2⟩ := k3
   refine wp_seq (wp_label ?_)
   refine wp_mono (h m T' u'' t2 B' a' w' u'' (Ext.refl _) (k1.weak t1)) fun ex a' w' ⟨S', B', u'', k1, k3⟩ => ?_
   cases ex with
   | goto l' =>
    obtain ⟨rfl, m, hm, T', t1, t2⟩ := k3
    exact ⟨rfl, m, T', B', u'', k1.weak t1, t2⟩
   | _ => exact ⟨S', B', u'', k1, k3⟩
  | goto l' => exact k3.elim
  | _ => exact ⟨S', B', u'', k1, k3⟩
 rintro a w ⟨n, hn⟩
 obtain ⟨S1, B1, u1, r1, i1⟩ := (hμ a w n hn).1
 refine wp_seq (wp_skip ?_)
 refine wp_mono (h _ S1 u1 i1 B1 a w u1 (Ext.refl _) r1) fun ex a' w' ⟨S', B', u'', k1, k3⟩ => ?_
 cases ex with
 | goto l' =>
  obtain ⟨rfl, m, hm, T', t1, t2⟩ := k3
  have hJ : J m a' w' := ⟨T', B', u'', k1.weak t1, t2⟩
  exact ⟨rfl, ⟨m, hJ⟩, Nat.lt_of_le_of_lt (hμ a' w' m hJ).2 hm⟩
 | _ => exact ⟨S', B', u'', k1, k3⟩
end
theorem k_ratMake {u w : World} {i j : IL} {z D : Int} {K L : Nat} (d : Dat u w) (hi : IntN u i z K) (hj : IntN u j D L) (hD : 0 < D) (hK : K ≤ 1000000) (hL : L ≤ 1000000) : Calls Tryz.prog 162 #[i.v, j.v] w (Post u w fun v u' => ∃ r : RL, v = .tuple #[r.v, .int .i64 0] ∧ RatN u' r ((z : Rat) / (D : Rat)) (K + L + 1)) := by
 refine zzl (args := [i.v, j.v]) Tryz.func162 rfl Tryz.ntmps162 (rs := [.cell 4 26, .tmp 5]) Tryz.results162 (le_b rfl) (le_b rfl) d ?_
 refine sq9 (zzj 2 ⟨24, i.cs⟩ (zzj 3 ⟨24, j.cs⟩ (zzj 4 ⟨26, zw3⟩ (zza 5 (zI 0) (zzb (zzd (sq9 (zzh 6 (.v (j.v)) ty24 zze (zzg 7 146 _ fun _ _ aa ai => Post.mono (k_intSign ai (hj.ext aa).raw) ?_)))))))))
 rintro _ u12 ac rfl
 refine zza 8 (zB ((Nt.cmpS D 0) == 0)) (zzb (zzt (b := (Nt.cmpS D 0) == 0) xj (fun hb => ?_) (fun hb => ?_)))
 ·exact absurd hb (by rw [show ((Nt.cmpS D 0) == 0) = false from (by rw [Nt.cmp_gt hD]; rfl)]; decide)
 clear hb
 refine zzr (zzo ?_)
 refine sq9 (zzh 10 (.v (i.v)) ty24 zze (zzh 11 (.v (j.v)) ty24 zze (zzg 12 196 _ fun _ _ ab ak => Post.mono (k_quotient (i := i) (j := j) ak) ?_)))
 rintro _ u16 ad rfl
 refine zzg 13 148 _ fun _ _ af aj => Post.mono (k_lowest aj ((quot_int (hi.ext (aa.trans (ac.ext.trans (ab.trans ad.ext)))) (hj.ext (aa.trans (ac.ext.trans (ab.trans ad.ext))))).ext af) ((int_mag (hj.ext (aa.trans (ac.ext.trans (ab.trans ad.ext))))).ext af).raw (show 0 < (D : Int).natAbs by omega) xq xq) ?_
 rintro _ u22 g23 ⟨ae, rfl, ag⟩
 refine zzi ⟨26, ae.cs⟩ ty26 ?_
 refine zza 5 (zI 0) (zzb (zzn (ret0 [ae.v, .int .i64 0] ⟨zzq ty26 zze, zzp, trivial⟩ fun u25 ah => ?_)))
 refine ⟨ae, rfl, RatN.more (K := (max K L)) ?_ xq⟩
 rw [← Nt.div_mk2 xq]
 exact (ag.ext ah)
theorem k_betweenN {u w : World} {i : IL} {z : Int} {k K : Nat} (d : Dat u w) (hi : IntN u i z K) (hk : k ≤ 256) (hK0 : 1 ≤ K) (hK : K ≤ 900000) : Calls Tryz.prog 84 #[i.v, .bool false, .int .i64 (k : Int)] w (Post u w fun v u' => ∃ r1 r2 : RL, v = IV r1 r2 ∧ RatN u' r1 (Nt.gr k z) (K + 20) ∧ RatN u' r2 (Nt.gr k (z + 1)) (K + 20)) := by
 refine zzl (args := [i.v, .bool false, .int .i64 k]) Tryz.func84 rfl Tryz.ntmps84 (rs := [.cell 6 32]) Tryz.results84 (le_b rfl) (le_b rfl) d ?_
 refine sq9 (zzj 3 ⟨24, i.cs⟩ (zzj 6 ⟨32, zw6⟩ (zzb (sq9 (zzh 13 (.v (i.v)) ty24 zze (zzj 7 ⟨24, [.bool false, .slice none 0 0]⟩ (zzi ⟨24, i.cs⟩ ty24 ?_)))))))
 refine zzb (zzd (sq9 (zza 14 (zB false) (zza 15 (zB true) (zzb (zyq xj (zzy [0, 0, 3, 7] [(0, []), (1, []), (2, []), (3, [])] xj xj (zzh 16 (.v (i.v)) ty24 zze (zzg 17 160 _ fun _ _ an ap => Post.mono (k_intOf ap (z := 1) xq xq) ?_)))))))))
 rintro _ u14 ag ⟨i12, rfl, aq⟩
 refine zzg 18 159 _ fun _ _ af aw => Post.mono (k_intAdd aw (hi.ext (an.trans (ag.ext.trans af))).raw (aq.ext af).raw xq xq) ?_
 rintro _ u20 ay ⟨aj, rfl, ax⟩
 refine zzi ⟨24, aj.cs⟩ ty24 ?_
 refine zzb (sq9 (zza 19 (zI k) (zzg 20 161 _ fun _ _ ah au => Post.mono (k_eUnit (k := k) au xq) ?_)))
 rintro _ u26 al ⟨ad, rfl, am⟩
 refine zza 21 (.v (ad.v)) (zzj 8 ⟨24, [.bool false, .slice none 0 0]⟩ (zzi ⟨24, ad.cs⟩ ty24 ?_))
 refine zzb (sq9 (zzh 23 (.v (i.v)) ty24 zze (zzh 24 (.v (ad.v)) ty24 zze (zzg 25 162 _ fun _ _ ac ao => Post.mono (k_ratMake ao (hi.ext (an.trans (ag.ext.trans (af.trans (ay.ext.trans (ah.trans (al.ext.trans ac))))))) (am.ext ac) (Nt.u2_pos _) xq xq) ?_))))
 rintro _ u32 ak ⟨aa, rfl, az⟩
 refine zza 22 (.v (.tuple #[aa.v, .int .i64 0])) (zza 26 (.v (aa.v)) (zza 27 (zI 0) (zzj 9 ⟨26, zw3⟩ (zzi ⟨26, aa.cs⟩ ty26 ?_))))
 refine zza 10 (zI 0) (zzb (sq9 (zzh 29 (.v (aj.v)) ty24 zze (zzh 30 (.v (ad.v)) ty24 zze (zzg 31 162 _ fun _ _ ae aA => Post.mono (k_ratMake aA (ax.ext (ah.trans (al.ext.trans (ac.trans (ak.ext.trans ae))))) (am.ext (ac.trans (ak.ext.trans ae))) (Nt.u2_pos _) xq xq) ?_)))))
 rintro _ u38 av ⟨ab, rfl, ar⟩
 refine zza 28 (.v (.tuple #[ab.v, .int .i64 0])) (zza 32 (.v (ab.v)) (zza 33 (zI 0) (zzj 11 ⟨26, zw3⟩ (zzi ⟨26, ab.cs⟩ ty26 ?_))))
 refine zza 12 (zI 0) (zzc 37 [(6, .adr 6 0), (9, .adr 9 0), (11, .adr 11 0)] [(6, ⟨32, zw6⟩), (9, ⟨26, aa.cs⟩), (11, ⟨26, ab.cs⟩)] (sq9 (zzh 34 (.v (aa.v)) ty26 zze (zzh 35 (.v (ab.v)) ty26 zze (zza 36 (.v (.agg #[.bool aa.s, aa.m.v, aa.d.v, .bool ab.s, ab.m.v, ab.d.v])) (zzi ⟨32, aa.cs ++ ab.cs⟩ ty32 ?_))))))
 refine zzb (zzn (ret0 [.agg #[.bool aa.s, aa.m.v, aa.d.v, .bool ab.s, ab.m.v, ab.d.v]] ⟨zzq ty32 zze, trivial⟩ fun u41 ai => ?_))
 refine ⟨aa, ab, rfl, RatN.more (K := (K + (k / 32 + 2) + 1)) ?_ xq, RatN.more (K := ((max K 2 + 1) + (k / 32 + 2) + 1)) ?_ xq⟩
 ·exact (az.ext (ae.trans (av.ext.trans ai)))
 exact (ar.ext ai)
theorem k_cos1 {u w : World} {p q k bp bq : Nat} (d : Dat u w) (hbp : u.heap[bp]? = some (.cells [Value.int .i64 (p : Int)].toArray 3 (0, 0))) (hbq : u.heap[bq]? = some (.cells [Value.int .i64 (q : Int)].toArray 3 (0, 0))) (hq0 : 0 < q) (hq : q ≤ 100000) (hp : 2 * p ≤ q) (hp1 : 1 ≤ p) (hk0 : 16 ≤ k) (hk : k ≤ 800) : Calls Tryz.prog 178 #[.int .i64 (k : Int), .pointer (some ⟨bp, 0, none⟩), .pointer (some ⟨bq, 0, none⟩)] w (Post u w fun v u' => ∃ (i j : IL) (a b : Int), v = SP i j ∧ IntN u' i a 42 ∧ IntN u' j b 42 ∧ Nt.CsR p q k a b) := by
 refine zzl (args := [.int .i64 k, .pointer (some ⟨bp, 0, none⟩), .pointer (some ⟨bq, 0, none⟩)]) Tryz.func178 rfl Tryz.ntmps178 (rs := [.cell 4 160]) Tryz.results178 (le_b rfl) (le_b rfl) d ?_
 refine sq9 (zzj 4 ⟨160, [.bool false, .slice none 0 0, .bool false, .slice none 0 0]⟩ (zzb (sq9 (zyk 5 (.int .i64 p) (var_cell1 hbp) ty3 (zyk 6 (.int .i64 q) (var_cell1 hbq) ty3 (zza 7 (zI k) (zzg 8 179 _ fun _ _ _ ah => Post.mono (k_cosineOf ah (p := p) (q := q) (k := k) hq0 hq hp hp1 xq xq) ?_)))))))
 rintro _ u13 g14 ⟨aa, ab, ag, ai, rfl, ac, ae, ad⟩
 refine zzi ⟨160, aa.cs ++ ab.cs⟩ ty160 ?_
 refine zzb (zzn (ret0 [.agg #[.bool aa.s, aa.m.v, .bool ab.s, ab.m.v]] ⟨zzq ty160 zze, trivial⟩ fun u16 af => ?_))
 exact ⟨aa, ab, _, _, rfl, (ac.ext af), (ae.ext af), ad⟩
set_option maxHeartbeats 2000000 in
theorem k_irrCos {u w : World} {p q bp bq : Nat} {k g : Nat} (d : Dat u w) (hbp : u.heap[bp]? = some (.cells [Value.int .i64 (p : Int)].toArray 3 (0, 0))) (hbq : u.heap[bq]? = some (.cells [Value.int .i64 (q : Int)].toArray 3 (0, 0))) (hq0 : 0 < q) (hq : q ≤ 100000) (hp : 2 * p ≤ q) (hp1 : 1 ≤ p) (hg : Nt.Gap (Nt.coN p q) k g) (hg3 : g ≤ 300) (hk : k ≤ 256) : Calls Tryz.prog 101 #[.func (.func 178) #[] #[.pointer (some ⟨bp, 0, none⟩), .pointer (some ⟨bq, 0, none⟩)], .int .i64 (k : Int)] w (Post u w fun v u' => ∃ r1 r2 : RL, v = IV r1 r2 ∧ RatN u' r1 (Nt.gr k (Nt.flo (Nt.coN p q) k)) 70 ∧ RatN u' r2 (Nt.gr k (Nt.flo (Nt.coN p q) k + 1)) 70) := by
 refine zzl (args := [.func (.func 178) #[] #[.pointer (some ⟨bp, 0, none⟩), .pointer (some ⟨bq, 0, none⟩)], .int .i64 k]) Tryz.func101 rfl Tryz.ntmps101 (rs := [.cell 4 32]) Tryz.results101 (le_b rfl) (le_b rfl) d ?_
 refine sq9 (zzj 4 ⟨32, zw6⟩ (zzb (sw_scope (I := fun aA S' u' => ∃ (wk : Nat), (aA = 1000 - wk) ∧ (k + 32 ≤ wk) ∧ (wk ≤ 674 ∨ wk = k + 32) ∧ (S' = St.of 49 [(0, .v (.func (.func 178) #[] #[.pointer (some ⟨bp, 0, none⟩), .pointer (some ⟨bq, 0, none⟩)])), (1, zI k), (4, .adr 4 0), (5, zI wk)] [(4, ⟨32, zw6⟩)]) ∧ (Ext u u')) (fun m S u1 u2 e h => by obtain ⟨wk, hm, p0, p1, hS, hE⟩ := h; exact ⟨wk, hm, p0, p1, hS, hE.trans e⟩) xj ?_ ?_)))
 ·skip
  refine zzf (zza 14 (zI k) (zyp 15 (x := zI (IntKind.i64.wrap ((k : Int) + 32))) (zI (k + 32 : Nat)) (eqI xk) (zza 5 (zI (k + 32 : Nat)) (zzw ?_))))
  exact mpi_into (T := St.of 49 [(0, .v (.func (.func 178) #[] #[.pointer (some ⟨bp, 0, none⟩), .pointer (some ⟨bq, 0, none⟩)])), (1, .v (.int .i64 (k : Int))), (4, .adr 4 0), (5, .v (.int .i64 ((k + 32 : Nat) : Int)))] [(4, ⟨32, zw6⟩)]) yz ⟨k + 32, rfl, by omega, .inr rfl, rfl, (Ext.refl _)⟩
 rintro aA _ u11 ⟨wk, aI, hw0, hw1, rfl, ay⟩
 refine sq9 (zza 16 (.v (.func (.func 178) #[] #[.pointer (some ⟨bp, 0, none⟩), .pointer (some ⟨bq, 0, none⟩)])) (zza 17 (zI wk) (zzg 18 178 _ fun _ _ ap aQ => Post.mono (k_cos1 aQ (k := wk) ((ay.trans ap).cells hbp) ((ay.trans ap).cells hbq) hq0 hq hp hp1 xq xq) ?_)))
 rintro _ u14 aH ⟨ae, al, ah, ak, rfl, ao, aq, aa⟩
 refine zzj 6 ⟨160, [.bool false, .slice none 0 0, .bool false, .slice none 0 0]⟩ (zzi ⟨160, ae.cs ++ al.cs⟩ ty160 ?_)
 refine zzb (sq9 (zza 19 (zI wk) (zza 20 (zI k) (zyp 21 (x := zI (IntKind.i64.wrap ((wk : Int) - (k : Int)))) (zI (wk - k : Nat)) (eqI xk) (zzg 22 161 _ fun _ _ ar aO => Post.mono (k_eUnit (k := wk - k) aO xq) ?_)))))
 rintro _ u20 ax ⟨am, rfl, aB⟩
 refine zza 23 (.v (am.v)) (zzj 7 ⟨24, [.bool false, .slice none 0 0]⟩ (zzi ⟨24, am.cs⟩ ty24 ?_))
 refine zzb (sq9 (zza 25 (.adr 6 0) (zzh 26 (.v (ae.v)) ty24 zze (zzh 27 (.v (am.v)) ty24 zze (zzg 28 180 _ fun _ _ af aN => Post.mono (k_intDivI aN (ao.ext (ar.trans (ax.ext.trans af))).raw (aB.ext af) (Nt.u2_pos _) xq xq) ?_)))))
 rintro _ u28 au ⟨ac, av, rfl, aD, h27⟩
 refine zza 24 (.v (.tuple #[ac.v, av.v, .int .i64 0])) (zza 29 (.v (ac.v)) (zza 30 (.v (av.v)) (zza 31 (zI 0) (zzj 8 ⟨24, [.bool false, .slice none 0 0]⟩ (zzj 9 ⟨24, [.bool false, .slice none 0 0]⟩ (zzi ⟨24, ac.cs⟩ ty24 ?_))))))
 refine zzi ⟨24, av.cs⟩ ty24 ?_
 refine zza 10 (zI 0) (zzb (sq9 (zza 33 (.adr 6 2) (zzh 34 (.v (al.v)) ty24 zze (zzh 35 (.v (am.v)) ty24 zze (zzg 36 180 _ fun _ _ ad aM => Post.mono (k_intDivI aM (aq.ext (ar.trans (ax.ext.trans (af.trans (au.ext.trans ad))))).raw (aB.ext (af.trans (au.ext.trans ad))) (Nt.u2_pos _) xq xq) ?_))))))
 rintro _ u36 aw ⟨aj, az, rfl, aJ, h35⟩
 refine zza 32 (.v (.tuple #[aj.v, az.v, .int .i64 0])) (zza 37 (.v (aj.v)) (zza 38 (.v (az.v)) (zza 39 (zI 0) (zzj 11 ⟨24, [.bool false, .slice none 0 0]⟩ (zzj 12 ⟨24, [.bool false, .slice none 0 0]⟩ (zzi ⟨24, aj.cs⟩ ty24 ?_))))))
 refine zzi ⟨24, az.cs⟩ ty24 ?_
 refine zza 13 (zI 0) (zzc 49 [(0, .v (.func (.func 178) #[] #[.pointer (some ⟨bp, 0, none⟩), .pointer (some ⟨bq, 0, none⟩)])), (1, zI k), (4, .adr 4 0), (5, zI wk), (8, .adr 8 0), (11, .adr 11 0)] [(4, ⟨32, zw6⟩), (8, ⟨24, ac.cs⟩), (11, ⟨24, aj.cs⟩)] (zzd (sq9 (zzh 40 (.v (ac.v)) ty24 zze (zzh 41 (.v (aj.v)) ty24 zze (zzg 42 181 _ fun _ _ an aG => Post.mono (k_intCompare aG (aD.ext (ad.trans (aw.ext.trans an))).raw (aJ.ext an).raw) ?_))))))
 rintro _ u40 aE rfl
 refine zza 43 (zB ((Nt.cmpS (ah / (Nt.u2 (wk - k))) (ak / (Nt.u2 (wk - k)))) != 0)) (zzb (zzt (b := (Nt.cmpS (ah / (Nt.u2 (wk - k))) (ak / (Nt.u2 (wk - k)))) != 0) xj (fun ab => ?_) (fun ab => ?_)))
 ·refine sq9 (zza 44 (zI wk) (zyp 45 (x := zI (IntKind.i64.wrap ((wk : Int) * 2))) (zI (wk * 2 : Nat)) (eqI xk) (zza 5 (zI (wk * 2 : Nat)) (zzb ?_))))
  have hny := Nt.not_yet hg aa.1 ((Nt.csR_bd aa hq0 hp xq).2.2.2.2.2) ab
  refine sw_goto (mpg_seq (mpg_jump (m := _) (T := St.of 49 [(0, .v (.func (.func 178) #[] #[.pointer (some ⟨bp, 0, none⟩), .pointer (some ⟨bq, 0, none⟩)])), (1, zI k), (4, .adr 4 0), (5, zI (wk * 2 : Nat))] [(4, ⟨32, zw6⟩)]) ?_ yz ⟨wk * 2, rfl, by omega, by omega, rfl, (ay.trans (ap.trans (aH.ext.trans (ar.trans (ax.ext.trans (af.trans (au.ext.trans (ad.trans (aw.ext.trans (an.trans aE.ext))))))))))⟩))
  omega
 refine zzr (zzo ?_)
 refine sq9 (zzh 46 (.v (ac.v)) ty24 zze (zza 47 (zI k) (zzg 48 84 _ fun _ _ aK aP => Post.mono (k_betweenN (k := k) aP (aD.ext (ad.trans (aw.ext.trans (an.trans (aE.ext.trans aK))))) xq xq xq) ?_)))
 rintro _ u49 g50 ⟨ag, ai, rfl, aF, aL⟩
 refine zzi ⟨32, ag.cs ++ ai.cs⟩ ty32 ?_
 refine zzb (zzn (mpr_jump (ret0 [.agg #[.bool ag.s, ag.m.v, ag.d.v, .bool ai.s, ai.m.v, ai.d.v]] ⟨zzq ty32 zze, trivial⟩ fun u52 aC => ?_)))
 have hfl := Nt.flo_of aa.1 xq ab
 refine ⟨ag, ai, rfl, RatN.more (K := ((42 + 1) + 20)) ?_ xq, RatN.more (K := ((42 + 1) + 20)) ?_ xq⟩
 ·rw [← hfl]; exact (aF.ext aC)
 rw [← hfl]; exact (aL.ext aC)
end Go.Proofs.YtbolmkfphieogaaGreat
