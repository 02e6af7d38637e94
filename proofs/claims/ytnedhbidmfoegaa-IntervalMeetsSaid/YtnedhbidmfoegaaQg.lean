/- Plain laws: larger intervals have larger results; common numbers. -/
import Derived.Test.YtnedhbidmfoegaaQi
namespace Go.Proofs.Ytnedhbidmfoegaa
set_option linter.unusedVariables false
namespace Nt
theorem nott {b : Bool} (h : b = true) : (!b) = false := by rw [h]; rfl
theorem div_le {a b c : Rat} (hb : 0 < b) : a / b ≤ c ↔ a ≤ c * b := by rw [← Rat.not_lt, Rat.lt_div_iff hb, Rat.not_lt]
theorem le_div {a b c : Rat} (hb : 0 < b) : c ≤ a / b ↔ c * b ≤ a := by rw [← Rat.not_lt, Rat.div_lt_iff hb, Rat.not_lt]
theorem inI_true {a b x : Rat} : inI a b x = true ↔ lo a b ≤ x ∧ x ≤ hi a b := by unfold inI; simp
theorem mul_mono {a b c : Rat} (h : a ≤ b) (hc : 0 ≤ c) : a * c ≤ b * c := Rat.mul_le_mul_of_nonneg_right h hc
theorem mul_anti {a b c : Rat} (h : a ≤ b) (hc : c ≤ 0) : b * c ≤ a * c := by
  have := mul_mono h (show 0 ≤ -c by grind)
  grind
/-- A product lies between the products with the ends. -/
theorem mul_betw {l h x c : Rat} (h1 : l ≤ x) (h2 : x ≤ h) : lo (l * c) (h * c) ≤ x * c ∧ x * c ≤ hi (l * c) (h * c) := by
  rcases Std.le_total (a := (0 : Rat)) (b := c) with hc | hc
  · have a := mul_mono h1 hc
    have b := mul_mono h2 hc
    unfold lo hi; grind
  · have a := mul_anti h1 hc
    have b := mul_anti h2 hc
    unfold lo hi; grind
theorem lo_le (a b : Rat) : lo a b ≤ a ∧ lo a b ≤ b := by unfold lo; grind
theorem le_hi (a b : Rat) : a ≤ hi a b ∧ b ≤ hi a b := by unfold hi; grind
theorem lo4_le (a b c d : Rat) : lo4 a b c d ≤ a ∧ lo4 a b c d ≤ b ∧ lo4 a b c d ≤ c ∧ lo4 a b c d ≤ d := by unfold lo4 lo; grind
theorem le_hi4 (a b c d : Rat) : a ≤ hi4 a b c d ∧ b ≤ hi4 a b c d ∧ c ≤ hi4 a b c d ∧ d ≤ hi4 a b c d := by unfold hi4 hi; grind
theorem lo4_glb {a b c d z : Rat} (h1 : z ≤ a) (h2 : z ≤ b) (h3 : z ≤ c) (h4 : z ≤ d) : z ≤ lo4 a b c d := by unfold lo4 lo; grind
theorem hi4_lub {a b c d z : Rat} (h1 : a ≤ z) (h2 : b ≤ z) (h3 : c ≤ z) (h4 : d ≤ z) : hi4 a b c d ≤ z := by unfold hi4 hi; grind
/-- Each product of numbers of two intervals lies in the interval of the four products. -/
theorem mul_in {a b c d x y : Rat} (h1 : lo a b ≤ x) (h2 : x ≤ hi a b) (h3 : lo c d ≤ y) (h4 : y ≤ hi c d) : lo4 (a * c) (a * d) (b * c) (b * d) ≤ x * y ∧ x * y ≤ hi4 (a * c) (a * d) (b * c) (b * d) := by
  have hx := mul_betw (c := y) h1 h2
  have ha := mul_betw (c := a) h3 h4
  have hb := mul_betw (c := b) h3 h4
  have k1 := lo4_le (a * c) (a * d) (b * c) (b * d)
  have k2 := le_hi4 (a * c) (a * d) (b * c) (b * d)
  generalize lo4 (a * c) (a * d) (b * c) (b * d) = L at *
  generalize hi4 (a * c) (a * d) (b * c) (b * d) = M at *
  have e1 : (lo a b = a ∧ hi a b = b) ∨ (lo a b = b ∧ hi a b = a) := by unfold lo hi; grind
  have e2 : (lo c d = c ∧ hi c d = d) ∨ (lo c d = d ∧ hi c d = c) := by unfold lo hi; grind
  have f1 : lo (lo a b * y) (hi a b * y) ≤ x * y := hx.1
  have f2 : x * y ≤ hi (lo a b * y) (hi a b * y) := hx.2
  have ga : L ≤ a * y ∧ a * y ≤ M := by
    rcases e2 with ⟨p, q⟩ | ⟨p, q⟩ <;> rw [p, q] at ha <;> unfold lo hi at ha <;> grind
  have gb : L ≤ b * y ∧ b * y ≤ M := by
    rcases e2 with ⟨p, q⟩ | ⟨p, q⟩ <;> rw [p, q] at hb <;> unfold lo hi at hb <;> grind
  rcases e1 with ⟨p, q⟩ | ⟨p, q⟩ <;> rw [p, q] at f1 f2 <;> unfold lo at f1 <;> unfold hi at f2 <;> grind
section
variable {a1 a2 b1 b2 c1 c2 d1 d2 : Rat}
/-- What Hull makes. -/
def hl (a b c d : Rat) : Rat := lo (lo a b) (lo c d)
def hh (a b c d : Rat) : Rat := hi (hi a b) (hi c d)
theorem hl_le : hl a1 a2 c1 c2 ≤ lo a1 a2 ∧ hl a1 a2 c1 c2 ≤ lo c1 c2 := lo_le _ _
theorem hh_ge : hi a1 a2 ≤ hh a1 a2 c1 c2 ∧ hi c1 c2 ≤ hh a1 a2 c1 c2 := le_hi _ _
theorem hull_ok : lo (hl a1 a2 c1 c2) (hh a1 a2 c1 c2) = hl a1 a2 c1 c2 ∧ hi (hl a1 a2 c1 c2) (hh a1 a2 c1 c2) = hh a1 a2 c1 c2 := by
  apply lo_of_le
  have h1 := hl_le (a1 := a1) (a2 := a2) (c1 := c1) (c2 := c2)
  have h2 := hh_ge (a1 := a1) (a2 := a2) (c1 := c1) (c2 := c2)
  have h3 := lo_le_hi a1 a2
  grind
theorem inI_of {l h x : Rat} (hlh : l ≤ h) (h1 : l ≤ x) (h2 : x ≤ h) : inI l h x = true := by
  obtain ⟨e1, e2⟩ := lo_of_le hlh
  rw [inI_true, e1, e2]; exact ⟨h1, h2⟩
theorem in_ends (a b : Rat) : (lo a b ≤ a ∧ a ≤ hi a b) ∧ (lo a b ≤ b ∧ b ≤ hi a b) := by unfold lo hi; grind
/-- A raw interval lies in its hull with another one. -/
theorem grow0 : (inI (hl a1 a2 c1 c2) (hh a1 a2 c1 c2) a1 && inI (hl a1 a2 c1 c2) (hh a1 a2 c1 c2) a2) = true := by
  have h1 := hl_le (a1 := a1) (a2 := a2) (c1 := c1) (c2 := c2)
  have h2 := hh_ge (a1 := a1) (a2 := a2) (c1 := c1) (c2 := c2)
  have h3 := in_ends a1 a2
  have h4 := lo_le_hi a1 a2
  rw [Bool.and_eq_true]
  exact ⟨inI_of (by grind) (by grind) (by grind), inI_of (by grind) (by grind) (by grind)⟩
/-- An interval within the ends of another. -/
theorem in_box {l h x y : Rat} (hlh : l ≤ h) (h1 : l ≤ x) (h2 : x ≤ h) (h3 : l ≤ y) (h4 : y ≤ h) : (inI l h x && inI l h y) = true := by
  rw [Bool.and_eq_true]; exact ⟨inI_of hlh h1 h2, inI_of hlh h3 h4⟩
theorem grow_add : (inI (lo (hl a1 a2 c1 c2) (hh a1 a2 c1 c2) + lo (hl b1 b2 d1 d2) (hh b1 b2 d1 d2)) (hi (hl a1 a2 c1 c2) (hh a1 a2 c1 c2) + hi (hl b1 b2 d1 d2) (hh b1 b2 d1 d2)) (lo a1 a2 + lo b1 b2) && inI (lo (hl a1 a2 c1 c2) (hh a1 a2 c1 c2) + lo (hl b1 b2 d1 d2) (hh b1 b2 d1 d2)) (hi (hl a1 a2 c1 c2) (hh a1 a2 c1 c2) + hi (hl b1 b2 d1 d2) (hh b1 b2 d1 d2)) (hi a1 a2 + hi b1 b2)) = true := by
  rw [hull_ok.1, hull_ok.2, hull_ok.1, hull_ok.2]
  have h1 := hl_le (a1 := a1) (a2 := a2) (c1 := c1) (c2 := c2)
  have h2 := hh_ge (a1 := a1) (a2 := a2) (c1 := c1) (c2 := c2)
  have h3 := hl_le (a1 := b1) (a2 := b2) (c1 := d1) (c2 := d2)
  have h4 := hh_ge (a1 := b1) (a2 := b2) (c1 := d1) (c2 := d2)
  have h5 := lo_le_hi a1 a2
  have h6 := lo_le_hi b1 b2
  apply in_box <;> grind
theorem grow_sub : (inI (lo (hl a1 a2 c1 c2) (hh a1 a2 c1 c2) - hi (hl b1 b2 d1 d2) (hh b1 b2 d1 d2)) (hi (hl a1 a2 c1 c2) (hh a1 a2 c1 c2) - lo (hl b1 b2 d1 d2) (hh b1 b2 d1 d2)) (lo a1 a2 - hi b1 b2) && inI (lo (hl a1 a2 c1 c2) (hh a1 a2 c1 c2) - hi (hl b1 b2 d1 d2) (hh b1 b2 d1 d2)) (hi (hl a1 a2 c1 c2) (hh a1 a2 c1 c2) - lo (hl b1 b2 d1 d2) (hh b1 b2 d1 d2)) (hi a1 a2 - lo b1 b2)) = true := by
  rw [hull_ok.1, hull_ok.2, hull_ok.1, hull_ok.2]
  have h1 := hl_le (a1 := a1) (a2 := a2) (c1 := c1) (c2 := c2)
  have h2 := hh_ge (a1 := a1) (a2 := a2) (c1 := c1) (c2 := c2)
  have h3 := hl_le (a1 := b1) (a2 := b2) (c1 := d1) (c2 := d2)
  have h4 := hh_ge (a1 := b1) (a2 := b2) (c1 := d1) (c2 := d2)
  have h5 := lo_le_hi a1 a2
  have h6 := lo_le_hi b1 b2
  apply in_box <;> grind
/-- The four products of a smaller box lie in the interval of the larger one's. -/
theorem box_mul {A1 A2 B1 B2 : Rat} (h1 : lo A1 A2 ≤ a1 ∧ a1 ≤ hi A1 A2) (h2 : lo A1 A2 ≤ a2 ∧ a2 ≤ hi A1 A2) (h3 : lo B1 B2 ≤ b1 ∧ b1 ≤ hi B1 B2) (h4 : lo B1 B2 ≤ b2 ∧ b2 ≤ hi B1 B2) :
    (inI (lo4 (A1 * B1) (A1 * B2) (A2 * B1) (A2 * B2)) (hi4 (A1 * B1) (A1 * B2) (A2 * B1) (A2 * B2)) (lo4 (a1 * b1) (a1 * b2) (a2 * b1) (a2 * b2)) && inI (lo4 (A1 * B1) (A1 * B2) (A2 * B1) (A2 * B2)) (hi4 (A1 * B1) (A1 * B2) (A2 * B1) (A2 * B2)) (hi4 (a1 * b1) (a1 * b2) (a2 * b1) (a2 * b2))) = true := by
  have k1 := mul_in h1.1 h1.2 h3.1 h3.2
  have k2 := mul_in h1.1 h1.2 h4.1 h4.2
  have k3 := mul_in h2.1 h2.2 h3.1 h3.2
  have k4 := mul_in h2.1 h2.2 h4.1 h4.2
  have g1 := lo4_glb k1.1 k2.1 k3.1 k4.1
  have g2 := hi4_lub k1.2 k2.2 k3.2 k4.2
  have g3 := lo4_le (a1 * b1) (a1 * b2) (a2 * b1) (a2 * b2)
  have g4 := le_hi4 (a1 * b1) (a1 * b2) (a2 * b1) (a2 * b2)
  apply in_box <;> grind
theorem hull_in : (lo (hl a1 a2 c1 c2) (hh a1 a2 c1 c2) ≤ a1 ∧ a1 ≤ hi (hl a1 a2 c1 c2) (hh a1 a2 c1 c2)) ∧ (lo (hl a1 a2 c1 c2) (hh a1 a2 c1 c2) ≤ a2 ∧ a2 ≤ hi (hl a1 a2 c1 c2) (hh a1 a2 c1 c2)) := by
  rw [hull_ok.1, hull_ok.2]
  have h1 := hl_le (a1 := a1) (a2 := a2) (c1 := c1) (c2 := c2)
  have h2 := hh_ge (a1 := a1) (a2 := a2) (c1 := c1) (c2 := c2)
  have h3 := in_ends a1 a2
  grind
/-- Quotients by numbers of an interval without 0. -/
theorem div_in {a b c d x y : Rat} (h0 : sgI c d ≠ 0) (h1 : lo a b ≤ x) (h2 : x ≤ hi a b) (h3 : lo c d ≤ y) (h4 : y ≤ hi c d) : lo4 (a / c) (a / d) (b / c) (b / d) ≤ x / y ∧ x / y ≤ hi4 (a / c) (a / d) (b / c) (b / d) := by
  have key : lo (1 / c) (1 / d) ≤ 1 / y ∧ 1 / y ≤ hi (1 / c) (1 / d) := by
    have pos : ∀ p q : Rat, 0 < p → p ≤ q → 1 / q ≤ 1 / p := by
      intro p q hp hq
      have hq0 : 0 < q := by grind
      rw [div_le hq0]
      have : (1 : Rat) = 1 / p * p := by grind
      have hp' : 0 ≤ 1 / p := by
        rw [le_div hp]; grind
      have h := mul_mono hq hp'
      grind
    have e2 : (lo c d = c ∧ hi c d = d) ∨ (lo c d = d ∧ hi c d = c) := by unfold lo hi; grind
    unfold sgI at h0
    by_cases hp : 0 < lo c d
    · have k1 := pos _ _ hp h3
      have k2 := pos _ _ (show 0 < y by grind) h4
      rcases e2 with ⟨p, q⟩ | ⟨p, q⟩ <;> rw [p] at k1 <;> rw [q] at k2 <;> unfold lo hi <;> grind
    · rw [if_neg hp] at h0
      by_cases hn : hi c d < 0
      · have k1 := pos (-hi c d) (-y) (by grind) (by grind)
        have k2 := pos (-y) (-lo c d) (by grind) (by grind)
        have n1 : ∀ z : Rat, 1 / (-z) = -(1 / z) := by intro z; grind
        rw [n1, n1] at k1 k2
        rcases e2 with ⟨p, q⟩ | ⟨p, q⟩ <;> rw [q] at k1 <;> rw [p] at k2 <;> unfold lo hi <;> grind
      · rw [if_neg hn] at h0; exact absurd rfl h0
  have e : ∀ p q : Rat, p * (1 / q) = p / q := by intro p q; grind
  have := mul_in (a := a) (b := b) (c := 1 / c) (d := 1 / d) (y := 1 / y) h1 h2 key.1 key.2
  rw [e, e, e, e, e] at this
  exact this
theorem add_in {a b c d x y : Rat} (h1 : lo a b ≤ x ∧ x ≤ hi a b) (h2 : lo c d ≤ y ∧ y ≤ hi c d) : inI (lo a b + lo c d) (hi a b + hi c d) (x + y) = true := inI_of (by grind) (by grind) (by grind)
theorem sub_in {a b c d x y : Rat} (h1 : lo a b ≤ x ∧ x ≤ hi a b) (h2 : lo c d ≤ y ∧ y ≤ hi c d) : inI (lo a b - hi c d) (hi a b - lo c d) (x - y) = true := inI_of (by grind) (by grind) (by grind)
theorem lo4_hi4 (a b c d : Rat) : lo4 a b c d ≤ hi4 a b c d := by
  have h1 := lo4_le a b c d
  have h2 := le_hi4 a b c d
  grind
theorem mul_inI {a b c d x y : Rat} (h1 : lo a b ≤ x ∧ x ≤ hi a b) (h2 : lo c d ≤ y ∧ y ≤ hi c d) : inI (lo4 (a * c) (a * d) (b * c) (b * d)) (hi4 (a * c) (a * d) (b * c) (b * d)) (x * y) = true := by
  have := mul_in h1.1 h1.2 h2.1 h2.2
  exact inI_of (lo4_hi4 _ _ _ _) this.1 this.2
theorem div_inI {a b c d x y : Rat} (h0 : sgI c d ≠ 0) (h1 : lo a b ≤ x ∧ x ≤ hi a b) (h2 : lo c d ≤ y ∧ y ≤ hi c d) : inI (lo4 (a / c) (a / d) (b / c) (b / d)) (hi4 (a / c) (a / d) (b / c) (b / d)) (x / y) = true := by
  have := div_in h0 h1.1 h1.2 h2.1 h2.2
  exact inI_of (lo4_hi4 _ _ _ _) this.1 this.2
theorem meet0 {q : Rat} (h : lo (hi a1 a2) (hi b1 b2) < hi (lo a1 a2) (lo b1 b2)) : (inI a1 a2 q && inI b1 b2 q) = false := by
  rw [Bool.eq_false_iff]
  intro hc
  rw [Bool.and_eq_true, inI_true, inI_true] at hc
  have h1 := lo_le (hi a1 a2) (hi b1 b2)
  have h2 := le_hi (lo a1 a2) (lo b1 b2)
  have e1 : lo (hi a1 a2) (hi b1 b2) = hi a1 a2 ∨ lo (hi a1 a2) (hi b1 b2) = hi b1 b2 := by unfold lo; split <;> simp
  have e2 : hi (lo a1 a2) (lo b1 b2) = lo a1 a2 ∨ hi (lo a1 a2) (lo b1 b2) = lo b1 b2 := by
    generalize lo a1 a2 = A
    generalize lo b1 b2 = B
    unfold hi; split <;> simp
  grind
theorem meet1 {q : Rat} (h : hi (lo a1 a2) (lo b1 b2) ≤ lo (hi a1 a2) (hi b1 b2)) : (inI a1 a2 q && inI b1 b2 q) = inI (hi (lo a1 a2) (lo b1 b2)) (lo (hi a1 a2) (hi b1 b2)) q := by
  obtain ⟨e1, e2⟩ := lo_of_le h
  have h1 := lo_le (hi a1 a2) (hi b1 b2)
  have h2 := le_hi (lo a1 a2) (lo b1 b2)
  have k1 : lo (hi a1 a2) (hi b1 b2) = hi a1 a2 ∨ lo (hi a1 a2) (hi b1 b2) = hi b1 b2 := by unfold lo; split <;> simp
  have k2 : hi (lo a1 a2) (lo b1 b2) = lo a1 a2 ∨ hi (lo a1 a2) (lo b1 b2) = lo b1 b2 := by
    generalize lo a1 a2 = A
    generalize lo b1 b2 = B
    unfold hi; split <;> simp
  rw [Bool.eq_iff_iff, Bool.and_eq_true, inI_true, inI_true, inI_true, e1, e2]
  grind
theorem hull_has {q : Rat} (h : inI a1 a2 q = true ∨ inI b1 b2 q = true) : inI (hl a1 a2 b1 b2) (hh a1 a2 b1 b2) q = true := by
  rw [inI_true, inI_true] at h
  rw [inI_true, hull_ok.1, hull_ok.2]
  have h1 := hl_le (a1 := a1) (a2 := a2) (c1 := b1) (c2 := b2)
  have h2 := hh_ge (a1 := a1) (a2 := a2) (c1 := b1) (c2 := b2)
  grind
/-- What Square makes. -/
def sql (a b : Rat) : Rat := if sgI a b = 0 then 0 else lo (a * a) (b * b)
def sqh (a b : Rat) : Rat := hi (a * a) (b * b)
theorem sq_nn (a : Rat) : 0 ≤ a * a := by
  rcases Std.le_total (a := (0 : Rat)) (b := a) with h | h
  · have := mul_mono h h; grind
  · have := mul_anti h h; grind
theorem sq_mono {x y : Rat} (h0 : 0 ≤ x) (h : x ≤ y) : x * x ≤ y * y := by
  have h1 := mul_mono h h0
  have h2 := mul_mono h (show 0 ≤ y by grind)
  grind
theorem sq_anti {x y : Rat} (h0 : y ≤ 0) (h : x ≤ y) : y * y ≤ x * x := by
  have := sq_mono (x := -y) (y := -x) (by grind) (by grind)
  grind
/-- The square of a number of an interval. -/
theorem sq_in {a b x : Rat} (h1 : lo a b ≤ x) (h2 : x ≤ hi a b) : sql a b ≤ x * x ∧ x * x ≤ sqh a b := by
  have e : (lo a b = a ∧ hi a b = b) ∨ (lo a b = b ∧ hi a b = a) := by unfold lo hi; grind
  have hn := sq_nn x
  have key : ∀ l h : Rat, l ≤ x → x ≤ h → x * x ≤ hi (l * l) (h * h) ∧ (0 < l → l * l ≤ x * x ∧ l * l ≤ h * h) ∧ (h < 0 → h * h ≤ x * x ∧ h * h ≤ l * l) := by
    intro l h hl hh
    refine ⟨?_, fun p => ⟨sq_mono (by grind) hl, sq_mono (by grind) (by grind)⟩, fun p => ⟨sq_anti (by grind) hh, sq_anti (by grind) (by grind)⟩⟩
    rcases Std.le_total (a := (0 : Rat)) (b := x) with hx | hx
    · have := sq_mono hx hh
      unfold hi; grind
    · have := sq_anti hx hl
      unfold hi; grind
  unfold sql sqh sgI
  rcases e with ⟨p, q⟩ | ⟨p, q⟩
  · rw [p] at h1; rw [q] at h2; rw [p, q]
    obtain ⟨k1, k2, k3⟩ := key a b h1 h2
    refine ⟨?_, k1⟩
    by_cases c1 : 0 < a
    · have := k2 c1; rw [if_pos c1, if_neg (by decide)]; unfold lo; grind
    · rw [if_neg c1]
      by_cases c2 : b < 0
      · have := k3 c2; rw [if_pos c2, if_neg (by decide)]; unfold lo; grind
      · rw [if_neg c2, if_pos rfl]; exact hn
  · rw [p] at h1; rw [q] at h2; rw [p, q]
    obtain ⟨k1, k2, k3⟩ := key b a h1 h2
    refine ⟨?_, by unfold hi at k1 ⊢; grind⟩
    by_cases c1 : 0 < b
    · have := k2 c1; rw [if_pos c1, if_neg (by decide)]; unfold lo; grind
    · rw [if_neg c1]
      by_cases c2 : a < 0
      · have := k3 c2; rw [if_pos c2, if_neg (by decide)]; unfold lo; grind
      · rw [if_neg c2, if_pos rfl]; exact hn
theorem sq_ord (a b : Rat) : sql a b ≤ sqh a b := by
  have h := sq_in (a := a) (b := b) (x := a) (in_ends a b).1.1 (in_ends a b).1.2
  grind
theorem sq_inI {a b x : Rat} (h1 : lo a b ≤ x ∧ x ≤ hi a b) : inI (if sgI a b = 0 then 0 else lo (a * a) (b * b)) (hi (a * a) (b * b)) (x * x) = true := by
  have := sq_in h1.1 h1.2
  exact inI_of (sq_ord a b) this.1 this.2
/-- A number between the ends, by a part from 0 to 1. -/
theorem part_in (a b : Rat) {t : Rat} (h0 : 0 ≤ t) (h1 : t ≤ 1) : lo a b ≤ lo a b + (hi a b - lo a b) * t ∧ lo a b + (hi a b - lo a b) * t ≤ hi a b := by
  have h := lo_le_hi a b
  have k1 := mul_mono (c := t) (show 0 ≤ hi a b - lo a b by grind) h0
  have k2 := mul_mono (c := hi a b - lo a b) h1 (by grind)
  grind
theorem grow_sq {A1 A2 : Rat} (h1 : lo A1 A2 ≤ a1 ∧ a1 ≤ hi A1 A2) (h2 : lo A1 A2 ≤ a2 ∧ a2 ≤ hi A1 A2) : (inI (sql A1 A2) (sqh A1 A2) (sql a1 a2) && inI (sql A1 A2) (sqh A1 A2) (sqh a1 a2)) = true := by
  have k1 := sq_in h1.1 h1.2
  have k2 := sq_in h2.1 h2.2
  have k3 := sq_ord A1 A2
  have k4 := sq_ord a1 a2
  have hl : sql A1 A2 ≤ sql a1 a2 := by
    by_cases c : sgI a1 a2 = 0
    · have c' : sgI A1 A2 = 0 := by unfold sgI at c ⊢; have := in_ends a1 a2; unfold lo hi at *; grind
      unfold sql; rw [if_pos c, if_pos c']; grind
    · have : sql a1 a2 = lo (a1 * a1) (a2 * a2) := if_neg c
      rw [this]; unfold lo; grind
  have hhi : sqh a1 a2 ≤ sqh A1 A2 := by
    have : sqh a1 a2 = hi (a1 * a1) (a2 * a2) := rfl
    rw [this]; unfold hi; grind
  apply in_box <;> grind
end
end Nt
end Go.Proofs.Ytnedhbidmfoegaa
