/- Parts of the proof: contracts of functions, each walked once, and plain laws. -/
import Derived.Test.YtdmpfhhhlhoeiaaGreatLflB
import Derived.Test.YtdmpfhhhlhoeiaaGreatProg
import Derived.KernelRfl
namespace Go.Proofs.YtdmpfhhhlhoeiaaGreat
set_option linter.unusedVariables false
namespace Nt
theorem mulQ_far {l m : List Rat} {k : Nat} (h : l.length + m.length ≤ k + 1) : co (mulQ l m) k = 0 := by
 induction l generalizing k with
 | nil => rfl
 | cons a l ih =>
  rw [mulQ_cons, co_ge (l := m) (by simp at h; omega)]
  unfold sh
  split
  ·grind
  ·rw [ih (by simp at h; omega)]; grind
theorem mulQ_top {l m : List Rat} (hl : 0 < l.length) (hm : 0 < m.length) : co (mulQ l m) (l.length + m.length - 2) = co l (l.length - 1) * co m (m.length - 1) := by
 induction l with
 | nil => simp at hl
 | cons a l ih =>
  rw [mulQ_cons]
  cases l with
  | nil =>
   have e : sh (co (mulQ [] m)) ([a].length + m.length - 2) = 0 := by unfold sh; split <;> rfl
   rw [e]
   show a * co m (1 + m.length - 2) + 0 = a * co m (m.length - 1)
   rw [show 1 + m.length - 2 = m.length - 1 by omega]; grind
  | cons b l =>
   have ih := ih (by simp)
   rw [co_ge (l := m) (by simp; omega)]
   unfold sh
   rw [if_neg (by simp; omega)]
   have e : (a :: b :: l).length + m.length - 2 - 1 = (b :: l).length + m.length - 2 := by simp; omega
   rw [e, ih, show (a :: b :: l).length - 1 = ((b :: l).length - 1) + 1 by simp, co_succ]; grind
namespace Pol
def len (p : Pol) : Nat := p.l.length
def lead (p : Pol) : Rat := p.c (p.len - 1)
theorem c_ge {p : Pol} {i : Nat} (h : p.len ≤ i) : p.c i = 0 := co_ge h
theorem len_le {p : Pol} {n : Nat} (h : ∀ i, n ≤ i → p.c i = 0) : p.len ≤ n := by
 apply Classical.byContradiction
 intro k
 have h1 : p.l.length > n := by unfold len at k; omega
 have h2 := nrm_last p.h (by intro e; rw [e] at h1; simp at h1)
 exact h2 (h _ (by omega))
theorem len_zero : (0 : Pol).len = 0 := by unfold len; rw [zero_l]; rfl
theorem zero_of_len {p : Pol} (h : p.len = 0) : p = 0 := ext fun i => by rw [c_zero, c_ge (by omega)]
theorem len_pos {p : Pol} (h : p ≠ 0) : 0 < p.len := by
 rcases Nat.eq_zero_or_pos p.len with k | k
 ·exact absurd (zero_of_len k) h
 ·exact k
theorem ne_of_len {p : Pol} (h : 0 < p.len) : p ≠ 0 := by rintro rfl; rw [len_zero] at h; omega
theorem lead_ne {p : Pol} (h : p ≠ 0) : p.lead ≠ 0 := nrm_last p.h (by intro e; have := len_pos h; unfold len at this; rw [e] at this; simp at this)
theorem c_ne_len {p : Pol} {i : Nat} (h : p.c i ≠ 0) : i < p.len := by
 apply Classical.byContradiction
 intro k
 exact h (c_ge (by omega))
theorem mul_far {p q : Pol} {k : Nat} (h : p.len + q.len ≤ k + 1) : (p * q).c k = 0 := by rw [c_mul]; exact mulQ_far h
theorem mul_top {p q : Pol} (hp : p ≠ 0) (hq : q ≠ 0) : (p * q).c (p.len + q.len - 2) = p.lead * q.lead := by rw [c_mul]; exact mulQ_top (len_pos hp) (len_pos hq)
theorem len_mul {p q : Pol} (hp : p ≠ 0) (hq : q ≠ 0) : (p * q).len + 1 = p.len + q.len := by
 have h1 := len_pos hp
 have h2 := len_pos hq
 have h3 : (p * q).len ≤ p.len + q.len - 1 := len_le fun i hi => mul_far (by omega)
 have h4 : (p * q).c (p.len + q.len - 2) ≠ 0 := by
  rw [mul_top hp hq]
  intro k
  rcases Rat.mul_eq_zero.1 k with k | k
  ·exact lead_ne hp k
  ·exact lead_ne hq k
 have := c_ne_len h4
 omega
theorem mul_ne {p q : Pol} (hp : p ≠ 0) (hq : q ≠ 0) : p * q ≠ 0 := by
 apply ne_of_len
 have := len_mul hp hq
 have := len_pos hp
 have := len_pos hq
 omega
theorem lead_mul {p q : Pol} (hp : p ≠ 0) (hq : q ≠ 0) : (p * q).lead = p.lead * q.lead := by
 unfold lead
 have h := len_mul hp hq
 have h1 := len_pos hp
 have h2 := len_pos hq
 rw [show (p * q).len - 1 = p.len + q.len - 2 by omega]
 exact mul_top hp hq
theorem eq_zero_of_mul {p q : Pol} (h : p * q = 0) : p = 0 ∨ q = 0 := by
 apply Classical.byContradiction
 intro k
 exact mul_ne (fun e => k (.inl e)) (fun e => k (.inr e)) h
theorem mul_cancel {p q r : Pol} (hr : r ≠ 0) (h : p * r = q * r) : p = q := by
 have h1 : (p - q) * r = 0 := by grind
 rcases eq_zero_of_mul h1 with k | k
 ·grind
 ·exact absurd k hr
theorem len_sub (p q : Pol) : (p - q).len ≤ max p.len q.len := len_le fun i hi => by rw [c_sub, c_ge (by omega), c_ge (by omega)]; grind
theorem C_ne {a : Rat} (h : a ≠ 0) : C a ≠ 0 := fun e => h (by have := c_C a 0; rw [e, c_zero] at this; simpa using this.symm)
theorem len_C {a : Rat} (h : a ≠ 0) : (C a).len = 1 := by
 have h1 : (C a).len ≤ 1 := len_le fun i hi => by rw [c_C, if_neg (by omega)]
 have := len_pos (C_ne h)
 omega
theorem lead_C {a : Rat} (h : a ≠ 0) : (C a).lead = a := by unfold lead; rw [len_C h, c_C, if_pos rfl]
theorem is_C {p : Pol} (h : p.len ≤ 1) : p = C (p.c 0) := ext fun i => by
 rw [c_C]
 split
 ·rename_i e; rw [e]
 ·exact c_ge (by omega)
theorem C_inv {a : Rat} (h : a ≠ 0) : C a * C (1 / a) = 1 := by
 rw [← C_mul, show a * (1 / a) = 1 by grind]; rfl
theorem C_mul_c (a : Rat) (p : Pol) (i : Nat) : (C a * p).c i = a * p.c i := by
 rw [c_mul]
 show co (mulQ (trimQ [a]) p.l) i = _
 rw [mulQ_congr (l' := [a]) (m' := p.l) (trim_co _) (fun _ => rfl), mulQ_cons]
 have e : sh (co (mulQ [] p.l)) i = 0 := by unfold sh; split <;> rfl
 rw [e]
 show a * p.c i + 0 = _
 grind
theorem len_Cmul {a : Rat} (h : a ≠ 0) (p : Pol) : (C a * p).len = p.len := by
 by_cases hp : p = 0
 ·subst hp; rw [mul_zero]
 ·have := len_mul (C_ne h) hp
  rw [len_C h] at this
  omega
theorem div_unique {u v u' v' q : Pol} (h : u * q + v = u' * q + v') (hv : v.len < q.len) (hv' : v'.len < q.len) : u = u' ∧ v = v' := by
 have hq : q ≠ 0 := ne_of_len (by omega)
 have h1 : (u - u') * q = v' - v := by grind
 have h2 : u - u' = 0 := by
  apply Classical.byContradiction
  intro k
  have h3 := len_mul k hq
  rw [h1] at h3
  have h4 := len_sub v' v
  have h5 := len_pos k
  omega
 have h3 : u = u' := by grind
 subst h3
 exact ⟨rfl, by grind⟩
instance : Dvd Pol := ⟨fun q p => ∃ u, p = q * u⟩
structure IsGcd (p q g : Pol) : Prop where
 m : g = 0 ∨ g.lead = 1
 l : g ∣ p
 r : g ∣ q
 s : ∃ u v, g = u * p + v * q
theorem one_ne : (1 : Pol) ≠ 0 := C_ne (a := 1) (by decide)
theorem monic_unit {a b : Pol} (h : a * b = 1) : a.len = 1 := by
 have ha : a ≠ 0 := by rintro rfl; rw [zero_mul] at h; exact one_ne h.symm
 have hb : b ≠ 0 := by rintro rfl; rw [mul_zero] at h; exact one_ne h.symm
 have h1 := len_mul ha hb
 rw [h] at h1
 have h2 : (1 : Pol).len = 1 := len_C (a := 1) (by decide)
 have := len_pos ha
 have := len_pos hb
 omega
theorem dvd_antisymm {g g' : Pol} (h1 : g = 0 ∨ g.lead = 1) (h2 : g' = 0 ∨ g'.lead = 1) (h : g ∣ g') (k : g' ∣ g) : g = g' := by
 obtain ⟨a, ha⟩ := h
 obtain ⟨b, hb⟩ := k
 by_cases hg : g = 0
 ·subst hg; rw [zero_mul] at ha; exact ha.symm
 ·have e : (a * b) * g = 1 * g := by rw [one_mul]; grind
  have e1 := mul_cancel hg e
  have ha0 : a ≠ 0 := by rintro rfl; rw [zero_mul] at e1; exact one_ne e1.symm
  have h3 := is_C (Nat.le_of_eq (monic_unit e1))
  have hg' : g' ≠ 0 := by rw [ha]; exact mul_ne hg ha0
  have h4 := lead_mul hg ha0
  rw [← ha] at h4
  have h5 : g.lead = 1 := h1.resolve_left hg
  have h6 : g'.lead = 1 := h2.resolve_left hg'
  rw [h5, h6] at h4
  have h7 : a.c 0 ≠ 0 := fun e => ha0 (by rw [h3, e]; rfl)
  have h8 : a.lead = a.c 0 := by unfold lead; rw [monic_unit e1]
  have h9 : a = 1 := by rw [h3, ← h8, show a.lead = 1 by grind]; rfl
  rw [ha, h9, mul_one]
theorem IsGcd.unique {p q g g' : Pol} (h : IsGcd p q g) (k : IsGcd p q g') : g = g' := by
 obtain ⟨a, ha⟩ := h.l
 obtain ⟨b, hb⟩ := h.r
 obtain ⟨a', ha'⟩ := k.l
 obtain ⟨b', hb'⟩ := k.r
 obtain ⟨u, v, e⟩ := h.s
 obtain ⟨u', v', e'⟩ := k.s
 exact dvd_antisymm h.m k.m ⟨u' * a + v' * b, by grind⟩ ⟨u * a' + v * b', by grind⟩
structure Same (p q a b : Pol) : Prop where
 ha : ∃ u v, a = u * p + v * q
 hb : ∃ u v, b = u * p + v * q
 hp : ∃ u v, p = u * a + v * b
 hq : ∃ u v, q = u * a + v * b
theorem Same.scale {p q : Pol} {s t : Rat} (hs : s ≠ 0) (ht : t ≠ 0) : Same p q (C s * p) (C t * q) := by
 have h1 := C_inv hs
 have h2 := C_inv ht
 exact ⟨⟨C s, 0, by grind⟩, ⟨0, C t, by grind⟩, ⟨C (1 / s), 0, by grind⟩, ⟨0, C (1 / t), by grind⟩⟩
theorem Same.step {p q a b r s : Pol} {f k : Rat} (h : Same p q a b) (hf : f ≠ 0) (hk : k ≠ 0) (e : C f * a = s * b + r) : Same p q b (C k * r) := by
 have h1 := C_inv hf
 have h2 := C_inv hk
 obtain ⟨⟨u1, v1, e1⟩, ⟨u2, v2, e2⟩, ⟨u3, v3, e3⟩, ⟨u4, v4, e4⟩⟩ := h
 refine ⟨⟨u2, v2, e2⟩, ⟨C k * (C f * u1 - s * u2), C k * (C f * v1 - s * v2), ?_⟩, ⟨u3 * C (1 / f) * s + v3, u3 * C (1 / f) * C (1 / k), ?_⟩, ⟨u4 * C (1 / f) * s + v4, u4 * C (1 / f) * C (1 / k), ?_⟩⟩
 ·have : r = C f * a - s * b := by grind
  rw [this]; grind
 ·have e5 : a = C (1 / f) * (s * b + r) := by rw [← e]; grind
  have e6 : r = C (1 / k) * (C k * r) := by grind
  grind
 ·have e5 : a = C (1 / f) * (s * b + r) := by rw [← e]; grind
  have e6 : r = C (1 / k) * (C k * r) := by grind
  grind
def monic (p : Pol) : Pol := C (1 / p.lead) * p
theorem monic_lead {p : Pol} (h : p ≠ 0) : p.monic.lead = 1 := by
 have h1 := lead_ne h
 have h2 : (1 / p.lead) ≠ 0 := by intro k; have : (1 : Rat) = (1 / p.lead) * p.lead := by grind
                                  rw [k] at this; grind
 unfold monic
 rw [lead_mul (C_ne h2) h, lead_C h2]; grind
theorem Same.gcd {p q a : Pol} (h : Same p q a 0) : IsGcd p q a.monic := by
 obtain ⟨⟨u1, v1, e1⟩, _, ⟨u3, v3, e3⟩, ⟨u4, v4, e4⟩⟩ := h
 by_cases ha : a = 0
 ·subst ha
  have e : (0 : Pol).monic = 0 := by unfold monic; rw [mul_zero]
  rw [e]
  exact ⟨.inl rfl, ⟨0, by grind⟩, ⟨0, by grind⟩, ⟨0, 0, by grind⟩⟩
 ·have h1 := lead_ne ha
  have h2 := C_inv h1
  refine ⟨.inr (monic_lead ha), ⟨u3 * C a.lead, ?_⟩, ⟨u4 * C a.lead, ?_⟩, ⟨C (1 / a.lead) * u1, C (1 / a.lead) * v1, ?_⟩⟩
  ·unfold monic; grind
  ·unfold monic; grind
  ·unfold monic
   have : C (1 / a.lead) * a = C (1 / a.lead) * (u1 * p + v1 * q) := by rw [← e1]
   rw [this]; grind
theorem mk_cons' (a : Rat) (l : List Rat) : mk' (a :: l) = C a + X * mk' l := ext fun i => by
 have hX : ∀ p : Pol, (X * p).c i = if i = 0 then 0 else p.c (i - 1) := fun p => by
  rw [c_mul]
  show co (mulQ (trimQ [0, 1]) p.l) i = _
  rw [mulQ_congr (l' := [0, 1]) (m' := p.l) (trim_co _) (fun _ => rfl), mulQ_cons]
  unfold sh
  split
  ·grind
  ·rw [mulQ_one]; show 0 * _ + p.c (i - 1) = _; grind
 rw [c_add, hX, mk_cons, c_C]
 split <;> grind
theorem ind {P : Pol → Prop} (h0 : P 0) (h1 : ∀ a p, P p → P (C a + X * p)) (p : Pol) : P p := by
 rw [← mk_l p]
 generalize p.l = l
 induction l with
 | nil => exact (zero_of_len (p := mk' []) rfl) ▸ h0
 | cons a l ih => rw [mk_cons']; exact h1 a _ ih
def D (p : Pol) : Pol := mk' (derQ p.l)
def evL : List Rat → Rat → Rat
 | [], x => 0
 | a :: l, x => a + x * evL l x
theorem evL_zero {l : List Rat} (h : ∀ i, co l i = 0) (x : Rat) : evL l x = 0 := by
 induction l with
 | nil => rfl
 | cons a l ih =>
  have h0 : a = 0 := h 0
  show a + x * evL l x = 0
  rw [ih fun i => by rw [← co_succ a]; exact h (i + 1), h0]; grind
theorem evL_congr {l m : List Rat} (h : ∀ i, co l i = co m i) (x : Rat) : evL l x = evL m x := by
 induction l generalizing m with
 | nil => rw [evL_zero (l := m) fun i => by rw [← h i, co_nil]]; rfl
 | cons a l ih =>
  cases m with
  | nil => rw [evL_zero (l := a :: l) fun i => by rw [h i, co_nil]]; rfl
  | cons b m =>
   have h0 : a = b := h 0
   show a + x * evL l x = b + x * evL m x
   have e := ih (m := m) (fun i => by have := h (i + 1); rw [co_succ, co_succ] at this; exact this)
   rw [h0, e]
def ev (p : Pol) (x : Rat) : Rat := evL p.l x
theorem mk_ev (l : List Rat) (x : Rat) : (mk' l).ev x = evL l x := evL_congr (trim_co l) x
theorem ev_zero (x : Rat) : ev 0 x = 0 := evL_zero (fun i => c_zero i) x
theorem ev_cons (a : Rat) (p : Pol) (x : Rat) : ev (C a + X * p) x = a + x * ev p x := by
 have e : C a + X * p = mk' (a :: p.l) := by rw [mk_cons', mk_l]
 rw [e, mk_ev]; rfl
theorem ev_add (p q : Pol) (x : Rat) : ev (p + q) x = ev p x + ev q x := by
 induction p using ind generalizing q with
 | h0 => rw [ev_zero, show (0 : Pol) + q = q by grind]; grind
 | h1 a p ih =>
  induction q using ind with
  | h0 => rw [ev_zero, add_zero]; grind
  | h1 b q _ =>
   have e : C a + X * p + (C b + X * q) = C (a + b) + X * (p + q) := by rw [C_add]; grind
   rw [e, ev_cons, ev_cons, ev_cons, ih]; grind
theorem ev_Cmul (a : Rat) (p : Pol) (x : Rat) : ev (C a * p) x = a * ev p x := by
 induction p using ind with
 | h0 => rw [mul_zero, ev_zero]; grind
 | h1 b p ih =>
  have e : C a * (C b + X * p) = C (a * b) + X * (C a * p) := by rw [C_mul]; grind
  rw [e, ev_cons, ev_cons, ih]; grind
theorem ev_mul (p q : Pol) (x : Rat) : ev (p * q) x = ev p x * ev q x := by
 induction p using ind with
 | h0 => rw [zero_mul, ev_zero]; grind
 | h1 a p ih =>
  have e : (C a + X * p) * q = C a * q + (C 0 + X * (p * q)) := by rw [C_zero]; grind
  rw [e, ev_add, ev_Cmul, ev_cons, ih, ev_cons]; grind
end Pol
end Nt
end Go.Proofs.YtdmpfhhhlhoeiaaGreat
namespace Go.Proofs.YtdmpfhhhlhoeiaaGreat
set_option linter.unusedVariables false
namespace Nt
theorem absQ_mul (y : Rat) : ∃ z : Int, y = absQ y * (z : Rat) ∧ absQ y = y * (z : Rat) := by
 unfold absQ
 split
 ·exact ⟨-1, by rw [show (((-1 : Int)) : Rat) = -1 from rfl]; grind, by rw [show (((-1 : Int)) : Rat) = -1 from rfl]; grind⟩
 ·exact ⟨1, by rw [show (((1 : Int)) : Rat) = 1 from rfl]; grind, by rw [show (((1 : Int)) : Rat) = 1 from rfl]; grind⟩
theorem cmn_spec (x y : Rat) : (∃ z : Int, x = cmn x y * (z : Rat)) ∧ (∃ z : Int, y = cmn x y * (z : Rat)) ∧ ∀ c : Rat, (∃ z : Int, x = c * (z : Rat)) → (∃ z : Int, y = c * (z : Rat)) → ∃ z : Int, cmn x y = c * (z : Rat) := by
 unfold cmn
 by_cases hx : x = 0
 ·rw [if_pos hx]
  obtain ⟨z, h1, h2⟩ := absQ_mul y
  refine ⟨⟨0, by rw [hx]; exact (Rat.mul_zero _).symm⟩, ⟨z, h1⟩, fun c _ ⟨v, hv⟩ => ⟨v * z, ?_⟩⟩
  rw [Rat.intCast_mul, h2]
  have e : y * (z : Rat) = c * (v : Rat) * (z : Rat) := by rw [← hv]
  rw [e]; grind
 ·rw [if_neg hx]
  by_cases hy : y = 0
  ·rw [if_pos hy]
   exact ⟨⟨1, by rw [show (((1 : Int)) : Rat) = 1 from rfl]; grind⟩, ⟨0, by rw [hy]; exact (Rat.mul_zero _).symm⟩, fun c h _ => h⟩
  ·rw [if_neg hy]
   obtain ⟨z0, h1, h2⟩ := absQ_mul (x / (((x / y).num : Int) : Rat))
   have hN := num_ne (div_ne hx hy)
   obtain ⟨hq, hD⟩ := quo_step (x := x) hy
   have hcop : Nat.gcd (x / y).num.natAbs (x / y).den = 1 := (x / y).reduced
   obtain ⟨s, t, hst⟩ := bez (x / y).num (x / y).den hcop
   generalize hn : (x / y).num = N at *
   generalize hd : ((x / y).den : Nat) = Dn at *
   have hst' : (s : Rat) * (N : Rat) + (t : Rat) * ((Dn : Int) : Rat) = 1 := by
    have h := congrArg (fun z : Int => (z : Rat)) hst
    simp only [Rat.intCast_add, Rat.intCast_mul] at h
    exact h
   generalize hw : x / (N : Rat) = w at *
   have ex : x = w * (N : Rat) := by rw [← hw]; grind
   have ey : y = w * ((Dn : Int) : Rat) := by
    have : w * (N : Rat) * ((Dn : Int) : Rat) = (N : Rat) * y := by rw [← ex]; exact hq
    grind
   refine ⟨⟨z0 * N, ?_⟩, ⟨z0 * (Dn : Int), ?_⟩, fun c ⟨a, ha⟩ ⟨b, hb⟩ => ⟨(s * a + t * b) * z0, ?_⟩⟩
   ·rw [Rat.intCast_mul]; rw [ex, h1] ; grind
   ·rw [Rat.intCast_mul]; rw [ey, h1]; grind
   ·rw [h2, Rat.intCast_mul, Rat.intCast_add, Rat.intCast_mul, Rat.intCast_mul]
    have : w = c * ((s : Rat) * (a : Rat) + (t : Rat) * (b : Rat)) := by
     have e1 : w = w * ((s : Rat) * (N : Rat) + (t : Rat) * ((Dn : Int) : Rat)) := by rw [hst']; grind
     have e2 : w * ((s : Rat) * (N : Rat) + (t : Rat) * ((Dn : Int) : Rat)) = (s : Rat) * x + (t : Rat) * y := by rw [ex, ey]; grind
     rw [e1, e2, ha, hb]; grind
    rw [this]; grind
where
 bez (N : Int) (D : Nat) (h : Nat.gcd N.natAbs D = 1) : ∃ s t : Int, s * N + t * (D : Int) = 1 := by
  have := Int.gcd_eq_gcd_ab' N D h
  exact this
 Int.gcd_eq_gcd_ab' (N : Int) (D : Nat) (h : Nat.gcd N.natAbs D = 1) : ∃ s t : Int, s * N + t * (D : Int) = 1 := by
  have key : ∀ (n a b : Nat), a + b ≤ n → ∃ s t : Int, s * (a : Int) + t * (b : Int) = (Nat.gcd a b : Int) := by
   intro n
   induction n with
   | zero => intro a b hab; exact ⟨0, 0, by have h1 : a = 0 := by omega
                                            have h2 : b = 0 := by omega
                                            subst h1; subst h2; simp⟩
   | succ n ih =>
    intro a b hab
    rcases Nat.eq_zero_or_pos a with ha | ha
    ·subst ha; exact ⟨0, 1, by simp⟩
    ·rcases Nat.eq_zero_or_pos b with hb | hb
     ·subst hb; exact ⟨1, 0, by simp⟩
     ·rcases Nat.le_total a b with hle | hle
      ·obtain ⟨s, t, e⟩ := ih a (b - a) (by omega)
       refine ⟨s - t, t, ?_⟩
       rw [Nat.gcd_sub_self_right hle] at e
       rw [← e, show ((b - a : Nat) : Int) = (b : Int) - (a : Int) by omega, Int.sub_mul, Int.mul_sub]; omega
      ·obtain ⟨s, t, e⟩ := ih (a - b) b (by omega)
       refine ⟨s, t - s, ?_⟩
       rw [Nat.gcd_sub_self_left hle] at e
       rw [← e, show ((a - b : Nat) : Int) = (a : Int) - (b : Int) by omega, Int.sub_mul, Int.mul_sub]; omega
  obtain ⟨s, t, e⟩ := key _ N.natAbs D (Nat.le_refl _)
  rw [h] at e
  rcases Int.natAbs_eq N with hN | hN
  ·exact ⟨s, t, by rw [← hN] at e; exact e⟩
  ·refine ⟨-s, t, ?_⟩
   have : ((N.natAbs : Nat) : Int) = -N := by omega
   rw [this] at e
   rw [Int.neg_mul, ← Int.mul_neg]; exact e
theorem msr_spec (l : List Rat) : (∀ x ∈ l, ∃ z : Int, x = msr l * (z : Rat)) ∧ ∀ c : Rat, (∀ x ∈ l, ∃ z : Int, x = c * (z : Rat)) → ∃ z : Int, msr l = c * (z : Rat) := by
 have key : ∀ (l : List Rat) (a : Rat), ((∃ z : Int, a = l.foldl cmn a * (z : Rat)) ∧ ∀ x ∈ l, ∃ z : Int, x = l.foldl cmn a * (z : Rat)) ∧ ∀ c : Rat, (∃ z : Int, a = c * (z : Rat)) → (∀ x ∈ l, ∃ z : Int, x = c * (z : Rat)) → ∃ z : Int, l.foldl cmn a = c * (z : Rat) := by
  intro l
  induction l with
  | nil => intro a; exact ⟨⟨⟨1, by show a = a * _; rw [show (((1 : Int)) : Rat) = 1 from rfl]; grind⟩, fun x hx => by cases hx⟩, fun c h _ => h⟩
  | cons b l ih =>
   intro a
   obtain ⟨⟨⟨z, hz⟩, h2⟩, h3⟩ := ih (cmn a b)
   obtain ⟨⟨z1, e1⟩, ⟨z2, e2⟩, h4⟩ := cmn_spec a b
   refine ⟨⟨⟨z * z1, ?_⟩, fun x hx => ?_⟩, fun c ha hl => ?_⟩
   ·show a = l.foldl cmn (cmn a b) * _
    rw [Rat.intCast_mul, ← Rat.mul_assoc, ← hz]; exact e1
   ·rcases List.mem_cons.1 hx with rfl | hx
    ·exact ⟨z * z2, by show x = l.foldl cmn (cmn a x) * _; rw [Rat.intCast_mul, ← Rat.mul_assoc, ← hz]; exact e2⟩
    ·exact h2 x hx
   ·exact h3 c (h4 c ha (hl b (List.mem_cons_self ..))) (fun x hx => hl x (List.mem_cons_of_mem _ hx))
 obtain ⟨⟨_, h1⟩, h2⟩ := key l 0
 exact ⟨h1, fun c hc => h2 c ⟨0, (Rat.mul_zero c).symm⟩ hc⟩
def prim (l : List Rat) : List Rat := (trimQ l).map (· / msr (trimQ l))
@[simp] theorem prim_len (l : List Rat) : (prim l).length = (trimQ l).length := by simp [prim]
theorem prim_co (l : List Rat) (i : Nat) : co (prim l) i = co l i / msr (trimQ l) := by
 unfold prim
 rw [co_map _ (by rw [Rat.div_def, Rat.zero_mul]), trim_co]
theorem co_mem {l : List Rat} {i : Nat} (h : i < l.length) : co l i ∈ l := by
 unfold co
 rw [List.getD_eq_getElem?_getD, List.getElem?_eq_getElem h]
 exact List.getElem_mem h
theorem msr_ne' {l : List Rat} (h : trimQ l ≠ []) : msr (trimQ l) ≠ 0 := msr_ne (trim_nrm l) (by cases e : trimQ l with | nil => exact absurd e h | cons a m => simp)
theorem prim_whole (l : List Rat) (i : Nat) : ∃ z : Int, co (prim l) i = (z : Rat) := by
 by_cases hi : i < (trimQ l).length
 ·have hm := msr_ne' (l := l) (by intro e; rw [e] at hi; simp at hi)
  obtain ⟨z, hz⟩ := (msr_spec (trimQ l)).1 _ (co_mem hi)
  refine ⟨z, ?_⟩
  rw [prim_co, ← trim_co, hz]; grind
 ·exact ⟨0, by rw [co_ge (by simp; omega)]; rfl⟩
theorem prim_nrm (l : List Rat) : Nrm (prim l) := by
 refine nrm_of fun h k => ?_
 have ht : trimQ l ≠ [] := fun e => h (by unfold prim; rw [e]; rfl)
 have hm := msr_ne' ht
 have hn := nrm_last (trim_nrm l) ht
 rw [prim_len, prim_co, ← trim_co] at k
 apply hn
 have : co (trimQ l) ((trimQ l).length - 1) = co (trimQ l) ((trimQ l).length - 1) / msr (trimQ l) * msr (trimQ l) := by grind
 rw [this, k]; grind
theorem dl_bits {n K : Nat} (h : dl n ≤ K) : n ≤ 2 ^ (32 * K) := by
 have h1 := dl_lt (x := n)
 have h2 := pw_mono h
 rw [pwTwo K] at h2
 have h3 : (n : Int) < ((2 ^ (32 * K) : Nat) : Int) := by omega
 exact Nat.le_of_lt (Int.ofNat_lt.1 h3)
theorem prim_bits {l W : List Rat} {c : Rat} {A : Nat} (hc : c ≠ 0) (h : ∀ i, co l i = c * co W i) (hW : WhL W A) : WhL (prim l) A := fun i => by
 by_cases ht : trimQ l = []
 ·have : co (prim l) i = 0 := by rw [prim_co, trim_nil_iff.1 ht i]; grind
  rw [this]; exact Wh.zero A
 ·have hm := msr_ne' ht
  obtain ⟨g, hg⟩ := (msr_spec (trimQ l)).2 c (fun x hx => by
   obtain ⟨j, hj, e⟩ := List.getElem_of_mem hx
   have e2 : x = co l j := by rw [← trim_co]; unfold co; rw [List.getD_eq_getElem?_getD, List.getElem?_eq_getElem hj, ← e]; rfl
   obtain ⟨z, hz, _⟩ := hW j
   exact ⟨z, by rw [e2, h j, hz]⟩)
  obtain ⟨z, hz⟩ := prim_whole l i
  obtain ⟨v, hv, hb⟩ := hW i
  have hg0 : g ≠ 0 := by rintro rfl; apply hm; rw [hg]; exact Rat.mul_zero c
  have e : (v : Rat) = ((z * g : Int) : Rat) := by
   rw [Rat.intCast_mul, ← hz, prim_co, h i, hv, hg]
   have : (g : Rat) ≠ 0 := fun k => hg0 (Rat.intCast_inj.1 (by rw [k]; rfl))
   grind
  have e2 := Rat.intCast_inj.1 e
  refine ⟨z, hz, Nat.le_trans ?_ hb⟩
  rw [e2, Int.natAbs_mul]
  exact Nat.le_mul_of_pos_right _ (Int.natAbs_pos.2 hg0)
theorem mk_map (l : List Rat) (c : Rat) : Pol.mk' (l.map (· * c)) = Pol.C c * Pol.mk' l := Pol.ext fun i => by
 rw [Pol.C_mul_c, Pol.mk_c, Pol.mk_c, co_map _ (Rat.zero_mul c)]; grind
theorem prim_mk' (l : List Rat) : ∃ k : Rat, k ≠ 0 ∧ Pol.mk' (prim l) = Pol.C k * Pol.mk' l := by
 by_cases h : trimQ l = []
 ·refine ⟨1, by decide, Pol.ext fun i => ?_⟩
  rw [Pol.C_mul_c, Pol.mk_c, Pol.mk_c, prim_co, trim_nil_iff.1 h i]; grind
 ·have hm := msr_ne' h
  refine ⟨1 / msr (trimQ l), fun k => ?_, Pol.ext fun i => ?_⟩
  ·have : (1 : Rat) = 1 / msr (trimQ l) * msr (trimQ l) := by grind
   rw [k] at this; grind
  ·rw [Pol.C_mul_c, Pol.mk_c, Pol.mk_c, prim_co]; grind
theorem DivR.pol {p q s t : List Rat} {f : Rat} (h : DivR p q s t f) : Pol.C f * Pol.mk' p = Pol.mk' s * Pol.mk' q + Pol.mk' t := Pol.ext fun i => by
 rw [Pol.C_mul_c, Pol.mk_c, h.eq i, Pol.c_add, ← Pol.mk_mul, Pol.mk_c, Pol.mk_c]
theorem mk_len (l : List Rat) : (Pol.mk' l).len ≤ l.length := zzg l
theorem mk_len_nrm {l : List Rat} (h : Nrm l) : (Pol.mk' l).len = l.length := congrArg List.length h
theorem prim_same (l m : List Rat) : Pol.Same (Pol.mk' l) (Pol.mk' m) (Pol.mk' (prim l)) (Pol.mk' (prim m)) := by
 obtain ⟨k, h1, h2⟩ := prim_mk' l
 obtain ⟨k', h3, h4⟩ := prim_mk' m
 rw [h2, h4]
 exact Pol.Same.scale h1 h3
theorem same_step {p q : Pol} {a b s t : List Rat} {f : Rat} (h : Pol.Same p q (Pol.mk' a) (Pol.mk' b)) (hd : DivR a b s t f) : Pol.Same p q (Pol.mk' b) (Pol.mk' (prim t)) := by
 obtain ⟨k, h1, h2⟩ := prim_mk' t
 rw [h2]
 exact h.step hd.f0 h1 hd.pol
theorem prim_of_wh {t : List Rat} {A : Nat} (h : WhL t A) : WhL (prim t) A := prim_bits (c := 1) (by decide) (fun i => (Rat.one_mul _).symm) h
theorem monic_scaled (l : List Rat) : ∃ k : Rat, k ≠ 0 ∧ ∀ i, co (Pol.mk' l).monic.l i = k * co l i := by
 by_cases h : Pol.mk' l = 0
 ·refine ⟨1, by decide, fun i => ?_⟩
  have e : co l i = 0 := by rw [← Pol.mk_c, h, Pol.c_zero]
  have e2 : (Pol.mk' l).monic = 0 := by unfold Pol.monic; rw [h, Pol.mul_zero]
  show (Pol.mk' l).monic.c i = _
  rw [e2, Pol.c_zero, e]; grind
 ·have h1 := Pol.lead_ne h
  refine ⟨1 / (Pol.mk' l).lead, fun k => ?_, fun i => ?_⟩
  ·have : (1 : Rat) = 1 / (Pol.mk' l).lead * (Pol.mk' l).lead := by grind
   rw [k] at this; grind
  ·show (Pol.mk' l).monic.c i = _
   unfold Pol.monic
   rw [Pol.C_mul_c, Pol.mk_c]
theorem mk_trim (l : List Rat) : Pol.mk' (trimQ l) = Pol.mk' l := Pol.mk_eq.2 (trim_trim l)
def IsSqf (p s : Pol) : Prop := (p = 0 ∧ s = 0) ∨ (p ≠ 0 ∧ ∃ g q, Pol.IsGcd p p.D g ∧ g ≠ 0 ∧ p = q * g ∧ s = q.monic)
theorem IsSqf.unique {p s t : Pol} (h : IsSqf p s) (k : IsSqf p t) : s = t := by
 rcases h with ⟨h1, h2⟩ | ⟨h1, g, q, h2, h3, h4, h5⟩
 ·rcases k with ⟨k1, k2⟩ | ⟨k1, _⟩
  ·rw [h2, k2]
  ·exact absurd h1 k1
 ·rcases k with ⟨k1, k2⟩ | ⟨k1, g', q', k2, k3, k4, k5⟩
  ·exact absurd k1 h1
  ·have e := h2.unique k2
   subst e
   have e2 := Pol.mul_cancel h3 (h4.symm.trans k4)
   rw [h5, k5, e2]
def pot (la lb : Nat) : Nat := la + lb + (if lb < la then 0 else if la = lb then 1 else 2)
theorem three_pow {k : Nat} (h : 2 ≤ k) : (k + 1) * (k + 1) ≤ 3 ^ k := by
 induction k with
 | zero => omega
 | succ k ih =>
  by_cases e : k = 1
  ·subst e; decide
  ·have := ih (by omega)
   rw [Nat.pow_succ]
   have h1 : (k + 1 + 1) * (k + 1 + 1) ≤ (k + 1) * (k + 1) * 3 := by
    have : (k + 1 + 1) * (k + 1 + 1) = (k + 1) * (k + 1) + 2 * (k + 1) + 1 := by grind
    have h2 : 2 * (k + 1) + 1 ≤ 2 * ((k + 1) * (k + 1)) := by
     have : (k + 1) * 2 ≤ (k + 1) * (k + 1) := Nat.mul_le_mul_left _ (by omega)
     omega
    omega
   omega
theorem pot_step {la lb lr A H : Nat} (h : (A + 1) * (A + 1) * 3 ^ pot la lb ≤ H * H) (hr : lr < lb) (hr2 : lr ≤ la) :
  (A + (la - lb + 1) * (A + 1) + 1) * (A + (la - lb + 1) * (A + 1) + 1) * 3 ^ pot lb lr ≤ H * H := by
 have e : A + (la - lb + 1) * (A + 1) + 1 = (la - lb + 1 + 1) * (A + 1) := by rw [Nat.succ_mul (la - lb + 1)]; omega
 have hp : pot lb lr = lb + lr := by unfold pot; rw [if_pos hr]; rfl
 rw [e, hp]
 refine Nat.le_trans ?_ h
 have key : (la - lb + 1 + 1) * (la - lb + 1 + 1) * 3 ^ (lb + lr) ≤ 3 ^ pot la lb := by
  by_cases c : lb < la
  ·have h1 := three_pow (k := la - lb + 1) (by omega)
   have h2 : 3 ^ (la - lb + 1) * 3 ^ (lb + lr) ≤ 3 ^ pot la lb := by
    rw [← Nat.pow_add]
    refine Nat.pow_le_pow_right (by omega) ?_
    unfold pot; rw [if_pos c]; omega
   exact Nat.le_trans (Nat.mul_le_mul_right _ h1) h2
  ·have e1 : la - lb = 0 := by omega
   rw [e1]
   have h2 : 3 ^ 2 * 3 ^ (lb + lr) ≤ 3 ^ pot la lb := by
    rw [← Nat.pow_add]
    refine Nat.pow_le_pow_right (by omega) ?_
    unfold pot; rw [if_neg c]; split <;> omega
   exact Nat.le_trans (Nat.mul_le_mul_right _ (by decide)) h2
 calc (la - lb + 1 + 1) * (A + 1) * ((la - lb + 1 + 1) * (A + 1)) * 3 ^ (lb + lr)
   = (A + 1) * (A + 1) * ((la - lb + 1 + 1) * (la - lb + 1 + 1) * 3 ^ (lb + lr)) := by grind
  _ ≤ (A + 1) * (A + 1) * 3 ^ pot la lb := Nat.mul_le_mul_left _ key
theorem pot_le {la lb A H : Nat} (h : (A + 1) * (A + 1) * 3 ^ pot la lb ≤ H * H) : A + 1 ≤ H := by
 apply Classical.byContradiction
 intro k
 have h1 : 1 ≤ 3 ^ pot la lb := Nat.pow_pos (by omega)
 have h2 : (A + 1) * (A + 1) * 1 ≤ (A + 1) * (A + 1) * 3 ^ pot la lb := Nat.mul_le_mul_left _ h1
 have h3 : (H + 1) * (H + 1) ≤ (A + 1) * (A + 1) := Nat.mul_le_mul (by omega) (by omega)
 have h4 : (H + 1) * (H + 1) = H * H + 2 * H + 1 := by grind
 omega
end Nt
end Go.Proofs.YtdmpfhhhlhoeiaaGreat
namespace Go.Proofs.YtdmpfhhhlhoeiaaGreat
open Go.RowKit Go.ChangeShapes Go.WideShapes
set_option linter.unusedVariables false
namespace Nt
def Sm (l : List Rat) (D A : Nat) : Prop := 0 < D ∧ ∀ i, Wh (co l i * ((D : Int) : Rat)) A
section
variable {l m : List Rat} {D E A B K : Nat} {q : Rat}
theorem dz (h : 0 < D) : ((D : Int) : Rat) ≠ 0 := fun e => by
 have := Rat.intCast_inj.1 (show ((D : Int) : Rat) = ((0 : Int) : Rat) from e); omega
theorem Sm.more (h : Sm l D A) (k : A ≤ B) : Sm l D B := ⟨h.1, fun i => (h.2 i).more k⟩
theorem Sm.co (h : Sm l D A) (e : ∀ i, co m i = co l i) : Sm m D A := ⟨h.1, fun i => by rw [e]; exact h.2 i⟩
theorem Sm.trim (h : Sm l D A) : Sm (trimQ l) D A := h.co (trim_co l)
theorem Sm.prim (h : Sm l D A) : WhL (prim l) A := by
 have h0 := dz h.1
 refine prim_bits (c := 1 / ((D : Int) : Rat)) (W := l.map (· * ((D : Int) : Rat))) (by grind) (fun i => ?_) (fun i => ?_)
 ·rw [co_map (fun x => x * ((D : Int) : Rat)) (Rat.zero_mul _)]; grind
 ·rw [co_map (fun x => x * ((D : Int) : Rat)) (Rat.zero_mul _)]; exact h.2 i
theorem dl_dg {n C : Nat} (h : n ≤ 2 ^ C) : dl n ≤ dg C := by
 refine dl_le ?_
 rw [pwTwo]
 exact Int.ofNat_lt.2 (Nat.lt_of_le_of_lt h (Nat.pow_lt_pow_right (by omega) (by unfold dg; omega)))
theorem wh_rs {x : Rat} (h0 : 0 < D) (h : Wh (x * ((D : Int) : Rat)) A) (hD : D ≤ 2 ^ A) : rs x ≤ dg A := by
 obtain ⟨z, hz, hb⟩ := h
 have h1 := dz h0
 have e : x = mkRat z D := by rw [← mk_div, ← hz]; grind
 rw [e]
 exact rs_mk (dl_dg hb) (dl_dg hD) (by unfold dg; omega)
theorem Sm.rs (h : Sm l D A) (hD : D ≤ 2 ^ A) (i : Nat) : rs (Nt.co l i) ≤ dg A := wh_rs h.1 (h.2 i) hD
theorem WhL.mulQ (h : WhL l A) (k : WhL m B) : WhL (mulQ l m) (A + B + l.length) := by
 induction l with
 | nil => exact fun i => by rw [mulQ_nil]; exact Wh.zero _
 | cons a l ih =>
  intro i
  rw [mulQ_cons]
  have h0 : Wh a A := by have := h 0; rwa [co_zero] at this
  have h1 : WhL l A := fun i => by have := h (i + 1); rwa [co_succ] at this
  have e : A + B + (a :: l).length = A + B + l.length + 1 := by simp; omega
  rw [e]
  refine ((h0.mul (k i)).more (by omega)).add ?_
  unfold sh
  split
  ·exact Wh.zero _
  ·exact ih h1 _
theorem Sm.mul (h : Sm l D A) (k : Sm m E B) : Sm (mulQ l m) (D * E) (A + B + l.length) := by
 refine ⟨Nat.mul_pos h.1 k.1, fun i => ?_⟩
 have h1 : WhL (l.map (((D : Int) : Rat) * ·)) A := fun i => by rw [co_map (fun x => ((D : Int) : Rat) * x) (Rat.mul_zero _), Rat.mul_comm]; exact h.2 i
 have h2 : WhL (m.map (((E : Int) : Rat) * ·)) B := fun i => by rw [co_map (fun x => ((E : Int) : Rat) * x) (Rat.mul_zero _), Rat.mul_comm]; exact k.2 i
 have h3 := h1.mulQ h2 i
 rw [mulQ_scale_l, mulQ_scale_r, List.length_map] at h3
 rw [show Nt.co (mulQ l m) i * (((D * E : Nat) : Int) : Rat) = ((D : Int) : Rat) * (((E : Int) : Rat) * Nt.co (mulQ l m) i) by rw [show (((D * E : Nat) : Int) : Rat) = ((D : Int) : Rat) * ((E : Int) : Rat) by rw [← Rat.intCast_mul]; simp]; grind]
 exact h3
theorem Sm.mulR (h : Sm l D A) (k : Sm m E B) : Sm (mulQ l m) (D * E) (A + B + m.length) := by
 have h9 := (k.mul h).co (m := mulQ l m) (fun i => Pol.mulQ_comm l m i)
 rw [Nat.mul_comm D E, Nat.add_comm A B]
 exact h9
theorem Sm.add (h : Sm l D A) (k : Sm m D A) : Sm (addQ l m) D (A + 1) := ⟨h.1, fun i => by
 rw [addQ_co, show (Nt.co l i + Nt.co m i) * ((D : Int) : Rat) = Nt.co l i * ((D : Int) : Rat) + Nt.co m i * ((D : Int) : Rat) by grind]
 exact (h.2 i).add (k.2 i)⟩
theorem natMul {x : Rat} (D E : Nat) : x * (((D * E : Nat) : Int) : Rat) = x * ((D : Int) : Rat) * ((E : Int) : Rat) := by
 rw [show (((D * E : Nat) : Int) : Rat) = ((D : Int) : Rat) * ((E : Int) : Rat) by rw [← Rat.intCast_mul]; simp]; grind
theorem Sm.map (h : Sm l D A) (hE : 0 < E) (k : Wh (q * ((E : Int) : Rat)) B) : Sm (l.map (· * q)) (D * E) (A + B) := ⟨Nat.mul_pos h.1 hE, fun i => by
 rw [co_map (fun x => x * q) (Rat.zero_mul q), natMul, show Nt.co l i * q * ((D : Int) : Rat) * ((E : Int) : Rat) = (Nt.co l i * ((D : Int) : Rat)) * (q * ((E : Int) : Rat)) by grind]
 exact (h.2 i).mul k⟩
theorem whNat {n b : Nat} (h : n ≤ 2 ^ b) : Wh (((n : Nat) : Int) : Rat) b := ⟨(n : Int), rfl, by simpa using h⟩
theorem whInt {z : Int} {b : Nat} (h : z.natAbs ≤ 2 ^ b) : Wh (z : Rat) b := ⟨z, rfl, h⟩
theorem Sm.over {b : Nat} (h : Sm l D A) (hE : 0 < E) (hb : E ≤ 2 ^ b) : Sm l (D * E) (A + b) := ⟨Nat.mul_pos h.1 hE, fun i => by
 rw [natMul]; exact (h.2 i).mul (whNat hb)⟩
theorem Sm.ofInts {zs : List Int} (h : ∀ z ∈ zs, z.natAbs ≤ 2 ^ A) : Sm (List.map (fun z : Int => (z : Rat)) zs) 1 A := ⟨by omega, fun i => by
 rw [show ((((1 : Nat) : Int)) : Rat) = 1 from rfl, Rat.mul_one]
 unfold Nt.co
 rw [List.getD_eq_getElem?_getD, List.getElem?_map]
 cases e : zs[i]? with
 | none => exact Wh.zero _
 | some z => exact whInt (h z (List.mem_of_getElem? e))⟩
theorem Sm.nil (hD : 0 < D) : Sm [] D A := ⟨hD, fun i => by rw [co_nil, Rat.zero_mul]; exact Wh.zero _⟩
theorem Sm.ofAll (hD : 0 < D) (h : ∀ x ∈ l, Wh (x * ((D : Int) : Rat)) A) : Sm l D A := ⟨hD, fun i => by
 by_cases hi : i < l.length
 ·exact h _ (co_mem hi)
 ·rw [co_ge (by omega), Rat.zero_mul]; exact Wh.zero _⟩
theorem Sm.any : ∀ {l : List Rat}, (∀ x ∈ l, Nt.rs x ≤ K) → ∃ D, D ≤ 2 ^ (32 * K * l.length) ∧ Sm l D (32 * K * (l.length + 1))
 | [], _ => ⟨1, Nat.one_le_two_pow, Sm.nil (by omega)⟩
 | a :: l, h => by
  obtain ⟨D, hD, hs⟩ := Sm.any (l := l) (fun x hx => h x (List.mem_cons_of_mem _ hx))
  have ha := h a (List.mem_cons_self ..)
  have hd : a.den ≤ 2 ^ (32 * K) := dl_bits (by unfold Nt.rs at ha; omega)
  have hn : a.num.natAbs ≤ 2 ^ (32 * K) := dl_bits (by unfold Nt.rs at ha; omega)
  refine ⟨a.den * D, ?_, Nat.mul_pos (den_pos a) hs.1, fun i => ?_⟩
  ·rw [List.length_cons, Nat.mul_add, Nat.mul_one, Nat.pow_add, Nat.mul_comm]
   exact Nat.mul_le_mul hD hd
  ·cases i with
   | zero =>
    rw [co_zero, natMul]
    have e : a * ((a.den : Int) : Rat) = (a.num : Rat) := by
     have h1 := dz (den_pos a)
     have h2 : mkRat a.num a.den = a := Rat.mkRat_self a
     rw [← mk_div] at h2
     grind
    rw [e]
    refine ((whInt hn).mul (whNat hD)).more ?_
    rw [List.length_cons, Nat.mul_add, Nat.mul_add]; omega
   | succ i =>
    rw [co_succ, Nat.mul_comm, natMul]
    refine ((hs.2 i).mul (whNat hd)).more ?_
    rw [List.length_cons, Nat.mul_add, Nat.mul_add, Nat.mul_add]; omega
end
end Nt
section
variable {u : World} {x : Sl} {l : List Rat} {D A K : Nat}
theorem RatsN.fitS {L : List RL} (h : RatsN u L l K) (s : Nt.Sm l D A) (hD : D ≤ 2 ^ A) : RatsN u L l (Nt.dg A) := ⟨h.1, fun i hi => (h.2 i hi).fit (s.rs hD i)⟩
theorem PolN.fitS (h : PolN u x l K) (s : Nt.Sm l D A) (hD : D ≤ 2 ^ A) : PolN u x l (Nt.dg A) := by obtain ⟨L, h1, h2⟩ := h; exact ⟨L, h1, h2.fitS s hD⟩
theorem PolV.all (h : PolV u x l K) : ∀ q ∈ l, Nt.rs q ≤ K := by
 obtain ⟨L, h1, h2⟩ := h
 intro q hq
 obtain ⟨j, hj, e⟩ := List.getElem_of_mem hq
 have h9 := (h2.2 j hj).rs
 rw [List.getD_eq_getElem?_getD, List.getElem?_eq_getElem hj, Option.getD_some, e] at h9
 exact h9
end
section
variable {H : Type} {enc : TypeId × Value → H} {w : World} {base : Nat} {spare : Nat → Bool} {held : Bool} {fuel : Nat} {r0 : Reach} {b0 : Nat} {v : Value} {d : DataW H} {p : List MemPlace}
set_option maxRecDepth 100000 in
theorem ar_intsv (hv : Value.okWide Tryz.prog w r0 b0 22 v) (h : DataW.Trod enc Tryz.prog w base spare held 22 v d p) : ∃ (s : Sl) (l : List Int), v = s.v ∧ SlR .i64 w s.a s.n s.c l ∧ ∀ z ∈ l, -9223372036854775808 ≤ z ∧ z ≤ 9223372036854775807 := by
 obtain ⟨a, n, c, rfl⟩ := okWide_slice Tryz.underlying22 hv
 obtain ⟨fuel, hf⟩ := h
 obtain ⟨s, l, h1, h2, h3⟩ := ar_slr (k := .i64) (e := 3) (by kernel_rfl) (by kernel_rfl) (by kernel_rfl) hf
 have h1 : [Value.slice a n c] = [s.v] := h1
 exact ⟨s, l, (List.cons.inj h1).1, h2, fun z hz => wf_i64 (h3 z hz)⟩
end
end Go.Proofs.YtdmpfhhhlhoeiaaGreat
namespace Go.Proofs.YtdmpfhhhlhoeiaaGreat
open Go.RowKit
set_option linter.unusedVariables false
structure PL where
 o : Int
 g : Int
 h : Int
def PL.cs (p : PL) : List Value := [.int .i64 p.o, .int .i64 p.g, .int .i64 p.h]
@[reducible] def PL.v (p : PL) : Value := .agg #[.int .i64 p.o, .int .i64 p.g, .int .i64 p.h]
def pcs (L : List PL) : List Value := L.flatMap PL.cs
section
variable {u u' w w' : World} {L M : List PL} {p : PL} {n i c b off K : Nat} {x y : Sl}
theorem pcs_cons : pcs (p :: L) = p.cs ++ pcs L := rfl
theorem pcs_len : (pcs L).length = L.length * 3 := by
 induction L with
 | nil => rfl
 | cons p L ih => rw [pcs_cons, List.length_append, ih, List.length_cons]; simp [PL.cs]; omega
def PasV (u : World) (x : Sl) (L : List PL) : Prop := SlC u x (pcs L)
theorem PasV.ext (h : PasV u x L) (e : Ext u u') : PasV u' x L := SlC.ext h e
theorem PasV.len (h : PasV u x L) : x.n = L.length := by
 have h1 := h.1
 rw [pcs_len] at h1; omega
theorem ints_data {cs : List Value} {t : TypeId} {l : List Int} (h : u.heap[b]? = some (.cells cs.toArray t (0, 0))) (hc : cs.take n = l.map (Value.int .i64)) (hl : cs.length = c) (hn : n ≤ c) (hm : c ≤ maxLen) : SlR .i64 u (some ⟨b, 0, none⟩) n c l := by
 have hlen : l.length = n := by have h9 := congrArg List.length hc; simp at h9; omega
 refine ⟨hlen, hn, hm, fun hp => ⟨b, 0, rfl, lt_of_get h, fun i hi => ?_⟩⟩
 rw [Nat.zero_add, cells_at h]
 have h9 : (cs.take n)[i]? = (l.map (Value.int .i64))[i]? := by rw [hc]
 rw [List.getElem?_take_of_lt hi, List.getElem?_map, List.getElem?_eq_getElem (by omega : i < l.length)] at h9
 simp
 rw [h9, List.getElem?_eq_getElem (by omega : i < l.length)]
 rfl
end
section
variable {P : Program} {ops : Array Oper} {w0 : Base} {u0 : World} {S : St} {u u' w : World} {o : Oper} {p : List Tmp} {seq : Bool} {rest : List (Oper × List Tmp)} {K : St → World → Prop}
theorem sy_conv (d : Tmp) {src dst : TypeId} {x : Operand} {k0 k : IntKind} {n : Int} (v : Int) (hT : ∀ w, (convert src dst (.int k0 n)).run P w = .ok (.int k (k.wrap n)) w) (hv : k.wrap n = v) (kk : sym P ops w0 u0 seq rest (S.set d (.v (.int k v))) u K) (hw : Wants ops o S := by exact wants0 (by kernel_rfl)) (hd : o.dst = some d := by kernel_rfl) (hop : o.op = .convert src dst x := by rfl) (hf : freeB S d = true := by kernel_rfl)
  (hx : evO S x = some (.v (.int k0 n)) := by rfl) : sym P ops w0 u0 seq ((o, p) :: rest) S u K := by
 subst hv
 refine .inl ⟨by rw [hop]; exact (by decide : (0 : Nat) ≠ 2), .set (.v (.int k (k.wrap n))), ⟨free_of hd hf, .inl ⟨(fun t ht => by cases ht), fun B a w u' hr he hdt => ⟨hw B a hr, ?_⟩⟩⟩, ?_⟩
 ·have e1 : (execOp a.eval o).run P w = (do pure (Next.value (← convert src dst (a.eval x))) : Sem Next).run P w := by unfold execOp; rw [hop]
  rw [e1, ev_eval hr hx]
  exact run_val (hT w)
 ·show sym P ops w0 u0 seq rest (S.put o.dst (some _)) u K
  rw [hd]; exact kk
end
section
variable {u u' : World} {A : Option Addr} {n c i : Nat} {l : List Int} {k : IntKind}
theorem ints_at (h : SlR k u A n c l) (hi : i < n) : ∃ b o, A = some ⟨b, o, none⟩ ∧ u.cell? ⟨b, o + i * 1, none⟩ = some (.int k (l.getD i 0)) := by
 obtain ⟨h1, h2, h3, h4⟩ := h
 obtain ⟨b, o, e, _, hc⟩ := h4 (by omega)
 exact ⟨b, o, e, by rw [Nat.mul_one]; exact hc i hi⟩
theorem ints_bd {lo hi : Int} (h : ∀ z ∈ l, lo ≤ z ∧ z ≤ hi) (h0 : lo ≤ 0 ∧ 0 ≤ hi) (i : Nat) : lo ≤ l.getD i 0 ∧ l.getD i 0 ≤ hi := by
 rw [List.getD_eq_getElem?_getD]
 cases e : l[i]? with
 | none => exact h0
 | some z => exact h z (List.mem_of_getElem? e)
end
structure WL where
 b : Int
 f : Int
 r : Int
 o : Int
@[reducible] def WL.v (w : WL) : Value := .agg #[.int .i64 w.b, .int .i64 w.f, .int .i64 w.r, .int .i64 w.o]
def WL.cs (w : WL) : List Value := [.int .i64 w.b, .int .i64 w.f, .int .i64 w.r, .int .i64 w.o]
def WdOK (w : WL) : Prop := 4 ≤ w.b ∧ w.b ≤ 24 ∧ 0 ≤ w.f ∧ w.f < w.b ∧ 1 ≤ w.r ∧ w.r ≤ 3 ∧ 1 ≤ w.o ∧ w.o ≤ 2
def CoefOK (w : WL) : Prop := 6 ≤ w.b ∧ w.b ≤ 9 ∧ 3 ≤ w.f ∧ w.f + 2 ≤ w.b ∧ 1 ≤ w.r ∧ w.r ≤ 3 ∧ 1 ≤ w.o ∧ w.o ≤ 2
theorem CoefOK.ok {w : WL} (h : CoefOK w) : WdOK w := by unfold CoefOK at h; unfold WdOK; omega
namespace Nt
def p2i (n : Int) : Int := 2 ^ n.toNat
theorem p2i_pos (n : Int) : 0 < p2i n := Int.pow_pos (by decide)
theorem p2i_mono {a b : Int} (h : a ≤ b) : p2i a ≤ p2i b := by
 unfold p2i
 have h1 : 2 ^ a.toNat ≤ 2 ^ b.toNat := Nat.pow_le_pow_right (by decide) (by omega)
 have h2 : ((2 ^ a.toNat : Nat) : Int) ≤ ((2 ^ b.toNat : Nat) : Int) := Int.ofNat_le.2 h1
 simpa using h2
theorem p2i_24 {n : Int} (h : n ≤ 24) : p2i n ≤ 16777216 := p2i_mono (b := 24) h
end Nt
section
variable {P : Program} {w0 : Base} {u0 u w : World} {S : St} {ops : Array Oper} {o : Oper} {p : List Tmp} {seq : Bool} {rest : List (Oper × List Tmp)} {K : St → World → Prop}
theorem run_shl {T : TypeId} {k yk : IntKind} {n s : Int} {x y : Operand} (h0 : 0 ≤ s) (h1 : s ≤ k.bits) : (do eqGuard .shl T x y (.int k n) (.int yk s); binOp .shl T (.int k n) (.int yk s) : Sem Value).run P w = .ok (.int k (k.wrap (n * 2 ^ s.toNat))) w := by
 simp [eqGuard, binOp, shift_shl k yk n s h0 h1, go_sem]
theorem sy_shl (d : Tmp) {T T2 : TypeId} {x y : Operand} {k yk : IntKind} {n s : Int} (v : Int) (h0 : 0 ≤ s) (h1 : s ≤ k.bits) (hv : k.wrap (n * 2 ^ s.toNat) = v) (kk : sym P ops w0 u0 seq rest (S.set d (.v (.int k v))) u K) (hw : Wants ops o S := by exact wants0 (by kernel_rfl)) (hd : o.dst = some d := by kernel_rfl) (hop : o.op = .binOp .shl T x y T2 := by rfl) (hf : freeB S d = true := by kernel_rfl)
  (hx : evO S x = some (.v (.int k n)) := by rfl) (hy : evO S y = some (.v (.int yk s)) := by rfl) : sym P ops w0 u0 seq ((o, p) :: rest) S u K := by
 subst hv
 refine .inl ⟨by rw [hop]; exact (by decide : (0 : Nat) ≠ 2), .set (.v (.int k (k.wrap (n * 2 ^ s.toNat)))), ⟨free_of hd hf, .inl ⟨(fun t ht => by cases ht), fun B a w u' hr he hdt => ⟨hw B a hr, ?_⟩⟩⟩, ?_⟩
 ·have e1 : (execOp a.eval o).run P w = (do pure (Next.value (← (do eqGuard .shl T x y (a.eval x) (a.eval y); binOp .shl T (a.eval x) (a.eval y)))) : Sem Next).run P w := by unfold execOp; rw [hop]
  rw [e1, ev_eval hr hx, ev_eval hr hy]
  exact run_val (run_shl h0 h1)
 ·show sym P ops w0 u0 seq rest (S.put o.dst (some _)) u K
  rw [hd]; exact kk
end
theorem shl_one {n : Int} (h0 : 0 ≤ n) (h1 : n ≤ 24) : IntKind.i64.wrap (1 * 2 ^ n.toNat) = Nt.p2i n := by
 have h2 := Nt.p2i_24 h1
 have h3 := Nt.p2i_pos n
 rw [Int.one_mul]
 exact IntWalk.i64_in _ (by unfold Nt.p2i at *; omega)
theorem mod_pos9 (m : Int) (hm : 1 ≤ m) (n : Int) (h : decide (Int.tmod n m < 0) = false) : Int.tmod n m = n % m := by
 have h := of_decide_eq_false h
 rcases Int.lt_or_le n 0 with hn | hn
 ·have e := Int.tmod_add_mul_tdiv n m
  have h2 : -m < Int.tmod n m := Int.lt_tmod_of_pos n (by omega)
  have h3 : Int.tmod n m ≤ 0 := by
   have h8 := Int.neg_tmod n m
   have h9 : Int.tmod (-n) m = (-n) % m := Int.tmod_eq_emod_of_nonneg (by omega)
   have h10 := Int.emod_nonneg (-n) (show m ≠ 0 by omega)
   omega
  have h4 : Int.tmod n m = 0 := by omega
  rw [h4] at e ⊢
  have : m ∣ n := ⟨n.tdiv m, by omega⟩
  exact (Int.emod_eq_zero_of_dvd this).symm
 ·exact Int.tmod_eq_emod_of_nonneg hn
theorem mod_neg9 (m : Int) (hm : 1 ≤ m) (n : Int) (h : decide (Int.tmod n m < 0) = true) : Int.tmod n m + m = n % m := by
 have h := of_decide_eq_true h
 have e := Int.tmod_add_mul_tdiv n m
 have h2 : -m < Int.tmod n m := Int.lt_tmod_of_pos n (by omega)
 have h5 : n = m * (n.tdiv m - 1) + (Int.tmod n m + m) := by rw [Int.mul_sub, Int.mul_one]; omega
 have := (Nt.ediv_uniq (z := n) (y := m) (q := n.tdiv m - 1) (r := Int.tmod n m + m) (by omega) h5 (by omega) (by omega)).2
 exact this.symm
end Go.Proofs.YtdmpfhhhlhoeiaaGreat
namespace Go.Proofs.YtdmpfhhhlhoeiaaGreat
set_option linter.unusedVariables false
open Go.RowKit
theorem ty2 : TyIs Tryz.prog 2 false 1 := fun w => ⟨by kernel_rfl, by kernel_rfl⟩
theorem ty3 : TyIs Tryz.prog 3 false 1 := fun w => ⟨by kernel_rfl, by kernel_rfl⟩
theorem ty4 : TyIs Tryz.prog 4 false 1 := fun w => ⟨by kernel_rfl, by kernel_rfl⟩
theorem ty24 : TyIs Tryz.prog 24 true 4 := fun w => ⟨by kernel_rfl, by kernel_rfl⟩
theorem ty28 : TyIs Tryz.prog 28 false 1 := fun w => ⟨by kernel_rfl, by kernel_rfl⟩
theorem ty29 : TyIs Tryz.prog 29 false 1 := fun w => ⟨by kernel_rfl, by kernel_rfl⟩
theorem ty31 : TyIs Tryz.prog 31 true 2 := fun w => ⟨by kernel_rfl, by kernel_rfl⟩
theorem ty37 : TyIs Tryz.prog 37 false 1 := fun w => ⟨by kernel_rfl, by kernel_rfl⟩
theorem ty39 : TyIs Tryz.prog 39 true 2 := fun w => ⟨by kernel_rfl, by kernel_rfl⟩
theorem ty41 : TyIs Tryz.prog 41 true 3 := fun w => ⟨by kernel_rfl, by kernel_rfl⟩
theorem ty113 : TyIs Tryz.prog 113 false 1 := fun w => ⟨by kernel_rfl, by kernel_rfl⟩
theorem ty164 : TyIs Tryz.prog 164 true 3 := fun w => ⟨by kernel_rfl, by kernel_rfl⟩
theorem ty166 : TyIs Tryz.prog 166 true 4 := fun w => ⟨by kernel_rfl, by kernel_rfl⟩
theorem sl22 : SlIs Tryz.prog 22 1 := ⟨3, false, by kernel_rfl, ty3⟩
theorem sl28 : SlIs Tryz.prog 28 3 := ⟨41, true, by kernel_rfl, ty41⟩
theorem sl29 : SlIs Tryz.prog 29 3 := ⟨41, true, by kernel_rfl, ty41⟩
theorem sl37 : SlIs Tryz.prog 37 1 := ⟨113, false, by kernel_rfl, ty113⟩
end Go.Proofs.YtdmpfhhhlhoeiaaGreat
namespace Go.Proofs.YtdmpfhhhlhoeiaaGreat
open Go.RowKit
set_option linter.unusedVariables false
theorem k_riTrim {u w : World} {i1 : IL} {zN : Int} {K : Nat} (d : Dat u w) (hi1 : IntV u i1 zN K) (hK : K ≤ 500000000) : Calls Tryz.prog 144 #[i1.v] w (Post u w fun v u' => ∃ i : IL, v = i.v ∧ IntN u' i zN K) := by
 obtain ⟨N, hN, hzN⟩ := hi1
 refine zzl (args := [i1.v]) Tryz.func144 rfl Tryz.ntmps144 (rs := [.cell 2 39]) Tryz.results144 (le_b rfl) (le_b rfl) d ?_
 refine sq9 ?_
 refine zzj 1 ⟨39, i1.cs⟩ ?_
 refine zzj 2 ⟨39, [.bool false, .slice none 0 0]⟩ ?_
 refine zzb 16 [(1, .adr 1 0), (2, .adr 2 0)] [(1, ⟨39, i1.cs⟩), (2, ⟨39, [.bool false, .slice none 0 0]⟩)] ?_
 refine sq9 ?_
 refine zza 4 (.adr 1 1) ?_
 refine zzh 5 (.v i1.m.v) ty37 zzk ?_
 refine zzf 6 145 [i1.m.v] ?_
 intro w11 u11 e11 d11
 have k16 := k_rnTrim d11 (hN.ext e11) (by omega)
 with_reducible refine Post.mono k16 ?_
 rintro _ u14 g15 ⟨x12, rfl, h13⟩
 refine zza 3 (.v x12.v) ?_
 refine zzb 16 [(1, .adr 1 0), (2, .adr 2 0), (3, .v x12.v)] [(1, ⟨39, i1.cs⟩), (2, ⟨39, [.bool false, .slice none 0 0]⟩)] ?_
 refine sq9 ?_
 refine zza 7 (.adr 1 0) ?_
 refine zzh 8 (.v (.bool i1.s)) ty4 zzk ?_
 rcases Bool.eq_false_or_eq_true i1.s with hs17 | hs17
 ·refine zyp 9 (x := .v (.bool i1.s)) (.v (.bool true)) (by rw [hs17]) ?_
  refine zza 10 (.v x12.v) ?_ (hw := w1 2 true 9)
  refine zza 11 (.v (.int .i64 (x12.n : Int))) ?_ (hw := w1 2 true 9)
  refine zza 12 (.v (.bool (decide ((0 : Int) < (x12.n : Int))))) ?_ (hw := w1 2 true 9)
  refine zza 13 (.v (.bool (decide ((0 : Int) < (x12.n : Int))))) ?_
  refine zza 14 (.v x12.v) ?_
  refine zza 15 (.v (.agg #[.bool (decide ((0 : Int) < (x12.n : Int))), x12.v])) ?_
  refine zzi ⟨39, [.bool (decide ((0 : Int) < (x12.n : Int))), x12.v]⟩ ty39 ?_
  refine zzb 16 [(2, .adr 2 0)] [(2, ⟨39, [.bool (decide ((0 : Int) < (x12.n : Int))), x12.v]⟩)] ?_
  refine zzn (ret0 [.agg #[.bool (decide ((0 : Int) < (x12.n : Int))), .slice x12.a x12.n x12.c]] ⟨zzq ty39 zzd, trivial⟩ fun u18 e19 => ?_)
  refine ⟨⟨_, x12⟩, rfl, ?_⟩
  rw [hzN, hs17]
  exact signed_int (s := true) (h13.ext e19)
 ·refine zyp 9 (x := .v (.bool i1.s)) (.v (.bool false)) (by rw [hs17]) ?_
  refine zzm 10 (uw 2 true false 9) ?_
  refine zzm 11 (uw 2 true false 9) ?_
  refine zzm 12 (uw 2 true false 9) ?_
  refine zza 13 (.v (.bool false)) ?_
  refine zza 14 (.v x12.v) ?_
  refine zza 15 (.v (.agg #[.bool false, x12.v])) ?_
  refine zzi ⟨39, [.bool false, x12.v]⟩ ty39 ?_
  refine zzb 16 [(2, .adr 2 0)] [(2, ⟨39, [.bool false, x12.v]⟩)] ?_
  refine zzn (ret0 [.agg #[.bool false, .slice x12.a x12.n x12.c]] ⟨zzq ty39 zzd, trivial⟩ fun u20 e21 => ?_)
  refine ⟨⟨_, x12⟩, rfl, ?_⟩
  rw [hzN, hs17]
  exact signed_int (s := false) (h13.ext e21)
theorem k_riSign {u w : World} {i1 : IL} {zN : Int} {K : Nat} (d : Dat u w) (hi1 : IntV u i1 zN K) (hK : K ≤ 500000000) : Calls Tryz.prog 146 #[i1.v] w (Post u w fun v u' => v = .int .i64 (Nt.cmpS zN 0)) := by
 refine zzl (args := [i1.v]) Tryz.func146 rfl Tryz.ntmps146 (rs := [.tmp 2]) Tryz.results146 (le_b rfl) (le_b rfl) d ?_
 refine sq9 ?_
 refine zzj 1 ⟨39, i1.cs⟩ ?_
 refine zza 2 (.v (.int .i64 0)) ?_
 refine zzb 13 [(1, .adr 1 0)] [(1, ⟨39, i1.cs⟩)] ?_
 refine sq9 ?_
 refine zzh 3 (.v (i1.v)) ty39 zzd ?_
 refine zzf 4 144 [i1.v] ?_
 intro w11 u11 e11 d11
 have k16 := k_riTrim d11 (hi1.ext e11) (by omega)
 with_reducible refine Post.mono k16 ?_
 rintro _ u14 g15 ⟨i12, rfl, h13⟩
 refine zzi ⟨39, i12.cs⟩ ty39 ?_
 refine zzb 13 [(1, .adr 1 0)] [(1, ⟨39, i12.cs⟩)] ?_
 refine zzc ?_
 refine zzs ?_
 refine sq9 ?_
 refine zza 6 (.adr 1 1) ?_
 refine zzh 7 (.v i12.m.v) ty37 zzk ?_
 refine zza 8 (.v (.int .i64 (i12.m.n : Int))) ?_
 refine zza 9 (.v (.bool ((i12.m.n : Int) == 0))) ?_
 refine zza 5 (.v (.bool ((i12.m.n : Int) == 0))) ?_
 refine zzb 13 [(1, .adr 1 0), (5, .v (.bool ((i12.m.n : Int) == 0)))] [(1, ⟨39, i12.cs⟩)] ?_
 refine zzt (b := (i12.m.n : Int) == 0) (by kernel_rfl) (fun hb17 => ?_) (fun hb17 => ?_)
 ·replace hb17 : ((i12.m.n : Int) == 0) = true := hb17
  have qhb17 : (i12.m.n : Int) = 0 := by simpa using hb17
  refine sq9 ?_
  refine zza 2 (.v (.int .i64 0)) ?_
  refine zzb 13 [(2, .v (.int .i64 0))] [] ?_
  refine zzn (zyt (zzv (ret0 [.int .i64 0] ⟨zzp, trivial⟩ fun u18 e19 => ?_)))
  show _ = _
  rw [sign_len h13, if_pos hb17]
  rfl
 ·replace hb17 : ((i12.m.n : Int) == 0) = false := hb17
  have qhb17 : ¬ ((i12.m.n : Int) = 0) := by simpa using hb17
  refine sq9 ?_
  refine zza 11 (.adr 1 0) ?_
  refine zzh 12 (.v (.bool i12.s)) ty4 zzk ?_
  refine zza 10 (.v (.bool i12.s)) ?_
  refine zzb 13 [(10, .v (.bool i12.s))] [] ?_
  refine zzt (b := i12.s) (by kernel_rfl) (fun hb20 => ?_) (fun hb20 => ?_)
  ·replace hb20 : i12.s = true := hb20
   refine sq9 ?_
   refine zza 2 (.v (.int .i64 (-1))) ?_
   refine zzb 13 [(2, .v (.int .i64 (-1)))] [] ?_
   refine zzn (zyt (zzv (ret0 [.int .i64 (-1)] ⟨zzp, trivial⟩ fun u21 e22 => ?_)))
   show _ = _
   rw [sign_len h13, if_neg (ne_true_of_eq_false hb17), if_pos hb20]
   rfl
  ·replace hb20 : i12.s = false := hb20
   refine zzr (zzo ?_)
   refine sq9 ?_
   refine zza 2 (.v (.int .i64 1)) ?_
   refine zzb 13 [(2, .v (.int .i64 1))] [] ?_
   refine zzn (ret0 [.int .i64 1] ⟨zzp, trivial⟩ fun u23 e24 => ?_)
   show _ = _
   rw [sign_len h13, if_neg (ne_true_of_eq_false hb17), if_neg (ne_true_of_eq_false hb20)]
   rfl
theorem k_riNeg {u w : World} {i1 : IL} {zN : Int} {K : Nat} (d : Dat u w) (hi1 : IntV u i1 zN K) (hK : K ≤ 500000000) : Calls Tryz.prog 160 #[i1.v] w (Post u w fun v u' => ∃ i : IL, v = i.v ∧ IntN u' i (-zN) K) := by
 refine zzl (args := [i1.v]) Tryz.func160 rfl Tryz.ntmps160 (rs := [.cell 2 39]) Tryz.results160 (le_b rfl) (le_b rfl) d ?_
 refine sq9 ?_
 refine zzj 1 ⟨39, i1.cs⟩ ?_
 refine zzj 2 ⟨39, [.bool false, .slice none 0 0]⟩ ?_
 refine zzb 16 [(1, .adr 1 0), (2, .adr 2 0)] [(1, ⟨39, i1.cs⟩), (2, ⟨39, [.bool false, .slice none 0 0]⟩)] ?_
 refine sq9 ?_
 refine zzh 3 (.v (i1.v)) ty39 zzd ?_
 refine zzf 4 144 [i1.v] ?_
 intro w11 u11 e11 d11
 have k16 := k_riTrim d11 (hi1.ext e11) (by omega)
 with_reducible refine Post.mono k16 ?_
 rintro _ u14 g15 ⟨i12, rfl, h13⟩
 refine zzi ⟨39, i12.cs⟩ ty39 ?_
 refine zzb 16 [(1, .adr 1 0), (2, .adr 2 0)] [(1, ⟨39, i12.cs⟩), (2, ⟨39, [.bool false, .slice none 0 0]⟩)] ?_
 refine sq9 ?_
 refine zza 5 (.adr 1 0) ?_
 refine zzh 6 (.v (.bool i12.s)) ty4 zzk ?_
 refine zza 7 (.v (.bool (!i12.s))) ?_
 rcases Bool.eq_false_or_eq_true (!i12.s) with hs17 | hs17
 ·refine zyp 8 (x := .v (.bool (!i12.s))) (.v (.bool true)) (by rw [hs17]) ?_
  refine zza 9 (.adr 1 1) ?_ (hw := w1 3 true 8)
  refine zzh 10 (.v i12.m.v) ty37 zzk ?_ (hw := w1 3 true 8)
  refine zza 11 (.v (.int .i64 (i12.m.n : Int))) ?_ (hw := w1 3 true 8)
  refine zza 12 (.v (.bool (decide ((0 : Int) < (i12.m.n : Int))))) ?_ (hw := w1 3 true 8)
  refine zza 13 (.v (.bool (decide ((0 : Int) < (i12.m.n : Int))))) ?_
  refine zza 14 (.adr 1 0) ?_
  refine zzi ⟨39, [.bool (decide ((0 : Int) < (i12.m.n : Int))), i12.m.v]⟩ ty4 ?_
  refine zzb 16 [(1, .adr 1 0), (2, .adr 2 0)] [(1, ⟨39, [.bool (decide ((0 : Int) < (i12.m.n : Int))), i12.m.v]⟩), (2, ⟨39, [.bool false, .slice none 0 0]⟩)] ?_
  refine sq9 ?_
  refine zzh 15 (.v (.agg #[.bool (decide ((0 : Int) < (i12.m.n : Int))), i12.m.v])) ty39 zzd ?_
  refine zzi ⟨39, [.bool (decide ((0 : Int) < (i12.m.n : Int))), i12.m.v]⟩ ty39 ?_
  refine zzb 16 [(2, .adr 2 0)] [(2, ⟨39, [.bool (decide ((0 : Int) < (i12.m.n : Int))), i12.m.v]⟩)] ?_
  refine zzn (ret0 [.agg #[.bool (decide ((0 : Int) < (i12.m.n : Int))), .slice i12.m.a i12.m.n i12.m.c]] ⟨zzq ty39 zzd, trivial⟩ fun u18 e19 => ?_)
  refine ⟨⟨_, i12.m⟩, rfl, ?_⟩
  have h9 := neg_int (h13.ext e19)
  rw [hs17] at h9
  exact h9
 ·refine zyp 8 (x := .v (.bool (!i12.s))) (.v (.bool false)) (by rw [hs17]) ?_
  refine zzm 9 (uw 3 true false 8) ?_
  refine zzm 10 (uw 3 true false 8) ?_
  refine zzm 11 (uw 3 true false 8) ?_
  refine zzm 12 (uw 3 true false 8) ?_
  refine zza 13 (.v (.bool false)) ?_
  refine zza 14 (.adr 1 0) ?_
  refine zzi ⟨39, [.bool false, i12.m.v]⟩ ty4 ?_
  refine zzb 16 [(1, .adr 1 0), (2, .adr 2 0)] [(1, ⟨39, [.bool false, i12.m.v]⟩), (2, ⟨39, [.bool false, .slice none 0 0]⟩)] ?_
  refine sq9 ?_
  refine zzh 15 (.v (.agg #[.bool false, i12.m.v])) ty39 zzd ?_
  refine zzi ⟨39, [.bool false, i12.m.v]⟩ ty39 ?_
  refine zzb 16 [(2, .adr 2 0)] [(2, ⟨39, [.bool false, i12.m.v]⟩)] ?_
  refine zzn (ret0 [.agg #[.bool false, .slice i12.m.a i12.m.n i12.m.c]] ⟨zzq ty39 zzd, trivial⟩ fun u20 e21 => ?_)
  refine ⟨⟨_, i12.m⟩, rfl, ?_⟩
  have h9 := neg_int (h13.ext e21)
  rw [hs17] at h9
  exact h9
set_option maxHeartbeats 1000000 in
theorem k_riAdd {u w : World} {i1 : IL} {zN : Int} {K : Nat} {i2 : IL} {zM : Int} {L : Nat} (d : Dat u w) (hi1 : IntV u i1 zN K) (hi2 : IntV u i2 zM L) (hK : K ≤ 400000000) (hL : L ≤ 400000000) : Calls Tryz.prog 181 #[i1.v, i2.v] w (Post u w fun v u' => ∃ i : IL, v = i.v ∧ IntN u' i (zN + zM) (max K L + 1)) := by
 refine zzl (args := [i1.v, i2.v]) Tryz.func181 rfl Tryz.ntmps181 (rs := [.cell 4 39]) Tryz.results181 (le_b rfl) (le_b rfl) d ?_
 refine sq9 ?_
 refine zzj 2 ⟨39, i1.cs⟩ ?_
 refine zzj 3 ⟨39, i2.cs⟩ ?_
 refine zzj 4 ⟨39, [.bool false, .slice none 0 0]⟩ ?_
 refine zzb 47 [(2, .adr 2 0), (3, .adr 3 0), (4, .adr 4 0)] [(2, ⟨39, i1.cs⟩), (3, ⟨39, i2.cs⟩), (4, ⟨39, [.bool false, .slice none 0 0]⟩)] ?_
 refine zzc ?_
 refine zzy [0, 1, 0, 7, 15, 31] [(0, []), (2, []), (1, []), (3, []), (4, []), (5, [])] (by kernel_rfl) (by kernel_rfl) ?_
 refine zzh 5 (.v (i1.v)) ty39 zzd ?_
 refine zzh 7 (.v (i2.v)) ty39 zzd ?_
 refine zzf 6 144 [i1.v] ?_
 intro w11 u11 e11 d11
 have k16 := k_riTrim d11 (hi1.ext e11) (by omega)
 with_reducible refine Post.mono k16 ?_
 rintro _ u14 g15 ⟨i12, rfl, h13⟩
 refine zzf 8 144 [i2.v] ?_
 intro w17 u17 e17 d17
 have k22 := k_riTrim d17 (hi2.ext (e11.trans (g15.ext.trans e17))) (by omega)
 with_reducible refine Post.mono k22 ?_
 rintro _ u20 g21 ⟨i18, rfl, h19⟩
 refine zzi ⟨39, i12.cs⟩ ty39 ?_
 refine zzi ⟨39, i18.cs⟩ ty39 ?_
 refine zzb 47 [(2, .adr 2 0), (3, .adr 3 0), (4, .adr 4 0)] [(2, ⟨39, i12.cs⟩), (3, ⟨39, i18.cs⟩), (4, ⟨39, [.bool false, .slice none 0 0]⟩)] ?_
 refine zzc ?_
 refine sq9 ?_
 refine zza 9 (.adr 2 0) ?_
 refine zzh 10 (.v (.bool i12.s)) ty4 zzk ?_
 refine zza 11 (.adr 3 0) ?_
 refine zzh 12 (.v (.bool i18.s)) ty4 zzk ?_
 refine zza 13 (.v (.bool (i12.s == i18.s))) ?_
 refine zzb 47 [(2, .adr 2 0), (3, .adr 3 0), (4, .adr 4 0), (13, .v (.bool (i12.s == i18.s)))] [(2, ⟨39, i12.cs⟩), (3, ⟨39, i18.cs⟩), (4, ⟨39, [.bool false, .slice none 0 0]⟩)] ?_
 refine zzt (b := i12.s == i18.s) (by kernel_rfl) (fun hb23 => ?_) (fun hb23 => ?_)
 ·replace hb23 : (i12.s == i18.s) = true := hb23
  refine zzc ?_
  refine zzy [0, 1, 0, 4, 0, 16, 60, 127, 255, 511] [(0, []), (1, []), (2, []), (3, []), (4, []), (5, []), (6, []), (7, []), (8, []), (9, [])] (by kernel_rfl) (by kernel_rfl) ?_
  refine zza 14 (.adr 2 0) ?_
  refine zzh 15 (.v (.bool i12.s)) ty4 zzk ?_
  refine zza 16 (.adr 2 1) ?_
  refine zzh 17 (.v i12.m.v) ty37 zzk ?_
  refine zza 18 (.adr 3 1) ?_
  refine zzh 19 (.v i18.m.v) ty37 zzk ?_
  refine zzf 20 203 [i12.m.v, i18.m.v] ?_
  intro w24 u24 e24 d24
  have k29 := k_rnAdd d24 ((int_mag h13).ext (e17.trans (g21.ext.trans e24))).raw ((int_mag h19).ext e24).raw (by omega) (by omega)
  with_reducible refine Post.mono k29 ?_
  rintro _ u27 g28 ⟨x25, rfl, h26⟩
  refine zza 21 (.v (.agg #[.bool i12.s, x25.v])) ?_
  refine zzf 22 144 [.agg #[.bool i12.s, x25.v]] ?_
  intro w30 u30 e30 d30
  have k35 := k_riTrim d30 (IntV.same (s := i12.s) (h26.ext e30).raw) (by omega)
  with_reducible refine Post.mono k35 ?_
  rintro _ u33 g34 ⟨i31, rfl, h32⟩
  refine zzi ⟨39, i31.cs⟩ ty39 ?_
  refine zzb 47 [(4, .adr 4 0)] [(4, ⟨39, i31.cs⟩)] ?_
  refine zzn (zzv (ret0 [i31.v] ⟨zzq ty39 zzd, trivial⟩ fun u36 e37 => ?_))
  refine ⟨i31, rfl, IntN.more (K := (max K L + 1)) ?_ (by omega)⟩
  have h9 : zN + zM = (Nt.sg i12.s ((zN : Int).natAbs + (zM : Int).natAbs)) := by
   rw [Nt.sg_add1 _ _ hb23]
   rw [← IntN.sg h13, ← IntN.sg h19]
  rw [h9]
  exact (h32.ext e37)
 ·replace hb23 : (i12.s == i18.s) = false := hb23
  refine zzr (zzo ?_)
  refine zzc ?_
  refine sq9 ?_
  refine zza 23 (.adr 2 1) ?_
  refine zzh 24 (.v i12.m.v) ty37 zzk ?_
  refine zza 25 (.adr 3 1) ?_
  refine zzh 26 (.v i18.m.v) ty37 zzk ?_
  refine zzf 27 204 [i12.m.v, i18.m.v] ?_
  intro w38 u38 e38 d38
  have k41 := k_rnCompare d38 ((int_mag h13).ext (e17.trans (g21.ext.trans e38))).raw ((int_mag h19).ext e38).raw (by omega) (by omega)
  with_reducible refine Post.mono k41 ?_
  rintro _ u39 g40 rfl
  refine zza 28 (.v (.bool (decide ((0 : Int) ≤ (Nt.cmpS ((zN : Int).natAbs) ((zM : Int).natAbs)))))) ?_
  refine zzb 47 [(2, .adr 2 0), (3, .adr 3 0), (4, .adr 4 0), (28, .v (.bool (decide ((0 : Int) ≤ (Nt.cmpS ((zN : Int).natAbs) ((zM : Int).natAbs))))))] [(2, ⟨39, i12.cs⟩), (3, ⟨39, i18.cs⟩), (4, ⟨39, [.bool false, .slice none 0 0]⟩)] ?_
  refine zzt (b := decide ((0 : Int) ≤ (Nt.cmpS ((zN : Int).natAbs) ((zM : Int).natAbs)))) (by kernel_rfl) (fun hb42 => ?_) (fun hb42 => ?_)
  ·replace hb42 : (decide ((0 : Int) ≤ (Nt.cmpS ((zN : Int).natAbs) ((zM : Int).natAbs)))) = true := hb42
   have qhb42 := of_decide_eq_true hb42
   refine zzc ?_
   refine zzy [0, 1, 0, 4, 0, 16, 60, 127, 255, 511] [(0, []), (1, []), (2, []), (3, []), (4, []), (5, []), (6, []), (7, []), (8, []), (9, [])] (by kernel_rfl) (by kernel_rfl) ?_
   refine zza 29 (.adr 2 0) ?_
   refine zzh 30 (.v (.bool i12.s)) ty4 zzk ?_
   refine zza 31 (.adr 2 1) ?_
   refine zzh 32 (.v i12.m.v) ty37 zzk ?_
   refine zza 33 (.adr 3 1) ?_
   refine zzh 34 (.v i18.m.v) ty37 zzk ?_
   refine zzf 35 205 [i12.m.v, i18.m.v] ?_
   intro w43 u43 e43 d43
   have k48 := k_rnSub d43 ((int_mag h13).ext (e17.trans (g21.ext.trans (e38.trans (g40.ext.trans e43))))).raw ((int_mag h19).ext (e38.trans (g40.ext.trans e43))).raw (by omega) (by omega)
   with_reducible refine Post.mono k48 ?_
   rintro _ u46 g47 ⟨x44, rfl, h45⟩
   refine zza 36 (.v (.agg #[.bool i12.s, x44.v])) ?_
   refine zzf 37 144 [.agg #[.bool i12.s, x44.v]] ?_
   intro w49 u49 e49 d49
   have k54 := k_riTrim d49 (IntV.same (s := i12.s) (h45.ext e49).raw) (by omega)
   with_reducible refine Post.mono k54 ?_
   rintro _ u52 g53 ⟨i50, rfl, h51⟩
   refine zzi ⟨39, i50.cs⟩ ty39 ?_
   refine zzb 47 [(4, .adr 4 0)] [(4, ⟨39, i50.cs⟩)] ?_
   refine zzn (zzv (ret0 [i50.v] ⟨zzq ty39 zzd, trivial⟩ fun u55 e56 => ?_))
   refine ⟨i50, rfl, IntN.more (K := K) ?_ (by omega)⟩
   have h9 : zN + zM = (Nt.sg i12.s ((zN : Int).natAbs - (zM : Int).natAbs)) := by
    rw [Nt.sg_add4 _ _ hb23 hb42]
    rw [← IntN.sg h13, ← IntN.sg h19]
   rw [h9]
   exact (h51.ext e56)
  ·replace hb42 : (decide ((0 : Int) ≤ (Nt.cmpS ((zN : Int).natAbs) ((zM : Int).natAbs)))) = false := hb42
   have qhb42 := of_decide_eq_false hb42
   refine zzr (zzo ?_)
   refine zzc ?_
   refine zzy [0, 1, 0, 4, 0, 16, 60, 127, 255, 511] [(0, []), (1, []), (2, []), (3, []), (4, []), (5, []), (6, []), (7, []), (8, []), (9, [])] (by kernel_rfl) (by kernel_rfl) ?_
   refine zza 38 (.adr 3 0) ?_
   refine zzh 39 (.v (.bool i18.s)) ty4 zzk ?_
   refine zza 40 (.adr 3 1) ?_
   refine zzh 41 (.v i18.m.v) ty37 zzk ?_
   refine zza 42 (.adr 2 1) ?_
   refine zzh 43 (.v i12.m.v) ty37 zzk ?_
   refine zzf 44 205 [i18.m.v, i12.m.v] ?_
   intro w57 u57 e57 d57
   have k62 := k_rnSub d57 ((int_mag h19).ext (e38.trans (g40.ext.trans e57))).raw ((int_mag h13).ext (e17.trans (g21.ext.trans (e38.trans (g40.ext.trans e57))))).raw (by omega) (by omega)
   with_reducible refine Post.mono k62 ?_
   rintro _ u60 g61 ⟨x58, rfl, h59⟩
   refine zza 45 (.v (.agg #[.bool i18.s, x58.v])) ?_
   refine zzf 46 144 [.agg #[.bool i18.s, x58.v]] ?_
   intro w63 u63 e63 d63
   have k68 := k_riTrim d63 (IntV.same (s := i18.s) (h59.ext e63).raw) (by omega)
   with_reducible refine Post.mono k68 ?_
   rintro _ u66 g67 ⟨i64, rfl, h65⟩
   refine zzi ⟨39, i64.cs⟩ ty39 ?_
   refine zzb 47 [(4, .adr 4 0)] [(4, ⟨39, i64.cs⟩)] ?_
   refine zzn (ret0 [i64.v] ⟨zzq ty39 zzd, trivial⟩ fun u69 e70 => ?_)
   refine ⟨i64, rfl, IntN.more (K := L) ?_ (by omega)⟩
   have h9 : zN + zM = (Nt.sg i18.s ((zM : Int).natAbs - (zN : Int).natAbs)) := by
    rw [Nt.sg_add5 _ _ hb23 hb42]
    rw [← IntN.sg h13, ← IntN.sg h19]
   rw [h9]
   exact (h65.ext e70)
theorem k_riSub {u w : World} {i1 : IL} {zN : Int} {K : Nat} {i2 : IL} {zM : Int} {L : Nat} (d : Dat u w) (hi1 : IntV u i1 zN K) (hi2 : IntV u i2 zM L) (hK : K ≤ 400000000) (hL : L ≤ 400000000) : Calls Tryz.prog 147 #[i1.v, i2.v] w (Post u w fun v u' => ∃ i : IL, v = i.v ∧ IntN u' i (zN - zM) (max K L + 1)) := by
 refine zzl (args := [i1.v, i2.v]) Tryz.func147 rfl Tryz.ntmps147 (rs := [.cell 4 39]) Tryz.results147 (le_b rfl) (le_b rfl) d ?_
 refine sq9 ?_
 refine zzj 2 ⟨39, i1.cs⟩ ?_
 refine zzj 3 ⟨39, i2.cs⟩ ?_
 refine zzj 4 ⟨39, [.bool false, .slice none 0 0]⟩ ?_
 refine zzb 9 [(2, .adr 2 0), (3, .adr 3 0), (4, .adr 4 0)] [(2, ⟨39, i1.cs⟩), (3, ⟨39, i2.cs⟩), (4, ⟨39, [.bool false, .slice none 0 0]⟩)] ?_
 refine zzc ?_
 refine zzy [0, 0, 2, 7, 15] [(0, []), (1, []), (2, []), (3, []), (4, [])] (by kernel_rfl) (by kernel_rfl) ?_
 refine zzh 5 (.v (i1.v)) ty39 zzd ?_
 refine zzh 6 (.v (i2.v)) ty39 zzd ?_
 refine zzf 7 160 [i2.v] ?_
 intro w11 u11 e11 d11
 have k16 := k_riNeg d11 (hi2.ext e11) (by omega)
 with_reducible refine Post.mono k16 ?_
 rintro _ u14 g15 ⟨i12, rfl, h13⟩
 refine zzf 8 181 [i1.v, i12.v] ?_
 intro w17 u17 e17 d17
 have k22 := k_riAdd d17 (hi1.ext (e11.trans (g15.ext.trans e17))) (h13.ext e17).raw (by omega) (by omega)
 with_reducible refine Post.mono k22 ?_
 rintro _ u20 g21 ⟨i18, rfl, h19⟩
 refine zzi ⟨39, i18.cs⟩ ty39 ?_
 refine zzb 9 [(4, .adr 4 0)] [(4, ⟨39, i18.cs⟩)] ?_
 refine zzn (ret0 [i18.v] ⟨zzq ty39 zzd, trivial⟩ fun u23 e24 => ?_)
 refine ⟨i18, rfl, ?_⟩
 rw [Int.sub_eq_add_neg]
 exact (h19.ext e24)
theorem k_riCompare {u w : World} {i1 : IL} {zN : Int} {K : Nat} {i2 : IL} {zM : Int} {L : Nat} (d : Dat u w) (hi1 : IntV u i1 zN K) (hi2 : IntV u i2 zM L) (hK : K ≤ 400000000) (hL : L ≤ 400000000) : Calls Tryz.prog 66 #[i1.v, i2.v] w (Post u w fun v u' => v = .int .i64 (Nt.cmpS zN zM)) := by
 refine zzl (args := [i1.v, i2.v]) Tryz.func66 rfl Tryz.ntmps66 (rs := [.tmp 4]) Tryz.results66 (le_b rfl) (le_b rfl) d ?_
 refine sq9 ?_
 refine zzj 2 ⟨39, i1.cs⟩ ?_
 refine zzj 3 ⟨39, i2.cs⟩ ?_
 refine zza 4 (.v (.int .i64 0)) ?_
 refine zzb 9 [(2, .adr 2 0), (3, .adr 3 0)] [(2, ⟨39, i1.cs⟩), (3, ⟨39, i2.cs⟩)] ?_
 refine sq9 ?_
 refine zzh 5 (.v (i1.v)) ty39 zzd ?_
 refine zzh 6 (.v (i2.v)) ty39 zzd ?_
 refine zzf 7 147 [i1.v, i2.v] ?_
 intro w11 u11 e11 d11
 have k16 := k_riSub d11 (hi1.ext e11) (hi2.ext e11) (by omega) (by omega)
 with_reducible refine Post.mono k16 ?_
 rintro _ u14 g15 ⟨i12, rfl, h13⟩
 refine zzf 8 146 [i12.v] ?_
 intro w17 u17 e17 d17
 have k20 := k_riSign d17 (h13.ext e17).raw (by omega)
 with_reducible refine Post.mono k20 ?_
 rintro _ u18 g19 rfl
 refine zza 4 (.v (.int .i64 (Nt.cmpS (zN - zM) 0))) ?_
 refine zzb 9 [(4, .v (.int .i64 (Nt.cmpS (zN - zM) 0)))] [] ?_
 refine zzn (ret0 [.int .i64 (Nt.cmpS (zN - zM) 0)] ⟨zzp, trivial⟩ fun u21 e22 => ?_)
 show Value.int _ _ = Value.int _ _
 rw [Nt.cmp_self_sub]
theorem k_riMul {u w : World} {i1 : IL} {zN : Int} {K : Nat} {i2 : IL} {zM : Int} {L : Nat} (d : Dat u w) (hi1 : IntV u i1 zN K) (hi2 : IntV u i2 zM L) (hK : K ≤ 250000000) (hL : L ≤ 250000000) : Calls Tryz.prog 67 #[i1.v, i2.v] w (Post u w fun v u' => ∃ i : IL, v = i.v ∧ IntN u' i (zN * zM) (K + L)) := by
 obtain ⟨N, hN, hzN⟩ := hi1
 obtain ⟨M, hM, hzM⟩ := hi2
 refine zzl (args := [i1.v, i2.v]) Tryz.func67 rfl Tryz.ntmps67 (rs := [.cell 4 39]) Tryz.results67 (le_b rfl) (le_b rfl) d ?_
 refine sq9 ?_
 refine zzj 2 ⟨39, i1.cs⟩ ?_
 refine zzj 3 ⟨39, i2.cs⟩ ?_
 refine zzj 4 ⟨39, [.bool false, .slice none 0 0]⟩ ?_
 refine zzb 17 [(2, .adr 2 0), (3, .adr 3 0), (4, .adr 4 0)] [(2, ⟨39, i1.cs⟩), (3, ⟨39, i2.cs⟩), (4, ⟨39, [.bool false, .slice none 0 0]⟩)] ?_
 refine zzc ?_
 refine zzy [0, 1, 0, 4, 15, 0, 32, 0, 128, 480, 1023, 2047, 4095] [(0, []), (1, []), (2, []), (3, []), (4, []), (5, []), (6, []), (7, []), (8, []), (9, []), (10, []), (11, []), (12, [])] (by kernel_rfl) (by kernel_rfl) ?_
 refine zza 5 (.adr 2 0) ?_
 refine zzh 6 (.v (.bool i1.s)) ty4 zzk ?_
 refine zza 7 (.adr 3 0) ?_
 refine zzh 8 (.v (.bool i2.s)) ty4 zzk ?_
 refine zza 9 (.v (.bool (!(i1.s == i2.s)))) ?_
 refine zza 10 (.adr 2 1) ?_
 refine zzh 11 (.v i1.m.v) ty37 zzk ?_
 refine zza 12 (.adr 3 1) ?_
 refine zzh 13 (.v i2.m.v) ty37 zzk ?_
 refine zzf 14 148 [i1.m.v, i2.m.v] ?_
 intro w11 u11 e11 d11
 have k16 := k_rnMul d11 (hN.ext e11) (hM.ext e11) (by omega) (by omega)
 with_reducible refine Post.mono k16 ?_
 rintro _ u14 g15 ⟨x12, rfl, h13⟩
 refine zza 15 (.v (.agg #[.bool (!(i1.s == i2.s)), x12.v])) ?_
 refine zzf 16 144 [.agg #[.bool (!(i1.s == i2.s)), x12.v]] ?_
 intro w17 u17 e17 d17
 have k22 := k_riTrim d17 (IntV.same (s := !(i1.s == i2.s)) (h13.ext e17).raw) (by omega)
 with_reducible refine Post.mono k22 ?_
 rintro _ u20 g21 ⟨i18, rfl, h19⟩
 refine zzi ⟨39, i18.cs⟩ ty39 ?_
 refine zzb 17 [(4, .adr 4 0)] [(4, ⟨39, i18.cs⟩)] ?_
 refine zzn (ret0 [i18.v] ⟨zzq ty39 zzd, trivial⟩ fun u23 e24 => ?_)
 refine ⟨i18, rfl, IntN.more (K := (K + L)) ?_ (by omega)⟩
 rw [hzN, hzM, ← Nt.sg_mul]
 exact (h19.ext e24)
theorem k_riGcd {u w : World} {i1 : IL} {zN : Int} {K : Nat} {i2 : IL} {zM : Int} {L : Nat} (d : Dat u w) (hi1 : IntV u i1 zN K) (hi2 : IntV u i2 zM L) (hK : K ≤ 500000000) (hL : L ≤ 500000000) : Calls Tryz.prog 182 #[i1.v, i2.v] w (Post u w fun v u' => ∃ i : IL, v = i.v ∧ IntN u' i (Nat.gcd zN.natAbs zM.natAbs : Int) (max K L)) := by
 refine zzl (args := [i1.v, i2.v]) Tryz.func182 rfl Tryz.ntmps182 (rs := [.cell 4 39]) Tryz.results182 (le_b rfl) (le_b rfl) d ?_
 refine sq9 ?_
 refine zzj 2 ⟨39, i1.cs⟩ ?_
 refine zzj 3 ⟨39, i2.cs⟩ ?_
 refine zzj 4 ⟨39, [.bool false, .slice none 0 0]⟩ ?_
 refine zzb 11 [(2, .adr 2 0), (3, .adr 3 0), (4, .adr 4 0)] [(2, ⟨39, i1.cs⟩), (3, ⟨39, i2.cs⟩), (4, ⟨39, [.bool false, .slice none 0 0]⟩)] ?_
 refine sq9 ?_
 refine zza 5 (.adr 2 1) ?_
 refine zzh 6 (.v i1.m.v) ty37 zzk ?_
 refine zza 7 (.adr 3 1) ?_
 refine zzh 8 (.v i2.m.v) ty37 zzk ?_
 refine zzf 9 206 [i1.m.v, i2.m.v] ?_
 intro w11 u11 e11 d11
 have k16 := k_rnGcd d11 ((IntV.abs hi1).ext e11) ((IntV.abs hi2).ext e11) (by omega) (by omega)
 with_reducible refine Post.mono k16 ?_
 rintro _ u14 g15 ⟨x12, rfl, h13⟩
 refine zza 10 (.v (.agg #[.bool false, x12.v])) ?_
 refine zzi ⟨39, [.bool false, x12.v]⟩ ty39 ?_
 refine zzb 11 [(4, .adr 4 0)] [(4, ⟨39, [.bool false, x12.v]⟩)] ?_
 refine zzn (ret0 [.agg #[.bool false, .slice x12.a x12.n x12.c]] ⟨zzq ty39 zzd, trivial⟩ fun u17 e18 => ?_)
 exact ⟨(⟨false, x12⟩ : IL), rfl, (nat_intN (h13.ext e18))⟩
theorem k_riSame {u w : World} {i1 i2 : IL} {z z' : Int} {K L : Nat} (d : Dat u w) (hi1 : IntN u i1 z K) (hi2 : IntN u i2 z' L) : Calls Tryz.prog 224 #[i1.v, i2.v] w (Post u w fun v _ => v = .bool (decide (z = z'))) := by
 refine zzl (args := [i1.v, i2.v]) Tryz.func224 rfl Tryz.ntmps224 (rs := [.tmp 4]) Tryz.results224 (le_b rfl) (le_b rfl) d ?_
 refine sq9 ?_
 refine zzj 2 ⟨39, i1.cs⟩ ?_
 refine zzj 3 ⟨39, i2.cs⟩ ?_
 refine zza 4 (.v (.bool false)) ?_
 refine zzb 17 [(2, .adr 2 0), (3, .adr 3 0)] [(2, ⟨39, i1.cs⟩), (3, ⟨39, i2.cs⟩)] ?_
 refine sq9 ?_
 refine zza 5 (.adr 2 0) ?_
 refine zzh 6 (.v (.bool i1.s)) ty4 zzk ?_
 refine zza 7 (.adr 3 0) ?_
 refine zzh 8 (.v (.bool i2.s)) ty4 zzk ?_
 refine zza 9 (.v (.bool (i1.s == i2.s))) ?_
 rcases Bool.eq_false_or_eq_true (i1.s == i2.s) with hs11 | hs11
 ·refine zyp 10 (x := .v (.bool (i1.s == i2.s))) (.v (.bool true)) (by rw [hs11]) ?_
  refine zza 11 (.adr 2 1) ?_ (hw := w1 5 true 10)
  refine zzh 12 (.v i1.m.v) ty37 zzk ?_ (hw := w1 5 true 10)
  refine zza 13 (.adr 3 1) ?_ (hw := w1 5 true 10)
  refine zzh 14 (.v i2.m.v) ty37 zzk ?_ (hw := w1 5 true 10)
  refine zzf 15 225 [i1.m.v, i2.m.v] ?_ (hw := w1 5 true 10)
  intro w12 u12 e12 d12
  have k15 := k_rnSame d12 ((int_mag hi1).ext e12) ((int_mag hi2).ext e12)
  with_reducible refine Post.mono k15 ?_
  rintro _ u13 g14 rfl
  refine zza 16 (.v (.bool (decide ((z : Int).natAbs = (z' : Int).natAbs)))) ?_
  refine zza 4 (.v (.bool (decide ((z : Int).natAbs = (z' : Int).natAbs)))) ?_
  refine zzb 17 [(4, .v (.bool (decide ((z : Int).natAbs = (z' : Int).natAbs))))] [] ?_
  refine zzn (ret0 [.bool (decide ((z : Int).natAbs = (z' : Int).natAbs))] ⟨zzp, trivial⟩ fun u16 e17 => ?_)
  show _ = _
  rw [← same_int hi1 hi2, hs11]
  rfl
 ·refine zyp 10 (x := .v (.bool (i1.s == i2.s))) (.v (.bool false)) (by rw [hs11]) ?_
  refine zzm 11 (uw 5 true false 10) ?_
  refine zzm 12 (uw 5 true false 10) ?_
  refine zzm 13 (uw 5 true false 10) ?_
  refine zzm 14 (uw 5 true false 10) ?_
  refine zzm 15 (uw 5 true false 10) ?_
  refine zza 16 (.v (.bool false)) ?_
  refine zza 4 (.v (.bool false)) ?_
  refine zzb 17 [(4, .v (.bool false))] [] ?_
  refine zzn (ret0 [.bool false] ⟨zzp, trivial⟩ fun u18 e19 => ?_)
  show _ = _
  rw [← same_int hi1 hi2, hs11]
  rfl
theorem k_riOf {u w : World} {z : Int} (d : Dat u w) (h0 : -9223372036854775808 ≤ z) (h1 : z ≤ 9223372036854775807) : Calls Tryz.prog 64 #[.int .i64 z] w (Post u w fun v u' => ∃ i : IL, v = i.v ∧ IntN u' i z 2) := by
 by_cases hneg : z < 0
 ·refine zzl (args := [.int .i64 z]) Tryz.func64 rfl Tryz.ntmps64 (rs := [.cell 2 39]) Tryz.results64 (le_b rfl) (le_b rfl) d ?_
  refine sq9 ?_
  refine zzj 2 ⟨39, [.bool false, .slice none 0 0]⟩ ?_
  refine zzb 28 [(0, .v (.int .i64 z)), (2, .adr 2 0)] [(2, ⟨39, [.bool false, .slice none 0 0]⟩)] ?_
  refine zzc ?_
  refine sq9 ?_
  refine zza 4 (.v (.int .i64 z)) ?_
  refine zyp 5 (x := .v (.bool (decide (z < 0)))) (.v (.bool true)) (by rw [show (decide (z < 0)) = true from (by simp; omega)]) ?_
  refine zzb 28 [(0, .v (.int .i64 z)), (2, .adr 2 0), (5, .v (.bool true))] [(2, ⟨39, [.bool false, .slice none 0 0]⟩)] ?_
  refine zyq (by kernel_rfl) ?_
  refine sq9 ?_
  refine zza 6 (.v (.int .i64 z)) ?_
  refine zyp 7 (x := .v (.int .i64 (IntKind.i64.wrap (z + 1)))) (.v (.int .i64 (z + 1))) (by rw [show (IntKind.i64.wrap (z + 1)) = (z + 1) from (IntWalk.i64_in _ (by omega))]) ?_
  refine zyp 8 (x := .v (.int .i64 (IntKind.i64.wrap (0 - (z + 1))))) (.v (.int .i64 (-z - 1))) (by rw [show (IntKind.i64.wrap (0 - (z + 1))) = (-z - 1) from (by rw [IntWalk.i64_in _ (by omega)]; omega)]) ?_
  refine zyp 9 (x := .v (.int .u64 (IntKind.u64.wrap (-z - 1)))) (.v (.int .u64 (-z - 1))) (by rw [show (IntKind.u64.wrap (-z - 1)) = (-z - 1) from (IntWalk.u64_in _ (by omega))]) ?_
  refine zyp 10 (x := .v (.int .u64 (IntKind.u64.wrap (-z - 1 + 1)))) (.v (.int .u64 (-z))) (by rw [show (IntKind.u64.wrap (-z - 1 + 1)) = (-z) from (by rw [IntWalk.u64_in _ (by omega)]; omega)]) ?_
  refine zza 3 (.v (.int .u64 (-z))) ?_
  refine zzb 28 [(2, .adr 2 0), (3, .v (.int .u64 (-z)))] [(2, ⟨39, [.bool false, .slice none 0 0]⟩)] ?_
  refine sq9 ?_
  refine zza 11 (.v (.int .u64 (-z))) ?_
  refine zyp 12 (x := .v (.int .u32 (IntKind.u32.wrap (-z)))) (.v (.int .u32 ((-z) % 4294967296))) (by rw [show (IntKind.u32.wrap (-z)) = ((-z) % 4294967296) from (IntKind.wrap_u32 _)]) ?_
  refine zza 13 (.v (.int .u64 (-z))) ?_
  refine zyp 14 (x := .v (.int .u64 (Int.fdiv (-z) (2 ^ 32)))) (.v (.int .u64 ((-z) / 4294967296))) (by rw [show (Int.fdiv (-z) (2 ^ 32)) = ((-z) / 4294967296) from (by rw [Int.fdiv_eq_ediv_of_nonneg _ (by decide)]; rfl)]) ?_
  refine zyp 15 (x := .v (.int .u32 (IntKind.u32.wrap ((-z) / 4294967296)))) (.v (.int .u32 ((-z) / 4294967296))) (by rw [show (IntKind.u32.wrap ((-z) / 4294967296)) = ((-z) / 4294967296) from (IntWalk.u32_in _ (by omega))]) ?_
  refine sy_data 16 ⟨113, [.int .u32 ((-z) % 4294967296), .int .u32 ((-z) / 4294967296)]⟩ 2 (fun b11 u12 e13 h14 => ?_)
  refine zza 17 (.v (.agg #[.bool true, .slice (some ⟨b11, 0, none⟩) 2 2])) ?_
  refine zzf 18 144 [.agg #[.bool true, .slice (some ⟨b11, 0, none⟩) 2 2]] ?_
  intro w15 u15 e15 d15
  have k20 := k_riTrim d15 (IntV.same (s := true) ((two_data (N := z.natAbs) h14 (by omega) (by omega) (by omega)).ext e15)) (by omega)
  with_reducible refine Post.mono k20 ?_
  rintro _ u18 g19 ⟨i16, rfl, h17⟩
  refine zzi ⟨39, i16.cs⟩ ty39 ?_
  refine zzb 28 [(2, .adr 2 0)] [(2, ⟨39, i16.cs⟩)] ?_
  refine zzn (zzv (ret0 [i16.v] ⟨zzq ty39 zzd, trivial⟩ fun u21 e22 => ?_))
  refine ⟨i16, rfl, IntN.more (K := 2) ?_ (by omega)⟩
  have e : z = Nt.sg true z.natAbs := by unfold Nt.sg; simp; omega
  rw [e]
  exact (h17.ext e22)
 ·refine zzl (args := [.int .i64 z]) Tryz.func64 rfl Tryz.ntmps64 (rs := [.cell 2 39]) Tryz.results64 (le_b rfl) (le_b rfl) d ?_
  refine sq9 ?_
  refine zzj 2 ⟨39, [.bool false, .slice none 0 0]⟩ ?_
  refine zzb 28 [(0, .v (.int .i64 z)), (2, .adr 2 0)] [(2, ⟨39, [.bool false, .slice none 0 0]⟩)] ?_
  refine zzc ?_
  refine sq9 ?_
  refine zza 4 (.v (.int .i64 z)) ?_
  refine zyp 5 (x := .v (.bool (decide (z < 0)))) (.v (.bool false)) (by rw [show (decide (z < 0)) = false from (by simp; omega)]) ?_
  refine zzb 28 [(0, .v (.int .i64 z)), (2, .adr 2 0), (5, .v (.bool false))] [(2, ⟨39, [.bool false, .slice none 0 0]⟩)] ?_
  refine zyr (by kernel_rfl) ?_
  refine zzr (zzo ?_)
  refine sq9 ?_
  refine zza 19 (.v (.int .i64 z)) ?_
  refine zyp 20 (x := .v (.int .u32 (IntKind.u32.wrap z))) (.v (.int .u32 (z % 4294967296))) (by rw [show (IntKind.u32.wrap z) = (z % 4294967296) from (IntKind.wrap_u32 _)]) ?_
  refine zza 21 (.v (.int .i64 z)) ?_
  refine zyp 22 (x := .v (.int .u64 (IntKind.u64.wrap z))) (.v (.int .u64 (z))) (by rw [show (IntKind.u64.wrap z) = z from (IntWalk.u64_in _ (by omega))]) ?_
  refine zyp 23 (x := .v (.int .u64 (Int.fdiv z (2 ^ 32)))) (.v (.int .u64 (z / 4294967296))) (by rw [show (Int.fdiv z (2 ^ 32)) = (z / 4294967296) from (by rw [Int.fdiv_eq_ediv_of_nonneg _ (by decide)]; rfl)]) ?_
  refine zyp 24 (x := .v (.int .u32 (IntKind.u32.wrap (z / 4294967296)))) (.v (.int .u32 (z / 4294967296))) (by rw [show (IntKind.u32.wrap (z / 4294967296)) = (z / 4294967296) from (IntWalk.u32_in _ (by omega))]) ?_
  refine sy_data 25 ⟨113, [.int .u32 (z % 4294967296), .int .u32 (z / 4294967296)]⟩ 2 (fun b11 u12 e13 h14 => ?_)
  refine zza 26 (.v (.agg #[.bool false, .slice (some ⟨b11, 0, none⟩) 2 2])) ?_
  refine zzf 27 144 [.agg #[.bool false, .slice (some ⟨b11, 0, none⟩) 2 2]] ?_
  intro w15 u15 e15 d15
  have k20 := k_riTrim d15 (nat_int ((two_data (N := z.natAbs) h14 (by omega) (by omega) (by omega)).ext e15)) (by omega)
  with_reducible refine Post.mono k20 ?_
  rintro _ u18 g19 ⟨i16, rfl, h17⟩
  refine zzi ⟨39, i16.cs⟩ ty39 ?_
  refine zzb 28 [(2, .adr 2 0)] [(2, ⟨39, i16.cs⟩)] ?_
  refine zzn (ret0 [i16.v] ⟨zzq ty39 zzd, trivial⟩ fun u21 e22 => ?_)
  refine ⟨i16, rfl, IntN.more (K := 2) ?_ (by omega)⟩
  have e : z = Nt.sg false z.natAbs := by unfold Nt.sg; simp; omega
  rw [e]
  exact (h17.ext e22)
set_option maxHeartbeats 2000000 in
theorem k_riDiv {u w : World} {i1 : IL} {zN : Int} {K : Nat} {i2 : IL} {zM : Int} {L : Nat} (d : Dat u w) (hi1 : IntV u i1 zN K) (hi2 : IntV u i2 zM L) (hM0 : zM ≠ 0) (hK : K ≤ 400000000) (hL : L ≤ 400000000) : Calls Tryz.prog 183 #[i1.v, i2.v] w (Post u w fun v u' => ∃ i j : IL, v = .tuple #[i.v, j.v, .int .i64 0] ∧ IntN u' i (zN / zM) (K + 1) ∧ IntN u' j (zN % zM) L) := by
 have hM : 0 < zM.natAbs := Int.natAbs_pos.2 hM0
 have hL1 : 1 ≤ L := by have h2 := hi2.size; have h3 := Nt.dl_mono (x := zM.natAbs) (y := 1) (by omega); rw [Nt.dl_one] at h3; omega
 refine zzl (args := [i1.v, i2.v]) Tryz.func183 rfl Tryz.ntmps183 (rs := [.cell 4 39, .cell 5 39, .tmp 6]) Tryz.results183 (le_b rfl) (le_b rfl) d ?_
 refine sq9 ?_
 refine zzj 2 ⟨39, i1.cs⟩ ?_
 refine zzj 3 ⟨39, i2.cs⟩ ?_
 refine zzj 4 ⟨39, [.bool false, .slice none 0 0]⟩ ?_
 refine zzj 5 ⟨39, [.bool false, .slice none 0 0]⟩ ?_
 refine zza 6 (.v (.int .i64 0)) ?_
 refine zzb 52 [(2, .adr 2 0), (3, .adr 3 0), (4, .adr 4 0), (5, .adr 5 0)] [(2, ⟨39, i1.cs⟩), (3, ⟨39, i2.cs⟩), (4, ⟨39, [.bool false, .slice none 0 0]⟩), (5, ⟨39, [.bool false, .slice none 0 0]⟩)] ?_
 refine zzc ?_
 refine zzy [0, 1, 0, 7, 15, 31] [(0, []), (2, []), (1, []), (3, []), (4, []), (5, [])] (by kernel_rfl) (by kernel_rfl) ?_
 refine zzh 10 (.v (i1.v)) ty39 zzd ?_
 refine zzh 12 (.v (i2.v)) ty39 zzd ?_
 refine zzf 11 144 [i1.v] ?_
 intro w11 u11 e11 d11
 have k16 := k_riTrim d11 (hi1.ext e11) (by omega)
 with_reducible refine Post.mono k16 ?_
 rintro _ u14 g15 ⟨i12, rfl, h13⟩
 refine zzf 13 144 [i2.v] ?_
 intro w17 u17 e17 d17
 have k22 := k_riTrim d17 (hi2.ext (e11.trans (g15.ext.trans e17))) (by omega)
 with_reducible refine Post.mono k22 ?_
 rintro _ u20 g21 ⟨i18, rfl, h19⟩
 refine zzi ⟨39, i12.cs⟩ ty39 ?_
 refine zzi ⟨39, i18.cs⟩ ty39 ?_
 refine zzb 52 [(2, .adr 2 0), (3, .adr 3 0), (4, .adr 4 0), (5, .adr 5 0)] [(2, ⟨39, i12.cs⟩), (3, ⟨39, i18.cs⟩), (4, ⟨39, [.bool false, .slice none 0 0]⟩), (5, ⟨39, [.bool false, .slice none 0 0]⟩)] ?_
 refine sq9 ?_
 refine zza 15 (.adr 2 1) ?_
 refine zzh 16 (.v i12.m.v) ty37 zzk ?_
 refine zza 17 (.adr 3 1) ?_
 refine zzh 18 (.v i18.m.v) ty37 zzk ?_
 refine zzf 19 207 [i12.m.v, i18.m.v] ?_
 intro w23 u23 e23 d23
 have k30 := k_rnDivMod d23 ((int_mag h13).ext (e17.trans (g21.ext.trans e23))).raw ((int_mag h19).ext e23).raw hM (by omega) (by omega)
 with_reducible refine Post.mono k30 ?_
 rintro _ u28 g29 ⟨x24, x25, rfl, h26, h27⟩
 refine zza 14 (.v (.tuple #[x24.v, x25.v, .int .i64 0])) ?_
 refine zza 20 (.v x24.v) ?_
 refine zza 21 (.v x25.v) ?_
 refine zza 22 (.v (.int .i64 0)) ?_
 refine zza 7 (.v x24.v) ?_
 refine zza 8 (.v x25.v) ?_
 refine zza 9 (.v (.int .i64 0)) ?_
 refine zzb 52 [(2, .adr 2 0), (3, .adr 3 0), (4, .adr 4 0), (5, .adr 5 0), (7, .v x24.v), (8, .v x25.v), (9, .v (.int .i64 0))] [(2, ⟨39, i12.cs⟩), (3, ⟨39, i18.cs⟩), (4, ⟨39, [.bool false, .slice none 0 0]⟩), (5, ⟨39, [.bool false, .slice none 0 0]⟩)] ?_
 refine zzc ?_
 refine sq9 ?_
 refine zza 23 (.v (.int .i64 0)) ?_
 refine zza 24 (.v (.bool false)) ?_
 refine zzb 52 [(2, .adr 2 0), (3, .adr 3 0), (4, .adr 4 0), (5, .adr 5 0), (7, .v x24.v), (8, .v x25.v), (9, .v (.int .i64 0)), (24, .v (.bool false))] [(2, ⟨39, i12.cs⟩), (3, ⟨39, i18.cs⟩), (4, ⟨39, [.bool false, .slice none 0 0]⟩), (5, ⟨39, [.bool false, .slice none 0 0]⟩)] ?_
 refine zyr (by kernel_rfl) ?_
 refine zzr (zzo ?_)
 refine zzc ?_
 refine sq9 ?_
 refine zza 28 (.adr 2 0) ?_
 refine zzh 29 (.v (.bool i12.s)) ty4 zzk ?_
 rcases Bool.eq_false_or_eq_true i12.s with hs31 | hs31
 ·refine zyp 30 (x := .v (.bool i12.s)) (.v (.bool true)) (by rw [hs31]) ?_
  refine zza 31 (.v x25.v) ?_ (hw := w1 2 true 30)
  refine zza 32 (.v (.int .i64 (x25.n : Int))) ?_ (hw := w1 2 true 30)
  refine zza 33 (.v (.bool (decide ((0 : Int) < (x25.n : Int))))) ?_ (hw := w1 2 true 30)
  refine zza 34 (.v (.bool (decide ((0 : Int) < (x25.n : Int))))) ?_
  refine zzb 52 [(2, .adr 2 0), (3, .adr 3 0), (4, .adr 4 0), (5, .adr 5 0), (7, .v x24.v), (8, .v x25.v), (34, .v (.bool (decide ((0 : Int) < (x25.n : Int)))))] [(2, ⟨39, i12.cs⟩), (3, ⟨39, i18.cs⟩), (4, ⟨39, [.bool false, .slice none 0 0]⟩), (5, ⟨39, [.bool false, .slice none 0 0]⟩)] ?_
  refine zzt (b := decide ((0 : Int) < (x25.n : Int))) (by kernel_rfl) (fun hb32 => ?_) (fun hb32 => ?_)
  ·replace hb32 : (decide ((0 : Int) < (x25.n : Int))) = true := hb32
   have qhb32 := of_decide_eq_true hb32
   refine zzy [0, 0, 3, 0, 8, 0, 63, 127, 255] [(0, []), (1, []), (3, []), (4, []), (5, []), (2, [36]), (6, []), (7, []), (8, [])] (by kernel_rfl) (by kernel_rfl) ?_
   refine zza 35 (.v x24.v) ?_
   refine sy_lit 36 ⟨113, [.int .u32 1]⟩ 1 ?_
   refine zza 38 (.adr 3 1) ?_
   refine zzh 39 (.v i18.m.v) ty37 zzk ?_
   refine zza 40 (.v x25.v) ?_
   refine zyn 37 203 [.v x24.v, .slc 36 0 1 1] [36] (.inr rfl) (pub_mk (by repeat first | exact noAt_of | refine zyc ?_ | refine zye ?_ | refine zyd ?_ | refine zzx ?_ | refine zya ?_)) (k := ?_)
   intro B33 w33 u33 e33 d33 v33
   have h35 : u33.heap[B33 36]? = some (.cells #[.int .u32 1] 113 (0, 0)) := v33 36 (by simp) _ rfl
   obtain ⟨b34, hBb34⟩ : ∃ b, B33 36 = b := ⟨_, rfl⟩
   rw [hBb34] at h35
   show Calls _ _ #[.slice x24.a x24.n x24.c, .slice (some ⟨B33 36, 0, none⟩) 1 1] _ _
   rw [hBb34]
   have k40 := k_rnAdd d33 (h26.ext e33).raw (one_data h35).raw (by omega) (by omega)
   with_reducible refine Post.mono k40 ?_
   rintro _ u38 g39 ⟨x36, rfl, h37⟩
   refine zzf 41 205 [i18.m.v, x25.v] ?_
   intro w41 u41 e41 d41
   have k46 := k_rnSub d41 ((int_mag h19).ext (e23.trans (g29.ext.trans (e33.trans (g39.ext.trans e41))))).raw (h27.ext (e33.trans (g39.ext.trans e41))).raw (by omega) (by omega)
   with_reducible refine Post.mono k46 ?_
   rintro _ u44 g45 ⟨x42, rfl, h43⟩
   refine zza 7 (.v x36.v) ?_
   refine zza 8 (.v x42.v) ?_
   refine zzb 52 [(2, .adr 2 0), (3, .adr 3 0), (4, .adr 4 0), (5, .adr 5 0), (7, .v x36.v), (8, .v x42.v)] [(2, ⟨39, i12.cs⟩), (3, ⟨39, i18.cs⟩), (4, ⟨39, [.bool false, .slice none 0 0]⟩), (5, ⟨39, [.bool false, .slice none 0 0]⟩)] ?_
   refine sq9 ?_
   refine zza 42 (.adr 2 0) ?_
   refine zzh 43 (.v (.bool i12.s)) ty4 zzk ?_
   refine zza 44 (.adr 3 0) ?_
   refine zzh 45 (.v (.bool i18.s)) ty4 zzk ?_
   refine zza 46 (.v (.bool (!(i12.s == i18.s)))) ?_
   refine zza 47 (.v x36.v) ?_
   refine zza 48 (.v (.agg #[.bool (!(i12.s == i18.s)), x36.v])) ?_
   refine zzf 49 144 [.agg #[.bool (!(i12.s == i18.s)), x36.v]] ?_
   intro w47 u47 e47 d47
   have k52 := k_riTrim d47 (IntV.same (s := !(i12.s == i18.s)) (h37.ext (e41.trans (g45.ext.trans e47))).raw) (by omega)
   with_reducible refine Post.mono k52 ?_
   rintro _ u50 g51 ⟨i48, rfl, h49⟩
   refine zza 50 (.v x42.v) ?_
   refine zza 51 (.v (.agg #[.bool false, x42.v])) ?_
   refine zzi ⟨39, i48.cs⟩ ty39 ?_
   refine zzi ⟨39, [.bool false, x42.v]⟩ ty39 ?_
   refine zza 6 (.v (.int .i64 0)) ?_
   refine zzb 52 [(4, .adr 4 0), (5, .adr 5 0), (6, .v (.int .i64 0))] [(4, ⟨39, i48.cs⟩), (5, ⟨39, [.bool false, x42.v]⟩)] ?_
   refine zzn (ret0 [i48.v, .agg #[.bool false, .slice x42.a x42.n x42.c], .int .i64 0] ⟨zzq ty39 zzd, zzq ty39 zzd, zzp, trivial⟩ fun u53 e54 => ?_)
   have hs := h13.1
   have ht := h19.1
   have hr := h27.pos
   have qhs31 := hs31
   have qhb32 := hb32
   have key := Nt.ediv_neg' zN zM rfl rfl hM (by rw [hs] at hs31; simpa using hs31) (by simp at hb32; omega)
   have hK1 : 1 ≤ K := by have h2 := hi1.size; have h3 := (Nt.dl_pos (x := zN.natAbs)).2 (by rw [hs] at hs31; simp at hs31; omega); omega
   rw [← hs, ← ht] at key
   refine ⟨i48, (⟨false, x42⟩ : IL), rfl, IntN.more (K := (max K 1 + 1)) ?_ (by omega), IntN.more (K := L) ?_ (by omega)⟩
   ·rw [key.1]; exact (h49.ext e54)
   ·rw [key.2]; exact (nat_intN (h43.ext (e47.trans (g51.ext.trans e54))))
  ·replace hb32 : (decide ((0 : Int) < (x25.n : Int))) = false := hb32
   have qhb32 := of_decide_eq_false hb32
   refine zzr (zzo ?_)
   refine sq9 ?_
   refine zza 42 (.adr 2 0) ?_
   refine zzh 43 (.v (.bool i12.s)) ty4 zzk ?_
   refine zza 44 (.adr 3 0) ?_
   refine zzh 45 (.v (.bool i18.s)) ty4 zzk ?_
   refine zza 46 (.v (.bool (!(i12.s == i18.s)))) ?_
   refine zza 47 (.v x24.v) ?_
   refine zza 48 (.v (.agg #[.bool (!(i12.s == i18.s)), x24.v])) ?_
   refine zzf 49 144 [.agg #[.bool (!(i12.s == i18.s)), x24.v]] ?_
   intro w55 u55 e55 d55
   have k60 := k_riTrim d55 (IntV.same (s := !(i12.s == i18.s)) (h26.ext e55).raw) (by omega)
   with_reducible refine Post.mono k60 ?_
   rintro _ u58 g59 ⟨i56, rfl, h57⟩
   refine zza 50 (.v x25.v) ?_
   refine zza 51 (.v (.agg #[.bool false, x25.v])) ?_
   refine zzi ⟨39, i56.cs⟩ ty39 ?_
   refine zzi ⟨39, [.bool false, x25.v]⟩ ty39 ?_
   refine zza 6 (.v (.int .i64 0)) ?_
   refine zzb 52 [(4, .adr 4 0), (5, .adr 5 0), (6, .v (.int .i64 0))] [(4, ⟨39, i56.cs⟩), (5, ⟨39, [.bool false, x25.v]⟩)] ?_
   refine zzn (ret0 [i56.v, .agg #[.bool false, .slice x25.a x25.n x25.c], .int .i64 0] ⟨zzq ty39 zzd, zzq ty39 zzd, zzp, trivial⟩ fun u61 e62 => ?_)
   have hs := h13.1
   have ht := h19.1
   have hr := h27.pos
   have qhs31 := hs31
   have qhb32 := hb32
   have key := Nt.ediv_pos zN zM rfl rfl hM (fun hc => by simp at hb32; omega)
   rw [← hs, ← ht] at key
   refine ⟨i56, (⟨false, x25⟩ : IL), rfl, IntN.more (K := K) ?_ (by omega), IntN.more (K := L) ?_ (by omega)⟩
   ·rw [key.1]; exact (h57.ext e62)
   ·rw [key.2]; exact (nat_intN (h27.ext (e55.trans (g59.ext.trans e62))))
 ·refine zyp 30 (x := .v (.bool i12.s)) (.v (.bool false)) (by rw [hs31]) ?_
  refine zzm 31 (uw 2 true false 30) ?_
  refine zzm 32 (uw 2 true false 30) ?_
  refine zzm 33 (uw 2 true false 30) ?_
  refine zza 34 (.v (.bool false)) ?_
  refine zzb 52 [(2, .adr 2 0), (3, .adr 3 0), (4, .adr 4 0), (5, .adr 5 0), (7, .v x24.v), (8, .v x25.v), (34, .v (.bool false))] [(2, ⟨39, i12.cs⟩), (3, ⟨39, i18.cs⟩), (4, ⟨39, [.bool false, .slice none 0 0]⟩), (5, ⟨39, [.bool false, .slice none 0 0]⟩)] ?_
  refine zyr (by kernel_rfl) ?_
  refine zzr (zzo ?_)
  refine sq9 ?_
  refine zza 42 (.adr 2 0) ?_
  refine zzh 43 (.v (.bool i12.s)) ty4 zzk ?_
  refine zza 44 (.adr 3 0) ?_
  refine zzh 45 (.v (.bool i18.s)) ty4 zzk ?_
  refine zza 46 (.v (.bool (!(i12.s == i18.s)))) ?_
  refine zza 47 (.v x24.v) ?_
  refine zza 48 (.v (.agg #[.bool (!(i12.s == i18.s)), x24.v])) ?_
  refine zzf 49 144 [.agg #[.bool (!(i12.s == i18.s)), x24.v]] ?_
  intro w63 u63 e63 d63
  have k68 := k_riTrim d63 (IntV.same (s := !(i12.s == i18.s)) (h26.ext e63).raw) (by omega)
  with_reducible refine Post.mono k68 ?_
  rintro _ u66 g67 ⟨i64, rfl, h65⟩
  refine zza 50 (.v x25.v) ?_
  refine zza 51 (.v (.agg #[.bool false, x25.v])) ?_
  refine zzi ⟨39, i64.cs⟩ ty39 ?_
  refine zzi ⟨39, [.bool false, x25.v]⟩ ty39 ?_
  refine zza 6 (.v (.int .i64 0)) ?_
  refine zzb 52 [(4, .adr 4 0), (5, .adr 5 0), (6, .v (.int .i64 0))] [(4, ⟨39, i64.cs⟩), (5, ⟨39, [.bool false, x25.v]⟩)] ?_
  refine zzn (ret0 [i64.v, .agg #[.bool false, .slice x25.a x25.n x25.c], .int .i64 0] ⟨zzq ty39 zzd, zzq ty39 zzd, zzp, trivial⟩ fun u69 e70 => ?_)
  have hs := h13.1
  have ht := h19.1
  have hr := h27.pos
  have qhs31 := hs31
  have key := Nt.ediv_pos zN zM rfl rfl hM (fun hc => by rw [hs] at hs31; simp at hs31; omega)
  rw [← hs, ← ht] at key
  refine ⟨i64, (⟨false, x25⟩ : IL), rfl, IntN.more (K := K) ?_ (by omega), IntN.more (K := L) ?_ (by omega)⟩
  ·rw [key.1]; exact (h65.ext e70)
  ·rw [key.2]; exact (nat_intN (h27.ext (e63.trans (g67.ext.trans e70))))
set_option maxHeartbeats 2000000 in
theorem k_reduce {u w : World} {i1 i2 : IL} {z y : Int} {K L : Nat} (d : Dat u w) (hi1 : IntV u i1 z K) (hi2 : IntV u i2 y L) (hK : K ≤ 400000000) (hL : L ≤ 400000000) : Calls Tryz.prog 149 #[i1.v, i2.v] w (Post u w fun v u' => ∃ r : RL, v = r.v ∧ RatN u' r ((z : Rat) / (y : Rat)) (max K L + 1)) := by
 refine zzl (args := [i1.v, i2.v]) Tryz.func149 rfl Tryz.ntmps149 (rs := [.cell 4 41]) Tryz.results149 (le_b rfl) (le_b rfl) d ?_
 refine sq9 ?_
 refine zzj 2 ⟨39, i1.cs⟩ ?_
 refine zzj 3 ⟨39, i2.cs⟩ ?_
 refine zzj 4 ⟨41, [.bool false, .slice none 0 0, .slice none 0 0]⟩ ?_
 refine zzb 47 [(2, .adr 2 0), (3, .adr 3 0), (4, .adr 4 0)] [(2, ⟨39, i1.cs⟩), (3, ⟨39, i2.cs⟩), (4, ⟨41, [.bool false, .slice none 0 0, .slice none 0 0]⟩)] ?_
 refine zzc ?_
 refine sq9 ?_
 refine zzh 12 (.v (i1.v)) ty39 zzd ?_
 refine zzf 13 146 [i1.v] ?_
 intro w11 u11 e11 d11
 have k14 := k_riSign d11 (hi1.ext e11) (by omega)
 with_reducible refine Post.mono k14 ?_
 rintro _ u12 g13 rfl
 refine zza 14 (.v (.bool ((Nt.cmpS z 0) == 0))) ?_
 rcases Bool.eq_false_or_eq_true ((Nt.cmpS z 0) == 0) with hs15 | hs15
 ·refine zyp 15 (x := .v (.bool ((Nt.cmpS z 0) == 0))) (.v (.bool true)) (by rw [hs15]) ?_
  have hz0 : z = 0 := Nt.cmp_eq0 hs15
  refine zzm 16 (uw 3 false true 15) ?_
  refine zzm 17 (uw 3 false true 15) ?_
  refine zzm 18 (uw 3 false true 15) ?_
  refine zza 19 (.v (.bool true)) ?_
  refine zzb 47 [(2, .adr 2 0), (3, .adr 3 0), (4, .adr 4 0), (19, .v (.bool true))] [(2, ⟨39, i1.cs⟩), (3, ⟨39, i2.cs⟩), (4, ⟨41, [.bool false, .slice none 0 0, .slice none 0 0]⟩)] ?_
  refine zyq (by kernel_rfl) ?_
  refine sq9 ?_
  refine sy_data 20 ⟨113, [.int .u32 1]⟩ 1 (fun b16 u17 e18 h19 => ?_)
  refine zza 21 (.v (.agg #[.bool false, .slice none 0 0, .slice (some ⟨b16, 0, none⟩) 1 1])) ?_
  refine zzi ⟨41, [.bool false, .slice none 0 0, .slice (some ⟨b16, 0, none⟩) 1 1]⟩ ty41 ?_
  refine zzb 47 [(4, .adr 4 0)] [(4, ⟨41, [.bool false, .slice none 0 0, .slice (some ⟨b16, 0, none⟩) 1 1]⟩)] ?_
  refine zzn (zzv (ret0 [.agg #[.bool false, .slice none 0 0, .slice (some ⟨b16, 0, none⟩) 1 1]] ⟨zzq ty41 zzd, trivial⟩ fun u20 e21 => ?_))
  refine ⟨(⟨false, ⟨none, 0, 0⟩, (⟨some ⟨b16, 0, none⟩, 1, 1⟩ : Sl)⟩ : RL), rfl, ?_⟩
  have h9 : (z : Rat) / (y : Rat) = ((0 : Int) : Rat) := by rw [hz0]; simp [Rat.div_def]
  rw [h9]
  exact RatN.more (whole_rat (int_zero _ 1) ((one_data h19).ext e21)) (by omega)
 ·refine zyp 15 (x := .v (.bool ((Nt.cmpS z 0) == 0))) (.v (.bool false)) (by rw [hs15]) ?_
  have hz0 : z ≠ 0 := Nt.cmp_ne0 hs15
  refine zzh 16 (.v (i2.v)) ty39 zzd ?_ (hw := w1 3 false 15)
  refine zzf 17 146 [i2.v] ?_ (hw := w1 3 false 15)
  intro w22 u22 e22 d22
  have k25 := k_riSign d22 (hi2.ext (e11.trans (g13.ext.trans e22))) (by omega)
  with_reducible refine Post.mono k25 ?_
  rintro _ u23 g24 rfl
  refine zza 18 (.v (.bool ((Nt.cmpS y 0) == 0))) ?_ (hw := w1 3 false 15)
  refine zza 19 (.v (.bool ((Nt.cmpS y 0) == 0))) ?_
  refine zzb 47 [(2, .adr 2 0), (3, .adr 3 0), (4, .adr 4 0), (19, .v (.bool ((Nt.cmpS y 0) == 0)))] [(2, ⟨39, i1.cs⟩), (3, ⟨39, i2.cs⟩), (4, ⟨41, [.bool false, .slice none 0 0, .slice none 0 0]⟩)] ?_
  refine zzt (b := (Nt.cmpS y 0) == 0) (by kernel_rfl) (fun hb26 => ?_) (fun hb26 => ?_)
  ·replace hb26 : ((Nt.cmpS y 0) == 0) = true := hb26
   have hy0 : y = 0 := Nt.cmp_eq0 hb26
   refine sq9 ?_
   refine sy_data 20 ⟨113, [.int .u32 1]⟩ 1 (fun b27 u28 e29 h30 => ?_)
   refine zza 21 (.v (.agg #[.bool false, .slice none 0 0, .slice (some ⟨b27, 0, none⟩) 1 1])) ?_
   refine zzi ⟨41, [.bool false, .slice none 0 0, .slice (some ⟨b27, 0, none⟩) 1 1]⟩ ty41 ?_
   refine zzb 47 [(4, .adr 4 0)] [(4, ⟨41, [.bool false, .slice none 0 0, .slice (some ⟨b27, 0, none⟩) 1 1]⟩)] ?_
   refine zzn (zzv (ret0 [.agg #[.bool false, .slice none 0 0, .slice (some ⟨b27, 0, none⟩) 1 1]] ⟨zzq ty41 zzd, trivial⟩ fun u31 e32 => ?_))
   refine ⟨(⟨false, ⟨none, 0, 0⟩, (⟨some ⟨b27, 0, none⟩, 1, 1⟩ : Sl)⟩ : RL), rfl, ?_⟩
   have h9 : (z : Rat) / (y : Rat) = ((0 : Int) : Rat) := by rw [hy0]; simp [Rat.div_def]
   rw [h9]
   exact RatN.more (whole_rat (int_zero _ 1) ((one_data h30).ext e32)) (by omega)
  ·replace hb26 : ((Nt.cmpS y 0) == 0) = false := hb26
   have hy0 : y ≠ 0 := Nt.cmp_ne0 hb26
   have hg0 : ((Nat.gcd z.natAbs y.natAbs : Nat) : Int) ≠ 0 := by have h9 := Nat.gcd_pos_of_pos_right z.natAbs (Int.natAbs_pos.2 hy0); omega
   refine zzr (zzo ?_)
   refine sq9 ?_
   refine zzh 22 (.v (i1.v)) ty39 zzd ?_
   refine zzh 23 (.v (i2.v)) ty39 zzd ?_
   refine zzf 24 182 [i1.v, i2.v] ?_
   intro w33 u33 e33 d33
   have k38 := k_riGcd d33 (hi1.ext (e11.trans (g13.ext.trans (e22.trans (g24.ext.trans e33))))) (hi2.ext (e11.trans (g13.ext.trans (e22.trans (g24.ext.trans e33))))) (by omega) (by omega)
   with_reducible refine Post.mono k38 ?_
   rintro _ u36 g37 ⟨i34, rfl, h35⟩
   refine zzj 5 ⟨39, [.bool false, .slice none 0 0]⟩ ?_
   refine zzi ⟨39, i34.cs⟩ ty39 ?_
   refine zzb 47 [(2, .adr 2 0), (3, .adr 3 0), (4, .adr 4 0), (5, .adr 5 0)] [(2, ⟨39, i1.cs⟩), (3, ⟨39, i2.cs⟩), (4, ⟨41, [.bool false, .slice none 0 0, .slice none 0 0]⟩), (5, ⟨39, i34.cs⟩)] ?_
   refine sq9 ?_
   refine zzh 26 (.v (i1.v)) ty39 zzd ?_
   refine zzh 27 (.v (i34.v)) ty39 zzd ?_
   refine zzf 28 183 [i1.v, i34.v] ?_
   intro w39 u39 e39 d39
   have k46 := k_riDiv d39 (hi1.ext (e11.trans (g13.ext.trans (e22.trans (g24.ext.trans (e33.trans (g37.ext.trans e39))))))) (h35.ext e39).raw hg0 (by omega) (by omega)
   with_reducible refine Post.mono k46 ?_
   rintro _ u44 g45 ⟨i40, i42, rfl, h41, h43⟩
   refine zza 25 (.v (.tuple #[i40.v, i42.v, .int .i64 0])) ?_
   refine zza 29 (.v (i40.v)) ?_
   refine zza 30 (.v (i42.v)) ?_
   refine zza 31 (.v (.int .i64 0)) ?_
   refine zzj 6 ⟨39, [.bool false, .slice none 0 0]⟩ ?_
   refine zzj 7 ⟨39, [.bool false, .slice none 0 0]⟩ ?_
   refine zzi ⟨39, i40.cs⟩ ty39 ?_
   refine zzi ⟨39, i42.cs⟩ ty39 ?_
   refine zza 8 (.v (.int .i64 0)) ?_
   refine zzb 47 [(3, .adr 3 0), (4, .adr 4 0), (5, .adr 5 0), (6, .adr 6 0)] [(3, ⟨39, i2.cs⟩), (4, ⟨41, [.bool false, .slice none 0 0, .slice none 0 0]⟩), (5, ⟨39, i34.cs⟩), (6, ⟨39, i40.cs⟩)] ?_
   refine sq9 ?_
   refine zzh 33 (.v (i2.v)) ty39 zzd ?_
   refine zzh 34 (.v (i34.v)) ty39 zzd ?_
   refine zzf 35 183 [i2.v, i34.v] ?_
   intro w47 u47 e47 d47
   have k54 := k_riDiv d47 (hi2.ext (e11.trans (g13.ext.trans (e22.trans (g24.ext.trans (e33.trans (g37.ext.trans (e39.trans (g45.ext.trans e47))))))))) (h35.ext (e39.trans (g45.ext.trans e47))).raw hg0 (by omega) (by omega)
   with_reducible refine Post.mono k54 ?_
   rintro _ u52 g53 ⟨i48, i50, rfl, h49, h51⟩
   refine zza 32 (.v (.tuple #[i48.v, i50.v, .int .i64 0])) ?_
   refine zza 36 (.v (i48.v)) ?_
   refine zza 37 (.v (i50.v)) ?_
   refine zza 38 (.v (.int .i64 0)) ?_
   refine zzj 9 ⟨39, [.bool false, .slice none 0 0]⟩ ?_
   refine zzj 10 ⟨39, [.bool false, .slice none 0 0]⟩ ?_
   refine zzi ⟨39, i48.cs⟩ ty39 ?_
   refine zzi ⟨39, i50.cs⟩ ty39 ?_
   refine zza 11 (.v (.int .i64 0)) ?_
   refine zzb 47 [(4, .adr 4 0), (6, .adr 6 0), (9, .adr 9 0)] [(4, ⟨41, [.bool false, .slice none 0 0, .slice none 0 0]⟩), (6, ⟨39, i40.cs⟩), (9, ⟨39, i48.cs⟩)] ?_
   refine zzc ?_
   refine sq9 ?_
   refine zza 39 (.adr 9 0) ?_
   refine zzh 40 (.v (.bool i48.s)) ty4 zzk ?_
   refine zzb 47 [(4, .adr 4 0), (6, .adr 6 0), (9, .adr 9 0), (40, .v (.bool i48.s))] [(4, ⟨41, [.bool false, .slice none 0 0, .slice none 0 0]⟩), (6, ⟨39, i40.cs⟩), (9, ⟨39, i48.cs⟩)] ?_
   refine zzt (b := i48.s) (by kernel_rfl) (fun hb55 => ?_) (fun hb55 => ?_)
   ·replace hb55 : i48.s = true := hb55
    refine zze ?_
    refine zzh 41 (.v (i40.v)) ty39 zzd ?_
    refine zzf 42 160 [i40.v] ?_
    intro w56 u56 e56 d56
    have k61 := k_riNeg d56 (h41.ext (e47.trans (g53.ext.trans e56))).raw (by omega)
    with_reducible refine Post.mono k61 ?_
    rintro _ u59 g60 ⟨i57, rfl, h58⟩
    refine zzi ⟨39, i57.cs⟩ ty39 ?_
    refine zzb 47 [(4, .adr 4 0), (6, .adr 6 0), (9, .adr 9 0)] [(4, ⟨41, [.bool false, .slice none 0 0, .slice none 0 0]⟩), (6, ⟨39, i57.cs⟩), (9, ⟨39, i48.cs⟩)] ?_
    refine sq9 ?_
    refine zzh 43 (.v (i57.v)) ty39 zzd ?_
    refine zza 44 (.adr 9 1) ?_
    refine zzh 45 (.v i48.m.v) ty37 zzk ?_
    refine zza 46 (.v (.agg #[.bool i57.s, i57.m.v, i48.m.v])) ?_
    refine zzi ⟨41, i57.cs ++ [i48.m.v]⟩ ty41 ?_
    refine zzb 47 [(4, .adr 4 0)] [(4, ⟨41, i57.cs ++ [i48.m.v]⟩)] ?_
    refine zzn (ret0 [.agg #[.bool i57.s, .slice i57.m.a i57.m.n i57.m.c, .slice i48.m.a i48.m.n i48.m.c]] ⟨zzq ty41 zzd, trivial⟩ fun u62 e63 => ?_)
    refine ⟨(⟨i57.s, i57.m, i48.m⟩ : RL), rfl, RatN.more (red_neg hy0 rfl (h58.ext e63) h49 hb55 ((int_mag h49).ext (e56.trans (g60.ext.trans e63)))) (by omega)⟩
   ·replace hb55 : i48.s = false := hb55
    refine zzr (zzo ?_)
    refine sq9 ?_
    refine zzh 43 (.v (i40.v)) ty39 zzd ?_
    refine zza 44 (.adr 9 1) ?_
    refine zzh 45 (.v i48.m.v) ty37 zzk ?_
    refine zza 46 (.v (.agg #[.bool i40.s, i40.m.v, i48.m.v])) ?_
    refine zzi ⟨41, i40.cs ++ [i48.m.v]⟩ ty41 ?_
    refine zzb 47 [(4, .adr 4 0)] [(4, ⟨41, i40.cs ++ [i48.m.v]⟩)] ?_
    refine zzn (ret0 [.agg #[.bool i40.s, .slice i40.m.a i40.m.n i40.m.c, .slice i48.m.a i48.m.n i48.m.c]] ⟨zzq ty41 zzd, trivial⟩ fun u64 e65 => ?_)
    refine ⟨(⟨i40.s, i40.m, i48.m⟩ : RL), rfl, RatN.more (red_pos hy0 rfl (h41.ext (e47.trans (g53.ext.trans e65))) h49 hb55 ((int_mag h49).ext e65)) (by omega)⟩
theorem k_parts {u w : World} {r : RL} {q : Rat} {K : Nat} (d : Dat u w) (h : RatV u r q K) (hKK : K ≤ 400000000) : Calls Tryz.prog 65 #[r.v] w (Post u w (PartV q K)) := by
 obtain ⟨⟨z, D, hi, hd, hq⟩, hK⟩ := h
 change IntV u ⟨r.s, r.m⟩ z K at hi
 change NatV u r.d D K at hd
 refine zzl (args := [r.v]) Tryz.func65 rfl Tryz.ntmps65 (rs := [.cell 2 39, .cell 3 39]) Tryz.results65 (le_b rfl) (le_b rfl) d ?_
 refine sq9 ?_
 refine zzj 1 ⟨41, r.cs⟩ ?_
 refine zzj 2 ⟨39, [.bool false, .slice none 0 0]⟩ ?_
 refine zzj 3 ⟨39, [.bool false, .slice none 0 0]⟩ ?_
 refine zzb 19 [(1, .adr 1 0), (2, .adr 2 0), (3, .adr 3 0)] [(1, ⟨41, r.cs⟩), (2, ⟨39, [.bool false, .slice none 0 0]⟩), (3, ⟨39, [.bool false, .slice none 0 0]⟩)] ?_
 refine sq9 ?_
 refine zza 5 (.adr 1 2) ?_
 refine zzh 6 (.v r.d.v) ty37 zzk ?_
 refine zzf 7 145 [r.d.v] ?_
 intro w11 u11 e11 d11
 have k16 := k_rnTrim d11 (hd.ext e11) (by omega)
 with_reducible refine Post.mono k16 ?_
 rintro _ u14 g15 ⟨x12, rfl, h13⟩
 refine zza 8 (.v (.agg #[.bool false, x12.v])) ?_
 refine zzj 4 ⟨39, [.bool false, .slice none 0 0]⟩ ?_
 refine zzi ⟨39, [.bool false, x12.v]⟩ ty39 ?_
 refine zzb 19 [(1, .adr 1 0), (2, .adr 2 0), (3, .adr 3 0), (4, .adr 4 0)] [(1, ⟨41, r.cs⟩), (2, ⟨39, [.bool false, .slice none 0 0]⟩), (3, ⟨39, [.bool false, .slice none 0 0]⟩), (4, ⟨39, [.bool false, x12.v]⟩)] ?_
 refine zzc ?_
 refine sq9 ?_
 refine zza 9 (.adr 4 1) ?_
 refine zzh 10 (.v x12.v) ty37 zzk ?_
 refine zza 11 (.v (.int .i64 (x12.n : Int))) ?_
 refine zza 12 (.v (.bool ((x12.n : Int) == 0))) ?_
 refine zzb 19 [(1, .adr 1 0), (2, .adr 2 0), (3, .adr 3 0), (4, .adr 4 0), (12, .v (.bool ((x12.n : Int) == 0)))] [(1, ⟨41, r.cs⟩), (2, ⟨39, [.bool false, .slice none 0 0]⟩), (3, ⟨39, [.bool false, .slice none 0 0]⟩), (4, ⟨39, [.bool false, x12.v]⟩)] ?_
 refine zzt (b := (x12.n : Int) == 0) (by kernel_rfl) (fun hb17 => ?_) (fun hb17 => ?_)
 ·replace hb17 : ((x12.n : Int) == 0) = true := hb17
  have qhb17 : (x12.n : Int) = 0 := by simpa using hb17
  refine sq9 ?_
  refine zza 13 (.v (.agg #[.bool false, .slice none 0 0])) ?_
  refine sy_data 14 ⟨113, [.int .u32 1]⟩ 1 (fun b18 u19 e20 h21 => ?_)
  refine zza 15 (.v (.agg #[.bool false, .slice (some ⟨b18, 0, none⟩) 1 1])) ?_
  refine zzi ⟨39, [.bool false, .slice none 0 0]⟩ ty39 ?_
  refine zzi ⟨39, [.bool false, .slice (some ⟨b18, 0, none⟩) 1 1]⟩ ty39 ?_
  refine zzb 19 [(2, .adr 2 0), (3, .adr 3 0)] [(2, ⟨39, [.bool false, .slice none 0 0]⟩), (3, ⟨39, [.bool false, .slice (some ⟨b18, 0, none⟩) 1 1]⟩)] ?_
  refine zzn (zzv (ret0 [.agg #[.bool false, .slice none 0 0], .agg #[.bool false, .slice (some ⟨b18, 0, none⟩) 1 1]] ⟨zzq ty39 zzd, zzq ty39 zzd, trivial⟩ fun u22 e23 => ?_))
  have hp := h13.pos
  have hD : D = 0 := by simp at hb17; omega
  exact ⟨⟨false, ⟨none, 0, 0⟩⟩, ⟨false, (⟨some ⟨b18, 0, none⟩, 1, 1⟩ : Sl)⟩, 0, 1, rfl, (int_zero _ K).raw, nat_intN (((one_data h21).ext e23).more hK), by omega, by rw [hq, hD]; simp, hK⟩
 ·replace hb17 : ((x12.n : Int) == 0) = false := hb17
  have qhb17 : ¬ ((x12.n : Int) = 0) := by simpa using hb17
  refine zzr (zzo ?_)
  refine zzc ?_
  refine zzy [0, 1, 0, 3, 15] [(0, []), (1, []), (2, []), (3, [4]), (4, [])] (by kernel_rfl) (by kernel_rfl) ?_
  refine zza 16 (.adr 1 0) ?_
  refine zzh 17 (.v (.agg #[.bool r.s, r.m.v])) ty39 zzd ?_
  refine zzh 18 (.v (.agg #[.bool false, x12.v])) ty39 zzd ?_
  refine zzi ⟨39, [.bool r.s, r.m.v]⟩ ty39 ?_
  refine zzi ⟨39, [.bool false, x12.v]⟩ ty39 ?_
  refine zzb 19 [(2, .adr 2 0), (3, .adr 3 0)] [(2, ⟨39, [.bool r.s, r.m.v]⟩), (3, ⟨39, [.bool false, x12.v]⟩)] ?_
  refine zzn (ret0 [.agg #[.bool r.s, .slice r.m.a r.m.n r.m.c], .agg #[.bool false, .slice x12.a x12.n x12.c]] ⟨zzq ty39 zzd, zzq ty39 zzd, trivial⟩ fun u24 e25 => ?_)
  have hp := h13.pos
  exact ⟨⟨r.s, r.m⟩, ⟨false, x12⟩, z, D, rfl, (hi.ext (e11.trans (g15.ext.trans e25))), nat_intN (h13.ext e25), by simp at hb17; omega, hq, hK⟩
theorem k_rqTrim {u w : World} {r1 : RL} {x : Rat} {K : Nat} (d : Dat u w) (hr1 : RatV u r1 x K) (hK : K ≤ 100000000) : Calls Tryz.prog 158 #[r1.v] w (Post u w fun v u' => ∃ r : RL, v = r.v ∧ RatN u' r x K) := by
 refine zzl (args := [r1.v]) Tryz.func158 rfl Tryz.ntmps158 (rs := [.cell 2 41]) Tryz.results158 (le_b rfl) (le_b rfl) d ?_
 refine sq9 ?_
 refine zzj 1 ⟨41, r1.cs⟩ ?_
 refine zzj 2 ⟨41, [.bool false, .slice none 0 0, .slice none 0 0]⟩ ?_
 refine zzb 13 [(1, .adr 1 0), (2, .adr 2 0)] [(1, ⟨41, r1.cs⟩), (2, ⟨41, [.bool false, .slice none 0 0, .slice none 0 0]⟩)] ?_
 refine sq9 ?_
 refine zzh 6 (.v (r1.v)) ty41 zzd ?_
 refine zzf 7 65 [r1.v] ?_
 intro w11 u11 e11 d11
 have k15 := k_parts d11 (hr1.ext e11) (by omega)
 with_reducible refine Post.mono k15 ?_
 rintro _ u13 g14 ⟨i12, j12, z12, D12, rfl, hi12, hj12, hp12, hq12, hk12⟩
 refine zza 5 (.v (.tuple #[i12.v, j12.v])) ?_
 refine zza 8 (.v (i12.v)) ?_
 refine zza 9 (.v (j12.v)) ?_
 refine zzj 3 ⟨39, [.bool false, .slice none 0 0]⟩ ?_
 refine zzj 4 ⟨39, [.bool false, .slice none 0 0]⟩ ?_
 refine zzi ⟨39, i12.cs⟩ ty39 ?_
 refine zzi ⟨39, j12.cs⟩ ty39 ?_
 refine zzb 13 [(2, .adr 2 0), (3, .adr 3 0), (4, .adr 4 0)] [(2, ⟨41, [.bool false, .slice none 0 0, .slice none 0 0]⟩), (3, ⟨39, i12.cs⟩), (4, ⟨39, j12.cs⟩)] ?_
 refine sq9 ?_
 refine zzh 10 (.v (i12.v)) ty39 zzd ?_
 refine zzh 11 (.v (j12.v)) ty39 zzd ?_
 refine zzf 12 149 [i12.v, j12.v] ?_
 intro w16 u16 e16 d16
 have k21 := k_reduce d16 (hi12.ext e16) (hj12.ext e16).raw (by omega) (by omega)
 with_reducible refine Post.mono k21 ?_
 rintro _ u19 g20 ⟨r17, rfl, h18⟩
 refine zzi ⟨41, r17.cs⟩ ty41 ?_
 refine zzb 13 [(2, .adr 2 0)] [(2, ⟨41, r17.cs⟩)] ?_
 refine zzn (ret0 [r17.v] ⟨zzq ty41 zzd, trivial⟩ fun u22 e23 => ?_)
 refine ⟨r17, rfl, RatN.fit (K := (max K K + 1)) ?_ (hr1.rs)⟩
 rw [hq12, ← Nt.mk_div]
 exact (h18.ext e23)
theorem k_rqSame {u w : World} {r1 r2 : RL} {x y : Rat} {K L : Nat} (d : Dat u w) (hr1 : RatN u r1 x K) (hr2 : RatN u r2 y L) : Calls Tryz.prog 208 #[r1.v, r2.v] w (Post u w fun v _ => v = .bool (decide (x = y))) := by
 refine zzl (args := [r1.v, r2.v]) Tryz.func208 rfl Tryz.ntmps208 (rs := [.tmp 4]) Tryz.results208 (le_b rfl) (le_b rfl) d ?_
 refine sq9 ?_
 refine zzj 2 ⟨41, r1.cs⟩ ?_
 refine zzj 3 ⟨41, r2.cs⟩ ?_
 refine zza 4 (.v (.bool false)) ?_
 refine zzb 17 [(2, .adr 2 0), (3, .adr 3 0)] [(2, ⟨41, r1.cs⟩), (3, ⟨41, r2.cs⟩)] ?_
 refine sq9 ?_
 refine zza 5 (.adr 2 0) ?_
 refine zzh 6 (.v (.agg #[.bool r1.s, r1.m.v])) ty39 zzd ?_
 refine zza 7 (.adr 3 0) ?_
 refine zzh 8 (.v (.agg #[.bool r2.s, r2.m.v])) ty39 zzd ?_
 refine zzf 9 224 [.agg #[.bool r1.s, r1.m.v], .agg #[.bool r2.s, r2.m.v]] ?_
 intro w11 u11 e11 d11
 have k14 := k_riSame d11 ((RatN.num hr1).ext e11) ((RatN.num hr2).ext e11)
 with_reducible refine Post.mono k14 ?_
 rintro _ u12 g13 rfl
 rcases Bool.eq_false_or_eq_true (decide (x.num = y.num)) with hs15 | hs15
 ·refine zyp 10 (x := .v (.bool (decide (x.num = y.num)))) (.v (.bool true)) (by rw [hs15]) ?_
  have qhs15 := of_decide_eq_true hs15
  refine zza 11 (.adr 2 2) ?_ (hw := w1 5 true 10)
  refine zzh 12 (.v r1.d.v) ty37 zzk ?_ (hw := w1 5 true 10)
  refine zza 13 (.adr 3 2) ?_ (hw := w1 5 true 10)
  refine zzh 14 (.v r2.d.v) ty37 zzk ?_ (hw := w1 5 true 10)
  refine zzf 15 225 [r1.d.v, r2.d.v] ?_ (hw := w1 5 true 10)
  intro w16 u16 e16 d16
  have k19 := k_rnSame d16 ((RatN.den hr1).ext (e11.trans (g13.ext.trans e16))) ((RatN.den hr2).ext (e11.trans (g13.ext.trans e16)))
  with_reducible refine Post.mono k19 ?_
  rintro _ u17 g18 rfl
  refine zza 16 (.v (.bool (decide (x.den = y.den)))) ?_
  refine zza 4 (.v (.bool (decide (x.den = y.den)))) ?_
  refine zzb 17 [(4, .v (.bool (decide (x.den = y.den))))] [] ?_
  refine zzn (ret0 [.bool (decide (x.den = y.den))] ⟨zzp, trivial⟩ fun u20 e21 => ?_)
  show _ = _
  rw [← Nt.same_q, hs15]
  rfl
 ·refine zyp 10 (x := .v (.bool (decide (x.num = y.num)))) (.v (.bool false)) (by rw [hs15]) ?_
  have qhs15 := of_decide_eq_false hs15
  refine zzm 11 (uw 5 true false 10) ?_
  refine zzm 12 (uw 5 true false 10) ?_
  refine zzm 13 (uw 5 true false 10) ?_
  refine zzm 14 (uw 5 true false 10) ?_
  refine zzm 15 (uw 5 true false 10) ?_
  refine zza 16 (.v (.bool false)) ?_
  refine zza 4 (.v (.bool false)) ?_
  refine zzb 17 [(4, .v (.bool false))] [] ?_
  refine zzn (ret0 [.bool false] ⟨zzp, trivial⟩ fun u22 e23 => ?_)
  show _ = _
  rw [← Nt.same_q, hs15]
  rfl
theorem k_rqOf {u w : World} {z : Int} (d : Dat u w) (h0 : -9223372036854775808 ≤ z) (h1 : z ≤ 9223372036854775807) : Calls Tryz.prog 13 #[.int .i64 z] w (Post u w fun v u' => ∃ r : RL, v = r.v ∧ RatN u' r (z : Rat) 2) := by
 refine zzl (args := [.int .i64 z]) Tryz.func13 rfl Tryz.ntmps13 (rs := [.cell 2 41]) Tryz.results13 (le_b rfl) (le_b rfl) d ?_
 refine sq9 ?_
 refine zzj 2 ⟨41, [.bool false, .slice none 0 0, .slice none 0 0]⟩ ?_
 refine zzb 7 [(0, .v (.int .i64 z)), (2, .adr 2 0)] [(2, ⟨41, [.bool false, .slice none 0 0, .slice none 0 0]⟩)] ?_
 refine sq9 ?_
 refine zza 3 (.v (.int .i64 z)) ?_
 refine zzf 4 64 [.int .i64 z] ?_
 intro w11 u11 e11 d11
 have k16 := k_riOf d11 (z := z) (by omega) (by omega)
 with_reducible refine Post.mono k16 ?_
 rintro _ u14 g15 ⟨i12, rfl, h13⟩
 refine sy_data 5 ⟨113, [.int .u32 1]⟩ 1 (fun b17 u18 e19 h20 => ?_)
 refine zza 6 (.v (.agg #[.bool i12.s, i12.m.v, .slice (some ⟨b17, 0, none⟩) 1 1])) ?_
 refine zzi ⟨41, i12.cs ++ [.slice (some ⟨b17, 0, none⟩) 1 1]⟩ ty41 ?_
 refine zzb 7 [(2, .adr 2 0)] [(2, ⟨41, i12.cs ++ [.slice (some ⟨b17, 0, none⟩) 1 1]⟩)] ?_
 refine zzn (ret0 [.agg #[.bool i12.s, .slice i12.m.a i12.m.n i12.m.c, .slice (some ⟨b17, 0, none⟩) 1 1]] ⟨zzq ty41 zzd, trivial⟩ fun u21 e22 => ?_)
 refine ⟨(⟨i12.s, i12.m, (⟨some ⟨b17, 0, none⟩, 1, 1⟩ : Sl)⟩ : RL), rfl, ?_⟩
 exact whole_rat (h13.ext (e19.trans e22)) ((one_data h20).ext e22)
theorem k_rqFrac {u w : World} {a b : Int} (d : Dat u w) (ha0 : -9223372036854775808 ≤ a) (ha1 : a ≤ 9223372036854775807) (hb0 : -9223372036854775808 ≤ b) (hb1 : b ≤ 9223372036854775807) : Calls Tryz.prog 72 #[.int .i64 a, .int .i64 b] w (Post u w fun v u' => ∃ r : RL, v = r.v ∧ RatN u' r ((a : Rat) / (b : Rat)) 3) := by
 refine zzl (args := [.int .i64 a, .int .i64 b]) Tryz.func72 rfl Tryz.ntmps72 (rs := [.cell 4 41]) Tryz.results72 (le_b rfl) (le_b rfl) d ?_
 refine sq9 ?_
 refine zzj 4 ⟨41, [.bool false, .slice none 0 0, .slice none 0 0]⟩ ?_
 refine zzb 10 [(0, .v (.int .i64 a)), (1, .v (.int .i64 b)), (4, .adr 4 0)] [(4, ⟨41, [.bool false, .slice none 0 0, .slice none 0 0]⟩)] ?_
 refine sq9 ?_
 refine zza 5 (.v (.int .i64 a)) ?_
 refine zzf 6 64 [.int .i64 a] ?_
 intro w11 u11 e11 d11
 have k16 := k_riOf d11 (z := a) (by omega) (by omega)
 with_reducible refine Post.mono k16 ?_
 rintro _ u14 g15 ⟨i12, rfl, h13⟩
 refine zza 7 (.v (.int .i64 b)) ?_
 refine zzf 8 64 [.int .i64 b] ?_
 intro w17 u17 e17 d17
 have k22 := k_riOf d17 (z := b) (by omega) (by omega)
 with_reducible refine Post.mono k22 ?_
 rintro _ u20 g21 ⟨i18, rfl, h19⟩
 refine zzf 9 149 [i12.v, i18.v] ?_
 intro w23 u23 e23 d23
 have k28 := k_reduce d23 (h13.ext (e17.trans (g21.ext.trans e23))).raw (h19.ext e23).raw (by omega) (by omega)
 with_reducible refine Post.mono k28 ?_
 rintro _ u26 g27 ⟨r24, rfl, h25⟩
 refine zzi ⟨41, r24.cs⟩ ty41 ?_
 refine zzb 10 [(4, .adr 4 0)] [(4, ⟨41, r24.cs⟩)] ?_
 refine zzn (ret0 [r24.v] ⟨zzq ty41 zzd, trivial⟩ fun u29 e30 => ?_)
 refine ⟨r24, rfl, RatN.more (K := (max 2 2 + 1)) ?_ (by omega)⟩
 exact (h25.ext e30)
theorem k_rqSign {u w : World} {r1 : RL} {x : Rat} {K : Nat} (d : Dat u w) (hr1 : RatV u r1 x K) (hK : K ≤ 100000000) : Calls Tryz.prog 157 #[r1.v] w (Post u w fun v u' => v = .int .i64 (Nt.sgQ x)) := by
 refine zzl (args := [r1.v]) Tryz.func157 rfl Tryz.ntmps157 (rs := [.tmp 2]) Tryz.results157 (le_b rfl) (le_b rfl) d ?_
 refine sq9 ?_
 refine zzj 1 ⟨41, r1.cs⟩ ?_
 refine zza 2 (.v (.int .i64 0)) ?_
 refine zzb 12 [(1, .adr 1 0)] [(1, ⟨41, r1.cs⟩)] ?_
 refine sq9 ?_
 refine zzh 6 (.v (r1.v)) ty41 zzd ?_
 refine zzf 7 65 [r1.v] ?_
 intro w11 u11 e11 d11
 have k15 := k_parts d11 (hr1.ext e11) (by omega)
 with_reducible refine Post.mono k15 ?_
 rintro _ u13 g14 ⟨i12, j12, z12, D12, rfl, hi12, hj12, hp12, hq12, hk12⟩
 refine zza 5 (.v (.tuple #[i12.v, j12.v])) ?_
 refine zza 8 (.v (i12.v)) ?_
 refine zza 9 (.v (j12.v)) ?_
 refine zzj 3 ⟨39, [.bool false, .slice none 0 0]⟩ ?_
 refine zzj 4 ⟨39, [.bool false, .slice none 0 0]⟩ ?_
 refine zzi ⟨39, i12.cs⟩ ty39 ?_
 refine zzi ⟨39, j12.cs⟩ ty39 ?_
 refine zzb 12 [(3, .adr 3 0)] [(3, ⟨39, i12.cs⟩)] ?_
 refine sq9 ?_
 refine zzh 10 (.v (i12.v)) ty39 zzd ?_
 refine zzf 11 146 [i12.v] ?_
 intro w16 u16 e16 d16
 have k19 := k_riSign d16 (hi12.ext e16) (by omega)
 with_reducible refine Post.mono k19 ?_
 rintro _ u17 g18 rfl
 refine zza 2 (.v (.int .i64 (Nt.cmpS z12 0))) ?_
 refine zzb 12 [(2, .v (.int .i64 (Nt.cmpS z12 0)))] [] ?_
 refine zzn (ret0 [.int .i64 (Nt.cmpS z12 0)] ⟨zzp, trivial⟩ fun u20 e21 => ?_)
 show _ = _
 rw [hq12, ← Nt.sg_mk hp12]
 rfl
theorem k_rqCompare {u w : World} {r1 : RL} {x : Rat} {K : Nat} {r2 : RL} {y : Rat} {L : Nat} (d : Dat u w) (hr1 : RatV u r1 x K) (hr2 : RatV u r2 y L) (hK : K ≤ 100000000) (hL : L ≤ 100000000) : Calls Tryz.prog 14 #[r1.v, r2.v] w (Post u w fun v u' => v = .int .i64 (Nt.cmpQ x y)) := by
 refine zzl (args := [r1.v, r2.v]) Tryz.func14 rfl Tryz.ntmps14 (rs := [.tmp 4]) Tryz.results14 (le_b rfl) (le_b rfl) d ?_
 refine sq9 ?_
 refine zzj 2 ⟨41, r1.cs⟩ ?_
 refine zzj 3 ⟨41, r2.cs⟩ ?_
 refine zza 4 (.v (.int .i64 0)) ?_
 refine zzb 26 [(2, .adr 2 0), (3, .adr 3 0)] [(2, ⟨41, r1.cs⟩), (3, ⟨41, r2.cs⟩)] ?_
 refine sq9 ?_
 refine zzh 10 (.v (r1.v)) ty41 zzd ?_
 refine zzf 11 65 [r1.v] ?_
 intro w11 u11 e11 d11
 have k15 := k_parts d11 (hr1.ext e11) (by omega)
 with_reducible refine Post.mono k15 ?_
 rintro _ u13 g14 ⟨i12, j12, z12, D12, rfl, hi12, hj12, hp12, hq12, hk12⟩
 refine zza 9 (.v (.tuple #[i12.v, j12.v])) ?_
 refine zza 12 (.v (i12.v)) ?_
 refine zza 13 (.v (j12.v)) ?_
 refine zzj 5 ⟨39, [.bool false, .slice none 0 0]⟩ ?_
 refine zzj 6 ⟨39, [.bool false, .slice none 0 0]⟩ ?_
 refine zzi ⟨39, i12.cs⟩ ty39 ?_
 refine zzi ⟨39, j12.cs⟩ ty39 ?_
 refine zzb 26 [(3, .adr 3 0), (5, .adr 5 0), (6, .adr 6 0)] [(3, ⟨41, r2.cs⟩), (5, ⟨39, i12.cs⟩), (6, ⟨39, j12.cs⟩)] ?_
 refine sq9 ?_
 refine zzh 15 (.v (r2.v)) ty41 zzd ?_
 refine zzf 16 65 [r2.v] ?_
 intro w16 u16 e16 d16
 have k20 := k_parts d16 (hr2.ext (e11.trans (g14.ext.trans e16))) (by omega)
 with_reducible refine Post.mono k20 ?_
 rintro _ u18 g19 ⟨i17, j17, z17, D17, rfl, hi17, hj17, hp17, hq17, hk17⟩
 refine zza 14 (.v (.tuple #[i17.v, j17.v])) ?_
 refine zza 17 (.v (i17.v)) ?_
 refine zza 18 (.v (j17.v)) ?_
 refine zzj 7 ⟨39, [.bool false, .slice none 0 0]⟩ ?_
 refine zzj 8 ⟨39, [.bool false, .slice none 0 0]⟩ ?_
 refine zzi ⟨39, i17.cs⟩ ty39 ?_
 refine zzi ⟨39, j17.cs⟩ ty39 ?_
 refine zzb 26 [(5, .adr 5 0), (6, .adr 6 0), (7, .adr 7 0), (8, .adr 8 0)] [(5, ⟨39, i12.cs⟩), (6, ⟨39, j12.cs⟩), (7, ⟨39, i17.cs⟩), (8, ⟨39, j17.cs⟩)] ?_
 refine zzc ?_
 refine zzy [0, 0, 3, 0, 0, 31, 63, 127] [(0, []), (1, []), (3, []), (4, []), (2, []), (5, []), (6, []), (7, [])] (by kernel_rfl) (by kernel_rfl) ?_
 refine zzh 19 (.v (i12.v)) ty39 zzd ?_
 refine zzh 20 (.v (j17.v)) ty39 zzd ?_
 refine zzh 22 (.v (i17.v)) ty39 zzd ?_
 refine zzh 23 (.v (j12.v)) ty39 zzd ?_
 refine zzf 21 67 [i12.v, j17.v] ?_
 intro w21 u21 e21 d21
 have k26 := k_riMul d21 (hi12.ext (e16.trans (g19.ext.trans e21))) (hj17.ext e21).raw (by omega) (by omega)
 with_reducible refine Post.mono k26 ?_
 rintro _ u24 g25 ⟨i22, rfl, h23⟩
 refine zzf 24 67 [i17.v, j12.v] ?_
 intro w27 u27 e27 d27
 have k32 := k_riMul d27 (hi17.ext (e21.trans (g25.ext.trans e27))) (hj12.ext (e16.trans (g19.ext.trans (e21.trans (g25.ext.trans e27))))).raw (by omega) (by omega)
 with_reducible refine Post.mono k32 ?_
 rintro _ u30 g31 ⟨i28, rfl, h29⟩
 refine zzf 25 66 [i22.v, i28.v] ?_
 intro w33 u33 e33 d33
 have k36 := k_riCompare d33 (h23.ext (e27.trans (g31.ext.trans e33))).raw (h29.ext e33).raw (by omega) (by omega)
 with_reducible refine Post.mono k36 ?_
 rintro _ u34 g35 rfl
 refine zza 4 (.v (.int .i64 (Nt.cmpS (z12 * (D17 : Int)) (z17 * (D12 : Int))))) ?_
 refine zzb 26 [(4, .v (.int .i64 (Nt.cmpS (z12 * (D17 : Int)) (z17 * (D12 : Int)))))] [] ?_
 refine zzn (ret0 [.int .i64 (Nt.cmpS (z12 * (D17 : Int)) (z17 * (D12 : Int)))] ⟨zzp, trivial⟩ fun u37 e38 => ?_)
 show _ = _
 rw [hq12, hq17, ← Nt.cmp_mk hp12 hp17]
 rfl
theorem k_rqAdd {u w : World} {r1 : RL} {x : Rat} {K : Nat} {r2 : RL} {y : Rat} {L : Nat} (d : Dat u w) (hr1 : RatV u r1 x K) (hr2 : RatV u r2 y L) (hK : K ≤ 100000000) (hL : L ≤ 100000000) : Calls Tryz.prog 150 #[r1.v, r2.v] w (Post u w fun v u' => ∃ r : RL, v = r.v ∧ RatN u' r (x + y) (K + L + 2)) := by
 refine zzl (args := [r1.v, r2.v]) Tryz.func150 rfl Tryz.ntmps150 (rs := [.cell 4 41]) Tryz.results150 (le_b rfl) (le_b rfl) d ?_
 refine sq9 ?_
 refine zzj 2 ⟨41, r1.cs⟩ ?_
 refine zzj 3 ⟨41, r2.cs⟩ ?_
 refine zzj 4 ⟨41, [.bool false, .slice none 0 0, .slice none 0 0]⟩ ?_
 refine zzb 30 [(2, .adr 2 0), (3, .adr 3 0), (4, .adr 4 0)] [(2, ⟨41, r1.cs⟩), (3, ⟨41, r2.cs⟩), (4, ⟨41, [.bool false, .slice none 0 0, .slice none 0 0]⟩)] ?_
 refine sq9 ?_
 refine zzh 10 (.v (r1.v)) ty41 zzd ?_
 refine zzf 11 65 [r1.v] ?_
 intro w11 u11 e11 d11
 have k15 := k_parts d11 (hr1.ext e11) (by omega)
 with_reducible refine Post.mono k15 ?_
 rintro _ u13 g14 ⟨i12, j12, z12, D12, rfl, hi12, hj12, hp12, hq12, hk12⟩
 refine zza 9 (.v (.tuple #[i12.v, j12.v])) ?_
 refine zza 12 (.v (i12.v)) ?_
 refine zza 13 (.v (j12.v)) ?_
 refine zzj 5 ⟨39, [.bool false, .slice none 0 0]⟩ ?_
 refine zzj 6 ⟨39, [.bool false, .slice none 0 0]⟩ ?_
 refine zzi ⟨39, i12.cs⟩ ty39 ?_
 refine zzi ⟨39, j12.cs⟩ ty39 ?_
 refine zzb 30 [(3, .adr 3 0), (4, .adr 4 0), (5, .adr 5 0), (6, .adr 6 0)] [(3, ⟨41, r2.cs⟩), (4, ⟨41, [.bool false, .slice none 0 0, .slice none 0 0]⟩), (5, ⟨39, i12.cs⟩), (6, ⟨39, j12.cs⟩)] ?_
 refine sq9 ?_
 refine zzh 15 (.v (r2.v)) ty41 zzd ?_
 refine zzf 16 65 [r2.v] ?_
 intro w16 u16 e16 d16
 have k20 := k_parts d16 (hr2.ext (e11.trans (g14.ext.trans e16))) (by omega)
 with_reducible refine Post.mono k20 ?_
 rintro _ u18 g19 ⟨i17, j17, z17, D17, rfl, hi17, hj17, hp17, hq17, hk17⟩
 refine zza 14 (.v (.tuple #[i17.v, j17.v])) ?_
 refine zza 17 (.v (i17.v)) ?_
 refine zza 18 (.v (j17.v)) ?_
 refine zzj 7 ⟨39, [.bool false, .slice none 0 0]⟩ ?_
 refine zzj 8 ⟨39, [.bool false, .slice none 0 0]⟩ ?_
 refine zzi ⟨39, i17.cs⟩ ty39 ?_
 refine zzi ⟨39, j17.cs⟩ ty39 ?_
 refine zzb 30 [(4, .adr 4 0), (5, .adr 5 0), (6, .adr 6 0), (7, .adr 7 0), (8, .adr 8 0)] [(4, ⟨41, [.bool false, .slice none 0 0, .slice none 0 0]⟩), (5, ⟨39, i12.cs⟩), (6, ⟨39, j12.cs⟩), (7, ⟨39, i17.cs⟩), (8, ⟨39, j17.cs⟩)] ?_
 refine zzc ?_
 refine zzy [0, 0, 3, 0, 0, 31, 63, 0, 0, 511, 1023, 2047] [(0, []), (1, []), (3, []), (4, []), (7, []), (8, []), (2, []), (5, []), (6, []), (9, []), (10, []), (11, [])] (by kernel_rfl) (by kernel_rfl) ?_
 refine zzh 19 (.v (i12.v)) ty39 zzd ?_
 refine zzh 20 (.v (j17.v)) ty39 zzd ?_
 refine zzh 22 (.v (i17.v)) ty39 zzd ?_
 refine zzh 23 (.v (j12.v)) ty39 zzd ?_
 refine zzh 26 (.v (j12.v)) ty39 zzd ?_
 refine zzh 27 (.v (j17.v)) ty39 zzd ?_
 refine zzf 21 67 [i12.v, j17.v] ?_
 intro w21 u21 e21 d21
 have k26 := k_riMul d21 (hi12.ext (e16.trans (g19.ext.trans e21))) (hj17.ext e21).raw (by omega) (by omega)
 with_reducible refine Post.mono k26 ?_
 rintro _ u24 g25 ⟨i22, rfl, h23⟩
 refine zzf 24 67 [i17.v, j12.v] ?_
 intro w27 u27 e27 d27
 have k32 := k_riMul d27 (hi17.ext (e21.trans (g25.ext.trans e27))) (hj12.ext (e16.trans (g19.ext.trans (e21.trans (g25.ext.trans e27))))).raw (by omega) (by omega)
 with_reducible refine Post.mono k32 ?_
 rintro _ u30 g31 ⟨i28, rfl, h29⟩
 refine zzf 25 181 [i22.v, i28.v] ?_
 intro w33 u33 e33 d33
 have k38 := k_riAdd d33 (h23.ext (e27.trans (g31.ext.trans e33))).raw (h29.ext e33).raw (by omega) (by omega)
 with_reducible refine Post.mono k38 ?_
 rintro _ u36 g37 ⟨i34, rfl, h35⟩
 refine zzf 28 67 [j12.v, j17.v] ?_
 intro w39 u39 e39 d39
 have k44 := k_riMul d39 (hj12.ext (e16.trans (g19.ext.trans (e21.trans (g25.ext.trans (e27.trans (g31.ext.trans (e33.trans (g37.ext.trans e39))))))))).raw (hj17.ext (e21.trans (g25.ext.trans (e27.trans (g31.ext.trans (e33.trans (g37.ext.trans e39))))))).raw (by omega) (by omega)
 with_reducible refine Post.mono k44 ?_
 rintro _ u42 g43 ⟨i40, rfl, h41⟩
 refine zzf 29 149 [i34.v, i40.v] ?_
 intro w45 u45 e45 d45
 have k50 := k_reduce d45 (h35.ext (e39.trans (g43.ext.trans e45))).raw (h41.ext e45).raw (by omega) (by omega)
 with_reducible refine Post.mono k50 ?_
 rintro _ u48 g49 ⟨r46, rfl, h47⟩
 refine zzi ⟨41, r46.cs⟩ ty41 ?_
 refine zzb 30 [(4, .adr 4 0)] [(4, ⟨41, r46.cs⟩)] ?_
 refine zzn (ret0 [r46.v] ⟨zzq ty41 zzd, trivial⟩ fun u51 e52 => ?_)
 refine ⟨r46, rfl, RatN.more (K := (max (max (K + L) (L + K) + 1) (K + L) + 1)) ?_ (by omega)⟩
 rw [hq12, hq17, ← Nt.add_div2 hp12 hp17]
 exact (h47.ext e52)
def DivQ (x y : Rat) (K : Nat) (v : Value) (u : World) : Prop := (v = .tuple #[.agg #[.bool false, .slice none 0 0, .slice none 0 0], .int .i64 3] ∧ y = 0) ∨ (y ≠ 0 ∧ ∃ r : RL, v = .tuple #[r.v, .int .i64 0] ∧ RatN u r (x / y) K)
set_option maxHeartbeats 1000000 in
theorem k_rqDiv {u w : World} {r1 : RL} {x : Rat} {K : Nat} {r2 : RL} {y : Rat} {L : Nat} (d : Dat u w) (hr1 : RatV u r1 x K) (hr2 : RatV u r2 y L) (hK : K ≤ 100000000) (hL : L ≤ 100000000) : Calls Tryz.prog 69 #[r1.v, r2.v] w (Post u w fun v u' => DivQ x y (K + L + 1) v u') := by
 refine zzl (args := [r1.v, r2.v]) Tryz.func69 rfl Tryz.ntmps69 (rs := [.cell 4 41, .tmp 5]) Tryz.results69 (le_b rfl) (le_b rfl) d ?_
 refine sq9 ?_
 refine zzj 2 ⟨41, r1.cs⟩ ?_
 refine zzj 3 ⟨41, r2.cs⟩ ?_
 refine zzj 4 ⟨41, [.bool false, .slice none 0 0, .slice none 0 0]⟩ ?_
 refine zza 5 (.v (.int .i64 0)) ?_
 refine zzb 31 [(2, .adr 2 0), (3, .adr 3 0), (4, .adr 4 0)] [(2, ⟨41, r1.cs⟩), (3, ⟨41, r2.cs⟩), (4, ⟨41, [.bool false, .slice none 0 0, .slice none 0 0]⟩)] ?_
 refine sq9 ?_
 refine zzh 11 (.v (r1.v)) ty41 zzd ?_
 refine zzf 12 65 [r1.v] ?_
 intro w11 u11 e11 d11
 have k15 := k_parts d11 (hr1.ext e11) (by omega)
 with_reducible refine Post.mono k15 ?_
 rintro _ u13 g14 ⟨i12, j12, z12, D12, rfl, hi12, hj12, hp12, hq12, hk12⟩
 refine zza 10 (.v (.tuple #[i12.v, j12.v])) ?_
 refine zza 13 (.v (i12.v)) ?_
 refine zza 14 (.v (j12.v)) ?_
 refine zzj 6 ⟨39, [.bool false, .slice none 0 0]⟩ ?_
 refine zzj 7 ⟨39, [.bool false, .slice none 0 0]⟩ ?_
 refine zzi ⟨39, i12.cs⟩ ty39 ?_
 refine zzi ⟨39, j12.cs⟩ ty39 ?_
 refine zzb 31 [(3, .adr 3 0), (4, .adr 4 0), (6, .adr 6 0), (7, .adr 7 0)] [(3, ⟨41, r2.cs⟩), (4, ⟨41, [.bool false, .slice none 0 0, .slice none 0 0]⟩), (6, ⟨39, i12.cs⟩), (7, ⟨39, j12.cs⟩)] ?_
 refine sq9 ?_
 refine zzh 16 (.v (r2.v)) ty41 zzd ?_
 refine zzf 17 65 [r2.v] ?_
 intro w16 u16 e16 d16
 have k20 := k_parts d16 (hr2.ext (e11.trans (g14.ext.trans e16))) (by omega)
 with_reducible refine Post.mono k20 ?_
 rintro _ u18 g19 ⟨i17, j17, z17, D17, rfl, hi17, hj17, hp17, hq17, hk17⟩
 refine zza 15 (.v (.tuple #[i17.v, j17.v])) ?_
 refine zza 18 (.v (i17.v)) ?_
 refine zza 19 (.v (j17.v)) ?_
 refine zzj 8 ⟨39, [.bool false, .slice none 0 0]⟩ ?_
 refine zzj 9 ⟨39, [.bool false, .slice none 0 0]⟩ ?_
 refine zzi ⟨39, i17.cs⟩ ty39 ?_
 refine zzi ⟨39, j17.cs⟩ ty39 ?_
 refine zzb 31 [(4, .adr 4 0), (6, .adr 6 0), (7, .adr 7 0), (8, .adr 8 0), (9, .adr 9 0)] [(4, ⟨41, [.bool false, .slice none 0 0, .slice none 0 0]⟩), (6, ⟨39, i12.cs⟩), (7, ⟨39, j12.cs⟩), (8, ⟨39, i17.cs⟩), (9, ⟨39, j17.cs⟩)] ?_
 refine zzc ?_
 refine sq9 ?_
 refine zzh 20 (.v (i17.v)) ty39 zzd ?_
 refine zzf 21 146 [i17.v] ?_
 intro w21 u21 e21 d21
 have k24 := k_riSign d21 (hi17.ext e21) (by omega)
 with_reducible refine Post.mono k24 ?_
 rintro _ u22 g23 rfl
 refine zza 22 (.v (.bool ((Nt.cmpS z17 0) == 0))) ?_
 refine zzb 31 [(4, .adr 4 0), (6, .adr 6 0), (7, .adr 7 0), (8, .adr 8 0), (9, .adr 9 0), (22, .v (.bool ((Nt.cmpS z17 0) == 0)))] [(4, ⟨41, [.bool false, .slice none 0 0, .slice none 0 0]⟩), (6, ⟨39, i12.cs⟩), (7, ⟨39, j12.cs⟩), (8, ⟨39, i17.cs⟩), (9, ⟨39, j17.cs⟩)] ?_
 refine zzt (b := (Nt.cmpS z17 0) == 0) (by kernel_rfl) (fun hb25 => ?_) (fun hb25 => ?_)
 ·replace hb25 : ((Nt.cmpS z17 0) == 0) = true := hb25
  refine sq9 ?_
  refine zza 23 (.v (.agg #[.bool false, .slice none 0 0, .slice none 0 0])) ?_
  refine zzi ⟨41, [.bool false, .slice none 0 0, .slice none 0 0]⟩ ty41 ?_
  refine zza 5 (.v (.int .i64 3)) ?_
  refine zzb 31 [(4, .adr 4 0), (5, .v (.int .i64 3))] [(4, ⟨41, [.bool false, .slice none 0 0, .slice none 0 0]⟩)] ?_
  refine zzn (zzv (ret0 [.agg #[.bool false, .slice none 0 0, .slice none 0 0], .int .i64 3] ⟨zzq ty41 zzd, zzp, trivial⟩ fun u26 e27 => ?_))
  left
  exact ⟨rfl, by rw [hq17, Nt.cmp_eq0 hb25, Rat.zero_mkRat]⟩
 ·replace hb25 : ((Nt.cmpS z17 0) == 0) = false := hb25
  have hz0 : z17 ≠ 0 := Nt.cmp_ne0 hb25
  refine zzr (zzo ?_)
  refine zzc ?_
  refine zzy [0, 0, 3, 0, 0, 31, 63, 127, 255] [(0, []), (1, []), (3, []), (4, []), (2, []), (5, []), (6, []), (7, []), (8, [])] (by kernel_rfl) (by kernel_rfl) ?_
  refine zzh 24 (.v (i12.v)) ty39 zzd ?_
  refine zzh 25 (.v (j17.v)) ty39 zzd ?_
  refine zzh 27 (.v (j12.v)) ty39 zzd ?_
  refine zzh 28 (.v (i17.v)) ty39 zzd ?_
  refine zzf 26 67 [i12.v, j17.v] ?_
  intro w28 u28 e28 d28
  have k33 := k_riMul d28 (hi12.ext (e16.trans (g19.ext.trans (e21.trans (g23.ext.trans e28))))) (hj17.ext (e21.trans (g23.ext.trans e28))).raw (by omega) (by omega)
  with_reducible refine Post.mono k33 ?_
  rintro _ u31 g32 ⟨i29, rfl, h30⟩
  refine zzf 29 67 [j12.v, i17.v] ?_
  intro w34 u34 e34 d34
  have k39 := k_riMul d34 (hj12.ext (e16.trans (g19.ext.trans (e21.trans (g23.ext.trans (e28.trans (g32.ext.trans e34))))))).raw (hi17.ext (e21.trans (g23.ext.trans (e28.trans (g32.ext.trans e34))))) (by omega) (by omega)
  with_reducible refine Post.mono k39 ?_
  rintro _ u37 g38 ⟨i35, rfl, h36⟩
  refine zzf 30 149 [i29.v, i35.v] ?_
  intro w40 u40 e40 d40
  have k45 := k_reduce d40 (h30.ext (e34.trans (g38.ext.trans e40))).raw (h36.ext e40).raw (by omega) (by omega)
  with_reducible refine Post.mono k45 ?_
  rintro _ u43 g44 ⟨r41, rfl, h42⟩
  refine zzi ⟨41, r41.cs⟩ ty41 ?_
  refine zza 5 (.v (.int .i64 0)) ?_
  refine zzb 31 [(4, .adr 4 0), (5, .v (.int .i64 0))] [(4, ⟨41, r41.cs⟩)] ?_
  refine zzn (ret0 [r41.v, .int .i64 0] ⟨zzq ty41 zzd, zzp, trivial⟩ fun u46 e47 => ?_)
  right
  refine ⟨?_, r41, rfl, RatN.more (K := (max (K + L) (K + L) + 1)) ?_ (by omega)⟩
  ·rw [hq17]; exact (Rat.mkRat_ne_zero (by omega)).2 hz0
  ·rw [hq12, hq17, ← Nt.quo_mk hp12 hp17 hz0]
   exact (h42.ext e47)
theorem k_signed {u w : World} {s : Bool} {x : Sl} {N K : Nat} (d : Dat u w) (h : NatN u x N K) : Calls Tryz.prog 173 #[.bool s, x.v] w (Post u w fun v u' => ∃ i : IL, v = i.v ∧ IntN u' i (Nt.sg s N) K) := by
 refine zzl (args := [.bool s, .slice x.a x.n x.c]) Tryz.func173 rfl Tryz.ntmps173 (rs := [.cell 4 39]) Tryz.results173 (le_b rfl) (le_b rfl) d ?_
 refine sq9 ?_
 refine zzj 4 ⟨39, [.bool false, .slice none 0 0]⟩ ?_
 refine zzb 13 [(0, .v (.bool s)), (1, .v x.v), (4, .adr 4 0)] [(4, ⟨39, [.bool false, .slice none 0 0]⟩)] ?_
 refine sq9 ?_
 refine zza 5 (.v (.bool s)) ?_
 rcases Bool.eq_false_or_eq_true s with hs11 | hs11
 ·refine zyp 6 (x := .v (.bool s)) (.v (.bool true)) (by rw [hs11]) ?_
  refine zza 7 (.v x.v) ?_ (hw := w1 1 true 6)
  refine zza 8 (.v (.int .i64 (x.n : Int))) ?_ (hw := w1 1 true 6)
  refine zza 9 (.v (.bool (decide ((0 : Int) < (x.n : Int))))) ?_ (hw := w1 1 true 6)
  refine zza 10 (.v (.bool (decide ((0 : Int) < (x.n : Int))))) ?_
  refine zza 11 (.v x.v) ?_
  refine zza 12 (.v (.agg #[.bool (decide ((0 : Int) < (x.n : Int))), x.v])) ?_
  refine zzi ⟨39, [.bool (decide ((0 : Int) < (x.n : Int))), x.v]⟩ ty39 ?_
  refine zzb 13 [(4, .adr 4 0)] [(4, ⟨39, [.bool (decide ((0 : Int) < (x.n : Int))), x.v]⟩)] ?_
  refine zzn (ret0 [.agg #[.bool (decide ((0 : Int) < (x.n : Int))), .slice x.a x.n x.c]] ⟨zzq ty39 zzd, trivial⟩ fun u12 e13 => ?_)
  rw [hs11]
  exact ⟨⟨_, x⟩, rfl, signed_int (s := true) (h.ext e13)⟩
 ·refine zyp 6 (x := .v (.bool s)) (.v (.bool false)) (by rw [hs11]) ?_
  refine zzm 7 (uw 1 true false 6) ?_
  refine zzm 8 (uw 1 true false 6) ?_
  refine zzm 9 (uw 1 true false 6) ?_
  refine zza 10 (.v (.bool false)) ?_
  refine zza 11 (.v x.v) ?_
  refine zza 12 (.v (.agg #[.bool false, x.v])) ?_
  refine zzi ⟨39, [.bool false, x.v]⟩ ty39 ?_
  refine zzb 13 [(4, .adr 4 0)] [(4, ⟨39, [.bool false, x.v]⟩)] ?_
  refine zzn (ret0 [.agg #[.bool false, .slice x.a x.n x.c]] ⟨zzq ty39 zzd, trivial⟩ fun u14 e15 => ?_)
  rw [hs11]
  exact ⟨⟨_, x⟩, rfl, signed_int (s := false) (h.ext e15)⟩
theorem k_intTrim {u w : World} {i1 : IL} {zN : Int} {K : Nat} (d : Dat u w) (hi1 : IntV u i1 zN K) (hK : K ≤ 500000000) : Calls Tryz.prog 175 #[i1.v] w (Post u w fun v u' => ∃ i : IL, v = i.v ∧ IntN u' i zN K) := by
 obtain ⟨N, hN, hzN⟩ := hi1
 refine zzl (args := [i1.v]) Tryz.func175 rfl Tryz.ntmps175 (rs := [.cell 2 39]) Tryz.results175 (le_b rfl) (le_b rfl) d ?_
 refine sq9 ?_
 refine zzj 1 ⟨39, i1.cs⟩ ?_
 refine zzj 2 ⟨39, [.bool false, .slice none 0 0]⟩ ?_
 refine zzb 9 [(1, .adr 1 0), (2, .adr 2 0)] [(1, ⟨39, i1.cs⟩), (2, ⟨39, [.bool false, .slice none 0 0]⟩)] ?_
 refine zzc ?_
 refine zzy [0, 1, 0, 4, 12, 31, 63] [(0, []), (1, []), (2, []), (3, []), (4, []), (5, []), (6, [])] (by kernel_rfl) (by kernel_rfl) ?_
 refine zza 3 (.adr 1 0) ?_
 refine zzh 4 (.v (.bool i1.s)) ty4 zzk ?_
 refine zza 5 (.adr 1 1) ?_
 refine zzh 6 (.v i1.m.v) ty37 zzk ?_
 refine zzf 7 178 [i1.m.v] ?_
 intro w11 u11 e11 d11
 have k16 := k_natTrim d11 (hN.ext e11) (by omega)
 with_reducible refine Post.mono k16 ?_
 rintro _ u14 g15 ⟨x12, rfl, h13⟩
 refine zzf 8 173 [.bool i1.s, x12.v] ?_
 intro w17 u17 e17 d17
 have k22 := k_signed d17 (s := i1.s) (h13.ext e17)
 with_reducible refine Post.mono k22 ?_
 rintro _ u20 g21 ⟨i18, rfl, h19⟩
 refine zzi ⟨39, i18.cs⟩ ty39 ?_
 refine zzb 9 [(2, .adr 2 0)] [(2, ⟨39, i18.cs⟩)] ?_
 refine zzn (ret0 [i18.v] ⟨zzq ty39 zzd, trivial⟩ fun u23 e24 => ?_)
 refine ⟨i18, rfl, IntN.more (K := K) ?_ (by omega)⟩
 rw [hzN]
 exact (h19.ext e24)
theorem k_intMul {u w : World} {i1 : IL} {zN : Int} {K : Nat} {i2 : IL} {zM : Int} {L : Nat} (d : Dat u w) (hi1 : IntV u i1 zN K) (hi2 : IntV u i2 zM L) (hK : K ≤ 500000000) (hL : L ≤ 500000000) : Calls Tryz.prog 134 #[i1.v, i2.v] w (Post u w fun v u' => ∃ i : IL, v = i.v ∧ IntN u' i (zN * zM) (K + L)) := by
 obtain ⟨N, hN, hzN⟩ := hi1
 obtain ⟨M, hM, hzM⟩ := hi2
 refine zzl (args := [i1.v, i2.v]) Tryz.func134 rfl Tryz.ntmps134 (rs := [.cell 4 39]) Tryz.results134 (le_b rfl) (le_b rfl) d ?_
 refine sq9 ?_
 refine zzj 2 ⟨39, i1.cs⟩ ?_
 refine zzj 3 ⟨39, i2.cs⟩ ?_
 refine zzj 4 ⟨39, [.bool false, .slice none 0 0]⟩ ?_
 refine zzb 16 [(2, .adr 2 0), (3, .adr 3 0), (4, .adr 4 0)] [(2, ⟨39, i1.cs⟩), (3, ⟨39, i2.cs⟩), (4, ⟨39, [.bool false, .slice none 0 0]⟩)] ?_
 refine zzc ?_
 refine zzy [0, 1, 0, 4, 15, 0, 32, 0, 128, 480, 1023, 2047] [(0, []), (1, []), (2, []), (3, []), (4, []), (5, []), (6, []), (7, []), (8, []), (9, []), (10, []), (11, [])] (by kernel_rfl) (by kernel_rfl) ?_
 refine zza 5 (.adr 2 0) ?_
 refine zzh 6 (.v (.bool i1.s)) ty4 zzk ?_
 refine zza 7 (.adr 3 0) ?_
 refine zzh 8 (.v (.bool i2.s)) ty4 zzk ?_
 refine zza 9 (.v (.bool (!(i1.s == i2.s)))) ?_
 refine zza 10 (.adr 2 1) ?_
 refine zzh 11 (.v i1.m.v) ty37 zzk ?_
 refine zza 12 (.adr 3 1) ?_
 refine zzh 13 (.v i2.m.v) ty37 zzk ?_
 refine zzf 14 143 [i1.m.v, i2.m.v] ?_
 intro w11 u11 e11 d11
 have k16 := k_natMul d11 (hN.ext e11) (hM.ext e11) (by omega) (by omega)
 with_reducible refine Post.mono k16 ?_
 rintro _ u14 g15 ⟨x12, rfl, h13⟩
 refine zzf 15 173 [.bool (!(i1.s == i2.s)), x12.v] ?_
 intro w17 u17 e17 d17
 have k22 := k_signed d17 (s := !(i1.s == i2.s)) (h13.ext e17)
 with_reducible refine Post.mono k22 ?_
 rintro _ u20 g21 ⟨i18, rfl, h19⟩
 refine zzi ⟨39, i18.cs⟩ ty39 ?_
 refine zzb 16 [(4, .adr 4 0)] [(4, ⟨39, i18.cs⟩)] ?_
 refine zzn (ret0 [i18.v] ⟨zzq ty39 zzd, trivial⟩ fun u23 e24 => ?_)
 refine ⟨i18, rfl, IntN.more (K := (K + L)) ?_ (by omega)⟩
 rw [hzN, hzM, ← Nt.sg_mul]
 exact (h19.ext e24)
theorem k_intAdd {u w : World} {i1 : IL} {zN : Int} {K : Nat} {i2 : IL} {zM : Int} {L : Nat} (d : Dat u w) (hi1 : IntV u i1 zN K) (hi2 : IntV u i2 zM L) (hK : K ≤ 500000000) (hL : L ≤ 500000000) : Calls Tryz.prog 171 #[i1.v, i2.v] w (Post u w fun v u' => ∃ i : IL, v = i.v ∧ IntN u' i (zN + zM) (max K L + 1)) := by
 obtain ⟨N, hN, hzN⟩ := hi1
 obtain ⟨M, hM, hzM⟩ := hi2
 refine zzl (args := [i1.v, i2.v]) Tryz.func171 rfl Tryz.ntmps171 (rs := [.cell 4 39]) Tryz.results171 (le_b rfl) (le_b rfl) d ?_
 refine sq9 ?_
 refine zzj 2 ⟨39, i1.cs⟩ ?_
 refine zzj 3 ⟨39, i2.cs⟩ ?_
 refine zzj 4 ⟨39, [.bool false, .slice none 0 0]⟩ ?_
 refine zzb 40 [(2, .adr 2 0), (3, .adr 3 0), (4, .adr 4 0)] [(2, ⟨39, i1.cs⟩), (3, ⟨39, i2.cs⟩), (4, ⟨39, [.bool false, .slice none 0 0]⟩)] ?_
 refine zzc ?_
 refine sq9 ?_
 refine zza 5 (.adr 2 0) ?_
 refine zzh 6 (.v (.bool i1.s)) ty4 zzk ?_
 refine zza 7 (.adr 3 0) ?_
 refine zzh 8 (.v (.bool i2.s)) ty4 zzk ?_
 refine zza 9 (.v (.bool (i1.s == i2.s))) ?_
 refine zzb 40 [(2, .adr 2 0), (3, .adr 3 0), (4, .adr 4 0), (9, .v (.bool (i1.s == i2.s)))] [(2, ⟨39, i1.cs⟩), (3, ⟨39, i2.cs⟩), (4, ⟨39, [.bool false, .slice none 0 0]⟩)] ?_
 refine zzt (b := i1.s == i2.s) (by kernel_rfl) (fun hb11 => ?_) (fun hb11 => ?_)
 ·replace hb11 : (i1.s == i2.s) = true := hb11
  refine zzc ?_
  refine zzy [0, 1, 0, 4, 0, 16, 60, 127, 255] [(0, []), (1, []), (2, []), (3, []), (4, []), (5, []), (6, []), (7, []), (8, [])] (by kernel_rfl) (by kernel_rfl) ?_
  refine zza 10 (.adr 2 0) ?_
  refine zzh 11 (.v (.bool i1.s)) ty4 zzk ?_
  refine zza 12 (.adr 2 1) ?_
  refine zzh 13 (.v i1.m.v) ty37 zzk ?_
  refine zza 14 (.adr 3 1) ?_
  refine zzh 15 (.v i2.m.v) ty37 zzk ?_
  refine zzf 16 195 [i1.m.v, i2.m.v] ?_
  intro w12 u12 e12 d12
  have k17 := k_natAdd d12 (hN.ext e12) (hM.ext e12) (by omega) (by omega)
  with_reducible refine Post.mono k17 ?_
  rintro _ u15 g16 ⟨x13, rfl, h14⟩
  refine zzf 17 173 [.bool i1.s, x13.v] ?_
  intro w18 u18 e18 d18
  have k23 := k_signed d18 (s := i1.s) (h14.ext e18)
  with_reducible refine Post.mono k23 ?_
  rintro _ u21 g22 ⟨i19, rfl, h20⟩
  refine zzi ⟨39, i19.cs⟩ ty39 ?_
  refine zzb 40 [(4, .adr 4 0)] [(4, ⟨39, i19.cs⟩)] ?_
  refine zzn (zzv (ret0 [i19.v] ⟨zzq ty39 zzd, trivial⟩ fun u24 e25 => ?_))
  refine ⟨i19, rfl, IntN.more (K := (max K L + 1)) ?_ (by omega)⟩
  rw [hzN, hzM, ← Nt.sg_add1 N M hb11]
  exact (h20.ext e25)
 ·replace hb11 : (i1.s == i2.s) = false := hb11
  refine zzr (zzo ?_)
  refine zzc ?_
  refine sq9 ?_
  refine zza 18 (.adr 2 1) ?_
  refine zzh 19 (.v i1.m.v) ty37 zzk ?_
  refine zza 20 (.adr 3 1) ?_
  refine zzh 21 (.v i2.m.v) ty37 zzk ?_
  refine zzf 22 172 [i1.m.v, i2.m.v] ?_
  intro w26 u26 e26 d26
  have k29 := k_natCompare d26 (hN.ext e26) (hM.ext e26)
  with_reducible refine Post.mono k29 ?_
  rintro _ u27 g28 rfl
  refine zza 23 (.v (.bool ((Nt.cmpS N M) == (-1)))) ?_
  refine zzb 40 [(2, .adr 2 0), (3, .adr 3 0), (4, .adr 4 0), (23, .v (.bool ((Nt.cmpS N M) == (-1))))] [(2, ⟨39, i1.cs⟩), (3, ⟨39, i2.cs⟩), (4, ⟨39, [.bool false, .slice none 0 0]⟩)] ?_
  refine zzt (b := (Nt.cmpS N M) == (-1)) (by kernel_rfl) (fun hb30 => ?_) (fun hb30 => ?_)
  ·replace hb30 : ((Nt.cmpS N M) == (-1)) = true := hb30
   refine zzc ?_
   refine zzy [0, 1, 0, 4, 0, 16, 60, 127, 255] [(0, []), (1, []), (2, []), (3, []), (4, []), (5, []), (6, []), (7, []), (8, [])] (by kernel_rfl) (by kernel_rfl) ?_
   refine zza 24 (.adr 3 0) ?_
   refine zzh 25 (.v (.bool i2.s)) ty4 zzk ?_
   refine zza 26 (.adr 3 1) ?_
   refine zzh 27 (.v i2.m.v) ty37 zzk ?_
   refine zza 28 (.adr 2 1) ?_
   refine zzh 29 (.v i1.m.v) ty37 zzk ?_
   refine zzf 30 196 [i2.m.v, i1.m.v] ?_
   intro w31 u31 e31 d31
   have k36 := k_natSub d31 (hM.ext (e26.trans (g28.ext.trans e31))) (hN.ext (e26.trans (g28.ext.trans e31))) (by omega) (by omega)
   with_reducible refine Post.mono k36 ?_
   rintro _ u34 g35 ⟨x32, rfl, h33⟩
   refine zzf 31 173 [.bool i2.s, x32.v] ?_
   intro w37 u37 e37 d37
   have k42 := k_signed d37 (s := i2.s) (h33.ext e37)
   with_reducible refine Post.mono k42 ?_
   rintro _ u40 g41 ⟨i38, rfl, h39⟩
   refine zzi ⟨39, i38.cs⟩ ty39 ?_
   refine zzb 40 [(4, .adr 4 0)] [(4, ⟨39, i38.cs⟩)] ?_
   refine zzn (zzv (ret0 [i38.v] ⟨zzq ty39 zzd, trivial⟩ fun u43 e44 => ?_))
   refine ⟨i38, rfl, IntN.more (K := L) ?_ (by omega)⟩
   rw [hzN, hzM, ← Nt.sg_add2 N M hb11 hb30]
   exact (h39.ext e44)
  ·replace hb30 : ((Nt.cmpS N M) == (-1)) = false := hb30
   refine zzr (zzo ?_)
   refine zzc ?_
   refine zzy [0, 1, 0, 4, 0, 16, 60, 127, 255] [(0, []), (1, []), (2, []), (3, []), (4, []), (5, []), (6, []), (7, []), (8, [])] (by kernel_rfl) (by kernel_rfl) ?_
   refine zza 32 (.adr 2 0) ?_
   refine zzh 33 (.v (.bool i1.s)) ty4 zzk ?_
   refine zza 34 (.adr 2 1) ?_
   refine zzh 35 (.v i1.m.v) ty37 zzk ?_
   refine zza 36 (.adr 3 1) ?_
   refine zzh 37 (.v i2.m.v) ty37 zzk ?_
   refine zzf 38 196 [i1.m.v, i2.m.v] ?_
   intro w45 u45 e45 d45
   have k50 := k_natSub d45 (hN.ext (e26.trans (g28.ext.trans e45))) (hM.ext (e26.trans (g28.ext.trans e45))) (by omega) (by omega)
   with_reducible refine Post.mono k50 ?_
   rintro _ u48 g49 ⟨x46, rfl, h47⟩
   refine zzf 39 173 [.bool i1.s, x46.v] ?_
   intro w51 u51 e51 d51
   have k56 := k_signed d51 (s := i1.s) (h47.ext e51)
   with_reducible refine Post.mono k56 ?_
   rintro _ u54 g55 ⟨i52, rfl, h53⟩
   refine zzi ⟨39, i52.cs⟩ ty39 ?_
   refine zzb 40 [(4, .adr 4 0)] [(4, ⟨39, i52.cs⟩)] ?_
   refine zzn (ret0 [i52.v] ⟨zzq ty39 zzd, trivial⟩ fun u57 e58 => ?_)
   refine ⟨i52, rfl, IntN.more (K := K) ?_ (by omega)⟩
   rw [hzN, hzM, ← Nt.sg_add3 N M hb11 hb30]
   exact (h53.ext e58)
theorem k_intSign {u w : World} {i1 : IL} {zN : Int} {K : Nat} (d : Dat u w) (hi1 : IntV u i1 zN K)  : Calls Tryz.prog 133 #[i1.v] w (Post u w fun v u' => v = .int .i64 (Nt.cmpS zN 0)) := by
 obtain ⟨N, hN, hzN⟩ := hi1
 refine zzl (args := [i1.v]) Tryz.func133 rfl Tryz.ntmps133 (rs := [.tmp 2]) Tryz.results133 (le_b rfl) (le_b rfl) d ?_
 refine sq9 ?_
 refine zzj 1 ⟨39, i1.cs⟩ ?_
 refine zza 2 (.v (.int .i64 0)) ?_
 refine zzb 11 [(1, .adr 1 0)] [(1, ⟨39, i1.cs⟩)] ?_
 refine zzc ?_
 refine zzs ?_
 refine sq9 ?_
 refine zza 4 (.adr 1 1) ?_
 refine zzh 5 (.v i1.m.v) ty37 zzk ?_
 refine zzf 6 172 [i1.m.v, .slice none 0 0] ?_
 intro w11 u11 e11 d11
 have k14 := k_natCompare d11 (hN.ext e11) (nat_nil _ 1)
 with_reducible refine Post.mono k14 ?_
 rintro _ u12 g13 rfl
 refine zza 7 (.v (.bool ((Nt.cmpS N 0) == 0))) ?_
 refine zza 3 (.v (.bool ((Nt.cmpS N 0) == 0))) ?_
 refine zzb 11 [(1, .adr 1 0), (3, .v (.bool ((Nt.cmpS N 0) == 0)))] [(1, ⟨39, i1.cs⟩)] ?_
 refine zzt (b := (Nt.cmpS N 0) == 0) (by kernel_rfl) (fun hb15 => ?_) (fun hb15 => ?_)
 ·replace hb15 : ((Nt.cmpS N 0) == 0) = true := hb15
  refine sq9 ?_
  refine zza 2 (.v (.int .i64 0)) ?_
  refine zzb 11 [(2, .v (.int .i64 0))] [] ?_
  refine zzn (zyt (zzv (ret0 [.int .i64 0] ⟨zzp, trivial⟩ fun u16 e17 => ?_)))
  show _ = _
  rw [hzN, Nt.sg_cmp0, if_pos hb15]
  rfl
 ·replace hb15 : ((Nt.cmpS N 0) == 0) = false := hb15
  refine sq9 ?_
  refine zza 9 (.adr 1 0) ?_
  refine zzh 10 (.v (.bool i1.s)) ty4 zzk ?_
  refine zza 8 (.v (.bool i1.s)) ?_
  refine zzb 11 [(8, .v (.bool i1.s))] [] ?_
  refine zzt (b := i1.s) (by kernel_rfl) (fun hb18 => ?_) (fun hb18 => ?_)
  ·replace hb18 : i1.s = true := hb18
   refine sq9 ?_
   refine zza 2 (.v (.int .i64 (-1))) ?_
   refine zzb 11 [(2, .v (.int .i64 (-1)))] [] ?_
   refine zzn (zyt (zzv (ret0 [.int .i64 (-1)] ⟨zzp, trivial⟩ fun u19 e20 => ?_)))
   show _ = _
   rw [hzN, Nt.sg_cmp0, if_neg (ne_true_of_eq_false hb15), if_pos hb18]
   rfl
  ·replace hb18 : i1.s = false := hb18
   refine zzr (zzo ?_)
   refine sq9 ?_
   refine zza 2 (.v (.int .i64 1)) ?_
   refine zzb 11 [(2, .v (.int .i64 1))] [] ?_
   refine zzn (ret0 [.int .i64 1] ⟨zzp, trivial⟩ fun u21 e22 => ?_)
   show _ = _
   rw [hzN, Nt.sg_cmp0, if_neg (ne_true_of_eq_false hb15), if_neg (ne_true_of_eq_false hb18)]
   rfl
namespace Nt
theorem cmp_sg (s t : Bool) (N M : Nat) : cmpS (sg s N) (sg t M) = if decide (cmpS (sg s N) 0 < cmpS (sg t M) 0) = true then -1 else if decide (cmpS (sg t M) 0 < cmpS (sg s N) 0) = true then 1 else if (cmpS (sg s N) 0 == -1) = true then cmpS (M : Int) (N : Int) else cmpS (N : Int) (M : Int) := by
 rcases cmp_range (sg s N) 0 with ⟨e, h⟩ | ⟨e, h⟩ | ⟨e, h⟩ <;> rcases cmp_range (sg t M) 0 with ⟨e', h'⟩ | ⟨e', h'⟩ | ⟨e', h'⟩ <;> rw [e, e'] <;> simp
 ·unfold sg at *; cases s <;> cases t <;> simp at h h' ⊢ <;> unfold cmpS <;> (repeat' split) <;> first | rfl | omega
 ·exact cmp_lt (by omega)
 ·exact cmp_lt (by omega)
 ·exact cmp_gt (by omega)
 ·rw [h, h']; unfold sg at *; cases s <;> cases t <;> simp at h h' <;> rw [h, h'] <;> rfl
 ·exact cmp_lt (by omega)
 ·exact cmp_gt (by omega)
 ·exact cmp_gt (by omega)
 ·unfold sg at *; cases s <;> cases t <;> simp at h h' ⊢ <;> first | rfl | omega
end Nt
theorem k_intCompare {u w : World} {i1 : IL} {zN : Int} {K : Nat} {i2 : IL} {zM : Int} {L : Nat} (d : Dat u w) (hi1 : IntV u i1 zN K) (hi2 : IntV u i2 zM L)  : Calls Tryz.prog 179 #[i1.v, i2.v] w (Post u w fun v u' => v = .int .i64 (Nt.cmpS zN zM)) := by
 obtain ⟨N, hN, hzN⟩ := hi1
 obtain ⟨M, hM, hzM⟩ := hi2
 refine zzl (args := [i1.v, i2.v]) Tryz.func179 rfl Tryz.ntmps179 (rs := [.tmp 4]) Tryz.results179 (le_b rfl) (le_b rfl) d ?_
 refine sq9 ?_
 refine zzj 2 ⟨39, i1.cs⟩ ?_
 refine zzj 3 ⟨39, i2.cs⟩ ?_
 refine zza 4 (.v (.int .i64 0)) ?_
 refine zzb 32 [(2, .adr 2 0), (3, .adr 3 0)] [(2, ⟨39, i1.cs⟩), (3, ⟨39, i2.cs⟩)] ?_
 refine zzc ?_
 refine zzy [0, 1, 0, 7, 15, 31] [(0, []), (2, []), (1, []), (3, []), (4, []), (5, [])] (by kernel_rfl) (by kernel_rfl) ?_
 refine zzh 7 (.v (i1.v)) ty39 zzd ?_
 refine zzh 9 (.v (i2.v)) ty39 zzd ?_
 refine zzf 8 133 [i1.v] ?_
 intro w11 u11 e11 d11
 have k14 := k_intSign d11 (IntV.same (s := i1.s) (hN.ext e11))
 with_reducible refine Post.mono k14 ?_
 rintro _ u12 g13 rfl
 refine zzf 10 133 [i2.v] ?_
 intro w15 u15 e15 d15
 have k18 := k_intSign d15 (IntV.same (s := i2.s) (hM.ext (e11.trans (g13.ext.trans e15))))
 with_reducible refine Post.mono k18 ?_
 rintro _ u16 g17 rfl
 refine zza 5 (.v (.int .i64 (Nt.cmpS (Nt.sg i1.s N) 0))) ?_
 refine zza 6 (.v (.int .i64 (Nt.cmpS (Nt.sg i2.s M) 0))) ?_
 refine zzb 32 [(2, .adr 2 0), (3, .adr 3 0), (5, .v (.int .i64 (Nt.cmpS (Nt.sg i1.s N) 0))), (6, .v (.int .i64 (Nt.cmpS (Nt.sg i2.s M) 0)))] [(2, ⟨39, i1.cs⟩), (3, ⟨39, i2.cs⟩)] ?_
 refine zzc ?_
 refine zzs ?_
 refine sq9 ?_
 refine zza 12 (.v (.int .i64 (Nt.cmpS (Nt.sg i1.s N) 0))) ?_
 refine zza 13 (.v (.int .i64 (Nt.cmpS (Nt.sg i2.s M) 0))) ?_
 refine zza 14 (.v (.bool (decide ((Nt.cmpS (Nt.sg i1.s N) 0) < (Nt.cmpS (Nt.sg i2.s M) 0))))) ?_
 refine zza 11 (.v (.bool (decide ((Nt.cmpS (Nt.sg i1.s N) 0) < (Nt.cmpS (Nt.sg i2.s M) 0))))) ?_
 refine zzb 32 [(2, .adr 2 0), (3, .adr 3 0), (5, .v (.int .i64 (Nt.cmpS (Nt.sg i1.s N) 0))), (6, .v (.int .i64 (Nt.cmpS (Nt.sg i2.s M) 0))), (11, .v (.bool (decide ((Nt.cmpS (Nt.sg i1.s N) 0) < (Nt.cmpS (Nt.sg i2.s M) 0)))))] [(2, ⟨39, i1.cs⟩), (3, ⟨39, i2.cs⟩)] ?_
 refine zzt (b := decide ((Nt.cmpS (Nt.sg i1.s N) 0) < (Nt.cmpS (Nt.sg i2.s M) 0))) (by kernel_rfl) (fun hb19 => ?_) (fun hb19 => ?_)
 ·replace hb19 : (decide ((Nt.cmpS (Nt.sg i1.s N) 0) < (Nt.cmpS (Nt.sg i2.s M) 0))) = true := hb19
  have qhb19 := of_decide_eq_true hb19
  refine sq9 ?_
  refine zza 4 (.v (.int .i64 (-1))) ?_
  refine zzb 32 [(4, .v (.int .i64 (-1)))] [] ?_
  refine zzn (zyt (zzv (ret0 [.int .i64 (-1)] ⟨zzp, trivial⟩ fun u20 e21 => ?_)))
  show _ = _
  rw [hzN, hzM, Nt.cmp_sg, if_pos hb19]
  rfl
 ·replace hb19 : (decide ((Nt.cmpS (Nt.sg i1.s N) 0) < (Nt.cmpS (Nt.sg i2.s M) 0))) = false := hb19
  have qhb19 := of_decide_eq_false hb19
  refine sq9 ?_
  refine zza 16 (.v (.int .i64 (Nt.cmpS (Nt.sg i1.s N) 0))) ?_
  refine zza 17 (.v (.int .i64 (Nt.cmpS (Nt.sg i2.s M) 0))) ?_
  refine zza 18 (.v (.bool (decide ((Nt.cmpS (Nt.sg i2.s M) 0) < (Nt.cmpS (Nt.sg i1.s N) 0))))) ?_
  refine zza 15 (.v (.bool (decide ((Nt.cmpS (Nt.sg i2.s M) 0) < (Nt.cmpS (Nt.sg i1.s N) 0))))) ?_
  refine zzb 32 [(2, .adr 2 0), (3, .adr 3 0), (5, .v (.int .i64 (Nt.cmpS (Nt.sg i1.s N) 0))), (15, .v (.bool (decide ((Nt.cmpS (Nt.sg i2.s M) 0) < (Nt.cmpS (Nt.sg i1.s N) 0)))))] [(2, ⟨39, i1.cs⟩), (3, ⟨39, i2.cs⟩)] ?_
  refine zzt (b := decide ((Nt.cmpS (Nt.sg i2.s M) 0) < (Nt.cmpS (Nt.sg i1.s N) 0))) (by kernel_rfl) (fun hb22 => ?_) (fun hb22 => ?_)
  ·replace hb22 : (decide ((Nt.cmpS (Nt.sg i2.s M) 0) < (Nt.cmpS (Nt.sg i1.s N) 0))) = true := hb22
   have qhb22 := of_decide_eq_true hb22
   refine sq9 ?_
   refine zza 4 (.v (.int .i64 1)) ?_
   refine zzb 32 [(4, .v (.int .i64 1))] [] ?_
   refine zzn (zyt (zzv (ret0 [.int .i64 1] ⟨zzp, trivial⟩ fun u23 e24 => ?_)))
   show _ = _
   rw [hzN, hzM, Nt.cmp_sg, if_neg (ne_true_of_eq_false hb19), if_pos hb22]
   rfl
  ·replace hb22 : (decide ((Nt.cmpS (Nt.sg i2.s M) 0) < (Nt.cmpS (Nt.sg i1.s N) 0))) = false := hb22
   have qhb22 := of_decide_eq_false hb22
   refine sq9 ?_
   refine zza 20 (.v (.int .i64 (Nt.cmpS (Nt.sg i1.s N) 0))) ?_
   refine zza 21 (.v (.bool ((Nt.cmpS (Nt.sg i1.s N) 0) == (-1)))) ?_
   refine zza 19 (.v (.bool ((Nt.cmpS (Nt.sg i1.s N) 0) == (-1)))) ?_
   refine zzb 32 [(2, .adr 2 0), (3, .adr 3 0), (19, .v (.bool ((Nt.cmpS (Nt.sg i1.s N) 0) == (-1))))] [(2, ⟨39, i1.cs⟩), (3, ⟨39, i2.cs⟩)] ?_
   refine zzt (b := (Nt.cmpS (Nt.sg i1.s N) 0) == (-1)) (by kernel_rfl) (fun hb25 => ?_) (fun hb25 => ?_)
   ·replace hb25 : ((Nt.cmpS (Nt.sg i1.s N) 0) == (-1)) = true := hb25
    refine sq9 ?_
    refine zza 22 (.adr 3 1) ?_
    refine zzh 23 (.v i2.m.v) ty37 zzk ?_
    refine zza 24 (.adr 2 1) ?_
    refine zzh 25 (.v i1.m.v) ty37 zzk ?_
    refine zzf 26 172 [i2.m.v, i1.m.v] ?_
    intro w26 u26 e26 d26
    have k29 := k_natCompare d26 (hM.ext (e11.trans (g13.ext.trans (e15.trans (g17.ext.trans e26))))) (hN.ext (e11.trans (g13.ext.trans (e15.trans (g17.ext.trans e26)))))
    with_reducible refine Post.mono k29 ?_
    rintro _ u27 g28 rfl
    refine zza 4 (.v (.int .i64 (Nt.cmpS M N))) ?_
    refine zzb 32 [(4, .v (.int .i64 (Nt.cmpS M N)))] [] ?_
    refine zzn (zyt (zzv (ret0 [.int .i64 (Nt.cmpS M N)] ⟨zzp, trivial⟩ fun u30 e31 => ?_)))
    show _ = _
    rw [hzN, hzM, Nt.cmp_sg, if_neg (ne_true_of_eq_false hb19), if_neg (ne_true_of_eq_false hb22), if_pos hb25]
    rfl
   ·replace hb25 : ((Nt.cmpS (Nt.sg i1.s N) 0) == (-1)) = false := hb25
    refine zzr (zzo ?_)
    refine sq9 ?_
    refine zza 27 (.adr 2 1) ?_
    refine zzh 28 (.v i1.m.v) ty37 zzk ?_
    refine zza 29 (.adr 3 1) ?_
    refine zzh 30 (.v i2.m.v) ty37 zzk ?_
    refine zzf 31 172 [i1.m.v, i2.m.v] ?_
    intro w32 u32 e32 d32
    have k35 := k_natCompare d32 (hN.ext (e11.trans (g13.ext.trans (e15.trans (g17.ext.trans e32))))) (hM.ext (e11.trans (g13.ext.trans (e15.trans (g17.ext.trans e32)))))
    with_reducible refine Post.mono k35 ?_
    rintro _ u33 g34 rfl
    refine zza 4 (.v (.int .i64 (Nt.cmpS N M))) ?_
    refine zzb 32 [(4, .v (.int .i64 (Nt.cmpS N M)))] [] ?_
    refine zzn (ret0 [.int .i64 (Nt.cmpS N M)] ⟨zzp, trivial⟩ fun u36 e37 => ?_)
    show _ = _
    rw [hzN, hzM, Nt.cmp_sg, if_neg (ne_true_of_eq_false hb19), if_neg (ne_true_of_eq_false hb22), if_neg (ne_true_of_eq_false hb25)]
    rfl
theorem k_intOf {u w : World} {z : Int} (d : Dat u w) (h0 : -9223372036854775808 ≤ z) (h1 : z ≤ 9223372036854775807) : Calls Tryz.prog 142 #[.int .i64 z] w (Post u w fun v u' => ∃ i : IL, v = i.v ∧ IntN u' i z 2) := by
 by_cases hneg : z < 0
 ·refine zzl (args := [.int .i64 z]) Tryz.func142 rfl Tryz.ntmps142 (rs := [.cell 2 39]) Tryz.results142 (le_b rfl) (le_b rfl) d ?_
  refine sq9 ?_
  refine zzj 2 ⟨39, [.bool false, .slice none 0 0]⟩ ?_
  refine zzb 20 [(0, .v (.int .i64 z)), (2, .adr 2 0)] [(2, ⟨39, [.bool false, .slice none 0 0]⟩)] ?_
  refine sq9 ?_
  refine zza 4 (.v (.int .i64 z)) ?_
  refine zyp 5 (x := .v (.int .u64 (IntKind.u64.wrap z))) (.v (.int .u64 (z + 18446744073709551616))) (by rw [show (IntKind.u64.wrap z) = (z + 18446744073709551616) from (by simp [IntKind.wrap, IntKind.bits, IntKind.signed]; omega)]) ?_
  refine zza 3 (.v (.int .u64 (z + 18446744073709551616))) ?_
  refine zzb 20 [(0, .v (.int .i64 z)), (2, .adr 2 0), (3, .v (.int .u64 (z + 18446744073709551616)))] [(2, ⟨39, [.bool false, .slice none 0 0]⟩)] ?_
  refine zzc ?_
  refine sq9 ?_
  refine zza 6 (.v (.int .i64 z)) ?_
  refine zyp 7 (x := .v (.bool (decide (z < 0)))) (.v (.bool true)) (by rw [show (decide (z < 0)) = true from (by simp; omega)]) ?_
  refine zzb 20 [(0, .v (.int .i64 z)), (2, .adr 2 0), (3, .v (.int .u64 (z + 18446744073709551616))), (7, .v (.bool true))] [(2, ⟨39, [.bool false, .slice none 0 0]⟩)] ?_
  refine zyq (by kernel_rfl) ?_
  refine zze ?_
  refine zza 8 (.v (.int .u64 (z + 18446744073709551616))) ?_
  refine zyp 9 (x := .v (.int .u64 (IntKind.u64.wrap (0 - (z + 18446744073709551616))))) (.v (.int .u64 (-z))) (by rw [show (IntKind.u64.wrap (0 - (z + 18446744073709551616))) = (-z) from (by simp [IntKind.wrap, IntKind.bits, IntKind.signed]; omega)]) ?_
  refine zza 3 (.v (.int .u64 (-z))) ?_
  refine zzb 20 [(0, .v (.int .i64 z)), (2, .adr 2 0), (3, .v (.int .u64 (-z)))] [(2, ⟨39, [.bool false, .slice none 0 0]⟩)] ?_
  refine sq9 ?_
  refine zza 10 (.v (.int .i64 z)) ?_
  refine zyp 11 (x := .v (.bool (decide (z < 0)))) (.v (.bool true)) (by rw [show (decide (z < 0)) = true from (by simp; omega)]) ?_
  refine zza 12 (.v (.int .u64 (-z))) ?_
  refine zyp 13 (x := .v (.int .u32 (IntKind.u32.wrap (-z)))) (.v (.int .u32 ((-z) % 4294967296))) (by rw [show (IntKind.u32.wrap (-z)) = ((-z) % 4294967296) from (IntKind.wrap_u32 _)]) ?_
  refine zza 14 (.v (.int .u64 (-z))) ?_
  refine zyp 15 (x := .v (.int .u64 (Int.fdiv (-z) (2 ^ 32)))) (.v (.int .u64 ((-z) / 4294967296))) (by rw [show (Int.fdiv (-z) (2 ^ 32)) = ((-z) / 4294967296) from (by rw [Int.fdiv_eq_ediv_of_nonneg _ (by decide)]; rfl)]) ?_
  refine zyp 16 (x := .v (.int .u32 (IntKind.u32.wrap ((-z) / 4294967296)))) (.v (.int .u32 ((-z) / 4294967296))) (by rw [show (IntKind.u32.wrap ((-z) / 4294967296)) = ((-z) / 4294967296) from (IntWalk.u32_in _ (by omega))]) ?_
  refine sy_data 17 ⟨113, [.int .u32 ((-z) % 4294967296), .int .u32 ((-z) / 4294967296)]⟩ 2 (fun b11 u12 e13 h14 => ?_)
  refine zzf 18 178 [.slice (some ⟨b11, 0, none⟩) 2 2] ?_
  intro w15 u15 e15 d15
  have k20 := k_natTrim d15 ((two_data (N := z.natAbs) h14 (by omega) (by omega) (by omega)).ext e15) (by omega)
  with_reducible refine Post.mono k20 ?_
  rintro _ u18 g19 ⟨x16, rfl, h17⟩
  refine zzf 19 173 [.bool true, x16.v] ?_
  intro w21 u21 e21 d21
  have k26 := k_signed d21 (s := true) (h17.ext e21)
  with_reducible refine Post.mono k26 ?_
  rintro _ u24 g25 ⟨i22, rfl, h23⟩
  refine zzi ⟨39, i22.cs⟩ ty39 ?_
  refine zzb 20 [(2, .adr 2 0)] [(2, ⟨39, i22.cs⟩)] ?_
  refine zzn (ret0 [i22.v] ⟨zzq ty39 zzd, trivial⟩ fun u27 e28 => ?_)
  refine ⟨i22, rfl, IntN.more (K := 2) ?_ (by omega)⟩
  have e : z = Nt.sg true z.natAbs := by unfold Nt.sg; simp; omega
  rw [e]
  exact (h23.ext e28)
 ·refine zzl (args := [.int .i64 z]) Tryz.func142 rfl Tryz.ntmps142 (rs := [.cell 2 39]) Tryz.results142 (le_b rfl) (le_b rfl) d ?_
  refine sq9 ?_
  refine zzj 2 ⟨39, [.bool false, .slice none 0 0]⟩ ?_
  refine zzb 20 [(0, .v (.int .i64 z)), (2, .adr 2 0)] [(2, ⟨39, [.bool false, .slice none 0 0]⟩)] ?_
  refine sq9 ?_
  refine zza 4 (.v (.int .i64 z)) ?_
  refine zyp 5 (x := .v (.int .u64 (IntKind.u64.wrap z))) (.v (.int .u64 (z))) (by rw [show (IntKind.u64.wrap z) = z from (by simp [IntKind.wrap, IntKind.bits, IntKind.signed]; omega)]) ?_
  refine zza 3 (.v (.int .u64 z)) ?_
  refine zzb 20 [(0, .v (.int .i64 z)), (2, .adr 2 0), (3, .v (.int .u64 z))] [(2, ⟨39, [.bool false, .slice none 0 0]⟩)] ?_
  refine zzc ?_
  refine sq9 ?_
  refine zza 6 (.v (.int .i64 z)) ?_
  refine zyp 7 (x := .v (.bool (decide (z < 0)))) (.v (.bool false)) (by rw [show (decide (z < 0)) = false from (by simp; omega)]) ?_
  refine zzb 20 [(0, .v (.int .i64 z)), (2, .adr 2 0), (3, .v (.int .u64 z)), (7, .v (.bool false))] [(2, ⟨39, [.bool false, .slice none 0 0]⟩)] ?_
  refine zyr (by kernel_rfl) ?_
  refine zzr (zzo ?_)
  refine sq9 ?_
  refine zza 10 (.v (.int .i64 z)) ?_
  refine zyp 11 (x := .v (.bool (decide (z < 0)))) (.v (.bool false)) (by rw [show (decide (z < 0)) = false from (by simp; omega)]) ?_
  refine zza 12 (.v (.int .u64 z)) ?_
  refine zyp 13 (x := .v (.int .u32 (IntKind.u32.wrap (z)))) (.v (.int .u32 ((z) % 4294967296))) (by rw [show (IntKind.u32.wrap (z)) = ((z) % 4294967296) from (IntKind.wrap_u32 _)]) ?_
  refine zza 14 (.v (.int .u64 z)) ?_
  refine zyp 15 (x := .v (.int .u64 (Int.fdiv (z) (2 ^ 32)))) (.v (.int .u64 ((z) / 4294967296))) (by rw [show (Int.fdiv (z) (2 ^ 32)) = ((z) / 4294967296) from (by rw [Int.fdiv_eq_ediv_of_nonneg _ (by decide)]; rfl)]) ?_
  refine zyp 16 (x := .v (.int .u32 (IntKind.u32.wrap ((z) / 4294967296)))) (.v (.int .u32 ((z) / 4294967296))) (by rw [show (IntKind.u32.wrap ((z) / 4294967296)) = ((z) / 4294967296) from (IntWalk.u32_in _ (by omega))]) ?_
  refine sy_data 17 ⟨113, [.int .u32 ((z) % 4294967296), .int .u32 ((z) / 4294967296)]⟩ 2 (fun b11 u12 e13 h14 => ?_)
  refine zzf 18 178 [.slice (some ⟨b11, 0, none⟩) 2 2] ?_
  intro w15 u15 e15 d15
  have k20 := k_natTrim d15 ((two_data (N := z.natAbs) h14 (by omega) (by omega) (by omega)).ext e15) (by omega)
  with_reducible refine Post.mono k20 ?_
  rintro _ u18 g19 ⟨x16, rfl, h17⟩
  refine zzf 19 173 [.bool false, x16.v] ?_
  intro w21 u21 e21 d21
  have k26 := k_signed d21 (s := false) (h17.ext e21)
  with_reducible refine Post.mono k26 ?_
  rintro _ u24 g25 ⟨i22, rfl, h23⟩
  refine zzi ⟨39, i22.cs⟩ ty39 ?_
  refine zzb 20 [(2, .adr 2 0)] [(2, ⟨39, i22.cs⟩)] ?_
  refine zzn (ret0 [i22.v] ⟨zzq ty39 zzd, trivial⟩ fun u27 e28 => ?_)
  refine ⟨i22, rfl, IntN.more (K := 2) ?_ (by omega)⟩
  have e : z = Nt.sg false z.natAbs := by unfold Nt.sg; simp; omega
  rw [e]
  exact (h23.ext e28)
theorem k_natural {u w : World} {x : Sl} (d : Dat u w) : Calls Tryz.prog 135 #[x.v] w (Post u w fun v _ => v = .agg #[.bool false, x.v]) := by
 refine zzl (args := [.slice x.a x.n x.c]) Tryz.func135 rfl Tryz.ntmps135 (rs := [.cell 2 39]) Tryz.results135 (le_b rfl) (le_b rfl) d ?_
 refine sq9 ?_
 refine zzj 2 ⟨39, [.bool false, .slice none 0 0]⟩ ?_
 refine zzb 5 [(0, .v x.v), (2, .adr 2 0)] [(2, ⟨39, [.bool false, .slice none 0 0]⟩)] ?_
 refine sq9 ?_
 refine zza 3 (.v x.v) ?_
 refine zza 4 (.v (.agg #[.bool false, x.v])) ?_
 refine zzi ⟨39, [.bool false, x.v]⟩ ty39 ?_
 refine zzb 5 [(2, .adr 2 0)] [(2, ⟨39, [.bool false, x.v]⟩)] ?_
 refine zzn (ret0 [.agg #[.bool false, .slice x.a x.n x.c]] ⟨zzq ty39 zzd, trivial⟩ fun u11 e12 => ?_)
 exact rfl
theorem k_whole {u w : World} {i : IL} (d : Dat u w) : Calls Tryz.prog 141 #[i.v] w (Post u w fun v u' => ∃ y : Sl, v = .agg #[.bool i.s, i.m.v, y.v] ∧ NatN u' y 1 1) := by
 refine zzl (args := [i.v]) Tryz.func141 rfl Tryz.ntmps141 (rs := [.cell 2 41]) Tryz.results141 (le_b rfl) (le_b rfl) d ?_
 refine sq9 ?_
 refine zzj 1 ⟨39, i.cs⟩ ?_
 refine zzj 2 ⟨41, [.bool false, .slice none 0 0, .slice none 0 0]⟩ ?_
 refine zzb 6 [(1, .adr 1 0), (2, .adr 2 0)] [(1, ⟨39, i.cs⟩), (2, ⟨41, [.bool false, .slice none 0 0, .slice none 0 0]⟩)] ?_
 refine sq9 ?_
 refine zzh 3 (.v (i.v)) ty39 zzd ?_
 refine sy_data 4 ⟨113, [.int .u32 1]⟩ 1 (fun b11 u12 e13 h14 => ?_)
 refine zza 5 (.v (.agg #[.bool i.s, i.m.v, .slice (some ⟨b11, 0, none⟩) 1 1])) ?_
 refine zzi ⟨41, i.cs ++ [.slice (some ⟨b11, 0, none⟩) 1 1]⟩ ty41 ?_
 refine zzb 6 [(2, .adr 2 0)] [(2, ⟨41, i.cs ++ [.slice (some ⟨b11, 0, none⟩) 1 1]⟩)] ?_
 refine zzn (ret0 [.agg #[.bool i.s, .slice i.m.a i.m.n i.m.c, .slice (some ⟨b11, 0, none⟩) 1 1]] ⟨zzq ty41 zzd, trivial⟩ fun u15 e16 => ?_)
 exact ⟨_, rfl, ((one_data h14).ext e16)⟩
theorem k_quotient {u w : World} {i j : IL} (d : Dat u w) : Calls Tryz.prog 136 #[i.v, j.v] w (Post u w fun v _ => v = .agg #[.bool (!(i.s == j.s)), i.m.v, j.m.v]) := by
 refine zzl (args := [i.v, j.v]) Tryz.func136 rfl Tryz.ntmps136 (rs := [.cell 4 164]) Tryz.results136 (le_b rfl) (le_b rfl) d ?_
 refine sq9 ?_
 refine zzj 2 ⟨39, i.cs⟩ ?_
 refine zzj 3 ⟨39, j.cs⟩ ?_
 refine zzj 4 ⟨164, [.bool false, .slice none 0 0, .slice none 0 0]⟩ ?_
 refine zzb 16 [(2, .adr 2 0), (3, .adr 3 0), (4, .adr 4 0)] [(2, ⟨39, i.cs⟩), (3, ⟨39, j.cs⟩), (4, ⟨164, [.bool false, .slice none 0 0, .slice none 0 0]⟩)] ?_
 refine sq9 ?_
 refine zza 5 (.adr 2 0) ?_
 refine zzh 6 (.v (.bool i.s)) ty4 zzk ?_
 refine zza 7 (.adr 3 0) ?_
 refine zzh 8 (.v (.bool j.s)) ty4 zzk ?_
 refine zza 9 (.v (.bool (!(i.s == j.s)))) ?_
 refine zza 10 (.adr 2 1) ?_
 refine zzh 11 (.v i.m.v) ty37 zzk ?_
 refine zza 12 (.v (.agg #[.bool (!(i.s == j.s)), i.m.v])) ?_
 refine zza 13 (.adr 3 1) ?_
 refine zzh 14 (.v j.m.v) ty37 zzk ?_
 refine zza 15 (.v (.agg #[.bool (!(i.s == j.s)), i.m.v, j.m.v])) ?_
 refine zzi ⟨164, [.bool (!(i.s == j.s)), i.m.v, j.m.v]⟩ ty164 ?_
 refine zzb 16 [(4, .adr 4 0)] [(4, ⟨164, [.bool (!(i.s == j.s)), i.m.v, j.m.v]⟩)] ?_
 refine zzn (ret0 [.agg #[.bool (!(i.s == j.s)), .slice i.m.a i.m.n i.m.c, .slice j.m.a j.m.n j.m.c]] ⟨zzq ty164 zzd, trivial⟩ fun u11 e12 => ?_)
 exact rfl
theorem k_flip {u w : World} {r : RL} (d : Dat u w) : Calls Tryz.prog 140 #[r.v] w (Post u w fun v _ => v = .agg #[.bool (!r.s), r.m.v, r.d.v]) := by
 refine zzl (args := [r.v]) Tryz.func140 rfl Tryz.ntmps140 (rs := [.cell 2 41]) Tryz.results140 (le_b rfl) (le_b rfl) d ?_
 refine sq9 ?_
 refine zzj 1 ⟨41, r.cs⟩ ?_
 refine zzj 2 ⟨41, [.bool false, .slice none 0 0, .slice none 0 0]⟩ ?_
 refine zzb 14 [(1, .adr 1 0), (2, .adr 2 0)] [(1, ⟨41, r.cs⟩), (2, ⟨41, [.bool false, .slice none 0 0, .slice none 0 0]⟩)] ?_
 refine sq9 ?_
 refine zza 3 (.adr 1 0) ?_
 refine zza 4 (.adr 1 0) ?_
 refine zzh 5 (.v (.bool r.s)) ty4 zzk ?_
 refine zza 6 (.v (.bool (!r.s))) ?_
 refine zza 7 (.adr 1 0) ?_
 refine zza 8 (.adr 1 1) ?_
 refine zzh 9 (.v r.m.v) ty37 zzk ?_
 refine zza 10 (.v (.agg #[.bool (!r.s), r.m.v])) ?_
 refine zza 11 (.adr 1 2) ?_
 refine zzh 12 (.v r.d.v) ty37 zzk ?_
 refine zza 13 (.v (.agg #[.bool (!r.s), r.m.v, r.d.v])) ?_
 refine zzi ⟨41, [.bool (!r.s), r.m.v, r.d.v]⟩ ty41 ?_
 refine zzb 14 [(2, .adr 2 0)] [(2, ⟨41, [.bool (!r.s), r.m.v, r.d.v]⟩)] ?_
 refine zzn (ret0 [.agg #[.bool (!r.s), .slice r.m.a r.m.n r.m.c, .slice r.d.a r.d.n r.d.c]] ⟨zzq ty41 zzd, trivial⟩ fun u11 e12 => ?_)
 exact rfl
set_option maxHeartbeats 1000000 in
theorem k_read {u w : World} {r : RL} {q : Rat} {K : Nat} (d : Dat u w) (h : RatV u r q K) : Calls Tryz.prog 132 #[r.v] w (Post u w fun v u' => ∃ (r' : RL) (wh : Bool), v = .agg #[.bool r'.s, r'.m.v, r'.d.v, .bool wh] ∧ NumV u' r' wh q K) := by
 obtain ⟨⟨z, D, hi, hd, hq⟩, hK⟩ := h
 change IntV u ⟨r.s, r.m⟩ z K at hi
 change NatV u r.d D K at hd
 by_cases hn : r.d.n = 1
 ·obtain ⟨b, o, ha, hc⟩ := nat_digit hd hn
  by_cases hD : D = 1
  ·refine zzl (args := [r.v]) Tryz.func132 rfl Tryz.ntmps132 (rs := [.cell 2 166]) Tryz.results132 (le_b rfl) (le_b rfl) d ?_
   refine sq9 ?_
   refine zzj 1 ⟨41, r.cs⟩ ?_
   refine zzj 2 ⟨166, [.bool false, .slice none 0 0, .slice none 0 0, .bool false]⟩ ?_
   refine zzb 34 [(1, .adr 1 0), (2, .adr 2 0)] [(1, ⟨41, r.cs⟩), (2, ⟨166, [.bool false, .slice none 0 0, .slice none 0 0, .bool false]⟩)] ?_
   refine zzc ?_
   refine sq9 ?_
   refine zza 3 (.adr 1 2) ?_
   refine zzh 4 (.v r.d.v) ty37 zzk ?_
   refine zza 5 (.v (.int .i64 (r.d.n : Int))) ?_
   refine zyp 6 (x := .v (.bool ((r.d.n : Int) == 1))) (.v (.bool true)) (by rw [show ((r.d.n : Int) == 1) = true from (by simp [hn])]) ?_
   refine zza 7 (.v (.bool true)) ?_
   refine zza 8 (.adr 1 2) ?_ (hw := w1 4 true 7)
   refine zzh 9 (.v r.d.v) ty37 zzk ?_ (hw := w1 4 true 7)
   refine zzz 10 o (i := 0) (n := r.d.n) (by simp) ha (by omega) (by rw [hn]; decide) sl37 ?_ (hw := w1 4 true 7)
   refine zyk 11 (.int .u32 (D : Int)) ((Ext.refl _).cell hc) ty113 ?_ (hw := w1 4 true 7)
   refine zyp 12 (x := .v (.bool ((D : Int) == 1))) (.v (.bool true)) (by rw [show ((D : Int) == 1) = true from (by simp [hD])]) ?_ (hw := w1 4 true 7)
   refine zza 13 (.v (.bool true)) ?_
   refine zzb 34 [(1, .adr 1 0), (2, .adr 2 0), (13, .v (.bool true))] [(1, ⟨41, r.cs⟩), (2, ⟨166, [.bool false, .slice none 0 0, .slice none 0 0, .bool false]⟩)] ?_
   refine zyq (by kernel_rfl) ?_
   refine sq9 ?_
   refine zza 14 (.adr 1 0) ?_
   refine zzh 15 (.v (.agg #[.bool r.s, r.m.v])) ty39 zzd ?_
   refine zza 16 (.adr 1 2) ?_
   refine zzh 17 (.v r.d.v) ty37 zzk ?_
   refine zza 18 (.v (r.v)) ?_
   refine zza 19 (.v (.agg #[.bool r.s, r.m.v, r.d.v, .bool true])) ?_
   refine zzi ⟨166, r.cs ++ [.bool true]⟩ ty166 ?_
   refine zzb 34 [(2, .adr 2 0)] [(2, ⟨166, r.cs ++ [.bool true]⟩)] ?_
   refine zzn (zzv (ret0 [.agg #[.bool r.s, .slice r.m.a r.m.n r.m.c, .slice r.d.a r.d.n r.d.c, .bool true]] ⟨zzq ty166 zzd, trivial⟩ fun u11 e12 => ?_))
   exact ⟨r, true, rfl, z, D, hi.ext e12, hd.ext e12, by omega, hq, fun _ => hD, hK⟩
  ·refine zzl (args := [r.v]) Tryz.func132 rfl Tryz.ntmps132 (rs := [.cell 2 166]) Tryz.results132 (le_b rfl) (le_b rfl) d ?_
   refine sq9 ?_
   refine zzj 1 ⟨41, r.cs⟩ ?_
   refine zzj 2 ⟨166, [.bool false, .slice none 0 0, .slice none 0 0, .bool false]⟩ ?_
   refine zzb 34 [(1, .adr 1 0), (2, .adr 2 0)] [(1, ⟨41, r.cs⟩), (2, ⟨166, [.bool false, .slice none 0 0, .slice none 0 0, .bool false]⟩)] ?_
   refine zzc ?_
   refine sq9 ?_
   refine zza 3 (.adr 1 2) ?_
   refine zzh 4 (.v r.d.v) ty37 zzk ?_
   refine zza 5 (.v (.int .i64 (r.d.n : Int))) ?_
   refine zyp 6 (x := .v (.bool ((r.d.n : Int) == 1))) (.v (.bool true)) (by rw [show ((r.d.n : Int) == 1) = true from (by simp [hn])]) ?_
   refine zza 7 (.v (.bool true)) ?_
   refine zza 8 (.adr 1 2) ?_ (hw := w1 4 true 7)
   refine zzh 9 (.v r.d.v) ty37 zzk ?_ (hw := w1 4 true 7)
   refine zzz 10 o (i := 0) (n := r.d.n) (by simp) ha (by omega) (by rw [hn]; decide) sl37 ?_ (hw := w1 4 true 7)
   refine zyk 11 (.int .u32 (D : Int)) ((Ext.refl _).cell hc) ty113 ?_ (hw := w1 4 true 7)
   refine zyp 12 (x := .v (.bool ((D : Int) == 1))) (.v (.bool false)) (by rw [show ((D : Int) == 1) = false from (by simp; omega)]) ?_ (hw := w1 4 true 7)
   refine zza 13 (.v (.bool false)) ?_
   refine zzb 34 [(1, .adr 1 0), (2, .adr 2 0), (13, .v (.bool false))] [(1, ⟨41, r.cs⟩), (2, ⟨166, [.bool false, .slice none 0 0, .slice none 0 0, .bool false]⟩)] ?_
   refine zyr (by kernel_rfl) ?_
   refine zzr (zzo ?_)
   refine zzc ?_
   refine sq9 ?_
   refine zza 20 (.adr 1 2) ?_
   refine zzh 21 (.v r.d.v) ty37 zzk ?_
   refine zzf 22 172 [r.d.v, .slice none 0 0] ?_
   intro w11 u11 e11 d11
   have k14 := k_natCompare d11 (hd.ext e11) (nat_nil _ 1)
   with_reducible refine Post.mono k14 ?_
   rintro _ u12 g13 rfl
   refine zza 23 (.v (.bool ((Nt.cmpS D 0) == 0))) ?_
   refine zzb 34 [(1, .adr 1 0), (2, .adr 2 0), (23, .v (.bool ((Nt.cmpS D 0) == 0)))] [(1, ⟨41, r.cs⟩), (2, ⟨166, [.bool false, .slice none 0 0, .slice none 0 0, .bool false]⟩)] ?_
   refine zzt (b := (Nt.cmpS D 0) == 0) (by kernel_rfl) (fun hb15 => ?_) (fun hb15 => ?_)
   ·replace hb15 : ((Nt.cmpS D 0) == 0) = true := hb15
    refine sq9 ?_
    refine zza 24 (.v (.agg #[.bool false, .slice none 0 0])) ?_
    refine sy_data 25 ⟨113, [.int .u32 1]⟩ 1 (fun b16 u17 e18 h19 => ?_)
    refine zza 26 (.v (.agg #[.bool false, .slice none 0 0, .slice (some ⟨b16, 0, none⟩) 1 1])) ?_
    refine zza 27 (.v (.agg #[.bool false, .slice none 0 0, .slice (some ⟨b16, 0, none⟩) 1 1, .bool true])) ?_
    refine zzi ⟨166, [.bool false, .slice none 0 0, .slice (some ⟨b16, 0, none⟩) 1 1, .bool true]⟩ ty166 ?_
    refine zzb 34 [(2, .adr 2 0)] [(2, ⟨166, [.bool false, .slice none 0 0, .slice (some ⟨b16, 0, none⟩) 1 1, .bool true]⟩)] ?_
    refine zzn (zzv (ret0 [.agg #[.bool false, .slice none 0 0, .slice (some ⟨b16, 0, none⟩) 1 1, .bool true]] ⟨zzq ty166 zzd, trivial⟩ fun u20 e21 => ?_))
    have hD0 : D = 0 := (Nt.cmp_nat0 hb15).1 rfl
    refine ⟨⟨false, ⟨none, 0, 0⟩, (⟨some ⟨b16, 0, none⟩, 1, 1⟩ : Sl)⟩, true, rfl, 0, 1, (⟨0, nat_nil _ K, rfl⟩ : IntV _ ⟨false, ⟨none, 0, 0⟩⟩ 0 K), ((one_data h19).ext e21).raw.more hK, by omega, ?_, fun _ => rfl, hK⟩
    rw [hq, hD0]; simp
   ·replace hb15 : ((Nt.cmpS D 0) == 0) = false := hb15
    refine zzr (zzo ?_)
    refine sq9 ?_
    refine zza 28 (.adr 1 0) ?_
    refine zzh 29 (.v (.agg #[.bool r.s, r.m.v])) ty39 zzd ?_
    refine zza 30 (.adr 1 2) ?_
    refine zzh 31 (.v r.d.v) ty37 zzk ?_
    refine zza 32 (.v (r.v)) ?_
    refine zza 33 (.v (.agg #[.bool r.s, r.m.v, r.d.v, .bool false])) ?_
    refine zzi ⟨166, r.cs ++ [.bool false]⟩ ty166 ?_
    refine zzb 34 [(2, .adr 2 0)] [(2, ⟨166, r.cs ++ [.bool false]⟩)] ?_
    refine zzn (ret0 [.agg #[.bool r.s, .slice r.m.a r.m.n r.m.c, .slice r.d.a r.d.n r.d.c, .bool false]] ⟨zzq ty166 zzd, trivial⟩ fun u22 e23 => ?_)
    have hD0 : 0 < D := (Nt.cmp_nat0 hb15).2 rfl
    exact ⟨r, false, rfl, z, D, hi.ext (e11.trans (g13.ext.trans e23)), hd.ext (e11.trans (g13.ext.trans e23)), hD0, hq, (fun k => by cases k), hK⟩
 ·refine zzl (args := [r.v]) Tryz.func132 rfl Tryz.ntmps132 (rs := [.cell 2 166]) Tryz.results132 (le_b rfl) (le_b rfl) d ?_
  refine sq9 ?_
  refine zzj 1 ⟨41, r.cs⟩ ?_
  refine zzj 2 ⟨166, [.bool false, .slice none 0 0, .slice none 0 0, .bool false]⟩ ?_
  refine zzb 34 [(1, .adr 1 0), (2, .adr 2 0)] [(1, ⟨41, r.cs⟩), (2, ⟨166, [.bool false, .slice none 0 0, .slice none 0 0, .bool false]⟩)] ?_
  refine zzc ?_
  refine sq9 ?_
  refine zza 3 (.adr 1 2) ?_
  refine zzh 4 (.v r.d.v) ty37 zzk ?_
  refine zza 5 (.v (.int .i64 (r.d.n : Int))) ?_
  refine zyp 6 (x := .v (.bool ((r.d.n : Int) == 1))) (.v (.bool false)) (by rw [show ((r.d.n : Int) == 1) = false from (by simp; omega)]) ?_
  refine zza 7 (.v (.bool false)) ?_
  refine zzm 8 (uw 4 true false 7) ?_
  refine zzm 9 (uw 4 true false 7) ?_
  refine zzm 10 (uw 4 true false 7) ?_
  refine zzm 11 (uw 4 true false 7) ?_
  refine zzm 12 (uw 4 true false 7) ?_
  refine zza 13 (.v (.bool false)) ?_
  refine zzb 34 [(1, .adr 1 0), (2, .adr 2 0), (13, .v (.bool false))] [(1, ⟨41, r.cs⟩), (2, ⟨166, [.bool false, .slice none 0 0, .slice none 0 0, .bool false]⟩)] ?_
  refine zyr (by kernel_rfl) ?_
  refine zzr (zzo ?_)
  refine zzc ?_
  refine sq9 ?_
  refine zza 20 (.adr 1 2) ?_
  refine zzh 21 (.v r.d.v) ty37 zzk ?_
  refine zzf 22 172 [r.d.v, .slice none 0 0] ?_
  intro w11 u11 e11 d11
  have k14 := k_natCompare d11 (hd.ext e11) (nat_nil _ 1)
  with_reducible refine Post.mono k14 ?_
  rintro _ u12 g13 rfl
  refine zza 23 (.v (.bool ((Nt.cmpS D 0) == 0))) ?_
  refine zzb 34 [(1, .adr 1 0), (2, .adr 2 0), (23, .v (.bool ((Nt.cmpS D 0) == 0)))] [(1, ⟨41, r.cs⟩), (2, ⟨166, [.bool false, .slice none 0 0, .slice none 0 0, .bool false]⟩)] ?_
  refine zzt (b := (Nt.cmpS D 0) == 0) (by kernel_rfl) (fun hb15 => ?_) (fun hb15 => ?_)
  ·replace hb15 : ((Nt.cmpS D 0) == 0) = true := hb15
   refine sq9 ?_
   refine zza 24 (.v (.agg #[.bool false, .slice none 0 0])) ?_
   refine sy_data 25 ⟨113, [.int .u32 1]⟩ 1 (fun b16 u17 e18 h19 => ?_)
   refine zza 26 (.v (.agg #[.bool false, .slice none 0 0, .slice (some ⟨b16, 0, none⟩) 1 1])) ?_
   refine zza 27 (.v (.agg #[.bool false, .slice none 0 0, .slice (some ⟨b16, 0, none⟩) 1 1, .bool true])) ?_
   refine zzi ⟨166, [.bool false, .slice none 0 0, .slice (some ⟨b16, 0, none⟩) 1 1, .bool true]⟩ ty166 ?_
   refine zzb 34 [(2, .adr 2 0)] [(2, ⟨166, [.bool false, .slice none 0 0, .slice (some ⟨b16, 0, none⟩) 1 1, .bool true]⟩)] ?_
   refine zzn (zzv (ret0 [.agg #[.bool false, .slice none 0 0, .slice (some ⟨b16, 0, none⟩) 1 1, .bool true]] ⟨zzq ty166 zzd, trivial⟩ fun u20 e21 => ?_))
   have hD0 : D = 0 := (Nt.cmp_nat0 hb15).1 rfl
   refine ⟨⟨false, ⟨none, 0, 0⟩, (⟨some ⟨b16, 0, none⟩, 1, 1⟩ : Sl)⟩, true, rfl, 0, 1, (⟨0, nat_nil _ K, rfl⟩ : IntV _ ⟨false, ⟨none, 0, 0⟩⟩ 0 K), ((one_data h19).ext e21).raw.more hK, by omega, ?_, fun _ => rfl, hK⟩
   rw [hq, hD0]; simp
  ·replace hb15 : ((Nt.cmpS D 0) == 0) = false := hb15
   refine zzr (zzo ?_)
   refine sq9 ?_
   refine zza 28 (.adr 1 0) ?_
   refine zzh 29 (.v (.agg #[.bool r.s, r.m.v])) ty39 zzd ?_
   refine zza 30 (.adr 1 2) ?_
   refine zzh 31 (.v r.d.v) ty37 zzk ?_
   refine zza 32 (.v (r.v)) ?_
   refine zza 33 (.v (.agg #[.bool r.s, r.m.v, r.d.v, .bool false])) ?_
   refine zzi ⟨166, r.cs ++ [.bool false]⟩ ty166 ?_
   refine zzb 34 [(2, .adr 2 0)] [(2, ⟨166, r.cs ++ [.bool false]⟩)] ?_
   refine zzn (ret0 [.agg #[.bool r.s, .slice r.m.a r.m.n r.m.c, .slice r.d.a r.d.n r.d.c, .bool false]] ⟨zzq ty166 zzd, trivial⟩ fun u22 e23 => ?_)
   have hD0 : 0 < D := (Nt.cmp_nat0 hb15).2 rfl
   exact ⟨r, false, rfl, z, D, hi.ext (e11.trans (g13.ext.trans e23)), hd.ext (e11.trans (g13.ext.trans e23)), hD0, hq, (fun k => by cases k), hK⟩
theorem k_isOne {u w : World} {x : Sl} {N K : Nat} (d : Dat u w) (h : NatN u x N K) : Calls Tryz.prog 177 #[x.v] w (Post u w fun v _ => v = .bool (decide (N = 1))) := by
 by_cases hn : x.n = 1
 ·obtain ⟨b, o, ha, hc⟩ := nat_digit h.raw hn
  refine zzl (args := [.slice x.a x.n x.c]) Tryz.func177 rfl Tryz.ntmps177 (rs := [.tmp 2]) Tryz.results177 (le_b rfl) (le_b rfl) d ?_
  refine sq9 ?_
  refine zza 2 (.v (.bool false)) ?_
  refine zzb 12 [(0, .v x.v)] [] ?_
  refine sq9 ?_
  refine zza 3 (.v x.v) ?_
  refine zza 4 (.v (.int .i64 (x.n : Int))) ?_
  refine zyp 5 (x := .v (.bool ((x.n : Int) == 1))) (.v (.bool true)) (by rw [show ((x.n : Int) == 1) = true from (by simp [hn])]) ?_
  refine zza 6 (.v (.bool true)) ?_
  refine zza 7 (.v x.v) ?_ (hw := w1 3 true 6)
  refine zzz 8 o (i := 0) (n := x.n) (by simp) ha (by omega) (by rw [hn]; decide) sl37 ?_ (hw := w1 3 true 6)
  refine zyk 9 (.int .u32 (N : Int)) ((Ext.refl _).cell hc) ty113 ?_ (hw := w1 3 true 6)
  refine zza 10 (.v (.bool ((N : Int) == 1))) ?_ (hw := w1 3 true 6)
  refine zza 11 (.v (.bool ((N : Int) == 1))) ?_
  refine zza 2 (.v (.bool ((N : Int) == 1))) ?_
  refine zzb 12 [(2, .v (.bool ((N : Int) == 1)))] [] ?_
  refine zzn (ret0 [.bool ((N : Int) == 1)] ⟨zzp, trivial⟩ fun u11 e12 => ?_)
  show Value.bool _ = Value.bool _
  congr 1
  rw [Bool.eq_iff_iff]
  simp <;> omega
 ·have hN : N ≠ 1 := fun e => hn (by rw [h.1, e, Nt.dl_one])
  refine zzl (args := [.slice x.a x.n x.c]) Tryz.func177 rfl Tryz.ntmps177 (rs := [.tmp 2]) Tryz.results177 (le_b rfl) (le_b rfl) d ?_
  refine sq9 ?_
  refine zza 2 (.v (.bool false)) ?_
  refine zzb 12 [(0, .v x.v)] [] ?_
  refine sq9 ?_
  refine zza 3 (.v x.v) ?_
  refine zza 4 (.v (.int .i64 (x.n : Int))) ?_
  refine zyp 5 (x := .v (.bool ((x.n : Int) == 1))) (.v (.bool false)) (by rw [show ((x.n : Int) == 1) = false from (by simp; omega)]) ?_
  refine zza 6 (.v (.bool false)) ?_
  refine zzm 7 (uw 3 true false 6) ?_
  refine zzm 8 (uw 3 true false 6) ?_
  refine zzm 9 (uw 3 true false 6) ?_
  refine zzm 10 (uw 3 true false 6) ?_
  refine zza 11 (.v (.bool false)) ?_
  refine zza 2 (.v (.bool false)) ?_
  refine zzb 12 [(2, .v (.bool false))] [] ?_
  refine zzn (ret0 [.bool false] ⟨zzp, trivial⟩ fun u11 e12 => ?_)
  show _ = _
  simp [tupV]
  exact hN
set_option maxHeartbeats 1000000 in
theorem k_lowest {u w : World} {i : IL} {z : Int} {y : Sl} {D K L : Nat} (d : Dat u w) (h1 : IntV u i z K) (hD : NatV u y D L) (hp : 0 < D) (hK : K ≤ 500000000) (hL : L ≤ 500000000) : Calls Tryz.prog 137 #[.agg #[.bool i.s, i.m.v, y.v]] w (Post u w fun v u' => ∃ r : RL, v = r.v ∧ RatN u' r (mkRat z D) (max K L)) := by
 obtain ⟨N, hN, hz⟩ := h1
 have hL1 : 1 ≤ L := by have h2 := hD.size; have h3 := Nt.dl_mono (x := D) (y := 1) (by omega); rw [Nt.dl_one] at h3; omega
 refine zzl (args := [.agg #[.bool i.s, .slice i.m.a i.m.n i.m.c, .slice y.a y.n y.c]]) Tryz.func137 rfl Tryz.ntmps137 (rs := [.cell 2 41]) Tryz.results137 (le_b rfl) (le_b rfl) d ?_
 refine sq9 ?_
 refine zzj 1 ⟨164, i.cs ++ [y.v]⟩ ?_
 refine zzj 2 ⟨41, [.bool false, .slice none 0 0, .slice none 0 0]⟩ ?_
 refine zzb 70 [(1, .adr 1 0), (2, .adr 2 0)] [(1, ⟨164, i.cs ++ [y.v]⟩), (2, ⟨41, [.bool false, .slice none 0 0, .slice none 0 0]⟩)] ?_
 refine sq9 ?_
 refine zza 14 (.adr 1 0) ?_
 refine zza 15 (.adr 1 1) ?_
 refine zzh 16 (.v i.m.v) ty37 zzk ?_
 refine zza 17 (.adr 1 2) ?_
 refine zzh 18 (.v y.v) ty37 zzk ?_
 refine zzf 19 174 [i.m.v, y.v] ?_
 intro w11 u11 e11 d11
 have k18 := k_natDivMod d11 (hN.ext e11) (hD.ext e11) hp (by omega) (by omega)
 with_reducible refine Post.mono k18 ?_
 rintro _ u16 g17 ⟨x12, x13, rfl, h14, h15⟩
 refine zza 13 (.v (.tuple #[x12.v, x13.v, .int .i64 0])) ?_
 refine zza 20 (.v x12.v) ?_
 refine zza 21 (.v x13.v) ?_
 refine zza 22 (.v (.int .i64 0)) ?_
 refine zza 3 (.v x12.v) ?_
 refine zza 4 (.v x13.v) ?_
 refine zza 5 (.v (.int .i64 0)) ?_
 refine zzb 70 [(1, .adr 1 0), (2, .adr 2 0), (3, .v x12.v), (4, .v x13.v)] [(1, ⟨164, i.cs ++ [y.v]⟩), (2, ⟨41, [.bool false, .slice none 0 0, .slice none 0 0]⟩)] ?_
 refine zzc ?_
 refine sq9 ?_
 refine zza 23 (.v x13.v) ?_
 refine zza 24 (.v (.int .i64 (x13.n : Int))) ?_
 refine zza 25 (.v (.bool ((x13.n : Int) == 0))) ?_
 refine zzb 70 [(1, .adr 1 0), (2, .adr 2 0), (3, .v x12.v), (4, .v x13.v), (25, .v (.bool ((x13.n : Int) == 0)))] [(1, ⟨164, i.cs ++ [y.v]⟩), (2, ⟨41, [.bool false, .slice none 0 0, .slice none 0 0]⟩)] ?_
 refine zzt (b := (x13.n : Int) == 0) (by kernel_rfl) (fun hb19 => ?_) (fun hb19 => ?_)
 ·replace hb19 : ((x13.n : Int) == 0) = true := hb19
  have qhb19 : (x13.n : Int) = 0 := by simpa using hb19
  have hr : N % D = 0 := by have h7 := (h15).pos; simp at hb19; omega
  refine sq9 ?_
  refine zza 26 (.adr 1 0) ?_
  refine zza 27 (.adr 1 0) ?_
  refine zzh 28 (.v (.bool i.s)) ty4 zzk ?_
  refine zza 29 (.v x12.v) ?_
  refine zza 30 (.v (.agg #[.bool i.s, x12.v])) ?_
  refine zzf 31 175 [.agg #[.bool i.s, x12.v]] ?_
  intro w20 u20 e20 d20
  have k25 := k_intTrim d20 (IntV.same (s := i.s) (h14.ext e20).raw) (by omega)
  with_reducible refine Post.mono k25 ?_
  rintro _ u23 g24 ⟨i21, rfl, h22⟩
  refine zzf 32 141 [i21.v] ?_
  intro w26 u26 e26 d26
  have k31 := k_whole (i := i21) d26
  with_reducible refine Post.mono k31 ?_
  rintro _ u29 g30 ⟨y27, rfl, h28⟩
  refine zzi ⟨41, i21.cs ++ [y27.v]⟩ ty41 ?_
  refine zzb 70 [(2, .adr 2 0)] [(2, ⟨41, i21.cs ++ [y27.v]⟩)] ?_
  refine zzn (zzv (ret0 [.agg #[.bool i21.s, .slice i21.m.a i21.m.n i21.m.c, .slice y27.a y27.n y27.c]] ⟨zzq ty41 zzd, trivial⟩ fun u32 e33 => ?_))
  refine ⟨(⟨i21.s, i21.m, y27⟩ : RL), rfl, RatN.more (K := (max K 1)) ?_ (by omega)⟩
  rw [hz, ← low1 hp hr]
  exact ((whole_rat (h22.ext (e26.trans g30.ext)) h28).ext e33)
 ·replace hb19 : ((x13.n : Int) == 0) = false := hb19
  have qhb19 : ¬ ((x13.n : Int) = 0) := by simpa using hb19
  have hr : N % D ≠ 0 := by have h7 := (h15).pos; simp at hb19; omega
  refine zzr (zzo ?_)
  refine sq9 ?_
  refine zza 33 (.adr 1 2) ?_
  refine zzh 34 (.v y.v) ty37 zzk ?_
  refine zza 35 (.v x13.v) ?_
  refine zzf 36 176 [y.v, x13.v] ?_
  intro w34 u34 e34 d34
  have k39 := k_natGcd d34 (hD.ext (e11.trans (g17.ext.trans e34))) (h15.ext e34).raw (by omega) (by omega)
  with_reducible refine Post.mono k39 ?_
  rintro _ u37 g38 ⟨x35, rfl, h36⟩
  refine zza 6 (.v x35.v) ?_
  refine zzb 70 [(1, .adr 1 0), (2, .adr 2 0), (6, .v x35.v)] [(1, ⟨164, i.cs ++ [y.v]⟩), (2, ⟨41, [.bool false, .slice none 0 0, .slice none 0 0]⟩)] ?_
  refine zzc ?_
  refine sq9 ?_
  refine zza 37 (.v x35.v) ?_
  refine zzf 38 177 [x35.v] ?_
  intro w40 u40 e40 d40
  have k43 := k_isOne d40 (h36.ext e40)
  with_reducible refine Post.mono k43 ?_
  rintro _ u41 g42 rfl
  refine zzb 70 [(1, .adr 1 0), (2, .adr 2 0), (6, .v x35.v), (38, .v (.bool (decide ((Nat.gcd D (N % D)) = 1))))] [(1, ⟨164, i.cs ++ [y.v]⟩), (2, ⟨41, [.bool false, .slice none 0 0, .slice none 0 0]⟩)] ?_
  refine zzt (b := decide ((Nat.gcd D (N % D)) = 1)) (by kernel_rfl) (fun hb44 => ?_) (fun hb44 => ?_)
  ·replace hb44 : (decide ((Nat.gcd D (N % D)) = 1)) = true := hb44
   have qhb44 := of_decide_eq_true hb44
   have hg : Nat.gcd D (N % D) = 1 := by simpa using hb44
   have hgp : 0 < Nat.gcd D (N % D) := Nat.gcd_pos_of_pos_left _ hp
   refine zzc ?_
   refine zzy [0, 1, 3, 0, 8, 31, 63, 127] [(0, []), (1, []), (3, []), (4, []), (2, []), (5, []), (6, []), (7, [])] (by kernel_rfl) (by kernel_rfl) ?_
   refine zza 39 (.adr 1 0) ?_
   refine zzh 40 (.v (i.v)) ty39 zzd ?_
   refine zza 42 (.adr 1 2) ?_
   refine zzh 43 (.v y.v) ty37 zzk ?_
   refine zzf 41 175 [i.v] ?_
   intro w45 u45 e45 d45
   have k50 := k_intTrim d45 (IntV.same (s := i.s) (hN.ext (e11.trans (g17.ext.trans (e34.trans (g38.ext.trans (e40.trans (g42.ext.trans e45)))))))) (by omega)
   with_reducible refine Post.mono k50 ?_
   rintro _ u48 g49 ⟨i46, rfl, h47⟩
   refine zzf 44 178 [y.v] ?_
   intro w51 u51 e51 d51
   have k56 := k_natTrim d51 (hD.ext (e11.trans (g17.ext.trans (e34.trans (g38.ext.trans (e40.trans (g42.ext.trans (e45.trans (g49.ext.trans e51))))))))) (by omega)
   with_reducible refine Post.mono k56 ?_
   rintro _ u54 g55 ⟨x52, rfl, h53⟩
   refine zza 45 (.v (.agg #[.bool i46.s, i46.m.v, x52.v])) ?_
   refine zzi ⟨41, i46.cs ++ [x52.v]⟩ ty41 ?_
   refine zzb 70 [(2, .adr 2 0)] [(2, ⟨41, i46.cs ++ [x52.v]⟩)] ?_
   refine zzn (zzv (ret0 [.agg #[.bool i46.s, .slice i46.m.a i46.m.n i46.m.c, .slice x52.a x52.n x52.c]] ⟨zzq ty41 zzd, trivial⟩ fun u57 e58 => ?_))
   refine ⟨(⟨i46.s, i46.m, x52⟩ : RL), rfl, ?_⟩
   rw [hz]
   exact low2 hp hg (h47.ext (e51.trans (g55.ext.trans e58))) (h53.ext e58)
  ·replace hb44 : (decide ((Nat.gcd D (N % D)) = 1)) = false := hb44
   have qhb44 := of_decide_eq_false hb44
   have hg : ¬ Nat.gcd D (N % D) = 1 := by simpa using hb44
   have hgp : 0 < Nat.gcd D (N % D) := Nat.gcd_pos_of_pos_left _ hp
   refine zzr (zzo ?_)
   refine sq9 ?_
   refine zza 47 (.adr 1 0) ?_
   refine zza 48 (.adr 1 1) ?_
   refine zzh 49 (.v i.m.v) ty37 zzk ?_
   refine zza 50 (.v x35.v) ?_
   refine zzf 51 174 [i.m.v, x35.v] ?_
   intro w59 u59 e59 d59
   have k66 := k_natDivMod d59 (hN.ext (e11.trans (g17.ext.trans (e34.trans (g38.ext.trans (e40.trans (g42.ext.trans e59))))))) (h36.ext (e40.trans (g42.ext.trans e59))).raw hgp (by omega) (by omega)
   with_reducible refine Post.mono k66 ?_
   rintro _ u64 g65 ⟨x60, x61, rfl, h62, h63⟩
   refine zza 46 (.v (.tuple #[x60.v, x61.v, .int .i64 0])) ?_
   refine zza 52 (.v x60.v) ?_
   refine zza 53 (.v x61.v) ?_
   refine zza 54 (.v (.int .i64 0)) ?_
   refine zza 7 (.v x60.v) ?_
   refine zza 8 (.v x61.v) ?_
   refine zza 9 (.v (.int .i64 0)) ?_
   refine zzb 70 [(1, .adr 1 0), (2, .adr 2 0), (6, .v x35.v), (7, .v x60.v)] [(1, ⟨164, i.cs ++ [y.v]⟩), (2, ⟨41, [.bool false, .slice none 0 0, .slice none 0 0]⟩)] ?_
   refine sq9 ?_
   refine zza 56 (.adr 1 2) ?_
   refine zzh 57 (.v y.v) ty37 zzk ?_
   refine zza 58 (.v x35.v) ?_
   refine zzf 59 174 [y.v, x35.v] ?_
   intro w67 u67 e67 d67
   have k74 := k_natDivMod d67 (hD.ext (e11.trans (g17.ext.trans (e34.trans (g38.ext.trans (e40.trans (g42.ext.trans (e59.trans (g65.ext.trans e67))))))))) (h36.ext (e40.trans (g42.ext.trans (e59.trans (g65.ext.trans e67))))).raw hgp (by omega) (by omega)
   with_reducible refine Post.mono k74 ?_
   rintro _ u72 g73 ⟨x68, x69, rfl, h70, h71⟩
   refine zza 55 (.v (.tuple #[x68.v, x69.v, .int .i64 0])) ?_
   refine zza 60 (.v x68.v) ?_
   refine zza 61 (.v x69.v) ?_
   refine zza 62 (.v (.int .i64 0)) ?_
   refine zza 10 (.v x68.v) ?_
   refine zza 11 (.v x69.v) ?_
   refine zza 12 (.v (.int .i64 0)) ?_
   refine zzb 70 [(1, .adr 1 0), (2, .adr 2 0), (7, .v x60.v), (10, .v x68.v)] [(1, ⟨164, i.cs ++ [y.v]⟩), (2, ⟨41, [.bool false, .slice none 0 0, .slice none 0 0]⟩)] ?_
   refine sq9 ?_
   refine zza 63 (.adr 1 0) ?_
   refine zza 64 (.adr 1 0) ?_
   refine zzh 65 (.v (.bool i.s)) ty4 zzk ?_
   refine zza 66 (.v x60.v) ?_
   refine zza 67 (.v (.agg #[.bool i.s, x60.v])) ?_
   refine zza 68 (.v x68.v) ?_
   refine zza 69 (.v (.agg #[.bool i.s, x60.v, x68.v])) ?_
   refine zzi ⟨41, [.bool i.s, x60.v, x68.v]⟩ ty41 ?_
   refine zzb 70 [(2, .adr 2 0)] [(2, ⟨41, [.bool i.s, x60.v, x68.v]⟩)] ?_
   refine zzn (ret0 [.agg #[.bool i.s, .slice x60.a x60.n x60.c, .slice x68.a x68.n x68.c]] ⟨zzq ty41 zzd, trivial⟩ fun u75 e76 => ?_)
   refine ⟨(⟨i.s, x60, x68⟩ : RL), rfl, RatN.more (K := max K L) ?_ (by omega)⟩
   rw [hz]
   exact low3 hp hr (h62.ext (e67.trans (g73.ext.trans e76))) (h70.ext e76)
theorem k_ratTrim {u w : World} {r1 : RL} {x : Rat} {K : Nat} (d : Dat u w) (hr1 : RatV u r1 x K) (hK : K ≤ 200000000) : Calls Tryz.prog 58 #[r1.v] w (Post u w fun v u' => ∃ r : RL, v = r.v ∧ RatN u' r x K) := by
 refine zzl (args := [r1.v]) Tryz.func58 rfl Tryz.ntmps58 (rs := [.cell 2 41]) Tryz.results58 (le_b rfl) (le_b rfl) d ?_
 refine sq9 ?_
 refine zzj 1 ⟨41, r1.cs⟩ ?_
 refine zzj 2 ⟨41, [.bool false, .slice none 0 0, .slice none 0 0]⟩ ?_
 refine zzb 7 [(1, .adr 1 0), (2, .adr 2 0)] [(1, ⟨41, r1.cs⟩), (2, ⟨41, [.bool false, .slice none 0 0, .slice none 0 0]⟩)] ?_
 refine sq9 ?_
 refine zzh 3 (.v (r1.v)) ty41 zzd ?_
 refine zzf 4 132 [r1.v] ?_
 intro w11 u11 e11 d11
 have k15 := k_read d11 (hr1.ext e11)
 with_reducible refine Post.mono k15 ?_
 rintro _ u13 g14 ⟨r12, wh12, rfl, z12, D12, hi12, hd12, hp12, hq12, hw12, hk12⟩
 refine zza 5 (.v (r12.v)) ?_
 refine zzf 6 137 [r12.v] ?_
 intro w16 u16 e16 d16
 have k21 := k_lowest d16 (hi12.ext e16) (hd12.ext e16) hp12 (by omega) (by omega)
 with_reducible refine Post.mono k21 ?_
 rintro _ u19 g20 ⟨r17, rfl, h18⟩
 refine zzi ⟨41, r17.cs⟩ ty41 ?_
 refine zzb 7 [(2, .adr 2 0)] [(2, ⟨41, r17.cs⟩)] ?_
 refine zzn (ret0 [r17.v] ⟨zzq ty41 zzd, trivial⟩ fun u22 e23 => ?_)
 refine ⟨r17, rfl, RatN.more (K := (max K K)) ?_ (by omega)⟩
 rw [hq12]; exact (h18.ext e23)
theorem k_ratOf {u w : World} {z : Int} (d : Dat u w) (h0 : -9223372036854775808 ≤ z) (h1 : z ≤ 9223372036854775807) : Calls Tryz.prog 61 #[.int .i64 z] w (Post u w fun v u' => ∃ r : RL, v = r.v ∧ RatN u' r (z : Rat) 2) := by
 refine zzl (args := [.int .i64 z]) Tryz.func61 rfl Tryz.ntmps61 (rs := [.cell 2 41]) Tryz.results61 (le_b rfl) (le_b rfl) d ?_
 refine sq9 ?_
 refine zzj 2 ⟨41, [.bool false, .slice none 0 0, .slice none 0 0]⟩ ?_
 refine zzb 6 [(0, .v (.int .i64 z)), (2, .adr 2 0)] [(2, ⟨41, [.bool false, .slice none 0 0, .slice none 0 0]⟩)] ?_
 refine sq9 ?_
 refine zza 3 (.v (.int .i64 z)) ?_
 refine zzf 4 142 [.int .i64 z] ?_
 intro w11 u11 e11 d11
 have k16 := k_intOf d11 (z := z) (by omega) (by omega)
 with_reducible refine Post.mono k16 ?_
 rintro _ u14 g15 ⟨i12, rfl, h13⟩
 refine zzf 5 141 [i12.v] ?_
 intro w17 u17 e17 d17
 have k22 := k_whole (i := i12) d17
 with_reducible refine Post.mono k22 ?_
 rintro _ u20 g21 ⟨y18, rfl, h19⟩
 refine zzi ⟨41, i12.cs ++ [y18.v]⟩ ty41 ?_
 refine zzb 6 [(2, .adr 2 0)] [(2, ⟨41, i12.cs ++ [y18.v]⟩)] ?_
 refine zzn (ret0 [.agg #[.bool i12.s, .slice i12.m.a i12.m.n i12.m.c, .slice y18.a y18.n y18.c]] ⟨zzq ty41 zzd, trivial⟩ fun u23 e24 => ?_)
 refine ⟨(⟨i12.s, i12.m, y18⟩ : RL), rfl, RatN.more (K := (max 2 1)) ?_ (by omega)⟩
 exact ((whole_rat (h13.ext (e17.trans g21.ext)) h19).ext e24)
theorem k_ratSign {u w : World} {r1 : RL} {x : Rat} {K : Nat} (d : Dat u w) (hr1 : RatV u r1 x K)  : Calls Tryz.prog 131 #[r1.v] w (Post u w fun v u' => v = .int .i64 (Nt.sgQ x)) := by
 refine zzl (args := [r1.v]) Tryz.func131 rfl Tryz.ntmps131 (rs := [.tmp 2]) Tryz.results131 (le_b rfl) (le_b rfl) d ?_
 refine sq9 ?_
 refine zzj 1 ⟨41, r1.cs⟩ ?_
 refine zza 2 (.v (.int .i64 0)) ?_
 refine zzb 8 [(1, .adr 1 0)] [(1, ⟨41, r1.cs⟩)] ?_
 refine sq9 ?_
 refine zzh 3 (.v (r1.v)) ty41 zzd ?_
 refine zzf 4 132 [r1.v] ?_
 intro w11 u11 e11 d11
 have k15 := k_read d11 (hr1.ext e11)
 with_reducible refine Post.mono k15 ?_
 rintro _ u13 g14 ⟨r12, wh12, rfl, z12, D12, hi12, hd12, hp12, hq12, hw12, hk12⟩
 refine zza 5 (.v (r12.v)) ?_
 refine zza 6 (.v (.agg #[.bool r12.s, r12.m.v])) ?_
 refine zzf 7 133 [.agg #[.bool r12.s, r12.m.v]] ?_
 intro w16 u16 e16 d16
 have k19 := k_intSign d16 (hi12.ext e16)
 with_reducible refine Post.mono k19 ?_
 rintro _ u17 g18 rfl
 refine zza 2 (.v (.int .i64 (Nt.cmpS z12 0))) ?_
 refine zzb 8 [(2, .v (.int .i64 (Nt.cmpS z12 0)))] [] ?_
 refine zzn (ret0 [.int .i64 (Nt.cmpS z12 0)] ⟨zzp, trivial⟩ fun u20 e21 => ?_)
 show _ = _
 rw [hq12, ← Nt.sg_mk hp12]
 rfl
theorem k_ratCompare {u w : World} {r1 : RL} {x : Rat} {K : Nat} {r2 : RL} {y : Rat} {L : Nat} (d : Dat u w) (hr1 : RatV u r1 x K) (hr2 : RatV u r2 y L) (hK : K ≤ 200000000) (hL : L ≤ 200000000) : Calls Tryz.prog 138 #[r1.v, r2.v] w (Post u w fun v u' => v = .int .i64 (Nt.cmpQ x y)) := by
 refine zzl (args := [r1.v, r2.v]) Tryz.func138 rfl Tryz.ntmps138 (rs := [.tmp 4]) Tryz.results138 (le_b rfl) (le_b rfl) d ?_
 refine sq9 ?_
 refine zzj 2 ⟨41, r1.cs⟩ ?_
 refine zzj 3 ⟨41, r2.cs⟩ ?_
 refine zza 4 (.v (.int .i64 0)) ?_
 refine zzb 41 [(2, .adr 2 0), (3, .adr 3 0)] [(2, ⟨41, r1.cs⟩), (3, ⟨41, r2.cs⟩)] ?_
 refine zzc ?_
 refine zzy [0, 1, 0, 7, 0, 0, 63, 127] [(0, []), (2, []), (4, []), (5, []), (1, []), (3, []), (6, []), (7, [])] (by kernel_rfl) (by kernel_rfl) ?_
 refine zzh 7 (.v (r1.v)) ty41 zzd ?_
 refine zzh 9 (.v (r2.v)) ty41 zzd ?_
 refine zzj 5 ⟨166, [.bool false, .slice none 0 0, .slice none 0 0, .bool false]⟩ ?_
 refine zzj 6 ⟨166, [.bool false, .slice none 0 0, .slice none 0 0, .bool false]⟩ ?_
 refine zzf 8 132 [r1.v] ?_
 intro w11 u11 e11 d11
 have k15 := k_read d11 (hr1.ext e11)
 with_reducible refine Post.mono k15 ?_
 rintro _ u13 g14 ⟨r12, wh12, rfl, z12, D12, hi12, hd12, hp12, hq12, hw12, hk12⟩
 refine zzf 10 132 [r2.v] ?_
 intro w16 u16 e16 d16
 have k20 := k_read d16 (hr2.ext (e11.trans (g14.ext.trans e16)))
 with_reducible refine Post.mono k20 ?_
 rintro _ u18 g19 ⟨r17, wh17, rfl, z17, D17, hi17, hd17, hp17, hq17, hw17, hk17⟩
 refine zzi ⟨166, r12.cs ++ [.bool wh12]⟩ ty166 ?_
 refine zzi ⟨166, r17.cs ++ [.bool wh17]⟩ ty166 ?_
 refine zzb 41 [(5, .adr 5 0), (6, .adr 6 0)] [(5, ⟨166, r12.cs ++ [.bool wh12]⟩), (6, ⟨166, r17.cs ++ [.bool wh17]⟩)] ?_
 refine zzc ?_
 refine sq9 ?_
 refine zza 11 (.adr 5 3) ?_
 refine zzh 12 (.v (.bool wh12)) ty4 zzk ?_
 rcases Bool.eq_false_or_eq_true wh12 with hs21 | hs21
 ·refine zyp 13 (x := .v (.bool wh12)) (.v (.bool true)) (by rw [hs21]) ?_
  refine zza 14 (.adr 6 3) ?_ (hw := w1 2 true 13)
  refine zzh 15 (.v (.bool wh17)) ty4 zzk ?_ (hw := w1 2 true 13)
  refine zza 16 (.v (.bool wh17)) ?_
  refine zzb 41 [(5, .adr 5 0), (6, .adr 6 0), (16, .v (.bool wh17))] [(5, ⟨166, r12.cs ++ [.bool wh12]⟩), (6, ⟨166, r17.cs ++ [.bool wh17]⟩)] ?_
  refine zzt (b := wh17) (by kernel_rfl) (fun hb22 => ?_) (fun hb22 => ?_)
  ·replace hb22 : wh17 = true := hb22
   refine sq9 ?_
   refine zza 17 (.adr 5 0) ?_
   refine zza 18 (.adr 5 0) ?_
   refine zzh 19 (.v (.agg #[.bool r12.s, r12.m.v])) ty39 zzd ?_
   refine zza 20 (.adr 6 0) ?_
   refine zza 21 (.adr 6 0) ?_
   refine zzh 22 (.v (.agg #[.bool r17.s, r17.m.v])) ty39 zzd ?_
   refine zzf 23 179 [.agg #[.bool r12.s, r12.m.v], .agg #[.bool r17.s, r17.m.v]] ?_
   intro w23 u23 e23 d23
   have k26 := k_intCompare d23 (hi12.ext (e16.trans (g19.ext.trans e23))) (hi17.ext e23)
   with_reducible refine Post.mono k26 ?_
   rintro _ u24 g25 rfl
   refine zza 4 (.v (.int .i64 (Nt.cmpS z12 z17))) ?_
   refine zzb 41 [(4, .v (.int .i64 (Nt.cmpS z12 z17)))] [] ?_
   refine zzn (zzv (ret0 [.int .i64 (Nt.cmpS z12 z17)] ⟨zzp, trivial⟩ fun u27 e28 => ?_))
   show _ = _
   rw [hq12, hq17, ← Nt.cmp_mk hp12 hp17]
   rw [hw12 (by assumption), hw17 (by assumption)]
   simp [tupV]
  ·replace hb22 : wh17 = false := hb22
   refine zzr (zzo ?_)
   refine zzc ?_
   refine zzy [0, 1, 3, 0, 8, 24, 56, 127, 0, 256, 768, 0, 2048, 6144, 14591, 32767, 65535, 131071] [(0, []), (1, []), (2, []), (3, []), (4, []), (5, []), (8, []), (9, []), (10, []), (11, []), (12, []), (13, []), (6, []), (7, []), (14, []), (15, []), (16, []), (17, [])] (by kernel_rfl) (by kernel_rfl) ?_
   refine zza 24 (.adr 5 0) ?_
   refine zza 25 (.adr 5 0) ?_
   refine zzh 26 (.v (.agg #[.bool r12.s, r12.m.v])) ty39 zzd ?_
   refine zza 27 (.adr 6 0) ?_
   refine zza 28 (.adr 6 2) ?_
   refine zzh 29 (.v r17.d.v) ty37 zzk ?_
   refine zza 32 (.adr 6 0) ?_
   refine zza 33 (.adr 6 0) ?_
   refine zzh 34 (.v (.agg #[.bool r17.s, r17.m.v])) ty39 zzd ?_
   refine zza 35 (.adr 5 0) ?_
   refine zza 36 (.adr 5 2) ?_
   refine zzh 37 (.v r12.d.v) ty37 zzk ?_
   refine zzf 30 135 [r17.d.v] ?_
   intro w29 u29 e29 d29
   have k32 := k_natural (x := r17.d) d29
   with_reducible refine Post.mono k32 ?_
   rintro _ u30 g31 rfl
   refine zzf 31 134 [.agg #[.bool r12.s, r12.m.v], .agg #[.bool false, r17.d.v]] ?_
   intro w33 u33 e33 d33
   have k38 := k_intMul d33 (hi12.ext (e16.trans (g19.ext.trans (e29.trans (g31.ext.trans e33))))) (nat_int (hd17.ext (e29.trans (g31.ext.trans e33)))) (by omega) (by omega)
   with_reducible refine Post.mono k38 ?_
   rintro _ u36 g37 ⟨i34, rfl, h35⟩
   refine zzf 38 135 [r12.d.v] ?_
   intro w39 u39 e39 d39
   have k42 := k_natural (x := r12.d) d39
   with_reducible refine Post.mono k42 ?_
   rintro _ u40 g41 rfl
   refine zzf 39 134 [.agg #[.bool r17.s, r17.m.v], .agg #[.bool false, r12.d.v]] ?_
   intro w43 u43 e43 d43
   have k48 := k_intMul d43 (hi17.ext (e29.trans (g31.ext.trans (e33.trans (g37.ext.trans (e39.trans (g41.ext.trans e43))))))) (nat_int (hd12.ext (e16.trans (g19.ext.trans (e29.trans (g31.ext.trans (e33.trans (g37.ext.trans (e39.trans (g41.ext.trans e43)))))))))) (by omega) (by omega)
   with_reducible refine Post.mono k48 ?_
   rintro _ u46 g47 ⟨i44, rfl, h45⟩
   refine zzf 40 179 [i34.v, i44.v] ?_
   intro w49 u49 e49 d49
   have k52 := k_intCompare d49 (h35.ext (e39.trans (g41.ext.trans (e43.trans (g47.ext.trans e49))))).raw (h45.ext e49).raw
   with_reducible refine Post.mono k52 ?_
   rintro _ u50 g51 rfl
   refine zza 4 (.v (.int .i64 (Nt.cmpS (z12 * (D17 : Int)) (z17 * (D12 : Int))))) ?_
   refine zzb 41 [(4, .v (.int .i64 (Nt.cmpS (z12 * (D17 : Int)) (z17 * (D12 : Int)))))] [] ?_
   refine zzn (ret0 [.int .i64 (Nt.cmpS (z12 * (D17 : Int)) (z17 * (D12 : Int)))] ⟨zzp, trivial⟩ fun u53 e54 => ?_)
   show _ = _
   rw [hq12, hq17, ← Nt.cmp_mk hp12 hp17]
   rfl
 ·refine zyp 13 (x := .v (.bool wh12)) (.v (.bool false)) (by rw [hs21]) ?_
  refine zzm 14 (uw 2 true false 13) ?_
  refine zzm 15 (uw 2 true false 13) ?_
  refine zza 16 (.v (.bool false)) ?_
  refine zzb 41 [(5, .adr 5 0), (6, .adr 6 0), (16, .v (.bool false))] [(5, ⟨166, r12.cs ++ [.bool wh12]⟩), (6, ⟨166, r17.cs ++ [.bool wh17]⟩)] ?_
  refine zyr (by kernel_rfl) ?_
  refine zzr (zzo ?_)
  refine zzc ?_
  refine zzy [0, 1, 3, 0, 8, 24, 56, 127, 0, 256, 768, 0, 2048, 6144, 14591, 32767, 65535, 131071] [(0, []), (1, []), (2, []), (3, []), (4, []), (5, []), (8, []), (9, []), (10, []), (11, []), (12, []), (13, []), (6, []), (7, []), (14, []), (15, []), (16, []), (17, [])] (by kernel_rfl) (by kernel_rfl) ?_
  refine zza 24 (.adr 5 0) ?_
  refine zza 25 (.adr 5 0) ?_
  refine zzh 26 (.v (.agg #[.bool r12.s, r12.m.v])) ty39 zzd ?_
  refine zza 27 (.adr 6 0) ?_
  refine zza 28 (.adr 6 2) ?_
  refine zzh 29 (.v r17.d.v) ty37 zzk ?_
  refine zza 32 (.adr 6 0) ?_
  refine zza 33 (.adr 6 0) ?_
  refine zzh 34 (.v (.agg #[.bool r17.s, r17.m.v])) ty39 zzd ?_
  refine zza 35 (.adr 5 0) ?_
  refine zza 36 (.adr 5 2) ?_
  refine zzh 37 (.v r12.d.v) ty37 zzk ?_
  refine zzf 30 135 [r17.d.v] ?_
  intro w55 u55 e55 d55
  have k58 := k_natural (x := r17.d) d55
  with_reducible refine Post.mono k58 ?_
  rintro _ u56 g57 rfl
  refine zzf 31 134 [.agg #[.bool r12.s, r12.m.v], .agg #[.bool false, r17.d.v]] ?_
  intro w59 u59 e59 d59
  have k64 := k_intMul d59 (hi12.ext (e16.trans (g19.ext.trans (e55.trans (g57.ext.trans e59))))) (nat_int (hd17.ext (e55.trans (g57.ext.trans e59)))) (by omega) (by omega)
  with_reducible refine Post.mono k64 ?_
  rintro _ u62 g63 ⟨i60, rfl, h61⟩
  refine zzf 38 135 [r12.d.v] ?_
  intro w65 u65 e65 d65
  have k68 := k_natural (x := r12.d) d65
  with_reducible refine Post.mono k68 ?_
  rintro _ u66 g67 rfl
  refine zzf 39 134 [.agg #[.bool r17.s, r17.m.v], .agg #[.bool false, r12.d.v]] ?_
  intro w69 u69 e69 d69
  have k74 := k_intMul d69 (hi17.ext (e55.trans (g57.ext.trans (e59.trans (g63.ext.trans (e65.trans (g67.ext.trans e69))))))) (nat_int (hd12.ext (e16.trans (g19.ext.trans (e55.trans (g57.ext.trans (e59.trans (g63.ext.trans (e65.trans (g67.ext.trans e69)))))))))) (by omega) (by omega)
  with_reducible refine Post.mono k74 ?_
  rintro _ u72 g73 ⟨i70, rfl, h71⟩
  refine zzf 40 179 [i60.v, i70.v] ?_
  intro w75 u75 e75 d75
  have k78 := k_intCompare d75 (h61.ext (e65.trans (g67.ext.trans (e69.trans (g73.ext.trans e75))))).raw (h71.ext e75).raw
  with_reducible refine Post.mono k78 ?_
  rintro _ u76 g77 rfl
  refine zza 4 (.v (.int .i64 (Nt.cmpS (z12 * (D17 : Int)) (z17 * (D12 : Int))))) ?_
  refine zzb 41 [(4, .v (.int .i64 (Nt.cmpS (z12 * (D17 : Int)) (z17 * (D12 : Int)))))] [] ?_
  refine zzn (ret0 [.int .i64 (Nt.cmpS (z12 * (D17 : Int)) (z17 * (D12 : Int)))] ⟨zzp, trivial⟩ fun u79 e80 => ?_)
  show _ = _
  rw [hq12, hq17, ← Nt.cmp_mk hp12 hp17]
  rfl
theorem k_ratNeg {u w : World} {r1 : RL} {x : Rat} {K : Nat} (d : Dat u w) (hr1 : RatV u r1 x K) (hK : K ≤ 200000000) : Calls Tryz.prog 159 #[r1.v] w (Post u w fun v u' => ∃ r : RL, v = r.v ∧ RatN u' r (-x) K) := by
 refine zzl (args := [r1.v]) Tryz.func159 rfl Tryz.ntmps159 (rs := [.cell 2 41]) Tryz.results159 (le_b rfl) (le_b rfl) d ?_
 refine sq9 ?_
 refine zzj 1 ⟨41, r1.cs⟩ ?_
 refine zzj 2 ⟨41, [.bool false, .slice none 0 0, .slice none 0 0]⟩ ?_
 refine zzb 6 [(1, .adr 1 0), (2, .adr 2 0)] [(1, ⟨41, r1.cs⟩), (2, ⟨41, [.bool false, .slice none 0 0, .slice none 0 0]⟩)] ?_
 refine sq9 ?_
 refine zzh 3 (.v (r1.v)) ty41 zzd ?_
 refine zzf 4 140 [r1.v] ?_
 intro w11 u11 e11 d11
 have k14 := k_flip (r := r1) d11
 with_reducible refine Post.mono k14 ?_
 rintro _ u12 g13 rfl
 refine zzf 5 58 [.agg #[.bool (!r1.s), r1.m.v, r1.d.v]] ?_
 intro w15 u15 e15 d15
 have k20 := k_ratTrim d15 ((flip_rat (hr1.ext (e11.trans g13.ext))).ext e15) (by omega)
 with_reducible refine Post.mono k20 ?_
 rintro _ u18 g19 ⟨r16, rfl, h17⟩
 refine zzi ⟨41, r16.cs⟩ ty41 ?_
 refine zzb 6 [(2, .adr 2 0)] [(2, ⟨41, r16.cs⟩)] ?_
 refine zzn (ret0 [r16.v] ⟨zzq ty41 zzd, trivial⟩ fun u21 e22 => ?_)
 refine ⟨r16, rfl, RatN.more (K := K) ?_ (by omega)⟩
 exact (h17.ext e22)
theorem k_ratAbs {u w : World} {r1 : RL} {x : Rat} {K : Nat} (d : Dat u w) (hr1 : RatV u r1 x K) (hK : K ≤ 200000000) : Calls Tryz.prog 139 #[r1.v] w (Post u w fun v u' => ∃ r : RL, v = r.v ∧ RatN u' r (Nt.absQ x) K) := by
 refine zzl (args := [r1.v]) Tryz.func139 rfl Tryz.ntmps139 (rs := [.cell 2 41]) Tryz.results139 (le_b rfl) (le_b rfl) d ?_
 refine sq9 ?_
 refine zzj 1 ⟨41, r1.cs⟩ ?_
 refine zzj 2 ⟨41, [.bool false, .slice none 0 0, .slice none 0 0]⟩ ?_
 refine zzb 11 [(1, .adr 1 0), (2, .adr 2 0)] [(1, ⟨41, r1.cs⟩), (2, ⟨41, [.bool false, .slice none 0 0, .slice none 0 0]⟩)] ?_
 refine sq9 ?_
 refine zza 3 (.adr 1 0) ?_
 refine zza 4 (.adr 1 1) ?_
 refine zzh 5 (.v r1.m.v) ty37 zzk ?_
 refine zza 6 (.v (.agg #[.bool false, r1.m.v])) ?_
 refine zza 7 (.adr 1 2) ?_
 refine zzh 8 (.v r1.d.v) ty37 zzk ?_
 refine zza 9 (.v (.agg #[.bool false, r1.m.v, r1.d.v])) ?_
 refine zzf 10 58 [.agg #[.bool false, r1.m.v, r1.d.v]] ?_
 intro w11 u11 e11 d11
 have k16 := k_ratTrim d11 ((abs_rat hr1).ext e11) (by omega)
 with_reducible refine Post.mono k16 ?_
 rintro _ u14 g15 ⟨r12, rfl, h13⟩
 refine zzi ⟨41, r12.cs⟩ ty41 ?_
 refine zzb 11 [(2, .adr 2 0)] [(2, ⟨41, r12.cs⟩)] ?_
 refine zzn (ret0 [r12.v] ⟨zzq ty41 zzd, trivial⟩ fun u17 e18 => ?_)
 refine ⟨r12, rfl, RatN.more (K := K) ?_ (by omega)⟩
 exact (h13.ext e18)
set_option maxHeartbeats 1000000 in
theorem k_ratAdd {u w : World} {r1 : RL} {x : Rat} {K : Nat} {r2 : RL} {y : Rat} {L : Nat} (d : Dat u w) (hr1 : RatV u r1 x K) (hr2 : RatV u r2 y L) (hK : K ≤ 200000000) (hL : L ≤ 200000000) : Calls Tryz.prog 127 #[r1.v, r2.v] w (Post u w fun v u' => ∃ r : RL, v = r.v ∧ RatN u' r (x + y) (K + L + 1)) := by
 refine zzl (args := [r1.v, r2.v]) Tryz.func127 rfl Tryz.ntmps127 (rs := [.cell 4 41]) Tryz.results127 (le_b rfl) (le_b rfl) d ?_
 refine sq9 ?_
 refine zzj 2 ⟨41, r1.cs⟩ ?_
 refine zzj 3 ⟨41, r2.cs⟩ ?_
 refine zzj 4 ⟨41, [.bool false, .slice none 0 0, .slice none 0 0]⟩ ?_
 refine zzb 73 [(2, .adr 2 0), (3, .adr 3 0), (4, .adr 4 0)] [(2, ⟨41, r1.cs⟩), (3, ⟨41, r2.cs⟩), (4, ⟨41, [.bool false, .slice none 0 0, .slice none 0 0]⟩)] ?_
 refine zzc ?_
 refine zzy [0, 1, 0, 7, 0, 0, 63, 127] [(0, []), (2, []), (4, []), (5, []), (1, []), (3, []), (6, []), (7, [])] (by kernel_rfl) (by kernel_rfl) ?_
 refine zzh 8 (.v (r1.v)) ty41 zzd ?_
 refine zzh 10 (.v (r2.v)) ty41 zzd ?_
 refine zzj 5 ⟨166, [.bool false, .slice none 0 0, .slice none 0 0, .bool false]⟩ ?_
 refine zzj 6 ⟨166, [.bool false, .slice none 0 0, .slice none 0 0, .bool false]⟩ ?_
 refine zzf 9 132 [r1.v] ?_
 intro w11 u11 e11 d11
 have k15 := k_read d11 (hr1.ext e11)
 with_reducible refine Post.mono k15 ?_
 rintro _ u13 g14 ⟨r12, wh12, rfl, z12, D12, hi12, hd12, hp12, hq12, hw12, hk12⟩
 refine zzf 11 132 [r2.v] ?_
 intro w16 u16 e16 d16
 have k20 := k_read d16 (hr2.ext (e11.trans (g14.ext.trans e16)))
 with_reducible refine Post.mono k20 ?_
 rintro _ u18 g19 ⟨r17, wh17, rfl, z17, D17, hi17, hd17, hp17, hq17, hw17, hk17⟩
 refine zzi ⟨166, r12.cs ++ [.bool wh12]⟩ ty166 ?_
 refine zzi ⟨166, r17.cs ++ [.bool wh17]⟩ ty166 ?_
 refine zzb 73 [(4, .adr 4 0), (5, .adr 5 0), (6, .adr 6 0)] [(4, ⟨41, [.bool false, .slice none 0 0, .slice none 0 0]⟩), (5, ⟨166, r12.cs ++ [.bool wh12]⟩), (6, ⟨166, r17.cs ++ [.bool wh17]⟩)] ?_
 refine zzc ?_
 refine sq9 ?_
 refine zza 12 (.adr 5 3) ?_
 refine zzh 13 (.v (.bool wh12)) ty4 zzk ?_
 rcases Bool.eq_false_or_eq_true wh12 with hs21 | hs21
 ·refine zyp 14 (x := .v (.bool wh12)) (.v (.bool true)) (by rw [hs21]) ?_
  refine zza 15 (.adr 6 3) ?_ (hw := w1 2 true 14)
  refine zzh 16 (.v (.bool wh17)) ty4 zzk ?_ (hw := w1 2 true 14)
  refine zza 17 (.v (.bool wh17)) ?_
  refine zzb 73 [(4, .adr 4 0), (5, .adr 5 0), (6, .adr 6 0), (17, .v (.bool wh17))] [(4, ⟨41, [.bool false, .slice none 0 0, .slice none 0 0]⟩), (5, ⟨166, r12.cs ++ [.bool wh12]⟩), (6, ⟨166, r17.cs ++ [.bool wh17]⟩)] ?_
  refine zzt (b := wh17) (by kernel_rfl) (fun hb22 => ?_) (fun hb22 => ?_)
  ·replace hb22 : wh17 = true := hb22
   refine sq9 ?_
   refine zza 18 (.adr 5 0) ?_
   refine zza 19 (.adr 5 0) ?_
   refine zzh 20 (.v (.agg #[.bool r12.s, r12.m.v])) ty39 zzd ?_
   refine zza 21 (.adr 6 0) ?_
   refine zza 22 (.adr 6 0) ?_
   refine zzh 23 (.v (.agg #[.bool r17.s, r17.m.v])) ty39 zzd ?_
   refine zzf 24 171 [.agg #[.bool r12.s, r12.m.v], .agg #[.bool r17.s, r17.m.v]] ?_
   intro w23 u23 e23 d23
   have k28 := k_intAdd d23 (hi12.ext (e16.trans (g19.ext.trans e23))) (hi17.ext e23) (by omega) (by omega)
   with_reducible refine Post.mono k28 ?_
   rintro _ u26 g27 ⟨i24, rfl, h25⟩
   refine zzf 25 141 [i24.v] ?_
   intro w29 u29 e29 d29
   have k34 := k_whole (i := i24) d29
   with_reducible refine Post.mono k34 ?_
   rintro _ u32 g33 ⟨y30, rfl, h31⟩
   refine zzi ⟨41, i24.cs ++ [y30.v]⟩ ty41 ?_
   refine zzb 73 [(4, .adr 4 0)] [(4, ⟨41, i24.cs ++ [y30.v]⟩)] ?_
   refine zzn (zzv (ret0 [.agg #[.bool i24.s, .slice i24.m.a i24.m.n i24.m.c, .slice y30.a y30.n y30.c]] ⟨zzq ty41 zzd, trivial⟩ fun u35 e36 => ?_))
   refine ⟨(⟨i24.s, i24.m, y30⟩ : RL), rfl, RatN.more (K := (max (max K L + 1) 1)) ?_ (by omega)⟩
   rw [hq12, hq17, hw12 (by assumption), hw17 (by assumption), Nt.mk_one, Nt.mk_one, ← Rat.intCast_add]
   exact ((whole_rat (h25.ext (e29.trans g33.ext)) h31).ext e36)
  ·replace hb22 : wh17 = false := hb22
   refine zzr (zzo ?_)
   refine zzc ?_
   refine sq9 ?_
   refine zza 26 (.adr 5 0) ?_
   refine zza 27 (.adr 5 2) ?_
   refine zzh 28 (.v r12.d.v) ty37 zzk ?_
   refine zza 29 (.adr 6 0) ?_
   refine zza 30 (.adr 6 2) ?_
   refine zzh 31 (.v r17.d.v) ty37 zzk ?_
   refine zzf 32 172 [r12.d.v, r17.d.v] ?_
   intro w37 u37 e37 d37
   have k40 := k_natCompare d37 (hd12.ext (e16.trans (g19.ext.trans e37))) (hd17.ext e37)
   with_reducible refine Post.mono k40 ?_
   rintro _ u38 g39 rfl
   refine zza 33 (.v (.bool ((Nt.cmpS D12 D17) == 0))) ?_
   refine zzb 73 [(4, .adr 4 0), (5, .adr 5 0), (6, .adr 6 0), (33, .v (.bool ((Nt.cmpS D12 D17) == 0)))] [(4, ⟨41, [.bool false, .slice none 0 0, .slice none 0 0]⟩), (5, ⟨166, r12.cs ++ [.bool wh12]⟩), (6, ⟨166, r17.cs ++ [.bool wh17]⟩)] ?_
   refine zzt (b := (Nt.cmpS D12 D17) == 0) (by kernel_rfl) (fun hb41 => ?_) (fun hb41 => ?_)
   ·replace hb41 : ((Nt.cmpS D12 D17) == 0) = true := hb41
    refine zzc ?_
    refine zzy [0, 1, 3, 0, 8, 24, 63, 0, 128, 384, 1023, 2047, 4095] [(0, []), (1, []), (2, []), (3, []), (4, []), (5, []), (7, []), (8, []), (9, []), (6, []), (10, []), (11, []), (12, [])] (by kernel_rfl) (by kernel_rfl) ?_
    refine zza 34 (.adr 5 0) ?_
    refine zza 35 (.adr 5 0) ?_
    refine zzh 36 (.v (.agg #[.bool r12.s, r12.m.v])) ty39 zzd ?_
    refine zza 37 (.adr 6 0) ?_
    refine zza 38 (.adr 6 0) ?_
    refine zzh 39 (.v (.agg #[.bool r17.s, r17.m.v])) ty39 zzd ?_
    refine zza 41 (.adr 5 0) ?_
    refine zza 42 (.adr 5 2) ?_
    refine zzh 43 (.v r12.d.v) ty37 zzk ?_
    refine zzf 40 171 [.agg #[.bool r12.s, r12.m.v], .agg #[.bool r17.s, r17.m.v]] ?_
    intro w42 u42 e42 d42
    have k47 := k_intAdd d42 (hi12.ext (e16.trans (g19.ext.trans (e37.trans (g39.ext.trans e42))))) (hi17.ext (e37.trans (g39.ext.trans e42))) (by omega) (by omega)
    with_reducible refine Post.mono k47 ?_
    rintro _ u45 g46 ⟨i43, rfl, h44⟩
    refine zza 44 (.v (.agg #[.bool i43.s, i43.m.v, r12.d.v])) ?_
    refine zzf 45 137 [.agg #[.bool i43.s, i43.m.v, r12.d.v]] ?_
    intro w48 u48 e48 d48
    have k53 := k_lowest d48 (h44.ext e48).raw (hd12.ext (e16.trans (g19.ext.trans (e37.trans (g39.ext.trans (e42.trans (g46.ext.trans e48))))))) hp12 (by omega) (by omega)
    with_reducible refine Post.mono k53 ?_
    rintro _ u51 g52 ⟨r49, rfl, h50⟩
    refine zzi ⟨41, r49.cs⟩ ty41 ?_
    refine zzb 73 [(4, .adr 4 0)] [(4, ⟨41, r49.cs⟩)] ?_
    refine zzn (zzv (ret0 [r49.v] ⟨zzq ty41 zzd, trivial⟩ fun u54 e55 => ?_))
    refine ⟨r49, rfl, RatN.more (K := (max (max K L + 1) K)) ?_ (by omega)⟩
    have hD : D12 = D17 := Nt.cmp_natE hb41
    rw [hq12, hq17, ← hD, ← Nt.add_same hp12]
    exact (h50.ext e55)
   ·replace hb41 : ((Nt.cmpS D12 D17) == 0) = false := hb41
    refine zzr (zzo ?_)
    refine zzc ?_
    refine zzy [0, 1, 3, 0, 8, 24, 56, 127, 0, 256, 768, 0, 2048, 6144, 14591, 32767, 65535, 0, 262143] [(0, []), (1, []), (2, []), (3, []), (4, []), (5, []), (8, []), (9, []), (10, []), (11, []), (12, []), (13, []), (17, []), (6, []), (7, []), (14, []), (15, []), (16, []), (18, [])] (by kernel_rfl) (by kernel_rfl) ?_
    refine zza 46 (.adr 5 0) ?_
    refine zza 47 (.adr 5 0) ?_
    refine zzh 48 (.v (.agg #[.bool r12.s, r12.m.v])) ty39 zzd ?_
    refine zza 49 (.adr 6 0) ?_
    refine zza 50 (.adr 6 2) ?_
    refine zzh 51 (.v r17.d.v) ty37 zzk ?_
    refine zza 54 (.adr 6 0) ?_
    refine zza 55 (.adr 6 0) ?_
    refine zzh 56 (.v (.agg #[.bool r17.s, r17.m.v])) ty39 zzd ?_
    refine zza 57 (.adr 5 0) ?_
    refine zza 58 (.adr 5 2) ?_
    refine zzh 59 (.v r12.d.v) ty37 zzk ?_
    refine zzj 7 ⟨39, [.bool false, .slice none 0 0]⟩ ?_
    refine zzf 52 135 [r17.d.v] ?_
    intro w56 u56 e56 d56
    have k59 := k_natural (x := r17.d) d56
    with_reducible refine Post.mono k59 ?_
    rintro _ u57 g58 rfl
    refine zzf 53 134 [.agg #[.bool r12.s, r12.m.v], .agg #[.bool false, r17.d.v]] ?_
    intro w60 u60 e60 d60
    have k65 := k_intMul d60 (hi12.ext (e16.trans (g19.ext.trans (e37.trans (g39.ext.trans (e56.trans (g58.ext.trans e60))))))) (nat_int (hd17.ext (e37.trans (g39.ext.trans (e56.trans (g58.ext.trans e60)))))) (by omega) (by omega)
    with_reducible refine Post.mono k65 ?_
    rintro _ u63 g64 ⟨i61, rfl, h62⟩
    refine zzf 60 135 [r12.d.v] ?_
    intro w66 u66 e66 d66
    have k69 := k_natural (x := r12.d) d66
    with_reducible refine Post.mono k69 ?_
    rintro _ u67 g68 rfl
    refine zzf 61 134 [.agg #[.bool r17.s, r17.m.v], .agg #[.bool false, r12.d.v]] ?_
    intro w70 u70 e70 d70
    have k75 := k_intMul d70 (hi17.ext (e37.trans (g39.ext.trans (e56.trans (g58.ext.trans (e60.trans (g64.ext.trans (e66.trans (g68.ext.trans e70))))))))) (nat_int (hd12.ext (e16.trans (g19.ext.trans (e37.trans (g39.ext.trans (e56.trans (g58.ext.trans (e60.trans (g64.ext.trans (e66.trans (g68.ext.trans e70)))))))))))) (by omega) (by omega)
    with_reducible refine Post.mono k75 ?_
    rintro _ u73 g74 ⟨i71, rfl, h72⟩
    refine zzf 62 171 [i61.v, i71.v] ?_
    intro w76 u76 e76 d76
    have k81 := k_intAdd d76 (h62.ext (e66.trans (g68.ext.trans (e70.trans (g74.ext.trans e76))))).raw (h72.ext e76).raw (by omega) (by omega)
    with_reducible refine Post.mono k81 ?_
    rintro _ u79 g80 ⟨i77, rfl, h78⟩
    refine zzi ⟨39, i77.cs⟩ ty39 ?_
    refine zzb 73 [(4, .adr 4 0), (5, .adr 5 0), (6, .adr 6 0), (7, .adr 7 0)] [(4, ⟨41, [.bool false, .slice none 0 0, .slice none 0 0]⟩), (5, ⟨166, r12.cs ++ [.bool wh12]⟩), (6, ⟨166, r17.cs ++ [.bool wh17]⟩), (7, ⟨39, i77.cs⟩)] ?_
    refine zzc ?_
    refine zzy [0, 0, 2, 6, 0, 16, 48, 126, 255, 511, 1023] [(0, []), (1, []), (2, []), (3, []), (4, []), (5, []), (6, []), (7, []), (8, []), (9, []), (10, [])] (by kernel_rfl) (by kernel_rfl) ?_
    refine zzh 63 (.v (i77.v)) ty39 zzd ?_
    refine zza 64 (.adr 5 0) ?_
    refine zza 65 (.adr 5 2) ?_
    refine zzh 66 (.v r12.d.v) ty37 zzk ?_
    refine zza 67 (.adr 6 0) ?_
    refine zza 68 (.adr 6 2) ?_
    refine zzh 69 (.v r17.d.v) ty37 zzk ?_
    refine zzf 70 143 [r12.d.v, r17.d.v] ?_
    intro w82 u82 e82 d82
    have k87 := k_natMul d82 (hd12.ext (e16.trans (g19.ext.trans (e37.trans (g39.ext.trans (e56.trans (g58.ext.trans (e60.trans (g64.ext.trans (e66.trans (g68.ext.trans (e70.trans (g74.ext.trans (e76.trans (g80.ext.trans e82))))))))))))))) (hd17.ext (e37.trans (g39.ext.trans (e56.trans (g58.ext.trans (e60.trans (g64.ext.trans (e66.trans (g68.ext.trans (e70.trans (g74.ext.trans (e76.trans (g80.ext.trans e82))))))))))))) (by omega) (by omega)
    with_reducible refine Post.mono k87 ?_
    rintro _ u85 g86 ⟨x83, rfl, h84⟩
    refine zza 71 (.v (.agg #[.bool i77.s, i77.m.v, x83.v])) ?_
    refine zzf 72 137 [.agg #[.bool i77.s, i77.m.v, x83.v]] ?_
    intro w88 u88 e88 d88
    have k93 := k_lowest d88 (h78.ext (e82.trans (g86.ext.trans e88))).raw (h84.ext e88).raw (Nat.mul_pos hp12 hp17) (by omega) (by omega)
    with_reducible refine Post.mono k93 ?_
    rintro _ u91 g92 ⟨r89, rfl, h90⟩
    refine zzi ⟨41, r89.cs⟩ ty41 ?_
    refine zzb 73 [(4, .adr 4 0)] [(4, ⟨41, r89.cs⟩)] ?_
    refine zzn (ret0 [r89.v] ⟨zzq ty41 zzd, trivial⟩ fun u94 e95 => ?_)
    refine ⟨r89, rfl, RatN.more (K := (max (max (K + L) (L + K) + 1) (K + L))) ?_ (by omega)⟩
    rw [hq12, hq17, ← Nt.add_mk hp12 hp17]
    exact (h90.ext e95)
 ·refine zyp 14 (x := .v (.bool wh12)) (.v (.bool false)) (by rw [hs21]) ?_
  refine zzm 15 (uw 2 true false 14) ?_
  refine zzm 16 (uw 2 true false 14) ?_
  refine zza 17 (.v (.bool false)) ?_
  refine zzb 73 [(4, .adr 4 0), (5, .adr 5 0), (6, .adr 6 0), (17, .v (.bool false))] [(4, ⟨41, [.bool false, .slice none 0 0, .slice none 0 0]⟩), (5, ⟨166, r12.cs ++ [.bool wh12]⟩), (6, ⟨166, r17.cs ++ [.bool wh17]⟩)] ?_
  refine zyr (by kernel_rfl) ?_
  refine zzr (zzo ?_)
  refine zzc ?_
  refine sq9 ?_
  refine zza 26 (.adr 5 0) ?_
  refine zza 27 (.adr 5 2) ?_
  refine zzh 28 (.v r12.d.v) ty37 zzk ?_
  refine zza 29 (.adr 6 0) ?_
  refine zza 30 (.adr 6 2) ?_
  refine zzh 31 (.v r17.d.v) ty37 zzk ?_
  refine zzf 32 172 [r12.d.v, r17.d.v] ?_
  intro w96 u96 e96 d96
  have k99 := k_natCompare d96 (hd12.ext (e16.trans (g19.ext.trans e96))) (hd17.ext e96)
  with_reducible refine Post.mono k99 ?_
  rintro _ u97 g98 rfl
  refine zza 33 (.v (.bool ((Nt.cmpS D12 D17) == 0))) ?_
  refine zzb 73 [(4, .adr 4 0), (5, .adr 5 0), (6, .adr 6 0), (33, .v (.bool ((Nt.cmpS D12 D17) == 0)))] [(4, ⟨41, [.bool false, .slice none 0 0, .slice none 0 0]⟩), (5, ⟨166, r12.cs ++ [.bool wh12]⟩), (6, ⟨166, r17.cs ++ [.bool wh17]⟩)] ?_
  refine zzt (b := (Nt.cmpS D12 D17) == 0) (by kernel_rfl) (fun hb100 => ?_) (fun hb100 => ?_)
  ·replace hb100 : ((Nt.cmpS D12 D17) == 0) = true := hb100
   refine zzc ?_
   refine zzy [0, 1, 3, 0, 8, 24, 63, 0, 128, 384, 1023, 2047, 4095] [(0, []), (1, []), (2, []), (3, []), (4, []), (5, []), (7, []), (8, []), (9, []), (6, []), (10, []), (11, []), (12, [])] (by kernel_rfl) (by kernel_rfl) ?_
   refine zza 34 (.adr 5 0) ?_
   refine zza 35 (.adr 5 0) ?_
   refine zzh 36 (.v (.agg #[.bool r12.s, r12.m.v])) ty39 zzd ?_
   refine zza 37 (.adr 6 0) ?_
   refine zza 38 (.adr 6 0) ?_
   refine zzh 39 (.v (.agg #[.bool r17.s, r17.m.v])) ty39 zzd ?_
   refine zza 41 (.adr 5 0) ?_
   refine zza 42 (.adr 5 2) ?_
   refine zzh 43 (.v r12.d.v) ty37 zzk ?_
   refine zzf 40 171 [.agg #[.bool r12.s, r12.m.v], .agg #[.bool r17.s, r17.m.v]] ?_
   intro w101 u101 e101 d101
   have k106 := k_intAdd d101 (hi12.ext (e16.trans (g19.ext.trans (e96.trans (g98.ext.trans e101))))) (hi17.ext (e96.trans (g98.ext.trans e101))) (by omega) (by omega)
   with_reducible refine Post.mono k106 ?_
   rintro _ u104 g105 ⟨i102, rfl, h103⟩
   refine zza 44 (.v (.agg #[.bool i102.s, i102.m.v, r12.d.v])) ?_
   refine zzf 45 137 [.agg #[.bool i102.s, i102.m.v, r12.d.v]] ?_
   intro w107 u107 e107 d107
   have k112 := k_lowest d107 (h103.ext e107).raw (hd12.ext (e16.trans (g19.ext.trans (e96.trans (g98.ext.trans (e101.trans (g105.ext.trans e107))))))) hp12 (by omega) (by omega)
   with_reducible refine Post.mono k112 ?_
   rintro _ u110 g111 ⟨r108, rfl, h109⟩
   refine zzi ⟨41, r108.cs⟩ ty41 ?_
   refine zzb 73 [(4, .adr 4 0)] [(4, ⟨41, r108.cs⟩)] ?_
   refine zzn (zzv (ret0 [r108.v] ⟨zzq ty41 zzd, trivial⟩ fun u113 e114 => ?_))
   refine ⟨r108, rfl, RatN.more (K := (max (max K L + 1) K)) ?_ (by omega)⟩
   have hD : D12 = D17 := Nt.cmp_natE hb100
   rw [hq12, hq17, ← hD, ← Nt.add_same hp12]
   exact (h109.ext e114)
  ·replace hb100 : ((Nt.cmpS D12 D17) == 0) = false := hb100
   refine zzr (zzo ?_)
   refine zzc ?_
   refine zzy [0, 1, 3, 0, 8, 24, 56, 127, 0, 256, 768, 0, 2048, 6144, 14591, 32767, 65535, 0, 262143] [(0, []), (1, []), (2, []), (3, []), (4, []), (5, []), (8, []), (9, []), (10, []), (11, []), (12, []), (13, []), (17, []), (6, []), (7, []), (14, []), (15, []), (16, []), (18, [])] (by kernel_rfl) (by kernel_rfl) ?_
   refine zza 46 (.adr 5 0) ?_
   refine zza 47 (.adr 5 0) ?_
   refine zzh 48 (.v (.agg #[.bool r12.s, r12.m.v])) ty39 zzd ?_
   refine zza 49 (.adr 6 0) ?_
   refine zza 50 (.adr 6 2) ?_
   refine zzh 51 (.v r17.d.v) ty37 zzk ?_
   refine zza 54 (.adr 6 0) ?_
   refine zza 55 (.adr 6 0) ?_
   refine zzh 56 (.v (.agg #[.bool r17.s, r17.m.v])) ty39 zzd ?_
   refine zza 57 (.adr 5 0) ?_
   refine zza 58 (.adr 5 2) ?_
   refine zzh 59 (.v r12.d.v) ty37 zzk ?_
   refine zzj 7 ⟨39, [.bool false, .slice none 0 0]⟩ ?_
   refine zzf 52 135 [r17.d.v] ?_
   intro w115 u115 e115 d115
   have k118 := k_natural (x := r17.d) d115
   with_reducible refine Post.mono k118 ?_
   rintro _ u116 g117 rfl
   refine zzf 53 134 [.agg #[.bool r12.s, r12.m.v], .agg #[.bool false, r17.d.v]] ?_
   intro w119 u119 e119 d119
   have k124 := k_intMul d119 (hi12.ext (e16.trans (g19.ext.trans (e96.trans (g98.ext.trans (e115.trans (g117.ext.trans e119))))))) (nat_int (hd17.ext (e96.trans (g98.ext.trans (e115.trans (g117.ext.trans e119)))))) (by omega) (by omega)
   with_reducible refine Post.mono k124 ?_
   rintro _ u122 g123 ⟨i120, rfl, h121⟩
   refine zzf 60 135 [r12.d.v] ?_
   intro w125 u125 e125 d125
   have k128 := k_natural (x := r12.d) d125
   with_reducible refine Post.mono k128 ?_
   rintro _ u126 g127 rfl
   refine zzf 61 134 [.agg #[.bool r17.s, r17.m.v], .agg #[.bool false, r12.d.v]] ?_
   intro w129 u129 e129 d129
   have k134 := k_intMul d129 (hi17.ext (e96.trans (g98.ext.trans (e115.trans (g117.ext.trans (e119.trans (g123.ext.trans (e125.trans (g127.ext.trans e129))))))))) (nat_int (hd12.ext (e16.trans (g19.ext.trans (e96.trans (g98.ext.trans (e115.trans (g117.ext.trans (e119.trans (g123.ext.trans (e125.trans (g127.ext.trans e129)))))))))))) (by omega) (by omega)
   with_reducible refine Post.mono k134 ?_
   rintro _ u132 g133 ⟨i130, rfl, h131⟩
   refine zzf 62 171 [i120.v, i130.v] ?_
   intro w135 u135 e135 d135
   have k140 := k_intAdd d135 (h121.ext (e125.trans (g127.ext.trans (e129.trans (g133.ext.trans e135))))).raw (h131.ext e135).raw (by omega) (by omega)
   with_reducible refine Post.mono k140 ?_
   rintro _ u138 g139 ⟨i136, rfl, h137⟩
   refine zzi ⟨39, i136.cs⟩ ty39 ?_
   refine zzb 73 [(4, .adr 4 0), (5, .adr 5 0), (6, .adr 6 0), (7, .adr 7 0)] [(4, ⟨41, [.bool false, .slice none 0 0, .slice none 0 0]⟩), (5, ⟨166, r12.cs ++ [.bool wh12]⟩), (6, ⟨166, r17.cs ++ [.bool wh17]⟩), (7, ⟨39, i136.cs⟩)] ?_
   refine zzc ?_
   refine zzy [0, 0, 2, 6, 0, 16, 48, 126, 255, 511, 1023] [(0, []), (1, []), (2, []), (3, []), (4, []), (5, []), (6, []), (7, []), (8, []), (9, []), (10, [])] (by kernel_rfl) (by kernel_rfl) ?_
   refine zzh 63 (.v (i136.v)) ty39 zzd ?_
   refine zza 64 (.adr 5 0) ?_
   refine zza 65 (.adr 5 2) ?_
   refine zzh 66 (.v r12.d.v) ty37 zzk ?_
   refine zza 67 (.adr 6 0) ?_
   refine zza 68 (.adr 6 2) ?_
   refine zzh 69 (.v r17.d.v) ty37 zzk ?_
   refine zzf 70 143 [r12.d.v, r17.d.v] ?_
   intro w141 u141 e141 d141
   have k146 := k_natMul d141 (hd12.ext (e16.trans (g19.ext.trans (e96.trans (g98.ext.trans (e115.trans (g117.ext.trans (e119.trans (g123.ext.trans (e125.trans (g127.ext.trans (e129.trans (g133.ext.trans (e135.trans (g139.ext.trans e141))))))))))))))) (hd17.ext (e96.trans (g98.ext.trans (e115.trans (g117.ext.trans (e119.trans (g123.ext.trans (e125.trans (g127.ext.trans (e129.trans (g133.ext.trans (e135.trans (g139.ext.trans e141))))))))))))) (by omega) (by omega)
   with_reducible refine Post.mono k146 ?_
   rintro _ u144 g145 ⟨x142, rfl, h143⟩
   refine zza 71 (.v (.agg #[.bool i136.s, i136.m.v, x142.v])) ?_
   refine zzf 72 137 [.agg #[.bool i136.s, i136.m.v, x142.v]] ?_
   intro w147 u147 e147 d147
   have k152 := k_lowest d147 (h137.ext (e141.trans (g145.ext.trans e147))).raw (h143.ext e147).raw (Nat.mul_pos hp12 hp17) (by omega) (by omega)
   with_reducible refine Post.mono k152 ?_
   rintro _ u150 g151 ⟨r148, rfl, h149⟩
   refine zzi ⟨41, r148.cs⟩ ty41 ?_
   refine zzb 73 [(4, .adr 4 0)] [(4, ⟨41, r148.cs⟩)] ?_
   refine zzn (ret0 [r148.v] ⟨zzq ty41 zzd, trivial⟩ fun u153 e154 => ?_)
   refine ⟨r148, rfl, RatN.more (K := (max (max (K + L) (L + K) + 1) (K + L))) ?_ (by omega)⟩
   rw [hq12, hq17, ← Nt.add_mk hp12 hp17]
   exact (h149.ext e154)
theorem k_ratSub {u w : World} {r1 : RL} {x : Rat} {K : Nat} {r2 : RL} {y : Rat} {L : Nat} (d : Dat u w) (hr1 : RatV u r1 x K) (hr2 : RatV u r2 y L) (hK : K ≤ 200000000) (hL : L ≤ 200000000) : Calls Tryz.prog 60 #[r1.v, r2.v] w (Post u w fun v u' => ∃ r : RL, v = r.v ∧ RatN u' r (x - y) (K + L + 1)) := by
 refine zzl (args := [r1.v, r2.v]) Tryz.func60 rfl Tryz.ntmps60 (rs := [.cell 4 41]) Tryz.results60 (le_b rfl) (le_b rfl) d ?_
 refine sq9 ?_
 refine zzj 2 ⟨41, r1.cs⟩ ?_
 refine zzj 3 ⟨41, r2.cs⟩ ?_
 refine zzj 4 ⟨41, [.bool false, .slice none 0 0, .slice none 0 0]⟩ ?_
 refine zzb 9 [(2, .adr 2 0), (3, .adr 3 0), (4, .adr 4 0)] [(2, ⟨41, r1.cs⟩), (3, ⟨41, r2.cs⟩), (4, ⟨41, [.bool false, .slice none 0 0, .slice none 0 0]⟩)] ?_
 refine zzc ?_
 refine zzy [0, 0, 2, 7, 15] [(0, []), (1, []), (2, []), (3, []), (4, [])] (by kernel_rfl) (by kernel_rfl) ?_
 refine zzh 5 (.v (r1.v)) ty41 zzd ?_
 refine zzh 6 (.v (r2.v)) ty41 zzd ?_
 refine zzf 7 140 [r2.v] ?_
 intro w11 u11 e11 d11
 have k14 := k_flip (r := r2) d11
 with_reducible refine Post.mono k14 ?_
 rintro _ u12 g13 rfl
 refine zzf 8 127 [r1.v, .agg #[.bool (!r2.s), r2.m.v, r2.d.v]] ?_
 intro w15 u15 e15 d15
 have k20 := k_ratAdd d15 (hr1.ext (e11.trans (g13.ext.trans e15))) ((flip_rat (hr2.ext (e11.trans g13.ext))).ext e15) (by omega) (by omega)
 with_reducible refine Post.mono k20 ?_
 rintro _ u18 g19 ⟨r16, rfl, h17⟩
 refine zzi ⟨41, r16.cs⟩ ty41 ?_
 refine zzb 9 [(4, .adr 4 0)] [(4, ⟨41, r16.cs⟩)] ?_
 refine zzn (ret0 [r16.v] ⟨zzq ty41 zzd, trivial⟩ fun u21 e22 => ?_)
 refine ⟨r16, rfl, RatN.more (K := (K + L + 1)) ?_ (by omega)⟩
 rw [Rat.sub_eq_add_neg]
 exact (h17.ext e22)
set_option maxHeartbeats 1000000 in
theorem k_ratMul {u w : World} {r1 : RL} {x : Rat} {K : Nat} {r2 : RL} {y : Rat} {L : Nat} (d : Dat u w) (hr1 : RatV u r1 x K) (hr2 : RatV u r2 y L) (hK : K ≤ 200000000) (hL : L ≤ 200000000) : Calls Tryz.prog 62 #[r1.v, r2.v] w (Post u w fun v u' => ∃ r : RL, v = r.v ∧ RatN u' r (x * y) (K + L)) := by
 refine zzl (args := [r1.v, r2.v]) Tryz.func62 rfl Tryz.ntmps62 (rs := [.cell 4 41]) Tryz.results62 (le_b rfl) (le_b rfl) d ?_
 refine sq9 ?_
 refine zzj 2 ⟨41, r1.cs⟩ ?_
 refine zzj 3 ⟨41, r2.cs⟩ ?_
 refine zzj 4 ⟨41, [.bool false, .slice none 0 0, .slice none 0 0]⟩ ?_
 refine zzb 37 [(2, .adr 2 0), (3, .adr 3 0), (4, .adr 4 0)] [(2, ⟨41, r1.cs⟩), (3, ⟨41, r2.cs⟩), (4, ⟨41, [.bool false, .slice none 0 0, .slice none 0 0]⟩)] ?_
 refine zzc ?_
 refine zzy [0, 1, 0, 7, 0, 0, 63, 127] [(0, []), (2, []), (4, []), (5, []), (1, []), (3, []), (6, []), (7, [])] (by kernel_rfl) (by kernel_rfl) ?_
 refine zzh 8 (.v (r1.v)) ty41 zzd ?_
 refine zzh 10 (.v (r2.v)) ty41 zzd ?_
 refine zzj 5 ⟨166, [.bool false, .slice none 0 0, .slice none 0 0, .bool false]⟩ ?_
 refine zzj 6 ⟨166, [.bool false, .slice none 0 0, .slice none 0 0, .bool false]⟩ ?_
 refine zzf 9 132 [r1.v] ?_
 intro w11 u11 e11 d11
 have k15 := k_read d11 (hr1.ext e11)
 with_reducible refine Post.mono k15 ?_
 rintro _ u13 g14 ⟨r12, wh12, rfl, z12, D12, hi12, hd12, hp12, hq12, hw12, hk12⟩
 refine zzf 11 132 [r2.v] ?_
 intro w16 u16 e16 d16
 have k20 := k_read d16 (hr2.ext (e11.trans (g14.ext.trans e16)))
 with_reducible refine Post.mono k20 ?_
 rintro _ u18 g19 ⟨r17, wh17, rfl, z17, D17, hi17, hd17, hp17, hq17, hw17, hk17⟩
 refine zzi ⟨166, r12.cs ++ [.bool wh12]⟩ ty166 ?_
 refine zzi ⟨166, r17.cs ++ [.bool wh17]⟩ ty166 ?_
 refine zzb 37 [(4, .adr 4 0), (5, .adr 5 0), (6, .adr 6 0)] [(4, ⟨41, [.bool false, .slice none 0 0, .slice none 0 0]⟩), (5, ⟨166, r12.cs ++ [.bool wh12]⟩), (6, ⟨166, r17.cs ++ [.bool wh17]⟩)] ?_
 refine sq9 ?_
 refine zza 12 (.adr 5 0) ?_
 refine zza 13 (.adr 5 0) ?_
 refine zzh 14 (.v (.agg #[.bool r12.s, r12.m.v])) ty39 zzd ?_
 refine zza 15 (.adr 6 0) ?_
 refine zza 16 (.adr 6 0) ?_
 refine zzh 17 (.v (.agg #[.bool r17.s, r17.m.v])) ty39 zzd ?_
 refine zzf 18 134 [.agg #[.bool r12.s, r12.m.v], .agg #[.bool r17.s, r17.m.v]] ?_
 intro w21 u21 e21 d21
 have k26 := k_intMul d21 (hi12.ext (e16.trans (g19.ext.trans e21))) (hi17.ext e21) (by omega) (by omega)
 with_reducible refine Post.mono k26 ?_
 rintro _ u24 g25 ⟨i22, rfl, h23⟩
 refine zzj 7 ⟨39, [.bool false, .slice none 0 0]⟩ ?_
 refine zzi ⟨39, i22.cs⟩ ty39 ?_
 refine zzb 37 [(4, .adr 4 0), (5, .adr 5 0), (6, .adr 6 0), (7, .adr 7 0)] [(4, ⟨41, [.bool false, .slice none 0 0, .slice none 0 0]⟩), (5, ⟨166, r12.cs ++ [.bool wh12]⟩), (6, ⟨166, r17.cs ++ [.bool wh17]⟩), (7, ⟨39, i22.cs⟩)] ?_
 refine zzc ?_
 refine sq9 ?_
 refine zza 19 (.adr 5 3) ?_
 refine zzh 20 (.v (.bool wh12)) ty4 zzk ?_
 rcases Bool.eq_false_or_eq_true wh12 with hs27 | hs27
 ·refine zyp 21 (x := .v (.bool wh12)) (.v (.bool true)) (by rw [hs27]) ?_
  refine zza 22 (.adr 6 3) ?_ (hw := w1 2 true 21)
  refine zzh 23 (.v (.bool wh17)) ty4 zzk ?_ (hw := w1 2 true 21)
  refine zza 24 (.v (.bool wh17)) ?_
  refine zzb 37 [(4, .adr 4 0), (5, .adr 5 0), (6, .adr 6 0), (7, .adr 7 0), (24, .v (.bool wh17))] [(4, ⟨41, [.bool false, .slice none 0 0, .slice none 0 0]⟩), (5, ⟨166, r12.cs ++ [.bool wh12]⟩), (6, ⟨166, r17.cs ++ [.bool wh17]⟩), (7, ⟨39, i22.cs⟩)] ?_
  refine zzt (b := wh17) (by kernel_rfl) (fun hb28 => ?_) (fun hb28 => ?_)
  ·replace hb28 : wh17 = true := hb28
   refine sq9 ?_
   refine zzh 25 (.v (i22.v)) ty39 zzd ?_
   refine zzf 26 141 [i22.v] ?_
   intro w29 u29 e29 d29
   have k34 := k_whole (i := i22) d29
   with_reducible refine Post.mono k34 ?_
   rintro _ u32 g33 ⟨y30, rfl, h31⟩
   refine zzi ⟨41, i22.cs ++ [y30.v]⟩ ty41 ?_
   refine zzb 37 [(4, .adr 4 0)] [(4, ⟨41, i22.cs ++ [y30.v]⟩)] ?_
   refine zzn (zzv (ret0 [.agg #[.bool i22.s, .slice i22.m.a i22.m.n i22.m.c, .slice y30.a y30.n y30.c]] ⟨zzq ty41 zzd, trivial⟩ fun u35 e36 => ?_))
   refine ⟨(⟨i22.s, i22.m, y30⟩ : RL), rfl, RatN.more (K := (max (K + L) 1)) ?_ (by omega)⟩
   rw [hq12, hq17, hw12 (by assumption), hw17 (by assumption), Nt.mk_one, Nt.mk_one, ← Rat.intCast_mul]
   exact ((whole_rat (h23.ext (e29.trans g33.ext)) h31).ext e36)
  ·replace hb28 : wh17 = false := hb28
   refine zzr (zzo ?_)
   refine zzc ?_
   refine zzy [0, 0, 2, 6, 0, 16, 48, 126, 255, 511, 1023] [(0, []), (1, []), (2, []), (3, []), (4, []), (5, []), (6, []), (7, []), (8, []), (9, []), (10, [])] (by kernel_rfl) (by kernel_rfl) ?_
   refine zzh 27 (.v (i22.v)) ty39 zzd ?_
   refine zza 28 (.adr 5 0) ?_
   refine zza 29 (.adr 5 2) ?_
   refine zzh 30 (.v r12.d.v) ty37 zzk ?_
   refine zza 31 (.adr 6 0) ?_
   refine zza 32 (.adr 6 2) ?_
   refine zzh 33 (.v r17.d.v) ty37 zzk ?_
   refine zzf 34 143 [r12.d.v, r17.d.v] ?_
   intro w37 u37 e37 d37
   have k42 := k_natMul d37 (hd12.ext (e16.trans (g19.ext.trans (e21.trans (g25.ext.trans e37))))) (hd17.ext (e21.trans (g25.ext.trans e37))) (by omega) (by omega)
   with_reducible refine Post.mono k42 ?_
   rintro _ u40 g41 ⟨x38, rfl, h39⟩
   refine zza 35 (.v (.agg #[.bool i22.s, i22.m.v, x38.v])) ?_
   refine zzf 36 137 [.agg #[.bool i22.s, i22.m.v, x38.v]] ?_
   intro w43 u43 e43 d43
   have k48 := k_lowest d43 (h23.ext (e37.trans (g41.ext.trans e43))).raw (h39.ext e43).raw (Nat.mul_pos hp12 hp17) (by omega) (by omega)
   with_reducible refine Post.mono k48 ?_
   rintro _ u46 g47 ⟨r44, rfl, h45⟩
   refine zzi ⟨41, r44.cs⟩ ty41 ?_
   refine zzb 37 [(4, .adr 4 0)] [(4, ⟨41, r44.cs⟩)] ?_
   refine zzn (ret0 [r44.v] ⟨zzq ty41 zzd, trivial⟩ fun u49 e50 => ?_)
   refine ⟨r44, rfl, RatN.more (K := (max (K + L) (K + L))) ?_ (by omega)⟩
   rw [hq12, hq17, ← Nt.mul_mk]
   exact (h45.ext e50)
 ·refine zyp 21 (x := .v (.bool wh12)) (.v (.bool false)) (by rw [hs27]) ?_
  refine zzm 22 (uw 2 true false 21) ?_
  refine zzm 23 (uw 2 true false 21) ?_
  refine zza 24 (.v (.bool false)) ?_
  refine zzb 37 [(4, .adr 4 0), (5, .adr 5 0), (6, .adr 6 0), (7, .adr 7 0), (24, .v (.bool false))] [(4, ⟨41, [.bool false, .slice none 0 0, .slice none 0 0]⟩), (5, ⟨166, r12.cs ++ [.bool wh12]⟩), (6, ⟨166, r17.cs ++ [.bool wh17]⟩), (7, ⟨39, i22.cs⟩)] ?_
  refine zyr (by kernel_rfl) ?_
  refine zzr (zzo ?_)
  refine zzc ?_
  refine zzy [0, 0, 2, 6, 0, 16, 48, 126, 255, 511, 1023] [(0, []), (1, []), (2, []), (3, []), (4, []), (5, []), (6, []), (7, []), (8, []), (9, []), (10, [])] (by kernel_rfl) (by kernel_rfl) ?_
  refine zzh 27 (.v (i22.v)) ty39 zzd ?_
  refine zza 28 (.adr 5 0) ?_
  refine zza 29 (.adr 5 2) ?_
  refine zzh 30 (.v r12.d.v) ty37 zzk ?_
  refine zza 31 (.adr 6 0) ?_
  refine zza 32 (.adr 6 2) ?_
  refine zzh 33 (.v r17.d.v) ty37 zzk ?_
  refine zzf 34 143 [r12.d.v, r17.d.v] ?_
  intro w51 u51 e51 d51
  have k56 := k_natMul d51 (hd12.ext (e16.trans (g19.ext.trans (e21.trans (g25.ext.trans e51))))) (hd17.ext (e21.trans (g25.ext.trans e51))) (by omega) (by omega)
  with_reducible refine Post.mono k56 ?_
  rintro _ u54 g55 ⟨x52, rfl, h53⟩
  refine zza 35 (.v (.agg #[.bool i22.s, i22.m.v, x52.v])) ?_
  refine zzf 36 137 [.agg #[.bool i22.s, i22.m.v, x52.v]] ?_
  intro w57 u57 e57 d57
  have k62 := k_lowest d57 (h23.ext (e51.trans (g55.ext.trans e57))).raw (h53.ext e57).raw (Nat.mul_pos hp12 hp17) (by omega) (by omega)
  with_reducible refine Post.mono k62 ?_
  rintro _ u60 g61 ⟨r58, rfl, h59⟩
  refine zzi ⟨41, r58.cs⟩ ty41 ?_
  refine zzb 37 [(4, .adr 4 0)] [(4, ⟨41, r58.cs⟩)] ?_
  refine zzn (ret0 [r58.v] ⟨zzq ty41 zzd, trivial⟩ fun u63 e64 => ?_)
  refine ⟨r58, rfl, RatN.more (K := (max (K + L) (K + L))) ?_ (by omega)⟩
  rw [hq12, hq17, ← Nt.mul_mk]
  exact (h59.ext e64)
theorem k_ratFrac {u w : World} {a b : Int} (d : Dat u w) (ha0 : -9223372036854775808 ≤ a) (ha1 : a ≤ 9223372036854775807) (hb0 : -9223372036854775808 ≤ b) (hb1 : b ≤ 9223372036854775807) : Calls Tryz.prog 95 #[.int .i64 a, .int .i64 b] w (Post u w fun v u' => ∃ r : RL, v = r.v ∧ RatN u' r ((a : Rat) / (b : Rat)) 2) := by
 refine zzl (args := [.int .i64 a, .int .i64 b]) Tryz.func95 rfl Tryz.ntmps95 (rs := [.cell 4 41]) Tryz.results95 (le_b rfl) (le_b rfl) d ?_
 refine sq9 ?_
 refine zzj 4 ⟨41, [.bool false, .slice none 0 0, .slice none 0 0]⟩ ?_
 refine zzb 14 [(0, .v (.int .i64 a)), (1, .v (.int .i64 b)), (4, .adr 4 0)] [(4, ⟨41, [.bool false, .slice none 0 0, .slice none 0 0]⟩)] ?_
 refine zzc ?_
 refine sq9 ?_
 refine zza 5 (.v (.int .i64 b)) ?_
 refine zza 6 (.v (.bool (b == 0))) ?_
 refine zzb 14 [(0, .v (.int .i64 a)), (1, .v (.int .i64 b)), (4, .adr 4 0), (6, .v (.bool (b == 0)))] [(4, ⟨41, [.bool false, .slice none 0 0, .slice none 0 0]⟩)] ?_
 refine zzt (b := b == 0) (by kernel_rfl) (fun hb11 => ?_) (fun hb11 => ?_)
 ·replace hb11 : (b == 0) = true := hb11
  refine sq9 ?_
  refine zzf 7 61 [.int .i64 0] ?_
  intro w12 u12 e12 d12
  have k17 := k_ratOf d12 (z := 0) (by omega) (by omega)
  with_reducible refine Post.mono k17 ?_
  rintro _ u15 g16 ⟨r13, rfl, h14⟩
  refine zzi ⟨41, r13.cs⟩ ty41 ?_
  refine zzb 14 [(4, .adr 4 0)] [(4, ⟨41, r13.cs⟩)] ?_
  refine zzn (zzv (ret0 [r13.v] ⟨zzq ty41 zzd, trivial⟩ fun u18 e19 => ?_))
  refine ⟨r13, rfl, RatN.more (K := 2) ?_ (by omega)⟩
  have hb0 : b = 0 := by simpa using hb11
  rw [hb0]; simp [Rat.div_def]; exact (h14.ext e19)
 ·replace hb11 : (b == 0) = false := hb11
  have hb0 : 0 < b.natAbs := by simp at hb11; omega
  refine zzr (zzo ?_)
  refine sq9 ?_
  refine zza 8 (.v (.int .i64 a)) ?_
  refine zzf 9 142 [.int .i64 a] ?_
  intro w20 u20 e20 d20
  have k25 := k_intOf d20 (z := a) (by omega) (by omega)
  with_reducible refine Post.mono k25 ?_
  rintro _ u23 g24 ⟨i21, rfl, h22⟩
  refine zza 10 (.v (.int .i64 b)) ?_
  refine zzf 11 142 [.int .i64 b] ?_
  intro w26 u26 e26 d26
  have k31 := k_intOf d26 (z := b) (by omega) (by omega)
  with_reducible refine Post.mono k31 ?_
  rintro _ u29 g30 ⟨i27, rfl, h28⟩
  refine zzf 12 136 [i21.v, i27.v] ?_
  intro w32 u32 e32 d32
  have k35 := k_quotient (i := i21) (j := i27) d32
  with_reducible refine Post.mono k35 ?_
  rintro _ u33 g34 rfl
  refine zzf 13 137 [.agg #[.bool (!(i21.s == i27.s)), i21.m.v, i27.m.v]] ?_
  intro w36 u36 e36 d36
  have k41 := k_lowest d36 ((quot_int (h22.ext (e26.trans (g30.ext.trans (e32.trans g34.ext)))) (h28.ext (e32.trans g34.ext))).ext e36) ((int_mag (h28.ext (e32.trans g34.ext))).ext e36).raw hb0 (by omega) (by omega)
  with_reducible refine Post.mono k41 ?_
  rintro _ u39 g40 ⟨r37, rfl, h38⟩
  refine zzi ⟨41, r37.cs⟩ ty41 ?_
  refine zzb 14 [(4, .adr 4 0)] [(4, ⟨41, r37.cs⟩)] ?_
  refine zzn (ret0 [r37.v] ⟨zzq ty41 zzd, trivial⟩ fun u42 e43 => ?_)
  refine ⟨r37, rfl, RatN.more (K := (max 2 2)) ?_ (by omega)⟩
  rw [← Nt.div_mk2 (by omega)]
  exact (h38.ext e43)
def DivR (x y : Rat) (K : Nat) (v : Value) (u : World) : Prop := (v = .tuple #[.agg #[.bool false, .slice none 0 0, .slice none 0 0], .int .i64 3] ∧ y = 0) ∨ (y ≠ 0 ∧ ∃ r : RL, v = .tuple #[r.v, .int .i64 0] ∧ RatN u r (x / y) K)
set_option maxHeartbeats 1000000 in
theorem k_ratDiv {u w : World} {r1 : RL} {x : Rat} {K : Nat} {r2 : RL} {y : Rat} {L : Nat} (d : Dat u w) (hr1 : RatV u r1 x K) (hr2 : RatV u r2 y L) (hK : K ≤ 200000000) (hL : L ≤ 200000000) : Calls Tryz.prog 57 #[r1.v, r2.v] w (Post u w fun v u' => DivR x y (K + L) v u') := by
 refine zzl (args := [r1.v, r2.v]) Tryz.func57 rfl Tryz.ntmps57 (rs := [.cell 4 41, .tmp 5]) Tryz.results57 (le_b rfl) (le_b rfl) d ?_
 refine sq9 ?_
 refine zzj 2 ⟨41, r1.cs⟩ ?_
 refine zzj 3 ⟨41, r2.cs⟩ ?_
 refine zzj 4 ⟨41, [.bool false, .slice none 0 0, .slice none 0 0]⟩ ?_
 refine zza 5 (.v (.int .i64 0)) ?_
 refine zzb 40 [(2, .adr 2 0), (3, .adr 3 0), (4, .adr 4 0)] [(2, ⟨41, r1.cs⟩), (3, ⟨41, r2.cs⟩), (4, ⟨41, [.bool false, .slice none 0 0, .slice none 0 0]⟩)] ?_
 refine zzc ?_
 refine zzy [0, 1, 0, 7, 0, 0, 63, 127] [(0, []), (2, []), (4, []), (5, []), (1, []), (3, []), (6, []), (7, [])] (by kernel_rfl) (by kernel_rfl) ?_
 refine zzh 10 (.v (r1.v)) ty41 zzd ?_
 refine zzh 12 (.v (r2.v)) ty41 zzd ?_
 refine zzj 6 ⟨166, [.bool false, .slice none 0 0, .slice none 0 0, .bool false]⟩ ?_
 refine zzj 7 ⟨166, [.bool false, .slice none 0 0, .slice none 0 0, .bool false]⟩ ?_
 refine zzf 11 132 [r1.v] ?_
 intro w11 u11 e11 d11
 have k15 := k_read d11 (hr1.ext e11)
 with_reducible refine Post.mono k15 ?_
 rintro _ u13 g14 ⟨r12, wh12, rfl, z12, D12, hi12, hd12, hp12, hq12, hw12, hk12⟩
 refine zzf 13 132 [r2.v] ?_
 intro w16 u16 e16 d16
 have k20 := k_read d16 (hr2.ext (e11.trans (g14.ext.trans e16)))
 with_reducible refine Post.mono k20 ?_
 rintro _ u18 g19 ⟨r17, wh17, rfl, z17, D17, hi17, hd17, hp17, hq17, hw17, hk17⟩
 refine zzi ⟨166, r12.cs ++ [.bool wh12]⟩ ty166 ?_
 refine zzi ⟨166, r17.cs ++ [.bool wh17]⟩ ty166 ?_
 refine zzb 40 [(4, .adr 4 0), (6, .adr 6 0), (7, .adr 7 0)] [(4, ⟨41, [.bool false, .slice none 0 0, .slice none 0 0]⟩), (6, ⟨166, r12.cs ++ [.bool wh12]⟩), (7, ⟨166, r17.cs ++ [.bool wh17]⟩)] ?_
 refine zzc ?_
 refine sq9 ?_
 refine zza 14 (.adr 7 0) ?_
 refine zza 15 (.adr 7 0) ?_
 refine zzh 16 (.v (.agg #[.bool r17.s, r17.m.v])) ty39 zzd ?_
 refine zzf 17 133 [.agg #[.bool r17.s, r17.m.v]] ?_
 intro w21 u21 e21 d21
 have k24 := k_intSign d21 (hi17.ext e21)
 with_reducible refine Post.mono k24 ?_
 rintro _ u22 g23 rfl
 refine zza 18 (.v (.bool ((Nt.cmpS z17 0) == 0))) ?_
 refine zzb 40 [(4, .adr 4 0), (6, .adr 6 0), (7, .adr 7 0), (18, .v (.bool ((Nt.cmpS z17 0) == 0)))] [(4, ⟨41, [.bool false, .slice none 0 0, .slice none 0 0]⟩), (6, ⟨166, r12.cs ++ [.bool wh12]⟩), (7, ⟨166, r17.cs ++ [.bool wh17]⟩)] ?_
 refine zzt (b := (Nt.cmpS z17 0) == 0) (by kernel_rfl) (fun hb25 => ?_) (fun hb25 => ?_)
 ·replace hb25 : ((Nt.cmpS z17 0) == 0) = true := hb25
  refine sq9 ?_
  refine zza 19 (.v (.agg #[.bool false, .slice none 0 0, .slice none 0 0])) ?_
  refine zzi ⟨41, [.bool false, .slice none 0 0, .slice none 0 0]⟩ ty41 ?_
  refine zza 5 (.v (.int .i64 3)) ?_
  refine zzb 40 [(4, .adr 4 0), (5, .v (.int .i64 3))] [(4, ⟨41, [.bool false, .slice none 0 0, .slice none 0 0]⟩)] ?_
  refine zzn (zzv (ret0 [.agg #[.bool false, .slice none 0 0, .slice none 0 0], .int .i64 3] ⟨zzq ty41 zzd, zzp, trivial⟩ fun u26 e27 => ?_))
  left
  exact ⟨rfl, by rw [hq17, Nt.cmp_eq0 hb25, Rat.zero_mkRat]⟩
 ·replace hb25 : ((Nt.cmpS z17 0) == 0) = false := hb25
  have hz0 : z17 ≠ 0 := Nt.cmp_ne0 hb25
  have hpp : 0 < ((D12 : Int) * z17 : Int).natAbs := Int.natAbs_pos.2 (Int.mul_ne_zero (by omega) hz0)
  refine zzr (zzo ?_)
  refine zzc ?_
  refine zzy [0, 1, 3, 0, 8, 24, 56, 127, 0, 511] [(0, []), (1, []), (2, []), (3, []), (4, []), (5, []), (8, []), (6, []), (7, []), (9, [])] (by kernel_rfl) (by kernel_rfl) ?_
  refine zza 20 (.adr 6 0) ?_
  refine zza 21 (.adr 6 0) ?_
  refine zzh 22 (.v (.agg #[.bool r12.s, r12.m.v])) ty39 zzd ?_
  refine zza 23 (.adr 7 0) ?_
  refine zza 24 (.adr 7 2) ?_
  refine zzh 25 (.v r17.d.v) ty37 zzk ?_
  refine zzj 8 ⟨39, [.bool false, .slice none 0 0]⟩ ?_
  refine zzf 26 135 [r17.d.v] ?_
  intro w28 u28 e28 d28
  have k31 := k_natural (x := r17.d) d28
  with_reducible refine Post.mono k31 ?_
  rintro _ u29 g30 rfl
  refine zzf 27 134 [.agg #[.bool r12.s, r12.m.v], .agg #[.bool false, r17.d.v]] ?_
  intro w32 u32 e32 d32
  have k37 := k_intMul d32 (hi12.ext (e16.trans (g19.ext.trans (e21.trans (g23.ext.trans (e28.trans (g30.ext.trans e32))))))) (nat_int (hd17.ext (e21.trans (g23.ext.trans (e28.trans (g30.ext.trans e32)))))) (by omega) (by omega)
  with_reducible refine Post.mono k37 ?_
  rintro _ u35 g36 ⟨i33, rfl, h34⟩
  refine zzi ⟨39, i33.cs⟩ ty39 ?_
  refine zzb 40 [(4, .adr 4 0), (6, .adr 6 0), (7, .adr 7 0), (8, .adr 8 0)] [(4, ⟨41, [.bool false, .slice none 0 0, .slice none 0 0]⟩), (6, ⟨166, r12.cs ++ [.bool wh12]⟩), (7, ⟨166, r17.cs ++ [.bool wh17]⟩), (8, ⟨39, i33.cs⟩)] ?_
  refine zzc ?_
  refine zzy [0, 1, 3, 7, 0, 16, 48, 127, 0, 511] [(0, []), (1, []), (2, []), (4, []), (5, []), (6, []), (8, []), (3, []), (7, []), (9, [])] (by kernel_rfl) (by kernel_rfl) ?_
  refine zza 28 (.adr 6 0) ?_
  refine zza 29 (.adr 6 2) ?_
  refine zzh 30 (.v r12.d.v) ty37 zzk ?_
  refine zza 32 (.adr 7 0) ?_
  refine zza 33 (.adr 7 0) ?_
  refine zzh 34 (.v (.agg #[.bool r17.s, r17.m.v])) ty39 zzd ?_
  refine zzj 9 ⟨39, [.bool false, .slice none 0 0]⟩ ?_
  refine zzf 31 135 [r12.d.v] ?_
  intro w38 u38 e38 d38
  have k41 := k_natural (x := r12.d) d38
  with_reducible refine Post.mono k41 ?_
  rintro _ u39 g40 rfl
  refine zzf 35 134 [.agg #[.bool false, r12.d.v], .agg #[.bool r17.s, r17.m.v]] ?_
  intro w42 u42 e42 d42
  have k47 := k_intMul d42 (nat_int (hd12.ext (e16.trans (g19.ext.trans (e21.trans (g23.ext.trans (e28.trans (g30.ext.trans (e32.trans (g36.ext.trans (e38.trans (g40.ext.trans e42)))))))))))) (hi17.ext (e21.trans (g23.ext.trans (e28.trans (g30.ext.trans (e32.trans (g36.ext.trans (e38.trans (g40.ext.trans e42))))))))) (by omega) (by omega)
  with_reducible refine Post.mono k47 ?_
  rintro _ u45 g46 ⟨i43, rfl, h44⟩
  refine zzi ⟨39, i43.cs⟩ ty39 ?_
  refine zzb 40 [(4, .adr 4 0), (8, .adr 8 0), (9, .adr 9 0)] [(4, ⟨41, [.bool false, .slice none 0 0, .slice none 0 0]⟩), (8, ⟨39, i33.cs⟩), (9, ⟨39, i43.cs⟩)] ?_
  refine sq9 ?_
  refine zzh 36 (.v (i33.v)) ty39 zzd ?_
  refine zzh 37 (.v (i43.v)) ty39 zzd ?_
  refine zzf 38 136 [i33.v, i43.v] ?_
  intro w48 u48 e48 d48
  have k51 := k_quotient (i := i33) (j := i43) d48
  with_reducible refine Post.mono k51 ?_
  rintro _ u49 g50 rfl
  refine zzf 39 137 [.agg #[.bool (!(i33.s == i43.s)), i33.m.v, i43.m.v]] ?_
  intro w52 u52 e52 d52
  have k57 := k_lowest d52 ((quot_int (h34.ext (e38.trans (g40.ext.trans (e42.trans (g46.ext.trans (e48.trans g50.ext)))))) (h44.ext (e48.trans g50.ext))).ext e52) ((int_mag (h44.ext (e48.trans g50.ext))).ext e52).raw hpp (by omega) (by omega)
  with_reducible refine Post.mono k57 ?_
  rintro _ u55 g56 ⟨r53, rfl, h54⟩
  refine zzi ⟨41, r53.cs⟩ ty41 ?_
  refine zza 5 (.v (.int .i64 0)) ?_
  refine zzb 40 [(4, .adr 4 0), (5, .v (.int .i64 0))] [(4, ⟨41, r53.cs⟩)] ?_
  refine zzn (ret0 [r53.v, .int .i64 0] ⟨zzq ty41 zzd, zzp, trivial⟩ fun u58 e59 => ?_)
  right
  refine ⟨?_, r53, rfl, RatN.more (K := (max (K + L) (K + L))) ?_ (by omega)⟩
  ·rw [hq17]; exact (Rat.mkRat_ne_zero (by omega)).2 hz0
  ·rw [hq12, hq17, ← Nt.quo_mk hp12 hp17 hz0, ← Nt.div_mk2 (by omega)]
   exact (h54.ext e59)
theorem k_ratDiv1 {u w : World} {r1 r2 : RL} {x y : Rat} {K L : Nat} (d : Dat u w) (hr1 : RatV u r1 x K) (hr2 : RatV u r2 y L) (hy : y ≠ 0) (hK : K ≤ 200000000) (hL : L ≤ 200000000) : Calls Tryz.prog 57 #[r1.v, r2.v] w (Post u w fun v u' => ∃ r : RL, v = .tuple #[r.v, .int .i64 0] ∧ RatN u' r (x / y) (K + L)) :=
 Post.mono (k_ratDiv d hr1 hr2 hK hL) fun v u' _ h => h.elim (fun h => absurd h.2 hy) (fun h => h.2)
end Go.Proofs.YtdmpfhhhlhoeiaaGreat
