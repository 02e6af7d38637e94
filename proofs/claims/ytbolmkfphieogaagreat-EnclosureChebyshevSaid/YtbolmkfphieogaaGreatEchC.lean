/- Parts of the proof: contracts of functions, each walked once, and plain laws. -/
import Derived.Test.YtbolmkfphieogaaGreatEchB
import Derived.Test.YtbolmkfphieogaaGreatProg
import Derived.KernelRfl
namespace Go.Proofs.YtbolmkfphieogaaGreat
set_option linter.unusedVariables false
namespace Nt
theorem mulQ_far {l m : List Rat} {k : Nat} (h : l.length + m.length ≤ k + 1) : co (mulQ l m) k = 0 := by
 induction l generalizing k with
 | nil => rfl
 | cons a l ih =>
  rw [zxe, co_ge (l := m) (by simp at h; omega)]
  unfold sh
  split
  ·grind
  ·rw [ih (by simp at h; omega)]; grind
theorem mulQ_top {l m : List Rat} (hl : 0 < l.length) (hm : 0 < m.length) : co (mulQ l m) (l.length + m.length - 2) = co l (l.length - 1) * co m (m.length - 1) := by
 induction l with
 | nil => simp at hl
 | cons a l ih =>
  rw [zxe]
  cases l with
  | nil =>
   have e : sh (co (mulQ [] m)) ([a].length + m.length - 2) = 0 := by unfold sh; split <;> rfl
   rw [e]
   show a * co m (1 + m.length - 2) + 0 = a * co m (m.length - 1)
   rw [show 1 + m.length - 2 = m.length - 1 by omega]; grind
  | cons b l =>
   have ih := ih (by simp)
   rw [co_ge (l := m) yk]
   unfold sh
   rw [if_neg yk]
   have e : (a :: b :: l).length + m.length - 2 - 1 = (b :: l).length + m.length - 2 := by simp; omega
   rw [e, ih, show (a :: b :: l).length - 1 = ((b :: l).length - 1) + 1 by simp, zxv]; grind
namespace Pol
def len (p : Pol) : Nat := p.l.length
def lead (p : Pol) : Rat := p.c (p.len - 1)
theorem c_ge {p : Pol} {i : Nat} (h : p.len ≤ i) : p.c i = 0 := co_ge h
theorem len_le {p : Pol} {n : Nat} (h : ∀ i, n ≤ i → p.c i = 0) : p.len ≤ n := by
 apply Classical.byContradiction
 intro k
 have h1 : p.l.length > n := by unfold len at k; omega
 have h2 := nrm_last p.h (by intro e; rw [e] at h1; simp at h1)
 exact h2 (h _ xq)
theorem len_zero : (0 : Pol).len = 0 := by unfold len; rw [zero_l]; rfl
theorem zero_of_len {p : Pol} (h : p.len = 0) : p = 0 := ext fun i => by rw [c_zero, c_ge xq]
theorem len_pos {p : Pol} (h : p ≠ 0) : 0 < p.len := by
 rcases Nat.eq_zero_or_pos p.len with k | k
 ·exact absurd (zero_of_len k) h
 ·exact k
theorem ne_of_len {p : Pol} (h : 0 < p.len) : p ≠ 0 := by rintro rfl; rw [len_zero] at h; omega
theorem lead_ne {p : Pol} (h : p ≠ 0) : p.lead ≠ 0 := nrm_last p.h (by intro e; have := len_pos h; unfold len at this; rw [e] at this; simp at this)
theorem c_ne_len {p : Pol} {i : Nat} (h : p.c i ≠ 0) : i < p.len := by
 apply Classical.byContradiction
 intro k
 exact h (c_ge xq)
theorem mul_far {p q : Pol} {k : Nat} (h : p.len + q.len ≤ k + 1) : (p * q).c k = 0 := by rw [c_mul]; exact mulQ_far h
theorem mul_top {p q : Pol} (hp : p ≠ 0) (hq : q ≠ 0) : (p * q).c (p.len + q.len - 2) = p.lead * q.lead := by rw [c_mul]; exact mulQ_top (len_pos hp) (len_pos hq)
theorem len_mul {p q : Pol} (hp : p ≠ 0) (hq : q ≠ 0) : (p * q).len + 1 = p.len + q.len := by
 have h1 := len_pos hp
 have h2 := len_pos hq
 have h3 : (p * q).len ≤ p.len + q.len - 1 := len_le fun i hi => mul_far xq
 have h4 : (p * q).c (p.len + q.len - 2) ≠ 0 := by
  rw [mul_top hp hq]
  intro k
  rcases Rat.mul_eq_zero.1 k with k | k
  ·exact lead_ne hp k
  ·exact lead_ne hq k
 have := c_ne_len h4
 omega
theorem mul_ne {p q : Pol} (hp : p ≠ 0) (hq : q ≠ 0) : p * q ≠ 0 := by
 apply ne_of_len
 have := len_mul hp hq
 have := len_pos hp
 have := len_pos hq
 omega
theorem lead_mul {p q : Pol} (hp : p ≠ 0) (hq : q ≠ 0) : (p * q).lead = p.lead * q.lead := by
 unfold lead
 have h := len_mul hp hq
 have h1 := len_pos hp
 have h2 := len_pos hq
 rw [show (p * q).len - 1 = p.len + q.len - 2 by omega]
 exact mul_top hp hq
theorem eq_zero_of_mul {p q : Pol} (h : p * q = 0) : p = 0 ∨ q = 0 := by
 apply Classical.byContradiction
 intro k
 exact mul_ne (fun e => k (.inl e)) (fun e => k (.inr e)) h
theorem mul_cancel {p q r : Pol} (hr : r ≠ 0) (h : p * r = q * r) : p = q := by
 have h1 : (p - q) * r = 0 := by grind
 rcases eq_zero_of_mul h1 with k | k
 ·grind
 ·exact absurd k hr
theorem len_sub (p q : Pol) : (p - q).len ≤ max p.len q.len := len_le fun i hi => by rw [c_sub, c_ge xq, c_ge xq]; grind
theorem C_ne {a : Rat} (h : a ≠ 0) : C a ≠ 0 := fun e => h (by have := c_C a 0; rw [e, c_zero] at this; simpa using this.symm)
theorem len_C {a : Rat} (h : a ≠ 0) : (C a).len = 1 := by
 have h1 : (C a).len ≤ 1 := len_le fun i hi => by rw [c_C, if_neg xq]
 have := len_pos (C_ne h)
 omega
theorem lead_C {a : Rat} (h : a ≠ 0) : (C a).lead = a := by unfold lead; rw [len_C h, c_C, if_pos rfl]
theorem is_C {p : Pol} (h : p.len ≤ 1) : p = C (p.c 0) := ext fun i => by
 rw [c_C]
 split
 ·rename_i e; rw [e]
 ·exact c_ge xq
theorem C_inv {a : Rat} (h : a ≠ 0) : C a * C (1 / a) = 1 := by
 rw [← C_mul, show a * (1 / a) = 1 by grind]; rfl
theorem C_mul_c (a : Rat) (p : Pol) (i : Nat) : (C a * p).c i = a * p.c i := by
 rw [c_mul]
 show co (mulQ (trimQ [a]) p.l) i = _
 rw [zwh (l' := [a]) (m' := p.l) (trim_co _) (fun _ => rfl), zxe]
 have e : sh (co (mulQ [] p.l)) i = 0 := by unfold sh; split <;> rfl
 rw [e]
 show a * p.c i + 0 = _
 grind
theorem len_Cmul {a : Rat} (h : a ≠ 0) (p : Pol) : (C a * p).len = p.len := by
 by_cases hp : p = 0
 ·subst hp; rw [mul_zero]
 ·have := len_mul (C_ne h) hp
  rw [len_C h] at this
  omega
theorem div_unique {u v u' v' q : Pol} (h : u * q + v = u' * q + v') (hv : v.len < q.len) (hv' : v'.len < q.len) : u = u' ∧ v = v' := by
 have hq : q ≠ 0 := ne_of_len xq
 have h1 : (u - u') * q = v' - v := by grind
 have h2 : u - u' = 0 := by
  apply Classical.byContradiction
  intro k
  have h3 := len_mul k hq
  rw [h1] at h3
  have h4 := len_sub v' v
  have h5 := len_pos k
  omega
 have h3 : u = u' := by grind
 subst h3
 exact ⟨rfl, by grind⟩
instance : Dvd Pol := ⟨fun q p => ∃ u, p = q * u⟩
structure IsGcd (p q g : Pol) : Prop where
 m : g = 0 ∨ g.lead = 1
 l : g ∣ p
 r : g ∣ q
 s : ∃ u v, g = u * p + v * q
theorem one_ne : (1 : Pol) ≠ 0 := C_ne (a := 1) yq
theorem monic_unit {a b : Pol} (h : a * b = 1) : a.len = 1 := by
 have ha : a ≠ 0 := by rintro rfl; rw [zero_mul] at h; exact one_ne h.symm
 have hb : b ≠ 0 := by rintro rfl; rw [mul_zero] at h; exact one_ne h.symm
 have h1 := len_mul ha hb
 rw [h] at h1
 have h2 : (1 : Pol).len = 1 := len_C (a := 1) yq
 have := len_pos ha
 have := len_pos hb
 omega
theorem dvd_antisymm {g g' : Pol} (h1 : g = 0 ∨ g.lead = 1) (h2 : g' = 0 ∨ g'.lead = 1) (h : g ∣ g') (k : g' ∣ g) : g = g' := by
 obtain ⟨a, ha⟩ := h
 obtain ⟨b, hb⟩ := k
 by_cases hg : g = 0
 ·subst hg; rw [zero_mul] at ha; exact ha.symm
 ·have e : (a * b) * g = 1 * g := by rw [one_mul]; grind
  have e1 := mul_cancel hg e
  have ha0 : a ≠ 0 := by rintro rfl; rw [zero_mul] at e1; exact one_ne e1.symm
  have h3 := is_C (Nat.le_of_eq (monic_unit e1))
  have hg' : g' ≠ 0 := by rw [ha]; exact mul_ne hg ha0
  have h4 := lead_mul hg ha0
  rw [← ha] at h4
  have h5 : g.lead = 1 := h1.resolve_left hg
  have h6 : g'.lead = 1 := h2.resolve_left hg'
  rw [h5, h6] at h4
  have h7 : a.c 0 ≠ 0 := fun e => ha0 (by rw [h3, e]; rfl)
  have h8 : a.lead = a.c 0 := by unfold lead; rw [monic_unit e1]
  have h9 : a = 1 := by rw [h3, ← h8, show a.lead = 1 by grind]; rfl
  rw [ha, h9, mul_one]
theorem IsGcd.unique {p q g g' : Pol} (h : IsGcd p q g) (k : IsGcd p q g') : g = g' := by
 obtain ⟨a, ha⟩ := h.l
 obtain ⟨b, hb⟩ := h.r
 obtain ⟨a', ha'⟩ := k.l
 obtain ⟨b', hb'⟩ := k.r
 obtain ⟨u, v, e⟩ := h.s
 obtain ⟨u', v', e'⟩ := k.s
 exact dvd_antisymm h.m k.m ⟨u' * a + v' * b, by grind⟩ ⟨u * a' + v * b', by grind⟩
structure Same (p q a b : Pol) : Prop where
 ha : ∃ u v, a = u * p + v * q
 hb : ∃ u v, b = u * p + v * q
 hp : ∃ u v, p = u * a + v * b
 hq : ∃ u v, q = u * a + v * b
theorem Same.scale {p q : Pol} {s t : Rat} (hs : s ≠ 0) (ht : t ≠ 0) : Same p q (C s * p) (C t * q) := by
 have h1 := C_inv hs
 have h2 := C_inv ht
 exact ⟨⟨C s, 0, by grind⟩, ⟨0, C t, by grind⟩, ⟨C (1 / s), 0, by grind⟩, ⟨0, C (1 / t), by grind⟩⟩
theorem Same.step {p q a b r s : Pol} {f k : Rat} (h : Same p q a b) (hf : f ≠ 0) (hk : k ≠ 0) (e : C f * a = s * b + r) : Same p q b (C k * r) := by
 have h1 := C_inv hf
 have h2 := C_inv hk
 obtain ⟨⟨u1, v1, e1⟩, ⟨u2, v2, e2⟩, ⟨u3, v3, e3⟩, ⟨u4, v4, e4⟩⟩ := h
 refine ⟨⟨u2, v2, e2⟩, ⟨C k * (C f * u1 - s * u2), C k * (C f * v1 - s * v2), ?_⟩, ⟨u3 * C (1 / f) * s + v3, u3 * C (1 / f) * C (1 / k), ?_⟩, ⟨u4 * C (1 / f) * s + v4, u4 * C (1 / f) * C (1 / k), ?_⟩⟩
 ·have : r = C f * a - s * b := by grind
  rw [this]; grind
 ·have e5 : a = C (1 / f) * (s * b + r) := by rw [← e]; grind
  have e6 : r = C (1 / k) * (C k * r) := by grind
  grind
 ·have e5 : a = C (1 / f) * (s * b + r) := by rw [← e]; grind
  have e6 : r = C (1 / k) * (C k * r) := by grind
  grind
def monic (p : Pol) : Pol := C (1 / p.lead) * p
theorem monic_lead {p : Pol} (h : p ≠ 0) : p.monic.lead = 1 := by
 have h1 := lead_ne h
 have h2 : (1 / p.lead) ≠ 0 := by intro k; have : (1 : Rat) = (1 / p.lead) * p.lead := by grind
                                  rw [k] at this; grind
 unfold monic
 rw [lead_mul (C_ne h2) h, lead_C h2]; grind
theorem Same.gcd {p q a : Pol} (h : Same p q a 0) : IsGcd p q a.monic := by
 obtain ⟨⟨u1, v1, e1⟩, _, ⟨u3, v3, e3⟩, ⟨u4, v4, e4⟩⟩ := h
 by_cases ha : a = 0
 ·subst ha
  have e : (0 : Pol).monic = 0 := by unfold monic; rw [mul_zero]
  rw [e]
  exact ⟨.inl rfl, ⟨0, by grind⟩, ⟨0, by grind⟩, ⟨0, 0, by grind⟩⟩
 ·have h1 := lead_ne ha
  have h2 := C_inv h1
  refine ⟨.inr (monic_lead ha), ⟨u3 * C a.lead, ?_⟩, ⟨u4 * C a.lead, ?_⟩, ⟨C (1 / a.lead) * u1, C (1 / a.lead) * v1, ?_⟩⟩
  ·unfold monic; grind
  ·unfold monic; grind
  ·unfold monic
   have : C (1 / a.lead) * a = C (1 / a.lead) * (u1 * p + v1 * q) := by rw [← e1]
   rw [this]; grind
theorem mk_cons' (a : Rat) (l : List Rat) : mk' (a :: l) = C a + X * mk' l := ext fun i => by
 have hX : ∀ p : Pol, (X * p).c i = if i = 0 then 0 else p.c (i - 1) := fun p => by
  rw [c_mul]
  show co (mulQ (trimQ [0, 1]) p.l) i = _
  rw [zwh (l' := [0, 1]) (m' := p.l) (trim_co _) (fun _ => rfl), zxe]
  unfold sh
  split
  ·grind
  ·rw [mulQ_one]; show 0 * _ + p.c (i - 1) = _; grind
 rw [c_add, hX, mk_cons, c_C]
 split <;> grind
theorem ind {P : Pol → Prop} (h0 : P 0) (h1 : ∀ a p, P p → P (C a + X * p)) (p : Pol) : P p := by
 rw [← mk_l p]
 generalize p.l = l
 induction l with
 | nil => exact (zero_of_len (p := mk' []) rfl) ▸ h0
 | cons a l ih => rw [mk_cons']; exact h1 a _ ih
def D (p : Pol) : Pol := mk' (derQ p.l)
def evL : List Rat → Rat → Rat
 | [], x => 0
 | a :: l, x => a + x * evL l x
theorem evL_zero {l : List Rat} (h : ∀ i, co l i = 0) (x : Rat) : evL l x = 0 := by
 induction l with
 | nil => rfl
 | cons a l ih =>
  have h0 : a = 0 := h 0
  show a + x * evL l x = 0
  rw [ih fun i => by rw [← zxv a]; exact h (i + 1), h0]; grind
theorem evL_congr {l m : List Rat} (h : ∀ i, co l i = co m i) (x : Rat) : evL l x = evL m x := by
 induction l generalizing m with
 | nil => rw [evL_zero (l := m) fun i => by rw [← h i, co_nil]]; rfl
 | cons a l ih =>
  cases m with
  | nil => rw [evL_zero (l := a :: l) fun i => by rw [h i, co_nil]]; rfl
  | cons b m =>
   have h0 : a = b := h 0
   show a + x * evL l x = b + x * evL m x
   have e := ih (m := m) (fun i => by have := h (i + 1); rw [zxv, zxv] at this; exact this)
   rw [h0, e]
def ev (p : Pol) (x : Rat) : Rat := evL p.l x
theorem mk_ev (l : List Rat) (x : Rat) : (mk' l).ev x = evL l x := evL_congr (trim_co l) x
theorem ev_zero (x : Rat) : ev 0 x = 0 := evL_zero (fun i => c_zero i) x
theorem ev_cons (a : Rat) (p : Pol) (x : Rat) : ev (C a + X * p) x = a + x * ev p x := by
 have e : C a + X * p = mk' (a :: p.l) := by rw [mk_cons', mk_l]
 rw [e, mk_ev]; rfl
theorem ev_add (p q : Pol) (x : Rat) : ev (p + q) x = ev p x + ev q x := by
 induction p using ind generalizing q with
 | h0 => rw [ev_zero, show (0 : Pol) + q = q by grind]; grind
 | h1 a p ih =>
  induction q using ind with
  | h0 => rw [ev_zero, add_zero]; grind
  | h1 b q _ =>
   have e : C a + X * p + (C b + X * q) = C (a + b) + X * (p + q) := by rw [C_add]; grind
   rw [e, ev_cons, ev_cons, ev_cons, ih]; grind
theorem ev_Cmul (a : Rat) (p : Pol) (x : Rat) : ev (C a * p) x = a * ev p x := by
 induction p using ind with
 | h0 => rw [mul_zero, ev_zero]; grind
 | h1 b p ih =>
  have e : C a * (C b + X * p) = C (a * b) + X * (C a * p) := by rw [C_mul]; grind
  rw [e, ev_cons, ev_cons, ih]; grind
theorem ev_mul (p q : Pol) (x : Rat) : ev (p * q) x = ev p x * ev q x := by
 induction p using ind with
 | h0 => rw [zero_mul, ev_zero]; grind
 | h1 a p ih =>
  have e : (C a + X * p) * q = C a * q + (C 0 + X * (p * q)) := by rw [C_zero]; grind
  rw [e, ev_add, ev_Cmul, ev_cons, ih, ev_cons]; grind
end Pol
end Nt
end Go.Proofs.YtbolmkfphieogaaGreat
namespace Go.Proofs.YtbolmkfphieogaaGreat
set_option linter.unusedVariables false
namespace Nt
theorem absQ_mul (y : Rat) : ∃ z : Int, y = absQ y * (z : Rat) ∧ absQ y = y * (z : Rat) := by
 unfold absQ
 split
 ·exact ⟨-1, by rw [show (((-1 : Int)) : Rat) = -1 from rfl]; grind, by rw [show (((-1 : Int)) : Rat) = -1 from rfl]; grind⟩
 ·exact ⟨1, by rw [show (((1 : Int)) : Rat) = 1 from rfl]; grind, by rw [show (((1 : Int)) : Rat) = 1 from rfl]; grind⟩
theorem cmn_spec (x y : Rat) : (∃ z : Int, x = cmn x y * (z : Rat)) ∧ (∃ z : Int, y = cmn x y * (z : Rat)) ∧ ∀ c : Rat, (∃ z : Int, x = c * (z : Rat)) → (∃ z : Int, y = c * (z : Rat)) → ∃ z : Int, cmn x y = c * (z : Rat) := by
 unfold cmn
 by_cases hx : x = 0
 ·rw [if_pos hx]
  obtain ⟨z, h1, h2⟩ := absQ_mul y
  refine ⟨⟨0, by rw [hx]; exact (Rat.mul_zero _).symm⟩, ⟨z, h1⟩, fun c _ ⟨v, hv⟩ => ⟨v * z, ?_⟩⟩
  rw [Rat.intCast_mul, h2]
  have e : y * (z : Rat) = c * (v : Rat) * (z : Rat) := by rw [← hv]
  rw [e]; grind
 ·rw [if_neg hx]
  by_cases hy : y = 0
  ·rw [if_pos hy]
   exact ⟨⟨1, by rw [show (((1 : Int)) : Rat) = 1 from rfl]; grind⟩, ⟨0, by rw [hy]; exact (Rat.mul_zero _).symm⟩, fun c h _ => h⟩
  ·rw [if_neg hy]
   obtain ⟨z0, h1, h2⟩ := absQ_mul (x / (((x / y).num : Int) : Rat))
   have hN := num_ne (div_ne hx hy)
   obtain ⟨hq, hD⟩ := quo_step (x := x) hy
   have hcop : Nat.gcd (x / y).num.natAbs (x / y).den = 1 := (x / y).reduced
   obtain ⟨s, t, hst⟩ := bez (x / y).num (x / y).den hcop
   generalize hn : (x / y).num = N at *
   generalize hd : ((x / y).den : Nat) = Dn at *
   have hst' : (s : Rat) * (N : Rat) + (t : Rat) * ((Dn : Int) : Rat) = 1 := by
    have h := congrArg (fun z : Int => (z : Rat)) hst
    simp only [Rat.intCast_add, Rat.intCast_mul] at h
    exact h
   generalize hw : x / (N : Rat) = w at *
   have ex : x = w * (N : Rat) := by rw [← hw]; grind
   have ey : y = w * ((Dn : Int) : Rat) := by
    have : w * (N : Rat) * ((Dn : Int) : Rat) = (N : Rat) * y := by rw [← ex]; exact hq
    grind
   refine ⟨⟨z0 * N, ?_⟩, ⟨z0 * (Dn : Int), ?_⟩, fun c ⟨a, ha⟩ ⟨b, hb⟩ => ⟨(s * a + t * b) * z0, ?_⟩⟩
   ·rw [Rat.intCast_mul]; rw [ex, h1] ; grind
   ·rw [Rat.intCast_mul]; rw [ey, h1]; grind
   ·rw [h2, Rat.intCast_mul, Rat.intCast_add, Rat.intCast_mul, Rat.intCast_mul]
    have : w = c * ((s : Rat) * (a : Rat) + (t : Rat) * (b : Rat)) := by
     have e1 : w = w * ((s : Rat) * (N : Rat) + (t : Rat) * ((Dn : Int) : Rat)) := by rw [hst']; grind
     have e2 : w * ((s : Rat) * (N : Rat) + (t : Rat) * ((Dn : Int) : Rat)) = (s : Rat) * x + (t : Rat) * y := by rw [ex, ey]; grind
     rw [e1, e2, ha, hb]; grind
    rw [this]; grind
where
 bez (N : Int) (D : Nat) (h : Nat.gcd N.natAbs D = 1) : ∃ s t : Int, s * N + t * (D : Int) = 1 := by
  have := Int.gcd_eq_gcd_ab' N D h
  exact this
 Int.gcd_eq_gcd_ab' (N : Int) (D : Nat) (h : Nat.gcd N.natAbs D = 1) : ∃ s t : Int, s * N + t * (D : Int) = 1 := by
  have key : ∀ (n a b : Nat), a + b ≤ n → ∃ s t : Int, s * (a : Int) + t * (b : Int) = (Nat.gcd a b : Int) := by
   intro n
   induction n with
   | zero => intro a b hab; exact ⟨0, 0, by have h1 : a = 0 := by omega
                                            have h2 : b = 0 := by omega
                                            subst h1; subst h2; simp⟩
   | succ n ih =>
    intro a b hab
    rcases Nat.eq_zero_or_pos a with ha | ha
    ·subst ha; exact ⟨0, 1, by simp⟩
    ·rcases Nat.eq_zero_or_pos b with hb | hb
     ·subst hb; exact ⟨1, 0, by simp⟩
     ·rcases Nat.le_total a b with hle | hle
      ·obtain ⟨s, t, e⟩ := ih a (b - a) xq
       refine ⟨s - t, t, ?_⟩
       rw [Nat.gcd_sub_self_right hle] at e
       rw [← e, show ((b - a : Nat) : Int) = (b : Int) - (a : Int) by omega, Int.sub_mul, Int.mul_sub]; omega
      ·obtain ⟨s, t, e⟩ := ih (a - b) b xq
       refine ⟨s, t - s, ?_⟩
       rw [Nat.gcd_sub_self_left hle] at e
       rw [← e, show ((a - b : Nat) : Int) = (a : Int) - (b : Int) by omega, Int.sub_mul, Int.mul_sub]; omega
  obtain ⟨s, t, e⟩ := key _ N.natAbs D (Nat.le_refl _)
  rw [h] at e
  rcases Int.natAbs_eq N with hN | hN
  ·exact ⟨s, t, by rw [← hN] at e; exact e⟩
  ·refine ⟨-s, t, ?_⟩
   have : ((N.natAbs : Nat) : Int) = -N := by omega
   rw [this] at e
   rw [Int.neg_mul, ← Int.mul_neg]; exact e
theorem msr_spec (l : List Rat) : (∀ x ∈ l, ∃ z : Int, x = msr l * (z : Rat)) ∧ ∀ c : Rat, (∀ x ∈ l, ∃ z : Int, x = c * (z : Rat)) → ∃ z : Int, msr l = c * (z : Rat) := by
 have key : ∀ (l : List Rat) (a : Rat), ((∃ z : Int, a = l.foldl cmn a * (z : Rat)) ∧ ∀ x ∈ l, ∃ z : Int, x = l.foldl cmn a * (z : Rat)) ∧ ∀ c : Rat, (∃ z : Int, a = c * (z : Rat)) → (∀ x ∈ l, ∃ z : Int, x = c * (z : Rat)) → ∃ z : Int, l.foldl cmn a = c * (z : Rat) := by
  intro l
  induction l with
  | nil => intro a; exact ⟨⟨⟨1, by show a = a * _; rw [show (((1 : Int)) : Rat) = 1 from rfl]; grind⟩, fun x hx => by cases hx⟩, fun c h _ => h⟩
  | cons b l ih =>
   intro a
   obtain ⟨⟨⟨z, hz⟩, h2⟩, h3⟩ := ih (cmn a b)
   obtain ⟨⟨z1, e1⟩, ⟨z2, e2⟩, h4⟩ := cmn_spec a b
   refine ⟨⟨⟨z * z1, ?_⟩, fun x hx => ?_⟩, fun c ha hl => ?_⟩
   ·show a = l.foldl cmn (cmn a b) * _
    rw [Rat.intCast_mul, ← Rat.mul_assoc, ← hz]; exact e1
   ·rcases List.mem_cons.1 hx with rfl | hx
    ·exact ⟨z * z2, by show x = l.foldl cmn (cmn a x) * _; rw [Rat.intCast_mul, ← Rat.mul_assoc, ← hz]; exact e2⟩
    ·exact h2 x hx
   ·exact h3 c (h4 c ha (hl b (List.mem_cons_self ..))) (fun x hx => hl x (List.mem_cons_of_mem _ hx))
 obtain ⟨⟨_, h1⟩, h2⟩ := key l 0
 exact ⟨h1, fun c hc => h2 c ⟨0, (Rat.mul_zero c).symm⟩ hc⟩
def prim (l : List Rat) : List Rat := (trimQ l).map (· / msr (trimQ l))
@[simp] theorem prim_len (l : List Rat) : (prim l).length = (trimQ l).length := by simp [prim]
theorem prim_co (l : List Rat) (i : Nat) : co (prim l) i = co l i / msr (trimQ l) := by
 unfold prim
 rw [co_map _ (by rw [Rat.div_def, Rat.zero_mul]), trim_co]
theorem co_mem {l : List Rat} {i : Nat} (h : i < l.length) : co l i ∈ l := by
 unfold co
 rw [List.getD_eq_getElem?_getD, List.getElem?_eq_getElem h]
 exact List.getElem_mem h
theorem msr_ne' {l : List Rat} (h : trimQ l ≠ []) : msr (trimQ l) ≠ 0 := msr_ne (trim_nrm l) (by cases e : trimQ l with | nil => exact absurd e h | cons a m => simp)
theorem prim_whole (l : List Rat) (i : Nat) : ∃ z : Int, co (prim l) i = (z : Rat) := by
 by_cases hi : i < (trimQ l).length
 ·have hm := msr_ne' (l := l) (by intro e; rw [e] at hi; simp at hi)
  obtain ⟨z, hz⟩ := (msr_spec (trimQ l)).1 _ (co_mem hi)
  refine ⟨z, ?_⟩
  rw [prim_co, ← trim_co, hz]; grind
 ·exact ⟨0, by rw [co_ge yk]; rfl⟩
theorem prim_nrm (l : List Rat) : Nrm (prim l) := by
 refine nrm_of fun h k => ?_
 have ht : trimQ l ≠ [] := fun e => h (by unfold prim; rw [e]; rfl)
 have hm := msr_ne' ht
 have hn := nrm_last (trim_nrm l) ht
 rw [prim_len, prim_co, ← trim_co] at k
 apply hn
 have : co (trimQ l) ((trimQ l).length - 1) = co (trimQ l) ((trimQ l).length - 1) / msr (trimQ l) * msr (trimQ l) := by grind
 rw [this, k]; grind
theorem dl_bits {n K : Nat} (h : dl n ≤ K) : n ≤ 2 ^ (32 * K) := by
 have h1 := dl_lt (x := n)
 have h2 := pw_mono h
 rw [pwTwo K] at h2
 have h3 : (n : Int) < ((2 ^ (32 * K) : Nat) : Int) := by omega
 exact Nat.le_of_lt (Int.ofNat_lt.1 h3)
theorem prim_bits {l W : List Rat} {c : Rat} {A : Nat} (hc : c ≠ 0) (h : ∀ i, co l i = c * co W i) (hW : WhL W A) : WhL (prim l) A := fun i => by
 by_cases ht : trimQ l = []
 ·have : co (prim l) i = 0 := by rw [prim_co, zxz.1 ht i]; grind
  rw [this]; exact Wh.zero A
 ·have hm := msr_ne' ht
  obtain ⟨g, hg⟩ := (msr_spec (trimQ l)).2 c (fun x hx => by
   obtain ⟨j, hj, e⟩ := List.getElem_of_mem hx
   have e2 : x = co l j := by rw [← trim_co]; unfold co; rw [List.getD_eq_getElem?_getD, List.getElem?_eq_getElem hj, ← e]; rfl
   obtain ⟨z, hz, _⟩ := hW j
   exact ⟨z, by rw [e2, h j, hz]⟩)
  obtain ⟨z, hz⟩ := prim_whole l i
  obtain ⟨v, hv, hb⟩ := hW i
  have hg0 : g ≠ 0 := by rintro rfl; apply hm; rw [hg]; exact Rat.mul_zero c
  have e : (v : Rat) = ((z * g : Int) : Rat) := by
   rw [Rat.intCast_mul, ← hz, prim_co, h i, hv, hg]
   have : (g : Rat) ≠ 0 := fun k => hg0 (Rat.intCast_inj.1 (by rw [k]; rfl))
   grind
  have e2 := Rat.intCast_inj.1 e
  refine ⟨z, hz, Nat.le_trans ?_ hb⟩
  rw [e2, Int.natAbs_mul]
  exact Nat.le_mul_of_pos_right _ (Int.natAbs_pos.2 hg0)
theorem mk_map (l : List Rat) (c : Rat) : Pol.mk' (l.map (· * c)) = Pol.C c * Pol.mk' l := Pol.ext fun i => by
 rw [Pol.C_mul_c, Pol.mk_c, Pol.mk_c, co_map _ (Rat.zero_mul c)]; grind
theorem prim_mk' (l : List Rat) : ∃ k : Rat, k ≠ 0 ∧ Pol.mk' (prim l) = Pol.C k * Pol.mk' l := by
 by_cases h : trimQ l = []
 ·refine ⟨1, by decide, Pol.ext fun i => ?_⟩
  rw [Pol.C_mul_c, Pol.mk_c, Pol.mk_c, prim_co, zxz.1 h i]; grind
 ·have hm := msr_ne' h
  refine ⟨1 / msr (trimQ l), fun k => ?_, Pol.ext fun i => ?_⟩
  ·have : (1 : Rat) = 1 / msr (trimQ l) * msr (trimQ l) := by grind
   rw [k] at this; grind
  ·rw [Pol.C_mul_c, Pol.mk_c, Pol.mk_c, prim_co]; grind
theorem DivR.pol {p q s t : List Rat} {f : Rat} (h : DivR p q s t f) : Pol.C f * Pol.mk' p = Pol.mk' s * Pol.mk' q + Pol.mk' t := Pol.ext fun i => by
 rw [Pol.C_mul_c, Pol.mk_c, h.eq i, Pol.c_add, ← Pol.mk_mul, Pol.mk_c, Pol.mk_c]
theorem mk_len (l : List Rat) : (Pol.mk' l).len ≤ l.length := zzh l
theorem mk_len_nrm {l : List Rat} (h : Nrm l) : (Pol.mk' l).len = l.length := congrArg List.length h
theorem prim_same (l m : List Rat) : Pol.Same (Pol.mk' l) (Pol.mk' m) (Pol.mk' (prim l)) (Pol.mk' (prim m)) := by
 obtain ⟨k, h1, h2⟩ := prim_mk' l
 obtain ⟨k', h3, h4⟩ := prim_mk' m
 rw [h2, h4]
 exact Pol.Same.scale h1 h3
theorem same_step {p q : Pol} {a b s t : List Rat} {f : Rat} (h : Pol.Same p q (Pol.mk' a) (Pol.mk' b)) (hd : DivR a b s t f) : Pol.Same p q (Pol.mk' b) (Pol.mk' (prim t)) := by
 obtain ⟨k, h1, h2⟩ := prim_mk' t
 rw [h2]
 exact h.step hd.f0 h1 hd.pol
theorem prim_of_wh {t : List Rat} {A : Nat} (h : WhL t A) : WhL (prim t) A := prim_bits (c := 1) yq (fun i => (Rat.one_mul _).symm) h
theorem monic_scaled (l : List Rat) : ∃ k : Rat, k ≠ 0 ∧ ∀ i, co (Pol.mk' l).monic.l i = k * co l i := by
 by_cases h : Pol.mk' l = 0
 ·refine ⟨1, by decide, fun i => ?_⟩
  have e : co l i = 0 := by rw [← Pol.mk_c, h, Pol.c_zero]
  have e2 : (Pol.mk' l).monic = 0 := by unfold Pol.monic; rw [h, Pol.mul_zero]
  show (Pol.mk' l).monic.c i = _
  rw [e2, Pol.c_zero, e]; grind
 ·have h1 := Pol.lead_ne h
  refine ⟨1 / (Pol.mk' l).lead, fun k => ?_, fun i => ?_⟩
  ·have : (1 : Rat) = 1 / (Pol.mk' l).lead * (Pol.mk' l).lead := by grind
   rw [k] at this; grind
  ·show (Pol.mk' l).monic.c i = _
   unfold Pol.monic
   rw [Pol.C_mul_c, Pol.mk_c]
theorem mk_trim (l : List Rat) : Pol.mk' (trimQ l) = Pol.mk' l := Pol.mk_eq.2 (trim_trim l)
def IsSqf (p s : Pol) : Prop := (p = 0 ∧ s = 0) ∨ (p ≠ 0 ∧ ∃ g q, Pol.IsGcd p p.D g ∧ g ≠ 0 ∧ p = q * g ∧ s = q.monic)
theorem IsSqf.unique {p s t : Pol} (h : IsSqf p s) (k : IsSqf p t) : s = t := by
 rcases h with ⟨h1, h2⟩ | ⟨h1, g, q, h2, h3, h4, h5⟩
 ·rcases k with ⟨k1, k2⟩ | ⟨k1, _⟩
  ·rw [h2, k2]
  ·exact absurd h1 k1
 ·rcases k with ⟨k1, k2⟩ | ⟨k1, g', q', k2, k3, k4, k5⟩
  ·exact absurd k1 h1
  ·have e := h2.unique k2
   subst e
   have e2 := Pol.mul_cancel h3 (h4.symm.trans k4)
   rw [h5, k5, e2]
def pot (la lb : Nat) : Nat := la + lb + (if lb < la then 0 else if la = lb then 1 else 2)
theorem three_pow {k : Nat} (h : 2 ≤ k) : (k + 1) * (k + 1) ≤ 3 ^ k := by
 induction k with
 | zero => omega
 | succ k ih =>
  by_cases e : k = 1
  ·subst e; decide
  ·have := ih xq
   rw [Nat.pow_succ]
   have h1 : (k + 1 + 1) * (k + 1 + 1) ≤ (k + 1) * (k + 1) * 3 := by
    have : (k + 1 + 1) * (k + 1 + 1) = (k + 1) * (k + 1) + 2 * (k + 1) + 1 := by grind
    have h2 : 2 * (k + 1) + 1 ≤ 2 * ((k + 1) * (k + 1)) := by
     have : (k + 1) * 2 ≤ (k + 1) * (k + 1) := Nat.mul_le_mul_left _ xq
     omega
    omega
   omega
theorem pot_step {la lb lr A H : Nat} (h : (A + 1) * (A + 1) * 3 ^ pot la lb ≤ H * H) (hr : lr < lb) (hr2 : lr ≤ la) :
  (A + (la - lb + 1) * (A + 1) + 1) * (A + (la - lb + 1) * (A + 1) + 1) * 3 ^ pot lb lr ≤ H * H := by
 have e : A + (la - lb + 1) * (A + 1) + 1 = (la - lb + 1 + 1) * (A + 1) := by rw [Nat.succ_mul (la - lb + 1)]; omega
 have hp : pot lb lr = lb + lr := by unfold pot; rw [if_pos hr]; rfl
 rw [e, hp]
 refine Nat.le_trans ?_ h
 have key : (la - lb + 1 + 1) * (la - lb + 1 + 1) * 3 ^ (lb + lr) ≤ 3 ^ pot la lb := by
  by_cases c : lb < la
  ·have h1 := three_pow (k := la - lb + 1) xq
   have h2 : 3 ^ (la - lb + 1) * 3 ^ (lb + lr) ≤ 3 ^ pot la lb := by
    rw [← Nat.pow_add]
    refine Nat.pow_le_pow_right xq ?_
    unfold pot; rw [if_pos c]; omega
   exact Nat.le_trans (Nat.mul_le_mul_right _ h1) h2
  ·have e1 : la - lb = 0 := by omega
   rw [e1]
   have h2 : 3 ^ 2 * 3 ^ (lb + lr) ≤ 3 ^ pot la lb := by
    rw [← Nat.pow_add]
    refine Nat.pow_le_pow_right xq ?_
    unfold pot; rw [if_neg c]; split <;> omega
   exact Nat.le_trans (Nat.mul_le_mul_right _ yq) h2
 calc (la - lb + 1 + 1) * (A + 1) * ((la - lb + 1 + 1) * (A + 1)) * 3 ^ (lb + lr)
   = (A + 1) * (A + 1) * ((la - lb + 1 + 1) * (la - lb + 1 + 1) * 3 ^ (lb + lr)) := by grind
  _ ≤ (A + 1) * (A + 1) * 3 ^ pot la lb := Nat.mul_le_mul_left _ key
theorem pot_le {la lb A H : Nat} (h : (A + 1) * (A + 1) * 3 ^ pot la lb ≤ H * H) : A + 1 ≤ H := by
 apply Classical.byContradiction
 intro k
 have h1 : 1 ≤ 3 ^ pot la lb := Nat.pow_pos xq
 have h2 : (A + 1) * (A + 1) * 1 ≤ (A + 1) * (A + 1) * 3 ^ pot la lb := Nat.mul_le_mul_left _ h1
 have h3 : (H + 1) * (H + 1) ≤ (A + 1) * (A + 1) := Nat.mul_le_mul xq xq
 have h4 : (H + 1) * (H + 1) = H * H + 2 * H + 1 := by grind
 omega
end Nt
end Go.Proofs.YtbolmkfphieogaaGreat
namespace Go.Proofs.YtbolmkfphieogaaGreat
open Go.RowKit Go.ChangeShapes Go.WideShapes
set_option linter.unusedVariables false
namespace Nt
def Sm (l : List Rat) (D A : Nat) : Prop := 0 < D ∧ ∀ i, Wh (co l i * ((D : Int) : Rat)) A
section
variable {l m : List Rat} {D E A B K : Nat} {q : Rat}
theorem dz (h : 0 < D) : ((D : Int) : Rat) ≠ 0 := fun e => by
 have := Rat.intCast_inj.1 (show ((D : Int) : Rat) = ((0 : Int) : Rat) from e); omega
theorem Sm.more (h : Sm l D A) (k : A ≤ B) : Sm l D B := ⟨h.1, fun i => (h.2 i).more k⟩
theorem Sm.co (h : Sm l D A) (e : ∀ i, co m i = co l i) : Sm m D A := ⟨h.1, fun i => by rw [e]; exact h.2 i⟩
theorem Sm.trim (h : Sm l D A) : Sm (trimQ l) D A := h.co (trim_co l)
theorem Sm.prim (h : Sm l D A) : WhL (prim l) A := by
 have h0 := dz h.1
 refine prim_bits (c := 1 / ((D : Int) : Rat)) (W := l.map (· * ((D : Int) : Rat))) (by grind) (fun i => ?_) (fun i => ?_)
 ·rw [co_map (fun x => x * ((D : Int) : Rat)) (Rat.zero_mul _)]; grind
 ·rw [co_map (fun x => x * ((D : Int) : Rat)) (Rat.zero_mul _)]; exact h.2 i
theorem dl_dg {n C : Nat} (h : n ≤ 2 ^ C) : dl n ≤ dg C := by
 refine dl_le ?_
 rw [pwTwo]
 exact Int.ofNat_lt.2 (Nat.lt_of_le_of_lt h (Nat.pow_lt_pow_right xq (by unfold dg; omega)))
theorem wh_rs {x : Rat} (h0 : 0 < D) (h : Wh (x * ((D : Int) : Rat)) A) (hD : D ≤ 2 ^ A) : rs x ≤ dg A := by
 obtain ⟨z, hz, hb⟩ := h
 have h1 := dz h0
 have e : x = mkRat z D := by rw [← mk_div, ← hz]; grind
 rw [e]
 exact rs_mk (dl_dg hb) (dl_dg hD) (by unfold dg; omega)
theorem Sm.rs (h : Sm l D A) (hD : D ≤ 2 ^ A) (i : Nat) : rs (Nt.co l i) ≤ dg A := wh_rs h.1 (h.2 i) hD
theorem WhL.mulQ (h : WhL l A) (k : WhL m B) : WhL (mulQ l m) (A + B + l.length) := by
 induction l with
 | nil => exact fun i => by rw [mulQ_nil]; exact Wh.zero _
 | cons a l ih =>
  intro i
  rw [zxe]
  have h0 : Wh a A := by have := h 0; rwa [co_zero] at this
  have h1 : WhL l A := fun i => by have := h (i + 1); rwa [zxv] at this
  have e : A + B + (a :: l).length = A + B + l.length + 1 := by simp; omega
  rw [e]
  refine ((h0.mul (k i)).more xq).add ?_
  unfold sh
  split
  ·exact Wh.zero _
  ·exact ih h1 _
theorem Sm.mul (h : Sm l D A) (k : Sm m E B) : Sm (mulQ l m) (D * E) (A + B + l.length) := by
 refine ⟨Nat.mul_pos h.1 k.1, fun i => ?_⟩
 have h1 : WhL (l.map (((D : Int) : Rat) * ·)) A := fun i => by rw [co_map (fun x => ((D : Int) : Rat) * x) (Rat.mul_zero _), Rat.mul_comm]; exact h.2 i
 have h2 : WhL (m.map (((E : Int) : Rat) * ·)) B := fun i => by rw [co_map (fun x => ((E : Int) : Rat) * x) (Rat.mul_zero _), Rat.mul_comm]; exact k.2 i
 have h3 := h1.mulQ h2 i
 rw [mulQ_scale_l, mulQ_scale_r, List.length_map] at h3
 rw [show Nt.co (mulQ l m) i * (((D * E : Nat) : Int) : Rat) = ((D : Int) : Rat) * (((E : Int) : Rat) * Nt.co (mulQ l m) i) by rw [show (((D * E : Nat) : Int) : Rat) = ((D : Int) : Rat) * ((E : Int) : Rat) by rw [← Rat.intCast_mul]; simp]; grind]
 exact h3
theorem Sm.mulR (h : Sm l D A) (k : Sm m E B) : Sm (mulQ l m) (D * E) (A + B + m.length) := by
 have h9 := (k.mul h).co (m := mulQ l m) (fun i => Pol.mulQ_comm l m i)
 rw [Nat.mul_comm D E, Nat.add_comm A B]
 exact h9
theorem Sm.add (h : Sm l D A) (k : Sm m D A) : Sm (addQ l m) D (A + 1) := ⟨h.1, fun i => by
 rw [addQ_co, show (Nt.co l i + Nt.co m i) * ((D : Int) : Rat) = Nt.co l i * ((D : Int) : Rat) + Nt.co m i * ((D : Int) : Rat) by grind]
 exact (h.2 i).add (k.2 i)⟩
theorem natMul {x : Rat} (D E : Nat) : x * (((D * E : Nat) : Int) : Rat) = x * ((D : Int) : Rat) * ((E : Int) : Rat) := by
 rw [show (((D * E : Nat) : Int) : Rat) = ((D : Int) : Rat) * ((E : Int) : Rat) by rw [← Rat.intCast_mul]; simp]; grind
theorem Sm.map (h : Sm l D A) (hE : 0 < E) (k : Wh (q * ((E : Int) : Rat)) B) : Sm (l.map (· * q)) (D * E) (A + B) := ⟨Nat.mul_pos h.1 hE, fun i => by
 rw [co_map (fun x => x * q) (Rat.zero_mul q), natMul, show Nt.co l i * q * ((D : Int) : Rat) * ((E : Int) : Rat) = (Nt.co l i * ((D : Int) : Rat)) * (q * ((E : Int) : Rat)) by grind]
 exact (h.2 i).mul k⟩
theorem whNat {n b : Nat} (h : n ≤ 2 ^ b) : Wh (((n : Nat) : Int) : Rat) b := ⟨(n : Int), rfl, by simpa using h⟩
theorem whInt {z : Int} {b : Nat} (h : z.natAbs ≤ 2 ^ b) : Wh (z : Rat) b := ⟨z, rfl, h⟩
theorem Sm.over {b : Nat} (h : Sm l D A) (hE : 0 < E) (hb : E ≤ 2 ^ b) : Sm l (D * E) (A + b) := ⟨Nat.mul_pos h.1 hE, fun i => by
 rw [natMul]; exact (h.2 i).mul (whNat hb)⟩
theorem Sm.ofInts {zs : List Int} (h : ∀ z ∈ zs, z.natAbs ≤ 2 ^ A) : Sm (List.map (fun z : Int => (z : Rat)) zs) 1 A := ⟨by omega, fun i => by
 rw [show ((((1 : Nat) : Int)) : Rat) = 1 from rfl, Rat.mul_one]
 unfold Nt.co
 rw [List.getD_eq_getElem?_getD, List.getElem?_map]
 cases e : zs[i]? with
 | none => exact Wh.zero _
 | some z => exact whInt (h z (List.mem_of_getElem? e))⟩
theorem Sm.nil (hD : 0 < D) : Sm [] D A := ⟨hD, fun i => by rw [co_nil, Rat.zero_mul]; exact Wh.zero _⟩
theorem Sm.ofAll (hD : 0 < D) (h : ∀ x ∈ l, Wh (x * ((D : Int) : Rat)) A) : Sm l D A := ⟨hD, fun i => by
 by_cases hi : i < l.length
 ·exact h _ (co_mem hi)
 ·rw [co_ge xq, Rat.zero_mul]; exact Wh.zero _⟩
theorem Sm.any : ∀ {l : List Rat}, (∀ x ∈ l, Nt.rs x ≤ K) → ∃ D, D ≤ 2 ^ (32 * K * l.length) ∧ Sm l D (32 * K * (l.length + 1))
 | [], _ => ⟨1, Nat.one_le_two_pow, Sm.nil xq⟩
 | a :: l, h => by
  obtain ⟨D, hD, hs⟩ := Sm.any (l := l) (fun x hx => h x (List.mem_cons_of_mem _ hx))
  have ha := h a (List.mem_cons_self ..)
  have hd : a.den ≤ 2 ^ (32 * K) := dl_bits (by unfold Nt.rs at ha; omega)
  have hn : a.num.natAbs ≤ 2 ^ (32 * K) := dl_bits (by unfold Nt.rs at ha; omega)
  refine ⟨a.den * D, ?_, Nat.mul_pos (den_pos a) hs.1, fun i => ?_⟩
  ·rw [List.length_cons, Nat.mul_add, Nat.mul_one, Nat.pow_add, Nat.mul_comm]
   exact Nat.mul_le_mul hD hd
  ·cases i with
   | zero =>
    rw [co_zero, natMul]
    have e : a * ((a.den : Int) : Rat) = (a.num : Rat) := by
     have h1 := dz (den_pos a)
     have h2 : mkRat a.num a.den = a := Rat.mkRat_self a
     rw [← mk_div] at h2
     grind
    rw [e]
    refine ((whInt hn).mul (whNat hD)).more ?_
    rw [List.length_cons, Nat.mul_add, Nat.mul_add]; omega
   | succ i =>
    rw [zxv, Nat.mul_comm, natMul]
    refine ((hs.2 i).mul (whNat hd)).more ?_
    rw [List.length_cons, Nat.mul_add, Nat.mul_add, Nat.mul_add]; omega
end
end Nt
section
variable {u : World} {x : Sl} {l : List Rat} {D A K : Nat}
theorem RatsN.fitS {L : List RL} (h : RatsN u L l K) (s : Nt.Sm l D A) (hD : D ≤ 2 ^ A) : RatsN u L l (Nt.dg A) := ⟨h.1, fun i hi => (h.2 i hi).fit (s.rs hD i)⟩
theorem PolN.fitS (h : PolN u x l K) (s : Nt.Sm l D A) (hD : D ≤ 2 ^ A) : PolN u x l (Nt.dg A) := by obtain ⟨L, h1, h2⟩ := h; exact ⟨L, h1, h2.fitS s hD⟩
theorem PolV.all (h : PolV u x l K) : ∀ q ∈ l, Nt.rs q ≤ K := by
 obtain ⟨L, h1, h2⟩ := h
 intro q hq
 obtain ⟨j, hj, e⟩ := List.getElem_of_mem hq
 have h9 := (h2.2 j hj).rs
 rw [List.getD_eq_getElem?_getD, List.getElem?_eq_getElem hj, Option.getD_some, e] at h9
 exact h9
end
section
variable {H : Type} {enc : TypeId × Value → H} {w : World} {base : Nat} {spare : Nat → Bool} {held : Bool} {fuel : Nat} {r0 : Reach} {b0 : Nat} {v : Value} {d : DataW H} {p : List MemPlace}
end
end Go.Proofs.YtbolmkfphieogaaGreat
namespace Go.Proofs.YtbolmkfphieogaaGreat
open Go.RowKit
set_option linter.unusedVariables false
namespace Nt
def flr (q : Rat) : Int := q.num / (q.den : Int)
def dnQ (q : Rat) (k : Nat) : Rat := mkRat (flr (q * ((2 ^ k : Nat) : Rat))) (2 ^ k)
theorem flr_mk {z : Int} {D : Nat} (hD : 0 < D) : flr (mkRat z D) = z / (D : Int) := by
 have h1 : mkRat z D = mkRat (mkRat z D).num (mkRat z D).den := (Rat.mkRat_self _).symm
 rw [Rat.mkRat_eq_iff xq (by have := (mkRat z D).den_pos; omega)] at h1
 have hd := (mkRat z D).den_pos
 unfold flr
 generalize (mkRat z D).num = n at *
 generalize (mkRat z D).den = d at *
 have e1 : z / (D : Int) = ((d : Int) * z) / ((d : Int) * (D : Int)) := (Int.mul_ediv_mul_of_pos _ _ xq).symm
 have e2 : n / (d : Int) = ((D : Int) * n) / ((D : Int) * (d : Int)) := (Int.mul_ediv_mul_of_pos _ _ xq).symm
 rw [e1, e2, Int.mul_comm (d : Int) z, h1, Int.mul_comm n, Int.mul_comm (d : Int)]
theorem shl_mk (z : Int) (D m : Nat) : mkRat z D * ((m : Nat) : Rat) = mkRat (z * (m : Int)) D := by
 rw [Rat.mkRat_eq_div, Rat.mkRat_eq_div, Rat.intCast_mul]
 show (z : Rat) / (D : Rat) * (m : Rat) = (z : Rat) * ((m : Int) : Rat) / (D : Rat)
 have : ((m : Int) : Rat) = (m : Rat) := rfl
 rw [this]
 grind
theorem dn_mk {z : Int} {D k : Nat} (hD : 0 < D) : dnQ (mkRat z D) k = mkRat ((z * ((2 ^ k : Nat) : Int)) / (D : Int)) (2 ^ k) := by
 unfold dnQ
 rw [shl_mk, flr_mk hD]
theorem sg_mulN {s : Bool} {N m : Nat} : sg s ((sg s N).natAbs * m) = sg s N * (m : Int) := by
 rw [sg_abs]
 unfold sg
 cases s
 ·simp
 ·simp [Int.neg_mul]
theorem rdiv0 {s : Bool} {N D : Nat} (hD : 0 < D) (h : ¬ (s = true ∧ 0 < N % D)) : sg s N / (D : Int) = sg (!(s == false)) (N / D) ∧ sg s N % (D : Int) = sg false (N % D) := by
 have hm := Nat.mod_lt N hD
 have hk := Nat.div_add_mod N D
 have hk2 : (N : Int) = (D : Int) * ((N / D : Nat) : Int) + ((N % D : Nat) : Int) := by rw [← Int.natCast_mul, ← Int.natCast_add, hk]
 apply ediv_uniq xq
 ·unfold sg
  cases s
  ·simpa using hk2
  ·have h0 : N % D = 0 := by simp at h; omega
   rw [h0] at hk2 ⊢
   generalize N / D = Q at *
   simp [Int.mul_neg]
   omega
 ·unfold sg; simp; omega
 ·unfold sg; simp; omega
theorem rdiv1 {N D : Nat} (hD : 0 < D) (h : 0 < N % D) : sg true N / (D : Int) = sg (!(true == false)) (N / D + 1) ∧ sg true N % (D : Int) = sg false (D - N % D) := by
 have hm := Nat.mod_lt N hD
 have hk := Nat.div_add_mod N D
 have hk2 : (N : Int) = (D : Int) * ((N / D : Nat) : Int) + ((N % D : Nat) : Int) := by rw [← Int.natCast_mul, ← Int.natCast_add, hk]
 apply ediv_uniq xq
 ·unfold sg
  simp
  rw [show ((N : Int) / (D : Int)) = ((N / D : Nat) : Int) from rfl, show ((D - N % D : Nat) : Int) = (D : Int) - ((N % D : Nat) : Int) by omega, Int.mul_neg, Int.mul_add]
  omega
 ·unfold sg; simp
 ·unfold sg; simp; omega
end Nt
end Go.Proofs.YtbolmkfphieogaaGreat
namespace Go.Proofs.YtbolmkfphieogaaGreat
set_option linter.unusedVariables false
namespace Nt
def sgn (j : Nat) : Rat := if j % 2 = 0 then 1 else -1
theorem sgn_s (j : Nat) : sgn (j + 1) = -sgn j := by
 unfold sgn
 rcases Nat.mod_two_eq_zero_or_one j with h | h
 ·rw [if_pos h, if_neg (show ¬ (j + 1) % 2 = 0 by omega)]
 ·rw [if_neg (show ¬ j % 2 = 0 by omega), if_pos (show (j + 1) % 2 = 0 by omega)]; rfl
theorem sgn_or (j : Nat) : sgn j = 1 ∨ sgn j = -1 := by unfold sgn; split <;> simp
def alt (a : Nat → Rat) : Nat → Rat
 | 0 => 0
 | n + 1 => alt a n + sgn n * a n
theorem alt_s (a : Nat → Rat) (n : Nat) : alt a (n + 1) = alt a n + sgn n * a n := rfl
theorem alt_tail {a : Nat → Rat} {j0 : Nat} (h0 : ∀ j, 0 ≤ a j) (hd : ∀ j, j0 ≤ j → a (j + 1) ≤ a j) : ∀ d j, j0 ≤ j → 0 ≤ sgn j * (alt a (j + d) - alt a j) ∧ sgn j * (alt a (j + d) - alt a j) ≤ a j := by
 intro d
 induction d with
 | zero => intro j _; have := h0 j; rw [Nat.add_zero, Rat.sub_self, Rat.mul_zero]; exact ⟨Rat.le_refl, this⟩
 | succ d ih =>
  intro j hj
  have h1 := ih (j + 1) xq
  have h2 := hd j hj
  have h3 := h0 (j + 1)
  rw [show j + 1 + d = j + (d + 1) by omega, sgn_s, alt_s] at h1
  generalize alt a (j + (d + 1)) = x at *
  generalize alt a j = y at *
  rcases sgn_or j with e | e <;> rw [e] at h1 ⊢ <;> grind
theorem alt_near {a : Nat → Rat} {j0 j m : Nat} (h0 : ∀ j, 0 ≤ a j) (hd : ∀ j, j0 ≤ j → a (j + 1) ≤ a j) (hj : j0 ≤ j) (hm : j ≤ m) : alt a j - a j ≤ alt a m ∧ alt a m ≤ alt a j + a j := by
 obtain ⟨d, rfl⟩ : ∃ d, m = j + d := ⟨m - j, by omega⟩
 have h1 := alt_tail h0 hd d j hj
 rcases sgn_or j with e | e <;> rw [e] at h1 <;> grind
theorem div_nn {x y : Rat} (hx : 0 ≤ x) (hy : 0 < y) : 0 ≤ x / y := by
 rw [Rat.div_def]; exact Rat.mul_nonneg hx (Rat.le_of_lt (Rat.inv_pos.2 hy))
theorem div_mul_c {x y : Rat} (hy : 0 < y) : x / y * y = x := by
 rw [Rat.div_def, Rat.mul_assoc, Rat.inv_mul_cancel _ (by grind), Rat.mul_one]
theorem le_dv {x y z : Rat} (hy : 0 < y) (h : x * y ≤ z) : x ≤ z / y := by
 refine Rat.le_of_mul_le_mul_right (c := y) ?_ hy
 rw [div_mul_c hy]; exact h
theorem dv_le {x y z : Rat} (hy : 0 < y) (h : z ≤ x * y) : z / y ≤ x := by
 refine Rat.le_of_mul_le_mul_right (c := y) ?_ hy
 rw [div_mul_c hy]; exact h
theorem div_le_self {x y : Rat} (hx : 0 ≤ x) (hy : 1 ≤ y) : x / y ≤ x := by
 refine dv_le (by grind) ?_
 have := Rat.mul_le_mul_of_nonneg_left (a := 1) (b := y) (c := x) hy hx
 grind
theorem div_mono {x x' y : Rat} (hy : 0 < y) (h : x ≤ x') : x / y ≤ x' / y := by
 refine le_dv hy ?_
 rw [div_mul_c hy]; exact h
theorem mulm {a b c d : Rat} (h1 : a ≤ b) (h2 : c ≤ d) (h3 : 0 ≤ a) (h4 : 0 ≤ c) : a * c ≤ b * d :=
 Rat.le_trans (Rat.mul_le_mul_of_nonneg_right h1 h4) (Rat.mul_le_mul_of_nonneg_left h2 (Rat.le_trans h3 h1))
def atP (n : Nat) : Nat → Rat
 | 0 => 1 / (n : Rat)
 | j + 1 => atP n j / ((n * n : Nat) : Rat)
def atT (n j : Nat) : Rat := atP n j / ((2 * j + 1 : Nat) : Rat)
theorem cast_pos {n : Nat} (h : 0 < n) : (0 : Rat) < (n : Rat) := by
 have : ((0 : Nat) : Rat) < (n : Rat) := Rat.natCast_lt_natCast.2 h
 exact this
theorem cast_one {n : Nat} (h : 0 < n) : (1 : Rat) ≤ (n : Rat) := by
 have : ((1 : Nat) : Rat) ≤ (n : Rat) := Rat.natCast_le_natCast.2 h
 exact this
theorem atP_nn {n : Nat} (hn : 0 < n) : ∀ j, 0 ≤ atP n j
 | 0 => div_nn yq (cast_pos hn)
 | j + 1 => div_nn (atP_nn hn j) (cast_pos (Nat.mul_pos hn hn))
theorem atT_nn {n : Nat} (hn : 0 < n) (j : Nat) : 0 ≤ atT n j := div_nn (atP_nn hn j) (cast_pos xq)
theorem atP_le {n : Nat} (hn : 0 < n) (j : Nat) : atP n (j + 1) ≤ atP n j := div_le_self (atP_nn hn j) (cast_one (Nat.mul_pos hn hn))
theorem atT_le {n : Nat} (hn : 0 < n) (j : Nat) : atT n (j + 1) ≤ atT n j := by
 have h1 := atP_le hn j
 have h2 := atP_nn hn (j + 1)
 refine Rat.le_trans (b := atP n (j + 1) / ((2 * j + 1 : Nat) : Rat)) ?_ (div_mono (cast_pos xq) h1)
 refine dv_le (cast_pos xq) ?_
 have h3 : ((2 * j + 1 : Nat) : Rat) ≤ ((2 * (j + 1) + 1 : Nat) : Rat) := Rat.natCast_le_natCast.2 xq
 have h4 := Rat.mul_le_mul_of_nonneg_left (c := atP n (j + 1) / ((2 * j + 1 : Nat) : Rat)) h3 (div_nn h2 (cast_pos xq))
 rw [div_mul_c (cast_pos xq)] at h4
 exact h4
def piN (m : Nat) : Rat := 16 * alt (atT 5) m - 4 * alt (atT 239) m
theorem atT_b {n : Nat} (hn : 0 < n) {m : Nat} (hm : 1 ≤ m) : atT n 0 - atT n 1 ≤ alt (atT n) m ∧ alt (atT n) m ≤ atT n 0 := by
 obtain ⟨d, rfl⟩ : ∃ d, m = 1 + d := ⟨m - 1, by omega⟩
 have h1 := alt_tail (j0 := 0) (atT_nn hn) (fun j _ => atT_le hn j) d 1 xq
 have h2 : alt (atT n) 1 = atT n 0 := by show 0 + (1 : Rat) * atT n 0 = _; grind
 have h3 : sgn 1 = -1 := rfl
 rw [h2, h3] at h1
 grind
theorem piN_b {m : Nat} (hm : 1 ≤ m) : 157 / 50 ≤ piN m ∧ piN m ≤ 16 / 5 := by
 have h1 := atT_b (n := 5) yq hm
 have h2 := atT_b (n := 239) yq hm
 have e1 : atT 5 0 = 1 / 5 := by decide +kernel
 have e2 : atT 5 1 = 1 / 375 := by decide +kernel
 have e3 : atT 239 0 = 1 / 239 := by decide +kernel
 have e4 : atT 239 0 - atT 239 1 ≥ 0 := by decide +kernel
 unfold piN
 rw [e1, e2] at h1
 rw [e3] at h2 e4
 constructor
 ·have : (157 / 50 : Rat) ≤ 16 * (1 / 5 - 1 / 375) - 4 * (1 / 239) := by decide +kernel
  grind
 ·have : (16 : Rat) * (1 / 5) ≤ 16 / 5 := by decide +kernel
  grind
def csT (y : Rat) : Nat → Rat
 | 0 => 1
 | j + 1 => csT y j * (y * y) / (((2 * j + 2) * (2 * j + 1) : Nat) : Rat)
theorem csq_nn (y : Rat) : 0 ≤ y * y := by
 rcases Rat.le_total (a := 0) (b := y) with h | h
 ·exact Rat.mul_nonneg h h
 ·have h1 : 0 ≤ -y := by grind
  have h2 := Rat.mul_nonneg h1 h1
  grind
theorem csT_nn (y : Rat) : ∀ j, 0 ≤ csT y j
 | 0 => by show (0 : Rat) ≤ 1; decide
 | j + 1 => div_nn (Rat.mul_nonneg (csT_nn y j) (csq_nn y)) (cast_pos (Nat.mul_pos xq xq))
theorem csT_le {y : Rat} (hy : y * y ≤ 12) : ∀ j, 1 ≤ j → csT y (j + 1) ≤ csT y j := by
 intro j hj
 refine dv_le (cast_pos (Nat.mul_pos xq xq)) ?_
 refine Rat.mul_le_mul_of_nonneg_left ?_ (csT_nn y j)
 have : ((12 : Nat) : Rat) ≤ (((2 * j + 2) * (2 * j + 1) : Nat) : Rat) := Rat.natCast_le_natCast.2 (by
  have := Nat.mul_le_mul (show 4 ≤ 2 * j + 2 by omega) (show 3 ≤ 2 * j + 1 by omega); omega)
 exact Rat.le_trans hy this
def csY (p q m : Nat) : Rat := piN m * (p : Rat) / (q : Rat)
def coN (p q m : Nat) : Rat := alt (csT (csY p q m)) m
def cdiv (b d : Int) : Int := -((-b) / d)
theorem fl_mul {a d : Int} (hd : 0 < d) : a / d * d ≤ a ∧ a - d + 1 ≤ a / d * d := by
 have h1 := Int.ediv_mul_le a (b := d) xq
 have h2 := Int.lt_ediv_add_one_mul_self a hd
 rw [Int.add_mul, Int.one_mul] at h2
 omega
theorem cd_mul {b d : Int} (hd : 0 < d) : b ≤ cdiv b d * d ∧ cdiv b d * d ≤ b + d - 1 := by
 have h1 := fl_mul (a := -b) hd
 unfold cdiv
 rw [Int.neg_mul]
 omega
theorem cd_eq0 {b d : Int} (hd : 0 < d) (h : b % d = 0) : cdiv b d = b / d := by
 have h1 := Int.emod_add_mul_ediv b d
 unfold cdiv
 have h2 : -b = d * (-(b / d)) := by rw [Int.mul_neg]; omega
 rw [h2, Int.mul_ediv_cancel_left _ xq]; omega
theorem cd_eq1 {b d : Int} (hd : 0 < d) (h : ¬ b % d = 0) : cdiv b d = b / d + 1 := by
 have h1 := Int.emod_add_mul_ediv b d
 have h2 := Int.emod_nonneg b (b := d) xq
 have h3 := Int.emod_lt_of_pos b hd
 have h4 := cd_mul (b := b) hd
 have h5 : b / d * d < cdiv b d * d := by rw [Int.mul_comm]; omega
 have h6 : cdiv b d * d < (b / d + 2) * d := by rw [Int.add_mul, Int.mul_comm (b / d)]; omega
 have h7 := Int.lt_of_mul_lt_mul_right h5 xq
 have h8 := Int.lt_of_mul_lt_mul_right h6 xq
 omega
theorem cd_width {a b d : Int} (hd : 0 < d) : (cdiv b d - a / d) * d ≤ b - a + 2 * d - 2 := by
 have h1 := fl_mul (a := a) hd
 have h2 := cd_mul (b := b) hd
 rw [Int.sub_mul]; omega
theorem cast_mul_le {a b c : Int} (h : a * b ≤ c) : (a : Rat) * (b : Rat) ≤ (c : Rat) := by
 have := Rat.intCast_le_intCast.2 h
 rwa [Rat.intCast_mul] at this
theorem castI_pos {d : Int} (h : 0 < d) : (0 : Rat) < (d : Rat) := by
 have := Rat.intCast_lt_intCast.2 h
 exact this
theorem fl_le {a d : Int} {z : Rat} (hd : 0 < d) (h : (a : Rat) ≤ z) : ((a / d : Int) : Rat) ≤ z / (d : Rat) := by
 refine le_dv (castI_pos hd) (Rat.le_trans (cast_mul_le (fl_mul (a := a) hd).1) h)
theorem le_ce {b d : Int} {z : Rat} (hd : 0 < d) (h : z ≤ (b : Rat)) : z / (d : Rat) ≤ ((cdiv b d : Int) : Rat) := by
 refine dv_le (castI_pos hd) (Rat.le_trans h ?_)
 have := Rat.intCast_le_intCast.2 (cd_mul (b := b) hd).1
 rwa [Rat.intCast_mul] at this
def Enc (U : Int) (lo hi : Int) (x : Rat) : Prop := (lo : Rat) ≤ x * (U : Rat) ∧ x * (U : Rat) ≤ (hi : Rat)
section
variable {U a b a' b' d : Int} {x y : Rat}
theorem Enc.over (h : Enc U a b x) (hd : 0 < d) : Enc U (a / d) (cdiv b d) (x / (d : Rat)) := by
 have h1 := fl_le hd h.1
 have h2 := le_ce hd h.2
 have e : x / (d : Rat) * (U : Rat) = x * (U : Rat) / (d : Rat) := by rw [Rat.div_def, Rat.div_def]; grind
 unfold Enc
 rw [e]
 exact ⟨h1, h2⟩
theorem Enc.add (h : Enc U a b x) (k : Enc U a' b' y) : Enc U (a + a') (b + b') (x + y) := by
 obtain ⟨h1, h2⟩ := h
 obtain ⟨k1, k2⟩ := k
 unfold Enc
 rw [Rat.intCast_add, Rat.intCast_add]
 constructor <;> grind
theorem Enc.sub (h : Enc U a b x) (k : Enc U a' b' y) : Enc U (a - b') (b - a') (x - y) := by
 obtain ⟨h1, h2⟩ := h
 obtain ⟨k1, k2⟩ := k
 unfold Enc
 rw [Rat.intCast_sub, Rat.intCast_sub]
 constructor <;> grind
theorem Enc.times {n : Nat} (h : Enc U a b x) : Enc U (a * (n : Int)) (b * (n : Int)) (x * (n : Rat)) := by
 obtain ⟨h1, h2⟩ := h
 have hn : (0 : Rat) ≤ (n : Rat) := by
  have : ((0 : Nat) : Rat) ≤ (n : Rat) := Rat.natCast_le_natCast.2 (Nat.zero_le n)
  exact this
 have k1 := Rat.mul_le_mul_of_nonneg_right h1 hn
 have k2 := Rat.mul_le_mul_of_nonneg_right h2 hn
 have e : (((n : Nat) : Int) : Rat) = (n : Rat) := rfl
 unfold Enc
 rw [Rat.intCast_mul, Rat.intCast_mul, e]
 constructor <;> grind
theorem Enc.near {r : Rat} (h : Enc U a b x) (h1 : x - r ≤ y) (h2 : y ≤ x + r) (hr : r * (U : Rat) ≤ 1) (hU : 0 < U) : Enc U (a - 1) (b + 1) y := by
 obtain ⟨k1, k2⟩ := h
 have k3 := Rat.mul_le_mul_of_nonneg_right h1 (Rat.le_of_lt (castI_pos hU))
 have k4 := Rat.mul_le_mul_of_nonneg_right h2 (Rat.le_of_lt (castI_pos hU))
 unfold Enc
 rw [Rat.intCast_sub, Rat.intCast_add]
 have e : ((1 : Int) : Rat) = 1 := rfl
 rw [e]
 constructor <;> grind
theorem Enc.prod (h : Enc U a b x) (k : Enc U a' b' y) (ha : 0 ≤ a) (ha' : 0 ≤ a') (hU : 0 < U) : Enc U (a * a' / U) (cdiv (b * b') U) (x * y) := by
 obtain ⟨h1, h2⟩ := h
 obtain ⟨k1, k2⟩ := k
 have za : (0 : Rat) ≤ (a : Rat) := Rat.intCast_le_intCast.2 ha
 have za' : (0 : Rat) ≤ (a' : Rat) := Rat.intCast_le_intCast.2 ha'
 have m1 := mulm h1 k1 za za'
 have m2 := mulm h2 k2 (Rat.le_trans za h1) (Rat.le_trans za' k1)
 rw [← Rat.intCast_mul] at m1 m2
 have r1 := fl_le hU m1
 have r2 := le_ce hU m2
 have e : x * (U : Rat) * (y * (U : Rat)) / (U : Rat) = x * y * (U : Rat) := by
  have := castI_pos hU
  rw [Rat.div_def]
  have e2 : (U : Rat) * (U : Rat)⁻¹ = 1 := Rat.mul_inv_cancel _ (by grind)
  grind
 rw [e] at r1 r2
 exact ⟨r1, r2⟩
theorem Enc.lo_le {c : Int} (h : Enc U a b x) (hx : x * (U : Rat) ≤ (c : Rat)) : a ≤ c := Rat.intCast_le_intCast.1 (Rat.le_trans h.1 hx)
theorem Enc.le_hi {c : Int} (h : Enc U a b x) (hx : (c : Rat) ≤ x * (U : Rat)) : c ≤ b := Rat.intCast_le_intCast.1 (Rat.le_trans hx h.2)
theorem Enc.le (h : Enc U a b x) : a ≤ b := Rat.intCast_le_intCast.1 (Rat.le_trans h.1 h.2)
theorem Enc.nonneg (h : Enc U a b x) (hx : 0 ≤ x) (hU : 0 < U) : 0 ≤ b := h.le_hi (c := 0) (Rat.mul_nonneg hx (Rat.le_of_lt (castI_pos hU)))
theorem Enc.one : Enc U U U 1 := by unfold Enc; rw [Rat.one_mul]; exact ⟨Rat.le_refl, Rat.le_refl⟩
end
theorem fl_nn {a d : Int} (ha : 0 ≤ a) (hd : 0 < d) : 0 ≤ a / d := Int.ediv_nonneg ha xq
theorem cd_le {b d c : Int} (hd : 0 < d) (h : b ≤ c * d) : cdiv b d ≤ c := by
 have h1 := (cd_mul (b := b) hd).2
 have h2 : cdiv b d * d < (c + 1) * d := by rw [Int.add_mul]; omega
 have := Int.lt_of_mul_lt_mul_right h2 xq
 omega
theorem cd_ge {b d c : Int} (hd : 0 < d) (h : c * d < b) : c + 1 ≤ cdiv b d := by
 have h1 := (cd_mul (b := b) hd).1
 have h2 : c * d < cdiv b d * d := by omega
 have := Int.lt_of_mul_lt_mul_right h2 xq
 omega
theorem cd_self {b d : Int} (hb : 0 ≤ b) (hd : 0 < d) : cdiv b d ≤ b := cd_le hd (by
 have := Int.mul_le_mul_of_nonneg_left (show 1 ≤ d by omega) hb; omega)
theorem cd_half {b d : Int} (hb : 2 ≤ b) (hd : 3 ≤ d) : 2 * cdiv b d ≤ b := by
 have h1 := cd_mul (b := b) (show 0 < d by omega)
 rcases Int.lt_or_le b (2 * cdiv b d) with h | h
 ·exfalso
  have h2 : (b + 1) * d ≤ 2 * cdiv b d * d := Int.mul_le_mul_of_nonneg_right xq xq
  have e : 2 * cdiv b d * d = 2 * (cdiv b d * d) := Int.mul_assoc ..
  rw [Int.add_mul, Int.one_mul, e] at h2
  have h3 : b * 3 ≤ b * d := Int.mul_le_mul_of_nonneg_left hd xq
  have h4 : (b - 2) * 3 ≤ (b - 2) * d := Int.mul_le_mul_of_nonneg_left hd xq
  rw [Int.sub_mul, Int.sub_mul] at h4
  omega
 ·exact h
theorem w3 {a b d : Int} (h : b - a ≤ 3) (hd : 0 < d) : cdiv b d - a / d ≤ 3 := by
 have h1 := cd_width (a := a) (b := b) hd
 rcases Int.lt_or_le 3 (cdiv b d - a / d) with h2 | h2
 ·have h3 := Int.mul_le_mul_of_nonneg_right (show 4 ≤ cdiv b d - a / d by omega) (show 0 ≤ d by omega)
  omega
 ·exact h2
end Nt
end Go.Proofs.YtbolmkfphieogaaGreat
namespace Go.Proofs.YtbolmkfphieogaaGreat
set_option linter.unusedVariables false
namespace Nt
def u2 (w : Nat) : Int := ((2 ^ w : Nat) : Int)
theorem u2_pos (w : Nat) : 0 < u2 w := by
 have := Nat.pow_pos (n := w) (show 0 < 2 by decide)
 unfold u2; omega
theorem u2_add (a b : Nat) : u2 (a + b) = u2 a * u2 b := by unfold u2; rw [Nat.pow_add]; exact Int.natCast_mul _ _
theorem u2_mono {a b : Nat} (h : a ≤ b) : u2 a ≤ u2 b := Int.ofNat_le.2 (Nat.pow_le_pow_right yq h)
theorem u2_le_iff {a b : Nat} (h : u2 a ≤ u2 b) : a ≤ b := (Nat.pow_le_pow_iff_right yq).1 (Int.ofNat_le.1 h)
theorem lin8 : ∀ w : Nat, 16 ≤ w → 8 * (128 * (w : Int) + 800) ≤ u2 w := by
 intro w hw
 obtain ⟨k, rfl⟩ : ∃ k, w = 16 + k := ⟨w - 16, by omega⟩
 induction k with
 | zero => decide +kernel
 | succ k ih =>
  have h1 := ih xq
  have h2 : u2 (16 + (k + 1)) = u2 (16 + k) * 2 := u2_add (16 + k) 1
  rw [h2]; omega
structure AtI (n w j : Nat) (pl ph sl sh : Int) : Prop where
 p : Enc (u2 w) pl ph (atP n j)
 s : Enc (u2 w) sl sh (alt (atT n) (j + 1))
 p0 : 0 ≤ pl
 p1 : 1 ≤ ph
 pw : ph - pl ≤ 3
 sw : sh - sl ≤ 3 * ((j : Int) + 1)
 fall : ph * u2 j ≤ u2 w
def AtR (n w : Nat) (lo hi : Int) : Prop := (∃ N : Nat, ∀ m, N ≤ m → Enc (u2 w) lo hi (alt (atT n) m)) ∧ hi - lo ≤ 5 * (w : Int) + 8
theorem AtI.start {n w : Nat} (hn : 0 < n) : AtI n w 0 (u2 w / (n : Int)) (cdiv (u2 w) (n : Int)) (u2 w / (n : Int)) (cdiv (u2 w) (n : Int)) := by
 have hn' : (0 : Int) < (n : Int) := by omega
 have hU := u2_pos w
 have h1 : Enc (u2 w) (u2 w / (n : Int)) (cdiv (u2 w) (n : Int)) (atP n 0) := Enc.one.over hn'
 have h2 : alt (atT n) (0 + 1) = atP n 0 := by
  show 0 + (1 : Rat) * (atP n 0 / (((2 * 0 + 1 : Nat)) : Rat)) = _
  have e : (((2 * 0 + 1 : Nat)) : Rat) = 1 := rfl
  rw [e]; grind
 have h3 := w3 (a := u2 w) (b := u2 w) (d := (n : Int)) xq hn'
 refine ⟨h1, by rw [h2]; exact h1, fl_nn xq hn', cd_ge (c := 0) hn' xq, h3, by omega, ?_⟩
 have : u2 0 = 1 := rfl
 rw [this, Int.mul_one]
 exact cd_self xq hn'
section
variable {n w j : Nat} {pl ph sl sh : Int}
theorem AtI.jw (h : AtI n w j pl ph sl sh) : j ≤ w := by
 refine u2_le_iff (Int.le_trans ?_ h.fall)
 have := Int.mul_le_mul_of_nonneg_right h.p1 (Int.le_of_lt (u2_pos j))
 omega
theorem AtI.power (h : AtI n w j pl ph sl sh) (hn : 0 < n) : Enc (u2 w) (pl / ((n * n : Nat) : Int)) (cdiv ph ((n * n : Nat) : Int)) (atP n (j + 1)) := h.p.over (by have := Nat.mul_pos hn hn; omega)
theorem AtI.term (h : AtI n w j pl ph sl sh) (hn : 0 < n) : Enc (u2 w) (pl / ((n * n : Nat) : Int) / ((2 * j + 3 : Nat) : Int)) (cdiv (cdiv ph ((n * n : Nat) : Int)) ((2 * j + 3 : Nat) : Int)) (atT n (j + 1)) :=
 (h.power hn).over (d := ((2 * j + 3 : Nat) : Int)) xq
theorem AtI.pw' (h : AtI n w j pl ph sl sh) (hn : 0 < n) : cdiv ph ((n * n : Nat) : Int) - pl / ((n * n : Nat) : Int) ≤ 3 := w3 h.pw (by have := Nat.mul_pos hn hn; omega)
theorem AtI.tw (h : AtI n w j pl ph sl sh) (hn : 0 < n) : cdiv (cdiv ph ((n * n : Nat) : Int)) ((2 * j + 3 : Nat) : Int) - pl / ((n * n : Nat) : Int) / ((2 * j + 3 : Nat) : Int) ≤ 3 := w3 (h.pw' hn) xq
theorem AtI.sub (h : AtI n w j pl ph sl sh) (hn : 0 < n) (hj : j % 2 = 0) : Enc (u2 w) (sl - cdiv (cdiv ph ((n * n : Nat) : Int)) ((2 * j + 3 : Nat) : Int)) (sh - pl / ((n * n : Nat) : Int) / ((2 * j + 3 : Nat) : Int)) (alt (atT n) (j + 1 + 1)) := by
 have h1 := h.s.sub (h.term hn)
 have e : alt (atT n) (j + 1 + 1) = alt (atT n) (j + 1) - atT n (j + 1) := by
  rw [alt_s]; unfold sgn; rw [if_neg xq]; grind
 rw [e]; exact h1
theorem AtI.add (h : AtI n w j pl ph sl sh) (hn : 0 < n) (hj : ¬ j % 2 = 0) : Enc (u2 w) (sl + pl / ((n * n : Nat) : Int) / ((2 * j + 3 : Nat) : Int)) (sh + cdiv (cdiv ph ((n * n : Nat) : Int)) ((2 * j + 3 : Nat) : Int)) (alt (atT n) (j + 1 + 1)) := by
 have h1 := h.s.add (h.term hn)
 have e : alt (atT n) (j + 1 + 1) = alt (atT n) (j + 1) + atT n (j + 1) := by
  rw [alt_s]; unfold sgn; rw [if_pos xq]; grind
 rw [e]; exact h1
theorem AtI.go {sl' sh' : Int} (h : AtI n w j pl ph sl sh) (hn : 2 ≤ n) (ht : 2 ≤ cdiv (cdiv ph ((n * n : Nat) : Int)) ((2 * j + 3 : Nat) : Int)) (hs : Enc (u2 w) sl' sh' (alt (atT n) (j + 1 + 1))) (hw : sh' - sl' ≤ sh - sl + 3) :
  AtI n w (j + 1) (pl / ((n * n : Nat) : Int)) (cdiv ph ((n * n : Nat) : Int)) sl' sh' ∧ cdiv ph ((n * n : Nat) : Int) < ph := by
 have hnn : 4 ≤ n * n := Nat.mul_le_mul hn hn
 have h0 := h.p1
 have h1 : 1 ≤ cdiv ph ((n * n : Nat) : Int) := cd_ge (c := 0) xq xq
 have h2 := cd_self (b := cdiv ph ((n * n : Nat) : Int)) (d := ((2 * j + 3 : Nat) : Int)) xq xq
 have h3 := cd_self (b := ph) (d := ((n * n : Nat) : Int)) xq xq
 have h4 := cd_half (b := ph) (d := ((n * n : Nat) : Int)) xq xq
 refine ⟨⟨h.power xq, hs, fl_nn h.p0 xq, h1, h.pw' xq, by have := h.sw; omega, ?_⟩, by omega⟩
 have h5 : u2 (j + 1) = u2 j * 2 := u2_add j 1
 have h6 := Int.mul_le_mul_of_nonneg_right h4 (Int.le_of_lt (u2_pos j))
 have h7 := h.fall
 rw [h5]
 have e : cdiv ph ((n * n : Nat) : Int) * (u2 j * 2) = 2 * cdiv ph ((n * n : Nat) : Int) * u2 j := by grind
 rw [e]; omega
theorem AtI.out {sl' sh' : Int} (h : AtI n w j pl ph sl sh) (hn : 0 < n) (ht : cdiv (cdiv ph ((n * n : Nat) : Int)) ((2 * j + 3 : Nat) : Int) ≤ 1) (hs : Enc (u2 w) sl' sh' (alt (atT n) (j + 1 + 1))) (hw : sh' - sl' ≤ sh - sl + 3) : AtR n w (sl' - 1) (sh' + 1) := by
 refine ⟨⟨j + 1 + 1, fun m hm => ?_⟩, by have := h.jw; have := h.sw; omega⟩
 have h1 := alt_near (j0 := 0) (atT_nn hn) (fun j _ => atT_le hn j) (Nat.zero_le _) hm
 refine hs.near h1.1 h1.2 ?_ (u2_pos w)
 have h2 := (h.term hn).2
 have h3 := Rat.mul_le_mul_of_nonneg_right (atT_le hn (j + 1)) (Rat.le_of_lt (castI_pos (u2_pos w)))
 have h4 : ((cdiv (cdiv ph ((n * n : Nat) : Int)) ((2 * j + 3 : Nat) : Int) : Int) : Rat) ≤ ((1 : Int) : Rat) := Rat.intCast_le_intCast.2 ht
 have e : ((1 : Int) : Rat) = 1 := rfl
 rw [e] at h4
 exact Rat.le_trans h3 (Rat.le_trans h2 h4)
theorem AtI.bd (h : AtI n w j pl ph sl sh) (hn : 0 < n) : ph ≤ u2 w ∧ -(3 * ((w : Int) + 1)) ≤ sl ∧ sl ≤ u2 w ∧ 0 ≤ sh ∧ sh ≤ u2 w + 3 * ((w : Int) + 1) := by
 have h1 := atT_b (n := n) hn (m := j + 1) xq
 have h2 := atT_le hn 0
 have hU := castI_pos (u2_pos w)
 have h3 : alt (atT n) (j + 1) ≤ 1 := by
  refine Rat.le_trans h1.2 ?_
  have e : atT n 0 = atP n 0 / ((2 * 0 + 1 : Nat) : Rat) := rfl
  rw [e]
  refine Rat.le_trans (div_le_self (atP_nn hn 0) (cast_one xq)) ?_
  show 1 / (n : Rat) ≤ 1
  exact div_le_self yq (cast_one hn)
 have h4 : alt (atT n) (j + 1) * (u2 w : Rat) ≤ (u2 w : Rat) := by
  have := Rat.mul_le_mul_of_nonneg_right h3 (Rat.le_of_lt hU)
  rwa [Rat.one_mul] at this
 have h5 := h.s.lo_le h4
 have h6 := h.s.nonneg (by grind) (u2_pos w)
 have h7 := h.sw
 have h8 := h.jw
 have h9 := h.fall
 have h10 := Int.mul_le_mul_of_nonneg_left (show 1 ≤ u2 j by have := u2_pos j; omega) (show 0 ≤ ph by have := h.p1; omega)
 refine ⟨by omega, by omega, h5, h6, by omega⟩
end
def PiR (w : Nat) (lo hi : Int) : Prop := (∃ N : Nat, ∀ m, N ≤ m → Enc (u2 w) lo hi (piN m)) ∧ hi - lo ≤ 128 * (w : Int) + 400
theorem PiR.of {w : Nat} {a b c d : Int} (h : AtR 5 w a b) (k : AtR 239 w c d) : PiR w (a * 16 - d * 4) (b * 16 - c * 4) := by
 obtain ⟨⟨N, h1⟩, h2⟩ := h
 obtain ⟨⟨M, k1⟩, k2⟩ := k
 refine ⟨⟨max N M, fun m hm => ?_⟩, by omega⟩
 have e := ((h1 m xq).times (n := 16)).sub ((k1 m xq).times (n := 4))
 have e2 : piN m = alt (atT 5) m * ((16 : Nat) : Rat) - alt (atT 239) m * ((4 : Nat) : Rat) := by
  unfold piN
  rw [Rat.mul_comm, Rat.mul_comm 4]; rfl
 rw [e2]; exact e
theorem PiR.bd {w : Nat} {a b : Int} (h : PiR w a b) (hw : 16 ≤ w) : 0 ≤ a ∧ b ≤ 4 * u2 w ∧ a ≤ b ∧ 1 ≤ b := by
 obtain ⟨⟨N, h1⟩, h2⟩ := h
 have h3 := h1 (N + 1) xq
 have h4 := piN_b (m := N + 1) xq
 have hU := castI_pos (u2_pos w)
 have l8 := lin8 w hw
 have h5 : 3 * u2 w ≤ b := h3.le_hi (by
  rw [Rat.intCast_mul]
  refine Rat.mul_le_mul_of_nonneg_right (Rat.le_trans ?_ h4.1) (Rat.le_of_lt hU)
  decide +kernel)
 have h6 : 5 * a ≤ 16 * u2 w := by
  have h7 := Rat.mul_le_mul_of_nonneg_right h4.2 (Rat.le_of_lt hU)
  have h8 := h3.1
  refine Rat.intCast_le_intCast.1 ?_
  rw [Rat.intCast_mul, Rat.intCast_mul]
  have e5 : ((5 : Int) : Rat) = 5 := rfl
  have e16 : ((16 : Int) : Rat) = 16 := rfl
  rw [e5, e16]
  grind
 have := h3.le
 have := u2_pos w
 omega
end Nt
end Go.Proofs.YtbolmkfphieogaaGreat
namespace Go.Proofs.YtbolmkfphieogaaGreat
set_option linter.unusedVariables false
namespace Nt
theorem cdw {a b d W : Int} (hd : 0 < d) (h : b - a ≤ W * d) : cdiv b d - a / d ≤ W + 1 := by
 have h1 := cd_width (a := a) (b := b) hd
 rcases Int.lt_or_le (W + 1) (cdiv b d - a / d) with h2 | h2
 ·have h3 := Int.mul_le_mul_of_nonneg_right (show W + 2 ≤ cdiv b d - a / d by omega) (show 0 ≤ d by omega)
  rw [Int.add_mul] at h3
  omega
 ·exact h2
theorem prod_width {U a b c d W V A C : Int} (hU : 0 < U) (ha : 0 ≤ a) (hc : 0 ≤ c) (h1 : b - a ≤ W) (h2 : d - c ≤ V) (h3 : a ≤ A * U) (h4 : d ≤ C * U) (hA : 0 ≤ A) (hC : 0 ≤ C) (hW : 0 ≤ W) (hV : 0 ≤ V) (hab : a ≤ b) (hcd : c ≤ d) : cdiv (b * d) U - a * c / U ≤ W * C + V * A + 1 := by
 refine cdw hU ?_
 have e : b * d - a * c = (b - a) * d + (d - c) * a := by grind
 have k1 : (b - a) * d ≤ W * (C * U) := Int.le_trans (Int.mul_le_mul_of_nonneg_right h1 xq) (Int.mul_le_mul_of_nonneg_left h4 hW)
 have k2 : (d - c) * a ≤ V * (A * U) := Int.le_trans (Int.mul_le_mul_of_nonneg_right h2 ha) (Int.mul_le_mul_of_nonneg_left h3 hV)
 have e2 : (W * C + V * A) * U = W * (C * U) + V * (A * U) := by grind
 rw [e, e2]; omega
def CsY (p q w : Nat) (lo hi : Int) : Prop := (∃ N : Nat, ∀ m, N ≤ m → Enc (u2 w) lo hi (csY p q m)) ∧ hi - lo ≤ 128 * (w : Int) + 402 ∧ 0 ≤ lo ∧ hi ≤ 2 * u2 w ∧ lo ≤ hi ∧ 1 ≤ hi
theorem csY_b {p q m : Nat} (hq : 0 < q) (hp : 2 * p ≤ q) (hm : 1 ≤ m) : 0 ≤ csY p q m ∧ csY p q m ≤ 8 / 5 := by
 have h1 := piN_b hm
 have hq' := cast_pos hq
 have hp0 : (0 : Rat) ≤ (p : Rat) := Rat.natCast_le_natCast.2 (Nat.zero_le p)
 have hpi0 : 0 ≤ piN m := Rat.le_trans (by decide +kernel) h1.1
 unfold csY
 refine ⟨div_nn (Rat.mul_nonneg hpi0 hp0) hq', dv_le hq' ?_⟩
 have h2 : ((2 * p : Nat) : Rat) ≤ (q : Rat) := Rat.natCast_le_natCast.2 hp
 rw [Rat.natCast_mul] at h2
 have e2 : ((2 : Nat) : Rat) = 2 := rfl
 rw [e2] at h2
 have h3 := Rat.mul_le_mul_of_nonneg_right h1.2 hp0
 have h4 := Rat.mul_le_mul_of_nonneg_left (c := (8 / 5 : Rat)) h2 (by decide +kernel)
 have e3 : (8 / 5 : Rat) * (2 * (p : Rat)) = 16 / 5 * (p : Rat) := by grind
 rw [e3] at h4
 exact Rat.le_trans h3 h4
theorem CsY.of {p q w : Nat} {a b : Int} (h : PiR w a b) (hw : 16 ≤ w) (hq : 0 < q) (hp : 2 * p ≤ q) (hp1 : 1 ≤ p) : CsY p q w (a * (p : Int) / (q : Int)) (cdiv (b * (p : Int)) (q : Int)) := by
 obtain ⟨h0, h4, hab, hb1⟩ := h.bd hw
 obtain ⟨⟨N, h1⟩, h2⟩ := h
 have l8 := lin8 w hw
 have hU := u2_pos w
 have E : ∀ m, N ≤ m → Enc (u2 w) (a * (p : Int) / (q : Int)) (cdiv (b * (p : Int)) (q : Int)) (csY p q m) := fun m hm => ((h1 m hm).times (n := p)).over (d := (q : Int)) xq
 have hwd : cdiv (b * (p : Int)) (q : Int) - a * (p : Int) / (q : Int) ≤ 128 * (w : Int) + 402 := by
  have := cdw (a := a * (p : Int)) (b := b * (p : Int)) (d := (q : Int)) (W := 128 * (w : Int) + 400) xq (by
   rw [← Int.sub_mul]
   exact Int.le_trans (Int.mul_le_mul_of_nonneg_right h2 xq) (Int.mul_le_mul_of_nonneg_left (show (p : Int) ≤ (q : Int) by omega) xq))
  omega
 have hlo : 0 ≤ a * (p : Int) / (q : Int) := fl_nn (Int.mul_nonneg h0 xq) xq
 have e1 := E (N + 1) xq
 have h5 : 5 * (a * (p : Int) / (q : Int)) ≤ 8 * u2 w := by
  have h6 := csY_b (m := N + 1) hq hp xq
  have h7 := Rat.mul_le_mul_of_nonneg_right h6.2 (Rat.le_of_lt (castI_pos hU))
  have h8 := e1.1
  refine Rat.intCast_le_intCast.1 ?_
  rw [Rat.intCast_mul, Rat.intCast_mul]
  have e5 : ((5 : Int) : Rat) = 5 := rfl
  have e16 : ((8 : Int) : Rat) = 8 := rfl
  rw [e5, e16]
  grind
 have hbp : 1 ≤ b * (p : Int) := by
  have := Int.mul_le_mul hb1 (show (1 : Int) ≤ (p : Int) by omega) yq xq
  omega
 exact ⟨⟨N, E⟩, hwd, hlo, by omega, e1.le, cd_ge (c := 0) xq xq⟩
def CsQ (p q w : Nat) (lo hi : Int) : Prop := (∃ N : Nat, ∀ m, N ≤ m → Enc (u2 w) lo hi (csY p q m * csY p q m)) ∧ hi - lo ≤ 512 * (w : Int) + 1609 ∧ 0 ≤ lo ∧ hi ≤ 4 * u2 w ∧ lo ≤ hi ∧ 1 ≤ hi
theorem CsQ.of {p q w : Nat} {a b : Int} (h : CsY p q w a b) : CsQ p q w (a * a / u2 w) (cdiv (b * b) (u2 w)) := by
 obtain ⟨⟨N, h1⟩, h2, h3, h4, h5, h51⟩ := h
 have hU := u2_pos w
 have E : ∀ m, N ≤ m → Enc (u2 w) (a * a / u2 w) (cdiv (b * b) (u2 w)) (csY p q m * csY p q m) := fun m hm => (h1 m hm).prod (h1 m hm) h3 h3 hU
 refine ⟨⟨N, E⟩, ?_, fl_nn (Int.mul_nonneg h3 h3) hU, cd_le hU ?_, (E N (Nat.le_refl _)).le, cd_ge (c := 0) hU (by have := Int.mul_le_mul h51 h51 yq xq; omega)⟩
 ·have := prod_width (A := 2) (C := 2) hU h3 h3 h2 h2 xq h4 xq xq xq xq h5 h5
  omega
 ·have h6 := Int.mul_le_mul h4 h4 xq xq
  have e : 2 * u2 w * (2 * u2 w) = 4 * u2 w * u2 w := by grind
  rw [e] at h6; exact h6
def csW (w : Nat) : Int := 512 * (w : Int) + 1611
structure CsT (p q w j : Nat) (tl th : Int) : Prop where
 e : ∃ N : Nat, ∀ m, N ≤ m → Enc (u2 w) tl th (csT (csY p q m) j)
 t0 : 0 ≤ tl
 t1 : 1 ≤ th
 tt : tl ≤ th
 t2 : th ≤ 2 * u2 w
 tw : th - tl ≤ csW w
 t00 : j = 0 → tl = th ∧ th = u2 w
 fall : th * u2 j ≤ 4 * u2 w
theorem CsT.start {p q w : Nat} : CsT p q w 0 (u2 w) (u2 w) := by
 have hU := u2_pos w
 refine ⟨⟨0, fun m _ => Enc.one⟩, by omega, by omega, by omega, by omega, ?_, fun _ => ⟨rfl, rfl⟩, ?_⟩
 ·unfold csW; omega
 ·show u2 w * 1 ≤ _; omega
def coD (j : Nat) : Int := (((2 * j + 2) * (2 * j + 1) : Nat) : Int)
theorem coD_pos (j : Nat) : 2 ≤ coD j := by
 have := Nat.mul_le_mul (show 2 ≤ 2 * j + 2 by omega) (show 1 ≤ 2 * j + 1 by omega)
 unfold coD; omega
theorem coD_12 {j : Nat} (hj : 1 ≤ j) : 12 ≤ coD j := by
 have := Nat.mul_le_mul (show 4 ≤ 2 * j + 2 by omega) (show 3 ≤ 2 * j + 1 by omega)
 unfold coD; omega
def csL (w j : Nat) (tl ql : Int) : Int := tl * ql / u2 w / coD j
def csH (w j : Nat) (th qh : Int) : Int := cdiv (cdiv (th * qh) (u2 w)) (coD j)
section
variable {p q w j : Nat} {tl th ql qh : Int}
theorem CsT.jw (h : CsT p q w j tl th) : j ≤ w + 2 := by
 refine u2_le_iff (Int.le_trans ?_ (Int.le_trans h.fall (by rw [u2_add w 2]; show 4 * u2 w ≤ u2 w * 4; omega)))
 have := Int.mul_le_mul_of_nonneg_right h.t1 (Int.le_of_lt (u2_pos j))
 omega
theorem CsT.term (h : CsT p q w j tl th) (hq : CsQ p q w ql qh) : ∃ N : Nat, ∀ m, N ≤ m → Enc (u2 w) (csL w j tl ql) (csH w j th qh) (csT (csY p q m) (j + 1)) := by
 obtain ⟨N, h1⟩ := h.e
 obtain ⟨⟨M, k1⟩, k2, k3, k4, k5, k6⟩ := hq
 exact ⟨max N M, fun m hm => (((h1 m xq).prod (k1 m xq) h.t0 k3 (u2_pos w)).over (by have := coD_pos j; omega))⟩
theorem CsT.next (h : CsT p q w j tl th) (hq : CsQ p q w ql qh) (ht : j ≤ 1 ∨ 2 ≤ th) : CsT p q w (j + 1) (csL w j tl ql) (csH w j th qh) ∧ (1 ≤ j → csH w j th qh ≤ th) ∧ (1 ≤ j → 2 ≤ th → 2 * csH w j th qh ≤ th) := by
 have hE := h.term hq
 have hU := u2_pos w
 have hd := coD_pos j
 obtain ⟨N, h1⟩ := id hE
 have hle := (h1 N (Nat.le_refl _)).le
 obtain ⟨_, k2, k3, k4, k5, k6⟩ := hq
 have t0 := h.t0
 have t1 := h.t1
 have t2 := h.t2
 have tt := h.tt
 have tw := h.tw
 have hfl := h.fall
 have g0 : 0 ≤ csL w j tl ql := fl_nn (fl_nn (Int.mul_nonneg t0 k3) hU) xq
 have g1 : cdiv (th * qh) (u2 w) ≤ 4 * th := cd_le hU (by
  have := Int.mul_le_mul_of_nonneg_left k4 (show 0 ≤ th by omega)
  have e : th * (4 * u2 w) = 4 * th * u2 w := by grind
  rw [e] at this; exact this)
 have g2 : csH w j th qh ≤ 2 * th := cd_le xq (by
  have := Int.mul_le_mul_of_nonneg_left hd (show 0 ≤ 2 * th by omega); omega)
 have g3 : 1 ≤ j → csH w j th qh ≤ cdiv th 3 := fun hj => cd_le xq (by
  have h5 := (cd_mul (b := th) (d := 3) yq).1
  have h6 := Int.mul_le_mul_of_nonneg_left (coD_12 hj) (show 0 ≤ cdiv th 3 by omega)
  omega)
 have g4 : cdiv th 3 ≤ th := cd_self xq yq
 have g5 : 1 ≤ th * qh := by
  have := Int.mul_le_mul t1 k6 yq xq
  omega
 have g6 : 1 ≤ cdiv (th * qh) (u2 w) := cd_ge (c := 0) hU xq
 have g7 : 1 ≤ csH w j th qh := cd_ge (c := 0) xq xq
 have g8 : 1 ≤ j → 2 ≤ th → 2 * csH w j th qh ≤ th := fun hj h2 => by
  have h3 := g3 hj
  have h4 := cd_half (b := th) (d := 3) h2 yq
  omega
 have g9 : 1 ≤ j → csH w j th qh ≤ th := fun hj => Int.le_trans (g3 hj) g4
 have g10 : csH w j th qh ≤ 2 * u2 w := by
  by_cases hj : j = 0
  ·rw [(h.t00 hj).2] at g2 ⊢
   exact g2
  ·have := g9 xq; omega
 refine ⟨⟨hE, g0, g7, hle, g10, ?_, by omega, ?_⟩, g9, g8⟩
 ·by_cases hj : j = 0
  ·obtain ⟨e1, e2⟩ := h.t00 hj
   have := prod_width (A := 1) (C := 4) (W := 0) (V := 512 * (w : Int) + 1609) hU t0 k3 xq k2 xq k4 xq xq xq xq tt k5
   have h9 := cdw (a := tl * ql / u2 w) (b := cdiv (th * qh) (u2 w)) (d := coD j) (W := 512 * (w : Int) + 1610) xq (by
    have := Int.mul_le_mul_of_nonneg_left (show 1 ≤ coD j by omega) (show 0 ≤ 512 * (w : Int) + 1610 by omega)
    omega)
   unfold csW csL csH; omega
  ·have hj1 : 1 ≤ j := by omega
   have hd12 := coD_12 hj1
   have := prod_width (A := 2) (C := 4) (W := csW w) (V := 512 * (w : Int) + 1609) hU t0 k3 tw k2 xq k4 xq xq (by unfold csW; omega) xq tt k5
   have h9 := cdw (a := tl * ql / u2 w) (b := cdiv (th * qh) (u2 w)) (d := coD j) (W := 512 * (w : Int) + 1610) xq (by
    have := Int.mul_le_mul_of_nonneg_left hd12 (show 0 ≤ 512 * (w : Int) + 1610 by omega)
    unfold csW at *
    omega)
   unfold csW csL csH; omega
 ·have e2 : u2 (j + 1) = u2 j * 2 := u2_add j 1
  rw [e2]
  have e : csH w j th qh * (u2 j * 2) = 2 * csH w j th qh * u2 j := by grind
  rw [e]
  by_cases hj : j = 0
  ·subst hj
   show 2 * csH w 0 th qh * 1 ≤ _
   omega
  ·by_cases h2 : 2 ≤ th
   ·have h4 := g8 xq h2
    exact Int.le_trans (Int.mul_le_mul_of_nonneg_right h4 (Int.le_of_lt (u2_pos j))) hfl
   ·have h4 := g9 xq
    obtain rfl : j = 1 := by omega
    show 2 * csH w 1 th qh * 2 ≤ _
    omega
end
structure CsI (p q w j : Nat) (tl th sl sh : Int) : Prop where
 c : CsT p q w j tl th
 s : ∃ N : Nat, ∀ m, N ≤ m → Enc (u2 w) sl sh (alt (csT (csY p q m)) (j + 1))
 sw : sh - sl ≤ csW w * (j : Int)
def CsR (p q w : Nat) (lo hi : Int) : Prop := (∃ N : Nat, ∀ m, N ≤ m → Enc (u2 w) lo hi (coN p q m)) ∧ hi - lo ≤ csW w * ((w : Int) + 4) + 2
theorem CsI.start {p q w : Nat} : CsI p q w 0 (u2 w) (u2 w) (u2 w) (u2 w) := by
 refine ⟨CsT.start, ⟨0, fun m _ => ?_⟩, by omega⟩
 have : alt (csT (csY p q m)) (0 + 1) = 1 := by show 0 + (1 : Rat) * 1 = 1; decide +kernel
 rw [this]; exact Enc.one
def csM (w j : Nat) (th : Int) : Nat := if j = 0 then (4 * u2 w).toNat else th.toNat
def CsS (w j : Nat) (tl th ql qh sl sh sl' sh' : Int) : Prop := j % 2 = 0 ∧ sl' = sl - csH w j th qh ∧ sh' = sh - csL w j tl ql ∨ ¬ j % 2 = 0 ∧ sl' = sl + csL w j tl ql ∧ sh' = sh + csH w j th qh
section
variable {p q w j : Nat} {tl th sl sh ql qh sl' sh' : Int}
theorem CsI.sum (h : CsI p q w j tl th sl sh) (hq : CsQ p q w ql qh) (hs : CsS w j tl th ql qh sl sh sl' sh') : (∃ N : Nat, ∀ m, N ≤ m → Enc (u2 w) sl' sh' (alt (csT (csY p q m)) (j + 1 + 1))) ∧ sh' - sl' = sh - sl + (csH w j th qh - csL w j tl ql) := by
 obtain ⟨N, h1⟩ := h.c.term hq
 obtain ⟨M, h2⟩ := h.s
 rcases hs with ⟨e, rfl, rfl⟩ | ⟨e, rfl, rfl⟩
 ·refine ⟨⟨max N M, fun m hm => ?_⟩, by omega⟩
  have e2 : alt (csT (csY p q m)) (j + 1 + 1) = alt (csT (csY p q m)) (j + 1) - csT (csY p q m) (j + 1) := by
   rw [alt_s]; unfold sgn; rw [if_neg xq]; grind
  rw [e2]; exact (h2 m xq).sub (h1 m xq)
 ·refine ⟨⟨max N M, fun m hm => ?_⟩, by omega⟩
  have e2 : alt (csT (csY p q m)) (j + 1 + 1) = alt (csT (csY p q m)) (j + 1) + csT (csY p q m) (j + 1) := by
   rw [alt_s]; unfold sgn; rw [if_pos xq]; grind
  rw [e2]; exact (h2 m xq).add (h1 m xq)
theorem CsI.go (h : CsI p q w j tl th sl sh) (hq : CsQ p q w ql qh) (ht : j = 0 ∨ 2 ≤ csH w j th qh) (hs : CsS w j tl th ql qh sl sh sl' sh') :
  CsI p q w (j + 1) (csL w j tl ql) (csH w j th qh) sl' sh' ∧ csM w (j + 1) (csH w j th qh) < csM w j th := by
 have hT : 1 ≤ j → csH w j th qh ≤ th := fun hj => (h.c.next hq (by
  rcases Int.lt_or_le th 2 with h2 | h2
  ·exact .inl (by
    have hd := coD_12 hj
    have hU := u2_pos w
    have t1 := h.c.t1
    have k4 := hq.2.2.2.1
    have k1 : csH w j th qh ≤ 1 := cd_le xq (by
     have : cdiv (th * qh) (u2 w) ≤ 4 := cd_le hU (by
      have e : th = 1 := by omega
      rw [e, Int.one_mul]; exact k4)
     omega)
    omega)
  ·exact .inr h2)).2.1 hj
 have hN := h.c.next hq (by
  by_cases hj : j = 0
  ·exact .inl xq
  ·have := hT xq; exact .inr xq)
 obtain ⟨S1, S2⟩ := h.sum hq hs
 have hsw := h.sw
 have hU := u2_pos w
 have htw := hN.1.tw
 have e : csW w * (((j + 1 : Nat)) : Int) = csW w * (j : Int) + csW w := by rw [Int.natCast_add, Int.mul_add]; simp
 refine ⟨⟨hN.1, S1, by rw [e]; omega⟩, ?_⟩
 have ht2 := hN.1.t2
 unfold csM
 rw [if_neg xq]
 by_cases hj : j = 0
 ·rw [if_pos hj]; omega
 ·rw [if_neg hj]
  have h4 := hN.2.2 xq (by have := hT xq; omega)
  omega
theorem cs_near {x : Nat → Rat} {m : Nat} {y : Rat} {j : Nat} (hy : 0 ≤ y ∧ y ≤ 8 / 5) (hj : 1 ≤ j) (hm : j ≤ m) : alt (csT y) j - csT y j ≤ alt (csT y) m ∧ alt (csT y) m ≤ alt (csT y) j + csT y j := by
 have hyy : y * y ≤ 12 := Rat.le_trans (mulm hy.2 hy.2 hy.1 hy.1) (by decide +kernel)
 exact alt_near (j0 := 1) (csT_nn _) (csT_le hyy) hj hm
theorem CsI.out (h : CsI p q w j tl th sl sh) (hq : CsQ p q w ql qh) (h0 : 0 < q) (hp : 2 * p ≤ q) (hj : 1 ≤ j) (ht : csH w j th qh ≤ 1) (hs : CsS w j tl th ql qh sl sh sl' sh') : CsR p q w (sl' - 1) (sh' + 1) := by
 obtain ⟨S1, S2⟩ := h.sum hq hs
 obtain ⟨M, h2⟩ := S1
 obtain ⟨N, h1⟩ := h.c.term hq
 have hU := u2_pos w
 have hL : 0 ≤ csL w j tl ql := fl_nn (fl_nn (Int.mul_nonneg h.c.t0 hq.2.2.1) hU) (by have := coD_pos j; omega)
 refine ⟨⟨max (max N M) (j + 2), fun m hm => ?_⟩, ?_⟩
 ·have hy := csY_b (m := m) h0 hp xq
  have hyy : csY p q m * csY p q m ≤ 12 := Rat.le_trans (mulm hy.2 hy.2 hy.1 hy.1) (by decide +kernel)
  have h3 := cs_near (x := fun _ => 0) (m := m) (j := j + 1 + 1) hy xq xq
  have h4 := csT_le hyy (j + 1) xq
  refine (h2 m xq).near h3.1 h3.2 ?_ hU
  have h5 := Rat.mul_le_mul_of_nonneg_right h4 (Rat.le_of_lt (castI_pos hU))
  have h6 : ((csH w j th qh : Int) : Rat) ≤ ((1 : Int) : Rat) := Rat.intCast_le_intCast.2 ht
  have e : ((1 : Int) : Rat) = 1 := rfl
  rw [e] at h6
  exact Rat.le_trans h5 (Rat.le_trans (h1 m xq).2 h6)
 ·have h6 := h.sw
  have h7 := h.c.jw
  have h8 := Int.mul_le_mul_of_nonneg_left (show (j : Int) + 1 ≤ (w : Int) + 4 by omega) (show 0 ≤ csW w by unfold csW; omega)
  rw [Int.mul_add] at h8
  have : 1 ≤ csW w := by unfold csW; omega
  omega
theorem cs_bd {N : Nat} {m : Nat} (h0 : 0 < q) (hp : 2 * p ≤ q) (hm : 1 ≤ m) (hj : 1 ≤ j) (h2 : Enc (u2 w) sl sh (alt (csT (csY p q m)) j)) : sl ≤ 3 * u2 w ∧ -(3 * u2 w) ≤ sh := by
 have hy := csY_b (m := m) h0 hp hm
 have h3 := cs_near (x := fun _ => 0) (j := 1) (m := j) hy xq xq
 have hyy := mulm hy.2 hy.2 hy.1 hy.1
 have e1 : alt (csT (csY p q m)) 1 = 1 := by show 0 + (1 : Rat) * 1 = 1; decide +kernel
 have h4 : csT (csY p q m) 1 ≤ 2 := by
  show 1 * (csY p q m * csY p q m) / (((2 * 0 + 2) * (2 * 0 + 1) : Nat) : Rat) ≤ 2
  refine dv_le (cast_pos yq) ?_
  rw [Rat.one_mul]
  exact Rat.le_trans hyy (by decide +kernel)
 rw [e1] at h3
 have hU := castI_pos (u2_pos w)
 have h5 : alt (csT (csY p q m)) j * (u2 w : Rat) ≤ ((3 * u2 w : Int) : Rat) := by
  rw [Rat.intCast_mul]
  refine Rat.mul_le_mul_of_nonneg_right ?_ (Rat.le_of_lt hU)
  have e : ((3 : Int) : Rat) = 3 := rfl
  rw [e]; grind
 have h6 : ((-(3 * u2 w) : Int) : Rat) ≤ alt (csT (csY p q m)) j * (u2 w : Rat) := by
  have e : -(3 * u2 w) = (-3) * u2 w := by omega
  rw [e, Rat.intCast_mul]
  refine Rat.mul_le_mul_of_nonneg_right ?_ (Rat.le_of_lt hU)
  have e : ((-3 : Int) : Rat) = -3 := rfl
  rw [e]; grind
 exact ⟨h2.lo_le h5, h2.le_hi h6⟩
theorem CsI.bd (h : CsI p q w j tl th sl sh) (h0 : 0 < q) (hp : 2 * p ≤ q) : -(csW w * ((w : Int) + 2)) - 3 * u2 w ≤ sl ∧ sl ≤ 3 * u2 w ∧ -(3 * u2 w) ≤ sh ∧ sh ≤ 3 * u2 w + csW w * ((w : Int) + 2) := by
 obtain ⟨N, h1⟩ := h.s
 have h2 := cs_bd (N := N) (m := N + 1) h0 hp xq xq (h1 (N + 1) xq)
 have h9 := h.sw
 have h10 := h.c.jw
 have h11 := Int.mul_le_mul_of_nonneg_left (show (j : Int) ≤ (w : Int) + 2 by omega) (show 0 ≤ csW w by unfold csW; omega)
 omega
end
def FlO (X : Nat → Rat) (b : Nat) (z : Int) : Prop := ∃ N : Nat, ∀ m, N ≤ m → (z : Rat) ≤ X m * (u2 b : Rat) ∧ X m * (u2 b : Rat) < ((z + 1 : Int) : Rat)
theorem FlO.uniq {X : Nat → Rat} {b : Nat} {y z : Int} (h : FlO X b y) (k : FlO X b z) : y = z := by
 obtain ⟨N, h⟩ := h
 obtain ⟨M, k⟩ := k
 have h1 := h (max N M) xq
 have k1 := k (max N M) xq
 have a := Rat.intCast_lt_intCast.1 (Std.lt_of_le_of_lt h1.1 k1.2)
 have c := Rat.intCast_lt_intCast.1 (Std.lt_of_le_of_lt k1.1 h1.2)
 omega
theorem FlO.of {X : Nat → Rat} {b w : Nat} {lo hi z : Int} (h : ∃ N : Nat, ∀ m, N ≤ m → Enc (u2 w) lo hi (X m)) (hb : b ≤ w) (h1 : lo / u2 (w - b) = z) (h2 : hi / u2 (w - b) = z) : FlO X b z := by
 obtain ⟨N, h⟩ := h
 refine ⟨N, fun m hm => ?_⟩
 have h3 := h m hm
 have hp := u2_pos (w - b)
 have e : u2 w = u2 b * u2 (w - b) := by rw [← u2_add, show b + (w - b) = w by omega]
 have k1 := (fl_mul (a := lo) hp).1
 have k2 := Int.lt_ediv_add_one_mul_self hi hp
 rw [h1] at k1
 rw [h2] at k2
 have r1 := Rat.intCast_le_intCast.2 k1
 have r2 := Rat.intCast_lt_intCast.2 k2
 rw [Rat.intCast_mul] at r1 r2
 obtain ⟨h4, h5⟩ := h3
 rw [e, Rat.intCast_mul, ← Rat.mul_assoc] at h4 h5
 refine ⟨Rat.le_of_mul_le_mul_right (Rat.le_trans r1 h4) (castI_pos hp), ?_⟩
 by_cases h6 : X m * (u2 b : Rat) < ((z + 1 : Int) : Rat)
 ·exact h6
 ·have h7 := Rat.mul_le_mul_of_nonneg_right (Rat.not_lt.1 h6) (Rat.le_of_lt (castI_pos hp))
  exact absurd (Std.lt_of_le_of_lt (Rat.le_trans h7 h5) r2) (by grind)
def Gap (X : Nat → Rat) (b g : Nat) : Prop := b ≤ g ∧ ∃ (z : Int) (N : Nat), ∀ m, N ≤ m → ((z * u2 (g - b) + 1 : Int) : Rat) ≤ X m * (u2 g : Rat) ∧ X m * (u2 g : Rat) ≤ ((z * u2 (g - b) + u2 (g - b) - 1 : Int) : Rat)
theorem Gap.decides {X : Nat → Rat} {b g w : Nat} {lo hi : Int} (h0 : Gap X b g) (h : ∃ N : Nat, ∀ m, N ≤ m → Enc (u2 w) lo hi (X m)) (hb : g ≤ w) (hw : hi - lo < u2 (w - g)) : lo / u2 (w - b) = hi / u2 (w - b) := by
 obtain ⟨hbg, z, N, g0⟩ := h0
 obtain ⟨M, h⟩ := h
 have g1 := g0 (max N M) xq
 have h1 := h (max N M) xq
 have e : u2 w = u2 g * u2 (w - g) := by rw [← u2_add, show g + (w - g) = w by omega]
 have e2 : u2 (w - b) = u2 (g - b) * u2 (w - g) := by rw [← u2_add, show g - b + (w - g) = w - b by omega]
 have hs := u2_pos (w - g)
 have hB := u2_pos (g - b)
 generalize u2 (w - g) = s at *
 generalize u2 (g - b) = B at *
 obtain ⟨h4, h5⟩ := h1
 rw [e, Rat.intCast_mul, ← Rat.mul_assoc] at h4 h5
 have r1 := Rat.mul_le_mul_of_nonneg_right g1.1 (Rat.le_of_lt (castI_pos hs))
 have r2 := Rat.mul_le_mul_of_nonneg_right g1.2 (Rat.le_of_lt (castI_pos hs))
 rw [← Rat.intCast_mul] at r1 r2
 have k1 := Rat.intCast_le_intCast.1 (Rat.le_trans r1 h5)
 have k2 := Rat.intCast_le_intCast.1 (Rat.le_trans h4 r2)
 have hS : 0 < B * s := Int.mul_pos hB hs
 have e3 : (z * B + 1) * s = z * (B * s) + s := by grind
 have e4 : (z * B + B - 1) * s = z * (B * s) + B * s - s := by grind
 rw [e3] at k1
 rw [e4] at k2
 have f : ∀ y : Int, z * (B * s) ≤ y → y < z * (B * s) + B * s → y / u2 (w - b) = z := fun y h1 h2 => by
  rw [e2]
  have a1 := Int.le_ediv_of_mul_le hS h1
  have a2 : y / (B * s) < z + 1 := Int.ediv_lt_of_lt_mul hS (by rw [Int.add_mul, Int.one_mul]; exact h2)
  omega
 have hle : lo ≤ hi := (h (max N M) xq).le
 rw [f lo xq xq, f hi xq xq]
theorem Gap.lower {X : Nat → Rat} {b c g : Nat} (h : Gap X b g) (hc : c ≤ b) : Gap X c g := by
 obtain ⟨hbg, z, N, h⟩ := h
 have e : u2 (g - c) = u2 (g - b) * u2 (b - c) := by rw [← u2_add, show g - b + (b - c) = g - c by omega]
 have hB := u2_pos (g - b)
 have hC := u2_pos (b - c)
 have h1 := (fl_mul (a := z) hC).1
 have h2 := Int.lt_ediv_add_one_mul_self z hC
 refine ⟨by omega, z / u2 (b - c), N, fun m hm => ?_⟩
 have h3 := h m hm
 rw [e]
 generalize z / u2 (b - c) = y at *
 generalize u2 (b - c) = C at *
 generalize u2 (g - b) = B at *
 refine ⟨Rat.le_trans (Rat.intCast_le_intCast.2 ?_) h3.1, Rat.le_trans h3.2 (Rat.intCast_le_intCast.2 ?_)⟩
 ·have := Int.mul_le_mul_of_nonneg_right h1 (Int.le_of_lt hB)
  have e2 : y * (B * C) = y * C * B := by grind
  omega
 ·have := Int.mul_le_mul_of_nonneg_right (show z + 1 ≤ (y + 1) * C by omega) (Int.le_of_lt hB)
  have e2 : y * (B * C) + B * C = (y + 1) * C * B := by grind
  rw [Int.add_mul] at this
  omega
theorem Gap.of {X : Nat → Rat} {b g w : Nat} {lo hi : Int} (h : ∃ N : Nat, ∀ m, N ≤ m → Enc (u2 w) lo hi (X m)) (z : Int) (hb : b ≤ g) (hg : g ≤ w) (h1 : (z * u2 (g - b) + 1) * u2 (w - g) ≤ lo) (h2 : hi ≤ (z * u2 (g - b) + u2 (g - b) - 1) * u2 (w - g)) : Gap X b g := by
 obtain ⟨N, h⟩ := h
 have e : u2 w = u2 g * u2 (w - g) := by rw [← u2_add, show g + (w - g) = w by omega]
 have hs := castI_pos (u2_pos (w - g))
 refine ⟨hb, z, N, fun m hm => ?_⟩
 obtain ⟨h4, h5⟩ := h m hm
 rw [e, Rat.intCast_mul, ← Rat.mul_assoc] at h4 h5
 have k1 := Rat.le_trans (Rat.intCast_le_intCast.2 h1) h4
 have k2 := Rat.le_trans h5 (Rat.intCast_le_intCast.2 h2)
 rw [Rat.intCast_mul] at k1 k2
 exact ⟨Rat.le_of_mul_le_mul_right k1 hs, Rat.le_of_mul_le_mul_right k2 hs⟩
end Nt
end Go.Proofs.YtbolmkfphieogaaGreat
namespace Go.Proofs.YtbolmkfphieogaaGreat
set_option linter.unusedVariables false
namespace Nt
def force {α : Type} (n : Nat) (k : Nat → α) : α := Nat.rec (k 0) (fun m _ => k (m + 1)) n
theorem force_eq {α : Type} (n : Nat) (k : Nat → α) : force n k = k n := by cases n <;> rfl
def cdn (a d : Nat) : Nat := (a + d - 1) / d
theorem cdn_cdiv {a d : Nat} (hd : 0 < d) : ((cdn a d : Nat) : Int) = cdiv (a : Int) (d : Int) := by
 have h1 := cd_mul (b := (a : Int)) (d := (d : Int)) xq
 have h2 := Nat.div_mul_le_self (a + d - 1) d
 have h3 := Nat.lt_div_mul_add (a := a + d - 1) hd
 have e : cdn a d = (a + d - 1) / d := rfl
 rw [← e] at h2 h3
 have k1 : ((cdn a d : Nat) : Int) * (d : Int) < (cdiv (a : Int) (d : Int) + 1) * (d : Int) := by
  rw [Int.add_mul, ← Int.natCast_mul]; omega
 have k2 : cdiv (a : Int) (d : Int) * (d : Int) < (((cdn a d : Nat) : Int) + 1) * (d : Int) := by
  rw [Int.add_mul, ← Int.natCast_mul]; omega
 have k3 := Int.lt_of_mul_lt_mul_right k1 xq
 have k4 := Int.lt_of_mul_lt_mul_right k2 xq
 omega
def sumAB (a : Nat → Rat) : Nat → Rat × Rat
 | 0 => (0, 0)
 | n + 1 => ((sumAB a n).2, (sumAB a n).1 + a n)
theorem alt_AB (a : Nat → Rat) (n : Nat) : alt a n = sgn n * ((sumAB a n).1 - (sumAB a n).2) := by
 induction n with
 | zero => show (0 : Rat) = 1 * (0 - 0); decide +kernel
 | succ n ih =>
  rw [alt_s, ih, sgn_s]
  show _ = -sgn n * ((sumAB a n).2 - ((sumAB a n).1 + a n))
  grind
structure EvS where
 (l h el eh ol oh : Nat)
def EvI (U : Int) (a t : Nat → Rat) (k : Nat) (s : EvS) : Prop := Enc U (s.l : Int) (s.h : Int) (t k) ∧ Enc U (s.el : Int) (s.eh : Int) (sumAB a k).1 ∧ Enc U (s.ol : Int) (s.oh : Int) (sumAB a k).2
def atEv (nn : Nat) (r : Nat) : Nat → Nat → Nat → Nat → Nat → Nat → Nat → EvS :=
 Nat.rec (fun _ l h el eh ol oh => ⟨l, h, el, eh, ol, oh⟩)
  (fun _ ih k l h el eh ol oh =>
   force (l / nn) fun l' => force (cdn h nn) fun h' => force (2 * k + 1) fun d => force (l / d) fun tl => force (cdn h d) fun th =>
   force (el + tl) fun el' => force (eh + th) fun eh' => ih (k + 1) l' h' ol oh el' eh') r
theorem Enc.overN {U : Int} {a b d : Nat} {x : Rat} (h : Enc U (a : Int) (b : Int) x) (hd : 0 < d) : Enc U ((a / d : Nat) : Int) ((cdn b d : Nat) : Int) (x / (d : Rat)) := by
 rw [cdn_cdiv hd]
 exact h.over (d := (d : Int)) xq
theorem atEv_ok {n : Nat} (hn : 0 < n) {U : Int} : ∀ r k l h el eh ol oh, EvI U (atT n) (atP n) k ⟨l, h, el, eh, ol, oh⟩ → EvI U (atT n) (atP n) (k + r) (atEv (n * n) r k l h el eh ol oh) := by
 intro r
 induction r with
 | zero => intro k l h el eh ol oh hi; exact hi
 | succ r ih =>
  intro k l h el eh ol oh hi
  obtain ⟨h1, h2, h3⟩ := hi
  have t : Enc U ((l / (2 * k + 1) : Nat) : Int) ((cdn h (2 * k + 1) : Nat) : Int) (atT n k) := h1.overN xq
  have p : Enc U ((l / (n * n) : Nat) : Int) ((cdn h (n * n) : Nat) : Int) (atP n (k + 1)) := h1.overN (Nat.mul_pos hn hn)
  have e0 : atEv (n * n) (r + 1) k l h el eh ol oh = force (l / (n * n)) fun l' => force (cdn h (n * n)) fun h' => force (2 * k + 1) fun d => force (l / d) fun tl => force (cdn h d) fun th => force (el + tl) fun el' => force (eh + th) fun eh' => atEv (n * n) r (k + 1) l' h' ol oh el' eh' := rfl
  have e : atEv (n * n) (r + 1) k l h el eh ol oh = atEv (n * n) r (k + 1) (l / (n * n)) (cdn h (n * n)) ol oh (el + l / (2 * k + 1)) (eh + cdn h (2 * k + 1)) := by
   rw [e0]; simp only [force_eq]
  rw [show k + (r + 1) = k + 1 + r by omega, e]
  exact ih (k + 1) _ _ _ _ _ _ ⟨p, h3, h2.add t⟩
theorem ev_late {U : Int} {a : Nat → Rat} {k j0 e : Nat} {s : EvS} (hU : 0 < U) (h0 : ∀ j, 0 ≤ a j) (hd : ∀ j, j0 ≤ j → a (j + 1) ≤ a j) (hk : j0 ≤ k) (hk2 : k % 2 = 0) (h1 : Enc U (s.el : Int) (s.eh : Int) (sumAB a k).1) (h2 : Enc U (s.ol : Int) (s.oh : Int) (sumAB a k).2) (he : a k * (U : Rat) ≤ (e : Rat)) : ∀ m, k ≤ m → Enc U ((s.el : Int) - (s.oh : Int) - (e : Int)) ((s.eh : Int) - (s.ol : Int) + (e : Int)) (alt a m) := by
 intro m hm
 have h3 := alt_near h0 hd hk hm
 have h4 := h1.sub h2
 have e4 : (sumAB a k).1 - (sumAB a k).2 = alt a k := by
  rw [alt_AB]; unfold sgn; rw [if_pos hk2, Rat.one_mul]
 rw [e4] at h4
 obtain ⟨g1, g2⟩ := h4
 have hUr := Rat.le_of_lt (castI_pos hU)
 have k3 := Rat.mul_le_mul_of_nonneg_right h3.1 hUr
 have k4 := Rat.mul_le_mul_of_nonneg_right h3.2 hUr
 have ee : (((e : Nat) : Int) : Rat) = (e : Rat) := rfl
 unfold Enc
 rw [Rat.intCast_sub ((s.el : Int) - (s.oh : Int)), Rat.intCast_add, ee]
 constructor <;> grind
def atB (n w r : Nat) : Int × Int :=
 let x := atEv (n * n) r 0 (2 ^ w / n) (cdn (2 ^ w) n) 0 0 0 0
 ((x.el : Int) - (x.oh : Int) - (x.h : Int), (x.eh : Int) - (x.ol : Int) + (x.h : Int))
theorem Enc.zero (U : Int) : Enc U ((0 : Nat) : Int) ((0 : Nat) : Int) 0 := by
 show ((0 : Int) : Rat) ≤ 0 * (U : Rat) ∧ (0 : Rat) * (U : Rat) ≤ ((0 : Int) : Rat)
 rw [Rat.zero_mul]
 exact ⟨Rat.le_refl, Rat.le_refl⟩
theorem atB_ok {n w r : Nat} (hn : 0 < n) (hr : r % 2 = 0) : ∀ m, r ≤ m → Enc (u2 w) (atB n w r).1 (atB n w r).2 (alt (atT n) m) := by
 have h1 : Enc (u2 w) ((2 ^ w / n : Nat) : Int) ((cdn (2 ^ w) n : Nat) : Int) (atP n 0) := Enc.overN (a := 2 ^ w) (b := 2 ^ w) Enc.one hn
 obtain ⟨e2, e3, e4⟩ := atEv_ok hn (U := u2 w) r 0 _ _ _ _ _ _ ⟨h1, Enc.zero _, Enc.zero _⟩
 rw [Nat.zero_add] at e2 e3 e4
 intro m hm
 refine ev_late (u2_pos w) (atT_nn hn) (fun j _ => atT_le hn j) (Nat.zero_le _) hr e3 e4 ?_ m hm
 have hle : atT n r ≤ atP n r := div_le_self (atP_nn hn r) (cast_one xq)
 exact Rat.le_trans (Rat.mul_le_mul_of_nonneg_right hle (Rat.le_of_lt (castI_pos (u2_pos w)))) e2.2
def piB (w r s : Nat) : Int × Int :=
 let a := atB 5 w r
 let b := atB 239 w s
 (a.1 * 16 - b.2 * 4, a.2 * 16 - b.1 * 4)
theorem piB_ok {w r s : Nat} (hr : r % 2 = 0) (hs : s % 2 = 0) : ∀ m, r + s ≤ m → Enc (u2 w) (piB w r s).1 (piB w r s).2 (piN m) := by
 intro m hm
 have e := ((atB_ok (n := 5) (w := w) yq hr m xq).times (n := 16)).sub ((atB_ok (n := 239) (w := w) yq hs m xq).times (n := 4))
 have e2 : piN m = alt (atT 5) m * ((16 : Nat) : Rat) - alt (atT 239) m * ((4 : Nat) : Rat) := by
  unfold piN
  rw [Rat.mul_comm, Rat.mul_comm 4]; rfl
 rw [e2]; exact e
def csEv (U ql qh r : Nat) : Nat → Nat → Nat → Nat → Nat → Nat → Nat → EvS :=
 Nat.rec (fun _ l h el eh ol oh => ⟨l, h, el, eh, ol, oh⟩)
  (fun _ ih k l h el eh ol oh =>
   force ((2 * k + 2) * (2 * k + 1)) fun d => force (l * ql / U / d) fun l' => force (cdn (cdn (h * qh) U) d) fun h' =>
   force (el + l) fun el' => force (eh + h) fun eh' => ih (k + 1) l' h' ol oh el' eh') r
theorem Enc.prodN {U a b c d : Nat} {x y : Rat} (hU : 0 < U) (h : Enc (U : Int) (a : Int) (b : Int) x) (k : Enc (U : Int) (c : Int) (d : Int) y) : Enc (U : Int) ((a * c / U : Nat) : Int) ((cdn (b * d) U : Nat) : Int) (x * y) := by
 rw [cdn_cdiv hU]
 exact h.prod k xq xq xq
theorem csEv_ok {U ql qh : Nat} (hU : 0 < U) {y : Rat} (hq : Enc (U : Int) (ql : Int) (qh : Int) (y * y)) : ∀ r k l h el eh ol oh, EvI (U : Int) (csT y) (csT y) k ⟨l, h, el, eh, ol, oh⟩ → EvI (U : Int) (csT y) (csT y) (k + r) (csEv U ql qh r k l h el eh ol oh) := by
 intro r
 induction r with
 | zero => intro k l h el eh ol oh hi; exact hi
 | succ r ih =>
  intro k l h el eh ol oh hi
  obtain ⟨h1, h2, h3⟩ := hi
  have p : Enc (U : Int) ((l * ql / U / ((2 * k + 2) * (2 * k + 1)) : Nat) : Int) ((cdn (cdn (h * qh) U) ((2 * k + 2) * (2 * k + 1)) : Nat) : Int) (csT y (k + 1)) := (Enc.prodN hU h1 hq).overN (Nat.mul_pos xq xq)
  have e0 : csEv U ql qh (r + 1) k l h el eh ol oh = force ((2 * k + 2) * (2 * k + 1)) fun d => force (l * ql / U / d) fun l' => force (cdn (cdn (h * qh) U) d) fun h' => force (el + l) fun el' => force (eh + h) fun eh' => csEv U ql qh r (k + 1) l' h' ol oh el' eh' := rfl
  have e : csEv U ql qh (r + 1) k l h el eh ol oh = csEv U ql qh r (k + 1) (l * ql / U / ((2 * k + 2) * (2 * k + 1))) (cdn (cdn (h * qh) U) ((2 * k + 2) * (2 * k + 1))) ol oh (el + l) (eh + h) := by
   rw [e0]; simp only [force_eq]
  rw [show k + (r + 1) = k + 1 + r by omega, e]
  exact ih (k + 1) _ _ _ _ _ _ ⟨p, h3, h2.add h1⟩
def csX (U pl ph r p q : Nat) : EvS :=
 force (pl * p / q) fun yl => force (cdn (ph * p) q) fun yh => force (yl * yl / U) fun ql => force (cdn (yh * yh) U) fun qh => csEv U ql qh r 0 U U 0 0 0 0
def xLo (x : EvS) : Int := (x.el : Int) - (x.oh : Int) - (x.h : Int)
def xHi (x : EvS) : Int := (x.eh : Int) - (x.ol : Int) + (x.h : Int)
theorem csX_ok {w pl ph r p q N : Nat} (hpi : ∀ m, N ≤ m → Enc (u2 w) (pl : Int) (ph : Int) (piN m)) (hq : 0 < q) (hp : 2 * p ≤ q) (hr : 1 ≤ r) (hr2 : r % 2 = 0) : ∀ m, max N r ≤ m → Enc (u2 w) (xLo (csX (2 ^ w) pl ph r p q)) (xHi (csX (2 ^ w) pl ph r p q)) (coN p q m) := by
 intro m hm
 have hU : 0 < 2 ^ w := Nat.pow_pos yq
 have hy := csY_b (m := m) hq hp xq
 have hyy : csY p q m * csY p q m ≤ 12 := Rat.le_trans (mulm hy.2 hy.2 hy.1 hy.1) (by decide +kernel)
 have y1 : Enc (((2 ^ w : Nat) : Nat) : Int) ((pl * p / q : Nat) : Int) ((cdn (ph * p) q : Nat) : Int) (csY p q m) := by
  have h1 := (hpi m xq).times (n := p)
  rw [← Int.natCast_mul, ← Int.natCast_mul] at h1
  exact h1.overN hq
 have q1 := Enc.prodN hU y1 y1
 have hE := csEv_ok hU q1 r 0 (2 ^ w) (2 ^ w) 0 0 0 0 ⟨Enc.one, Enc.zero _, Enc.zero _⟩
 rw [Nat.zero_add] at hE
 obtain ⟨e1, e2, e3⟩ := hE
 unfold csX
 simp only [force_eq]
 exact ev_late (u2_pos w) (csT_nn _) (csT_le hyy) hr hr2 e2 e3 e1.2 m xq
end Nt
end Go.Proofs.YtbolmkfphieogaaGreat
namespace Go.Proofs.YtbolmkfphieogaaGreat
set_option linter.unusedVariables false
set_option maxRecDepth 20000
namespace Nt
theorem pi_ev : piB 340 84 24 = (7036365627942155232378451105383714118229498621515162138157626346021022039982006998243213719805928137372, 7036365627942155232378451105383714118229498621515162138157626346021022039982006998243213719805928138852) := by decide +kernel
def pl8 : Nat := 1069028584064966747859680373161870783300
def ph8 : Nat := 1069028584064966747859680373161870783301
theorem pi_340 : ∀ m, 110 ≤ m → Enc (u2 340) 7036365627942155232378451105383714118229498621515162138157626346021022039982006998243213719805928137372 7036365627942155232378451105383714118229498621515162138157626346021022039982006998243213719805928138852 (piN m) := fun m hm => by
 have h := piB_ok (w := 340) (r := 84) (s := 24) yq yq m xq
 rw [pi_ev] at h
 exact h
theorem pi_128 : ∀ m, 110 ≤ m → Enc (u2 128) (pl8 : Int) (ph8 : Int) (piN m) := fun m hm => by
 have h := pi_340 m hm
 have hp := castI_pos (u2_pos 212)
 have e : u2 340 = u2 128 * u2 212 := by rw [← u2_add]
 obtain ⟨h1, h2⟩ := h
 rw [e, Rat.intCast_mul, ← Rat.mul_assoc] at h1 h2
 have k1 : ((pl8 : Int) * u2 212 : Int) ≤ 7036365627942155232378451105383714118229498621515162138157626346021022039982006998243213719805928137372 := by decide +kernel
 have k2 : (7036365627942155232378451105383714118229498621515162138157626346021022039982006998243213719805928138852 : Int) ≤ (ph8 : Int) * u2 212 := by decide +kernel
 have r1 := Rat.le_trans (Rat.intCast_le_intCast.2 k1) h1
 have r2 := Rat.le_trans h2 (Rat.intCast_le_intCast.2 k2)
 rw [Rat.intCast_mul] at r1 r2
 exact ⟨Rat.le_of_mul_le_mul_right r1 hp, Rat.le_of_mul_le_mul_right r2 hp⟩
theorem gap_pi : Gap piN 256 260 := Gap.of ⟨110, pi_340⟩ 363771576891766324280234942777729862653393377328392429958772151117938894466185 yq yq (by decide +kernel) (by decide +kernel)
def cs8 (p q : Nat) : EvS := csX (2 ^ 128) pl8 ph8 16 p q
theorem cs8_ok {p q : Nat} (hq : 0 < q) (hp : 2 * p ≤ q) : ∃ N : Nat, ∀ m, N ≤ m → Enc (u2 128) (xLo (cs8 p q)) (xHi (cs8 p q)) (coN p q m) := ⟨_, csX_ok pi_128 hq hp yq yq⟩
def gapX (B S T : Nat) (x : EvS) : Bool :=
 force (x.el - x.oh - x.h) fun lo => force (x.eh + x.h - x.ol) fun hi => force (lo / T) fun z =>
  Nat.ble 1 lo && (Nat.ble ((z * B + 1) * S) lo && Nat.ble hi ((z * B + B - 1) * S))
def gapB (p q b g : Nat) : Bool := gapX (2 ^ (g - b)) (2 ^ (128 - g)) (2 ^ (128 - b)) (cs8 p q)
theorem gapB_ok {p q b g : Nat} (h : gapB p q b g = true) (hq : 0 < q) (hp : 2 * p ≤ q) (hb : b ≤ g) (hg : g ≤ 128) : Gap (coN p q) b g := by
 unfold gapB gapX at h
 simp only [force_eq, Bool.and_eq_true, Nat.ble_eq] at h
 obtain ⟨h1, h2, h3⟩ := h
 have k := cs8_ok hq hp
 generalize cs8 p q = x at *
 have e1 : xLo x = ((x.el - x.oh - x.h : Nat) : Int) := by unfold xLo; omega
 have e2 : xHi x ≤ ((x.eh + x.h - x.ol : Nat) : Int) := by unfold xHi; omega
 generalize x.el - x.oh - x.h = lo at *
 generalize x.eh + x.h - x.ol = hi at *
 have hB := Nat.pow_pos (n := g - b) (show 0 < 2 by decide)
 refine Gap.of k ((lo / 2 ^ (128 - b) : Nat) : Int) hb hg ?_ ?_
 ·rw [e1]
  have := Int.ofNat_le.2 h2
  rw [Int.natCast_mul, Int.natCast_add, Int.natCast_mul] at this
  exact this
 ·refine Int.le_trans e2 ?_
  have := Int.ofNat_le.2 h3
  rw [Int.natCast_mul, Int.natCast_sub xq, Int.natCast_add, Int.natCast_mul] at this
  exact this
def gapP (b g q n : Nat) : Bool := Nat.rec true (fun p ih => (bif Nat.ble (2 * p + 3) q then bif Nat.beq (3 * p + 3) q then true else gapB (p + 1) q b g else true) && ih) n
def gapN (b g n : Nat) : Bool := Nat.rec true (fun q ih => gapP b g (q + 1) ((q + 1) / 2) && ih) n
theorem gapP_s (b g q n : Nat) : gapP b g q (n + 1) = ((bif Nat.ble (2 * n + 3) q then bif Nat.beq (3 * n + 3) q then true else gapB (n + 1) q b g else true) && gapP b g q n) := rfl
theorem gapN_s (b g n : Nat) : gapN b g (n + 1) = (gapP b g (n + 1) ((n + 1) / 2) && gapN b g n) := rfl
theorem gapP_ok {b g q : Nat} : ∀ n p, gapP b g q n = true → 1 ≤ p → p ≤ n → 2 * p < q → 3 * p ≠ q → gapB p q b g = true := by
 intro n
 induction n with
 | zero => intro p _ h1 h2; omega
 | succ n ih =>
  intro p h h1 h2 h3 h4
  have h' := h
  rw [gapP_s, Bool.and_eq_true] at h'
  by_cases e : p = n + 1
  ·subst e
   have h5 := h'.1
   rw [show Nat.ble (2 * n + 3) q = true by rw [Nat.ble_eq]; omega, show Nat.beq (3 * n + 3) q = false by
    cases hh : Nat.beq (3 * n + 3) q with
    | false => rfl
    | true => exact absurd (Nat.eq_of_beq_eq_true hh) xq, cond_true, cond_false] at h5
   exact h5
  ·exact ih p h'.2 h1 xq h3 h4
theorem gapN_ok {b g : Nat} : ∀ n q, gapN b g n = true → 1 ≤ q → q ≤ n → gapP b g q (q / 2) = true := by
 intro n
 induction n with
 | zero => intro q _ h1 h2; omega
 | succ n ih =>
  intro q h h1 h2
  have h' := h
  rw [gapN_s, Bool.and_eq_true] at h'
  by_cases e : q = n + 1
  ·subst e; exact h'.1
  ·exact ih q h'.2 h1 xq
def GapQ (q b : Nat) : Prop := ∃ g, g ≤ 300 ∧ ∀ p, 1 ≤ p → 2 * p < q → 3 * p ≠ q → Gap (coN p q) b g
theorem gapQ_of {b g n q : Nat} (h : gapN b g n = true) (hb : b ≤ g) (hg : g ≤ 128) (h1 : 1 ≤ q) (hq : q ≤ n) : GapQ q b :=
 ⟨g, by omega, fun p hp1 hp h3 => gapB_ok (gapP_ok _ p (gapN_ok n q h xq hq) hp1 xq hp h3) xq xq hb hg⟩
theorem GapQ.lower {q b c : Nat} (h : GapQ q b) (hc : c ≤ b) : GapQ q c := by
 obtain ⟨g, hg, h⟩ := h
 exact ⟨g, hg, fun p h1 h2 h3 => (h p h1 h2 h3).lower hc⟩
theorem gap_all : gapN 59 70 80 = true := by decide +kernel
theorem gapQ_80 {q b : Nat} (h1 : 1 ≤ q) (hq : q ≤ 80) (hb : b ≤ 59) : GapQ q b := (gapQ_of gap_all yq yq h1 hq).lower hb
theorem coN_scale {p q k : Nat} (hk : 0 < k) (hq : 0 < q) : coN (k * p) (k * q) = coN p q := by
 funext m
 unfold coN csY
 congr 2
 rw [Rat.natCast_mul, Rat.natCast_mul]
 have a := cast_pos hk
 have b := cast_pos hq
 have a' : (k : Rat) ≠ 0 := by grind
 have b' : (q : Rat) ≠ 0 := by grind
 grind
theorem Gap.scale {p q k b g : Nat} (hk : 0 < k) (hq : 0 < q) : Gap (coN (k * p) (k * q)) b g ↔ Gap (coN p q) b g := by rw [coN_scale hk hq]
end Nt
end Go.Proofs.YtbolmkfphieogaaGreat
namespace Go.Proofs.YtbolmkfphieogaaGreat
set_option linter.unusedVariables false
namespace Nt
theorem lo_le (a b : Rat) : lo a b ≤ a ∧ lo a b ≤ b := by unfold lo; grind
theorem le_hi (a b : Rat) : a ≤ hi a b ∧ b ≤ hi a b := by unfold hi; grind
theorem lo4_le (a b c d : Rat) : lo4 a b c d ≤ a ∧ lo4 a b c d ≤ b ∧ lo4 a b c d ≤ c ∧ lo4 a b c d ≤ d := by unfold lo4 lo; grind
theorem le_hi4 (a b c d : Rat) : a ≤ hi4 a b c d ∧ b ≤ hi4 a b c d ∧ c ≤ hi4 a b c d ∧ d ≤ hi4 a b c d := by unfold hi4 hi; grind
section
variable {a1 a2 b1 b2 c1 c2 d1 d2 : Rat}
def hl (a b c d : Rat) : Rat := lo (lo a b) (lo c d)
def hh (a b c d : Rat) : Rat := hi (hi a b) (hi c d)
theorem lo4_hi4 (a b c d : Rat) : lo4 a b c d ≤ hi4 a b c d := by
 have h1 := lo4_le a b c d
 have h2 := le_hi4 a b c d
 grind
def sql (a b : Rat) : Rat := if sgI a b = 0 then 0 else lo (a * a) (b * b)
def sqh (a b : Rat) : Rat := hi (a * a) (b * b)
end
end Nt
end Go.Proofs.YtbolmkfphieogaaGreat
namespace Go.Proofs.YtbolmkfphieogaaGreat
set_option linter.unusedVariables false
namespace Nt
theorem flr_div {z d : Int} (hd : 0 < d) : flr ((z : Rat) / (d : Rat)) = z / d := by
 obtain ⟨D, rfl⟩ : ∃ D : Nat, d = (D : Int) := ⟨d.toNat, by omega⟩
 rw [mk_div, flr_mk xq]
def gr (w : Nat) (a : Int) : Rat := (a : Rat) / (u2 w : Rat)
theorem gr_mul (w : Nat) (a : Int) : gr w a * (u2 w : Rat) = (a : Rat) := div_mul_c (castI_pos (u2_pos w))
theorem gr_mono {w : Nat} {a b : Int} (h : a ≤ b) : gr w a ≤ gr w b := div_mono (castI_pos (u2_pos w)) (Rat.intCast_le_intCast.2 h)
theorem gr_le {w : Nat} {a b : Int} : gr w a ≤ gr w b ↔ a ≤ b := by
 refine ⟨fun h => ?_, gr_mono⟩
 have := Rat.mul_le_mul_of_nonneg_right h (Rat.le_of_lt (castI_pos (u2_pos w)))
 rw [gr_mul, gr_mul] at this
 exact Rat.intCast_le_intCast.1 this
theorem gr_neg (w : Nat) (a : Int) : -gr w a = gr w (-a) := by unfold gr; rw [Rat.intCast_neg, Rat.div_def, Rat.div_def, Rat.neg_mul]
theorem gr_add (w : Nat) (a b : Int) : gr w a + gr w b = gr w (a + b) := by unfold gr; rw [Rat.intCast_add, Rat.div_def, Rat.div_def, Rat.div_def, Rat.add_mul]
theorem gr_zero (w : Nat) : gr w 0 = 0 := by unfold gr; rw [Rat.div_def]; exact Rat.zero_mul _
theorem gr_one (w : Nat) : gr w (u2 w) = 1 := Rat.mul_inv_cancel _ (by have := castI_pos (u2_pos w); grind)
structure AtF (n w k : Nat) (a b c d : Int) : Prop where
 p : Enc (u2 w) a b (atP n k)
 s : Enc (u2 w) c d (alt (atT n) k)
 p0 : 0 ≤ a
 p1 : 1 ≤ b
 ab : a ≤ b
 pw : b - a ≤ 3
 sw : d - c ≤ 3 * (k : Int)
 cd : c ≤ d
 fall : b * u2 k ≤ u2 w
theorem AtF.start {n w : Nat} (hn : 0 < n) : AtF n w 0 (u2 w / (n : Int)) (cdiv (u2 w) (n : Int)) 0 0 := by
 have h := AtI.start (w := w) hn
 refine ⟨h.p, ?_, h.p0, h.p1, h.p.le, h.pw, by omega, by omega, h.fall⟩
 show ((0 : Int) : Rat) ≤ 0 * (u2 w : Rat) ∧ (0 : Rat) * (u2 w : Rat) ≤ ((0 : Int) : Rat)
 rw [Rat.zero_mul]
 exact ⟨Rat.le_refl, Rat.le_refl⟩
section
variable {n w k : Nat} {a b c d : Int}
theorem AtF.kw (h : AtF n w k a b c d) : k ≤ w := by
 refine u2_le_iff (Int.le_trans ?_ h.fall)
 have := Int.mul_le_mul_of_nonneg_right h.p1 (Int.le_of_lt (u2_pos k))
 omega
theorem AtF.term (h : AtF n w k a b c d) : Enc (u2 w) (a / ((2 * k + 1 : Nat) : Int)) (cdiv b ((2 * k + 1 : Nat) : Int)) (atT n k) := h.p.over (d := ((2 * k + 1 : Nat) : Int)) xq
theorem AtF.go {c' d' : Int} (h : AtF n w k a b c d) (hn : 2 ≤ n) (hb : ((2 * k + 1 : Nat) : Int) < b)
  (hs : k % 2 = 0 ∧ c' = c + a / ((2 * k + 1 : Nat) : Int) ∧ d' = d + cdiv b ((2 * k + 1 : Nat) : Int) ∨ ¬ k % 2 = 0 ∧ c' = c - cdiv b ((2 * k + 1 : Nat) : Int) ∧ d' = d - a / ((2 * k + 1 : Nat) : Int)) :
  AtF n w (k + 1) (a / ((n * n : Nat) : Int)) (cdiv b ((n * n : Nat) : Int)) c' d' ∧ cdiv b ((n * n : Nat) : Int) < b := by
 have hnn : 4 ≤ n * n := Nat.mul_le_mul hn hn
 have h0 := h.p1
 have h1 : 1 ≤ cdiv b ((n * n : Nat) : Int) := cd_ge (c := 0) xq xq
 have h3 := cd_self (b := b) (d := ((n * n : Nat) : Int)) xq xq
 have h4 := cd_half (b := b) (d := ((n * n : Nat) : Int)) xq xq
 have hp : Enc (u2 w) (a / ((n * n : Nat) : Int)) (cdiv b ((n * n : Nat) : Int)) (atP n (k + 1)) := h.p.over xq
 have ht := h.term
 have htw := w3 (a := a) (b := b) (d := ((2 * k + 1 : Nat) : Int)) h.pw xq
 have hsw := h.sw
 have hS : Enc (u2 w) c' d' (alt (atT n) (k + 1)) := by
  rcases hs with ⟨e, rfl, rfl⟩ | ⟨e, rfl, rfl⟩
  ·have e2 : alt (atT n) (k + 1) = alt (atT n) k + atT n k := by rw [alt_s]; unfold sgn; rw [if_pos e]; grind
   rw [e2]; exact h.s.add ht
  ·have e2 : alt (atT n) (k + 1) = alt (atT n) k - atT n k := by rw [alt_s]; unfold sgn; rw [if_neg e]; grind
   rw [e2]; exact h.s.sub ht
 refine ⟨⟨hp, hS, fl_nn h.p0 xq, h1, hp.le, w3 h.pw xq, by rcases hs with ⟨e, rfl, rfl⟩ | ⟨e, rfl, rfl⟩ <;> omega, hS.le, ?_⟩, by omega⟩
 have h5 : u2 (k + 1) = u2 k * 2 := u2_add k 1
 have h6 := Int.mul_le_mul_of_nonneg_right h4 (Int.le_of_lt (u2_pos k))
 have h7 := h.fall
 rw [h5]
 have e : cdiv b ((n * n : Nat) : Int) * (u2 k * 2) = 2 * cdiv b ((n * n : Nat) : Int) * u2 k := by grind
 rw [e]; omega
theorem AtF.out (h : AtF n w k a b c d) (hn : 0 < n) (hb : b ≤ ((2 * k + 1 : Nat) : Int)) : AtR n w (c - cdiv b ((2 * k + 1 : Nat) : Int)) (d + cdiv b ((2 * k + 1 : Nat) : Int)) := by
 have ht1 : cdiv b ((2 * k + 1 : Nat) : Int) ≤ 1 := cd_le xq xq
 have ht0 : 1 ≤ cdiv b ((2 * k + 1 : Nat) : Int) := cd_ge (c := 0) xq (by have := h.p1; omega)
 have e : cdiv b ((2 * k + 1 : Nat) : Int) = 1 := by omega
 refine ⟨⟨k, fun m hm => ?_⟩, by have := h.kw; have := h.sw; omega⟩
 have h1 := alt_near (j0 := 0) (atT_nn hn) (fun j _ => atT_le hn j) (Nat.zero_le _) hm
 rw [e]
 refine h.s.near h1.1 h1.2 ?_ (u2_pos w)
 have h2 := h.term.2
 rw [e] at h2
 exact h2
theorem AtF.bd (h : AtF n w k a b c d) (hn : 0 < n) : b ≤ u2 w ∧ -(3 * (w : Int)) ≤ c ∧ c ≤ u2 w ∧ 0 ≤ d ∧ d ≤ u2 w + 3 * (w : Int) := by
 have h3 : 0 ≤ alt (atT n) k ∧ alt (atT n) k ≤ 1 := by
  cases k with
  | zero => exact ⟨Rat.le_refl, by show (0 : Rat) ≤ 1; decide⟩
  | succ k =>
   have h1 := atT_b (n := n) hn (m := k + 1) xq
   have h2 := atT_le hn 0
   refine ⟨by grind, Rat.le_trans h1.2 ?_⟩
   refine Rat.le_trans (div_le_self (atP_nn hn 0) (cast_one xq)) ?_
   show 1 / (n : Rat) ≤ 1
   exact div_le_self yq (cast_one hn)
 have hU := castI_pos (u2_pos w)
 have h4 : alt (atT n) k * (u2 w : Rat) ≤ (u2 w : Rat) := by
  have := Rat.mul_le_mul_of_nonneg_right h3.2 (Rat.le_of_lt hU)
  rwa [Rat.one_mul] at this
 have h5 := h.s.lo_le h4
 have h6 := h.s.nonneg h3.1 (u2_pos w)
 have h7 := h.sw
 have h8 := h.kw
 have h9 := h.fall
 have h10 := Int.mul_le_mul_of_nonneg_left (show 1 ≤ u2 k by have := u2_pos k; omega) (show 0 ≤ b by have := h.p1; omega)
 refine ⟨by omega, by omega, h5, h6, by omega⟩
end
structure CsF (p q w k : Nat) (tl th c d : Int) : Prop where
 t : CsT p q w k tl th
 s : ∃ N : Nat, ∀ m, N ≤ m → Enc (u2 w) c d (alt (csT (csY p q m)) k)
 sw : d - c ≤ csW w * (k : Int)
 cd : c ≤ d
theorem CsF.start {p q w : Nat} : CsF p q w 0 (u2 w) (u2 w) 0 0 := by
 refine ⟨CsT.start, ⟨0, fun m _ => ?_⟩, by omega, by omega⟩
 show ((0 : Int) : Rat) ≤ 0 * (u2 w : Rat) ∧ (0 : Rat) * (u2 w : Rat) ≤ ((0 : Int) : Rat)
 rw [Rat.zero_mul]
 exact ⟨Rat.le_refl, Rat.le_refl⟩
def csMF (w k : Nat) (th : Int) : Nat := if k = 0 then (2 * u2 w).toNat + 2 else if k = 1 then (2 * u2 w).toNat + 1 else th.toNat
section
variable {p q w k : Nat} {tl th c d ql qh c' d' : Int}
theorem CsF.go (h : CsF p q w k tl th c d) (hq : CsQ p q w ql qh) (ht : k ≤ 1 ∨ 2 ≤ th)
  (hs : k % 2 = 0 ∧ c' = c + tl ∧ d' = d + th ∨ ¬ k % 2 = 0 ∧ c' = c - th ∧ d' = d - tl) :
  CsF p q w (k + 1) (csL w k tl ql) (csH w k th qh) c' d' ∧ csMF w (k + 1) (csH w k th qh) < csMF w k th := by
 have htw := h.t.tw
 have hsw := h.sw
 have htt := h.t.tt
 have ht2 := h.t.t2
 have hU := u2_pos w
 obtain ⟨N, h1⟩ := h.t.e
 obtain ⟨M, h2⟩ := h.s
 have hS : ∀ m, max N M ≤ m → Enc (u2 w) c' d' (alt (csT (csY p q m)) (k + 1)) := fun m hm => by
  rcases hs with ⟨e, rfl, rfl⟩ | ⟨e, rfl, rfl⟩
  ·have e2 : alt (csT (csY p q m)) (k + 1) = alt (csT (csY p q m)) k + csT (csY p q m) k := by rw [alt_s]; unfold sgn; rw [if_pos e]; grind
   rw [e2]; exact (h2 m xq).add (h1 m xq)
  ·have e2 : alt (csT (csY p q m)) (k + 1) = alt (csT (csY p q m)) k - csT (csY p q m) k := by rw [alt_s]; unfold sgn; rw [if_neg e]; grind
   rw [e2]; exact (h2 m xq).sub (h1 m xq)
 have e3 : csW w * (((k + 1 : Nat)) : Int) = csW w * (k : Int) + csW w := by rw [Int.natCast_add, Int.mul_add]; simp
 obtain ⟨n1, n2, n3⟩ := h.t.next hq ht
 refine ⟨⟨n1, ⟨_, hS⟩, by rw [e3]; rcases hs with ⟨e, rfl, rfl⟩ | ⟨e, rfl, rfl⟩ <;> omega, (hS _ (Nat.le_refl _)).le⟩, ?_⟩
 have n1t2 := n1.t2
 have n1t1 := n1.t1
 unfold csMF
 rw [if_neg xq]
 rcases Nat.lt_or_ge k 1 with hk | hk
 ·rw [if_pos (show k + 1 = 1 by omega), if_pos (show k = 0 by omega)]; omega
 ·rw [if_neg (show ¬ k + 1 = 1 by omega), if_neg (show ¬ k = 0 by omega)]
  have := n2 hk
  by_cases hk1 : k = 1
  ·rw [if_pos hk1]; omega
  ·rw [if_neg hk1]
   have := n3 hk xq
   omega
theorem CsF.out (h : CsF p q w k tl th c d) (h0 : 0 < q) (hp : 2 * p ≤ q) (hk : 1 < k) (ht : th ≤ 1) : CsR p q w (c - th) (d + th) := by
 obtain ⟨N, h1⟩ := h.t.e
 obtain ⟨M, h2⟩ := h.s
 have hU := u2_pos w
 have e : th = 1 := by have := h.t.t1; omega
 subst e
 refine ⟨⟨max (max N M) (k + 1), fun m hm => ?_⟩, ?_⟩
 ·have hy := csY_b (m := m) h0 hp xq
  have h3 := cs_near (x := fun _ => 0) (m := m) (j := k) hy xq xq
  exact (h2 m xq).near h3.1 h3.2 (h1 m xq).2 hU
 ·have h6 := h.sw
  have h7 := h.t.jw
  have h8 := Int.mul_le_mul_of_nonneg_left (show (k : Int) ≤ (w : Int) + 4 by omega) (show 0 ≤ csW w by unfold csW; omega)
  omega
theorem CsF.bd (h : CsF p q w k tl th c d) (h0 : 0 < q) (hp : 2 * p ≤ q) : -(csW w * ((w : Int) + 2)) - 3 * u2 w ≤ c ∧ c ≤ 3 * u2 w ∧ -(3 * u2 w) ≤ d ∧ d ≤ 3 * u2 w + csW w * ((w : Int) + 2) := by
 obtain ⟨N, h1⟩ := h.s
 have hU := u2_pos w
 have h9 := h.sw
 have h10 := h.t.jw
 have h11 := Int.mul_le_mul_of_nonneg_left (show (k : Int) ≤ (w : Int) + 2 by omega) (show 0 ≤ csW w by unfold csW; omega)
 by_cases hk : k = 0
 ·subst hk
  have h2 := h1 N (Nat.le_refl _)
  have e : alt (csT (csY p q N)) 0 = 0 := rfl
  rw [e] at h2
  have a := h2.lo_le (c := 0) (by rw [Rat.zero_mul]; exact Rat.le_refl)
  have b := h2.le_hi (c := 0) (by rw [Rat.zero_mul]; exact Rat.le_refl)
  omega
 ·have h2 := cs_bd (N := N) (m := N + 1) h0 hp xq xq (h1 (N + 1) xq)
  omega
end
end Nt
end Go.Proofs.YtbolmkfphieogaaGreat
namespace Go.Proofs.YtbolmkfphieogaaGreat
set_option linter.unusedVariables false
namespace Nt
open Classical in
noncomputable def flo (X : Nat → Rat) (b : Nat) : Int := if h : ∃ z, FlO X b z then h.choose else 0
theorem FlO.flo {X : Nat → Rat} {b : Nat} {z : Int} (h : FlO X b z) : flo X b = z := by
 have hz : ∃ z, FlO X b z := ⟨z, h⟩
 unfold Nt.flo
 rw [dif_pos hz]
 exact hz.choose_spec.uniq h
def fold (p : Int) (q : Nat) : Nat := let r := (Int.tmod p (2 * (q : Int))).natAbs; if q < r then 2 * q - r else r
theorem fold_le (p : Int) (q : Nat) (hq : 0 < q) : fold p q ≤ q := by
 have h : (Int.tmod p (2 * (q : Int))).natAbs < 2 * q := by
  rw [Int.natAbs_tmod]
  have : (2 * (q : Int)).natAbs = 2 * q := by omega
  rw [this]
  exact Nat.mod_lt _ xq
 unfold fold
 dsimp only
 split <;> omega
theorem fold_mod (p : Int) (q : Nat) (hq : 0 < q) : (fold p q : Int) = p % (2 * (q : Int)) ∨ (fold p q : Int) = 2 * (q : Int) - p % (2 * (q : Int)) := by
 have hm : 0 < 2 * (q : Int) := by omega
 have h1 := Int.emod_nonneg p (b := 2 * (q : Int)) xq
 have h2 := Int.emod_lt_of_pos p hm
 have h3 : Int.tmod p (2 * (q : Int)) = p % (2 * (q : Int)) ∨ Int.tmod p (2 * (q : Int)) = p % (2 * (q : Int)) - 2 * (q : Int) := by
  rcases Int.lt_or_le p 0 with h | h
  ·have e1 := Int.tmod_add_mul_tdiv p (2 * (q : Int))
   have e2 := Int.emod_add_mul_ediv p (2 * (q : Int))
   have e3 : Int.tmod p (2 * (q : Int)) ≤ 0 := by
    have h8 := Int.neg_tmod p (2 * (q : Int))
    have h9 : Int.tmod (-p) (2 * (q : Int)) = (-p) % (2 * (q : Int)) := Int.tmod_eq_emod_of_nonneg xq
    have h10 := Int.emod_nonneg (-p) (b := 2 * (q : Int)) xq
    omega
   have e4 : -(2 * (q : Int)) < Int.tmod p (2 * (q : Int)) := Int.lt_tmod_of_pos p hm
   generalize Int.tmod p (2 * (q : Int)) = t at *
   generalize p % (2 * (q : Int)) = s at *
   generalize p.tdiv (2 * (q : Int)) = x at *
   generalize p / (2 * (q : Int)) = y at *
   generalize 2 * (q : Int) = M at *
   have e5 : M * (x - y) = s - t := by rw [Int.mul_sub]; omega
   have e6 : 0 ≤ M * (x - y) := by omega
   have e7 : M * (x - y) < M * 2 := by omega
   have e8 : 0 ≤ x - y := Int.nonneg_of_mul_nonneg_right e6 hm
   have e9 : x - y < 2 := Int.lt_of_mul_lt_mul_left e7 xq
   obtain h | h : x - y = 0 ∨ x - y = 1 := by omega
   ·rw [h] at e5; omega
   ·rw [h] at e5; omega
  ·exact .inl (Int.tmod_eq_emod_of_nonneg h)
 unfold fold
 dsimp only
 split <;> omega
theorem fold_of {p p' : Int} {q : Nat} (hq : 0 < q) (h : p % (2 * (q : Int)) = p' % (2 * (q : Int)) ∨ (p + p') % (2 * (q : Int)) = 0) : fold p q = fold p' q := by
 have a := fold_mod p q hq
 have b := fold_mod p' q hq
 have c := fold_le p q hq
 have d := fold_le p' q hq
 have hm : 0 < 2 * (q : Int) := by omega
 have h1 := Int.emod_nonneg p (b := 2 * (q : Int)) xq
 have h2 := Int.emod_lt_of_pos p hm
 have h3 := Int.emod_nonneg p' (b := 2 * (q : Int)) xq
 have h4 := Int.emod_lt_of_pos p' hm
 rcases h with h | h
 ·omega
 ·rw [Int.add_emod] at h
  have h5 : p % (2 * (q : Int)) + p' % (2 * (q : Int)) = 0 ∨ p % (2 * (q : Int)) + p' % (2 * (q : Int)) = 2 * (q : Int) := by
   generalize p % (2 * (q : Int)) = x at *
   generalize p' % (2 * (q : Int)) = y at *
   generalize 2 * (q : Int) = M at *
   by_cases hx : x + y < M
   ·rw [Int.emod_eq_of_lt xq hx] at h; exact .inl h
   ·have e : (x + y) % M = x + y - M := by
     rw [← Int.sub_emod_right, Int.emod_eq_of_lt xq xq]
    omega
  omega
noncomputable def cosA (p q b : Nat) : Rat × Rat :=
 if p = 0 then (1, 1) else if 2 * p = q then (0, 0) else if 3 * p = q then (dnQ (1 / 2) b, -dnQ (-(1 / 2)) b)
 else (gr b (flo (coN p q) b), gr b (flo (coN p q) b + 1))
noncomputable def cosF (p q b : Nat) : Rat × Rat := if q < 2 * p then (-(cosA (q - p) q b).2, -(cosA (q - p) q b).1) else cosA p q b
noncomputable def cosV (p : Int) (q b : Nat) : Rat × Rat := cosF (fold p q) q b
theorem cosV_turn {p k : Int} {q b : Nat} (hq : 0 < q) : cosV (p + 2 * (q : Int) * k) q b = cosV p q b := by
 unfold cosV; rw [fold_of hq (.inl (Int.add_mul_emod_self_left ..))]
end Nt
end Go.Proofs.YtbolmkfphieogaaGreat
namespace Go.Proofs.YtbolmkfphieogaaGreat
set_option linter.unusedVariables false
open Go.RowKit
theorem ty3 : TyIs Tryz.prog 3 false 1 := fun w => ⟨by kernel_rfl, by kernel_rfl⟩
theorem ty4 : TyIs Tryz.prog 4 false 1 := fun w => ⟨by kernel_rfl, by kernel_rfl⟩
theorem ty22 : TyIs Tryz.prog 22 false 1 := fun w => ⟨by kernel_rfl, by kernel_rfl⟩
theorem ty24 : TyIs Tryz.prog 24 true 2 := fun w => ⟨by kernel_rfl, by kernel_rfl⟩
theorem ty26 : TyIs Tryz.prog 26 true 3 := fun w => ⟨by kernel_rfl, by kernel_rfl⟩
theorem ty32 : TyIs Tryz.prog 32 true 6 := fun w => ⟨by kernel_rfl, by kernel_rfl⟩
theorem ty104 : TyIs Tryz.prog 104 false 1 := fun w => ⟨by kernel_rfl, by kernel_rfl⟩
theorem ty147 : TyIs Tryz.prog 147 true 3 := fun w => ⟨by kernel_rfl, by kernel_rfl⟩
theorem ty149 : TyIs Tryz.prog 149 true 4 := fun w => ⟨by kernel_rfl, by kernel_rfl⟩
theorem ty160 : TyIs Tryz.prog 160 true 4 := fun w => ⟨by kernel_rfl, by kernel_rfl⟩
theorem sl22 : SlIs Tryz.prog 22 1 := ⟨104, false, by kernel_rfl, ty104⟩
theorem sl55 : SlIs Tryz.prog 55 3 := ⟨26, true, by kernel_rfl, ty26⟩
end Go.Proofs.YtbolmkfphieogaaGreat
namespace Go.Proofs.YtbolmkfphieogaaGreat
open Go.RowKit
set_option linter.unusedVariables false
theorem k_riTrim {u w : World} {i1 : IL} {zN : Int} {K : Nat} (d : Dat u w) (hi1 : IntV u i1 zN K) (hK : K ≤ 500000000) : Calls Tryz.prog 173 #[i1.v] w (Post u w fun v u' => ∃ i : IL, v = i.v ∧ IntN u' i zN K) := by
 obtain ⟨N, hN, hzN⟩ := hi1
 refine zzm (args := [i1.v]) Tryz.func173 rfl Tryz.ntmps173 (rs := [.cell 2 24]) Tryz.results173 (le_b rfl) (le_b rfl) d ?_
 refine sq9 (zzk 1 ⟨24, i1.cs⟩ (zzk 2 ⟨24, [.bool false, .slice none 0 0]⟩ (zzb (sq9 (zza 4 (.adr 1 1) (zzi 5 (.v i1.m.v) ty22 zzl (zzg 6 171 [i1.m.v] ?_)))))))
 intro w11 u11 e11 d11
 have k16 := k_rnTrim d11 (hN.ext e11) xq
 with_reducible refine zPm k16 ?_
 rintro _ u14 g15 ⟨x12, rfl, h13⟩
 refine zza 3 (.v x12.v) (zzb (sq9 (zza 7 (.adr 1 0) (zzi 8 (zB i1.s) ty4 zzl ?_))))
 rcases Bool.eq_false_or_eq_true i1.s with hs17 | hs17
 ·refine zyq 9 (x := zB i1.s) (zB true) (by rw [hs17]) (zza 10 (.v x12.v) ?_ (hw := w1 2 true 9))
  refine zza 11 (zI x12.n) ?_ (hw := w1 2 true 9)
  refine zza 12 (zB (decide ((0 : Int) < (x12.n : Int)))) ?_ (hw := w1 2 true 9)
  refine zza 13 (zB (decide ((0 : Int) < (x12.n : Int)))) (zza 14 (.v x12.v) (zza 15 (.v (.agg #[.bool (decide ((0 : Int) < (x12.n : Int))), x12.v])) (zzj ⟨24, [.bool (decide ((0 : Int) < (x12.n : Int))), x12.v]⟩ ty24 ?_)))
  refine zzb (zzo (ret0 [.agg #[.bool (decide ((0 : Int) < (x12.n : Int))), .slice x12.a x12.n x12.c]] ⟨zzr ty24 zze, trivial⟩ fun u18 e19 => ?_))
  refine ⟨⟨_, x12⟩, rfl, ?_⟩
  rw [hzN, hs17]
  exact signed_int (s := true) (h13.ext e19)
 ·refine zyq 9 (x := zB i1.s) (zB false) (by rw [hs17]) (zzn 10 (uw 2 true false 9) (zzn 11 (uw 2 true false 9) (zzn 12 (uw 2 true false 9) (zza 13 (zB false) (zza 14 (.v x12.v) (zza 15 (.v (.agg #[.bool false, x12.v])) (zzj ⟨24, [.bool false, x12.v]⟩ ty24 ?_)))))))
  refine zzb (zzo (ret0 [.agg #[.bool false, .slice x12.a x12.n x12.c]] ⟨zzr ty24 zze, trivial⟩ fun u20 e21 => ?_))
  refine ⟨⟨_, x12⟩, rfl, ?_⟩
  rw [hzN, hs17]
  exact signed_int (s := false) (h13.ext e21)
theorem k_riSign {u w : World} {i1 : IL} {zN : Int} {K : Nat} (d : Dat u w) (hi1 : IntV u i1 zN K) (hK : K ≤ 500000000) : Calls Tryz.prog 98 #[i1.v] w (Post u w fun v u' => v = .int .i64 (Nt.cmpS zN 0)) := by
 refine zzm (args := [i1.v]) Tryz.func98 rfl Tryz.ntmps98 (rs := [.tmp 2]) Tryz.results98 (le_b rfl) (le_b rfl) d ?_
 refine sq9 (zzk 1 ⟨24, i1.cs⟩ (zza 2 (zI 0) (zzb (sq9 (zzi 3 (.v (i1.v)) ty24 zze (zzg 4 173 [i1.v] ?_))))))
 intro w11 u11 e11 d11
 have k16 := k_riTrim d11 (hi1.ext e11) xq
 with_reducible refine zPm k16 ?_
 rintro _ u14 g15 ⟨i12, rfl, h13⟩
 refine zzj ⟨24, i12.cs⟩ ty24 ?_
 refine zzb (zzd (zzt (sq9 (zza 6 (.adr 1 1) (zzi 7 (.v i12.m.v) ty22 zzl (zza 8 (zI i12.m.n) (zza 9 (zB ((i12.m.n : Int) == 0)) (zza 5 (zB ((i12.m.n : Int) == 0)) (zzb (zzu (b := (i12.m.n : Int) == 0) xk (fun hb17 => ?_) (fun hb17 => ?_)))))))))))
 ·replace hb17 : ((i12.m.n : Int) == 0) = true := hb17
  have qhb17 : (i12.m.n : Int) = 0 := by simpa using hb17
  refine sq9 (zza 2 (zI 0) (zzb (zzo (zyu (zzw (ret0 [.int .i64 0] ⟨zzq, trivial⟩ fun u18 e19 => ?_))))))
  show _ = _
  rw [sign_len h13, if_pos hb17]
  rfl
 ·replace hb17 : ((i12.m.n : Int) == 0) = false := hb17
  have qhb17 : ¬ ((i12.m.n : Int) = 0) := by simpa using hb17
  refine sq9 (zza 11 (.adr 1 0) (zzi 12 (zB i12.s) ty4 zzl (zza 10 (zB i12.s) (zzb (zzu (b := i12.s) xk (fun hb20 => ?_) (fun hb20 => ?_))))))
  ·replace hb20 : i12.s = true := hb20
   refine sq9 (zza 2 (zI (-1)) (zzb (zzo (zyu (zzw (ret0 [.int .i64 (-1)] ⟨zzq, trivial⟩ fun u21 e22 => ?_))))))
   show _ = _
   rw [sign_len h13, if_neg (ne_true_of_eq_false hb17), if_pos hb20]
   rfl
  ·replace hb20 : i12.s = false := hb20
   refine zzs (zzp ?_)
   refine sq9 (zza 2 (zI 1) (zzb (zzo (ret0 [.int .i64 1] ⟨zzq, trivial⟩ fun u23 e24 => ?_))))
   show _ = _
   rw [sign_len h13, if_neg (ne_true_of_eq_false hb17), if_neg (ne_true_of_eq_false hb20)]
   rfl
theorem k_riNeg {u w : World} {i1 : IL} {zN : Int} {K : Nat} (d : Dat u w) (hi1 : IntV u i1 zN K) (hK : K ≤ 500000000) : Calls Tryz.prog 108 #[i1.v] w (Post u w fun v u' => ∃ i : IL, v = i.v ∧ IntN u' i (-zN) K) := by
 refine zzm (args := [i1.v]) Tryz.func108 rfl Tryz.ntmps108 (rs := [.cell 2 24]) Tryz.results108 (le_b rfl) (le_b rfl) d ?_
 refine sq9 (zzk 1 ⟨24, i1.cs⟩ (zzk 2 ⟨24, [.bool false, .slice none 0 0]⟩ (zzb (sq9 (zzi 3 (.v (i1.v)) ty24 zze (zzg 4 173 [i1.v] ?_))))))
 intro w11 u11 e11 d11
 have k16 := k_riTrim d11 (hi1.ext e11) xq
 with_reducible refine zPm k16 ?_
 rintro _ u14 g15 ⟨i12, rfl, h13⟩
 refine zzj ⟨24, i12.cs⟩ ty24 ?_
 refine zzb (sq9 (zza 5 (.adr 1 0) (zzi 6 (zB i12.s) ty4 zzl (zza 7 (zB (!i12.s)) ?_))))
 rcases Bool.eq_false_or_eq_true (!i12.s) with hs17 | hs17
 ·refine zyq 8 (x := zB (!i12.s)) (zB true) (by rw [hs17]) (zza 9 (.adr 1 1) ?_ (hw := w1 3 true 8))
  refine zzi 10 (.v i12.m.v) ty22 zzl ?_ (hw := w1 3 true 8)
  refine zza 11 (zI i12.m.n) ?_ (hw := w1 3 true 8)
  refine zza 12 (zB (decide ((0 : Int) < (i12.m.n : Int)))) ?_ (hw := w1 3 true 8)
  refine zza 13 (zB (decide ((0 : Int) < (i12.m.n : Int)))) (zza 14 (.adr 1 0) (zzj ⟨24, [.bool (decide ((0 : Int) < (i12.m.n : Int))), i12.m.v]⟩ ty4 ?_))
  refine zzb (sq9 (zzi 15 (.v (.agg #[.bool (decide ((0 : Int) < (i12.m.n : Int))), i12.m.v])) ty24 zze (zzj ⟨24, [.bool (decide ((0 : Int) < (i12.m.n : Int))), i12.m.v]⟩ ty24 ?_)))
  refine zzb (zzo (ret0 [.agg #[.bool (decide ((0 : Int) < (i12.m.n : Int))), .slice i12.m.a i12.m.n i12.m.c]] ⟨zzr ty24 zze, trivial⟩ fun u18 e19 => ?_))
  refine ⟨⟨_, i12.m⟩, rfl, ?_⟩
  have h9 := neg_int (h13.ext e19)
  rw [hs17] at h9
  exact h9
 ·refine zyq 8 (x := zB (!i12.s)) (zB false) (by rw [hs17]) (zzn 9 (uw 3 true false 8) (zzn 10 (uw 3 true false 8) (zzn 11 (uw 3 true false 8) (zzn 12 (uw 3 true false 8) (zza 13 (zB false) (zza 14 (.adr 1 0) (zzj ⟨24, [.bool false, i12.m.v]⟩ ty4 ?_)))))))
  refine zzb (sq9 (zzi 15 (.v (.agg #[.bool false, i12.m.v])) ty24 zze (zzj ⟨24, [.bool false, i12.m.v]⟩ ty24 ?_)))
  refine zzb (zzo (ret0 [.agg #[.bool false, .slice i12.m.a i12.m.n i12.m.c]] ⟨zzr ty24 zze, trivial⟩ fun u20 e21 => ?_))
  refine ⟨⟨_, i12.m⟩, rfl, ?_⟩
  have h9 := neg_int (h13.ext e21)
  rw [hs17] at h9
  exact h9
set_option maxHeartbeats 1000000 in
theorem k_riAdd {u w : World} {i1 : IL} {zN : Int} {K : Nat} {i2 : IL} {zM : Int} {L : Nat} (d : Dat u w) (hi1 : IntV u i1 zN K) (hi2 : IntV u i2 zM L) (hK : K ≤ 400000000) (hL : L ≤ 400000000) : Calls Tryz.prog 129 #[i1.v, i2.v] w (Post u w fun v u' => ∃ i : IL, v = i.v ∧ IntN u' i (zN + zM) (max K L + 1)) := by
 refine zzm (args := [i1.v, i2.v]) Tryz.func129 rfl Tryz.ntmps129 (rs := [.cell 4 24]) Tryz.results129 (le_b rfl) (le_b rfl) d ?_
 refine sq9 (zzk 2 ⟨24, i1.cs⟩ (zzk 3 ⟨24, i2.cs⟩ (zzk 4 ⟨24, [.bool false, .slice none 0 0]⟩ (zzb (zzd (zzz [0, 1, 0, 7, 15, 31] [(0, []), (2, []), (1, []), (3, []), (4, []), (5, [])] xk xk (zzi 5 (.v (i1.v)) ty24 zze (zzi 7 (.v (i2.v)) ty24 zze (zzg 6 173 [i1.v] ?_)))))))))
 intro w11 u11 e11 d11
 have k16 := k_riTrim d11 (hi1.ext e11) xq
 with_reducible refine zPm k16 ?_
 rintro _ u14 g15 ⟨i12, rfl, h13⟩
 refine zzg 8 173 [i2.v] ?_
 intro w17 u17 e17 d17
 have k22 := k_riTrim d17 (hi2.ext (e11.trans (g15.ext.trans e17))) xq
 with_reducible refine zPm k22 ?_
 rintro _ u20 g21 ⟨i18, rfl, h19⟩
 refine zzj ⟨24, i12.cs⟩ ty24 ?_
 refine zzj ⟨24, i18.cs⟩ ty24 ?_
 refine zzb (zzd (sq9 (zza 9 (.adr 2 0) (zzi 10 (zB i12.s) ty4 zzl (zza 11 (.adr 3 0) (zzi 12 (zB i18.s) ty4 zzl (zza 13 (zB (i12.s == i18.s)) (zzb (zzu (b := i12.s == i18.s) xk (fun hb23 => ?_) (fun hb23 => ?_))))))))))
 ·replace hb23 : (i12.s == i18.s) = true := hb23
  refine zzd (zzz [0, 1, 0, 4, 0, 16, 60, 127, 255, 511] [(0, []), (1, []), (2, []), (3, []), (4, []), (5, []), (6, []), (7, []), (8, []), (9, [])] xk xk (zza 14 (.adr 2 0) (zzi 15 (zB i12.s) ty4 zzl (zza 16 (.adr 2 1) (zzi 17 (.v i12.m.v) ty22 zzl (zza 18 (.adr 3 1) (zzi 19 (.v i18.m.v) ty22 zzl (zzg 20 164 [i12.m.v, i18.m.v] ?_))))))))
  intro w24 u24 e24 d24
  have k29 := k_rnAdd d24 ((int_mag h13).ext (e17.trans (g21.ext.trans e24))).raw ((int_mag h19).ext e24).raw xq xq
  with_reducible refine zPm k29 ?_
  rintro _ u27 g28 ⟨x25, rfl, h26⟩
  refine zza 21 (.v (.agg #[.bool i12.s, x25.v])) (zzg 22 173 [.agg #[.bool i12.s, x25.v]] ?_)
  intro w30 u30 e30 d30
  have k35 := k_riTrim d30 (IntV.same (s := i12.s) (h26.ext e30).raw) xq
  with_reducible refine zPm k35 ?_
  rintro _ u33 g34 ⟨i31, rfl, h32⟩
  refine zzj ⟨24, i31.cs⟩ ty24 ?_
  refine zzb (zzo (zzw (ret0 [i31.v] ⟨zzr ty24 zze, trivial⟩ fun u36 e37 => ?_)))
  refine ⟨i31, rfl, IntN.more (K := (max K L + 1)) ?_ xq⟩
  have h9 : zN + zM = (Nt.sg i12.s ((zN : Int).natAbs + (zM : Int).natAbs)) := by
   rw [Nt.sg_add1 _ _ hb23]
   rw [← IntN.sg h13, ← IntN.sg h19]
  rw [h9]
  exact (h32.ext e37)
 ·replace hb23 : (i12.s == i18.s) = false := hb23
  refine zzs (zzp ?_)
  refine zzd (sq9 (zza 23 (.adr 2 1) (zzi 24 (.v i12.m.v) ty22 zzl (zza 25 (.adr 3 1) (zzi 26 (.v i18.m.v) ty22 zzl (zzg 27 166 [i12.m.v, i18.m.v] ?_))))))
  intro w38 u38 e38 d38
  have k41 := k_rnCompare d38 ((int_mag h13).ext (e17.trans (g21.ext.trans e38))).raw ((int_mag h19).ext e38).raw xq xq
  with_reducible refine zPm k41 ?_
  rintro _ u39 g40 rfl
  refine zza 28 (zB (decide ((0 : Int) ≤ (Nt.cmpS ((zN : Int).natAbs) ((zM : Int).natAbs))))) (zzb (zzu (b := decide ((0 : Int) ≤ (Nt.cmpS ((zN : Int).natAbs) ((zM : Int).natAbs)))) xk (fun hb42 => ?_) (fun hb42 => ?_)))
  ·replace hb42 : (decide ((0 : Int) ≤ (Nt.cmpS ((zN : Int).natAbs) ((zM : Int).natAbs)))) = true := hb42
   have qhb42 := of_decide_eq_true hb42
   refine zzd (zzz [0, 1, 0, 4, 0, 16, 60, 127, 255, 511] [(0, []), (1, []), (2, []), (3, []), (4, []), (5, []), (6, []), (7, []), (8, []), (9, [])] xk xk (zza 29 (.adr 2 0) (zzi 30 (zB i12.s) ty4 zzl (zza 31 (.adr 2 1) (zzi 32 (.v i12.m.v) ty22 zzl (zza 33 (.adr 3 1) (zzi 34 (.v i18.m.v) ty22 zzl (zzg 35 198 [i12.m.v, i18.m.v] ?_))))))))
   intro w43 u43 e43 d43
   have k48 := k_rnSub d43 ((int_mag h13).ext (e17.trans (g21.ext.trans (e38.trans (g40.ext.trans e43))))).raw ((int_mag h19).ext (e38.trans (g40.ext.trans e43))).raw xq xq
   with_reducible refine zPm k48 ?_
   rintro _ u46 g47 ⟨x44, rfl, h45⟩
   refine zza 36 (.v (.agg #[.bool i12.s, x44.v])) (zzg 37 173 [.agg #[.bool i12.s, x44.v]] ?_)
   intro w49 u49 e49 d49
   have k54 := k_riTrim d49 (IntV.same (s := i12.s) (h45.ext e49).raw) xq
   with_reducible refine zPm k54 ?_
   rintro _ u52 g53 ⟨i50, rfl, h51⟩
   refine zzj ⟨24, i50.cs⟩ ty24 ?_
   refine zzb (zzo (zzw (ret0 [i50.v] ⟨zzr ty24 zze, trivial⟩ fun u55 e56 => ?_)))
   refine ⟨i50, rfl, IntN.more (K := K) ?_ xq⟩
   have h9 : zN + zM = (Nt.sg i12.s ((zN : Int).natAbs - (zM : Int).natAbs)) := by
    rw [Nt.sg_add4 _ _ hb23 hb42]
    rw [← IntN.sg h13, ← IntN.sg h19]
   rw [h9]
   exact (h51.ext e56)
  ·replace hb42 : (decide ((0 : Int) ≤ (Nt.cmpS ((zN : Int).natAbs) ((zM : Int).natAbs)))) = false := hb42
   have qhb42 := of_decide_eq_false hb42
   refine zzs (zzp ?_)
   refine zzd (zzz [0, 1, 0, 4, 0, 16, 60, 127, 255, 511] [(0, []), (1, []), (2, []), (3, []), (4, []), (5, []), (6, []), (7, []), (8, []), (9, [])] xk xk (zza 38 (.adr 3 0) (zzi 39 (zB i18.s) ty4 zzl (zza 40 (.adr 3 1) (zzi 41 (.v i18.m.v) ty22 zzl (zza 42 (.adr 2 1) (zzi 43 (.v i12.m.v) ty22 zzl (zzg 44 198 [i18.m.v, i12.m.v] ?_))))))))
   intro w57 u57 e57 d57
   have k62 := k_rnSub d57 ((int_mag h19).ext (e38.trans (g40.ext.trans e57))).raw ((int_mag h13).ext (e17.trans (g21.ext.trans (e38.trans (g40.ext.trans e57))))).raw xq xq
   with_reducible refine zPm k62 ?_
   rintro _ u60 g61 ⟨x58, rfl, h59⟩
   refine zza 45 (.v (.agg #[.bool i18.s, x58.v])) (zzg 46 173 [.agg #[.bool i18.s, x58.v]] ?_)
   intro w63 u63 e63 d63
   have k68 := k_riTrim d63 (IntV.same (s := i18.s) (h59.ext e63).raw) xq
   with_reducible refine zPm k68 ?_
   rintro _ u66 g67 ⟨i64, rfl, h65⟩
   refine zzj ⟨24, i64.cs⟩ ty24 ?_
   refine zzb (zzo (ret0 [i64.v] ⟨zzr ty24 zze, trivial⟩ fun u69 e70 => ?_))
   refine ⟨i64, rfl, IntN.more (K := L) ?_ xq⟩
   have h9 : zN + zM = (Nt.sg i18.s ((zM : Int).natAbs - (zN : Int).natAbs)) := by
    rw [Nt.sg_add5 _ _ hb23 hb42]
    rw [← IntN.sg h13, ← IntN.sg h19]
   rw [h9]
   exact (h65.ext e70)
theorem k_riSub {u w : World} {i1 : IL} {zN : Int} {K : Nat} {i2 : IL} {zM : Int} {L : Nat} (d : Dat u w) (hi1 : IntV u i1 zN K) (hi2 : IntV u i2 zM L) (hK : K ≤ 400000000) (hL : L ≤ 400000000) : Calls Tryz.prog 175 #[i1.v, i2.v] w (Post u w fun v u' => ∃ i : IL, v = i.v ∧ IntN u' i (zN - zM) (max K L + 1)) := by
 refine zzm (args := [i1.v, i2.v]) Tryz.func175 rfl Tryz.ntmps175 (rs := [.cell 4 24]) Tryz.results175 (le_b rfl) (le_b rfl) d ?_
 refine sq9 (zzk 2 ⟨24, i1.cs⟩ (zzk 3 ⟨24, i2.cs⟩ (zzk 4 ⟨24, [.bool false, .slice none 0 0]⟩ (zzb (zzd (zzz [0, 0, 2, 7, 15] [(0, []), (1, []), (2, []), (3, []), (4, [])] xk xk (zzi 5 (.v (i1.v)) ty24 zze (zzi 6 (.v (i2.v)) ty24 zze (zzg 7 108 [i2.v] ?_)))))))))
 intro w11 u11 e11 d11
 have k16 := k_riNeg d11 (hi2.ext e11) xq
 with_reducible refine zPm k16 ?_
 rintro _ u14 g15 ⟨i12, rfl, h13⟩
 refine zzg 8 129 [i1.v, i12.v] ?_
 intro w17 u17 e17 d17
 have k22 := k_riAdd d17 (hi1.ext (e11.trans (g15.ext.trans e17))) (h13.ext e17).raw xq xq
 with_reducible refine zPm k22 ?_
 rintro _ u20 g21 ⟨i18, rfl, h19⟩
 refine zzj ⟨24, i18.cs⟩ ty24 ?_
 refine zzb (zzo (ret0 [i18.v] ⟨zzr ty24 zze, trivial⟩ fun u23 e24 => ?_))
 refine ⟨i18, rfl, ?_⟩
 rw [Int.sub_eq_add_neg]
 exact (h19.ext e24)
theorem k_riCompare {u w : World} {i1 : IL} {zN : Int} {K : Nat} {i2 : IL} {zM : Int} {L : Nat} (d : Dat u w) (hi1 : IntV u i1 zN K) (hi2 : IntV u i2 zM L) (hK : K ≤ 400000000) (hL : L ≤ 400000000) : Calls Tryz.prog 97 #[i1.v, i2.v] w (Post u w fun v u' => v = .int .i64 (Nt.cmpS zN zM)) := by
 refine zzm (args := [i1.v, i2.v]) Tryz.func97 rfl Tryz.ntmps97 (rs := [.tmp 4]) Tryz.results97 (le_b rfl) (le_b rfl) d ?_
 refine sq9 (zzk 2 ⟨24, i1.cs⟩ (zzk 3 ⟨24, i2.cs⟩ (zza 4 (zI 0) (zzb (sq9 (zzi 5 (.v (i1.v)) ty24 zze (zzi 6 (.v (i2.v)) ty24 zze (zzg 7 175 [i1.v, i2.v] ?_))))))))
 intro w11 u11 e11 d11
 have k16 := k_riSub d11 (hi1.ext e11) (hi2.ext e11) xq xq
 with_reducible refine zPm k16 ?_
 rintro _ u14 g15 ⟨i12, rfl, h13⟩
 refine zzg 8 98 [i12.v] ?_
 intro w17 u17 e17 d17
 have k20 := k_riSign d17 (h13.ext e17).raw xq
 with_reducible refine zPm k20 ?_
 rintro _ u18 g19 rfl
 refine zza 4 (zI (Nt.cmpS (zN - zM) 0)) (zzb (zzo (ret0 [.int .i64 (Nt.cmpS (zN - zM) 0)] ⟨zzq, trivial⟩ fun u21 e22 => ?_)))
 show Value.int _ _ = Value.int _ _
 rw [Nt.cmp_self_sub]
theorem k_riMul {u w : World} {i1 : IL} {zN : Int} {K : Nat} {i2 : IL} {zM : Int} {L : Nat} (d : Dat u w) (hi1 : IntV u i1 zN K) (hi2 : IntV u i2 zM L) (hK : K ≤ 250000000) (hL : L ≤ 250000000) : Calls Tryz.prog 94 #[i1.v, i2.v] w (Post u w fun v u' => ∃ i : IL, v = i.v ∧ IntN u' i (zN * zM) (K + L)) := by
 obtain ⟨N, hN, hzN⟩ := hi1
 obtain ⟨M, hM, hzM⟩ := hi2
 refine zzm (args := [i1.v, i2.v]) Tryz.func94 rfl Tryz.ntmps94 (rs := [.cell 4 24]) Tryz.results94 (le_b rfl) (le_b rfl) d ?_
 refine sq9 (zzk 2 ⟨24, i1.cs⟩ (zzk 3 ⟨24, i2.cs⟩ (zzk 4 ⟨24, [.bool false, .slice none 0 0]⟩ (zzb (zzd (zzz [0, 1, 0, 4, 15, 0, 32, 0, 128, 480, 1023, 2047, 4095] [(0, []), (1, []), (2, []), (3, []), (4, []), (5, []), (6, []), (7, []), (8, []), (9, []), (10, []), (11, []), (12, [])] xk xk (zza 5 (.adr 2 0) (zzi 6 (zB i1.s) ty4 zzl (zza 7 (.adr 3 0) (zzi 8 (zB i2.s) ty4 zzl (zza 9 (zB (!(i1.s == i2.s))) ?_)))))))))))
 refine zza 10 (.adr 2 1) (zzi 11 (.v i1.m.v) ty22 zzl (zza 12 (.adr 3 1) (zzi 13 (.v i2.m.v) ty22 zzl (zzg 14 174 [i1.m.v, i2.m.v] ?_))))
 intro w11 u11 e11 d11
 have k16 := k_rnMul d11 (hN.ext e11) (hM.ext e11) xq xq
 with_reducible refine zPm k16 ?_
 rintro _ u14 g15 ⟨x12, rfl, h13⟩
 refine zza 15 (.v (.agg #[.bool (!(i1.s == i2.s)), x12.v])) (zzg 16 173 [.agg #[.bool (!(i1.s == i2.s)), x12.v]] ?_)
 intro w17 u17 e17 d17
 have k22 := k_riTrim d17 (IntV.same (s := !(i1.s == i2.s)) (h13.ext e17).raw) xq
 with_reducible refine zPm k22 ?_
 rintro _ u20 g21 ⟨i18, rfl, h19⟩
 refine zzj ⟨24, i18.cs⟩ ty24 ?_
 refine zzb (zzo (ret0 [i18.v] ⟨zzr ty24 zze, trivial⟩ fun u23 e24 => ?_))
 refine ⟨i18, rfl, IntN.more (K := (K + L)) ?_ xq⟩
 rw [hzN, hzM, ← Nt.sg_mul]
 exact (h19.ext e24)
theorem k_riGcd {u w : World} {i1 : IL} {zN : Int} {K : Nat} {i2 : IL} {zM : Int} {L : Nat} (d : Dat u w) (hi1 : IntV u i1 zN K) (hi2 : IntV u i2 zM L) (hK : K ≤ 500000000) (hL : L ≤ 500000000) : Calls Tryz.prog 172 #[i1.v, i2.v] w (Post u w fun v u' => ∃ i : IL, v = i.v ∧ IntN u' i (Nat.gcd zN.natAbs zM.natAbs : Int) (max K L)) := by
 refine zzm (args := [i1.v, i2.v]) Tryz.func172 rfl Tryz.ntmps172 (rs := [.cell 4 24]) Tryz.results172 (le_b rfl) (le_b rfl) d ?_
 refine sq9 (zzk 2 ⟨24, i1.cs⟩ (zzk 3 ⟨24, i2.cs⟩ (zzk 4 ⟨24, [.bool false, .slice none 0 0]⟩ (zzb (sq9 (zza 5 (.adr 2 1) (zzi 6 (.v i1.m.v) ty22 zzl (zza 7 (.adr 3 1) (zzi 8 (.v i2.m.v) ty22 zzl (zzg 9 225 [i1.m.v, i2.m.v] ?_))))))))))
 intro w11 u11 e11 d11
 have k16 := k_rnGcd d11 ((IntV.abs hi1).ext e11) ((IntV.abs hi2).ext e11) xq xq
 with_reducible refine zPm k16 ?_
 rintro _ u14 g15 ⟨x12, rfl, h13⟩
 refine zza 10 (.v (.agg #[.bool false, x12.v])) (zzj ⟨24, [.bool false, x12.v]⟩ ty24 ?_)
 refine zzb (zzo (ret0 [.agg #[.bool false, .slice x12.a x12.n x12.c]] ⟨zzr ty24 zze, trivial⟩ fun u17 e18 => ?_))
 exact ⟨(⟨false, x12⟩ : IL), rfl, (nat_intN (h13.ext e18))⟩
theorem k_riSame {u w : World} {i1 i2 : IL} {z z' : Int} {K L : Nat} (d : Dat u w) (hi1 : IntN u i1 z K) (hi2 : IntN u i2 z' L) : Calls Tryz.prog 169 #[i1.v, i2.v] w (Post u w fun v _ => v = .bool (decide (z = z'))) := by
 refine zzm (args := [i1.v, i2.v]) Tryz.func169 rfl Tryz.ntmps169 (rs := [.tmp 4]) Tryz.results169 (le_b rfl) (le_b rfl) d ?_
 refine sq9 (zzk 2 ⟨24, i1.cs⟩ (zzk 3 ⟨24, i2.cs⟩ (zza 4 (zB false) (zzb (sq9 (zza 5 (.adr 2 0) (zzi 6 (zB i1.s) ty4 zzl (zza 7 (.adr 3 0) (zzi 8 (zB i2.s) ty4 zzl (zza 9 (zB (i1.s == i2.s)) ?_))))))))))
 rcases Bool.eq_false_or_eq_true (i1.s == i2.s) with hs11 | hs11
 ·refine zyq 10 (x := zB (i1.s == i2.s)) (zB true) (by rw [hs11]) (zza 11 (.adr 2 1) ?_ (hw := w1 5 true 10))
  refine zzi 12 (.v i1.m.v) ty22 zzl ?_ (hw := w1 5 true 10)
  refine zza 13 (.adr 3 1) ?_ (hw := w1 5 true 10)
  refine zzi 14 (.v i2.m.v) ty22 zzl ?_ (hw := w1 5 true 10)
  refine zzg 15 170 [i1.m.v, i2.m.v] ?_ (hw := w1 5 true 10)
  intro w12 u12 e12 d12
  have k15 := k_rnSame d12 ((int_mag hi1).ext e12) ((int_mag hi2).ext e12)
  with_reducible refine zPm k15 ?_
  rintro _ u13 g14 rfl
  refine zza 16 (zB (decide ((z : Int).natAbs = (z' : Int).natAbs))) (zza 4 (zB (decide ((z : Int).natAbs = (z' : Int).natAbs))) (zzb (zzo (ret0 [.bool (decide ((z : Int).natAbs = (z' : Int).natAbs))] ⟨zzq, trivial⟩ fun u16 e17 => ?_))))
  show _ = _
  rw [← same_int hi1 hi2, hs11]
  rfl
 ·refine zyq 10 (x := zB (i1.s == i2.s)) (zB false) (by rw [hs11]) (zzn 11 (uw 5 true false 10) (zzn 12 (uw 5 true false 10) (zzn 13 (uw 5 true false 10) (zzn 14 (uw 5 true false 10) (zzn 15 (uw 5 true false 10) (zza 16 (zB false) (zza 4 (zB false) (zzb (zzo (ret0 [.bool false] ⟨zzq, trivial⟩ fun u18 e19 => ?_))))))))))
  show _ = _
  rw [← same_int hi1 hi2, hs11]
  rfl
theorem k_riOf {u w : World} {z : Int} (d : Dat u w) (h0 : -9223372036854775808 ≤ z) (h1 : z ≤ 9223372036854775807) : Calls Tryz.prog 99 #[.int .i64 z] w (Post u w fun v u' => ∃ i : IL, v = i.v ∧ IntN u' i z 2) := by
 by_cases hneg : z < 0
 ·refine zzm (args := [.int .i64 z]) Tryz.func99 rfl Tryz.ntmps99 (rs := [.cell 2 24]) Tryz.results99 (le_b rfl) (le_b rfl) d ?_
  refine sq9 (zzk 2 ⟨24, [.bool false, .slice none 0 0]⟩ (zzb (zzd (sq9 (zza 4 (zI z) (zyq 5 (x := zB (decide (z < 0))) (zB true) (by rw [show (decide (z < 0)) = true from yk]) (zzb (zyr xk (sq9 (zza 6 (zI z) (zyq 7 (x := zI (IntKind.i64.wrap (z + 1))) (zI (z + 1)) (by rw [show (IntKind.i64.wrap (z + 1)) = (z + 1) from (IntWalk.i64_in _ xq)]) ?_)))))))))))
  refine zyq 8 (x := zI (IntKind.i64.wrap (0 - (z + 1)))) (zI (-z - 1)) (by rw [show (IntKind.i64.wrap (0 - (z + 1))) = (-z - 1) from xw]) (zyq 9 (x := .v (.int .u64 (IntKind.u64.wrap (-z - 1)))) (.v (.int .u64 (-z - 1))) (by rw [show (IntKind.u64.wrap (-z - 1)) = (-z - 1) from (IntWalk.u64_in _ xq)]) (zyq 10 (x := .v (.int .u64 (IntKind.u64.wrap (-z - 1 + 1)))) (.v (.int .u64 (-z))) (by rw [show (IntKind.u64.wrap (-z - 1 + 1)) = (-z) from (by rw [IntWalk.u64_in _ xq]; omega)]) (zza 3 (.v (.int .u64 (-z))) (zzb (sq9 (zza 11 (.v (.int .u64 (-z))) (zyq 12 (x := .v (.int .u32 (IntKind.u32.wrap (-z)))) (.v (.int .u32 ((-z) % 4294967296))) (by rw [show (IntKind.u32.wrap (-z)) = ((-z) % 4294967296) from (IntKind.wrap_u32 _)]) (zza 13 (.v (.int .u64 (-z))) (zyq 14 (x := .v (.int .u64 (Int.fdiv (-z) (2 ^ 32)))) (.v (.int .u64 ((-z) / 4294967296))) (by rw [show (Int.fdiv (-z) (2 ^ 32)) = ((-z) / 4294967296) from (by rw [Int.fdiv_eq_ediv_of_nonneg _ yq]; rfl)]) (zyq 15 (x := .v (.int .u32 (IntKind.u32.wrap ((-z) / 4294967296)))) (.v (.int .u32 ((-z) / 4294967296))) (by rw [show (IntKind.u32.wrap ((-z) / 4294967296)) = ((-z) / 4294967296) from (IntWalk.u32_in _ xq)]) (zxx 16 ⟨104, [.int .u32 ((-z) % 4294967296), .int .u32 ((-z) / 4294967296)]⟩ 2 (fun b11 u12 e13 h14 => ?_))))))))))))
  refine zza 17 (.v (.agg #[.bool true, .slice (some ⟨b11, 0, none⟩) 2 2])) (zzg 18 173 [.agg #[.bool true, .slice (some ⟨b11, 0, none⟩) 2 2]] ?_)
  intro w15 u15 e15 d15
  have k20 := k_riTrim d15 (IntV.same (s := true) ((two_data (N := z.natAbs) h14 xq xq xq).ext e15)) xq
  with_reducible refine zPm k20 ?_
  rintro _ u18 g19 ⟨i16, rfl, h17⟩
  refine zzj ⟨24, i16.cs⟩ ty24 ?_
  refine zzb (zzo (zzw (ret0 [i16.v] ⟨zzr ty24 zze, trivial⟩ fun u21 e22 => ?_)))
  refine ⟨i16, rfl, IntN.more (K := 2) ?_ xq⟩
  have e : z = Nt.sg true z.natAbs := by unfold Nt.sg; simp; omega
  rw [e]
  exact (h17.ext e22)
 ·refine zzm (args := [.int .i64 z]) Tryz.func99 rfl Tryz.ntmps99 (rs := [.cell 2 24]) Tryz.results99 (le_b rfl) (le_b rfl) d ?_
  refine sq9 (zzk 2 ⟨24, [.bool false, .slice none 0 0]⟩ (zzb (zzd (sq9 (zza 4 (zI z) (zyq 5 (x := zB (decide (z < 0))) (zB false) (by rw [show (decide (z < 0)) = false from yk]) (zzb (zys xk (zzs (zzp ?_))))))))))
  refine sq9 (zza 19 (zI z) (zyq 20 (x := .v (.int .u32 (IntKind.u32.wrap z))) (.v (.int .u32 (z % 4294967296))) (by rw [show (IntKind.u32.wrap z) = (z % 4294967296) from (IntKind.wrap_u32 _)]) (zza 21 (zI z) (zyq 22 (x := .v (.int .u64 (IntKind.u64.wrap z))) (.v (.int .u64 (z))) (by rw [show (IntKind.u64.wrap z) = z from (IntWalk.u64_in _ xq)]) (zyq 23 (x := .v (.int .u64 (Int.fdiv z (2 ^ 32)))) (.v (.int .u64 (z / 4294967296))) (by rw [show (Int.fdiv z (2 ^ 32)) = (z / 4294967296) from (by rw [Int.fdiv_eq_ediv_of_nonneg _ yq]; rfl)]) (zyq 24 (x := .v (.int .u32 (IntKind.u32.wrap (z / 4294967296)))) (.v (.int .u32 (z / 4294967296))) (by rw [show (IntKind.u32.wrap (z / 4294967296)) = (z / 4294967296) from (IntWalk.u32_in _ xq)]) (zxx 25 ⟨104, [.int .u32 (z % 4294967296), .int .u32 (z / 4294967296)]⟩ 2 (fun b11 u12 e13 h14 => ?_))))))))
  refine zza 26 (.v (.agg #[.bool false, .slice (some ⟨b11, 0, none⟩) 2 2])) (zzg 27 173 [.agg #[.bool false, .slice (some ⟨b11, 0, none⟩) 2 2]] ?_)
  intro w15 u15 e15 d15
  have k20 := k_riTrim d15 (nat_int ((two_data (N := z.natAbs) h14 xq xq xq).ext e15)) xq
  with_reducible refine zPm k20 ?_
  rintro _ u18 g19 ⟨i16, rfl, h17⟩
  refine zzj ⟨24, i16.cs⟩ ty24 ?_
  refine zzb (zzo (ret0 [i16.v] ⟨zzr ty24 zze, trivial⟩ fun u21 e22 => ?_))
  refine ⟨i16, rfl, IntN.more (K := 2) ?_ xq⟩
  have e : z = Nt.sg false z.natAbs := by unfold Nt.sg; simp; omega
  rw [e]
  exact (h17.ext e22)
set_option maxHeartbeats 2000000 in
theorem k_riDiv {u w : World} {i1 : IL} {zN : Int} {K : Nat} {i2 : IL} {zM : Int} {L : Nat} (d : Dat u w) (hi1 : IntV u i1 zN K) (hi2 : IntV u i2 zM L) (hM0 : zM ≠ 0) (hK : K ≤ 400000000) (hL : L ≤ 400000000) : Calls Tryz.prog 167 #[i1.v, i2.v] w (Post u w fun v u' => ∃ i j : IL, v = .tuple #[i.v, j.v, .int .i64 0] ∧ IntN u' i (zN / zM) (K + 1) ∧ IntN u' j (zN % zM) L) := by
 have hM : 0 < zM.natAbs := Int.natAbs_pos.2 hM0
 have hL1 : 1 ≤ L := by have h2 := hi2.size; have h3 := Nt.dl_mono (x := zM.natAbs) (y := 1) xq; rw [Nt.dl_one] at h3; omega
 refine zzm (args := [i1.v, i2.v]) Tryz.func167 rfl Tryz.ntmps167 (rs := [.cell 4 24, .cell 5 24, .tmp 6]) Tryz.results167 (le_b rfl) (le_b rfl) d ?_
 refine sq9 (zzk 2 ⟨24, i1.cs⟩ (zzk 3 ⟨24, i2.cs⟩ (zzk 4 ⟨24, [.bool false, .slice none 0 0]⟩ (zzk 5 ⟨24, [.bool false, .slice none 0 0]⟩ (zza 6 (zI 0) (zzb (zzd (zzz [0, 1, 0, 7, 15, 31] [(0, []), (2, []), (1, []), (3, []), (4, []), (5, [])] xk xk (zzi 10 (.v (i1.v)) ty24 zze (zzi 12 (.v (i2.v)) ty24 zze (zzg 11 173 [i1.v] ?_)))))))))))
 intro w11 u11 e11 d11
 have k16 := k_riTrim d11 (hi1.ext e11) xq
 with_reducible refine zPm k16 ?_
 rintro _ u14 g15 ⟨i12, rfl, h13⟩
 refine zzg 13 173 [i2.v] ?_
 intro w17 u17 e17 d17
 have k22 := k_riTrim d17 (hi2.ext (e11.trans (g15.ext.trans e17))) xq
 with_reducible refine zPm k22 ?_
 rintro _ u20 g21 ⟨i18, rfl, h19⟩
 refine zzj ⟨24, i12.cs⟩ ty24 ?_
 refine zzj ⟨24, i18.cs⟩ ty24 ?_
 refine zzb (sq9 (zza 15 (.adr 2 1) (zzi 16 (.v i12.m.v) ty22 zzl (zza 17 (.adr 3 1) (zzi 18 (.v i18.m.v) ty22 zzl (zzg 19 224 [i12.m.v, i18.m.v] ?_))))))
 intro w23 u23 e23 d23
 have k30 := k_rnDivMod d23 ((int_mag h13).ext (e17.trans (g21.ext.trans e23))).raw ((int_mag h19).ext e23).raw hM xq xq
 with_reducible refine zPm k30 ?_
 rintro _ u28 g29 ⟨x24, x25, rfl, h26, h27⟩
 refine zza 14 (.v (.tuple #[x24.v, x25.v, .int .i64 0])) (zza 20 (.v x24.v) (zza 21 (.v x25.v) (zza 22 (zI 0) (zza 7 (.v x24.v) (zza 8 (.v x25.v) (zza 9 (zI 0) (zzb (zzd (sq9 (zza 23 (zI 0) (zza 24 (zB false) ?_)))))))))))
 refine zzb (zys xk (zzs (zzp ?_)))
 refine zzd (sq9 (zza 28 (.adr 2 0) (zzi 29 (zB i12.s) ty4 zzl ?_)))
 rcases Bool.eq_false_or_eq_true i12.s with hs31 | hs31
 ·refine zyq 30 (x := zB i12.s) (zB true) (by rw [hs31]) (zza 31 (.v x25.v) ?_ (hw := w1 2 true 30))
  refine zza 32 (zI x25.n) ?_ (hw := w1 2 true 30)
  refine zza 33 (zB (decide ((0 : Int) < (x25.n : Int)))) ?_ (hw := w1 2 true 30)
  refine zza 34 (zB (decide ((0 : Int) < (x25.n : Int)))) (zzc 52 [(2, .adr 2 0), (3, .adr 3 0), (4, .adr 4 0), (5, .adr 5 0), (7, .v x24.v), (8, .v x25.v), (34, zB (decide ((0 : Int) < (x25.n : Int))))] [(2, ⟨24, i12.cs⟩), (3, ⟨24, i18.cs⟩), (4, ⟨24, [.bool false, .slice none 0 0]⟩), (5, ⟨24, [.bool false, .slice none 0 0]⟩)] (zzu (b := decide ((0 : Int) < (x25.n : Int))) xk (fun hb32 => ?_) (fun hb32 => ?_)))
  ·replace hb32 : (decide ((0 : Int) < (x25.n : Int))) = true := hb32
   have qhb32 := of_decide_eq_true hb32
   refine zzz [0, 0, 3, 0, 8, 0, 63, 127, 255] [(0, []), (1, []), (3, []), (4, []), (5, []), (2, [36]), (6, []), (7, []), (8, [])] xk xk (zza 35 (.v x24.v) (sy_lit 36 ⟨104, [.int .u32 1]⟩ 1 ?_))
   refine zza 38 (.adr 3 1) (zzi 39 (.v i18.m.v) ty22 zzl (zza 40 (.v x25.v) (zyo 37 164 [.v x24.v, .slc 36 0 1 1] [36] (.inr rfl) (pub_mk xz) (k := ?_))))
   intro B33 w33 u33 e33 d33 v33
   have h35 : u33.heap[B33 36]? = some (.cells #[.int .u32 1] 104 (0, 0)) := v33 36 (by simp) _ rfl
   obtain ⟨b34, hBb34⟩ : ∃ b, B33 36 = b := ⟨_, rfl⟩
   rw [hBb34] at h35
   show Calls _ _ #[.slice x24.a x24.n x24.c, .slice (some ⟨B33 36, 0, none⟩) 1 1] _ _
   rw [hBb34]
   have k40 := k_rnAdd d33 (h26.ext e33).raw (one_data h35).raw xq xq
   with_reducible refine zPm k40 ?_
   rintro _ u38 g39 ⟨x36, rfl, h37⟩
   refine zzg 41 198 [i18.m.v, x25.v] ?_
   intro w41 u41 e41 d41
   have k46 := k_rnSub d41 ((int_mag h19).ext (e23.trans (g29.ext.trans (e33.trans (g39.ext.trans e41))))).raw (h27.ext (e33.trans (g39.ext.trans e41))).raw xq xq
   with_reducible refine zPm k46 ?_
   rintro _ u44 g45 ⟨x42, rfl, h43⟩
   refine zza 7 (.v x36.v) (zza 8 (.v x42.v) (zzb (sq9 (zza 42 (.adr 2 0) (zzi 43 (zB i12.s) ty4 zzl (zza 44 (.adr 3 0) (zzi 45 (zB i18.s) ty4 zzl (zza 46 (zB (!(i12.s == i18.s))) (zza 47 (.v x36.v) (zza 48 (.v (.agg #[.bool (!(i12.s == i18.s)), x36.v])) (zzg 49 173 [.agg #[.bool (!(i12.s == i18.s)), x36.v]] ?_)))))))))))
   intro w47 u47 e47 d47
   have k52 := k_riTrim d47 (IntV.same (s := !(i12.s == i18.s)) (h37.ext (e41.trans (g45.ext.trans e47))).raw) xq
   with_reducible refine zPm k52 ?_
   rintro _ u50 g51 ⟨i48, rfl, h49⟩
   refine zza 50 (.v x42.v) (zza 51 (.v (.agg #[.bool false, x42.v])) (zzj ⟨24, i48.cs⟩ ty24 ?_))
   refine zzj ⟨24, [.bool false, x42.v]⟩ ty24 ?_
   refine zza 6 (zI 0) (zzb (zzo (ret0 [i48.v, .agg #[.bool false, .slice x42.a x42.n x42.c], .int .i64 0] ⟨zzr ty24 zze, zzr ty24 zze, zzq, trivial⟩ fun u53 e54 => ?_)))
   have hs := h13.1
   have ht := h19.1
   have hr := h27.pos
   have qhs31 := hs31
   have qhb32 := hb32
   have key := Nt.ediv_neg' zN zM rfl rfl hM (by rw [hs] at hs31; simpa using hs31) (by simp at hb32; omega)
   have hK1 : 1 ≤ K := by have h2 := hi1.size; have h3 := (Nt.dl_pos (x := zN.natAbs)).2 (by rw [hs] at hs31; simp at hs31; omega); omega
   rw [← hs, ← ht] at key
   refine ⟨i48, (⟨false, x42⟩ : IL), rfl, IntN.more (K := (max K 1 + 1)) ?_ xq, IntN.more (K := L) ?_ xq⟩
   ·rw [key.1]; exact (h49.ext e54)
   ·rw [key.2]; exact (nat_intN (h43.ext (e47.trans (g51.ext.trans e54))))
  ·replace hb32 : (decide ((0 : Int) < (x25.n : Int))) = false := hb32
   have qhb32 := of_decide_eq_false hb32
   refine zzs (zzp ?_)
   refine sq9 (zza 42 (.adr 2 0) (zzi 43 (zB i12.s) ty4 zzl (zza 44 (.adr 3 0) (zzi 45 (zB i18.s) ty4 zzl (zza 46 (zB (!(i12.s == i18.s))) (zza 47 (.v x24.v) (zza 48 (.v (.agg #[.bool (!(i12.s == i18.s)), x24.v])) (zzg 49 173 [.agg #[.bool (!(i12.s == i18.s)), x24.v]] ?_))))))))
   intro w55 u55 e55 d55
   have k60 := k_riTrim d55 (IntV.same (s := !(i12.s == i18.s)) (h26.ext e55).raw) xq
   with_reducible refine zPm k60 ?_
   rintro _ u58 g59 ⟨i56, rfl, h57⟩
   refine zza 50 (.v x25.v) (zza 51 (.v (.agg #[.bool false, x25.v])) (zzj ⟨24, i56.cs⟩ ty24 ?_))
   refine zzj ⟨24, [.bool false, x25.v]⟩ ty24 ?_
   refine zza 6 (zI 0) (zzb (zzo (ret0 [i56.v, .agg #[.bool false, .slice x25.a x25.n x25.c], .int .i64 0] ⟨zzr ty24 zze, zzr ty24 zze, zzq, trivial⟩ fun u61 e62 => ?_)))
   have hs := h13.1
   have ht := h19.1
   have hr := h27.pos
   have qhs31 := hs31
   have qhb32 := hb32
   have key := Nt.ediv_pos zN zM rfl rfl hM (fun hc => by simp at hb32; omega)
   rw [← hs, ← ht] at key
   refine ⟨i56, (⟨false, x25⟩ : IL), rfl, IntN.more (K := K) ?_ xq, IntN.more (K := L) ?_ xq⟩
   ·rw [key.1]; exact (h57.ext e62)
   ·rw [key.2]; exact (nat_intN (h27.ext (e55.trans (g59.ext.trans e62))))
 ·refine zyq 30 (x := zB i12.s) (zB false) (by rw [hs31]) (zzn 31 (uw 2 true false 30) (zzn 32 (uw 2 true false 30) (zzn 33 (uw 2 true false 30) (zza 34 (zB false) (zzc 52 [(2, .adr 2 0), (3, .adr 3 0), (4, .adr 4 0), (5, .adr 5 0), (7, .v x24.v), (8, .v x25.v), (34, zB false)] [(2, ⟨24, i12.cs⟩), (3, ⟨24, i18.cs⟩), (4, ⟨24, [.bool false, .slice none 0 0]⟩), (5, ⟨24, [.bool false, .slice none 0 0]⟩)] (zys xk (zzs (zzp ?_))))))))
  refine sq9 (zza 42 (.adr 2 0) (zzi 43 (zB i12.s) ty4 zzl (zza 44 (.adr 3 0) (zzi 45 (zB i18.s) ty4 zzl (zza 46 (zB (!(i12.s == i18.s))) (zza 47 (.v x24.v) (zza 48 (.v (.agg #[.bool (!(i12.s == i18.s)), x24.v])) (zzg 49 173 [.agg #[.bool (!(i12.s == i18.s)), x24.v]] ?_))))))))
  intro w63 u63 e63 d63
  have k68 := k_riTrim d63 (IntV.same (s := !(i12.s == i18.s)) (h26.ext e63).raw) xq
  with_reducible refine zPm k68 ?_
  rintro _ u66 g67 ⟨i64, rfl, h65⟩
  refine zza 50 (.v x25.v) (zza 51 (.v (.agg #[.bool false, x25.v])) (zzj ⟨24, i64.cs⟩ ty24 ?_))
  refine zzj ⟨24, [.bool false, x25.v]⟩ ty24 ?_
  refine zza 6 (zI 0) (zzb (zzo (ret0 [i64.v, .agg #[.bool false, .slice x25.a x25.n x25.c], .int .i64 0] ⟨zzr ty24 zze, zzr ty24 zze, zzq, trivial⟩ fun u69 e70 => ?_)))
  have hs := h13.1
  have ht := h19.1
  have hr := h27.pos
  have qhs31 := hs31
  have key := Nt.ediv_pos zN zM rfl rfl hM (fun hc => by rw [hs] at hs31; simp at hs31; omega)
  rw [← hs, ← ht] at key
  refine ⟨i64, (⟨false, x25⟩ : IL), rfl, IntN.more (K := K) ?_ xq, IntN.more (K := L) ?_ xq⟩
  ·rw [key.1]; exact (h65.ext e70)
  ·rw [key.2]; exact (nat_intN (h27.ext (e63.trans (g67.ext.trans e70))))
set_option maxHeartbeats 2000000 in
theorem k_reduce {u w : World} {i1 i2 : IL} {z y : Int} {K L : Nat} (d : Dat u w) (hi1 : IntV u i1 z K) (hi2 : IntV u i2 y L) (hK : K ≤ 400000000) (hL : L ≤ 400000000) : Calls Tryz.prog 93 #[i1.v, i2.v] w (Post u w fun v u' => ∃ r : RL, v = r.v ∧ RatN u' r ((z : Rat) / (y : Rat)) (max K L + 1)) := by
 refine zzm (args := [i1.v, i2.v]) Tryz.func93 rfl Tryz.ntmps93 (rs := [.cell 4 26]) Tryz.results93 (le_b rfl) (le_b rfl) d ?_
 refine sq9 (zzk 2 ⟨24, i1.cs⟩ (zzk 3 ⟨24, i2.cs⟩ (zzk 4 ⟨26, [.bool false, .slice none 0 0, .slice none 0 0]⟩ (zzb (zzd (sq9 (zzi 12 (.v (i1.v)) ty24 zze (zzg 13 98 [i1.v] ?_))))))))
 intro w11 u11 e11 d11
 have k14 := k_riSign d11 (hi1.ext e11) xq
 with_reducible refine zPm k14 ?_
 rintro _ u12 g13 rfl
 refine zza 14 (zB ((Nt.cmpS z 0) == 0)) ?_
 rcases Bool.eq_false_or_eq_true ((Nt.cmpS z 0) == 0) with hs15 | hs15
 ·refine zyq 15 (x := zB ((Nt.cmpS z 0) == 0)) (zB true) (by rw [hs15]) ?_
  have hz0 : z = 0 := Nt.cmp_eq0 hs15
  refine zzn 16 (uw 3 false true 15) (zzn 17 (uw 3 false true 15) (zzn 18 (uw 3 false true 15) (zza 19 (zB true) (zzb (zyr xk (sq9 (zxx 20 ⟨104, [.int .u32 1]⟩ 1 (fun b16 u17 e18 h19 => ?_))))))))
  refine zza 21 (.v (.agg #[.bool false, .slice none 0 0, .slice (some ⟨b16, 0, none⟩) 1 1])) (zzj ⟨26, [.bool false, .slice none 0 0, .slice (some ⟨b16, 0, none⟩) 1 1]⟩ ty26 ?_)
  refine zzb (zzo (zzw (ret0 [.agg #[.bool false, .slice none 0 0, .slice (some ⟨b16, 0, none⟩) 1 1]] ⟨zzr ty26 zze, trivial⟩ fun u20 e21 => ?_)))
  refine ⟨(⟨false, ⟨none, 0, 0⟩, (⟨some ⟨b16, 0, none⟩, 1, 1⟩ : Sl)⟩ : RL), rfl, ?_⟩
  have h9 : (z : Rat) / (y : Rat) = ((0 : Int) : Rat) := by rw [hz0]; simp [Rat.div_def]
  rw [h9]
  exact RatN.more (whole_rat (int_zero _ 1) ((one_data h19).ext e21)) xq
 ·refine zyq 15 (x := zB ((Nt.cmpS z 0) == 0)) (zB false) (by rw [hs15]) ?_
  have hz0 : z ≠ 0 := Nt.cmp_ne0 hs15
  refine zzi 16 (.v (i2.v)) ty24 zze ?_ (hw := w1 3 false 15)
  refine zzg 17 98 [i2.v] ?_ (hw := w1 3 false 15)
  intro w22 u22 e22 d22
  have k25 := k_riSign d22 (hi2.ext (e11.trans (g13.ext.trans e22))) xq
  with_reducible refine zPm k25 ?_
  rintro _ u23 g24 rfl
  refine zza 18 (zB ((Nt.cmpS y 0) == 0)) ?_ (hw := w1 3 false 15)
  refine zza 19 (zB ((Nt.cmpS y 0) == 0)) (zzb (zzu (b := (Nt.cmpS y 0) == 0) xk (fun hb26 => ?_) (fun hb26 => ?_)))
  ·replace hb26 : ((Nt.cmpS y 0) == 0) = true := hb26
   have hy0 : y = 0 := Nt.cmp_eq0 hb26
   refine sq9 (zxx 20 ⟨104, [.int .u32 1]⟩ 1 (fun b27 u28 e29 h30 => ?_))
   refine zza 21 (.v (.agg #[.bool false, .slice none 0 0, .slice (some ⟨b27, 0, none⟩) 1 1])) (zzj ⟨26, [.bool false, .slice none 0 0, .slice (some ⟨b27, 0, none⟩) 1 1]⟩ ty26 ?_)
   refine zzb (zzo (zzw (ret0 [.agg #[.bool false, .slice none 0 0, .slice (some ⟨b27, 0, none⟩) 1 1]] ⟨zzr ty26 zze, trivial⟩ fun u31 e32 => ?_)))
   refine ⟨(⟨false, ⟨none, 0, 0⟩, (⟨some ⟨b27, 0, none⟩, 1, 1⟩ : Sl)⟩ : RL), rfl, ?_⟩
   have h9 : (z : Rat) / (y : Rat) = ((0 : Int) : Rat) := by rw [hy0]; simp [Rat.div_def]
   rw [h9]
   exact RatN.more (whole_rat (int_zero _ 1) ((one_data h30).ext e32)) xq
  ·replace hb26 : ((Nt.cmpS y 0) == 0) = false := hb26
   have hy0 : y ≠ 0 := Nt.cmp_ne0 hb26
   have hg0 : ((Nat.gcd z.natAbs y.natAbs : Nat) : Int) ≠ 0 := by have h9 := Nat.gcd_pos_of_pos_right z.natAbs (Int.natAbs_pos.2 hy0); omega
   refine zzs (zzp ?_)
   refine sq9 (zzi 22 (.v (i1.v)) ty24 zze (zzi 23 (.v (i2.v)) ty24 zze (zzg 24 172 [i1.v, i2.v] ?_)))
   intro w33 u33 e33 d33
   have k38 := k_riGcd d33 (hi1.ext (e11.trans (g13.ext.trans (e22.trans (g24.ext.trans e33))))) (hi2.ext (e11.trans (g13.ext.trans (e22.trans (g24.ext.trans e33))))) xq xq
   with_reducible refine zPm k38 ?_
   rintro _ u36 g37 ⟨i34, rfl, h35⟩
   refine zzk 5 ⟨24, [.bool false, .slice none 0 0]⟩ (zzj ⟨24, i34.cs⟩ ty24 ?_)
   refine zzb (sq9 (zzi 26 (.v (i1.v)) ty24 zze (zzi 27 (.v (i34.v)) ty24 zze (zzg 28 167 [i1.v, i34.v] ?_))))
   intro w39 u39 e39 d39
   have k46 := k_riDiv d39 (hi1.ext (e11.trans (g13.ext.trans (e22.trans (g24.ext.trans (e33.trans (g37.ext.trans e39))))))) (h35.ext e39).raw hg0 xq xq
   with_reducible refine zPm k46 ?_
   rintro _ u44 g45 ⟨i40, i42, rfl, h41, h43⟩
   refine zza 25 (.v (.tuple #[i40.v, i42.v, .int .i64 0])) (zza 29 (.v (i40.v)) (zza 30 (.v (i42.v)) (zza 31 (zI 0) (zzk 6 ⟨24, [.bool false, .slice none 0 0]⟩ (zzk 7 ⟨24, [.bool false, .slice none 0 0]⟩ (zzj ⟨24, i40.cs⟩ ty24 ?_))))))
   refine zzj ⟨24, i42.cs⟩ ty24 ?_
   refine zza 8 (zI 0) (zzb (sq9 (zzi 33 (.v (i2.v)) ty24 zze (zzi 34 (.v (i34.v)) ty24 zze (zzg 35 167 [i2.v, i34.v] ?_)))))
   intro w47 u47 e47 d47
   have k54 := k_riDiv d47 (hi2.ext (e11.trans (g13.ext.trans (e22.trans (g24.ext.trans (e33.trans (g37.ext.trans (e39.trans (g45.ext.trans e47))))))))) (h35.ext (e39.trans (g45.ext.trans e47))).raw hg0 xq xq
   with_reducible refine zPm k54 ?_
   rintro _ u52 g53 ⟨i48, i50, rfl, h49, h51⟩
   refine zza 32 (.v (.tuple #[i48.v, i50.v, .int .i64 0])) (zza 36 (.v (i48.v)) (zza 37 (.v (i50.v)) (zza 38 (zI 0) (zzk 9 ⟨24, [.bool false, .slice none 0 0]⟩ (zzk 10 ⟨24, [.bool false, .slice none 0 0]⟩ (zzj ⟨24, i48.cs⟩ ty24 ?_))))))
   refine zzj ⟨24, i50.cs⟩ ty24 ?_
   refine zza 11 (zI 0) (zzc 47 [(4, .adr 4 0), (6, .adr 6 0), (9, .adr 9 0)] [(4, ⟨26, [.bool false, .slice none 0 0, .slice none 0 0]⟩), (6, ⟨24, i40.cs⟩), (9, ⟨24, i48.cs⟩)] (zzd (sq9 (zza 39 (.adr 9 0) (zzi 40 (zB i48.s) ty4 zzl (zzb (zzu (b := i48.s) xk (fun hb55 => ?_) (fun hb55 => ?_))))))))
   ·replace hb55 : i48.s = true := hb55
    refine zzf (zzi 41 (.v (i40.v)) ty24 zze (zzg 42 108 [i40.v] ?_))
    intro w56 u56 e56 d56
    have k61 := k_riNeg d56 (h41.ext (e47.trans (g53.ext.trans e56))).raw xq
    with_reducible refine zPm k61 ?_
    rintro _ u59 g60 ⟨i57, rfl, h58⟩
    refine zzj ⟨24, i57.cs⟩ ty24 ?_
    refine zzb (sq9 (zzi 43 (.v (i57.v)) ty24 zze (zza 44 (.adr 9 1) (zzi 45 (.v i48.m.v) ty22 zzl (zza 46 (.v (.agg #[.bool i57.s, i57.m.v, i48.m.v])) (zzj ⟨26, i57.cs ++ [i48.m.v]⟩ ty26 ?_))))))
    refine zzb (zzo (ret0 [.agg #[.bool i57.s, .slice i57.m.a i57.m.n i57.m.c, .slice i48.m.a i48.m.n i48.m.c]] ⟨zzr ty26 zze, trivial⟩ fun u62 e63 => ?_))
    refine ⟨(⟨i57.s, i57.m, i48.m⟩ : RL), rfl, RatN.more (red_neg hy0 rfl (h58.ext e63) h49 hb55 ((int_mag h49).ext (e56.trans (g60.ext.trans e63)))) xq⟩
   ·replace hb55 : i48.s = false := hb55
    refine zzs (zzp ?_)
    refine sq9 (zzi 43 (.v (i40.v)) ty24 zze (zza 44 (.adr 9 1) (zzi 45 (.v i48.m.v) ty22 zzl (zza 46 (.v (.agg #[.bool i40.s, i40.m.v, i48.m.v])) (zzj ⟨26, i40.cs ++ [i48.m.v]⟩ ty26 ?_)))))
    refine zzb (zzo (ret0 [.agg #[.bool i40.s, .slice i40.m.a i40.m.n i40.m.c, .slice i48.m.a i48.m.n i48.m.c]] ⟨zzr ty26 zze, trivial⟩ fun u64 e65 => ?_))
    refine ⟨(⟨i40.s, i40.m, i48.m⟩ : RL), rfl, RatN.more (red_pos hy0 rfl (h41.ext (e47.trans (g53.ext.trans e65))) h49 hb55 ((int_mag h49).ext e65)) xq⟩
theorem k_parts {u w : World} {r : RL} {q : Rat} {K : Nat} (d : Dat u w) (h : RatV u r q K) (hKK : K ≤ 400000000) : Calls Tryz.prog 92 #[r.v] w (Post u w (PartV q K)) := by
 obtain ⟨⟨z, D, hi, hd, hq⟩, hK⟩ := h
 change IntV u ⟨r.s, r.m⟩ z K at hi
 change NatV u r.d D K at hd
 refine zzm (args := [r.v]) Tryz.func92 rfl Tryz.ntmps92 (rs := [.cell 2 24, .cell 3 24]) Tryz.results92 (le_b rfl) (le_b rfl) d ?_
 refine sq9 (zzk 1 ⟨26, r.cs⟩ (zzk 2 ⟨24, [.bool false, .slice none 0 0]⟩ (zzk 3 ⟨24, [.bool false, .slice none 0 0]⟩ (zzb (sq9 (zza 5 (.adr 1 2) (zzi 6 (.v r.d.v) ty22 zzl (zzg 7 171 [r.d.v] ?_))))))))
 intro w11 u11 e11 d11
 have k16 := k_rnTrim d11 (hd.ext e11) xq
 with_reducible refine zPm k16 ?_
 rintro _ u14 g15 ⟨x12, rfl, h13⟩
 refine zza 8 (.v (.agg #[.bool false, x12.v])) (zzk 4 ⟨24, [.bool false, .slice none 0 0]⟩ (zzj ⟨24, [.bool false, x12.v]⟩ ty24 ?_))
 refine zzb (zzd (sq9 (zza 9 (.adr 4 1) (zzi 10 (.v x12.v) ty22 zzl (zza 11 (zI x12.n) (zza 12 (zB ((x12.n : Int) == 0)) (zzb (zzu (b := (x12.n : Int) == 0) xk (fun hb17 => ?_) (fun hb17 => ?_)))))))))
 ·replace hb17 : ((x12.n : Int) == 0) = true := hb17
  have qhb17 : (x12.n : Int) = 0 := by simpa using hb17
  refine sq9 (zza 13 (.v (.agg #[.bool false, .slice none 0 0])) (zxx 14 ⟨104, [.int .u32 1]⟩ 1 (fun b18 u19 e20 h21 => ?_)))
  refine zza 15 (.v (.agg #[.bool false, .slice (some ⟨b18, 0, none⟩) 1 1])) (zzj ⟨24, [.bool false, .slice none 0 0]⟩ ty24 ?_)
  refine zzj ⟨24, [.bool false, .slice (some ⟨b18, 0, none⟩) 1 1]⟩ ty24 ?_
  refine zzb (zzo (zzw (ret0 [.agg #[.bool false, .slice none 0 0], .agg #[.bool false, .slice (some ⟨b18, 0, none⟩) 1 1]] ⟨zzr ty24 zze, zzr ty24 zze, trivial⟩ fun u22 e23 => ?_)))
  have hp := h13.pos
  have hD : D = 0 := by simp at hb17; omega
  exact ⟨⟨false, ⟨none, 0, 0⟩⟩, ⟨false, (⟨some ⟨b18, 0, none⟩, 1, 1⟩ : Sl)⟩, 0, 1, rfl, (int_zero _ K).raw, nat_intN (((one_data h21).ext e23).more hK), by omega, by rw [hq, hD]; simp, hK⟩
 ·replace hb17 : ((x12.n : Int) == 0) = false := hb17
  have qhb17 : ¬ ((x12.n : Int) = 0) := by simpa using hb17
  refine zzs (zzp ?_)
  refine zzd (zzz [0, 1, 0, 3, 15] [(0, []), (1, []), (2, []), (3, [4]), (4, [])] xk xk (zza 16 (.adr 1 0) (zzi 17 (.v (.agg #[.bool r.s, r.m.v])) ty24 zze (zzi 18 (.v (.agg #[.bool false, x12.v])) ty24 zze (zzj ⟨24, [.bool r.s, r.m.v]⟩ ty24 ?_)))))
  refine zzj ⟨24, [.bool false, x12.v]⟩ ty24 ?_
  refine zzb (zzo (ret0 [.agg #[.bool r.s, .slice r.m.a r.m.n r.m.c], .agg #[.bool false, .slice x12.a x12.n x12.c]] ⟨zzr ty24 zze, zzr ty24 zze, trivial⟩ fun u24 e25 => ?_))
  have hp := h13.pos
  exact ⟨⟨r.s, r.m⟩, ⟨false, x12⟩, z, D, rfl, (hi.ext (e11.trans (g15.ext.trans e25))), nat_intN (h13.ext e25), by simp at hb17; omega, hq, hK⟩
theorem k_rqTrim {u w : World} {r1 : RL} {x : Rat} {K : Nat} (d : Dat u w) (hr1 : RatV u r1 x K) (hK : K ≤ 100000000) : Calls Tryz.prog 90 #[r1.v] w (Post u w fun v u' => ∃ r : RL, v = r.v ∧ RatN u' r x K) := by
 refine zzm (args := [r1.v]) Tryz.func90 rfl Tryz.ntmps90 (rs := [.cell 2 26]) Tryz.results90 (le_b rfl) (le_b rfl) d ?_
 refine sq9 (zzk 1 ⟨26, r1.cs⟩ (zzk 2 ⟨26, [.bool false, .slice none 0 0, .slice none 0 0]⟩ (zzb (sq9 (zzi 6 (.v (r1.v)) ty26 zze (zzg 7 92 [r1.v] ?_))))))
 intro w11 u11 e11 d11
 have k15 := k_parts d11 (hr1.ext e11) xq
 with_reducible refine zPm k15 ?_
 rintro _ u13 g14 ⟨i12, j12, z12, D12, rfl, hi12, hj12, hp12, hq12, hk12⟩
 refine zza 5 (.v (.tuple #[i12.v, j12.v])) (zza 8 (.v (i12.v)) (zza 9 (.v (j12.v)) (zzk 3 ⟨24, [.bool false, .slice none 0 0]⟩ (zzk 4 ⟨24, [.bool false, .slice none 0 0]⟩ (zzj ⟨24, i12.cs⟩ ty24 ?_)))))
 refine zzj ⟨24, j12.cs⟩ ty24 ?_
 refine zzb (sq9 (zzi 10 (.v (i12.v)) ty24 zze (zzi 11 (.v (j12.v)) ty24 zze (zzg 12 93 [i12.v, j12.v] ?_))))
 intro w16 u16 e16 d16
 have k21 := k_reduce d16 (hi12.ext e16) (hj12.ext e16).raw xq xq
 with_reducible refine zPm k21 ?_
 rintro _ u19 g20 ⟨r17, rfl, h18⟩
 refine zzj ⟨26, r17.cs⟩ ty26 ?_
 refine zzb (zzo (ret0 [r17.v] ⟨zzr ty26 zze, trivial⟩ fun u22 e23 => ?_))
 refine ⟨r17, rfl, RatN.fit (K := (max K K + 1)) ?_ (hr1.rs)⟩
 rw [hq12, ← Nt.mk_div]
 exact (h18.ext e23)
theorem k_rqSame {u w : World} {r1 r2 : RL} {x y : Rat} {K L : Nat} (d : Dat u w) (hr1 : RatN u r1 x K) (hr2 : RatN u r2 y L) : Calls Tryz.prog 89 #[r1.v, r2.v] w (Post u w fun v _ => v = .bool (decide (x = y))) := by
 refine zzm (args := [r1.v, r2.v]) Tryz.func89 rfl Tryz.ntmps89 (rs := [.tmp 4]) Tryz.results89 (le_b rfl) (le_b rfl) d ?_
 refine sq9 (zzk 2 ⟨26, r1.cs⟩ (zzk 3 ⟨26, r2.cs⟩ (zza 4 (zB false) (zzb (sq9 (zza 5 (.adr 2 0) (zzi 6 (.v (.agg #[.bool r1.s, r1.m.v])) ty24 zze (zza 7 (.adr 3 0) (zzi 8 (.v (.agg #[.bool r2.s, r2.m.v])) ty24 zze (zzg 9 169 [.agg #[.bool r1.s, r1.m.v], .agg #[.bool r2.s, r2.m.v]] ?_))))))))))
 intro w11 u11 e11 d11
 have k14 := k_riSame d11 ((RatN.num hr1).ext e11) ((RatN.num hr2).ext e11)
 with_reducible refine zPm k14 ?_
 rintro _ u12 g13 rfl
 rcases Bool.eq_false_or_eq_true (decide (x.num = y.num)) with hs15 | hs15
 ·refine zyq 10 (x := zB (decide (x.num = y.num))) (zB true) (by rw [hs15]) ?_
  have qhs15 := of_decide_eq_true hs15
  refine zza 11 (.adr 2 2) ?_ (hw := w1 5 true 10)
  refine zzi 12 (.v r1.d.v) ty22 zzl ?_ (hw := w1 5 true 10)
  refine zza 13 (.adr 3 2) ?_ (hw := w1 5 true 10)
  refine zzi 14 (.v r2.d.v) ty22 zzl ?_ (hw := w1 5 true 10)
  refine zzg 15 170 [r1.d.v, r2.d.v] ?_ (hw := w1 5 true 10)
  intro w16 u16 e16 d16
  have k19 := k_rnSame d16 ((RatN.den hr1).ext (e11.trans (g13.ext.trans e16))) ((RatN.den hr2).ext (e11.trans (g13.ext.trans e16)))
  with_reducible refine zPm k19 ?_
  rintro _ u17 g18 rfl
  refine zza 16 (zB (decide (x.den = y.den))) (zza 4 (zB (decide (x.den = y.den))) (zzb (zzo (ret0 [.bool (decide (x.den = y.den))] ⟨zzq, trivial⟩ fun u20 e21 => ?_))))
  show _ = _
  rw [← Nt.same_q, hs15]
  rfl
 ·refine zyq 10 (x := zB (decide (x.num = y.num))) (zB false) (by rw [hs15]) ?_
  have qhs15 := of_decide_eq_false hs15
  refine zzn 11 (uw 5 true false 10) (zzn 12 (uw 5 true false 10) (zzn 13 (uw 5 true false 10) (zzn 14 (uw 5 true false 10) (zzn 15 (uw 5 true false 10) (zza 16 (zB false) (zza 4 (zB false) (zzb (zzo (ret0 [.bool false] ⟨zzq, trivial⟩ fun u22 e23 => ?_)))))))))
  show _ = _
  rw [← Nt.same_q, hs15]
  rfl
theorem k_rqOf {u w : World} {z : Int} (d : Dat u w) (h0 : -9223372036854775808 ≤ z) (h1 : z ≤ 9223372036854775807) : Calls Tryz.prog 30 #[.int .i64 z] w (Post u w fun v u' => ∃ r : RL, v = r.v ∧ RatN u' r (z : Rat) 2) := by
 refine zzm (args := [.int .i64 z]) Tryz.func30 rfl Tryz.ntmps30 (rs := [.cell 2 26]) Tryz.results30 (le_b rfl) (le_b rfl) d ?_
 refine sq9 (zzk 2 ⟨26, [.bool false, .slice none 0 0, .slice none 0 0]⟩ (zzb (sq9 (zza 3 (zI z) (zzg 4 99 [.int .i64 z] ?_)))))
 intro w11 u11 e11 d11
 have k16 := k_riOf d11 (z := z) xq xq
 with_reducible refine zPm k16 ?_
 rintro _ u14 g15 ⟨i12, rfl, h13⟩
 refine zxx 5 ⟨104, [.int .u32 1]⟩ 1 (fun b17 u18 e19 h20 => ?_)
 refine zza 6 (.v (.agg #[.bool i12.s, i12.m.v, .slice (some ⟨b17, 0, none⟩) 1 1])) (zzj ⟨26, i12.cs ++ [.slice (some ⟨b17, 0, none⟩) 1 1]⟩ ty26 ?_)
 refine zzb (zzo (ret0 [.agg #[.bool i12.s, .slice i12.m.a i12.m.n i12.m.c, .slice (some ⟨b17, 0, none⟩) 1 1]] ⟨zzr ty26 zze, trivial⟩ fun u21 e22 => ?_))
 refine ⟨(⟨i12.s, i12.m, (⟨some ⟨b17, 0, none⟩, 1, 1⟩ : Sl)⟩ : RL), rfl, ?_⟩
 exact whole_rat (h13.ext (e19.trans e22)) ((one_data h20).ext e22)
theorem k_rqFrac {u w : World} {a b : Int} (d : Dat u w) (ha0 : -9223372036854775808 ≤ a) (ha1 : a ≤ 9223372036854775807) (hb0 : -9223372036854775808 ≤ b) (hb1 : b ≤ 9223372036854775807) : Calls Tryz.prog 75 #[.int .i64 a, .int .i64 b] w (Post u w fun v u' => ∃ r : RL, v = r.v ∧ RatN u' r ((a : Rat) / (b : Rat)) 3) := by
 refine zzm (args := [.int .i64 a, .int .i64 b]) Tryz.func75 rfl Tryz.ntmps75 (rs := [.cell 4 26]) Tryz.results75 (le_b rfl) (le_b rfl) d ?_
 refine sq9 (zzk 4 ⟨26, [.bool false, .slice none 0 0, .slice none 0 0]⟩ (zzb (sq9 (zza 5 (zI a) (zzg 6 99 [.int .i64 a] ?_)))))
 intro w11 u11 e11 d11
 have k16 := k_riOf d11 (z := a) xq xq
 with_reducible refine zPm k16 ?_
 rintro _ u14 g15 ⟨i12, rfl, h13⟩
 refine zza 7 (zI b) (zzg 8 99 [.int .i64 b] ?_)
 intro w17 u17 e17 d17
 have k22 := k_riOf d17 (z := b) xq xq
 with_reducible refine zPm k22 ?_
 rintro _ u20 g21 ⟨i18, rfl, h19⟩
 refine zzg 9 93 [i12.v, i18.v] ?_
 intro w23 u23 e23 d23
 have k28 := k_reduce d23 (h13.ext (e17.trans (g21.ext.trans e23))).raw (h19.ext e23).raw xq xq
 with_reducible refine zPm k28 ?_
 rintro _ u26 g27 ⟨r24, rfl, h25⟩
 refine zzj ⟨26, r24.cs⟩ ty26 ?_
 refine zzb (zzo (ret0 [r24.v] ⟨zzr ty26 zze, trivial⟩ fun u29 e30 => ?_))
 refine ⟨r24, rfl, RatN.more (K := (max 2 2 + 1)) ?_ xq⟩
 exact (h25.ext e30)
theorem k_rqSign {u w : World} {r1 : RL} {x : Rat} {K : Nat} (d : Dat u w) (hr1 : RatV u r1 x K) (hK : K ≤ 100000000) : Calls Tryz.prog 29 #[r1.v] w (Post u w fun v u' => v = .int .i64 (Nt.sgQ x)) := by
 refine zzm (args := [r1.v]) Tryz.func29 rfl Tryz.ntmps29 (rs := [.tmp 2]) Tryz.results29 (le_b rfl) (le_b rfl) d ?_
 refine sq9 (zzk 1 ⟨26, r1.cs⟩ (zza 2 (zI 0) (zzb (sq9 (zzi 6 (.v (r1.v)) ty26 zze (zzg 7 92 [r1.v] ?_))))))
 intro w11 u11 e11 d11
 have k15 := k_parts d11 (hr1.ext e11) xq
 with_reducible refine zPm k15 ?_
 rintro _ u13 g14 ⟨i12, j12, z12, D12, rfl, hi12, hj12, hp12, hq12, hk12⟩
 refine zza 5 (.v (.tuple #[i12.v, j12.v])) (zza 8 (.v (i12.v)) (zza 9 (.v (j12.v)) (zzk 3 ⟨24, [.bool false, .slice none 0 0]⟩ (zzk 4 ⟨24, [.bool false, .slice none 0 0]⟩ (zzj ⟨24, i12.cs⟩ ty24 ?_)))))
 refine zzj ⟨24, j12.cs⟩ ty24 ?_
 refine zzb (sq9 (zzi 10 (.v (i12.v)) ty24 zze (zzg 11 98 [i12.v] ?_)))
 intro w16 u16 e16 d16
 have k19 := k_riSign d16 (hi12.ext e16) xq
 with_reducible refine zPm k19 ?_
 rintro _ u17 g18 rfl
 refine zza 2 (zI (Nt.cmpS z12 0)) (zzb (zzo (ret0 [.int .i64 (Nt.cmpS z12 0)] ⟨zzq, trivial⟩ fun u20 e21 => ?_)))
 show _ = _
 rw [hq12, ← Nt.sg_mk hp12]
 rfl
theorem k_rqCompare {u w : World} {r1 : RL} {x : Rat} {K : Nat} {r2 : RL} {y : Rat} {L : Nat} (d : Dat u w) (hr1 : RatV u r1 x K) (hr2 : RatV u r2 y L) (hK : K ≤ 100000000) (hL : L ≤ 100000000) : Calls Tryz.prog 28 #[r1.v, r2.v] w (Post u w fun v u' => v = .int .i64 (Nt.cmpQ x y)) := by
 refine zzm (args := [r1.v, r2.v]) Tryz.func28 rfl Tryz.ntmps28 (rs := [.tmp 4]) Tryz.results28 (le_b rfl) (le_b rfl) d ?_
 refine sq9 (zzk 2 ⟨26, r1.cs⟩ (zzk 3 ⟨26, r2.cs⟩ (zza 4 (zI 0) (zzb (sq9 (zzi 10 (.v (r1.v)) ty26 zze (zzg 11 92 [r1.v] ?_)))))))
 intro w11 u11 e11 d11
 have k15 := k_parts d11 (hr1.ext e11) xq
 with_reducible refine zPm k15 ?_
 rintro _ u13 g14 ⟨i12, j12, z12, D12, rfl, hi12, hj12, hp12, hq12, hk12⟩
 refine zza 9 (.v (.tuple #[i12.v, j12.v])) (zza 12 (.v (i12.v)) (zza 13 (.v (j12.v)) (zzk 5 ⟨24, [.bool false, .slice none 0 0]⟩ (zzk 6 ⟨24, [.bool false, .slice none 0 0]⟩ (zzj ⟨24, i12.cs⟩ ty24 ?_)))))
 refine zzj ⟨24, j12.cs⟩ ty24 ?_
 refine zzb (sq9 (zzi 15 (.v (r2.v)) ty26 zze (zzg 16 92 [r2.v] ?_)))
 intro w16 u16 e16 d16
 have k20 := k_parts d16 (hr2.ext (e11.trans (g14.ext.trans e16))) xq
 with_reducible refine zPm k20 ?_
 rintro _ u18 g19 ⟨i17, j17, z17, D17, rfl, hi17, hj17, hp17, hq17, hk17⟩
 refine zza 14 (.v (.tuple #[i17.v, j17.v])) (zza 17 (.v (i17.v)) (zza 18 (.v (j17.v)) (zzk 7 ⟨24, [.bool false, .slice none 0 0]⟩ (zzk 8 ⟨24, [.bool false, .slice none 0 0]⟩ (zzj ⟨24, i17.cs⟩ ty24 ?_)))))
 refine zzj ⟨24, j17.cs⟩ ty24 ?_
 refine zzb (zzd (zzz [0, 0, 3, 0, 0, 31, 63, 127] [(0, []), (1, []), (3, []), (4, []), (2, []), (5, []), (6, []), (7, [])] xk xk (zzi 19 (.v (i12.v)) ty24 zze (zzi 20 (.v (j17.v)) ty24 zze (zzi 22 (.v (i17.v)) ty24 zze (zzi 23 (.v (j12.v)) ty24 zze (zzg 21 94 [i12.v, j17.v] ?_)))))))
 intro w21 u21 e21 d21
 have k26 := k_riMul d21 (hi12.ext (e16.trans (g19.ext.trans e21))) (hj17.ext e21).raw xq xq
 with_reducible refine zPm k26 ?_
 rintro _ u24 g25 ⟨i22, rfl, h23⟩
 refine zzg 24 94 [i17.v, j12.v] ?_
 intro w27 u27 e27 d27
 have k32 := k_riMul d27 (hi17.ext (e21.trans (g25.ext.trans e27))) (hj12.ext (e16.trans (g19.ext.trans (e21.trans (g25.ext.trans e27))))).raw xq xq
 with_reducible refine zPm k32 ?_
 rintro _ u30 g31 ⟨i28, rfl, h29⟩
 refine zzg 25 97 [i22.v, i28.v] ?_
 intro w33 u33 e33 d33
 have k36 := k_riCompare d33 (h23.ext (e27.trans (g31.ext.trans e33))).raw (h29.ext e33).raw xq xq
 with_reducible refine zPm k36 ?_
 rintro _ u34 g35 rfl
 refine zza 4 (zI (Nt.cmpS (z12 * (D17 : Int)) (z17 * (D12 : Int)))) (zzb (zzo (ret0 [.int .i64 (Nt.cmpS (z12 * (D17 : Int)) (z17 * (D12 : Int)))] ⟨zzq, trivial⟩ fun u37 e38 => ?_)))
 show _ = _
 rw [hq12, hq17, ← Nt.cmp_mk hp12 hp17]
 rfl
theorem k_rqLess {u w : World} {r1 : RL} {x : Rat} {K : Nat} {r2 : RL} {y : Rat} {L : Nat} (d : Dat u w) (hr1 : RatV u r1 x K) (hr2 : RatV u r2 y L) (hK : K ≤ 100000000) (hL : L ≤ 100000000) : Calls Tryz.prog 110 #[r1.v, r2.v] w (Post u w fun v u' => v = .bool (decide (x < y))) := by
 refine zzm (args := [r1.v, r2.v]) Tryz.func110 rfl Tryz.ntmps110 (rs := [.tmp 4]) Tryz.results110 (le_b rfl) (le_b rfl) d ?_
 refine sq9 (zzk 2 ⟨26, r1.cs⟩ (zzk 3 ⟨26, r2.cs⟩ (zza 4 (zB false) (zzb (sq9 (zzi 5 (.v (r1.v)) ty26 zze (zzi 6 (.v (r2.v)) ty26 zze (zzg 7 28 [r1.v, r2.v] ?_))))))))
 intro w11 u11 e11 d11
 have k14 := k_rqCompare d11 (hr1.ext e11) (hr2.ext e11) xq xq
 with_reducible refine zPm k14 ?_
 rintro _ u12 g13 rfl
 refine zza 8 (zB (decide ((Nt.cmpQ x y) < 0))) (zza 4 (zB (decide ((Nt.cmpQ x y) < 0))) (zzb (zzo (ret0 [.bool (decide ((Nt.cmpQ x y) < 0))] ⟨zzq, trivial⟩ fun u15 e16 => ?_))))
 show _ = _
 rw [← Nt.cmpQ_lt]
 rfl
theorem k_rqAdd {u w : World} {r1 : RL} {x : Rat} {K : Nat} {r2 : RL} {y : Rat} {L : Nat} (d : Dat u w) (hr1 : RatV u r1 x K) (hr2 : RatV u r2 y L) (hK : K ≤ 100000000) (hL : L ≤ 100000000) : Calls Tryz.prog 57 #[r1.v, r2.v] w (Post u w fun v u' => ∃ r : RL, v = r.v ∧ RatN u' r (x + y) (K + L + 2)) := by
 refine zzm (args := [r1.v, r2.v]) Tryz.func57 rfl Tryz.ntmps57 (rs := [.cell 4 26]) Tryz.results57 (le_b rfl) (le_b rfl) d ?_
 refine sq9 (zzk 2 ⟨26, r1.cs⟩ (zzk 3 ⟨26, r2.cs⟩ (zzk 4 ⟨26, [.bool false, .slice none 0 0, .slice none 0 0]⟩ (zzb (sq9 (zzi 10 (.v (r1.v)) ty26 zze (zzg 11 92 [r1.v] ?_)))))))
 intro w11 u11 e11 d11
 have k15 := k_parts d11 (hr1.ext e11) xq
 with_reducible refine zPm k15 ?_
 rintro _ u13 g14 ⟨i12, j12, z12, D12, rfl, hi12, hj12, hp12, hq12, hk12⟩
 refine zza 9 (.v (.tuple #[i12.v, j12.v])) (zza 12 (.v (i12.v)) (zza 13 (.v (j12.v)) (zzk 5 ⟨24, [.bool false, .slice none 0 0]⟩ (zzk 6 ⟨24, [.bool false, .slice none 0 0]⟩ (zzj ⟨24, i12.cs⟩ ty24 ?_)))))
 refine zzj ⟨24, j12.cs⟩ ty24 ?_
 refine zzb (sq9 (zzi 15 (.v (r2.v)) ty26 zze (zzg 16 92 [r2.v] ?_)))
 intro w16 u16 e16 d16
 have k20 := k_parts d16 (hr2.ext (e11.trans (g14.ext.trans e16))) xq
 with_reducible refine zPm k20 ?_
 rintro _ u18 g19 ⟨i17, j17, z17, D17, rfl, hi17, hj17, hp17, hq17, hk17⟩
 refine zza 14 (.v (.tuple #[i17.v, j17.v])) (zza 17 (.v (i17.v)) (zza 18 (.v (j17.v)) (zzk 7 ⟨24, [.bool false, .slice none 0 0]⟩ (zzk 8 ⟨24, [.bool false, .slice none 0 0]⟩ (zzj ⟨24, i17.cs⟩ ty24 ?_)))))
 refine zzj ⟨24, j17.cs⟩ ty24 ?_
 refine zzb (zzd (zzz [0, 0, 3, 0, 0, 31, 63, 0, 0, 511, 1023, 2047] [(0, []), (1, []), (3, []), (4, []), (7, []), (8, []), (2, []), (5, []), (6, []), (9, []), (10, []), (11, [])] xk xk (zzi 19 (.v (i12.v)) ty24 zze (zzi 20 (.v (j17.v)) ty24 zze (zzi 22 (.v (i17.v)) ty24 zze (zzi 23 (.v (j12.v)) ty24 zze (zzi 26 (.v (j12.v)) ty24 zze (zzi 27 (.v (j17.v)) ty24 zze (zzg 21 94 [i12.v, j17.v] ?_)))))))))
 intro w21 u21 e21 d21
 have k26 := k_riMul d21 (hi12.ext (e16.trans (g19.ext.trans e21))) (hj17.ext e21).raw xq xq
 with_reducible refine zPm k26 ?_
 rintro _ u24 g25 ⟨i22, rfl, h23⟩
 refine zzg 24 94 [i17.v, j12.v] ?_
 intro w27 u27 e27 d27
 have k32 := k_riMul d27 (hi17.ext (e21.trans (g25.ext.trans e27))) (hj12.ext (e16.trans (g19.ext.trans (e21.trans (g25.ext.trans e27))))).raw xq xq
 with_reducible refine zPm k32 ?_
 rintro _ u30 g31 ⟨i28, rfl, h29⟩
 refine zzg 25 129 [i22.v, i28.v] ?_
 intro w33 u33 e33 d33
 have k38 := k_riAdd d33 (h23.ext (e27.trans (g31.ext.trans e33))).raw (h29.ext e33).raw xq xq
 with_reducible refine zPm k38 ?_
 rintro _ u36 g37 ⟨i34, rfl, h35⟩
 refine zzg 28 94 [j12.v, j17.v] ?_
 intro w39 u39 e39 d39
 have k44 := k_riMul d39 (hj12.ext (e16.trans (g19.ext.trans (e21.trans (g25.ext.trans (e27.trans (g31.ext.trans (e33.trans (g37.ext.trans e39))))))))).raw (hj17.ext (e21.trans (g25.ext.trans (e27.trans (g31.ext.trans (e33.trans (g37.ext.trans e39))))))).raw xq xq
 with_reducible refine zPm k44 ?_
 rintro _ u42 g43 ⟨i40, rfl, h41⟩
 refine zzg 29 93 [i34.v, i40.v] ?_
 intro w45 u45 e45 d45
 have k50 := k_reduce d45 (h35.ext (e39.trans (g43.ext.trans e45))).raw (h41.ext e45).raw xq xq
 with_reducible refine zPm k50 ?_
 rintro _ u48 g49 ⟨r46, rfl, h47⟩
 refine zzj ⟨26, r46.cs⟩ ty26 ?_
 refine zzc 30 [(4, .adr 4 0)] [(4, ⟨26, r46.cs⟩)] (zzo (ret0 [r46.v] ⟨zzr ty26 zze, trivial⟩ fun u51 e52 => ?_))
 refine ⟨r46, rfl, RatN.more (K := (max (max (K + L) (L + K) + 1) (K + L) + 1)) ?_ xq⟩
 rw [hq12, hq17, ← Nt.add_div2 hp12 hp17]
 exact (h47.ext e52)
theorem k_rqMul {u w : World} {r1 : RL} {x : Rat} {K : Nat} {r2 : RL} {y : Rat} {L : Nat} (d : Dat u w) (hr1 : RatV u r1 x K) (hr2 : RatV u r2 y L) (hK : K ≤ 100000000) (hL : L ≤ 100000000) : Calls Tryz.prog 25 #[r1.v, r2.v] w (Post u w fun v u' => ∃ r : RL, v = r.v ∧ RatN u' r (x * y) (K + L + 1)) := by
 refine zzm (args := [r1.v, r2.v]) Tryz.func25 rfl Tryz.ntmps25 (rs := [.cell 4 26]) Tryz.results25 (le_b rfl) (le_b rfl) d ?_
 refine sq9 (zzk 2 ⟨26, r1.cs⟩ (zzk 3 ⟨26, r2.cs⟩ (zzk 4 ⟨26, [.bool false, .slice none 0 0, .slice none 0 0]⟩ (zzb (sq9 (zzi 10 (.v (r1.v)) ty26 zze (zzg 11 92 [r1.v] ?_)))))))
 intro w11 u11 e11 d11
 have k15 := k_parts d11 (hr1.ext e11) xq
 with_reducible refine zPm k15 ?_
 rintro _ u13 g14 ⟨i12, j12, z12, D12, rfl, hi12, hj12, hp12, hq12, hk12⟩
 refine zza 9 (.v (.tuple #[i12.v, j12.v])) (zza 12 (.v (i12.v)) (zza 13 (.v (j12.v)) (zzk 5 ⟨24, [.bool false, .slice none 0 0]⟩ (zzk 6 ⟨24, [.bool false, .slice none 0 0]⟩ (zzj ⟨24, i12.cs⟩ ty24 ?_)))))
 refine zzj ⟨24, j12.cs⟩ ty24 ?_
 refine zzb (sq9 (zzi 15 (.v (r2.v)) ty26 zze (zzg 16 92 [r2.v] ?_)))
 intro w16 u16 e16 d16
 have k20 := k_parts d16 (hr2.ext (e11.trans (g14.ext.trans e16))) xq
 with_reducible refine zPm k20 ?_
 rintro _ u18 g19 ⟨i17, j17, z17, D17, rfl, hi17, hj17, hp17, hq17, hk17⟩
 refine zza 14 (.v (.tuple #[i17.v, j17.v])) (zza 17 (.v (i17.v)) (zza 18 (.v (j17.v)) (zzk 7 ⟨24, [.bool false, .slice none 0 0]⟩ (zzk 8 ⟨24, [.bool false, .slice none 0 0]⟩ (zzj ⟨24, i17.cs⟩ ty24 ?_)))))
 refine zzj ⟨24, j17.cs⟩ ty24 ?_
 refine zzb (zzd (zzz [0, 0, 3, 0, 0, 31, 63, 127] [(0, []), (1, []), (3, []), (4, []), (2, []), (5, []), (6, []), (7, [])] xk xk (zzi 19 (.v (i12.v)) ty24 zze (zzi 20 (.v (i17.v)) ty24 zze (zzi 22 (.v (j12.v)) ty24 zze (zzi 23 (.v (j17.v)) ty24 zze (zzg 21 94 [i12.v, i17.v] ?_)))))))
 intro w21 u21 e21 d21
 have k26 := k_riMul d21 (hi12.ext (e16.trans (g19.ext.trans e21))) (hi17.ext e21) xq xq
 with_reducible refine zPm k26 ?_
 rintro _ u24 g25 ⟨i22, rfl, h23⟩
 refine zzg 24 94 [j12.v, j17.v] ?_
 intro w27 u27 e27 d27
 have k32 := k_riMul d27 (hj12.ext (e16.trans (g19.ext.trans (e21.trans (g25.ext.trans e27))))).raw (hj17.ext (e21.trans (g25.ext.trans e27))).raw xq xq
 with_reducible refine zPm k32 ?_
 rintro _ u30 g31 ⟨i28, rfl, h29⟩
 refine zzg 25 93 [i22.v, i28.v] ?_
 intro w33 u33 e33 d33
 have k38 := k_reduce d33 (h23.ext (e27.trans (g31.ext.trans e33))).raw (h29.ext e33).raw xq xq
 with_reducible refine zPm k38 ?_
 rintro _ u36 g37 ⟨r34, rfl, h35⟩
 refine zzj ⟨26, r34.cs⟩ ty26 ?_
 refine zzb (zzo (ret0 [r34.v] ⟨zzr ty26 zze, trivial⟩ fun u39 e40 => ?_))
 refine ⟨r34, rfl, RatN.more (K := (max (K + L) (K + L) + 1)) ?_ xq⟩
 rw [hq12, hq17, ← Nt.mul_div2]
 exact (h35.ext e40)
theorem k_rqMin {u w : World} {r1 : RL} {x : Rat} {K : Nat} {r2 : RL} {y : Rat} {L : Nat} (d : Dat u w) (hr1 : RatV u r1 x K) (hr2 : RatV u r2 y L) (hK : K ≤ 100000000) (hL : L ≤ 100000000) : Calls Tryz.prog 134 #[r1.v, r2.v] w (Post u w fun v u' => ∃ r : RL, v = r.v ∧ RatN u' r (Nt.lo x y) (max K L)) := by
 refine zzm (args := [r1.v, r2.v]) Tryz.func134 rfl Tryz.ntmps134 (rs := [.cell 4 26]) Tryz.results134 (le_b rfl) (le_b rfl) d ?_
 refine sq9 (zzk 2 ⟨26, r1.cs⟩ (zzk 3 ⟨26, r2.cs⟩ (zzk 4 ⟨26, [.bool false, .slice none 0 0, .slice none 0 0]⟩ (zzb (zzd (sq9 (zzi 5 (.v (r2.v)) ty26 zze (zzi 6 (.v (r1.v)) ty26 zze (zzg 7 110 [r2.v, r1.v] ?_)))))))))
 intro w11 u11 e11 d11
 have k14 := k_rqLess d11 (hr2.ext e11) (hr1.ext e11) xq xq
 with_reducible refine zPm k14 ?_
 rintro _ u12 g13 rfl
 refine zzb (zzu (b := decide (y < x)) xk (fun hb15 => ?_) (fun hb15 => ?_))
 ·replace hb15 : (decide (y < x)) = true := hb15
  have qhb15 := of_decide_eq_true hb15
  refine sq9 (zzi 8 (.v (r2.v)) ty26 zze (zzg 9 90 [r2.v] ?_))
  intro w16 u16 e16 d16
  have k21 := k_rqTrim d16 (hr2.ext (e11.trans (g13.ext.trans e16))) xq
  with_reducible refine zPm k21 ?_
  rintro _ u19 g20 ⟨r17, rfl, h18⟩
  refine zzj ⟨26, r17.cs⟩ ty26 ?_
  refine zzb (zzo (zzw (ret0 [r17.v] ⟨zzr ty26 zze, trivial⟩ fun u22 e23 => ?_)))
  refine ⟨r17, rfl, RatN.more (K := L) ?_ xq⟩
  unfold Nt.lo
  rw [if_pos (of_decide_eq_true hb15)]
  exact (h18.ext e23)
 ·replace hb15 : (decide (y < x)) = false := hb15
  have qhb15 := of_decide_eq_false hb15
  refine zzs (zzp ?_)
  refine sq9 (zzi 10 (.v (r1.v)) ty26 zze (zzg 11 90 [r1.v] ?_))
  intro w24 u24 e24 d24
  have k29 := k_rqTrim d24 (hr1.ext (e11.trans (g13.ext.trans e24))) xq
  with_reducible refine zPm k29 ?_
  rintro _ u27 g28 ⟨r25, rfl, h26⟩
  refine zzj ⟨26, r25.cs⟩ ty26 ?_
  refine zzb (zzo (ret0 [r25.v] ⟨zzr ty26 zze, trivial⟩ fun u30 e31 => ?_))
  refine ⟨r25, rfl, RatN.more (K := K) ?_ xq⟩
  unfold Nt.lo
  rw [if_neg (of_decide_eq_false hb15)]
  exact (h26.ext e31)
theorem k_rqMax {u w : World} {r1 : RL} {x : Rat} {K : Nat} {r2 : RL} {y : Rat} {L : Nat} (d : Dat u w) (hr1 : RatV u r1 x K) (hr2 : RatV u r2 y L) (hK : K ≤ 100000000) (hL : L ≤ 100000000) : Calls Tryz.prog 135 #[r1.v, r2.v] w (Post u w fun v u' => ∃ r : RL, v = r.v ∧ RatN u' r (Nt.hi x y) (max K L)) := by
 refine zzm (args := [r1.v, r2.v]) Tryz.func135 rfl Tryz.ntmps135 (rs := [.cell 4 26]) Tryz.results135 (le_b rfl) (le_b rfl) d ?_
 refine sq9 (zzk 2 ⟨26, r1.cs⟩ (zzk 3 ⟨26, r2.cs⟩ (zzk 4 ⟨26, [.bool false, .slice none 0 0, .slice none 0 0]⟩ (zzb (zzd (sq9 (zzi 5 (.v (r1.v)) ty26 zze (zzi 6 (.v (r2.v)) ty26 zze (zzg 7 110 [r1.v, r2.v] ?_)))))))))
 intro w11 u11 e11 d11
 have k14 := k_rqLess d11 (hr1.ext e11) (hr2.ext e11) xq xq
 with_reducible refine zPm k14 ?_
 rintro _ u12 g13 rfl
 refine zzb (zzu (b := decide (x < y)) xk (fun hb15 => ?_) (fun hb15 => ?_))
 ·replace hb15 : (decide (x < y)) = true := hb15
  have qhb15 := of_decide_eq_true hb15
  refine sq9 (zzi 8 (.v (r2.v)) ty26 zze (zzg 9 90 [r2.v] ?_))
  intro w16 u16 e16 d16
  have k21 := k_rqTrim d16 (hr2.ext (e11.trans (g13.ext.trans e16))) xq
  with_reducible refine zPm k21 ?_
  rintro _ u19 g20 ⟨r17, rfl, h18⟩
  refine zzj ⟨26, r17.cs⟩ ty26 ?_
  refine zzb (zzo (zzw (ret0 [r17.v] ⟨zzr ty26 zze, trivial⟩ fun u22 e23 => ?_)))
  refine ⟨r17, rfl, RatN.more (K := L) ?_ xq⟩
  unfold Nt.hi
  rw [if_pos (of_decide_eq_true hb15)]
  exact (h18.ext e23)
 ·replace hb15 : (decide (x < y)) = false := hb15
  have qhb15 := of_decide_eq_false hb15
  refine zzs (zzp ?_)
  refine sq9 (zzi 10 (.v (r1.v)) ty26 zze (zzg 11 90 [r1.v] ?_))
  intro w24 u24 e24 d24
  have k29 := k_rqTrim d24 (hr1.ext (e11.trans (g13.ext.trans e24))) xq
  with_reducible refine zPm k29 ?_
  rintro _ u27 g28 ⟨r25, rfl, h26⟩
  refine zzj ⟨26, r25.cs⟩ ty26 ?_
  refine zzb (zzo (ret0 [r25.v] ⟨zzr ty26 zze, trivial⟩ fun u30 e31 => ?_))
  refine ⟨r25, rfl, RatN.more (K := K) ?_ xq⟩
  unfold Nt.hi
  rw [if_neg (of_decide_eq_false hb15)]
  exact (h26.ext e31)
theorem k_signed {u w : World} {s : Bool} {x : Sl} {N K : Nat} (d : Dat u w) (h : NatN u x N K) : Calls Tryz.prog 222 #[.bool s, x.v] w (Post u w fun v u' => ∃ i : IL, v = i.v ∧ IntN u' i (Nt.sg s N) K) := by
 refine zzm (args := [.bool s, .slice x.a x.n x.c]) Tryz.func222 rfl Tryz.ntmps222 (rs := [.cell 4 24]) Tryz.results222 (le_b rfl) (le_b rfl) d ?_
 refine sq9 (zzk 4 ⟨24, [.bool false, .slice none 0 0]⟩ (zzb (sq9 (zza 5 (zB s) ?_))))
 rcases Bool.eq_false_or_eq_true s with hs11 | hs11
 ·refine zyq 6 (x := zB s) (zB true) (by rw [hs11]) (zza 7 (.v x.v) ?_ (hw := w1 1 true 6))
  refine zza 8 (zI x.n) ?_ (hw := w1 1 true 6)
  refine zza 9 (zB (decide ((0 : Int) < (x.n : Int)))) ?_ (hw := w1 1 true 6)
  refine zza 10 (zB (decide ((0 : Int) < (x.n : Int)))) (zza 11 (.v x.v) (zza 12 (.v (.agg #[.bool (decide ((0 : Int) < (x.n : Int))), x.v])) (zzj ⟨24, [.bool (decide ((0 : Int) < (x.n : Int))), x.v]⟩ ty24 ?_)))
  refine zzb (zzo (ret0 [.agg #[.bool (decide ((0 : Int) < (x.n : Int))), .slice x.a x.n x.c]] ⟨zzr ty24 zze, trivial⟩ fun u12 e13 => ?_))
  rw [hs11]
  exact ⟨⟨_, x⟩, rfl, signed_int (s := true) (h.ext e13)⟩
 ·refine zyq 6 (x := zB s) (zB false) (by rw [hs11]) (zzn 7 (uw 1 true false 6) (zzn 8 (uw 1 true false 6) (zzn 9 (uw 1 true false 6) (zza 10 (zB false) (zza 11 (.v x.v) (zza 12 (.v (.agg #[.bool false, x.v])) (zzj ⟨24, [.bool false, x.v]⟩ ty24 ?_)))))))
  refine zzb (zzo (ret0 [.agg #[.bool false, .slice x.a x.n x.c]] ⟨zzr ty24 zze, trivial⟩ fun u14 e15 => ?_))
  rw [hs11]
  exact ⟨⟨_, x⟩, rfl, signed_int (s := false) (h.ext e15)⟩
theorem k_intTrim {u w : World} {i1 : IL} {zN : Int} {K : Nat} (d : Dat u w) (hi1 : IntV u i1 zN K) (hK : K ≤ 500000000) : Calls Tryz.prog 211 #[i1.v] w (Post u w fun v u' => ∃ i : IL, v = i.v ∧ IntN u' i zN K) := by
 obtain ⟨N, hN, hzN⟩ := hi1
 refine zzm (args := [i1.v]) Tryz.func211 rfl Tryz.ntmps211 (rs := [.cell 2 24]) Tryz.results211 (le_b rfl) (le_b rfl) d ?_
 refine sq9 (zzk 1 ⟨24, i1.cs⟩ (zzk 2 ⟨24, [.bool false, .slice none 0 0]⟩ (zzb (zzd (zzz [0, 1, 0, 4, 12, 31, 63] [(0, []), (1, []), (2, []), (3, []), (4, []), (5, []), (6, [])] xk xk (zza 3 (.adr 1 0) (zzi 4 (zB i1.s) ty4 zzl (zza 5 (.adr 1 1) (zzi 6 (.v i1.m.v) ty22 zzl (zzg 7 214 [i1.m.v] ?_))))))))))
 intro w11 u11 e11 d11
 have k16 := k_natTrim d11 (hN.ext e11) xq
 with_reducible refine zPm k16 ?_
 rintro _ u14 g15 ⟨x12, rfl, h13⟩
 refine zzg 8 222 [.bool i1.s, x12.v] ?_
 intro w17 u17 e17 d17
 have k22 := k_signed d17 (s := i1.s) (h13.ext e17)
 with_reducible refine zPm k22 ?_
 rintro _ u20 g21 ⟨i18, rfl, h19⟩
 refine zzj ⟨24, i18.cs⟩ ty24 ?_
 refine zzb (zzo (ret0 [i18.v] ⟨zzr ty24 zze, trivial⟩ fun u23 e24 => ?_))
 refine ⟨i18, rfl, IntN.more (K := K) ?_ xq⟩
 rw [hzN]
 exact (h19.ext e24)
theorem k_intMul {u w : World} {i1 : IL} {zN : Int} {K : Nat} {i2 : IL} {zM : Int} {L : Nat} (d : Dat u w) (hi1 : IntV u i1 zN K) (hi2 : IntV u i2 zM L) (hK : K ≤ 500000000) (hL : L ≤ 500000000) : Calls Tryz.prog 194 #[i1.v, i2.v] w (Post u w fun v u' => ∃ i : IL, v = i.v ∧ IntN u' i (zN * zM) (K + L)) := by
 obtain ⟨N, hN, hzN⟩ := hi1
 obtain ⟨M, hM, hzM⟩ := hi2
 refine zzm (args := [i1.v, i2.v]) Tryz.func194 rfl Tryz.ntmps194 (rs := [.cell 4 24]) Tryz.results194 (le_b rfl) (le_b rfl) d ?_
 refine sq9 (zzk 2 ⟨24, i1.cs⟩ (zzk 3 ⟨24, i2.cs⟩ (zzk 4 ⟨24, [.bool false, .slice none 0 0]⟩ (zzb (zzd (zzz [0, 1, 0, 4, 15, 0, 32, 0, 128, 480, 1023, 2047] [(0, []), (1, []), (2, []), (3, []), (4, []), (5, []), (6, []), (7, []), (8, []), (9, []), (10, []), (11, [])] xk xk (zza 5 (.adr 2 0) (zzi 6 (zB i1.s) ty4 zzl (zza 7 (.adr 3 0) (zzi 8 (zB i2.s) ty4 zzl (zza 9 (zB (!(i1.s == i2.s))) ?_)))))))))))
 refine zza 10 (.adr 2 1) (zzi 11 (.v i1.m.v) ty22 zzl (zza 12 (.adr 3 1) (zzi 13 (.v i2.m.v) ty22 zzl (zzg 14 156 [i1.m.v, i2.m.v] ?_))))
 intro w11 u11 e11 d11
 have k16 := k_natMul d11 (hN.ext e11) (hM.ext e11) xq xq
 with_reducible refine zPm k16 ?_
 rintro _ u14 g15 ⟨x12, rfl, h13⟩
 refine zzg 15 222 [.bool (!(i1.s == i2.s)), x12.v] ?_
 intro w17 u17 e17 d17
 have k22 := k_signed d17 (s := !(i1.s == i2.s)) (h13.ext e17)
 with_reducible refine zPm k22 ?_
 rintro _ u20 g21 ⟨i18, rfl, h19⟩
 refine zzj ⟨24, i18.cs⟩ ty24 ?_
 refine zzb (zzo (ret0 [i18.v] ⟨zzr ty24 zze, trivial⟩ fun u23 e24 => ?_))
 refine ⟨i18, rfl, IntN.more (K := (K + L)) ?_ xq⟩
 rw [hzN, hzM, ← Nt.sg_mul]
 exact (h19.ext e24)
theorem k_intAdd {u w : World} {i1 : IL} {zN : Int} {K : Nat} {i2 : IL} {zM : Int} {L : Nat} (d : Dat u w) (hi1 : IntV u i1 zN K) (hi2 : IntV u i2 zM L) (hK : K ≤ 500000000) (hL : L ≤ 500000000) : Calls Tryz.prog 159 #[i1.v, i2.v] w (Post u w fun v u' => ∃ i : IL, v = i.v ∧ IntN u' i (zN + zM) (max K L + 1)) := by
 obtain ⟨N, hN, hzN⟩ := hi1
 obtain ⟨M, hM, hzM⟩ := hi2
 refine zzm (args := [i1.v, i2.v]) Tryz.func159 rfl Tryz.ntmps159 (rs := [.cell 4 24]) Tryz.results159 (le_b rfl) (le_b rfl) d ?_
 refine sq9 (zzk 2 ⟨24, i1.cs⟩ (zzk 3 ⟨24, i2.cs⟩ (zzk 4 ⟨24, [.bool false, .slice none 0 0]⟩ (zzb (zzd (sq9 (zza 5 (.adr 2 0) (zzi 6 (zB i1.s) ty4 zzl (zza 7 (.adr 3 0) (zzi 8 (zB i2.s) ty4 zzl (zza 9 (zB (i1.s == i2.s)) ?_)))))))))))
 refine zzb (zzu (b := i1.s == i2.s) xk (fun hb11 => ?_) (fun hb11 => ?_))
 ·replace hb11 : (i1.s == i2.s) = true := hb11
  refine zzd (zzz [0, 1, 0, 4, 0, 16, 60, 127, 255] [(0, []), (1, []), (2, []), (3, []), (4, []), (5, []), (6, []), (7, []), (8, [])] xk xk (zza 10 (.adr 2 0) (zzi 11 (zB i1.s) ty4 zzl (zza 12 (.adr 2 1) (zzi 13 (.v i1.m.v) ty22 zzl (zza 14 (.adr 3 1) (zzi 15 (.v i2.m.v) ty22 zzl (zzg 16 155 [i1.m.v, i2.m.v] ?_))))))))
  intro w12 u12 e12 d12
  have k17 := k_natAdd d12 (hN.ext e12) (hM.ext e12) xq xq
  with_reducible refine zPm k17 ?_
  rintro _ u15 g16 ⟨x13, rfl, h14⟩
  refine zzg 17 222 [.bool i1.s, x13.v] ?_
  intro w18 u18 e18 d18
  have k23 := k_signed d18 (s := i1.s) (h14.ext e18)
  with_reducible refine zPm k23 ?_
  rintro _ u21 g22 ⟨i19, rfl, h20⟩
  refine zzj ⟨24, i19.cs⟩ ty24 ?_
  refine zzb (zzo (zzw (ret0 [i19.v] ⟨zzr ty24 zze, trivial⟩ fun u24 e25 => ?_)))
  refine ⟨i19, rfl, IntN.more (K := (max K L + 1)) ?_ xq⟩
  rw [hzN, hzM, ← Nt.sg_add1 N M hb11]
  exact (h20.ext e25)
 ·replace hb11 : (i1.s == i2.s) = false := hb11
  refine zzs (zzp ?_)
  refine zzd (sq9 (zza 18 (.adr 2 1) (zzi 19 (.v i1.m.v) ty22 zzl (zza 20 (.adr 3 1) (zzi 21 (.v i2.m.v) ty22 zzl (zzg 22 83 [i1.m.v, i2.m.v] ?_))))))
  intro w26 u26 e26 d26
  have k29 := k_natCompare d26 (hN.ext e26) (hM.ext e26)
  with_reducible refine zPm k29 ?_
  rintro _ u27 g28 rfl
  refine zza 23 (zB ((Nt.cmpS N M) == (-1))) (zzb (zzu (b := (Nt.cmpS N M) == (-1)) xk (fun hb30 => ?_) (fun hb30 => ?_)))
  ·replace hb30 : ((Nt.cmpS N M) == (-1)) = true := hb30
   refine zzd (zzz [0, 1, 0, 4, 0, 16, 60, 127, 255] [(0, []), (1, []), (2, []), (3, []), (4, []), (5, []), (6, []), (7, []), (8, [])] xk xk (zza 24 (.adr 3 0) (zzi 25 (zB i2.s) ty4 zzl (zza 26 (.adr 3 1) (zzi 27 (.v i2.m.v) ty22 zzl (zza 28 (.adr 2 1) (zzi 29 (.v i1.m.v) ty22 zzl (zzg 30 223 [i2.m.v, i1.m.v] ?_))))))))
   intro w31 u31 e31 d31
   have k36 := k_natSub d31 (hM.ext (e26.trans (g28.ext.trans e31))) (hN.ext (e26.trans (g28.ext.trans e31))) xq xq
   with_reducible refine zPm k36 ?_
   rintro _ u34 g35 ⟨x32, rfl, h33⟩
   refine zzg 31 222 [.bool i2.s, x32.v] ?_
   intro w37 u37 e37 d37
   have k42 := k_signed d37 (s := i2.s) (h33.ext e37)
   with_reducible refine zPm k42 ?_
   rintro _ u40 g41 ⟨i38, rfl, h39⟩
   refine zzj ⟨24, i38.cs⟩ ty24 ?_
   refine zzb (zzo (zzw (ret0 [i38.v] ⟨zzr ty24 zze, trivial⟩ fun u43 e44 => ?_)))
   refine ⟨i38, rfl, IntN.more (K := L) ?_ xq⟩
   rw [hzN, hzM, ← Nt.sg_add2 N M hb11 hb30]
   exact (h39.ext e44)
  ·replace hb30 : ((Nt.cmpS N M) == (-1)) = false := hb30
   refine zzs (zzp ?_)
   refine zzd (zzz [0, 1, 0, 4, 0, 16, 60, 127, 255] [(0, []), (1, []), (2, []), (3, []), (4, []), (5, []), (6, []), (7, []), (8, [])] xk xk (zza 32 (.adr 2 0) (zzi 33 (zB i1.s) ty4 zzl (zza 34 (.adr 2 1) (zzi 35 (.v i1.m.v) ty22 zzl (zza 36 (.adr 3 1) (zzi 37 (.v i2.m.v) ty22 zzl (zzg 38 223 [i1.m.v, i2.m.v] ?_))))))))
   intro w45 u45 e45 d45
   have k50 := k_natSub d45 (hN.ext (e26.trans (g28.ext.trans e45))) (hM.ext (e26.trans (g28.ext.trans e45))) xq xq
   with_reducible refine zPm k50 ?_
   rintro _ u48 g49 ⟨x46, rfl, h47⟩
   refine zzg 39 222 [.bool i1.s, x46.v] ?_
   intro w51 u51 e51 d51
   have k56 := k_signed d51 (s := i1.s) (h47.ext e51)
   with_reducible refine zPm k56 ?_
   rintro _ u54 g55 ⟨i52, rfl, h53⟩
   refine zzj ⟨24, i52.cs⟩ ty24 ?_
   refine zzb (zzo (ret0 [i52.v] ⟨zzr ty24 zze, trivial⟩ fun u57 e58 => ?_))
   refine ⟨i52, rfl, IntN.more (K := K) ?_ xq⟩
   rw [hzN, hzM, ← Nt.sg_add3 N M hb11 hb30]
   exact (h53.ext e58)
theorem k_intSign {u w : World} {i1 : IL} {zN : Int} {K : Nat} (d : Dat u w) (hi1 : IntV u i1 zN K)  : Calls Tryz.prog 146 #[i1.v] w (Post u w fun v u' => v = .int .i64 (Nt.cmpS zN 0)) := by
 obtain ⟨N, hN, hzN⟩ := hi1
 refine zzm (args := [i1.v]) Tryz.func146 rfl Tryz.ntmps146 (rs := [.tmp 2]) Tryz.results146 (le_b rfl) (le_b rfl) d ?_
 refine sq9 (zzk 1 ⟨24, i1.cs⟩ (zza 2 (zI 0) (zzb (zzd (zzt (sq9 (zza 4 (.adr 1 1) (zzi 5 (.v i1.m.v) ty22 zzl (zzg 6 83 [i1.m.v, .slice none 0 0] ?_)))))))))
 intro w11 u11 e11 d11
 have k14 := k_natCompare d11 (hN.ext e11) (nat_nil _ 1)
 with_reducible refine zPm k14 ?_
 rintro _ u12 g13 rfl
 refine zza 7 (zB ((Nt.cmpS N 0) == 0)) (zza 3 (zB ((Nt.cmpS N 0) == 0)) (zzb (zzu (b := (Nt.cmpS N 0) == 0) xk (fun hb15 => ?_) (fun hb15 => ?_))))
 ·replace hb15 : ((Nt.cmpS N 0) == 0) = true := hb15
  refine sq9 (zza 2 (zI 0) (zzb (zzo (zyu (zzw (ret0 [.int .i64 0] ⟨zzq, trivial⟩ fun u16 e17 => ?_))))))
  show _ = _
  rw [hzN, Nt.sg_cmp0, if_pos hb15]
  rfl
 ·replace hb15 : ((Nt.cmpS N 0) == 0) = false := hb15
  refine sq9 (zza 9 (.adr 1 0) (zzi 10 (zB i1.s) ty4 zzl (zza 8 (zB i1.s) (zzb (zzu (b := i1.s) xk (fun hb18 => ?_) (fun hb18 => ?_))))))
  ·replace hb18 : i1.s = true := hb18
   refine sq9 (zza 2 (zI (-1)) (zzb (zzo (zyu (zzw (ret0 [.int .i64 (-1)] ⟨zzq, trivial⟩ fun u19 e20 => ?_))))))
   show _ = _
   rw [hzN, Nt.sg_cmp0, if_neg (ne_true_of_eq_false hb15), if_pos hb18]
   rfl
  ·replace hb18 : i1.s = false := hb18
   refine zzs (zzp ?_)
   refine sq9 (zza 2 (zI 1) (zzb (zzo (ret0 [.int .i64 1] ⟨zzq, trivial⟩ fun u21 e22 => ?_))))
   show _ = _
   rw [hzN, Nt.sg_cmp0, if_neg (ne_true_of_eq_false hb15), if_neg (ne_true_of_eq_false hb18)]
   rfl
namespace Nt
theorem cmp_sg (s t : Bool) (N M : Nat) : cmpS (sg s N) (sg t M) = if decide (cmpS (sg s N) 0 < cmpS (sg t M) 0) = true then -1 else if decide (cmpS (sg t M) 0 < cmpS (sg s N) 0) = true then 1 else if (cmpS (sg s N) 0 == -1) = true then cmpS (M : Int) (N : Int) else cmpS (N : Int) (M : Int) := by
 rcases cmp_range (sg s N) 0 with ⟨e, h⟩ | ⟨e, h⟩ | ⟨e, h⟩ <;> rcases cmp_range (sg t M) 0 with ⟨e', h'⟩ | ⟨e', h'⟩ | ⟨e', h'⟩ <;> rw [e, e'] <;> simp
 ·unfold sg at *; cases s <;> cases t <;> simp at h h' ⊢ <;> unfold cmpS <;> (repeat' split) <;> first | rfl | omega
 ·exact cmp_lt xq
 ·exact cmp_lt xq
 ·exact cmp_gt xq
 ·rw [h, h']; unfold sg at *; cases s <;> cases t <;> simp at h h' <;> rw [h, h'] <;> rfl
 ·exact cmp_lt xq
 ·exact cmp_gt xq
 ·exact cmp_gt xq
 ·unfold sg at *; cases s <;> cases t <;> simp at h h' ⊢ <;> first | rfl | omega
end Nt
theorem k_intCompare {u w : World} {i1 : IL} {zN : Int} {K : Nat} {i2 : IL} {zM : Int} {L : Nat} (d : Dat u w) (hi1 : IntV u i1 zN K) (hi2 : IntV u i2 zM L)  : Calls Tryz.prog 181 #[i1.v, i2.v] w (Post u w fun v u' => v = .int .i64 (Nt.cmpS zN zM)) := by
 obtain ⟨N, hN, hzN⟩ := hi1
 obtain ⟨M, hM, hzM⟩ := hi2
 refine zzm (args := [i1.v, i2.v]) Tryz.func181 rfl Tryz.ntmps181 (rs := [.tmp 4]) Tryz.results181 (le_b rfl) (le_b rfl) d ?_
 refine sq9 (zzk 2 ⟨24, i1.cs⟩ (zzk 3 ⟨24, i2.cs⟩ (zza 4 (zI 0) (zzb (zzd (zzz [0, 1, 0, 7, 15, 31] [(0, []), (2, []), (1, []), (3, []), (4, []), (5, [])] xk xk (zzi 7 (.v (i1.v)) ty24 zze (zzi 9 (.v (i2.v)) ty24 zze (zzg 8 146 [i1.v] ?_)))))))))
 intro w11 u11 e11 d11
 have k14 := k_intSign d11 (IntV.same (s := i1.s) (hN.ext e11))
 with_reducible refine zPm k14 ?_
 rintro _ u12 g13 rfl
 refine zzg 10 146 [i2.v] ?_
 intro w15 u15 e15 d15
 have k18 := k_intSign d15 (IntV.same (s := i2.s) (hM.ext (e11.trans (g13.ext.trans e15))))
 with_reducible refine zPm k18 ?_
 rintro _ u16 g17 rfl
 refine zza 5 (zI (Nt.cmpS (Nt.sg i1.s N) 0)) (zza 6 (zI (Nt.cmpS (Nt.sg i2.s M) 0)) (zzb (zzd (zzt (sq9 (zza 12 (zI (Nt.cmpS (Nt.sg i1.s N) 0)) (zza 13 (zI (Nt.cmpS (Nt.sg i2.s M) 0)) (zza 14 (zB (decide ((Nt.cmpS (Nt.sg i1.s N) 0) < (Nt.cmpS (Nt.sg i2.s M) 0)))) (zza 11 (zB (decide ((Nt.cmpS (Nt.sg i1.s N) 0) < (Nt.cmpS (Nt.sg i2.s M) 0)))) (zzb (zzu (b := decide ((Nt.cmpS (Nt.sg i1.s N) 0) < (Nt.cmpS (Nt.sg i2.s M) 0))) xk (fun hb19 => ?_) (fun hb19 => ?_))))))))))))
 ·replace hb19 : (decide ((Nt.cmpS (Nt.sg i1.s N) 0) < (Nt.cmpS (Nt.sg i2.s M) 0))) = true := hb19
  have qhb19 := of_decide_eq_true hb19
  refine sq9 (zza 4 (zI (-1)) (zzb (zzo (zyu (zzw (ret0 [.int .i64 (-1)] ⟨zzq, trivial⟩ fun u20 e21 => ?_))))))
  show _ = _
  rw [hzN, hzM, Nt.cmp_sg, if_pos hb19]
  rfl
 ·replace hb19 : (decide ((Nt.cmpS (Nt.sg i1.s N) 0) < (Nt.cmpS (Nt.sg i2.s M) 0))) = false := hb19
  have qhb19 := of_decide_eq_false hb19
  refine sq9 (zza 16 (zI (Nt.cmpS (Nt.sg i1.s N) 0)) (zza 17 (zI (Nt.cmpS (Nt.sg i2.s M) 0)) (zza 18 (zB (decide ((Nt.cmpS (Nt.sg i2.s M) 0) < (Nt.cmpS (Nt.sg i1.s N) 0)))) (zza 15 (zB (decide ((Nt.cmpS (Nt.sg i2.s M) 0) < (Nt.cmpS (Nt.sg i1.s N) 0)))) (zzb (zzu (b := decide ((Nt.cmpS (Nt.sg i2.s M) 0) < (Nt.cmpS (Nt.sg i1.s N) 0))) xk (fun hb22 => ?_) (fun hb22 => ?_)))))))
  ·replace hb22 : (decide ((Nt.cmpS (Nt.sg i2.s M) 0) < (Nt.cmpS (Nt.sg i1.s N) 0))) = true := hb22
   have qhb22 := of_decide_eq_true hb22
   refine sq9 (zza 4 (zI 1) (zzb (zzo (zyu (zzw (ret0 [.int .i64 1] ⟨zzq, trivial⟩ fun u23 e24 => ?_))))))
   show _ = _
   rw [hzN, hzM, Nt.cmp_sg, if_neg (ne_true_of_eq_false hb19), if_pos hb22]
   rfl
  ·replace hb22 : (decide ((Nt.cmpS (Nt.sg i2.s M) 0) < (Nt.cmpS (Nt.sg i1.s N) 0))) = false := hb22
   have qhb22 := of_decide_eq_false hb22
   refine sq9 (zza 20 (zI (Nt.cmpS (Nt.sg i1.s N) 0)) (zza 21 (zB ((Nt.cmpS (Nt.sg i1.s N) 0) == (-1))) (zza 19 (zB ((Nt.cmpS (Nt.sg i1.s N) 0) == (-1))) (zzb (zzu (b := (Nt.cmpS (Nt.sg i1.s N) 0) == (-1)) xk (fun hb25 => ?_) (fun hb25 => ?_))))))
   ·replace hb25 : ((Nt.cmpS (Nt.sg i1.s N) 0) == (-1)) = true := hb25
    refine sq9 (zza 22 (.adr 3 1) (zzi 23 (.v i2.m.v) ty22 zzl (zza 24 (.adr 2 1) (zzi 25 (.v i1.m.v) ty22 zzl (zzg 26 83 [i2.m.v, i1.m.v] ?_)))))
    intro w26 u26 e26 d26
    have k29 := k_natCompare d26 (hM.ext (e11.trans (g13.ext.trans (e15.trans (g17.ext.trans e26))))) (hN.ext (e11.trans (g13.ext.trans (e15.trans (g17.ext.trans e26)))))
    with_reducible refine zPm k29 ?_
    rintro _ u27 g28 rfl
    refine zza 4 (zI (Nt.cmpS M N)) (zzb (zzo (zyu (zzw (ret0 [.int .i64 (Nt.cmpS M N)] ⟨zzq, trivial⟩ fun u30 e31 => ?_)))))
    show _ = _
    rw [hzN, hzM, Nt.cmp_sg, if_neg (ne_true_of_eq_false hb19), if_neg (ne_true_of_eq_false hb22), if_pos hb25]
    rfl
   ·replace hb25 : ((Nt.cmpS (Nt.sg i1.s N) 0) == (-1)) = false := hb25
    refine zzs (zzp ?_)
    refine sq9 (zza 27 (.adr 2 1) (zzi 28 (.v i1.m.v) ty22 zzl (zza 29 (.adr 3 1) (zzi 30 (.v i2.m.v) ty22 zzl (zzg 31 83 [i1.m.v, i2.m.v] ?_)))))
    intro w32 u32 e32 d32
    have k35 := k_natCompare d32 (hN.ext (e11.trans (g13.ext.trans (e15.trans (g17.ext.trans e32))))) (hM.ext (e11.trans (g13.ext.trans (e15.trans (g17.ext.trans e32)))))
    with_reducible refine zPm k35 ?_
    rintro _ u33 g34 rfl
    refine zza 4 (zI (Nt.cmpS N M)) (zzb (zzo (ret0 [.int .i64 (Nt.cmpS N M)] ⟨zzq, trivial⟩ fun u36 e37 => ?_)))
    show _ = _
    rw [hzN, hzM, Nt.cmp_sg, if_neg (ne_true_of_eq_false hb19), if_neg (ne_true_of_eq_false hb22), if_neg (ne_true_of_eq_false hb25)]
    rfl
theorem k_intOf {u w : World} {z : Int} (d : Dat u w) (h0 : -9223372036854775808 ≤ z) (h1 : z ≤ 9223372036854775807) : Calls Tryz.prog 160 #[.int .i64 z] w (Post u w fun v u' => ∃ i : IL, v = i.v ∧ IntN u' i z 2) := by
 by_cases hneg : z < 0
 ·refine zzm (args := [.int .i64 z]) Tryz.func160 rfl Tryz.ntmps160 (rs := [.cell 2 24]) Tryz.results160 (le_b rfl) (le_b rfl) d ?_
  refine sq9 (zzk 2 ⟨24, [.bool false, .slice none 0 0]⟩ (zzb (sq9 (zza 4 (zI z) (zyq 5 (x := .v (.int .u64 (IntKind.u64.wrap z))) (.v (.int .u64 (z + 18446744073709551616))) (by rw [show (IntKind.u64.wrap z) = (z + 18446744073709551616) from (by simp [IntKind.wrap, IntKind.bits, IntKind.signed]; omega)]) (zza 3 (.v (.int .u64 (z + 18446744073709551616))) (zzb (zzd (sq9 (zza 6 (zI z) (zyq 7 (x := zB (decide (z < 0))) (zB true) (by rw [show (decide (z < 0)) = true from yk]) ?_)))))))))))
  refine zzb (zyr xk (zzf (zza 8 (.v (.int .u64 (z + 18446744073709551616))) (zyq 9 (x := .v (.int .u64 (IntKind.u64.wrap (0 - (z + 18446744073709551616))))) (.v (.int .u64 (-z))) (by rw [show (IntKind.u64.wrap (0 - (z + 18446744073709551616))) = (-z) from (by simp [IntKind.wrap, IntKind.bits, IntKind.signed]; omega)]) (zza 3 (.v (.int .u64 (-z))) (zzb (sq9 (zza 10 (zI z) (zyq 11 (x := zB (decide (z < 0))) (zB true) (by rw [show (decide (z < 0)) = true from yk]) (zza 12 (.v (.int .u64 (-z))) (zyq 13 (x := .v (.int .u32 (IntKind.u32.wrap (-z)))) (.v (.int .u32 ((-z) % 4294967296))) (by rw [show (IntKind.u32.wrap (-z)) = ((-z) % 4294967296) from (IntKind.wrap_u32 _)]) ?_)))))))))))
  refine zza 14 (.v (.int .u64 (-z))) (zyq 15 (x := .v (.int .u64 (Int.fdiv (-z) (2 ^ 32)))) (.v (.int .u64 ((-z) / 4294967296))) (by rw [show (Int.fdiv (-z) (2 ^ 32)) = ((-z) / 4294967296) from (by rw [Int.fdiv_eq_ediv_of_nonneg _ yq]; rfl)]) (zyq 16 (x := .v (.int .u32 (IntKind.u32.wrap ((-z) / 4294967296)))) (.v (.int .u32 ((-z) / 4294967296))) (by rw [show (IntKind.u32.wrap ((-z) / 4294967296)) = ((-z) / 4294967296) from (IntWalk.u32_in _ xq)]) (zxx 17 ⟨104, [.int .u32 ((-z) % 4294967296), .int .u32 ((-z) / 4294967296)]⟩ 2 (fun b11 u12 e13 h14 => ?_))))
  refine zzg 18 214 [.slice (some ⟨b11, 0, none⟩) 2 2] ?_
  intro w15 u15 e15 d15
  have k20 := k_natTrim d15 ((two_data (N := z.natAbs) h14 xq xq xq).ext e15) xq
  with_reducible refine zPm k20 ?_
  rintro _ u18 g19 ⟨x16, rfl, h17⟩
  refine zzg 19 222 [.bool true, x16.v] ?_
  intro w21 u21 e21 d21
  have k26 := k_signed d21 (s := true) (h17.ext e21)
  with_reducible refine zPm k26 ?_
  rintro _ u24 g25 ⟨i22, rfl, h23⟩
  refine zzj ⟨24, i22.cs⟩ ty24 ?_
  refine zzb (zzo (ret0 [i22.v] ⟨zzr ty24 zze, trivial⟩ fun u27 e28 => ?_))
  refine ⟨i22, rfl, IntN.more (K := 2) ?_ xq⟩
  have e : z = Nt.sg true z.natAbs := by unfold Nt.sg; simp; omega
  rw [e]
  exact (h23.ext e28)
 ·refine zzm (args := [.int .i64 z]) Tryz.func160 rfl Tryz.ntmps160 (rs := [.cell 2 24]) Tryz.results160 (le_b rfl) (le_b rfl) d ?_
  refine sq9 (zzk 2 ⟨24, [.bool false, .slice none 0 0]⟩ (zzb (sq9 (zza 4 (zI z) (zyq 5 (x := .v (.int .u64 (IntKind.u64.wrap z))) (.v (.int .u64 (z))) (by rw [show (IntKind.u64.wrap z) = z from (by simp [IntKind.wrap, IntKind.bits, IntKind.signed]; omega)]) (zza 3 (.v (.int .u64 z)) (zzb (zzd (sq9 (zza 6 (zI z) (zyq 7 (x := zB (decide (z < 0))) (zB false) (by rw [show (decide (z < 0)) = false from yk]) ?_)))))))))))
  refine zzb (zys xk (zzs (zzp ?_)))
  refine sq9 (zza 10 (zI z) (zyq 11 (x := zB (decide (z < 0))) (zB false) (by rw [show (decide (z < 0)) = false from yk]) (zza 12 (.v (.int .u64 z)) (zyq 13 (x := .v (.int .u32 (IntKind.u32.wrap (z)))) (.v (.int .u32 ((z) % 4294967296))) (by rw [show (IntKind.u32.wrap (z)) = ((z) % 4294967296) from (IntKind.wrap_u32 _)]) (zza 14 (.v (.int .u64 z)) (zyq 15 (x := .v (.int .u64 (Int.fdiv (z) (2 ^ 32)))) (.v (.int .u64 ((z) / 4294967296))) (by rw [show (Int.fdiv (z) (2 ^ 32)) = ((z) / 4294967296) from (by rw [Int.fdiv_eq_ediv_of_nonneg _ yq]; rfl)]) (zyq 16 (x := .v (.int .u32 (IntKind.u32.wrap ((z) / 4294967296)))) (.v (.int .u32 ((z) / 4294967296))) (by rw [show (IntKind.u32.wrap ((z) / 4294967296)) = ((z) / 4294967296) from (IntWalk.u32_in _ xq)]) (zxx 17 ⟨104, [.int .u32 ((z) % 4294967296), .int .u32 ((z) / 4294967296)]⟩ 2 (fun b11 u12 e13 h14 => ?_)))))))))
  refine zzg 18 214 [.slice (some ⟨b11, 0, none⟩) 2 2] ?_
  intro w15 u15 e15 d15
  have k20 := k_natTrim d15 ((two_data (N := z.natAbs) h14 xq xq xq).ext e15) xq
  with_reducible refine zPm k20 ?_
  rintro _ u18 g19 ⟨x16, rfl, h17⟩
  refine zzg 19 222 [.bool false, x16.v] ?_
  intro w21 u21 e21 d21
  have k26 := k_signed d21 (s := false) (h17.ext e21)
  with_reducible refine zPm k26 ?_
  rintro _ u24 g25 ⟨i22, rfl, h23⟩
  refine zzj ⟨24, i22.cs⟩ ty24 ?_
  refine zzb (zzo (ret0 [i22.v] ⟨zzr ty24 zze, trivial⟩ fun u27 e28 => ?_))
  refine ⟨i22, rfl, IntN.more (K := 2) ?_ xq⟩
  have e : z = Nt.sg false z.natAbs := by unfold Nt.sg; simp; omega
  rw [e]
  exact (h23.ext e28)
theorem k_natural {u w : World} {x : Sl} (d : Dat u w) : Calls Tryz.prog 195 #[x.v] w (Post u w fun v _ => v = .agg #[.bool false, x.v]) := by
 refine zzm (args := [.slice x.a x.n x.c]) Tryz.func195 rfl Tryz.ntmps195 (rs := [.cell 2 24]) Tryz.results195 (le_b rfl) (le_b rfl) d ?_
 refine sq9 (zzk 2 ⟨24, [.bool false, .slice none 0 0]⟩ (zzb (sq9 (zza 3 (.v x.v) (zza 4 (.v (.agg #[.bool false, x.v])) (zzj ⟨24, [.bool false, x.v]⟩ ty24 ?_))))))
 refine zzb (zzo (ret0 [.agg #[.bool false, .slice x.a x.n x.c]] ⟨zzr ty24 zze, trivial⟩ fun u11 e12 => ?_))
 exact rfl
theorem k_whole {u w : World} {i : IL} (d : Dat u w) : Calls Tryz.prog 193 #[i.v] w (Post u w fun v u' => ∃ y : Sl, v = .agg #[.bool i.s, i.m.v, y.v] ∧ NatN u' y 1 1) := by
 refine zzm (args := [i.v]) Tryz.func193 rfl Tryz.ntmps193 (rs := [.cell 2 26]) Tryz.results193 (le_b rfl) (le_b rfl) d ?_
 refine sq9 (zzk 1 ⟨24, i.cs⟩ (zzk 2 ⟨26, [.bool false, .slice none 0 0, .slice none 0 0]⟩ (zzb (sq9 (zzi 3 (.v (i.v)) ty24 zze (zxx 4 ⟨104, [.int .u32 1]⟩ 1 (fun b11 u12 e13 h14 => ?_)))))))
 refine zza 5 (.v (.agg #[.bool i.s, i.m.v, .slice (some ⟨b11, 0, none⟩) 1 1])) (zzj ⟨26, i.cs ++ [.slice (some ⟨b11, 0, none⟩) 1 1]⟩ ty26 ?_)
 refine zzb (zzo (ret0 [.agg #[.bool i.s, .slice i.m.a i.m.n i.m.c, .slice (some ⟨b11, 0, none⟩) 1 1]] ⟨zzr ty26 zze, trivial⟩ fun u15 e16 => ?_))
 exact ⟨_, rfl, ((one_data h14).ext e16)⟩
theorem k_quotient {u w : World} {i j : IL} (d : Dat u w) : Calls Tryz.prog 196 #[i.v, j.v] w (Post u w fun v _ => v = .agg #[.bool (!(i.s == j.s)), i.m.v, j.m.v]) := by
 refine zzm (args := [i.v, j.v]) Tryz.func196 rfl Tryz.ntmps196 (rs := [.cell 4 147]) Tryz.results196 (le_b rfl) (le_b rfl) d ?_
 refine sq9 (zzk 2 ⟨24, i.cs⟩ (zzk 3 ⟨24, j.cs⟩ (zzk 4 ⟨147, [.bool false, .slice none 0 0, .slice none 0 0]⟩ (zzb (sq9 (zza 5 (.adr 2 0) (zzi 6 (zB i.s) ty4 zzl (zza 7 (.adr 3 0) (zzi 8 (zB j.s) ty4 zzl (zza 9 (zB (!(i.s == j.s))) (zza 10 (.adr 2 1) ?_)))))))))))
 refine zzi 11 (.v i.m.v) ty22 zzl (zza 12 (.v (.agg #[.bool (!(i.s == j.s)), i.m.v])) (zza 13 (.adr 3 1) (zzi 14 (.v j.m.v) ty22 zzl (zza 15 (.v (.agg #[.bool (!(i.s == j.s)), i.m.v, j.m.v])) (zzj ⟨147, [.bool (!(i.s == j.s)), i.m.v, j.m.v]⟩ ty147 ?_)))))
 refine zzb (zzo (ret0 [.agg #[.bool (!(i.s == j.s)), .slice i.m.a i.m.n i.m.c, .slice j.m.a j.m.n j.m.c]] ⟨zzr ty147 zze, trivial⟩ fun u11 e12 => ?_))
 exact rfl
theorem k_flip {u w : World} {r : RL} (d : Dat u w) : Calls Tryz.prog 226 #[r.v] w (Post u w fun v _ => v = .agg #[.bool (!r.s), r.m.v, r.d.v]) := by
 refine zzm (args := [r.v]) Tryz.func226 rfl Tryz.ntmps226 (rs := [.cell 2 26]) Tryz.results226 (le_b rfl) (le_b rfl) d ?_
 refine sq9 (zzk 1 ⟨26, r.cs⟩ (zzk 2 ⟨26, [.bool false, .slice none 0 0, .slice none 0 0]⟩ (zzb (sq9 (zza 3 (.adr 1 0) (zza 4 (.adr 1 0) (zzi 5 (zB r.s) ty4 zzl (zza 6 (zB (!r.s)) (zza 7 (.adr 1 0) (zza 8 (.adr 1 1) (zzi 9 (.v r.m.v) ty22 zzl ?_)))))))))))
 refine zza 10 (.v (.agg #[.bool (!r.s), r.m.v])) (zza 11 (.adr 1 2) (zzi 12 (.v r.d.v) ty22 zzl (zza 13 (.v (.agg #[.bool (!r.s), r.m.v, r.d.v])) (zzj ⟨26, [.bool (!r.s), r.m.v, r.d.v]⟩ ty26 ?_))))
 refine zzb (zzo (ret0 [.agg #[.bool (!r.s), .slice r.m.a r.m.n r.m.c, .slice r.d.a r.d.n r.d.c]] ⟨zzr ty26 zze, trivial⟩ fun u11 e12 => ?_))
 exact rfl
set_option maxHeartbeats 1000000 in
theorem k_read {u w : World} {r : RL} {q : Rat} {K : Nat} (d : Dat u w) (h : RatV u r q K) : Calls Tryz.prog 147 #[r.v] w (Post u w fun v u' => ∃ (r' : RL) (wh : Bool), v = .agg #[.bool r'.s, r'.m.v, r'.d.v, .bool wh] ∧ NumV u' r' wh q K) := by
 obtain ⟨⟨z, D, hi, hd, hq⟩, hK⟩ := h
 change IntV u ⟨r.s, r.m⟩ z K at hi
 change NatV u r.d D K at hd
 by_cases hn : r.d.n = 1
 ·obtain ⟨b, o, ha, hc⟩ := nat_digit hd hn
  by_cases hD : D = 1
  ·refine zzm (args := [r.v]) Tryz.func147 rfl Tryz.ntmps147 (rs := [.cell 2 149]) Tryz.results147 (le_b rfl) (le_b rfl) d ?_
   refine sq9 (zzk 1 ⟨26, r.cs⟩ (zzk 2 ⟨149, [.bool false, .slice none 0 0, .slice none 0 0, .bool false]⟩ (zzb (zzd (sq9 (zza 3 (.adr 1 2) (zzi 4 (.v r.d.v) ty22 zzl (zza 5 (zI r.d.n) (zyq 6 (x := zB ((r.d.n : Int) == 1)) (zB true) (by rw [show ((r.d.n : Int) == 1) = true from (by simp [hn])]) (zza 7 (zB true) (zza 8 (.adr 1 2) ?_ (hw := w1 4 true 7))))))))))))
   refine zzi 9 (.v r.d.v) ty22 zzl ?_ (hw := w1 4 true 7)
   refine zya 10 o (i := 0) (n := r.d.n) (by simp) ha xq (by rw [hn]; decide) sl22 ?_ (hw := w1 4 true 7)
   refine zyl 11 (.int .u32 D) ((Ext.refl _).cell hc) ty104 ?_ (hw := w1 4 true 7)
   refine zyq 12 (x := zB ((D : Int) == 1)) (zB true) (by rw [show ((D : Int) == 1) = true from (by simp [hD])]) ?_ (hw := w1 4 true 7)
   refine zza 13 (zB true) (zzb (zyr xk (sq9 (zza 14 (.adr 1 0) (zzi 15 (.v (.agg #[.bool r.s, r.m.v])) ty24 zze (zza 16 (.adr 1 2) (zzi 17 (.v r.d.v) ty22 zzl (zza 18 (.v (r.v)) (zza 19 (.v (.agg #[.bool r.s, r.m.v, r.d.v, .bool true])) (zzj ⟨149, r.cs ++ [.bool true]⟩ ty149 ?_))))))))))
   refine zzb (zzo (zzw (ret0 [.agg #[.bool r.s, .slice r.m.a r.m.n r.m.c, .slice r.d.a r.d.n r.d.c, .bool true]] ⟨zzr ty149 zze, trivial⟩ fun u11 e12 => ?_)))
   exact ⟨r, true, rfl, z, D, hi.ext e12, hd.ext e12, by omega, hq, fun _ => hD, hK⟩
  ·refine zzm (args := [r.v]) Tryz.func147 rfl Tryz.ntmps147 (rs := [.cell 2 149]) Tryz.results147 (le_b rfl) (le_b rfl) d ?_
   refine sq9 (zzk 1 ⟨26, r.cs⟩ (zzk 2 ⟨149, [.bool false, .slice none 0 0, .slice none 0 0, .bool false]⟩ (zzb (zzd (sq9 (zza 3 (.adr 1 2) (zzi 4 (.v r.d.v) ty22 zzl (zza 5 (zI r.d.n) (zyq 6 (x := zB ((r.d.n : Int) == 1)) (zB true) (by rw [show ((r.d.n : Int) == 1) = true from (by simp [hn])]) (zza 7 (zB true) (zza 8 (.adr 1 2) ?_ (hw := w1 4 true 7))))))))))))
   refine zzi 9 (.v r.d.v) ty22 zzl ?_ (hw := w1 4 true 7)
   refine zya 10 o (i := 0) (n := r.d.n) (by simp) ha xq (by rw [hn]; decide) sl22 ?_ (hw := w1 4 true 7)
   refine zyl 11 (.int .u32 D) ((Ext.refl _).cell hc) ty104 ?_ (hw := w1 4 true 7)
   refine zyq 12 (x := zB ((D : Int) == 1)) (zB false) (by rw [show ((D : Int) == 1) = false from yk]) ?_ (hw := w1 4 true 7)
   refine zza 13 (zB false) (zzb (zys xk (zzs (zzp ?_))))
   refine zzd (sq9 (zza 20 (.adr 1 2) (zzi 21 (.v r.d.v) ty22 zzl (zzg 22 83 [r.d.v, .slice none 0 0] ?_))))
   intro w11 u11 e11 d11
   have k14 := k_natCompare d11 (hd.ext e11) (nat_nil _ 1)
   with_reducible refine zPm k14 ?_
   rintro _ u12 g13 rfl
   refine zza 23 (zB ((Nt.cmpS D 0) == 0)) (zzb (zzu (b := (Nt.cmpS D 0) == 0) xk (fun hb15 => ?_) (fun hb15 => ?_)))
   ·replace hb15 : ((Nt.cmpS D 0) == 0) = true := hb15
    refine sq9 (zza 24 (.v (.agg #[.bool false, .slice none 0 0])) (zxx 25 ⟨104, [.int .u32 1]⟩ 1 (fun b16 u17 e18 h19 => ?_)))
    refine zza 26 (.v (.agg #[.bool false, .slice none 0 0, .slice (some ⟨b16, 0, none⟩) 1 1])) (zza 27 (.v (.agg #[.bool false, .slice none 0 0, .slice (some ⟨b16, 0, none⟩) 1 1, .bool true])) (zzj ⟨149, [.bool false, .slice none 0 0, .slice (some ⟨b16, 0, none⟩) 1 1, .bool true]⟩ ty149 ?_))
    refine zzb (zzo (zzw (ret0 [.agg #[.bool false, .slice none 0 0, .slice (some ⟨b16, 0, none⟩) 1 1, .bool true]] ⟨zzr ty149 zze, trivial⟩ fun u20 e21 => ?_)))
    have hD0 : D = 0 := (Nt.cmp_nat0 hb15).1 rfl
    refine ⟨⟨false, ⟨none, 0, 0⟩, (⟨some ⟨b16, 0, none⟩, 1, 1⟩ : Sl)⟩, true, rfl, 0, 1, (⟨0, nat_nil _ K, rfl⟩ : IntV _ ⟨false, ⟨none, 0, 0⟩⟩ 0 K), ((one_data h19).ext e21).raw.more hK, by omega, ?_, fun _ => rfl, hK⟩
    rw [hq, hD0]; simp
   ·replace hb15 : ((Nt.cmpS D 0) == 0) = false := hb15
    refine zzs (zzp ?_)
    refine sq9 (zza 28 (.adr 1 0) (zzi 29 (.v (.agg #[.bool r.s, r.m.v])) ty24 zze (zza 30 (.adr 1 2) (zzi 31 (.v r.d.v) ty22 zzl (zza 32 (.v (r.v)) (zza 33 (.v (.agg #[.bool r.s, r.m.v, r.d.v, .bool false])) (zzj ⟨149, r.cs ++ [.bool false]⟩ ty149 ?_)))))))
    refine zzb (zzo (ret0 [.agg #[.bool r.s, .slice r.m.a r.m.n r.m.c, .slice r.d.a r.d.n r.d.c, .bool false]] ⟨zzr ty149 zze, trivial⟩ fun u22 e23 => ?_))
    have hD0 : 0 < D := (Nt.cmp_nat0 hb15).2 rfl
    exact ⟨r, false, rfl, z, D, hi.ext (e11.trans (g13.ext.trans e23)), hd.ext (e11.trans (g13.ext.trans e23)), hD0, hq, (fun k => by cases k), hK⟩
 ·refine zzm (args := [r.v]) Tryz.func147 rfl Tryz.ntmps147 (rs := [.cell 2 149]) Tryz.results147 (le_b rfl) (le_b rfl) d ?_
  refine sq9 (zzk 1 ⟨26, r.cs⟩ (zzk 2 ⟨149, [.bool false, .slice none 0 0, .slice none 0 0, .bool false]⟩ (zzb (zzd (sq9 (zza 3 (.adr 1 2) (zzi 4 (.v r.d.v) ty22 zzl (zza 5 (zI r.d.n) (zyq 6 (x := zB ((r.d.n : Int) == 1)) (zB false) (by rw [show ((r.d.n : Int) == 1) = false from yk]) (zza 7 (zB false) (zzn 8 (uw 4 true false 7) ?_)))))))))))
  refine zzn 9 (uw 4 true false 7) (zzn 10 (uw 4 true false 7) (zzn 11 (uw 4 true false 7) (zzn 12 (uw 4 true false 7) (zza 13 (zB false) (zzb (zys xk (zzs (zzp ?_))))))))
  refine zzd (sq9 (zza 20 (.adr 1 2) (zzi 21 (.v r.d.v) ty22 zzl (zzg 22 83 [r.d.v, .slice none 0 0] ?_))))
  intro w11 u11 e11 d11
  have k14 := k_natCompare d11 (hd.ext e11) (nat_nil _ 1)
  with_reducible refine zPm k14 ?_
  rintro _ u12 g13 rfl
  refine zza 23 (zB ((Nt.cmpS D 0) == 0)) (zzb (zzu (b := (Nt.cmpS D 0) == 0) xk (fun hb15 => ?_) (fun hb15 => ?_)))
  ·replace hb15 : ((Nt.cmpS D 0) == 0) = true := hb15
   refine sq9 (zza 24 (.v (.agg #[.bool false, .slice none 0 0])) (zxx 25 ⟨104, [.int .u32 1]⟩ 1 (fun b16 u17 e18 h19 => ?_)))
   refine zza 26 (.v (.agg #[.bool false, .slice none 0 0, .slice (some ⟨b16, 0, none⟩) 1 1])) (zza 27 (.v (.agg #[.bool false, .slice none 0 0, .slice (some ⟨b16, 0, none⟩) 1 1, .bool true])) (zzj ⟨149, [.bool false, .slice none 0 0, .slice (some ⟨b16, 0, none⟩) 1 1, .bool true]⟩ ty149 ?_))
   refine zzb (zzo (zzw (ret0 [.agg #[.bool false, .slice none 0 0, .slice (some ⟨b16, 0, none⟩) 1 1, .bool true]] ⟨zzr ty149 zze, trivial⟩ fun u20 e21 => ?_)))
   have hD0 : D = 0 := (Nt.cmp_nat0 hb15).1 rfl
   refine ⟨⟨false, ⟨none, 0, 0⟩, (⟨some ⟨b16, 0, none⟩, 1, 1⟩ : Sl)⟩, true, rfl, 0, 1, (⟨0, nat_nil _ K, rfl⟩ : IntV _ ⟨false, ⟨none, 0, 0⟩⟩ 0 K), ((one_data h19).ext e21).raw.more hK, by omega, ?_, fun _ => rfl, hK⟩
   rw [hq, hD0]; simp
  ·replace hb15 : ((Nt.cmpS D 0) == 0) = false := hb15
   refine zzs (zzp ?_)
   refine sq9 (zza 28 (.adr 1 0) (zzi 29 (.v (.agg #[.bool r.s, r.m.v])) ty24 zze (zza 30 (.adr 1 2) (zzi 31 (.v r.d.v) ty22 zzl (zza 32 (.v (r.v)) (zza 33 (.v (.agg #[.bool r.s, r.m.v, r.d.v, .bool false])) (zzj ⟨149, r.cs ++ [.bool false]⟩ ty149 ?_)))))))
   refine zzb (zzo (ret0 [.agg #[.bool r.s, .slice r.m.a r.m.n r.m.c, .slice r.d.a r.d.n r.d.c, .bool false]] ⟨zzr ty149 zze, trivial⟩ fun u22 e23 => ?_))
   have hD0 : 0 < D := (Nt.cmp_nat0 hb15).2 rfl
   exact ⟨r, false, rfl, z, D, hi.ext (e11.trans (g13.ext.trans e23)), hd.ext (e11.trans (g13.ext.trans e23)), hD0, hq, (fun k => by cases k), hK⟩
theorem k_isOne {u w : World} {x : Sl} {N K : Nat} (d : Dat u w) (h : NatN u x N K) : Calls Tryz.prog 213 #[x.v] w (Post u w fun v _ => v = .bool (decide (N = 1))) := by
 by_cases hn : x.n = 1
 ·obtain ⟨b, o, ha, hc⟩ := nat_digit h.raw hn
  refine zzm (args := [.slice x.a x.n x.c]) Tryz.func213 rfl Tryz.ntmps213 (rs := [.tmp 2]) Tryz.results213 (le_b rfl) (le_b rfl) d ?_
  refine sq9 (zza 2 (zB false) (zzb (sq9 (zza 3 (.v x.v) (zza 4 (zI x.n) (zyq 5 (x := zB ((x.n : Int) == 1)) (zB true) (by rw [show ((x.n : Int) == 1) = true from (by simp [hn])]) (zza 6 (zB true) (zza 7 (.v x.v) ?_ (hw := w1 3 true 6)))))))))
  refine zya 8 o (i := 0) (n := x.n) (by simp) ha xq (by rw [hn]; decide) sl22 ?_ (hw := w1 3 true 6)
  refine zyl 9 (.int .u32 N) ((Ext.refl _).cell hc) ty104 ?_ (hw := w1 3 true 6)
  refine zza 10 (zB ((N : Int) == 1)) ?_ (hw := w1 3 true 6)
  refine zza 11 (zB ((N : Int) == 1)) (zza 2 (zB ((N : Int) == 1)) (zzb (zzo (ret0 [.bool ((N : Int) == 1)] ⟨zzq, trivial⟩ fun u11 e12 => ?_))))
  show Value.bool _ = Value.bool _
  congr 1
  rw [Bool.eq_iff_iff]
  simp <;> omega
 ·have hN : N ≠ 1 := fun e => hn (by rw [h.1, e, Nt.dl_one])
  refine zzm (args := [.slice x.a x.n x.c]) Tryz.func213 rfl Tryz.ntmps213 (rs := [.tmp 2]) Tryz.results213 (le_b rfl) (le_b rfl) d ?_
  refine sq9 (zza 2 (zB false) (zzb (sq9 (zza 3 (.v x.v) (zza 4 (zI x.n) (zyq 5 (x := zB ((x.n : Int) == 1)) (zB false) (by rw [show ((x.n : Int) == 1) = false from yk]) (zza 6 (zB false) (zzn 7 (uw 3 true false 6) (zzn 8 (uw 3 true false 6) (zzn 9 (uw 3 true false 6) (zzn 10 (uw 3 true false 6) ?_)))))))))))
  refine zza 11 (zB false) (zza 2 (zB false) (zzb (zzo (ret0 [.bool false] ⟨zzq, trivial⟩ fun u11 e12 => ?_))))
  show _ = _
  simp [tupV]
  exact hN
set_option maxHeartbeats 1000000 in
theorem k_lowest {u w : World} {i : IL} {z : Int} {y : Sl} {D K L : Nat} (d : Dat u w) (h1 : IntV u i z K) (hD : NatV u y D L) (hp : 0 < D) (hK : K ≤ 500000000) (hL : L ≤ 500000000) : Calls Tryz.prog 148 #[.agg #[.bool i.s, i.m.v, y.v]] w (Post u w fun v u' => ∃ r : RL, v = r.v ∧ RatN u' r (mkRat z D) (max K L)) := by
 obtain ⟨N, hN, hz⟩ := h1
 have hL1 : 1 ≤ L := by have h2 := hD.size; have h3 := Nt.dl_mono (x := D) (y := 1) xq; rw [Nt.dl_one] at h3; omega
 refine zzm (args := [.agg #[.bool i.s, .slice i.m.a i.m.n i.m.c, .slice y.a y.n y.c]]) Tryz.func148 rfl Tryz.ntmps148 (rs := [.cell 2 26]) Tryz.results148 (le_b rfl) (le_b rfl) d ?_
 refine sq9 (zzk 1 ⟨147, i.cs ++ [y.v]⟩ (zzk 2 ⟨26, [.bool false, .slice none 0 0, .slice none 0 0]⟩ (zzb (sq9 (zza 14 (.adr 1 0) (zza 15 (.adr 1 1) (zzi 16 (.v i.m.v) ty22 zzl (zza 17 (.adr 1 2) (zzi 18 (.v y.v) ty22 zzl (zzg 19 80 [i.m.v, y.v] ?_))))))))))
 intro w11 u11 e11 d11
 have k18 := k_natDivMod d11 (hN.ext e11) (hD.ext e11) hp xq xq
 with_reducible refine zPm k18 ?_
 rintro _ u16 g17 ⟨x12, x13, rfl, h14, h15⟩
 refine zza 13 (.v (.tuple #[x12.v, x13.v, .int .i64 0])) (zza 20 (.v x12.v) (zza 21 (.v x13.v) (zza 22 (zI 0) (zza 3 (.v x12.v) (zza 4 (.v x13.v) (zza 5 (zI 0) (zzb (zzd (sq9 (zza 23 (.v x13.v) (zza 24 (zI x13.n) ?_)))))))))))
 refine zza 25 (zB ((x13.n : Int) == 0)) (zzb (zzu (b := (x13.n : Int) == 0) xk (fun hb19 => ?_) (fun hb19 => ?_)))
 ·replace hb19 : ((x13.n : Int) == 0) = true := hb19
  have qhb19 : (x13.n : Int) = 0 := by simpa using hb19
  have hr : N % D = 0 := by have h7 := (h15).pos; simp at hb19; omega
  refine sq9 (zza 26 (.adr 1 0) (zza 27 (.adr 1 0) (zzi 28 (zB i.s) ty4 zzl (zza 29 (.v x12.v) (zza 30 (.v (.agg #[.bool i.s, x12.v])) (zzg 31 211 [.agg #[.bool i.s, x12.v]] ?_))))))
  intro w20 u20 e20 d20
  have k25 := k_intTrim d20 (IntV.same (s := i.s) (h14.ext e20).raw) xq
  with_reducible refine zPm k25 ?_
  rintro _ u23 g24 ⟨i21, rfl, h22⟩
  refine zzg 32 193 [i21.v] ?_
  intro w26 u26 e26 d26
  have k31 := k_whole (i := i21) d26
  with_reducible refine zPm k31 ?_
  rintro _ u29 g30 ⟨y27, rfl, h28⟩
  refine zzj ⟨26, i21.cs ++ [y27.v]⟩ ty26 ?_
  refine zzb (zzo (zzw (ret0 [.agg #[.bool i21.s, .slice i21.m.a i21.m.n i21.m.c, .slice y27.a y27.n y27.c]] ⟨zzr ty26 zze, trivial⟩ fun u32 e33 => ?_)))
  refine ⟨(⟨i21.s, i21.m, y27⟩ : RL), rfl, RatN.more (K := (max K 1)) ?_ xq⟩
  rw [hz, ← low1 hp hr]
  exact ((whole_rat (h22.ext (e26.trans g30.ext)) h28).ext e33)
 ·replace hb19 : ((x13.n : Int) == 0) = false := hb19
  have qhb19 : ¬ ((x13.n : Int) = 0) := by simpa using hb19
  have hr : N % D ≠ 0 := by have h7 := (h15).pos; simp at hb19; omega
  refine zzs (zzp ?_)
  refine sq9 (zza 33 (.adr 1 2) (zzi 34 (.v y.v) ty22 zzl (zza 35 (.v x13.v) (zzg 36 212 [y.v, x13.v] ?_))))
  intro w34 u34 e34 d34
  have k39 := k_natGcd d34 (hD.ext (e11.trans (g17.ext.trans e34))) (h15.ext e34).raw xq xq
  with_reducible refine zPm k39 ?_
  rintro _ u37 g38 ⟨x35, rfl, h36⟩
  refine zza 6 (.v x35.v) (zzb (zzd (sq9 (zza 37 (.v x35.v) (zzg 38 213 [x35.v] ?_)))))
  intro w40 u40 e40 d40
  have k43 := k_isOne d40 (h36.ext e40)
  with_reducible refine zPm k43 ?_
  rintro _ u41 g42 rfl
  refine zzb (zzu (b := decide ((Nat.gcd D (N % D)) = 1)) xk (fun hb44 => ?_) (fun hb44 => ?_))
  ·replace hb44 : (decide ((Nat.gcd D (N % D)) = 1)) = true := hb44
   have qhb44 := of_decide_eq_true hb44
   have hg : Nat.gcd D (N % D) = 1 := by simpa using hb44
   have hgp : 0 < Nat.gcd D (N % D) := Nat.gcd_pos_of_pos_left _ hp
   refine zzd (zzz [0, 1, 3, 0, 8, 31, 63, 127] [(0, []), (1, []), (3, []), (4, []), (2, []), (5, []), (6, []), (7, [])] xk xk (zza 39 (.adr 1 0) (zzi 40 (.v (i.v)) ty24 zze (zza 42 (.adr 1 2) (zzi 43 (.v y.v) ty22 zzl (zzg 41 211 [i.v] ?_))))))
   intro w45 u45 e45 d45
   have k50 := k_intTrim d45 (IntV.same (s := i.s) (hN.ext (e11.trans (g17.ext.trans (e34.trans (g38.ext.trans (e40.trans (g42.ext.trans e45)))))))) xq
   with_reducible refine zPm k50 ?_
   rintro _ u48 g49 ⟨i46, rfl, h47⟩
   refine zzg 44 214 [y.v] ?_
   intro w51 u51 e51 d51
   have k56 := k_natTrim d51 (hD.ext (e11.trans (g17.ext.trans (e34.trans (g38.ext.trans (e40.trans (g42.ext.trans (e45.trans (g49.ext.trans e51))))))))) xq
   with_reducible refine zPm k56 ?_
   rintro _ u54 g55 ⟨x52, rfl, h53⟩
   refine zza 45 (.v (.agg #[.bool i46.s, i46.m.v, x52.v])) (zzj ⟨26, i46.cs ++ [x52.v]⟩ ty26 ?_)
   refine zzc 70 [(2, .adr 2 0)] [(2, ⟨26, i46.cs ++ [x52.v]⟩)] (zzo (zzw (ret0 [.agg #[.bool i46.s, .slice i46.m.a i46.m.n i46.m.c, .slice x52.a x52.n x52.c]] ⟨zzr ty26 zze, trivial⟩ fun u57 e58 => ?_)))
   refine ⟨(⟨i46.s, i46.m, x52⟩ : RL), rfl, ?_⟩
   rw [hz]
   exact low2 hp hg (h47.ext (e51.trans (g55.ext.trans e58))) (h53.ext e58)
  ·replace hb44 : (decide ((Nat.gcd D (N % D)) = 1)) = false := hb44
   have qhb44 := of_decide_eq_false hb44
   have hg : ¬ Nat.gcd D (N % D) = 1 := by simpa using hb44
   have hgp : 0 < Nat.gcd D (N % D) := Nat.gcd_pos_of_pos_left _ hp
   refine zzs (zzp ?_)
   refine sq9 (zza 47 (.adr 1 0) (zza 48 (.adr 1 1) (zzi 49 (.v i.m.v) ty22 zzl (zza 50 (.v x35.v) (zzg 51 80 [i.m.v, x35.v] ?_)))))
   intro w59 u59 e59 d59
   have k66 := k_natDivMod d59 (hN.ext (e11.trans (g17.ext.trans (e34.trans (g38.ext.trans (e40.trans (g42.ext.trans e59))))))) (h36.ext (e40.trans (g42.ext.trans e59))).raw hgp xq xq
   with_reducible refine zPm k66 ?_
   rintro _ u64 g65 ⟨x60, x61, rfl, h62, h63⟩
   refine zza 46 (.v (.tuple #[x60.v, x61.v, .int .i64 0])) (zza 52 (.v x60.v) (zza 53 (.v x61.v) (zza 54 (zI 0) (zza 7 (.v x60.v) (zza 8 (.v x61.v) (zza 9 (zI 0) (zzc 70 [(1, .adr 1 0), (2, .adr 2 0), (6, .v x35.v), (7, .v x60.v)] [(1, ⟨147, i.cs ++ [y.v]⟩), (2, ⟨26, [.bool false, .slice none 0 0, .slice none 0 0]⟩)] (sq9 (zza 56 (.adr 1 2) (zzi 57 (.v y.v) ty22 zzl (zza 58 (.v x35.v) ?_)))))))))))
   refine zzg 59 80 [y.v, x35.v] ?_
   intro w67 u67 e67 d67
   have k74 := k_natDivMod d67 (hD.ext (e11.trans (g17.ext.trans (e34.trans (g38.ext.trans (e40.trans (g42.ext.trans (e59.trans (g65.ext.trans e67))))))))) (h36.ext (e40.trans (g42.ext.trans (e59.trans (g65.ext.trans e67))))).raw hgp xq xq
   with_reducible refine zPm k74 ?_
   rintro _ u72 g73 ⟨x68, x69, rfl, h70, h71⟩
   refine zza 55 (.v (.tuple #[x68.v, x69.v, .int .i64 0])) (zza 60 (.v x68.v) (zza 61 (.v x69.v) (zza 62 (zI 0) (zza 10 (.v x68.v) (zza 11 (.v x69.v) (zza 12 (zI 0) (zzb (sq9 (zza 63 (.adr 1 0) (zza 64 (.adr 1 0) (zzi 65 (zB i.s) ty4 zzl ?_)))))))))))
   refine zza 66 (.v x60.v) (zza 67 (.v (.agg #[.bool i.s, x60.v])) (zza 68 (.v x68.v) (zza 69 (.v (.agg #[.bool i.s, x60.v, x68.v])) (zzj ⟨26, [.bool i.s, x60.v, x68.v]⟩ ty26 ?_))))
   refine zzb (zzo (ret0 [.agg #[.bool i.s, .slice x60.a x60.n x60.c, .slice x68.a x68.n x68.c]] ⟨zzr ty26 zze, trivial⟩ fun u75 e76 => ?_))
   refine ⟨(⟨i.s, x60, x68⟩ : RL), rfl, RatN.more (K := max K L) ?_ xq⟩
   rw [hz]
   exact low3 hp hr (h62.ext (e67.trans (g73.ext.trans e76))) (h70.ext e76)
theorem k_ratTrim {u w : World} {r1 : RL} {x : Rat} {K : Nat} (d : Dat u w) (hr1 : RatV u r1 x K) (hK : K ≤ 200000000) : Calls Tryz.prog 78 #[r1.v] w (Post u w fun v u' => ∃ r : RL, v = r.v ∧ RatN u' r x K) := by
 refine zzm (args := [r1.v]) Tryz.func78 rfl Tryz.ntmps78 (rs := [.cell 2 26]) Tryz.results78 (le_b rfl) (le_b rfl) d ?_
 refine sq9 (zzk 1 ⟨26, r1.cs⟩ (zzk 2 ⟨26, [.bool false, .slice none 0 0, .slice none 0 0]⟩ (zzb (sq9 (zzi 3 (.v (r1.v)) ty26 zze (zzg 4 147 [r1.v] ?_))))))
 intro w11 u11 e11 d11
 have k15 := k_read d11 (hr1.ext e11)
 with_reducible refine zPm k15 ?_
 rintro _ u13 g14 ⟨r12, wh12, rfl, z12, D12, hi12, hd12, hp12, hq12, hw12, hk12⟩
 refine zza 5 (.v (r12.v)) (zzg 6 148 [r12.v] ?_)
 intro w16 u16 e16 d16
 have k21 := k_lowest d16 (hi12.ext e16) (hd12.ext e16) hp12 xq xq
 with_reducible refine zPm k21 ?_
 rintro _ u19 g20 ⟨r17, rfl, h18⟩
 refine zzj ⟨26, r17.cs⟩ ty26 ?_
 refine zzb (zzo (ret0 [r17.v] ⟨zzr ty26 zze, trivial⟩ fun u22 e23 => ?_))
 refine ⟨r17, rfl, RatN.more (K := (max K K)) ?_ xq⟩
 rw [hq12]; exact (h18.ext e23)
theorem k_ratOf {u w : World} {z : Int} (d : Dat u w) (h0 : -9223372036854775808 ≤ z) (h1 : z ≤ 9223372036854775807) : Calls Tryz.prog 118 #[.int .i64 z] w (Post u w fun v u' => ∃ r : RL, v = r.v ∧ RatN u' r (z : Rat) 2) := by
 refine zzm (args := [.int .i64 z]) Tryz.func118 rfl Tryz.ntmps118 (rs := [.cell 2 26]) Tryz.results118 (le_b rfl) (le_b rfl) d ?_
 refine sq9 (zzk 2 ⟨26, [.bool false, .slice none 0 0, .slice none 0 0]⟩ (zzb (sq9 (zza 3 (zI z) (zzg 4 160 [.int .i64 z] ?_)))))
 intro w11 u11 e11 d11
 have k16 := k_intOf d11 (z := z) xq xq
 with_reducible refine zPm k16 ?_
 rintro _ u14 g15 ⟨i12, rfl, h13⟩
 refine zzg 5 193 [i12.v] ?_
 intro w17 u17 e17 d17
 have k22 := k_whole (i := i12) d17
 with_reducible refine zPm k22 ?_
 rintro _ u20 g21 ⟨y18, rfl, h19⟩
 refine zzj ⟨26, i12.cs ++ [y18.v]⟩ ty26 ?_
 refine zzb (zzo (ret0 [.agg #[.bool i12.s, .slice i12.m.a i12.m.n i12.m.c, .slice y18.a y18.n y18.c]] ⟨zzr ty26 zze, trivial⟩ fun u23 e24 => ?_))
 refine ⟨(⟨i12.s, i12.m, y18⟩ : RL), rfl, RatN.more (K := (max 2 1)) ?_ xq⟩
 exact ((whole_rat (h13.ext (e17.trans g21.ext)) h19).ext e24)
theorem k_ratSign {u w : World} {r1 : RL} {x : Rat} {K : Nat} (d : Dat u w) (hr1 : RatV u r1 x K)  : Calls Tryz.prog 76 #[r1.v] w (Post u w fun v u' => v = .int .i64 (Nt.sgQ x)) := by
 refine zzm (args := [r1.v]) Tryz.func76 rfl Tryz.ntmps76 (rs := [.tmp 2]) Tryz.results76 (le_b rfl) (le_b rfl) d ?_
 refine sq9 (zzk 1 ⟨26, r1.cs⟩ (zza 2 (zI 0) (zzb (sq9 (zzi 3 (.v (r1.v)) ty26 zze (zzg 4 147 [r1.v] ?_))))))
 intro w11 u11 e11 d11
 have k15 := k_read d11 (hr1.ext e11)
 with_reducible refine zPm k15 ?_
 rintro _ u13 g14 ⟨r12, wh12, rfl, z12, D12, hi12, hd12, hp12, hq12, hw12, hk12⟩
 refine zza 5 (.v (r12.v)) (zza 6 (.v (.agg #[.bool r12.s, r12.m.v])) (zzg 7 146 [.agg #[.bool r12.s, r12.m.v]] ?_))
 intro w16 u16 e16 d16
 have k19 := k_intSign d16 (hi12.ext e16)
 with_reducible refine zPm k19 ?_
 rintro _ u17 g18 rfl
 refine zza 2 (zI (Nt.cmpS z12 0)) (zzb (zzo (ret0 [.int .i64 (Nt.cmpS z12 0)] ⟨zzq, trivial⟩ fun u20 e21 => ?_)))
 show _ = _
 rw [hq12, ← Nt.sg_mk hp12]
 rfl
theorem k_ratCompare {u w : World} {r1 : RL} {x : Rat} {K : Nat} {r2 : RL} {y : Rat} {L : Nat} (d : Dat u w) (hr1 : RatV u r1 x K) (hr2 : RatV u r2 y L) (hK : K ≤ 200000000) (hL : L ≤ 200000000) : Calls Tryz.prog 197 #[r1.v, r2.v] w (Post u w fun v u' => v = .int .i64 (Nt.cmpQ x y)) := by
 refine zzm (args := [r1.v, r2.v]) Tryz.func197 rfl Tryz.ntmps197 (rs := [.tmp 4]) Tryz.results197 (le_b rfl) (le_b rfl) d ?_
 refine sq9 (zzk 2 ⟨26, r1.cs⟩ (zzk 3 ⟨26, r2.cs⟩ (zza 4 (zI 0) (zzb (zzd (zzz [0, 1, 0, 7, 0, 0, 63, 127] [(0, []), (2, []), (4, []), (5, []), (1, []), (3, []), (6, []), (7, [])] xk xk (zzi 7 (.v (r1.v)) ty26 zze (zzi 9 (.v (r2.v)) ty26 zze (zzk 5 ⟨149, [.bool false, .slice none 0 0, .slice none 0 0, .bool false]⟩ (zzk 6 ⟨149, [.bool false, .slice none 0 0, .slice none 0 0, .bool false]⟩ (zzg 8 147 [r1.v] ?_)))))))))))
 intro w11 u11 e11 d11
 have k15 := k_read d11 (hr1.ext e11)
 with_reducible refine zPm k15 ?_
 rintro _ u13 g14 ⟨r12, wh12, rfl, z12, D12, hi12, hd12, hp12, hq12, hw12, hk12⟩
 refine zzg 10 147 [r2.v] ?_
 intro w16 u16 e16 d16
 have k20 := k_read d16 (hr2.ext (e11.trans (g14.ext.trans e16)))
 with_reducible refine zPm k20 ?_
 rintro _ u18 g19 ⟨r17, wh17, rfl, z17, D17, hi17, hd17, hp17, hq17, hw17, hk17⟩
 refine zzj ⟨149, r12.cs ++ [.bool wh12]⟩ ty149 ?_
 refine zzj ⟨149, r17.cs ++ [.bool wh17]⟩ ty149 ?_
 refine zzb (zzd (sq9 (zza 11 (.adr 5 3) (zzi 12 (zB wh12) ty4 zzl ?_))))
 rcases Bool.eq_false_or_eq_true wh12 with hs21 | hs21
 ·refine zyq 13 (x := zB wh12) (zB true) (by rw [hs21]) (zza 14 (.adr 6 3) ?_ (hw := w1 2 true 13))
  refine zzi 15 (zB wh17) ty4 zzl ?_ (hw := w1 2 true 13)
  refine zza 16 (zB wh17) (zzb (zzu (b := wh17) xk (fun hb22 => ?_) (fun hb22 => ?_)))
  ·replace hb22 : wh17 = true := hb22
   refine sq9 (zza 17 (.adr 5 0) (zza 18 (.adr 5 0) (zzi 19 (.v (.agg #[.bool r12.s, r12.m.v])) ty24 zze (zza 20 (.adr 6 0) (zza 21 (.adr 6 0) (zzi 22 (.v (.agg #[.bool r17.s, r17.m.v])) ty24 zze (zzg 23 181 [.agg #[.bool r12.s, r12.m.v], .agg #[.bool r17.s, r17.m.v]] ?_)))))))
   intro w23 u23 e23 d23
   have k26 := k_intCompare d23 (hi12.ext (e16.trans (g19.ext.trans e23))) (hi17.ext e23)
   with_reducible refine zPm k26 ?_
   rintro _ u24 g25 rfl
   refine zza 4 (zI (Nt.cmpS z12 z17)) (zzb (zzo (zzw (ret0 [.int .i64 (Nt.cmpS z12 z17)] ⟨zzq, trivial⟩ fun u27 e28 => ?_))))
   show _ = _
   rw [hq12, hq17, ← Nt.cmp_mk hp12 hp17]
   rw [hw12 (by assumption), hw17 (by assumption)]
   simp [tupV]
  ·replace hb22 : wh17 = false := hb22
   refine zzs (zzp ?_)
   refine zzd (zzz [0, 1, 3, 0, 8, 24, 56, 127, 0, 256, 768, 0, 2048, 6144, 14591, 32767, 65535, 131071] [(0, []), (1, []), (2, []), (3, []), (4, []), (5, []), (8, []), (9, []), (10, []), (11, []), (12, []), (13, []), (6, []), (7, []), (14, []), (15, []), (16, []), (17, [])] xk xk (zza 24 (.adr 5 0) (zza 25 (.adr 5 0) (zzi 26 (.v (.agg #[.bool r12.s, r12.m.v])) ty24 zze (zza 27 (.adr 6 0) (zza 28 (.adr 6 2) (zzi 29 (.v r17.d.v) ty22 zzl (zza 32 (.adr 6 0) (zza 33 (.adr 6 0) (zzi 34 (.v (.agg #[.bool r17.s, r17.m.v])) ty24 zze (zza 35 (.adr 5 0) ?_)))))))))))
   refine zza 36 (.adr 5 2) (zzi 37 (.v r12.d.v) ty22 zzl (zzg 30 195 [r17.d.v] ?_))
   intro w29 u29 e29 d29
   have k32 := k_natural (x := r17.d) d29
   with_reducible refine zPm k32 ?_
   rintro _ u30 g31 rfl
   refine zzg 31 194 [.agg #[.bool r12.s, r12.m.v], .agg #[.bool false, r17.d.v]] ?_
   intro w33 u33 e33 d33
   have k38 := k_intMul d33 (hi12.ext (e16.trans (g19.ext.trans (e29.trans (g31.ext.trans e33))))) (nat_int (hd17.ext (e29.trans (g31.ext.trans e33)))) xq xq
   with_reducible refine zPm k38 ?_
   rintro _ u36 g37 ⟨i34, rfl, h35⟩
   refine zzg 38 195 [r12.d.v] ?_
   intro w39 u39 e39 d39
   have k42 := k_natural (x := r12.d) d39
   with_reducible refine zPm k42 ?_
   rintro _ u40 g41 rfl
   refine zzg 39 194 [.agg #[.bool r17.s, r17.m.v], .agg #[.bool false, r12.d.v]] ?_
   intro w43 u43 e43 d43
   have k48 := k_intMul d43 (hi17.ext (e29.trans (g31.ext.trans (e33.trans (g37.ext.trans (e39.trans (g41.ext.trans e43))))))) (nat_int (hd12.ext (e16.trans (g19.ext.trans (e29.trans (g31.ext.trans (e33.trans (g37.ext.trans (e39.trans (g41.ext.trans e43)))))))))) xq xq
   with_reducible refine zPm k48 ?_
   rintro _ u46 g47 ⟨i44, rfl, h45⟩
   refine zzg 40 181 [i34.v, i44.v] ?_
   intro w49 u49 e49 d49
   have k52 := k_intCompare d49 (h35.ext (e39.trans (g41.ext.trans (e43.trans (g47.ext.trans e49))))).raw (h45.ext e49).raw
   with_reducible refine zPm k52 ?_
   rintro _ u50 g51 rfl
   refine zza 4 (zI (Nt.cmpS (z12 * (D17 : Int)) (z17 * (D12 : Int)))) (zzc 41 [(4, zI (Nt.cmpS (z12 * (D17 : Int)) (z17 * (D12 : Int))))] [] (zzo (ret0 [.int .i64 (Nt.cmpS (z12 * (D17 : Int)) (z17 * (D12 : Int)))] ⟨zzq, trivial⟩ fun u53 e54 => ?_)))
   show _ = _
   rw [hq12, hq17, ← Nt.cmp_mk hp12 hp17]
   rfl
 ·refine zyq 13 (x := zB wh12) (zB false) (by rw [hs21]) (zzn 14 (uw 2 true false 13) (zzn 15 (uw 2 true false 13) (zza 16 (zB false) (zzb (zys xk (zzs (zzp ?_)))))))
  refine zzd (zzz [0, 1, 3, 0, 8, 24, 56, 127, 0, 256, 768, 0, 2048, 6144, 14591, 32767, 65535, 131071] [(0, []), (1, []), (2, []), (3, []), (4, []), (5, []), (8, []), (9, []), (10, []), (11, []), (12, []), (13, []), (6, []), (7, []), (14, []), (15, []), (16, []), (17, [])] xk xk (zza 24 (.adr 5 0) (zza 25 (.adr 5 0) (zzi 26 (.v (.agg #[.bool r12.s, r12.m.v])) ty24 zze (zza 27 (.adr 6 0) (zza 28 (.adr 6 2) (zzi 29 (.v r17.d.v) ty22 zzl (zza 32 (.adr 6 0) (zza 33 (.adr 6 0) (zzi 34 (.v (.agg #[.bool r17.s, r17.m.v])) ty24 zze (zza 35 (.adr 5 0) ?_)))))))))))
  refine zza 36 (.adr 5 2) (zzi 37 (.v r12.d.v) ty22 zzl (zzg 30 195 [r17.d.v] ?_))
  intro w55 u55 e55 d55
  have k58 := k_natural (x := r17.d) d55
  with_reducible refine zPm k58 ?_
  rintro _ u56 g57 rfl
  refine zzg 31 194 [.agg #[.bool r12.s, r12.m.v], .agg #[.bool false, r17.d.v]] ?_
  intro w59 u59 e59 d59
  have k64 := k_intMul d59 (hi12.ext (e16.trans (g19.ext.trans (e55.trans (g57.ext.trans e59))))) (nat_int (hd17.ext (e55.trans (g57.ext.trans e59)))) xq xq
  with_reducible refine zPm k64 ?_
  rintro _ u62 g63 ⟨i60, rfl, h61⟩
  refine zzg 38 195 [r12.d.v] ?_
  intro w65 u65 e65 d65
  have k68 := k_natural (x := r12.d) d65
  with_reducible refine zPm k68 ?_
  rintro _ u66 g67 rfl
  refine zzg 39 194 [.agg #[.bool r17.s, r17.m.v], .agg #[.bool false, r12.d.v]] ?_
  intro w69 u69 e69 d69
  have k74 := k_intMul d69 (hi17.ext (e55.trans (g57.ext.trans (e59.trans (g63.ext.trans (e65.trans (g67.ext.trans e69))))))) (nat_int (hd12.ext (e16.trans (g19.ext.trans (e55.trans (g57.ext.trans (e59.trans (g63.ext.trans (e65.trans (g67.ext.trans e69)))))))))) xq xq
  with_reducible refine zPm k74 ?_
  rintro _ u72 g73 ⟨i70, rfl, h71⟩
  refine zzg 40 181 [i60.v, i70.v] ?_
  intro w75 u75 e75 d75
  have k78 := k_intCompare d75 (h61.ext (e65.trans (g67.ext.trans (e69.trans (g73.ext.trans e75))))).raw (h71.ext e75).raw
  with_reducible refine zPm k78 ?_
  rintro _ u76 g77 rfl
  refine zza 4 (zI (Nt.cmpS (z12 * (D17 : Int)) (z17 * (D12 : Int)))) (zzc 41 [(4, zI (Nt.cmpS (z12 * (D17 : Int)) (z17 * (D12 : Int))))] [] (zzo (ret0 [.int .i64 (Nt.cmpS (z12 * (D17 : Int)) (z17 * (D12 : Int)))] ⟨zzq, trivial⟩ fun u79 e80 => ?_)))
  show _ = _
  rw [hq12, hq17, ← Nt.cmp_mk hp12 hp17]
  rfl
theorem k_ratNeg {u w : World} {r1 : RL} {x : Rat} {K : Nat} (d : Dat u w) (hr1 : RatV u r1 x K) (hK : K ≤ 200000000) : Calls Tryz.prog 176 #[r1.v] w (Post u w fun v u' => ∃ r : RL, v = r.v ∧ RatN u' r (-x) K) := by
 refine zzm (args := [r1.v]) Tryz.func176 rfl Tryz.ntmps176 (rs := [.cell 2 26]) Tryz.results176 (le_b rfl) (le_b rfl) d ?_
 refine sq9 (zzk 1 ⟨26, r1.cs⟩ (zzk 2 ⟨26, [.bool false, .slice none 0 0, .slice none 0 0]⟩ (zzb (sq9 (zzi 3 (.v (r1.v)) ty26 zze (zzg 4 226 [r1.v] ?_))))))
 intro w11 u11 e11 d11
 have k14 := k_flip (r := r1) d11
 with_reducible refine zPm k14 ?_
 rintro _ u12 g13 rfl
 refine zzg 5 78 [.agg #[.bool (!r1.s), r1.m.v, r1.d.v]] ?_
 intro w15 u15 e15 d15
 have k20 := k_ratTrim d15 ((flip_rat (hr1.ext (e11.trans g13.ext))).ext e15) xq
 with_reducible refine zPm k20 ?_
 rintro _ u18 g19 ⟨r16, rfl, h17⟩
 refine zzj ⟨26, r16.cs⟩ ty26 ?_
 refine zzb (zzo (ret0 [r16.v] ⟨zzr ty26 zze, trivial⟩ fun u21 e22 => ?_))
 refine ⟨r16, rfl, RatN.more (K := K) ?_ xq⟩
 exact (h17.ext e22)
theorem k_ratFrac {u w : World} {a b : Int} (d : Dat u w) (ha0 : -9223372036854775808 ≤ a) (ha1 : a ≤ 9223372036854775807) (hb0 : -9223372036854775808 ≤ b) (hb1 : b ≤ 9223372036854775807) : Calls Tryz.prog 127 #[.int .i64 a, .int .i64 b] w (Post u w fun v u' => ∃ r : RL, v = r.v ∧ RatN u' r ((a : Rat) / (b : Rat)) 2) := by
 refine zzm (args := [.int .i64 a, .int .i64 b]) Tryz.func127 rfl Tryz.ntmps127 (rs := [.cell 4 26]) Tryz.results127 (le_b rfl) (le_b rfl) d ?_
 refine sq9 (zzk 4 ⟨26, [.bool false, .slice none 0 0, .slice none 0 0]⟩ (zzb (zzd (sq9 (zza 5 (zI b) (zza 6 (zB (b == 0)) (zzb (zzu (b := b == 0) xk (fun hb11 => ?_) (fun hb11 => ?_)))))))))
 ·replace hb11 : (b == 0) = true := hb11
  refine sq9 (zzg 7 118 [.int .i64 0] ?_)
  intro w12 u12 e12 d12
  have k17 := k_ratOf d12 (z := 0) xq xq
  with_reducible refine zPm k17 ?_
  rintro _ u15 g16 ⟨r13, rfl, h14⟩
  refine zzj ⟨26, r13.cs⟩ ty26 ?_
  refine zzb (zzo (zzw (ret0 [r13.v] ⟨zzr ty26 zze, trivial⟩ fun u18 e19 => ?_)))
  refine ⟨r13, rfl, RatN.more (K := 2) ?_ xq⟩
  have hb0 : b = 0 := by simpa using hb11
  rw [hb0]; simp [Rat.div_def]; exact (h14.ext e19)
 ·replace hb11 : (b == 0) = false := hb11
  have hb0 : 0 < b.natAbs := by simp at hb11; omega
  refine zzs (zzp ?_)
  refine sq9 (zza 8 (zI a) (zzg 9 160 [.int .i64 a] ?_))
  intro w20 u20 e20 d20
  have k25 := k_intOf d20 (z := a) xq xq
  with_reducible refine zPm k25 ?_
  rintro _ u23 g24 ⟨i21, rfl, h22⟩
  refine zza 10 (zI b) (zzg 11 160 [.int .i64 b] ?_)
  intro w26 u26 e26 d26
  have k31 := k_intOf d26 (z := b) xq xq
  with_reducible refine zPm k31 ?_
  rintro _ u29 g30 ⟨i27, rfl, h28⟩
  refine zzg 12 196 [i21.v, i27.v] ?_
  intro w32 u32 e32 d32
  have k35 := k_quotient (i := i21) (j := i27) d32
  with_reducible refine zPm k35 ?_
  rintro _ u33 g34 rfl
  refine zzg 13 148 [.agg #[.bool (!(i21.s == i27.s)), i21.m.v, i27.m.v]] ?_
  intro w36 u36 e36 d36
  have k41 := k_lowest d36 ((quot_int (h22.ext (e26.trans (g30.ext.trans (e32.trans g34.ext)))) (h28.ext (e32.trans g34.ext))).ext e36) ((int_mag (h28.ext (e32.trans g34.ext))).ext e36).raw hb0 xq xq
  with_reducible refine zPm k41 ?_
  rintro _ u39 g40 ⟨r37, rfl, h38⟩
  refine zzj ⟨26, r37.cs⟩ ty26 ?_
  refine zzb (zzo (ret0 [r37.v] ⟨zzr ty26 zze, trivial⟩ fun u42 e43 => ?_))
  refine ⟨r37, rfl, RatN.more (K := (max 2 2)) ?_ xq⟩
  rw [← Nt.div_mk2 xq]
  exact (h38.ext e43)
def DivR (x y : Rat) (K : Nat) (v : Value) (u : World) : Prop := (v = .tuple #[.agg #[.bool false, .slice none 0 0, .slice none 0 0], .int .i64 3] ∧ y = 0) ∨ (y ≠ 0 ∧ ∃ r : RL, v = .tuple #[r.v, .int .i64 0] ∧ RatN u r (x / y) K)
theorem k_ends {u w : World} {a1 a2 : RL} {x1 x2 : Rat} {K : Nat} (d : Dat u w) (ha1 : RatV u a1 x1 K) (ha2 : RatV u a2 x2 K) (hK : K ≤ 200000000) : Calls Tryz.prog 208 #[IV a1 a2] w (Post u w fun v u' => ∃ p q : RL, v = .tuple #[p.v, q.v] ∧ RatV u' p (Nt.lo x1 x2) K ∧ RatV u' q (Nt.hi x1 x2) K) := by
 refine zzm (args := [.agg #[.bool a1.s, .slice a1.m.a a1.m.n a1.m.c, .slice a1.d.a a1.d.n a1.d.c, .bool a2.s, .slice a2.m.a a2.m.n a2.m.c, .slice a2.d.a a2.d.n a2.d.c]]) Tryz.func208 rfl Tryz.ntmps208 (rs := [.cell 2 26, .cell 3 26]) Tryz.results208 (le_b rfl) (le_b rfl) d ?_
 refine sq9 (zzk 1 ⟨32, a1.cs ++ a2.cs⟩ (zzk 2 ⟨26, [.bool false, .slice none 0 0, .slice none 0 0]⟩ (zzk 3 ⟨26, [.bool false, .slice none 0 0, .slice none 0 0]⟩ (zzb (zzd (sq9 (zza 4 (.adr 1 0) (zzi 5 (.v (a1.v)) ty26 zze (zza 6 (.adr 1 3) (zzi 7 (.v (a2.v)) ty26 zze (zzg 8 197 [a1.v, a2.v] ?_)))))))))))
 intro w11 u11 e11 d11
 have k14 := k_ratCompare d11 (ha1.ext e11) (ha2.ext e11) xq xq
 with_reducible refine zPm k14 ?_
 rintro _ u12 g13 rfl
 refine zza 9 (zB (decide ((0 : Int) < (Nt.cmpQ x1 x2)))) (zzb (zzu (b := decide ((0 : Int) < (Nt.cmpQ x1 x2))) xk (fun hb15 => ?_) (fun hb15 => ?_)))
 ·replace hb15 : (decide ((0 : Int) < (Nt.cmpQ x1 x2))) = true := hb15
  have qhb15 := of_decide_eq_true hb15
  refine zzd (zzz [0, 1, 0, 4, 3, 31] [(0, []), (1, []), (2, []), (3, []), (4, [12]), (5, [])] xk xk (zza 10 (.adr 1 3) (zzi 11 (.v (a2.v)) ty26 zze (zza 12 (.adr 1 0) (zzi 13 (.v (a1.v)) ty26 zze (zzj ⟨26, a2.cs⟩ ty26 ?_))))))
  refine zzj ⟨26, a1.cs⟩ ty26 ?_
  refine zzb (zzo (zzw (ret0 [a2.v, a1.v] ⟨zzr ty26 zze, zzr ty26 zze, trivial⟩ fun u16 e17 => ?_)))
  refine ⟨a2, a1, rfl, ?_, ?_⟩
  ·rw [(Nt.ends_gt hb15).1]; exact (ha2.ext (e11.trans (g13.ext.trans e17)))
  ·rw [(Nt.ends_gt hb15).2]; exact (ha1.ext (e11.trans (g13.ext.trans e17)))
 ·replace hb15 : (decide ((0 : Int) < (Nt.cmpQ x1 x2))) = false := hb15
  have qhb15 := of_decide_eq_false hb15
  refine zzs (zzp ?_)
  refine zzd (zzz [0, 1, 0, 4, 3, 31] [(0, []), (1, []), (2, []), (3, []), (4, [16]), (5, [])] xk xk (zza 14 (.adr 1 0) (zzi 15 (.v (a1.v)) ty26 zze (zza 16 (.adr 1 3) (zzi 17 (.v (a2.v)) ty26 zze (zzj ⟨26, a1.cs⟩ ty26 ?_))))))
  refine zzj ⟨26, a2.cs⟩ ty26 ?_
  refine zzb (zzo (ret0 [a1.v, a2.v] ⟨zzr ty26 zze, zzr ty26 zze, trivial⟩ fun u18 e19 => ?_))
  refine ⟨a1, a2, rfl, ?_, ?_⟩
  ·rw [(Nt.ends_le hb15).1]; exact (ha1.ext (e11.trans (g13.ext.trans e19)))
  ·rw [(Nt.ends_le hb15).2]; exact (ha2.ext (e11.trans (g13.ext.trans e19)))
theorem k_ivMake {u w : World} {a : RL} {x : Rat} {b : RL} {y : Rat} {K : Nat} (d : Dat u w) (ha : RatV u a x K) (hb : RatV u b y K) (hK : K ≤ 100000000) : Calls Tryz.prog 144 #[a.v, b.v] w (Post u w fun v u' => ∃ p q : RL, v = IV p q ∧ RatN u' p (Nt.lo x y) K ∧ RatN u' q (Nt.hi x y) K) := by
 refine zzm (args := [a.v, b.v]) Tryz.func144 rfl Tryz.ntmps144 (rs := [.cell 4 32]) Tryz.results144 (le_b rfl) (le_b rfl) d ?_
 refine sq9 (zzk 2 ⟨26, a.cs⟩ (zzk 3 ⟨26, b.cs⟩ (zzk 4 ⟨32, [.bool false, .slice none 0 0, .slice none 0 0, .bool false, .slice none 0 0, .slice none 0 0]⟩ (zzb (sq9 (zzi 8 (.v (a.v)) ty26 zze (zzi 9 (.v (b.v)) ty26 zze (zza 10 (.v (.agg #[.bool a.s, a.m.v, a.d.v, .bool b.s, b.m.v, b.d.v])) (zzg 11 208 [.agg #[.bool a.s, a.m.v, a.d.v, .bool b.s, b.m.v, b.d.v]] ?_)))))))))
 intro w11 u11 e11 d11
 have k18 := k_ends d11 (ha.ext e11) (hb.ext e11) xq
 with_reducible refine zPm k18 ?_
 rintro _ u16 g17 ⟨r12, r14, rfl, h13, h15⟩
 refine zza 7 (.v (.tuple #[r12.v, r14.v])) (zza 12 (.v (r12.v)) (zza 13 (.v (r14.v)) (zzk 5 ⟨26, [.bool false, .slice none 0 0, .slice none 0 0]⟩ (zzk 6 ⟨26, [.bool false, .slice none 0 0, .slice none 0 0]⟩ (zzj ⟨26, r12.cs⟩ ty26 ?_)))))
 refine zzj ⟨26, r14.cs⟩ ty26 ?_
 refine zzb (zzd (zzz [0, 1, 0, 7, 15, 31] [(0, []), (2, []), (1, []), (3, []), (4, []), (5, [])] xk xk (zzi 14 (.v (r12.v)) ty26 zze (zzi 16 (.v (r14.v)) ty26 zze (zzg 15 78 [r12.v] ?_)))))
 intro w19 u19 e19 d19
 have k24 := k_ratTrim d19 (h13.ext e19) xq
 with_reducible refine zPm k24 ?_
 rintro _ u22 g23 ⟨r20, rfl, h21⟩
 refine zzg 17 78 [r14.v] ?_
 intro w25 u25 e25 d25
 have k30 := k_ratTrim d25 (h15.ext (e19.trans (g23.ext.trans e25))) xq
 with_reducible refine zPm k30 ?_
 rintro _ u28 g29 ⟨r26, rfl, h27⟩
 refine zza 18 (.v (.agg #[.bool r20.s, r20.m.v, r20.d.v, .bool r26.s, r26.m.v, r26.d.v])) (zzj ⟨32, r20.cs ++ r26.cs⟩ ty32 ?_)
 refine zzb (zzo (ret0 [.agg #[.bool r20.s, .slice r20.m.a r20.m.n r20.m.c, .slice r20.d.a r20.d.n r20.d.c, .bool r26.s, .slice r26.m.a r26.m.n r26.m.c, .slice r26.d.a r26.d.n r26.d.c]] ⟨zzr ty32 zze, trivial⟩ fun u31 e32 => ?_))
 refine ⟨r20, r26, rfl, RatN.more (K := K) ?_ xq, RatN.more (K := K) ?_ xq⟩
 ·exact (h21.ext (e25.trans (g29.ext.trans e32)))
 ·exact (h27.ext e32)
end Go.Proofs.YtbolmkfphieogaaGreat
