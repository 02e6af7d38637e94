/- Parts of the proof: contracts of functions, each walked once, and plain laws. -/
import Derived.Test.YtifcjcecmoimjaaGreatWsbB
import Derived.ArgAppend
import Derived.Laws.StructEq
import Derived.ChangeKeysEq
import Derived.Test.YtifcjcecmoimjaaGreatProg
import Derived.KernelRfl
namespace Go.Proofs.YtifcjcecmoimjaaGreat
set_option linter.unusedVariables false
namespace Nt
structure Pol where
 l : List Rat
 h : Nrm l
namespace Pol
def mk' (l : List Rat) : Pol := ⟨trimQ l, trim_nrm l⟩
def c (p : Pol) (i : Nat) : Rat := co p.l i
theorem mk_c (l : List Rat) (i : Nat) : (mk' l).c i = co l i := trim_co l i
theorem ext {p q : Pol} (h : ∀ i, p.c i = q.c i) : p = q := by
 obtain ⟨l, hl⟩ := p
 obtain ⟨m, hm⟩ := q
 have e : trimQ l = trimQ m := trim_ext h
 unfold Nrm at hl hm
 rw [hl, hm] at e
 subst e; rfl
theorem mk_eq {l m : List Rat} : mk' l = mk' m ↔ trimQ l = trimQ m := ⟨fun h => congrArg Pol.l h, fun h => by unfold mk'; simp [h]⟩
theorem mk_l (p : Pol) : mk' p.l = p := ext fun i => mk_c _ i
def C (a : Rat) : Pol := mk' [a]
instance (n : Nat) : OfNat Pol n := ⟨C (n : Rat)⟩
instance : Add Pol := ⟨fun p q => mk' (addQ p.l q.l)⟩
instance : Mul Pol := ⟨fun p q => mk' (mulQ p.l q.l)⟩
instance : Neg Pol := ⟨fun p => mk' (negQ p.l)⟩
instance : Sub Pol := ⟨fun p q => p + -q⟩
def X : Pol := mk' [0, 1]
theorem c_add (p q : Pol) (i : Nat) : (p + q).c i = p.c i + q.c i := (mk_c _ i).trans (addQ_co _ _ i)
theorem c_neg (p : Pol) (i : Nat) : (-p).c i = -p.c i := (mk_c _ i).trans (negQ_co _ i)
theorem c_sub (p q : Pol) (i : Nat) : (p - q).c i = p.c i - q.c i := by
 show (p + -q).c i = _
 rw [c_add, c_neg]; grind
theorem c_C (a : Rat) (i : Nat) : (C a).c i = if i = 0 then a else 0 := by
 unfold C
 rw [mk_c]
 cases i with
 | zero => rfl
 | succ i => rw [zxx, co_nil, if_neg xq]
theorem c_zero (i : Nat) : (0 : Pol).c i = 0 := by
 have h : (0 : Pol).c i = if i = 0 then (0 : Rat) else 0 := c_C 0 i
 rw [h]; split <;> rfl
theorem zero_l : (0 : Pol).l = [] := zwb.2 fun i => by
 have := c_zero i
 unfold c at this
 show co [((0 : Nat) : Rat)] i = 0
 rw [← trim_co]; exact this
theorem mk_mul (l m : List Rat) : mk' (mulQ l m) = mk' l * mk' m := ext fun i => by
 show _ = (mk' (mulQ (trimQ l) (trimQ m))).c i
 rw [mk_c, mk_c]
 exact zwl (fun i => (trim_co l i).symm) (fun i => (trim_co m i).symm) i
theorem c_mul (p q : Pol) (i : Nat) : (p * q).c i = co (mulQ p.l q.l) i := mk_c _ i
theorem mk_cons (a : Rat) (l : List Rat) (i : Nat) : (mk' (a :: l)).c i = if i = 0 then a else (mk' l).c (i - 1) := by
 rw [mk_c]
 cases i with
 | zero => rfl
 | succ i => rw [zxx, if_neg xq, mk_c]; rfl
theorem mulQ_consR (l : List Rat) (b : Rat) (m : List Rat) (k : Nat) : co (mulQ l (b :: m)) k = b * co l k + sh (co (mulQ l m)) k := by
 induction l generalizing k with
 | nil =>
  rw [mulQ_nil, co_nil]
  have e : sh (co (mulQ [] m)) k = 0 := by unfold sh; split <;> rfl
  rw [e]; grind
 | cons a l ih =>
  rw [zxf]
  cases k with
  | zero => unfold sh; rw [if_pos rfl, if_pos rfl, co_zero, co_zero]; grind
  | succ k =>
   have e1 : sh (co (mulQ l (b :: m))) (k + 1) = b * co l k + sh (co (mulQ l m)) k := by
    unfold sh; rw [if_neg xq, Nat.add_sub_cancel]; exact ih k
   have e2 : sh (co (mulQ (a :: l) m)) (k + 1) = a * co m k + sh (co (mulQ l m)) k := by
    unfold sh; rw [if_neg xq, Nat.add_sub_cancel]; exact zxf a l m k
   rw [e1, e2, zxx, zxx]; grind
theorem mulQ_comm (l m : List Rat) (k : Nat) : co (mulQ l m) k = co (mulQ m l) k := by
 induction l generalizing k with
 | nil =>
  rw [mulQ_nil]
  exact (mulQ_zero_r (m := []) (fun i => co_nil i) m k).symm
 | cons a l ih =>
  rw [zxf, mulQ_consR]
  have e : sh (co (mulQ l m)) k = sh (co (mulQ m l)) k := by unfold sh; split; rfl; exact ih _
  rw [e]
theorem mulQ_add (l l' m : List Rat) (k : Nat) : co (mulQ (addQ l l') m) k = co (mulQ l m) k + co (mulQ l' m) k := by
 induction m generalizing k with
 | nil =>
  rw [mulQ_zero_r (fun i => co_nil i), mulQ_zero_r (fun i => co_nil i), mulQ_zero_r (fun i => co_nil i)]; exact (Rat.add_zero 0).symm
 | cons b m ih =>
  rw [mulQ_consR, mulQ_consR, mulQ_consR, addQ_co]
  cases k with
  | zero => unfold sh; rw [if_pos rfl, if_pos rfl, if_pos rfl]; grind
  | succ k =>
   have e : ∀ x : List Rat, sh (co x) (k + 1) = co x k := fun x => by unfold sh; rw [if_neg xq, Nat.add_sub_cancel]
   rw [e, e, e, ih k]; grind
theorem mulQ_assoc (l m n : List Rat) (k : Nat) : co (mulQ (mulQ l m) n) k = co (mulQ l (mulQ m n)) k := by
 induction l generalizing k with
 | nil => rfl
 | cons a l ih =>
  show co (mulQ (addQ (m.map (a * ·)) (0 :: mulQ l m)) n) k = _
  rw [mulQ_add, mulQ_scale_l, zxf, zxf]
  cases k with
  | zero => unfold sh; rw [if_pos rfl, if_pos rfl]; grind
  | succ k =>
   have e : ∀ x : List Rat, sh (co x) (k + 1) = co x k := fun x => by unfold sh; rw [if_neg xq, Nat.add_sub_cancel]
   rw [e, e, ih k]; grind
theorem mulQ_one (m : List Rat) (k : Nat) : co (mulQ [1] m) k = co m k := by
 rw [zxf]
 have e : sh (co (mulQ [] m)) k = 0 := by unfold sh; split <;> rfl
 rw [e]; grind
theorem mul_comm (p q : Pol) : p * q = q * p := ext fun i => by rw [c_mul, c_mul, mulQ_comm]
theorem mul_assoc (p q r : Pol) : p * q * r = p * (q * r) := ext fun i => by
 rw [c_mul, c_mul]
 show co (mulQ (trimQ (mulQ p.l q.l)) r.l) i = co (mulQ p.l (trimQ (mulQ q.l r.l))) i
 rw [zwl (l' := mulQ p.l q.l) (m' := r.l) (trim_co _) (fun _ => rfl), zwl (l' := p.l) (m' := mulQ q.l r.l) (fun _ => rfl) (trim_co _)]
 exact mulQ_assoc _ _ _ i
theorem one_mul (p : Pol) : 1 * p = p := ext fun i => by
 rw [c_mul]
 show co (mulQ (trimQ [((1 : Nat) : Rat)]) p.l) i = _
 rw [zwl (l' := [((1 : Nat) : Rat)]) (m' := p.l) (trim_co _) (fun _ => rfl)]
 exact mulQ_one _ i
theorem right_distrib (p q r : Pol) : (p + q) * r = p * r + q * r := ext fun i => by
 rw [c_mul, c_add, c_mul, c_mul]
 show co (mulQ (trimQ (addQ p.l q.l)) r.l) i = _
 rw [zwl (l' := addQ p.l q.l) (m' := r.l) (trim_co _) (fun _ => rfl)]
 exact mulQ_add _ _ _ i
theorem add_comm (p q : Pol) : p + q = q + p := ext fun i => by rw [c_add, c_add]; grind
theorem add_assoc (p q r : Pol) : p + q + r = p + (q + r) := ext fun i => by rw [c_add, c_add, c_add, c_add]; grind
theorem add_zero (p : Pol) : p + 0 = p := ext fun i => by rw [c_add, c_zero]; grind
theorem neg_add_cancel (p : Pol) : -p + p = 0 := ext fun i => by rw [c_add, c_neg, c_zero]; grind
theorem zero_mul (p : Pol) : 0 * p = 0 := ext fun i => by rw [c_mul, zero_l, mulQ_nil, c_zero]
theorem left_distrib (p q r : Pol) : p * (q + r) = p * q + p * r := by rw [mul_comm, right_distrib, mul_comm q, mul_comm r]
theorem mul_zero (p : Pol) : p * 0 = 0 := by rw [mul_comm, zero_mul]
theorem mul_one (p : Pol) : p * 1 = p := by rw [mul_comm, one_mul]
instance : NatCast Pol := ⟨fun n => C (n : Rat)⟩
instance : IntCast Pol := ⟨fun n => C (n : Rat)⟩
def npow (p : Pol) : Nat → Pol
 | 0 => 1
 | n + 1 => npow p n * p
instance : HPow Pol Nat Pol := ⟨npow⟩
instance : SMul Nat Pol := ⟨fun n p => C (n : Rat) * p⟩
instance : SMul Int Pol := ⟨fun n p => C (n : Rat) * p⟩
theorem C_add (a b : Rat) : C (a + b) = C a + C b := ext fun i => by
 rw [c_add, c_C, c_C, c_C]; split <;> grind
theorem C_neg (a : Rat) : C (-a) = -C a := ext fun i => by
 rw [c_neg, c_C, c_C]; split <;> grind
theorem C_zero : C 0 = 0 := rfl
theorem C_mul (a b : Rat) : C (a * b) = C a * C b := by
 show mk' [a * b] = mk' [a] * mk' [b]
 rw [← mk_mul]
 refine ext fun i => ?_
 rw [mk_c, mk_c, zxf]
 have e : sh (co (mulQ [] [b])) i = 0 := by unfold sh; split <;> rfl
 rw [e]
 cases i with
 | zero => rw [co_zero, co_zero]; grind
 | succ i => rw [zxx, zxx, co_nil]; grind
instance : Lean.Grind.CommRing Pol where
 add_zero := add_zero
 add_comm := add_comm
 add_assoc := add_assoc
 mul_assoc := mul_assoc
 mul_one := mul_one
 one_mul := one_mul
 left_distrib := left_distrib
 right_distrib := right_distrib
 zero_mul := zero_mul
 mul_zero := mul_zero
 mul_comm := mul_comm
 pow_zero := fun p => rfl
 pow_succ := fun p n => rfl
 neg_add_cancel := neg_add_cancel
 sub_eq_add_neg := fun p q => rfl
 ofNat_succ := fun n => by
  show C ((n + 1 : Nat) : Rat) = C (n : Rat) + C 1
  rw [← C_add]; congr 1
  exact Rat.natCast_add n 1
 ofNat_eq_natCast := fun n => rfl
 intCast_ofNat := fun n => rfl
 intCast_neg := fun n => by
  show C ((-n : Int) : Rat) = -C (n : Rat)
  rw [← C_neg, Rat.intCast_neg]
 nsmul_eq_natCast_mul := fun n p => rfl
 zsmul_natCast_eq_nsmul := fun n p => rfl
 neg_zsmul := fun n p => by
  show C ((-n : Int) : Rat) * p = -(C (n : Rat) * p)
  rw [Rat.intCast_neg, C_neg]
  refine ext fun i => ?_
  rw [c_neg, c_mul, c_mul]
  show co (mulQ (trimQ (negQ (C (n : Rat)).l)) p.l) i = _
  rw [zwl (l' := negQ (C (n : Rat)).l) (m' := p.l) (trim_co _) (fun _ => rfl)]
  have e : negQ (C (n : Rat)).l = (C (n : Rat)).l.map ((-1) * ·) := by unfold negQ; congr 1; funext x; grind
  rw [e, mulQ_scale_l]; grind
example (p q : Pol) : (p + q) * (p - q) = p * p - q * q := by grind
example (p q : Pol) : (p + q) ^ 2 = p ^ 2 + 2 * p * q + q ^ 2 := by grind
end Pol
end Nt
end Go.Proofs.YtifcjcecmoimjaaGreat
namespace Go.Proofs.YtifcjcecmoimjaaGreat
set_option linter.unusedVariables false
namespace Nt
theorem mulQ_far {l m : List Rat} {k : Nat} (h : l.length + m.length ≤ k + 1) : co (mulQ l m) k = 0 := by
 induction l generalizing k with
 | nil => rfl
 | cons a l ih =>
  rw [zxf, co_ge (l := m) (by simp at h; omega)]
  unfold sh
  split
  ·grind
  ·rw [ih (by simp at h; omega)]; grind
theorem mulQ_top {l m : List Rat} (hl : 0 < l.length) (hm : 0 < m.length) : co (mulQ l m) (l.length + m.length - 2) = co l (l.length - 1) * co m (m.length - 1) := by
 induction l with
 | nil => simp at hl
 | cons a l ih =>
  rw [zxf]
  cases l with
  | nil =>
   have e : sh (co (mulQ [] m)) ([a].length + m.length - 2) = 0 := by unfold sh; split <;> rfl
   rw [e]
   show a * co m (1 + m.length - 2) + 0 = a * co m (m.length - 1)
   rw [show 1 + m.length - 2 = m.length - 1 by omega]; grind
  | cons b l =>
   have ih := ih zq
   rw [co_ge (l := m) yy]
   unfold sh
   rw [if_neg yy]
   have e : (a :: b :: l).length + m.length - 2 - 1 = (b :: l).length + m.length - 2 := by simp; omega
   rw [e, ih, show (a :: b :: l).length - 1 = ((b :: l).length - 1) + 1 by simp, zxx]; grind
namespace Pol
def len (p : Pol) : Nat := p.l.length
def lead (p : Pol) : Rat := p.c (p.len - 1)
theorem c_ge {p : Pol} {i : Nat} (h : p.len ≤ i) : p.c i = 0 := co_ge h
theorem len_le {p : Pol} {n : Nat} (h : ∀ i, n ≤ i → p.c i = 0) : p.len ≤ n := by
 apply Classical.byContradiction
 intro k
 have h1 : p.l.length > n := by unfold len at k; omega
 have h2 := nrm_last p.h (by intro e; rw [e] at h1; simp at h1)
 exact h2 (h _ xq)
theorem len_zero : (0 : Pol).len = 0 := by unfold len; rw [zero_l]; rfl
theorem zero_of_len {p : Pol} (h : p.len = 0) : p = 0 := ext fun i => by rw [c_zero, c_ge xq]
theorem len_pos {p : Pol} (h : p ≠ 0) : 0 < p.len := by
 rcases Nat.eq_zero_or_pos p.len with k | k
 ·exact absurd (zero_of_len k) h
 ·exact k
theorem ne_of_len {p : Pol} (h : 0 < p.len) : p ≠ 0 := by rintro rfl; rw [len_zero] at h; omega
theorem lead_ne {p : Pol} (h : p ≠ 0) : p.lead ≠ 0 := nrm_last p.h (by intro e; have := len_pos h; unfold len at this; rw [e] at this; simp at this)
theorem c_ne_len {p : Pol} {i : Nat} (h : p.c i ≠ 0) : i < p.len := by
 apply Classical.byContradiction
 intro k
 exact h (c_ge xq)
theorem mul_far {p q : Pol} {k : Nat} (h : p.len + q.len ≤ k + 1) : (p * q).c k = 0 := by rw [c_mul]; exact mulQ_far h
theorem mul_top {p q : Pol} (hp : p ≠ 0) (hq : q ≠ 0) : (p * q).c (p.len + q.len - 2) = p.lead * q.lead := by rw [c_mul]; exact mulQ_top (len_pos hp) (len_pos hq)
theorem len_mul {p q : Pol} (hp : p ≠ 0) (hq : q ≠ 0) : (p * q).len + 1 = p.len + q.len := by
 have h1 := len_pos hp
 have h2 := len_pos hq
 have h3 : (p * q).len ≤ p.len + q.len - 1 := len_le fun i hi => mul_far xq
 have h4 : (p * q).c (p.len + q.len - 2) ≠ 0 := by
  rw [mul_top hp hq]
  intro k
  rcases Rat.mul_eq_zero.1 k with k | k
  ·exact lead_ne hp k
  ·exact lead_ne hq k
 have := c_ne_len h4
 omega
theorem mul_ne {p q : Pol} (hp : p ≠ 0) (hq : q ≠ 0) : p * q ≠ 0 := by
 apply ne_of_len
 have := len_mul hp hq
 have := len_pos hp
 have := len_pos hq
 omega
theorem lead_mul {p q : Pol} (hp : p ≠ 0) (hq : q ≠ 0) : (p * q).lead = p.lead * q.lead := by
 unfold lead
 have h := len_mul hp hq
 have h1 := len_pos hp
 have h2 := len_pos hq
 rw [show (p * q).len - 1 = p.len + q.len - 2 by omega]
 exact mul_top hp hq
theorem eq_zero_of_mul {p q : Pol} (h : p * q = 0) : p = 0 ∨ q = 0 := by
 apply Classical.byContradiction
 intro k
 exact mul_ne (fun e => k (.inl e)) (fun e => k (.inr e)) h
theorem mul_cancel {p q r : Pol} (hr : r ≠ 0) (h : p * r = q * r) : p = q := by
 have h1 : (p - q) * r = 0 := by grind
 rcases eq_zero_of_mul h1 with k | k
 ·grind
 ·exact absurd k hr
theorem len_sub (p q : Pol) : (p - q).len ≤ max p.len q.len := len_le fun i hi => by rw [c_sub, c_ge xq, c_ge xq]; grind
theorem C_ne {a : Rat} (h : a ≠ 0) : C a ≠ 0 := fun e => h (by have := c_C a 0; rw [e, c_zero] at this; simpa using this.symm)
theorem len_C {a : Rat} (h : a ≠ 0) : (C a).len = 1 := by
 have h1 : (C a).len ≤ 1 := len_le fun i hi => by rw [c_C, if_neg xq]
 have := len_pos (C_ne h)
 omega
theorem lead_C {a : Rat} (h : a ≠ 0) : (C a).lead = a := by unfold lead; rw [len_C h, c_C, if_pos rfl]
theorem is_C {p : Pol} (h : p.len ≤ 1) : p = C (p.c 0) := ext fun i => by
 rw [c_C]
 split
 ·rename_i e; rw [e]
 ·exact c_ge xq
theorem C_inv {a : Rat} (h : a ≠ 0) : C a * C (1 / a) = 1 := by
 rw [← C_mul, show a * (1 / a) = 1 by grind]; rfl
theorem C_mul_c (a : Rat) (p : Pol) (i : Nat) : (C a * p).c i = a * p.c i := by
 rw [c_mul]
 show co (mulQ (trimQ [a]) p.l) i = _
 rw [zwl (l' := [a]) (m' := p.l) (trim_co _) (fun _ => rfl), zxf]
 have e : sh (co (mulQ [] p.l)) i = 0 := by unfold sh; split <;> rfl
 rw [e]
 show a * p.c i + 0 = _
 grind
theorem len_Cmul {a : Rat} (h : a ≠ 0) (p : Pol) : (C a * p).len = p.len := by
 by_cases hp : p = 0
 ·subst hp; rw [mul_zero]
 ·have := len_mul (C_ne h) hp
  rw [len_C h] at this
  omega
theorem div_unique {u v u' v' q : Pol} (h : u * q + v = u' * q + v') (hv : v.len < q.len) (hv' : v'.len < q.len) : u = u' ∧ v = v' := by
 have hq : q ≠ 0 := ne_of_len xq
 have h1 : (u - u') * q = v' - v := by grind
 have h2 : u - u' = 0 := by
  apply Classical.byContradiction
  intro k
  have h3 := len_mul k hq
  rw [h1] at h3
  have h4 := len_sub v' v
  have h5 := len_pos k
  omega
 have h3 : u = u' := by grind
 subst h3
 exact ⟨rfl, by grind⟩
instance : Dvd Pol := ⟨fun q p => ∃ u, p = q * u⟩
structure IsGcd (p q g : Pol) : Prop where
 m : g = 0 ∨ g.lead = 1
 l : g ∣ p
 r : g ∣ q
 s : ∃ u v, g = u * p + v * q
theorem one_ne : (1 : Pol) ≠ 0 := C_ne (a := 1) yv
theorem monic_unit {a b : Pol} (h : a * b = 1) : a.len = 1 := by
 have ha : a ≠ 0 := by rintro rfl; rw [zero_mul] at h; exact one_ne h.symm
 have hb : b ≠ 0 := by rintro rfl; rw [mul_zero] at h; exact one_ne h.symm
 have h1 := len_mul ha hb
 rw [h] at h1
 have h2 : (1 : Pol).len = 1 := len_C (a := 1) yv
 have := len_pos ha
 have := len_pos hb
 omega
theorem dvd_antisymm {g g' : Pol} (h1 : g = 0 ∨ g.lead = 1) (h2 : g' = 0 ∨ g'.lead = 1) (h : g ∣ g') (k : g' ∣ g) : g = g' := by
 obtain ⟨a, ha⟩ := h
 obtain ⟨b, hb⟩ := k
 by_cases hg : g = 0
 ·subst hg; rw [zero_mul] at ha; exact ha.symm
 ·have e : (a * b) * g = 1 * g := by rw [one_mul]; grind
  have e1 := mul_cancel hg e
  have ha0 : a ≠ 0 := by rintro rfl; rw [zero_mul] at e1; exact one_ne e1.symm
  have h3 := is_C (Nat.le_of_eq (monic_unit e1))
  have hg' : g' ≠ 0 := by rw [ha]; exact mul_ne hg ha0
  have h4 := lead_mul hg ha0
  rw [← ha] at h4
  have h5 : g.lead = 1 := h1.resolve_left hg
  have h6 : g'.lead = 1 := h2.resolve_left hg'
  rw [h5, h6] at h4
  have h7 : a.c 0 ≠ 0 := fun e => ha0 (by rw [h3, e]; rfl)
  have h8 : a.lead = a.c 0 := by unfold lead; rw [monic_unit e1]
  have h9 : a = 1 := by rw [h3, ← h8, show a.lead = 1 by grind]; rfl
  rw [ha, h9, mul_one]
theorem IsGcd.unique {p q g g' : Pol} (h : IsGcd p q g) (k : IsGcd p q g') : g = g' := by
 obtain ⟨a, ha⟩ := h.l
 obtain ⟨b, hb⟩ := h.r
 obtain ⟨a', ha'⟩ := k.l
 obtain ⟨b', hb'⟩ := k.r
 obtain ⟨u, v, e⟩ := h.s
 obtain ⟨u', v', e'⟩ := k.s
 exact dvd_antisymm h.m k.m ⟨u' * a + v' * b, by grind⟩ ⟨u * a' + v * b', by grind⟩
structure Same (p q a b : Pol) : Prop where
 ha : ∃ u v, a = u * p + v * q
 hb : ∃ u v, b = u * p + v * q
 hp : ∃ u v, p = u * a + v * b
 hq : ∃ u v, q = u * a + v * b
theorem Same.scale {p q : Pol} {s t : Rat} (hs : s ≠ 0) (ht : t ≠ 0) : Same p q (C s * p) (C t * q) := by
 have h1 := C_inv hs
 have h2 := C_inv ht
 exact ⟨⟨C s, 0, by grind⟩, ⟨0, C t, by grind⟩, ⟨C (1 / s), 0, by grind⟩, ⟨0, C (1 / t), by grind⟩⟩
theorem Same.step {p q a b r s : Pol} {f k : Rat} (h : Same p q a b) (hf : f ≠ 0) (hk : k ≠ 0) (e : C f * a = s * b + r) : Same p q b (C k * r) := by
 have h1 := C_inv hf
 have h2 := C_inv hk
 obtain ⟨⟨u1, v1, e1⟩, ⟨u2, v2, e2⟩, ⟨u3, v3, e3⟩, ⟨u4, v4, e4⟩⟩ := h
 refine ⟨⟨u2, v2, e2⟩, ⟨C k * (C f * u1 - s * u2), C k * (C f * v1 - s * v2), ?_⟩, ⟨u3 * C (1 / f) * s + v3, u3 * C (1 / f) * C (1 / k), ?_⟩, ⟨u4 * C (1 / f) * s + v4, u4 * C (1 / f) * C (1 / k), ?_⟩⟩
 ·have : r = C f * a - s * b := by grind
  rw [this]; grind
 ·have e5 : a = C (1 / f) * (s * b + r) := by rw [← e]; grind
  have e6 : r = C (1 / k) * (C k * r) := by grind
  grind
 ·have e5 : a = C (1 / f) * (s * b + r) := by rw [← e]; grind
  have e6 : r = C (1 / k) * (C k * r) := by grind
  grind
def monic (p : Pol) : Pol := C (1 / p.lead) * p
theorem monic_lead {p : Pol} (h : p ≠ 0) : p.monic.lead = 1 := by
 have h1 := lead_ne h
 have h2 : (1 / p.lead) ≠ 0 := by intro k; have : (1 : Rat) = (1 / p.lead) * p.lead := by grind
                                  rw [k] at this; grind
 unfold monic
 rw [lead_mul (C_ne h2) h, lead_C h2]; grind
theorem Same.gcd {p q a : Pol} (h : Same p q a 0) : IsGcd p q a.monic := by
 obtain ⟨⟨u1, v1, e1⟩, _, ⟨u3, v3, e3⟩, ⟨u4, v4, e4⟩⟩ := h
 by_cases ha : a = 0
 ·subst ha
  have e : (0 : Pol).monic = 0 := by unfold monic; rw [mul_zero]
  rw [e]
  exact ⟨.inl rfl, ⟨0, by grind⟩, ⟨0, by grind⟩, ⟨0, 0, by grind⟩⟩
 ·have h1 := lead_ne ha
  have h2 := C_inv h1
  refine ⟨.inr (monic_lead ha), ⟨u3 * C a.lead, ?_⟩, ⟨u4 * C a.lead, ?_⟩, ⟨C (1 / a.lead) * u1, C (1 / a.lead) * v1, ?_⟩⟩
  ·unfold monic; grind
  ·unfold monic; grind
  ·unfold monic
   have : C (1 / a.lead) * a = C (1 / a.lead) * (u1 * p + v1 * q) := by rw [← e1]
   rw [this]; grind
theorem mk_cons' (a : Rat) (l : List Rat) : mk' (a :: l) = C a + X * mk' l := ext fun i => by
 have hX : ∀ p : Pol, (X * p).c i = if i = 0 then 0 else p.c (i - 1) := fun p => by
  rw [c_mul]
  show co (mulQ (trimQ [0, 1]) p.l) i = _
  rw [zwl (l' := [0, 1]) (m' := p.l) (trim_co _) (fun _ => rfl), zxf]
  unfold sh
  split
  ·grind
  ·rw [mulQ_one]; show 0 * _ + p.c (i - 1) = _; grind
 rw [c_add, hX, mk_cons, c_C]
 split <;> grind
theorem ind {P : Pol → Prop} (h0 : P 0) (h1 : ∀ a p, P p → P (C a + X * p)) (p : Pol) : P p := by
 rw [← mk_l p]
 generalize p.l = l
 induction l with
 | nil => exact (zero_of_len (p := mk' []) rfl) ▸ h0
 | cons a l ih => rw [mk_cons']; exact h1 a _ ih
def D (p : Pol) : Pol := mk' (derQ p.l)
def evL : List Rat → Rat → Rat
 | [], x => 0
 | a :: l, x => a + x * evL l x
theorem evL_zero {l : List Rat} (h : ∀ i, co l i = 0) (x : Rat) : evL l x = 0 := by
 induction l with
 | nil => rfl
 | cons a l ih =>
  have h0 : a = 0 := h 0
  show a + x * evL l x = 0
  rw [ih fun i => by rw [← zxx a]; exact h (i + 1), h0]; grind
theorem evL_congr {l m : List Rat} (h : ∀ i, co l i = co m i) (x : Rat) : evL l x = evL m x := by
 induction l generalizing m with
 | nil => rw [evL_zero (l := m) fun i => by rw [← h i, co_nil]]; rfl
 | cons a l ih =>
  cases m with
  | nil => rw [evL_zero (l := a :: l) fun i => by rw [h i, co_nil]]; rfl
  | cons b m =>
   have h0 : a = b := h 0
   show a + x * evL l x = b + x * evL m x
   have e := ih (m := m) (fun i => by have := h (i + 1); rw [zxx, zxx] at this; exact this)
   rw [h0, e]
def ev (p : Pol) (x : Rat) : Rat := evL p.l x
theorem mk_ev (l : List Rat) (x : Rat) : (mk' l).ev x = evL l x := evL_congr (trim_co l) x
theorem ev_zero (x : Rat) : ev 0 x = 0 := evL_zero (fun i => c_zero i) x
theorem ev_cons (a : Rat) (p : Pol) (x : Rat) : ev (C a + X * p) x = a + x * ev p x := by
 have e : C a + X * p = mk' (a :: p.l) := by rw [mk_cons', mk_l]
 rw [e, mk_ev]; rfl
theorem ev_add (p q : Pol) (x : Rat) : ev (p + q) x = ev p x + ev q x := by
 induction p using ind generalizing q with
 | h0 => rw [ev_zero, show (0 : Pol) + q = q by grind]; grind
 | h1 a p ih =>
  induction q using ind with
  | h0 => rw [ev_zero, add_zero]; grind
  | h1 b q _ =>
   have e : C a + X * p + (C b + X * q) = C (a + b) + X * (p + q) := by rw [C_add]; grind
   rw [e, ev_cons, ev_cons, ev_cons, ih]; grind
theorem ev_Cmul (a : Rat) (p : Pol) (x : Rat) : ev (C a * p) x = a * ev p x := by
 induction p using ind with
 | h0 => rw [mul_zero, ev_zero]; grind
 | h1 b p ih =>
  have e : C a * (C b + X * p) = C (a * b) + X * (C a * p) := by rw [C_mul]; grind
  rw [e, ev_cons, ev_cons, ih]; grind
theorem ev_mul (p q : Pol) (x : Rat) : ev (p * q) x = ev p x * ev q x := by
 induction p using ind with
 | h0 => rw [zero_mul, ev_zero]; grind
 | h1 a p ih =>
  have e : (C a + X * p) * q = C a * q + (C 0 + X * (p * q)) := by rw [C_zero]; grind
  rw [e, ev_add, ev_Cmul, ev_cons, ih, ev_cons]; grind
end Pol
end Nt
end Go.Proofs.YtifcjcecmoimjaaGreat
namespace Go.Proofs.YtifcjcecmoimjaaGreat
set_option linter.unusedVariables false
namespace Nt
theorem absQ_mul (y : Rat) : ∃ z : Int, y = absQ y * (z : Rat) ∧ absQ y = y * (z : Rat) := by
 unfold absQ
 split
 ·exact ⟨-1, by rw [show (((-1 : Int)) : Rat) = -1 from rfl]; grind, by rw [show (((-1 : Int)) : Rat) = -1 from rfl]; grind⟩
 ·exact ⟨1, by rw [show (((1 : Int)) : Rat) = 1 from rfl]; grind, by rw [show (((1 : Int)) : Rat) = 1 from rfl]; grind⟩
theorem cmn_spec (x y : Rat) : (∃ z : Int, x = cmn x y * (z : Rat)) ∧ (∃ z : Int, y = cmn x y * (z : Rat)) ∧ ∀ c : Rat, (∃ z : Int, x = c * (z : Rat)) → (∃ z : Int, y = c * (z : Rat)) → ∃ z : Int, cmn x y = c * (z : Rat) := by
 unfold cmn
 by_cases hx : x = 0
 ·rw [if_pos hx]
  obtain ⟨z, h1, h2⟩ := absQ_mul y
  refine ⟨⟨0, by rw [hx]; exact (Rat.mul_zero _).symm⟩, ⟨z, h1⟩, fun c _ ⟨v, hv⟩ => ⟨v * z, ?_⟩⟩
  rw [Rat.intCast_mul, h2]
  have e : y * (z : Rat) = c * (v : Rat) * (z : Rat) := by rw [← hv]
  rw [e]; grind
 ·rw [if_neg hx]
  by_cases hy : y = 0
  ·rw [if_pos hy]
   exact ⟨⟨1, by rw [show (((1 : Int)) : Rat) = 1 from rfl]; grind⟩, ⟨0, by rw [hy]; exact (Rat.mul_zero _).symm⟩, fun c h _ => h⟩
  ·rw [if_neg hy]
   obtain ⟨z0, h1, h2⟩ := absQ_mul (x / (((x / y).num : Int) : Rat))
   have hN := num_ne (div_ne hx hy)
   obtain ⟨hq, hD⟩ := quo_step (x := x) hy
   have hcop : Nat.gcd (x / y).num.natAbs (x / y).den = 1 := (x / y).reduced
   obtain ⟨s, t, hst⟩ := bez (x / y).num (x / y).den hcop
   generalize hn : (x / y).num = N at *
   generalize hd : ((x / y).den : Nat) = Dn at *
   have hst' : (s : Rat) * (N : Rat) + (t : Rat) * ((Dn : Int) : Rat) = 1 := by
    have h := congrArg (fun z : Int => (z : Rat)) hst
    simp only [Rat.intCast_add, Rat.intCast_mul] at h
    exact h
   generalize hw : x / (N : Rat) = w at *
   have ex : x = w * (N : Rat) := by rw [← hw]; grind
   have ey : y = w * ((Dn : Int) : Rat) := by
    have : w * (N : Rat) * ((Dn : Int) : Rat) = (N : Rat) * y := by rw [← ex]; exact hq
    grind
   refine ⟨⟨z0 * N, ?_⟩, ⟨z0 * (Dn : Int), ?_⟩, fun c ⟨a, ha⟩ ⟨b, hb⟩ => ⟨(s * a + t * b) * z0, ?_⟩⟩
   ·rw [Rat.intCast_mul]; rw [ex, h1] ; grind
   ·rw [Rat.intCast_mul]; rw [ey, h1]; grind
   ·rw [h2, Rat.intCast_mul, Rat.intCast_add, Rat.intCast_mul, Rat.intCast_mul]
    have : w = c * ((s : Rat) * (a : Rat) + (t : Rat) * (b : Rat)) := by
     have e1 : w = w * ((s : Rat) * (N : Rat) + (t : Rat) * ((Dn : Int) : Rat)) := by rw [hst']; grind
     have e2 : w * ((s : Rat) * (N : Rat) + (t : Rat) * ((Dn : Int) : Rat)) = (s : Rat) * x + (t : Rat) * y := by rw [ex, ey]; grind
     rw [e1, e2, ha, hb]; grind
    rw [this]; grind
where
 bez (N : Int) (D : Nat) (h : Nat.gcd N.natAbs D = 1) : ∃ s t : Int, s * N + t * (D : Int) = 1 := by
  have := Int.gcd_eq_gcd_ab' N D h
  exact this
 Int.gcd_eq_gcd_ab' (N : Int) (D : Nat) (h : Nat.gcd N.natAbs D = 1) : ∃ s t : Int, s * N + t * (D : Int) = 1 := by
  have key : ∀ (n a b : Nat), a + b ≤ n → ∃ s t : Int, s * (a : Int) + t * (b : Int) = (Nat.gcd a b : Int) := by
   intro n
   induction n with
   | zero => intro a b hab; exact ⟨0, 0, by have h1 : a = 0 := by omega
                                            have h2 : b = 0 := by omega
                                            subst h1; subst h2; simp⟩
   | succ n ih =>
    intro a b hab
    rcases Nat.eq_zero_or_pos a with ha | ha
    ·subst ha; exact ⟨0, 1, by simp⟩
    ·rcases Nat.eq_zero_or_pos b with hb | hb
     ·subst hb; exact ⟨1, 0, by simp⟩
     ·rcases Nat.le_total a b with hle | hle
      ·obtain ⟨s, t, e⟩ := ih a (b - a) xq
       refine ⟨s - t, t, ?_⟩
       rw [Nat.gcd_sub_self_right hle] at e
       rw [← e, show ((b - a : Nat) : Int) = (b : Int) - (a : Int) by omega, Int.sub_mul, Int.mul_sub]; omega
      ·obtain ⟨s, t, e⟩ := ih (a - b) b xq
       refine ⟨s, t - s, ?_⟩
       rw [Nat.gcd_sub_self_left hle] at e
       rw [← e, show ((a - b : Nat) : Int) = (a : Int) - (b : Int) by omega, Int.sub_mul, Int.mul_sub]; omega
  obtain ⟨s, t, e⟩ := key _ N.natAbs D (Nat.le_refl _)
  rw [h] at e
  rcases Int.natAbs_eq N with hN | hN
  ·exact ⟨s, t, by rw [← hN] at e; exact e⟩
  ·refine ⟨-s, t, ?_⟩
   have : ((N.natAbs : Nat) : Int) = -N := by omega
   rw [this] at e
   rw [Int.neg_mul, ← Int.mul_neg]; exact e
theorem msr_spec (l : List Rat) : (∀ x ∈ l, ∃ z : Int, x = msr l * (z : Rat)) ∧ ∀ c : Rat, (∀ x ∈ l, ∃ z : Int, x = c * (z : Rat)) → ∃ z : Int, msr l = c * (z : Rat) := by
 have key : ∀ (l : List Rat) (a : Rat), ((∃ z : Int, a = l.foldl cmn a * (z : Rat)) ∧ ∀ x ∈ l, ∃ z : Int, x = l.foldl cmn a * (z : Rat)) ∧ ∀ c : Rat, (∃ z : Int, a = c * (z : Rat)) → (∀ x ∈ l, ∃ z : Int, x = c * (z : Rat)) → ∃ z : Int, l.foldl cmn a = c * (z : Rat) := by
  intro l
  induction l with
  | nil => intro a; exact ⟨⟨⟨1, by show a = a * _; rw [show (((1 : Int)) : Rat) = 1 from rfl]; grind⟩, fun x hx => by cases hx⟩, fun c h _ => h⟩
  | cons b l ih =>
   intro a
   obtain ⟨⟨⟨z, hz⟩, h2⟩, h3⟩ := ih (cmn a b)
   obtain ⟨⟨z1, e1⟩, ⟨z2, e2⟩, h4⟩ := cmn_spec a b
   refine ⟨⟨⟨z * z1, ?_⟩, fun x hx => ?_⟩, fun c ha hl => ?_⟩
   ·show a = l.foldl cmn (cmn a b) * _
    rw [Rat.intCast_mul, ← Rat.mul_assoc, ← hz]; exact e1
   ·rcases List.mem_cons.1 hx with rfl | hx
    ·exact ⟨z * z2, by show x = l.foldl cmn (cmn a x) * _; rw [Rat.intCast_mul, ← Rat.mul_assoc, ← hz]; exact e2⟩
    ·exact h2 x hx
   ·exact h3 c (h4 c ha (hl b (List.mem_cons_self ..))) (fun x hx => hl x (List.mem_cons_of_mem _ hx))
 obtain ⟨⟨_, h1⟩, h2⟩ := key l 0
 exact ⟨h1, fun c hc => h2 c ⟨0, (Rat.mul_zero c).symm⟩ hc⟩
def prim (l : List Rat) : List Rat := (trimQ l).map (· / msr (trimQ l))
@[simp] theorem prim_len (l : List Rat) : (prim l).length = (trimQ l).length := by simp [prim]
theorem prim_co (l : List Rat) (i : Nat) : co (prim l) i = co l i / msr (trimQ l) := by
 unfold prim
 rw [co_map _ (by rw [Rat.div_def, Rat.zero_mul]), trim_co]
theorem co_mem {l : List Rat} {i : Nat} (h : i < l.length) : co l i ∈ l := by
 unfold co
 rw [List.getD_eq_getElem?_getD, List.getElem?_eq_getElem h]
 exact List.getElem_mem h
theorem msr_ne' {l : List Rat} (h : trimQ l ≠ []) : msr (trimQ l) ≠ 0 := msr_ne (trim_nrm l) (by cases e : trimQ l with | nil => exact absurd e h | cons a m => simp)
theorem prim_whole (l : List Rat) (i : Nat) : ∃ z : Int, co (prim l) i = (z : Rat) := by
 by_cases hi : i < (trimQ l).length
 ·have hm := msr_ne' (l := l) (by intro e; rw [e] at hi; simp at hi)
  obtain ⟨z, hz⟩ := (msr_spec (trimQ l)).1 _ (co_mem hi)
  refine ⟨z, ?_⟩
  rw [prim_co, ← trim_co, hz]; grind
 ·exact ⟨0, by rw [co_ge yy]; rfl⟩
theorem prim_nrm (l : List Rat) : Nrm (prim l) := by
 refine nrm_of fun h k => ?_
 have ht : trimQ l ≠ [] := fun e => h (by unfold prim; rw [e]; rfl)
 have hm := msr_ne' ht
 have hn := nrm_last (trim_nrm l) ht
 rw [prim_len, prim_co, ← trim_co] at k
 apply hn
 have : co (trimQ l) ((trimQ l).length - 1) = co (trimQ l) ((trimQ l).length - 1) / msr (trimQ l) * msr (trimQ l) := by grind
 rw [this, k]; grind
theorem dl_bits {n K : Nat} (h : dl n ≤ K) : n ≤ 2 ^ (32 * K) := by
 have h1 := dl_lt (x := n)
 have h2 := pw_mono h
 rw [pwTwo K] at h2
 have h3 : (n : Int) < ((2 ^ (32 * K) : Nat) : Int) := by omega
 exact Nat.le_of_lt (Int.ofNat_lt.1 h3)
theorem prim_bits {l W : List Rat} {c : Rat} {A : Nat} (hc : c ≠ 0) (h : ∀ i, co l i = c * co W i) (hW : WhL W A) : WhL (prim l) A := fun i => by
 by_cases ht : trimQ l = []
 ·have : co (prim l) i = 0 := by rw [prim_co, zwb.1 ht i]; grind
  rw [this]; exact Wh.zero A
 ·have hm := msr_ne' ht
  obtain ⟨g, hg⟩ := (msr_spec (trimQ l)).2 c (fun x hx => by
   obtain ⟨j, hj, e⟩ := List.getElem_of_mem hx
   have e2 : x = co l j := by rw [← trim_co]; unfold co; rw [List.getD_eq_getElem?_getD, List.getElem?_eq_getElem hj, ← e]; rfl
   obtain ⟨z, hz, _⟩ := hW j
   exact ⟨z, by rw [e2, h j, hz]⟩)
  obtain ⟨z, hz⟩ := prim_whole l i
  obtain ⟨v, hv, hb⟩ := hW i
  have hg0 : g ≠ 0 := by rintro rfl; apply hm; rw [hg]; exact Rat.mul_zero c
  have e : (v : Rat) = ((z * g : Int) : Rat) := by
   rw [Rat.intCast_mul, ← hz, prim_co, h i, hv, hg]
   have : (g : Rat) ≠ 0 := fun k => hg0 (Rat.intCast_inj.1 (by rw [k]; rfl))
   grind
  have e2 := Rat.intCast_inj.1 e
  refine ⟨z, hz, Nat.le_trans ?_ hb⟩
  rw [e2, Int.natAbs_mul]
  exact Nat.le_mul_of_pos_right _ (Int.natAbs_pos.2 hg0)
theorem mk_map (l : List Rat) (c : Rat) : Pol.mk' (l.map (· * c)) = Pol.C c * Pol.mk' l := Pol.ext fun i => by
 rw [Pol.C_mul_c, Pol.mk_c, Pol.mk_c, co_map _ (Rat.zero_mul c)]; grind
theorem prim_mk' (l : List Rat) : ∃ k : Rat, k ≠ 0 ∧ Pol.mk' (prim l) = Pol.C k * Pol.mk' l := by
 by_cases h : trimQ l = []
 ·refine ⟨1, by decide, Pol.ext fun i => ?_⟩
  rw [Pol.C_mul_c, Pol.mk_c, Pol.mk_c, prim_co, zwb.1 h i]; grind
 ·have hm := msr_ne' h
  refine ⟨1 / msr (trimQ l), fun k => ?_, Pol.ext fun i => ?_⟩
  ·have : (1 : Rat) = 1 / msr (trimQ l) * msr (trimQ l) := by grind
   rw [k] at this; grind
  ·rw [Pol.C_mul_c, Pol.mk_c, Pol.mk_c, prim_co]; grind
theorem DivR.pol {p q s t : List Rat} {f : Rat} (h : DivR p q s t f) : Pol.C f * Pol.mk' p = Pol.mk' s * Pol.mk' q + Pol.mk' t := Pol.ext fun i => by
 rw [Pol.C_mul_c, Pol.mk_c, h.eq i, Pol.c_add, ← Pol.mk_mul, Pol.mk_c, Pol.mk_c]
theorem mk_len (l : List Rat) : (Pol.mk' l).len ≤ l.length := zzh l
theorem mk_len_nrm {l : List Rat} (h : Nrm l) : (Pol.mk' l).len = l.length := congrArg List.length h
theorem prim_same (l m : List Rat) : Pol.Same (Pol.mk' l) (Pol.mk' m) (Pol.mk' (prim l)) (Pol.mk' (prim m)) := by
 obtain ⟨k, h1, h2⟩ := prim_mk' l
 obtain ⟨k', h3, h4⟩ := prim_mk' m
 rw [h2, h4]
 exact Pol.Same.scale h1 h3
theorem same_step {p q : Pol} {a b s t : List Rat} {f : Rat} (h : Pol.Same p q (Pol.mk' a) (Pol.mk' b)) (hd : DivR a b s t f) : Pol.Same p q (Pol.mk' b) (Pol.mk' (prim t)) := by
 obtain ⟨k, h1, h2⟩ := prim_mk' t
 rw [h2]
 exact h.step hd.f0 h1 hd.pol
theorem prim_of_wh {t : List Rat} {A : Nat} (h : WhL t A) : WhL (prim t) A := prim_bits (c := 1) yv (fun i => (Rat.one_mul _).symm) h
theorem monic_scaled (l : List Rat) : ∃ k : Rat, k ≠ 0 ∧ ∀ i, co (Pol.mk' l).monic.l i = k * co l i := by
 by_cases h : Pol.mk' l = 0
 ·refine ⟨1, by decide, fun i => ?_⟩
  have e : co l i = 0 := by rw [← Pol.mk_c, h, Pol.c_zero]
  have e2 : (Pol.mk' l).monic = 0 := by unfold Pol.monic; rw [h, Pol.mul_zero]
  show (Pol.mk' l).monic.c i = _
  rw [e2, Pol.c_zero, e]; grind
 ·have h1 := Pol.lead_ne h
  refine ⟨1 / (Pol.mk' l).lead, fun k => ?_, fun i => ?_⟩
  ·have : (1 : Rat) = 1 / (Pol.mk' l).lead * (Pol.mk' l).lead := by grind
   rw [k] at this; grind
  ·show (Pol.mk' l).monic.c i = _
   unfold Pol.monic
   rw [Pol.C_mul_c, Pol.mk_c]
theorem mk_trim (l : List Rat) : Pol.mk' (trimQ l) = Pol.mk' l := Pol.mk_eq.2 (trim_trim l)
def IsSqf (p s : Pol) : Prop := (p = 0 ∧ s = 0) ∨ (p ≠ 0 ∧ ∃ g q, Pol.IsGcd p p.D g ∧ g ≠ 0 ∧ p = q * g ∧ s = q.monic)
theorem IsSqf.unique {p s t : Pol} (h : IsSqf p s) (k : IsSqf p t) : s = t := by
 rcases h with ⟨h1, h2⟩ | ⟨h1, g, q, h2, h3, h4, h5⟩
 ·rcases k with ⟨k1, k2⟩ | ⟨k1, _⟩
  ·rw [h2, k2]
  ·exact absurd h1 k1
 ·rcases k with ⟨k1, k2⟩ | ⟨k1, g', q', k2, k3, k4, k5⟩
  ·exact absurd k1 h1
  ·have e := h2.unique k2
   subst e
   have e2 := Pol.mul_cancel h3 (h4.symm.trans k4)
   rw [h5, k5, e2]
def pot (la lb : Nat) : Nat := la + lb + (if lb < la then 0 else if la = lb then 1 else 2)
theorem three_pow {k : Nat} (h : 2 ≤ k) : (k + 1) * (k + 1) ≤ 3 ^ k := by
 induction k with
 | zero => omega
 | succ k ih =>
  by_cases e : k = 1
  ·subst e; decide
  ·have := ih xq
   rw [Nat.pow_succ]
   have h1 : (k + 1 + 1) * (k + 1 + 1) ≤ (k + 1) * (k + 1) * 3 := by
    have : (k + 1 + 1) * (k + 1 + 1) = (k + 1) * (k + 1) + 2 * (k + 1) + 1 := by grind
    have h2 : 2 * (k + 1) + 1 ≤ 2 * ((k + 1) * (k + 1)) := by
     have : (k + 1) * 2 ≤ (k + 1) * (k + 1) := Nat.mul_le_mul_left _ xq
     omega
    omega
   omega
theorem pot_step {la lb lr A H : Nat} (h : (A + 1) * (A + 1) * 3 ^ pot la lb ≤ H * H) (hr : lr < lb) (hr2 : lr ≤ la) :
  (A + (la - lb + 1) * (A + 1) + 1) * (A + (la - lb + 1) * (A + 1) + 1) * 3 ^ pot lb lr ≤ H * H := by
 have e : A + (la - lb + 1) * (A + 1) + 1 = (la - lb + 1 + 1) * (A + 1) := by rw [Nat.succ_mul (la - lb + 1)]; omega
 have hp : pot lb lr = lb + lr := by unfold pot; rw [if_pos hr]; rfl
 rw [e, hp]
 refine Nat.le_trans ?_ h
 have key : (la - lb + 1 + 1) * (la - lb + 1 + 1) * 3 ^ (lb + lr) ≤ 3 ^ pot la lb := by
  by_cases c : lb < la
  ·have h1 := three_pow (k := la - lb + 1) xq
   have h2 : 3 ^ (la - lb + 1) * 3 ^ (lb + lr) ≤ 3 ^ pot la lb := by
    rw [← Nat.pow_add]
    refine Nat.pow_le_pow_right xq ?_
    unfold pot; rw [if_pos c]; omega
   exact Nat.le_trans (Nat.mul_le_mul_right _ h1) h2
  ·have e1 : la - lb = 0 := by omega
   rw [e1]
   have h2 : 3 ^ 2 * 3 ^ (lb + lr) ≤ 3 ^ pot la lb := by
    rw [← Nat.pow_add]
    refine Nat.pow_le_pow_right xq ?_
    unfold pot; rw [if_neg c]; split <;> omega
   exact Nat.le_trans (Nat.mul_le_mul_right _ yv) h2
 calc (la - lb + 1 + 1) * (A + 1) * ((la - lb + 1 + 1) * (A + 1)) * 3 ^ (lb + lr)
   = (A + 1) * (A + 1) * ((la - lb + 1 + 1) * (la - lb + 1 + 1) * 3 ^ (lb + lr)) := by grind
  _ ≤ (A + 1) * (A + 1) * 3 ^ pot la lb := Nat.mul_le_mul_left _ key
theorem pot_le {la lb A H : Nat} (h : (A + 1) * (A + 1) * 3 ^ pot la lb ≤ H * H) : A + 1 ≤ H := by
 apply Classical.byContradiction
 intro k
 have h1 : 1 ≤ 3 ^ pot la lb := Nat.pow_pos xq
 have h2 : (A + 1) * (A + 1) * 1 ≤ (A + 1) * (A + 1) * 3 ^ pot la lb := Nat.mul_le_mul_left _ h1
 have h3 : (H + 1) * (H + 1) ≤ (A + 1) * (A + 1) := Nat.mul_le_mul xq xq
 have h4 : (H + 1) * (H + 1) = H * H + 2 * H + 1 := by grind
 omega
end Nt
end Go.Proofs.YtifcjcecmoimjaaGreat
namespace Go.Proofs.YtifcjcecmoimjaaGreat
open Go.RowKit Go.ChangeShapes Go.WideShapes
set_option linter.unusedVariables false
namespace Nt
def Sm (l : List Rat) (D A : Nat) : Prop := 0 < D ∧ ∀ i, Wh (co l i * ((D : Int) : Rat)) A
section
variable {l m : List Rat} {D E A B K : Nat} {q : Rat}
theorem dz (h : 0 < D) : ((D : Int) : Rat) ≠ 0 := fun e => by
 have := Rat.intCast_inj.1 (show ((D : Int) : Rat) = ((0 : Int) : Rat) from e); omega
theorem Sm.more (h : Sm l D A) (k : A ≤ B) : Sm l D B := ⟨h.1, fun i => (h.2 i).more k⟩
theorem Sm.co (h : Sm l D A) (e : ∀ i, co m i = co l i) : Sm m D A := ⟨h.1, fun i => by rw [e]; exact h.2 i⟩
theorem Sm.trim (h : Sm l D A) : Sm (trimQ l) D A := h.co (trim_co l)
theorem Sm.prim (h : Sm l D A) : WhL (prim l) A := by
 have h0 := dz h.1
 refine prim_bits (c := 1 / ((D : Int) : Rat)) (W := l.map (· * ((D : Int) : Rat))) (by grind) (fun i => ?_) (fun i => ?_)
 ·rw [co_map (fun x => x * ((D : Int) : Rat)) (Rat.zero_mul _)]; grind
 ·rw [co_map (fun x => x * ((D : Int) : Rat)) (Rat.zero_mul _)]; exact h.2 i
theorem dl_dg {n C : Nat} (h : n ≤ 2 ^ C) : dl n ≤ dg C := by
 refine dl_le ?_
 rw [pwTwo]
 exact Int.ofNat_lt.2 (Nat.lt_of_le_of_lt h (Nat.pow_lt_pow_right xq (by unfold dg; omega)))
theorem wh_rs {x : Rat} (h0 : 0 < D) (h : Wh (x * ((D : Int) : Rat)) A) (hD : D ≤ 2 ^ A) : rs x ≤ dg A := by
 obtain ⟨z, hz, hb⟩ := h
 have h1 := dz h0
 have e : x = mkRat z D := by rw [← mk_div, ← hz]; grind
 rw [e]
 exact rs_mk (dl_dg hb) (dl_dg hD) (by unfold dg; omega)
theorem Sm.rs (h : Sm l D A) (hD : D ≤ 2 ^ A) (i : Nat) : rs (Nt.co l i) ≤ dg A := wh_rs h.1 (h.2 i) hD
theorem WhL.mulQ (h : WhL l A) (k : WhL m B) : WhL (mulQ l m) (A + B + l.length) := by
 induction l with
 | nil => exact fun i => by rw [mulQ_nil]; exact Wh.zero _
 | cons a l ih =>
  intro i
  rw [zxf]
  have h0 : Wh a A := by have := h 0; rwa [co_zero] at this
  have h1 : WhL l A := fun i => by have := h (i + 1); rwa [zxx] at this
  have e : A + B + (a :: l).length = A + B + l.length + 1 := by simp; omega
  rw [e]
  refine ((h0.mul (k i)).more xq).add ?_
  unfold sh
  split
  ·exact Wh.zero _
  ·exact ih h1 _
theorem Sm.mul (h : Sm l D A) (k : Sm m E B) : Sm (mulQ l m) (D * E) (A + B + l.length) := by
 refine ⟨Nat.mul_pos h.1 k.1, fun i => ?_⟩
 have h1 : WhL (l.map (((D : Int) : Rat) * ·)) A := fun i => by rw [co_map (fun x => ((D : Int) : Rat) * x) (Rat.mul_zero _), Rat.mul_comm]; exact h.2 i
 have h2 : WhL (m.map (((E : Int) : Rat) * ·)) B := fun i => by rw [co_map (fun x => ((E : Int) : Rat) * x) (Rat.mul_zero _), Rat.mul_comm]; exact k.2 i
 have h3 := h1.mulQ h2 i
 rw [mulQ_scale_l, mulQ_scale_r, List.length_map] at h3
 rw [show Nt.co (mulQ l m) i * (((D * E : Nat) : Int) : Rat) = ((D : Int) : Rat) * (((E : Int) : Rat) * Nt.co (mulQ l m) i) by rw [show (((D * E : Nat) : Int) : Rat) = ((D : Int) : Rat) * ((E : Int) : Rat) by rw [← Rat.intCast_mul]; simp]; grind]
 exact h3
theorem Sm.mulR (h : Sm l D A) (k : Sm m E B) : Sm (mulQ l m) (D * E) (A + B + m.length) := by
 have h9 := (k.mul h).co (m := mulQ l m) (fun i => Pol.mulQ_comm l m i)
 rw [Nat.mul_comm D E, Nat.add_comm A B]
 exact h9
theorem Sm.add (h : Sm l D A) (k : Sm m D A) : Sm (addQ l m) D (A + 1) := ⟨h.1, fun i => by
 rw [addQ_co, show (Nt.co l i + Nt.co m i) * ((D : Int) : Rat) = Nt.co l i * ((D : Int) : Rat) + Nt.co m i * ((D : Int) : Rat) by grind]
 exact (h.2 i).add (k.2 i)⟩
theorem natMul {x : Rat} (D E : Nat) : x * (((D * E : Nat) : Int) : Rat) = x * ((D : Int) : Rat) * ((E : Int) : Rat) := by
 rw [show (((D * E : Nat) : Int) : Rat) = ((D : Int) : Rat) * ((E : Int) : Rat) by rw [← Rat.intCast_mul]; simp]; grind
theorem Sm.map (h : Sm l D A) (hE : 0 < E) (k : Wh (q * ((E : Int) : Rat)) B) : Sm (l.map (· * q)) (D * E) (A + B) := ⟨Nat.mul_pos h.1 hE, fun i => by
 rw [co_map (fun x => x * q) (Rat.zero_mul q), natMul, show Nt.co l i * q * ((D : Int) : Rat) * ((E : Int) : Rat) = (Nt.co l i * ((D : Int) : Rat)) * (q * ((E : Int) : Rat)) by grind]
 exact (h.2 i).mul k⟩
theorem whNat {n b : Nat} (h : n ≤ 2 ^ b) : Wh (((n : Nat) : Int) : Rat) b := ⟨(n : Int), rfl, by simpa using h⟩
theorem whInt {z : Int} {b : Nat} (h : z.natAbs ≤ 2 ^ b) : Wh (z : Rat) b := ⟨z, rfl, h⟩
theorem Sm.over {b : Nat} (h : Sm l D A) (hE : 0 < E) (hb : E ≤ 2 ^ b) : Sm l (D * E) (A + b) := ⟨Nat.mul_pos h.1 hE, fun i => by
 rw [natMul]; exact (h.2 i).mul (whNat hb)⟩
theorem Sm.ofInts {zs : List Int} (h : ∀ z ∈ zs, z.natAbs ≤ 2 ^ A) : Sm (List.map (fun z : Int => (z : Rat)) zs) 1 A := ⟨by omega, fun i => by
 rw [show ((((1 : Nat) : Int)) : Rat) = 1 from rfl, Rat.mul_one]
 unfold Nt.co
 rw [List.getD_eq_getElem?_getD, List.getElem?_map]
 cases e : zs[i]? with
 | none => exact Wh.zero _
 | some z => exact whInt (h z (List.mem_of_getElem? e))⟩
theorem Sm.nil (hD : 0 < D) : Sm [] D A := ⟨hD, fun i => by rw [co_nil, Rat.zero_mul]; exact Wh.zero _⟩
theorem Sm.ofAll (hD : 0 < D) (h : ∀ x ∈ l, Wh (x * ((D : Int) : Rat)) A) : Sm l D A := ⟨hD, fun i => by
 by_cases hi : i < l.length
 ·exact h _ (co_mem hi)
 ·rw [co_ge xq, Rat.zero_mul]; exact Wh.zero _⟩
theorem Sm.any : ∀ {l : List Rat}, (∀ x ∈ l, Nt.rs x ≤ K) → ∃ D, D ≤ 2 ^ (32 * K * l.length) ∧ Sm l D (32 * K * (l.length + 1))
 | [], _ => ⟨1, Nat.one_le_two_pow, Sm.nil xq⟩
 | a :: l, h => by
  obtain ⟨D, hD, hs⟩ := Sm.any (l := l) (fun x hx => h x (List.mem_cons_of_mem _ hx))
  have ha := h a (List.mem_cons_self ..)
  have hd : a.den ≤ 2 ^ (32 * K) := dl_bits (by unfold Nt.rs at ha; omega)
  have hn : a.num.natAbs ≤ 2 ^ (32 * K) := dl_bits (by unfold Nt.rs at ha; omega)
  refine ⟨a.den * D, ?_, Nat.mul_pos (den_pos a) hs.1, fun i => ?_⟩
  ·rw [List.length_cons, Nat.mul_add, Nat.mul_one, Nat.pow_add, Nat.mul_comm]
   exact Nat.mul_le_mul hD hd
  ·cases i with
   | zero =>
    rw [co_zero, natMul]
    have e : a * ((a.den : Int) : Rat) = (a.num : Rat) := by
     have h1 := dz (den_pos a)
     have h2 : mkRat a.num a.den = a := Rat.mkRat_self a
     rw [← mk_div] at h2
     grind
    rw [e]
    refine ((whInt hn).mul (whNat hD)).more ?_
    rw [List.length_cons, Nat.mul_add, Nat.mul_add]; omega
   | succ i =>
    rw [zxx, Nat.mul_comm, natMul]
    refine ((hs.2 i).mul (whNat hd)).more ?_
    rw [List.length_cons, Nat.mul_add, Nat.mul_add, Nat.mul_add]; omega
end
end Nt
section
variable {u : World} {x : Sl} {l : List Rat} {D A K : Nat}
theorem RatsN.fitS {L : List RL} (h : RatsN u L l K) (s : Nt.Sm l D A) (hD : D ≤ 2 ^ A) : RatsN u L l (Nt.dg A) := ⟨h.1, fun i hi => (h.2 i hi).fit (s.rs hD i)⟩
theorem PolN.fitS (h : PolN u x l K) (s : Nt.Sm l D A) (hD : D ≤ 2 ^ A) : PolN u x l (Nt.dg A) := by obtain ⟨L, h1, h2⟩ := h; exact ⟨L, h1, h2.fitS s hD⟩
theorem PolV.all (h : PolV u x l K) : ∀ q ∈ l, Nt.rs q ≤ K := by
 obtain ⟨L, h1, h2⟩ := h
 intro q hq
 obtain ⟨j, hj, e⟩ := List.getElem_of_mem hq
 have h9 := (h2.2 j hj).rs
 rw [List.getD_eq_getElem?_getD, List.getElem?_eq_getElem hj, Option.getD_some, e] at h9
 exact h9
end
section
variable {H : Type} {enc : TypeId × Value → H} {w : World} {base : Nat} {spare : Nat → Bool} {held : Bool} {fuel : Nat} {r0 : Reach} {b0 : Nat} {v : Value} {d : DataW H} {p : List MemPlace}
set_option maxRecDepth 100000 in
theorem ar_intsv (hv : Value.okWide Tryz.prog w r0 b0 37 v) (h : DataW.Trod enc Tryz.prog w base spare held 37 v d p) : ∃ (s : Sl) (l : List Int), v = s.v ∧ SlR .i64 w s.a s.n s.c l ∧ ∀ z ∈ l, -9223372036854775808 ≤ z ∧ z ≤ 9223372036854775807 := by
 obtain ⟨a, n, c, rfl⟩ := okWide_slice Tryz.underlying37 hv
 obtain ⟨fuel, hf⟩ := h
 obtain ⟨s, l, h1, h2, h3⟩ := ar_slr (k := .i64) (e := 3) xj xj xj hf
 have h1 : [Value.slice a n c] = [s.v] := h1
 exact ⟨s, l, (List.cons.inj h1).1, h2, fun z hz => wf_i64 (h3 z hz)⟩
end
end Go.Proofs.YtifcjcecmoimjaaGreat
namespace Go.Proofs.YtifcjcecmoimjaaGreat
open Go.RowKit Go.ChangeShapes Go.WideShapes
set_option linter.unusedVariables false
section
variable {H : Type} {enc : TypeId × Value → H} {P : Program} {w : World} {base : Nat} {spare : Nat → Bool} {held : Bool} {fuel : Nat} {cs : List Value} {x : DataW H × List MemPlace}
section
variable {r0 : Reach} {b0 : Nat} {v : Value} {d : DataW H} {p : List MemPlace}
end
end
end Go.Proofs.YtifcjcecmoimjaaGreat
namespace Go.Proofs.YtifcjcecmoimjaaGreat
open Go.RowKit
set_option linter.unusedVariables false
section
variable {P : Program} {u0 u u' w w' : World} {S : St} {B : Tmp → Nat} {a : Act} {c : Code} {w0 : Base}
variable {ops : Array Oper} {o : Oper} {p : List Tmp} {rest : List (Oper × List Tmp)} {K : St → World → Prop}
theorem sy_max0 (d : Tmp) {x : Operand} {k0 : IntKind} {n v : Int} {tys : Array TypeId} (hv : (if (0 : Int) > n then 0 else n) = v)
  (k : sym P ops w0 u0 true rest (S.set d (.v (.int k0 v))) u K)
  (hw : Wants ops o S := by exact zwj xj) (hd : o.dst = some d := by kernel_rfl) (hop : o.op = .call { callee := .builtin .max, args := #[x, .const (.int k0 0)], argTypes := tys } := by rfl) (hf : freeB S d = true := by kernel_rfl)
  (hx : evO S x = some (.v (.int k0 n)) := by rfl) : sym P ops w0 u0 true ((o, p) :: rest) S u K := by
 refine .inr (.inr (.inl ⟨.inl rfl, fun B a w u' he hrep => ⟨hw B a hrep.regs, ?_⟩⟩))
 have hrun : ∀ ty w, (Builtin.max_ tys ty #[.int k0 n, .int k0 0]).run P w = .ok (.int k0 v) w := by
  intro ty w
  rw [← hv]
  rfl
 have hc0 : a.eval (Operand.const (.int k0 0)) = .int k0 0 := rfl
 unfold Oper.wp execOp
 simp only [hop, resolve, invoke, builtin, Sem.run_bind, Sem.run_pure, Result.andThen_ok, List.map_toArray, List.map_cons, List.map_nil, ev_of hrep.regs hx, SV.conc, hc0, hrun]
 have hr2 := hrep.set (d := o.dst) (x := some (.v (.int k0 v))) (v := .int k0 v) (fun s hs => (zwa hd hf s hs).1) (fun z e => by injection e with e; rw [← e]; rfl) (fun z t e ht => by injection e with e; rw [← e] at ht; cases ht)
 show ∃ S' B' u'' u2, Rep w0 u0 S' B' (a.put o.dst _) w u'' ∧ _
 refine ⟨_, B, u', u, hr2, fun _ => Ext.refl _, fun _ => Ext.refl _, he, ?_⟩
 rw [hd]; exact k
end
section
variable {u u' : World} {L : List RL} {l : List Rat} {q : Rat} {r : RL} {K i b n c : Nat} {x : Sl}
theorem RatsV.set (h : RatsV u L l K) (hi : i < l.length) (hr : RatV u r q K) : RatsV u (L.set i r) (l.set i q) K := by
 refine ⟨by simpa using h.1, fun j hj => ?_⟩
 rw [List.length_set] at hj
 rw [List.getD_eq_getElem?_getD, List.getD_eq_getElem?_getD, List.getElem?_set, List.getElem?_set]
 by_cases e : i = j
 ·subst e
  rw [if_pos rfl, if_pos rfl, if_pos hi, if_pos (by rw [h.1]; exact hi)]
  exact hr
 ·rw [if_neg e, if_neg e, ← List.getD_eq_getElem?_getD, ← List.getD_eq_getElem?_getD]
  exact h.2 j hj
theorem RatsV.zeros (u : World) (n : Nat) : RatsV u (List.replicate n rl0) (List.replicate n 0) 1 := by
 refine ⟨by simp, fun i hi => ?_⟩
 rw [List.length_replicate] at hi
 rw [List.getD_eq_getElem?_getD, List.getD_eq_getElem?_getD, List.getElem?_replicate, List.getElem?_replicate, if_pos hi, if_pos hi]
 exact rat_nil _
theorem RatsN.fitR {M : Nat} (h : RatsN u L l K) (k : ∀ i, Nt.rs (l.getD i 0) ≤ M) : RatsN u L l M := ⟨h.1, fun i hi => (h.2 i hi).fit (k i)⟩
theorem PolN.fitR {M : Nat} (h : PolN u x l K) (k : ∀ i, Nt.rs (l.getD i 0) ≤ M) : PolN u x l M := by obtain ⟨L, h1, h2⟩ := h; exact ⟨L, h1, h2.fitR k⟩
end
section
variable {P : Program} {ops : Array Oper} {w0 : Base} {u0 : World} {S T : St} {B : Tmp → Nat} {a : Act} {w w' u u' : World} {o : Oper} {p : List Tmp} {seq : Bool} {rest : List (Oper × List Tmp)} {K : St → World → Prop}
theorem Rep.pubA (h : Rep w0 u0 S B a w u) {r t : Tmp} {V : Vr} {pubs : List Tmp} (hno : NoAt S pubs) (ht : t ∈ pubs) (hall : ∀ s ∈ pubs, ∀ V', S.var s = some V' → s = t) (hr : S.reg r = some (.adr t 0)) (hv : S.var t = some V) (htn : t < S.n) :
  Rep w0 u0 ((S.unpub pubs).set r (.v (.pointer (some ⟨B t, 0, none⟩)))) B a w (pubW u w [B t]) := by
 refine ⟨⟨fun s x hx => ?_, h.regs.size⟩, ⟨fun s x t' hx ht' => ?_⟩, h.defers, fun s V' hV => ?_, fun s s' V1 V2 h1 h2 e => ?_, pubW_dat h.dat, h.base, pubW_grow h.grow (fun b hb => ?_), h.bel⟩
 ·by_cases e : s = r
  ·subst e
   simp only [St.set, zxd] at hx
   injection hx with hx
   subst hx
   exact h.regs.reg s (.adr t 0) hr
  ·simp only [St.set, upd_ne _ _ e] at hx
   exact h.regs.reg s x (zwi hx).1
 ·by_cases e : s = r
  ·subst e
   simp only [St.set, zxd] at hx
   injection hx with hx
   subst hx; cases ht'
  ·simp only [St.set, upd_ne _ _ e] at hx
   obtain ⟨k1, k2⟩ := zwi hx
   obtain ⟨V', hV'⟩ := h.wf.reg s x t' k1 ht'
   exact ⟨V', by show (S.unpub pubs).var t' = _; rw [unpub_var (fun hm => k2 (hno s x t' k1 ht' hm))]; exact hV'⟩
 ·obtain ⟨k1, k2⟩ := zxp hV
  obtain ⟨g1, g2, g3⟩ := h.var s V' k1
  refine ⟨g1, ?_, g3⟩
  rw [pubW_out]
  ·exact g2
  ·intro hm
   simp at hm
   exact k2 (h.inj s t V' V k1 hv hm ▸ ht)
 ·exact h.inj s s' V1 V2 (zxp h1).1 (zxp h2).1 e
 ·simp at hb; subst hb; exact (h.var t V hv).2.2.1 htn
theorem sw_pubA {c0 : Code} {Q : MP} {r t : Tmp} {V : Vr} (pubs : List Tmp) (hno : NoAt S pubs) (hall : (pubs.all fun s => Nat.beq s t || (S.var s).isNone) = true) (hr : S.reg r = some (.adr t 0)) (hv : S.var t = some V) (ht : pubs.contains t = true)
  (k : ∀ b u1, Ext u u1 → u0.heap.size ≤ b → (∀ ob, u.heap[b]? = some ob → ob = hidO) → u1.heap[b]? = some (.cells V.cs.toArray V.ty (0, 0)) → SW P w0 u0 c0 ((S.unpub pubs).set r (.v (.pointer (some ⟨b, 0, none⟩)))) u1 Q) (hlt : Nat.blt t S.n = true := by kernel_rfl) : SW P w0 u0 c0 S u Q := by
 intro B a w u' e hrep
 have hm := List.contains_iff_mem.1 ht
 obtain ⟨g1, g2, g3⟩ := hrep.var t V hv
 have hx : Ext u' (pubW u' w [B t]) := pubW_ext hrep.dat
 have hrep2 := hrep.pubA hno hm (fun s hs V' hV' => by
  have := List.all_eq_true.1 hall s hs
  simp only [Bool.or_eq_true, Option.isNone_iff_eq_none] at this
  rcases this with h | h
  ·exact Nat.eq_of_beq_eq_true h
  ·rw [hV'] at h; cases h) hr hv (Nat.le_of_ble_eq_true hlt)
 refine k (B t) (pubW u' w [B t]) (e.trans hx) (g3.1 (Nat.le_of_ble_eq_true hlt)) (fun ob hob => ?_) (by rw [pubW_in zq (zxa g2) hrep.dat.size]; exact g1) B a w _ (Ext.refl _) hrep2
 by_cases hh : ob = hidO
 ·exact hh
 ·have := e.vis _ ob hob hh
  rw [g2] at this; injection this with this; exact this.symm
def SL (P : Program) (w0 : Base) (u0 : World) (ops : Array Oper) (l : List Oper) (S : St) (u : World) (Q : MP) : Prop :=
 ∀ B a w u', Ext u u' → Rep w0 u0 S B a w u' → wpList P ops (fun e a' w' => ∃ S' B' u'', Rep w0 u0 S' B' a' w' u'' ∧ Q.f e S' u'') l a w
theorem SL.mono {l : List Oper} {Q : MP} : Mono (fun S u => SL P w0 u0 ops l S u Q) := fun S u u' e h B a w u'' e' hr => h B a w u'' (e.trans e') hr
theorem sl_key {Q : Exit → Act → World → Prop} (hK : Mono K) (l2 : List Oper) (hQ : ∀ S u, K S u → ∀ B a w, Rep w0 u0 S B a w u → wpList P ops Q l2 a w) :
  ∀ (l : List Oper) (S : St) (B : Tmp → Nat) (a : Act) (w u : World), Rep w0 u0 S B a w u → sym P ops w0 u0 true (l.map fun o => (o, [])) S u K → wpList P ops Q (l ++ l2) a w := by
 intro l
 induction l with
 | nil => intro S B a w u hr h; exact hQ S u h B a w hr
 | cons o l ih =>
  intro S B a w u hr h
  have hs := one_sound (Q := Q) (zwf hK) h (Ext.refl _) hr
  refine wpList_step fun K' hK' => ?_
  have hfin : ∀ a' w', (∃ S' B' u'', Rep w0 u0 S' B' a' w' u'' ∧ (true = false → Ext u u'') ∧ sym P ops w0 u0 true (l.map fun o => (o, [])) S' u'' K) → K' a' w' := by
   rintro a' w' ⟨S', B', u'', g1, _, g3⟩
   exact hK' _ _ (ih S' B' a' w' u'' g1 g3)
  show if Region.wanted o (yielded ops a.tmps) = true then _ else _
  split
  ·rename_i hw
   rw [if_pos hw] at hs
   exact Oper.wp_mono hfin hs
  ·rename_i hw
   rw [if_neg hw] at hs
   exact hfin _ _ hs
theorem Rep.adopt (hrep : Rep w0 u0 S B a w u') {r k : Tmp} {b n c : Nat} {cs : List Value} {ty : TypeId} (hr : S.reg r = some (.v (.slice (some ⟨b, 0, none⟩) n c))) (hbu : u'.heap[b]? = some (.cells cs.toArray ty (0, 0))) (hb0 : u0.heap.size ≤ b) (hk : S.var k = none) (hkn : k < S.n) :
  Rep w0 u0 ⟨S.n, upd S.reg r (some (.slc k 0 n c)), upd S.var k (some ⟨ty, cs⟩)⟩ (setB B k b) a w (hideB u' b) := by
 have hbw : w.heap[b]? = some (.cells cs.toArray ty (0, 0)) := hrep.dat.ext.cells hbu
 have hlt := zxa hbu
 have hno : ∀ s x, S.reg s = some x → x.at? ≠ some k := fun s x hx hc => by
  obtain ⟨V, hV⟩ := hrep.wf.reg s x k hx hc; rw [hk] at hV; cases hV
 have hBt : ∀ t V, S.var t = some V → B t ≠ b := fun t V hV hc => by
  have := (hrep.var t V hV).2.1
  rw [hc, hbu] at this
  injection this with this
  unfold hidO at this; cases this
 refine ⟨⟨fun s x hx => ?_, hrep.regs.size⟩, ⟨fun s x t hx ht => ?_⟩, hrep.defers, fun t V hV => ?_, fun t t' V1 V2 h1 h2 he => ?_, ⟨by rw [hideB_size]; exact hrep.dat.size, fun b' o hb' hh => ?_⟩, hrep.base, ⟨by rw [hideB_size]; exact hrep.grow.size, fun b' hb' hf' => ?_⟩, hrep.bel⟩
 ·by_cases e1 : s = r
  ·subst e1
   simp only [zxd] at hx
   injection hx with hx
   subst hx
   have := hrep.regs.reg s _ hr
   simpa [SV.conc, setB] using this
  ·simp only [upd_ne _ _ e1] at hx
   rw [conc_setB (hno s x hx)]
   exact hrep.regs.reg s x hx
 ·show ∃ V, upd S.var k (some ⟨ty, cs⟩) t = some V
  by_cases e2 : t = k
  ·subst e2; exact ⟨_, zxd _ _ _⟩
  ·rw [upd_ne _ _ e2]
   by_cases e1 : s = r
   ·subst e1
    simp only [zxd] at hx
    injection hx with hx
    subst hx
    injection ht with ht; exact absurd ht.symm e2
   ·simp only [upd_ne _ _ e1] at hx
    exact hrep.wf.reg s x t hx ht
 ·by_cases e2 : t = k
  ·subst e2
   simp only [zxd] at hV
   injection hV with hV
   subst hV
   rw [show setB B t b t = b by simp [setB]]
   exact ⟨hbw, hideB_eq hlt, .mk0 hkn hb0⟩
  ·simp only [upd_ne _ _ e2] at hV
   obtain ⟨g1, g2, g3⟩ := hrep.var t V hV
   rw [show setB B k b t = B t by simp [setB, e2]]
   exact ⟨g1, by rw [hideB_ne (hBt t V hV)]; exact g2, g3⟩
 ·by_cases e1 : t = k
  ·by_cases e2 : t' = k
   ·rw [e1, e2]
   ·simp only [upd_ne _ _ e2] at h2
    simp [setB, e1, e2] at he
    exact absurd he.symm (hBt t' V2 h2)
  ·simp only [upd_ne _ _ e1] at h1
   by_cases e2 : t' = k
   ·simp [setB, e1, e2] at he
    exact absurd he (hBt t V1 h1)
   ·simp only [upd_ne _ _ e2] at h2
    simp [setB, e1, e2] at he
    exact hrep.inj t t' V1 V2 h1 h2 he
 ·by_cases e1 : b' = b
  ·subst e1
   rw [hideB_eq hlt] at hb'; injection hb' with hb'; exact absurd hb'.symm hh
  ·rw [hideB_ne e1] at hb'; exact hrep.dat.vis b' o hb' hh
 ·rw [hideB_ne xq]; exact hrep.grow.old b' hb' hf'
end
theorem sw_ren {P : Program} {w0 : Base} {u0 u : World} {S : St} {c0 : Code} {Q : MP} {r t : Tmp} {n c : Nat} {V : Vr} (k : Tmp) (pubs : List Tmp) (hno : NoAt S pubs) (hall : (pubs.all fun s => Nat.beq s t || (S.var s).isNone) = true) (hr : S.reg r = some (.slc t 0 n c)) (hv : S.var t = some V) (ht : pubs.contains t = true) (hk : (S.unpub pubs).var k = none)
  (kk : SW P w0 u0 c0 ⟨S.n, upd ((S.unpub pubs).set r (.v (.slice none 0 0))).reg r (some (.slc k 0 n c)), upd (S.unpub pubs).var k (some V)⟩ u Q) (hlt : Nat.blt t S.n = true := by kernel_rfl) (hkn : Nat.blt k S.n = true := by kernel_rfl) : SW P w0 u0 c0 S u Q := by
 intro B a w u' e hrep
 have hm := List.contains_iff_mem.1 ht
 obtain ⟨g1, g2, g3⟩ := hrep.var t V hv
 have hx : Ext u' (pubW u' w [B t]) := pubW_ext hrep.dat
 have hrep2 := hrep.pub hno hm (fun s hs V' hV' => by
  have := List.all_eq_true.1 hall s hs
  simp only [Bool.or_eq_true, Option.isNone_iff_eq_none] at this
  rcases this with h | h
  ·exact Nat.eq_of_beq_eq_true h
  ·rw [hV'] at h; cases h) hr hv (Nat.le_of_ble_eq_true hlt)
 have hin : (pubW u' w [B t]).heap[B t]? = some (.cells V.cs.toArray V.ty (0, 0)) := by rw [pubW_in zq (zxa g2) hrep.dat.size]; exact g1
 have hex : Ext u' (hideB (pubW u' w [B t]) (B t)) := ⟨by rw [hideB_size]; exact hx.size, fun k' o hk' hh => by
  have hne : k' ≠ B t := by
   rintro rfl
   rw [g2] at hk'; injection hk' with hk'; exact hh hk'.symm
  rw [hideB_ne hne]; exact hx.vis k' o hk' hh⟩
 obtain ⟨B2, h2⟩ : ∃ B2, Rep w0 u0 ⟨S.n, upd ((S.unpub pubs).set r (.v (.slice (some ⟨B t, 0, none⟩) n c))).reg r (some (.slc k 0 n c)), upd (S.unpub pubs).var k (some V)⟩ B2 a w (hideB (pubW u' w [B t]) (B t)) := ⟨_, hrep2.adopt (by simp [St.set, zxd]) hin (g3.1 (Nat.le_of_ble_eq_true hlt)) hk (Nat.le_of_ble_eq_true hkn)⟩
 have hS : (⟨S.n, upd ((S.unpub pubs).set r (.v (.slice (some ⟨B t, 0, none⟩) n c))).reg r (some (.slc k 0 n c)), upd (S.unpub pubs).var k (some V)⟩ : St) = ⟨S.n, upd ((S.unpub pubs).set r (.v (.slice none 0 0))).reg r (some (.slc k 0 n c)), upd (S.unpub pubs).var k (some V)⟩ := by
  congr 1
  funext z
  by_cases e1 : z = r
  ·subst e1; rw [zxd, zxd]
  ·rw [upd_ne _ _ e1, upd_ne _ _ e1]; simp only [St.set, upd_ne _ _ e1]
 rw [hS] at h2
 exact kk B2 a w _ (e.trans hex) h2
theorem sy_maxN {P : Program} {ops : Array Oper} {w0 : Base} {u0 : World} {S : St} {u : World} {seq : Bool} {o : Oper} {p : List Tmp} {rest : List (Oper × List Tmp)} {K : St → World → Prop} (d : Tmp) {x y : Operand} {k0 : IntKind} {n m v : Int} {tys : Array TypeId} (hv : (if m > n then m else n) = v)
  (k : sym P ops w0 u0 seq rest (S.set d (.v (.int k0 v))) u K)
  (hw : Wants ops o S := by exact zwj xj) (hd : o.dst = some d := by kernel_rfl) (hop : o.op = .call { callee := .builtin .max, args := #[x, y], argTypes := tys } := by rfl) (hf : freeB S d = true := by kernel_rfl)
  (hx : evO S x = some (.v (.int k0 n)) := by rfl) (hy : evO S y = some (.v (.int k0 m)) := by rfl) : sym P ops w0 u0 seq ((o, p) :: rest) S u K := by
 have hrun : ∀ ty w, (Builtin.max_ tys ty #[.int k0 n, .int k0 m]).run P w = .ok (.int k0 v) w := by
  intro ty w
  rw [← hv]
  rfl
 refine .inl ⟨by rw [hop]; exact (by decide : (0 : Nat) ≠ 2), .set (.v (.int k0 v)), ⟨zwa hd hf, .inl ⟨(fun t ht => by cases ht), fun B a w u' hr he hdt => ⟨hw B a hr, ?_⟩⟩⟩, ?_⟩
 ·unfold execOp
  simp only [hop, resolve, invoke, builtin, Sem.run_bind, Sem.run_pure, Result.andThen_ok, List.map_toArray, List.map_cons, List.map_nil, ev_of hr hx, ev_of hr hy, SV.conc, hrun]
 ·show sym P ops w0 u0 seq rest (S.put o.dst (some _)) u K
  rw [hd]; exact k
section
variable {u u' u1 : World} {L : List RL} {r : RL} {l : List Rat} {q : Rat} {K n b b6 : Nat} {cs : List Value} {t t6 : TypeId}
theorem rl_set_same {i : Nat} (h : i < L.length) : (L.set i r).getD i rl0 = r := by
 rw [List.getD_eq_getElem?_getD, List.getElem?_set_self h]; rfl
theorem SlR.extB0 {A : Option Addr} {m c : Nat} {z : List Int} (h : SlR .u32 u A m c z) (hb : u.heap[b]? = some (.cells cs.toArray t (0, 0))) (hn : ∀ v ∈ cs, ∀ y, v ≠ .int .u32 y) (e : ExtB b u u') : SlR .u32 u' A m c z := by
 obtain ⟨h1, h2, h3, h4⟩ := h
 refine ⟨h1, h2, h3, fun hp => ?_⟩
 obtain ⟨b', o, rfl, hlt, hc⟩ := h4 hp
 have hne : b' ≠ b := by
  rintro rfl
  have := hc 0 hp
  rw [cells_at hb] at this
  have h9 : cs[o + 0]? = some (.int .u32 (z[0]?.getD 0)) := by simpa using this
  exact hn _ (List.mem_of_getElem? h9) _ rfl
 refine ⟨b', o, rfl, Nat.lt_of_lt_of_le hlt e.size, fun i hi => ?_⟩
 have := hc i hi
 unfold World.cell? at this ⊢
 cases hb' : u.heap[b']? with
 | none => simp only [hb'] at this; cases this
 | some ob =>
  simp only [hb'] at this
  cases ob with
  | cells cs t' fr => rw [e.vis b' _ hne hb' (by unfold hidO; exact fun e => by cases e)]; exact this
  | _ => cases this
theorem RatN.extB0 (h : RatN u r q K) (hb : u.heap[b]? = some (.cells cs.toArray t (0, 0))) (hn : ∀ v ∈ cs, ∀ y, v ≠ .int .u32 y) (e : ExtB b u u') : RatN u' r q K :=
 ⟨⟨h.1.1, h.1.2.1, h.1.2.2.1.extB0 hb hn e, h.1.2.2.2⟩, h.2.1, h.2.2.1.extB0 hb hn e, h.2.2.2⟩
end
def setW (u : World) (b : Nat) (ob : Obj) : World := { u with heap := u.heap.setIfInBounds b ob }
structure ExtF (F : List Nat) (u u' : World) : Prop where
 size : u.heap.size ≤ u'.heap.size
 vis : ∀ (k : Nat) (o : Obj), k ∉ F → u.heap[k]? = some o → o ≠ hidO → u'.heap[k]? = some o
section
variable {P : Program} {ops : Array Oper} {w0 : Base} {u0 : World} {S T : St} {B : Tmp → Nat} {a : Act} {w w' u u' u'' v : World} {o : Oper} {p : List Tmp} {seq : Bool} {rest : List (Oper × List Tmp)} {K : St → World → Prop} {F : List Nat} {b : Nat} {ob : Obj}
theorem setW_size : (setW u b ob).heap.size = u.heap.size := by simp [setW]
theorem setW_ne {k : Nat} (h : k ≠ b) : (setW u b ob).heap[k]? = u.heap[k]? := by simp only [setW]; rw [Array.getElem?_setIfInBounds_ne (Ne.symm h)]
theorem setW_eq (h : b < u.heap.size) : (setW u b ob).heap[b]? = some ob := by simp [setW, h]
theorem ExtF.ext {u2 : World} (h : ExtF F u u') (e : Ext u' u2) : ExtF F u u2 := ⟨Nat.le_trans h.size e.size, fun k o hk ho hh => e.vis k o (h.vis k o hk ho hh) hh⟩
theorem ExtF.pre {u2 : World} (e : Ext u u') (h : ExtF F u' u2) : ExtF F u u2 := ⟨Nat.le_trans e.size h.size, fun k o hk ho hh => h.vis k o hk (e.vis k o ho hh) hh⟩
theorem ExtF.toB (h : ExtF [b] u u') : ExtB b u u' := ⟨h.size, fun k o hk ho hh => h.vis k o (by simpa using hk) ho hh⟩
theorem ExtB.toF (h : ExtB b u u') : ExtF [b] u u' := ⟨h.size, fun k o hk ho hh => h.vis k o (by simpa using hk) ho hh⟩
theorem GrowF.extF (h : GrowF F u u') : ExtF F u u' := ⟨h.size, fun k o hk ho _ => (h.old k (zxa ho) hk).trans ho⟩
theorem ExtF.old (h : ExtF F u u') (e : Ext v u) (hb : ∀ b ∈ F, ∀ ob, v.heap[b]? = some ob → ob = hidO) : Ext v u' :=
 ⟨Nat.le_trans e.size h.size, fun k o hk hh => h.vis k o (fun e' => hh (hb k e' o hk)) (e.vis k o hk hh) hh⟩
theorem ExtF.cells {t : TypeId} {cs : Array Value} {k : Nat} (h : ExtF F u u') (hk : k ∉ F) (hb : u.heap[k]? = some (.cells cs t (0, 0))) : u'.heap[k]? = some (.cells cs t (0, 0)) := h.vis k _ hk hb (by unfold hidO; intro e; cases e)
theorem ExtB.cells {t : TypeId} {cs : Array Value} {k : Nat} (h : ExtB b u u') (hk : k ≠ b) (hb : u.heap[k]? = some (.cells cs t (0, 0))) : u'.heap[k]? = some (.cells cs t (0, 0)) := h.vis k _ hk hb (by unfold hidO; intro e; cases e)
theorem ne_of_ty {k : Nat} {t t' : TypeId} {cs cs' : Array Value} (h : u.heap[k]? = some (.cells cs t (0, 0))) (h' : u.heap[b]? = some (.cells cs' t' (0, 0))) (ht : t ≠ t') : k ≠ b := by
 rintro rfl
 rw [h] at h'; injection h' with h'; injection h' with _ h' _; exact ht h'
def MayB (w0 : Base) (u0 : World) (b : Nat) : Prop := u0.heap.size ≤ b ∨ b ∈ w0.free
theorem Rep.mut (h : Rep w0 u0 S B a w u) (hF : ∀ b ∈ F, MayB w0 u0 b ∧ ∃ ob, u.heap[b]? = some ob ∧ ob ≠ hidO) (hd : Dat u'' w') (hb : Bel ⟨w, none, F⟩ w') (hg : GrowF F u u'') : Rep w0 u0 S B a w' u'' := by
 have hno : ∀ b ∈ F, b < u0.heap.size → b ∈ w0.free := fun b hm hlt => by
  rcases (hF b hm).1 with h1 | h1
  ·omega
  ·exact h1
 refine ⟨h.regs, h.wf, h.defers, fun t V hV => ?_, h.inj, hd, h.base, ⟨Nat.le_trans h.grow.size hg.size, fun b hlt hf => ?_⟩, ?_⟩
 ·obtain ⟨v1, v2, v3⟩ := h.var t V hV
  have hn : B t ∉ F := fun hm => by
   obtain ⟨_, ob, e1, e2⟩ := hF _ hm
   rw [v2] at e1; injection e1 with e1; exact e2 e1.symm
  exact ⟨by rw [hb.block _ (zxa v1) (fun t e => by cases e) hn]; exact v1, by rw [hg.old _ (zxa v2) hn]; exact v2, v3⟩
 ·rw [hg.old b (Nat.lt_of_lt_of_le hlt h.grow.size) (fun hm => hf (hno b hm hlt))]
  exact h.grow.old b hlt hf
 ·have hbs := h.bel
  refine ⟨hb.os.trans hbs.os, hb.tape.trans hbs.tape, hb.output.trans hbs.output, Nat.le_trans hbs.size hb.size, fun k hk hl hf => ?_⟩
  rw [hb.block k (Nat.lt_of_lt_of_le hk hbs.size) (fun t e => by cases e) (fun hm => hf (hno k hm (by rw [h.base]; exact hk)))]
  exact hbs.block k hk hl hf
theorem setW_dat {cs : Array Value} {ty : TypeId} (h : Dat u w) (hw : w'.heap[b]? = some ob) (ho : OnlyB b w w') : Dat (setW u b ob) w' := by
 refine ⟨by rw [setW_size, h.size, ho.size], fun k o hk hh => ?_⟩
 by_cases e : k = b
 ·subst e
  have hlt := zxa hk
  rw [setW_size] at hlt
  rw [setW_eq hlt] at hk
  rw [hw]; exact hk
 ·rw [setW_ne e] at hk
  rw [ho.far k e]; exact h.vis k o hk hh
theorem setW_growF : GrowF [b] u (setW u b ob) := ⟨by rw [setW_size]; exact Nat.le_refl _, fun k hk hf => setW_ne (by simpa using hf)⟩
theorem onlyB_bel (h : OnlyB b w w') : Bel ⟨w, none, [b]⟩ w' := ⟨h.os, h.tape, h.output, Nat.le_of_eq h.size.symm, fun k hk _ hf => h.far k (by simpa using hf)⟩
theorem ev_any {z : Operand} {x : SV} (hr : RegOK S B a) (h : evO S z = some x) : a.eval z = x.conc B := ev_eval hr h
theorem sy_storeD {T : TypeId} {r : Tmp} {z : Operand} {v : Value} {agg : Bool} {n off : Nat} {cs : List Value} {ty : TypeId} (hub : u.heap[b]? = some (.cells cs.toArray ty (0, 0))) (hb : MayB w0 u0 b) (hT : TyIs P T agg n) (hl : off + n ≤ cs.length)
  (k : ∀ u1, u1.heap[b]? = some (.cells (setL cs off v.cells.toList).toArray ty (0, 0)) → ExtB b u u1 → sym P ops w0 u0 true rest S u1 K)
  (hw : Wants ops o S := by exact zwj xj) (hd : o.dst = none := by kernel_rfl) (hop : o.op = .store T (.tmp r) z := by rfl) (hr : S.reg r = some (.v (.pointer (some ⟨b, off, none⟩))) := by rfl) (hz : evO S z = some (.v v) := by rfl)
  (hn : v.cells.size = n := by kernel_rfl) (hone : v.cells.toList.all Value.oneCell' = true := by kernel_rfl) : sym P ops w0 u0 true ((o, p) :: rest) S u K := by
 refine .inr (.inr (.inl ⟨.inl rfl, fun B a w u' he hrep => ⟨hw B a hrep.regs, ?_⟩⟩))
 have hub' := he.cells hub
 have hwb := hrep.dat.ext.cells hub'
 obtain ⟨w', k1, k2, k3⟩ := run_storeCells (P := P) (b := b) (ty := ty) (base := off) v.cells.toList 0 w cs hwb yy (List.all_eq_true.1 hone)
 have hev : a.eval (.tmp r) = .pointer (some ⟨b, off, none⟩) := hrep.regs.eval hr
 have hez : a.eval z = v := ev_any hrep.regs hz
 have e2 : (Instr.storeAt T (.pointer (some ⟨b, off, none⟩)) v).run P w = .ok () w' := by
  have e3 : (Instr.storeAt T (.pointer (some ⟨b, off, none⟩)) v).run P w = (storeVar T ⟨b, off, none⟩ v).run P w := rfl
  rw [e3]
  unfold storeVar
  rw [run_bind_ok (hT w).2, if_neg (by simp [hn])]
  exact k1
 have e1 : (execOp a.eval o).run P w = .ok .skip w' := by
  have e4 : (execOp a.eval o).run P w = (do Instr.storeAt T (a.eval (.tmp r)) (a.eval z); pure Next.skip : Sem Next).run P w := by
   unfold execOp; rw [hop]
  rw [e4, hev, hez, run_bind_ok e2]
  rfl
 unfold Oper.wp
 rw [e1]
 simp only [Nat.add_zero] at k2
 have hlt := zxa hub'
 have hdat : Dat (setW u' b (.cells (setL cs off v.cells.toList).toArray ty (0, 0))) w' := setW_dat (cs := #[]) (ty := 0) hrep.dat k2 k3
 have hr2 := hrep.mut (F := [b]) (fun b' hm => by simp at hm; subst hm; exact ⟨hb, _, hub', by unfold hidO; intro e; cases e⟩) hdat (onlyB_bel k3) setW_growF
 refine ⟨S, B, _, _, ?_, (fun e => by cases e), (fun e => by cases e), Ext.refl _, k _ (setW_eq hlt) (ExtF.toB (.pre he setW_growF.extF))⟩
 rw [hd]; exact hr2
def grownW (u w' : World) (b g : Nat) (ob : Obj) : World := setW (setW (hide u w') b hidO) g ob
theorem grownW_size {g : Nat} (h : u.heap.size ≤ w'.heap.size) : (grownW u w' b g ob).heap.size = w'.heap.size := by unfold grownW; rw [setW_size, setW_size, zwt h]
theorem sy_dataF (d : Tmp) (V : Vr) (n : Nat) (k : ∀ b u1, Ext u u1 → u1.heap[b]? = some (.cells V.cs.toArray V.ty (0, 0)) → u0.heap.size ≤ b → u.heap.size ≤ b → sym P ops w0 u0 true rest (S.set d (.v (.slice (some ⟨b, 0, none⟩) n n))) u1 K)
  (hw : Wants ops o S := by exact zwj xj) (hd : o.dst = some d := by kernel_rfl) (hk : opK o.op ≠ 2 := by decide) (hf : (freeB S d && knownB S o) = true := by kernel_rfl)
  (hrun : ∀ B w, (execOp (rho S B) o).run P w = .ok (.value (.slice (some ⟨w.heap.size, 0, none⟩) n n)) (w.alloc (.cells V.cs.toArray V.ty)) := by intro _ _; kernel_rfl) : sym P ops w0 u0 true ((o, p) :: rest) S u K := by
 simp only [Bool.and_eq_true] at hf
 refine .inr (.inr (.inl ⟨.inl rfl, fun B a w u' he hrep => ⟨hw B a hrep.regs, ?_⟩⟩))
 unfold Oper.wp
 rw [exec_rho hrep.regs hf.2 hk, hrun B w]
 have hs : u'.heap.size = w.heap.size := hrep.dat.size
 refine ⟨S.set d (.v (.slice (some ⟨w.heap.size, 0, none⟩) n n)), B, u'.alloc (.cells V.cs.toArray V.ty), u'.alloc (.cells V.cs.toArray V.ty), ?_, (fun e => by cases e), (fun e => by cases e), Ext.refl _, k _ _ (he.trans (zxw _ _).ext) (by rw [← hs]; exact zxs _ _) (by rw [← hs]; exact hrep.grow.size) (by rw [← hs]; exact he.size)⟩
 rw [hd]
 exact (hrep.vis _).set (d := some d) (x := some (.v (.slice (some ⟨w.heap.size, 0, none⟩) n n))) (fun t e => by injection e with e; subst e; exact (zwa hd hf.1 d hd).1) (fun z e => by injection e with e; rw [← e]; rfl) (fun z t e ht => by injection e with e; rw [← e] at ht; cases ht)
theorem sy_makeN (d : Tmp) {T E : TypeId} {x y : Operand} {z : Value} {size bytes : Nat} {k1 k2 : IntKind} {i j : Int} (n : Nat) (cs : List Value) (hT : P.underlying T = some (.slice E)) (hi : (P.info? E).map (fun i => (i.zero, i.size, i.bytes)) = some (some z, size, bytes)) (hn : i = n) (hn2 : j = n) (hb : bytes * n ≤ 281474976710656) (h63 : n ≤ maxLen) (hcs : (madeCells z.cells (n * size)).toList = cs)
  (k : ∀ b u1, Ext u u1 → u1.heap[b]? = some (.cells cs.toArray E (0, 0)) → u0.heap.size ≤ b → u.heap.size ≤ b → sym P ops w0 u0 false rest (S.set d (.v (.slice (some ⟨b, 0, none⟩) n n))) u1 K) (hp : p ≠ [] := by exact List.cons_ne_nil _ _)
  (hw : Wants ops o S := by exact zwj xj) (hd : o.dst = some d := by kernel_rfl) (hop : o.op = .makeSlice T x y := by rfl) (hf : freeB S d = true := by kernel_rfl) (hv : S.var d = none := by kernel_rfl)
  (hx : evO S x = some (.v (.int k1 i)) := by rfl) (hy : evO S y = some (.v (.int k2 j)) := by rfl) : sym P ops w0 u0 false ((o, p) :: rest) S u K := by
 subst hcs hn hn2
 refine .inr (.inr (.inr (.inr ⟨rfl, hp, by rw [hop]; exact (by decide : (0 : Nat) ≠ 2), ⟨E, (madeCells z.cells (n * size)).toList⟩, n, ⟨zwa hd hf, d, hd, hv, fun B a w hr => ⟨hw B a hr, ?_⟩⟩, fun b u1 e1 b1 b2 b3 => ?_⟩)))
 ·have := makes (P := P) (w := w) n hT hi hb h63 hop hx hy hr
  simpa using this
 ·rw [hd]; exact k b u1 e1 b1 b2 b3
theorem sy_appD (d : Tmp) {T E : TypeId} {s x : Operand} {z : Value} {size bytes : Nat} {b2 off m c n cap : Nat} {cs0 : List Value} (news : List Value) (hT : P.underlying T = some (.slice E)) (hi : (P.info? E).map (fun i => (i.zero, i.size, i.bytes)) = some (some z, size, bytes)) (hzs : z.cells.size = size) (hsz : 0 < size)
  (hl : news.length = m * size) (hnews : ∀ j v, news[j]? = some v → u.cell? ⟨b2, off + j, none⟩ = some v) (h1 : ∀ v ∈ news, v.oneCell' = true) (hm : 0 < m) (h63 : n + m ≤ maxLen) (hbytes : (n + m) * bytes ≤ 140737488355328)
  (hn : n ≤ cap) (hcap : cap ≤ maxLen) (hcl : cs0.length = cap * size) (hub : u.heap[b]? = some (.cells cs0.toArray E (0, 0))) (hb : MayB w0 u0 b)
  (k : ∀ (g c1 : Nat) (cs : List Value) (u1 : World), n + m ≤ c1 → c1 ≤ maxLen → cs.length = c1 * size → cs.take ((n + m) * size) = cs0.take (n * size) ++ news → u1.heap[g]? = some (.cells cs.toArray E (0, 0)) → (g = b ∨ u.heap.size ≤ g) → ExtB b u u1 → sym P ops w0 u0 true rest (S.set d (.v (.slice (some ⟨g, 0, none⟩) (n + m) c1))) u1 K)
  (hw : Wants ops o S := by exact zwj xj) (hd : o.dst = some d := by kernel_rfl) (hop : o.op = .call { callee := .builtin .append, args := #[s, x], argTypes := #[T, T] } := by rfl) (hf : freeB S d = true := by kernel_rfl)
  (hs : evO S s = some (.v (.slice (some ⟨b, 0, none⟩) n cap)) := by rfl) (hx : evO S x = some (.v (.slice (some ⟨b2, off, none⟩) m c)) := by rfl) : sym P ops w0 u0 true ((o, p) :: rest) S u K := by
 refine .inr (.inr (.inl ⟨.inl rfl, fun B a w u' he hrep => ⟨hw B a hrep.regs, ?_⟩⟩))
 have hub' := he.cells hub
 have hwb := hrep.dat.ext.cells hub'
 have hltu := zxa hub'
 have hus : u'.heap.size = w.heap.size := hrep.dat.size
 obtain ⟨g, c1, cs, w', hrun, hgv, k1, k2, k3, k4, k5, k6⟩ := run_app (P := P) (u0 := { w with heap := #[] }) (w := w) (v := .slice (some ⟨b, 0, none⟩) n cap) (n := n) (xs := cs0.take (n * size)) (ad := ⟨b2, off, none⟩) (c := c) hT hi hzs hsz
  ⟨by rw [List.length_take, hcl]; exact Nat.min_eq_left (Nat.mul_le_mul_right _ hn), .inr ⟨b, cap, cs0.toArray, rfl, Nat.zero_le _, hwb, hn, hcap, by simpa using hcl, by simp⟩⟩ hl (fun j v hv => by rw [addr_add]; exact hrep.dat.ext.cell (he.cell (hnews j v hv))) h1 hm h63 hbytes (Nat.zero_le _) o.type
 unfold Oper.wp execOp
 simp only [hop, resolve, invoke, builtin, Sem.run_bind, Sem.run_pure, Result.andThen_ok, List.map_toArray, List.map_cons, List.map_nil, ev_of hrep.regs hs, ev_of hrep.regs hx, SV.conc, hrun]
 have hsz2 : u'.heap.size ≤ w'.heap.size := by rw [hus]; exact k5.size
 have hgb : g = b ∨ g = w.heap.size := by
  rcases k6 with k6 | k6
  ·have : some b = some g := k6
   injection this with this; exact .inl this.symm
  ·exact .inr k6
 have hgw := zxa hgv
 have hcs : w'.heap[g]? = some (.cells cs.toList.toArray E (0, 0)) := by simpa using hgv
 have hkey : ∀ k, k < u'.heap.size → k ≠ b → w'.heap[k]? = w.heap[k]? := fun k hk hne => k5.block k xq (fun e => hne (by have : some k = some b := e; injection this))
 have hbw : b < w'.heap.size := by omega
 have hgl : g < (setW (hide u' w') b hidO).heap.size := by rw [setW_size, zwt hsz2]; exact hgw
 have hold : ∀ k, k < u'.heap.size → k ≠ b → (grownW u' w' b g (.cells cs.toList.toArray E (0, 0))).heap[k]? = u'.heap[k]? := fun k hk hne => by
  unfold grownW
  rw [setW_ne (by rcases hgb with h | h <;> omega), setW_ne hne, hide_old hk]
 have hdat : Dat (grownW u' w' b g (.cells cs.toList.toArray E (0, 0))) w' := by
  refine ⟨grownW_size hsz2, fun k ob hk hh => ?_⟩
  by_cases e : k = g
  ·subst e
   unfold grownW at hk
   rw [setW_eq hgl] at hk
   rw [hcs]; exact hk
  ·unfold grownW at hk
   rw [setW_ne e] at hk
   by_cases e2 : k = b
   ·subst e2
    rw [setW_eq (by rw [zwt hsz2]; exact hbw)] at hk
    injection hk with hk; exact absurd hk.symm hh
   ·rw [setW_ne e2] at hk
    rcases Nat.lt_or_ge k u'.heap.size with hlt | hge
    ·rw [hide_old hlt] at hk
     rw [hkey k hlt e2]; exact hrep.dat.vis k ob hk hh
    ·have := zxa hk
     rw [zwt hsz2] at this
     rw [hide_new hge this] at hk
     injection hk with hk; exact absurd hk.symm hh
 have hgr : GrowF [b] u' (grownW u' w' b g (.cells cs.toList.toArray E (0, 0))) := ⟨by rw [grownW_size hsz2]; exact hsz2, fun k hk hf => hold k hk (by simpa using hf)⟩
 have hr1 := hrep.mut (F := [b]) (fun b' hm => by simp at hm; subst hm; exact ⟨hb, _, hub', by unfold hidO; intro e; cases e⟩) hdat ⟨k5.os, k5.tape, k5.output, k5.size, fun k hk _ hf => hkey k (by rw [hus]; exact hk) (by simpa using hf)⟩ hgr
 have hr2 := hr1.set (d := o.dst) (x := some (.v (.slice (some ⟨g, 0, none⟩) (n + m) c1))) (v := .slice (some ⟨g, 0, none⟩) (n + m) c1) (fun s hs => (zwa hd hf s hs).1) (fun z e => by injection e with e; rw [← e]; rfl) (fun z t e ht => by injection e with e; rw [← e] at ht; cases ht)
 show ∃ S' B' u'' u2, Rep w0 u0 S' B' (a.put o.dst _) w' u'' ∧ _
 refine ⟨_, B, _, _, hr2, (fun e => by cases e), (fun e => by cases e), Ext.refl _, ?_⟩
 rw [hd]
 exact k g c1 cs.toList _ k1 k2 k3 k4 (by unfold grownW; rw [setW_eq hgl]) (by have := he.size; omega) (ExtF.toB (.pre he hgr.extF))
theorem sy_appD0 (d : Tmp) {T E : TypeId} {s x : Operand} {z : Value} {size bytes : Nat} {b2 off m c : Nat} (news : List Value) (hT : P.underlying T = some (.slice E)) (hi : (P.info? E).map (fun i => (i.zero, i.size, i.bytes)) = some (some z, size, bytes)) (hzs : z.cells.size = size) (hsz : 0 < size)
  (hl : news.length = m * size) (hnews : ∀ j v, news[j]? = some v → u.cell? ⟨b2, off + j, none⟩ = some v) (h1 : ∀ v ∈ news, v.oneCell' = true) (hm : 0 < m) (h63 : m ≤ maxLen) (hbytes : m * bytes ≤ 140737488355328)
  (k : ∀ (g c1 : Nat) (cs : List Value) (u1 : World), m ≤ c1 → c1 ≤ maxLen → cs.length = c1 * size → cs.take (m * size) = news → u1.heap[g]? = some (.cells cs.toArray E (0, 0)) → u.heap.size ≤ g → u0.heap.size ≤ g → Ext u u1 → sym P ops w0 u0 true rest (S.set d (.v (.slice (some ⟨g, 0, none⟩) m c1))) u1 K)
  (hw : Wants ops o S := by exact zwj xj) (hd : o.dst = some d := by kernel_rfl) (hop : o.op = .call { callee := .builtin .append, args := #[s, x], argTypes := #[T, T] } := by rfl) (hf : freeB S d = true := by kernel_rfl)
  (hs : evO S s = some (.v (.slice none 0 0)) := by rfl) (hx : evO S x = some (.v (.slice (some ⟨b2, off, none⟩) m c)) := by rfl) : sym P ops w0 u0 true ((o, p) :: rest) S u K := by
 refine .inr (.inr (.inl ⟨.inl rfl, fun B a w u' he hrep => ⟨hw B a hrep.regs, ?_⟩⟩))
 have hus : u'.heap.size = w.heap.size := hrep.dat.size
 obtain ⟨g, c1, cs, w', hrun, hgv, k1, k2, k3, k4, k5, k6⟩ := run_app (P := P) (u0 := { w with heap := #[] }) (w := w) (v := .slice none 0 0) (n := 0) (xs := []) (ad := ⟨b2, off, none⟩) (c := c) hT hi hzs hsz
  ⟨by simp, .inl ⟨rfl, rfl⟩⟩ hl (fun j v hv => by rw [addr_add]; exact hrep.dat.ext.cell (he.cell (hnews j v hv))) h1 hm (by rw [Nat.zero_add]; exact h63) (by rw [Nat.zero_add]; exact hbytes) (Nat.zero_le _) o.type
 rw [Nat.zero_add] at hrun k1 k4
 unfold Oper.wp execOp
 simp only [hop, resolve, invoke, builtin, Sem.run_bind, Sem.run_pure, Result.andThen_ok, List.map_toArray, List.map_cons, List.map_nil, ev_of hrep.regs hs, ev_of hrep.regs hx, SV.conc, hrun]
 have hsz2 : u'.heap.size ≤ w'.heap.size := by rw [hus]; exact k5.size
 have hge : g = w.heap.size := by
  rcases k6 with k6 | k6
  ·cases k6
  ·exact k6
 have hgw := zxa hgv
 have hcs : w'.heap[g]? = some (.cells cs.toList.toArray E (0, 0)) := by simpa using hgv
 have hkey : ∀ k, k < u'.heap.size → w'.heap[k]? = w.heap[k]? := fun k hk => k5.block k xq (fun e => by cases e)
 have hgl : g < (hide u' w').heap.size := by rw [zwt hsz2]; exact hgw
 have hold : ∀ k, k < u'.heap.size → (setW (hide u' w') g (.cells cs.toList.toArray E (0, 0))).heap[k]? = u'.heap[k]? := fun k hk => by
  rw [setW_ne xq, hide_old hk]
 have hdat : Dat (setW (hide u' w') g (.cells cs.toList.toArray E (0, 0))) w' := by
  refine ⟨by rw [setW_size, zwt hsz2], fun k ob hk hh => ?_⟩
  by_cases e : k = g
  ·subst e
   rw [setW_eq hgl] at hk
   rw [hcs]; exact hk
  ·rw [setW_ne e] at hk
   rcases Nat.lt_or_ge k u'.heap.size with hlt | hge
   ·rw [hide_old hlt] at hk
    rw [hkey k hlt]; exact hrep.dat.vis k ob hk hh
   ·have := zxa hk
    rw [zwt hsz2] at this
    rw [hide_new hge this] at hk
    injection hk with hk; exact absurd hk.symm hh
 have hgr : GrowF [] u' (setW (hide u' w') g (.cells cs.toList.toArray E (0, 0))) := ⟨by rw [setW_size, zwt hsz2]; exact hsz2, fun k hk _ => hold k hk⟩
 have hr1 := hrep.mut (F := []) (fun b' hm => by cases hm) hdat ⟨k5.os, k5.tape, k5.output, k5.size, fun k hk _ _ => hkey k (by rw [hus]; exact hk)⟩ hgr
 have hr2 := hr1.set (d := o.dst) (x := some (.v (.slice (some ⟨g, 0, none⟩) m c1))) (v := .slice (some ⟨g, 0, none⟩) m c1) (fun s hs => (zwa hd hf s hs).1) (fun z e => by injection e with e; rw [← e]; rfl) (fun z t e ht => by injection e with e; rw [← e] at ht; cases ht)
 show ∃ S' B' u'' u2, Rep w0 u0 S' B' (a.put o.dst _) w' u'' ∧ _
 refine ⟨_, B, _, _, hr2, (fun e => by cases e), (fun e => by cases e), Ext.refl _, ?_⟩
 rw [hd]
 have hs1 := he.size
 have hs2 := hrep.grow.size
 exact k g c1 cs.toList _ k1 k2 k3 (by simpa using k4) (setW_eq hgl) xq xq (he.trans hgr.nil.ext)
def PostF (F : List Nat) (u w : World) (Φ : Value → World → Prop) (e : Ending) (w' : World) : Prop :=
 ∃ v u', e = .returned v ∧ Dat u' w' ∧ Bel ⟨w, none, F⟩ w' ∧ GrowF F u u' ∧ Φ v u'
theorem PostF.mono {f : FuncId} {args : Array Value} {Φ Ψ : Value → World → Prop} (h : Calls P f args w (PostF F u w Φ)) (k : ∀ v u', GrowF F u u' → Φ v u' → Ψ v u') : Calls P f args w (PostF F u w Ψ) :=
 h.mono fun e w' ⟨v, u', h1, h2, h3, h4, h5⟩ => ⟨v, u', h1, h2, h3, h4, k v u' h4 h5⟩
theorem calls_symF {f : FuncId} {fn : Func} {args : List Value} {Φ : Value → World → Prop} {rs : List ResultVar} {n : Nat} {c : Code} (hf : P.funcs[f]? = some fn) (hb : fn.body = some c) (hn : fn.ntmps = n) (hrs : fn.results = rs.toArray) (hargs : args.length ≤ n) (hl : rs.length ≤ 4) {w0 : World} (d : Dat u0 w0) (h : SW P ⟨w0, none, F⟩ u0 c (St.init n args) u0 (MP.fin P rs Φ)) :
  Calls P f args.toArray w0 (PostF F u0 w0 Φ) := by
 refine calls_of_wp hf hb (wp_mono (h (fun _ => 0) _ w0 u0 (Ext.refl _) ?_) ?_)
 ·refine ⟨⟨fun t x hx => ?_, by simp [St.init, hn]; omega⟩, ⟨fun r x t hx ht => ?_⟩, rfl, (fun t V h => by cases h), (fun t t' V V' h => by cases h), d, d.size, GrowF.refl _ _, ⟨rfl, rfl, rfl, Nat.le_refl _, fun _ _ _ _ => rfl⟩⟩
  ·simp only [St.init, Option.map_eq_some_iff] at hx
   obtain ⟨v, h1, rfl⟩ := hx
   have hlt : t < args.toArray.size := by have := (List.getElem?_eq_some_iff.1 h1).1; simpa using this
   rw [Array.getElem?_append_left hlt]
   show args.toArray[t]? = some v
   simpa using h1
  ·simp only [St.init, Option.map_eq_some_iff] at hx
   obtain ⟨v, h1, rfl⟩ := hx
   cases ht
 ·rintro ex a' w' ⟨S', B', u'', r1, r3⟩
  have key : (∃ xs pubs, resAll P S' rs xs ∧ (∀ t ∈ pubs, ∃ V, S'.var t = some V) ∧ ∀ B u1, Ext u'' u1 → Visible S' B u1 pubs → Φ (tupV (xs.map (SV.conc B))) u1) → a'.defers = [] ∧ ∃ v, (results fn a'.tmps).run P w' = .ok v w' ∧ PostF F u0 w0 Φ (.returned v) w' := by
   rintro ⟨xs, pubs, k1, k2, k3⟩
   refine ⟨r1.defers, _, results_eq hrs k1 r1 hl, _, pubW u'' w' (pubs.map B'), rfl, pubW_dat r1.dat, ⟨r1.bel.os, r1.bel.tape, r1.bel.output, r1.bel.size, fun k hk hl hf => r1.bel.block k hk (fun t e => by cases e) hf⟩, pubW_grow r1.grow (fun b hb => ?_), k3 B' _ (pubW_ext r1.dat) (fun t ht V hV => ?_)⟩
   ·obtain ⟨t, ht, rfl⟩ := List.mem_map.1 hb
    obtain ⟨V, hV⟩ := k2 t ht
    have ho := (r1.var t V hV).2.2
    rcases Nat.lt_or_ge t S'.n with hs3 | hs3
    ·exact ho.1 hs3
    ·exact absurd (ho.2 hs3) zq
   ·obtain ⟨v1, v2, _⟩ := r1.var t V hV
    rw [pubW_in (List.mem_map_of_mem ht) (zxa v2) r1.dat.size]
    exact v1
  cases ex with
  | ret => exact key r3
  | normal => exact key r3
  | _ => exact r3.elim
theorem zwo (F : List Nat) (d : Tmp) (f : FuncId) (args : List Value) {Φ : Value → World → Prop} (hF : ∀ b ∈ F, MayB w0 u0 b ∧ ∃ ob, u.heap[b]? = some ob ∧ ob ≠ hidO)
  (kc : ∀ w u1, Ext u u1 → Dat u1 w → Calls P f args.toArray w (PostF F u1 w Φ))
  (k : ∀ v u2, ExtF F u u2 → Φ v u2 → sym P ops w0 u0 true rest (S.set d (.v v)) u2 K)
  (hw : Wants ops o S := by exact zwj xj) (hd : o.dst = some d := by kernel_rfl) (hf : (freeB S d && knownB S o) = true := by kernel_rfl) (hk : opK o.op ≠ 2 := by decide)
  (hrun : ∀ B w, (execOp (rho S B) o).run P w = .ok (.enter f args.toArray) w := by intro _ _; kernel_rfl) : sym P ops w0 u0 true ((o, p) :: rest) S u K := by
 simp only [Bool.and_eq_true] at hf
 refine .inr (.inr (.inl ⟨.inl rfl, fun B a w u' he hrep => ⟨hw B a hrep.regs, ?_⟩⟩))
 unfold Oper.wp
 rw [exec_rho hrep.regs hf.2 hk, hrun B w]
 simp only [Oper.upon]
 refine Calls.mono (kc w u' he hrep.dat) ?_
 rintro e w' ⟨v, u2, rfl, k1, k2, k3, k4⟩
 have hr1 := hrep.mut (F := F) (fun b hm => by obtain ⟨h1, ob, h2, h3⟩ := hF b hm; exact ⟨h1, ob, he.vis b ob h2 h3, h3⟩) k1 k2 k3
 have hr2 := hr1.set (d := o.dst) (x := some (.v v)) (v := v) (fun s hs => (zwa hd hf.1 s hs).1) (fun z e => by injection e with e; rw [← e]; rfl) (fun z t e ht => by injection e with e; rw [← e] at ht; cases ht)
 refine ⟨_, B, u2, u2, hr2, (fun e => by cases e), (fun e => by cases e), Ext.refl _, ?_⟩
 have := k v u2 (.pre he k3.extF) k4
 rw [hd]; exact this
theorem Left.step {M : List Nat} {pre post : List (Nat × List Tmp)} {y : Nat × List Tmp} {listed : Array Bool} (hL : Left ops M (pre ++ y :: post) listed) (hro : ∀ j, (M.getD y.1 0).testBit j = true → j ∉ (pre ++ y :: post).map (·.1)) : Left ops M (pre ++ post) (listed.setIfInBounds y.1 true) := by
 have hsub : (pre ++ post).Sublist (pre ++ y :: post) := List.Sublist.append_left (List.sublist_cons_self _ _) _
 have hyn : y.1 ∉ (pre ++ post).map (·.1) := by
  have := hL.nodup
  rw [List.map_append, List.map_cons] at this
  have h2 := List.nodup_append.1 this
  have h3 := (List.nodup_cons.1 h2.2.1).1
  intro hm
  rw [List.map_append] at hm
  rcases List.mem_append.1 hm with hm | hm
  ·exact h2.2.2 y.1 hm y.1 (List.mem_cons_self ..) rfl
  ·exact h3 hm
 have hmem : ∀ j, j ≠ y.1 → (j ∈ (pre ++ post).map (·.1) ↔ j ∈ (pre ++ y :: post).map (·.1)) := fun j hj => by simp [hj]
 refine ⟨hL.nodup.sublist (hsub.map _), hL.pair.sublist hsub, by simp [hL.size], fun j hj => ?_, fun x hx => hL.lt x (hsub.mem hx), fun x hx => hL.mask x (hsub.mem hx), fun j hj hjn x hx => ?_⟩
 ·by_cases e : j = y.1
  ·subst e
   constructor
   ·intro h
    simp [hL.size, hj] at h
   ·intro h; exact absurd h hyn
  ·rw [getD_set_ne true (Ne.symm e), hmem j e]
   exact hL.mem j hj
 ·intro hmx
  by_cases e : j = y.1
  ·subst e; exact hro x hx ((hsub.map _).mem hmx)
  ·exact hL.closed j hj (fun h => hjn ((hmem j e).2 h)) x hx ((hsub.map _).mem hmx)
def chainB (M : List Nat) : List (Nat × List Tmp) → Bool
 | [] => true
 | x :: l => l.all (fun y => (M.getD y.1 0).testBit x.1) && chainB M l
theorem any_chain {M : List Nat} {Q : Exit → Act → World → Prop} : ∀ (T : List (Nat × List Tmp)) (listed : Array Bool) (a : Act) (w : World), Left ops M T listed → chainB M T = true →
  wpList P ops Q (T.map fun x => ops.getD x.1 default) a w → wpAny P .any ops Q T.length listed a w := by
 intro T
 induction T with
 | nil =>
  intro listed a w hL _ h
  refine ⟨?_, h⟩
  cases e : Region.ready .any ops listed with
  | nil => rfl
  | cons i l =>
   have := (hL.ready_mem (i := i) (by rw [e]; exact List.mem_cons_self ..)).2.1
   simp at this
 | cons y T ih =>
  intro listed a w hL hc h
  simp only [chainB, Bool.and_eq_true] at hc
  refine ⟨fun e => ?_, fun i hi => ?_⟩
  ·have := hL.head_ready
   rw [e] at this
   cases this
  ·obtain ⟨hlt, hm, hout⟩ := hL.ready_mem hi
   obtain ⟨x, hx, rfl⟩ := List.mem_map.1 hm
   have hro := reach_out hL hx hout
   have hxy : x = y := by
    rcases List.mem_cons.1 hx with rfl | hx'
    ·rfl
    ·exact absurd (List.mem_map.2 ⟨y, List.mem_cons_self .., rfl⟩) (hro y.1 (List.all_eq_true.1 hc.1 x hx'))
   subst hxy
   have hL' : Left ops M T (listed.setIfInBounds x.1 true) := by
    have := Left.step (pre := []) (post := T) hL hro
    exact this
   have key : ops[x.1]? = some (opAt ops x).1 := get_op hlt
   simp only [wpOp, key]
   simp only [List.map_cons] at h
   unfold wpList at h
   have h : if Region.wanted (opAt ops x).1 (yielded ops a.tmps) = true then (opAt ops x).1.wp P a w (wpList P ops Q (T.map fun x => ops.getD x.1 default)) Q ∨ ((opAt ops x).1.asks P a w ∧ LetsOut Q) else wpList P ops Q (T.map fun x => ops.getD x.1 default) (a.put (opAt ops x).1.dst undef) w := h
   split
   ·rename_i hw
    rw [if_pos hw] at h
    exact h.imp (Oper.wp_mono fun a w h => ih _ a w hL' hc.2 h) id
   ·rename_i hw
    rw [if_neg hw] at h
    exact ih _ _ w hL' hc.2 h
theorem any_symT {M : List Nat} {T : List (Nat × List Tmp)} {Q : Exit → Act → World → Prop} (hK : Mono K) (hc : chainB M T = true) (hQ : ∀ S u, K S u → ∀ B a w, Rep w0 u0 S B a w u → wpList P ops Q (T.map fun x => ops.getD x.1 default) a w) :
  ∀ (fuel : Nat) (L : List (Nat × List Tmp)) (listed : Array Bool) (S : St) (B : Tmp → Nat) (a : Act) (w u : World), L.length = fuel → Left ops M (L ++ T) listed → (∀ x ∈ L, ∀ y ∈ T, (M.getD y.1 0).testBit x.1 = true) → Rep w0 u0 S B a w u →
   sym P ops w0 u0 false (L.map (opAt ops)) S u K → wpAny P .any ops Q (fuel + T.length) listed a w := by
 intro fuel
 induction fuel with
 | zero =>
  intro L listed S B a w u hl hL _ hr hs
  obtain rfl := List.length_eq_zero_iff.1 hl
  rw [Nat.zero_add]
  exact any_chain T listed a w hL hc (hQ S u hs B a w hr)
 | succ fuel ih =>
  intro L listed S B a w u hl hL hT hr hs
  rw [Nat.succ_add]
  refine ⟨fun e => ?_, fun i hi => ?_⟩
  ·cases L with
   | nil => cases hl
   | cons x L =>
    have := Left.head_ready (L := L ++ T) hL
    rw [e] at this
    cases this
  ·obtain ⟨hlt, hm, hout⟩ := hL.ready_mem hi
   obtain ⟨y, hy, rfl⟩ := List.mem_map.1 hm
   have hro := reach_out hL hy hout
   have hyL : y ∈ L := by
    rcases List.mem_append.1 hy with h | h
    ·exact h
    ·cases L with
     | nil => cases hl
     | cons x L => exact absurd zq (hro x.1 (hT x (List.mem_cons_self ..) y h))
   obtain ⟨pre, post, rfl⟩ := List.append_of_mem hyL
   have hsw : ∀ x ∈ pre.map (opAt ops), swapOk ops x (opAt ops y) = true := by
    intro x hx
    obtain ⟨x', hx', rfl⟩ := List.mem_map.1 hx
    have hp := hL.pair
    rw [List.append_assoc, List.cons_append] at hp
    have := (List.pairwise_append.1 hp).2.2 x' hx' y (List.mem_cons_self ..)
    simp only [pairOk, Bool.and_eq_true, Bool.or_eq_true] at this
    rcases this.1 with h1 | h1
    ·exact absurd (List.mem_map.2 ⟨x', by simp [hx'], rfl⟩) (hro x'.1 h1)
    ·exact h1
   rw [List.map_append, List.map_cons] at hs
   have hone := bubble hK (pre.map (opAt ops)) S u hr.wf hsw hs
   have hsound := one_sound (Q := Q) (zwf hK) hone (Ext.refl _) hr
   have hL' : Left ops M ((pre ++ post) ++ T) (listed.setIfInBounds y.1 true) := by
    have e1 : (pre ++ y :: post) ++ T = pre ++ y :: (post ++ T) := by simp
    rw [e1] at hL hro
    have := Left.step hL hro
    rw [List.append_assoc]; exact this
   have hfin : ∀ a' w', (∃ S' B' u'', Rep w0 u0 S' B' a' w' u'' ∧ (false = false → Ext u u'') ∧ sym P ops w0 u0 false (pre.map (opAt ops) ++ post.map (opAt ops)) S' u'' K) → wpAny P .any ops Q (fuel + T.length) (listed.setIfInBounds y.1 true) a' w' := by
    rintro a' w' ⟨S', B', u'', g1, _, g3⟩
    refine ih (pre ++ post) _ S' B' a' w' u'' (by simp at hl ⊢; omega) hL' (fun x hx => hT x (by simp at hx ⊢; rcases hx with h | h <;> simp [h])) g1 ?_
    rw [List.map_append]; exact g3
   have key : ops[y.1]? = some (opAt ops y).1 := get_op hlt
   simp only [wpOp, key]
   split
   ·rename_i hw
    rw [if_pos hw] at hsound
    exact .inl (Oper.wp_mono hfin hsound)
   ·rename_i hw
    rw [if_neg hw] at hsound
    exact hfin _ _ hsound
def tailB (M : List Nat) (L T : List (Nat × List Tmp)) : Bool := L.all (fun x => T.all fun y => (M.getD y.1 0).testBit x.1) && chainB M T
theorem sw_anyC {id : Nat} {Q : MP} (M : List Nat) (q T : List (Nat × List Tmp)) (hm : P.follows .mixedOrders = true) (hok : regOk ops M (q ++ T) = true) (ht : tailB M q T = true)
  (h : sym P ops w0 u0 false (q.map (opAt ops)) S u (fun S' u' => sym P ops w0 u0 true (T.map fun x => (ops.getD x.1 default, [])) S' u' (Q.f .normal))) : SW P w0 u0 (.region id ops true) S u Q := by
 intro B a w u' e hr
 simp only [regOk, Bool.and_eq_true, beq_iff_eq, List.all_eq_true] at hok
 obtain ⟨⟨⟨⟨h1, h2⟩, h5⟩, h3⟩, h4⟩ := hok
 simp only [tailB, Bool.and_eq_true, List.all_eq_true] at ht
 have hnd := nodupB_spec h2
 have hall : ∀ i, i < ops.size → i ∈ (q ++ T).map (·.1) := fun i hi => List.contains_iff_mem.1 (h5 i (by simpa using hi))
 have hK : Mono (fun S' u' => sym P ops w0 u0 true (T.map fun x => (ops.getD x.1 default, ([] : List Tmp))) S' u' (Q.f .normal)) := zwf (Q.mono _)
 have hs : ops.size = q.length + T.length := by rw [← h1, List.length_append]
 refine wp_region_any hm ?_
 rw [hs]
 have hlist : Left ops M (q ++ T) (Array.replicate (q.length + T.length) false) := by
  rw [← hs]
  refine ⟨hnd, pairsOk_spec h4, by simp, fun i hi => ?_, fun x hx => ?_, fun x hx => (h3 x hx).2, fun j hj hjn => absurd (hall j hj) hjn⟩
  ·simp only [Array.getD_eq_getD_getElem?]
   rw [Array.getElem?_eq_getElem (by simpa using hi)]
   simp only [Array.getElem_replicate, Option.getD_some, true_iff]
   exact hall i hi
  ·obtain ⟨⟨g1, g2⟩, g3⟩ := h3 x hx
   refine ⟨by simpa using g1, fun e he hb => ?_⟩
   simp only [Bool.not_eq_true', List.any_eq_false] at g2
   have := g2 e (by simpa using he)
   simp [hb] at this
   exact this
 refine any_symT hK ht.2 (fun S u'' h B a w hr => ?_) q.length q _ S B a _ u' rfl hlist (fun x hx y hy => ht.1 x hx y hy) hr.drew (zwf hK _ _ _ e h)
 have := sl_key (Q := fun e a' w' => ∃ S' B' u'', Rep w0 u0 S' B' a' w' u'' ∧ Q.f e S' u'') (K := Q.f .normal) (Q.mono _) [] (fun S u h B a w hr => by exact ⟨S, B, u, hr, h⟩) (T.map fun x => ops.getD x.1 default) S B a w u'' hr (by rw [List.map_map]; exact h)
 rw [List.append_nil] at this
 exact this
end
structure PL where
 o : Int
 g : Int
 h : Int
def PL.cs (p : PL) : List Value := [.int .i64 p.o, .int .i64 p.g, .int .i64 p.h]
@[reducible] def PL.v (p : PL) : Value := .agg #[.int .i64 p.o, .int .i64 p.g, .int .i64 p.h]
def pl0 : PL := ⟨0, 0, 0⟩
def pcs (L : List PL) : List Value := L.flatMap PL.cs
section
variable {u u' w w' : World} {L M : List PL} {p : PL} {n i c b off K : Nat} {x y : Sl}
theorem pcs_cons : pcs (p :: L) = p.cs ++ pcs L := rfl
theorem pcs_len : (pcs L).length = L.length * 3 := by
 induction L with
 | nil => rfl
 | cons p L ih => rw [pcs_cons, List.length_append, ih, List.length_cons]; simp [PL.cs]; omega
theorem pl_one (p : PL) : ∀ v ∈ p.cs, v.oneCell' = true := by
 intro v hv
 simp [PL.cs] at hv
 rcases hv with rfl | rfl | rfl <;> rfl
theorem pcs_drop (n : Nat) : (pcs L).drop (n * 3) = pcs (L.drop n) := by
 induction n generalizing L with
 | zero => simp
 | succ n ih =>
  cases L with
  | nil => simp [pcs]
  | cons p L => rw [pcs_cons, show (n + 1) * 3 = p.cs.length + n * 3 by simp [PL.cs]; omega, List.drop_append, Nat.add_sub_cancel_left, ih, List.drop_of_length_le xq]; simp
theorem pcs_get (h : i < L.length) : ((pcs L).drop (i * 3)).take 3 = (L.getD i pl0).cs := by
 rw [pcs_drop, List.drop_eq_getElem_cons h, pcs_cons]
 have : (L[i].cs).length = 3 := rfl
 rw [List.take_append_of_le_length xq, List.take_of_length_le xq]
 simp [h]
def PasV (u : World) (x : Sl) (L : List PL) : Prop := SlC u x (pcs L)
theorem PasV.ext (h : PasV u x L) (e : Ext u u') : PasV u' x L := SlC.ext h e
theorem PasV.len (h : PasV u x L) : x.n = L.length := by
 have h1 := h.1
 rw [pcs_len] at h1; omega
theorem pas_nil (u : World) : PasV u ⟨none, 0, 0⟩ [] := ⟨rfl, Nat.le_refl _, Nat.zero_le _, fun h => absurd h (Nat.lt_irrefl 0)⟩
theorem pas_at (h : PasV u x L) (hi : i < L.length) : ∃ (p : PL) (b o : Nat), x.a = some ⟨b, o, none⟩ ∧ (∀ j, j < p.cs.length → u.cell? ⟨b, o + i * 3 + j, none⟩ = p.cs[j]?) ∧ p = L.getD i pl0 := by
 have hn := h.len
 obtain ⟨h1, h2, h3, h4⟩ := h
 obtain ⟨b, o, e, hc⟩ := h4 xq
 refine ⟨L.getD i pl0, b, o, e, fun j hj => ?_, rfl⟩
 have hj : j < 3 := hj
 have := hc (i * 3 + j) (by rw [pcs_len]; omega)
 rw [← Nat.add_assoc] at this
 rw [this, ← pcs_get hi, List.getElem?_take_of_lt hj, List.getElem?_drop]
theorem pas_data {cs : List Value} {t : TypeId} (h : u.heap[b]? = some (.cells cs.toArray t (0, 0))) (hc : cs.take (n * 3) = pcs L) (hl : cs.length = c * 3) (hn : n ≤ c) (hm : c ≤ maxLen) : PasV u ⟨some ⟨b, 0, none⟩, n, c⟩ L := by
 have hlen : (pcs L).length = n * 3 := by rw [← hc, List.length_take, hl]; omega
 refine ⟨hlen, hn, hm, fun _ => ⟨b, 0, rfl, fun j hj => ?_⟩⟩
 rw [Nat.zero_add, cells_at h, ← hc, List.getElem?_take_of_lt xq]
 simp
theorem ints_data {cs : List Value} {t : TypeId} {l : List Int} (h : u.heap[b]? = some (.cells cs.toArray t (0, 0))) (hc : cs.take n = l.map (Value.int .i64)) (hl : cs.length = c) (hn : n ≤ c) (hm : c ≤ maxLen) : SlR .i64 u (some ⟨b, 0, none⟩) n c l := by
 have hlen : l.length = n := by have h9 := congrArg List.length hc; simp at h9; omega
 refine ⟨hlen, hn, hm, fun hp => ⟨b, 0, rfl, zxa h, fun i hi => ?_⟩⟩
 rw [Nat.zero_add, cells_at h]
 have h9 : (cs.take n)[i]? = (l.map (Value.int .i64))[i]? := by rw [hc]
 rw [List.getElem?_take_of_lt hi, List.getElem?_map, List.getElem?_eq_getElem (by omega : i < l.length)] at h9
 simp
 rw [h9, List.getElem?_eq_getElem (by omega : i < l.length)]
 rfl
end
section
variable {P : Program} {ops : Array Oper} {w0 : Base} {u0 : World} {S : St} {u u' w : World} {o : Oper} {p : List Tmp} {seq : Bool} {rest : List (Oper × List Tmp)} {K : St → World → Prop}
theorem sy_conv (d : Tmp) {src dst : TypeId} {x : Operand} {k0 k : IntKind} {n : Int} (v : Int) (hT : ∀ w, (convert src dst (.int k0 n)).run P w = .ok (.int k (k.wrap n)) w) (hv : k.wrap n = v) (kk : sym P ops w0 u0 seq rest (S.set d (.v (.int k v))) u K) (hw : Wants ops o S := by exact zwj xj) (hd : o.dst = some d := by kernel_rfl) (hop : o.op = .convert src dst x := by rfl) (hf : freeB S d = true := by kernel_rfl)
  (hx : evO S x = some (.v (.int k0 n)) := by rfl) : sym P ops w0 u0 seq ((o, p) :: rest) S u K := by
 subst hv
 refine .inl ⟨by rw [hop]; exact (by decide : (0 : Nat) ≠ 2), .set (.v (.int k (k.wrap n))), ⟨zwa hd hf, .inl ⟨(fun t ht => by cases ht), fun B a w u' hr he hdt => ⟨hw B a hr, ?_⟩⟩⟩, ?_⟩
 ·have e1 : (execOp a.eval o).run P w = (do pure (Next.value (← convert src dst (a.eval x))) : Sem Next).run P w := by unfold execOp; rw [hop]
  rw [e1, ev_eval hr hx]
  exact run_val (hT w)
 ·show sym P ops w0 u0 seq rest (S.put o.dst (some _)) u K
  rw [hd]; exact kk
theorem unwantedU {g : Nat} {b : Bool} {t : Tmp} (h : o.guard = some (g, b)) (ht : (ops[g]?).bind (·.dst) = some t) (hS : S.reg t = some (.v undef)) : ∀ B a, RegOK S B a → Want ops o a false := fun B a hr => by
 have := hr.reg t _ hS
 simp [Want, Region.wanted, h, yielded, ht, this, SV.conc, undef]
end
section
variable {u u' : World} {A : Option Addr} {n c i : Nat} {l : List Int} {k : IntKind}
theorem ints_at (h : SlR k u A n c l) (hi : i < n) : ∃ b o, A = some ⟨b, o, none⟩ ∧ u.cell? ⟨b, o + i * 1, none⟩ = some (.int k (l.getD i 0)) := by
 obtain ⟨h1, h2, h3, h4⟩ := h
 obtain ⟨b, o, e, _, hc⟩ := h4 xq
 exact ⟨b, o, e, by rw [Nat.mul_one]; exact hc i hi⟩
theorem ints_bd {lo hi : Int} (h : ∀ z ∈ l, lo ≤ z ∧ z ≤ hi) (h0 : lo ≤ 0 ∧ 0 ≤ hi) (i : Nat) : lo ≤ l.getD i 0 ∧ l.getD i 0 ≤ hi := by
 rw [List.getD_eq_getElem?_getD]
 cases e : l[i]? with
 | none => exact h0
 | some z => exact h z (List.mem_of_getElem? e)
end
structure WL where
 b : Int
 f : Int
 r : Int
 o : Int
@[reducible] def WL.v (w : WL) : Value := .agg #[.int .i64 w.b, .int .i64 w.f, .int .i64 w.r, .int .i64 w.o]
def WL.cs (w : WL) : List Value := [.int .i64 w.b, .int .i64 w.f, .int .i64 w.r, .int .i64 w.o]
def WdOK (w : WL) : Prop := 4 ≤ w.b ∧ w.b ≤ 24 ∧ 0 ≤ w.f ∧ w.f < w.b ∧ 1 ≤ w.r ∧ w.r ≤ 3 ∧ 1 ≤ w.o ∧ w.o ≤ 2
def CoefOK (w : WL) : Prop := 6 ≤ w.b ∧ w.b ≤ 9 ∧ 3 ≤ w.f ∧ w.f + 2 ≤ w.b ∧ 1 ≤ w.r ∧ w.r ≤ 3 ∧ 1 ≤ w.o ∧ w.o ≤ 2
theorem CoefOK.ok {w : WL} (h : CoefOK w) : WdOK w := by unfold CoefOK at h; unfold WdOK; omega
namespace Nt
def p2i (n : Int) : Int := 2 ^ n.toNat
theorem zxq (n : Int) : 0 < p2i n := Int.pow_pos yv
theorem zwh {a b : Int} (h : a ≤ b) : p2i a ≤ p2i b := by
 unfold p2i
 have h1 : 2 ^ a.toNat ≤ 2 ^ b.toNat := Nat.pow_le_pow_right yv xq
 have h2 : ((2 ^ a.toNat : Nat) : Int) ≤ ((2 ^ b.toNat : Nat) : Int) := Int.ofNat_le.2 h1
 simpa using h2
theorem p2i_24 {n : Int} (h : n ≤ 24) : p2i n ≤ 16777216 := zwh (b := 24) h
theorem p2i_double {a b : Int} (h0 : 0 ≤ a) (h : a + 1 ≤ b) : 2 * p2i a ≤ p2i b := by
 have h1 := zwh h
 have h2 : p2i (a + 1) = 2 * p2i a := by
  unfold p2i
  rw [show (a + 1).toNat = a.toNat + 1 by omega, Int.pow_succ, Int.mul_comm]
 omega
end Nt
section
variable {P : Program} {w0 : Base} {u0 u w : World} {S : St} {ops : Array Oper} {o : Oper} {p : List Tmp} {seq : Bool} {rest : List (Oper × List Tmp)} {K : St → World → Prop}
theorem run_shl {T : TypeId} {k yk : IntKind} {n s : Int} {x y : Operand} (h0 : 0 ≤ s) (h1 : s ≤ k.bits) : (do eqGuard .shl T x y (.int k n) (.int yk s); binOp .shl T (.int k n) (.int yk s) : Sem Value).run P w = .ok (.int k (k.wrap (n * 2 ^ s.toNat))) w := by
 simp [eqGuard, binOp, shift_shl k yk n s h0 h1, go_sem]
theorem sy_shl (d : Tmp) {T T2 : TypeId} {x y : Operand} {k yk : IntKind} {n s : Int} (v : Int) (h0 : 0 ≤ s) (h1 : s ≤ k.bits) (hv : k.wrap (n * 2 ^ s.toNat) = v) (kk : sym P ops w0 u0 seq rest (S.set d (.v (.int k v))) u K) (hw : Wants ops o S := by exact zwj xj) (hd : o.dst = some d := by kernel_rfl) (hop : o.op = .binOp .shl T x y T2 := by rfl) (hf : freeB S d = true := by kernel_rfl)
  (hx : evO S x = some (.v (.int k n)) := by rfl) (hy : evO S y = some (.v (.int yk s)) := by rfl) : sym P ops w0 u0 seq ((o, p) :: rest) S u K := by
 subst hv
 refine .inl ⟨by rw [hop]; exact (by decide : (0 : Nat) ≠ 2), .set (.v (.int k (k.wrap (n * 2 ^ s.toNat)))), ⟨zwa hd hf, .inl ⟨(fun t ht => by cases ht), fun B a w u' hr he hdt => ⟨hw B a hr, ?_⟩⟩⟩, ?_⟩
 ·have e1 : (execOp a.eval o).run P w = (do pure (Next.value (← (do eqGuard .shl T x y (a.eval x) (a.eval y); binOp .shl T (a.eval x) (a.eval y)))) : Sem Next).run P w := by unfold execOp; rw [hop]
  rw [e1, ev_eval hr hx, ev_eval hr hy]
  exact run_val (run_shl h0 h1)
 ·show sym P ops w0 u0 seq rest (S.put o.dst (some _)) u K
  rw [hd]; exact kk
end
theorem shl_one {n : Int} (h0 : 0 ≤ n) (h1 : n ≤ 24) : IntKind.i64.wrap (1 * 2 ^ n.toNat) = Nt.p2i n := by
 have h2 := Nt.p2i_24 h1
 have h3 := Nt.zxq n
 rw [Int.one_mul]
 exact IntWalk.i64_in _ (by unfold Nt.p2i at *; omega)
theorem mod_pos9 (m : Int) (hm : 1 ≤ m) (n : Int) (h : decide (Int.tmod n m < 0) = false) : Int.tmod n m = n % m := by
 have h := of_decide_eq_false h
 rcases Int.lt_or_le n 0 with hn | hn
 ·have e := Int.tmod_add_mul_tdiv n m
  have h2 : -m < Int.tmod n m := Int.lt_tmod_of_pos n xq
  have h3 : Int.tmod n m ≤ 0 := by
   have h8 := Int.neg_tmod n m
   have h9 : Int.tmod (-n) m = (-n) % m := Int.tmod_eq_emod_of_nonneg xq
   have h10 := Int.emod_nonneg (-n) (show m ≠ 0 by omega)
   omega
  have h4 : Int.tmod n m = 0 := by omega
  rw [h4] at e ⊢
  have : m ∣ n := ⟨n.tdiv m, by omega⟩
  exact (Int.emod_eq_zero_of_dvd this).symm
 ·exact Int.tmod_eq_emod_of_nonneg hn
theorem mod_neg9 (m : Int) (hm : 1 ≤ m) (n : Int) (h : decide (Int.tmod n m < 0) = true) : Int.tmod n m + m = n % m := by
 have h := of_decide_eq_true h
 have e := Int.tmod_add_mul_tdiv n m
 have h2 : -m < Int.tmod n m := Int.lt_tmod_of_pos n xq
 have h5 : n = m * (n.tdiv m - 1) + (Int.tmod n m + m) := by rw [Int.mul_sub, Int.mul_one]; omega
 have := (Nt.ediv_uniq (z := n) (y := m) (q := n.tdiv m - 1) (r := Int.tmod n m + m) xq h5 xq xq).2
 exact this.symm
def MutL (k : Nat) (ty : TypeId) (lo : Nat) (u : World) (x : Sl) (cs : List Value) : Prop :=
 cs.length = x.n * k ∧ x.n ≤ x.c ∧ x.c ≤ maxLen ∧ (x = ⟨none, 0, 0⟩ ∨ ∃ b all, x.a = some ⟨b, 0, none⟩ ∧ u.heap[b]? = some (.cells (List.toArray all) ty (0, 0)) ∧ all.length = x.c * k ∧ all.take (x.n * k) = cs ∧ lo ≤ b)
def offB (x : Sl) (h : Nat) : Prop := ∀ a, x.a = some a → a.block ≠ h
structure ExtX (x : Sl) (u u' : World) : Prop where
 size : u.heap.size ≤ u'.heap.size
 vis : ∀ (k : Nat) (o : Obj), offB x k → u.heap[k]? = some o → o ≠ hidO → u'.heap[k]? = some o
structure ExtT (ty : TypeId) (u u' : World) : Prop where
 size : u.heap.size ≤ u'.heap.size
 vis : ∀ (k : Nat) (cs : Array Value) (t : TypeId), t ≠ ty → u.heap[k]? = some (.cells cs t (0, 0)) → u'.heap[k]? = some (.cells cs t (0, 0))
def sl0 : Sl := ⟨none, 0, 0⟩
structure TL where
 f : Int
 c : Int
def TL.cs (t : TL) : List Value := [.int .i64 t.f, .int .i64 t.c]
@[reducible] def TL.v (t : TL) : Value := .agg #[.int .i64 t.f, .int .i64 t.c]
def tl0 : TL := ⟨0, 0⟩
def tcs (L : List TL) : List Value := L.flatMap TL.cs
def ics (l : List Int) : List Value := l.map (Value.int .i64)
section
variable {k lo lo' h b n c i : Nat} {ty t2 : TypeId} {u u' u'' v : World} {x y : Sl} {cs cs' : List Value}
theorem cells_not_hid {cs : Array Value} {t : TypeId} : Obj.cells cs t (0, 0) ≠ hidO := by unfold hidO; intro e; cases e
theorem MutL.ext (m : MutL k ty lo u x cs) (e : Ext u u') : MutL k ty lo u' x cs :=
 ⟨m.1, m.2.1, m.2.2.1, m.2.2.2.imp id fun ⟨b, all, h1, h2, h3⟩ => ⟨b, all, h1, e.cells h2, h3⟩⟩
theorem MutL.extT (m : MutL k ty lo u x cs) (e : ExtT t2 u u') (ht : ty ≠ t2) : MutL k ty lo u' x cs :=
 ⟨m.1, m.2.1, m.2.2.1, m.2.2.2.imp id fun ⟨b, all, h1, h2, h3⟩ => ⟨b, all, h1, e.vis _ _ _ ht h2, h3⟩⟩
theorem MutL.low (m : MutL k ty lo u x cs) (hl : lo' ≤ lo) : MutL k ty lo' u x cs :=
 ⟨m.1, m.2.1, m.2.2.1, m.2.2.2.imp id fun ⟨b, all, h1, h2, h3, h4, h5⟩ => ⟨b, all, h1, h2, h3, h4, Nat.le_trans hl h5⟩⟩
theorem MutL.nil (k : Nat) (ty : TypeId) (lo : Nat) (u : World) : MutL k ty lo u ⟨none, 0, 0⟩ [] := ⟨by simp, Nat.le_refl _, Nat.zero_le _, .inl rfl⟩
theorem ExtX.t {cs : List Value} (e : ExtX x u u') (m : MutL k ty lo u x cs) : ExtT ty u u' := ⟨e.size, fun q cs' t ht hq => by
 refine e.vis q _ (fun a ha hc => ?_) hq cells_not_hid
 rcases m.2.2.2 with h1 | ⟨b, all, h1, h2, _⟩
 ·rw [h1] at ha; cases ha
 ·rw [h1] at ha; injection ha with ha; subst ha
  rw [show b = q from hc, hq] at h2; injection h2 with h2; injection h2 with _ h2 _; exact ht h2⟩
theorem ExtX.root {cs : List Value} {u0 : World} (e : ExtX x u u') (m : MutL k ty u0.heap.size u x cs) (r : Ext u0 u) : Ext u0 u' := ⟨Nat.le_trans r.size e.size, fun q o hq hh => by
 refine e.vis q o (fun a ha hc => ?_) (r.vis q o hq hh) hh
 rcases m.2.2.2 with h1 | ⟨b, all, h1, _, _, _, h5⟩
 ·rw [h1] at ha; cases ha
 ·rw [h1] at ha; injection ha with ha; subst ha
  have := zxa hq
  have hc : b = q := hc
  omega⟩
theorem Ext.toX (e : Ext u u') (x : Sl) : ExtX x u u' := ⟨e.size, fun q o _ h1 h2 => e.vis q o h1 h2⟩
theorem ExtT.trans (e : ExtT ty u u') (f : ExtT ty u' u'') : ExtT ty u u'' := ⟨Nat.le_trans e.size f.size, fun q cs t ht h => f.vis q cs t ht (e.vis q cs t ht h)⟩
theorem ExtB.toX (e : ExtB b u u') (hx : x.a = some ⟨b, 0, none⟩) : ExtX x u u' := ⟨e.size, fun q o ho h1 h2 => e.vis q o (fun hc => ho _ hx hc.symm) h1 h2⟩
theorem MutL.lt {a : Addr} (m : MutL k ty lo u x cs) (ha : x.a = some a) : a.block < u.heap.size := by
 rcases m.2.2.2 with h1 | ⟨b, all, h1, h2, _⟩
 ·rw [h1] at ha; cases ha
 ·rw [h1] at ha; injection ha with ha; subst ha; exact zxa h2
theorem MutL.off (m : MutL k ty lo u x cs) (hh : u.heap.size ≤ h) : offB x h := fun a ha hc => by have := m.lt ha; omega
theorem MutL.take {m : Nat} (h0 : MutL k ty lo u x cs) (hm : m ≤ x.n) : MutL k ty lo u ⟨x.a, m, x.c⟩ (cs.take (m * k)) := by
 obtain ⟨h1, h2, h3, h4⟩ := h0
 refine ⟨by rw [List.length_take, h1]; exact Nat.min_eq_left (Nat.mul_le_mul_right _ hm), Nat.le_trans hm h2, h3, ?_⟩
 rcases h4 with h4 | ⟨b, all, g1, g2, g3, g4, g5⟩
 ·subst h4
  have : m = 0 := by simpa using hm
  subst this; exact .inl rfl
 ·refine .inr ⟨b, all, g1, g2, g3, ?_, g5⟩
  rw [← g4, List.take_take, Nat.min_eq_left (Nat.mul_le_mul_right _ hm)]
theorem MutL.cell {j : Nat} (m : MutL k ty lo u x cs) (hj : j < cs.length) : ∃ b, x.a = some ⟨b, 0, none⟩ ∧ u.cell? ⟨b, 0 + j, none⟩ = cs[j]? := by
 obtain ⟨h1, h2, h3, h4⟩ := m
 rcases h4 with h4 | ⟨b, all, g1, g2, g3, g4, g5⟩
 ·subst h4
  simp at h1; subst h1; simp at hj
 ·refine ⟨b, g1, ?_⟩
  rw [Nat.zero_add, cells_at g2, ← g4, List.getElem?_take_of_lt xq]; simp
theorem tcs_len (L : List TL) : (tcs L).length = L.length * 2 := by
 induction L with
 | nil => rfl
 | cons p L ih => show (p.cs ++ tcs L).length = _; rw [List.length_append, ih, List.length_cons]; simp [TL.cs]; omega
theorem tcs_at {L : List TL} (h : i < L.length) : ∀ j, j < 2 → (tcs L)[i * 2 + j]? = (L.getD i tl0).cs[j]? := by
 induction L generalizing i with
 | nil => simp at h
 | cons p L ih =>
  intro j hj
  show (p.cs ++ tcs L)[i * 2 + j]? = _
  cases i with
  | zero =>
   rw [Nat.zero_mul, Nat.zero_add, List.getElem?_append_left (by simp [TL.cs]; omega)]; rfl
  | succ i =>
   rw [show (i + 1) * 2 + j = p.cs.length + (i * 2 + j) by simp [TL.cs]; omega, List.getElem?_append_right xq, Nat.add_sub_cancel_left]
   exact ih (by simpa using h) j hj
theorem zwm (l : List Int) : (ics l).length = l.length := by unfold ics; simp
theorem ics_at {l : List Int} (h : i < l.length) : (ics l)[i]? = some (.int .i64 (l.getD i 0)) := by
 unfold ics
 rw [List.getElem?_map, List.getD_eq_getElem?_getD, List.getElem?_eq_getElem h]; rfl
theorem ics_set (l : List Int) (i : Nat) (z : Int) : (ics l).set i (.int .i64 z) = ics (l.set i z) := by unfold ics; rw [List.map_set]
theorem made_ints (n : Nat) : (madeCells #[Value.int .i64 0] (n * 1)).toList = ics (List.replicate n 0) := by
 unfold madeCells ics
 rw [List.map_replicate]
 refine List.eq_replicate_iff.2 ⟨by simp, fun b hb => ?_⟩
 simp at hb
 obtain ⟨x, _, rfl⟩ := hb
 rw [Nat.mod_one]; rfl
theorem MutL.lit {cs : List Value} (hu : u.heap[b]? = some (.cells cs.toArray ty (0, 0))) (hl : cs.length = n * k) (hn : n ≤ maxLen) (hb : lo ≤ b) : MutL k ty lo u ⟨some ⟨b, 0, none⟩, n, n⟩ cs :=
 ⟨hl, Nat.le_refl _, hn, .inr ⟨b, cs, rfl, hu, hl, by rw [List.take_of_length_le (by show _ ≤ n * k; omega)], hb⟩⟩
theorem sl_one (x : Sl) : ∀ v ∈ [x.v], v.oneCell' = true := fun v hv => by
 simp at hv; subst hv; rfl
theorem setL_ints {L : List Int} {z : Int} (hi : i < L.length) {off : Nat} (ho : off = i * 1) : setL (ics L) off (Value.int .i64 z).cells.toList = ics (L.set i z) := by
 subst ho
 rw [Nat.mul_one]
 have := setL_cons (cs := ics L) (off := i) (v := .int .i64 z) (vs := []) (by rw [zwm]; exact hi)
 rw [setL_nil] at this
 rw [← ics_set]; exact this.symm
end
def NodesB (lo h : Nat) (u : World) (x : Sl) (N : List (List TL)) : Prop :=
 ∃ Ls : List Sl, MutL 1 62 lo u x (Ls.map Sl.v) ∧ Ls.length = N.length ∧ ∀ i, i < N.length → MutL 2 64 lo u (Ls.getD i sl0) (tcs (N.getD i [])) ∧ offB (Ls.getD i sl0) h
section
variable {k lo lo' h h' b n c i : Nat} {ty t2 : TypeId} {u u' u'' v : World} {x y z : Sl} {cs cs' : List Value} {N : List (List TL)} {ts : List TL}
theorem NodesB.nil (lo h : Nat) (u : World) : NodesB lo h u ⟨none, 0, 0⟩ [] := ⟨[], .nil _ _ _ _, rfl, fun i hi => by simp at hi⟩
theorem NodesB.len (m : NodesB lo h u x N) : x.n = N.length := by
 obtain ⟨Ls, h1, h2, _⟩ := m
 have := h1.1
 rw [List.length_map, Nat.mul_one] at this
 omega
theorem NodesB.ext (m : NodesB lo h u x N) (e : Ext u u') : NodesB lo h u' x N := by
 obtain ⟨Ls, h1, h2, h3⟩ := m
 exact ⟨Ls, h1.ext e, h2, fun i hi => ⟨(h3 i hi).1.ext e, (h3 i hi).2⟩⟩
theorem NodesB.low (m : NodesB lo h u x N) (hl : lo' ≤ lo) : NodesB lo' h u x N := by
 obtain ⟨Ls, h1, h2, h3⟩ := m
 exact ⟨Ls, h1.low hl, h2, fun i hi => ⟨(h3 i hi).1.low hl, (h3 i hi).2⟩⟩
theorem NodesB.extT (m : NodesB lo h u x N) (e : ExtT t2 u u') (h1 : 62 ≠ t2) (h2 : 64 ≠ t2) : NodesB lo h u' x N := by
 obtain ⟨Ls, g1, g2, g3⟩ := m
 exact ⟨Ls, g1.extT e h1, g2, fun i hi => ⟨(g3 i hi).1.extT e h2, (g3 i hi).2⟩⟩
theorem getD_snoc {α : Type} (L : List α) (a z : α) (i : Nat) : (L ++ [a]).getD i z = if i < L.length then L.getD i z else if i = L.length then a else z := by
 rw [List.getD_eq_getElem?_getD]
 split
 ·rename_i h; rw [List.getElem?_append_left h, List.getD_eq_getElem?_getD]
 ·rename_i h
  rw [List.getElem?_append_right xq]
  split
  ·rename_i h2; rw [h2, Nat.sub_self]; rfl
  ·rename_i h2; rw [List.getElem?_eq_none yy]; rfl
theorem NodesB.snoc {Ls : List Sl} (h1 : MutL 1 62 lo u x (Ls.map Sl.v)) (h2 : Ls.length = N.length) (h3 : ∀ i, i < N.length → MutL 2 64 lo u (Ls.getD i sl0) (tcs (N.getD i [])) ∧ offB (Ls.getD i sl0) h)
  (my : MutL 2 64 lo u y (tcs ts)) (hy : offB y h) (e : ExtX x u u') (hm : MutL 1 62 lo u' z (Ls.map Sl.v ++ [y.v])) : NodesB lo h u' z (N ++ [ts]) := by
 have et := e.t h1
 refine ⟨Ls ++ [y], by rw [List.map_append]; exact hm, by simp [h2], fun i hi => ?_⟩
 rw [getD_snoc, getD_snoc, h2]
 by_cases hl : i < N.length
 ·rw [if_pos hl, if_pos hl]
  exact ⟨(h3 i hl).1.extT et yv, (h3 i hl).2⟩
 ·simp at hi
  rw [if_neg hl, if_neg hl, if_pos xq, if_pos xq]
  exact ⟨my.extT et yv, hy⟩
end
section
variable {P : Program} {ops : Array Oper} {w0 : Base} {u0 : World} {S T : St} {B : Tmp → Nat} {a : Act} {w w' u u' u'' v : World} {o : Oper} {p : List Tmp} {rest : List (Oper × List Tmp)} {K : St → World → Prop}
end
namespace Nt
theorem getD_setI (L : List Int) (i j : Nat) (z : Int) (h : i < L.length) : (L.set i z).getD j 0 = if i = j then z else L.getD j 0 := by
 rw [List.getD_eq_getElem?_getD, List.getD_eq_getElem?_getD]
 split
 ·rename_i e; subst e; rw [List.getElem?_set_self h]; rfl
 ·rename_i e; rw [List.getElem?_set_ne e]
end Nt
section
variable {lo h g : Nat} {u u' : World} {x y z : Sl} {N : List (List TL)} {cs : List Value}
def Sep (x y : Sl) : Prop := ∀ a b, x.a = some a → y.a = some b → a.block ≠ b.block
theorem Sep.symm (h : Sep x y) : Sep y x := fun a b ha hb e => h b a hb ha e.symm
theorem Sep.nil (y : Sl) : Sep ⟨none, 0, 0⟩ y := fun a b ha => by cases ha
theorem Sep.step {k : Nat} {ty : TypeId} (hs : Sep x y) (m : MutL k ty lo u x cs) (ho : ∀ a, z.a = some a → (y.a = some a ∨ u.heap.size ≤ a.block)) : Sep x z := fun a b ha hb e => by
 rcases ho b hb with h1 | h1
 ·exact hs a b ha h1 e
 ·have := m.lt ha
  omega
end
section
variable {P : Program} {ops : Array Oper} {w0 u0 : World} {seq : Bool} {o : Oper} {p : List Tmp} {rest : List (Oper × List Tmp)} {S : St} {u : World} {K : St → World → Prop}
end
variable {k lo lo' h b n c i : Nat} {ty t2 : TypeId} {u u' : World} {x y : Sl}
theorem nodes_at {Ls : List Sl} (m : MutL 1 ty lo u x (Ls.map Sl.v)) (hk : i < Ls.length) : ∃ b, x.a = some ⟨b, 0, none⟩ ∧ u.cell? ⟨b, 0 + i * 1, none⟩ = some (.slice (Ls.getD i sl0).a (Ls.getD i sl0).n (Ls.getD i sl0).c) := by
 obtain ⟨b, h1, h2⟩ := MutL.cell (j := i) m (by rw [List.length_map]; exact hk)
 refine ⟨b, h1, ?_⟩
 rw [Nat.mul_one, h2, List.getElem?_map, List.getD_eq_getElem?_getD, List.getElem?_eq_getElem hk]
 rfl
theorem terms_at {T : List TL} (m : MutL 2 ty lo u x (tcs T)) (hi : i < T.length) : ∃ b, x.a = some ⟨b, 0, none⟩ ∧ ∀ j, j < (T.getD i tl0).cs.length → u.cell? ⟨b, 0 + i * 2 + j, none⟩ = (T.getD i tl0).cs[j]? := by
 obtain ⟨b, h1, h2⟩ := MutL.cell (j := i * 2) m (by rw [tcs_len]; omega)
 refine ⟨b, h1, fun j hj => ?_⟩
 have hj : j < 2 := hj
 obtain ⟨b2, g1, g2⟩ := MutL.cell (j := i * 2 + j) m (by rw [tcs_len]; omega)
 rw [h1] at g1; injection g1 with g1; injection g1 with g1; subst g1
 rw [Nat.add_assoc, g2]
 exact tcs_at hi j hj
theorem tms_len {T : List TL} (m : MutL 2 ty lo u x (tcs T)) : x.n = T.length := by
 have := m.1
 rw [tcs_len] at this
 omega
theorem MutL.slr {l : List Int} (m : MutL 1 ty lo u x (ics l)) : SlR .i64 u x.a x.n x.c l := by
 have h1 := m.1
 rw [zwm] at h1
 refine ⟨by omega, m.2.1, m.2.2.1, fun hp => ?_⟩
 obtain ⟨b, e, _⟩ := MutL.cell (j := 0) m (by rw [zwm]; omega)
 refine ⟨b, 0, e, m.lt e, fun i hi => ?_⟩
 obtain ⟨b2, e2, g⟩ := MutL.cell (j := i) m (by rw [zwm]; omega)
 rw [e] at e2; injection e2 with e2; injection e2 with e2; subst e2
 rw [g, ics_at xq, List.getD_eq_getElem?_getD]
end Go.Proofs.YtifcjcecmoimjaaGreat
namespace Go.Proofs.YtifcjcecmoimjaaGreat
open Go.RowKit
set_option linter.unusedVariables false
def MutM (k : Nat) (ty : TypeId) (mb : Nat → Prop) (u : World) (x : Sl) (cs : List Value) : Prop :=
 cs.length = x.n * k ∧ x.n ≤ x.c ∧ x.c ≤ maxLen ∧ (x = ⟨none, 0, 0⟩ ∨ ∃ b all, x.a = some ⟨b, 0, none⟩ ∧ u.heap[b]? = some (.cells (List.toArray all) ty (0, 0)) ∧ all.length = x.c * k ∧ all.take (x.n * k) = cs ∧ mb b)
def NodesM (mb : Nat → Prop) (u : World) (x : Sl) (N : List (List TL)) : Prop :=
 ∃ Ls : List Sl, MutM 1 62 mb u x (Ls.map Sl.v) ∧ Ls.length = N.length ∧ ∀ i, i < N.length → MutM 2 64 (fun _ => True) u (Ls.getD i sl0) (tcs (N.getD i []))
section
variable {k c n i b : Nat} {ty t2 : TypeId} {mb mb' : Nat → Prop} {u u' u'' : World} {x y z : Sl} {cs : List Value} {N : List (List TL)} {ts : List TL} {F : List Nat}
theorem MutM.mono (m : MutM k ty mb u x cs) (h : ∀ b, b < u.heap.size → mb b → mb' b) : MutM k ty mb' u x cs :=
 ⟨m.1, m.2.1, m.2.2.1, m.2.2.2.imp id fun ⟨b, all, h1, h2, h3, h4, h5⟩ => ⟨b, all, h1, h2, h3, h4, h _ (zxa h2) h5⟩⟩
theorem MutM.ext (m : MutM k ty mb u x cs) (e : Ext u u') : MutM k ty mb u' x cs :=
 ⟨m.1, m.2.1, m.2.2.1, m.2.2.2.imp id fun ⟨b, all, h1, h2, h3⟩ => ⟨b, all, h1, e.cells h2, h3⟩⟩
theorem MutM.extB {cs' : Array Value} (m : MutM k ty mb u x cs) (e : ExtB b u u') (hb : u.heap[b]? = some (.cells cs' t2 (0, 0))) (ht : ty ≠ t2) : MutM k ty mb u' x cs :=
 ⟨m.1, m.2.1, m.2.2.1, m.2.2.2.imp id fun ⟨b', all, h1, h2, h3⟩ => ⟨b', all, h1, e.cells (ne_of_ty h2 hb ht) h2, h3⟩⟩
theorem MutM.nil (k : Nat) (ty : TypeId) (mb : Nat → Prop) (u : World) : MutM k ty mb u ⟨none, 0, 0⟩ [] := ⟨by simp, Nat.le_refl _, Nat.zero_le _, .inl rfl⟩
theorem MutM.lit {cs : List Value} (hu : u.heap[b]? = some (.cells cs.toArray ty (0, 0))) (hl : cs.length = n * k) (hn : n ≤ maxLen) (hb : mb b) : MutM k ty mb u ⟨some ⟨b, 0, none⟩, n, n⟩ cs :=
 ⟨hl, Nat.le_refl _, hn, .inr ⟨b, cs, rfl, hu, hl, by rw [List.take_of_length_le (by show _ ≤ n * k; omega)], hb⟩⟩
theorem MutM.toL (m : MutM k ty mb u x cs) : MutL k ty 0 u x cs :=
 ⟨m.1, m.2.1, m.2.2.1, m.2.2.2.imp id fun ⟨b, all, h1, h2, h3, h4, _⟩ => ⟨b, all, h1, h2, h3, h4, Nat.zero_le _⟩⟩
theorem MutL.toM {w0 : Base} {u0 : World} (m : MutL k ty u0.heap.size u x cs) : MutM k ty (MayB w0 u0) u x cs :=
 ⟨m.1, m.2.1, m.2.2.1, m.2.2.2.imp id fun ⟨b, all, h1, h2, h3, h4, h5⟩ => ⟨b, all, h1, h2, h3, h4, .inl h5⟩⟩
theorem NodesM.toB (m : NodesM mb u x N) : NodesB 0 u.heap.size u x N := by
 obtain ⟨Ls, g1, g2, g3⟩ := m
 exact ⟨Ls, g1.toL, g2, fun i hi => ⟨(g3 i hi).toL, (g3 i hi).toL.off (Nat.le_refl _)⟩⟩
theorem NodesM.nil (mb : Nat → Prop) (u : World) : NodesM mb u ⟨none, 0, 0⟩ [] := ⟨[], .nil _ _ _ _, rfl, fun i hi => by simp at hi⟩
theorem NodesM.len (m : NodesM mb u x N) : x.n = N.length := by
 obtain ⟨Ls, h1, h2, _⟩ := m
 have := h1.1
 rw [List.length_map, Nat.mul_one] at this
 omega
theorem NodesM.mono (m : NodesM mb u x N) (h : ∀ b, b < u.heap.size → mb b → mb' b) : NodesM mb' u x N := by
 obtain ⟨Ls, g1, g2, g3⟩ := m
 exact ⟨Ls, g1.mono h, g2, g3⟩
theorem NodesM.ext (m : NodesM mb u x N) (e : Ext u u') : NodesM mb u' x N := by
 obtain ⟨Ls, g1, g2, g3⟩ := m
 exact ⟨Ls, g1.ext e, g2, fun i hi => (g3 i hi).ext e⟩
theorem NodesM.extB {cs' : Array Value} (m : NodesM mb u x N) (e : ExtB b u u') (hb : u.heap[b]? = some (.cells cs' t2 (0, 0))) (h1 : 62 ≠ t2) (h2 : 64 ≠ t2) : NodesM mb u' x N := by
 obtain ⟨Ls, g1, g2, g3⟩ := m
 exact ⟨Ls, g1.extB e hb h1, g2, fun i hi => (g3 i hi).extB e hb h2⟩
end
section
variable {P : Program} {ops : Array Oper} {w0 : Base} {u0 : World} {S T : St} {B : Tmp → Nat} {a : Act} {w w' u u' u'' v : World} {o : Oper} {p : List Tmp} {rest : List (Oper × List Tmp)} {K : St → World → Prop} {mb : Nat → Prop}
theorem sy_appX (d : Tmp) {T E : TypeId} {s src : Operand} {z : Value} {size bytes : Nat} {b2 off m c : Nat} (x : Sl) (cs news : List Value) (hsz0 : u0.heap.size ≤ u.heap.size) (hm0 : MutM size E (MayB w0 u0) u x cs) (hT : P.underlying T = some (.slice E)) (hi : (P.info? E).map (fun i => (i.zero, i.size, i.bytes)) = some (some z, size, bytes)) (hzs : z.cells.size = size) (hsz : 0 < size)
  (hl : news.length = m * size) (hnews : ∀ j v, news[j]? = some v → u.cell? ⟨b2, off + j, none⟩ = some v) (h1 : ∀ v ∈ news, v.oneCell' = true) (hm : 0 < m) (h63 : x.n + m ≤ maxLen) (hbytes : (x.n + m) * bytes ≤ 140737488355328)
  (k : ∀ (y : Sl) (u1 : World), MutM size E (MayB w0 u0) u1 y (cs ++ news) → y.n = x.n + m → u.heap.size ≤ u1.heap.size → (∀ (t2 : TypeId) (cs' : Array Value) (b : Nat), t2 ≠ E → u.heap[b]? = some (.cells cs' t2 (0, 0)) → u1.heap[b]? = some (.cells cs' t2 (0, 0))) → sym P ops w0 u0 true rest (S.set d (.v y.v)) u1 K)
  (hw : Wants ops o S := by exact zwj xj) (hd : o.dst = some d := by kernel_rfl) (hop : o.op = .call { callee := .builtin .append, args := #[s, src], argTypes := #[T, T] } := by rfl) (hf : freeB S d = true := by kernel_rfl)
  (hs : evO S s = some (.v x.v) := by rfl) (hx : evO S src = some (.v (.slice (some ⟨b2, off, none⟩) m c)) := by rfl) : sym P ops w0 u0 true ((o, p) :: rest) S u K := by
 obtain ⟨q1, q2, q3, q4⟩ := id hm0
 rcases q4 with q4 | ⟨b, all, g1, g2, g3, g4, g5⟩
 ·subst q4
  have hcs : cs = [] := List.eq_nil_of_length_eq_zero (by rw [q1]; simp)
  subst hcs
  have h63' : m ≤ maxLen := by have h9 : 0 + m ≤ maxLen := h63; omega
  have hby' : m * bytes ≤ 140737488355328 := by have h9 : (0 + m) * bytes ≤ _ := hbytes; rwa [Nat.zero_add] at h9
  refine sy_appD0 d (E := E) (z := z) news hT hi hzs hsz hl hnews h1 hm h63' hby' (fun g c1 cs1 u1 k1 k2 k3 k4 k5 k6 k7 k8 => ?_) hw hd hop hf hs hx
  exact k ⟨some ⟨g, 0, none⟩, m, c1⟩ u1 ⟨by simpa using hl, k1, k2, .inr ⟨g, cs1, rfl, k5, k3, by simpa using k4, .inl k7⟩⟩ (by show m = 0 + m; omega) k8.size (fun t2 cs' b' _ h => k8.cells h)
 ·have hs' : evO S s = some (.v (.slice (some ⟨b, 0, none⟩) x.n x.c)) := by rw [hs, ← g1]
  refine sy_appD d (E := E) (z := z) (n := x.n) (cap := x.c) (cs0 := all) (b := b) news hT hi hzs hsz hl hnews h1 hm h63 hbytes q2 q3 g3 g2 g5 (fun g c1 cs1 u1 k1 k2 k3 k4 k5 k6 k7 => ?_) hw hd hop hf hs' hx
  refine k ⟨some ⟨g, 0, none⟩, x.n + m, c1⟩ u1 ⟨by rw [List.length_append, q1, hl, Nat.add_mul], k1, k2, .inr ⟨g, cs1, rfl, k5, k3, by rw [k4, g4], ?_⟩⟩ rfl k7.size (fun t2 cs' b' ht h => k7.cells (ne_of_ty h g2 ht) h)
  rcases k6 with k6 | k6
  ·rw [k6]; exact g5
  ·exact .inl xq
theorem sy_storeX {T ty : TypeId} {r : Tmp} {zo : Operand} {z : Int} {i b : Nat} {l : List Int} (x : Sl) (hm0 : MutM 1 ty (MayB w0 u0) u x (ics l)) (hb : x.a = some ⟨b, 0, none⟩) (hT : TyIs P T false 1) (hi : i < l.length)
  (k : ∀ (u1 : World), MutM 1 ty (MayB w0 u0) u1 x (ics (l.set i z)) → u.heap.size ≤ u1.heap.size → (∀ (t2 : TypeId) (cs' : Array Value) (b : Nat), t2 ≠ ty → u.heap[b]? = some (.cells cs' t2 (0, 0)) → u1.heap[b]? = some (.cells cs' t2 (0, 0))) → sym P ops w0 u0 true rest S u1 K)
  (hw : Wants ops o S := by exact zwj xj) (hd : o.dst = none := by kernel_rfl) (hop : o.op = .store T (.tmp r) zo := by rfl) (hr : S.reg r = some (.v (.pointer (some ⟨b, 0 + i * 1, none⟩))) := by rfl) (hz : evO S zo = some (.v (.int .i64 z)) := by rfl) : sym P ops w0 u0 true ((o, p) :: rest) S u K := by
 obtain ⟨q1, q2, q3, q4⟩ := id hm0
 rcases q4 with q4 | ⟨b', all, g1, g2, g3, g4, g5⟩
 ·subst q4; cases hb
 ·rw [hb] at g1; injection g1 with g1; injection g1 with g1 _ _; subst g1
  rw [Nat.zero_add, Nat.mul_one] at hr
  rw [zwm] at q1
  refine sy_storeD (b := b) (off := i) (cs := all) (n := 1) g2 g5 hT xq (fun u1 k1 k2 => ?_) hw hd hop hr hz
  refine k u1 ⟨by rw [zwm, List.length_set]; exact q1, q2, q3, .inr ⟨b, _, hb, k1, ?_, ?_, g5⟩⟩ k2.size (fun t2 cs' b' ht h => k2.cells (ne_of_ty h g2 ht) h)
  ·rw [setL_length (by show i + 1 ≤ _; omega)]; exact g3
  ·have e : setL all i (Value.int .i64 z).cells.toList = all.set i (.int .i64 z) := by
    have := setL_cons (cs := all) (off := i) (v := .int .i64 z) (vs := []) xq
    rw [setL_nil] at this
    exact this.symm
   rw [e, ← ics_set, ← g4, List.take_set]
end
section
variable {k c n i b : Nat} {ty t2 E : TypeId} {mb mb' : Nat → Prop} {u u' u'' : World} {x y z : Sl} {cs : List Value} {N : List (List TL)} {ts : List TL} {F : List Nat}
def KeepT (E : TypeId) (u u' : World) : Prop := ∀ (t2 : TypeId) (cs' : Array Value) (b : Nat), t2 ≠ E → u.heap[b]? = some (.cells cs' t2 (0, 0)) → u'.heap[b]? = some (.cells cs' t2 (0, 0))
theorem MutM.keep (m : MutM k ty mb u x cs) (h : KeepT E u u') (ht : ty ≠ E) : MutM k ty mb u' x cs :=
 ⟨m.1, m.2.1, m.2.2.1, m.2.2.2.imp id fun ⟨b, all, h1, h2, h3⟩ => ⟨b, all, h1, h _ _ _ ht h2, h3⟩⟩
theorem NodesM.keep (m : NodesM mb u x N) (h : KeepT E u u') (h1 : 62 ≠ E) (h2 : 64 ≠ E) : NodesM mb u' x N := by
 obtain ⟨Ls, g1, g2, g3⟩ := m
 exact ⟨Ls, g1.keep h h1, g2, fun i hi => (g3 i hi).keep h h2⟩
theorem NodesM.snoc {Ls : List Sl} (h2 : Ls.length = N.length) (h3 : ∀ i, i < N.length → MutM 2 64 (fun _ => True) u (Ls.getD i sl0) (tcs (N.getD i []))) (my : MutM 2 64 (fun _ => True) u y (tcs ts)) (e : KeepT 62 u u') (hm : MutM 1 62 mb u' z (Ls.map Sl.v ++ [y.v])) : NodesM mb u' z (N ++ [ts]) := by
 refine ⟨Ls ++ [y], by rw [List.map_append]; exact hm, by simp [h2], fun i hi => ?_⟩
 rw [getD_snoc, getD_snoc, h2]
 by_cases hl : i < N.length
 ·rw [if_pos hl, if_pos hl]
  exact (h3 i hl).keep e yv
 ·simp at hi
  rw [if_neg hl, if_neg hl, if_pos xq, if_pos xq]
  exact my.keep e yv
theorem zxc {cs : List Value} {v : Value} {j : Nat} (h : u.heap[b]? = some (.cells cs.toArray ty (0, 0))) (hj : cs[j]? = some v) : u.cell? ⟨b, j, none⟩ = some v := by
 rw [cells_at h]; simpa using hj
end
structure BL where
 D : WL
 W : WL
 n : Nat
 X : Sl
 Y : Sl
 o : Int
 t : Int
 f : Nat
def BL.cs (r : BL) : List Value := [.int .i64 r.D.b, .int .i64 r.D.f, .int .i64 r.D.r, .int .i64 r.D.o, .int .i64 r.W.b, .int .i64 r.W.f, .int .i64 r.W.r, .int .i64 r.W.o, .int .i64 (r.n : Int), .slice r.X.a r.X.n r.X.c, .slice r.Y.a r.Y.n r.Y.c, .int .i64 r.o, .int .i64 r.t, .int .i64 (r.f : Int)]
def BldR (TB : TypeId) (mb : Nat → Prop) (u : World) (bb : Nat) (r : BL) (N : List (List TL)) (s : List Int) : Prop :=
 u.heap[bb]? = some (.cells r.cs.toArray TB (0, 0)) ∧ mb bb ∧ NodesM mb u r.X N ∧ MutM 1 3 mb u r.Y (ics s)
def blks (bb : Nat) (r : BL) : List Nat := bb :: ((r.X.a.toList ++ r.Y.a.toList).map (·.block))
section
variable {TB : TypeId} {mb mb' : Nat → Prop} {u u' : World} {bb : Nat} {r : BL} {N : List (List TL)} {s : List Int} {w0 : Base} {u0 : World}
theorem BldR.mono (h : BldR TB mb u bb r N s) (k : ∀ b, b < u.heap.size → mb b → mb' b) : BldR TB mb' u bb r N s :=
 ⟨h.1, k _ (zxa h.1) h.2.1, h.2.2.1.mono k, h.2.2.2.mono k⟩
theorem BldR.ext (h : BldR TB mb u bb r N s) (e : Ext u u') : BldR TB mb u' bb r N s := ⟨e.cells h.1, h.2.1, h.2.2.1.ext e, h.2.2.2.ext e⟩
theorem BldR.own (h : BldR TB mb u bb r N s) : BldR TB (· ∈ blks bb r) u bb r N s := by
 obtain ⟨h1, h2, ⟨Ls, g1, g2, g3⟩, h4⟩ := h
 refine ⟨h1, List.mem_cons_self .., ⟨Ls, ⟨g1.1, g1.2.1, g1.2.2.1, g1.2.2.2.imp id fun ⟨b, all, k1, k2, k3, k4, _⟩ => ⟨b, all, k1, k2, k3, k4, ?_⟩⟩, g2, g3⟩, ⟨h4.1, h4.2.1, h4.2.2.1, h4.2.2.2.imp id fun ⟨b, all, k1, k2, k3, k4, _⟩ => ⟨b, all, k1, k2, k3, k4, ?_⟩⟩⟩
 ·exact List.mem_cons_of_mem _ (List.mem_map.2 ⟨⟨b, 0, none⟩, by rw [k1]; simp, rfl⟩)
 ·exact List.mem_cons_of_mem _ (List.mem_map.2 ⟨⟨b, 0, none⟩, by rw [k1]; simp, rfl⟩)
theorem BldR.may (h : BldR TB (MayB w0 u0) u bb r N s) : ∀ b ∈ blks bb r, MayB w0 u0 b ∧ ∃ ob, u.heap[b]? = some ob ∧ ob ≠ hidO := by
 obtain ⟨h1, h2, ⟨Ls, g1, g2, g3⟩, h4⟩ := h
 have nh : ∀ (cs : Array Value) (t : TypeId), Obj.cells cs t (0, 0) ≠ hidO := fun cs t => cells_not_hid
 intro b hb
 rcases List.mem_cons.1 hb with rfl | hb
 ·exact ⟨h2, _, h1, nh _ _⟩
 ·obtain ⟨a, ha, rfl⟩ := List.mem_map.1 hb
  rcases List.mem_append.1 ha with ha | ha
  ·rcases g1.2.2.2 with e | ⟨b', all, k1, k2, _, _, k5⟩
   ·rw [e] at ha; simp at ha
   ·rw [k1] at ha; simp at ha; subst ha; exact ⟨k5, _, k2, nh _ _⟩
  ·rcases h4.2.2.2 with e | ⟨b', all, k1, k2, _, _, k5⟩
   ·rw [e] at ha; simp at ha
   ·rw [k1] at ha; simp at ha; subst ha; exact ⟨k5, _, k2, nh _ _⟩
theorem ExtF.root {w : World} {r : BL} {bb : Nat} {N : List (List TL)} {s : List Int} {u1 u2 : World} (h : ExtF (blks bb r) u1 u2) (hA : BldR TB (MayB ⟨w, none, []⟩ u0) u1 bb r N s) (e : Ext u0 u1) : Ext u0 u2 :=
 h.old e fun b hb ob ho => by
  rcases (hA.may b hb).1 with h9 | h9
  ·have := zxa ho
   omega
  ·cases h9
theorem BldR.back {F : List Nat} {u1 : World} (h : BldR TB (fun b => b ∈ F ∨ u1.heap.size ≤ b) u bb r N s) (hF : ∀ b ∈ F, MayB w0 u0 b) (hs : u0.heap.size ≤ u1.heap.size) : BldR TB (MayB w0 u0) u bb r N s :=
 h.mono fun b _ hb => hb.elim (hF b) fun h => .inl (Nat.le_trans hs h)
theorem BldR.free {F : List Nat} {w : World} (h : BldR TB (· ∈ F) u bb r N s) : BldR TB (MayB ⟨w, none, F⟩ u0) u bb r N s := h.mono fun b _ hb => .inr hb
end
end Go.Proofs.YtifcjcecmoimjaaGreat
namespace Go.Proofs.YtifcjcecmoimjaaGreat
set_option linter.unusedVariables false
open Go.RowKit
theorem ty3 : TyIs Tryz.prog 3 false 1 := fun w => ⟨by kernel_rfl, by kernel_rfl⟩
theorem ty4 : TyIs Tryz.prog 4 false 1 := fun w => ⟨by kernel_rfl, by kernel_rfl⟩
theorem ty29 : TyIs Tryz.prog 29 true 3 := fun w => ⟨by kernel_rfl, by kernel_rfl⟩
theorem ty30 : TyIs Tryz.prog 30 true 2 := fun w => ⟨by kernel_rfl, by kernel_rfl⟩
theorem ty34 : TyIs Tryz.prog 34 true 4 := fun w => ⟨by kernel_rfl, by kernel_rfl⟩
theorem ty37 : TyIs Tryz.prog 37 false 1 := fun w => ⟨by kernel_rfl, by kernel_rfl⟩
theorem ty40 : TyIs Tryz.prog 40 false 1 := fun w => ⟨by kernel_rfl, by kernel_rfl⟩
theorem ty42 : TyIs Tryz.prog 42 true 2 := fun w => ⟨by kernel_rfl, by kernel_rfl⟩
theorem ty48 : TyIs Tryz.prog 48 true 2 := fun w => ⟨by kernel_rfl, by kernel_rfl⟩
theorem ty49 : TyIs Tryz.prog 49 false 1 := fun w => ⟨by kernel_rfl, by kernel_rfl⟩
theorem ty51 : TyIs Tryz.prog 51 true 2 := fun w => ⟨by kernel_rfl, by kernel_rfl⟩
theorem ty53 : TyIs Tryz.prog 53 false 1 := fun w => ⟨by kernel_rfl, by kernel_rfl⟩
theorem ty55 : TyIs Tryz.prog 55 true 12 := fun w => ⟨by kernel_rfl, by kernel_rfl⟩
theorem ty60 : TyIs Tryz.prog 60 false 1 := fun w => ⟨by kernel_rfl, by kernel_rfl⟩
theorem ty62 : TyIs Tryz.prog 62 true 1 := fun w => ⟨by kernel_rfl, by kernel_rfl⟩
theorem ty64 : TyIs Tryz.prog 64 true 2 := fun w => ⟨by kernel_rfl, by kernel_rfl⟩
theorem ty70 : TyIs Tryz.prog 70 false 1 := fun w => ⟨by kernel_rfl, by kernel_rfl⟩
theorem ty72 : TyIs Tryz.prog 72 true 2 := fun w => ⟨by kernel_rfl, by kernel_rfl⟩
theorem ty74 : TyIs Tryz.prog 74 true 3 := fun w => ⟨by kernel_rfl, by kernel_rfl⟩
theorem ty114 : TyIs Tryz.prog 114 true 3 := fun w => ⟨by kernel_rfl, by kernel_rfl⟩
theorem ty121 : TyIs Tryz.prog 121 true 14 := fun w => ⟨by kernel_rfl, by kernel_rfl⟩
theorem ty159 : TyIs Tryz.prog 159 false 1 := fun w => ⟨by kernel_rfl, by kernel_rfl⟩
theorem ty171 : TyIs Tryz.prog 171 true 3 := fun w => ⟨by kernel_rfl, by kernel_rfl⟩
theorem ty173 : TyIs Tryz.prog 173 true 4 := fun w => ⟨by kernel_rfl, by kernel_rfl⟩
theorem sl37 : SlIs Tryz.prog 37 1 := ⟨3, false, by kernel_rfl, ty3⟩
theorem sl39 : SlIs Tryz.prog 39 3 := ⟨74, true, by kernel_rfl, ty74⟩
theorem sl40 : SlIs Tryz.prog 40 3 := ⟨74, true, by kernel_rfl, ty74⟩
theorem sl49 : SlIs Tryz.prog 49 3 := ⟨114, true, by kernel_rfl, ty114⟩
theorem sl53 : SlIs Tryz.prog 53 1 := ⟨62, true, by kernel_rfl, ty62⟩
theorem sl60 : SlIs Tryz.prog 60 2 := ⟨64, true, by kernel_rfl, ty64⟩
theorem sl70 : SlIs Tryz.prog 70 1 := ⟨159, false, by kernel_rfl, ty159⟩
end Go.Proofs.YtifcjcecmoimjaaGreat
namespace Go.Proofs.YtifcjcecmoimjaaGreat
open Go.RowKit
set_option linter.unusedVariables false
theorem k_riTrim {u w : World} {i1 : IL} {zN : Int} {K : Nat} (d : Dat u w) (hi1 : IntV u i1 zN K) (hK : K ≤ 500000000) : Calls Tryz.prog 138 #[i1.v] w (Post u w fun v u' => ∃ i : IL, v = i.v ∧ IntN u' i zN K) := by
 obtain ⟨N, hN, hzN⟩ := hi1
 refine zzm (args := [i1.v]) Tryz.func138 rfl Tryz.ntmps138 (rs := [.cell 2 72]) Tryz.results138 (le_b rfl) (le_b rfl) d ?_
 refine sq9 (zzk 1 ⟨72, i1.cs⟩ (zzk 2 ⟨72, [.bool false, .slice none 0 0]⟩ (zzb (sq9 (zza 4 (.adr 1 1) (zzi 5 (.v i1.m.v) ty70 zzl (zzg 6 165 [i1.m.v] ?_)))))))
 intro w11 u11 e11 d11
 have k16 := k_rnTrim d11 (hN.ext e11) xq
 with_reducible refine zPm k16 ?_
 rintro _ u14 g15 ⟨x12, rfl, h13⟩
 refine zza 3 (.v x12.v) (zzb (sq9 (zza 7 (.adr 1 0) (zzi 8 (zB i1.s) ty4 zzl ?_))))
 rcases Bool.eq_false_or_eq_true i1.s with hs17 | hs17
 ·refine zyq 9 (x := zB i1.s) (zB true) (by rw [hs17]) (zza 10 (.v x12.v) ?_ (hw := w1 2 true 9))
  refine zza 11 (zI x12.n) ?_ (hw := w1 2 true 9)
  refine zza 12 (zB (decide ((0 : Int) < (x12.n : Int)))) ?_ (hw := w1 2 true 9)
  refine zza 13 (zB (decide ((0 : Int) < (x12.n : Int)))) (zza 14 (.v x12.v) (zza 15 (.v (.agg #[.bool (decide ((0 : Int) < (x12.n : Int))), x12.v])) (zzj ⟨72, [.bool (decide ((0 : Int) < (x12.n : Int))), x12.v]⟩ ty72 ?_)))
  refine zzb (zzo (ret0 [.agg #[.bool (decide ((0 : Int) < (x12.n : Int))), .slice x12.a x12.n x12.c]] ⟨zzr ty72 zze, trivial⟩ fun u18 e19 => ?_))
  refine ⟨⟨_, x12⟩, rfl, ?_⟩
  rw [hzN, hs17]
  exact signed_int (s := true) (h13.ext e19)
 ·refine zyq 9 (x := zB i1.s) (zB false) (by rw [hs17]) (zzn 10 (uw 2 true false 9) (zzn 11 (uw 2 true false 9) (zzn 12 (uw 2 true false 9) (zza 13 (zB false) (zza 14 (.v x12.v) (zza 15 (.v (.agg #[.bool false, x12.v])) (zzj ⟨72, [.bool false, x12.v]⟩ ty72 ?_)))))))
  refine zzb (zzo (ret0 [.agg #[.bool false, .slice x12.a x12.n x12.c]] ⟨zzr ty72 zze, trivial⟩ fun u20 e21 => ?_))
  refine ⟨⟨_, x12⟩, rfl, ?_⟩
  rw [hzN, hs17]
  exact signed_int (s := false) (h13.ext e21)
theorem k_riSign {u w : World} {i1 : IL} {zN : Int} {K : Nat} (d : Dat u w) (hi1 : IntV u i1 zN K) (hK : K ≤ 500000000) : Calls Tryz.prog 134 #[i1.v] w (Post u w fun v u' => v = .int .i64 (Nt.cmpS zN 0)) := by
 refine zzm (args := [i1.v]) Tryz.func134 rfl Tryz.ntmps134 (rs := [.tmp 2]) Tryz.results134 (le_b rfl) (le_b rfl) d ?_
 refine sq9 (zzk 1 ⟨72, i1.cs⟩ (zza 2 (zI 0) (zzb (sq9 (zzi 3 (.v (i1.v)) ty72 zze (zzg 4 138 [i1.v] ?_))))))
 intro w11 u11 e11 d11
 have k16 := k_riTrim d11 (hi1.ext e11) xq
 with_reducible refine zPm k16 ?_
 rintro _ u14 g15 ⟨i12, rfl, h13⟩
 refine zzj ⟨72, i12.cs⟩ ty72 ?_
 refine zzb (zzd (zzt (sq9 (zza 6 (.adr 1 1) (zzi 7 (.v i12.m.v) ty70 zzl (zza 8 (zI i12.m.n) (zza 9 (zB ((i12.m.n : Int) == 0)) (zza 5 (zB ((i12.m.n : Int) == 0)) (zzb (zzu (b := (i12.m.n : Int) == 0) xj (fun hb17 => ?_) (fun hb17 => ?_)))))))))))
 ·replace hb17 : ((i12.m.n : Int) == 0) = true := hb17
  have qhb17 : (i12.m.n : Int) = 0 := by simpa using hb17
  refine sq9 (zza 2 (zI 0) (zzb (zzo (zyu (zzw (ret0 [.int .i64 0] ⟨zzq, trivial⟩ fun u18 e19 => ?_))))))
  show _ = _
  rw [sign_len h13, if_pos hb17]
  rfl
 ·replace hb17 : ((i12.m.n : Int) == 0) = false := hb17
  have qhb17 : ¬ ((i12.m.n : Int) = 0) := by simpa using hb17
  refine sq9 (zza 11 (.adr 1 0) (zzi 12 (zB i12.s) ty4 zzl (zza 10 (zB i12.s) (zzb (zzu (b := i12.s) xj (fun hb20 => ?_) (fun hb20 => ?_))))))
  ·replace hb20 : i12.s = true := hb20
   refine sq9 (zza 2 (zI (-1)) (zzb (zzo (zyu (zzw (ret0 [.int .i64 (-1)] ⟨zzq, trivial⟩ fun u21 e22 => ?_))))))
   show _ = _
   rw [sign_len h13, if_neg (ne_true_of_eq_false hb17), if_pos hb20]
   rfl
  ·replace hb20 : i12.s = false := hb20
   refine zzs (zzp ?_)
   refine sq9 (zza 2 (zI 1) (zzb (zzo (ret0 [.int .i64 1] ⟨zzq, trivial⟩ fun u23 e24 => ?_))))
   show _ = _
   rw [sign_len h13, if_neg (ne_true_of_eq_false hb17), if_neg (ne_true_of_eq_false hb20)]
   rfl
theorem k_riNeg {u w : World} {i1 : IL} {zN : Int} {K : Nat} (d : Dat u w) (hi1 : IntV u i1 zN K) (hK : K ≤ 500000000) : Calls Tryz.prog 137 #[i1.v] w (Post u w fun v u' => ∃ i : IL, v = i.v ∧ IntN u' i (-zN) K) := by
 refine zzm (args := [i1.v]) Tryz.func137 rfl Tryz.ntmps137 (rs := [.cell 2 72]) Tryz.results137 (le_b rfl) (le_b rfl) d ?_
 refine sq9 (zzk 1 ⟨72, i1.cs⟩ (zzk 2 ⟨72, [.bool false, .slice none 0 0]⟩ (zzb (sq9 (zzi 3 (.v (i1.v)) ty72 zze (zzg 4 138 [i1.v] ?_))))))
 intro w11 u11 e11 d11
 have k16 := k_riTrim d11 (hi1.ext e11) xq
 with_reducible refine zPm k16 ?_
 rintro _ u14 g15 ⟨i12, rfl, h13⟩
 refine zzj ⟨72, i12.cs⟩ ty72 ?_
 refine zzb (sq9 (zza 5 (.adr 1 0) (zzi 6 (zB i12.s) ty4 zzl (zza 7 (zB (!i12.s)) ?_))))
 rcases Bool.eq_false_or_eq_true (!i12.s) with hs17 | hs17
 ·refine zyq 8 (x := zB (!i12.s)) (zB true) (by rw [hs17]) (zza 9 (.adr 1 1) ?_ (hw := w1 3 true 8))
  refine zzi 10 (.v i12.m.v) ty70 zzl ?_ (hw := w1 3 true 8)
  refine zza 11 (zI i12.m.n) ?_ (hw := w1 3 true 8)
  refine zza 12 (zB (decide ((0 : Int) < (i12.m.n : Int)))) ?_ (hw := w1 3 true 8)
  refine zza 13 (zB (decide ((0 : Int) < (i12.m.n : Int)))) (zza 14 (.adr 1 0) (zzj ⟨72, [.bool (decide ((0 : Int) < (i12.m.n : Int))), i12.m.v]⟩ ty4 ?_))
  refine zzb (sq9 (zzi 15 (.v (.agg #[.bool (decide ((0 : Int) < (i12.m.n : Int))), i12.m.v])) ty72 zze (zzj ⟨72, [.bool (decide ((0 : Int) < (i12.m.n : Int))), i12.m.v]⟩ ty72 ?_)))
  refine zzb (zzo (ret0 [.agg #[.bool (decide ((0 : Int) < (i12.m.n : Int))), .slice i12.m.a i12.m.n i12.m.c]] ⟨zzr ty72 zze, trivial⟩ fun u18 e19 => ?_))
  refine ⟨⟨_, i12.m⟩, rfl, ?_⟩
  have h9 := neg_int (h13.ext e19)
  rw [hs17] at h9
  exact h9
 ·refine zyq 8 (x := zB (!i12.s)) (zB false) (by rw [hs17]) (zzn 9 (uw 3 true false 8) (zzn 10 (uw 3 true false 8) (zzn 11 (uw 3 true false 8) (zzn 12 (uw 3 true false 8) (zza 13 (zB false) (zza 14 (.adr 1 0) (zzj ⟨72, [.bool false, i12.m.v]⟩ ty4 ?_)))))))
  refine zzb (sq9 (zzi 15 (.v (.agg #[.bool false, i12.m.v])) ty72 zze (zzj ⟨72, [.bool false, i12.m.v]⟩ ty72 ?_)))
  refine zzb (zzo (ret0 [.agg #[.bool false, .slice i12.m.a i12.m.n i12.m.c]] ⟨zzr ty72 zze, trivial⟩ fun u20 e21 => ?_))
  refine ⟨⟨_, i12.m⟩, rfl, ?_⟩
  have h9 := neg_int (h13.ext e21)
  rw [hs17] at h9
  exact h9
theorem k_riGcd {u w : World} {i1 : IL} {zN : Int} {K : Nat} {i2 : IL} {zM : Int} {L : Nat} (d : Dat u w) (hi1 : IntV u i1 zN K) (hi2 : IntV u i2 zM L) (hK : K ≤ 500000000) (hL : L ≤ 500000000) : Calls Tryz.prog 135 #[i1.v, i2.v] w (Post u w fun v u' => ∃ i : IL, v = i.v ∧ IntN u' i (Nat.gcd zN.natAbs zM.natAbs : Int) (max K L)) := by
 refine zzm (args := [i1.v, i2.v]) Tryz.func135 rfl Tryz.ntmps135 (rs := [.cell 4 72]) Tryz.results135 (le_b rfl) (le_b rfl) d ?_
 refine sq9 (zzk 2 ⟨72, i1.cs⟩ (zzk 3 ⟨72, i2.cs⟩ (zzk 4 ⟨72, [.bool false, .slice none 0 0]⟩ (zzb (sq9 (zza 5 (.adr 2 1) (zzi 6 (.v i1.m.v) ty70 zzl (zza 7 (.adr 3 1) (zzi 8 (.v i2.m.v) ty70 zzl (zzg 9 161 [i1.m.v, i2.m.v] ?_))))))))))
 intro w11 u11 e11 d11
 have k16 := k_rnGcd d11 ((IntV.abs hi1).ext e11) ((IntV.abs hi2).ext e11) xq xq
 with_reducible refine zPm k16 ?_
 rintro _ u14 g15 ⟨x12, rfl, h13⟩
 refine zza 10 (.v (.agg #[.bool false, x12.v])) (zzj ⟨72, [.bool false, x12.v]⟩ ty72 ?_)
 refine zzb (zzo (ret0 [.agg #[.bool false, .slice x12.a x12.n x12.c]] ⟨zzr ty72 zze, trivial⟩ fun u17 e18 => ?_))
 exact ⟨(⟨false, x12⟩ : IL), rfl, (nat_intN (h13.ext e18))⟩
theorem k_riSame {u w : World} {i1 i2 : IL} {z z' : Int} {K L : Nat} (d : Dat u w) (hi1 : IntN u i1 z K) (hi2 : IntN u i2 z' L) : Calls Tryz.prog 175 #[i1.v, i2.v] w (Post u w fun v _ => v = .bool (decide (z = z'))) := by
 refine zzm (args := [i1.v, i2.v]) Tryz.func175 rfl Tryz.ntmps175 (rs := [.tmp 4]) Tryz.results175 (le_b rfl) (le_b rfl) d ?_
 refine sq9 (zzk 2 ⟨72, i1.cs⟩ (zzk 3 ⟨72, i2.cs⟩ (zza 4 (zB false) (zzb (sq9 (zza 5 (.adr 2 0) (zzi 6 (zB i1.s) ty4 zzl (zza 7 (.adr 3 0) (zzi 8 (zB i2.s) ty4 zzl (zza 9 (zB (i1.s == i2.s)) ?_))))))))))
 rcases Bool.eq_false_or_eq_true (i1.s == i2.s) with hs11 | hs11
 ·refine zyq 10 (x := zB (i1.s == i2.s)) (zB true) (by rw [hs11]) (zza 11 (.adr 2 1) ?_ (hw := w1 5 true 10))
  refine zzi 12 (.v i1.m.v) ty70 zzl ?_ (hw := w1 5 true 10)
  refine zza 13 (.adr 3 1) ?_ (hw := w1 5 true 10)
  refine zzi 14 (.v i2.m.v) ty70 zzl ?_ (hw := w1 5 true 10)
  refine zzg 15 176 [i1.m.v, i2.m.v] ?_ (hw := w1 5 true 10)
  intro w12 u12 e12 d12
  have k15 := k_rnSame d12 ((int_mag hi1).ext e12) ((int_mag hi2).ext e12)
  with_reducible refine zPm k15 ?_
  rintro _ u13 g14 rfl
  refine zza 16 (zB (decide ((z : Int).natAbs = (z' : Int).natAbs))) (zza 4 (zB (decide ((z : Int).natAbs = (z' : Int).natAbs))) (zzb (zzo (ret0 [.bool (decide ((z : Int).natAbs = (z' : Int).natAbs))] ⟨zzq, trivial⟩ fun u16 e17 => ?_))))
  show _ = _
  rw [← same_int hi1 hi2, hs11]
  rfl
 ·refine zyq 10 (x := zB (i1.s == i2.s)) (zB false) (by rw [hs11]) (zzn 11 (uw 5 true false 10) (zzn 12 (uw 5 true false 10) (zzn 13 (uw 5 true false 10) (zzn 14 (uw 5 true false 10) (zzn 15 (uw 5 true false 10) (zza 16 (zB false) (zza 4 (zB false) (zzb (zzo (ret0 [.bool false] ⟨zzq, trivial⟩ fun u18 e19 => ?_))))))))))
  show _ = _
  rw [← same_int hi1 hi2, hs11]
  rfl
theorem k_riOf {u w : World} {z : Int} (d : Dat u w) (h0 : -9223372036854775808 ≤ z) (h1 : z ≤ 9223372036854775807) : Calls Tryz.prog 97 #[.int .i64 z] w (Post u w fun v u' => ∃ i : IL, v = i.v ∧ IntN u' i z 2) := by
 by_cases hneg : z < 0
 ·refine zzm (args := [.int .i64 z]) Tryz.func97 rfl Tryz.ntmps97 (rs := [.cell 2 72]) Tryz.results97 (le_b rfl) (le_b rfl) d ?_
  refine sq9 (zzk 2 ⟨72, [.bool false, .slice none 0 0]⟩ (zzb (zzd (sq9 (zza 4 (zI z) (zyq 5 (x := zB (decide (z < 0))) (zB true) (by rw [show (decide (z < 0)) = true from yy]) (zzb (zyr xj (sq9 (zza 6 (zI z) (zyq 7 (x := zI (IntKind.i64.wrap (z + 1))) (zI (z + 1)) (by rw [show (IntKind.i64.wrap (z + 1)) = (z + 1) from (IntWalk.i64_in _ xq)]) ?_)))))))))))
  refine zyq 8 (x := zI (IntKind.i64.wrap (0 - (z + 1)))) (zI (-z - 1)) (by rw [show (IntKind.i64.wrap (0 - (z + 1))) = (-z - 1) from xz]) (zyq 9 (x := .v (.int .u64 (IntKind.u64.wrap (-z - 1)))) (.v (.int .u64 (-z - 1))) (by rw [show (IntKind.u64.wrap (-z - 1)) = (-z - 1) from (IntWalk.u64_in _ xq)]) (zyq 10 (x := .v (.int .u64 (IntKind.u64.wrap (-z - 1 + 1)))) (.v (.int .u64 (-z))) (by rw [show (IntKind.u64.wrap (-z - 1 + 1)) = (-z) from (by rw [IntWalk.u64_in _ xq]; omega)]) (zza 3 (.v (.int .u64 (-z))) (zzb (sq9 (zza 11 (.v (.int .u64 (-z))) (zyq 12 (x := .v (.int .u32 (IntKind.u32.wrap (-z)))) (.v (.int .u32 ((-z) % 4294967296))) (by rw [show (IntKind.u32.wrap (-z)) = ((-z) % 4294967296) from (IntKind.wrap_u32 _)]) (zza 13 (.v (.int .u64 (-z))) (zyq 14 (x := .v (.int .u64 (Int.fdiv (-z) (2 ^ 32)))) (.v (.int .u64 ((-z) / 4294967296))) (by rw [show (Int.fdiv (-z) (2 ^ 32)) = ((-z) / 4294967296) from (by rw [Int.fdiv_eq_ediv_of_nonneg _ yv]; rfl)]) (zyq 15 (x := .v (.int .u32 (IntKind.u32.wrap ((-z) / 4294967296)))) (.v (.int .u32 ((-z) / 4294967296))) (by rw [show (IntKind.u32.wrap ((-z) / 4294967296)) = ((-z) / 4294967296) from (IntWalk.u32_in _ xq)]) (zxz 16 ⟨159, [.int .u32 ((-z) % 4294967296), .int .u32 ((-z) / 4294967296)]⟩ 2 (fun b11 u12 e13 h14 => ?_))))))))))))
  refine zza 17 (.v (.agg #[.bool true, .slice (some ⟨b11, 0, none⟩) 2 2])) (zzg 18 138 [.agg #[.bool true, .slice (some ⟨b11, 0, none⟩) 2 2]] ?_)
  intro w15 u15 e15 d15
  have k20 := k_riTrim d15 (IntV.same (s := true) ((two_data (N := z.natAbs) h14 xq xq xq).ext e15)) xq
  with_reducible refine zPm k20 ?_
  rintro _ u18 g19 ⟨i16, rfl, h17⟩
  refine zzj ⟨72, i16.cs⟩ ty72 ?_
  refine zzb (zzo (zzw (ret0 [i16.v] ⟨zzr ty72 zze, trivial⟩ fun u21 e22 => ?_)))
  refine ⟨i16, rfl, IntN.more (K := 2) ?_ xq⟩
  have e : z = Nt.sg true z.natAbs := by unfold Nt.sg; simp; omega
  rw [e]
  exact (h17.ext e22)
 ·refine zzm (args := [.int .i64 z]) Tryz.func97 rfl Tryz.ntmps97 (rs := [.cell 2 72]) Tryz.results97 (le_b rfl) (le_b rfl) d ?_
  refine sq9 (zzk 2 ⟨72, [.bool false, .slice none 0 0]⟩ (zzb (zzd (sq9 (zza 4 (zI z) (zyq 5 (x := zB (decide (z < 0))) (zB false) (by rw [show (decide (z < 0)) = false from yy]) (zzb (zys xj (zzs (zzp ?_))))))))))
  refine sq9 (zza 19 (zI z) (zyq 20 (x := .v (.int .u32 (IntKind.u32.wrap z))) (.v (.int .u32 (z % 4294967296))) (by rw [show (IntKind.u32.wrap z) = (z % 4294967296) from (IntKind.wrap_u32 _)]) (zza 21 (zI z) (zyq 22 (x := .v (.int .u64 (IntKind.u64.wrap z))) (.v (.int .u64 (z))) (by rw [show (IntKind.u64.wrap z) = z from (IntWalk.u64_in _ xq)]) (zyq 23 (x := .v (.int .u64 (Int.fdiv z (2 ^ 32)))) (.v (.int .u64 (z / 4294967296))) (by rw [show (Int.fdiv z (2 ^ 32)) = (z / 4294967296) from (by rw [Int.fdiv_eq_ediv_of_nonneg _ yv]; rfl)]) (zyq 24 (x := .v (.int .u32 (IntKind.u32.wrap (z / 4294967296)))) (.v (.int .u32 (z / 4294967296))) (by rw [show (IntKind.u32.wrap (z / 4294967296)) = (z / 4294967296) from (IntWalk.u32_in _ xq)]) (zxz 25 ⟨159, [.int .u32 (z % 4294967296), .int .u32 (z / 4294967296)]⟩ 2 (fun b11 u12 e13 h14 => ?_))))))))
  refine zza 26 (.v (.agg #[.bool false, .slice (some ⟨b11, 0, none⟩) 2 2])) (zzg 27 138 [.agg #[.bool false, .slice (some ⟨b11, 0, none⟩) 2 2]] ?_)
  intro w15 u15 e15 d15
  have k20 := k_riTrim d15 (nat_int ((two_data (N := z.natAbs) h14 xq xq xq).ext e15)) xq
  with_reducible refine zPm k20 ?_
  rintro _ u18 g19 ⟨i16, rfl, h17⟩
  refine zzj ⟨72, i16.cs⟩ ty72 ?_
  refine zzb (zzo (ret0 [i16.v] ⟨zzr ty72 zze, trivial⟩ fun u21 e22 => ?_))
  refine ⟨i16, rfl, IntN.more (K := 2) ?_ xq⟩
  have e : z = Nt.sg false z.natAbs := by unfold Nt.sg; simp; omega
  rw [e]
  exact (h17.ext e22)
set_option maxHeartbeats 2000000 in
theorem k_riDiv {u w : World} {i1 : IL} {zN : Int} {K : Nat} {i2 : IL} {zM : Int} {L : Nat} (d : Dat u w) (hi1 : IntV u i1 zN K) (hi2 : IntV u i2 zM L) (hM0 : zM ≠ 0) (hK : K ≤ 400000000) (hL : L ≤ 400000000) : Calls Tryz.prog 136 #[i1.v, i2.v] w (Post u w fun v u' => ∃ i j : IL, v = .tuple #[i.v, j.v, .int .i64 0] ∧ IntN u' i (zN / zM) (K + 1) ∧ IntN u' j (zN % zM) L) := by
 have hM : 0 < zM.natAbs := Int.natAbs_pos.2 hM0
 have hL1 : 1 ≤ L := by have h2 := hi2.size; have h3 := Nt.dl_mono (x := zM.natAbs) (y := 1) xq; rw [Nt.dl_one] at h3; omega
 refine zzm (args := [i1.v, i2.v]) Tryz.func136 rfl Tryz.ntmps136 (rs := [.cell 4 72, .cell 5 72, .tmp 6]) Tryz.results136 (le_b rfl) (le_b rfl) d ?_
 refine sq9 (zzk 2 ⟨72, i1.cs⟩ (zzk 3 ⟨72, i2.cs⟩ (zzk 4 ⟨72, [.bool false, .slice none 0 0]⟩ (zzk 5 ⟨72, [.bool false, .slice none 0 0]⟩ (zza 6 (zI 0) (zzb (zzd (zzz [0, 1, 0, 7, 15, 31] [(0, []), (2, []), (1, []), (3, []), (4, []), (5, [])] xj xj (zzi 10 (.v (i1.v)) ty72 zze (zzi 12 (.v (i2.v)) ty72 zze (zzg 11 138 [i1.v] ?_)))))))))))
 intro w11 u11 e11 d11
 have k16 := k_riTrim d11 (hi1.ext e11) xq
 with_reducible refine zPm k16 ?_
 rintro _ u14 g15 ⟨i12, rfl, h13⟩
 refine zzg 13 138 [i2.v] ?_
 intro w17 u17 e17 d17
 have k22 := k_riTrim d17 (hi2.ext (e11.trans (g15.ext.trans e17))) xq
 with_reducible refine zPm k22 ?_
 rintro _ u20 g21 ⟨i18, rfl, h19⟩
 refine zzj ⟨72, i12.cs⟩ ty72 ?_
 refine zzj ⟨72, i18.cs⟩ ty72 ?_
 refine zzb (sq9 (zza 15 (.adr 2 1) (zzi 16 (.v i12.m.v) ty70 zzl (zza 17 (.adr 3 1) (zzi 18 (.v i18.m.v) ty70 zzl (zzg 19 162 [i12.m.v, i18.m.v] ?_))))))
 intro w23 u23 e23 d23
 have k30 := k_rnDivMod d23 ((int_mag h13).ext (e17.trans (g21.ext.trans e23))).raw ((int_mag h19).ext e23).raw hM xq xq
 with_reducible refine zPm k30 ?_
 rintro _ u28 g29 ⟨x24, x25, rfl, h26, h27⟩
 refine zza 14 (.v (.tuple #[x24.v, x25.v, .int .i64 0])) (zza 20 (.v x24.v) (zza 21 (.v x25.v) (zza 22 (zI 0) (zza 7 (.v x24.v) (zza 8 (.v x25.v) (zza 9 (zI 0) (zzb (zzd (sq9 (zza 23 (zI 0) (zza 24 (zB false) ?_)))))))))))
 refine zzb (zys xj (zzs (zzp ?_)))
 refine zzd (sq9 (zza 28 (.adr 2 0) (zzi 29 (zB i12.s) ty4 zzl ?_)))
 rcases Bool.eq_false_or_eq_true i12.s with hs31 | hs31
 ·refine zyq 30 (x := zB i12.s) (zB true) (by rw [hs31]) (zza 31 (.v x25.v) ?_ (hw := w1 2 true 30))
  refine zza 32 (zI x25.n) ?_ (hw := w1 2 true 30)
  refine zza 33 (zB (decide ((0 : Int) < (x25.n : Int)))) ?_ (hw := w1 2 true 30)
  refine zza 34 (zB (decide ((0 : Int) < (x25.n : Int)))) (zzc 52 [(2, .adr 2 0), (3, .adr 3 0), (4, .adr 4 0), (5, .adr 5 0), (7, .v x24.v), (8, .v x25.v), (34, zB (decide ((0 : Int) < (x25.n : Int))))] [(2, ⟨72, i12.cs⟩), (3, ⟨72, i18.cs⟩), (4, ⟨72, [.bool false, .slice none 0 0]⟩), (5, ⟨72, [.bool false, .slice none 0 0]⟩)] (zzu (b := decide ((0 : Int) < (x25.n : Int))) xj (fun hb32 => ?_) (fun hb32 => ?_)))
  ·replace hb32 : (decide ((0 : Int) < (x25.n : Int))) = true := hb32
   have qhb32 := of_decide_eq_true hb32
   refine zzz [0, 0, 3, 0, 8, 0, 63, 127, 255] [(0, []), (1, []), (3, []), (4, []), (5, []), (2, [36]), (6, []), (7, []), (8, [])] xj xj (zza 35 (.v x24.v) (sy_lit 36 ⟨159, [.int .u32 1]⟩ 1 ?_))
   refine zza 38 (.adr 3 1) (zzi 39 (.v i18.m.v) ty70 zzl (zza 40 (.v x25.v) (zyo 37 163 [.v x24.v, .slc 36 0 1 1] [36] (.inr rfl) (pub_mk xk) (k := ?_))))
   intro B33 w33 u33 e33 d33 v33
   have h35 : u33.heap[B33 36]? = some (.cells #[.int .u32 1] 159 (0, 0)) := v33 36 zq _ rfl
   obtain ⟨b34, hBb34⟩ : ∃ b, B33 36 = b := ⟨_, rfl⟩
   rw [hBb34] at h35
   show Calls _ _ #[.slice x24.a x24.n x24.c, .slice (some ⟨B33 36, 0, none⟩) 1 1] _ _
   rw [hBb34]
   have k40 := k_rnAdd d33 (h26.ext e33).raw (one_data h35).raw xq xq
   with_reducible refine zPm k40 ?_
   rintro _ u38 g39 ⟨x36, rfl, h37⟩
   refine zzg 41 164 [i18.m.v, x25.v] ?_
   intro w41 u41 e41 d41
   have k46 := k_rnSub d41 ((int_mag h19).ext (e23.trans (g29.ext.trans (e33.trans (g39.ext.trans e41))))).raw (h27.ext (e33.trans (g39.ext.trans e41))).raw xq xq
   with_reducible refine zPm k46 ?_
   rintro _ u44 g45 ⟨x42, rfl, h43⟩
   refine zza 7 (.v x36.v) (zza 8 (.v x42.v) (zzb (sq9 (zza 42 (.adr 2 0) (zzi 43 (zB i12.s) ty4 zzl (zza 44 (.adr 3 0) (zzi 45 (zB i18.s) ty4 zzl (zza 46 (zB (!(i12.s == i18.s))) (zza 47 (.v x36.v) (zza 48 (.v (.agg #[.bool (!(i12.s == i18.s)), x36.v])) (zzg 49 138 [.agg #[.bool (!(i12.s == i18.s)), x36.v]] ?_)))))))))))
   intro w47 u47 e47 d47
   have k52 := k_riTrim d47 (IntV.same (s := !(i12.s == i18.s)) (h37.ext (e41.trans (g45.ext.trans e47))).raw) xq
   with_reducible refine zPm k52 ?_
   rintro _ u50 g51 ⟨i48, rfl, h49⟩
   refine zza 50 (.v x42.v) (zza 51 (.v (.agg #[.bool false, x42.v])) (zzj ⟨72, i48.cs⟩ ty72 ?_))
   refine zzj ⟨72, [.bool false, x42.v]⟩ ty72 ?_
   refine zza 6 (zI 0) (zzb (zzo (ret0 [i48.v, .agg #[.bool false, .slice x42.a x42.n x42.c], .int .i64 0] ⟨zzr ty72 zze, zzr ty72 zze, zzq, trivial⟩ fun u53 e54 => ?_)))
   have hs := h13.1
   have ht := h19.1
   have hr := h27.pos
   have qhs31 := hs31
   have qhb32 := hb32
   have key := Nt.ediv_neg' zN zM rfl rfl hM (by rw [hs] at hs31; simpa using hs31) (by simp at hb32; omega)
   have hK1 : 1 ≤ K := by have h2 := hi1.size; have h3 := (Nt.dl_pos (x := zN.natAbs)).2 (by rw [hs] at hs31; simp at hs31; omega); omega
   rw [← hs, ← ht] at key
   refine ⟨i48, (⟨false, x42⟩ : IL), rfl, IntN.more (K := (max K 1 + 1)) ?_ xq, IntN.more (K := L) ?_ xq⟩
   ·rw [key.1]; exact (h49.ext e54)
   ·rw [key.2]; exact (nat_intN (h43.ext (e47.trans (g51.ext.trans e54))))
  ·replace hb32 : (decide ((0 : Int) < (x25.n : Int))) = false := hb32
   have qhb32 := of_decide_eq_false hb32
   refine zzs (zzp ?_)
   refine sq9 (zza 42 (.adr 2 0) (zzi 43 (zB i12.s) ty4 zzl (zza 44 (.adr 3 0) (zzi 45 (zB i18.s) ty4 zzl (zza 46 (zB (!(i12.s == i18.s))) (zza 47 (.v x24.v) (zza 48 (.v (.agg #[.bool (!(i12.s == i18.s)), x24.v])) (zzg 49 138 [.agg #[.bool (!(i12.s == i18.s)), x24.v]] ?_))))))))
   intro w55 u55 e55 d55
   have k60 := k_riTrim d55 (IntV.same (s := !(i12.s == i18.s)) (h26.ext e55).raw) xq
   with_reducible refine zPm k60 ?_
   rintro _ u58 g59 ⟨i56, rfl, h57⟩
   refine zza 50 (.v x25.v) (zza 51 (.v (.agg #[.bool false, x25.v])) (zzj ⟨72, i56.cs⟩ ty72 ?_))
   refine zzj ⟨72, [.bool false, x25.v]⟩ ty72 ?_
   refine zza 6 (zI 0) (zzb (zzo (ret0 [i56.v, .agg #[.bool false, .slice x25.a x25.n x25.c], .int .i64 0] ⟨zzr ty72 zze, zzr ty72 zze, zzq, trivial⟩ fun u61 e62 => ?_)))
   have hs := h13.1
   have ht := h19.1
   have hr := h27.pos
   have qhs31 := hs31
   have qhb32 := hb32
   have key := Nt.ediv_pos zN zM rfl rfl hM (fun hc => by simp at hb32; omega)
   rw [← hs, ← ht] at key
   refine ⟨i56, (⟨false, x25⟩ : IL), rfl, IntN.more (K := K) ?_ xq, IntN.more (K := L) ?_ xq⟩
   ·rw [key.1]; exact (h57.ext e62)
   ·rw [key.2]; exact (nat_intN (h27.ext (e55.trans (g59.ext.trans e62))))
 ·refine zyq 30 (x := zB i12.s) (zB false) (by rw [hs31]) (zzn 31 (uw 2 true false 30) (zzn 32 (uw 2 true false 30) (zzn 33 (uw 2 true false 30) (zza 34 (zB false) (zzc 52 [(2, .adr 2 0), (3, .adr 3 0), (4, .adr 4 0), (5, .adr 5 0), (7, .v x24.v), (8, .v x25.v), (34, zB false)] [(2, ⟨72, i12.cs⟩), (3, ⟨72, i18.cs⟩), (4, ⟨72, [.bool false, .slice none 0 0]⟩), (5, ⟨72, [.bool false, .slice none 0 0]⟩)] (zys xj (zzs (zzp ?_))))))))
  refine sq9 (zza 42 (.adr 2 0) (zzi 43 (zB i12.s) ty4 zzl (zza 44 (.adr 3 0) (zzi 45 (zB i18.s) ty4 zzl (zza 46 (zB (!(i12.s == i18.s))) (zza 47 (.v x24.v) (zza 48 (.v (.agg #[.bool (!(i12.s == i18.s)), x24.v])) (zzg 49 138 [.agg #[.bool (!(i12.s == i18.s)), x24.v]] ?_))))))))
  intro w63 u63 e63 d63
  have k68 := k_riTrim d63 (IntV.same (s := !(i12.s == i18.s)) (h26.ext e63).raw) xq
  with_reducible refine zPm k68 ?_
  rintro _ u66 g67 ⟨i64, rfl, h65⟩
  refine zza 50 (.v x25.v) (zza 51 (.v (.agg #[.bool false, x25.v])) (zzj ⟨72, i64.cs⟩ ty72 ?_))
  refine zzj ⟨72, [.bool false, x25.v]⟩ ty72 ?_
  refine zza 6 (zI 0) (zzb (zzo (ret0 [i64.v, .agg #[.bool false, .slice x25.a x25.n x25.c], .int .i64 0] ⟨zzr ty72 zze, zzr ty72 zze, zzq, trivial⟩ fun u69 e70 => ?_)))
  have hs := h13.1
  have ht := h19.1
  have hr := h27.pos
  have qhs31 := hs31
  have key := Nt.ediv_pos zN zM rfl rfl hM (fun hc => by rw [hs] at hs31; simp at hs31; omega)
  rw [← hs, ← ht] at key
  refine ⟨i64, (⟨false, x25⟩ : IL), rfl, IntN.more (K := K) ?_ xq, IntN.more (K := L) ?_ xq⟩
  ·rw [key.1]; exact (h65.ext e70)
  ·rw [key.2]; exact (nat_intN (h27.ext (e63.trans (g67.ext.trans e70))))
set_option maxHeartbeats 2000000 in
theorem k_reduce {u w : World} {i1 i2 : IL} {z y : Int} {K L : Nat} (d : Dat u w) (hi1 : IntV u i1 z K) (hi2 : IntV u i2 y L) (hK : K ≤ 400000000) (hL : L ≤ 400000000) : Calls Tryz.prog 96 #[i1.v, i2.v] w (Post u w fun v u' => ∃ r : RL, v = r.v ∧ RatN u' r ((z : Rat) / (y : Rat)) (max K L + 1)) := by
 refine zzm (args := [i1.v, i2.v]) Tryz.func96 rfl Tryz.ntmps96 (rs := [.cell 4 74]) Tryz.results96 (le_b rfl) (le_b rfl) d ?_
 refine sq9 (zzk 2 ⟨72, i1.cs⟩ (zzk 3 ⟨72, i2.cs⟩ (zzk 4 ⟨74, [.bool false, .slice none 0 0, .slice none 0 0]⟩ (zzb (zzd (sq9 (zzi 12 (.v (i1.v)) ty72 zze (zzg 13 134 [i1.v] ?_))))))))
 intro w11 u11 e11 d11
 have k14 := k_riSign d11 (hi1.ext e11) xq
 with_reducible refine zPm k14 ?_
 rintro _ u12 g13 rfl
 refine zza 14 (zB ((Nt.cmpS z 0) == 0)) ?_
 rcases Bool.eq_false_or_eq_true ((Nt.cmpS z 0) == 0) with hs15 | hs15
 ·refine zyq 15 (x := zB ((Nt.cmpS z 0) == 0)) (zB true) (by rw [hs15]) ?_
  have hz0 : z = 0 := Nt.cmp_eq0 hs15
  refine zzn 16 (uw 3 false true 15) (zzn 17 (uw 3 false true 15) (zzn 18 (uw 3 false true 15) (zza 19 (zB true) (zzb (zyr xj (sq9 (zxz 20 ⟨159, [.int .u32 1]⟩ 1 (fun b16 u17 e18 h19 => ?_))))))))
  refine zza 21 (.v (.agg #[.bool false, .slice none 0 0, .slice (some ⟨b16, 0, none⟩) 1 1])) (zzj ⟨74, [.bool false, .slice none 0 0, .slice (some ⟨b16, 0, none⟩) 1 1]⟩ ty74 ?_)
  refine zzb (zzo (zzw (ret0 [.agg #[.bool false, .slice none 0 0, .slice (some ⟨b16, 0, none⟩) 1 1]] ⟨zzr ty74 zze, trivial⟩ fun u20 e21 => ?_)))
  refine ⟨(⟨false, ⟨none, 0, 0⟩, (⟨some ⟨b16, 0, none⟩, 1, 1⟩ : Sl)⟩ : RL), rfl, ?_⟩
  have h9 : (z : Rat) / (y : Rat) = ((0 : Int) : Rat) := by rw [hz0]; simp [Rat.div_def]
  rw [h9]
  exact RatN.more (whole_rat (int_zero _ 1) ((one_data h19).ext e21)) xq
 ·refine zyq 15 (x := zB ((Nt.cmpS z 0) == 0)) (zB false) (by rw [hs15]) ?_
  have hz0 : z ≠ 0 := Nt.cmp_ne0 hs15
  refine zzi 16 (.v (i2.v)) ty72 zze ?_ (hw := w1 3 false 15)
  refine zzg 17 134 [i2.v] ?_ (hw := w1 3 false 15)
  intro w22 u22 e22 d22
  have k25 := k_riSign d22 (hi2.ext (e11.trans (g13.ext.trans e22))) xq
  with_reducible refine zPm k25 ?_
  rintro _ u23 g24 rfl
  refine zza 18 (zB ((Nt.cmpS y 0) == 0)) ?_ (hw := w1 3 false 15)
  refine zza 19 (zB ((Nt.cmpS y 0) == 0)) (zzb (zzu (b := (Nt.cmpS y 0) == 0) xj (fun hb26 => ?_) (fun hb26 => ?_)))
  ·replace hb26 : ((Nt.cmpS y 0) == 0) = true := hb26
   have hy0 : y = 0 := Nt.cmp_eq0 hb26
   refine sq9 (zxz 20 ⟨159, [.int .u32 1]⟩ 1 (fun b27 u28 e29 h30 => ?_))
   refine zza 21 (.v (.agg #[.bool false, .slice none 0 0, .slice (some ⟨b27, 0, none⟩) 1 1])) (zzj ⟨74, [.bool false, .slice none 0 0, .slice (some ⟨b27, 0, none⟩) 1 1]⟩ ty74 ?_)
   refine zzb (zzo (zzw (ret0 [.agg #[.bool false, .slice none 0 0, .slice (some ⟨b27, 0, none⟩) 1 1]] ⟨zzr ty74 zze, trivial⟩ fun u31 e32 => ?_)))
   refine ⟨(⟨false, ⟨none, 0, 0⟩, (⟨some ⟨b27, 0, none⟩, 1, 1⟩ : Sl)⟩ : RL), rfl, ?_⟩
   have h9 : (z : Rat) / (y : Rat) = ((0 : Int) : Rat) := by rw [hy0]; simp [Rat.div_def]
   rw [h9]
   exact RatN.more (whole_rat (int_zero _ 1) ((one_data h30).ext e32)) xq
  ·replace hb26 : ((Nt.cmpS y 0) == 0) = false := hb26
   have hy0 : y ≠ 0 := Nt.cmp_ne0 hb26
   have hg0 : ((Nat.gcd z.natAbs y.natAbs : Nat) : Int) ≠ 0 := by have h9 := Nat.gcd_pos_of_pos_right z.natAbs (Int.natAbs_pos.2 hy0); omega
   refine zzs (zzp ?_)
   refine sq9 (zzi 22 (.v (i1.v)) ty72 zze (zzi 23 (.v (i2.v)) ty72 zze (zzg 24 135 [i1.v, i2.v] ?_)))
   intro w33 u33 e33 d33
   have k38 := k_riGcd d33 (hi1.ext (e11.trans (g13.ext.trans (e22.trans (g24.ext.trans e33))))) (hi2.ext (e11.trans (g13.ext.trans (e22.trans (g24.ext.trans e33))))) xq xq
   with_reducible refine zPm k38 ?_
   rintro _ u36 g37 ⟨i34, rfl, h35⟩
   refine zzk 5 ⟨72, [.bool false, .slice none 0 0]⟩ (zzj ⟨72, i34.cs⟩ ty72 ?_)
   refine zzb (sq9 (zzi 26 (.v (i1.v)) ty72 zze (zzi 27 (.v (i34.v)) ty72 zze (zzg 28 136 [i1.v, i34.v] ?_))))
   intro w39 u39 e39 d39
   have k46 := k_riDiv d39 (hi1.ext (e11.trans (g13.ext.trans (e22.trans (g24.ext.trans (e33.trans (g37.ext.trans e39))))))) (h35.ext e39).raw hg0 xq xq
   with_reducible refine zPm k46 ?_
   rintro _ u44 g45 ⟨i40, i42, rfl, h41, h43⟩
   refine zza 25 (.v (.tuple #[i40.v, i42.v, .int .i64 0])) (zza 29 (.v (i40.v)) (zza 30 (.v (i42.v)) (zza 31 (zI 0) (zzk 6 ⟨72, [.bool false, .slice none 0 0]⟩ (zzk 7 ⟨72, [.bool false, .slice none 0 0]⟩ (zzj ⟨72, i40.cs⟩ ty72 ?_))))))
   refine zzj ⟨72, i42.cs⟩ ty72 ?_
   refine zza 8 (zI 0) (zzb (sq9 (zzi 33 (.v (i2.v)) ty72 zze (zzi 34 (.v (i34.v)) ty72 zze (zzg 35 136 [i2.v, i34.v] ?_)))))
   intro w47 u47 e47 d47
   have k54 := k_riDiv d47 (hi2.ext (e11.trans (g13.ext.trans (e22.trans (g24.ext.trans (e33.trans (g37.ext.trans (e39.trans (g45.ext.trans e47))))))))) (h35.ext (e39.trans (g45.ext.trans e47))).raw hg0 xq xq
   with_reducible refine zPm k54 ?_
   rintro _ u52 g53 ⟨i48, i50, rfl, h49, h51⟩
   refine zza 32 (.v (.tuple #[i48.v, i50.v, .int .i64 0])) (zza 36 (.v (i48.v)) (zza 37 (.v (i50.v)) (zza 38 (zI 0) (zzk 9 ⟨72, [.bool false, .slice none 0 0]⟩ (zzk 10 ⟨72, [.bool false, .slice none 0 0]⟩ (zzj ⟨72, i48.cs⟩ ty72 ?_))))))
   refine zzj ⟨72, i50.cs⟩ ty72 ?_
   refine zza 11 (zI 0) (zzc 47 [(4, .adr 4 0), (6, .adr 6 0), (9, .adr 9 0)] [(4, ⟨74, [.bool false, .slice none 0 0, .slice none 0 0]⟩), (6, ⟨72, i40.cs⟩), (9, ⟨72, i48.cs⟩)] (zzd (sq9 (zza 39 (.adr 9 0) (zzi 40 (zB i48.s) ty4 zzl (zzb (zzu (b := i48.s) xj (fun hb55 => ?_) (fun hb55 => ?_))))))))
   ·replace hb55 : i48.s = true := hb55
    refine zzf (zzi 41 (.v (i40.v)) ty72 zze (zzg 42 137 [i40.v] ?_))
    intro w56 u56 e56 d56
    have k61 := k_riNeg d56 (h41.ext (e47.trans (g53.ext.trans e56))).raw xq
    with_reducible refine zPm k61 ?_
    rintro _ u59 g60 ⟨i57, rfl, h58⟩
    refine zzj ⟨72, i57.cs⟩ ty72 ?_
    refine zzb (sq9 (zzi 43 (.v (i57.v)) ty72 zze (zza 44 (.adr 9 1) (zzi 45 (.v i48.m.v) ty70 zzl (zza 46 (.v (.agg #[.bool i57.s, i57.m.v, i48.m.v])) (zzj ⟨74, i57.cs ++ [i48.m.v]⟩ ty74 ?_))))))
    refine zzb (zzo (ret0 [.agg #[.bool i57.s, .slice i57.m.a i57.m.n i57.m.c, .slice i48.m.a i48.m.n i48.m.c]] ⟨zzr ty74 zze, trivial⟩ fun u62 e63 => ?_))
    refine ⟨(⟨i57.s, i57.m, i48.m⟩ : RL), rfl, RatN.more (red_neg hy0 rfl (h58.ext e63) h49 hb55 ((int_mag h49).ext (e56.trans (g60.ext.trans e63)))) xq⟩
   ·replace hb55 : i48.s = false := hb55
    refine zzs (zzp ?_)
    refine sq9 (zzi 43 (.v (i40.v)) ty72 zze (zza 44 (.adr 9 1) (zzi 45 (.v i48.m.v) ty70 zzl (zza 46 (.v (.agg #[.bool i40.s, i40.m.v, i48.m.v])) (zzj ⟨74, i40.cs ++ [i48.m.v]⟩ ty74 ?_)))))
    refine zzb (zzo (ret0 [.agg #[.bool i40.s, .slice i40.m.a i40.m.n i40.m.c, .slice i48.m.a i48.m.n i48.m.c]] ⟨zzr ty74 zze, trivial⟩ fun u64 e65 => ?_))
    refine ⟨(⟨i40.s, i40.m, i48.m⟩ : RL), rfl, RatN.more (red_pos hy0 rfl (h41.ext (e47.trans (g53.ext.trans e65))) h49 hb55 ((int_mag h49).ext e65)) xq⟩
theorem k_parts {u w : World} {r : RL} {q : Rat} {K : Nat} (d : Dat u w) (h : RatV u r q K) (hKK : K ≤ 400000000) : Calls Tryz.prog 154 #[r.v] w (Post u w (PartV q K)) := by
 obtain ⟨⟨z, D, hi, hd, hq⟩, hK⟩ := h
 change IntV u ⟨r.s, r.m⟩ z K at hi
 change NatV u r.d D K at hd
 refine zzm (args := [r.v]) Tryz.func154 rfl Tryz.ntmps154 (rs := [.cell 2 72, .cell 3 72]) Tryz.results154 (le_b rfl) (le_b rfl) d ?_
 refine sq9 (zzk 1 ⟨74, r.cs⟩ (zzk 2 ⟨72, [.bool false, .slice none 0 0]⟩ (zzk 3 ⟨72, [.bool false, .slice none 0 0]⟩ (zzb (sq9 (zza 5 (.adr 1 2) (zzi 6 (.v r.d.v) ty70 zzl (zzg 7 165 [r.d.v] ?_))))))))
 intro w11 u11 e11 d11
 have k16 := k_rnTrim d11 (hd.ext e11) xq
 with_reducible refine zPm k16 ?_
 rintro _ u14 g15 ⟨x12, rfl, h13⟩
 refine zza 8 (.v (.agg #[.bool false, x12.v])) (zzk 4 ⟨72, [.bool false, .slice none 0 0]⟩ (zzj ⟨72, [.bool false, x12.v]⟩ ty72 ?_))
 refine zzb (zzd (sq9 (zza 9 (.adr 4 1) (zzi 10 (.v x12.v) ty70 zzl (zza 11 (zI x12.n) (zza 12 (zB ((x12.n : Int) == 0)) (zzb (zzu (b := (x12.n : Int) == 0) xj (fun hb17 => ?_) (fun hb17 => ?_)))))))))
 ·replace hb17 : ((x12.n : Int) == 0) = true := hb17
  have qhb17 : (x12.n : Int) = 0 := by simpa using hb17
  refine sq9 (zza 13 (.v (.agg #[.bool false, .slice none 0 0])) (zxz 14 ⟨159, [.int .u32 1]⟩ 1 (fun b18 u19 e20 h21 => ?_)))
  refine zza 15 (.v (.agg #[.bool false, .slice (some ⟨b18, 0, none⟩) 1 1])) (zzj ⟨72, [.bool false, .slice none 0 0]⟩ ty72 ?_)
  refine zzj ⟨72, [.bool false, .slice (some ⟨b18, 0, none⟩) 1 1]⟩ ty72 ?_
  refine zzb (zzo (zzw (ret0 [.agg #[.bool false, .slice none 0 0], .agg #[.bool false, .slice (some ⟨b18, 0, none⟩) 1 1]] ⟨zzr ty72 zze, zzr ty72 zze, trivial⟩ fun u22 e23 => ?_)))
  have hp := h13.pos
  have hD : D = 0 := by simp at hb17; omega
  exact ⟨⟨false, ⟨none, 0, 0⟩⟩, ⟨false, (⟨some ⟨b18, 0, none⟩, 1, 1⟩ : Sl)⟩, 0, 1, rfl, (int_zero _ K).raw, nat_intN (((one_data h21).ext e23).more hK), by omega, by rw [hq, hD]; simp, hK⟩
 ·replace hb17 : ((x12.n : Int) == 0) = false := hb17
  have qhb17 : ¬ ((x12.n : Int) = 0) := by simpa using hb17
  refine zzs (zzp ?_)
  refine zzd (zzz [0, 1, 0, 3, 15] [(0, []), (1, []), (2, []), (3, [4]), (4, [])] xj xj (zza 16 (.adr 1 0) (zzi 17 (.v (.agg #[.bool r.s, r.m.v])) ty72 zze (zzi 18 (.v (.agg #[.bool false, x12.v])) ty72 zze (zzj ⟨72, [.bool r.s, r.m.v]⟩ ty72 ?_)))))
  refine zzj ⟨72, [.bool false, x12.v]⟩ ty72 ?_
  refine zzb (zzo (ret0 [.agg #[.bool r.s, .slice r.m.a r.m.n r.m.c], .agg #[.bool false, .slice x12.a x12.n x12.c]] ⟨zzr ty72 zze, zzr ty72 zze, trivial⟩ fun u24 e25 => ?_))
  have hp := h13.pos
  exact ⟨⟨r.s, r.m⟩, ⟨false, x12⟩, z, D, rfl, (hi.ext (e11.trans (g15.ext.trans e25))), nat_intN (h13.ext e25), by simp at hb17; omega, hq, hK⟩
theorem k_rqTrim {u w : World} {r1 : RL} {x : Rat} {K : Nat} (d : Dat u w) (hr1 : RatV u r1 x K) (hK : K ≤ 100000000) : Calls Tryz.prog 133 #[r1.v] w (Post u w fun v u' => ∃ r : RL, v = r.v ∧ RatN u' r x K) := by
 refine zzm (args := [r1.v]) Tryz.func133 rfl Tryz.ntmps133 (rs := [.cell 2 74]) Tryz.results133 (le_b rfl) (le_b rfl) d ?_
 refine sq9 (zzk 1 ⟨74, r1.cs⟩ (zzk 2 ⟨74, [.bool false, .slice none 0 0, .slice none 0 0]⟩ (zzb (sq9 (zzi 6 (.v (r1.v)) ty74 zze (zzg 7 154 [r1.v] ?_))))))
 intro w11 u11 e11 d11
 have k15 := k_parts d11 (hr1.ext e11) xq
 with_reducible refine zPm k15 ?_
 rintro _ u13 g14 ⟨i12, j12, z12, D12, rfl, hi12, hj12, hp12, hq12, hk12⟩
 refine zza 5 (.v (.tuple #[i12.v, j12.v])) (zza 8 (.v (i12.v)) (zza 9 (.v (j12.v)) (zzk 3 ⟨72, [.bool false, .slice none 0 0]⟩ (zzk 4 ⟨72, [.bool false, .slice none 0 0]⟩ (zzj ⟨72, i12.cs⟩ ty72 ?_)))))
 refine zzj ⟨72, j12.cs⟩ ty72 ?_
 refine zzb (sq9 (zzi 10 (.v (i12.v)) ty72 zze (zzi 11 (.v (j12.v)) ty72 zze (zzg 12 96 [i12.v, j12.v] ?_))))
 intro w16 u16 e16 d16
 have k21 := k_reduce d16 (hi12.ext e16) (hj12.ext e16).raw xq xq
 with_reducible refine zPm k21 ?_
 rintro _ u19 g20 ⟨r17, rfl, h18⟩
 refine zzj ⟨74, r17.cs⟩ ty74 ?_
 refine zzb (zzo (ret0 [r17.v] ⟨zzr ty74 zze, trivial⟩ fun u22 e23 => ?_))
 refine ⟨r17, rfl, RatN.fit (K := (max K K + 1)) ?_ (hr1.rs)⟩
 rw [hq12, ← Nt.mk_div]
 exact (h18.ext e23)
theorem k_rqSame {u w : World} {r1 r2 : RL} {x y : Rat} {K L : Nat} (d : Dat u w) (hr1 : RatN u r1 x K) (hr2 : RatN u r2 y L) : Calls Tryz.prog 160 #[r1.v, r2.v] w (Post u w fun v _ => v = .bool (decide (x = y))) := by
 refine zzm (args := [r1.v, r2.v]) Tryz.func160 rfl Tryz.ntmps160 (rs := [.tmp 4]) Tryz.results160 (le_b rfl) (le_b rfl) d ?_
 refine sq9 (zzk 2 ⟨74, r1.cs⟩ (zzk 3 ⟨74, r2.cs⟩ (zza 4 (zB false) (zzb (sq9 (zza 5 (.adr 2 0) (zzi 6 (.v (.agg #[.bool r1.s, r1.m.v])) ty72 zze (zza 7 (.adr 3 0) (zzi 8 (.v (.agg #[.bool r2.s, r2.m.v])) ty72 zze (zzg 9 175 [.agg #[.bool r1.s, r1.m.v], .agg #[.bool r2.s, r2.m.v]] ?_))))))))))
 intro w11 u11 e11 d11
 have k14 := k_riSame d11 ((RatN.num hr1).ext e11) ((RatN.num hr2).ext e11)
 with_reducible refine zPm k14 ?_
 rintro _ u12 g13 rfl
 rcases Bool.eq_false_or_eq_true (decide (x.num = y.num)) with hs15 | hs15
 ·refine zyq 10 (x := zB (decide (x.num = y.num))) (zB true) (by rw [hs15]) ?_
  have qhs15 := of_decide_eq_true hs15
  refine zza 11 (.adr 2 2) ?_ (hw := w1 5 true 10)
  refine zzi 12 (.v r1.d.v) ty70 zzl ?_ (hw := w1 5 true 10)
  refine zza 13 (.adr 3 2) ?_ (hw := w1 5 true 10)
  refine zzi 14 (.v r2.d.v) ty70 zzl ?_ (hw := w1 5 true 10)
  refine zzg 15 176 [r1.d.v, r2.d.v] ?_ (hw := w1 5 true 10)
  intro w16 u16 e16 d16
  have k19 := k_rnSame d16 ((RatN.den hr1).ext (e11.trans (g13.ext.trans e16))) ((RatN.den hr2).ext (e11.trans (g13.ext.trans e16)))
  with_reducible refine zPm k19 ?_
  rintro _ u17 g18 rfl
  refine zza 16 (zB (decide (x.den = y.den))) (zza 4 (zB (decide (x.den = y.den))) (zzb (zzo (ret0 [.bool (decide (x.den = y.den))] ⟨zzq, trivial⟩ fun u20 e21 => ?_))))
  show _ = _
  rw [← Nt.same_q, hs15]
  rfl
 ·refine zyq 10 (x := zB (decide (x.num = y.num))) (zB false) (by rw [hs15]) ?_
  have qhs15 := of_decide_eq_false hs15
  refine zzn 11 (uw 5 true false 10) (zzn 12 (uw 5 true false 10) (zzn 13 (uw 5 true false 10) (zzn 14 (uw 5 true false 10) (zzn 15 (uw 5 true false 10) (zza 16 (zB false) (zza 4 (zB false) (zzb (zzo (ret0 [.bool false] ⟨zzq, trivial⟩ fun u22 e23 => ?_)))))))))
  show _ = _
  rw [← Nt.same_q, hs15]
  rfl
theorem k_rqOf {u w : World} {z : Int} (d : Dat u w) (h0 : -9223372036854775808 ≤ z) (h1 : z ≤ 9223372036854775807) : Calls Tryz.prog 52 #[.int .i64 z] w (Post u w fun v u' => ∃ r : RL, v = r.v ∧ RatN u' r (z : Rat) 2) := by
 refine zzm (args := [.int .i64 z]) Tryz.func52 rfl Tryz.ntmps52 (rs := [.cell 2 74]) Tryz.results52 (le_b rfl) (le_b rfl) d ?_
 refine sq9 (zzk 2 ⟨74, [.bool false, .slice none 0 0, .slice none 0 0]⟩ (zzb (sq9 (zza 3 (zI z) (zzg 4 97 [.int .i64 z] ?_)))))
 intro w11 u11 e11 d11
 have k16 := k_riOf d11 (z := z) xq xq
 with_reducible refine zPm k16 ?_
 rintro _ u14 g15 ⟨i12, rfl, h13⟩
 refine zxz 5 ⟨159, [.int .u32 1]⟩ 1 (fun b17 u18 e19 h20 => ?_)
 refine zza 6 (.v (.agg #[.bool i12.s, i12.m.v, .slice (some ⟨b17, 0, none⟩) 1 1])) (zzj ⟨74, i12.cs ++ [.slice (some ⟨b17, 0, none⟩) 1 1]⟩ ty74 ?_)
 refine zzb (zzo (ret0 [.agg #[.bool i12.s, .slice i12.m.a i12.m.n i12.m.c, .slice (some ⟨b17, 0, none⟩) 1 1]] ⟨zzr ty74 zze, trivial⟩ fun u21 e22 => ?_))
 refine ⟨(⟨i12.s, i12.m, (⟨some ⟨b17, 0, none⟩, 1, 1⟩ : Sl)⟩ : RL), rfl, ?_⟩
 exact whole_rat (h13.ext (e19.trans e22)) ((one_data h20).ext e22)
theorem k_rqFrac {u w : World} {a b : Int} (d : Dat u w) (ha0 : -9223372036854775808 ≤ a) (ha1 : a ≤ 9223372036854775807) (hb0 : -9223372036854775808 ≤ b) (hb1 : b ≤ 9223372036854775807) : Calls Tryz.prog 51 #[.int .i64 a, .int .i64 b] w (Post u w fun v u' => ∃ r : RL, v = r.v ∧ RatN u' r ((a : Rat) / (b : Rat)) 3) := by
 refine zzm (args := [.int .i64 a, .int .i64 b]) Tryz.func51 rfl Tryz.ntmps51 (rs := [.cell 4 74]) Tryz.results51 (le_b rfl) (le_b rfl) d ?_
 refine sq9 (zzk 4 ⟨74, [.bool false, .slice none 0 0, .slice none 0 0]⟩ (zzb (sq9 (zza 5 (zI a) (zzg 6 97 [.int .i64 a] ?_)))))
 intro w11 u11 e11 d11
 have k16 := k_riOf d11 (z := a) xq xq
 with_reducible refine zPm k16 ?_
 rintro _ u14 g15 ⟨i12, rfl, h13⟩
 refine zza 7 (zI b) (zzg 8 97 [.int .i64 b] ?_)
 intro w17 u17 e17 d17
 have k22 := k_riOf d17 (z := b) xq xq
 with_reducible refine zPm k22 ?_
 rintro _ u20 g21 ⟨i18, rfl, h19⟩
 refine zzg 9 96 [i12.v, i18.v] ?_
 intro w23 u23 e23 d23
 have k28 := k_reduce d23 (h13.ext (e17.trans (g21.ext.trans e23))).raw (h19.ext e23).raw xq xq
 with_reducible refine zPm k28 ?_
 rintro _ u26 g27 ⟨r24, rfl, h25⟩
 refine zzj ⟨74, r24.cs⟩ ty74 ?_
 refine zzb (zzo (ret0 [r24.v] ⟨zzr ty74 zze, trivial⟩ fun u29 e30 => ?_))
 refine ⟨r24, rfl, RatN.more (K := (max 2 2 + 1)) ?_ xq⟩
 exact (h25.ext e30)
theorem k_rqSign {u w : World} {r1 : RL} {x : Rat} {K : Nat} (d : Dat u w) (hr1 : RatV u r1 x K) (hK : K ≤ 100000000) : Calls Tryz.prog 132 #[r1.v] w (Post u w fun v u' => v = .int .i64 (Nt.sgQ x)) := by
 refine zzm (args := [r1.v]) Tryz.func132 rfl Tryz.ntmps132 (rs := [.tmp 2]) Tryz.results132 (le_b rfl) (le_b rfl) d ?_
 refine sq9 (zzk 1 ⟨74, r1.cs⟩ (zza 2 (zI 0) (zzb (sq9 (zzi 6 (.v (r1.v)) ty74 zze (zzg 7 154 [r1.v] ?_))))))
 intro w11 u11 e11 d11
 have k15 := k_parts d11 (hr1.ext e11) xq
 with_reducible refine zPm k15 ?_
 rintro _ u13 g14 ⟨i12, j12, z12, D12, rfl, hi12, hj12, hp12, hq12, hk12⟩
 refine zza 5 (.v (.tuple #[i12.v, j12.v])) (zza 8 (.v (i12.v)) (zza 9 (.v (j12.v)) (zzk 3 ⟨72, [.bool false, .slice none 0 0]⟩ (zzk 4 ⟨72, [.bool false, .slice none 0 0]⟩ (zzj ⟨72, i12.cs⟩ ty72 ?_)))))
 refine zzj ⟨72, j12.cs⟩ ty72 ?_
 refine zzb (sq9 (zzi 10 (.v (i12.v)) ty72 zze (zzg 11 134 [i12.v] ?_)))
 intro w16 u16 e16 d16
 have k19 := k_riSign d16 (hi12.ext e16) xq
 with_reducible refine zPm k19 ?_
 rintro _ u17 g18 rfl
 refine zza 2 (zI (Nt.cmpS z12 0)) (zzb (zzo (ret0 [.int .i64 (Nt.cmpS z12 0)] ⟨zzq, trivial⟩ fun u20 e21 => ?_)))
 show _ = _
 rw [hq12, ← Nt.sg_mk hp12]
 rfl
theorem k_signed {u w : World} {s : Bool} {x : Sl} {N K : Nat} (d : Dat u w) (h : NatN u x N K) : Calls Tryz.prog 128 #[.bool s, x.v] w (Post u w fun v u' => ∃ i : IL, v = i.v ∧ IntN u' i (Nt.sg s N) K) := by
 refine zzm (args := [.bool s, .slice x.a x.n x.c]) Tryz.func128 rfl Tryz.ntmps128 (rs := [.cell 4 72]) Tryz.results128 (le_b rfl) (le_b rfl) d ?_
 refine sq9 (zzk 4 ⟨72, [.bool false, .slice none 0 0]⟩ (zzb (sq9 (zza 5 (zB s) ?_))))
 rcases Bool.eq_false_or_eq_true s with hs11 | hs11
 ·refine zyq 6 (x := zB s) (zB true) (by rw [hs11]) (zza 7 (.v x.v) ?_ (hw := w1 1 true 6))
  refine zza 8 (zI x.n) ?_ (hw := w1 1 true 6)
  refine zza 9 (zB (decide ((0 : Int) < (x.n : Int)))) ?_ (hw := w1 1 true 6)
  refine zza 10 (zB (decide ((0 : Int) < (x.n : Int)))) (zza 11 (.v x.v) (zza 12 (.v (.agg #[.bool (decide ((0 : Int) < (x.n : Int))), x.v])) (zzj ⟨72, [.bool (decide ((0 : Int) < (x.n : Int))), x.v]⟩ ty72 ?_)))
  refine zzb (zzo (ret0 [.agg #[.bool (decide ((0 : Int) < (x.n : Int))), .slice x.a x.n x.c]] ⟨zzr ty72 zze, trivial⟩ fun u12 e13 => ?_))
  rw [hs11]
  exact ⟨⟨_, x⟩, rfl, signed_int (s := true) (h.ext e13)⟩
 ·refine zyq 6 (x := zB s) (zB false) (by rw [hs11]) (zzn 7 (uw 1 true false 6) (zzn 8 (uw 1 true false 6) (zzn 9 (uw 1 true false 6) (zza 10 (zB false) (zza 11 (.v x.v) (zza 12 (.v (.agg #[.bool false, x.v])) (zzj ⟨72, [.bool false, x.v]⟩ ty72 ?_)))))))
  refine zzb (zzo (ret0 [.agg #[.bool false, .slice x.a x.n x.c]] ⟨zzr ty72 zze, trivial⟩ fun u14 e15 => ?_))
  rw [hs11]
  exact ⟨⟨_, x⟩, rfl, signed_int (s := false) (h.ext e15)⟩
theorem k_intTrim {u w : World} {i1 : IL} {zN : Int} {K : Nat} (d : Dat u w) (hi1 : IntV u i1 zN K) (hK : K ≤ 500000000) : Calls Tryz.prog 143 #[i1.v] w (Post u w fun v u' => ∃ i : IL, v = i.v ∧ IntN u' i zN K) := by
 obtain ⟨N, hN, hzN⟩ := hi1
 refine zzm (args := [i1.v]) Tryz.func143 rfl Tryz.ntmps143 (rs := [.cell 2 72]) Tryz.results143 (le_b rfl) (le_b rfl) d ?_
 refine sq9 (zzk 1 ⟨72, i1.cs⟩ (zzk 2 ⟨72, [.bool false, .slice none 0 0]⟩ (zzb (zzd (zzz [0, 1, 0, 4, 12, 31, 63] [(0, []), (1, []), (2, []), (3, []), (4, []), (5, []), (6, [])] xj xj (zza 3 (.adr 1 0) (zzi 4 (zB i1.s) ty4 zzl (zza 5 (.adr 1 1) (zzi 6 (.v i1.m.v) ty70 zzl (zzg 7 129 [i1.m.v] ?_))))))))))
 intro w11 u11 e11 d11
 have k16 := k_natTrim d11 (hN.ext e11) xq
 with_reducible refine zPm k16 ?_
 rintro _ u14 g15 ⟨x12, rfl, h13⟩
 refine zzg 8 128 [.bool i1.s, x12.v] ?_
 intro w17 u17 e17 d17
 have k22 := k_signed d17 (s := i1.s) (h13.ext e17)
 with_reducible refine zPm k22 ?_
 rintro _ u20 g21 ⟨i18, rfl, h19⟩
 refine zzj ⟨72, i18.cs⟩ ty72 ?_
 refine zzb (zzo (ret0 [i18.v] ⟨zzr ty72 zze, trivial⟩ fun u23 e24 => ?_))
 refine ⟨i18, rfl, IntN.more (K := K) ?_ xq⟩
 rw [hzN]
 exact (h19.ext e24)
theorem k_intMul {u w : World} {i1 : IL} {zN : Int} {K : Nat} {i2 : IL} {zM : Int} {L : Nat} (d : Dat u w) (hi1 : IntV u i1 zN K) (hi2 : IntV u i2 zM L) (hK : K ≤ 500000000) (hL : L ≤ 500000000) : Calls Tryz.prog 109 #[i1.v, i2.v] w (Post u w fun v u' => ∃ i : IL, v = i.v ∧ IntN u' i (zN * zM) (K + L)) := by
 obtain ⟨N, hN, hzN⟩ := hi1
 obtain ⟨M, hM, hzM⟩ := hi2
 refine zzm (args := [i1.v, i2.v]) Tryz.func109 rfl Tryz.ntmps109 (rs := [.cell 4 72]) Tryz.results109 (le_b rfl) (le_b rfl) d ?_
 refine sq9 (zzk 2 ⟨72, i1.cs⟩ (zzk 3 ⟨72, i2.cs⟩ (zzk 4 ⟨72, [.bool false, .slice none 0 0]⟩ (zzb (zzd (zzz [0, 1, 0, 4, 15, 0, 32, 0, 128, 480, 1023, 2047] [(0, []), (1, []), (2, []), (3, []), (4, []), (5, []), (6, []), (7, []), (8, []), (9, []), (10, []), (11, [])] xj xj (zza 5 (.adr 2 0) (zzi 6 (zB i1.s) ty4 zzl (zza 7 (.adr 3 0) (zzi 8 (zB i2.s) ty4 zzl (zza 9 (zB (!(i1.s == i2.s))) ?_)))))))))))
 refine zza 10 (.adr 2 1) (zzi 11 (.v i1.m.v) ty70 zzl (zza 12 (.adr 3 1) (zzi 13 (.v i2.m.v) ty70 zzl (zzg 14 111 [i1.m.v, i2.m.v] ?_))))
 intro w11 u11 e11 d11
 have k16 := k_natMul d11 (hN.ext e11) (hM.ext e11) xq xq
 with_reducible refine zPm k16 ?_
 rintro _ u14 g15 ⟨x12, rfl, h13⟩
 refine zzg 15 128 [.bool (!(i1.s == i2.s)), x12.v] ?_
 intro w17 u17 e17 d17
 have k22 := k_signed d17 (s := !(i1.s == i2.s)) (h13.ext e17)
 with_reducible refine zPm k22 ?_
 rintro _ u20 g21 ⟨i18, rfl, h19⟩
 refine zzj ⟨72, i18.cs⟩ ty72 ?_
 refine zzb (zzo (ret0 [i18.v] ⟨zzr ty72 zze, trivial⟩ fun u23 e24 => ?_))
 refine ⟨i18, rfl, IntN.more (K := (K + L)) ?_ xq⟩
 rw [hzN, hzM, ← Nt.sg_mul]
 exact (h19.ext e24)
theorem k_intAdd {u w : World} {i1 : IL} {zN : Int} {K : Nat} {i2 : IL} {zM : Int} {L : Nat} (d : Dat u w) (hi1 : IntV u i1 zN K) (hi2 : IntV u i2 zM L) (hK : K ≤ 500000000) (hL : L ≤ 500000000) : Calls Tryz.prog 107 #[i1.v, i2.v] w (Post u w fun v u' => ∃ i : IL, v = i.v ∧ IntN u' i (zN + zM) (max K L + 1)) := by
 obtain ⟨N, hN, hzN⟩ := hi1
 obtain ⟨M, hM, hzM⟩ := hi2
 refine zzm (args := [i1.v, i2.v]) Tryz.func107 rfl Tryz.ntmps107 (rs := [.cell 4 72]) Tryz.results107 (le_b rfl) (le_b rfl) d ?_
 refine sq9 (zzk 2 ⟨72, i1.cs⟩ (zzk 3 ⟨72, i2.cs⟩ (zzk 4 ⟨72, [.bool false, .slice none 0 0]⟩ (zzb (zzd (sq9 (zza 5 (.adr 2 0) (zzi 6 (zB i1.s) ty4 zzl (zza 7 (.adr 3 0) (zzi 8 (zB i2.s) ty4 zzl (zza 9 (zB (i1.s == i2.s)) ?_)))))))))))
 refine zzb (zzu (b := i1.s == i2.s) xj (fun hb11 => ?_) (fun hb11 => ?_))
 ·replace hb11 : (i1.s == i2.s) = true := hb11
  refine zzd (zzz [0, 1, 0, 4, 0, 16, 60, 127, 255] [(0, []), (1, []), (2, []), (3, []), (4, []), (5, []), (6, []), (7, []), (8, [])] xj xj (zza 10 (.adr 2 0) (zzi 11 (zB i1.s) ty4 zzl (zza 12 (.adr 2 1) (zzi 13 (.v i1.m.v) ty70 zzl (zza 14 (.adr 3 1) (zzi 15 (.v i2.m.v) ty70 zzl (zzg 16 146 [i1.m.v, i2.m.v] ?_))))))))
  intro w12 u12 e12 d12
  have k17 := k_natAdd d12 (hN.ext e12) (hM.ext e12) xq xq
  with_reducible refine zPm k17 ?_
  rintro _ u15 g16 ⟨x13, rfl, h14⟩
  refine zzg 17 128 [.bool i1.s, x13.v] ?_
  intro w18 u18 e18 d18
  have k23 := k_signed d18 (s := i1.s) (h14.ext e18)
  with_reducible refine zPm k23 ?_
  rintro _ u21 g22 ⟨i19, rfl, h20⟩
  refine zzj ⟨72, i19.cs⟩ ty72 ?_
  refine zzb (zzo (zzw (ret0 [i19.v] ⟨zzr ty72 zze, trivial⟩ fun u24 e25 => ?_)))
  refine ⟨i19, rfl, IntN.more (K := (max K L + 1)) ?_ xq⟩
  rw [hzN, hzM, ← Nt.sg_add1 N M hb11]
  exact (h20.ext e25)
 ·replace hb11 : (i1.s == i2.s) = false := hb11
  refine zzs (zzp ?_)
  refine zzd (sq9 (zza 18 (.adr 2 1) (zzi 19 (.v i1.m.v) ty70 zzl (zza 20 (.adr 3 1) (zzi 21 (.v i2.m.v) ty70 zzl (zzg 22 108 [i1.m.v, i2.m.v] ?_))))))
  intro w26 u26 e26 d26
  have k29 := k_natCompare d26 (hN.ext e26) (hM.ext e26)
  with_reducible refine zPm k29 ?_
  rintro _ u27 g28 rfl
  refine zza 23 (zB ((Nt.cmpS N M) == (-1))) (zzb (zzu (b := (Nt.cmpS N M) == (-1)) xj (fun hb30 => ?_) (fun hb30 => ?_)))
  ·replace hb30 : ((Nt.cmpS N M) == (-1)) = true := hb30
   refine zzd (zzz [0, 1, 0, 4, 0, 16, 60, 127, 255] [(0, []), (1, []), (2, []), (3, []), (4, []), (5, []), (6, []), (7, []), (8, [])] xj xj (zza 24 (.adr 3 0) (zzi 25 (zB i2.s) ty4 zzl (zza 26 (.adr 3 1) (zzi 27 (.v i2.m.v) ty70 zzl (zza 28 (.adr 2 1) (zzi 29 (.v i1.m.v) ty70 zzl (zzg 30 147 [i2.m.v, i1.m.v] ?_))))))))
   intro w31 u31 e31 d31
   have k36 := k_natSub d31 (hM.ext (e26.trans (g28.ext.trans e31))) (hN.ext (e26.trans (g28.ext.trans e31))) xq xq
   with_reducible refine zPm k36 ?_
   rintro _ u34 g35 ⟨x32, rfl, h33⟩
   refine zzg 31 128 [.bool i2.s, x32.v] ?_
   intro w37 u37 e37 d37
   have k42 := k_signed d37 (s := i2.s) (h33.ext e37)
   with_reducible refine zPm k42 ?_
   rintro _ u40 g41 ⟨i38, rfl, h39⟩
   refine zzj ⟨72, i38.cs⟩ ty72 ?_
   refine zzb (zzo (zzw (ret0 [i38.v] ⟨zzr ty72 zze, trivial⟩ fun u43 e44 => ?_)))
   refine ⟨i38, rfl, IntN.more (K := L) ?_ xq⟩
   rw [hzN, hzM, ← Nt.sg_add2 N M hb11 hb30]
   exact (h39.ext e44)
  ·replace hb30 : ((Nt.cmpS N M) == (-1)) = false := hb30
   refine zzs (zzp ?_)
   refine zzd (zzz [0, 1, 0, 4, 0, 16, 60, 127, 255] [(0, []), (1, []), (2, []), (3, []), (4, []), (5, []), (6, []), (7, []), (8, [])] xj xj (zza 32 (.adr 2 0) (zzi 33 (zB i1.s) ty4 zzl (zza 34 (.adr 2 1) (zzi 35 (.v i1.m.v) ty70 zzl (zza 36 (.adr 3 1) (zzi 37 (.v i2.m.v) ty70 zzl (zzg 38 147 [i1.m.v, i2.m.v] ?_))))))))
   intro w45 u45 e45 d45
   have k50 := k_natSub d45 (hN.ext (e26.trans (g28.ext.trans e45))) (hM.ext (e26.trans (g28.ext.trans e45))) xq xq
   with_reducible refine zPm k50 ?_
   rintro _ u48 g49 ⟨x46, rfl, h47⟩
   refine zzg 39 128 [.bool i1.s, x46.v] ?_
   intro w51 u51 e51 d51
   have k56 := k_signed d51 (s := i1.s) (h47.ext e51)
   with_reducible refine zPm k56 ?_
   rintro _ u54 g55 ⟨i52, rfl, h53⟩
   refine zzj ⟨72, i52.cs⟩ ty72 ?_
   refine zzb (zzo (ret0 [i52.v] ⟨zzr ty72 zze, trivial⟩ fun u57 e58 => ?_))
   refine ⟨i52, rfl, IntN.more (K := K) ?_ xq⟩
   rw [hzN, hzM, ← Nt.sg_add3 N M hb11 hb30]
   exact (h53.ext e58)
theorem k_intSign {u w : World} {i1 : IL} {zN : Int} {K : Nat} (d : Dat u w) (hi1 : IntV u i1 zN K)  : Calls Tryz.prog 141 #[i1.v] w (Post u w fun v u' => v = .int .i64 (Nt.cmpS zN 0)) := by
 obtain ⟨N, hN, hzN⟩ := hi1
 refine zzm (args := [i1.v]) Tryz.func141 rfl Tryz.ntmps141 (rs := [.tmp 2]) Tryz.results141 (le_b rfl) (le_b rfl) d ?_
 refine sq9 (zzk 1 ⟨72, i1.cs⟩ (zza 2 (zI 0) (zzb (zzd (zzt (sq9 (zza 4 (.adr 1 1) (zzi 5 (.v i1.m.v) ty70 zzl (zzg 6 108 [i1.m.v, .slice none 0 0] ?_)))))))))
 intro w11 u11 e11 d11
 have k14 := k_natCompare d11 (hN.ext e11) (nat_nil _ 1)
 with_reducible refine zPm k14 ?_
 rintro _ u12 g13 rfl
 refine zza 7 (zB ((Nt.cmpS N 0) == 0)) (zza 3 (zB ((Nt.cmpS N 0) == 0)) (zzb (zzu (b := (Nt.cmpS N 0) == 0) xj (fun hb15 => ?_) (fun hb15 => ?_))))
 ·replace hb15 : ((Nt.cmpS N 0) == 0) = true := hb15
  refine sq9 (zza 2 (zI 0) (zzb (zzo (zyu (zzw (ret0 [.int .i64 0] ⟨zzq, trivial⟩ fun u16 e17 => ?_))))))
  show _ = _
  rw [hzN, Nt.sg_cmp0, if_pos hb15]
  rfl
 ·replace hb15 : ((Nt.cmpS N 0) == 0) = false := hb15
  refine sq9 (zza 9 (.adr 1 0) (zzi 10 (zB i1.s) ty4 zzl (zza 8 (zB i1.s) (zzb (zzu (b := i1.s) xj (fun hb18 => ?_) (fun hb18 => ?_))))))
  ·replace hb18 : i1.s = true := hb18
   refine sq9 (zza 2 (zI (-1)) (zzb (zzo (zyu (zzw (ret0 [.int .i64 (-1)] ⟨zzq, trivial⟩ fun u19 e20 => ?_))))))
   show _ = _
   rw [hzN, Nt.sg_cmp0, if_neg (ne_true_of_eq_false hb15), if_pos hb18]
   rfl
  ·replace hb18 : i1.s = false := hb18
   refine zzs (zzp ?_)
   refine sq9 (zza 2 (zI 1) (zzb (zzo (ret0 [.int .i64 1] ⟨zzq, trivial⟩ fun u21 e22 => ?_))))
   show _ = _
   rw [hzN, Nt.sg_cmp0, if_neg (ne_true_of_eq_false hb15), if_neg (ne_true_of_eq_false hb18)]
   rfl
namespace Nt
end Nt
theorem k_intOf {u w : World} {z : Int} (d : Dat u w) (h0 : -9223372036854775808 ≤ z) (h1 : z ≤ 9223372036854775807) : Calls Tryz.prog 88 #[.int .i64 z] w (Post u w fun v u' => ∃ i : IL, v = i.v ∧ IntN u' i z 2) := by
 by_cases hneg : z < 0
 ·refine zzm (args := [.int .i64 z]) Tryz.func88 rfl Tryz.ntmps88 (rs := [.cell 2 72]) Tryz.results88 (le_b rfl) (le_b rfl) d ?_
  refine sq9 (zzk 2 ⟨72, [.bool false, .slice none 0 0]⟩ (zzb (sq9 (zza 4 (zI z) (zyq 5 (x := .v (.int .u64 (IntKind.u64.wrap z))) (.v (.int .u64 (z + 18446744073709551616))) (by rw [show (IntKind.u64.wrap z) = (z + 18446744073709551616) from (by simp [IntKind.wrap, IntKind.bits, IntKind.signed]; omega)]) (zza 3 (.v (.int .u64 (z + 18446744073709551616))) (zzb (zzd (sq9 (zza 6 (zI z) (zyq 7 (x := zB (decide (z < 0))) (zB true) (by rw [show (decide (z < 0)) = true from yy]) ?_)))))))))))
  refine zzb (zyr xj (zzf (zza 8 (.v (.int .u64 (z + 18446744073709551616))) (zyq 9 (x := .v (.int .u64 (IntKind.u64.wrap (0 - (z + 18446744073709551616))))) (.v (.int .u64 (-z))) (by rw [show (IntKind.u64.wrap (0 - (z + 18446744073709551616))) = (-z) from (by simp [IntKind.wrap, IntKind.bits, IntKind.signed]; omega)]) (zza 3 (.v (.int .u64 (-z))) (zzb (sq9 (zza 10 (zI z) (zyq 11 (x := zB (decide (z < 0))) (zB true) (by rw [show (decide (z < 0)) = true from yy]) (zza 12 (.v (.int .u64 (-z))) (zyq 13 (x := .v (.int .u32 (IntKind.u32.wrap (-z)))) (.v (.int .u32 ((-z) % 4294967296))) (by rw [show (IntKind.u32.wrap (-z)) = ((-z) % 4294967296) from (IntKind.wrap_u32 _)]) ?_)))))))))))
  refine zza 14 (.v (.int .u64 (-z))) (zyq 15 (x := .v (.int .u64 (Int.fdiv (-z) (2 ^ 32)))) (.v (.int .u64 ((-z) / 4294967296))) (by rw [show (Int.fdiv (-z) (2 ^ 32)) = ((-z) / 4294967296) from (by rw [Int.fdiv_eq_ediv_of_nonneg _ yv]; rfl)]) (zyq 16 (x := .v (.int .u32 (IntKind.u32.wrap ((-z) / 4294967296)))) (.v (.int .u32 ((-z) / 4294967296))) (by rw [show (IntKind.u32.wrap ((-z) / 4294967296)) = ((-z) / 4294967296) from (IntWalk.u32_in _ xq)]) (zxz 17 ⟨159, [.int .u32 ((-z) % 4294967296), .int .u32 ((-z) / 4294967296)]⟩ 2 (fun b11 u12 e13 h14 => ?_))))
  refine zzg 18 129 [.slice (some ⟨b11, 0, none⟩) 2 2] ?_
  intro w15 u15 e15 d15
  have k20 := k_natTrim d15 ((two_data (N := z.natAbs) h14 xq xq xq).ext e15) xq
  with_reducible refine zPm k20 ?_
  rintro _ u18 g19 ⟨x16, rfl, h17⟩
  refine zzg 19 128 [.bool true, x16.v] ?_
  intro w21 u21 e21 d21
  have k26 := k_signed d21 (s := true) (h17.ext e21)
  with_reducible refine zPm k26 ?_
  rintro _ u24 g25 ⟨i22, rfl, h23⟩
  refine zzj ⟨72, i22.cs⟩ ty72 ?_
  refine zzb (zzo (ret0 [i22.v] ⟨zzr ty72 zze, trivial⟩ fun u27 e28 => ?_))
  refine ⟨i22, rfl, IntN.more (K := 2) ?_ xq⟩
  have e : z = Nt.sg true z.natAbs := by unfold Nt.sg; simp; omega
  rw [e]
  exact (h23.ext e28)
 ·refine zzm (args := [.int .i64 z]) Tryz.func88 rfl Tryz.ntmps88 (rs := [.cell 2 72]) Tryz.results88 (le_b rfl) (le_b rfl) d ?_
  refine sq9 (zzk 2 ⟨72, [.bool false, .slice none 0 0]⟩ (zzb (sq9 (zza 4 (zI z) (zyq 5 (x := .v (.int .u64 (IntKind.u64.wrap z))) (.v (.int .u64 (z))) (by rw [show (IntKind.u64.wrap z) = z from (by simp [IntKind.wrap, IntKind.bits, IntKind.signed]; omega)]) (zza 3 (.v (.int .u64 z)) (zzb (zzd (sq9 (zza 6 (zI z) (zyq 7 (x := zB (decide (z < 0))) (zB false) (by rw [show (decide (z < 0)) = false from yy]) ?_)))))))))))
  refine zzb (zys xj (zzs (zzp ?_)))
  refine sq9 (zza 10 (zI z) (zyq 11 (x := zB (decide (z < 0))) (zB false) (by rw [show (decide (z < 0)) = false from yy]) (zza 12 (.v (.int .u64 z)) (zyq 13 (x := .v (.int .u32 (IntKind.u32.wrap (z)))) (.v (.int .u32 ((z) % 4294967296))) (by rw [show (IntKind.u32.wrap (z)) = ((z) % 4294967296) from (IntKind.wrap_u32 _)]) (zza 14 (.v (.int .u64 z)) (zyq 15 (x := .v (.int .u64 (Int.fdiv (z) (2 ^ 32)))) (.v (.int .u64 ((z) / 4294967296))) (by rw [show (Int.fdiv (z) (2 ^ 32)) = ((z) / 4294967296) from (by rw [Int.fdiv_eq_ediv_of_nonneg _ yv]; rfl)]) (zyq 16 (x := .v (.int .u32 (IntKind.u32.wrap ((z) / 4294967296)))) (.v (.int .u32 ((z) / 4294967296))) (by rw [show (IntKind.u32.wrap ((z) / 4294967296)) = ((z) / 4294967296) from (IntWalk.u32_in _ xq)]) (zxz 17 ⟨159, [.int .u32 ((z) % 4294967296), .int .u32 ((z) / 4294967296)]⟩ 2 (fun b11 u12 e13 h14 => ?_)))))))))
  refine zzg 18 129 [.slice (some ⟨b11, 0, none⟩) 2 2] ?_
  intro w15 u15 e15 d15
  have k20 := k_natTrim d15 ((two_data (N := z.natAbs) h14 xq xq xq).ext e15) xq
  with_reducible refine zPm k20 ?_
  rintro _ u18 g19 ⟨x16, rfl, h17⟩
  refine zzg 19 128 [.bool false, x16.v] ?_
  intro w21 u21 e21 d21
  have k26 := k_signed d21 (s := false) (h17.ext e21)
  with_reducible refine zPm k26 ?_
  rintro _ u24 g25 ⟨i22, rfl, h23⟩
  refine zzj ⟨72, i22.cs⟩ ty72 ?_
  refine zzb (zzo (ret0 [i22.v] ⟨zzr ty72 zze, trivial⟩ fun u27 e28 => ?_))
  refine ⟨i22, rfl, IntN.more (K := 2) ?_ xq⟩
  have e : z = Nt.sg false z.natAbs := by unfold Nt.sg; simp; omega
  rw [e]
  exact (h23.ext e28)
end Go.Proofs.YtifcjcecmoimjaaGreat
