/- Parts of the proof: contracts of functions, each walked once, and plain laws. -/
import Derived.Test.YtgmkhhfbckjaeaaGreatXchC
import Derived.Test.YtgmkhhfbckjaeaaGreatProg
import Derived.KernelRfl
set_option linter.unusedVariables false
set_option maxHeartbeats 8000000
namespace Go.Proofs.YtgmkhhfbckjaeaaGreat
open Nt
namespace Nt
def Wh (x : Rat) (C : Nat) : Prop := ∃ z : Int, x = (z : Rat) ∧ z.natAbs ≤ 2 ^ C
def dg (C : Nat) : Nat := C / 32 + 1
theorem Wh.more {x : Rat} {A C : Nat} (h : Wh x A) (k : A ≤ C) : Wh x C := by
 obtain ⟨z, e, b⟩ := h
 exact ⟨z, e, Nat.le_trans b (Nat.pow_le_pow_right xq k)⟩
theorem Wh.zero (C : Nat) : Wh 0 C := ⟨0, rfl, Nat.zero_le _⟩
theorem Wh.mul {x y : Rat} {A B : Nat} (h : Wh x A) (k : Wh y B) : Wh (x * y) (A + B) := by
 obtain ⟨z, rfl, b⟩ := h
 obtain ⟨v, rfl, c⟩ := k
 exact ⟨z * v, by rw [Rat.intCast_mul], by rw [Int.natAbs_mul, Nat.pow_add]; exact Nat.mul_le_mul b c⟩
theorem Wh.add {x y : Rat} {A : Nat} (h : Wh x A) (k : Wh y A) : Wh (x + y) (A + 1) := by
 obtain ⟨z, rfl, b⟩ := h
 obtain ⟨v, rfl, c⟩ := k
 exact ⟨z + v, by rw [Rat.intCast_add], by rw [Nat.pow_succ]; omega⟩
theorem pwTwo (k : Nat) : pw k = ((2 ^ (32 * k) : Nat) : Int) := by
 induction k with
 | zero => rfl
 | succ k ih =>
  rw [show 32 * (k + 1) = 32 * k + 32 by omega, Nat.pow_add, Int.natCast_mul, ← ih]
  show 4294967296 * pw k = _
  rw [Int.mul_comm]; rfl
def mulN (n : Nat) (l : List Rat) (q : Rat) : List Rat := (List.range l.length).map fun i => if i < n then co l i * q else co l i
@[simp] theorem mulN_len (n : Nat) (l : List Rat) (q : Rat) : (mulN n l q).length = l.length := by simp [mulN]
theorem list_ext {l m : List Rat} (hl : l.length = m.length) (h : ∀ i, co l i = co m i) : l = m := by
 apply List.ext_getElem? 
 intro i
 have := h i
 unfold co at this
 rw [qyg, qyg] at this
 by_cases hi : i < l.length
 ·rw [List.getElem?_eq_getElem hi, List.getElem?_eq_getElem xq] at this ⊢
  simpa using this
 rw [List.getElem?_eq_none xq, List.getElem?_eq_none xq]
def subN (a : Nat) (c : Rat) (q t : List Rat) : Nat → List Rat
 | 0 => t
 | j + 1 => (subN a c q t j).set (a + j) ((subN a c q t j).getD (a + j) 0 - c * q.getD j 0)
@[simp] theorem subN_len (a : Nat) (c : Rat) (q t : List Rat) (j : Nat) : (subN a c q t j).length = t.length := by
 induction j with
 | zero => rfl
 | succ j ih => simp [subN, ih]
structure DivR (p q s t : List Rat) (f : Rat) : Prop where
 f0 : f ≠ 0
 eq : ∀ i, f * co p i = co (mulQ s q) i + co t i
 lt : t.length < q.length
 tl : t.length ≤ p.length
 sl : s.length ≤ p.length + 1
end Nt
namespace Nt
structure Pol where
 l : List Rat
 h : Nrm l
namespace Pol
def mk' (l : List Rat) : Pol := ⟨trimQ l, trim_nrm l⟩
def c (p : Pol) (i : Nat) : Rat := co p.l i
theorem mk_c (l : List Rat) (i : Nat) : (mk' l).c i = co l i := trim_co l i
theorem ext {p q : Pol} (h : ∀ i, p.c i = q.c i) : p = q := by
 obtain ⟨l, hl⟩ := p
 obtain ⟨m, hm⟩ := q
 have e : trimQ l = trimQ m := trim_ext h
 unfold Nrm at hl hm
 rw [hl, hm] at e
 subst e; rfl
theorem mk_l (p : Pol) : mk' p.l = p := ext fun i => mk_c _ i
def C (a : Rat) : Pol := mk' [a]
instance (n : Nat) : OfNat Pol n := ⟨C (n : Rat)⟩
instance : Add Pol := ⟨fun p q => mk' (addQ p.l q.l)⟩
instance : Mul Pol := ⟨fun p q => mk' (mulQ p.l q.l)⟩
instance : Neg Pol := ⟨fun p => mk' (negQ p.l)⟩
instance : Sub Pol := ⟨fun p q => p + -q⟩
def X : Pol := mk' [0, 1]
theorem c_add (p q : Pol) (i : Nat) : (p + q).c i = p.c i + q.c i := (mk_c _ i).trans (addQ_co _ _ i)
theorem c_neg (p : Pol) (i : Nat) : (-p).c i = -p.c i := (mk_c _ i).trans (negQ_co _ i)
theorem c_C (a : Rat) (i : Nat) : (C a).c i = if i = 0 then a else 0 := by
 unfold C
 rw [mk_c]
 cases i with
 | zero => rfl
 | succ i => rw [zxv, co_nil, if_neg xq]
theorem c_zero (i : Nat) : (0 : Pol).c i = 0 := by
 have h : (0 : Pol).c i = if i = 0 then (0 : Rat) else 0 := c_C 0 i
 rw [h]; split <;> rfl
theorem zero_l : (0 : Pol).l = [] := zxz.2 fun i => by
 have := c_zero i
 unfold c at this
 show co [((0 : Nat) : Rat)] i = 0
 rw [← trim_co]; exact this
theorem mk_add (l m : List Rat) : mk' (addQ l m) = mk' l + mk' m := ext fun i => by rw [mk_c, addQ_co, c_add, mk_c, mk_c]
theorem mk_mul (l m : List Rat) : mk' (mulQ l m) = mk' l * mk' m := ext fun i => by
 show _ = (mk' (mulQ (trimQ l) (trimQ m))).c i
 rw [mk_c, mk_c]
 exact zwh (fun i => (trim_co l i).symm) (fun i => (trim_co m i).symm) i
theorem c_mul (p q : Pol) (i : Nat) : (p * q).c i = co (mulQ p.l q.l) i := mk_c _ i
theorem mk_cons (a : Rat) (l : List Rat) (i : Nat) : (mk' (a :: l)).c i = if i = 0 then a else (mk' l).c (i - 1) := by
 rw [mk_c]
 cases i with
 | zero => rfl
 | succ i => rw [zxv, if_neg xq, mk_c]; rfl
theorem mulQ_consR (l : List Rat) (b : Rat) (m : List Rat) (k : Nat) : co (mulQ l (b :: m)) k = b * co l k + sh (co (mulQ l m)) k := by
 induction l generalizing k with
 | nil =>
  rw [mulQ_nil, co_nil]
  have e : sh (co (mulQ [] m)) k = 0 := by unfold sh; split <;> rfl
  rw [e]; grind
 | cons a l ih =>
  rw [zxe]
  cases k with
  | zero => unfold sh; rw [if_pos rfl, if_pos rfl, co_zero, co_zero]; grind
  | succ k =>
   have e1 : sh (co (mulQ l (b :: m))) (k + 1) = b * co l k + sh (co (mulQ l m)) k := by
    unfold sh; rw [if_neg xq, Nat.add_sub_cancel]; exact ih k
   have e2 : sh (co (mulQ (a :: l) m)) (k + 1) = a * co m k + sh (co (mulQ l m)) k := by
    unfold sh; rw [if_neg xq, Nat.add_sub_cancel]; exact zxe a l m k
   rw [e1, e2, zxv, zxv]; grind
theorem mulQ_comm (l m : List Rat) (k : Nat) : co (mulQ l m) k = co (mulQ m l) k := by
 induction l generalizing k with
 | nil =>
  rw [mulQ_nil]
  exact (mulQ_zero_r (m := []) (fun i => co_nil i) m k).symm
 | cons a l ih =>
  rw [zxe, mulQ_consR]
  have e : sh (co (mulQ l m)) k = sh (co (mulQ m l)) k := by unfold sh; split; rfl; exact ih _
  rw [e]
theorem mulQ_add (l l' m : List Rat) (k : Nat) : co (mulQ (addQ l l') m) k = co (mulQ l m) k + co (mulQ l' m) k := by
 induction m generalizing k with
 | nil =>
  rw [mulQ_zero_r (fun i => co_nil i), mulQ_zero_r (fun i => co_nil i), mulQ_zero_r (fun i => co_nil i)]; exact (Rat.add_zero 0).symm
 | cons b m ih =>
  rw [mulQ_consR, mulQ_consR, mulQ_consR, addQ_co]
  cases k with
  | zero => unfold sh; rw [if_pos rfl, if_pos rfl, if_pos rfl]; grind
  | succ k =>
   have e : ∀ x : List Rat, sh (co x) (k + 1) = co x k := fun x => by unfold sh; rw [if_neg xq, Nat.add_sub_cancel]
   rw [e, e, e, ih k]; grind
theorem mulQ_assoc (l m n : List Rat) (k : Nat) : co (mulQ (mulQ l m) n) k = co (mulQ l (mulQ m n)) k := by
 induction l generalizing k with
 | nil => rfl
 | cons a l ih =>
  show co (mulQ (addQ (m.map (a * ·)) (0 :: mulQ l m)) n) k = _
  rw [mulQ_add, mulQ_scale_l, zxe, zxe]
  cases k with
  | zero => unfold sh; rw [if_pos rfl, if_pos rfl]; grind
  | succ k =>
   have e : ∀ x : List Rat, sh (co x) (k + 1) = co x k := fun x => by unfold sh; rw [if_neg xq, Nat.add_sub_cancel]
   rw [e, e, ih k]; grind
theorem mulQ_one (m : List Rat) (k : Nat) : co (mulQ [1] m) k = co m k := by
 rw [zxe]
 have e : sh (co (mulQ [] m)) k = 0 := by unfold sh; split <;> rfl
 rw [e]; grind
theorem mul_comm (p q : Pol) : p * q = q * p := ext fun i => by rw [c_mul, c_mul, mulQ_comm]
theorem mul_assoc (p q r : Pol) : p * q * r = p * (q * r) := ext fun i => by
 rw [c_mul, c_mul]
 show co (mulQ (trimQ (mulQ p.l q.l)) r.l) i = co (mulQ p.l (trimQ (mulQ q.l r.l))) i
 rw [zwh (l' := mulQ p.l q.l) (m' := r.l) (trim_co _) (fun _ => rfl), zwh (l' := p.l) (m' := mulQ q.l r.l) (fun _ => rfl) (trim_co _)]
 exact mulQ_assoc _ _ _ i
theorem one_mul (p : Pol) : 1 * p = p := ext fun i => by
 rw [c_mul]
 show co (mulQ (trimQ [((1 : Nat) : Rat)]) p.l) i = _
 rw [zwh (l' := [((1 : Nat) : Rat)]) (m' := p.l) (trim_co _) (fun _ => rfl)]
 exact mulQ_one _ i
theorem right_distrib (p q r : Pol) : (p + q) * r = p * r + q * r := ext fun i => by
 rw [c_mul, c_add, c_mul, c_mul]
 show co (mulQ (trimQ (addQ p.l q.l)) r.l) i = _
 rw [zwh (l' := addQ p.l q.l) (m' := r.l) (trim_co _) (fun _ => rfl)]
 exact mulQ_add _ _ _ i
theorem add_comm (p q : Pol) : p + q = q + p := ext fun i => by rw [c_add, c_add]; grind
theorem add_assoc (p q r : Pol) : p + q + r = p + (q + r) := ext fun i => by rw [c_add, c_add, c_add, c_add]; grind
theorem add_zero (p : Pol) : p + 0 = p := ext fun i => by rw [c_add, c_zero]; grind
theorem neg_add_cancel (p : Pol) : -p + p = 0 := ext fun i => by rw [c_add, c_neg, c_zero]; grind
theorem zero_mul (p : Pol) : 0 * p = 0 := ext fun i => by rw [c_mul, zero_l, mulQ_nil, c_zero]
theorem left_distrib (p q r : Pol) : p * (q + r) = p * q + p * r := by rw [mul_comm, right_distrib, mul_comm q, mul_comm r]
theorem mul_zero (p : Pol) : p * 0 = 0 := by rw [mul_comm, zero_mul]
theorem mul_one (p : Pol) : p * 1 = p := by rw [mul_comm, one_mul]
instance : NatCast Pol := ⟨fun n => C (n : Rat)⟩
instance : IntCast Pol := ⟨fun n => C (n : Rat)⟩
def npow (p : Pol) : Nat → Pol
 | 0 => 1
 | n + 1 => npow p n * p
instance : HPow Pol Nat Pol := ⟨npow⟩
instance : SMul Nat Pol := ⟨fun n p => C (n : Rat) * p⟩
instance : SMul Int Pol := ⟨fun n p => C (n : Rat) * p⟩
theorem C_add (a b : Rat) : C (a + b) = C a + C b := ext fun i => by
 rw [c_add, c_C, c_C, c_C]; split <;> grind
theorem C_neg (a : Rat) : C (-a) = -C a := ext fun i => by
 rw [c_neg, c_C, c_C]; split <;> grind
theorem C_zero : C 0 = 0 := rfl
theorem C_mul (a b : Rat) : C (a * b) = C a * C b := by
 show mk' [a * b] = mk' [a] * mk' [b]
 rw [← mk_mul]
 refine ext fun i => ?_
 rw [mk_c, mk_c, zxe]
 have e : sh (co (mulQ [] [b])) i = 0 := by unfold sh; split <;> rfl
 rw [e]
 cases i with
 | zero => rw [co_zero, co_zero]; grind
 | succ i => rw [zxv, zxv, co_nil]; grind
instance : Lean.Grind.CommRing Pol where
 add_zero := add_zero
 add_comm := add_comm
 add_assoc := add_assoc
 mul_assoc := mul_assoc
 mul_one := mul_one
 one_mul := one_mul
 left_distrib := left_distrib
 right_distrib := right_distrib
 zero_mul := zero_mul
 mul_zero := mul_zero
 mul_comm := mul_comm
 pow_zero := fun p => rfl
 pow_succ := fun p n => rfl
 neg_add_cancel := neg_add_cancel
 sub_eq_add_neg := fun p q => rfl
 ofNat_succ := fun n => by
  show C ((n + 1 : Nat) : Rat) = C (n : Rat) + C 1
  rw [← C_add]; congr 1
  exact Rat.natCast_add n 1
 ofNat_eq_natCast := fun n => rfl
 intCast_ofNat := fun n => rfl
 intCast_neg := fun n => by
  show C ((-n : Int) : Rat) = -C (n : Rat)
  rw [← C_neg, Rat.intCast_neg]
 nsmul_eq_natCast_mul := fun n p => rfl
 zsmul_natCast_eq_nsmul := fun n p => rfl
 neg_zsmul := fun n p => by
  show C ((-n : Int) : Rat) * p = -(C (n : Rat) * p)
  rw [Rat.intCast_neg, C_neg]
  refine ext fun i => ?_
  rw [c_neg, c_mul, c_mul]
  show co (mulQ (trimQ (negQ (C (n : Rat)).l)) p.l) i = _
  rw [zwh (l' := negQ (C (n : Rat)).l) (m' := p.l) (trim_co _) (fun _ => rfl)]
  have e : negQ (C (n : Rat)).l = (C (n : Rat)).l.map ((-1) * ·) := by unfold negQ; congr 1; funext x; grind
  rw [e, mulQ_scale_l]; grind
example (p q : Pol) : (p + q) * (p - q) = p * p - q * q := by grind
example (p q : Pol) : (p + q) ^ 2 = p ^ 2 + 2 * p * q + q ^ 2 := by grind
end Pol
end Nt
namespace Nt
theorem mulQ_far {l m : List Rat} {k : Nat} (h : l.length + m.length ≤ k + 1) : co (mulQ l m) k = 0 := by
 induction l generalizing k with
 | nil => rfl
 | cons a l ih =>
  rw [zxe, co_ge (l := m) (by simp at h; omega)]
  unfold sh
  split
  ·grind
  rw [ih (by simp at h; omega)]; grind
namespace Pol
def len (p : Pol) : Nat := p.l.length
theorem c_ge {p : Pol} {i : Nat} (h : p.len ≤ i) : p.c i = 0 := co_ge h
theorem len_le {p : Pol} {n : Nat} (h : ∀ i, n ≤ i → p.c i = 0) : p.len ≤ n := by
 apply Classical.byContradiction
 intro k
 have h1 : p.l.length > n := by unfold len at k; omega
 have h2 := nrm_last p.h (by intro e; rw [e] at h1; simp at h1)
 exact h2 (h _ xq)
theorem zero_of_len {p : Pol} (h : p.len = 0) : p = 0 := ext fun i => by rw [c_zero, c_ge xq]
instance : Dvd Pol := ⟨fun q p => ∃ u, p = q * u⟩
theorem mk_cons' (a : Rat) (l : List Rat) : mk' (a :: l) = C a + X * mk' l := ext fun i => by
 have hX : ∀ p : Pol, (X * p).c i = if i = 0 then 0 else p.c (i - 1) := fun p => by
  rw [c_mul]
  show co (mulQ (trimQ [0, 1]) p.l) i = _
  rw [zwh (l' := [0, 1]) (m' := p.l) (trim_co _) (fun _ => rfl), zxe]
  unfold sh
  split
  ·grind
  rw [mulQ_one]; show 0 * _ + p.c (i - 1) = _; grind
 rw [c_add, hX, mk_cons, c_C]
 split <;> grind
theorem ind {P : Pol → Prop} (h0 : P 0) (h1 : ∀ a p, P p → P (C a + X * p)) (p : Pol) : P p := by
 rw [← mk_l p]
 generalize p.l = l
 induction l with
 | nil => exact (zero_of_len (p := mk' []) rfl) ▸ h0
 | cons a l ih => rw [mk_cons']; exact h1 a _ ih
def D (p : Pol) : Pol := mk' (derQ p.l)
def evL : List Rat → Rat → Rat
 | [], x => 0
 | a :: l, x => a + x * evL l x
theorem evL_zero {l : List Rat} (h : ∀ i, co l i = 0) (x : Rat) : evL l x = 0 := by
 induction l with
 | nil => rfl
 | cons a l ih =>
  have h0 : a = 0 := h 0
  show a + x * evL l x = 0
  rw [ih fun i => by rw [← zxv a]; exact h (i + 1), h0]; grind
theorem evL_congr {l m : List Rat} (h : ∀ i, co l i = co m i) (x : Rat) : evL l x = evL m x := by
 induction l generalizing m with
 | nil => rw [evL_zero (l := m) fun i => by rw [← h i, co_nil]]; rfl
 | cons a l ih =>
  cases m with
  | nil => rw [evL_zero (l := a :: l) fun i => by rw [h i, co_nil]]; rfl
  | cons b m =>
   have h0 : a = b := h 0
   show a + x * evL l x = b + x * evL m x
   have e := ih (m := m) (fun i => by have := h (i + 1); rw [zxv, zxv] at this; exact this)
   rw [h0, e]
def ev (p : Pol) (x : Rat) : Rat := evL p.l x
theorem mk_ev (l : List Rat) (x : Rat) : (mk' l).ev x = evL l x := evL_congr (trim_co l) x
theorem ev_zero (x : Rat) : ev 0 x = 0 := evL_zero (fun i => c_zero i) x
theorem ev_cons (a : Rat) (p : Pol) (x : Rat) : ev (C a + X * p) x = a + x * ev p x := by
 have e : C a + X * p = mk' (a :: p.l) := by rw [mk_cons', mk_l]
 rw [e, mk_ev]; rfl
theorem ev_add (p q : Pol) (x : Rat) : ev (p + q) x = ev p x + ev q x := by
 induction p using ind generalizing q with
 | h0 => rw [ev_zero, show (0 : Pol) + q = q by grind]; grind
 | h1 a p ih =>
  induction q using ind with
  | h0 => rw [ev_zero, add_zero]; grind
  | h1 b q _ =>
   have e : C a + X * p + (C b + X * q) = C (a + b) + X * (p + q) := by rw [C_add]; grind
   rw [e, ev_cons, ev_cons, ev_cons, ih]; grind
theorem ev_Cmul (a : Rat) (p : Pol) (x : Rat) : ev (C a * p) x = a * ev p x := by
 induction p using ind with
 | h0 => rw [mul_zero, ev_zero]; grind
 | h1 b p ih =>
  have e : C a * (C b + X * p) = C (a * b) + X * (C a * p) := by rw [C_mul]; grind
  rw [e, ev_cons, ev_cons, ih]; grind
theorem ev_mul (p q : Pol) (x : Rat) : ev (p * q) x = ev p x * ev q x := by
 induction p using ind with
 | h0 => rw [zero_mul, ev_zero]; grind
 | h1 a p ih =>
  have e : (C a + X * p) * q = C a * q + (C 0 + X * (p * q)) := by rw [C_zero]; grind
  rw [e, ev_add, ev_Cmul, ev_cons, ih, ev_cons]; grind
end Pol
end Nt
namespace Nt
def prim (l : List Rat) : List Rat := (trimQ l).map (· / msr (trimQ l))
@[simp] theorem prim_len (l : List Rat) : (prim l).length = (trimQ l).length := by simp [prim]
end Nt
open Go.RowKit Go.ChangeShapes Go.WideShapes
namespace Nt
section
variable {l m : List Rat} {D E A B K : Nat} {q : Rat}
theorem dz (h : 0 < D) : ((D : Int) : Rat) ≠ 0 := fun e => by
 have := Rat.intCast_inj.1 (show ((D : Int) : Rat) = ((0 : Int) : Rat) from e); omega
theorem dl_dg {n C : Nat} (h : n ≤ 2 ^ C) : dl n ≤ dg C := by
 refine dl_le ?_
 rw [pwTwo]
 exact Int.ofNat_lt.2 (Nat.lt_of_le_of_lt h (Nat.pow_lt_pow_right xq (by unfold dg; omega)))
theorem wh_rs {x : Rat} (h0 : 0 < D) (h : Wh (x * ((D : Int) : Rat)) A) (hD : D ≤ 2 ^ A) : rs x ≤ dg A := by
 obtain ⟨z, hz, hb⟩ := h
 have h1 := dz h0
 have e : x = mkRat z D := by rw [← mk_div, ← hz]; grind
 rw [e]
 exact rs_mk (dl_dg hb) (dl_dg hD) (by unfold dg; omega)
end
end Nt
section
variable {H : Type} {enc : TypeId × Value → H} {w : World} {base : Nat} {spare : Nat → Bool} {held : Bool} {fuel : Nat} {r0 : Reach} {b0 : Nat} {v : Value} {d : DataW H} {p : List MemPlace}
set_option maxRecDepth 100000 in
theorem ar_intsv (hv : Value.okWide Tryz.prog w r0 b0 22 v) (h : DataW.Trod enc Tryz.prog w base spare held 22 v d p) : ∃ (s : Sl) (l : List Int), v = s.v ∧ SlR .i64 w s.a s.n s.c l ∧ ∀ z ∈ l, -9223372036854775808 ≤ z ∧ z ≤ 9223372036854775807 := by
 obtain ⟨a, n, c, rfl⟩ := okWide_slice Tryz.underlying22 hv
 obtain ⟨fuel, hf⟩ := h
 obtain ⟨s, l, h1, h2, h3⟩ := ar_slr (k := .i64) (e := 3) xj xj xj hf
 have h1 : [Value.slice a n c] = [s.v] := h1
 exact ⟨s, l, (List.cons.inj h1).1, h2, fun z hz => wf_i64 (h3 z hz)⟩
theorem rcs_ix {L : List RL} {i k : Nat} (h : i < L.length) (hk : k < 3) : (rcs L)[i * 3 + k]? = (L.getD i rl0).cs[k]? := by
 rw [← rcs_get h, List.getElem?_take_of_lt hk, List.getElem?_drop]
set_option maxRecDepth 100000 in
theorem ar_pol {cs : List Value} {x : DataW H × List MemPlace} (h : DataW.trod enc Tryz.prog w base spare held fuel 27 cs = some x) : ∃ (s : Sl) (l : List Rat) (K : Nat), cs = [s.v] ∧ PolV w s l K := by
 rcases Go.Deep.open_slice (e := 32) xj h with ⟨rfl, _⟩ | ⟨a, n, c, m, k, D, Pl, rfl, _, hl, hm, hmm, _, hi⟩
 ·exact ⟨⟨none, 0, 0⟩, [], 1, rfl, (pol_nil _ _).raw⟩
 have e3 : Tryz.prog.cellsOf 32 = 3 := by kernel_rfl
 rw [e3] at hi
 have hnm : n ≤ m := by rw [hmm]; split <;> omega
 have hi2 : ∀ i : Nat, ∃ z : RL × Rat × Nat, i < n → RatV w z.1 z.2.1 z.2.2 ∧ ∀ k, k < 3 → w.cell? ((a.add (i * 3)).add k) = z.1.cs[k]? := by
  intro i
  by_cases hin : i < n
  ·obtain ⟨cs', h1, h2⟩ := hi i xq
   obtain ⟨r, q, K, h3, h4⟩ := ar_rat h2
   have h5 := (World.cells?_some h1).2.2
   rw [h3] at h5
   exact ⟨(r, q, K), fun _ => ⟨h4, h5⟩⟩
  exact ⟨(rl0, 0, 0), fun e => absurd e hin⟩
 obtain ⟨f, hf⟩ := Classical.skolem.1 hi2
 have hK : ∀ n : Nat, ∃ K, ∀ i, i < n → (f i).2.2 ≤ K := by
  intro n
  induction n with
  | zero => exact ⟨0, fun i h => absurd h (Nat.not_lt_zero i)⟩
  | succ n ih =>
   obtain ⟨K, hK⟩ := ih
   refine ⟨max K (f n).2.2, fun i hi => ?_⟩
   by_cases e : i = n
   ·rw [e]; exact Nat.le_max_right _ _
   exact Nat.le_trans (hK i xq) (Nat.le_max_left _ _)
 obtain ⟨K, hK⟩ := hK n
 refine ⟨⟨some a, n, c⟩, (List.range n).map fun i => (f i).2.1, K, rfl, (List.range n).map fun i => (f i).1, ⟨by rw [zyy]; simp, hl, hm, fun hp => ?_⟩, by simp, fun i hi => ?_⟩
 ·have hp : 0 < n := hp
  obtain ⟨b, o, sp⟩ := a
  have h0 := (hf 0 hp).2 0 xq
  have e0 : ((⟨b, o, sp⟩ : Addr).add (0 * 3)).add 0 = ⟨b, o, sp⟩ := by simp [Addr.add]
  rw [e0] at h0
  have hsp : sp = none := by
   have h1 : (f 0).1.cs[0]? = some (.bool (f 0).1.s) := rfl
   rw [h1] at h0
   simpa using World.cell?_spot h0
  subst hsp
  refine ⟨b, o, rfl, fun j hj => ?_⟩
  rw [zyy, List.length_map, List.length_range] at hj
  have hq : j / 3 < n := by omega
  have h2 := (hf (j / 3) hq).2 (j % 3) xq
  have e1 : ((⟨b, o, none⟩ : Addr).add (j / 3 * 3)).add (j % 3) = ⟨b, o + j, none⟩ := by rw [addr_add, addr_add, show o + j / 3 * 3 + j % 3 = o + j by omega]
  rw [e1] at h2
  have h3 := rcs_ix (L := (List.range n).map fun i => (f i).1) (i := j / 3) (k := j % 3) yw xq
  rw [show j / 3 * 3 + j % 3 = j by omega] at h3
  rw [h2, h3]
  simp [List.getElem?_range hq]
 simp only [List.length_map, List.length_range] at hi
 have h9 := ((hf i hi).1).more (hK i hi)
 simpa [qyg, List.getElem?_range hi] using h9
end
section
variable {H : Type} {enc : TypeId × Value → H} {w : World} {base : Nat} {spare : Nat → Bool} {held : Bool} {r0 : Reach} {b0 : Nat} {v : Value} {d : DataW H} {p : List MemPlace}
theorem three_of {α : Type} {l : List α} (h : l.length = 3) : ∃ a b c, l = [a, b, c] := by
 match l, h with
 | [a, b, c], _ => exact ⟨a, b, c, rfl⟩
set_option maxRecDepth 100000 in
theorem ar_mmx (hv : Value.okWide Tryz.prog w r0 b0 34 v) (h : DataW.Trod enc Tryz.prog w base spare held 34 v d p) : ∃ (s : Sl) (r : RL) (z : Sl) (p : List Rat) (e : Rat) (L : List Int) (K Ke : Nat), v = .agg #[.slice s.a s.n s.c, .bool r.s, .slice r.m.a r.m.n r.m.c, .slice r.d.a r.d.n r.d.c, .slice z.a z.n z.c] ∧ PolV w s p K ∧ RatV w r e Ke ∧ SlR .i64 w z.a z.n z.c L ∧ (∀ z ∈ L, -9223372036854775808 ≤ z ∧ z ≤ 9223372036854775807) := by
 obtain ⟨cs, rfl, hsz⟩ := okWide_struct Tryz.underlying34 hv
 obtain ⟨fuel, hf⟩ := h
 obtain ⟨xs, n, _, _, hlen, hxs, hf⟩ := DataW.trod_struct Tryz.underlying34 hf
 have hlen : cs.toList.length = 5 := hlen.trans xj
 obtain ⟨y0, y1, y2, rfl⟩ := three_of (hxs.trans rfl)
 change ∀ _, _ at hf
 have h0 : DataW.trod enc Tryz.prog w base spare held n 27 (cs.toList.take 1) = some y0 := by
  have e : Tryz.prog.cellsOf 27 = 1 := by kernel_rfl
  have h9 := hf 0 _ rfl; rw [show ((Value.agg cs).cells).toList = cs.toList from rfl] at h9; simpa [e] using h9
 have h1 : DataW.trod enc Tryz.prog w base spare held n 32 ((cs.toList.drop 1).take 3) = some y1 := by
  have e : Tryz.prog.cellsOf 32 = 3 := by kernel_rfl
  have h9 := hf 1 _ rfl; rw [show ((Value.agg cs).cells).toList = cs.toList from rfl] at h9; simpa [e] using h9
 have h2 : DataW.trod enc Tryz.prog w base spare held n 22 ((cs.toList.drop 4).take 1) = some y2 := by
  have e : Tryz.prog.cellsOf 22 = 1 := by kernel_rfl
  have h9 := hf 2 _ rfl; rw [show ((Value.agg cs).cells).toList = cs.toList from rfl] at h9; simpa [e] using h9
 obtain ⟨s, pl, K, hs, hp⟩ := ar_pol h0
 obtain ⟨r, q, Ke, hr, hq⟩ := ar_rat h1
 obtain ⟨z, L, hz, g1, f1⟩ := ar_slr (k := .i64) (e := 3) xj xj xj h2
 refine ⟨s, r, z, pl, q, L, K, Ke, ?_, hp, hq, g1, fun z hz => wf_i64 (f1 z hz)⟩
 have hcs : cs.toList = [s.v] ++ (r.cs ++ [z.v]) := by
  rw [← hs, ← hr, ← hz]
  have e1 : cs.toList = cs.toList.take 1 ++ cs.toList.drop 1 := (List.take_append_drop 1 _).symm
  have e2 : cs.toList.drop 1 = (cs.toList.drop 1).take 3 ++ (cs.toList.drop 4).take 1 := by
   have e3 := (List.take_append_drop 3 (cs.toList.drop 1)).symm
   rw [List.drop_drop, show 1 + 3 = 4 from rfl] at e3
   rw [List.take_of_length_le (l := cs.toList.drop 4) (by rw [List.length_drop]; omega)]
   exact e3
  rw [← e2]; exact e1
 obtain ⟨cl⟩ := cs
 have hcs : cl = [s.v] ++ (r.cs ++ [z.v]) := hcs
 rw [hcs]
 rfl
end
end Go.Proofs.YtgmkhhfbckjaeaaGreat
namespace Go.Proofs.YtgmkhhfbckjaeaaGreat
open Nt
open Go.RowKit
theorem ty3 : TyIs Tryz.prog 3 false 1 := fun w => ⟨by kernel_rfl, by kernel_rfl⟩
theorem ty4 : TyIs Tryz.prog 4 false 1 := fun w => ⟨by kernel_rfl, by kernel_rfl⟩
theorem ty22 : TyIs Tryz.prog 22 false 1 := fun w => ⟨by kernel_rfl, by kernel_rfl⟩
theorem ty26 : TyIs Tryz.prog 26 false 1 := fun w => ⟨by kernel_rfl, by kernel_rfl⟩
theorem ty27 : TyIs Tryz.prog 27 false 1 := fun w => ⟨by kernel_rfl, by kernel_rfl⟩
theorem ty28 : TyIs Tryz.prog 28 false 1 := fun w => ⟨by kernel_rfl, by kernel_rfl⟩
theorem ty30 : TyIs Tryz.prog 30 true 2 := fun w => ⟨by kernel_rfl, by kernel_rfl⟩
theorem ty32 : TyIs Tryz.prog 32 true 3 := fun w => ⟨by kernel_rfl, by kernel_rfl⟩
theorem ty34 : TyIs Tryz.prog 34 true 5 := fun w => ⟨by kernel_rfl, by kernel_rfl⟩
theorem ty56 : TyIs Tryz.prog 56 true 9 := fun w => ⟨by kernel_rfl, by kernel_rfl⟩
theorem ty133 : TyIs Tryz.prog 133 false 1 := fun w => ⟨by kernel_rfl, by kernel_rfl⟩
theorem ty195 : TyIs Tryz.prog 195 true 3 := fun w => ⟨by kernel_rfl, by kernel_rfl⟩
theorem ty197 : TyIs Tryz.prog 197 true 4 := fun w => ⟨by kernel_rfl, by kernel_rfl⟩
theorem sl22 : SlIs Tryz.prog 22 1 := ⟨3, false, by kernel_rfl, ty3⟩
theorem sl23 : SlIs Tryz.prog 23 9 := ⟨56, true, by kernel_rfl, ty56⟩
theorem sl26 : SlIs Tryz.prog 26 3 := ⟨32, true, by kernel_rfl, ty32⟩
theorem sl27 : SlIs Tryz.prog 27 3 := ⟨32, true, by kernel_rfl, ty32⟩
theorem sl28 : SlIs Tryz.prog 28 1 := ⟨133, false, by kernel_rfl, ty133⟩
theorem sl75 : SlIs Tryz.prog 75 1 := ⟨26, false, by kernel_rfl, ty26⟩
theorem sl191 : SlIs Tryz.prog 191 2 := ⟨30, true, by kernel_rfl, ty30⟩
theorem k_riTrim {u w : World} {i1 : IL} {zN : Int} {K : Nat} (d : Dat u w) (hi1 : IntV u i1 zN K) (hK : K ≤ 500000000) : qyc 154 #[i1.v] w (Post u w fun v u' => ∃ i : IL, v = i.v ∧ IntN u' i zN K) := by
 obtain ⟨N, hN, hzN⟩ := hi1
 refine zzm Tryz.func154 rfl Tryz.ntmps154 Tryz.results154 d ?_
 refine sq9 (zzk 1 ⟨30, i1.cs⟩ (zzk 2 ⟨30, [.bool false, qyn]⟩ (zzb (sq9 (zza 4 (.adr 1 1) (zzi 5 (.v (i1.m.v)) ty28 zzl (zzg 6 157 _ fun _ _ ag ad => qym (k_rnTrim ad (hN.ext ag) xq) ?_)))))))
 rintro _ u14 g15 ⟨aa, rfl, ac⟩
 refine zza 3 (.v (aa.v)) (zzb (sq9 (zza 7 (.adr 1 0) (zzi 8 (zB i1.s) ty4 zzl ?_))))
 rcases Bool.eq_false_or_eq_true i1.s with hs17 | hs17
 ·refine qbi 9 hs17 (zza 10 (.v (aa.v)) ?_ (hw := w1 2 true 9))
  refine zza 11 (zI aa.n) ?_ (hw := w1 2 true 9)
  refine zza 12 (zB (decide ((0 : Int) < (aa.n : Int)))) ?_ (hw := w1 2 true 9)
  refine zza 13 (zB (decide ((0 : Int) < (aa.n : Int)))) (zza 14 (.v (aa.v)) (zza 15 (.v (.agg #[.bool (decide ((0 : Int) < (aa.n : Int))), aa.v])) (zzj ⟨30, [.bool (decide ((0 : Int) < (aa.n : Int))), aa.v]⟩ ty30 ?_)))
  refine zzb (zzo (ret0 [.agg #[.bool (decide ((0 : Int) < (aa.n : Int))), aa.v]] ⟨zzr ty30 zze, trivial⟩ fun u18 ae => ?_))
  refine ⟨⟨_, aa⟩, rfl, ?_⟩
  rw [hzN, hs17]
  exact signed_int (s := true) (ac.ext ae)
 refine qbi 9 hs17 (zzn 10 (uw 2 true false 9) (zzn 11 (uw 2 true false 9) (zzn 12 (uw 2 true false 9) (zza 13 (zB false) (zza 14 (.v (aa.v)) (zza 15 (.v (.agg #[.bool false, aa.v])) (zzj ⟨30, [.bool false, aa.v]⟩ ty30 ?_)))))))
 refine zzb (zzo (ret0 [.agg #[.bool false, aa.v]] ⟨zzr ty30 zze, trivial⟩ fun u20 af => ?_))
 refine ⟨⟨_, aa⟩, rfl, ?_⟩
 rw [hzN, hs17]
 exact signed_int (s := false) (ac.ext af)
theorem k_riSign {u w : World} {i1 : IL} {zN : Int} {K : Nat} (d : Dat u w) (hi1 : IntV u i1 zN K) (hK : K ≤ 500000000) : qyc 96 #[i1.v] w (Post u w fun v u' => v = .int .i64 (Nt.cmpS zN 0)) := by
 refine zzm Tryz.func96 rfl Tryz.ntmps96 Tryz.results96 d ?_
 refine sq9 (zzk 1 ⟨30, i1.cs⟩ (zza 2 (zI 0) (zzb (sq9 (zzi 3 (.v (i1.v)) ty30 zze (zzg 4 154 _ fun _ _ ah ag => qym (k_riTrim ag (hi1.ext ah) xq) ?_))))))
 rintro _ u14 g15 ⟨ac, rfl, af⟩
 refine zzj ⟨30, ac.cs⟩ ty30 ?_
 refine zzb (zzd (zzt (sq9 (zza 6 (.adr 1 1) (zzi 7 (.v (ac.m.v)) ty28 zzl (zza 8 (zI ac.m.n) (zza 9 (zB ((ac.m.n : Int) == 0)) (zza 5 (zB ((ac.m.n : Int) == 0)) (zzb (zzu (b := (ac.m.n : Int) == 0) xj (fun ad => ?_) (fun ad => ?_)))))))))))
 ·have ae : (ac.m.n : Int) = 0 := by simpa using ad
  refine sq9 (zza 2 (zI 0) (zzb (zzo (zyu (zzw (ret0 [.int .i64 0] ⟨zzq, trivial⟩ fun u18 e19 => ?_))))))
  show _ = _
  rw [sign_len af, if_pos ad]
  rfl
 have ae : ¬ ((ac.m.n : Int) = 0) := by simpa using ad
 refine sq9 (zza 11 (.adr 1 0) (zzi 12 (zB ac.s) ty4 zzl (zza 10 (zB ac.s) (zzb (zzu (b := ac.s) xj (fun aa => ?_) (fun aa => ?_))))))
 ·replace aa : ac.s = true := aa
  refine sq9 (zza 2 (zI (-1)) (zzb (zzo (zyu (zzw (ret0 [.int .i64 (-1)] ⟨zzq, trivial⟩ fun u21 e22 => ?_))))))
  show _ = _
  rw [sign_len af, if_neg (ne_true_of_eq_false ad), if_pos aa]
  rfl
 replace aa : ac.s = false := aa
 refine zzs (zzp ?_)
 refine sq9 (zza 2 (zI 1) (zzb (zzo (ret0 [.int .i64 1] ⟨zzq, trivial⟩ fun u23 e24 => ?_))))
 show _ = _
 rw [sign_len af, if_neg (ne_true_of_eq_false ad), if_neg (ne_true_of_eq_false aa)]
 rfl
theorem k_riNeg {u w : World} {i1 : IL} {zN : Int} {K : Nat} (d : Dat u w) (hi1 : IntV u i1 zN K) (hK : K ≤ 500000000) : qyc 81 #[i1.v] w (Post u w fun v u' => ∃ i : IL, v = i.v ∧ IntN u' i (-zN) K) := by
 refine zzm Tryz.func81 rfl Tryz.ntmps81 Tryz.results81 d ?_
 refine sq9 (zzk 1 ⟨30, i1.cs⟩ (zzk 2 ⟨30, [.bool false, qyn]⟩ (zzb (sq9 (zzi 3 (.v (i1.v)) ty30 zze (zzg 4 154 _ fun _ _ ag ad => qym (k_riTrim ad (hi1.ext ag) xq) ?_))))))
 rintro _ u14 g15 ⟨aa, rfl, ac⟩
 refine zzj ⟨30, aa.cs⟩ ty30 ?_
 refine zzb (sq9 (zza 5 (.adr 1 0) (zzi 6 (zB aa.s) ty4 zzl (zza 7 (zB (!aa.s)) ?_))))
 rcases Bool.eq_false_or_eq_true (!aa.s) with hs17 | hs17
 ·refine qbi 8 hs17 (zza 9 (.adr 1 1) ?_ (hw := w1 3 true 8))
  refine zzi 10 (.v (aa.m.v)) ty28 zzl ?_ (hw := w1 3 true 8)
  refine zza 11 (zI aa.m.n) ?_ (hw := w1 3 true 8)
  refine zza 12 (zB (decide ((0 : Int) < (aa.m.n : Int)))) ?_ (hw := w1 3 true 8)
  refine zza 13 (zB (decide ((0 : Int) < (aa.m.n : Int)))) (zza 14 (.adr 1 0) (zzj ⟨30, [.bool (decide ((0 : Int) < (aa.m.n : Int))), aa.m.v]⟩ ty4 ?_))
  refine zzb (sq9 (zzi 15 (.v (.agg #[.bool (decide ((0 : Int) < (aa.m.n : Int))), aa.m.v])) ty30 zze (zzj ⟨30, [.bool (decide ((0 : Int) < (aa.m.n : Int))), aa.m.v]⟩ ty30 ?_)))
  refine zzb (zzo (ret0 [.agg #[.bool (decide ((0 : Int) < (aa.m.n : Int))), aa.m.v]] ⟨zzr ty30 zze, trivial⟩ fun u18 ae => ?_))
  refine ⟨⟨_, aa.m⟩, rfl, ?_⟩
  have h9 := neg_int (ac.ext ae)
  rw [hs17] at h9
  exact h9
 refine qbi 8 hs17 (zzn 9 (uw 3 true false 8) (zzn 10 (uw 3 true false 8) (zzn 11 (uw 3 true false 8) (zzn 12 (uw 3 true false 8) (zza 13 (zB false) (zza 14 (.adr 1 0) (zzj ⟨30, [.bool false, aa.m.v]⟩ ty4 ?_)))))))
 refine zzb (sq9 (zzi 15 (.v (.agg #[.bool false, aa.m.v])) ty30 zze (zzj ⟨30, [.bool false, aa.m.v]⟩ ty30 ?_)))
 refine zzb (zzo (ret0 [.agg #[.bool false, aa.m.v]] ⟨zzr ty30 zze, trivial⟩ fun u20 af => ?_))
 refine ⟨⟨_, aa.m⟩, rfl, ?_⟩
 have h9 := neg_int (ac.ext af)
 rw [hs17] at h9
 exact h9
theorem k_riAbs {u w : World} {i1 : IL} {zN : Int} {K : Nat} (d : Dat u w) (hi1 : IntV u i1 zN K) (hK : K ≤ 500000000) : qyc 90 #[i1.v] w (Post u w fun v u' => ∃ i : IL, v = i.v ∧ IntN u' i (zN.natAbs : Int) K) := by
 refine zzm Tryz.func90 rfl Tryz.ntmps90 Tryz.results90 d ?_
 refine sq9 (zzk 1 ⟨30, i1.cs⟩ (zzk 2 ⟨30, [.bool false, qyn]⟩ (zzb (sq9 (zza 3 (.adr 1 1) (zzi 4 (.v (i1.m.v)) ty28 zzl (zzg 5 157 _ fun _ _ af ac => qym (k_rnTrim ac ((IntV.abs hi1).ext af) xq) ?_)))))))
 rintro _ u14 g15 ⟨aa, rfl, ad⟩
 refine zza 6 (.v (.agg #[.bool false, aa.v])) (zzj ⟨30, [.bool false, aa.v]⟩ ty30 ?_)
 refine zzb (zzo (ret0 [.agg #[.bool false, aa.v]] ⟨zzr ty30 zze, trivial⟩ fun u17 ae => ?_))
 exact ⟨(⟨false, aa⟩ : IL), rfl, (nat_intN (ad.ext ae))⟩
theorem k_riAdd {u w : World} {i1 : IL} {zN : Int} {K : Nat} {i2 : IL} {zM : Int} {L : Nat} (d : Dat u w) (hi1 : IntV u i1 zN K) (hi2 : IntV u i2 zM L) (hK : K ≤ 400000000) (hL : L ≤ 400000000) : qyc 136 #[i1.v, i2.v] w (Post u w fun v u' => ∃ i : IL, v = i.v ∧ IntN u' i (zN + zM) (max K L + 1)) := by
 refine zzm Tryz.func136 rfl Tryz.ntmps136 Tryz.results136 d ?_
 refine sq9 (zzk 2 ⟨30, i1.cs⟩ (zzk 3 ⟨30, i2.cs⟩ (zzk 4 ⟨30, [.bool false, qyn]⟩ (zzb (zzd (zzz [0, 1, 0, 7, 15, 31] [(0, []), (2, []), (1, []), (3, []), (4, []), (5, [])] xj xj (zzi 5 (.v (i1.v)) ty30 zze (zzi 7 (.v (i2.v)) ty30 zze (zzg 6 154 _ fun _ _ ar aw => qym (k_riTrim aw (hi1.ext ar) xq) ?_)))))))))
 rintro _ u14 aI ⟨aa, rfl, af⟩
 refine zzg 8 154 _ fun _ _ ai au => qym (k_riTrim au (hi2.ext (ar.t (aI.t ai))) xq) ?_
 rintro _ u20 ak ⟨ac, rfl, ag⟩
 refine zzj ⟨30, aa.cs⟩ ty30 ?_
 refine zzj ⟨30, ac.cs⟩ ty30 ?_
 refine zzb (zzd (sq9 (zza 9 (.adr 2 0) (zzi 10 (zB aa.s) ty4 zzl (zza 11 (.adr 3 0) (zzi 12 (zB ac.s) ty4 zzl (zza 13 (zB (aa.s == ac.s)) (zzb (zzu (b := aa.s == ac.s) xj (fun ae => ?_) (fun ae => ?_))))))))))
 ·refine zzd (zzz [0, 1, 0, 4, 0, 16, 60, 127, 255, 511] [(0, []), (1, []), (2, []), (3, []), (4, []), (5, []), (6, []), (7, []), (8, []), (9, [])] xj xj (zza 14 (.adr 2 0) (zzi 15 (zB aa.s) ty4 zzl (zza 16 (.adr 2 1) (zzi 17 (.v (aa.m.v)) ty28 zzl (zza 18 (.adr 3 1) (zzi 19 (.v (ac.m.v)) ty28 zzl (zzg 20 189 _ fun _ _ ao aG => qym (k_rnAdd aG ((int_mag af).ext (ai.t (ak.t ao))).raw ((int_mag ag).ext ao).raw xq xq) ?_))))))))
  rintro _ u27 g28 ⟨aQ, rfl, az⟩
  refine zza 21 (.v (.agg #[.bool aa.s, aQ.v])) (zzg 22 154 _ fun _ _ aP aJ => qym (k_riTrim aJ (IntV.same (s := aa.s) (az.ext aP).raw) xq) ?_)
  rintro _ u33 g34 ⟨am, rfl, av⟩
  refine zzj ⟨30, am.cs⟩ ty30 ?_
  refine zzb (zzo (zzw (ret0 [am.v] ⟨zzr ty30 zze, trivial⟩ fun u36 aB => ?_)))
  refine ⟨am, rfl, IntN.more (K := (max K L + 1)) ?_ xq⟩
  have h9 : zN + zM = (Nt.sg aa.s ((zN : Int).natAbs + (zM : Int).natAbs)) := by
   rw [Nt.sg_add1 _ _ ae]
   rw [← IntN.sg af, ← IntN.sg ag]
  rw [h9]
  exact (av.ext aB)
 refine zzs (zzp ?_)
 refine zzd (sq9 (zza 23 (.adr 2 1) (zzi 24 (.v (aa.m.v)) ty28 zzl (zza 25 (.adr 3 1) (zzi 26 (.v (ac.m.v)) ty28 zzl (zzg 27 190 _ fun _ _ ah aH => qym (k_rnCompare aH ((int_mag af).ext (ai.t (ak.t ah))).raw ((int_mag ag).ext ah).raw xq xq) ?_))))))
 rintro _ u39 aj rfl
 refine zza 28 (zB (decide ((0 : Int) ≤ (Nt.cmpS ((zN : Int).natAbs) ((zM : Int).natAbs))))) (zzb (zzu (b := decide ((0 : Int) ≤ (Nt.cmpS ((zN : Int).natAbs) ((zM : Int).natAbs)))) xj (fun ad => ?_) (fun ad => ?_)))
 ·have qhb42 := qyt ad
  refine zzd (zzz [0, 1, 0, 4, 0, 16, 60, 127, 255, 511] [(0, []), (1, []), (2, []), (3, []), (4, []), (5, []), (6, []), (7, []), (8, []), (9, [])] xj xj (zza 29 (.adr 2 0) (zzi 30 (zB aa.s) ty4 zzl (zza 31 (.adr 2 1) (zzi 32 (.v (aa.m.v)) ty28 zzl (zza 33 (.adr 3 1) (zzi 34 (.v (ac.m.v)) ty28 zzl (zzg 35 191 _ fun _ _ ap aD => qym (k_rnSub aD ((int_mag af).ext (ai.t (ak.t (ah.t (aj.t ap))))).raw ((int_mag ag).ext (ah.t (aj.t ap))).raw xq xq) ?_))))))))
  rintro _ u46 g47 ⟨aM, rfl, aR⟩
  refine zza 36 (.v (.agg #[.bool aa.s, aM.v])) (zzg 37 154 _ fun _ _ aN aL => qym (k_riTrim aL (IntV.same (s := aa.s) (aR.ext aN).raw) xq) ?_)
  rintro _ u52 g53 ⟨al, rfl, aC⟩
  refine zzj ⟨30, al.cs⟩ ty30 ?_
  refine zzb (zzo (zzw (ret0 [al.v] ⟨zzr ty30 zze, trivial⟩ fun u55 aA => ?_)))
  refine ⟨al, rfl, IntN.more (K := K) ?_ xq⟩
  have h9 : zN + zM = (Nt.sg aa.s ((zN : Int).natAbs - (zM : Int).natAbs)) := by
   rw [Nt.sg_add4 _ _ ae ad]
   rw [← IntN.sg af, ← IntN.sg ag]
  rw [h9]
  exact (aC.ext aA)
 have qhb42 := qyf ad
 refine zzs (zzp ?_)
 refine zzd (zzz [0, 1, 0, 4, 0, 16, 60, 127, 255, 511] [(0, []), (1, []), (2, []), (3, []), (4, []), (5, []), (6, []), (7, []), (8, []), (9, [])] xj xj (zza 38 (.adr 3 0) (zzi 39 (zB ac.s) ty4 zzl (zza 40 (.adr 3 1) (zzi 41 (.v (ac.m.v)) ty28 zzl (zza 42 (.adr 2 1) (zzi 43 (.v (aa.m.v)) ty28 zzl (zzg 44 191 _ fun _ _ aq aS => qym (k_rnSub aS ((int_mag ag).ext (ah.t (aj.t aq))).raw ((int_mag af).ext (ai.t (ak.t (ah.t (aj.t aq))))).raw xq xq) ?_))))))))
 rintro _ u60 g61 ⟨aE, rfl, aF⟩
 refine zza 45 (.v (.agg #[.bool ac.s, aE.v])) (zzg 46 154 _ fun _ _ ax aK => qym (k_riTrim aK (IntV.same (s := ac.s) (aF.ext ax).raw) xq) ?_)
 rintro _ u66 g67 ⟨an, rfl, aO⟩
 refine zzj ⟨30, an.cs⟩ ty30 ?_
 refine zzb (zzo (ret0 [an.v] ⟨zzr ty30 zze, trivial⟩ fun u69 ay => ?_))
 refine ⟨an, rfl, IntN.more (K := L) ?_ xq⟩
 have h9 : zN + zM = (Nt.sg ac.s ((zM : Int).natAbs - (zN : Int).natAbs)) := by
  rw [Nt.sg_add5 _ _ ae ad]
  rw [← IntN.sg af, ← IntN.sg ag]
 rw [h9]
 exact (aO.ext ay)
theorem k_riSub {u w : World} {i1 : IL} {zN : Int} {K : Nat} {i2 : IL} {zM : Int} {L : Nat} (d : Dat u w) (hi1 : IntV u i1 zN K) (hi2 : IntV u i2 zM L) (hK : K ≤ 400000000) (hL : L ≤ 400000000) : qyc 202 #[i1.v, i2.v] w (Post u w fun v u' => ∃ i : IL, v = i.v ∧ IntN u' i (zN - zM) (max K L + 1)) := by
 refine zzm Tryz.func202 rfl Tryz.ntmps202 Tryz.results202 d ?_
 refine sq9 (zzk 2 ⟨30, i1.cs⟩ (zzk 3 ⟨30, i2.cs⟩ (zzk 4 ⟨30, [.bool false, qyn]⟩ (zzb (zzd (zzz [0, 0, 2, 7, 15] [(0, []), (1, []), (2, []), (3, []), (4, [])] xj xj (zzi 5 (.v (i1.v)) ty30 zze (zzi 6 (.v (i2.v)) ty30 zze (zzg 7 81 _ fun _ _ ad af => qym (k_riNeg af (hi2.ext ad) xq) ?_)))))))))
 rintro _ u14 ah ⟨i12, rfl, ag⟩
 refine zzg 8 136 _ fun _ _ ac ae => qym (k_riAdd ae (hi1.ext (ad.t (ah.t ac))) (ag.ext ac).raw xq xq) ?_
 rintro _ u20 g21 ⟨aa, rfl, ai⟩
 refine zzj ⟨30, aa.cs⟩ ty30 ?_
 refine zzb (zzo (ret0 [aa.v] ⟨zzr ty30 zze, trivial⟩ fun u23 aj => ?_))
 refine ⟨aa, rfl, ?_⟩
 rw [Int.sub_eq_add_neg]
 exact (ai.ext aj)
theorem k_riCompare {u w : World} {i1 : IL} {zN : Int} {K : Nat} {i2 : IL} {zM : Int} {L : Nat} (d : Dat u w) (hi1 : IntV u i1 zN K) (hi2 : IntV u i2 zM L) (hK : K ≤ 400000000) (hL : L ≤ 400000000) : qyc 150 #[i1.v, i2.v] w (Post u w fun v u' => v = .int .i64 (Nt.cmpS zN zM)) := by
 refine zzm Tryz.func150 rfl Tryz.ntmps150 Tryz.results150 d ?_
 refine sq9 (zzk 2 ⟨30, i1.cs⟩ (zzk 3 ⟨30, i2.cs⟩ (zza 4 (zI 0) (zzb (sq9 (zzi 5 (.v (i1.v)) ty30 zze (zzi 6 (.v (i2.v)) ty30 zze (zzg 7 202 _ fun _ _ aa ad => qym (k_riSub ad (hi1.ext aa) (hi2.ext aa) xq xq) ?_))))))))
 rintro _ u14 g15 ⟨i12, rfl, af⟩
 refine zzg 8 96 _ fun _ _ ae ac => qym (k_riSign ac (af.ext ae).raw xq) ?_
 rintro _ u18 g19 rfl
 refine zza 4 (zI (Nt.cmpS (zN - zM) 0)) (zzb (zzo (ret0 [.int .i64 (Nt.cmpS (zN - zM) 0)] ⟨zzq, trivial⟩ fun u21 e22 => ?_)))
 show Value.int _ _ = Value.int _ _
 rw [Nt.cmp_self_sub]
theorem k_riMul {u w : World} {i1 : IL} {zN : Int} {K : Nat} {i2 : IL} {zM : Int} {L : Nat} (d : Dat u w) (hi1 : IntV u i1 zN K) (hi2 : IntV u i2 zM L) (hK : K ≤ 250000000) (hL : L ≤ 250000000) : qyc 137 #[i1.v, i2.v] w (Post u w fun v u' => ∃ i : IL, v = i.v ∧ IntN u' i (zN * zM) (K + L)) := by
 obtain ⟨N, hN, hzN⟩ := hi1
 obtain ⟨M, hM, hzM⟩ := hi2
 refine zzm Tryz.func137 rfl Tryz.ntmps137 Tryz.results137 d ?_
 refine sq9 (zzk 2 ⟨30, i1.cs⟩ (zzk 3 ⟨30, i2.cs⟩ (zzk 4 ⟨30, [.bool false, qyn]⟩ (zzb (zzd (zzz [0, 1, 0, 4, 15, 0, 32, 0, 128, 480, 1023, 2047, 4095] [(0, []), (1, []), (2, []), (3, []), (4, []), (5, []), (6, []), (7, []), (8, []), (9, []), (10, []), (11, []), (12, [])] xj xj (zza 5 (.adr 2 0) (zzi 6 (zB i1.s) ty4 zzl (zza 7 (.adr 3 0) (zzi 8 (zB i2.s) ty4 zzl (zza 9 (zB (!(i1.s == i2.s))) ?_)))))))))))
 refine zza 10 (.adr 2 1) (zzi 11 (.v (i1.m.v)) ty28 zzl (zza 12 (.adr 3 1) (zzi 13 (.v (i2.m.v)) ty28 zzl (zzg 14 192 _ fun _ _ ac af => qym (k_rnMul af (hN.ext ac) (hM.ext ac) xq xq) ?_))))
 rintro _ u14 g15 ⟨ae, rfl, ah⟩
 refine zza 15 (.v (.agg #[.bool (!(i1.s == i2.s)), ae.v])) (zzg 16 154 _ fun _ _ ag ad => qym (k_riTrim ad (IntV.same (s := !(i1.s == i2.s)) (ah.ext ag).raw) xq) ?_)
 rintro _ u20 g21 ⟨aa, rfl, ai⟩
 refine zzj ⟨30, aa.cs⟩ ty30 ?_
 refine zzb (zzo (ret0 [aa.v] ⟨zzr ty30 zze, trivial⟩ fun u23 aj => ?_))
 refine ⟨aa, rfl, IntN.more (K := (K + L)) ?_ xq⟩
 rw [hzN, hzM, ← Nt.sg_mul]
 exact (ai.ext aj)
theorem k_riGcd {u w : World} {i1 : IL} {zN : Int} {K : Nat} {i2 : IL} {zM : Int} {L : Nat} (d : Dat u w) (hi1 : IntV u i1 zN K) (hi2 : IntV u i2 zM L) (hK : K ≤ 500000000) (hL : L ≤ 500000000) : qyc 155 #[i1.v, i2.v] w (Post u w fun v u' => ∃ i : IL, v = i.v ∧ IntN u' i (Nat.gcd zN.natAbs zM.natAbs : Int) (max K L)) := by
 refine zzm Tryz.func155 rfl Tryz.ntmps155 Tryz.results155 d ?_
 refine sq9 (zzk 2 ⟨30, i1.cs⟩ (zzk 3 ⟨30, i2.cs⟩ (zzk 4 ⟨30, [.bool false, qyn]⟩ (zzb (sq9 (zza 5 (.adr 2 1) (zzi 6 (.v (i1.m.v)) ty28 zzl (zza 7 (.adr 3 1) (zzi 8 (.v (i2.m.v)) ty28 zzl (zzg 9 203 _ fun _ _ ac ad => qym (k_rnGcd ad ((IntV.abs hi1).ext ac) ((IntV.abs hi2).ext ac) xq xq) ?_))))))))))
 rintro _ u14 g15 ⟨aa, rfl, ae⟩
 refine zza 10 (.v (.agg #[.bool false, aa.v])) (zzj ⟨30, [.bool false, aa.v]⟩ ty30 ?_)
 refine zzb (zzo (ret0 [.agg #[.bool false, aa.v]] ⟨zzr ty30 zze, trivial⟩ fun u17 af => ?_))
 exact ⟨(⟨false, aa⟩ : IL), rfl, (nat_intN (ae.ext af))⟩
theorem k_riSame {u w : World} {i1 i2 : IL} {z z' : Int} {K L : Nat} (d : Dat u w) (hi1 : IntN u i1 z K) (hi2 : IntN u i2 z' L) : qyc 74 #[i1.v, i2.v] w (Post u w fun v _ => v = .bool (decide (z = z'))) := by
 refine zzm Tryz.func74 rfl Tryz.ntmps74 Tryz.results74 d ?_
 refine sq9 (zzk 2 ⟨30, i1.cs⟩ (zzk 3 ⟨30, i2.cs⟩ (zza 4 (zB false) (zzb (sq9 (zza 5 (.adr 2 0) (zzi 6 (zB i1.s) ty4 zzl (zza 7 (.adr 3 0) (zzi 8 (zB i2.s) ty4 zzl (zza 9 (zB (i1.s == i2.s)) ?_))))))))))
 rcases Bool.eq_false_or_eq_true (i1.s == i2.s) with hs11 | hs11
 ·refine qbi 10 hs11 (zza 11 (.adr 2 1) ?_ (hw := w1 5 true 10))
  refine zzi 12 (.v (i1.m.v)) ty28 zzl ?_ (hw := w1 5 true 10)
  refine zza 13 (.adr 3 1) ?_ (hw := w1 5 true 10)
  refine zzi 14 (.v (i2.m.v)) ty28 zzl ?_ (hw := w1 5 true 10)
  refine zzg 15 75 _ (fun _ _ aa ac => qym (k_rnSame ac ((int_mag hi1).ext aa) ((int_mag hi2).ext aa)) ?_) (hw := w1 5 true 10)
  rintro _ u13 g14 rfl
  refine zza 16 (zB (decide ((z : Int).natAbs = (z' : Int).natAbs))) (zza 4 (zB (decide ((z : Int).natAbs = (z' : Int).natAbs))) (zzb (zzo (ret0 [.bool (decide ((z : Int).natAbs = (z' : Int).natAbs))] ⟨zzq, trivial⟩ fun u16 e17 => ?_))))
  show _ = _
  rw [← same_int hi1 hi2, hs11]
  rfl
 refine qbi 10 hs11 (zzn 11 (uw 5 true false 10) (zzn 12 (uw 5 true false 10) (zzn 13 (uw 5 true false 10) (zzn 14 (uw 5 true false 10) (zzn 15 (uw 5 true false 10) (zza 16 (zB false) (zza 4 (zB false) (zzb (zzo (ret0 [.bool false] ⟨zzq, trivial⟩ fun u18 e19 => ?_))))))))))
 show _ = _
 rw [← same_int hi1 hi2, hs11]
 rfl
theorem k_riOf {u w : World} {z : Int} (d : Dat u w) (h0 : -9223372036854775808 ≤ z) (h1 : z ≤ 9223372036854775807) : qyc 85 #[.int .i64 z] w (Post u w fun v u' => ∃ i : IL, v = i.v ∧ IntN u' i z 2) := by
 by_cases hneg : z < 0
 ·refine zzm Tryz.func85 rfl Tryz.ntmps85 Tryz.results85 d ?_
  refine sq9 (zzk 2 ⟨30, [.bool false, qyn]⟩ (zzb (zzd (sq9 (zza 4 (zI z) (zyq 5 (x := zB (decide (z < 0))) (zB true) (by rw [show (decide (z < 0)) = true from yw]) (zzb (zyr xj (sq9 (zza 6 (zI z) (zyq 7 (x := zI (IntKind.i64.wrap (z + 1))) (zI (z + 1)) (by rw [show (IntKind.i64.wrap (z + 1)) = (z + 1) from (IntWalk.i64_in _ xq)]) ?_)))))))))))
  refine zyq 8 (x := zI (IntKind.i64.wrap (0 - (z + 1)))) (zI (-z - 1)) (by rw [show (IntKind.i64.wrap (0 - (z + 1))) = (-z - 1) from xz]) (zyq 9 (x := .v (.int .u64 (IntKind.u64.wrap (-z - 1)))) (.v (.int .u64 (-z - 1))) (by rw [show (IntKind.u64.wrap (-z - 1)) = (-z - 1) from (IntWalk.u64_in _ xq)]) (zyq 10 (x := .v (.int .u64 (IntKind.u64.wrap (-z - 1 + 1)))) (.v (.int .u64 (-z))) (by rw [show (IntKind.u64.wrap (-z - 1 + 1)) = (-z) from (by rw [IntWalk.u64_in _ xq]; omega)]) (zza 3 (.v (.int .u64 (-z))) (zzb (sq9 (zza 11 (.v (.int .u64 (-z))) (zyq 12 (x := .v (.int .u32 (IntKind.u32.wrap (-z)))) (.v (.int .u32 ((-z) % 4294967296))) (by rw [show (IntKind.u32.wrap (-z)) = ((-z) % 4294967296) from (IntKind.wrap_u32 _)]) (zza 13 (.v (.int .u64 (-z))) (zyq 14 (x := .v (.int .u64 (Int.fdiv (-z) (2 ^ 32)))) (.v (.int .u64 ((-z) / 4294967296))) (by rw [show (Int.fdiv (-z) (2 ^ 32)) = ((-z) / 4294967296) from (by rw [Int.fdiv_eq_ediv_of_nonneg _ yv]; rfl)]) (zyq 15 (x := .v (.int .u32 (IntKind.u32.wrap ((-z) / 4294967296)))) (.v (.int .u32 ((-z) / 4294967296))) (by rw [show (IntKind.u32.wrap ((-z) / 4294967296)) = ((-z) / 4294967296) from (IntWalk.u32_in _ xq)]) (zxx 16 ⟨133, [.int .u32 ((-z) % 4294967296), .int .u32 ((-z) / 4294967296)]⟩ 2 (fun ac am aj af => ?_))))))))))))
  refine zza 17 (.v (.agg #[.bool true, .slice (some ⟨ac, 0, none⟩) 2 2])) (zzg 18 154 [.agg #[.bool true, .slice (some ⟨ac, 0, none⟩) 2 2]] ?_)
  intro w15 u15 ae ag
  have k20 := k_riTrim ag (IntV.same (s := true) ((two_data (N := z.natAbs) af xq xq xq).ext ae)) xq
  with_reducible refine zPm k20 ?_
  rintro _ ai al ⟨aa, rfl, ad⟩
  refine zzj ⟨30, aa.cs⟩ ty30 ?_
  refine zzb (zzo (zzw (ret0 [aa.v] ⟨zzr ty30 zze, trivial⟩ fun ak ah => ?_)))
  refine ⟨aa, rfl, IntN.more (K := 2) ?_ xq⟩
  have e : z = Nt.sg true z.natAbs := by unfold Nt.sg; simp; omega
  rw [e]
  exact (ad.ext ah)
 refine zzm Tryz.func85 rfl Tryz.ntmps85 Tryz.results85 d ?_
 refine sq9 (zzk 2 ⟨30, [.bool false, qyn]⟩ (zzb (zzd (sq9 (zza 4 (zI z) (zyq 5 (x := zB (decide (z < 0))) (zB false) (by rw [show (decide (z < 0)) = false from yw]) (zzb (zys xj (zzs (zzp ?_))))))))))
 refine sq9 (zza 19 (zI z) (zyq 20 (x := .v (.int .u32 (IntKind.u32.wrap z))) (.v (.int .u32 (z % 4294967296))) (by rw [show (IntKind.u32.wrap z) = (z % 4294967296) from (IntKind.wrap_u32 _)]) (zza 21 (zI z) (zyq 22 (x := .v (.int .u64 (IntKind.u64.wrap z))) (.v (.int .u64 (z))) (by rw [show (IntKind.u64.wrap z) = z from (IntWalk.u64_in _ xq)]) (zyq 23 (x := .v (.int .u64 (Int.fdiv z (2 ^ 32)))) (.v (.int .u64 (z / 4294967296))) (by rw [show (Int.fdiv z (2 ^ 32)) = (z / 4294967296) from (by rw [Int.fdiv_eq_ediv_of_nonneg _ yv]; rfl)]) (zyq 24 (x := .v (.int .u32 (IntKind.u32.wrap (z / 4294967296)))) (.v (.int .u32 (z / 4294967296))) (by rw [show (IntKind.u32.wrap (z / 4294967296)) = (z / 4294967296) from (IntWalk.u32_in _ xq)]) (zxx 25 ⟨133, [.int .u32 (z % 4294967296), .int .u32 (z / 4294967296)]⟩ 2 (fun ac am aj af => ?_))))))))
 refine zza 26 (.v (.agg #[.bool false, .slice (some ⟨ac, 0, none⟩) 2 2])) (zzg 27 154 _ fun _ _ ae ag => qym (k_riTrim ag (nat_int ((two_data (N := z.natAbs) af xq xq xq).ext ae)) xq) ?_)
 rintro _ ai al ⟨aa, rfl, ad⟩
 refine zzj ⟨30, aa.cs⟩ ty30 ?_
 refine zzb (zzo (ret0 [aa.v] ⟨zzr ty30 zze, trivial⟩ fun ak ah => ?_))
 refine ⟨aa, rfl, IntN.more (K := 2) ?_ xq⟩
 have e : z = Nt.sg false z.natAbs := by unfold Nt.sg; simp; omega
 rw [e]
 exact (ad.ext ah)
theorem k_riDiv {u w : World} {i1 : IL} {zN : Int} {K : Nat} {i2 : IL} {zM : Int} {L : Nat} (d : Dat u w) (hi1 : IntV u i1 zN K) (hi2 : IntV u i2 zM L) (hM0 : zM ≠ 0) (hK : K ≤ 400000000) (hL : L ≤ 400000000) : qyc 156 #[i1.v, i2.v] w (Post u w fun v u' => ∃ i j : IL, v = .tuple #[i.v, j.v, .int .i64 0] ∧ IntN u' i (zN / zM) (K + 1) ∧ IntN u' j (zN % zM) L) := by
 have hM : 0 < zM.natAbs := Int.natAbs_pos.2 hM0
 have hL1 : 1 ≤ L := by have h2 := hi2.size; have h3 := Nt.dl_mono (x := zM.natAbs) (y := 1) xq; rw [Nt.dl_one] at h3; omega
 refine zzm Tryz.func156 rfl Tryz.ntmps156 Tryz.results156 d ?_
 refine sq9 (zzk 2 ⟨30, i1.cs⟩ (zzk 3 ⟨30, i2.cs⟩ (zzk 4 ⟨30, [.bool false, qyn]⟩ (zzk 5 ⟨30, [.bool false, qyn]⟩ (zza 6 (zI 0) (zzb (zzd (zzz [0, 1, 0, 7, 15, 31] [(0, []), (2, []), (1, []), (3, []), (4, []), (5, [])] xj xj (zzi 10 (.v (i1.v)) ty30 zze (zzi 12 (.v (i2.v)) ty30 zze (zzg 11 154 _ fun _ _ aE aI => qym (k_riTrim aI (hi1.ext aE) xq) ?_)))))))))))
 rintro _ u14 aT ⟨ac, rfl, ak⟩
 refine zzg 13 154 _ fun _ _ aD aF => qym (k_riTrim aF (hi2.ext (aE.t (aT.t aD))) xq) ?_
 rintro _ u20 aS ⟨ad, rfl, aj⟩
 refine zzj ⟨30, ac.cs⟩ ty30 ?_
 refine zzj ⟨30, ad.cs⟩ ty30 ?_
 refine zzb (sq9 (zza 15 (.adr 2 1) (zzi 16 (.v (ac.m.v)) ty28 zzl (zza 17 (.adr 3 1) (zzi 18 (.v (ad.m.v)) ty28 zzl (zzg 19 204 _ fun _ _ an aJ => qym (k_rnDivMod aJ ((int_mag ak).ext (aD.t (aS.t an))).raw ((int_mag aj).ext an).raw hM xq xq) ?_))))))
 rintro _ u28 aK ⟨af, aa, rfl, al, ah⟩
 refine zza 14 (.v (.tuple #[af.v, aa.v, .int .i64 0])) (zza 20 (.v (af.v)) (zza 21 (.v (aa.v)) (zza 22 (zI 0) (zza 7 (.v (af.v)) (zza 8 (.v (aa.v)) (zza 9 (zI 0) (zzb (zzd (sq9 (zza 23 (zI 0) (zza 24 (zB false) ?_)))))))))))
 refine zzb (zys xj (zzs (zzp ?_)))
 refine zzd (sq9 (zza 28 (.adr 2 0) (zzi 29 (zB ac.s) ty4 zzl ?_)))
 rcases Bool.eq_false_or_eq_true ac.s with hs31 | hs31
 ·refine qbi 30 hs31 (zza 31 (.v (aa.v)) ?_ (hw := w1 2 true 30))
  refine zza 32 (zI aa.n) ?_ (hw := w1 2 true 30)
  refine zza 33 (zB (decide ((0 : Int) < (aa.n : Int)))) ?_ (hw := w1 2 true 30)
  refine zza 34 (zB (decide ((0 : Int) < (aa.n : Int)))) (zzc 52 [(2, .adr 2 0), (3, .adr 3 0), (4, .adr 4 0), (5, .adr 5 0), (7, .v (af.v)), (8, .v (aa.v)), (34, zB (decide ((0 : Int) < (aa.n : Int))))] [(2, ⟨30, ac.cs⟩), (3, ⟨30, ad.cs⟩), (4, ⟨30, [.bool false, qyn]⟩), (5, ⟨30, [.bool false, qyn]⟩)] (zzu (b := decide ((0 : Int) < (aa.n : Int))) xj (fun ae => ?_) (fun ae => ?_)))
  ·have qhb32 := qyt ae
   refine zzz [0, 0, 3, 0, 8, 0, 63, 127, 255] [(0, []), (1, []), (3, []), (4, []), (5, []), (2, [36]), (6, []), (7, []), (8, [])] xj xj (zza 35 (.v (af.v)) (sy_lit 36 ⟨133, [.int .u32 1]⟩ 1 ?_))
   refine zza 38 (.adr 3 1) (zzi 39 (.v (ad.m.v)) ty28 zzl (zza 40 (.v (aa.v)) (zyo 37 189 [.v (af.v), .slc 36 0 1 1] [36] (.inr rfl) (pub_mk xw) (k := ?_))))
   intro ar w33 aP au aQ aL
   have aC : aP.heap[ar 36]? = some (.cells #[.int .u32 1] 133 (0, 0)) := aL 36 zv _ rfl
   obtain ⟨b34, ag⟩ : ∃ b, ar 36 = b := ⟨_, rfl⟩
   rw [ag] at aC
   show Calls _ _ #[.slice af.a af.n af.c, .slice (some ⟨ar 36, 0, none⟩) 1 1] _ _
   rw [ag]
   have k40 := k_rnAdd aQ (al.ext au).raw (one_data aC).raw xq xq
   with_reducible refine zPm k40 ?_
   rintro _ u38 ax ⟨am, rfl, aM⟩
   refine zzg 41 191 _ fun _ _ ap aO => qym (k_rnSub aO ((int_mag aj).ext (an.t (aK.t (au.t (ax.t ap))))).raw (ah.ext (au.t (ax.t ap))).raw xq xq) ?_
   rintro _ u44 aH ⟨ai, rfl, aN⟩
   refine zza 7 (.v (am.v)) (zza 8 (.v (ai.v)) (zzb (sq9 (zza 42 (.adr 2 0) (zzi 43 (zB ac.s) ty4 zzl (zza 44 (.adr 3 0) (zzi 45 (zB ad.s) ty4 zzl (zza 46 (zB (!(ac.s == ad.s))) (zza 47 (.v (am.v)) (zza 48 (.v (.agg #[.bool (!(ac.s == ad.s)), am.v])) (zzg 49 154 _ fun _ _ az a0 => qym (k_riTrim a0 (IntV.same (s := !(ac.s == ad.s)) (aM.ext (ap.t (aH.t az))).raw) xq) ?_)))))))))))
   rintro _ u50 aW ⟨ao, rfl, aZ⟩
   refine zza 50 (.v (ai.v)) (zza 51 (.v (.agg #[.bool false, ai.v])) (zzj ⟨30, ao.cs⟩ ty30 ?_))
   refine zzj ⟨30, [.bool false, ai.v]⟩ ty30 ?_
   refine zza 6 (zI 0) (zzb (zzo (ret0 [ao.v, .agg #[.bool false, ai.v], .int .i64 0] ⟨zzr ty30 zze, zzr ty30 zze, zzq, trivial⟩ fun u53 aA => ?_)))
   have hs := ak.1
   have ht := aj.1
   have hr := ah.pos
   have qhs31 := hs31
   have qhb32 := ae
   have key := Nt.ediv_neg' zN zM rfl rfl hM (by rw [hs] at hs31; simpa using hs31) (by simp at ae; omega)
   have hK1 : 1 ≤ K := by have h2 := hi1.size; have h3 := (Nt.dl_pos (x := zN.natAbs)).2 (by rw [hs] at hs31; simp at hs31; omega); omega
   rw [← hs, ← ht] at key
   refine ⟨ao, (⟨false, ai⟩ : IL), rfl, IntN.more (K := (max K 1 + 1)) ?_ xq, IntN.more (K := L) ?_ xq⟩
   ·rw [key.1]; exact (aZ.ext aA)
   rw [key.2]; exact (nat_intN (aN.ext (az.t (aW.t aA))))
  have qhb32 := qyf ae
  refine zzs (zzp ?_)
  refine sq9 (zza 42 (.adr 2 0) (zzi 43 (zB ac.s) ty4 zzl (zza 44 (.adr 3 0) (zzi 45 (zB ad.s) ty4 zzl (zza 46 (zB (!(ac.s == ad.s))) (zza 47 (.v (af.v)) (zza 48 (.v (.agg #[.bool (!(ac.s == ad.s)), af.v])) (zzg 49 154 _ fun _ _ ay aG => qym (k_riTrim aG (IntV.same (s := !(ac.s == ad.s)) (al.ext ay).raw) xq) ?_))))))))
  rintro _ u58 aV ⟨aq, rfl, aX⟩
  refine zza 50 (.v (aa.v)) (zza 51 (.v (.agg #[.bool false, aa.v])) (zzj ⟨30, aq.cs⟩ ty30 ?_))
  refine zzj ⟨30, [.bool false, aa.v]⟩ ty30 ?_
  refine zza 6 (zI 0) (zzb (zzo (ret0 [aq.v, .agg #[.bool false, aa.v], .int .i64 0] ⟨zzr ty30 zze, zzr ty30 zze, zzq, trivial⟩ fun u61 aB => ?_)))
  have hs := ak.1
  have ht := aj.1
  have hr := ah.pos
  have qhs31 := hs31
  have qhb32 := ae
  have key := Nt.ediv_pos zN zM rfl rfl hM (fun hc => by simp at ae; omega)
  rw [← hs, ← ht] at key
  refine ⟨aq, (⟨false, aa⟩ : IL), rfl, IntN.more (K := K) ?_ xq, IntN.more (K := L) ?_ xq⟩
  ·rw [key.1]; exact (aX.ext aB)
  rw [key.2]; exact (nat_intN (ah.ext (ay.t (aV.t aB))))
 refine qbi 30 hs31 (zzn 31 (uw 2 true false 30) (zzn 32 (uw 2 true false 30) (zzn 33 (uw 2 true false 30) (zza 34 (zB false) (zzc 52 [(2, .adr 2 0), (3, .adr 3 0), (4, .adr 4 0), (5, .adr 5 0), (7, .v (af.v)), (8, .v (aa.v)), (34, zB false)] [(2, ⟨30, ac.cs⟩), (3, ⟨30, ad.cs⟩), (4, ⟨30, [.bool false, qyn]⟩), (5, ⟨30, [.bool false, qyn]⟩)] (zys xj (zzs (zzp ?_))))))))
 refine sq9 (zza 42 (.adr 2 0) (zzi 43 (zB ac.s) ty4 zzl (zza 44 (.adr 3 0) (zzi 45 (zB ad.s) ty4 zzl (zza 46 (zB (!(ac.s == ad.s))) (zza 47 (.v (af.v)) (zza 48 (.v (.agg #[.bool (!(ac.s == ad.s)), af.v])) (zzg 49 154 _ fun _ _ av aU => qym (k_riTrim aU (IntV.same (s := !(ac.s == ad.s)) (al.ext av).raw) xq) ?_))))))))
 rintro _ u66 aR ⟨i64, rfl, aY⟩
 refine zza 50 (.v (aa.v)) (zza 51 (.v (.agg #[.bool false, aa.v])) (zzj ⟨30, i64.cs⟩ ty30 ?_))
 refine zzj ⟨30, [.bool false, aa.v]⟩ ty30 ?_
 refine zza 6 (zI 0) (zzb (zzo (ret0 [i64.v, .agg #[.bool false, aa.v], .int .i64 0] ⟨zzr ty30 zze, zzr ty30 zze, zzq, trivial⟩ fun u69 aw => ?_)))
 have hs := ak.1
 have ht := aj.1
 have hr := ah.pos
 have qhs31 := hs31
 have key := Nt.ediv_pos zN zM rfl rfl hM (fun hc => by rw [hs] at hs31; simp at hs31; omega)
 rw [← hs, ← ht] at key
 refine ⟨i64, (⟨false, aa⟩ : IL), rfl, IntN.more (K := K) ?_ xq, IntN.more (K := L) ?_ xq⟩
 ·rw [key.1]; exact (aY.ext aw)
 rw [key.2]; exact (nat_intN (ah.ext (av.t (aR.t aw))))
theorem k_reduce {u w : World} {i1 i2 : IL} {z y : Int} {K L : Nat} (d : Dat u w) (hi1 : IntV u i1 z K) (hi2 : IntV u i2 y L) (hK : K ≤ 400000000) (hL : L ≤ 400000000) : qyc 84 #[i1.v, i2.v] w (Post u w fun v u' => ∃ r : RL, v = r.v ∧ RatN u' r ((z : Rat) / (y : Rat)) (max K L + 1)) := by
 refine zzm Tryz.func84 rfl Tryz.ntmps84 Tryz.results84 d ?_
 refine sq9 (zzk 2 ⟨30, i1.cs⟩ (zzk 3 ⟨30, i2.cs⟩ (zzk 4 ⟨32, zw3⟩ (zzb (zzd (sq9 (zzi 12 (.v (i1.v)) ty30 zze (zzg 13 96 _ fun _ _ ag aI => qym (k_riSign aI (hi1.ext ag) xq) ?_))))))))
 rintro _ u12 ah rfl
 refine zza 14 (zB ((Nt.cmpS z 0) == 0)) ?_
 rcases Bool.eq_false_or_eq_true ((Nt.cmpS z 0) == 0) with hs15 | hs15
 ·refine qbi 15 hs15 ?_
  have aE : z = 0 := Nt.cmp_eq0 hs15
  refine zzn 16 (uw 3 false true 15) (zzn 17 (uw 3 false true 15) (zzn 18 (uw 3 false true 15) (zza 19 (zB true) (zzb (zyr xj (sq9 (zxx 20 ⟨133, [.int .u32 1]⟩ 1 (fun ao u17 e18 aL => ?_))))))))
  refine zza 21 (.v (.agg #[.bool false, qyn, .slice (some ⟨ao, 0, none⟩) 1 1])) (zzj ⟨32, [.bool false, qyn, .slice (some ⟨ao, 0, none⟩) 1 1]⟩ ty32 ?_)
  refine zzb (zzo (zzw (ret0 [.agg #[.bool false, qyn, .slice (some ⟨ao, 0, none⟩) 1 1]] ⟨zzr ty32 zze, trivial⟩ fun u20 aO => ?_)))
  refine ⟨(⟨false, ⟨none, 0, 0⟩, (⟨some ⟨ao, 0, none⟩, 1, 1⟩ : Sl)⟩ : RL), rfl, ?_⟩
  have h9 : (z : Rat) / (y : Rat) = ((0 : Int) : Rat) := by rw [aE]; simp [Rat.div_def]
  rw [h9]
  exact RatN.more (whole_rat (int_zero _ 1) ((one_data aL).ext aO)) xq
 refine qbi 15 hs15 ?_
 have aE : z ≠ 0 := Nt.cmp_ne0 hs15
 refine zzi 16 (.v (i2.v)) ty30 zze ?_ (hw := w1 3 false 15)
 refine zzg 17 96 _ (fun _ _ aj aJ => qym (k_riSign aJ (hi2.ext (ag.t (ah.t aj))) xq) ?_) (hw := w1 3 false 15)
 rintro _ u23 ak rfl
 refine zza 18 (zB ((Nt.cmpS y 0) == 0)) ?_ (hw := w1 3 false 15)
 refine zza 19 (zB ((Nt.cmpS y 0) == 0)) (zzb (zzu (b := (Nt.cmpS y 0) == 0) xj (fun af => ?_) (fun af => ?_)))
 ·have ai : y = 0 := Nt.cmp_eq0 af
  refine sq9 (zxx 20 ⟨133, [.int .u32 1]⟩ 1 (fun am u28 e29 aP => ?_))
  refine zza 21 (.v (.agg #[.bool false, qyn, .slice (some ⟨am, 0, none⟩) 1 1])) (zzj ⟨32, [.bool false, qyn, .slice (some ⟨am, 0, none⟩) 1 1]⟩ ty32 ?_)
  refine zzb (zzo (zzw (ret0 [.agg #[.bool false, qyn, .slice (some ⟨am, 0, none⟩) 1 1]] ⟨zzr ty32 zze, trivial⟩ fun u31 aN => ?_)))
  refine ⟨(⟨false, ⟨none, 0, 0⟩, (⟨some ⟨am, 0, none⟩, 1, 1⟩ : Sl)⟩ : RL), rfl, ?_⟩
  have h9 : (z : Rat) / (y : Rat) = ((0 : Int) : Rat) := by rw [ai]; simp [Rat.div_def]
  rw [h9]
  exact RatN.more (whole_rat (int_zero _ 1) ((one_data aP).ext aN)) xq
 have ai : y ≠ 0 := Nt.cmp_ne0 af
 have aC : ((Nat.gcd z.natAbs y.natAbs : Nat) : Int) ≠ 0 := by have h9 := Nat.gcd_pos_of_pos_right z.natAbs (Int.natAbs_pos.2 ai); omega
 refine zzs (zzp ?_)
 refine sq9 (zzi 22 (.v (i1.v)) ty30 zze (zzi 23 (.v (i2.v)) ty30 zze (zzg 24 155 _ fun _ _ aq aM => qym (k_riGcd aM (hi1.ext (ag.t (ah.t (aj.t (ak.t aq))))) (hi2.ext (ag.t (ah.t (aj.t (ak.t aq))))) xq xq) ?_)))
 rintro _ u36 aD ⟨au, rfl, aF⟩
 refine zzk 5 ⟨30, [.bool false, qyn]⟩ (zzj ⟨30, au.cs⟩ ty30 ?_)
 refine zzb (sq9 (zzi 26 (.v (i1.v)) ty30 zze (zzi 27 (.v (au.v)) ty30 zze (zzg 28 156 _ fun _ _ al aQ => qym (k_riDiv aQ (hi1.ext (ag.t (ah.t (aj.t (ak.t (aq.t (aD.t al))))))) (aF.ext al).raw aC xq xq) ?_))))
 rintro _ u44 ax ⟨ad, ar, rfl, az, h43⟩
 refine zza 25 (.v (.tuple #[ad.v, ar.v, .int .i64 0])) (zza 29 (.v (ad.v)) (zza 30 (.v (ar.v)) (zza 31 (zI 0) (zzk 6 ⟨30, [.bool false, qyn]⟩ (zzk 7 ⟨30, [.bool false, qyn]⟩ (zzj ⟨30, ad.cs⟩ ty30 ?_))))))
 refine zzj ⟨30, ar.cs⟩ ty30 ?_
 refine zza 8 (zI 0) (zzb (sq9 (zzi 33 (.v (i2.v)) ty30 zze (zzi 34 (.v (au.v)) ty30 zze (zzg 35 156 _ fun _ _ an aR => qym (k_riDiv aR (hi2.ext (ag.t (ah.t (aj.t (ak.t (aq.t (aD.t (al.t (ax.t an))))))))) (aF.ext (al.t (ax.t an))).raw aC xq xq) ?_)))))
 rintro _ u52 aw ⟨aa, av, rfl, ap, h51⟩
 refine zza 32 (.v (.tuple #[aa.v, av.v, .int .i64 0])) (zza 36 (.v (aa.v)) (zza 37 (.v (av.v)) (zza 38 (zI 0) (zzk 9 ⟨30, [.bool false, qyn]⟩ (zzk 10 ⟨30, [.bool false, qyn]⟩ (zzj ⟨30, aa.cs⟩ ty30 ?_))))))
 refine zzj ⟨30, av.cs⟩ ty30 ?_
 refine zza 11 (zI 0) (zzc 47 [(4, .adr 4 0), (6, .adr 6 0), (9, .adr 9 0)] [(4, ⟨32, zw3⟩), (6, ⟨30, ad.cs⟩), (9, ⟨30, aa.cs⟩)] (zzd (sq9 (zza 39 (.adr 9 0) (zzi 40 (zB aa.s) ty4 zzl (zzb (zzu (b := aa.s) xj (fun ac => ?_) (fun ac => ?_))))))))
 ·replace ac : aa.s = true := ac
  refine zzf (zzi 41 (.v (ad.v)) ty30 zze (zzg 42 81 _ fun _ _ aA aK => qym (k_riNeg aK (az.ext (an.t (aw.t aA))).raw xq) ?_))
  rintro _ u59 aG ⟨ae, rfl, aH⟩
  refine zzj ⟨30, ae.cs⟩ ty30 ?_
  refine zzb (sq9 (zzi 43 (.v (ae.v)) ty30 zze (zza 44 (.adr 9 1) (zzi 45 (.v (aa.m.v)) ty28 zzl (zza 46 (.v (.agg #[.bool ae.s, ae.m.v, aa.m.v])) (zzj ⟨32, ae.cs ++ [aa.m.v]⟩ ty32 ?_))))))
  refine zzb (zzo (ret0 [.agg #[.bool ae.s, ae.m.v, aa.m.v]] ⟨zzr ty32 zze, trivial⟩ fun u62 ay => ?_))
  refine ⟨(⟨ae.s, ae.m, aa.m⟩ : RL), rfl, RatN.more (red_neg ai rfl (aH.ext ay) ap ac ((int_mag ap).ext (aA.t (aG.t ay)))) xq⟩
 replace ac : aa.s = false := ac
 refine zzs (zzp ?_)
 refine sq9 (zzi 43 (.v (ad.v)) ty30 zze (zza 44 (.adr 9 1) (zzi 45 (.v (aa.m.v)) ty28 zzl (zza 46 (.v (.agg #[.bool ad.s, ad.m.v, aa.m.v])) (zzj ⟨32, ad.cs ++ [aa.m.v]⟩ ty32 ?_)))))
 refine zzb (zzo (ret0 [.agg #[.bool ad.s, ad.m.v, aa.m.v]] ⟨zzr ty32 zze, trivial⟩ fun u64 aB => ?_))
 refine ⟨(⟨ad.s, ad.m, aa.m⟩ : RL), rfl, RatN.more (red_pos ai rfl (az.ext (an.t (aw.t aB))) ap ac ((int_mag ap).ext aB)) xq⟩
theorem k_parts {u w : World} {r : RL} {q : Rat} {K : Nat} (d : Dat u w) (h : RatV u r q K) (hKK : K ≤ 400000000) : qyc 95 #[r.v] w (Post u w (PartV q K)) := by
 obtain ⟨⟨z, D, hi, hd, hq⟩, hK⟩ := h
 change IntV u ⟨r.s, r.m⟩ z K at hi
 change NatV u r.d D K at hd
 refine zzm Tryz.func95 rfl Tryz.ntmps95 Tryz.results95 d ?_
 refine sq9 (zzk 1 ⟨32, r.cs⟩ (zzk 2 ⟨30, [.bool false, qyn]⟩ (zzk 3 ⟨30, [.bool false, qyn]⟩ (zzb (sq9 (zza 5 (.adr 1 2) (zzi 6 (.v (r.d.v)) ty28 zzl (zzg 7 157 _ fun _ _ ah ai => qym (k_rnTrim ai (hd.ext ah) xq) ?_))))))))
 rintro _ u14 aj ⟨aa, rfl, af⟩
 refine zza 8 (.v (.agg #[.bool false, aa.v])) (zzk 4 ⟨30, [.bool false, qyn]⟩ (zzj ⟨30, [.bool false, aa.v]⟩ ty30 ?_))
 refine zzb (zzd (sq9 (zza 9 (.adr 4 1) (zzi 10 (.v (aa.v)) ty28 zzl (zza 11 (zI aa.n) (zza 12 (zB ((aa.n : Int) == 0)) (zzb (zzu (b := (aa.n : Int) == 0) xj (fun ac => ?_) (fun ac => ?_)))))))))
 ·have ad : (aa.n : Int) = 0 := by simpa using ac
  refine sq9 (zza 13 (.v (.agg #[.bool false, qyn])) (zxx 14 ⟨133, [.int .u32 1]⟩ 1 (fun ae u19 e20 al => ?_)))
  refine zza 15 (.v (.agg #[.bool false, .slice (some ⟨ae, 0, none⟩) 1 1])) (zzj ⟨30, [.bool false, qyn]⟩ ty30 ?_)
  refine zzj ⟨30, [.bool false, .slice (some ⟨ae, 0, none⟩) 1 1]⟩ ty30 ?_
  refine zzb (zzo (zzw (ret0 [.agg #[.bool false, qyn], .agg #[.bool false, .slice (some ⟨ae, 0, none⟩) 1 1]] ⟨zzr ty30 zze, zzr ty30 zze, trivial⟩ fun u22 ak => ?_)))
  have hp := af.pos
  have hD : D = 0 := by simp at ac; omega
  exact ⟨⟨false, ⟨none, 0, 0⟩⟩, ⟨false, (⟨some ⟨ae, 0, none⟩, 1, 1⟩ : Sl)⟩, 0, 1, rfl, (int_zero _ K).raw, nat_intN (((one_data al).ext ak).more hK), by omega, by rw [hq, hD]; simp, hK⟩
 have ad : ¬ ((aa.n : Int) = 0) := by simpa using ac
 refine zzs (zzp ?_)
 refine zzd (zzz [0, 1, 0, 3, 15] [(0, []), (1, []), (2, []), (3, [4]), (4, [])] xj xj (zza 16 (.adr 1 0) (zzi 17 (.v (.agg #[.bool r.s, r.m.v])) ty30 zze (zzi 18 (.v (.agg #[.bool false, aa.v])) ty30 zze (zzj ⟨30, [.bool r.s, r.m.v]⟩ ty30 ?_)))))
 refine zzj ⟨30, [.bool false, aa.v]⟩ ty30 ?_
 refine zzb (zzo (ret0 [.agg #[.bool r.s, r.m.v], .agg #[.bool false, aa.v]] ⟨zzr ty30 zze, zzr ty30 zze, trivial⟩ fun u24 ag => ?_))
 have hp := af.pos
 exact ⟨⟨r.s, r.m⟩, ⟨false, aa⟩, z, D, rfl, (hi.ext (ah.t (aj.t ag))), nat_intN (af.ext ag), by simp at ac; omega, hq, hK⟩
theorem k_rqTrim {u w : World} {r1 : RL} {x : Rat} {K : Nat} (d : Dat u w) (hr1 : RatV u r1 x K) (hK : K ≤ 100000000) : qyc 80 #[r1.v] w (Post u w fun v u' => ∃ r : RL, v = r.v ∧ RatN u' r x K) := by
 refine zzm Tryz.func80 rfl Tryz.ntmps80 Tryz.results80 d ?_
 refine sq9 (zzk 1 ⟨32, r1.cs⟩ (zzk 2 ⟨32, zw3⟩ (zzb (sq9 (zzi 6 (.v (r1.v)) ty32 zze (zzg 7 95 _ fun _ _ ao ai => qym (k_parts ai (hr1.ext ao) xq) ?_))))))
 rintro _ u13 g14 ⟨aa, ac, z12, D12, rfl, ae, ag, am, af, aj⟩
 refine zza 5 (.v (.tuple #[aa.v, ac.v])) (zza 8 (.v (aa.v)) (zza 9 (.v (ac.v)) (zzk 3 ⟨30, [.bool false, qyn]⟩ (zzk 4 ⟨30, [.bool false, qyn]⟩ (zzj ⟨30, aa.cs⟩ ty30 ?_)))))
 refine zzj ⟨30, ac.cs⟩ ty30 ?_
 refine zzb (sq9 (zzi 10 (.v (aa.v)) ty30 zze (zzi 11 (.v (ac.v)) ty30 zze (zzg 12 84 _ fun _ _ ah al => qym (k_reduce al (ae.ext ah) (ag.ext ah).raw xq xq) ?_))))
 rintro _ u19 g20 ⟨ad, rfl, an⟩
 refine zzj ⟨32, ad.cs⟩ ty32 ?_
 refine zzb (zzo (ret0 [ad.v] ⟨zzr ty32 zze, trivial⟩ fun u22 ak => ?_))
 refine ⟨ad, rfl, RatN.fit (K := (max K K + 1)) ?_ (hr1.rs)⟩
 rw [af, ← Nt.mk_div]
 exact (an.ext ak)
theorem k_rqSame {u w : World} {r1 r2 : RL} {x y : Rat} {K L : Nat} (d : Dat u w) (hr1 : RatN u r1 x K) (hr2 : RatN u r2 y L) : qyc 16 #[r1.v, r2.v] w (Post u w fun v _ => v = .bool (decide (x = y))) := by
 refine zzm Tryz.func16 rfl Tryz.ntmps16 Tryz.results16 d ?_
 refine sq9 (zzk 2 ⟨32, r1.cs⟩ (zzk 3 ⟨32, r2.cs⟩ (zza 4 (zB false) (zzb (sq9 (zza 5 (.adr 2 0) (zzi 6 (.v (.agg #[.bool r1.s, r1.m.v])) ty30 zze (zza 7 (.adr 3 0) (zzi 8 (.v (.agg #[.bool r2.s, r2.m.v])) ty30 zze (zzg 9 74 _ fun _ _ aa ae => qym (k_riSame ae ((RatN.num hr1).ext aa) ((RatN.num hr2).ext aa)) ?_))))))))))
 rintro _ u12 ad rfl
 rcases Bool.eq_false_or_eq_true (decide (x.num = y.num)) with hs15 | hs15
 ·refine qbi 10 hs15 ?_
  have qhs15 := qyt hs15
  refine zza 11 (.adr 2 2) ?_ (hw := w1 5 true 10)
  refine zzi 12 (.v (r1.d.v)) ty28 zzl ?_ (hw := w1 5 true 10)
  refine zza 13 (.adr 3 2) ?_ (hw := w1 5 true 10)
  refine zzi 14 (.v (r2.d.v)) ty28 zzl ?_ (hw := w1 5 true 10)
  refine zzg 15 75 _ (fun _ _ ac af => qym (k_rnSame af ((RatN.den hr1).ext (aa.t (ad.t ac))) ((RatN.den hr2).ext (aa.t (ad.t ac)))) ?_) (hw := w1 5 true 10)
  rintro _ u17 g18 rfl
  refine zza 16 (zB (decide (x.den = y.den))) (zza 4 (zB (decide (x.den = y.den))) (zzb (zzo (ret0 [.bool (decide (x.den = y.den))] ⟨zzq, trivial⟩ fun u20 e21 => ?_))))
  show _ = _
  rw [← Nt.same_q, hs15]
  rfl
 refine qbi 10 hs15 ?_
 have qhs15 := qyf hs15
 refine zzn 11 (uw 5 true false 10) (zzn 12 (uw 5 true false 10) (zzn 13 (uw 5 true false 10) (zzn 14 (uw 5 true false 10) (zzn 15 (uw 5 true false 10) (zza 16 (zB false) (zza 4 (zB false) (zzb (zzo (ret0 [.bool false] ⟨zzq, trivial⟩ fun u22 e23 => ?_)))))))))
 show _ = _
 rw [← Nt.same_q, hs15]
 rfl
theorem k_rqOf {u w : World} {z : Int} (d : Dat u w) (h0 : -9223372036854775808 ≤ z) (h1 : z ≤ 9223372036854775807) : qyc 30 #[.int .i64 z] w (Post u w fun v u' => ∃ r : RL, v = r.v ∧ RatN u' r (z : Rat) 2) := by
 refine zzm Tryz.func30 rfl Tryz.ntmps30 Tryz.results30 d ?_
 refine sq9 (zzk 2 ⟨32, zw3⟩ (zzb (sq9 (zza 3 (zI z) (zzg 4 85 _ fun _ _ _ ae => qym (k_riOf ae (z := z) xq xq) ?_)))))
 rintro _ u14 g15 ⟨aa, rfl, af⟩
 refine zxx 5 ⟨133, [.int .u32 1]⟩ 1 (fun ac u18 ah ag => ?_)
 refine zza 6 (.v (.agg #[.bool aa.s, aa.m.v, .slice (some ⟨ac, 0, none⟩) 1 1])) (zzj ⟨32, aa.cs ++ [.slice (some ⟨ac, 0, none⟩) 1 1]⟩ ty32 ?_)
 refine zzb (zzo (ret0 [.agg #[.bool aa.s, aa.m.v, .slice (some ⟨ac, 0, none⟩) 1 1]] ⟨zzr ty32 zze, trivial⟩ fun u21 ad => ?_))
 refine ⟨(⟨aa.s, aa.m, (⟨some ⟨ac, 0, none⟩, 1, 1⟩ : Sl)⟩ : RL), rfl, ?_⟩
 exact whole_rat (af.ext (ah.trans ad)) ((one_data ag).ext ad)
theorem k_rqFrac {u w : World} {a b : Int} (d : Dat u w) (ha0 : -9223372036854775808 ≤ a) (ha1 : a ≤ 9223372036854775807) (hb0 : -9223372036854775808 ≤ b) (hb1 : b ≤ 9223372036854775807) : qyc 23 #[.int .i64 a, .int .i64 b] w (Post u w fun v u' => ∃ r : RL, v = r.v ∧ RatN u' r ((a : Rat) / (b : Rat)) 3) := by
 refine zzm Tryz.func23 rfl Tryz.ntmps23 Tryz.results23 d ?_
 refine sq9 (zzk 4 ⟨32, zw3⟩ (zzb (sq9 (zza 5 (zI a) (zzg 6 85 _ fun _ _ _ ae => qym (k_riOf ae (z := a) xq xq) ?_)))))
 rintro _ u14 g15 ⟨i12, rfl, af⟩
 refine zza 7 (zI b) (zzg 8 85 _ fun _ _ aj ad => qym (k_riOf ad (z := b) xq xq) ?_)
 rintro _ u20 ai ⟨i18, rfl, ah⟩
 refine zzg 9 84 _ fun _ _ ac ag => qym (k_reduce ag (af.ext (aj.t (ai.t ac))).raw (ah.ext ac).raw xq xq) ?_
 rintro _ u26 g27 ⟨aa, rfl, al⟩
 refine zzj ⟨32, aa.cs⟩ ty32 ?_
 refine zzb (zzo (ret0 [aa.v] ⟨zzr ty32 zze, trivial⟩ fun u29 ak => ?_))
 refine ⟨aa, rfl, RatN.more (K := (max 2 2 + 1)) ?_ xq⟩
 exact (al.ext ak)
theorem k_rqSign {u w : World} {r1 : RL} {x : Rat} {K : Nat} (d : Dat u w) (hr1 : RatV u r1 x K) (hK : K ≤ 100000000) : qyc 32 #[r1.v] w (Post u w fun v u' => v = .int .i64 (Nt.sgQ x)) := by
 refine zzm Tryz.func32 rfl Tryz.ntmps32 Tryz.results32 d ?_
 refine sq9 (zzk 1 ⟨32, r1.cs⟩ (zza 2 (zI 0) (zzb (sq9 (zzi 6 (.v (r1.v)) ty32 zze (zzg 7 95 _ fun _ _ am ah => qym (k_parts ah (hr1.ext am) xq) ?_))))))
 rintro _ u13 g14 ⟨aa, ac, ag, D12, rfl, ad, aj, af, ae, ai⟩
 refine zza 5 (.v (.tuple #[aa.v, ac.v])) (zza 8 (.v (aa.v)) (zza 9 (.v (ac.v)) (zzk 3 ⟨30, [.bool false, qyn]⟩ (zzk 4 ⟨30, [.bool false, qyn]⟩ (zzj ⟨30, aa.cs⟩ ty30 ?_)))))
 refine zzj ⟨30, ac.cs⟩ ty30 ?_
 refine zzb (sq9 (zzi 10 (.v (aa.v)) ty30 zze (zzg 11 96 _ fun _ _ al ak => qym (k_riSign ak (ad.ext al) xq) ?_)))
 rintro _ u17 g18 rfl
 refine zza 2 (zI (Nt.cmpS ag 0)) (zzb (zzo (ret0 [.int .i64 (Nt.cmpS ag 0)] ⟨zzq, trivial⟩ fun u20 e21 => ?_)))
 show _ = _
 rw [ae, ← Nt.sg_mk af]
 rfl
theorem k_rqCompare {u w : World} {r1 : RL} {x : Rat} {K : Nat} {r2 : RL} {y : Rat} {L : Nat} (d : Dat u w) (hr1 : RatV u r1 x K) (hr2 : RatV u r2 y L) (hK : K ≤ 100000000) (hL : L ≤ 100000000) : qyc 70 #[r1.v, r2.v] w (Post u w fun v u' => v = .int .i64 (Nt.cmpQ x y)) := by
 refine zzm Tryz.func70 rfl Tryz.ntmps70 Tryz.results70 d ?_
 refine sq9 (zzk 2 ⟨32, r1.cs⟩ (zzk 3 ⟨32, r2.cs⟩ (zza 4 (zI 0) (zzb (sq9 (zzi 10 (.v (r1.v)) ty32 zze (zzg 11 95 _ fun _ _ az aA => qym (k_parts aA (hr1.ext az) xq) ?_)))))))
 rintro _ u13 aH ⟨ac, ae, av, aw, rfl, ah, ak, ap, ai, aC⟩
 refine zza 9 (.v (.tuple #[ac.v, ae.v])) (zza 12 (.v (ac.v)) (zza 13 (.v (ae.v)) (zzk 5 ⟨30, [.bool false, qyn]⟩ (zzk 6 ⟨30, [.bool false, qyn]⟩ (zzj ⟨30, ac.cs⟩ ty30 ?_)))))
 refine zzj ⟨30, ae.cs⟩ ty30 ?_
 refine zzb (sq9 (zzi 15 (.v (r2.v)) ty32 zze (zzg 16 95 _ fun _ _ al aI => qym (k_parts aI (hr2.ext (az.t (aH.t al))) xq) ?_)))
 rintro _ u18 ax ⟨aa, ad, ar, aq, rfl, am, ag, ao, an, aD⟩
 refine zza 14 (.v (.tuple #[aa.v, ad.v])) (zza 17 (.v (aa.v)) (zza 18 (.v (ad.v)) (zzk 7 ⟨30, [.bool false, qyn]⟩ (zzk 8 ⟨30, [.bool false, qyn]⟩ (zzj ⟨30, aa.cs⟩ ty30 ?_)))))
 refine zzj ⟨30, ad.cs⟩ ty30 ?_
 refine zzb (zzd (zzz [0, 0, 3, 0, 0, 31, 63, 127] [(0, []), (1, []), (3, []), (4, []), (2, []), (5, []), (6, []), (7, [])] xj xj (zzi 19 (.v (ac.v)) ty30 zze (zzi 20 (.v (ad.v)) ty30 zze (zzi 22 (.v (aa.v)) ty30 zze (zzi 23 (.v (ae.v)) ty30 zze (zzg 21 137 _ fun _ _ af aK => qym (k_riMul aK (ah.ext (al.t (ax.t af))) (ag.ext af).raw xq xq) ?_)))))))
 rintro _ u24 au ⟨i22, rfl, aJ⟩
 refine zzg 24 137 _ fun _ _ aj aB => qym (k_riMul aB (am.ext (af.t (au.t aj))) (ak.ext (al.t (ax.t (af.t (au.t aj))))).raw xq xq) ?_
 rintro _ u30 aF ⟨i28, rfl, aE⟩
 refine zzg 25 150 _ fun _ _ ay aG => qym (k_riCompare aG (aJ.ext (aj.t (aF.t ay))).raw (aE.ext ay).raw xq xq) ?_
 rintro _ u34 g35 rfl
 refine zza 4 (zI (Nt.cmpS (av * (aq : Int)) (ar * (aw : Int)))) (zzb (zzo (ret0 [.int .i64 (Nt.cmpS (av * (aq : Int)) (ar * (aw : Int)))] ⟨zzq, trivial⟩ fun u37 e38 => ?_)))
 show _ = _
 rw [ai, an, ← Nt.cmp_mk ap ao]
 rfl
theorem k_rqLess {u w : World} {r1 : RL} {x : Rat} {K : Nat} {r2 : RL} {y : Rat} {L : Nat} (d : Dat u w) (hr1 : RatV u r1 x K) (hr2 : RatV u r2 y L) (hK : K ≤ 100000000) (hL : L ≤ 100000000) : qyc 26 #[r1.v, r2.v] w (Post u w fun v u' => v = .bool (decide (x < y))) := by
 refine zzm Tryz.func26 rfl Tryz.ntmps26 Tryz.results26 d ?_
 refine sq9 (zzk 2 ⟨32, r1.cs⟩ (zzk 3 ⟨32, r2.cs⟩ (zza 4 (zB false) (zzb (sq9 (zzi 5 (.v (r1.v)) ty32 zze (zzi 6 (.v (r2.v)) ty32 zze (zzg 7 70 _ fun _ _ aa ac => qym (k_rqCompare ac (hr1.ext aa) (hr2.ext aa) xq xq) ?_))))))))
 rintro _ u12 g13 rfl
 refine zza 8 (zB (decide ((Nt.cmpQ x y) < 0))) (zza 4 (zB (decide ((Nt.cmpQ x y) < 0))) (zzb (zzo (ret0 [.bool (decide ((Nt.cmpQ x y) < 0))] ⟨zzq, trivial⟩ fun u15 e16 => ?_))))
 show _ = _
 rw [← Nt.cmpQ_lt]
 rfl
theorem k_rqNeg {u w : World} {r1 : RL} {x : Rat} {K : Nat} (d : Dat u w) (hr1 : RatV u r1 x K) (hK : K ≤ 100000000) : qyc 21 #[r1.v] w (Post u w fun v u' => ∃ r : RL, v = r.v ∧ RatN u' r (-x) K) := by
 refine zzm Tryz.func21 rfl Tryz.ntmps21 Tryz.results21 d ?_
 refine sq9 (zzk 1 ⟨32, r1.cs⟩ (zzk 2 ⟨32, zw3⟩ (zzb (sq9 (zzi 3 (.v (r1.v)) ty32 zze (zzg 4 80 _ fun _ _ ak ai => qym (k_rqTrim ai (hr1.ext ak) xq) ?_))))))
 rintro _ u14 g15 ⟨ac, rfl, ae⟩
 refine zzj ⟨32, ac.cs⟩ ty32 ?_
 refine zzb (sq9 (zza 5 (.adr 1 0) (zzi 6 (.v (.agg #[.bool ac.s, ac.m.v])) ty30 zze (zzg 7 81 _ fun _ _ ad ag => qym (k_riNeg ag ((RatN.num ae).ext ad).raw xq) ?_))))
 rintro _ u20 ah ⟨aa, rfl, aj⟩
 refine zza 8 (.adr 1 0) (zzj ⟨32, aa.cs ++ [ac.d.v]⟩ ty30 ?_)
 refine zzb (sq9 (zzi 9 (.v (.agg #[.bool aa.s, aa.m.v, ac.d.v])) ty32 zze (zzj ⟨32, aa.cs ++ [ac.d.v]⟩ ty32 ?_)))
 refine zzb (zzo (ret0 [.agg #[.bool aa.s, aa.m.v, ac.d.v]] ⟨zzr ty32 zze, trivial⟩ fun u23 af => ?_))
 exact ⟨(⟨aa.s, aa.m, ac.d⟩ : RL), rfl, neg_rat (ae.ext (ad.t (ah.t af))) (aj.ext af)⟩
theorem k_rqAbs {u w : World} {r1 : RL} {x : Rat} {K : Nat} (d : Dat u w) (hr1 : RatV u r1 x K) (hK : K ≤ 100000000) : qyc 27 #[r1.v] w (Post u w fun v u' => ∃ r : RL, v = r.v ∧ RatN u' r (Nt.absQ x) K) := by
 refine zzm Tryz.func27 rfl Tryz.ntmps27 Tryz.results27 d ?_
 refine sq9 (zzk 1 ⟨32, r1.cs⟩ (zzk 2 ⟨32, zw3⟩ (zzb (sq9 (zzi 3 (.v (r1.v)) ty32 zze (zzg 4 80 _ fun _ _ ak ai => qym (k_rqTrim ai (hr1.ext ak) xq) ?_))))))
 rintro _ u14 g15 ⟨ac, rfl, ae⟩
 refine zzj ⟨32, ac.cs⟩ ty32 ?_
 refine zzb (sq9 (zza 5 (.adr 1 0) (zzi 6 (.v (.agg #[.bool ac.s, ac.m.v])) ty30 zze (zzg 7 90 _ fun _ _ ad ag => qym (k_riAbs ag ((RatN.num ae).ext ad).raw xq) ?_))))
 rintro _ u20 ah ⟨aa, rfl, aj⟩
 refine zza 8 (.adr 1 0) (zzj ⟨32, aa.cs ++ [ac.d.v]⟩ ty30 ?_)
 refine zzb (sq9 (zzi 9 (.v (.agg #[.bool aa.s, aa.m.v, ac.d.v])) ty32 zze (zzj ⟨32, aa.cs ++ [ac.d.v]⟩ ty32 ?_)))
 refine zzb (zzo (ret0 [.agg #[.bool aa.s, aa.m.v, ac.d.v]] ⟨zzr ty32 zze, trivial⟩ fun u23 af => ?_))
 exact ⟨(⟨aa.s, aa.m, ac.d⟩ : RL), rfl, abs_rat3 (ae.ext (ad.t (ah.t af))) (aj.ext af)⟩
theorem k_rqAdd {u w : World} {r1 : RL} {x : Rat} {K : Nat} {r2 : RL} {y : Rat} {L : Nat} (d : Dat u w) (hr1 : RatV u r1 x K) (hr2 : RatV u r2 y L) (hK : K ≤ 100000000) (hL : L ≤ 100000000) : qyc 58 #[r1.v, r2.v] w (Post u w fun v u' => ∃ r : RL, v = r.v ∧ RatN u' r (x + y) (K + L + 2)) := by
 refine zzm Tryz.func58 rfl Tryz.ntmps58 Tryz.results58 d ?_
 refine sq9 (zzk 2 ⟨32, r1.cs⟩ (zzk 3 ⟨32, r2.cs⟩ (zzk 4 ⟨32, zw3⟩ (zzb (sq9 (zzi 10 (.v (r1.v)) ty32 zze (zzg 11 95 _ fun _ _ aA aC => qym (k_parts aC (hr1.ext aA) xq) ?_)))))))
 rintro _ u13 aM ⟨ai, ae, z12, D12, rfl, ao, ag, ax, ap, aH⟩
 refine zza 9 (.v (.tuple #[ai.v, ae.v])) (zza 12 (.v (ai.v)) (zza 13 (.v (ae.v)) (zzk 5 ⟨30, [.bool false, qyn]⟩ (zzk 6 ⟨30, [.bool false, qyn]⟩ (zzj ⟨30, ai.cs⟩ ty30 ?_)))))
 refine zzj ⟨30, ae.cs⟩ ty30 ?_
 refine zzb (sq9 (zzi 15 (.v (r2.v)) ty32 zze (zzg 16 95 _ fun _ _ al aN => qym (k_parts aN (hr2.ext (aA.t (aM.t al))) xq) ?_)))
 rintro _ u18 ar ⟨ah, ac, z17, D17, rfl, au, ad, aw, av, aI⟩
 refine zza 14 (.v (.tuple #[ah.v, ac.v])) (zza 17 (.v (ah.v)) (zza 18 (.v (ac.v)) (zzk 7 ⟨30, [.bool false, qyn]⟩ (zzk 8 ⟨30, [.bool false, qyn]⟩ (zzj ⟨30, ah.cs⟩ ty30 ?_)))))
 refine zzj ⟨30, ac.cs⟩ ty30 ?_
 refine zzb (zzd (zzz [0, 0, 3, 0, 0, 31, 63, 0, 0, 511, 1023, 2047] [(0, []), (1, []), (3, []), (4, []), (7, []), (8, []), (2, []), (5, []), (6, []), (9, []), (10, []), (11, [])] xj xj (zzi 19 (.v (ai.v)) ty30 zze (zzi 20 (.v (ac.v)) ty30 zze (zzi 22 (.v (ah.v)) ty30 zze (zzi 23 (.v (ae.v)) ty30 zze (zzi 26 (.v (ae.v)) ty30 zze (zzi 27 (.v (ac.v)) ty30 zze (zzg 21 137 _ fun _ _ aa aG => qym (k_riMul aG (ao.ext (al.t (ar.t aa))) (ad.ext aa).raw xq xq) ?_)))))))))
 rintro _ u24 aj ⟨i22, rfl, aO⟩
 refine zzg 24 137 _ fun _ _ af aF => qym (k_riMul aF (au.ext (aa.t (aj.t af))) (ag.ext (al.t (ar.t (aa.t (aj.t af))))).raw xq xq) ?_
 rintro _ u30 aq ⟨i28, rfl, aJ⟩
 refine zzg 25 136 _ fun _ _ am aK => qym (k_riAdd aK (aO.ext (af.t (aq.t am))).raw (aJ.ext am).raw xq xq) ?_
 rintro _ u36 az ⟨i34, rfl, aP⟩
 refine zzg 28 137 _ fun _ _ an aR => qym (k_riMul aR (ag.ext (al.t (ar.t (aa.t (aj.t (af.t (aq.t (am.t (az.t an))))))))).raw (ad.ext (aa.t (aj.t (af.t (aq.t (am.t (az.t an))))))).raw xq xq) ?_
 rintro _ u42 aQ ⟨i40, rfl, aE⟩
 refine zzg 29 84 _ fun _ _ ay aB => qym (k_reduce aB (aP.ext (an.t (aQ.t ay))).raw (aE.ext ay).raw xq xq) ?_
 rintro _ u48 g49 ⟨ak, rfl, aD⟩
 refine zzj ⟨32, ak.cs⟩ ty32 ?_
 refine zzc 30 [(4, .adr 4 0)] [(4, ⟨32, ak.cs⟩)] (zzo (ret0 [ak.v] ⟨zzr ty32 zze, trivial⟩ fun u51 aL => ?_))
 refine ⟨ak, rfl, RatN.more (K := (max (max (K + L) (L + K) + 1) (K + L) + 1)) ?_ xq⟩
 rw [ap, av, ← Nt.add_div2 ax aw]
 exact (aD.ext aL)
theorem k_rqSub {u w : World} {r1 : RL} {x : Rat} {K : Nat} {r2 : RL} {y : Rat} {L : Nat} (d : Dat u w) (hr1 : RatV u r1 x K) (hr2 : RatV u r2 y L) (hK : K ≤ 100000000) (hL : L ≤ 100000000) : qyc 93 #[r1.v, r2.v] w (Post u w fun v u' => ∃ r : RL, v = r.v ∧ RatN u' r (x - y) (K + L + 2)) := by
 refine zzm Tryz.func93 rfl Tryz.ntmps93 Tryz.results93 d ?_
 refine sq9 (zzk 2 ⟨32, r1.cs⟩ (zzk 3 ⟨32, r2.cs⟩ (zzk 4 ⟨32, zw3⟩ (zzb (zzd (zzz [0, 0, 2, 7, 15] [(0, []), (1, []), (2, []), (3, []), (4, [])] xj xj (zzi 5 (.v (r1.v)) ty32 zze (zzi 6 (.v (r2.v)) ty32 zze (zzg 7 21 _ fun _ _ ad af => qym (k_rqNeg af (hr2.ext ad) xq) ?_)))))))))
 rintro _ u14 ah ⟨r12, rfl, ag⟩
 refine zzg 8 58 _ fun _ _ ac ae => qym (k_rqAdd ae (hr1.ext (ad.t (ah.t ac))) (ag.ext ac).raw xq xq) ?_
 rintro _ u20 g21 ⟨aa, rfl, ai⟩
 refine zzj ⟨32, aa.cs⟩ ty32 ?_
 refine zzb (zzo (ret0 [aa.v] ⟨zzr ty32 zze, trivial⟩ fun u23 aj => ?_))
 refine ⟨aa, rfl, RatN.more (K := (K + L + 2)) ?_ xq⟩
 rw [Rat.sub_eq_add_neg]
 exact (ai.ext aj)
theorem k_rqMul {u w : World} {r1 : RL} {x : Rat} {K : Nat} {r2 : RL} {y : Rat} {L : Nat} (d : Dat u w) (hr1 : RatV u r1 x K) (hr2 : RatV u r2 y L) (hK : K ≤ 100000000) (hL : L ≤ 100000000) : qyc 91 #[r1.v, r2.v] w (Post u w fun v u' => ∃ r : RL, v = r.v ∧ RatN u' r (x * y) (K + L + 1)) := by
 refine zzm Tryz.func91 rfl Tryz.ntmps91 Tryz.results91 d ?_
 refine sq9 (zzk 2 ⟨32, r1.cs⟩ (zzk 3 ⟨32, r2.cs⟩ (zzk 4 ⟨32, zw3⟩ (zzb (sq9 (zzi 10 (.v (r1.v)) ty32 zze (zzg 11 95 _ fun _ _ au aw => qym (k_parts aw (hr1.ext au) xq) ?_)))))))
 rintro _ u13 aD ⟨ac, ae, z12, D12, rfl, ai, al, aJ, aj, ay⟩
 refine zza 9 (.v (.tuple #[ac.v, ae.v])) (zza 12 (.v (ac.v)) (zza 13 (.v (ae.v)) (zzk 5 ⟨30, [.bool false, qyn]⟩ (zzk 6 ⟨30, [.bool false, qyn]⟩ (zzj ⟨30, ac.cs⟩ ty30 ?_)))))
 refine zzj ⟨30, ae.cs⟩ ty30 ?_
 refine zzb (sq9 (zzi 15 (.v (r2.v)) ty32 zze (zzg 16 95 _ fun _ _ am aE => qym (k_parts aE (hr2.ext (au.t (aD.t am))) xq) ?_)))
 rintro _ u18 aq ⟨aa, ad, z17, D17, rfl, an, ah, aH, ao, az⟩
 refine zza 14 (.v (.tuple #[aa.v, ad.v])) (zza 17 (.v (aa.v)) (zza 18 (.v (ad.v)) (zzk 7 ⟨30, [.bool false, qyn]⟩ (zzk 8 ⟨30, [.bool false, qyn]⟩ (zzj ⟨30, aa.cs⟩ ty30 ?_)))))
 refine zzj ⟨30, ad.cs⟩ ty30 ?_
 refine zzb (zzd (zzz [0, 0, 3, 0, 0, 31, 63, 127] [(0, []), (1, []), (3, []), (4, []), (2, []), (5, []), (6, []), (7, [])] xj xj (zzi 19 (.v (ac.v)) ty30 zze (zzi 20 (.v (aa.v)) ty30 zze (zzi 22 (.v (ae.v)) ty30 zze (zzi 23 (.v (ad.v)) ty30 zze (zzg 21 137 _ fun _ _ af aI => qym (k_riMul aI (ai.ext (am.t (aq.t af))) (an.ext af) xq xq) ?_)))))))
 rintro _ u24 ap ⟨i22, rfl, aF⟩
 refine zzg 24 137 _ fun _ _ ak ax => qym (k_riMul ax (al.ext (am.t (aq.t (af.t (ap.t ak))))).raw (ah.ext (af.t (ap.t ak))).raw xq xq) ?_
 rintro _ u30 aB ⟨i28, rfl, aA⟩
 refine zzg 25 84 _ fun _ _ ar aC => qym (k_reduce aC (aF.ext (ak.t (aB.t ar))).raw (aA.ext ar).raw xq xq) ?_
 rintro _ u36 g37 ⟨ag, rfl, aG⟩
 refine zzj ⟨32, ag.cs⟩ ty32 ?_
 refine zzb (zzo (ret0 [ag.v] ⟨zzr ty32 zze, trivial⟩ fun u39 av => ?_))
 refine ⟨ag, rfl, RatN.more (K := (max (K + L) (K + L) + 1)) ?_ xq⟩
 rw [aj, ao, ← Nt.mul_div2]
 exact (aG.ext av)
def DivQ (x y : Rat) (K : Nat) (v : Value) (u : World) : Prop := (v = .tuple #[.agg #[.bool false, qyn, qyn], .int .i64 3] ∧ y = 0) ∨ (y ≠ 0 ∧ ∃ r : RL, v = .tuple #[r.v, .int .i64 0] ∧ RatN u r (x / y) K)
theorem k_rqDiv {u w : World} {r1 : RL} {x : Rat} {K : Nat} {r2 : RL} {y : Rat} {L : Nat} (d : Dat u w) (hr1 : RatV u r1 x K) (hr2 : RatV u r2 y L) (hK : K ≤ 100000000) (hL : L ≤ 100000000) : qyc 158 #[r1.v, r2.v] w (Post u w fun v u' => DivQ x y (K + L + 1) v u') := by
 refine zzm Tryz.func158 rfl Tryz.ntmps158 Tryz.results158 d ?_
 refine sq9 (zzk 2 ⟨32, r1.cs⟩ (zzk 3 ⟨32, r2.cs⟩ (zzk 4 ⟨32, zw3⟩ (zza 5 (zI 0) (zzb (sq9 (zzi 11 (.v (r1.v)) ty32 zze (zzg 12 95 _ fun _ _ aB aC => qym (k_parts aC (hr1.ext aB) xq) ?_))))))))
 rintro _ u13 aK ⟨ag, aj, z12, D12, rfl, ap, ar, aw, aq, aD⟩
 refine zza 10 (.v (.tuple #[ag.v, aj.v])) (zza 13 (.v (ag.v)) (zza 14 (.v (aj.v)) (zzk 6 ⟨30, [.bool false, qyn]⟩ (zzk 7 ⟨30, [.bool false, qyn]⟩ (zzj ⟨30, ag.cs⟩ ty30 ?_)))))
 refine zzj ⟨30, aj.cs⟩ ty30 ?_
 refine zzb (sq9 (zzi 16 (.v (r2.v)) ty32 zze (zzg 17 95 _ fun _ _ au aM => qym (k_parts aM (hr2.ext (aB.t (aK.t au))) xq) ?_)))
 rintro _ u18 az ⟨ad, ah, an, D17, rfl, af, ao, av, ac, aF⟩
 refine zza 15 (.v (.tuple #[ad.v, ah.v])) (zza 18 (.v (ad.v)) (zza 19 (.v (ah.v)) (zzk 8 ⟨30, [.bool false, qyn]⟩ (zzk 9 ⟨30, [.bool false, qyn]⟩ (zzj ⟨30, ad.cs⟩ ty30 ?_)))))
 refine zzj ⟨30, ah.cs⟩ ty30 ?_
 refine zzb (zzd (sq9 (zzi 20 (.v (ad.v)) ty30 zze (zzg 21 96 _ fun _ _ ae aP => qym (k_riSign aP (af.ext ae) xq) ?_))))
 rintro _ u22 ai rfl
 refine zza 22 (zB ((Nt.cmpS an 0) == 0)) (zzb (zzu (b := (Nt.cmpS an 0) == 0) xj (fun aa => ?_) (fun aa => ?_)))
 ·refine sq9 (zza 23 (.v (.agg #[.bool false, qyn, qyn])) (zzj ⟨32, zw3⟩ ty32 ?_))
  refine zza 5 (zI 3) (zzb (zzo (zzw (ret0 [.agg #[.bool false, qyn, qyn], .int .i64 3] ⟨zzr ty32 zze, zzq, trivial⟩ fun u26 e27 => ?_))))
  left
  exact ⟨rfl, by rw [ac, Nt.cmp_eq0 aa, Rat.zero_mkRat]⟩
 have aA : an ≠ 0 := Nt.cmp_ne0 aa
 refine zzs (zzp ?_)
 refine zzd (zzz [0, 0, 3, 0, 0, 31, 63, 127, 255] [(0, []), (1, []), (3, []), (4, []), (2, []), (5, []), (6, []), (7, []), (8, [])] xj xj (zzi 24 (.v (ag.v)) ty30 zze (zzi 25 (.v (ah.v)) ty30 zze (zzi 27 (.v (aj.v)) ty30 zze (zzi 28 (.v (ad.v)) ty30 zze (zzg 26 137 _ fun _ _ ak aG => qym (k_riMul aG (ap.ext (au.t (az.t (ae.t (ai.t ak))))) (ao.ext (ae.t (ai.t ak))).raw xq xq) ?_))))))
 rintro _ u31 ay ⟨i29, rfl, aO⟩
 refine zzg 29 137 _ fun _ _ am aI => qym (k_riMul aI (ar.ext (au.t (az.t (ae.t (ai.t (ak.t (ay.t am))))))).raw (af.ext (ae.t (ai.t (ak.t (ay.t am))))) xq xq) ?_
 rintro _ u37 aN ⟨i35, rfl, aH⟩
 refine zzg 30 84 _ fun _ _ ax aE => qym (k_reduce aE (aO.ext (am.t (aN.t ax))).raw (aH.ext ax).raw xq xq) ?_
 rintro _ u43 g44 ⟨al, rfl, aL⟩
 refine zzj ⟨32, al.cs⟩ ty32 ?_
 refine zza 5 (zI 0) (zzc 31 [(4, .adr 4 0), (5, zI 0)] [(4, ⟨32, al.cs⟩)] (zzo (ret0 [al.v, .int .i64 0] ⟨zzr ty32 zze, zzq, trivial⟩ fun u46 aJ => ?_)))
 right
 refine ⟨?_, al, rfl, RatN.more (K := (max (K + L) (K + L) + 1)) ?_ xq⟩
 ·rw [ac]; exact (Rat.mkRat_ne_zero xq).2 aA
 rw [aq, ac, ← Nt.quo_mk aw av aA]
 exact (aL.ext aJ)
theorem k_rqOver {u w : World} {r1 : RL} {x : Rat} {K : Nat} {r2 : RL} {y : Rat} {L : Nat} (d : Dat u w) (hr1 : RatV u r1 x K) (hr2 : RatV u r2 y L) (hK : K ≤ 100000000) (hL : L ≤ 100000000) : qyc 97 #[r1.v, r2.v] w (Post u w fun v u' => ∃ r : RL, v = r.v ∧ RatN u' r (x / y) (K + L + 2)) := by
 refine zzm Tryz.func97 rfl Tryz.ntmps97 Tryz.results97 d ?_
 refine sq9 (zzk 2 ⟨32, r1.cs⟩ (zzk 3 ⟨32, r2.cs⟩ (zzk 4 ⟨32, zw3⟩ (zzb (sq9 (zzi 8 (.v (r1.v)) ty32 zze (zzi 9 (.v (r2.v)) ty32 zze (zzg 10 158 _ fun _ _ ae af => qym (k_rqDiv af (hr1.ext ae) (hr2.ext ae) xq xq) ?_))))))))
 rintro _ u15 g16 (⟨rfl, ac⟩ | ⟨ac, aa, rfl, ai⟩)
 ·skip
  refine zza 7 (.v (.tuple #[.agg #[.bool false, qyn, qyn], .int .i64 3])) (zza 11 (.v (.agg #[.bool false, qyn, qyn])) (zza 12 (zI 3) (zzk 5 ⟨32, zw3⟩ (zzj ⟨32, zw3⟩ ty32 ?_))))
  refine zza 6 (zI 3) (zzb (zzd (sq9 (zza 13 (zI 3) (zza 14 (zB true) (zzb (zyr xj (sq9 (zzg 15 30 _ fun _ _ _ ah => qym (k_rqOf ah (z := 0) xq xq) ?_)))))))))
  rintro _ u21 g22 ⟨ad, rfl, ag⟩
  refine zzj ⟨32, ad.cs⟩ ty32 ?_
  refine zzb (zzo (zzw (ret0 [ad.v] ⟨zzr ty32 zze, trivial⟩ fun u24 ak => ?_)))
  refine ⟨ad, rfl, RatN.more (K := 2) ?_ xq⟩
  rw [ac, Rat.div_def, Rat.inv_zero, Rat.mul_zero]
  exact (ag.ext ak)
 refine zza 7 (.v (.tuple #[aa.v, .int .i64 0])) (zza 11 (.v (aa.v)) (zza 12 (zI 0) (zzk 5 ⟨32, zw3⟩ (zzj ⟨32, aa.cs⟩ ty32 ?_))))
 refine zza 6 (zI 0) (zzb (zzd (sq9 (zza 13 (zI 0) (zza 14 (zB false) (zzb (zys xj (zzs (zzp ?_)))))))))
 refine sq9 (zzi 16 (.v (aa.v)) ty32 zze (zzj ⟨32, aa.cs⟩ ty32 ?_))
 refine zzb (zzo (ret0 [aa.v] ⟨zzr ty32 zze, trivial⟩ fun u26 aj => ?_))
 refine ⟨aa, rfl, RatN.more (K := (K + L + 1)) ?_ xq⟩
 exact (ai.ext aj)
theorem k_signed {u w : World} {s : Bool} {x : Sl} {N K : Nat} (d : Dat u w) (h : NatN u x N K) : qyc 193 #[.bool s, x.v] w (Post u w fun v u' => ∃ i : IL, v = i.v ∧ IntN u' i (Nt.sg s N) K) := by
 refine zzm Tryz.func193 rfl Tryz.ntmps193 Tryz.results193 d ?_
 refine sq9 (zzk 4 ⟨30, [.bool false, qyn]⟩ (zzb (sq9 (zza 5 (zB s) ?_))))
 rcases Bool.eq_false_or_eq_true s with hs11 | hs11
 ·refine qbi 6 hs11 (zza 7 (.v (x.v)) ?_ (hw := w1 1 true 6))
  refine zza 8 (zI x.n) ?_ (hw := w1 1 true 6)
  refine zza 9 (zB (decide ((0 : Int) < (x.n : Int)))) ?_ (hw := w1 1 true 6)
  refine zza 10 (zB (decide ((0 : Int) < (x.n : Int)))) (zza 11 (.v (x.v)) (zza 12 (.v (.agg #[.bool (decide ((0 : Int) < (x.n : Int))), x.v])) (zzj ⟨30, [.bool (decide ((0 : Int) < (x.n : Int))), x.v]⟩ ty30 ?_)))
  refine zzb (zzo (ret0 [.agg #[.bool (decide ((0 : Int) < (x.n : Int))), .slice x.a x.n x.c]] ⟨zzr ty30 zze, trivial⟩ fun u12 aa => ?_))
  rw [hs11]
  exact ⟨⟨_, x⟩, rfl, signed_int (s := true) (h.ext aa)⟩
 refine qbi 6 hs11 (zzn 7 (uw 1 true false 6) (zzn 8 (uw 1 true false 6) (zzn 9 (uw 1 true false 6) (zza 10 (zB false) (zza 11 (.v (x.v)) (zza 12 (.v (.agg #[.bool false, x.v])) (zzj ⟨30, [.bool false, x.v]⟩ ty30 ?_)))))))
 refine zzb (zzo (ret0 [.agg #[.bool false, .slice x.a x.n x.c]] ⟨zzr ty30 zze, trivial⟩ fun u14 ac => ?_))
 rw [hs11]
 exact ⟨⟨_, x⟩, rfl, signed_int (s := false) (h.ext ac)⟩
theorem k_intTrim {u w : World} {i1 : IL} {zN : Int} {K : Nat} (d : Dat u w) (hi1 : IntV u i1 zN K) (hK : K ≤ 500000000) : qyc 200 #[i1.v] w (Post u w fun v u' => ∃ i : IL, v = i.v ∧ IntN u' i zN K) := by
 obtain ⟨N, hN, hzN⟩ := hi1
 refine zzm Tryz.func200 rfl Tryz.ntmps200 Tryz.results200 d ?_
 refine sq9 (zzk 1 ⟨30, i1.cs⟩ (zzk 2 ⟨30, [.bool false, qyn]⟩ (zzb (zzd (zzz [0, 1, 0, 4, 12, 31, 63] [(0, []), (1, []), (2, []), (3, []), (4, []), (5, []), (6, [])] xj xj (zza 3 (.adr 1 0) (zzi 4 (zB i1.s) ty4 zzl (zza 5 (.adr 1 1) (zzi 6 (.v (i1.m.v)) ty28 zzl (zzg 7 194 _ fun _ _ ai ad => qym (k_natTrim ad (hN.ext ai) xq) ?_))))))))))
 rintro _ u14 g15 ⟨x12, rfl, af⟩
 refine zzg 8 193 _ fun _ _ ae ac => qym (k_signed ac (s := i1.s) (af.ext ae)) ?_
 rintro _ u20 g21 ⟨aa, rfl, ag⟩
 refine zzj ⟨30, aa.cs⟩ ty30 ?_
 refine zzb (zzo (ret0 [aa.v] ⟨zzr ty30 zze, trivial⟩ fun u23 ah => ?_))
 refine ⟨aa, rfl, IntN.more (K := K) ?_ xq⟩
 rw [hzN]
 exact (ag.ext ah)
theorem k_intMul {u w : World} {i1 : IL} {zN : Int} {K : Nat} {i2 : IL} {zM : Int} {L : Nat} (d : Dat u w) (hi1 : IntV u i1 zN K) (hi2 : IntV u i2 zM L) (hK : K ≤ 500000000) (hL : L ≤ 500000000) : qyc 143 #[i1.v, i2.v] w (Post u w fun v u' => ∃ i : IL, v = i.v ∧ IntN u' i (zN * zM) (K + L)) := by
 obtain ⟨N, hN, hzN⟩ := hi1
 obtain ⟨M, hM, hzM⟩ := hi2
 refine zzm Tryz.func143 rfl Tryz.ntmps143 Tryz.results143 d ?_
 refine sq9 (zzk 2 ⟨30, i1.cs⟩ (zzk 3 ⟨30, i2.cs⟩ (zzk 4 ⟨30, [.bool false, qyn]⟩ (zzb (zzd (zzz [0, 1, 0, 4, 15, 0, 32, 0, 128, 480, 1023, 2047] [(0, []), (1, []), (2, []), (3, []), (4, []), (5, []), (6, []), (7, []), (8, []), (9, []), (10, []), (11, [])] xj xj (zza 5 (.adr 2 0) (zzi 6 (zB i1.s) ty4 zzl (zza 7 (.adr 3 0) (zzi 8 (zB i2.s) ty4 zzl (zza 9 (zB (!(i1.s == i2.s))) ?_)))))))))))
 refine zza 10 (.adr 2 1) (zzi 11 (.v (i1.m.v)) ty28 zzl (zza 12 (.adr 3 1) (zzi 13 (.v (i2.m.v)) ty28 zzl (zzg 14 167 _ fun _ _ ac ae => qym (k_natMul ae (hN.ext ac) (hM.ext ac) xq xq) ?_))))
 rintro _ u14 g15 ⟨x12, rfl, ag⟩
 refine zzg 15 193 _ fun _ _ af ad => qym (k_signed ad (s := !(i1.s == i2.s)) (ag.ext af)) ?_
 rintro _ u20 g21 ⟨aa, rfl, ah⟩
 refine zzj ⟨30, aa.cs⟩ ty30 ?_
 refine zzb (zzo (ret0 [aa.v] ⟨zzr ty30 zze, trivial⟩ fun u23 ai => ?_))
 refine ⟨aa, rfl, IntN.more (K := (K + L)) ?_ xq⟩
 rw [hzN, hzM, ← Nt.sg_mul]
 exact (ah.ext ai)
theorem k_intAdd {u w : World} {i1 : IL} {zN : Int} {K : Nat} {i2 : IL} {zM : Int} {L : Nat} (d : Dat u w) (hi1 : IntV u i1 zN K) (hi2 : IntV u i2 zM L) (hK : K ≤ 500000000) (hL : L ≤ 500000000) : qyc 165 #[i1.v, i2.v] w (Post u w fun v u' => ∃ i : IL, v = i.v ∧ IntN u' i (zN + zM) (max K L + 1)) := by
 obtain ⟨N, hN, hzN⟩ := hi1
 obtain ⟨M, hM, hzM⟩ := hi2
 refine zzm Tryz.func165 rfl Tryz.ntmps165 Tryz.results165 d ?_
 refine sq9 (zzk 2 ⟨30, i1.cs⟩ (zzk 3 ⟨30, i2.cs⟩ (zzk 4 ⟨30, [.bool false, qyn]⟩ (zzb (zzd (sq9 (zza 5 (.adr 2 0) (zzi 6 (zB i1.s) ty4 zzl (zza 7 (.adr 3 0) (zzi 8 (zB i2.s) ty4 zzl (zza 9 (zB (i1.s == i2.s)) ?_)))))))))))
 refine zzb (zzu (b := i1.s == i2.s) xj (fun aa => ?_) (fun aa => ?_))
 ·refine zzd (zzz [0, 1, 0, 4, 0, 16, 60, 127, 255] [(0, []), (1, []), (2, []), (3, []), (4, []), (5, []), (6, []), (7, []), (8, [])] xj xj (zza 10 (.adr 2 0) (zzi 11 (zB i1.s) ty4 zzl (zza 12 (.adr 2 1) (zzi 13 (.v (i1.m.v)) ty28 zzl (zza 14 (.adr 3 1) (zzi 15 (.v (i2.m.v)) ty28 zzl (zzg 16 196 _ fun _ _ ak aw => qym (k_natAdd aw (hN.ext ak) (hM.ext ak) xq xq) ?_))))))))
  rintro _ u15 g16 ⟨x13, rfl, aD⟩
  refine zzg 17 193 _ fun _ _ aF av => qym (k_signed av (s := i1.s) (aD.ext aF)) ?_
  rintro _ u21 g22 ⟨ah, rfl, ar⟩
  refine zzj ⟨30, ah.cs⟩ ty30 ?_
  refine zzb (zzo (zzw (ret0 [ah.v] ⟨zzr ty30 zze, trivial⟩ fun u24 ao => ?_)))
  refine ⟨ah, rfl, IntN.more (K := (max K L + 1)) ?_ xq⟩
  rw [hzN, hzM, ← Nt.sg_add1 N M aa]
  exact (ar.ext ao)
 refine zzs (zzp ?_)
 refine zzd (sq9 (zza 18 (.adr 2 1) (zzi 19 (.v (i1.m.v)) ty28 zzl (zza 20 (.adr 3 1) (zzi 21 (.v (i2.m.v)) ty28 zzl (zzg 22 166 _ fun _ _ ad ap => qym (k_natCompare ap (hN.ext ad) (hM.ext ad)) ?_))))))
 rintro _ u27 ae rfl
 refine zza 23 (zB ((Nt.cmpS N M) == (-1))) (zzb (zzu (b := (Nt.cmpS N M) == (-1)) xj (fun ac => ?_) (fun ac => ?_)))
 ·refine zzd (zzz [0, 1, 0, 4, 0, 16, 60, 127, 255] [(0, []), (1, []), (2, []), (3, []), (4, []), (5, []), (6, []), (7, []), (8, [])] xj xj (zza 24 (.adr 3 0) (zzi 25 (zB i2.s) ty4 zzl (zza 26 (.adr 3 1) (zzi 27 (.v (i2.m.v)) ty28 zzl (zza 28 (.adr 2 1) (zzi 29 (.v (i1.m.v)) ty28 zzl (zzg 30 197 _ fun _ _ ai ax => qym (k_natSub ax (hM.ext (ad.t (ae.t ai))) (hN.ext (ad.t (ae.t ai))) xq xq) ?_))))))))
  rintro _ u34 g35 ⟨x32, rfl, aE⟩
  refine zzg 31 193 _ fun _ _ aq aA => qym (k_signed aA (s := i2.s) (aE.ext aq)) ?_
  rintro _ u40 g41 ⟨af, rfl, au⟩
  refine zzj ⟨30, af.cs⟩ ty30 ?_
  refine zzb (zzo (zzw (ret0 [af.v] ⟨zzr ty30 zze, trivial⟩ fun u43 an => ?_)))
  refine ⟨af, rfl, IntN.more (K := L) ?_ xq⟩
  rw [hzN, hzM, ← Nt.sg_add2 N M aa ac]
  exact (au.ext an)
 refine zzs (zzp ?_)
 refine zzd (zzz [0, 1, 0, 4, 0, 16, 60, 127, 255] [(0, []), (1, []), (2, []), (3, []), (4, []), (5, []), (6, []), (7, []), (8, [])] xj xj (zza 32 (.adr 2 0) (zzi 33 (zB i1.s) ty4 zzl (zza 34 (.adr 2 1) (zzi 35 (.v (i1.m.v)) ty28 zzl (zza 36 (.adr 3 1) (zzi 37 (.v (i2.m.v)) ty28 zzl (zzg 38 197 _ fun _ _ aj al => qym (k_natSub al (hN.ext (ad.t (ae.t aj))) (hM.ext (ad.t (ae.t aj))) xq xq) ?_))))))))
 rintro _ u48 g49 ⟨x46, rfl, am⟩
 refine zzg 39 193 _ fun _ _ ay az => qym (k_signed az (s := i1.s) (am.ext ay)) ?_
 rintro _ u54 g55 ⟨ag, rfl, aB⟩
 refine zzj ⟨30, ag.cs⟩ ty30 ?_
 refine zzb (zzo (ret0 [ag.v] ⟨zzr ty30 zze, trivial⟩ fun u57 aC => ?_))
 refine ⟨ag, rfl, IntN.more (K := K) ?_ xq⟩
 rw [hzN, hzM, ← Nt.sg_add3 N M aa ac]
 exact (aB.ext aC)
theorem k_intSign {u w : World} {i1 : IL} {zN : Int} {K : Nat} (d : Dat u w) (hi1 : IntV u i1 zN K)  : qyc 147 #[i1.v] w (Post u w fun v u' => v = .int .i64 (Nt.cmpS zN 0)) := by
 obtain ⟨N, hN, hzN⟩ := hi1
 refine zzm Tryz.func147 rfl Tryz.ntmps147 Tryz.results147 d ?_
 refine sq9 (zzk 1 ⟨30, i1.cs⟩ (zza 2 (zI 0) (zzb (zzd (zzt (sq9 (zza 4 (.adr 1 1) (zzi 5 (.v (i1.m.v)) ty28 zzl (zzg 6 166 _ fun _ _ ae ad => qym (k_natCompare ad (hN.ext ae) (nat_nil _ 1)) ?_)))))))))
 rintro _ u12 g13 rfl
 refine zza 7 (zB ((Nt.cmpS N 0) == 0)) (zza 3 (zB ((Nt.cmpS N 0) == 0)) (zzb (zzu (b := (Nt.cmpS N 0) == 0) xj (fun ac => ?_) (fun ac => ?_))))
 ·refine sq9 (zza 2 (zI 0) (zzb (zzo (zyu (zzw (ret0 [.int .i64 0] ⟨zzq, trivial⟩ fun u16 e17 => ?_))))))
  show _ = _
  rw [hzN, Nt.sg_cmp0, if_pos ac]
  rfl
 refine sq9 (zza 9 (.adr 1 0) (zzi 10 (zB i1.s) ty4 zzl (zza 8 (zB i1.s) (zzb (zzu (b := i1.s) xj (fun aa => ?_) (fun aa => ?_))))))
 ·replace aa : i1.s = true := aa
  refine sq9 (zza 2 (zI (-1)) (zzb (zzo (zyu (zzw (ret0 [.int .i64 (-1)] ⟨zzq, trivial⟩ fun u19 e20 => ?_))))))
  show _ = _
  rw [hzN, Nt.sg_cmp0, if_neg (ne_true_of_eq_false ac), if_pos aa]
  rfl
 replace aa : i1.s = false := aa
 refine zzs (zzp ?_)
 refine sq9 (zza 2 (zI 1) (zzb (zzo (ret0 [.int .i64 1] ⟨zzq, trivial⟩ fun u21 e22 => ?_))))
 show _ = _
 rw [hzN, Nt.sg_cmp0, if_neg (ne_true_of_eq_false ac), if_neg (ne_true_of_eq_false aa)]
 rfl
namespace Nt
theorem cmp_sg (s t : Bool) (N M : Nat) : cmpS (sg s N) (sg t M) = if decide (cmpS (sg s N) 0 < cmpS (sg t M) 0) = true then -1 else if decide (cmpS (sg t M) 0 < cmpS (sg s N) 0) = true then 1 else if (cmpS (sg s N) 0 == -1) = true then cmpS (M : Int) (N : Int) else cmpS (N : Int) (M : Int) := by
 rcases cmp_range (sg s N) 0 with ⟨e, h⟩ | ⟨e, h⟩ | ⟨e, h⟩ <;> rcases cmp_range (sg t M) 0 with ⟨e', h'⟩ | ⟨e', h'⟩ | ⟨e', h'⟩ <;> rw [e, e'] <;> simp
 ·unfold sg at *; cases s <;> cases t <;> simp at h h' ⊢ <;> unfold cmpS <;> (repeat' split) <;> first | rfl | omega
 ·exact cmp_lt xq
 ·exact cmp_lt xq
 ·exact cmp_gt xq
 ·rw [h, h']; unfold sg at *; cases s <;> cases t <;> simp at h h' <;> rw [h, h'] <;> rfl
 ·exact cmp_lt xq
 ·exact cmp_gt xq
 ·exact cmp_gt xq
 unfold sg at *; cases s <;> cases t <;> simp at h h' ⊢ <;> first | rfl | omega
end Nt
theorem k_intCompare {u w : World} {i1 : IL} {zN : Int} {K : Nat} {i2 : IL} {zM : Int} {L : Nat} (d : Dat u w) (hi1 : IntV u i1 zN K) (hi2 : IntV u i2 zM L)  : qyc 146 #[i1.v, i2.v] w (Post u w fun v u' => v = .int .i64 (Nt.cmpS zN zM)) := by
 obtain ⟨N, hN, hzN⟩ := hi1
 obtain ⟨M, hM, hzM⟩ := hi2
 refine zzm Tryz.func146 rfl Tryz.ntmps146 Tryz.results146 d ?_
 refine sq9 (zzk 2 ⟨30, i1.cs⟩ (zzk 3 ⟨30, i2.cs⟩ (zza 4 (zI 0) (zzb (zzd (zzz [0, 1, 0, 7, 15, 31] [(0, []), (2, []), (1, []), (3, []), (4, []), (5, [])] xj xj (zzi 7 (.v (i1.v)) ty30 zze (zzi 9 (.v (i2.v)) ty30 zze (zzg 8 147 _ fun _ _ ae ak => qym (k_intSign ak (IntV.same (s := i1.s) (hN.ext ae))) ?_)))))))))
 rintro _ u12 ag rfl
 refine zzg 10 147 _ fun _ _ af am => qym (k_intSign am (IntV.same (s := i2.s) (hM.ext (ae.t (ag.t af))))) ?_
 rintro _ u16 ah rfl
 refine zza 5 (zI (Nt.cmpS (Nt.sg i1.s N) 0)) (zza 6 (zI (Nt.cmpS (Nt.sg i2.s M) 0)) (zzb (zzd (zzt (sq9 (zza 12 (zI (Nt.cmpS (Nt.sg i1.s N) 0)) (zza 13 (zI (Nt.cmpS (Nt.sg i2.s M) 0)) (zza 14 (zB (decide ((Nt.cmpS (Nt.sg i1.s N) 0) < (Nt.cmpS (Nt.sg i2.s M) 0)))) (zza 11 (zB (decide ((Nt.cmpS (Nt.sg i1.s N) 0) < (Nt.cmpS (Nt.sg i2.s M) 0)))) (zzb (zzu (b := decide ((Nt.cmpS (Nt.sg i1.s N) 0) < (Nt.cmpS (Nt.sg i2.s M) 0))) xj (fun aa => ?_) (fun aa => ?_))))))))))))
 ·have qhb19 := qyt aa
  refine sq9 (zza 4 (zI (-1)) (zzb (zzo (zyu (zzw (ret0 [.int .i64 (-1)] ⟨zzq, trivial⟩ fun u20 e21 => ?_))))))
  show _ = _
  rw [hzN, hzM, Nt.cmp_sg, if_pos aa]
  rfl
 have qhb19 := qyf aa
 refine sq9 (zza 16 (zI (Nt.cmpS (Nt.sg i1.s N) 0)) (zza 17 (zI (Nt.cmpS (Nt.sg i2.s M) 0)) (zza 18 (zB (decide ((Nt.cmpS (Nt.sg i2.s M) 0) < (Nt.cmpS (Nt.sg i1.s N) 0)))) (zza 15 (zB (decide ((Nt.cmpS (Nt.sg i2.s M) 0) < (Nt.cmpS (Nt.sg i1.s N) 0)))) (zzb (zzu (b := decide ((Nt.cmpS (Nt.sg i2.s M) 0) < (Nt.cmpS (Nt.sg i1.s N) 0))) xj (fun ac => ?_) (fun ac => ?_)))))))
 ·have qhb22 := qyt ac
  refine sq9 (zza 4 (zI 1) (zzb (zzo (zyu (zzw (ret0 [.int .i64 1] ⟨zzq, trivial⟩ fun u23 e24 => ?_))))))
  show _ = _
  rw [hzN, hzM, Nt.cmp_sg, if_neg (ne_true_of_eq_false aa), if_pos ac]
  rfl
 have qhb22 := qyf ac
 refine sq9 (zza 20 (zI (Nt.cmpS (Nt.sg i1.s N) 0)) (zza 21 (zB ((Nt.cmpS (Nt.sg i1.s N) 0) == (-1))) (zza 19 (zB ((Nt.cmpS (Nt.sg i1.s N) 0) == (-1))) (zzb (zzu (b := (Nt.cmpS (Nt.sg i1.s N) 0) == (-1)) xj (fun ad => ?_) (fun ad => ?_))))))
 ·refine sq9 (zza 22 (.adr 3 1) (zzi 23 (.v (i2.m.v)) ty28 zzl (zza 24 (.adr 2 1) (zzi 25 (.v (i1.m.v)) ty28 zzl (zzg 26 166 _ fun _ _ ai al => qym (k_natCompare al (hM.ext (ae.t (ag.t (af.t (ah.t ai))))) (hN.ext (ae.t (ag.t (af.t (ah.t ai)))))) ?_)))))
  rintro _ u27 g28 rfl
  refine zza 4 (zI (Nt.cmpS M N)) (zzb (zzo (zyu (zzw (ret0 [.int .i64 (Nt.cmpS M N)] ⟨zzq, trivial⟩ fun u30 e31 => ?_)))))
  show _ = _
  rw [hzN, hzM, Nt.cmp_sg, if_neg (ne_true_of_eq_false aa), if_neg (ne_true_of_eq_false ac), if_pos ad]
  rfl
 refine zzs (zzp ?_)
 refine sq9 (zza 27 (.adr 2 1) (zzi 28 (.v (i1.m.v)) ty28 zzl (zza 29 (.adr 3 1) (zzi 30 (.v (i2.m.v)) ty28 zzl (zzg 31 166 _ fun _ _ aj an => qym (k_natCompare an (hN.ext (ae.t (ag.t (af.t (ah.t aj))))) (hM.ext (ae.t (ag.t (af.t (ah.t aj)))))) ?_)))))
 rintro _ u33 g34 rfl
 refine zza 4 (zI (Nt.cmpS N M)) (zzb (zzo (ret0 [.int .i64 (Nt.cmpS N M)] ⟨zzq, trivial⟩ fun u36 e37 => ?_)))
 show _ = _
 rw [hzN, hzM, Nt.cmp_sg, if_neg (ne_true_of_eq_false aa), if_neg (ne_true_of_eq_false ac), if_neg (ne_true_of_eq_false ad)]
 rfl
theorem k_intOf {u w : World} {z : Int} (d : Dat u w) (h0 : -9223372036854775808 ≤ z) (h1 : z ≤ 9223372036854775807) : qyc 140 #[.int .i64 z] w (Post u w fun v u' => ∃ i : IL, v = i.v ∧ IntN u' i z 2) := by
 by_cases hneg : z < 0
 ·refine zzm Tryz.func140 rfl Tryz.ntmps140 Tryz.results140 d ?_
  refine sq9 (zzk 2 ⟨30, [.bool false, qyn]⟩ (zzb (sq9 (zza 4 (zI z) (zyq 5 (x := .v (.int .u64 (IntKind.u64.wrap z))) (.v (.int .u64 (z + 18446744073709551616))) (by rw [show (IntKind.u64.wrap z) = (z + 18446744073709551616) from (by simp [IntKind.wrap, IntKind.bits, IntKind.signed]; omega)]) (zza 3 (.v (.int .u64 (z + 18446744073709551616))) (zzb (zzd (sq9 (zza 6 (zI z) (zyq 7 (x := zB (decide (z < 0))) (zB true) (by rw [show (decide (z < 0)) = true from yw]) ?_)))))))))))
  refine zzb (zyr xj (zzf (zza 8 (.v (.int .u64 (z + 18446744073709551616))) (zyq 9 (x := .v (.int .u64 (IntKind.u64.wrap (0 - (z + 18446744073709551616))))) (.v (.int .u64 (-z))) (by rw [show (IntKind.u64.wrap (0 - (z + 18446744073709551616))) = (-z) from (by simp [IntKind.wrap, IntKind.bits, IntKind.signed]; omega)]) (zza 3 (.v (.int .u64 (-z))) (zzb (sq9 (zza 10 (zI z) (zyq 11 (x := zB (decide (z < 0))) (zB true) (by rw [show (decide (z < 0)) = true from yw]) (zza 12 (.v (.int .u64 (-z))) (zyq 13 (x := .v (.int .u32 (IntKind.u32.wrap (-z)))) (.v (.int .u32 ((-z) % 4294967296))) (by rw [show (IntKind.u32.wrap (-z)) = ((-z) % 4294967296) from (IntKind.wrap_u32 _)]) ?_)))))))))))
  refine zza 14 (.v (.int .u64 (-z))) (zyq 15 (x := .v (.int .u64 (Int.fdiv (-z) (2 ^ 32)))) (.v (.int .u64 ((-z) / 4294967296))) (by rw [show (Int.fdiv (-z) (2 ^ 32)) = ((-z) / 4294967296) from (by rw [Int.fdiv_eq_ediv_of_nonneg _ yv]; rfl)]) (zyq 16 (x := .v (.int .u32 (IntKind.u32.wrap ((-z) / 4294967296)))) (.v (.int .u32 ((-z) / 4294967296))) (by rw [show (IntKind.u32.wrap ((-z) / 4294967296)) = ((-z) / 4294967296) from (IntWalk.u32_in _ xq)]) (zxx 17 ⟨133, [.int .u32 ((-z) % 4294967296), .int .u32 ((-z) / 4294967296)]⟩ 2 (fun al an ar ai => ?_))))
  refine zzg 18 194 [.slice (some ⟨al, 0, none⟩) 2 2] ?_
  intro w15 u15 ac ag
  have k20 := k_natTrim ag ((two_data (N := z.natAbs) ai xq xq xq).ext ac) xq
  with_reducible refine zPm k20 ?_
  rintro _ am aq ⟨ak, rfl, ae⟩
  refine zzg 19 193 [.bool true, ak.v] ?_
  intro w21 u21 af aj
  have k26 := k_signed aj (s := true) (ae.ext af)
  with_reducible refine zPm k26 ?_
  rintro _ ap ao ⟨aa, rfl, ah⟩
  refine zzj ⟨30, aa.cs⟩ ty30 ?_
  refine zzb (zzo (ret0 [aa.v] ⟨zzr ty30 zze, trivial⟩ fun au ad => ?_))
  refine ⟨aa, rfl, IntN.more (K := 2) ?_ xq⟩
  have e : z = Nt.sg true z.natAbs := by unfold Nt.sg; simp; omega
  rw [e]
  exact (ah.ext ad)
 refine zzm Tryz.func140 rfl Tryz.ntmps140 Tryz.results140 d ?_
 refine sq9 (zzk 2 ⟨30, [.bool false, qyn]⟩ (zzb (sq9 (zza 4 (zI z) (zyq 5 (x := .v (.int .u64 (IntKind.u64.wrap z))) (.v (.int .u64 (z))) (by rw [show (IntKind.u64.wrap z) = z from (by simp [IntKind.wrap, IntKind.bits, IntKind.signed]; omega)]) (zza 3 (.v (.int .u64 z)) (zzb (zzd (sq9 (zza 6 (zI z) (zyq 7 (x := zB (decide (z < 0))) (zB false) (by rw [show (decide (z < 0)) = false from yw]) ?_)))))))))))
 refine zzb (zys xj (zzs (zzp ?_)))
 refine sq9 (zza 10 (zI z) (zyq 11 (x := zB (decide (z < 0))) (zB false) (by rw [show (decide (z < 0)) = false from yw]) (zza 12 (.v (.int .u64 z)) (zyq 13 (x := .v (.int .u32 (IntKind.u32.wrap (z)))) (.v (.int .u32 ((z) % 4294967296))) (by rw [show (IntKind.u32.wrap (z)) = ((z) % 4294967296) from (IntKind.wrap_u32 _)]) (zza 14 (.v (.int .u64 z)) (zyq 15 (x := .v (.int .u64 (Int.fdiv (z) (2 ^ 32)))) (.v (.int .u64 ((z) / 4294967296))) (by rw [show (Int.fdiv (z) (2 ^ 32)) = ((z) / 4294967296) from (by rw [Int.fdiv_eq_ediv_of_nonneg _ yv]; rfl)]) (zyq 16 (x := .v (.int .u32 (IntKind.u32.wrap ((z) / 4294967296)))) (.v (.int .u32 ((z) / 4294967296))) (by rw [show (IntKind.u32.wrap ((z) / 4294967296)) = ((z) / 4294967296) from (IntWalk.u32_in _ xq)]) (zxx 17 ⟨133, [.int .u32 ((z) % 4294967296), .int .u32 ((z) / 4294967296)]⟩ 2 (fun al an ar ai => ?_)))))))))
 refine zzg 18 194 _ fun _ _ ac ag => qym (k_natTrim ag ((two_data (N := z.natAbs) ai xq xq xq).ext ac) xq) ?_
 rintro _ am aq ⟨ak, rfl, ae⟩
 refine zzg 19 193 _ fun _ _ af aj => qym (k_signed aj (s := false) (ae.ext af)) ?_
 rintro _ ap ao ⟨aa, rfl, ah⟩
 refine zzj ⟨30, aa.cs⟩ ty30 ?_
 refine zzb (zzo (ret0 [aa.v] ⟨zzr ty30 zze, trivial⟩ fun au ad => ?_))
 refine ⟨aa, rfl, IntN.more (K := 2) ?_ xq⟩
 have e : z = Nt.sg false z.natAbs := by unfold Nt.sg; simp; omega
 rw [e]
 exact (ah.ext ad)
end Go.Proofs.YtgmkhhfbckjaeaaGreat
