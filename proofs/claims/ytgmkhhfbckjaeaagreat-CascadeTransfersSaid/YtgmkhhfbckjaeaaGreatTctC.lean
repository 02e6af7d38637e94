/- Parts of the proof: contracts of functions, each walked once, and plain laws. -/
import Derived.Test.YtgmkhhfbckjaeaaGreatTctB
import Derived.ArgAppend
import Derived.Laws.StructEq
import Derived.ChangeKeysEq
import Derived.Test.YtgmkhhfbckjaeaaGreatProg
import Derived.KernelRfl
set_option linter.unusedVariables false
namespace Go.Proofs.YtgmkhhfbckjaeaaGreat
namespace Nt
def Wh (x : Rat) (C : Nat) : Prop := ∃ z : Int, x = (z : Rat) ∧ z.natAbs ≤ 2 ^ C
def WhL (l : List Rat) (C : Nat) : Prop := ∀ i, Wh (co l i) C
def dg (C : Nat) : Nat := C / 32 + 1
theorem dg_mono {A C : Nat} (h : A ≤ C) : dg A ≤ dg C := by unfold dg; omega
theorem Wh.more {x : Rat} {A C : Nat} (h : Wh x A) (k : A ≤ C) : Wh x C := by
 obtain ⟨z, e, b⟩ := h
 exact ⟨z, e, Nat.le_trans b (Nat.pow_le_pow_right xq k)⟩
theorem Wh.zero (C : Nat) : Wh 0 C := ⟨0, rfl, Nat.zero_le _⟩
theorem Wh.mul {x y : Rat} {A B : Nat} (h : Wh x A) (k : Wh y B) : Wh (x * y) (A + B) := by
 obtain ⟨z, rfl, b⟩ := h
 obtain ⟨v, rfl, c⟩ := k
 exact ⟨z * v, by rw [Rat.intCast_mul], by rw [Int.natAbs_mul, Nat.pow_add]; exact Nat.mul_le_mul b c⟩
theorem Wh.add {x y : Rat} {A : Nat} (h : Wh x A) (k : Wh y A) : Wh (x + y) (A + 1) := by
 obtain ⟨z, rfl, b⟩ := h
 obtain ⟨v, rfl, c⟩ := k
 exact ⟨z + v, by rw [Rat.intCast_add], by rw [Nat.pow_succ]; omega⟩
theorem pwTwo (k : Nat) : pw k = ((2 ^ (32 * k) : Nat) : Int) := by
 induction k with
 | zero => rfl
 | succ k ih =>
  rw [show 32 * (k + 1) = 32 * k + 32 by omega, Nat.pow_add, Int.natCast_mul, ← ih]
  show 4294967296 * pw k = _
  rw [Int.mul_comm]; rfl
def mulN (n : Nat) (l : List Rat) (q : Rat) : List Rat := (List.range l.length).map fun i => if i < n then co l i * q else co l i
@[simp] theorem mulN_len (n : Nat) (l : List Rat) (q : Rat) : (mulN n l q).length = l.length := by simp [mulN]
theorem list_ext {l m : List Rat} (hl : l.length = m.length) (h : ∀ i, co l i = co m i) : l = m := by
 apply List.ext_getElem? 
 intro i
 have := h i
 unfold co at this
 rw [List.getD_eq_getElem?_getD, List.getD_eq_getElem?_getD] at this
 by_cases hi : i < l.length
 ·rw [List.getElem?_eq_getElem hi, List.getElem?_eq_getElem xq] at this ⊢
  simpa using this
 rw [List.getElem?_eq_none xq, List.getElem?_eq_none xq]
def subN (a : Nat) (c : Rat) (q t : List Rat) : Nat → List Rat
 | 0 => t
 | j + 1 => (subN a c q t j).set (a + j) ((subN a c q t j).getD (a + j) 0 - c * q.getD j 0)
@[simp] theorem subN_len (a : Nat) (c : Rat) (q t : List Rat) (j : Nat) : (subN a c q t j).length = t.length := by
 induction j with
 | zero => rfl
 | succ j ih => simp [subN, ih]
structure DivR (p q s t : List Rat) (f : Rat) : Prop where
 f0 : f ≠ 0
 eq : ∀ i, f * co p i = co (mulQ s q) i + co t i
 lt : t.length < q.length
 tl : t.length ≤ p.length
 sl : s.length ≤ p.length + 1
end Nt
section
open Go.RowKit
variable {u u' : World} {L : List RL} {X : List Value} {r : RL} {i : Nat} {l : List Rat} {K C : Nat}
theorem part_rcsX (h : i < L.length) {off : Nat} (ho : off = i * 3) : PartIs (rcs L ++ X) off true 3 (.v (L.getD i rl0).v) := by
 have h1 := part_rcs h ho
 have h2 := zyy (L := L)
 refine ⟨by rw [List.length_append]; have := h1.1; omega, ?_⟩
 rw [List.drop_append_of_le_length xq, List.take_append_of_le_length (by rw [List.length_drop]; omega)]
 exact h1.2
theorem setL_rcsX (h : i < L.length) {off : Nat} (ho : off = i * 3) : setL (rcs L ++ X) off r.v.cells.toList = rcs (L.set i r) ++ X := by
 have h1 := zyx (r := r) h ho
 have h2 := zyy (L := L)
 rw [← h1]
 unfold setL
 have e : r.v.cells.toList.length = 3 := rfl
 rw [e, List.take_append_of_le_length xq, List.drop_append_of_le_length xq]
 simp
end
namespace Nt
structure Pol where
 l : List Rat
 h : Nrm l
namespace Pol
def mk' (l : List Rat) : Pol := ⟨trimQ l, trim_nrm l⟩
def c (p : Pol) (i : Nat) : Rat := co p.l i
theorem mk_c (l : List Rat) (i : Nat) : (mk' l).c i = co l i := trim_co l i
theorem ext {p q : Pol} (h : ∀ i, p.c i = q.c i) : p = q := by
 obtain ⟨l, hl⟩ := p
 obtain ⟨m, hm⟩ := q
 have e : trimQ l = trimQ m := trim_ext h
 unfold Nrm at hl hm
 rw [hl, hm] at e
 subst e; rfl
theorem mk_l (p : Pol) : mk' p.l = p := ext fun i => mk_c _ i
def C (a : Rat) : Pol := mk' [a]
instance (n : Nat) : OfNat Pol n := ⟨C (n : Rat)⟩
instance : Add Pol := ⟨fun p q => mk' (addQ p.l q.l)⟩
instance : Mul Pol := ⟨fun p q => mk' (mulQ p.l q.l)⟩
instance : Neg Pol := ⟨fun p => mk' (negQ p.l)⟩
instance : Sub Pol := ⟨fun p q => p + -q⟩
def X : Pol := mk' [0, 1]
theorem c_add (p q : Pol) (i : Nat) : (p + q).c i = p.c i + q.c i := (mk_c _ i).trans (addQ_co _ _ i)
theorem c_neg (p : Pol) (i : Nat) : (-p).c i = -p.c i := (mk_c _ i).trans (negQ_co _ i)
theorem c_C (a : Rat) (i : Nat) : (C a).c i = if i = 0 then a else 0 := by
 unfold C
 rw [mk_c]
 cases i with
 | zero => rfl
 | succ i => rw [zxw, co_nil, if_neg xq]
theorem c_zero (i : Nat) : (0 : Pol).c i = 0 := by
 have h : (0 : Pol).c i = if i = 0 then (0 : Rat) else 0 := c_C 0 i
 rw [h]; split <;> rfl
theorem zero_l : (0 : Pol).l = [] := zwa.2 fun i => by
 have := c_zero i
 unfold c at this
 show co [((0 : Nat) : Rat)] i = 0
 rw [← trim_co]; exact this
theorem c_mul (p q : Pol) (i : Nat) : (p * q).c i = co (mulQ p.l q.l) i := mk_c _ i
theorem mk_cons (a : Rat) (l : List Rat) (i : Nat) : (mk' (a :: l)).c i = if i = 0 then a else (mk' l).c (i - 1) := by
 rw [mk_c]
 cases i with
 | zero => rfl
 | succ i => rw [zxw, if_neg xq, mk_c]; rfl
theorem mulQ_consR (l : List Rat) (b : Rat) (m : List Rat) (k : Nat) : co (mulQ l (b :: m)) k = b * co l k + sh (co (mulQ l m)) k := by
 induction l generalizing k with
 | nil =>
  rw [mulQ_nil, co_nil]
  have e : sh (co (mulQ [] m)) k = 0 := by unfold sh; split <;> rfl
  rw [e]; grind
 | cons a l ih =>
  rw [zxe]
  cases k with
  | zero => unfold sh; rw [if_pos rfl, if_pos rfl, co_zero, co_zero]; grind
  | succ k =>
   have e1 : sh (co (mulQ l (b :: m))) (k + 1) = b * co l k + sh (co (mulQ l m)) k := by
    unfold sh; rw [if_neg xq, Nat.add_sub_cancel]; exact ih k
   have e2 : sh (co (mulQ (a :: l) m)) (k + 1) = a * co m k + sh (co (mulQ l m)) k := by
    unfold sh; rw [if_neg xq, Nat.add_sub_cancel]; exact zxe a l m k
   rw [e1, e2, zxw, zxw]; grind
theorem mulQ_comm (l m : List Rat) (k : Nat) : co (mulQ l m) k = co (mulQ m l) k := by
 induction l generalizing k with
 | nil =>
  rw [mulQ_nil]
  exact (mulQ_zero_r (m := []) (fun i => co_nil i) m k).symm
 | cons a l ih =>
  rw [zxe, mulQ_consR]
  have e : sh (co (mulQ l m)) k = sh (co (mulQ m l)) k := by unfold sh; split; rfl; exact ih _
  rw [e]
theorem mulQ_add (l l' m : List Rat) (k : Nat) : co (mulQ (addQ l l') m) k = co (mulQ l m) k + co (mulQ l' m) k := by
 induction m generalizing k with
 | nil =>
  rw [mulQ_zero_r (fun i => co_nil i), mulQ_zero_r (fun i => co_nil i), mulQ_zero_r (fun i => co_nil i)]; exact (Rat.add_zero 0).symm
 | cons b m ih =>
  rw [mulQ_consR, mulQ_consR, mulQ_consR, addQ_co]
  cases k with
  | zero => unfold sh; rw [if_pos rfl, if_pos rfl, if_pos rfl]; grind
  | succ k =>
   have e : ∀ x : List Rat, sh (co x) (k + 1) = co x k := fun x => by unfold sh; rw [if_neg xq, Nat.add_sub_cancel]
   rw [e, e, e, ih k]; grind
theorem mulQ_assoc (l m n : List Rat) (k : Nat) : co (mulQ (mulQ l m) n) k = co (mulQ l (mulQ m n)) k := by
 induction l generalizing k with
 | nil => rfl
 | cons a l ih =>
  show co (mulQ (addQ (m.map (a * ·)) (0 :: mulQ l m)) n) k = _
  rw [mulQ_add, mulQ_scale_l, zxe, zxe]
  cases k with
  | zero => unfold sh; rw [if_pos rfl, if_pos rfl]; grind
  | succ k =>
   have e : ∀ x : List Rat, sh (co x) (k + 1) = co x k := fun x => by unfold sh; rw [if_neg xq, Nat.add_sub_cancel]
   rw [e, e, ih k]; grind
theorem mulQ_one (m : List Rat) (k : Nat) : co (mulQ [1] m) k = co m k := by
 rw [zxe]
 have e : sh (co (mulQ [] m)) k = 0 := by unfold sh; split <;> rfl
 rw [e]; grind
theorem mul_comm (p q : Pol) : p * q = q * p := ext fun i => by rw [c_mul, c_mul, mulQ_comm]
theorem mul_assoc (p q r : Pol) : p * q * r = p * (q * r) := ext fun i => by
 rw [c_mul, c_mul]
 show co (mulQ (trimQ (mulQ p.l q.l)) r.l) i = co (mulQ p.l (trimQ (mulQ q.l r.l))) i
 rw [zwj (l' := mulQ p.l q.l) (m' := r.l) (trim_co _) (fun _ => rfl), zwj (l' := p.l) (m' := mulQ q.l r.l) (fun _ => rfl) (trim_co _)]
 exact mulQ_assoc _ _ _ i
theorem one_mul (p : Pol) : 1 * p = p := ext fun i => by
 rw [c_mul]
 show co (mulQ (trimQ [((1 : Nat) : Rat)]) p.l) i = _
 rw [zwj (l' := [((1 : Nat) : Rat)]) (m' := p.l) (trim_co _) (fun _ => rfl)]
 exact mulQ_one _ i
theorem right_distrib (p q r : Pol) : (p + q) * r = p * r + q * r := ext fun i => by
 rw [c_mul, c_add, c_mul, c_mul]
 show co (mulQ (trimQ (addQ p.l q.l)) r.l) i = _
 rw [zwj (l' := addQ p.l q.l) (m' := r.l) (trim_co _) (fun _ => rfl)]
 exact mulQ_add _ _ _ i
theorem add_comm (p q : Pol) : p + q = q + p := ext fun i => by rw [c_add, c_add]; grind
theorem add_assoc (p q r : Pol) : p + q + r = p + (q + r) := ext fun i => by rw [c_add, c_add, c_add, c_add]; grind
theorem add_zero (p : Pol) : p + 0 = p := ext fun i => by rw [c_add, c_zero]; grind
theorem neg_add_cancel (p : Pol) : -p + p = 0 := ext fun i => by rw [c_add, c_neg, c_zero]; grind
theorem zero_mul (p : Pol) : 0 * p = 0 := ext fun i => by rw [c_mul, zero_l, mulQ_nil, c_zero]
theorem left_distrib (p q r : Pol) : p * (q + r) = p * q + p * r := by rw [mul_comm, right_distrib, mul_comm q, mul_comm r]
theorem mul_zero (p : Pol) : p * 0 = 0 := by rw [mul_comm, zero_mul]
theorem mul_one (p : Pol) : p * 1 = p := by rw [mul_comm, one_mul]
instance : NatCast Pol := ⟨fun n => C (n : Rat)⟩
instance : IntCast Pol := ⟨fun n => C (n : Rat)⟩
def npow (p : Pol) : Nat → Pol
 | 0 => 1
 | n + 1 => npow p n * p
instance : HPow Pol Nat Pol := ⟨npow⟩
instance : SMul Nat Pol := ⟨fun n p => C (n : Rat) * p⟩
instance : SMul Int Pol := ⟨fun n p => C (n : Rat) * p⟩
theorem C_add (a b : Rat) : C (a + b) = C a + C b := ext fun i => by
 rw [c_add, c_C, c_C, c_C]; split <;> grind
theorem C_neg (a : Rat) : C (-a) = -C a := ext fun i => by
 rw [c_neg, c_C, c_C]; split <;> grind
instance : Lean.Grind.CommRing Pol where
 add_zero := add_zero
 add_comm := add_comm
 add_assoc := add_assoc
 mul_assoc := mul_assoc
 mul_one := mul_one
 one_mul := one_mul
 left_distrib := left_distrib
 right_distrib := right_distrib
 zero_mul := zero_mul
 mul_zero := mul_zero
 mul_comm := mul_comm
 pow_zero := fun p => rfl
 pow_succ := fun p n => rfl
 neg_add_cancel := neg_add_cancel
 sub_eq_add_neg := fun p q => rfl
 ofNat_succ := fun n => by
  show C ((n + 1 : Nat) : Rat) = C (n : Rat) + C 1
  rw [← C_add]; congr 1
  exact Rat.natCast_add n 1
 ofNat_eq_natCast := fun n => rfl
 intCast_ofNat := fun n => rfl
 intCast_neg := fun n => by
  show C ((-n : Int) : Rat) = -C (n : Rat)
  rw [← C_neg, Rat.intCast_neg]
 nsmul_eq_natCast_mul := fun n p => rfl
 zsmul_natCast_eq_nsmul := fun n p => rfl
 neg_zsmul := fun n p => by
  show C ((-n : Int) : Rat) * p = -(C (n : Rat) * p)
  rw [Rat.intCast_neg, C_neg]
  refine ext fun i => ?_
  rw [c_neg, c_mul, c_mul]
  show co (mulQ (trimQ (negQ (C (n : Rat)).l)) p.l) i = _
  rw [zwj (l' := negQ (C (n : Rat)).l) (m' := p.l) (trim_co _) (fun _ => rfl)]
  have e : negQ (C (n : Rat)).l = (C (n : Rat)).l.map ((-1) * ·) := by unfold negQ; congr 1; funext x; grind
  rw [e, mulQ_scale_l]; grind
example (p q : Pol) : (p + q) * (p - q) = p * p - q * q := by grind
example (p q : Pol) : (p + q) ^ 2 = p ^ 2 + 2 * p * q + q ^ 2 := by grind
end Pol
end Nt
namespace Nt
theorem mulQ_far {l m : List Rat} {k : Nat} (h : l.length + m.length ≤ k + 1) : co (mulQ l m) k = 0 := by
 induction l generalizing k with
 | nil => rfl
 | cons a l ih =>
  rw [zxe, co_ge (l := m) (by simp at h; omega)]
  unfold sh
  split
  ·grind
  rw [ih (by simp at h; omega)]; grind
namespace Pol
def len (p : Pol) : Nat := p.l.length
theorem c_ge {p : Pol} {i : Nat} (h : p.len ≤ i) : p.c i = 0 := co_ge h
theorem len_le {p : Pol} {n : Nat} (h : ∀ i, n ≤ i → p.c i = 0) : p.len ≤ n := by
 apply Classical.byContradiction
 intro k
 have h1 : p.l.length > n := by unfold len at k; omega
 have h2 := nrm_last p.h (by intro e; rw [e] at h1; simp at h1)
 exact h2 (h _ xq)
theorem zero_of_len {p : Pol} (h : p.len = 0) : p = 0 := ext fun i => by rw [c_zero, c_ge xq]
instance : Dvd Pol := ⟨fun q p => ∃ u, p = q * u⟩
theorem mk_cons' (a : Rat) (l : List Rat) : mk' (a :: l) = C a + X * mk' l := ext fun i => by
 have hX : ∀ p : Pol, (X * p).c i = if i = 0 then 0 else p.c (i - 1) := fun p => by
  rw [c_mul]
  show co (mulQ (trimQ [0, 1]) p.l) i = _
  rw [zwj (l' := [0, 1]) (m' := p.l) (trim_co _) (fun _ => rfl), zxe]
  unfold sh
  split
  ·grind
  rw [mulQ_one]; show 0 * _ + p.c (i - 1) = _; grind
 rw [c_add, hX, mk_cons, c_C]
 split <;> grind
theorem ind {P : Pol → Prop} (h0 : P 0) (h1 : ∀ a p, P p → P (C a + X * p)) (p : Pol) : P p := by
 rw [← mk_l p]
 generalize p.l = l
 induction l with
 | nil => exact (zero_of_len (p := mk' []) rfl) ▸ h0
 | cons a l ih => rw [mk_cons']; exact h1 a _ ih
def D (p : Pol) : Pol := mk' (derQ p.l)
def evL : List Rat → Rat → Rat
 | [], x => 0
 | a :: l, x => a + x * evL l x
def ev (p : Pol) (x : Rat) : Rat := evL p.l x
end Pol
end Nt
namespace Nt
def prim (l : List Rat) : List Rat := (trimQ l).map (· / msr (trimQ l))
@[simp] theorem prim_len (l : List Rat) : (prim l).length = (trimQ l).length := by simp [prim]
theorem co_mem {l : List Rat} {i : Nat} (h : i < l.length) : co l i ∈ l := by
 unfold co
 rw [List.getD_eq_getElem?_getD, List.getElem?_eq_getElem h]
 exact List.getElem_mem h
end Nt
open Go.RowKit Go.ChangeShapes Go.WideShapes
namespace Nt
def Sm (l : List Rat) (D A : Nat) : Prop := 0 < D ∧ ∀ i, Wh (co l i * ((D : Int) : Rat)) A
section
variable {l m : List Rat} {D E A B K : Nat} {q : Rat}
theorem dz (h : 0 < D) : ((D : Int) : Rat) ≠ 0 := fun e => by
 have := Rat.intCast_inj.1 (show ((D : Int) : Rat) = ((0 : Int) : Rat) from e); omega
theorem Sm.more (h : Sm l D A) (k : A ≤ B) : Sm l D B := ⟨h.1, fun i => (h.2 i).more k⟩
theorem Sm.co (h : Sm l D A) (e : ∀ i, co m i = co l i) : Sm m D A := ⟨h.1, fun i => by rw [e]; exact h.2 i⟩
theorem Sm.trim (h : Sm l D A) : Sm (trimQ l) D A := h.co (trim_co l)
theorem dl_dg {n C : Nat} (h : n ≤ 2 ^ C) : dl n ≤ dg C := by
 refine dl_le ?_
 rw [pwTwo]
 exact Int.ofNat_lt.2 (Nat.lt_of_le_of_lt h (Nat.pow_lt_pow_right xq (by unfold dg; omega)))
theorem wh_rs {x : Rat} (h0 : 0 < D) (h : Wh (x * ((D : Int) : Rat)) A) (hD : D ≤ 2 ^ A) : rs x ≤ dg A := by
 obtain ⟨z, hz, hb⟩ := h
 have h1 := dz h0
 have e : x = mkRat z D := by rw [← mk_div, ← hz]; grind
 rw [e]
 exact rs_mk (dl_dg hb) (dl_dg hD) (by unfold dg; omega)
theorem Sm.rs (h : Sm l D A) (hD : D ≤ 2 ^ A) (i : Nat) : rs (Nt.co l i) ≤ dg A := wh_rs h.1 (h.2 i) hD
theorem WhL.mulQ (h : WhL l A) (k : WhL m B) : WhL (mulQ l m) (A + B + l.length) := by
 induction l with
 | nil => exact fun i => by rw [mulQ_nil]; exact Wh.zero _
 | cons a l ih =>
  intro i
  rw [zxe]
  have h0 : Wh a A := by have := h 0; rwa [co_zero] at this
  have h1 : WhL l A := fun i => by have := h (i + 1); rwa [zxw] at this
  have e : A + B + (a :: l).length = A + B + l.length + 1 := by simp; omega
  rw [e]
  refine ((h0.mul (k i)).more xq).add ?_
  unfold sh
  split
  ·exact Wh.zero _
  exact ih h1 _
theorem Sm.mul (h : Sm l D A) (k : Sm m E B) : Sm (mulQ l m) (D * E) (A + B + l.length) := by
 refine ⟨Nat.mul_pos h.1 k.1, fun i => ?_⟩
 have h1 : WhL (l.map (((D : Int) : Rat) * ·)) A := fun i => by rw [co_map (fun x => ((D : Int) : Rat) * x) (Rat.mul_zero _), Rat.mul_comm]; exact h.2 i
 have h2 : WhL (m.map (((E : Int) : Rat) * ·)) B := fun i => by rw [co_map (fun x => ((E : Int) : Rat) * x) (Rat.mul_zero _), Rat.mul_comm]; exact k.2 i
 have h3 := h1.mulQ h2 i
 rw [mulQ_scale_l, mulQ_scale_r, List.length_map] at h3
 rw [show Nt.co (mulQ l m) i * (((D * E : Nat) : Int) : Rat) = ((D : Int) : Rat) * (((E : Int) : Rat) * Nt.co (mulQ l m) i) by rw [show (((D * E : Nat) : Int) : Rat) = ((D : Int) : Rat) * ((E : Int) : Rat) by rw [← Rat.intCast_mul]; simp]; grind]
 exact h3
theorem Sm.mulR (h : Sm l D A) (k : Sm m E B) : Sm (mulQ l m) (D * E) (A + B + m.length) := by
 have h9 := (k.mul h).co (m := mulQ l m) (fun i => Pol.mulQ_comm l m i)
 rw [Nat.mul_comm D E, Nat.add_comm A B]
 exact h9
theorem Sm.ofAll (hD : 0 < D) (h : ∀ x ∈ l, Wh (x * ((D : Int) : Rat)) A) : Sm l D A := ⟨hD, fun i => by
 by_cases hi : i < l.length
 ·exact h _ (co_mem hi)
 rw [co_ge xq, Rat.zero_mul]; exact Wh.zero _⟩
end
end Nt
section
variable {u : World} {x : Sl} {l : List Rat} {D A K : Nat}
theorem RatsN.fitS {L : List RL} (h : RatsN u L l K) (s : Nt.Sm l D A) (hD : D ≤ 2 ^ A) : RatsN u L l (Nt.dg A) := ⟨h.1, fun i hi => (h.2 i hi).fit (s.rs hD i)⟩
theorem PolN.fitS (h : PolN u x l K) (s : Nt.Sm l D A) (hD : D ≤ 2 ^ A) : PolN u x l (Nt.dg A) := by obtain ⟨L, h1, h2⟩ := h; exact ⟨L, h1, h2.fitS s hD⟩
end
section
variable {H : Type} {enc : TypeId × Value → H} {w : World} {base : Nat} {spare : Nat → Bool} {held : Bool} {r0 : Reach} {b0 : Nat} {v : Value} {d : DataW H} {p : List MemPlace}
set_option maxRecDepth 100000 in
theorem ar_parts2 (hv : Value.okWide Tryz.prog w r0 b0 100 v) (h : DataW.Trod enc Tryz.prog w base spare held 100 v d p) : ∃ (s t : Sl) (l m : List Int), v = .agg #[s.v, t.v] ∧ SlR .i64 w s.a s.n s.c l ∧ (∀ z ∈ l, -9223372036854775808 ≤ z ∧ z ≤ 9223372036854775807) ∧ SlR .i64 w t.a t.n t.c m ∧ (∀ z ∈ m, -9223372036854775808 ≤ z ∧ z ≤ 9223372036854775807) := by
 obtain ⟨cs, rfl, hsz⟩ := okWide_struct Tryz.underlying100 hv
 obtain ⟨fuel, hf⟩ := h
 obtain ⟨xs, n, _, _, hlen, hxs, hf⟩ := DataW.trod_struct Tryz.underlying100 hf
 have hlen : cs.toList.length = 2 := hlen.trans xj
 obtain ⟨c0, c1, hcs⟩ := two_of hlen
 obtain ⟨y0, y1, rfl⟩ := two_of (hxs.trans rfl)
 have hcs : cs.toList = [c0, c1] := hcs
 have e : Tryz.prog.cellsOf 22 = 1 := by kernel_rfl
 change ∀ _, _ at hf
 have h0 : DataW.trod enc Tryz.prog w base spare held n 22 [c0] = some y0 := by have h9 := hf 0 _ rfl; rw [show ((Value.agg cs).cells).toList = [c0, c1] from hcs] at h9; simpa [e] using h9
 have h1 : DataW.trod enc Tryz.prog w base spare held n 22 [c1] = some y1 := by have h9 := hf 1 _ rfl; rw [show ((Value.agg cs).cells).toList = [c0, c1] from hcs] at h9; simpa [e] using h9
 obtain ⟨s, l, hs, g, f⟩ := ar_slr (k := .i64) (e := 3) xj xj xj h0
 obtain ⟨t, m, ht, g', f'⟩ := ar_slr (k := .i64) (e := 3) xj xj xj h1
 have hs : c0 = s.v := (List.cons.inj hs).1
 have ht : c1 = t.v := (List.cons.inj ht).1
 subst hs ht
 have hcs2 : cs = #[s.v, t.v] := by cases cs; simpa using hcs
 exact ⟨s, t, l, m, by rw [hcs2], g, fun z hz => wf_i64 (f z hz), g', fun z hz => wf_i64 (f' z hz)⟩
end
end Go.Proofs.YtgmkhhfbckjaeaaGreat
namespace Go.Proofs.YtgmkhhfbckjaeaaGreat
open Go.RowKit
section
variable {P : Program} {u0 u u' w w' : World} {S : St} {B : Tmp → Nat} {a : Act} {c : Code} {w0 : Base}
variable {ops : Array Oper} {o : Oper} {p : List Tmp} {rest : List (Oper × List Tmp)} {K : St → World → Prop}
theorem sy_appL0 {seq : Bool} (d : Tmp) {T E : TypeId} {s x : Operand} {z : Value} {size bytes : Nat} {m c t2 : Nat} {ty2 : TypeId} (news : List Value) (hT : P.underlying T = some (.slice E)) (hi : (P.info? E).map (fun i => (i.zero, i.size, i.bytes)) = some (some z, size, bytes)) (hzs : z.cells.size = size) (hsz : 0 < size)
  (hl : news.length = m * size) (h1 : ∀ v ∈ news, v.oneCell' = true) (hm : 0 < m) (h63 : m ≤ maxLen) (hbytes : m * bytes ≤ 140737488355328)
  (k : ∀ c1 cs, m ≤ c1 → c1 ≤ maxLen → cs.length = c1 * size → cs.take (m * size) = news → sym P ops w0 u0 seq rest (S.own d ⟨E, cs⟩ m c1) u K)
  (hw : Wants ops o S := by exact zwh xj) (hd : o.dst = some d := by kernel_rfl) (hop : o.op = .call { callee := .builtin .append, args := #[s, x], argTypes := #[T, T] } := by rfl) (hf : (freeB S d && (S.var d).isNone) = true := by kernel_rfl)
  (hs : evO S s = some (.v (.slice none 0 0)) := by rfl) (hx : evO S x = some (.slc t2 0 m c) := by rfl) (hv2 : S.var t2 = some ⟨ty2, news⟩ := by rfl) : sym P ops w0 u0 seq ((o, p) :: rest) S u K := by
 simp only [Bool.and_eq_true, Option.isNone_iff_eq_none] at hf
 refine .inr (.inr (.inl ⟨.inr ⟨by rw [hop]; rfl, by rw [hop]; rfl⟩, fun B a w u' he hrep => ⟨hw B a hrep.regs, ?_⟩⟩))
 obtain ⟨q1, q2, q3⟩ := hrep.var t2 _ hv2
 obtain ⟨g, c1, cs, w', hrun, hgv, k1, k2, k3, k4, k5, k6⟩ := run_app (P := P) (u0 := u0) (w := w) (v := .slice none 0 0) (n := 0) (xs := []) (ad := ⟨B t2, 0, none⟩) (c := c) hT hi hzs hsz ⟨by simp, .inl ⟨rfl, rfl⟩⟩ hl (fun j v hv => by rw [addr_add, Nat.zero_add, cells_at q1]; simpa using hv) h1 hm xq (by simpa using hbytes) (by rw [← hrep.dat.size]; exact hrep.grow.size) o.type
 rw [Nat.zero_add] at hrun k1 k4
 unfold Oper.wp execOp
 simp only [hop, resolve, invoke, builtin, Sem.run_bind, Sem.run_pure, Result.andThen_ok, List.map_toArray, List.map_cons, List.map_nil, ev_of hrep.regs hs, ev_of hrep.regs hx, SV.conc, hrun]
 have hr2 := hrep.grown (pubs := []) (fun r x t _ _ h => by cases h) (row := none) (fun b h => by cases h) k5 (d := d) (V := ⟨E, cs.toList⟩) (g := g) (n := m) (c := c1) (zxz hd hf.1 d hd).1 (.inl hf.2) (by simpa using hgv) (k6.imp (fun h => by cases h) id)
 rw [unpub_nil] at hr2
 have hsz2 : u'.heap.size ≤ w'.heap.size := by rw [hrep.dat.size]; exact k5.size
 show ∃ S' B' u'' u2, Rep w0 u0 S' B' (a.put o.dst _) w' u'' ∧ _
 rw [hd]
 exact ⟨_, _, _, u, hr2, fun _ => (hide_grow hsz2).ext, fun _ => Ext.refl _, he.trans (hide_grow hsz2).ext, k c1 cs.toList k1 k2 k3 (by simpa using k4)⟩
theorem sy_appL1 {seq : Bool} (d : Tmp) {T E : TypeId} {s x : Operand} {z : Value} {size bytes : Nat} {m c t n cap t2 : Nat} {ty2 : TypeId} {cs0 : List Value} (pubs : List Tmp) (news : List Value) (hT : P.underlying T = some (.slice E)) (hi : (P.info? E).map (fun i => (i.zero, i.size, i.bytes)) = some (some z, size, bytes)) (hzs : z.cells.size = size) (hsz : 0 < size)
  (hl : news.length = m * size) (h1 : ∀ v ∈ news, v.oneCell' = true) (hm : 0 < m) (h63 : n + m ≤ maxLen) (hbytes : (n + m) * bytes ≤ 140737488355328)
  (hn : n ≤ cap) (hcap : cap ≤ maxLen) (hcl : cs0.length = cap * size) (hno : NoAt S pubs)
  (k : ∀ c1 cs, n + m ≤ c1 → c1 ≤ maxLen → cs.length = c1 * size → cs.take ((n + m) * size) = cs0.take (n * size) ++ news → sym P ops w0 u0 seq rest ((S.unpub pubs).own d ⟨E, cs⟩ (n + m) c1) u K)
  (hw : Wants ops o S := by exact zwh xj) (hd : o.dst = some d := by kernel_rfl) (hop : o.op = .call { callee := .builtin .append, args := #[s, x], argTypes := #[T, T] } := by rfl) (hf : (Nat.blt d S.n && ((S.var d).isNone || pubs.contains d) && pubs.contains t && Nat.blt t S.n) = true := by kernel_rfl)
  (hs : evO S s = some (.slc t 0 n cap) := by rfl) (hv : S.var t = some ⟨E, cs0⟩ := by rfl) (hx : evO S x = some (.slc t2 0 m c) := by rfl) (hv2 : S.var t2 = some ⟨ty2, news⟩ := by rfl) : sym P ops w0 u0 seq ((o, p) :: rest) S u K := by
 simp only [Bool.and_eq_true, Bool.or_eq_true, Option.isNone_iff_eq_none, List.contains_iff_mem] at hf
 refine .inr (.inr (.inl ⟨.inr ⟨by rw [hop]; rfl, by rw [hop]; rfl⟩, fun B a w u' he hrep => ⟨hw B a hrep.regs, ?_⟩⟩))
 have htn : t < S.n := Nat.le_of_ble_eq_true hf.2
 obtain ⟨v1, v2, v3⟩ := hrep.var t _ hv
 obtain ⟨q1, q2, q3⟩ := hrep.var t2 _ hv2
 have v3 := v3.1 htn
 obtain ⟨g, c1, cs, w', hrun, hgv, k1, k2, k3, k4, k5, k6⟩ := run_app (P := P) (u0 := u0) (w := w) (v := .slice (some ⟨B t, 0, none⟩) n cap) (n := n) (xs := cs0.take (n * size)) (ad := ⟨B t2, 0, none⟩) (c := c) hT hi hzs hsz
  ⟨by rw [List.length_take, hcl]; exact Nat.min_eq_left (Nat.mul_le_mul_right _ hn), .inr ⟨B t, cap, cs0.toArray, rfl, v3, v1, hn, hcap, by simpa using hcl, by simp⟩⟩ hl (fun j v hv => by rw [addr_add, Nat.zero_add, cells_at q1]; simpa using hv) h1 hm h63 hbytes (by rw [← hrep.dat.size]; exact hrep.grow.size) o.type
 unfold Oper.wp execOp
 simp only [hop, resolve, invoke, builtin, Sem.run_bind, Sem.run_pure, Result.andThen_ok, List.map_toArray, List.map_cons, List.map_nil, ev_of hrep.regs hs, ev_of hrep.regs hx, SV.conc, hrun]
 have hr2 := hrep.grown hno (row := some (B t)) (fun b h => by injection h with h; exact ⟨t, hf.1.2, htn, _, hv, h⟩) k5 (d := d) (V := ⟨E, cs.toList⟩) (g := g) (n := n + m) (c := c1) (Nat.le_of_ble_eq_true hf.1.1.1) hf.1.1.2 (by simpa using hgv) k6
 have aa : u'.heap.size ≤ w'.heap.size := by rw [hrep.dat.size]; exact k5.size
 show ∃ S' B' u'' u2, Rep w0 u0 S' B' (a.put o.dst _) w' u'' ∧ _
 rw [hd]
 exact ⟨_, _, _, u, hr2, fun _ => (hide_grow aa).ext, fun _ => Ext.refl _, he.trans (hide_grow aa).ext, k c1 cs.toList k1 k2 k3 k4⟩
theorem sy_max0 (d : Tmp) {x : Operand} {k0 : IntKind} {n v : Int} {tys : Array TypeId} (hv : (if (0 : Int) > n then 0 else n) = v)
  (k : sym P ops w0 u0 true rest (S.set d (.v (.int k0 v))) u K)
  (hw : Wants ops o S := by exact zwh xj) (hd : o.dst = some d := by kernel_rfl) (hop : o.op = .call { callee := .builtin .max, args := #[x, .const (.int k0 0)], argTypes := tys } := by rfl) (hf : freeB S d = true := by kernel_rfl)
  (hx : evO S x = some (.v (.int k0 n)) := by rfl) : sym P ops w0 u0 true ((o, p) :: rest) S u K := by
 refine .inr (.inr (.inl ⟨.inl rfl, fun B a w u' he hrep => ⟨hw B a hrep.regs, ?_⟩⟩))
 have hrun : ∀ ty w, (Builtin.max_ tys ty #[.int k0 n, .int k0 0]).run P w = .ok (.int k0 v) w := by
  intro ty w
  rw [← hv]
  rfl
 have hc0 : a.eval (Operand.const (.int k0 0)) = .int k0 0 := rfl
 unfold Oper.wp execOp
 simp only [hop, resolve, invoke, builtin, Sem.run_bind, Sem.run_pure, Result.andThen_ok, List.map_toArray, List.map_cons, List.map_nil, ev_of hrep.regs hx, SV.conc, hc0, hrun]
 have hr2 := hrep.set (d := o.dst) (x := some (.v (.int k0 v))) (v := .int k0 v) (fun s hs => (zxz hd hf s hs).1) (fun z e => by injection e with e; rw [← e]; rfl) (fun z t e ht => by injection e with e; rw [← e] at ht; cases ht)
 show ∃ S' B' u'' u2, Rep w0 u0 S' B' (a.put o.dst _) w u'' ∧ _
 refine ⟨_, B, u', u, hr2, fun _ => Ext.refl _, fun _ => Ext.refl _, he, ?_⟩
 rw [hd]; exact k
end
section
variable {u u' : World} {L : List RL} {l : List Rat} {q : Rat} {r : RL} {K i b n c : Nat} {x : Sl}
theorem spare_of {cs : List Value} (h : cs.take (n * 3) = rcs L) : ∃ X, cs = rcs L ++ X := ⟨cs.drop (n * 3), by rw [← h]; exact (List.take_append_drop _ _).symm⟩
end
section
variable {P : Program} {ops : Array Oper} {w0 : Base} {u0 : World} {S T : St} {B : Tmp → Nat} {a : Act} {w w' u u' : World} {o : Oper} {p : List Tmp} {seq : Bool} {rest : List (Oper × List Tmp)} {K : St → World → Prop}
def SL (P : Program) (w0 : Base) (u0 : World) (ops : Array Oper) (l : List Oper) (S : St) (u : World) (Q : MP) : Prop :=
 ∀ B a w u', Ext u u' → Rep w0 u0 S B a w u' → wpList P ops (fun e a' w' => ∃ S' B' u'', Rep w0 u0 S' B' a' w' u'' ∧ Q.f e S' u'') l a w
theorem sl_key {Q : Exit → Act → World → Prop} (hK : Mono K) (l2 : List Oper) (hQ : ∀ S u, K S u → ∀ B a w, Rep w0 u0 S B a w u → wpList P ops Q l2 a w) :
  ∀ (l : List Oper) (S : St) (B : Tmp → Nat) (a : Act) (w u : World), Rep w0 u0 S B a w u → sym P ops w0 u0 true (l.map fun o => (o, [])) S u K → wpList P ops Q (l ++ l2) a w := by
 intro l
 induction l with
 | nil => intro S B a w u hr h; exact hQ S u h B a w hr
 | cons o l ih =>
  intro S B a w u hr h
  have hs := one_sound (Q := Q) (zwe hK) h (Ext.refl _) hr
  refine wpList_step fun K' hK' => ?_
  have hfin : ∀ a' w', (∃ S' B' u'', Rep w0 u0 S' B' a' w' u'' ∧ (true = false → Ext u u'') ∧ sym P ops w0 u0 true (l.map fun o => (o, [])) S' u'' K) → K' a' w' := by
   rintro a' w' ⟨S', B', u'', g1, _, g3⟩
   exact hK' _ _ (ih S' B' a' w' u'' g1 g3)
  show if Region.wanted o (yielded ops a.tmps) = true then _ else _
  split
  ·rename_i hw
   rw [if_pos hw] at hs
   exact Oper.wp_mono hfin hs
  rename_i hw
  rw [if_neg hw] at hs
  exact hfin _ _ hs
theorem Rep.adopt (hrep : Rep w0 u0 S B a w u') {r k : Tmp} {b n c : Nat} {cs : List Value} {ty : TypeId} (hr : S.reg r = some (.v (.slice (some ⟨b, 0, none⟩) n c))) (hbu : u'.heap[b]? = some (.cells cs.toArray ty (0, 0))) (hb0 : u0.heap.size ≤ b) (hk : S.var k = none) (hkn : k < S.n) :
  Rep w0 u0 ⟨S.n, upd S.reg r (some (.slc k 0 n c)), upd S.var k (some ⟨ty, cs⟩)⟩ (setB B k b) a w (hideB u' b) := by
 have hbw : w.heap[b]? = some (.cells cs.toArray ty (0, 0)) := hrep.dat.ext.cells hbu
 have hlt := zxa hbu
 have hno : ∀ s x, S.reg s = some x → x.at? ≠ some k := fun s x hx hc => by
  obtain ⟨V, hV⟩ := hrep.wf.reg s x k hx hc; rw [hk] at hV; cases hV
 have hBt : ∀ t V, S.var t = some V → B t ≠ b := fun t V hV hc => by
  have := (hrep.var t V hV).2.1
  rw [hc, hbu] at this
  injection this with this
  unfold hidO at this; cases this
 refine ⟨⟨fun s x hx => ?_, hrep.regs.size⟩, ⟨fun s x t hx ht => ?_⟩, hrep.defers, fun t V hV => ?_, fun t t' V1 V2 h1 h2 he => ?_, ⟨by rw [hideB_size]; exact hrep.dat.size, fun b' o hb' hh => ?_⟩, hrep.base, ⟨by rw [hideB_size]; exact hrep.grow.size, fun b' hb' hf' => ?_⟩, hrep.bel⟩
 ·by_cases e1 : s = r
  ·subst e1
   simp only [zxc] at hx
   injection hx with hx
   subst hx
   have := hrep.regs.reg s _ hr
   simpa [SV.conc, setB] using this
  simp only [upd_ne _ _ e1] at hx
  rw [conc_setB (hno s x hx)]
  exact hrep.regs.reg s x hx
 ·show ∃ V, upd S.var k (some ⟨ty, cs⟩) t = some V
  by_cases e2 : t = k
  ·subst e2; exact ⟨_, zxc _ _ _⟩
  rw [upd_ne _ _ e2]
  by_cases e1 : s = r
  ·subst e1
   simp only [zxc] at hx
   injection hx with hx
   subst hx
   injection ht with ht; exact absurd ht.symm e2
  simp only [upd_ne _ _ e1] at hx
  exact hrep.wf.reg s x t hx ht
 ·by_cases e2 : t = k
  ·subst e2
   simp only [zxc] at hV
   injection hV with hV
   subst hV
   rw [show setB B t b t = b by simp [setB]]
   exact ⟨hbw, hideB_eq hlt, .mk0 hkn hb0⟩
  simp only [upd_ne _ _ e2] at hV
  obtain ⟨g1, g2, g3⟩ := hrep.var t V hV
  rw [show setB B k b t = B t by simp [setB, e2]]
  exact ⟨g1, by rw [hideB_ne (hBt t V hV)]; exact g2, g3⟩
 ·by_cases e1 : t = k
  ·by_cases e2 : t' = k
   ·rw [e1, e2]
   simp only [upd_ne _ _ e2] at h2
   simp [setB, e1, e2] at he
   exact absurd he.symm (hBt t' V2 h2)
  simp only [upd_ne _ _ e1] at h1
  by_cases e2 : t' = k
  ·simp [setB, e1, e2] at he
   exact absurd he (hBt t V1 h1)
  simp only [upd_ne _ _ e2] at h2
  simp [setB, e1, e2] at he
  exact hrep.inj t t' V1 V2 h1 h2 he
 ·by_cases e1 : b' = b
  ·subst e1
   rw [hideB_eq hlt] at hb'; injection hb' with hb'; exact absurd hb'.symm hh
  rw [hideB_ne e1] at hb'; exact hrep.dat.vis b' o hb' hh
 rw [hideB_ne xq]; exact hrep.grow.old b' hb' hf'
end
theorem sw_ren {P : Program} {w0 : Base} {u0 u : World} {S : St} {c0 : Code} {Q : MP} {r t : Tmp} {n c : Nat} {V : Vr} (k : Tmp) (pubs : List Tmp) (hno : NoAt S pubs) (hall : (pubs.all fun s => Nat.beq s t || (S.var s).isNone) = true) (hr : S.reg r = some (.slc t 0 n c)) (hv : S.var t = some V) (ht : pubs.contains t = true) (hk : (S.unpub pubs).var k = none)
  (kk : SW P w0 u0 c0 ⟨S.n, upd ((S.unpub pubs).set r (.v (.slice none 0 0))).reg r (some (.slc k 0 n c)), upd (S.unpub pubs).var k (some V)⟩ u Q) (hlt : Nat.blt t S.n = true := by kernel_rfl) (hkn : Nat.blt k S.n = true := by kernel_rfl) : SW P w0 u0 c0 S u Q := by
 intro B a w u' e hrep
 have hm := List.contains_iff_mem.1 ht
 obtain ⟨g1, g2, g3⟩ := hrep.var t V hv
 have hx : Ext u' (pubW u' w [B t]) := pubW_ext hrep.dat
 have hrep2 := hrep.pub hno hm (fun s hs V' hV' => by
  have := List.all_eq_true.1 hall s hs
  simp only [Bool.or_eq_true, Option.isNone_iff_eq_none] at this
  rcases this with h | h
  ·exact Nat.eq_of_beq_eq_true h
  rw [hV'] at h; cases h) hr hv (Nat.le_of_ble_eq_true hlt)
 have hin : (pubW u' w [B t]).heap[B t]? = some (.cells V.cs.toArray V.ty (0, 0)) := by rw [pubW_in zj (zxa g2) hrep.dat.size]; exact g1
 have hex : Ext u' (hideB (pubW u' w [B t]) (B t)) := ⟨by rw [hideB_size]; exact hx.size, fun k' o hk' hh => by
  have hne : k' ≠ B t := by
   rintro rfl
   rw [g2] at hk'; injection hk' with hk'; exact hh hk'.symm
  rw [hideB_ne hne]; exact hx.vis k' o hk' hh⟩
 obtain ⟨B2, h2⟩ : ∃ B2, Rep w0 u0 ⟨S.n, upd ((S.unpub pubs).set r (.v (.slice (some ⟨B t, 0, none⟩) n c))).reg r (some (.slc k 0 n c)), upd (S.unpub pubs).var k (some V)⟩ B2 a w (hideB (pubW u' w [B t]) (B t)) := ⟨_, hrep2.adopt (by simp [St.set, zxc]) hin (g3.1 (Nat.le_of_ble_eq_true hlt)) hk (Nat.le_of_ble_eq_true hkn)⟩
 have hS : (⟨S.n, upd ((S.unpub pubs).set r (.v (.slice (some ⟨B t, 0, none⟩) n c))).reg r (some (.slc k 0 n c)), upd (S.unpub pubs).var k (some V)⟩ : St) = ⟨S.n, upd ((S.unpub pubs).set r (.v (.slice none 0 0))).reg r (some (.slc k 0 n c)), upd (S.unpub pubs).var k (some V)⟩ := by
  congr 1
  funext z
  by_cases e1 : z = r
  ·subst e1; rw [zxc, zxc]
  rw [upd_ne _ _ e1, upd_ne _ _ e1]; simp only [St.set, upd_ne _ _ e1]
 rw [hS] at h2
 exact kk B2 a w _ (e.trans hex) h2
theorem sy_maxN {P : Program} {ops : Array Oper} {w0 : Base} {u0 : World} {S : St} {u : World} {seq : Bool} {o : Oper} {p : List Tmp} {rest : List (Oper × List Tmp)} {K : St → World → Prop} (d : Tmp) {x y : Operand} {k0 : IntKind} {n m v : Int} {tys : Array TypeId} (hv : (if m > n then m else n) = v)
  (k : sym P ops w0 u0 seq rest (S.set d (.v (.int k0 v))) u K)
  (hw : Wants ops o S := by exact zwh xj) (hd : o.dst = some d := by kernel_rfl) (hop : o.op = .call { callee := .builtin .max, args := #[x, y], argTypes := tys } := by rfl) (hf : freeB S d = true := by kernel_rfl)
  (hx : evO S x = some (.v (.int k0 n)) := by rfl) (hy : evO S y = some (.v (.int k0 m)) := by rfl) : sym P ops w0 u0 seq ((o, p) :: rest) S u K := by
 have hrun : ∀ ty w, (Builtin.max_ tys ty #[.int k0 n, .int k0 m]).run P w = .ok (.int k0 v) w := by
  intro ty w
  rw [← hv]
  rfl
 refine .inl ⟨by rw [hop]; exact (by decide : (0 : Nat) ≠ 2), .set (.v (.int k0 v)), ⟨zxz hd hf, .inl ⟨(fun t ht => by cases ht), fun B a w u' hr he hdt => ⟨hw B a hr, ?_⟩⟩⟩, ?_⟩
 ·unfold execOp
  simp only [hop, resolve, invoke, builtin, Sem.run_bind, Sem.run_pure, Result.andThen_ok, List.map_toArray, List.map_cons, List.map_nil, ev_of hr hx, ev_of hr hy, SV.conc, hrun]
 show sym P ops w0 u0 seq rest (S.put o.dst (some _)) u K
 rw [hd]; exact k
section
variable {u u' u1 : World} {L : List RL} {r : RL} {l : List Rat} {q : Rat} {K n b b6 : Nat} {cs : List Value} {t t6 : TypeId}
theorem SlR.extB0 {A : Option Addr} {m c : Nat} {z : List Int} (h : SlR .u32 u A m c z) (hb : u.heap[b]? = some (.cells cs.toArray t (0, 0))) (hn : ∀ v ∈ cs, ∀ y, v ≠ .int .u32 y) (e : ExtB b u u') : SlR .u32 u' A m c z := by
 obtain ⟨h1, h2, h3, h4⟩ := h
 refine ⟨h1, h2, h3, fun hp => ?_⟩
 obtain ⟨b', o, rfl, hlt, hc⟩ := h4 hp
 have hne : b' ≠ b := by
  rintro rfl
  have := hc 0 hp
  rw [cells_at hb] at this
  have h9 : cs[o + 0]? = some (.int .u32 (z[0]?.getD 0)) := by simpa using this
  exact hn _ (List.mem_of_getElem? h9) _ rfl
 refine ⟨b', o, rfl, Nat.lt_of_lt_of_le hlt e.size, fun i hi => ?_⟩
 have := hc i hi
 unfold World.cell? at this ⊢
 cases hb' : u.heap[b']? with
 | none => simp only [hb'] at this; cases this
 | some ob =>
  simp only [hb'] at this
  cases ob with
  | cells cs t' fr => rw [e.vis b' _ hne hb' (by unfold hidO; exact fun e => by cases e)]; exact this
  | _ => cases this
theorem RatN.extB0 (h : RatN u r q K) (hb : u.heap[b]? = some (.cells cs.toArray t (0, 0))) (hn : ∀ v ∈ cs, ∀ y, v ≠ .int .u32 y) (e : ExtB b u u') : RatN u' r q K :=
 ⟨⟨h.1.1, h.1.2.1, h.1.2.2.1.extB0 hb hn e, h.1.2.2.2⟩, h.2.1, h.2.2.1.extB0 hb hn e, h.2.2.2⟩
end
def setW (u : World) (b : Nat) (ob : Obj) : World := { u with heap := u.heap.setIfInBounds b ob }
structure ExtF (F : List Nat) (u u' : World) : Prop where
 size : u.heap.size ≤ u'.heap.size
 vis : ∀ (k : Nat) (o : Obj), k ∉ F → u.heap[k]? = some o → o ≠ hidO → u'.heap[k]? = some o
section
variable {P : Program} {ops : Array Oper} {w0 : Base} {u0 : World} {S T : St} {B : Tmp → Nat} {a : Act} {w w' u u' u'' v : World} {o : Oper} {p : List Tmp} {seq : Bool} {rest : List (Oper × List Tmp)} {K : St → World → Prop} {F : List Nat} {b : Nat} {ob : Obj}
theorem setW_size : (setW u b ob).heap.size = u.heap.size := by simp [setW]
theorem setW_ne {k : Nat} (h : k ≠ b) : (setW u b ob).heap[k]? = u.heap[k]? := by simp only [setW]; rw [Array.getElem?_setIfInBounds_ne (Ne.symm h)]
theorem setW_eq (h : b < u.heap.size) : (setW u b ob).heap[b]? = some ob := by simp [setW, h]
theorem ExtF.pre {u2 : World} (e : Ext u u') (h : ExtF F u' u2) : ExtF F u u2 := ⟨Nat.le_trans e.size h.size, fun k o hk ho hh => h.vis k o hk (e.vis k o ho hh) hh⟩
theorem ExtF.toB (h : ExtF [b] u u') : ExtB b u u' := ⟨h.size, fun k o hk ho hh => h.vis k o (by simpa using hk) ho hh⟩
theorem GrowF.extF (h : GrowF F u u') : ExtF F u u' := ⟨h.size, fun k o hk ho _ => (h.old k (zxa ho) hk).trans ho⟩
def MayB (w0 : Base) (u0 : World) (b : Nat) : Prop := u0.heap.size ≤ b ∨ b ∈ w0.free
theorem Rep.mut (h : Rep w0 u0 S B a w u) (hF : ∀ b ∈ F, MayB w0 u0 b ∧ ∃ ob, u.heap[b]? = some ob ∧ ob ≠ hidO) (hd : Dat u'' w') (hb : Bel ⟨w, none, F⟩ w') (hg : GrowF F u u'') : Rep w0 u0 S B a w' u'' := by
 have hno : ∀ b ∈ F, b < u0.heap.size → b ∈ w0.free := fun b hm hlt => by
  rcases (hF b hm).1 with h1 | h1
  ·omega
  exact h1
 refine ⟨h.regs, h.wf, h.defers, fun t V hV => ?_, h.inj, hd, h.base, ⟨Nat.le_trans h.grow.size hg.size, fun b hlt hf => ?_⟩, ?_⟩
 ·obtain ⟨v1, v2, v3⟩ := h.var t V hV
  have hn : B t ∉ F := fun hm => by
   obtain ⟨_, ob, e1, e2⟩ := hF _ hm
   rw [v2] at e1; injection e1 with e1; exact e2 e1.symm
  exact ⟨by rw [hb.block _ (zxa v1) (fun t e => by cases e) hn]; exact v1, by rw [hg.old _ (zxa v2) hn]; exact v2, v3⟩
 ·rw [hg.old b (Nat.lt_of_lt_of_le hlt h.grow.size) (fun hm => hf (hno b hm hlt))]
  exact h.grow.old b hlt hf
 have hbs := h.bel
 refine ⟨hb.os.trans hbs.os, hb.tape.trans hbs.tape, hb.output.trans hbs.output, Nat.le_trans hbs.size hb.size, fun k hk hl hf => ?_⟩
 rw [hb.block k (Nat.lt_of_lt_of_le hk hbs.size) (fun t e => by cases e) (fun hm => hf (hno k hm (by rw [h.base]; exact hk)))]
 exact hbs.block k hk hl hf
theorem setW_dat {cs : Array Value} {ty : TypeId} (h : Dat u w) (hw : w'.heap[b]? = some ob) (ho : OnlyB b w w') : Dat (setW u b ob) w' := by
 refine ⟨by rw [setW_size, h.size, ho.size], fun k o hk hh => ?_⟩
 by_cases e : k = b
 ·subst e
  have hlt := zxa hk
  rw [setW_size] at hlt
  rw [setW_eq hlt] at hk
  rw [hw]; exact hk
 rw [setW_ne e] at hk
 rw [ho.far k e]; exact h.vis k o hk hh
theorem setW_growF : GrowF [b] u (setW u b ob) := ⟨by rw [setW_size]; exact Nat.le_refl _, fun k hk hf => setW_ne (by simpa using hf)⟩
theorem onlyB_bel (h : OnlyB b w w') : Bel ⟨w, none, [b]⟩ w' := ⟨h.os, h.tape, h.output, Nat.le_of_eq h.size.symm, fun k hk _ hf => h.far k (by simpa using hf)⟩
theorem ev_any {z : Operand} {x : SV} (hr : RegOK S B a) (h : evO S z = some x) : a.eval z = x.conc B := ev_eval hr h
theorem sy_storeD {T : TypeId} {r : Tmp} {z : Operand} {v : Value} {agg : Bool} {n off : Nat} {cs : List Value} {ty : TypeId} (hub : u.heap[b]? = some (.cells cs.toArray ty (0, 0))) (hb : MayB w0 u0 b) (hT : TyIs P T agg n) (hl : off + n ≤ cs.length)
  (k : ∀ u1, u1.heap[b]? = some (.cells (setL cs off v.cells.toList).toArray ty (0, 0)) → ExtB b u u1 → sym P ops w0 u0 true rest S u1 K)
  (hw : Wants ops o S := by exact zwh xj) (hd : o.dst = none := by kernel_rfl) (hop : o.op = .store T (.tmp r) z := by rfl) (hr : S.reg r = some (.v (.pointer (some ⟨b, off, none⟩))) := by rfl) (hz : evO S z = some (.v v) := by rfl)
  (hn : v.cells.size = n := by kernel_rfl) (hone : v.cells.toList.all Value.oneCell' = true := by kernel_rfl) : sym P ops w0 u0 true ((o, p) :: rest) S u K := by
 refine .inr (.inr (.inl ⟨.inl rfl, fun B a w u' he hrep => ⟨hw B a hrep.regs, ?_⟩⟩))
 have hub' := he.cells hub
 have hwb := hrep.dat.ext.cells hub'
 obtain ⟨w', k1, k2, k3⟩ := run_storeCells (P := P) (b := b) (ty := ty) (base := off) v.cells.toList 0 w cs hwb zq (List.all_eq_true.1 hone)
 have hev : a.eval (.tmp r) = .pointer (some ⟨b, off, none⟩) := hrep.regs.eval hr
 have hez : a.eval z = v := ev_any hrep.regs hz
 have e2 : (Instr.storeAt T (.pointer (some ⟨b, off, none⟩)) v).run P w = .ok () w' := by
  have e3 : (Instr.storeAt T (.pointer (some ⟨b, off, none⟩)) v).run P w = (storeVar T ⟨b, off, none⟩ v).run P w := rfl
  rw [e3]
  unfold storeVar
  rw [run_bind_ok (hT w).2, if_neg (by simp [hn])]
  exact k1
 have e1 : (execOp a.eval o).run P w = .ok .skip w' := by
  have e4 : (execOp a.eval o).run P w = (do Instr.storeAt T (a.eval (.tmp r)) (a.eval z); pure Next.skip : Sem Next).run P w := by
   unfold execOp; rw [hop]
  rw [e4, hev, hez, run_bind_ok e2]
  rfl
 unfold Oper.wp
 rw [e1]
 simp only [Nat.add_zero] at k2
 have hlt := zxa hub'
 have hdat : Dat (setW u' b (.cells (setL cs off v.cells.toList).toArray ty (0, 0))) w' := setW_dat (cs := #[]) (ty := 0) hrep.dat k2 k3
 have hr2 := hrep.mut (F := [b]) (fun b' hm => by simp at hm; subst hm; exact ⟨hb, _, hub', by unfold hidO; intro e; cases e⟩) hdat (onlyB_bel k3) setW_growF
 refine ⟨S, B, _, _, ?_, (fun e => by cases e), (fun e => by cases e), Ext.refl _, k _ (setW_eq hlt) (ExtF.toB (.pre he setW_growF.extF))⟩
 rw [hd]; exact hr2
def grownW (u w' : World) (b g : Nat) (ob : Obj) : World := setW (setW (hide u w') b hidO) g ob
theorem grownW_size {g : Nat} (h : u.heap.size ≤ w'.heap.size) : (grownW u w' b g ob).heap.size = w'.heap.size := by unfold grownW; rw [setW_size, setW_size, zwq h]
theorem sy_dataF (d : Tmp) (V : Vr) (n : Nat) (k : ∀ b u1, Ext u u1 → u1.heap[b]? = some (.cells V.cs.toArray V.ty (0, 0)) → u0.heap.size ≤ b → u.heap.size ≤ b → sym P ops w0 u0 true rest (S.set d (.v (.slice (some ⟨b, 0, none⟩) n n))) u1 K)
  (hw : Wants ops o S := by exact zwh xj) (hd : o.dst = some d := by kernel_rfl) (hk : opK o.op ≠ 2 := by decide) (hf : (freeB S d && knownB S o) = true := by kernel_rfl)
  (hrun : ∀ B w, (execOp (rho S B) o).run P w = .ok (.value (.slice (some ⟨w.heap.size, 0, none⟩) n n)) (w.alloc (.cells V.cs.toArray V.ty)) := by intro _ _; kernel_rfl) : sym P ops w0 u0 true ((o, p) :: rest) S u K := by
 simp only [Bool.and_eq_true] at hf
 refine .inr (.inr (.inl ⟨.inl rfl, fun B a w u' he hrep => ⟨hw B a hrep.regs, ?_⟩⟩))
 unfold Oper.wp
 rw [exec_rho hrep.regs hf.2 hk, hrun B w]
 have hs : u'.heap.size = w.heap.size := hrep.dat.size
 refine ⟨S.set d (.v (.slice (some ⟨w.heap.size, 0, none⟩) n n)), B, u'.alloc (.cells V.cs.toArray V.ty), u'.alloc (.cells V.cs.toArray V.ty), ?_, (fun e => by cases e), (fun e => by cases e), Ext.refl _, k _ _ (he.trans (zxv _ _).ext) (by rw [← hs]; exact zxr _ _) (by rw [← hs]; exact hrep.grow.size) (by rw [← hs]; exact he.size)⟩
 rw [hd]
 exact (hrep.vis _).set (d := some d) (x := some (.v (.slice (some ⟨w.heap.size, 0, none⟩) n n))) (fun t e => by injection e with e; subst e; exact (zxz hd hf.1 d hd).1) (fun z e => by injection e with e; rw [← e]; rfl) (fun z t e ht => by injection e with e; rw [← e] at ht; cases ht)
theorem sy_makeF (d : Tmp) {T E : TypeId} {x y : Operand} {z : Value} {size bytes : Nat} {k1 k2 : IntKind} {i j : Int} (n : Nat) (cs : List Value) (hT : P.underlying T = some (.slice E)) (hi : (P.info? E).map (fun i => (i.zero, i.size, i.bytes)) = some (some z, size, bytes)) (hn : i = n) (hn2 : j = n) (hb : bytes * n ≤ 281474976710656) (h63 : n ≤ maxLen) (hcs : (madeCells z.cells (n * size)).toList = cs)
  (k : ∀ b u1, Ext u u1 → u1.heap[b]? = some (.cells cs.toArray E (0, 0)) → u0.heap.size ≤ b → u.heap.size ≤ b → sym P ops w0 u0 true rest (S.set d (.v (.slice (some ⟨b, 0, none⟩) n n))) u1 K)
  (hw : Wants ops o S := by exact zwh xj) (hd : o.dst = some d := by kernel_rfl) (hop : o.op = .makeSlice T x y := by rfl) (hf : freeB S d = true := by kernel_rfl)
  (hx : evO S x = some (.v (.int k1 i)) := by rfl) (hy : evO S y = some (.v (.int k2 j)) := by rfl) : sym P ops w0 u0 true ((o, p) :: rest) S u K := by
 subst hcs hn hn2
 refine .inr (.inr (.inl ⟨.inl rfl, fun B a w u' he hrep => ⟨hw B a hrep.regs, ?_⟩⟩))
 have hrun := makes (P := P) (w := w) n hT hi hb h63 hop hx hy hrep.regs
 unfold Oper.wp
 rw [hrun]
 have hs : u'.heap.size = w.heap.size := hrep.dat.size
 have hv := (hrep.vis (.cells (madeCells z.cells (n * size)) E)).set (d := some d) (x := some (.v (.slice (some ⟨w.heap.size, 0, none⟩) n n))) (v := .slice (some ⟨w.heap.size, 0, none⟩) n n) (fun t e => by injection e with e; subst e; exact (zxz hd hf d hd).1) (fun z e => by injection e with e; rw [← e]; rfl) (fun z t e ht => by injection e with e; rw [← e] at ht; cases ht)
 refine ⟨S.set d (.v (.slice (some ⟨w.heap.size, 0, none⟩) n n)), B, u'.alloc (.cells (madeCells z.cells (n * size)) E), u'.alloc (.cells (madeCells z.cells (n * size)) E), ?_, (fun e => by cases e), (fun e => by cases e), Ext.refl _, k _ _ (he.trans (zxv _ _).ext) (by rw [← hs]; simpa using zxr u' (.cells (madeCells z.cells (n * size)) E)) (by rw [← hs]; exact hrep.grow.size) (by rw [← hs]; exact he.size)⟩
 rw [hd]
 exact hv
theorem zc_mem {z : Array Value} {n : Nat} {v : Value} (hz : 0 < z.size) (h : v ∈ (Builtin.zeroCells z n).toList) : v ∈ z.toList := by
 unfold Builtin.zeroCells at h
 rw [Array.toList_map, List.mem_map] at h
 obtain ⟨i, _, rfl⟩ := h
 have hi := Nat.mod_lt i hz
 rw [getElem!_pos z (i % z.size) hi]
 simp
theorem app_all {T E : TypeId} {z : Value} {size bytes n cap m c g c1 : Nat} {cs0 news : List Value} {ad : Addr} {ty : TypeId} {cs : Array Value} (q : Value → Prop) (hT : P.underlying T = some (.slice E)) (hi : (P.info? E).map (fun i => (i.zero, i.size, i.bytes)) = some (some z, size, bytes)) (hzs : z.cells.size = size) (hsz : 0 < size)
  (hub : w.heap[b]? = some (.cells cs0.toArray E (0, 0))) (hn : n ≤ cap) (hcl : cs0.length = cap * size) (hl : news.length = m * size) (hnews : ∀ j x, news[j]? = some x → w.cell? (ad.add j) = some x) (h1 : ∀ x ∈ news, x.oneCell' = true) (h63 : n + m ≤ maxLen) (hbytes : (n + m) * bytes ≤ 140737488355328)
  (hrun : (Builtin.append_ #[T, T] ty #[.slice (some ⟨b, 0, none⟩) n cap, .slice (some ad) m c]).run P w = .ok (.slice (some ⟨g, 0, none⟩) (n + m) c1) w') (hgv : w'.heap[g]? = some (.cells cs E (0, 0))) (q0 : ∀ v ∈ cs0, q v) (q1 : ∀ v ∈ news, q v) (q2 : ∀ v ∈ z.cells.toList, q v) : ∀ v ∈ cs.toList, q v := by
 obtain ⟨i, hi1, hz, hs, hby⟩ := info_parts hi
 have hle : n * size ≤ cs0.length := by rw [hcl]; exact Nat.mul_le_mul_right _ hn
 by_cases hroom : n + m ≤ cap
 ·have hr := run_append_room (P := P) w T ty E i hT hi1 b n cap cs0.toArray hub ad m c news (by rw [hs]; exact hl) hnews h1 hroom (by rw [hs, hl, List.size_toArray, hcl, ← Nat.add_mul]; exact Nat.mul_le_mul_right _ hroom)
  rw [hrun] at hr
  injection hr with hv hw2
  injection hv with ha _ _
  injection ha with ha
  injection ha with hg _ _
  subst hg
  subst hw2
  rw [setRow_heap w g cs0.toArray _ E _ hub] at hgv
  injection hgv with hgv
  injection hgv with hgv _ _
  intro v hv
  rw [← hgv] at hv
  simp only [List.mem_append] at hv
  rcases hv with (hv | hv) | hv
  ·exact q0 v (List.mem_of_mem_take hv)
  ·exact q1 v hv
  exact q0 v (List.mem_of_mem_drop hv)
 have hr := run_append_grow (P := P) w T ty E i z hT hi1 hz ⟨b, 0, none⟩ n cap (cs0.take (n * size)) (by rw [List.length_take, hs, Nat.min_eq_left hle]) (fun j x hx => by
   rw [addr_add, Nat.zero_add, cell_of_row w b j cs0.toArray E (0, 0) hub]
   rw [List.getElem?_take] at hx
   split at hx
   ·simpa using hx
   cases hx) ad m c news (by rw [hs]; exact hl) hnews xq (by unfold maxLen at h63; omega) (growslice_fits xq (by rw [hby]; exact hbytes))
 rw [hrun] at hr
 injection hr with hv hw2
 injection hv with ha _ _
 injection ha with ha
 injection ha with hg _ _
 subst hg
 subst hw2
 have h9 := zxr w.drew (.cells ((cs0.take (n * size)).toArray ++ news.toArray ++ Builtin.zeroCells z.cells (grownCap w (n + m) cap E - (n + m))) E)
 have h8 : w.drew.heap.size = w.heap.size := rfl
 rw [h8, hgv] at h9
 injection h9 with h9
 injection h9 with h9 _ _
 intro v hv
 rw [h9] at hv
 simp only [Array.toList_append, List.mem_append] at hv
 rcases hv with (hv | hv) | hv
 ·exact q0 v (List.mem_of_mem_take hv)
 ·exact q1 v hv
 exact q2 v (zc_mem xq hv)
theorem app_all0 {T E : TypeId} {z : Value} {size bytes m c g c1 : Nat} {news : List Value} {ad : Addr} {ty : TypeId} {cs : Array Value} (q : Value → Prop) (hT : P.underlying T = some (.slice E)) (hi : (P.info? E).map (fun i => (i.zero, i.size, i.bytes)) = some (some z, size, bytes)) (hzs : z.cells.size = size) (hsz : 0 < size)
  (hl : news.length = m * size) (hnews : ∀ j x, news[j]? = some x → w.cell? (ad.add j) = some x) (hm : 0 < m) (h63 : m ≤ maxLen) (hbytes : m * bytes ≤ 140737488355328)
  (hrun : (Builtin.append_ #[T, T] ty #[.slice none 0 0, .slice (some ad) m c]).run P w = .ok (.slice (some ⟨g, 0, none⟩) m c1) w') (hgv : w'.heap[g]? = some (.cells cs E (0, 0))) (q1 : ∀ v ∈ news, q v) (q2 : ∀ v ∈ z.cells.toList, q v) : ∀ v ∈ cs.toList, q v := by
 obtain ⟨i, hi1, hz, hs, hby⟩ := info_parts hi
 have hr := run_append_nil (P := P) w T ty E i z hT hi1 hz ad m c news (by rw [hs]; exact hl) hnews hm (by unfold maxLen at h63; omega) (by rw [hby]; omega)
 rw [hrun] at hr
 injection hr with hv hw2
 injection hv with ha _ _
 injection ha with ha
 injection ha with hg _ _
 subst hg
 subst hw2
 have h9 := zxr w.drew (.cells (news.toArray ++ Builtin.zeroCells z.cells (grownCap w m 0 E - m)) E)
 have h8 : w.drew.heap.size = w.heap.size := rfl
 rw [h8, hgv] at h9
 injection h9 with h9
 injection h9 with h9 _ _
 intro v hv
 rw [h9] at hv
 simp only [Array.toList_append, List.mem_append] at hv
 rcases hv with hv | hv
 ·exact q1 v hv
 exact q2 v (zc_mem xq hv)
theorem sy_appDp (d : Tmp) {T E : TypeId} {s x : Operand} {z : Value} {size bytes : Nat} {b2 off m c n cap : Nat} {cs0 : List Value} (news : List Value) (hT : P.underlying T = some (.slice E)) (hi : (P.info? E).map (fun i => (i.zero, i.size, i.bytes)) = some (some z, size, bytes)) (hzs : z.cells.size = size) (hsz : 0 < size)
  (hl : news.length = m * size) (hnews : ∀ j v, news[j]? = some v → u.cell? ⟨b2, off + j, none⟩ = some v) (h1 : ∀ v ∈ news, v.oneCell' = true) (hm : 0 < m) (h63 : n + m ≤ maxLen) (hbytes : (n + m) * bytes ≤ 140737488355328)
  (hn : n ≤ cap) (hcap : cap ≤ maxLen) (hcl : cs0.length = cap * size) (hub : u.heap[b]? = some (.cells cs0.toArray E (0, 0))) (hb : MayB w0 u0 b)
  (k : ∀ (g c1 : Nat) (cs : List Value) (u1 : World), n + m ≤ c1 → c1 ≤ maxLen → cs.length = c1 * size → cs.take ((n + m) * size) = cs0.take (n * size) ++ news → u1.heap[g]? = some (.cells cs.toArray E (0, 0)) → (g = b ∨ u.heap.size ≤ g) → ExtB b u u1 → (∀ q : Value → Prop, (∀ v ∈ cs0, q v) → (∀ v ∈ news, q v) → (∀ v ∈ z.cells.toList, q v) → ∀ v ∈ cs, q v) → sym P ops w0 u0 true rest (S.set d (.v (.slice (some ⟨g, 0, none⟩) (n + m) c1))) u1 K)
  (hw : Wants ops o S := by exact zwh xj) (hd : o.dst = some d := by kernel_rfl) (hop : o.op = .call { callee := .builtin .append, args := #[s, x], argTypes := #[T, T] } := by rfl) (hf : freeB S d = true := by kernel_rfl)
  (hs : evO S s = some (.v (.slice (some ⟨b, 0, none⟩) n cap)) := by rfl) (hx : evO S x = some (.v (.slice (some ⟨b2, off, none⟩) m c)) := by rfl) : sym P ops w0 u0 true ((o, p) :: rest) S u K := by
 refine .inr (.inr (.inl ⟨.inl rfl, fun B a w u' he hrep => ⟨hw B a hrep.regs, ?_⟩⟩))
 have hub' := he.cells hub
 have hwb := hrep.dat.ext.cells hub'
 have hltu := zxa hub'
 have hus : u'.heap.size = w.heap.size := hrep.dat.size
 obtain ⟨g, c1, cs, w', hrun, hgv, k1, k2, k3, k4, k5, k6⟩ := run_app (P := P) (u0 := { w with heap := #[] }) (w := w) (v := .slice (some ⟨b, 0, none⟩) n cap) (n := n) (xs := cs0.take (n * size)) (ad := ⟨b2, off, none⟩) (c := c) hT hi hzs hsz
  ⟨by rw [List.length_take, hcl]; exact Nat.min_eq_left (Nat.mul_le_mul_right _ hn), .inr ⟨b, cap, cs0.toArray, rfl, Nat.zero_le _, hwb, hn, hcap, by simpa using hcl, by simp⟩⟩ hl (fun j v hv => by rw [addr_add]; exact hrep.dat.ext.cell (he.cell (hnews j v hv))) h1 hm h63 hbytes (Nat.zero_le _) o.type
 unfold Oper.wp execOp
 simp only [hop, resolve, invoke, builtin, Sem.run_bind, Sem.run_pure, Result.andThen_ok, List.map_toArray, List.map_cons, List.map_nil, ev_of hrep.regs hs, ev_of hrep.regs hx, SV.conc, hrun]
 have aa : u'.heap.size ≤ w'.heap.size := by rw [hus]; exact k5.size
 have hgb : g = b ∨ g = w.heap.size := by
  rcases k6 with k6 | k6
  ·have : some b = some g := k6
   injection this with this; exact .inl this.symm
  exact .inr k6
 have hgw := zxa hgv
 have hcs : w'.heap[g]? = some (.cells cs.toList.toArray E (0, 0)) := by simpa using hgv
 have hkey : ∀ k, k < u'.heap.size → k ≠ b → w'.heap[k]? = w.heap[k]? := fun k hk hne => k5.block k xq (fun e => hne (by have : some k = some b := e; injection this))
 have hbw : b < w'.heap.size := by omega
 have hgl : g < (setW (hide u' w') b hidO).heap.size := by rw [setW_size, zwq aa]; exact hgw
 have hold : ∀ k, k < u'.heap.size → k ≠ b → (grownW u' w' b g (.cells cs.toList.toArray E (0, 0))).heap[k]? = u'.heap[k]? := fun k hk hne => by
  unfold grownW
  rw [setW_ne (by rcases hgb with h | h <;> omega), setW_ne hne, hide_old hk]
 have hdat : Dat (grownW u' w' b g (.cells cs.toList.toArray E (0, 0))) w' := by
  refine ⟨grownW_size aa, fun k ob hk hh => ?_⟩
  by_cases e : k = g
  ·subst e
   unfold grownW at hk
   rw [setW_eq hgl] at hk
   rw [hcs]; exact hk
  unfold grownW at hk
  rw [setW_ne e] at hk
  by_cases e2 : k = b
  ·subst e2
   rw [setW_eq (by rw [zwq aa]; exact hbw)] at hk
   injection hk with hk; exact absurd hk.symm hh
  rw [setW_ne e2] at hk
  rcases Nat.lt_or_ge k u'.heap.size with hlt | hge
  ·rw [hide_old hlt] at hk
   rw [hkey k hlt e2]; exact hrep.dat.vis k ob hk hh
  have := zxa hk
  rw [zwq aa] at this
  rw [hide_new hge this] at hk
  injection hk with hk; exact absurd hk.symm hh
 have hgr : GrowF [b] u' (grownW u' w' b g (.cells cs.toList.toArray E (0, 0))) := ⟨by rw [grownW_size aa]; exact aa, fun k hk hf => hold k hk (by simpa using hf)⟩
 have hr1 := hrep.mut (F := [b]) (fun b' hm => by simp at hm; subst hm; exact ⟨hb, _, hub', by unfold hidO; intro e; cases e⟩) hdat ⟨k5.os, k5.tape, k5.output, k5.size, fun k hk _ hf => hkey k (by rw [hus]; exact hk) (by simpa using hf)⟩ hgr
 have hr2 := hr1.set (d := o.dst) (x := some (.v (.slice (some ⟨g, 0, none⟩) (n + m) c1))) (v := .slice (some ⟨g, 0, none⟩) (n + m) c1) (fun s hs => (zxz hd hf s hs).1) (fun z e => by injection e with e; rw [← e]; rfl) (fun z t e ht => by injection e with e; rw [← e] at ht; cases ht)
 show ∃ S' B' u'' u2, Rep w0 u0 S' B' (a.put o.dst _) w' u'' ∧ _
 refine ⟨_, B, _, _, hr2, (fun e => by cases e), (fun e => by cases e), Ext.refl _, ?_⟩
 rw [hd]
 exact k g c1 cs.toList _ k1 k2 k3 k4 (by unfold grownW; rw [setW_eq hgl]) (by have := he.size; omega) (ExtF.toB (.pre he hgr.extF)) (fun q q0 q1 q2 => app_all q hT hi hzs hsz hwb hn hcl hl (fun j v hv => by rw [addr_add]; exact hrep.dat.ext.cell (he.cell (hnews j v hv))) h1 h63 hbytes hrun hgv q0 q1 q2)
theorem sy_appD (d : Tmp) {T E : TypeId} {s x : Operand} {z : Value} {size bytes : Nat} {b2 off m c n cap : Nat} {cs0 : List Value} (news : List Value) (hT : P.underlying T = some (.slice E)) (hi : (P.info? E).map (fun i => (i.zero, i.size, i.bytes)) = some (some z, size, bytes)) (hzs : z.cells.size = size) (hsz : 0 < size)
  (hl : news.length = m * size) (hnews : ∀ j v, news[j]? = some v → u.cell? ⟨b2, off + j, none⟩ = some v) (h1 : ∀ v ∈ news, v.oneCell' = true) (hm : 0 < m) (h63 : n + m ≤ maxLen) (hbytes : (n + m) * bytes ≤ 140737488355328)
  (hn : n ≤ cap) (hcap : cap ≤ maxLen) (hcl : cs0.length = cap * size) (hub : u.heap[b]? = some (.cells cs0.toArray E (0, 0))) (hb : MayB w0 u0 b)
  (k : ∀ (g c1 : Nat) (cs : List Value) (u1 : World), n + m ≤ c1 → c1 ≤ maxLen → cs.length = c1 * size → cs.take ((n + m) * size) = cs0.take (n * size) ++ news → u1.heap[g]? = some (.cells cs.toArray E (0, 0)) → (g = b ∨ u.heap.size ≤ g) → ExtB b u u1 → sym P ops w0 u0 true rest (S.set d (.v (.slice (some ⟨g, 0, none⟩) (n + m) c1))) u1 K)
  (hw : Wants ops o S := by exact zwh xj) (hd : o.dst = some d := by kernel_rfl) (hop : o.op = .call { callee := .builtin .append, args := #[s, x], argTypes := #[T, T] } := by rfl) (hf : freeB S d = true := by kernel_rfl)
  (hs : evO S s = some (.v (.slice (some ⟨b, 0, none⟩) n cap)) := by rfl) (hx : evO S x = some (.v (.slice (some ⟨b2, off, none⟩) m c)) := by rfl) : sym P ops w0 u0 true ((o, p) :: rest) S u K :=
 sy_appDp d news hT hi hzs hsz hl hnews h1 hm h63 hbytes hn hcap hcl hub hb (fun g c1 cs u1 a1 a2 a3 a4 a5 a6 a7 _ => k g c1 cs u1 a1 a2 a3 a4 a5 a6 a7) hw hd hop hf hs hx
theorem sy_appD0p (d : Tmp) {T E : TypeId} {s x : Operand} {z : Value} {size bytes : Nat} {b2 off m c : Nat} (news : List Value) (hT : P.underlying T = some (.slice E)) (hi : (P.info? E).map (fun i => (i.zero, i.size, i.bytes)) = some (some z, size, bytes)) (hzs : z.cells.size = size) (hsz : 0 < size)
  (hl : news.length = m * size) (hnews : ∀ j v, news[j]? = some v → u.cell? ⟨b2, off + j, none⟩ = some v) (h1 : ∀ v ∈ news, v.oneCell' = true) (hm : 0 < m) (h63 : m ≤ maxLen) (hbytes : m * bytes ≤ 140737488355328)
  (k : ∀ (g c1 : Nat) (cs : List Value) (u1 : World), m ≤ c1 → c1 ≤ maxLen → cs.length = c1 * size → cs.take (m * size) = news → u1.heap[g]? = some (.cells cs.toArray E (0, 0)) → u.heap.size ≤ g → u0.heap.size ≤ g → Ext u u1 → (∀ q : Value → Prop, (∀ v ∈ news, q v) → (∀ v ∈ z.cells.toList, q v) → ∀ v ∈ cs, q v) → sym P ops w0 u0 true rest (S.set d (.v (.slice (some ⟨g, 0, none⟩) m c1))) u1 K)
  (hw : Wants ops o S := by exact zwh xj) (hd : o.dst = some d := by kernel_rfl) (hop : o.op = .call { callee := .builtin .append, args := #[s, x], argTypes := #[T, T] } := by rfl) (hf : freeB S d = true := by kernel_rfl)
  (hs : evO S s = some (.v (.slice none 0 0)) := by rfl) (hx : evO S x = some (.v (.slice (some ⟨b2, off, none⟩) m c)) := by rfl) : sym P ops w0 u0 true ((o, p) :: rest) S u K := by
 refine .inr (.inr (.inl ⟨.inl rfl, fun B a w u' he hrep => ⟨hw B a hrep.regs, ?_⟩⟩))
 have hus : u'.heap.size = w.heap.size := hrep.dat.size
 obtain ⟨g, c1, cs, w', hrun, hgv, k1, k2, k3, k4, k5, k6⟩ := run_app (P := P) (u0 := { w with heap := #[] }) (w := w) (v := .slice none 0 0) (n := 0) (xs := []) (ad := ⟨b2, off, none⟩) (c := c) hT hi hzs hsz
  ⟨by simp, .inl ⟨rfl, rfl⟩⟩ hl (fun j v hv => by rw [addr_add]; exact hrep.dat.ext.cell (he.cell (hnews j v hv))) h1 hm (by rw [Nat.zero_add]; exact h63) (by rw [Nat.zero_add]; exact hbytes) (Nat.zero_le _) o.type
 rw [Nat.zero_add] at hrun k1 k4
 unfold Oper.wp execOp
 simp only [hop, resolve, invoke, builtin, Sem.run_bind, Sem.run_pure, Result.andThen_ok, List.map_toArray, List.map_cons, List.map_nil, ev_of hrep.regs hs, ev_of hrep.regs hx, SV.conc, hrun]
 have aa : u'.heap.size ≤ w'.heap.size := by rw [hus]; exact k5.size
 have hge : g = w.heap.size := by
  rcases k6 with k6 | k6
  ·cases k6
  exact k6
 have hgw := zxa hgv
 have hcs : w'.heap[g]? = some (.cells cs.toList.toArray E (0, 0)) := by simpa using hgv
 have hkey : ∀ k, k < u'.heap.size → w'.heap[k]? = w.heap[k]? := fun k hk => k5.block k xq (fun e => by cases e)
 have hgl : g < (hide u' w').heap.size := by rw [zwq aa]; exact hgw
 have hold : ∀ k, k < u'.heap.size → (setW (hide u' w') g (.cells cs.toList.toArray E (0, 0))).heap[k]? = u'.heap[k]? := fun k hk => by
  rw [setW_ne xq, hide_old hk]
 have hdat : Dat (setW (hide u' w') g (.cells cs.toList.toArray E (0, 0))) w' := by
  refine ⟨by rw [setW_size, zwq aa], fun k ob hk hh => ?_⟩
  by_cases e : k = g
  ·subst e
   rw [setW_eq hgl] at hk
   rw [hcs]; exact hk
  rw [setW_ne e] at hk
  rcases Nat.lt_or_ge k u'.heap.size with hlt | hge
  ·rw [hide_old hlt] at hk
   rw [hkey k hlt]; exact hrep.dat.vis k ob hk hh
  have := zxa hk
  rw [zwq aa] at this
  rw [hide_new hge this] at hk
  injection hk with hk; exact absurd hk.symm hh
 have hgr : GrowF [] u' (setW (hide u' w') g (.cells cs.toList.toArray E (0, 0))) := ⟨by rw [setW_size, zwq aa]; exact aa, fun k hk _ => hold k hk⟩
 have hr1 := hrep.mut (F := []) (fun b' hm => by cases hm) hdat ⟨k5.os, k5.tape, k5.output, k5.size, fun k hk _ _ => hkey k (by rw [hus]; exact hk)⟩ hgr
 have hr2 := hr1.set (d := o.dst) (x := some (.v (.slice (some ⟨g, 0, none⟩) m c1))) (v := .slice (some ⟨g, 0, none⟩) m c1) (fun s hs => (zxz hd hf s hs).1) (fun z e => by injection e with e; rw [← e]; rfl) (fun z t e ht => by injection e with e; rw [← e] at ht; cases ht)
 show ∃ S' B' u'' u2, Rep w0 u0 S' B' (a.put o.dst _) w' u'' ∧ _
 refine ⟨_, B, _, _, hr2, (fun e => by cases e), (fun e => by cases e), Ext.refl _, ?_⟩
 rw [hd]
 have hs1 := he.size
 have hs2 := hrep.grow.size
 exact k g c1 cs.toList _ k1 k2 k3 (by simpa using k4) (setW_eq hgl) xq xq (he.trans hgr.nil.ext) (fun q q1 q2 => app_all0 q hT hi hzs hsz hl (fun j v hv => by rw [addr_add]; exact hrep.dat.ext.cell (he.cell (hnews j v hv))) hm h63 hbytes hrun hgv q1 q2)
theorem sy_appD0 (d : Tmp) {T E : TypeId} {s x : Operand} {z : Value} {size bytes : Nat} {b2 off m c : Nat} (news : List Value) (hT : P.underlying T = some (.slice E)) (hi : (P.info? E).map (fun i => (i.zero, i.size, i.bytes)) = some (some z, size, bytes)) (hzs : z.cells.size = size) (hsz : 0 < size)
  (hl : news.length = m * size) (hnews : ∀ j v, news[j]? = some v → u.cell? ⟨b2, off + j, none⟩ = some v) (h1 : ∀ v ∈ news, v.oneCell' = true) (hm : 0 < m) (h63 : m ≤ maxLen) (hbytes : m * bytes ≤ 140737488355328)
  (k : ∀ (g c1 : Nat) (cs : List Value) (u1 : World), m ≤ c1 → c1 ≤ maxLen → cs.length = c1 * size → cs.take (m * size) = news → u1.heap[g]? = some (.cells cs.toArray E (0, 0)) → u.heap.size ≤ g → u0.heap.size ≤ g → Ext u u1 → sym P ops w0 u0 true rest (S.set d (.v (.slice (some ⟨g, 0, none⟩) m c1))) u1 K)
  (hw : Wants ops o S := by exact zwh xj) (hd : o.dst = some d := by kernel_rfl) (hop : o.op = .call { callee := .builtin .append, args := #[s, x], argTypes := #[T, T] } := by rfl) (hf : freeB S d = true := by kernel_rfl)
  (hs : evO S s = some (.v (.slice none 0 0)) := by rfl) (hx : evO S x = some (.v (.slice (some ⟨b2, off, none⟩) m c)) := by rfl) : sym P ops w0 u0 true ((o, p) :: rest) S u K :=
 sy_appD0p d news hT hi hzs hsz hl hnews h1 hm h63 hbytes (fun g c1 cs u1 a1 a2 a3 a4 a5 a6 a7 a8 _ => k g c1 cs u1 a1 a2 a3 a4 a5 a6 a7 a8) hw hd hop hf hs hx
theorem Left.step {M : List Nat} {pre post : List (Nat × List Tmp)} {y : Nat × List Tmp} {listed : Array Bool} (hL : Left ops M (pre ++ y :: post) listed) (hro : ∀ j, (M.getD y.1 0).testBit j = true → j ∉ (pre ++ y :: post).map (·.1)) : Left ops M (pre ++ post) (listed.setIfInBounds y.1 true) := by
 have hsub : (pre ++ post).Sublist (pre ++ y :: post) := List.Sublist.append_left (List.sublist_cons_self _ _) _
 have hyn : y.1 ∉ (pre ++ post).map (·.1) := by
  have := hL.nodup
  rw [List.map_append, List.map_cons] at this
  have h2 := List.nodup_append.1 this
  have h3 := (List.nodup_cons.1 h2.2.1).1
  intro hm
  rw [List.map_append] at hm
  rcases List.mem_append.1 hm with hm | hm
  ·exact h2.2.2 y.1 hm y.1 (List.mem_cons_self ..) rfl
  exact h3 hm
 have hmem : ∀ j, j ≠ y.1 → (j ∈ (pre ++ post).map (·.1) ↔ j ∈ (pre ++ y :: post).map (·.1)) := fun j hj => by simp [hj]
 refine ⟨hL.nodup.sublist (hsub.map _), hL.pair.sublist hsub, by simp [hL.size], fun j hj => ?_, fun x hx => hL.lt x (hsub.mem hx), fun x hx => hL.mask x (hsub.mem hx), fun j hj hjn x hx => ?_⟩
 ·by_cases e : j = y.1
  ·subst e
   constructor
   ·intro h
    simp [hL.size, hj] at h
   intro h; exact absurd h hyn
  rw [getD_set_ne true (Ne.symm e), hmem j e]
  exact hL.mem j hj
 intro hmx
 by_cases e : j = y.1
 ·subst e; exact hro x hx ((hsub.map _).mem hmx)
 exact hL.closed j hj (fun h => hjn ((hmem j e).2 h)) x hx ((hsub.map _).mem hmx)
def chainB (M : List Nat) : List (Nat × List Tmp) → Bool
 | [] => true
 | x :: l => l.all (fun y => (M.getD y.1 0).testBit x.1) && chainB M l
theorem any_chain {M : List Nat} {Q : Exit → Act → World → Prop} : ∀ (T : List (Nat × List Tmp)) (listed : Array Bool) (a : Act) (w : World), Left ops M T listed → chainB M T = true →
  wpList P ops Q (T.map fun x => ops.getD x.1 default) a w → wpAny P .any ops Q T.length listed a w := by
 intro T
 induction T with
 | nil =>
  intro listed a w hL _ h
  refine ⟨?_, h⟩
  cases e : Region.ready .any ops listed with
  | nil => rfl
  | cons i l =>
   have := (hL.ready_mem (i := i) (by rw [e]; exact List.mem_cons_self ..)).2.1
   simp at this
 | cons y T ih =>
  intro listed a w hL hc h
  simp only [chainB, Bool.and_eq_true] at hc
  refine ⟨fun e => ?_, fun i hi => ?_⟩
  ·have := hL.head_ready
   rw [e] at this
   cases this
  obtain ⟨hlt, hm, hout⟩ := hL.ready_mem hi
  obtain ⟨x, hx, rfl⟩ := List.mem_map.1 hm
  have hro := reach_out hL hx hout
  have hxy : x = y := by
   rcases List.mem_cons.1 hx with rfl | hx'
   ·rfl
   exact absurd (List.mem_map.2 ⟨y, List.mem_cons_self .., rfl⟩) (hro y.1 (List.all_eq_true.1 hc.1 x hx'))
  subst hxy
  have hL' : Left ops M T (listed.setIfInBounds x.1 true) := by
   have := Left.step (pre := []) (post := T) hL hro
   exact this
  have key : ops[x.1]? = some (opAt ops x).1 := get_op hlt
  simp only [wpOp, key]
  simp only [List.map_cons] at h
  unfold wpList at h
  have h : if Region.wanted (opAt ops x).1 (yielded ops a.tmps) = true then (opAt ops x).1.wp P a w (wpList P ops Q (T.map fun x => ops.getD x.1 default)) Q ∨ ((opAt ops x).1.asks P a w ∧ LetsOut Q) else wpList P ops Q (T.map fun x => ops.getD x.1 default) (a.put (opAt ops x).1.dst undef) w := h
  split
  ·rename_i hw
   rw [if_pos hw] at h
   exact h.imp (Oper.wp_mono fun a w h => ih _ a w hL' hc.2 h) id
  rename_i hw
  rw [if_neg hw] at h
  exact ih _ _ w hL' hc.2 h
theorem any_symT {M : List Nat} {T : List (Nat × List Tmp)} {Q : Exit → Act → World → Prop} (hK : Mono K) (hc : chainB M T = true) (hQ : ∀ S u, K S u → ∀ B a w, Rep w0 u0 S B a w u → wpList P ops Q (T.map fun x => ops.getD x.1 default) a w) :
  ∀ (fuel : Nat) (L : List (Nat × List Tmp)) (listed : Array Bool) (S : St) (B : Tmp → Nat) (a : Act) (w u : World), L.length = fuel → Left ops M (L ++ T) listed → (∀ x ∈ L, ∀ y ∈ T, (M.getD y.1 0).testBit x.1 = true) → Rep w0 u0 S B a w u →
   sym P ops w0 u0 false (L.map (opAt ops)) S u K → wpAny P .any ops Q (fuel + T.length) listed a w := by
 intro fuel
 induction fuel with
 | zero =>
  intro L listed S B a w u hl hL _ hr hs
  obtain rfl := List.length_eq_zero_iff.1 hl
  rw [Nat.zero_add]
  exact any_chain T listed a w hL hc (hQ S u hs B a w hr)
 | succ fuel ih =>
  intro L listed S B a w u hl hL hT hr hs
  rw [Nat.succ_add]
  refine ⟨fun e => ?_, fun i hi => ?_⟩
  ·cases L with
   | nil => cases hl
   | cons x L =>
    have := Left.head_ready (L := L ++ T) hL
    rw [e] at this
    cases this
  obtain ⟨hlt, hm, hout⟩ := hL.ready_mem hi
  obtain ⟨y, hy, rfl⟩ := List.mem_map.1 hm
  have hro := reach_out hL hy hout
  have hyL : y ∈ L := by
   rcases List.mem_append.1 hy with h | h
   ·exact h
   cases L with
   | nil => cases hl
   | cons x L => exact absurd zj (hro x.1 (hT x (List.mem_cons_self ..) y h))
  obtain ⟨pre, post, rfl⟩ := List.append_of_mem hyL
  have hsw : ∀ x ∈ pre.map (opAt ops), swapOk ops x (opAt ops y) = true := by
   intro x hx
   obtain ⟨x', hx', rfl⟩ := List.mem_map.1 hx
   have hp := hL.pair
   rw [List.append_assoc, List.cons_append] at hp
   have := (List.pairwise_append.1 hp).2.2 x' hx' y (List.mem_cons_self ..)
   simp only [pairOk, Bool.and_eq_true, Bool.or_eq_true] at this
   rcases this.1 with h1 | h1
   ·exact absurd (List.mem_map.2 ⟨x', by simp [hx'], rfl⟩) (hro x'.1 h1)
   exact h1
  rw [List.map_append, List.map_cons] at hs
  have hone := bubble hK (pre.map (opAt ops)) S u hr.wf hsw hs
  have hsound := one_sound (Q := Q) (zwe hK) hone (Ext.refl _) hr
  have hL' : Left ops M ((pre ++ post) ++ T) (listed.setIfInBounds y.1 true) := by
   have e1 : (pre ++ y :: post) ++ T = pre ++ y :: (post ++ T) := by simp
   rw [e1] at hL hro
   have := Left.step hL hro
   rw [List.append_assoc]; exact this
  have hfin : ∀ a' w', (∃ S' B' u'', Rep w0 u0 S' B' a' w' u'' ∧ (false = false → Ext u u'') ∧ sym P ops w0 u0 false (pre.map (opAt ops) ++ post.map (opAt ops)) S' u'' K) → wpAny P .any ops Q (fuel + T.length) (listed.setIfInBounds y.1 true) a' w' := by
   rintro a' w' ⟨S', B', u'', g1, _, g3⟩
   refine ih (pre ++ post) _ S' B' a' w' u'' (by simp at hl ⊢; omega) hL' (fun x hx => hT x (by simp at hx ⊢; rcases hx with h | h <;> simp [h])) g1 ?_
   rw [List.map_append]; exact g3
  have key : ops[y.1]? = some (opAt ops y).1 := get_op hlt
  simp only [wpOp, key]
  split
  ·rename_i hw
   rw [if_pos hw] at hsound
   exact .inl (Oper.wp_mono hfin hsound)
  rename_i hw
  rw [if_neg hw] at hsound
  exact hfin _ _ hsound
def tailB (M : List Nat) (L T : List (Nat × List Tmp)) : Bool := L.all (fun x => T.all fun y => (M.getD y.1 0).testBit x.1) && chainB M T
theorem sw_anyC {id : Nat} {Q : MP} (M : List Nat) (q T : List (Nat × List Tmp)) (hm : P.follows .mixedOrders = true) (hok : regOk ops M (q ++ T) = true) (ht : tailB M q T = true)
  (h : sym P ops w0 u0 false (q.map (opAt ops)) S u (fun S' u' => sym P ops w0 u0 true (T.map fun x => (ops.getD x.1 default, [])) S' u' (Q.f .normal))) : SW P w0 u0 (.region id ops true) S u Q := by
 intro B a w u' e hr
 simp only [regOk, Bool.and_eq_true, beq_iff_eq, List.all_eq_true] at hok
 obtain ⟨⟨⟨⟨h1, h2⟩, h5⟩, h3⟩, h4⟩ := hok
 simp only [tailB, Bool.and_eq_true, List.all_eq_true] at ht
 have hnd := nodupB_spec h2
 have hall : ∀ i, i < ops.size → i ∈ (q ++ T).map (·.1) := fun i hi => List.contains_iff_mem.1 (h5 i (by simpa using hi))
 have hK : Mono (fun S' u' => sym P ops w0 u0 true (T.map fun x => (ops.getD x.1 default, ([] : List Tmp))) S' u' (Q.f .normal)) := zwe (Q.mono _)
 have hs : ops.size = q.length + T.length := by rw [← h1, List.length_append]
 refine wp_region_any hm ?_
 rw [hs]
 have hlist : Left ops M (q ++ T) (Array.replicate (q.length + T.length) false) := by
  rw [← hs]
  refine ⟨hnd, pairsOk_spec h4, by simp, fun i hi => ?_, fun x hx => ?_, fun x hx => (h3 x hx).2, fun j hj hjn => absurd (hall j hj) hjn⟩
  ·simp only [Array.getD_eq_getD_getElem?]
   rw [Array.getElem?_eq_getElem (by simpa using hi)]
   simp only [Array.getElem_replicate, Option.getD_some, true_iff]
   exact hall i hi
  obtain ⟨⟨g1, g2⟩, g3⟩ := h3 x hx
  refine ⟨by simpa using g1, fun e he hb => ?_⟩
  simp only [Bool.not_eq_true', List.any_eq_false] at g2
  have := g2 e (by simpa using he)
  simp [hb] at this
  exact this
 refine any_symT hK ht.2 (fun S u'' h B a w hr => ?_) q.length q _ S B a _ u' rfl hlist (fun x hx y hy => ht.1 x hx y hy) hr.drew (zwe hK _ _ _ e h)
 have := sl_key (Q := fun e a' w' => ∃ S' B' u'', Rep w0 u0 S' B' a' w' u'' ∧ Q.f e S' u'') (K := Q.f .normal) (Q.mono _) [] (fun S u h B a w hr => by exact ⟨S, B, u, hr, h⟩) (T.map fun x => ops.getD x.1 default) S B a w u'' hr (by rw [List.map_map]; exact h)
 rw [List.append_nil] at this
 exact this
end
structure PL where
 o : Int
 g : Int
 h : Int
def PL.cs (p : PL) : List Value := [.int .i64 p.o, .int .i64 p.g, .int .i64 p.h]
@[reducible] def PL.v (p : PL) : Value := .agg #[.int .i64 p.o, .int .i64 p.g, .int .i64 p.h]
def pl0 : PL := ⟨0, 0, 0⟩
section
variable {u u' w w' : World} {L M : List PL} {p : PL} {n i c b off K : Nat} {x y : Sl}
theorem ints_data {cs : List Value} {t : TypeId} {l : List Int} (h : u.heap[b]? = some (.cells cs.toArray t (0, 0))) (hc : cs.take n = l.map (Value.int .i64)) (hl : cs.length = c) (hn : n ≤ c) (hm : c ≤ maxLen) : SlR .i64 u (some ⟨b, 0, none⟩) n c l := by
 have hlen : l.length = n := by have h9 := congrArg List.length hc; simp at h9; omega
 refine ⟨hlen, hn, hm, fun hp => ⟨b, 0, rfl, zxa h, fun i hi => ?_⟩⟩
 rw [Nat.zero_add, cells_at h]
 have h9 : (cs.take n)[i]? = (l.map (Value.int .i64))[i]? := by rw [hc]
 rw [List.getElem?_take_of_lt hi, List.getElem?_map, List.getElem?_eq_getElem (by omega : i < l.length)] at h9
 simp
 rw [h9, List.getElem?_eq_getElem (by omega : i < l.length)]
 rfl
end
section
variable {P : Program} {ops : Array Oper} {w0 : Base} {u0 : World} {S : St} {u u' w : World} {o : Oper} {p : List Tmp} {seq : Bool} {rest : List (Oper × List Tmp)} {K : St → World → Prop}
theorem sy_conv (d : Tmp) {src dst : TypeId} {x : Operand} {k0 k : IntKind} {n : Int} (v : Int) (hT : ∀ w, (convert src dst (.int k0 n)).run P w = .ok (.int k (k.wrap n)) w) (hv : k.wrap n = v) (kk : sym P ops w0 u0 seq rest (S.set d (.v (.int k v))) u K) (hw : Wants ops o S := by exact zwh xj) (hd : o.dst = some d := by kernel_rfl) (hop : o.op = .convert src dst x := by rfl) (hf : freeB S d = true := by kernel_rfl)
  (hx : evO S x = some (.v (.int k0 n)) := by rfl) : sym P ops w0 u0 seq ((o, p) :: rest) S u K := by
 subst hv
 refine .inl ⟨by rw [hop]; exact (by decide : (0 : Nat) ≠ 2), .set (.v (.int k (k.wrap n))), ⟨zxz hd hf, .inl ⟨(fun t ht => by cases ht), fun B a w u' hr he hdt => ⟨hw B a hr, ?_⟩⟩⟩, ?_⟩
 ·have e1 : (execOp a.eval o).run P w = (do pure (Next.value (← convert src dst (a.eval x))) : Sem Next).run P w := by unfold execOp; rw [hop]
  rw [e1, ev_eval hr hx]
  exact run_val (hT w)
 show sym P ops w0 u0 seq rest (S.put o.dst (some _)) u K
 rw [hd]; exact kk
theorem unwantedU {g : Nat} {b : Bool} {t : Tmp} (h : o.guard = some (g, b)) (ht : (ops[g]?).bind (·.dst) = some t) (hS : S.reg t = some (.v undef)) : ∀ B a, RegOK S B a → Want ops o a false := fun B a hr => by
 have := hr.reg t _ hS
 simp [Want, Region.wanted, h, yielded, ht, this, SV.conc, undef]
end
section
variable {u u' : World} {A : Option Addr} {n c i : Nat} {l : List Int} {k : IntKind}
theorem ints_at (h : SlR k u A n c l) (hi : i < n) : ∃ b o, A = some ⟨b, o, none⟩ ∧ u.cell? ⟨b, o + i * 1, none⟩ = some (.int k (l.getD i 0)) := by
 obtain ⟨h1, h2, h3, h4⟩ := h
 obtain ⟨b, o, e, _, hc⟩ := h4 xq
 exact ⟨b, o, e, by rw [Nat.mul_one]; exact hc i hi⟩
theorem ints_bd {lo hi : Int} (h : ∀ z ∈ l, lo ≤ z ∧ z ≤ hi) (h0 : lo ≤ 0 ∧ 0 ≤ hi) (i : Nat) : lo ≤ l.getD i 0 ∧ l.getD i 0 ≤ hi := by
 rw [List.getD_eq_getElem?_getD]
 cases e : l[i]? with
 | none => exact h0
 | some z => exact h z (List.mem_of_getElem? e)
end
structure WL where
 b : Int
 f : Int
 r : Int
 o : Int
@[reducible] def WL.v (w : WL) : Value := .agg #[.int .i64 w.b, .int .i64 w.f, .int .i64 w.r, .int .i64 w.o]
def WL.cs (w : WL) : List Value := [.int .i64 w.b, .int .i64 w.f, .int .i64 w.r, .int .i64 w.o]
def WdOK (w : WL) : Prop := 4 ≤ w.b ∧ w.b ≤ 24 ∧ 0 ≤ w.f ∧ w.f < w.b ∧ 1 ≤ w.r ∧ w.r ≤ 3 ∧ 1 ≤ w.o ∧ w.o ≤ 2
def CoefOK (w : WL) : Prop := 6 ≤ w.b ∧ w.b ≤ 9 ∧ 3 ≤ w.f ∧ w.f + 2 ≤ w.b ∧ 1 ≤ w.r ∧ w.r ≤ 3 ∧ 1 ≤ w.o ∧ w.o ≤ 2
theorem CoefOK.ok {w : WL} (h : CoefOK w) : WdOK w := by unfold CoefOK at h; unfold WdOK; omega
namespace Nt
def p2i (n : Int) : Int := 2 ^ n.toNat
theorem zxp (n : Int) : 0 < p2i n := Int.pow_pos yj
theorem zwf {a b : Int} (h : a ≤ b) : p2i a ≤ p2i b := by
 unfold p2i
 have h1 : 2 ^ a.toNat ≤ 2 ^ b.toNat := Nat.pow_le_pow_right yj xq
 have h2 : ((2 ^ a.toNat : Nat) : Int) ≤ ((2 ^ b.toNat : Nat) : Int) := Int.ofNat_le.2 h1
 simpa using h2
theorem p2i_24 {n : Int} (h : n ≤ 24) : p2i n ≤ 16777216 := zwf (b := 24) h
end Nt
section
variable {P : Program} {w0 : Base} {u0 u w : World} {S : St} {ops : Array Oper} {o : Oper} {p : List Tmp} {seq : Bool} {rest : List (Oper × List Tmp)} {K : St → World → Prop}
theorem run_shl {T : TypeId} {k yk : IntKind} {n s : Int} {x y : Operand} (h0 : 0 ≤ s) (h1 : s ≤ k.bits) : (do eqGuard .shl T x y (.int k n) (.int yk s); binOp .shl T (.int k n) (.int yk s) : Sem Value).run P w = .ok (.int k (k.wrap (n * 2 ^ s.toNat))) w := by
 simp [eqGuard, binOp, shift_shl k yk n s h0 h1, go_sem]
theorem sy_shl (d : Tmp) {T T2 : TypeId} {x y : Operand} {k yk : IntKind} {n s : Int} (v : Int) (h0 : 0 ≤ s) (h1 : s ≤ k.bits) (hv : k.wrap (n * 2 ^ s.toNat) = v) (kk : sym P ops w0 u0 seq rest (S.set d (.v (.int k v))) u K) (hw : Wants ops o S := by exact zwh xj) (hd : o.dst = some d := by kernel_rfl) (hop : o.op = .binOp .shl T x y T2 := by rfl) (hf : freeB S d = true := by kernel_rfl)
  (hx : evO S x = some (.v (.int k n)) := by rfl) (hy : evO S y = some (.v (.int yk s)) := by rfl) : sym P ops w0 u0 seq ((o, p) :: rest) S u K := by
 subst hv
 refine .inl ⟨by rw [hop]; exact (by decide : (0 : Nat) ≠ 2), .set (.v (.int k (k.wrap (n * 2 ^ s.toNat)))), ⟨zxz hd hf, .inl ⟨(fun t ht => by cases ht), fun B a w u' hr he hdt => ⟨hw B a hr, ?_⟩⟩⟩, ?_⟩
 ·have e1 : (execOp a.eval o).run P w = (do pure (Next.value (← (do eqGuard .shl T x y (a.eval x) (a.eval y); binOp .shl T (a.eval x) (a.eval y)))) : Sem Next).run P w := by unfold execOp; rw [hop]
  rw [e1, ev_eval hr hx, ev_eval hr hy]
  exact run_val (run_shl h0 h1)
 show sym P ops w0 u0 seq rest (S.put o.dst (some _)) u K
 rw [hd]; exact kk
end
theorem shl_one {n : Int} (h0 : 0 ≤ n) (h1 : n ≤ 24) : IntKind.i64.wrap (1 * 2 ^ n.toNat) = Nt.p2i n := by
 have h2 := Nt.p2i_24 h1
 have h3 := Nt.zxp n
 rw [Int.one_mul]
 exact IntWalk.i64_in _ (by unfold Nt.p2i at *; omega)
theorem mod_pos9 (m : Int) (hm : 1 ≤ m) (n : Int) (h : decide (Int.tmod n m < 0) = false) : Int.tmod n m = n % m := by
 have h := of_decide_eq_false h
 rcases Int.lt_or_le n 0 with hn | hn
 ·have e := Int.tmod_add_mul_tdiv n m
  have h2 : -m < Int.tmod n m := Int.lt_tmod_of_pos n xq
  have h3 : Int.tmod n m ≤ 0 := by
   have h8 := Int.neg_tmod n m
   have h9 : Int.tmod (-n) m = (-n) % m := Int.tmod_eq_emod_of_nonneg xq
   have h10 := Int.emod_nonneg (-n) (show m ≠ 0 by omega)
   omega
  have h4 : Int.tmod n m = 0 := by omega
  rw [h4] at e ⊢
  have : m ∣ n := ⟨n.tdiv m, by omega⟩
  exact (Int.emod_eq_zero_of_dvd this).symm
 exact Int.tmod_eq_emod_of_nonneg hn
theorem mod_neg9 (m : Int) (hm : 1 ≤ m) (n : Int) (h : decide (Int.tmod n m < 0) = true) : Int.tmod n m + m = n % m := by
 have h := of_decide_eq_true h
 have e := Int.tmod_add_mul_tdiv n m
 have h2 : -m < Int.tmod n m := Int.lt_tmod_of_pos n xq
 have h5 : n = m * (n.tdiv m - 1) + (Int.tmod n m + m) := by rw [Int.mul_sub, Int.mul_one]; omega
 have := (Nt.ediv_uniq (z := n) (y := m) (q := n.tdiv m - 1) (r := Int.tmod n m + m) xq h5 xq xq).2
 exact this.symm
def MutL (k : Nat) (ty : TypeId) (lo : Nat) (u : World) (x : Sl) (cs : List Value) : Prop :=
 cs.length = x.n * k ∧ x.n ≤ x.c ∧ x.c ≤ maxLen ∧ (x = ⟨none, 0, 0⟩ ∨ ∃ b all, x.a = some ⟨b, 0, none⟩ ∧ u.heap[b]? = some (.cells (List.toArray all) ty (0, 0)) ∧ all.length = x.c * k ∧ all.take (x.n * k) = cs ∧ lo ≤ b)
def offB (x : Sl) (h : Nat) : Prop := ∀ a, x.a = some a → a.block ≠ h
structure ExtX (x : Sl) (u u' : World) : Prop where
 size : u.heap.size ≤ u'.heap.size
 vis : ∀ (k : Nat) (o : Obj), offB x k → u.heap[k]? = some o → o ≠ hidO → u'.heap[k]? = some o
structure ExtT (ty : TypeId) (u u' : World) : Prop where
 size : u.heap.size ≤ u'.heap.size
 vis : ∀ (k : Nat) (cs : Array Value) (t : TypeId), t ≠ ty → u.heap[k]? = some (.cells cs t (0, 0)) → u'.heap[k]? = some (.cells cs t (0, 0))
def sl0 : Sl := ⟨none, 0, 0⟩
structure TL where
 f : Int
 c : Int
def TL.cs (t : TL) : List Value := [.int .i64 t.f, .int .i64 t.c]
@[reducible] def TL.v (t : TL) : Value := .agg #[.int .i64 t.f, .int .i64 t.c]
def tl0 : TL := ⟨0, 0⟩
def tcs (L : List TL) : List Value := L.flatMap TL.cs
def ics (l : List Int) : List Value := l.map (Value.int .i64)
section
variable {k lo lo' h b n c i : Nat} {ty t2 : TypeId} {u u' u'' v : World} {x y : Sl} {cs cs' : List Value}
theorem cells_not_hid {cs : Array Value} {t : TypeId} : Obj.cells cs t (0, 0) ≠ hidO := by unfold hidO; intro e; cases e
theorem MutL.ext (m : MutL k ty lo u x cs) (e : Ext u u') : MutL k ty lo u' x cs :=
 ⟨m.1, m.2.1, m.2.2.1, m.2.2.2.imp id fun ⟨b, all, h1, h2, h3⟩ => ⟨b, all, h1, e.cells h2, h3⟩⟩
theorem MutL.extT (m : MutL k ty lo u x cs) (e : ExtT t2 u u') (ht : ty ≠ t2) : MutL k ty lo u' x cs :=
 ⟨m.1, m.2.1, m.2.2.1, m.2.2.2.imp id fun ⟨b, all, h1, h2, h3⟩ => ⟨b, all, h1, e.vis _ _ _ ht h2, h3⟩⟩
theorem MutL.low (m : MutL k ty lo u x cs) (hl : lo' ≤ lo) : MutL k ty lo' u x cs :=
 ⟨m.1, m.2.1, m.2.2.1, m.2.2.2.imp id fun ⟨b, all, h1, h2, h3, h4, h5⟩ => ⟨b, all, h1, h2, h3, h4, Nat.le_trans hl h5⟩⟩
theorem MutL.nil (k : Nat) (ty : TypeId) (lo : Nat) (u : World) : MutL k ty lo u ⟨none, 0, 0⟩ [] := ⟨by simp, Nat.le_refl _, Nat.zero_le _, .inl rfl⟩
theorem ExtX.t {cs : List Value} (e : ExtX x u u') (m : MutL k ty lo u x cs) : ExtT ty u u' := ⟨e.size, fun q cs' t ht hq => by
 refine e.vis q _ (fun a ha hc => ?_) hq cells_not_hid
 rcases m.2.2.2 with h1 | ⟨b, all, h1, h2, _⟩
 ·rw [h1] at ha; cases ha
 rw [h1] at ha; injection ha with ha; subst ha
 rw [show b = q from hc, hq] at h2; injection h2 with h2; injection h2 with _ h2 _; exact ht h2⟩
theorem ExtX.root {cs : List Value} {u0 : World} (e : ExtX x u u') (m : MutL k ty u0.heap.size u x cs) (r : Ext u0 u) : Ext u0 u' := ⟨Nat.le_trans r.size e.size, fun q o hq hh => by
 refine e.vis q o (fun a ha hc => ?_) (r.vis q o hq hh) hh
 rcases m.2.2.2 with h1 | ⟨b, all, h1, _, _, _, h5⟩
 ·rw [h1] at ha; cases ha
 rw [h1] at ha; injection ha with ha; subst ha
 have := zxa hq
 have hc : b = q := hc
 omega⟩
theorem Ext.toX (e : Ext u u') (x : Sl) : ExtX x u u' := ⟨e.size, fun q o _ h1 h2 => e.vis q o h1 h2⟩
theorem ExtB.toX (e : ExtB b u u') (hx : x.a = some ⟨b, 0, none⟩) : ExtX x u u' := ⟨e.size, fun q o ho h1 h2 => e.vis q o (fun hc => ho _ hx hc.symm) h1 h2⟩
theorem MutL.lt {a : Addr} (m : MutL k ty lo u x cs) (ha : x.a = some a) : a.block < u.heap.size := by
 rcases m.2.2.2 with h1 | ⟨b, all, h1, h2, _⟩
 ·rw [h1] at ha; cases ha
 rw [h1] at ha; injection ha with ha; subst ha; exact zxa h2
theorem MutL.off (m : MutL k ty lo u x cs) (hh : u.heap.size ≤ h) : offB x h := fun a ha hc => by have := m.lt ha; omega
theorem MutL.cell {j : Nat} (m : MutL k ty lo u x cs) (hj : j < cs.length) : ∃ b, x.a = some ⟨b, 0, none⟩ ∧ u.cell? ⟨b, 0 + j, none⟩ = cs[j]? := by
 obtain ⟨h1, h2, h3, h4⟩ := m
 rcases h4 with h4 | ⟨b, all, g1, g2, g3, g4, g5⟩
 ·subst h4
  simp at h1; subst h1; simp at hj
 refine ⟨b, g1, ?_⟩
 rw [Nat.zero_add, cells_at g2, ← g4, List.getElem?_take_of_lt xq]; simp
theorem tcs_len (L : List TL) : (tcs L).length = L.length * 2 := by
 induction L with
 | nil => rfl
 | cons p L ih => show (p.cs ++ tcs L).length = _; rw [List.length_append, ih, List.length_cons]; simp [TL.cs]; omega
theorem tcs_app (L M : List TL) : tcs (L ++ M) = tcs L ++ tcs M := by simp [tcs]
theorem tcs_at {L : List TL} (h : i < L.length) : ∀ j, j < 2 → (tcs L)[i * 2 + j]? = (L.getD i tl0).cs[j]? := by
 induction L generalizing i with
 | nil => simp at h
 | cons p L ih =>
  intro j hj
  show (p.cs ++ tcs L)[i * 2 + j]? = _
  cases i with
  | zero =>
   rw [Nat.zero_mul, Nat.zero_add, List.getElem?_append_left (by simp [TL.cs]; omega)]; rfl
  | succ i =>
   rw [show (i + 1) * 2 + j = p.cs.length + (i * 2 + j) by simp [TL.cs]; omega, List.getElem?_append_right xq, Nat.add_sub_cancel_left]
   exact ih (by simpa using h) j hj
theorem tl_one (t : TL) : ∀ v ∈ t.cs, v.oneCell' = true := by
 intro v hv
 simp [TL.cs] at hv
 rcases hv with rfl | rfl <;> rfl
theorem zwk (l : List Int) : (ics l).length = l.length := by unfold ics; simp
theorem ics_app (l m : List Int) : ics (l ++ m) = ics l ++ ics m := by unfold ics; simp
theorem ics_at {l : List Int} (h : i < l.length) : (ics l)[i]? = some (.int .i64 (l.getD i 0)) := by
 unfold ics
 rw [List.getElem?_map, List.getD_eq_getElem?_getD, List.getElem?_eq_getElem h]; rfl
theorem MutL.lit {cs : List Value} (hu : u.heap[b]? = some (.cells cs.toArray ty (0, 0))) (hl : cs.length = n * k) (hn : n ≤ maxLen) (hb : lo ≤ b) : MutL k ty lo u ⟨some ⟨b, 0, none⟩, n, n⟩ cs :=
 ⟨hl, Nat.le_refl _, hn, .inr ⟨b, cs, rfl, hu, hl, by rw [List.take_of_length_le (by show _ ≤ n * k; omega)], hb⟩⟩
theorem sl_one (x : Sl) : ∀ v ∈ [x.v], v.oneCell' = true := fun v hv => by
 simp at hv; subst hv; rfl
theorem int_two (y z : Int) : ∀ v ∈ [Value.int .i64 y, Value.int .i64 z], v.oneCell' = true := fun v hv => by
 simp at hv
 rcases hv with rfl | rfl <;> rfl
end
def NodesB (lo h : Nat) (u : World) (x : Sl) (N : List (List TL)) : Prop :=
 ∃ Ls : List Sl, MutL 1 150 lo u x (Ls.map Sl.v) ∧ Ls.length = N.length ∧ ∀ i, i < N.length → MutL 2 147 lo u (Ls.getD i sl0) (tcs (N.getD i [])) ∧ offB (Ls.getD i sl0) h
section
variable {k lo lo' h h' b n c i : Nat} {ty t2 : TypeId} {u u' u'' v : World} {x y z : Sl} {cs cs' : List Value} {N : List (List TL)} {ts : List TL}
theorem NodesB.nil (lo h : Nat) (u : World) : NodesB lo h u ⟨none, 0, 0⟩ [] := ⟨[], .nil _ _ _ _, rfl, fun i hi => by simp at hi⟩
theorem NodesB.len (m : NodesB lo h u x N) : x.n = N.length := by
 obtain ⟨Ls, h1, h2, _⟩ := m
 have := h1.1
 rw [List.length_map, Nat.mul_one] at this
 omega
theorem NodesB.ext (m : NodesB lo h u x N) (e : Ext u u') : NodesB lo h u' x N := by
 obtain ⟨Ls, h1, h2, h3⟩ := m
 exact ⟨Ls, h1.ext e, h2, fun i hi => ⟨(h3 i hi).1.ext e, (h3 i hi).2⟩⟩
theorem NodesB.low (m : NodesB lo h u x N) (hl : lo' ≤ lo) : NodesB lo' h u x N := by
 obtain ⟨Ls, h1, h2, h3⟩ := m
 exact ⟨Ls, h1.low hl, h2, fun i hi => ⟨(h3 i hi).1.low hl, (h3 i hi).2⟩⟩
theorem NodesB.extT (m : NodesB lo h u x N) (e : ExtT t2 u u') (h1 : 150 ≠ t2) (h2 : 147 ≠ t2) : NodesB lo h u' x N := by
 obtain ⟨Ls, g1, g2, g3⟩ := m
 exact ⟨Ls, g1.extT e h1, g2, fun i hi => ⟨(g3 i hi).1.extT e h2, (g3 i hi).2⟩⟩
theorem NodesB.excl (m : NodesB lo h u x N) (hh : u.heap.size ≤ h') : NodesB lo h' u x N := by
 obtain ⟨Ls, g1, g2, g3⟩ := m
 exact ⟨Ls, g1, g2, fun i hi => ⟨(g3 i hi).1, (g3 i hi).1.off hh⟩⟩
theorem getD_snoc {α : Type} (L : List α) (a z : α) (i : Nat) : (L ++ [a]).getD i z = if i < L.length then L.getD i z else if i = L.length then a else z := by
 rw [List.getD_eq_getElem?_getD]
 split
 ·rename_i h; rw [List.getElem?_append_left h, List.getD_eq_getElem?_getD]
 rename_i h
 rw [List.getElem?_append_right xq]
 split
 ·rename_i h2; rw [h2, Nat.sub_self]; rfl
 rename_i h2; rw [List.getElem?_eq_none zq]; rfl
theorem NodesB.snoc {Ls : List Sl} (h1 : MutL 1 150 lo u x (Ls.map Sl.v)) (h2 : Ls.length = N.length) (h3 : ∀ i, i < N.length → MutL 2 147 lo u (Ls.getD i sl0) (tcs (N.getD i [])) ∧ offB (Ls.getD i sl0) h)
  (my : MutL 2 147 lo u y (tcs ts)) (hy : offB y h) (e : ExtX x u u') (hm : MutL 1 150 lo u' z (Ls.map Sl.v ++ [y.v])) : NodesB lo h u' z (N ++ [ts]) := by
 have et := e.t h1
 refine ⟨Ls ++ [y], by rw [List.map_append]; exact hm, by simp [h2], fun i hi => ?_⟩
 rw [getD_snoc, getD_snoc, h2]
 by_cases hl : i < N.length
 ·rw [if_pos hl, if_pos hl]
  exact ⟨(h3 i hl).1.extT et yj, (h3 i hl).2⟩
 simp at hi
 rw [if_neg hl, if_neg hl, if_pos xq, if_pos xq]
 exact ⟨my.extT et yj, hy⟩
end
section
variable {P : Program} {ops : Array Oper} {w0 : Base} {u0 : World} {S T : St} {B : Tmp → Nat} {a : Act} {w w' u u' u'' v : World} {o : Oper} {p : List Tmp} {rest : List (Oper × List Tmp)} {K : St → World → Prop}
theorem sy_appM (d : Tmp) {T E : TypeId} {s src : Operand} {z : Value} {size bytes : Nat} {b2 off m c : Nat} (x : Sl) (cs news : List Value) (hm0 : MutL size E u0.heap.size u x cs) (hT : P.underlying T = some (.slice E)) (hi : (P.info? E).map (fun i => (i.zero, i.size, i.bytes)) = some (some z, size, bytes)) (hzs : z.cells.size = size) (hsz : 0 < size)
  (hl : news.length = m * size) (hnews : ∀ j v, news[j]? = some v → u.cell? ⟨b2, off + j, none⟩ = some v) (h1 : ∀ v ∈ news, v.oneCell' = true) (hm : 0 < m) (h63 : x.n + m ≤ maxLen) (hbytes : (x.n + m) * bytes ≤ 140737488355328)
  (k : ∀ (y : Sl) (u1 : World), MutL size E u0.heap.size u1 y (cs ++ news) → y.n = x.n + m → ExtX x u u1 → (∀ a, y.a = some a → (x.a = some a ∨ u.heap.size ≤ a.block)) → sym P ops w0 u0 true rest (S.set d (.v y.v)) u1 K)
  (hw : Wants ops o S := by exact zwh xj) (hd : o.dst = some d := by kernel_rfl) (hop : o.op = .call { callee := .builtin .append, args := #[s, src], argTypes := #[T, T] } := by rfl) (hf : freeB S d = true := by kernel_rfl)
  (hs : evO S s = some (.v x.v) := by rfl) (hx : evO S src = some (.v (.slice (some ⟨b2, off, none⟩) m c)) := by rfl) : sym P ops w0 u0 true ((o, p) :: rest) S u K := by
 obtain ⟨q1, q2, q3, q4⟩ := id hm0
 rcases q4 with q4 | ⟨b, all, g1, g2, g3, g4, g5⟩
 ·subst q4
  have hcs : cs = [] := List.eq_nil_of_length_eq_zero (by rw [q1]; simp)
  subst hcs
  have h63' : m ≤ maxLen := by have h9 : 0 + m ≤ maxLen := h63; omega
  have hby' : m * bytes ≤ 140737488355328 := by have h9 : (0 + m) * bytes ≤ _ := hbytes; rwa [Nat.zero_add] at h9
  refine sy_appD0 d (E := E) (z := z) news hT hi hzs hsz hl hnews h1 hm h63' hby' (fun g c1 cs1 u1 k1 k2 k3 k4 k5 k6 k7 k8 => ?_) hw hd hop hf hs hx
  refine k ⟨some ⟨g, 0, none⟩, m, c1⟩ u1 ⟨by simpa using hl, k1, k2, .inr ⟨g, cs1, rfl, k5, k3, by simpa using k4, k7⟩⟩ (by show m = 0 + m; omega) (k8.toX _) (fun a ha => .inr ?_)
  injection ha with ha; subst ha; exact k6
 have hs' : evO S s = some (.v (.slice (some ⟨b, 0, none⟩) x.n x.c)) := by rw [hs, ← g1]
 refine sy_appD d (E := E) (z := z) (n := x.n) (cap := x.c) (cs0 := all) (b := b) news hT hi hzs hsz hl hnews h1 hm h63 hbytes q2 q3 g3 g2 (.inl g5) (fun g c1 cs1 u1 k1 k2 k3 k4 k5 k6 k7 => ?_) hw hd hop hf hs' hx
 refine k ⟨some ⟨g, 0, none⟩, x.n + m, c1⟩ u1 ⟨by rw [List.length_append, q1, hl, Nat.add_mul], k1, k2, .inr ⟨g, cs1, rfl, k5, k3, by rw [k4, g4], ?_⟩⟩ rfl (k7.toX g1) (fun a ha => ?_)
 ·rcases k6 with k6 | k6
  ·rw [k6]; exact g5
  have h8 := zxa g2
  omega
 injection ha with ha; subst ha
 rcases k6 with k6 | k6
 ·subst k6; exact .inl g1
 exact .inr k6
end
namespace Nt
def fwdN (m i : Nat) : Int := if i = m then 0 else ((2 * m - i : Nat) : Int)
def nd1 (U : Int) (k : List Int) (m t : Nat) : List TL := [⟨fwdN m (m - t), U⟩, ⟨((m - t : Nat) : Int), -k.getD (m - t - 1) 0⟩]
def nd2 (U : Int) (k : List Int) (m i : Nat) : List TL := [⟨fwdN m i, k.getD i 0⟩, ⟨((i + 1 : Nat) : Int), U⟩]
def ndA (U : Int) (k : List Int) (m t : Nat) : List (List TL) := (List.range t).map (nd1 U k m)
def ndB (U : Int) (k : List Int) (m n : Nat) : List (List TL) := ndA U k m m ++ (List.range n).map (nd2 U k m)
theorem ndA_len (U : Int) (k : List Int) (m t : Nat) : (ndA U k m t).length = t := by unfold ndA; simp
theorem ndB_len (U : Int) (k : List Int) (m t : Nat) : (ndB U k m t).length = m + t := by unfold ndB; simp [ndA_len]
end Nt
section
variable {lo h g : Nat} {u u' : World} {x y z : Sl} {N : List (List TL)} {cs : List Value}
def Sep (x y : Sl) : Prop := ∀ a b, x.a = some a → y.a = some b → a.block ≠ b.block
theorem Sep.symm (h : Sep x y) : Sep y x := fun a b ha hb e => h b a hb ha e.symm
end
def NU (v : Value) : Prop := ∀ y, v ≠ .int .u32 y
def MutQ (k : Nat) (ty : TypeId) (lo : Nat) (u : World) (x : Sl) (cs : List Value) : Prop :=
 cs.length = x.n * k ∧ x.n ≤ x.c ∧ x.c ≤ maxLen ∧ (x = ⟨none, 0, 0⟩ ∨ ∃ b all, x.a = some ⟨b, 0, none⟩ ∧ u.heap[b]? = some (.cells (List.toArray all) ty (0, 0)) ∧ all.length = x.c * k ∧ all.take (x.n * k) = cs ∧ lo ≤ b ∧ ∀ v ∈ all, NU v)
section
variable {k lo lo' h b n c i j off : Nat} {ty t2 : TypeId} {u u' u'' v : World} {x y z : Sl} {cs cs' vs : List Value} {L : List RL} {r : RL} {q : Rat} {K : Nat}
theorem MutQ.mutL (m : MutQ k ty lo u x cs) : MutL k ty lo u x cs := ⟨m.1, m.2.1, m.2.2.1, m.2.2.2.imp id fun ⟨b, all, h1, h2, h3, h4, h5, _⟩ => ⟨b, all, h1, h2, h3, h4, h5⟩⟩
theorem MutQ.ext (m : MutQ k ty lo u x cs) (e : Ext u u') : MutQ k ty lo u' x cs :=
 ⟨m.1, m.2.1, m.2.2.1, m.2.2.2.imp id fun ⟨b, all, h1, h2, h3⟩ => ⟨b, all, h1, e.cells h2, h3⟩⟩
theorem MutQ.extT (m : MutQ k ty lo u x cs) (e : ExtT t2 u u') (ht : ty ≠ t2) : MutQ k ty lo u' x cs :=
 ⟨m.1, m.2.1, m.2.2.1, m.2.2.2.imp id fun ⟨b, all, h1, h2, h3⟩ => ⟨b, all, h1, e.vis _ _ _ ht h2, h3⟩⟩
theorem MutQ.extS (m : MutQ k ty lo u y cs) (e : ExtX x u u') (hs : Sep x y) : MutQ k ty lo u' y cs :=
 ⟨m.1, m.2.1, m.2.2.1, m.2.2.2.imp id fun ⟨b, all, h1, h2, h3⟩ => ⟨b, all, h1, e.vis _ _ (fun a ha hc => hs a _ ha h1 hc) h2 cells_not_hid, h3⟩⟩
theorem MutQ.low (m : MutQ k ty lo u x cs) (hl : lo' ≤ lo) : MutQ k ty lo' u x cs :=
 ⟨m.1, m.2.1, m.2.2.1, m.2.2.2.imp id fun ⟨b, all, h1, h2, h3, h4, h5, h6⟩ => ⟨b, all, h1, h2, h3, h4, Nat.le_trans hl h5, h6⟩⟩
theorem MutQ.nil (k : Nat) (ty : TypeId) (lo : Nat) (u : World) : MutQ k ty lo u sl0 [] := ⟨by simp [sl0], Nat.le_refl _, Nat.zero_le _, .inl rfl⟩
theorem MutQ.lit {cs : List Value} (hu : u.heap[b]? = some (.cells cs.toArray ty (0, 0))) (hl : cs.length = n * k) (hn : n ≤ maxLen) (hb : lo ≤ b) (hnu : ∀ v ∈ cs, NU v) : MutQ k ty lo u ⟨some ⟨b, 0, none⟩, n, n⟩ cs :=
 ⟨hl, Nat.le_refl _, hn, .inr ⟨b, cs, rfl, hu, hl, by rw [List.take_of_length_le (by show _ ≤ n * k; omega)], hb, hnu⟩⟩
theorem nu_bool (s : Bool) : NU (.bool s) := fun y e => by cases e
theorem nu_sl (a : Option Addr) (n c : Nat) : NU (.slice a n c) := fun y e => by cases e
theorem nu_rl (r : RL) : ∀ v ∈ r.cs, NU v := fun v hv => by
 simp [RL.cs] at hv
 rcases hv with rfl | rfl | rfl
 ·exact nu_bool _
 ·exact nu_sl _ _ _
 exact nu_sl _ _ _
theorem nu_rcs (L : List RL) : ∀ v ∈ rcs L, NU v := fun v hv => by
 obtain ⟨r, _, h⟩ := List.mem_flatMap.1 hv
 exact nu_rl r v h
theorem nu_sls (Rs : List Sl) : ∀ v ∈ Rs.map Sl.v, NU v := fun v hv => by
 obtain ⟨x, _, rfl⟩ := List.mem_map.1 hv
 exact nu_sl _ _ _
theorem MutQ.keep (m : MutQ k ty lo u x cs) (e : ExtX x u u') (h : RatN u r q K) : RatN u' r q K := by
 rcases m.2.2.2 with h1 | ⟨b, all, h1, h2, _, _, _, h6⟩
 ·refine h.ext ⟨e.size, fun q o ho hh => e.vis q o (fun a ha => by rw [h1] at ha; cases ha) ho hh⟩
 exact h.extB0 h2 h6 ⟨e.size, fun q o hq ho hh => e.vis q o (fun a ha hc => by rw [h1] at ha; injection ha with ha; subst ha; exact hq hc.symm) ho hh⟩
theorem MutQ.keeps {l : List Rat} (m : MutQ k ty lo u x cs) (e : ExtX x u u') (h : RatsN u L l K) : RatsN u' L l K := ⟨h.1, fun i hi => m.keep e (h.2 i hi)⟩
theorem setL_take {cs : List Value} (h : off + vs.length ≤ n) (hn : n ≤ cs.length) : (setL cs off vs).take n = setL (cs.take n) off vs := by
 unfold setL
 rw [List.take_take, Nat.min_eq_left xq, List.take_append, List.take_of_length_le (l := cs.take off ++ vs) zq, List.drop_take]
 congr 2
 simp
 rw [Nat.min_eq_left xq]
theorem nu_setL (h1 : ∀ v ∈ cs, NU v) (h2 : ∀ v ∈ vs, NU v) : ∀ v ∈ setL cs off vs, NU v := fun v hv => by
 unfold setL at hv
 rcases List.mem_append.1 hv with hv | hv
 ·rcases List.mem_append.1 hv with hv | hv
  ·exact h1 v (List.mem_of_mem_take hv)
  exact h2 v hv
 exact h1 v (List.mem_of_mem_drop hv)
end
section
variable {P : Program} {ops : Array Oper} {w0 : Base} {u0 : World} {S T : St} {B : Tmp → Nat} {a : Act} {w w' u u' u'' v : World} {o : Oper} {p : List Tmp} {rest : List (Oper × List Tmp)} {K : St → World → Prop}
theorem sy_storeQ {T ty : TypeId} {r : Tmp} {z : Operand} {v : Value} {agg : Bool} {n k lo off b : Nat} {cs : List Value} (x : Sl) (hm : MutQ k ty lo u x cs) (hmay : ∀ a, x.a = some a → MayB w0 u0 a.block) (hb : x.a = some ⟨b, 0, none⟩) (hT : TyIs P T agg n) (hl : off + n ≤ cs.length) (hnu : ∀ y ∈ v.cells.toList, NU y)
  (kk : ∀ u1, MutQ k ty lo u1 x (setL cs off v.cells.toList) → ExtX x u u1 → sym P ops w0 u0 true rest S u1 K)
  (hw : Wants ops o S := by exact zwh xj) (hd : o.dst = none := by kernel_rfl) (hop : o.op = .store T (.tmp r) z := by rfl) (hr : S.reg r = some (.v (.pointer (some ⟨b, off, none⟩))) := by rfl) (hz : evO S z = some (.v v) := by rfl)
  (hn : v.cells.size = n := by kernel_rfl) (hone : v.cells.toList.all Value.oneCell' = true := by kernel_rfl) : sym P ops w0 u0 true ((o, p) :: rest) S u K := by
 obtain ⟨q1, q2, q3, q4⟩ := id hm
 rcases q4 with q4 | ⟨b', all, g1, g2, g3, g4, g5, g6⟩
 ·subst q4; cases hb
 have hmb := hmay _ g1
 rw [hb] at g1; injection g1 with g1; injection g1 with g1 _ _; subst g1
 have hlv : v.cells.toList.length = n := by simpa using hn
 have hnk : x.n * k ≤ all.length := by rw [g3]; exact Nat.mul_le_mul_right _ q2
 refine sy_storeD (b := b) (off := off) (cs := all) (n := n) g2 hmb hT xq (fun u1 k1 k2 => ?_) hw hd hop hr hz hn hone
 refine kk u1 ⟨?_, q2, q3, .inr ⟨b, _, hb, k1, ?_, ?_, g5, nu_setL g6 hnu⟩⟩ (k2.toX hb)
 ·rw [setL_length xq]; exact q1
 ·rw [setL_length xq]; exact g3
 rw [setL_take xq hnk, g4]
end
section
variable {w k lo lo' h b n c i j off : Nat} {tO tR : TypeId} {u u' u'' v : World} {x y z : Sl} {Rs : List Sl} {Ls : List (List RL)} {L : List RL} {M : List (List Rat)} {l : List Rat} {r : RL} {q : Rat} {K K' : Nat}
theorem rcs_part {L : List RL} (h : j + n ≤ L.length) : ((rcs L).drop (j * 3)).take (n * 3) = rcs ((L.drop j).take n) := by
 have hd : ∀ (L : List RL) (j : Nat), (rcs L).drop (j * 3) = rcs (L.drop j) := by
  intro L
  induction L with
  | nil => intro j; simp [rcs]
  | cons r L ih =>
   intro j
   cases j with
   | zero => simp
   | succ j =>
    show (r.cs ++ rcs L).drop ((j + 1) * 3) = _
    rw [List.drop_succ_cons, ← ih j, Nat.succ_mul, Nat.add_comm, ← List.drop_drop]
    congr 1
 have ht : ∀ (L : List RL) (n : Nat), n ≤ L.length → (rcs L).take (n * 3) = rcs (L.take n) := by
  intro L
  induction L with
  | nil => intro n h; simp [rcs]
  | cons r L ih =>
   intro n h
   cases n with
   | zero => simp [rcs]
   | succ n =>
    show (r.cs ++ rcs L).take ((n + 1) * 3) = r.cs ++ rcs (L.take n)
    rw [List.take_append, List.take_of_length_le (by simp [RL.cs]; omega), ← ih n (by simpa using h)]
    congr 2
    simp [RL.cs]; omega
 rw [hd, ht _ _ (by rw [List.length_drop]; omega)]
theorem MutQ.el {ty : TypeId} (hw : 0 < w) (m : MutQ (w * 3) ty lo u y (rcs L)) (hj : j * w + w ≤ L.length) : ∃ b, y.a = some ⟨b, 0, none⟩ ∧ ∀ q, q < (rcs ((L.drop (j * w)).take w)).length → u.cell? ⟨b, 0 + j * (w * 3) + q, none⟩ = (rcs ((L.drop (j * w)).take w))[q]? := by
 have hl : (rcs L).length = L.length * 3 := zyy
 obtain ⟨b, h1, _⟩ := m.mutL.cell (j := 0) (by rw [hl]; omega)
 refine ⟨b, h1, fun q hq => ?_⟩
 have hq' : q < w * 3 := by
  rw [zyy, List.length_take, List.length_drop, Nat.min_eq_left xq] at hq; exact hq
 have hlt : j * (w * 3) + q < (rcs L).length := by
  rw [hl]
  have : j * (w * 3) = (j * w) * 3 := by rw [Nat.mul_assoc]
  omega
 obtain ⟨b2, h2, h3⟩ := m.mutL.cell (j := j * (w * 3) + q) hlt
 rw [h1] at h2; injection h2 with h2; injection h2 with h2 _ _; subst h2
 rw [Nat.add_assoc, h3, ← rcs_part hj, List.getElem?_take_of_lt hq', List.getElem?_drop, Nat.mul_assoc]
theorem getD_set_same {α : Type} {l : List α} {a z : α} (h : i < l.length) : (l.set i a).getD i z = a := by simp [List.getD_eq_getElem?_getD, h]
theorem getD_set_other {α : Type} {l : List α} {a z : α} (h : i ≠ j) : (l.set i a).getD j z = l.getD j z := by simp [List.getD_eq_getElem?_getD, h]
theorem setL_map {Rs : List Sl} (h : i < Rs.length) : setL (Rs.map Sl.v) (0 + i * 1) (Value.slice y.a y.n y.c).cells.toList = (Rs.set i y).map Sl.v := by
 have := setL_cons (cs := Rs.map Sl.v) (off := i) (v := y.v) (vs := []) (by rw [List.length_map]; exact h)
 rw [setL_nil] at this
 rw [List.map_set, Nat.zero_add, Nat.mul_one]
 exact this.symm
theorem rats_set {T : List Rat} (h : RatsN u L T K) (hj : j < T.length) (hr : RatN u r q K) : RatsN u (L.set j r) (T.set j q) K := by
 refine ⟨by rw [List.length_set, List.length_set]; exact h.1, fun i hi => ?_⟩
 rw [List.length_set] at hi
 by_cases e : j = i
 ·subst e; rw [getD_set_same (by rw [h.1]; exact hj), getD_set_same hj]; exact hr
 rw [getD_set_other e, getD_set_other e]; exact h.2 i hi
theorem made_sls (n : Nat) : (madeCells (Value.slice none 0 0).cells (n * 1)).toList = (List.replicate n sl0).map Sl.v := by
 unfold madeCells
 rw [List.map_replicate]
 refine List.eq_replicate_iff.2 ⟨by simp, fun b hb => ?_⟩
 simp at hb
 obtain ⟨x, _, rfl⟩ := hb
 have s1 : (Value.slice none 0 0).cells.size = 1 := rfl
 rw [s1, Nat.mod_one]; rfl
theorem MutQ.el1 {ty : TypeId} (m : MutQ (1 * 3) ty lo u y (rcs L)) (hj : j < L.length) : ∃ b, y.a = some ⟨b, 0, none⟩ ∧ ∀ q, q < (L.getD j rl0).cs.length → u.cell? ⟨b, 0 + j * 3 + q, none⟩ = (L.getD j rl0).cs[q]? := by
 obtain ⟨b, h1, h2⟩ := m.el (j := j) yj xq
 refine ⟨b, h1, fun q hq => ?_⟩
 have e : (L.drop (j * 1)).take 1 = [L.getD j rl0] := by
  rw [Nat.mul_one, List.getD_eq_getElem?_getD, List.getElem?_eq_getElem hj, List.drop_eq_getElem_cons hj]; rfl
 rw [e] at h2
 have e2 : rcs [L.getD j rl0] = (L.getD j rl0).cs := by simp [rcs]
 rw [e2] at h2
 exact h2 q hq
end
namespace Nt
section
variable {l m : List Rat} {D E A B n : Nat}
theorem len_of_co {a : Nat} (h : ∀ i, a ≤ i → Nt.co l i = 0) : (trimQ l).length ≤ a := Pol.len_le (p := Pol.mk' l) fun i hi => by rw [Pol.mk_c]; exact h i hi
theorem zxu {a b : Nat} (h1 : l.length ≤ a) (h2 : m.length ≤ b) : (trimQ (mulQ l m)).length ≤ a + b - 1 := len_of_co fun i hi => mulQ_far xq
end
end Nt
end Go.Proofs.YtgmkhhfbckjaeaaGreat
namespace Go.Proofs.YtgmkhhfbckjaeaaGreat.Nt
open Go.RowKit
open Pol
def lin (r : Rat) : Pol := mk' [-r, ((1 : Int) : Rat)]
end Go.Proofs.YtgmkhhfbckjaeaaGreat.Nt
namespace Go.Proofs.YtgmkhhfbckjaeaaGreat
namespace Nt
section
variable {a1 a2 b1 b2 c1 c2 d1 d2 : Rat}
def hl (a b c d : Rat) : Rat := lo (lo a b) (lo c d)
def hh (a b c d : Rat) : Rat := hi (hi a b) (hi c d)
end
end Nt
end Go.Proofs.YtgmkhhfbckjaeaaGreat
namespace Go.Proofs.YtgmkhhfbckjaeaaGreat.Nt
open Go.RowKit
open Pol
section
variable {l m W : List Rat} {x q : Rat} {i A B C : Nat}
def hp (q : Rat) (i : Nat) : Rat := (((q.den ^ (i - 1) : Nat) : Int) : Rat)
def hs (W : List Rat) (q : Rat) (i : Nat) : Rat := hp q i * evL (W.drop (W.length - i)) q
end
end Go.Proofs.YtgmkhhfbckjaeaaGreat.Nt
namespace Go.Proofs.YtgmkhhfbckjaeaaGreat
open Go.RowKit
def PasOK (f : Int) (p : PL) : Prop := (p.o = 1 ∧ p.h = 0 ∨ p.o = 2) ∧ -Nt.p2i f < p.g ∧ p.g < Nt.p2i f ∧ -Nt.p2i f < p.h ∧ p.h < Nt.p2i f
namespace Nt
def wq (z f : Int) : Rat := ((z : Int) : Rat) / ((p2i f : Int) : Rat)
end Nt
open Go.ChangeShapes Go.WideShapes
theorem wrap64_ex (n : Int) : ∃ z, IntKind.i64.wrap n = z ∧ -9223372036854775808 ≤ z ∧ z ≤ 9223372036854775807 := ⟨_, rfl, by rw [IntKind.wrap_i64]; omega⟩
theorem int_one (z : Int) : ∀ v ∈ [Value.int .i64 z], v.oneCell' = true := fun v hv => by
 rcases List.mem_cons.1 hv with rfl | hv
 ·rfl
 cases hv
end Go.Proofs.YtgmkhhfbckjaeaaGreat
namespace Go.Proofs.YtgmkhhfbckjaeaaGreat
open Go.RowKit
def Rows (k : Nat) (L : List (List Int)) : Prop := ∀ p ∈ L, p.length = k
def kcs (L : List (List Int)) : List Value := L.flatMap ics
def gi (L : List (List Int)) (i j : Nat) : Int := (L.getD i []).getD j 0
section
variable {u u' : World} {L M : List (List Int)} {p : List Int} {k n i j c b off : Nat} {x : Sl} {X : List Value} {a1 a2 a3 a4 a5 : Int}
theorem kcs_cons : kcs (p :: L) = ics p ++ kcs L := rfl
theorem kcs_app : kcs (L ++ M) = kcs L ++ kcs M := by simp [kcs]
theorem Rows.tail (h : Rows k (p :: L)) : Rows k L := fun q hq => h q (List.mem_cons_of_mem _ hq)
theorem Rows.head (h : Rows k (p :: L)) : p.length = k := h p (List.mem_cons_self ..)
theorem kcs_len (h : Rows k L) : (kcs L).length = L.length * k := by
 induction L with
 | nil => simp [kcs]
 | cons p L ih => rw [kcs_cons, List.length_append, ih h.tail, zwk, h.head, List.length_cons, Nat.succ_mul, Nat.add_comm]
theorem Rows.get (h : Rows k L) (hi : i < L.length) : (L.getD i []).length = k := by
 rw [List.getD_eq_getElem?_getD, List.getElem?_eq_getElem hi]
 exact h _ (List.getElem_mem hi)
theorem Rows.drop (h : Rows k L) : Rows k (L.drop n) := fun q hq => h q (List.mem_of_mem_drop hq)
theorem rows_rep (n : Nat) (hp : p.length = k) : Rows k (List.replicate n p) := fun q hq => by rw [(List.mem_replicate.1 hq).2]; exact hp
theorem kcs_drop (h : Rows k L) : (kcs L).drop (n * k) = kcs (L.drop n) := by
 induction n generalizing L with
 | zero => simp
 | succ n ih =>
  cases L with
  | nil => simp [kcs]
  | cons p L => rw [kcs_cons, show (n + 1) * k = (ics p).length + n * k by rw [zwk, h.head, Nat.succ_mul, Nat.add_comm], List.drop_append, Nat.add_sub_cancel_left, ih h.tail, List.drop_of_length_le xq]; simp
theorem kcs_take (h : Rows k L) : (kcs L).take (n * k) = kcs (L.take n) := by
 induction n generalizing L with
 | zero => simp [kcs]
 | succ n ih =>
  cases L with
  | nil => simp [kcs]
  | cons p L => rw [kcs_cons, show (n + 1) * k = (ics p).length + n * k by rw [zwk, h.head, Nat.succ_mul, Nat.add_comm], List.take_append, Nat.add_sub_cancel_left, ih h.tail, List.take_of_length_le xq]; rfl
theorem kcs_get (h : Rows k L) (hi : i < L.length) : ((kcs L).drop (i * k)).take k = ics (L.getD i []) := by
 have hg := h.get hi
 rw [kcs_drop h, List.drop_eq_getElem_cons hi, kcs_cons]
 have e : L[i] = L.getD i [] := by rw [List.getD_eq_getElem?_getD, List.getElem?_eq_getElem hi]; rfl
 rw [e, List.take_append_of_le_length (by rw [zwk]; omega), List.take_of_length_le (by rw [zwk]; omega)]
theorem ics_one : ∀ v ∈ ics p, v.oneCell' = true := fun v hv => by
 unfold ics at hv
 obtain ⟨z, _, rfl⟩ := List.mem_map.1 hv; rfl
theorem kcs_one : ∀ v ∈ kcs L, v.oneCell' = true := fun v hv => by
 obtain ⟨p, _, hp⟩ := List.mem_flatMap.1 hv
 exact ics_one v hp
theorem part_k (h : Rows k L) (hi : i < L.length) {off : Nat} (ho : off = i * k) : PartIs (kcs L ++ X) off true k (.v (.agg (ics (L.getD i [])).toArray)) := by
 subst ho
 have hl := kcs_len h
 have : (i + 1) * k ≤ L.length * k := Nat.mul_le_mul_right _ hi
 rw [Nat.succ_mul] at this
 refine ⟨by rw [List.length_append, hl]; omega, ?_⟩
 rw [← kcs_get h hi, List.drop_append_of_le_length xq, List.take_append_of_le_length (by rw [List.length_drop]; omega)]
theorem row_eq2 (h : p.length = 2) : p = [p.getD 0 0, p.getD 1 0] := by
 match p, h with
 | [a, b], _ => rfl
theorem row_eq3 (h : p.length = 3) : p = [p.getD 0 0, p.getD 1 0, p.getD 2 0] := by
 match p, h with
 | [a, b, c], _ => rfl
theorem row_eq5 (h : p.length = 5) : p = [p.getD 0 0, p.getD 1 0, p.getD 2 0, p.getD 3 0, p.getD 4 0] := by
 match p, h with
 | [a, b, c, d, e], _ => rfl
theorem ics2 (h : Rows 2 L) (hi : i < L.length) : ics (L.getD i []) = [.int .i64 (gi L i 0), .int .i64 (gi L i 1)] := by rw [row_eq2 (h.get hi)]; rfl
theorem ics3 (h : Rows 3 L) (hi : i < L.length) : ics (L.getD i []) = [.int .i64 (gi L i 0), .int .i64 (gi L i 1), .int .i64 (gi L i 2)] := by rw [row_eq3 (h.get hi)]; rfl
theorem ics5 (h : Rows 5 L) (hi : i < L.length) : ics (L.getD i []) = [.int .i64 (gi L i 0), .int .i64 (gi L i 1), .int .i64 (gi L i 2), .int .i64 (gi L i 3), .int .i64 (gi L i 4)] := by rw [row_eq5 (h.get hi)]; rfl
theorem part_k2 (h : Rows 2 L) (hi : i < L.length) {off : Nat} (ho : off = i * 2) : PartIs (kcs L ++ X) off true 2 (.v (.agg #[.int .i64 (gi L i 0), .int .i64 (gi L i 1)])) := by
 have := part_k (X := X) h hi ho
 rw [ics2 h hi] at this; exact this
theorem part_k3 (h : Rows 3 L) (hi : i < L.length) {off : Nat} (ho : off = i * 3) : PartIs (kcs L ++ X) off true 3 (.v (.agg #[.int .i64 (gi L i 0), .int .i64 (gi L i 1), .int .i64 (gi L i 2)])) := by
 have := part_k (X := X) h hi ho
 rw [ics3 h hi] at this; exact this
theorem setL_k (h : Rows k L) (hp : p.length = k) (hi : i < L.length) {off : Nat} (ho : off = i * k) : setL (kcs L ++ X) off (ics p) = kcs (L.set i p) ++ X := by
 subst ho
 have hl := kcs_len h
 have : (i + 1) * k ≤ L.length * k := Nat.mul_le_mul_right _ hi
 have e : i * k + (ics p).length = (i + 1) * k := by rw [zwk, hp, Nat.succ_mul]
 rw [Nat.succ_mul] at this
 unfold setL
 rw [e, List.take_append_of_le_length xq, List.drop_append_of_le_length (by rw [Nat.succ_mul]; omega), kcs_take h, kcs_drop h, List.set_eq_take_append_cons_drop, if_pos hi, kcs_app, kcs_cons]
 simp
theorem setL_k2 (h : Rows 2 L) (hi : i < L.length) {off : Nat} (ho : off = i * 2) : setL (kcs L ++ X) off (Value.agg #[.int .i64 a1, .int .i64 a2]).cells.toList = kcs (L.set i [a1, a2]) ++ X := setL_k (p := [a1, a2]) h rfl hi ho
theorem setL_k5 (h : Rows 5 L) (hi : i < L.length) {off : Nat} (ho : off = i * 5) : setL (kcs L ++ X) off (Value.agg #[.int .i64 a1, .int .i64 a2, .int .i64 a3, .int .i64 a4, .int .i64 a5]).cells.toList = kcs (L.set i [a1, a2, a3, a4, a5]) ++ X := setL_k (p := [a1, a2, a3, a4, a5]) h rfl hi ho
def IrV (k : Nat) (u : World) (x : Sl) (L : List (List Int)) : Prop :=
 Rows k L ∧ x.n = L.length ∧ x.n ≤ x.c ∧ x.c ≤ maxLen ∧ (0 < x.n → ∃ b o, x.a = some ⟨b, o, none⟩ ∧ b < u.heap.size ∧ ∀ j, j < L.length * k → u.cell? ⟨b, o + j, none⟩ = (kcs L)[j]?)
theorem IrV.ext (h : IrV k u x L) (e : Ext u u') : IrV k u' x L := by
 obtain ⟨h0, h1, h2, h3, h4⟩ := h
 refine ⟨h0, h1, h2, h3, fun hp => ?_⟩
 obtain ⟨b, o, g1, g2, g3⟩ := h4 hp
 refine ⟨b, o, g1, Nat.lt_of_lt_of_le g2 e.size, fun j hj => ?_⟩
 have hk := g3 j hj
 have hj' : j < (kcs L).length := by rw [kcs_len h0]; exact hj
 rw [List.getElem?_eq_getElem hj'] at hk ⊢
 exact e.cell hk
theorem IrV.rows (h : IrV k u x L) : Rows k L := h.1
theorem IrV.len (h : IrV k u x L) : x.n = L.length := h.2.1
theorem ir_at (h : IrV k u x L) (hi : i < L.length) : ∃ b o, x.a = some ⟨b, o, none⟩ ∧ b < u.heap.size ∧ ∀ j, j < (ics (L.getD i [])).length → u.cell? ⟨b, o + i * k + j, none⟩ = (ics (L.getD i []))[j]? := by
 obtain ⟨h0, h1, h2, h3, h4⟩ := h
 obtain ⟨b, o, g1, g2, g3⟩ := h4 xq
 refine ⟨b, o, g1, g2, fun j hj => ?_⟩
 rw [zwk, h0.get hi] at hj
 have : (i + 1) * k ≤ L.length * k := Nat.mul_le_mul_right _ hi
 rw [Nat.succ_mul] at this
 rw [Nat.add_assoc, g3 (i * k + j) xq, ← kcs_get h0 hi, List.getElem?_take_of_lt hj, List.getElem?_drop]
theorem ir_at5 (h : IrV 5 u x L) (hi : i < L.length) : ∃ b o, x.a = some ⟨b, o, none⟩ ∧ ∀ j, j < [Value.int .i64 (gi L i 0), .int .i64 (gi L i 1), .int .i64 (gi L i 2), .int .i64 (gi L i 3), .int .i64 (gi L i 4)].length → u.cell? ⟨b, o + i * 5 + j, none⟩ = [Value.int .i64 (gi L i 0), .int .i64 (gi L i 1), .int .i64 (gi L i 2), .int .i64 (gi L i 3), .int .i64 (gi L i 4)][j]? := by
 obtain ⟨b, o, h1, h2, h3⟩ := ir_at h hi
 rw [ics5 h.rows hi] at h3
 exact ⟨b, o, h1, h3⟩
theorem ir_row (h : IrV k u x L) (hi : i < L.length) (hk : k ≤ maxLen) : ∃ b o, x.a = some ⟨b, o, none⟩ ∧ SlR .i64 u (some ⟨b, o + i * k, none⟩) k k (L.getD i []) := by
 obtain ⟨b, o, h1, h2, h3⟩ := ir_at h hi
 have hg := h.rows.get hi
 refine ⟨b, o, h1, hg, Nat.le_refl _, hk, fun hp => ⟨b, o + i * k, rfl, h2, fun j hj => ?_⟩⟩
 rw [h3 j (by rw [zwk]; omega), ics_at xq]
 rw [List.getD_eq_getElem?_getD]
theorem ir_data {cs : List Value} {t : TypeId} (h : u.heap[b]? = some (.cells cs.toArray t (0, 0))) (hR : Rows k L) (hc : cs.take (n * k) = kcs L) (hn : n = L.length) (hl : cs.length = c * k) (hnc : n ≤ c) (hm : c ≤ maxLen) : IrV k u ⟨some ⟨b, 0, none⟩, n, c⟩ L := by
 refine ⟨hR, hn, hnc, hm, fun _ => ⟨b, 0, rfl, zxa h, fun j hj => ?_⟩⟩
 rw [Nat.zero_add, cells_at h, ← hc, List.getElem?_take_of_lt (by rw [hn]; exact hj)]; simp
theorem made_k {z : List Int} (hz : z.length = k) (hk : 0 < k) (n : Nat) : (madeCells (ics z).toArray (n * k)).toList = kcs (List.replicate n z) := by
 apply List.ext_getElem?
 intro j
 have hl := kcs_len (rows_rep (k := k) n hz)
 rw [List.length_replicate] at hl
 by_cases hj : j < n * k
 ·have hq : j / k < n := Nat.div_lt_of_lt_mul (by rw [Nat.mul_comm]; exact hj)
  have hr := Nat.mod_lt j hk
  have hg := kcs_get (rows_rep (k := k) n hz) (i := j / k) (by simpa using hq)
  have e1 : (kcs (List.replicate n z))[j]? = (((kcs (List.replicate n z)).drop (j / k * k)).take k)[j % k]? := by
   rw [List.getElem?_take_of_lt hr, List.getElem?_drop]
   congr 1
   have := Nat.div_add_mod j k
   rw [Nat.mul_comm] at this; omega
  rw [e1, hg, List.getD_eq_getElem?_getD, List.getElem?_replicate, if_pos hq]
  unfold madeCells
  have hzl : (ics z).length = k := by rw [zwk, hz]
  simp [hj, hzl]
  rw [List.getElem?_eq_getElem (by rw [hzl]; exact hr)]
  simp
 rw [List.getElem?_eq_none (by unfold madeCells; simp; omega), List.getElem?_eq_none xq]
end
section
variable {P : Program} {ops : Array Oper} {w0 : Base} {u0 : World} {S : St} {u : World} {o : Oper} {p : List Tmp} {seq : Bool} {rest : List (Oper × List Tmp)} {K : St → World → Prop}
theorem sy_subO3 (d : Tmp) {T : TypeId} {r t : Tmp} {g h q : Operand} {off n c : Nat} {k1 k2 k3 : IntKind} {i1 i2 i3 : Int} (lo hi mx : Nat) {sz : Nat} (hT : SlIs P T sz) (e1 : i1 = lo) (e2 : i2 = hi) (e3 : i3 = mx) (h1 : lo ≤ hi) (h2 : hi ≤ mx) (h3 : mx ≤ c)
  (kk : ∀ off', off' = (if mx = lo then off else off + lo * sz) → sym P ops w0 u0 seq rest (S.set d (.slc t off' (hi - lo) (mx - lo))) u K) (hw : Wants ops o S := by exact zwh xj) (hd : o.dst = some d := by kernel_rfl) (hop : o.op = .slice T (.tmp r) (some g) (some h) (some q) := by rfl) (hf : freeB S d = true := by kernel_rfl)
  (hx : S.reg r = some (.slc t off n c) := by rfl) (hg : evO S g = some (.v (.int k1 i1)) := by rfl) (hh : evO S h = some (.v (.int k2 i2)) := by rfl) (hq : evO S q = some (.v (.int k3 i3)) := by rfl) : sym P ops w0 u0 seq ((o, p) :: rest) S u K := by
 subst e1 e2 e3
 have kk := kk _ rfl
 obtain ⟨E, agg, hu, hE⟩ := hT
 have hl : r ∈ o.looksAt ops := List.mem_append_left _ (List.mem_filterMap.2 ⟨.tmp r, by rw [hop]; simp [Op.operands], rfl⟩)
 refine .inl ⟨by rw [hop]; exact (by decide : (0 : Nat) ≠ 2), .set (.slc t (if mx = lo then off else off + lo * sz) (hi - lo) (mx - lo)), ⟨zxz hd hf, .inl ⟨(fun s hs => ⟨r, hl, _, hx, hs⟩), fun B a w u' hr he hdt => ⟨hw B a hr, ?_⟩⟩⟩, ?_⟩
 ·have e1 : (execOp a.eval o).run P w = (do pure (Next.value (← Instr.sliceAt T (a.eval (.tmp r)) (some (a.eval g)) (some (a.eval h)) (some (a.eval q)))) : Sem Next).run P w := by unfold execOp; rw [hop]; rfl
  rw [e1, hr.eval hx, ev_eval hr hg, ev_eval hr hh, ev_eval hr hq]
  refine run_val ?_
  show (Instr.sliceAt T (.slice (some ⟨B t, off, none⟩) n c) (some (.int k1 lo)) (some (.int k2 hi)) (some (.int k3 mx))).run P w = .ok (.slice (some ⟨B t, if mx = lo then off else off + lo * sz, none⟩) (hi - lo) (mx - lo)) w
  have hs := (hE w).2
  by_cases e : mx = lo
  ·simp [Instr.sliceAt, Instr.slice, Instr.sliceBounds, Instr.sliceBound, asIntOf, run_underlying hu, go_sem, hs, e]
   have : hi = lo := by omega
   subst this
   simp; omega
  simp [Instr.sliceAt, Instr.slice, Instr.sliceBounds, Instr.sliceBound, asIntOf, run_underlying hu, go_sem, hs, e, h1, h2, h3, Addr.add]
 show sym P ops w0 u0 seq rest (S.put o.dst (some _)) u K
 rw [hd]; exact kk
theorem sy_tailO (d : Tmp) {T : TypeId} {r t : Tmp} {g : Operand} {off n c : Nat} {k1 : IntKind} {i1 : Int} (lo : Nat) {sz : Nat} (hT : SlIs P T sz) (e1 : i1 = lo) (h1 : lo ≤ n) (h2 : n ≤ c)
  (kk : ∀ off', off' = (if c = lo then off else off + lo * sz) → sym P ops w0 u0 seq rest (S.set d (.slc t off' (n - lo) (c - lo))) u K) (hw : Wants ops o S := by exact zwh xj) (hd : o.dst = some d := by kernel_rfl) (hop : o.op = .slice T (.tmp r) (some g) none none := by rfl) (hf : freeB S d = true := by kernel_rfl)
  (hx : S.reg r = some (.slc t off n c) := by rfl) (hg : evO S g = some (.v (.int k1 i1)) := by rfl) : sym P ops w0 u0 seq ((o, p) :: rest) S u K := by
 subst e1
 have kk := kk _ rfl
 obtain ⟨E, agg, hu, hE⟩ := hT
 have hl : r ∈ o.looksAt ops := List.mem_append_left _ (List.mem_filterMap.2 ⟨.tmp r, by rw [hop]; simp [Op.operands], rfl⟩)
 refine .inl ⟨by rw [hop]; exact (by decide : (0 : Nat) ≠ 2), .set (.slc t (if c = lo then off else off + lo * sz) (n - lo) (c - lo)), ⟨zxz hd hf, .inl ⟨(fun s hs => ⟨r, hl, _, hx, hs⟩), fun B a w u' hr he hdt => ⟨hw B a hr, ?_⟩⟩⟩, ?_⟩
 ·have e1 : (execOp a.eval o).run P w = (do pure (Next.value (← Instr.sliceAt T (a.eval (.tmp r)) (some (a.eval g)) none none)) : Sem Next).run P w := by unfold execOp; rw [hop]; rfl
  rw [e1, hr.eval hx, ev_eval hr hg]
  refine run_val ?_
  show (Instr.sliceAt T (.slice (some ⟨B t, off, none⟩) n c) (some (.int k1 lo)) none none).run P w = .ok (.slice (some ⟨B t, if c = lo then off else off + lo * sz, none⟩) (n - lo) (c - lo)) w
  have hs := (hE w).2
  by_cases e : c = lo
  ·simp [Instr.sliceAt, Instr.slice, Instr.sliceBounds, Instr.sliceBound, asIntOf, run_underlying hu, go_sem, hs, e, h1]
  simp [Instr.sliceAt, Instr.slice, Instr.sliceBounds, Instr.sliceBound, asIntOf, run_underlying hu, go_sem, hs, e, h1, Addr.add]
 show sym P ops w0 u0 seq rest (S.put o.dst (some _)) u K
 rw [hd]; exact kk
theorem sy_subO2 (d : Tmp) {T : TypeId} {r t : Tmp} {g h : Operand} {off n c : Nat} {k1 k2 : IntKind} {i1 i2 : Int} (lo hi : Nat) {sz : Nat} (hT : SlIs P T sz) (e1 : i1 = lo) (e2 : i2 = hi) (h1 : lo ≤ hi) (h2 : hi ≤ c)
  (kk : ∀ off', off' = (if c = lo then off else off + lo * sz) → sym P ops w0 u0 seq rest (S.set d (.slc t off' (hi - lo) (c - lo))) u K) (hw : Wants ops o S := by exact zwh xj) (hd : o.dst = some d := by kernel_rfl) (hop : o.op = .slice T (.tmp r) (some g) (some h) none := by rfl) (hf : freeB S d = true := by kernel_rfl)
  (hx : S.reg r = some (.slc t off n c) := by rfl) (hg : evO S g = some (.v (.int k1 i1)) := by rfl) (hh : evO S h = some (.v (.int k2 i2)) := by rfl) : sym P ops w0 u0 seq ((o, p) :: rest) S u K := by
 subst e1 e2
 have kk := kk _ rfl
 obtain ⟨E, agg, hu, hE⟩ := hT
 have hl : r ∈ o.looksAt ops := List.mem_append_left _ (List.mem_filterMap.2 ⟨.tmp r, by rw [hop]; simp [Op.operands], rfl⟩)
 refine .inl ⟨by rw [hop]; exact (by decide : (0 : Nat) ≠ 2), .set (.slc t (if c = lo then off else off + lo * sz) (hi - lo) (c - lo)), ⟨zxz hd hf, .inl ⟨(fun s hs => ⟨r, hl, _, hx, hs⟩), fun B a w u' hr he hdt => ⟨hw B a hr, ?_⟩⟩⟩, ?_⟩
 ·have e1 : (execOp a.eval o).run P w = (do pure (Next.value (← Instr.sliceAt T (a.eval (.tmp r)) (some (a.eval g)) (some (a.eval h)) none)) : Sem Next).run P w := by unfold execOp; rw [hop]; rfl
  rw [e1, hr.eval hx, ev_eval hr hg, ev_eval hr hh]
  refine run_val ?_
  show (Instr.sliceAt T (.slice (some ⟨B t, off, none⟩) n c) (some (.int k1 lo)) (some (.int k2 hi)) none).run P w = .ok (.slice (some ⟨B t, if c = lo then off else off + lo * sz, none⟩) (hi - lo) (c - lo)) w
  have hs := (hE w).2
  by_cases e : c = lo
  ·subst e
   have : hi = c := by omega
   subst this
   simp [Instr.sliceAt, Instr.slice, Instr.sliceBounds, Instr.sliceBound, asIntOf, run_underlying hu, go_sem, hs]
  simp [Instr.sliceAt, Instr.slice, Instr.sliceBounds, Instr.sliceBound, asIntOf, run_underlying hu, go_sem, hs, e, h1, h2, Addr.add]
 show sym P ops w0 u0 seq rest (S.put o.dst (some _)) u K
 rw [hd]; exact kk
theorem sy_appT (d : Tmp) {T E : TypeId} {s x : Operand} {z : Value} {size bytes : Nat} {off m c t n cap : Nat} {cs0 : List Value} (hT : P.underlying T = some (.slice E)) (hi : (P.info? E).map (fun i => (i.zero, i.size, i.bytes)) = some (some z, size, bytes))
  (hcl : cs0.length = cap * size) (hoff : off + m * size ≤ cs0.length) (hnm : n + m ≤ cap) {ns : List Value} (hns : (cs0.drop off).take (m * size) = ns) (h1 : ∀ v ∈ ns, v.oneCell' = true)
  (k : sym P ops w0 u0 seq rest ((S.setVar t ⟨E, setL cs0 (n * size) ns⟩).set d (.slc t 0 (n + m) cap)) u K)
  (hw : Wants ops o S := by exact zwh xj) (hd : o.dst = some d := by kernel_rfl) (hop : o.op = .call { callee := .builtin .append, args := #[s, x], argTypes := #[T, T] } := by rfl) (hf : freeB S d = true := by kernel_rfl)
  (hs : evO S s = some (.slc t 0 n cap) := by rfl) (hv : S.var t = some ⟨E, cs0⟩ := by rfl) (hx : evO S x = some (.slc t off m c) := by rfl) : sym P ops w0 u0 seq ((o, p) :: rest) S u K := by
 subst hns
 obtain ⟨inf, aa, hz, hsz, hby⟩ := info_parts hi
 refine .inr (.inr (.inl ⟨.inr ⟨by rw [hop]; rfl, by rw [hop]; rfl⟩, fun B a w u' he hrep => ⟨hw B a hrep.regs, ?_⟩⟩))
 obtain ⟨v1, v2, v3⟩ := hrep.var t _ hv
 have hnl : n * size + ((cs0.drop off).take (m * size)).length ≤ cs0.length := by
  rw [List.length_take, List.length_drop, hcl]
  have : (n + m) * size ≤ cap * size := Nat.mul_le_mul_right _ hnm
  rw [Nat.add_mul] at this
  omega
 obtain ⟨w', k1, k2, k3⟩ := run_storeCells (P := P) (b := B t) (ty := E) (base := n * size) ((cs0.drop off).take (m * size)) 0 w cs0 v1 (by simpa using hnl) h1
 rw [Nat.add_zero] at k2
 have hld : (loadCells ⟨B t, off, none⟩ (m * size)).run P w = .ok ((cs0.drop off).take (m * size)).toArray w := by
  have := run_loadCells (P := P) (w := w) (b := B t) (l := (cs0.drop off).take (m * size)) (m * size) off #[] 0 (fun j hj => by
   rw [Nat.add_zero, cells_at v1, List.getElem?_take_of_lt xq, List.getElem?_drop]; simp) (by rw [List.length_take, List.length_drop]; omega)
  unfold loadCells
  rw [this]
  simp [List.take_take]
 have hrun : (Builtin.append_ #[T, T] o.type #[.slice (some ⟨B t, 0, none⟩) n cap, .slice (some ⟨B t, off, none⟩) m c]).run P w = .ok (.slice (some ⟨B t, 0, none⟩) (n + m) cap) w' := by
  have ha : (⟨B t, 0, none⟩ : Addr).add (n * size) = ⟨B t, n * size, none⟩ := by
   simp only [Addr.add, Nat.zero_add]; split
   ·rename_i h; rw [h]
   rfl
  simp [Builtin.append_, run_underlying hT, sizeOf, typeInfo, aa, hsz, hnm, Builtin.lenOf, Builtin.firstCells, hld, ha, k1]
 unfold Oper.wp execOp
 simp only [hop, resolve, invoke, builtin, Sem.run_bind, Sem.run_pure, Result.andThen_ok, List.map_toArray, List.map_cons, List.map_nil, ev_of hrep.regs hs, ev_of hrep.regs hx, SV.conc, hrun]
 have hr1 := hrep.store (V' := ⟨E, setL cs0 (n * size) ((cs0.drop off).take (m * size))⟩) hv k2 k3
 have hr2 := hr1.set (d := o.dst) (x := some (.slc t 0 (n + m) cap)) (v := .slice (some ⟨B t, 0, none⟩) (n + m) cap) (fun s hs => (zxz hd hf s hs).1) (fun z e => by injection e with e; rw [← e]; rfl) (fun z t' e ht => by injection e with e; rw [← e] at ht; injection ht with ht; subst ht; exact ⟨_, zxc _ _ _⟩)
 show ∃ S' B' u'' u2, Rep w0 u0 S' B' (a.put o.dst _) w' u'' ∧ _
 refine ⟨_, B, u', u, hr2, fun _ => Ext.refl _, fun _ => Ext.refl _, he, ?_⟩
 rw [hd]; exact k
theorem sy_clear1 {T E : TypeId} {x : Operand} {z : Value} {size bytes : Nat} {off m c t : Nat} {cs0 zs : List Value} (hT : P.underlying T = some (.slice E)) (hi : (P.info? E).map (fun i => (i.zero, i.size, i.bytes)) = some (some z, size, bytes)) (hm : m = 1) (hzs : (Builtin.zeroCells z.cells 1).toList = zs) (hoff : off + zs.length ≤ cs0.length) (h1 : ∀ v ∈ zs, v.oneCell' = true)
  (k : sym P ops w0 u0 true rest (S.setVar t ⟨E, setL cs0 off zs⟩) u K)
  (hw : Wants ops o S := by exact zwh xj) (hd : o.dst = none := by kernel_rfl) (hop : o.op = .call { callee := .builtin .clear, args := #[x], argTypes := #[T] } := by rfl)
  (hv : S.var t = some ⟨E, cs0⟩ := by rfl) (hx : evO S x = some (.slc t off m c) := by rfl) : sym P ops w0 u0 true ((o, p) :: rest) S u K := by
 subst hm
 obtain ⟨inf, hi1, hz, hsz, hby⟩ := info_parts hi
 refine .inr (.inr (.inl ⟨.inl rfl, fun B a w u' he hrep => ⟨hw B a hrep.regs, ?_⟩⟩))
 obtain ⟨v1, v2, v3⟩ := hrep.var t _ hv
 obtain ⟨w', k1, k2, k3⟩ := run_storeCells (P := P) (b := B t) (ty := E) (base := off) zs 0 w cs0 v1 (by simpa using hoff) h1
 rw [Nat.add_zero] at k2
 have hrun : (Builtin.clear_ #[T] o.type #[.slice (some ⟨B t, off, none⟩) 1 c]).run P w = .ok (.tuple #[]) w' := by
  simp [Builtin.clear_, run_underlying hT, zeroValue, typeInfo, hi1, hz, hzs, k1]
 unfold Oper.wp execOp
 simp only [hop, resolve, invoke, builtin, Sem.run_bind, Sem.run_pure, Result.andThen_ok, List.map_toArray, List.map_cons, List.map_nil, ev_of hrep.regs hx, SV.conc, hrun]
 have hr1 := hrep.store (V' := ⟨E, setL cs0 off zs⟩) hv k2 k3
 show ∃ S' B' u'' u2, Rep w0 u0 S' B' (a.put o.dst _) w' u'' ∧ _
 rw [hd]
 exact ⟨_, B, u', u, hr1, (fun h => by cases h), (fun h => by cases h), he, k⟩
end
namespace Nt
def shOK (n : Int) (s : List Int) : Prop := 0 ≤ s.getD 0 0 ∧ s.getD 0 0 < n ∧ 0 ≤ s.getD 1 0 ∧ s.getD 1 0 < n ∧ -2 ≤ s.getD 3 0 ∧ s.getD 3 0 ≤ 20 ∧ (s.getD 0 0 = s.getD 1 0 ↔ s.getD 3 0 = -2) ∧ (s.getD 3 0 < 0 → s.getD 2 0 = 0) ∧ -2097152 ≤ s.getD 2 0 ∧ s.getD 2 0 ≤ 2097152
instance (n : Int) (s : List Int) : Decidable (shOK n s) := by unfold shOK; infer_instance
def W32 (l : List Int) : Prop := ∀ i, i < l.length → -2147483648 ≤ l.getD i 0 ∧ l.getD i 0 ≤ 2147483647
end Nt
namespace Nt
section
variable {l : List Int} {s : List Int} {t f : Nat} {cf sh sg x n : Int}
def shV (n : Int) (S : List (List Int)) : Prop := 1 ≤ n ∧ n ≤ 64 ∧ S.length ≤ 64 ∧ ∀ i, i < S.length → shOK n (S.getD i [])
instance (n : Int) (S : List (List Int)) : Decidable (shV n S) := by unfold shV; infer_instance
instance (l : List Int) : Decidable (W32 l) := by unfold W32; infer_instance
end
end Nt
end Go.Proofs.YtgmkhhfbckjaeaaGreat
namespace Go.Proofs.YtgmkhhfbckjaeaaGreat
namespace Nt
def su (f : Nat → Rat) : Nat → Rat
 | 0 => 0
 | n + 1 => su f n + f n
section
variable {f g : Nat → Rat} {n m : Nat}
theorem su_s : su f (n + 1) = su f n + f n := rfl
theorem su_congr (h : ∀ i, i < n → f i = g i) : su f n = su g n := by
 induction n with
 | zero => rfl
 | succ n ih => rw [su_s, su_s, ih (fun i hi => h i xq), h n xq]
theorem su_add : su (fun i => f i + g i) n = su f n + su g n := by
 induction n with
 | zero => show (0 : Rat) = 0 + 0; grind
 | succ n ih => rw [su_s, su_s, su_s, ih]; grind
theorem su_mul (c : Rat) : su (fun i => c * f i) n = c * su f n := by
 induction n with
 | zero => show (0 : Rat) = c * 0; grind
 | succ n ih => rw [su_s, su_s, ih]; grind
theorem su_0 (h : ∀ i, i < n → f i = 0) : su f n = 0 := by
 induction n with
 | zero => rfl
 | succ n ih => rw [su_s, ih (fun i hi => h i xq), h n xq]; grind
theorem su_head : su f (n + 1) = f 0 + su (fun i => f (i + 1)) n := by
 induction n with
 | zero => show (0 : Rat) + f 0 = f 0 + 0; grind
 | succ n ih => rw [su_s, ih, su_s]; grind
theorem su_split (n m : Nat) : su f (n + m) = su f n + su (fun i => f (n + i)) m := by
 induction m with
 | zero => show su f n = su f n + 0; grind
 | succ m ih => rw [← Nat.add_assoc, su_s, ih, su_s]; grind
theorem su_swap {F : Nat → Nat → Rat} : su (fun i => su (F i) m) n = su (fun j => su (fun i => F i j) n) m := by
 induction n with
 | zero => exact (su_0 (fun i _ => rfl)).symm
 | succ n ih =>
  rw [su_s, ih, ← su_add]
  exact su_congr (fun i _ => rfl)
theorem su_rev : su (fun i => f (n - i)) (n + 1) = su f (n + 1) := by
 induction n with
 | zero => rfl
 | succ n ih =>
  rw [su_head, su_s (f := f) (n := n + 1), ← ih]
  have e : su (fun i => f (n + 1 - (i + 1))) (n + 1) = su (fun i => f (n - i)) (n + 1) := su_congr (fun i _ => by rw [Nat.add_sub_add_right])
  rw [e, Nat.sub_zero]; grind
end
end Nt
namespace Nt
def up (M : Nat → Nat → Rat) (k : Nat) (v : Nat → Rat) : Nat → Nat → Rat := fun r => if r = k then v else M r
end Nt
open Go.RowKit
def OkR (k : Nat) (L : List (List Int)) : Prop := ∀ p ∈ L, p.length = k ∧ ∀ z ∈ p, -16777216 ≤ z ∧ z ≤ 16777216
section
variable {L M : List (List Int)} {p : List Int} {k n i j c : Nat} {X : List Value} {a b : Int}
theorem OkR.rows (h : OkR k L) : Rows k L := fun p hp => (h p hp).1
theorem OkR.mem (h : OkR k L) (hi : i < L.length) : (L.getD i []).length = k ∧ ∀ z ∈ L.getD i [], -16777216 ≤ z ∧ z ≤ 16777216 := by
 have e : L[i] = L.getD i [] := by rw [List.getD_eq_getElem?_getD, List.getElem?_eq_getElem hi]; rfl
 rw [← e]; exact h _ (List.getElem_mem hi)
theorem OkR.bd (h : OkR k L) (hi : i < L.length) (hj : j < k) : -16777216 ≤ gi L i j ∧ gi L i j ≤ 16777216 := by
 obtain ⟨h1, h2⟩ := h.mem hi
 refine h2 _ ?_
 show (L.getD i []).getD j 0 ∈ _
 have hj' : j < (L.getD i []).length := by omega
 generalize L.getD i [] = q at *
 rw [List.getD_eq_getElem?_getD, List.getElem?_eq_getElem hj']
 exact List.getElem_mem hj'
theorem OkR.set (h : OkR k L) (hp : p.length = k) (hz : ∀ z ∈ p, -16777216 ≤ z ∧ z ≤ 16777216) : OkR k (L.set i p) := fun q hq => by
 rcases List.mem_or_eq_of_mem_set hq with hq | rfl
 ·exact h q hq
 exact ⟨hp, hz⟩
theorem OkR.set2 (h : OkR 2 L) (ha : -16777216 ≤ a ∧ a ≤ 16777216) (hb : -16777216 ≤ b ∧ b ≤ 16777216) : OkR 2 (L.set i [a, b]) := h.set rfl (fun z hz => by
 simp at hz
 rcases hz with rfl | rfl
 ·exact ha
 exact hb)
theorem OkR.erase (h : OkR k L) : OkR k (L.eraseIdx n) := fun q hq => h q (List.mem_of_mem_eraseIdx hq)
theorem OkR.drop (h : OkR k L) : OkR k (L.drop n) := fun q hq => h q (List.mem_of_mem_drop hq)
theorem setL_mid {A B C V : List Value} (hV : V.length = B.length) {m : Nat} (hm : m = A.length) : setL (A ++ (B ++ C)) m V = A ++ (V ++ C) := by
 subst hm
 unfold setL
 rw [List.take_left' rfl, hV, ← List.append_assoc A B C, List.drop_left' zj]
 simp
theorem del_rows {zs : List Value} (h : Rows k L) (hi : i < L.length) (hz : zs.length = k) {off : Nat} (hoff : i + 1 < L.length → off = (i + 1) * k) :
  ((kcs L ++ X).drop off).take ((L.length - (i + 1)) * k) = kcs (L.drop (i + 1)) ∧ setL (setL (kcs L ++ X) (i * k) (kcs (L.drop (i + 1)))) ((L.length - 1) * k) zs = kcs (L.eraseIdx i) ++ (zs ++ X) := by
 have hl := kcs_len h
 have hdl := kcs_len (h.drop (n := i + 1))
 rw [List.length_drop] at hdl
 have htl : (kcs (L.take i)).length = i * k := by rw [← kcs_take h, List.length_take, hl]; exact Nat.min_eq_left (Nat.mul_le_mul_right _ (Nat.le_of_lt hi))
 constructor
 ·by_cases e : i + 1 < L.length
  ·have h1 : (i + 1) * k ≤ L.length * k := Nat.mul_le_mul_right _ hi
   rw [hoff e, List.drop_append_of_le_length xq, kcs_drop h, List.take_append_of_le_length xq, List.take_of_length_le xq]
  have e0 : L.length - (i + 1) = 0 := by omega
  rw [e0, Nat.zero_mul, List.take_zero, List.drop_of_length_le xq]; rfl
 have e1 : kcs L = kcs (L.take i) ++ (kcs (L.drop i)) := by rw [← kcs_app, List.take_append_drop]
 have hB : kcs (L.drop i) = (kcs (L.drop i)).take ((L.length - (i + 1)) * k) ++ (kcs (L.drop i)).drop ((L.length - (i + 1)) * k) := (List.take_append_drop _ _).symm
 have hdi := kcs_len (h.drop (n := i))
 rw [List.length_drop] at hdi
 have e3 : (L.length - i) * k = (L.length - (i + 1)) * k + k := by rw [← Nat.succ_mul]; congr 1; omega
 have hT : ((kcs (L.drop i)).drop ((L.length - (i + 1)) * k)).length = k := by rw [List.length_drop, hdi, e3]; omega
 have hB1 : ((kcs (L.drop i)).take ((L.length - (i + 1)) * k)).length = (L.length - (i + 1)) * k := by rw [List.length_take, hdi, e3]; omega
 generalize ((kcs (L.drop i)).drop ((L.length - (i + 1)) * k)) = T at *
 generalize ((kcs (L.drop i)).take ((L.length - (i + 1)) * k)) = B at *
 rw [e1, hB, List.append_assoc, List.append_assoc, setL_mid (by rw [hdl, hB1]) htl.symm, ← List.append_assoc, setL_mid (by rw [hz, hT]) (by rw [List.length_append, htl, hdl, ← Nat.add_mul]; congr 1; omega), ← kcs_app, List.eraseIdx_eq_take_drop_succ]
end
namespace Nt
def az (z : Int) : Int := (z.natAbs : Int)
def cmpZ (a0 a1 b0 b1 : Int) : Int := if az a1 = az b1 then az b0 - az a0 else az b1 - az a1
def swapR (L : List (List Int)) (j : Nat) : List (List Int) := (L.set j [gi L (j - 1) 0, gi L (j - 1) 1]).set (j - 1) [gi L j 0, gi L j 1]
def insR (L : List (List Int)) : Nat → List (List Int)
 | 0 => L
 | j + 1 => if cmpZ (gi L (j + 1) 0) (gi L (j + 1) 1) (gi L j 0) (gi L j 1) < 0 then insR (swapR L (j + 1)) j else L
def outR (L : List (List Int)) (i : Nat) : Nat → List (List Int)
 | 0 => L
 | m + 1 => outR (insR L i) (i + 1) m
def sortR (L : List (List Int)) : List (List Int) := outR L 1 (L.length - 1)
def distZ (b1 b2 a0 a1 : Int) : Int := az (b1 - a0) + az (b2 - a1)
def bestR (Z : List (List Int)) (a0 a1 : Int) : Nat → Nat
 | 0 => 0
 | n + 1 => if distZ (gi Z n 1) (gi Z n 2) a0 a1 < distZ (gi Z (bestR Z a0 a1 n) 1) (gi Z (bestR Z a0 a1 n) 2) a0 a1 then n else bestR Z a0 a1 n
def pairR : List (List Int) → List (List Int) → List (List Int) → List (List Int)
 | [], _, acc => acc
 | a :: D, Z, acc => pairR D (Z.eraseIdx (bestR Z (a.getD 0 0) (a.getD 1 0) Z.length)) ([gi Z (bestR Z (a.getD 0 0) (a.getD 1 0) Z.length) 0, gi Z (bestR Z (a.getD 0 0) (a.getD 1 0) Z.length) 1, gi Z (bestR Z (a.getD 0 0) (a.getD 1 0) Z.length) 2, a.getD 0 0, a.getD 1 0] :: acc)
variable {L Z : List (List Int)} {n i j : Nat} {a0 a1 z : Int}
theorem swapR_len : (swapR L j).length = L.length := by simp [swapR]
theorem swapR_ok (h : OkR 2 L) (hj : j < L.length) (h0 : 0 < j) : OkR 2 (swapR L j) := by
 unfold swapR
 exact (h.set2 (h.bd xq yj) (h.bd xq yj)).set2 (h.bd hj yj) (h.bd hj yj)
theorem insR_len : (insR L j).length = L.length := by
 induction j generalizing L with
 | zero => rfl
 | succ j ih =>
  unfold insR
  split
  ·rw [ih, swapR_len]
  rfl
theorem insR_ok (h : OkR 2 L) (hj : j < L.length) : OkR 2 (insR L j) := by
 induction j generalizing L with
 | zero => exact h
 | succ j ih =>
  unfold insR
  split
  ·exact ih (swapR_ok h hj xq) (by rw [swapR_len]; omega)
  exact h
theorem outR_len {m : Nat} : (outR L i m).length = L.length := by
 induction m generalizing L i with
 | zero => rfl
 | succ m ih => unfold outR; rw [ih, insR_len]
theorem outR_ok {m : Nat} (h : OkR 2 L) (hm : i + m ≤ L.length) : OkR 2 (outR L i m) := by
 induction m generalizing L i with
 | zero => exact h
 | succ m ih => unfold outR; exact ih (insR_ok h xq) (by rw [insR_len]; omega)
theorem sortR_len : (sortR L).length = L.length := outR_len
theorem sortR_ok (h : OkR 2 L) (h0 : 0 < L.length) : OkR 2 (sortR L) := outR_ok h xq
theorem insR_go (h0 : 0 < j) (h : cmpZ (gi L j 0) (gi L j 1) (gi L (j - 1) 0) (gi L (j - 1) 1) < 0) : insR L j = insR (swapR L j) (j - 1) := by
 obtain ⟨k, rfl⟩ : ∃ k, j = k + 1 := ⟨j - 1, by omega⟩
 rw [Nat.add_sub_cancel] at h
 show (if _ then _ else _) = _
 rw [if_pos h, Nat.add_sub_cancel]
theorem insR_stop (h : 0 < j → ¬ cmpZ (gi L j 0) (gi L j 1) (gi L (j - 1) 0) (gi L (j - 1) 1) < 0) : insR L j = L := by
 cases j with
 | zero => rfl
 | succ k =>
  show (if _ then _ else _) = _
  have := h xq
  rw [Nat.add_sub_cancel] at this
  rw [if_neg this]
theorem outR_step (h : i < n) : outR L i (n - i) = outR (insR L i) (i + 1) (n - (i + 1)) := by
 obtain ⟨m, hm⟩ : ∃ m, n - i = m + 1 := ⟨n - i - 1, by omega⟩
 rw [hm, show n - (i + 1) = m by omega]; rfl
theorem bestR_lt (h : 0 < n) : bestR Z a0 a1 n < n := by
 induction n with
 | zero => omega
 | succ n ih =>
  unfold bestR
  split
  ·omega
  cases n with
  | zero => show 0 < 1; omega
  | succ n => have := ih xq; omega
theorem best_yes (h : distZ (gi Z n 1) (gi Z n 2) a0 a1 < distZ (gi Z (bestR Z a0 a1 n) 1) (gi Z (bestR Z a0 a1 n) 2) a0 a1) : bestR Z a0 a1 (n + 1) = n := by
 show (if _ then _ else _) = _
 rw [if_pos h]
theorem best_no (h : ¬ distZ (gi Z n 1) (gi Z n 2) a0 a1 < distZ (gi Z (bestR Z a0 a1 n) 1) (gi Z (bestR Z a0 a1 n) 2) a0 a1) : bestR Z a0 a1 (n + 1) = bestR Z a0 a1 n := by
 show (if _ then _ else _) = _
 rw [if_neg h]
theorem az_bd (h0 : -1000000000 ≤ z) (h1 : z ≤ 1000000000) : 0 ≤ az z ∧ az z ≤ 1000000000 := by unfold az; omega
theorem dist_bd {b1 b2 : Int} (h1 : -16777216 ≤ b1 ∧ b1 ≤ 16777216) (h2 : -16777216 ≤ b2 ∧ b2 ≤ 16777216) (h3 : -16777216 ≤ a0 ∧ a0 ≤ 16777216) (h4 : -16777216 ≤ a1 ∧ a1 ≤ 16777216) : 0 ≤ distZ b1 b2 a0 a1 ∧ distZ b1 b2 a0 a1 ≤ 67108864 := by unfold distZ az; omega
theorem fill_back {z : List Int} {acc : List (List Int)} (hi : i < n) (x : List Int) : (List.replicate (n - i) z ++ acc).set (n - 1 - i) x = List.replicate (n - (i + 1)) z ++ (x :: acc) := by
 rw [show n - i = (n - (i + 1)) + 1 by omega, List.replicate_succ', List.append_assoc]
 rw [List.set_append_right _ _ zq, List.length_replicate, show n - 1 - i - (n - (i + 1)) = 0 by omega]
 rfl
theorem pairR_step {D acc : List (List Int)} (hi : i < D.length) : pairR (D.drop i) Z acc = pairR (D.drop (i + 1)) (Z.eraseIdx (bestR Z (gi D i 0) (gi D i 1) Z.length)) ([gi Z (bestR Z (gi D i 0) (gi D i 1) Z.length) 0, gi Z (bestR Z (gi D i 0) (gi D i 1) Z.length) 1, gi Z (bestR Z (gi D i 0) (gi D i 1) Z.length) 2, gi D i 0, gi D i 1] :: acc) := by
 rw [List.drop_eq_getElem_cons hi]
 have e : D[i] = D.getD i [] := by rw [List.getD_eq_getElem?_getD, List.getElem?_eq_getElem hi]; rfl
 show pairR (D.drop (i + 1)) _ _ = _
 rw [e]; rfl
end Nt
variable {k lo lo' h b n c i : Nat} {ty t2 : TypeId} {u u' : World} {x y : Sl}
theorem nodes_at {Ls : List Sl} (m : MutL 1 ty lo u x (Ls.map Sl.v)) (hk : i < Ls.length) : ∃ b, x.a = some ⟨b, 0, none⟩ ∧ u.cell? ⟨b, 0 + i * 1, none⟩ = some (.slice (Ls.getD i sl0).a (Ls.getD i sl0).n (Ls.getD i sl0).c) := by
 obtain ⟨b, h1, h2⟩ := MutL.cell (j := i) m (by rw [List.length_map]; exact hk)
 refine ⟨b, h1, ?_⟩
 rw [Nat.mul_one, h2, List.getElem?_map, List.getD_eq_getElem?_getD, List.getElem?_eq_getElem hk]
 rfl
theorem terms_at {T : List TL} (m : MutL 2 ty lo u x (tcs T)) (hi : i < T.length) : ∃ b, x.a = some ⟨b, 0, none⟩ ∧ ∀ j, j < (T.getD i tl0).cs.length → u.cell? ⟨b, 0 + i * 2 + j, none⟩ = (T.getD i tl0).cs[j]? := by
 obtain ⟨b, h1, h2⟩ := MutL.cell (j := i * 2) m (by rw [tcs_len]; omega)
 refine ⟨b, h1, fun j hj => ?_⟩
 have hj : j < 2 := hj
 obtain ⟨b2, g1, g2⟩ := MutL.cell (j := i * 2 + j) m (by rw [tcs_len]; omega)
 rw [h1] at g1; injection g1 with g1; injection g1 with g1; subst g1
 rw [Nat.add_assoc, g2]
 exact tcs_at hi j hj
theorem tms_len {T : List TL} (m : MutL 2 ty lo u x (tcs T)) : x.n = T.length := by
 have := m.1
 rw [tcs_len] at this
 omega
theorem MutL.slr {l : List Int} (m : MutL 1 ty lo u x (ics l)) : SlR .i64 u x.a x.n x.c l := by
 have h1 := m.1
 rw [zwk] at h1
 refine ⟨by omega, m.2.1, m.2.2.1, fun hp => ?_⟩
 obtain ⟨b, e, _⟩ := MutL.cell (j := 0) m (by rw [zwk]; omega)
 refine ⟨b, 0, e, m.lt e, fun i hi => ?_⟩
 obtain ⟨b2, e2, g⟩ := MutL.cell (j := i) m (by rw [zwk]; omega)
 rw [e] at e2; injection e2 with e2; injection e2 with e2; subst e2
 rw [g, ics_at xq, List.getD_eq_getElem?_getD]
end Go.Proofs.YtgmkhhfbckjaeaaGreat
namespace Go.Proofs.YtgmkhhfbckjaeaaGreat
open Go.RowKit
theorem ty2 : TyIs Tryz.prog 2 false 1 := fun w => ⟨by kernel_rfl, by kernel_rfl⟩
theorem ty3 : TyIs Tryz.prog 3 false 1 := fun w => ⟨by kernel_rfl, by kernel_rfl⟩
theorem ty4 : TyIs Tryz.prog 4 false 1 := fun w => ⟨by kernel_rfl, by kernel_rfl⟩
theorem ty22 : TyIs Tryz.prog 22 false 1 := fun w => ⟨by kernel_rfl, by kernel_rfl⟩
theorem ty26 : TyIs Tryz.prog 26 false 1 := fun w => ⟨by kernel_rfl, by kernel_rfl⟩
theorem ty27 : TyIs Tryz.prog 27 false 1 := fun w => ⟨by kernel_rfl, by kernel_rfl⟩
theorem ty28 : TyIs Tryz.prog 28 false 1 := fun w => ⟨by kernel_rfl, by kernel_rfl⟩
theorem ty30 : TyIs Tryz.prog 30 true 2 := fun w => ⟨by kernel_rfl, by kernel_rfl⟩
theorem ty32 : TyIs Tryz.prog 32 true 3 := fun w => ⟨by kernel_rfl, by kernel_rfl⟩
theorem ty66 : TyIs Tryz.prog 66 true 4 := fun w => ⟨by kernel_rfl, by kernel_rfl⟩
theorem ty70 : TyIs Tryz.prog 70 false 1 := fun w => ⟨by kernel_rfl, by kernel_rfl⟩
theorem ty72 : TyIs Tryz.prog 72 true 12 := fun w => ⟨by kernel_rfl, by kernel_rfl⟩
theorem ty75 : TyIs Tryz.prog 75 false 1 := fun w => ⟨by kernel_rfl, by kernel_rfl⟩
theorem ty77 : TyIs Tryz.prog 77 true 6 := fun w => ⟨by kernel_rfl, by kernel_rfl⟩
theorem ty81 : TyIs Tryz.prog 81 true 2 := fun w => ⟨by kernel_rfl, by kernel_rfl⟩
theorem ty100 : TyIs Tryz.prog 100 true 2 := fun w => ⟨by kernel_rfl, by kernel_rfl⟩
theorem ty133 : TyIs Tryz.prog 133 false 1 := fun w => ⟨by kernel_rfl, by kernel_rfl⟩
theorem ty147 : TyIs Tryz.prog 147 true 2 := fun w => ⟨by kernel_rfl, by kernel_rfl⟩
theorem ty148 : TyIs Tryz.prog 148 false 1 := fun w => ⟨by kernel_rfl, by kernel_rfl⟩
theorem ty150 : TyIs Tryz.prog 150 true 1 := fun w => ⟨by kernel_rfl, by kernel_rfl⟩
theorem ty166 : TyIs Tryz.prog 166 true 2 := fun w => ⟨by kernel_rfl, by kernel_rfl⟩
theorem ty177 : TyIs Tryz.prog 177 true 3 := fun w => ⟨by kernel_rfl, by kernel_rfl⟩
theorem ty179 : TyIs Tryz.prog 179 true 5 := fun w => ⟨by kernel_rfl, by kernel_rfl⟩
theorem ty181 : TyIs Tryz.prog 181 true 9 := fun w => ⟨by kernel_rfl, by kernel_rfl⟩
theorem ty195 : TyIs Tryz.prog 195 true 3 := fun w => ⟨by kernel_rfl, by kernel_rfl⟩
theorem ty197 : TyIs Tryz.prog 197 true 4 := fun w => ⟨by kernel_rfl, by kernel_rfl⟩
theorem sl22 : SlIs Tryz.prog 22 1 := ⟨3, false, by kernel_rfl, ty3⟩
theorem sl26 : SlIs Tryz.prog 26 3 := ⟨32, true, by kernel_rfl, ty32⟩
theorem sl27 : SlIs Tryz.prog 27 3 := ⟨32, true, by kernel_rfl, ty32⟩
theorem sl28 : SlIs Tryz.prog 28 1 := ⟨133, false, by kernel_rfl, ty133⟩
theorem sl70 : SlIs Tryz.prog 70 1 := ⟨150, true, by kernel_rfl, ty150⟩
theorem sl75 : SlIs Tryz.prog 75 1 := ⟨26, false, by kernel_rfl, ty26⟩
theorem sl101 : SlIs Tryz.prog 101 5 := ⟨179, true, by kernel_rfl, ty179⟩
theorem sl148 : SlIs Tryz.prog 148 2 := ⟨147, true, by kernel_rfl, ty147⟩
theorem sl184 : SlIs Tryz.prog 184 3 := ⟨177, true, by kernel_rfl, ty177⟩
theorem sl185 : SlIs Tryz.prog 185 2 := ⟨166, true, by kernel_rfl, ty166⟩
theorem k_riTrim {u w : World} {i1 : IL} {zN : Int} {K : Nat} (d : Dat u w) (hi1 : IntV u i1 zN K) (hK : K ≤ 500000000) : Calls Tryz.prog 154 #[i1.v] w (Post u w fun v u' => ∃ i : IL, v = i.v ∧ IntN u' i zN K) := by
 obtain ⟨N, hN, hzN⟩ := hi1
 refine zzm (args := [i1.v]) Tryz.func154 rfl Tryz.ntmps154 (rs := [.cell 2 30]) Tryz.results154 (le_b rfl) (le_b rfl) d ?_
 refine sq9 (zzk 1 ⟨30, i1.cs⟩ (zzk 2 ⟨30, [.bool false, .slice none 0 0]⟩ (zzb (sq9 (zza 4 (.adr 1 1) (zzi 5 (.v (i1.m.v)) ty28 zzl (zzg 6 157 _ fun _ _ ac ae => Post.mono (k_rnTrim ae (hN.ext ac) xq) ?_)))))))
 rintro _ u14 g15 ⟨aa, rfl, ab⟩
 refine zza 3 (.v (aa.v)) (zzb (sq9 (zza 7 (.adr 1 0) (zzi 8 (zB i1.s) ty4 zzl ?_))))
 rcases Bool.eq_false_or_eq_true i1.s with hs17 | hs17
 ·refine zyq 9 (x := zB i1.s) (zB true) (by rw [hs17]) (zza 10 (.v (aa.v)) ?_ (hw := w1 2 true 9))
  refine zza 11 (zI aa.n) ?_ (hw := w1 2 true 9)
  refine zza 12 (zB (decide ((0 : Int) < (aa.n : Int)))) ?_ (hw := w1 2 true 9)
  refine zza 13 (zB (decide ((0 : Int) < (aa.n : Int)))) (zza 14 (.v (aa.v)) (zza 15 (.v (.agg #[.bool (decide ((0 : Int) < (aa.n : Int))), aa.v])) (zzj ⟨30, [.bool (decide ((0 : Int) < (aa.n : Int))), aa.v]⟩ ty30 ?_)))
  refine zzb (zzo (ret0 [.agg #[.bool (decide ((0 : Int) < (aa.n : Int))), aa.v]] ⟨zzr ty30 zze, trivial⟩ fun u18 af => ?_))
  refine ⟨⟨_, aa⟩, rfl, ?_⟩
  rw [hzN, hs17]
  exact signed_int (s := true) (ab.ext af)
 refine zyq 9 (x := zB i1.s) (zB false) (by rw [hs17]) (zzn 10 (uw 2 true false 9) (zzn 11 (uw 2 true false 9) (zzn 12 (uw 2 true false 9) (zza 13 (zB false) (zza 14 (.v (aa.v)) (zza 15 (.v (.agg #[.bool false, aa.v])) (zzj ⟨30, [.bool false, aa.v]⟩ ty30 ?_)))))))
 refine zzb (zzo (ret0 [.agg #[.bool false, aa.v]] ⟨zzr ty30 zze, trivial⟩ fun u20 ad => ?_))
 refine ⟨⟨_, aa⟩, rfl, ?_⟩
 rw [hzN, hs17]
 exact signed_int (s := false) (ab.ext ad)
theorem k_riSign {u w : World} {i1 : IL} {zN : Int} {K : Nat} (d : Dat u w) (hi1 : IntV u i1 zN K) (hK : K ≤ 500000000) : Calls Tryz.prog 96 #[i1.v] w (Post u w fun v u' => v = .int .i64 (Nt.cmpS zN 0)) := by
 refine zzm (args := [i1.v]) Tryz.func96 rfl Tryz.ntmps96 (rs := [.tmp 2]) Tryz.results96 (le_b rfl) (le_b rfl) d ?_
 refine sq9 (zzk 1 ⟨30, i1.cs⟩ (zza 2 (zI 0) (zzb (sq9 (zzi 3 (.v (i1.v)) ty30 zze (zzg 4 154 _ fun _ _ af ag => Post.mono (k_riTrim ag (hi1.ext af) xq) ?_))))))
 rintro _ u14 g15 ⟨ab, rfl, ae⟩
 refine zzj ⟨30, ab.cs⟩ ty30 ?_
 refine zzb (zzd (zzt (sq9 (zza 6 (.adr 1 1) (zzi 7 (.v (ab.m.v)) ty28 zzl (zza 8 (zI ab.m.n) (zza 9 (zB ((ab.m.n : Int) == 0)) (zza 5 (zB ((ab.m.n : Int) == 0)) (zzb (zzu (b := (ab.m.n : Int) == 0) xj (fun ac => ?_) (fun ac => ?_)))))))))))
 ·have ad : (ab.m.n : Int) = 0 := by simpa using ac
  refine sq9 (zza 2 (zI 0) (zzb (zzo (zyu (zzw (ret0 [.int .i64 0] ⟨zzq, trivial⟩ fun u18 e19 => ?_))))))
  show _ = _
  rw [sign_len ae, if_pos ac]
  rfl
 have ad : ¬ ((ab.m.n : Int) = 0) := by simpa using ac
 refine sq9 (zza 11 (.adr 1 0) (zzi 12 (zB ab.s) ty4 zzl (zza 10 (zB ab.s) (zzb (zzu (b := ab.s) xj (fun aa => ?_) (fun aa => ?_))))))
 ·replace aa : ab.s = true := aa
  refine sq9 (zza 2 (zI (-1)) (zzb (zzo (zyu (zzw (ret0 [.int .i64 (-1)] ⟨zzq, trivial⟩ fun u21 e22 => ?_))))))
  show _ = _
  rw [sign_len ae, if_neg (ne_true_of_eq_false ac), if_pos aa]
  rfl
 replace aa : ab.s = false := aa
 refine zzs (zzp ?_)
 refine sq9 (zza 2 (zI 1) (zzb (zzo (ret0 [.int .i64 1] ⟨zzq, trivial⟩ fun u23 e24 => ?_))))
 show _ = _
 rw [sign_len ae, if_neg (ne_true_of_eq_false ac), if_neg (ne_true_of_eq_false aa)]
 rfl
theorem k_riNeg {u w : World} {i1 : IL} {zN : Int} {K : Nat} (d : Dat u w) (hi1 : IntV u i1 zN K) (hK : K ≤ 500000000) : Calls Tryz.prog 81 #[i1.v] w (Post u w fun v u' => ∃ i : IL, v = i.v ∧ IntN u' i (-zN) K) := by
 refine zzm (args := [i1.v]) Tryz.func81 rfl Tryz.ntmps81 (rs := [.cell 2 30]) Tryz.results81 (le_b rfl) (le_b rfl) d ?_
 refine sq9 (zzk 1 ⟨30, i1.cs⟩ (zzk 2 ⟨30, [.bool false, .slice none 0 0]⟩ (zzb (sq9 (zzi 3 (.v (i1.v)) ty30 zze (zzg 4 154 _ fun _ _ ac ae => Post.mono (k_riTrim ae (hi1.ext ac) xq) ?_))))))
 rintro _ u14 g15 ⟨aa, rfl, ab⟩
 refine zzj ⟨30, aa.cs⟩ ty30 ?_
 refine zzb (sq9 (zza 5 (.adr 1 0) (zzi 6 (zB aa.s) ty4 zzl (zza 7 (zB (!aa.s)) ?_))))
 rcases Bool.eq_false_or_eq_true (!aa.s) with hs17 | hs17
 ·refine zyq 8 (x := zB (!aa.s)) (zB true) (by rw [hs17]) (zza 9 (.adr 1 1) ?_ (hw := w1 3 true 8))
  refine zzi 10 (.v (aa.m.v)) ty28 zzl ?_ (hw := w1 3 true 8)
  refine zza 11 (zI aa.m.n) ?_ (hw := w1 3 true 8)
  refine zza 12 (zB (decide ((0 : Int) < (aa.m.n : Int)))) ?_ (hw := w1 3 true 8)
  refine zza 13 (zB (decide ((0 : Int) < (aa.m.n : Int)))) (zza 14 (.adr 1 0) (zzj ⟨30, [.bool (decide ((0 : Int) < (aa.m.n : Int))), aa.m.v]⟩ ty4 ?_))
  refine zzb (sq9 (zzi 15 (.v (.agg #[.bool (decide ((0 : Int) < (aa.m.n : Int))), aa.m.v])) ty30 zze (zzj ⟨30, [.bool (decide ((0 : Int) < (aa.m.n : Int))), aa.m.v]⟩ ty30 ?_)))
  refine zzb (zzo (ret0 [.agg #[.bool (decide ((0 : Int) < (aa.m.n : Int))), aa.m.v]] ⟨zzr ty30 zze, trivial⟩ fun u18 af => ?_))
  refine ⟨⟨_, aa.m⟩, rfl, ?_⟩
  have h9 := neg_int (ab.ext af)
  rw [hs17] at h9
  exact h9
 refine zyq 8 (x := zB (!aa.s)) (zB false) (by rw [hs17]) (zzn 9 (uw 3 true false 8) (zzn 10 (uw 3 true false 8) (zzn 11 (uw 3 true false 8) (zzn 12 (uw 3 true false 8) (zza 13 (zB false) (zza 14 (.adr 1 0) (zzj ⟨30, [.bool false, aa.m.v]⟩ ty4 ?_)))))))
 refine zzb (sq9 (zzi 15 (.v (.agg #[.bool false, aa.m.v])) ty30 zze (zzj ⟨30, [.bool false, aa.m.v]⟩ ty30 ?_)))
 refine zzb (zzo (ret0 [.agg #[.bool false, aa.m.v]] ⟨zzr ty30 zze, trivial⟩ fun u20 ad => ?_))
 refine ⟨⟨_, aa.m⟩, rfl, ?_⟩
 have h9 := neg_int (ab.ext ad)
 rw [hs17] at h9
 exact h9
theorem k_riGcd {u w : World} {i1 : IL} {zN : Int} {K : Nat} {i2 : IL} {zM : Int} {L : Nat} (d : Dat u w) (hi1 : IntV u i1 zN K) (hi2 : IntV u i2 zM L) (hK : K ≤ 500000000) (hL : L ≤ 500000000) : Calls Tryz.prog 155 #[i1.v, i2.v] w (Post u w fun v u' => ∃ i : IL, v = i.v ∧ IntN u' i (Nat.gcd zN.natAbs zM.natAbs : Int) (max K L)) := by
 refine zzm (args := [i1.v, i2.v]) Tryz.func155 rfl Tryz.ntmps155 (rs := [.cell 4 30]) Tryz.results155 (le_b rfl) (le_b rfl) d ?_
 refine sq9 (zzk 2 ⟨30, i1.cs⟩ (zzk 3 ⟨30, i2.cs⟩ (zzk 4 ⟨30, [.bool false, .slice none 0 0]⟩ (zzb (sq9 (zza 5 (.adr 2 1) (zzi 6 (.v (i1.m.v)) ty28 zzl (zza 7 (.adr 3 1) (zzi 8 (.v (i2.m.v)) ty28 zzl (zzg 9 203 _ fun _ _ ab ac => Post.mono (k_rnGcd ac ((IntV.abs hi1).ext ab) ((IntV.abs hi2).ext ab) xq xq) ?_))))))))))
 rintro _ u14 g15 ⟨aa, rfl, ae⟩
 refine zza 10 (.v (.agg #[.bool false, aa.v])) (zzj ⟨30, [.bool false, aa.v]⟩ ty30 ?_)
 refine zzb (zzo (ret0 [.agg #[.bool false, aa.v]] ⟨zzr ty30 zze, trivial⟩ fun u17 ad => ?_))
 exact ⟨(⟨false, aa⟩ : IL), rfl, (nat_intN (ae.ext ad))⟩
theorem k_riSame {u w : World} {i1 i2 : IL} {z z' : Int} {K L : Nat} (d : Dat u w) (hi1 : IntN u i1 z K) (hi2 : IntN u i2 z' L) : Calls Tryz.prog 74 #[i1.v, i2.v] w (Post u w fun v _ => v = .bool (decide (z = z'))) := by
 refine zzm (args := [i1.v, i2.v]) Tryz.func74 rfl Tryz.ntmps74 (rs := [.tmp 4]) Tryz.results74 (le_b rfl) (le_b rfl) d ?_
 refine sq9 (zzk 2 ⟨30, i1.cs⟩ (zzk 3 ⟨30, i2.cs⟩ (zza 4 (zB false) (zzb (sq9 (zza 5 (.adr 2 0) (zzi 6 (zB i1.s) ty4 zzl (zza 7 (.adr 3 0) (zzi 8 (zB i2.s) ty4 zzl (zza 9 (zB (i1.s == i2.s)) ?_))))))))))
 rcases Bool.eq_false_or_eq_true (i1.s == i2.s) with hs11 | hs11
 ·refine zyq 10 (x := zB (i1.s == i2.s)) (zB true) (by rw [hs11]) (zza 11 (.adr 2 1) ?_ (hw := w1 5 true 10))
  refine zzi 12 (.v (i1.m.v)) ty28 zzl ?_ (hw := w1 5 true 10)
  refine zza 13 (.adr 3 1) ?_ (hw := w1 5 true 10)
  refine zzi 14 (.v (i2.m.v)) ty28 zzl ?_ (hw := w1 5 true 10)
  refine zzg 15 75 _ (fun _ _ aa ab => Post.mono (k_rnSame ab ((int_mag hi1).ext aa) ((int_mag hi2).ext aa)) ?_) (hw := w1 5 true 10)
  rintro _ u13 g14 rfl
  refine zza 16 (zB (decide ((z : Int).natAbs = (z' : Int).natAbs))) (zza 4 (zB (decide ((z : Int).natAbs = (z' : Int).natAbs))) (zzb (zzo (ret0 [.bool (decide ((z : Int).natAbs = (z' : Int).natAbs))] ⟨zzq, trivial⟩ fun u16 e17 => ?_))))
  show _ = _
  rw [← same_int hi1 hi2, hs11]
  rfl
 refine zyq 10 (x := zB (i1.s == i2.s)) (zB false) (by rw [hs11]) (zzn 11 (uw 5 true false 10) (zzn 12 (uw 5 true false 10) (zzn 13 (uw 5 true false 10) (zzn 14 (uw 5 true false 10) (zzn 15 (uw 5 true false 10) (zza 16 (zB false) (zza 4 (zB false) (zzb (zzo (ret0 [.bool false] ⟨zzq, trivial⟩ fun u18 e19 => ?_))))))))))
 show _ = _
 rw [← same_int hi1 hi2, hs11]
 rfl
set_option maxHeartbeats 2000000 in
theorem k_riDiv {u w : World} {i1 : IL} {zN : Int} {K : Nat} {i2 : IL} {zM : Int} {L : Nat} (d : Dat u w) (hi1 : IntV u i1 zN K) (hi2 : IntV u i2 zM L) (hM0 : zM ≠ 0) (hK : K ≤ 400000000) (hL : L ≤ 400000000) : Calls Tryz.prog 156 #[i1.v, i2.v] w (Post u w fun v u' => ∃ i j : IL, v = .tuple #[i.v, j.v, .int .i64 0] ∧ IntN u' i (zN / zM) (K + 1) ∧ IntN u' j (zN % zM) L) := by
 have hM : 0 < zM.natAbs := Int.natAbs_pos.2 hM0
 have hL1 : 1 ≤ L := by have h2 := hi2.size; have h3 := Nt.dl_mono (x := zM.natAbs) (y := 1) xq; rw [Nt.dl_one] at h3; omega
 refine zzm (args := [i1.v, i2.v]) Tryz.func156 rfl Tryz.ntmps156 (rs := [.cell 4 30, .cell 5 30, .tmp 6]) Tryz.results156 (le_b rfl) (le_b rfl) d ?_
 refine sq9 (zzk 2 ⟨30, i1.cs⟩ (zzk 3 ⟨30, i2.cs⟩ (zzk 4 ⟨30, [.bool false, .slice none 0 0]⟩ (zzk 5 ⟨30, [.bool false, .slice none 0 0]⟩ (zza 6 (zI 0) (zzb (zzd (zzz [0, 1, 0, 7, 15, 31] [(0, []), (2, []), (1, []), (3, []), (4, []), (5, [])] xj xj (zzi 10 (.v (i1.v)) ty30 zze (zzi 12 (.v (i2.v)) ty30 zze (zzg 11 154 _ fun _ _ ay aP => Post.mono (k_riTrim aP (hi1.ext ay) xq) ?_)))))))))))
 rintro _ u14 aY ⟨ab, rfl, aj⟩
 refine zzg 13 154 _ fun _ _ aw aZ => Post.mono (k_riTrim aZ (hi2.ext (ay.t (aY.t aw))) xq) ?_
 rintro _ u20 aO ⟨ac, rfl, ai⟩
 refine zzj ⟨30, ab.cs⟩ ty30 ?_
 refine zzj ⟨30, ac.cs⟩ ty30 ?_
 refine zzb (sq9 (zza 15 (.adr 2 1) (zzi 16 (.v (ab.m.v)) ty28 zzl (zza 17 (.adr 3 1) (zzi 18 (.v (ac.m.v)) ty28 zzl (zzg 19 204 _ fun _ _ am aS => Post.mono (k_rnDivMod aS ((int_mag aj).ext (aw.t (aO.t am))).raw ((int_mag ai).ext am).raw hM xq xq) ?_))))))
 rintro _ u28 aT ⟨ae, aa, rfl, ak, ag⟩
 refine zza 14 (.v (.tuple #[ae.v, aa.v, .int .i64 0])) (zza 20 (.v (ae.v)) (zza 21 (.v (aa.v)) (zza 22 (zI 0) (zza 7 (.v (ae.v)) (zza 8 (.v (aa.v)) (zza 9 (zI 0) (zzb (zzd (sq9 (zza 23 (zI 0) (zza 24 (zB false) ?_)))))))))))
 refine zzb (zys xj (zzs (zzp ?_)))
 refine zzd (sq9 (zza 28 (.adr 2 0) (zzi 29 (zB ab.s) ty4 zzl ?_)))
 rcases Bool.eq_false_or_eq_true ab.s with hs31 | hs31
 ·refine zyq 30 (x := zB ab.s) (zB true) (by rw [hs31]) (zza 31 (.v (aa.v)) ?_ (hw := w1 2 true 30))
  refine zza 32 (zI aa.n) ?_ (hw := w1 2 true 30)
  refine zza 33 (zB (decide ((0 : Int) < (aa.n : Int)))) ?_ (hw := w1 2 true 30)
  refine zza 34 (zB (decide ((0 : Int) < (aa.n : Int)))) (zzc 52 [(2, .adr 2 0), (3, .adr 3 0), (4, .adr 4 0), (5, .adr 5 0), (7, .v (ae.v)), (8, .v (aa.v)), (34, zB (decide ((0 : Int) < (aa.n : Int))))] [(2, ⟨30, ab.cs⟩), (3, ⟨30, ac.cs⟩), (4, ⟨30, [.bool false, .slice none 0 0]⟩), (5, ⟨30, [.bool false, .slice none 0 0]⟩)] (zzu (b := decide ((0 : Int) < (aa.n : Int))) xj (fun ad => ?_) (fun ad => ?_)))
  ·have qhb32 := of_decide_eq_true ad
   refine zzz [0, 0, 3, 0, 8, 0, 63, 127, 255] [(0, []), (1, []), (3, []), (4, []), (5, []), (2, [36]), (6, []), (7, []), (8, [])] xj xj (zza 35 (.v (ae.v)) (sy_lit 36 ⟨133, [.int .u32 1]⟩ 1 ?_))
   refine zza 38 (.adr 3 1) (zzi 39 (.v (ac.m.v)) ty28 zzl (zza 40 (.v (aa.v)) (zyo 37 189 [.v (ae.v), .slc 36 0 1 1] [36] (.inr rfl) (pub_mk xk) (k := ?_))))
   intro al w33 aL ar aG a0
   have aA : aL.heap[al 36]? = some (.cells #[.int .u32 1] 133 (0, 0)) := a0 36 zj _ rfl
   obtain ⟨b34, af⟩ : ∃ b, al 36 = b := ⟨_, rfl⟩
   rw [af] at aA
   show Calls _ _ #[.slice ae.a ae.n ae.c, .slice (some ⟨al 36, 0, none⟩) 1 1] _ _
   rw [af]
   have k40 := k_rnAdd aG (ak.ext ar).raw (one_data aA).raw xq xq
   with_reducible refine zPm k40 ?_
   rintro _ u38 av ⟨an, rfl, aM⟩
   refine zzg 41 191 _ fun _ _ aq aK => Post.mono (k_rnSub aK ((int_mag ai).ext (am.t (aT.t (ar.t (av.t aq))))).raw (ag.ext (ar.t (av.t aq))).raw xq xq) ?_
   rintro _ u44 aR ⟨ah, rfl, aJ⟩
   refine zza 7 (.v (an.v)) (zza 8 (.v (ah.v)) (zzb (sq9 (zza 42 (.adr 2 0) (zzi 43 (zB ab.s) ty4 zzl (zza 44 (.adr 3 0) (zzi 45 (zB ac.s) ty4 zzl (zza 46 (zB (!(ab.s == ac.s))) (zza 47 (.v (an.v)) (zza 48 (.v (.agg #[.bool (!(ab.s == ac.s)), an.v])) (zzg 49 154 _ fun _ _ aE aW => Post.mono (k_riTrim aW (IntV.same (s := !(ab.s == ac.s)) (aM.ext (aq.t (aR.t aE))).raw) xq) ?_)))))))))))
   rintro _ u50 aV ⟨ao, rfl, aH⟩
   refine zza 50 (.v (ah.v)) (zza 51 (.v (.agg #[.bool false, ah.v])) (zzj ⟨30, ao.cs⟩ ty30 ?_))
   refine zzj ⟨30, [.bool false, ah.v]⟩ ty30 ?_
   refine zza 6 (zI 0) (zzb (zzo (ret0 [ao.v, .agg #[.bool false, ah.v], .int .i64 0] ⟨zzr ty30 zze, zzr ty30 zze, zzq, trivial⟩ fun u53 aC => ?_)))
   have hs := aj.1
   have ht := ai.1
   have hr := ag.pos
   have qhs31 := hs31
   have qhb32 := ad
   have key := Nt.ediv_neg' zN zM rfl rfl hM (by rw [hs] at hs31; simpa using hs31) (by simp at ad; omega)
   have hK1 : 1 ≤ K := by have h2 := hi1.size; have h3 := (Nt.dl_pos (x := zN.natAbs)).2 (by rw [hs] at hs31; simp at hs31; omega); omega
   rw [← hs, ← ht] at key
   refine ⟨ao, (⟨false, ah⟩ : IL), rfl, IntN.more (K := (max K 1 + 1)) ?_ xq, IntN.more (K := L) ?_ xq⟩
   ·rw [key.1]; exact (aH.ext aC)
   rw [key.2]; exact (nat_intN (aJ.ext (aE.t (aV.t aC))))
  have qhb32 := of_decide_eq_false ad
  refine zzs (zzp ?_)
  refine sq9 (zza 42 (.adr 2 0) (zzi 43 (zB ab.s) ty4 zzl (zza 44 (.adr 3 0) (zzi 45 (zB ac.s) ty4 zzl (zza 46 (zB (!(ab.s == ac.s))) (zza 47 (.v (ae.v)) (zza 48 (.v (.agg #[.bool (!(ab.s == ac.s)), ae.v])) (zzg 49 154 _ fun _ _ ax aN => Post.mono (k_riTrim aN (IntV.same (s := !(ab.s == ac.s)) (ak.ext ax).raw) xq) ?_))))))))
  rintro _ u58 aU ⟨ap, rfl, aI⟩
  refine zza 50 (.v (aa.v)) (zza 51 (.v (.agg #[.bool false, aa.v])) (zzj ⟨30, ap.cs⟩ ty30 ?_))
  refine zzj ⟨30, [.bool false, aa.v]⟩ ty30 ?_
  refine zza 6 (zI 0) (zzb (zzo (ret0 [ap.v, .agg #[.bool false, aa.v], .int .i64 0] ⟨zzr ty30 zze, zzr ty30 zze, zzq, trivial⟩ fun u61 aD => ?_)))
  have hs := aj.1
  have ht := ai.1
  have hr := ag.pos
  have qhs31 := hs31
  have qhb32 := ad
  have key := Nt.ediv_pos zN zM rfl rfl hM (fun hc => by simp at ad; omega)
  rw [← hs, ← ht] at key
  refine ⟨ap, (⟨false, aa⟩ : IL), rfl, IntN.more (K := K) ?_ xq, IntN.more (K := L) ?_ xq⟩
  ·rw [key.1]; exact (aI.ext aD)
  rw [key.2]; exact (nat_intN (ag.ext (ax.t (aU.t aD))))
 refine zyq 30 (x := zB ab.s) (zB false) (by rw [hs31]) (zzn 31 (uw 2 true false 30) (zzn 32 (uw 2 true false 30) (zzn 33 (uw 2 true false 30) (zza 34 (zB false) (zzc 52 [(2, .adr 2 0), (3, .adr 3 0), (4, .adr 4 0), (5, .adr 5 0), (7, .v (ae.v)), (8, .v (aa.v)), (34, zB false)] [(2, ⟨30, ab.cs⟩), (3, ⟨30, ac.cs⟩), (4, ⟨30, [.bool false, .slice none 0 0]⟩), (5, ⟨30, [.bool false, .slice none 0 0]⟩)] (zys xj (zzs (zzp ?_))))))))
 refine sq9 (zza 42 (.adr 2 0) (zzi 43 (zB ab.s) ty4 zzl (zza 44 (.adr 3 0) (zzi 45 (zB ac.s) ty4 zzl (zza 46 (zB (!(ab.s == ac.s))) (zza 47 (.v (ae.v)) (zza 48 (.v (.agg #[.bool (!(ab.s == ac.s)), ae.v])) (zzg 49 154 _ fun _ _ au aX => Post.mono (k_riTrim aX (IntV.same (s := !(ab.s == ac.s)) (ak.ext au).raw) xq) ?_))))))))
 rintro _ u66 aF ⟨i64, rfl, aQ⟩
 refine zza 50 (.v (aa.v)) (zza 51 (.v (.agg #[.bool false, aa.v])) (zzj ⟨30, i64.cs⟩ ty30 ?_))
 refine zzj ⟨30, [.bool false, aa.v]⟩ ty30 ?_
 refine zza 6 (zI 0) (zzb (zzo (ret0 [i64.v, .agg #[.bool false, aa.v], .int .i64 0] ⟨zzr ty30 zze, zzr ty30 zze, zzq, trivial⟩ fun u69 aB => ?_)))
 have hs := aj.1
 have ht := ai.1
 have hr := ag.pos
 have qhs31 := hs31
 have key := Nt.ediv_pos zN zM rfl rfl hM (fun hc => by rw [hs] at hs31; simp at hs31; omega)
 rw [← hs, ← ht] at key
 refine ⟨i64, (⟨false, aa⟩ : IL), rfl, IntN.more (K := K) ?_ xq, IntN.more (K := L) ?_ xq⟩
 ·rw [key.1]; exact (aQ.ext aB)
 rw [key.2]; exact (nat_intN (ag.ext (au.t (aF.t aB))))
set_option maxHeartbeats 2000000 in
theorem k_reduce {u w : World} {i1 i2 : IL} {z y : Int} {K L : Nat} (d : Dat u w) (hi1 : IntV u i1 z K) (hi2 : IntV u i2 y L) (hK : K ≤ 400000000) (hL : L ≤ 400000000) : Calls Tryz.prog 84 #[i1.v, i2.v] w (Post u w fun v u' => ∃ r : RL, v = r.v ∧ RatN u' r ((z : Rat) / (y : Rat)) (max K L + 1)) := by
 refine zzm (args := [i1.v, i2.v]) Tryz.func84 rfl Tryz.ntmps84 (rs := [.cell 4 32]) Tryz.results84 (le_b rfl) (le_b rfl) d ?_
 refine sq9 (zzk 2 ⟨30, i1.cs⟩ (zzk 3 ⟨30, i2.cs⟩ (zzk 4 ⟨32, zw3⟩ (zzb (zzd (sq9 (zzi 12 (.v (i1.v)) ty30 zze (zzg 13 96 _ fun _ _ af aL => Post.mono (k_riSign aL (hi1.ext af) xq) ?_))))))))
 rintro _ u12 ai rfl
 refine zza 14 (zB ((Nt.cmpS z 0) == 0)) ?_
 rcases Bool.eq_false_or_eq_true ((Nt.cmpS z 0) == 0) with hs15 | hs15
 ·refine zyq 15 (x := zB ((Nt.cmpS z 0) == 0)) (zB true) (by rw [hs15]) ?_
  have aF : z = 0 := Nt.cmp_eq0 hs15
  refine zzn 16 (uw 3 false true 15) (zzn 17 (uw 3 false true 15) (zzn 18 (uw 3 false true 15) (zza 19 (zB true) (zzb (zyr xj (sq9 (zxy 20 ⟨133, [.int .u32 1]⟩ 1 (fun ak u17 e18 aG => ?_))))))))
  refine zza 21 (.v (.agg #[.bool false, .slice none 0 0, .slice (some ⟨ak, 0, none⟩) 1 1])) (zzj ⟨32, [.bool false, .slice none 0 0, .slice (some ⟨ak, 0, none⟩) 1 1]⟩ ty32 ?_)
  refine zzb (zzo (zzw (ret0 [.agg #[.bool false, .slice none 0 0, .slice (some ⟨ak, 0, none⟩) 1 1]] ⟨zzr ty32 zze, trivial⟩ fun u20 aN => ?_)))
  refine ⟨(⟨false, ⟨none, 0, 0⟩, (⟨some ⟨ak, 0, none⟩, 1, 1⟩ : Sl)⟩ : RL), rfl, ?_⟩
  have h9 : (z : Rat) / (y : Rat) = ((0 : Int) : Rat) := by rw [aF]; simp [Rat.div_def]
  rw [h9]
  exact RatN.more (whole_rat (int_zero _ 1) ((one_data aG).ext aN)) xq
 refine zyq 15 (x := zB ((Nt.cmpS z 0) == 0)) (zB false) (by rw [hs15]) ?_
 have aF : z ≠ 0 := Nt.cmp_ne0 hs15
 refine zzi 16 (.v (i2.v)) ty30 zze ?_ (hw := w1 3 false 15)
 refine zzg 17 96 _ (fun _ _ ag aM => Post.mono (k_riSign aM (hi2.ext (af.t (ai.t ag))) xq) ?_) (hw := w1 3 false 15)
 rintro _ u23 al rfl
 refine zza 18 (zB ((Nt.cmpS y 0) == 0)) ?_ (hw := w1 3 false 15)
 refine zza 19 (zB ((Nt.cmpS y 0) == 0)) (zzb (zzu (b := (Nt.cmpS y 0) == 0) xj (fun ae => ?_) (fun ae => ?_)))
 ·have ah : y = 0 := Nt.cmp_eq0 ae
  refine sq9 (zxy 20 ⟨133, [.int .u32 1]⟩ 1 (fun an u28 e29 aO => ?_))
  refine zza 21 (.v (.agg #[.bool false, .slice none 0 0, .slice (some ⟨an, 0, none⟩) 1 1])) (zzj ⟨32, [.bool false, .slice none 0 0, .slice (some ⟨an, 0, none⟩) 1 1]⟩ ty32 ?_)
  refine zzb (zzo (zzw (ret0 [.agg #[.bool false, .slice none 0 0, .slice (some ⟨an, 0, none⟩) 1 1]] ⟨zzr ty32 zze, trivial⟩ fun u31 aQ => ?_)))
  refine ⟨(⟨false, ⟨none, 0, 0⟩, (⟨some ⟨an, 0, none⟩, 1, 1⟩ : Sl)⟩ : RL), rfl, ?_⟩
  have h9 : (z : Rat) / (y : Rat) = ((0 : Int) : Rat) := by rw [ah]; simp [Rat.div_def]
  rw [h9]
  exact RatN.more (whole_rat (int_zero _ 1) ((one_data aO).ext aQ)) xq
 have ah : y ≠ 0 := Nt.cmp_ne0 ae
 have ax : ((Nat.gcd z.natAbs y.natAbs : Nat) : Int) ≠ 0 := by have h9 := Nat.gcd_pos_of_pos_right z.natAbs (Int.natAbs_pos.2 ah); omega
 refine zzs (zzp ?_)
 refine sq9 (zzi 22 (.v (i1.v)) ty30 zze (zzi 23 (.v (i2.v)) ty30 zze (zzg 24 155 _ fun _ _ ap aI => Post.mono (k_riGcd aI (hi1.ext (af.t (ai.t (ag.t (al.t ap))))) (hi2.ext (af.t (ai.t (ag.t (al.t ap))))) xq xq) ?_)))
 rintro _ u36 aw ⟨aq, rfl, aA⟩
 refine zzk 5 ⟨30, [.bool false, .slice none 0 0]⟩ (zzj ⟨30, aq.cs⟩ ty30 ?_)
 refine zzb (sq9 (zzi 26 (.v (i1.v)) ty30 zze (zzi 27 (.v (aq.v)) ty30 zze (zzg 28 156 _ fun _ _ am aK => Post.mono (k_riDiv aK (hi1.ext (af.t (ai.t (ag.t (al.t (ap.t (aw.t am))))))) (aA.ext am).raw ax xq xq) ?_))))
 rintro _ u44 aD ⟨ac, au, rfl, aB, h43⟩
 refine zza 25 (.v (.tuple #[ac.v, au.v, .int .i64 0])) (zza 29 (.v (ac.v)) (zza 30 (.v (au.v)) (zza 31 (zI 0) (zzk 6 ⟨30, [.bool false, .slice none 0 0]⟩ (zzk 7 ⟨30, [.bool false, .slice none 0 0]⟩ (zzj ⟨30, ac.cs⟩ ty30 ?_))))))
 refine zzj ⟨30, au.cs⟩ ty30 ?_
 refine zza 8 (zI 0) (zzb (sq9 (zzi 33 (.v (i2.v)) ty30 zze (zzi 34 (.v (aq.v)) ty30 zze (zzg 35 156 _ fun _ _ ao aR => Post.mono (k_riDiv aR (hi2.ext (af.t (ai.t (ag.t (al.t (ap.t (aw.t (am.t (aD.t ao))))))))) (aA.ext (am.t (aD.t ao))).raw ax xq xq) ?_)))))
 rintro _ u52 aE ⟨aa, ar, rfl, aj, h51⟩
 refine zza 32 (.v (.tuple #[aa.v, ar.v, .int .i64 0])) (zza 36 (.v (aa.v)) (zza 37 (.v (ar.v)) (zza 38 (zI 0) (zzk 9 ⟨30, [.bool false, .slice none 0 0]⟩ (zzk 10 ⟨30, [.bool false, .slice none 0 0]⟩ (zzj ⟨30, aa.cs⟩ ty30 ?_))))))
 refine zzj ⟨30, ar.cs⟩ ty30 ?_
 refine zza 11 (zI 0) (zzc 47 [(4, .adr 4 0), (6, .adr 6 0), (9, .adr 9 0)] [(4, ⟨32, zw3⟩), (6, ⟨30, ac.cs⟩), (9, ⟨30, aa.cs⟩)] (zzd (sq9 (zza 39 (.adr 9 0) (zzi 40 (zB aa.s) ty4 zzl (zzb (zzu (b := aa.s) xj (fun ab => ?_) (fun ab => ?_))))))))
 ·replace ab : aa.s = true := ab
  refine zzf (zzi 41 (.v (ac.v)) ty30 zze (zzg 42 81 _ fun _ _ aC aH => Post.mono (k_riNeg aH (aB.ext (ao.t (aE.t aC))).raw xq) ?_))
  rintro _ u59 aP ⟨ad, rfl, aJ⟩
  refine zzj ⟨30, ad.cs⟩ ty30 ?_
  refine zzb (sq9 (zzi 43 (.v (ad.v)) ty30 zze (zza 44 (.adr 9 1) (zzi 45 (.v (aa.m.v)) ty28 zzl (zza 46 (.v (.agg #[.bool ad.s, ad.m.v, aa.m.v])) (zzj ⟨32, ad.cs ++ [aa.m.v]⟩ ty32 ?_))))))
  refine zzb (zzo (ret0 [.agg #[.bool ad.s, ad.m.v, aa.m.v]] ⟨zzr ty32 zze, trivial⟩ fun u62 av => ?_))
  refine ⟨(⟨ad.s, ad.m, aa.m⟩ : RL), rfl, RatN.more (red_neg ah rfl (aJ.ext av) aj ab ((int_mag aj).ext (aC.t (aP.t av)))) xq⟩
 replace ab : aa.s = false := ab
 refine zzs (zzp ?_)
 refine sq9 (zzi 43 (.v (ac.v)) ty30 zze (zza 44 (.adr 9 1) (zzi 45 (.v (aa.m.v)) ty28 zzl (zza 46 (.v (.agg #[.bool ac.s, ac.m.v, aa.m.v])) (zzj ⟨32, ac.cs ++ [aa.m.v]⟩ ty32 ?_)))))
 refine zzb (zzo (ret0 [.agg #[.bool ac.s, ac.m.v, aa.m.v]] ⟨zzr ty32 zze, trivial⟩ fun u64 ay => ?_))
 refine ⟨(⟨ac.s, ac.m, aa.m⟩ : RL), rfl, RatN.more (red_pos ah rfl (aB.ext (ao.t (aE.t ay))) aj ab ((int_mag aj).ext ay)) xq⟩
theorem k_parts {u w : World} {r : RL} {q : Rat} {K : Nat} (d : Dat u w) (h : RatV u r q K) (hKK : K ≤ 400000000) : Calls Tryz.prog 95 #[r.v] w (Post u w (PartV q K)) := by
 obtain ⟨⟨z, D, hi, hd, hq⟩, hK⟩ := h
 change IntV u ⟨r.s, r.m⟩ z K at hi
 change NatV u r.d D K at hd
 refine zzm (args := [r.v]) Tryz.func95 rfl Tryz.ntmps95 (rs := [.cell 2 30, .cell 3 30]) Tryz.results95 (le_b rfl) (le_b rfl) d ?_
 refine sq9 (zzk 1 ⟨32, r.cs⟩ (zzk 2 ⟨30, [.bool false, .slice none 0 0]⟩ (zzk 3 ⟨30, [.bool false, .slice none 0 0]⟩ (zzb (sq9 (zza 5 (.adr 1 2) (zzi 6 (.v (r.d.v)) ty28 zzl (zzg 7 157 _ fun _ _ ag ak => Post.mono (k_rnTrim ak (hd.ext ag) xq) ?_))))))))
 rintro _ u14 aj ⟨aa, rfl, ae⟩
 refine zza 8 (.v (.agg #[.bool false, aa.v])) (zzk 4 ⟨30, [.bool false, .slice none 0 0]⟩ (zzj ⟨30, [.bool false, aa.v]⟩ ty30 ?_))
 refine zzb (zzd (sq9 (zza 9 (.adr 4 1) (zzi 10 (.v (aa.v)) ty28 zzl (zza 11 (zI aa.n) (zza 12 (zB ((aa.n : Int) == 0)) (zzb (zzu (b := (aa.n : Int) == 0) xj (fun ab => ?_) (fun ab => ?_)))))))))
 ·have ac : (aa.n : Int) = 0 := by simpa using ab
  refine sq9 (zza 13 (.v (.agg #[.bool false, .slice none 0 0])) (zxy 14 ⟨133, [.int .u32 1]⟩ 1 (fun ad u19 e20 ah => ?_)))
  refine zza 15 (.v (.agg #[.bool false, .slice (some ⟨ad, 0, none⟩) 1 1])) (zzj ⟨30, [.bool false, .slice none 0 0]⟩ ty30 ?_)
  refine zzj ⟨30, [.bool false, .slice (some ⟨ad, 0, none⟩) 1 1]⟩ ty30 ?_
  refine zzb (zzo (zzw (ret0 [.agg #[.bool false, .slice none 0 0], .agg #[.bool false, .slice (some ⟨ad, 0, none⟩) 1 1]] ⟨zzr ty30 zze, zzr ty30 zze, trivial⟩ fun u22 ai => ?_)))
  have hp := ae.pos
  have hD : D = 0 := by simp at ab; omega
  exact ⟨⟨false, ⟨none, 0, 0⟩⟩, ⟨false, (⟨some ⟨ad, 0, none⟩, 1, 1⟩ : Sl)⟩, 0, 1, rfl, (int_zero _ K).raw, nat_intN (((one_data ah).ext ai).more hK), by omega, by rw [hq, hD]; simp, hK⟩
 have ac : ¬ ((aa.n : Int) = 0) := by simpa using ab
 refine zzs (zzp ?_)
 refine zzd (zzz [0, 1, 0, 3, 15] [(0, []), (1, []), (2, []), (3, [4]), (4, [])] xj xj (zza 16 (.adr 1 0) (zzi 17 (.v (.agg #[.bool r.s, r.m.v])) ty30 zze (zzi 18 (.v (.agg #[.bool false, aa.v])) ty30 zze (zzj ⟨30, [.bool r.s, r.m.v]⟩ ty30 ?_)))))
 refine zzj ⟨30, [.bool false, aa.v]⟩ ty30 ?_
 refine zzb (zzo (ret0 [.agg #[.bool r.s, r.m.v], .agg #[.bool false, aa.v]] ⟨zzr ty30 zze, zzr ty30 zze, trivial⟩ fun u24 af => ?_))
 have hp := ae.pos
 exact ⟨⟨r.s, r.m⟩, ⟨false, aa⟩, z, D, rfl, (hi.ext (ag.t (aj.t af))), nat_intN (ae.ext af), by simp at ab; omega, hq, hK⟩
theorem k_rqTrim {u w : World} {r1 : RL} {x : Rat} {K : Nat} (d : Dat u w) (hr1 : RatV u r1 x K) (hK : K ≤ 100000000) : Calls Tryz.prog 80 #[r1.v] w (Post u w fun v u' => ∃ r : RL, v = r.v ∧ RatN u' r x K) := by
 refine zzm (args := [r1.v]) Tryz.func80 rfl Tryz.ntmps80 (rs := [.cell 2 32]) Tryz.results80 (le_b rfl) (le_b rfl) d ?_
 refine sq9 (zzk 1 ⟨32, r1.cs⟩ (zzk 2 ⟨32, zw3⟩ (zzb (sq9 (zzi 6 (.v (r1.v)) ty32 zze (zzg 7 95 _ fun _ _ aj al => Post.mono (k_parts al (hr1.ext aj) xq) ?_))))))
 rintro _ u13 g14 ⟨aa, ab, z12, D12, rfl, ad, af, ai, ac, ah⟩
 refine zza 5 (.v (.tuple #[aa.v, ab.v])) (zza 8 (.v (aa.v)) (zza 9 (.v (ab.v)) (zzk 3 ⟨30, [.bool false, .slice none 0 0]⟩ (zzk 4 ⟨30, [.bool false, .slice none 0 0]⟩ (zzj ⟨30, aa.cs⟩ ty30 ?_)))))
 refine zzj ⟨30, ab.cs⟩ ty30 ?_
 refine zzb (sq9 (zzi 10 (.v (aa.v)) ty30 zze (zzi 11 (.v (ab.v)) ty30 zze (zzg 12 84 _ fun _ _ ag am => Post.mono (k_reduce am (ad.ext ag) (af.ext ag).raw xq xq) ?_))))
 rintro _ u19 g20 ⟨ae, rfl, an⟩
 refine zzj ⟨32, ae.cs⟩ ty32 ?_
 refine zzb (zzo (ret0 [ae.v] ⟨zzr ty32 zze, trivial⟩ fun u22 ak => ?_))
 refine ⟨ae, rfl, RatN.fit (K := (max K K + 1)) ?_ (hr1.rs)⟩
 rw [ac, ← Nt.mk_div]
 exact (an.ext ak)
theorem k_rqSame {u w : World} {r1 r2 : RL} {x y : Rat} {K L : Nat} (d : Dat u w) (hr1 : RatN u r1 x K) (hr2 : RatN u r2 y L) : Calls Tryz.prog 16 #[r1.v, r2.v] w (Post u w fun v _ => v = .bool (decide (x = y))) := by
 refine zzm (args := [r1.v, r2.v]) Tryz.func16 rfl Tryz.ntmps16 (rs := [.tmp 4]) Tryz.results16 (le_b rfl) (le_b rfl) d ?_
 refine sq9 (zzk 2 ⟨32, r1.cs⟩ (zzk 3 ⟨32, r2.cs⟩ (zza 4 (zB false) (zzb (sq9 (zza 5 (.adr 2 0) (zzi 6 (.v (.agg #[.bool r1.s, r1.m.v])) ty30 zze (zza 7 (.adr 3 0) (zzi 8 (.v (.agg #[.bool r2.s, r2.m.v])) ty30 zze (zzg 9 74 _ fun _ _ aa ad => Post.mono (k_riSame ad ((RatN.num hr1).ext aa) ((RatN.num hr2).ext aa)) ?_))))))))))
 rintro _ u12 ab rfl
 rcases Bool.eq_false_or_eq_true (decide (x.num = y.num)) with hs15 | hs15
 ·refine zyq 10 (x := zB (decide (x.num = y.num))) (zB true) (by rw [hs15]) ?_
  have qhs15 := of_decide_eq_true hs15
  refine zza 11 (.adr 2 2) ?_ (hw := w1 5 true 10)
  refine zzi 12 (.v (r1.d.v)) ty28 zzl ?_ (hw := w1 5 true 10)
  refine zza 13 (.adr 3 2) ?_ (hw := w1 5 true 10)
  refine zzi 14 (.v (r2.d.v)) ty28 zzl ?_ (hw := w1 5 true 10)
  refine zzg 15 75 _ (fun _ _ ac ae => Post.mono (k_rnSame ae ((RatN.den hr1).ext (aa.t (ab.t ac))) ((RatN.den hr2).ext (aa.t (ab.t ac)))) ?_) (hw := w1 5 true 10)
  rintro _ u17 g18 rfl
  refine zza 16 (zB (decide (x.den = y.den))) (zza 4 (zB (decide (x.den = y.den))) (zzb (zzo (ret0 [.bool (decide (x.den = y.den))] ⟨zzq, trivial⟩ fun u20 e21 => ?_))))
  show _ = _
  rw [← Nt.same_q, hs15]
  rfl
 refine zyq 10 (x := zB (decide (x.num = y.num))) (zB false) (by rw [hs15]) ?_
 have qhs15 := of_decide_eq_false hs15
 refine zzn 11 (uw 5 true false 10) (zzn 12 (uw 5 true false 10) (zzn 13 (uw 5 true false 10) (zzn 14 (uw 5 true false 10) (zzn 15 (uw 5 true false 10) (zza 16 (zB false) (zza 4 (zB false) (zzb (zzo (ret0 [.bool false] ⟨zzq, trivial⟩ fun u22 e23 => ?_)))))))))
 show _ = _
 rw [← Nt.same_q, hs15]
 rfl
theorem k_rqSign {u w : World} {r1 : RL} {x : Rat} {K : Nat} (d : Dat u w) (hr1 : RatV u r1 x K) (hK : K ≤ 100000000) : Calls Tryz.prog 32 #[r1.v] w (Post u w fun v u' => v = .int .i64 (Nt.sgQ x)) := by
 refine zzm (args := [r1.v]) Tryz.func32 rfl Tryz.ntmps32 (rs := [.tmp 2]) Tryz.results32 (le_b rfl) (le_b rfl) d ?_
 refine sq9 (zzk 1 ⟨32, r1.cs⟩ (zza 2 (zI 0) (zzb (sq9 (zzi 6 (.v (r1.v)) ty32 zze (zzg 7 95 _ fun _ _ ah ai => Post.mono (k_parts ai (hr1.ext ah) xq) ?_))))))
 rintro _ u13 g14 ⟨aa, ae, af, D12, rfl, ad, ak, ab, ac, ag⟩
 refine zza 5 (.v (.tuple #[aa.v, ae.v])) (zza 8 (.v (aa.v)) (zza 9 (.v (ae.v)) (zzk 3 ⟨30, [.bool false, .slice none 0 0]⟩ (zzk 4 ⟨30, [.bool false, .slice none 0 0]⟩ (zzj ⟨30, aa.cs⟩ ty30 ?_)))))
 refine zzj ⟨30, ae.cs⟩ ty30 ?_
 refine zzb (sq9 (zzi 10 (.v (aa.v)) ty30 zze (zzg 11 96 _ fun _ _ al aj => Post.mono (k_riSign aj (ad.ext al) xq) ?_)))
 rintro _ u17 g18 rfl
 refine zza 2 (zI (Nt.cmpS af 0)) (zzb (zzo (ret0 [.int .i64 (Nt.cmpS af 0)] ⟨zzq, trivial⟩ fun u20 e21 => ?_)))
 show _ = _
 rw [ac, ← Nt.sg_mk ab]
 rfl
theorem k_signed {u w : World} {s : Bool} {x : Sl} {N K : Nat} (d : Dat u w) (h : NatN u x N K) : Calls Tryz.prog 193 #[.bool s, x.v] w (Post u w fun v u' => ∃ i : IL, v = i.v ∧ IntN u' i (Nt.sg s N) K) := by
 refine zzm (args := [.bool s, x.v]) Tryz.func193 rfl Tryz.ntmps193 (rs := [.cell 4 30]) Tryz.results193 (le_b rfl) (le_b rfl) d ?_
 refine sq9 (zzk 4 ⟨30, [.bool false, .slice none 0 0]⟩ (zzb (sq9 (zza 5 (zB s) ?_))))
 rcases Bool.eq_false_or_eq_true s with hs11 | hs11
 ·refine zyq 6 (x := zB s) (zB true) (by rw [hs11]) (zza 7 (.v (x.v)) ?_ (hw := w1 1 true 6))
  refine zza 8 (zI x.n) ?_ (hw := w1 1 true 6)
  refine zza 9 (zB (decide ((0 : Int) < (x.n : Int)))) ?_ (hw := w1 1 true 6)
  refine zza 10 (zB (decide ((0 : Int) < (x.n : Int)))) (zza 11 (.v (x.v)) (zza 12 (.v (.agg #[.bool (decide ((0 : Int) < (x.n : Int))), x.v])) (zzj ⟨30, [.bool (decide ((0 : Int) < (x.n : Int))), x.v]⟩ ty30 ?_)))
  refine zzb (zzo (ret0 [.agg #[.bool (decide ((0 : Int) < (x.n : Int))), .slice x.a x.n x.c]] ⟨zzr ty30 zze, trivial⟩ fun u12 aa => ?_))
  rw [hs11]
  exact ⟨⟨_, x⟩, rfl, signed_int (s := true) (h.ext aa)⟩
 refine zyq 6 (x := zB s) (zB false) (by rw [hs11]) (zzn 7 (uw 1 true false 6) (zzn 8 (uw 1 true false 6) (zzn 9 (uw 1 true false 6) (zza 10 (zB false) (zza 11 (.v (x.v)) (zza 12 (.v (.agg #[.bool false, x.v])) (zzj ⟨30, [.bool false, x.v]⟩ ty30 ?_)))))))
 refine zzb (zzo (ret0 [.agg #[.bool false, .slice x.a x.n x.c]] ⟨zzr ty30 zze, trivial⟩ fun u14 ab => ?_))
 rw [hs11]
 exact ⟨⟨_, x⟩, rfl, signed_int (s := false) (h.ext ab)⟩
theorem k_intTrim {u w : World} {i1 : IL} {zN : Int} {K : Nat} (d : Dat u w) (hi1 : IntV u i1 zN K) (hK : K ≤ 500000000) : Calls Tryz.prog 200 #[i1.v] w (Post u w fun v u' => ∃ i : IL, v = i.v ∧ IntN u' i zN K) := by
 obtain ⟨N, hN, hzN⟩ := hi1
 refine zzm (args := [i1.v]) Tryz.func200 rfl Tryz.ntmps200 (rs := [.cell 2 30]) Tryz.results200 (le_b rfl) (le_b rfl) d ?_
 refine sq9 (zzk 1 ⟨30, i1.cs⟩ (zzk 2 ⟨30, [.bool false, .slice none 0 0]⟩ (zzb (zzd (zzz [0, 1, 0, 4, 12, 31, 63] [(0, []), (1, []), (2, []), (3, []), (4, []), (5, []), (6, [])] xj xj (zza 3 (.adr 1 0) (zzi 4 (zB i1.s) ty4 zzl (zza 5 (.adr 1 1) (zzi 6 (.v (i1.m.v)) ty28 zzl (zzg 7 194 _ fun _ _ ac ag => Post.mono (k_natTrim ag (hN.ext ac) xq) ?_))))))))))
 rintro _ u14 g15 ⟨x12, rfl, ah⟩
 refine zzg 8 193 _ fun _ _ ae af => Post.mono (k_signed af (s := i1.s) (ah.ext ae)) ?_
 rintro _ u20 g21 ⟨aa, rfl, ad⟩
 refine zzj ⟨30, aa.cs⟩ ty30 ?_
 refine zzb (zzo (ret0 [aa.v] ⟨zzr ty30 zze, trivial⟩ fun u23 ab => ?_))
 refine ⟨aa, rfl, IntN.more (K := K) ?_ xq⟩
 rw [hzN]
 exact (ad.ext ab)
theorem k_intMul {u w : World} {i1 : IL} {zN : Int} {K : Nat} {i2 : IL} {zM : Int} {L : Nat} (d : Dat u w) (hi1 : IntV u i1 zN K) (hi2 : IntV u i2 zM L) (hK : K ≤ 500000000) (hL : L ≤ 500000000) : Calls Tryz.prog 143 #[i1.v, i2.v] w (Post u w fun v u' => ∃ i : IL, v = i.v ∧ IntN u' i (zN * zM) (K + L)) := by
 obtain ⟨N, hN, hzN⟩ := hi1
 obtain ⟨M, hM, hzM⟩ := hi2
 refine zzm (args := [i1.v, i2.v]) Tryz.func143 rfl Tryz.ntmps143 (rs := [.cell 4 30]) Tryz.results143 (le_b rfl) (le_b rfl) d ?_
 refine sq9 (zzk 2 ⟨30, i1.cs⟩ (zzk 3 ⟨30, i2.cs⟩ (zzk 4 ⟨30, [.bool false, .slice none 0 0]⟩ (zzb (zzd (zzz [0, 1, 0, 4, 15, 0, 32, 0, 128, 480, 1023, 2047] [(0, []), (1, []), (2, []), (3, []), (4, []), (5, []), (6, []), (7, []), (8, []), (9, []), (10, []), (11, [])] xj xj (zza 5 (.adr 2 0) (zzi 6 (zB i1.s) ty4 zzl (zza 7 (.adr 3 0) (zzi 8 (zB i2.s) ty4 zzl (zza 9 (zB (!(i1.s == i2.s))) ?_)))))))))))
 refine zza 10 (.adr 2 1) (zzi 11 (.v (i1.m.v)) ty28 zzl (zza 12 (.adr 3 1) (zzi 13 (.v (i2.m.v)) ty28 zzl (zzg 14 167 _ fun _ _ ab af => Post.mono (k_natMul af (hN.ext ab) (hM.ext ab) xq xq) ?_))))
 rintro _ u14 g15 ⟨x12, rfl, ag⟩
 refine zzg 15 193 _ fun _ _ ae ah => Post.mono (k_signed ah (s := !(i1.s == i2.s)) (ag.ext ae)) ?_
 rintro _ u20 g21 ⟨aa, rfl, ad⟩
 refine zzj ⟨30, aa.cs⟩ ty30 ?_
 refine zzb (zzo (ret0 [aa.v] ⟨zzr ty30 zze, trivial⟩ fun u23 ac => ?_))
 refine ⟨aa, rfl, IntN.more (K := (K + L)) ?_ xq⟩
 rw [hzN, hzM, ← Nt.sg_mul]
 exact (ad.ext ac)
theorem k_intAdd {u w : World} {i1 : IL} {zN : Int} {K : Nat} {i2 : IL} {zM : Int} {L : Nat} (d : Dat u w) (hi1 : IntV u i1 zN K) (hi2 : IntV u i2 zM L) (hK : K ≤ 500000000) (hL : L ≤ 500000000) : Calls Tryz.prog 165 #[i1.v, i2.v] w (Post u w fun v u' => ∃ i : IL, v = i.v ∧ IntN u' i (zN + zM) (max K L + 1)) := by
 obtain ⟨N, hN, hzN⟩ := hi1
 obtain ⟨M, hM, hzM⟩ := hi2
 refine zzm (args := [i1.v, i2.v]) Tryz.func165 rfl Tryz.ntmps165 (rs := [.cell 4 30]) Tryz.results165 (le_b rfl) (le_b rfl) d ?_
 refine sq9 (zzk 2 ⟨30, i1.cs⟩ (zzk 3 ⟨30, i2.cs⟩ (zzk 4 ⟨30, [.bool false, .slice none 0 0]⟩ (zzb (zzd (sq9 (zza 5 (.adr 2 0) (zzi 6 (zB i1.s) ty4 zzl (zza 7 (.adr 3 0) (zzi 8 (zB i2.s) ty4 zzl (zza 9 (zB (i1.s == i2.s)) ?_)))))))))))
 refine zzb (zzu (b := i1.s == i2.s) xj (fun aa => ?_) (fun aa => ?_))
 ·refine zzd (zzz [0, 1, 0, 4, 0, 16, 60, 127, 255] [(0, []), (1, []), (2, []), (3, []), (4, []), (5, []), (6, []), (7, []), (8, [])] xj xj (zza 10 (.adr 2 0) (zzi 11 (zB i1.s) ty4 zzl (zza 12 (.adr 2 1) (zzi 13 (.v (i1.m.v)) ty28 zzl (zza 14 (.adr 3 1) (zzi 15 (.v (i2.m.v)) ty28 zzl (zzg 16 196 _ fun _ _ ah aC => Post.mono (k_natAdd aC (hN.ext ah) (hM.ext ah) xq xq) ?_))))))))
  rintro _ u15 g16 ⟨x13, rfl, au⟩
  refine zzg 17 193 _ fun _ _ ay aA => Post.mono (k_signed aA (s := i1.s) (au.ext ay)) ?_
  rintro _ u21 g22 ⟨ae, rfl, av⟩
  refine zzj ⟨30, ae.cs⟩ ty30 ?_
  refine zzb (zzo (zzw (ret0 [ae.v] ⟨zzr ty30 zze, trivial⟩ fun u24 al => ?_)))
  refine ⟨ae, rfl, IntN.more (K := (max K L + 1)) ?_ xq⟩
  rw [hzN, hzM, ← Nt.sg_add1 N M aa]
  exact (av.ext al)
 refine zzs (zzp ?_)
 refine zzd (sq9 (zza 18 (.adr 2 1) (zzi 19 (.v (i1.m.v)) ty28 zzl (zza 20 (.adr 3 1) (zzi 21 (.v (i2.m.v)) ty28 zzl (zzg 22 166 _ fun _ _ ac aw => Post.mono (k_natCompare aw (hN.ext ac) (hM.ext ac)) ?_))))))
 rintro _ u27 ad rfl
 refine zza 23 (zB ((Nt.cmpS N M) == (-1))) (zzb (zzu (b := (Nt.cmpS N M) == (-1)) xj (fun ab => ?_) (fun ab => ?_)))
 ·refine zzd (zzz [0, 1, 0, 4, 0, 16, 60, 127, 255] [(0, []), (1, []), (2, []), (3, []), (4, []), (5, []), (6, []), (7, []), (8, [])] xj xj (zza 24 (.adr 3 0) (zzi 25 (zB i2.s) ty4 zzl (zza 26 (.adr 3 1) (zzi 27 (.v (i2.m.v)) ty28 zzl (zza 28 (.adr 2 1) (zzi 29 (.v (i1.m.v)) ty28 zzl (zzg 30 197 _ fun _ _ aj aq => Post.mono (k_natSub aq (hM.ext (ac.t (ad.t aj))) (hN.ext (ac.t (ad.t aj))) xq xq) ?_))))))))
  rintro _ u34 g35 ⟨x32, rfl, ap⟩
  refine zzg 31 193 _ fun _ _ aB aD => Post.mono (k_signed aD (s := i2.s) (ap.ext aB)) ?_
  rintro _ u40 g41 ⟨af, rfl, ar⟩
  refine zzj ⟨30, af.cs⟩ ty30 ?_
  refine zzb (zzo (zzw (ret0 [af.v] ⟨zzr ty30 zze, trivial⟩ fun u43 am => ?_)))
  refine ⟨af, rfl, IntN.more (K := L) ?_ xq⟩
  rw [hzN, hzM, ← Nt.sg_add2 N M aa ab]
  exact (ar.ext am)
 refine zzs (zzp ?_)
 refine zzd (zzz [0, 1, 0, 4, 0, 16, 60, 127, 255] [(0, []), (1, []), (2, []), (3, []), (4, []), (5, []), (6, []), (7, []), (8, [])] xj xj (zza 32 (.adr 2 0) (zzi 33 (zB i1.s) ty4 zzl (zza 34 (.adr 2 1) (zzi 35 (.v (i1.m.v)) ty28 zzl (zza 36 (.adr 3 1) (zzi 37 (.v (i2.m.v)) ty28 zzl (zzg 38 197 _ fun _ _ ai ak => Post.mono (k_natSub ak (hN.ext (ac.t (ad.t ai))) (hM.ext (ac.t (ad.t ai))) xq xq) ?_))))))))
 rintro _ u48 g49 ⟨x46, rfl, an⟩
 refine zzg 39 193 _ fun _ _ ax aE => Post.mono (k_signed aE (s := i1.s) (an.ext ax)) ?_
 rintro _ u54 g55 ⟨ag, rfl, aF⟩
 refine zzj ⟨30, ag.cs⟩ ty30 ?_
 refine zzb (zzo (ret0 [ag.v] ⟨zzr ty30 zze, trivial⟩ fun u57 ao => ?_))
 refine ⟨ag, rfl, IntN.more (K := K) ?_ xq⟩
 rw [hzN, hzM, ← Nt.sg_add3 N M aa ab]
 exact (aF.ext ao)
theorem k_intSign {u w : World} {i1 : IL} {zN : Int} {K : Nat} (d : Dat u w) (hi1 : IntV u i1 zN K)  : Calls Tryz.prog 147 #[i1.v] w (Post u w fun v u' => v = .int .i64 (Nt.cmpS zN 0)) := by
 obtain ⟨N, hN, hzN⟩ := hi1
 refine zzm (args := [i1.v]) Tryz.func147 rfl Tryz.ntmps147 (rs := [.tmp 2]) Tryz.results147 (le_b rfl) (le_b rfl) d ?_
 refine sq9 (zzk 1 ⟨30, i1.cs⟩ (zza 2 (zI 0) (zzb (zzd (zzt (sq9 (zza 4 (.adr 1 1) (zzi 5 (.v (i1.m.v)) ty28 zzl (zzg 6 166 _ fun _ _ ac ad => Post.mono (k_natCompare ad (hN.ext ac) (nat_nil _ 1)) ?_)))))))))
 rintro _ u12 g13 rfl
 refine zza 7 (zB ((Nt.cmpS N 0) == 0)) (zza 3 (zB ((Nt.cmpS N 0) == 0)) (zzb (zzu (b := (Nt.cmpS N 0) == 0) xj (fun ab => ?_) (fun ab => ?_))))
 ·refine sq9 (zza 2 (zI 0) (zzb (zzo (zyu (zzw (ret0 [.int .i64 0] ⟨zzq, trivial⟩ fun u16 e17 => ?_))))))
  show _ = _
  rw [hzN, Nt.sg_cmp0, if_pos ab]
  rfl
 refine sq9 (zza 9 (.adr 1 0) (zzi 10 (zB i1.s) ty4 zzl (zza 8 (zB i1.s) (zzb (zzu (b := i1.s) xj (fun aa => ?_) (fun aa => ?_))))))
 ·replace aa : i1.s = true := aa
  refine sq9 (zza 2 (zI (-1)) (zzb (zzo (zyu (zzw (ret0 [.int .i64 (-1)] ⟨zzq, trivial⟩ fun u19 e20 => ?_))))))
  show _ = _
  rw [hzN, Nt.sg_cmp0, if_neg (ne_true_of_eq_false ab), if_pos aa]
  rfl
 replace aa : i1.s = false := aa
 refine zzs (zzp ?_)
 refine sq9 (zza 2 (zI 1) (zzb (zzo (ret0 [.int .i64 1] ⟨zzq, trivial⟩ fun u21 e22 => ?_))))
 show _ = _
 rw [hzN, Nt.sg_cmp0, if_neg (ne_true_of_eq_false ab), if_neg (ne_true_of_eq_false aa)]
 rfl
theorem k_intOf {u w : World} {z : Int} (d : Dat u w) (h0 : -9223372036854775808 ≤ z) (h1 : z ≤ 9223372036854775807) : Calls Tryz.prog 140 #[.int .i64 z] w (Post u w fun v u' => ∃ i : IL, v = i.v ∧ IntN u' i z 2) := by
 by_cases hneg : z < 0
 ·refine zzm (args := [.int .i64 z]) Tryz.func140 rfl Tryz.ntmps140 (rs := [.cell 2 30]) Tryz.results140 (le_b rfl) (le_b rfl) d ?_
  refine sq9 (zzk 2 ⟨30, [.bool false, .slice none 0 0]⟩ (zzb (sq9 (zza 4 (zI z) (zyq 5 (x := .v (.int .u64 (IntKind.u64.wrap z))) (.v (.int .u64 (z + 18446744073709551616))) (by rw [show (IntKind.u64.wrap z) = (z + 18446744073709551616) from (by simp [IntKind.wrap, IntKind.bits, IntKind.signed]; omega)]) (zza 3 (.v (.int .u64 (z + 18446744073709551616))) (zzb (zzd (sq9 (zza 6 (zI z) (zyq 7 (x := zB (decide (z < 0))) (zB true) (by rw [show (decide (z < 0)) = true from zq]) ?_)))))))))))
  refine zzb (zyr xj (zzf (zza 8 (.v (.int .u64 (z + 18446744073709551616))) (zyq 9 (x := .v (.int .u64 (IntKind.u64.wrap (0 - (z + 18446744073709551616))))) (.v (.int .u64 (-z))) (by rw [show (IntKind.u64.wrap (0 - (z + 18446744073709551616))) = (-z) from (by simp [IntKind.wrap, IntKind.bits, IntKind.signed]; omega)]) (zza 3 (.v (.int .u64 (-z))) (zzb (sq9 (zza 10 (zI z) (zyq 11 (x := zB (decide (z < 0))) (zB true) (by rw [show (decide (z < 0)) = true from zq]) (zza 12 (.v (.int .u64 (-z))) (zyq 13 (x := .v (.int .u32 (IntKind.u32.wrap (-z)))) (.v (.int .u32 ((-z) % 4294967296))) (by rw [show (IntKind.u32.wrap (-z)) = ((-z) % 4294967296) from (IntKind.wrap_u32 _)]) ?_)))))))))))
  refine zza 14 (.v (.int .u64 (-z))) (zyq 15 (x := .v (.int .u64 (Int.fdiv (-z) (2 ^ 32)))) (.v (.int .u64 ((-z) / 4294967296))) (by rw [show (Int.fdiv (-z) (2 ^ 32)) = ((-z) / 4294967296) from (by rw [Int.fdiv_eq_ediv_of_nonneg _ yj]; rfl)]) (zyq 16 (x := .v (.int .u32 (IntKind.u32.wrap ((-z) / 4294967296)))) (.v (.int .u32 ((-z) / 4294967296))) (by rw [show (IntKind.u32.wrap ((-z) / 4294967296)) = ((-z) / 4294967296) from (IntWalk.u32_in _ xq)]) (zxy 17 ⟨133, [.int .u32 ((-z) % 4294967296), .int .u32 ((-z) / 4294967296)]⟩ 2 (fun ak ap am ad => ?_))))
  refine zzg 18 194 [.slice (some ⟨ak, 0, none⟩) 2 2] ?_
  intro w15 u15 ai ac
  have k20 := k_natTrim ac ((two_data (N := z.natAbs) ad xq xq xq).ext ai) xq
  with_reducible refine zPm k20 ?_
  rintro _ ao aq ⟨aj, rfl, ae⟩
  refine zzg 19 193 [.bool true, aj.v] ?_
  intro w21 u21 af ag
  have k26 := k_signed ag (s := true) (ae.ext af)
  with_reducible refine zPm k26 ?_
  rintro _ an ar ⟨aa, rfl, ah⟩
  refine zzj ⟨30, aa.cs⟩ ty30 ?_
  refine zzb (zzo (ret0 [aa.v] ⟨zzr ty30 zze, trivial⟩ fun al ab => ?_))
  refine ⟨aa, rfl, IntN.more (K := 2) ?_ xq⟩
  have e : z = Nt.sg true z.natAbs := by unfold Nt.sg; simp; omega
  rw [e]
  exact (ah.ext ab)
 refine zzm (args := [.int .i64 z]) Tryz.func140 rfl Tryz.ntmps140 (rs := [.cell 2 30]) Tryz.results140 (le_b rfl) (le_b rfl) d ?_
 refine sq9 (zzk 2 ⟨30, [.bool false, .slice none 0 0]⟩ (zzb (sq9 (zza 4 (zI z) (zyq 5 (x := .v (.int .u64 (IntKind.u64.wrap z))) (.v (.int .u64 (z))) (by rw [show (IntKind.u64.wrap z) = z from (by simp [IntKind.wrap, IntKind.bits, IntKind.signed]; omega)]) (zza 3 (.v (.int .u64 z)) (zzb (zzd (sq9 (zza 6 (zI z) (zyq 7 (x := zB (decide (z < 0))) (zB false) (by rw [show (decide (z < 0)) = false from zq]) ?_)))))))))))
 refine zzb (zys xj (zzs (zzp ?_)))
 refine sq9 (zza 10 (zI z) (zyq 11 (x := zB (decide (z < 0))) (zB false) (by rw [show (decide (z < 0)) = false from zq]) (zza 12 (.v (.int .u64 z)) (zyq 13 (x := .v (.int .u32 (IntKind.u32.wrap (z)))) (.v (.int .u32 ((z) % 4294967296))) (by rw [show (IntKind.u32.wrap (z)) = ((z) % 4294967296) from (IntKind.wrap_u32 _)]) (zza 14 (.v (.int .u64 z)) (zyq 15 (x := .v (.int .u64 (Int.fdiv (z) (2 ^ 32)))) (.v (.int .u64 ((z) / 4294967296))) (by rw [show (Int.fdiv (z) (2 ^ 32)) = ((z) / 4294967296) from (by rw [Int.fdiv_eq_ediv_of_nonneg _ yj]; rfl)]) (zyq 16 (x := .v (.int .u32 (IntKind.u32.wrap ((z) / 4294967296)))) (.v (.int .u32 ((z) / 4294967296))) (by rw [show (IntKind.u32.wrap ((z) / 4294967296)) = ((z) / 4294967296) from (IntWalk.u32_in _ xq)]) (zxy 17 ⟨133, [.int .u32 ((z) % 4294967296), .int .u32 ((z) / 4294967296)]⟩ 2 (fun ak ap am ad => ?_)))))))))
 refine zzg 18 194 _ fun _ _ ai ac => Post.mono (k_natTrim ac ((two_data (N := z.natAbs) ad xq xq xq).ext ai) xq) ?_
 rintro _ ao aq ⟨aj, rfl, ae⟩
 refine zzg 19 193 _ fun _ _ af ag => Post.mono (k_signed ag (s := false) (ae.ext af)) ?_
 rintro _ an ar ⟨aa, rfl, ah⟩
 refine zzj ⟨30, aa.cs⟩ ty30 ?_
 refine zzb (zzo (ret0 [aa.v] ⟨zzr ty30 zze, trivial⟩ fun al ab => ?_))
 refine ⟨aa, rfl, IntN.more (K := 2) ?_ xq⟩
 have e : z = Nt.sg false z.natAbs := by unfold Nt.sg; simp; omega
 rw [e]
 exact (ah.ext ab)
end Go.Proofs.YtgmkhhfbckjaeaaGreat
