/- Parts of the proof: contracts of functions, each walked once, and plain laws. -/
import Derived.Test.YtmonfdlnihaabaaGreatWpaB
import Derived.Test.YtmonfdlnihaabaaGreatProg
import Derived.KernelRfl
namespace Go.Proofs.YtmonfdlnihaabaaGreat
set_option linter.unusedVariables false
namespace Nt
def Wh (x : Rat) (C : Nat) : Prop := ∃ z : Int, x = (z : Rat) ∧ z.natAbs ≤ 2 ^ C
def WhL (l : List Rat) (C : Nat) : Prop := ∀ i, Wh (co l i) C
def dg (C : Nat) : Nat := C / 32 + 1
theorem Wh.more {x : Rat} {A C : Nat} (h : Wh x A) (k : A ≤ C) : Wh x C := by
 obtain ⟨z, e, b⟩ := h
 exact ⟨z, e, Nat.le_trans b (Nat.pow_le_pow_right (by omega) k)⟩
theorem WhL.more {l : List Rat} {A C : Nat} (h : WhL l A) (k : A ≤ C) : WhL l C := fun i => (h i).more k
theorem Wh.zero (C : Nat) : Wh 0 C := ⟨0, rfl, Nat.zero_le _⟩
theorem Wh.one (C : Nat) : Wh 1 C := ⟨1, rfl, Nat.pos_of_ne_zero (by exact Nat.ne_of_gt (Nat.pow_pos (by omega)))⟩
theorem Wh.mul {x y : Rat} {A B : Nat} (h : Wh x A) (k : Wh y B) : Wh (x * y) (A + B) := by
 obtain ⟨z, rfl, b⟩ := h
 obtain ⟨v, rfl, c⟩ := k
 exact ⟨z * v, by rw [Rat.intCast_mul], by rw [Int.natAbs_mul, Nat.pow_add]; exact Nat.mul_le_mul b c⟩
theorem Wh.sub {x y : Rat} {A : Nat} (h : Wh x A) (k : Wh y A) : Wh (x - y) (A + 1) := by
 obtain ⟨z, rfl, b⟩ := h
 obtain ⟨v, rfl, c⟩ := k
 exact ⟨z - v, by rw [Rat.intCast_sub], by rw [Nat.pow_succ]; omega⟩
theorem Wh.add {x y : Rat} {A : Nat} (h : Wh x A) (k : Wh y A) : Wh (x + y) (A + 1) := by
 obtain ⟨z, rfl, b⟩ := h
 obtain ⟨v, rfl, c⟩ := k
 exact ⟨z + v, by rw [Rat.intCast_add], by rw [Nat.pow_succ]; omega⟩
theorem pwTwo (k : Nat) : pw k = ((2 ^ (32 * k) : Nat) : Int) := by
 induction k with
 | zero => rfl
 | succ k ih =>
  rw [show 32 * (k + 1) = 32 * k + 32 by omega, Nat.pow_add, Int.natCast_mul, ← ih]
  show 4294967296 * pw k = _
  rw [Int.mul_comm]; rfl
theorem Wh.rs {x : Rat} {C : Nat} (h : Wh x C) : rs x ≤ dg C := by
 obtain ⟨z, rfl, b⟩ := h
 refine rs_int ?_ (by unfold dg; omega)
 refine dl_le ?_
 rw [pwTwo]
 refine Int.ofNat_lt.2 (Nat.lt_of_le_of_lt b (Nat.pow_lt_pow_right (by omega) (by unfold dg; omega)))
theorem Wh.quo {x y : Rat} {A B : Nat} (h : Wh x A) (k : Wh y B) (hy : y ≠ 0) : Wh ((x / y).num : Rat) A ∧ Wh (((x / y).den : Nat) : Int) B := by
 obtain ⟨z, rfl, b⟩ := h
 obtain ⟨v, rfl, c⟩ := k
 have hv : v ≠ 0 := by rintro rfl; exact hy rfl
 rw [← div_mk2 hv]
 have hp : 0 < v.natAbs := Int.natAbs_pos.2 hv
 refine ⟨⟨_, rfl, ?_⟩, ⟨_, rfl, ?_⟩⟩
 ·rw [(mk_num hp).1, quoI_abs]
  exact Nat.le_trans (Nat.div_le_self _ _) b
 ·rw [(mk_den hp).1, Int.natAbs_natCast]
  exact Nat.le_trans (Nat.div_le_self _ _) c
theorem co_take {l : List Rat} {n i : Nat} (h : i < n) : co (l.take n) i = l.getD i 0 := by
 unfold co
 rw [List.getD_eq_getElem?_getD, List.getElem?_take_of_lt h, ← List.getD_eq_getElem?_getD]
def mulN (n : Nat) (l : List Rat) (q : Rat) : List Rat := (List.range l.length).map fun i => if i < n then co l i * q else co l i
@[simp] theorem mulN_len (n : Nat) (l : List Rat) (q : Rat) : (mulN n l q).length = l.length := by simp [mulN]
theorem mulN_co (n : Nat) (l : List Rat) (q : Rat) (i : Nat) : co (mulN n l q) i = if i < n then co l i * q else co l i := by
 unfold mulN
 rw [co_range]
 by_cases h : i < l.length
 ·rw [if_pos h]
 ·rw [if_neg h, co_ge (by omega)]
  split
  ·exact (Rat.zero_mul q).symm
  ·rfl
theorem list_ext {l m : List Rat} (hl : l.length = m.length) (h : ∀ i, co l i = co m i) : l = m := by
 apply List.ext_getElem? 
 intro i
 have := h i
 unfold co at this
 rw [List.getD_eq_getElem?_getD, List.getD_eq_getElem?_getD] at this
 by_cases hi : i < l.length
 ·rw [List.getElem?_eq_getElem hi, List.getElem?_eq_getElem (by omega)] at this ⊢
  simpa using this
 ·rw [List.getElem?_eq_none (by omega), List.getElem?_eq_none (by omega)]
theorem WhL.map {l : List Rat} {q : Rat} {A B : Nat} (h : WhL l A) (k : Wh q B) : WhL (l.map (· * q)) (A + B) := fun i => by
 rw [co_map _ (Rat.zero_mul q)]; exact (h i).mul k
theorem WhL.mulN {l : List Rat} {q : Rat} {A B : Nat} (h : WhL l A) (k : Wh q B) (n : Nat) : WhL (mulN n l q) (A + B) := fun i => by
 rw [mulN_co]; split
 ·exact (h i).mul k
 ·exact (h i).more (by omega)
theorem WhL.set {l : List Rat} {x : Rat} {A : Nat} (h : WhL l A) (k : Wh x A) (i : Nat) : WhL (l.set i x) A := fun j => by
 by_cases hi : i < l.length
 ·rw [co_set hi]; split
  ·exact k
  ·exact h j
 ·rw [List.set_eq_of_length_le (by omega)]; exact h j
def subN (a : Nat) (c : Rat) (q t : List Rat) : Nat → List Rat
 | 0 => t
 | j + 1 => (subN a c q t j).set (a + j) ((subN a c q t j).getD (a + j) 0 - c * q.getD j 0)
@[simp] theorem subN_len (a : Nat) (c : Rat) (q t : List Rat) (j : Nat) : (subN a c q t j).length = t.length := by
 induction j with
 | zero => rfl
 | succ j ih => simp [subN, ih]
theorem subN_co {a : Nat} {c : Rat} {q t : List Rat} {j : Nat} (h : a + j ≤ t.length) (k : Nat) : co (subN a c q t j) k = co t k - (if a ≤ k ∧ k < a + j then c * co q (k - a) else 0) := by
 induction j with
 | zero => rw [if_neg (by omega)]; show co t k = _; grind
 | succ j ih =>
  have ih := ih (by omega)
  unfold subN
  rw [co_set (by simp; omega)]
  by_cases e : k = a + j
  ·rw [if_pos e]
   subst e
   show co (subN a c q t j) (a + j) - c * co q j = _
   rw [ih, if_neg (by omega), if_pos (by omega), show a + j - a = j by omega]
   grind
  ·rw [if_neg e, ih]
   by_cases c : a ≤ k ∧ k < a + j
   ·rw [if_pos c, if_pos (by omega)]
   ·rw [if_neg c, if_neg (by omega)]
theorem WhL.subN {t q : List Rat} {c : Rat} {D : Nat} (ht : WhL t D) (hc : ∀ i, Wh (c * co q i) D) {a j : Nat} (h : a + j ≤ t.length) : WhL (subN a c q t j) (D + 1) := fun k => by
 rw [subN_co h]
 split
 ·exact (ht k).sub (hc _)
 ·exact (ht k).sub (Wh.zero D)
theorem mulQ_set {s : List Rat} {a : Nat} (ha : a < s.length) (h0 : co s a = 0) (x : Rat) (q : List Rat) (k : Nat) : co (mulQ (s.set a x) q) k = co (mulQ s q) k + (if a ≤ k then x * co q (k - a) else 0) := by
 induction s generalizing a k with
 | nil => simp at ha
 | cons b s ih =>
  cases a with
  | zero =>
   have hb : b = 0 := h0
   rw [List.set_cons_zero, mulQ_cons, mulQ_cons, hb, if_pos (Nat.zero_le _), Nat.sub_zero]
   grind
  | succ a =>
   rw [List.set_cons_succ, mulQ_cons, mulQ_cons]
   unfold sh
   cases k with
   | zero => rw [if_pos rfl, if_pos rfl, if_neg (by omega)]; grind
   | succ k =>
    simp only [Nat.add_one_ne_zero, if_false, Nat.add_sub_cancel]
    rw [ih (by simpa using ha) (by rw [← co_succ b]; exact h0)]
    by_cases c : a ≤ k
    ·rw [if_pos c, if_pos (by omega), show k + 1 - (a + 1) = k - a by omega]; grind
    ·rw [if_neg c, if_neg (by omega)]; grind
structure DivI (p q : List Rat) (n : Nat) (s t : List Rat) (f : Rat) : Prop where
 sl : s.length = p.length - q.length + 1
 tl : t.length = p.length
 tz : ∀ i, n ≤ i → co t i = 0
 sz : ∀ i, i + q.length ≤ n → co s i = 0
 f0 : f ≠ 0
 eq : ∀ i, f * co p i = co (mulQ s q) i + co t i
theorem DivI.begin (p q : List Rat) : DivI p q p.length (List.replicate (p.length - q.length + 1) 0) p 1 := by
 have hz : ∀ i, co (List.replicate (p.length - q.length + 1) (0 : Rat)) i = 0 := fun i => by
  unfold co; rw [List.getD_eq_getElem?_getD, List.getElem?_replicate]; split <;> rfl
 refine ⟨by simp, rfl, fun i hi => co_ge hi, fun i _ => hz i, by decide, fun i => ?_⟩
 rw [mulQ_zero hz]; grind
theorem DivI.step {p q s t : List Rat} {n : Nat} {f : Rat} (h : DivI p q n s t f) (hn : n ≤ p.length) (hqn : q.length ≤ n) (hq : 0 < q.length) (hl : co q (q.length - 1) ≠ 0) {x d : Rat} (hd : d ≠ 0) (hx : co t (n - 1) * d = x * co q (q.length - 1)) :
  DivI p q (n - 1) ((s.map (· * d)).set (n - q.length) x) (subN (n - q.length) x q (t.map (· * d)) q.length) (f * d) := by
 have hsl := h.sl
 have htl := h.tl
 have ht : ∀ k, co (subN (n - q.length) x q (t.map (· * d)) q.length) k = co t k * d - (if n - q.length ≤ k ∧ k < n - q.length + q.length then x * co q (k - (n - q.length)) else 0) := fun k => by
  rw [subN_co (by simp; omega), co_map _ (Rat.zero_mul d)]
 refine ⟨by simp [hsl], by simp [htl], fun i hi => ?_, fun i hi => ?_, fun k => ?_, fun i => ?_⟩
 ·rw [ht]
  by_cases e : i = n - 1
  ·subst e
   rw [if_pos (by omega), show n - 1 - (n - q.length) = q.length - 1 by omega, hx]; grind
  ·rw [h.tz i (by omega), if_neg (by omega)]; grind
 ·rw [co_set (by simp; omega), if_neg (by omega), co_map _ (Rat.zero_mul d), h.sz i (by omega)]; grind
 ·rcases Rat.mul_eq_zero.1 k with k | k
  ·exact h.f0 k
  ·exact hd k
 ·have hs0 : co (s.map (· * d)) (n - q.length) = 0 := by rw [co_map _ (Rat.zero_mul d), h.sz _ (by omega), Rat.zero_mul]
  rw [mulQ_set (by simp; omega) hs0, ht]
  have e1 : s.map (· * d) = s.map (d * ·) := by congr 1; funext x; exact Rat.mul_comm _ _
  rw [e1, mulQ_scale_l]
  have hh := h.eq i
  by_cases c : n - q.length ≤ i
  ·rw [if_pos c]
   by_cases c2 : i < n - q.length + q.length
   ·rw [if_pos ⟨c, c2⟩]; grind
   ·rw [if_neg (by omega), co_ge (l := q) (by omega)]; grind
  ·rw [if_neg c, if_neg (by omega)]; grind
theorem DivI.less {p q s t : List Rat} {n m : Nat} {f : Rat} (h : DivI p q n s t f) (hm : m ≤ n) (hz : ∀ i, m ≤ i → co t i = 0) : DivI p q m s t f := ⟨h.sl, h.tl, hz, fun i hi => h.sz i (by omega), h.f0, h.eq⟩
theorem co_takez {t : List Rat} {n : Nat} (h : ∀ i, n ≤ i → co t i = 0) (i : Nat) : co (t.take n) i = co t i := by
 by_cases c : i < n
 ·rw [co_take c]; rfl
 ·rw [h i (by omega), co_ge (by rw [List.length_take]; omega)]
theorem WhL.take {t : List Rat} {C : Nat} (h : WhL t C) (n : Nat) : WhL (t.take n) C := fun i => by
 by_cases c : i < n
 ·rw [co_take c]; exact h i
 ·rw [co_ge (by rw [List.length_take]; omega)]; exact Wh.zero C
theorem quo_step {x y : Rat} (hy : y ≠ 0) : x * ((((x / y).den : Nat) : Int) : Rat) = (((x / y).num : Int) : Rat) * y ∧ ((((x / y).den : Nat) : Int) : Rat) ≠ 0 := by
 have hd : ((((x / y).den : Nat) : Int) : Rat) ≠ 0 := Ne.symm (Rat.ne_of_lt (Rat.natCast_pos.2 (den_pos' (x / y))))
 have e : x / y = (((x / y).num : Int) : Rat) / ((((x / y).den : Nat) : Int) : Rat) := by
  have h := (Rat.mkRat_self (x / y)).symm
  rw [Rat.mkRat_eq_div] at h
  exact h
 refine ⟨?_, hd⟩
 generalize (((x / y).num : Int) : Rat) = N at *
 generalize ((((x / y).den : Nat) : Int) : Rat) = D at *
 have h1 : x = N / D * y := by rw [← e]; grind
 rw [h1]; grind
structure DivR (p q s t : List Rat) (f : Rat) : Prop where
 f0 : f ≠ 0
 eq : ∀ i, f * co p i = co (mulQ s q) i + co t i
 lt : t.length < q.length
 tl : t.length ≤ p.length
 sl : s.length ≤ p.length + 1
theorem DivI.done {p q s t : List Rat} {n : Nat} {f : Rat} (h : DivI p q n s t f) (hn : n < q.length) : DivR p q s (t.take n) f := ⟨h.f0, fun i => by rw [co_takez h.tz]; exact h.eq i, by rw [List.length_take]; omega, by rw [List.length_take, h.tl]; omega, by rw [h.sl]; omega⟩
end Nt
section
open Go.RowKit
variable {u u' : World} {L : List RL} {X : List Value} {r : RL} {i : Nat} {l : List Rat} {K C : Nat}
theorem RatsN.fit (h : RatsN u L l K) (k : Nt.WhL l C) : RatsN u L l (Nt.dg C) := ⟨h.1, fun i hi => (h.2 i hi).fit (k i).rs⟩
end
end Go.Proofs.YtmonfdlnihaabaaGreat
namespace Go.Proofs.YtmonfdlnihaabaaGreat
set_option linter.unusedVariables false
namespace Nt
structure Pol where
 l : List Rat
 h : Nrm l
namespace Pol
def mk' (l : List Rat) : Pol := ⟨trimQ l, trim_nrm l⟩
def c (p : Pol) (i : Nat) : Rat := co p.l i
theorem mk_c (l : List Rat) (i : Nat) : (mk' l).c i = co l i := trim_co l i
theorem ext {p q : Pol} (h : ∀ i, p.c i = q.c i) : p = q := by
 obtain ⟨l, hl⟩ := p
 obtain ⟨m, hm⟩ := q
 have e : trimQ l = trimQ m := trim_ext h
 unfold Nrm at hl hm
 rw [hl, hm] at e
 subst e; rfl
theorem mk_eq {l m : List Rat} : mk' l = mk' m ↔ trimQ l = trimQ m := ⟨fun h => congrArg Pol.l h, fun h => by unfold mk'; simp [h]⟩
theorem mk_l (p : Pol) : mk' p.l = p := ext fun i => mk_c _ i
def C (a : Rat) : Pol := mk' [a]
instance (n : Nat) : OfNat Pol n := ⟨C (n : Rat)⟩
instance : Add Pol := ⟨fun p q => mk' (addQ p.l q.l)⟩
instance : Mul Pol := ⟨fun p q => mk' (mulQ p.l q.l)⟩
instance : Neg Pol := ⟨fun p => mk' (negQ p.l)⟩
instance : Sub Pol := ⟨fun p q => p + -q⟩
def X : Pol := mk' [0, 1]
theorem c_add (p q : Pol) (i : Nat) : (p + q).c i = p.c i + q.c i := (mk_c _ i).trans (addQ_co _ _ i)
theorem c_neg (p : Pol) (i : Nat) : (-p).c i = -p.c i := (mk_c _ i).trans (negQ_co _ i)
theorem c_sub (p q : Pol) (i : Nat) : (p - q).c i = p.c i - q.c i := by
 show (p + -q).c i = _
 rw [c_add, c_neg]; grind
theorem c_C (a : Rat) (i : Nat) : (C a).c i = if i = 0 then a else 0 := by
 unfold C
 rw [mk_c]
 cases i with
 | zero => rfl
 | succ i => rw [co_succ, co_nil, if_neg (by omega)]
theorem c_zero (i : Nat) : (0 : Pol).c i = 0 := by
 have h : (0 : Pol).c i = if i = 0 then (0 : Rat) else 0 := c_C 0 i
 rw [h]; split <;> rfl
theorem zero_l : (0 : Pol).l = [] := trim_nil_iff.2 fun i => by
 have := c_zero i
 unfold c at this
 show co [((0 : Nat) : Rat)] i = 0
 rw [← trim_co]; exact this
theorem mk_add (l m : List Rat) : mk' (addQ l m) = mk' l + mk' m := ext fun i => by rw [mk_c, addQ_co, c_add, mk_c, mk_c]
theorem mk_mul (l m : List Rat) : mk' (mulQ l m) = mk' l * mk' m := ext fun i => by
 show _ = (mk' (mulQ (trimQ l) (trimQ m))).c i
 rw [mk_c, mk_c]
 exact mulQ_congr (fun i => (trim_co l i).symm) (fun i => (trim_co m i).symm) i
theorem c_mul (p q : Pol) (i : Nat) : (p * q).c i = co (mulQ p.l q.l) i := mk_c _ i
theorem mk_cons (a : Rat) (l : List Rat) (i : Nat) : (mk' (a :: l)).c i = if i = 0 then a else (mk' l).c (i - 1) := by
 rw [mk_c]
 cases i with
 | zero => rfl
 | succ i => rw [co_succ, if_neg (by omega), mk_c]; rfl
theorem mulQ_consR (l : List Rat) (b : Rat) (m : List Rat) (k : Nat) : co (mulQ l (b :: m)) k = b * co l k + sh (co (mulQ l m)) k := by
 induction l generalizing k with
 | nil =>
  rw [mulQ_nil, co_nil]
  have e : sh (co (mulQ [] m)) k = 0 := by unfold sh; split <;> rfl
  rw [e]; grind
 | cons a l ih =>
  rw [mulQ_cons]
  cases k with
  | zero => unfold sh; rw [if_pos rfl, if_pos rfl, co_zero, co_zero]; grind
  | succ k =>
   have e1 : sh (co (mulQ l (b :: m))) (k + 1) = b * co l k + sh (co (mulQ l m)) k := by
    unfold sh; rw [if_neg (by omega), Nat.add_sub_cancel]; exact ih k
   have e2 : sh (co (mulQ (a :: l) m)) (k + 1) = a * co m k + sh (co (mulQ l m)) k := by
    unfold sh; rw [if_neg (by omega), Nat.add_sub_cancel]; exact mulQ_cons a l m k
   rw [e1, e2, co_succ, co_succ]; grind
theorem mulQ_comm (l m : List Rat) (k : Nat) : co (mulQ l m) k = co (mulQ m l) k := by
 induction l generalizing k with
 | nil =>
  rw [mulQ_nil]
  exact (mulQ_zero_r (m := []) (fun i => co_nil i) m k).symm
 | cons a l ih =>
  rw [mulQ_cons, mulQ_consR]
  have e : sh (co (mulQ l m)) k = sh (co (mulQ m l)) k := by unfold sh; split; rfl; exact ih _
  rw [e]
theorem mulQ_add (l l' m : List Rat) (k : Nat) : co (mulQ (addQ l l') m) k = co (mulQ l m) k + co (mulQ l' m) k := by
 induction m generalizing k with
 | nil =>
  rw [mulQ_zero_r (fun i => co_nil i), mulQ_zero_r (fun i => co_nil i), mulQ_zero_r (fun i => co_nil i)]; exact (Rat.add_zero 0).symm
 | cons b m ih =>
  rw [mulQ_consR, mulQ_consR, mulQ_consR, addQ_co]
  cases k with
  | zero => unfold sh; rw [if_pos rfl, if_pos rfl, if_pos rfl]; grind
  | succ k =>
   have e : ∀ x : List Rat, sh (co x) (k + 1) = co x k := fun x => by unfold sh; rw [if_neg (by omega), Nat.add_sub_cancel]
   rw [e, e, e, ih k]; grind
theorem mulQ_assoc (l m n : List Rat) (k : Nat) : co (mulQ (mulQ l m) n) k = co (mulQ l (mulQ m n)) k := by
 induction l generalizing k with
 | nil => rfl
 | cons a l ih =>
  show co (mulQ (addQ (m.map (a * ·)) (0 :: mulQ l m)) n) k = _
  rw [mulQ_add, mulQ_scale_l, mulQ_cons, mulQ_cons]
  cases k with
  | zero => unfold sh; rw [if_pos rfl, if_pos rfl]; grind
  | succ k =>
   have e : ∀ x : List Rat, sh (co x) (k + 1) = co x k := fun x => by unfold sh; rw [if_neg (by omega), Nat.add_sub_cancel]
   rw [e, e, ih k]; grind
theorem mulQ_one (m : List Rat) (k : Nat) : co (mulQ [1] m) k = co m k := by
 rw [mulQ_cons]
 have e : sh (co (mulQ [] m)) k = 0 := by unfold sh; split <;> rfl
 rw [e]; grind
theorem mul_comm (p q : Pol) : p * q = q * p := ext fun i => by rw [c_mul, c_mul, mulQ_comm]
theorem mul_assoc (p q r : Pol) : p * q * r = p * (q * r) := ext fun i => by
 rw [c_mul, c_mul]
 show co (mulQ (trimQ (mulQ p.l q.l)) r.l) i = co (mulQ p.l (trimQ (mulQ q.l r.l))) i
 rw [mulQ_congr (l' := mulQ p.l q.l) (m' := r.l) (trim_co _) (fun _ => rfl), mulQ_congr (l' := p.l) (m' := mulQ q.l r.l) (fun _ => rfl) (trim_co _)]
 exact mulQ_assoc _ _ _ i
theorem one_mul (p : Pol) : 1 * p = p := ext fun i => by
 rw [c_mul]
 show co (mulQ (trimQ [((1 : Nat) : Rat)]) p.l) i = _
 rw [mulQ_congr (l' := [((1 : Nat) : Rat)]) (m' := p.l) (trim_co _) (fun _ => rfl)]
 exact mulQ_one _ i
theorem right_distrib (p q r : Pol) : (p + q) * r = p * r + q * r := ext fun i => by
 rw [c_mul, c_add, c_mul, c_mul]
 show co (mulQ (trimQ (addQ p.l q.l)) r.l) i = _
 rw [mulQ_congr (l' := addQ p.l q.l) (m' := r.l) (trim_co _) (fun _ => rfl)]
 exact mulQ_add _ _ _ i
theorem add_comm (p q : Pol) : p + q = q + p := ext fun i => by rw [c_add, c_add]; grind
theorem add_assoc (p q r : Pol) : p + q + r = p + (q + r) := ext fun i => by rw [c_add, c_add, c_add, c_add]; grind
theorem add_zero (p : Pol) : p + 0 = p := ext fun i => by rw [c_add, c_zero]; grind
theorem neg_add_cancel (p : Pol) : -p + p = 0 := ext fun i => by rw [c_add, c_neg, c_zero]; grind
theorem zero_mul (p : Pol) : 0 * p = 0 := ext fun i => by rw [c_mul, zero_l, mulQ_nil, c_zero]
theorem left_distrib (p q r : Pol) : p * (q + r) = p * q + p * r := by rw [mul_comm, right_distrib, mul_comm q, mul_comm r]
theorem mul_zero (p : Pol) : p * 0 = 0 := by rw [mul_comm, zero_mul]
theorem mul_one (p : Pol) : p * 1 = p := by rw [mul_comm, one_mul]
instance : NatCast Pol := ⟨fun n => C (n : Rat)⟩
instance : IntCast Pol := ⟨fun n => C (n : Rat)⟩
def npow (p : Pol) : Nat → Pol
 | 0 => 1
 | n + 1 => npow p n * p
instance : HPow Pol Nat Pol := ⟨npow⟩
instance : SMul Nat Pol := ⟨fun n p => C (n : Rat) * p⟩
instance : SMul Int Pol := ⟨fun n p => C (n : Rat) * p⟩
theorem C_add (a b : Rat) : C (a + b) = C a + C b := ext fun i => by
 rw [c_add, c_C, c_C, c_C]; split <;> grind
theorem C_neg (a : Rat) : C (-a) = -C a := ext fun i => by
 rw [c_neg, c_C, c_C]; split <;> grind
theorem C_zero : C 0 = 0 := rfl
theorem C_mul (a b : Rat) : C (a * b) = C a * C b := by
 show mk' [a * b] = mk' [a] * mk' [b]
 rw [← mk_mul]
 refine ext fun i => ?_
 rw [mk_c, mk_c, mulQ_cons]
 have e : sh (co (mulQ [] [b])) i = 0 := by unfold sh; split <;> rfl
 rw [e]
 cases i with
 | zero => rw [co_zero, co_zero]; grind
 | succ i => rw [co_succ, co_succ, co_nil]; grind
instance : Lean.Grind.CommRing Pol where
 add_zero := add_zero
 add_comm := add_comm
 add_assoc := add_assoc
 mul_assoc := mul_assoc
 mul_one := mul_one
 one_mul := one_mul
 left_distrib := left_distrib
 right_distrib := right_distrib
 zero_mul := zero_mul
 mul_zero := mul_zero
 mul_comm := mul_comm
 pow_zero := fun p => rfl
 pow_succ := fun p n => rfl
 neg_add_cancel := neg_add_cancel
 sub_eq_add_neg := fun p q => rfl
 ofNat_succ := fun n => by
  show C ((n + 1 : Nat) : Rat) = C (n : Rat) + C 1
  rw [← C_add]; congr 1
  exact Rat.natCast_add n 1
 ofNat_eq_natCast := fun n => rfl
 intCast_ofNat := fun n => rfl
 intCast_neg := fun n => by
  show C ((-n : Int) : Rat) = -C (n : Rat)
  rw [← C_neg, Rat.intCast_neg]
 nsmul_eq_natCast_mul := fun n p => rfl
 zsmul_natCast_eq_nsmul := fun n p => rfl
 neg_zsmul := fun n p => by
  show C ((-n : Int) : Rat) * p = -(C (n : Rat) * p)
  rw [Rat.intCast_neg, C_neg]
  refine ext fun i => ?_
  rw [c_neg, c_mul, c_mul]
  show co (mulQ (trimQ (negQ (C (n : Rat)).l)) p.l) i = _
  rw [mulQ_congr (l' := negQ (C (n : Rat)).l) (m' := p.l) (trim_co _) (fun _ => rfl)]
  have e : negQ (C (n : Rat)).l = (C (n : Rat)).l.map ((-1) * ·) := by unfold negQ; congr 1; funext x; grind
  rw [e, mulQ_scale_l]; grind
example (p q : Pol) : (p + q) * (p - q) = p * p - q * q := by grind
example (p q : Pol) : (p + q) ^ 2 = p ^ 2 + 2 * p * q + q ^ 2 := by grind
end Pol
end Nt
end Go.Proofs.YtmonfdlnihaabaaGreat
namespace Go.Proofs.YtmonfdlnihaabaaGreat
set_option linter.unusedVariables false
namespace Nt
theorem mulQ_far {l m : List Rat} {k : Nat} (h : l.length + m.length ≤ k + 1) : co (mulQ l m) k = 0 := by
 induction l generalizing k with
 | nil => rfl
 | cons a l ih =>
  rw [mulQ_cons, co_ge (l := m) (by simp at h; omega)]
  unfold sh
  split
  ·grind
  ·rw [ih (by simp at h; omega)]; grind
theorem mulQ_top {l m : List Rat} (hl : 0 < l.length) (hm : 0 < m.length) : co (mulQ l m) (l.length + m.length - 2) = co l (l.length - 1) * co m (m.length - 1) := by
 induction l with
 | nil => simp at hl
 | cons a l ih =>
  rw [mulQ_cons]
  cases l with
  | nil =>
   have e : sh (co (mulQ [] m)) ([a].length + m.length - 2) = 0 := by unfold sh; split <;> rfl
   rw [e]
   show a * co m (1 + m.length - 2) + 0 = a * co m (m.length - 1)
   rw [show 1 + m.length - 2 = m.length - 1 by omega]; grind
  | cons b l =>
   have ih := ih (by simp)
   rw [co_ge (l := m) (by simp; omega)]
   unfold sh
   rw [if_neg (by simp; omega)]
   have e : (a :: b :: l).length + m.length - 2 - 1 = (b :: l).length + m.length - 2 := by simp; omega
   rw [e, ih, show (a :: b :: l).length - 1 = ((b :: l).length - 1) + 1 by simp, co_succ]; grind
namespace Pol
def len (p : Pol) : Nat := p.l.length
def lead (p : Pol) : Rat := p.c (p.len - 1)
theorem c_ge {p : Pol} {i : Nat} (h : p.len ≤ i) : p.c i = 0 := co_ge h
theorem len_le {p : Pol} {n : Nat} (h : ∀ i, n ≤ i → p.c i = 0) : p.len ≤ n := by
 apply Classical.byContradiction
 intro k
 have h1 : p.l.length > n := by unfold len at k; omega
 have h2 := nrm_last p.h (by intro e; rw [e] at h1; simp at h1)
 exact h2 (h _ (by omega))
theorem len_zero : (0 : Pol).len = 0 := by unfold len; rw [zero_l]; rfl
theorem zero_of_len {p : Pol} (h : p.len = 0) : p = 0 := ext fun i => by rw [c_zero, c_ge (by omega)]
theorem len_pos {p : Pol} (h : p ≠ 0) : 0 < p.len := by
 rcases Nat.eq_zero_or_pos p.len with k | k
 ·exact absurd (zero_of_len k) h
 ·exact k
theorem ne_of_len {p : Pol} (h : 0 < p.len) : p ≠ 0 := by rintro rfl; rw [len_zero] at h; omega
theorem lead_ne {p : Pol} (h : p ≠ 0) : p.lead ≠ 0 := nrm_last p.h (by intro e; have := len_pos h; unfold len at this; rw [e] at this; simp at this)
theorem c_ne_len {p : Pol} {i : Nat} (h : p.c i ≠ 0) : i < p.len := by
 apply Classical.byContradiction
 intro k
 exact h (c_ge (by omega))
theorem mul_far {p q : Pol} {k : Nat} (h : p.len + q.len ≤ k + 1) : (p * q).c k = 0 := by rw [c_mul]; exact mulQ_far h
theorem mul_top {p q : Pol} (hp : p ≠ 0) (hq : q ≠ 0) : (p * q).c (p.len + q.len - 2) = p.lead * q.lead := by rw [c_mul]; exact mulQ_top (len_pos hp) (len_pos hq)
theorem len_mul {p q : Pol} (hp : p ≠ 0) (hq : q ≠ 0) : (p * q).len + 1 = p.len + q.len := by
 have h1 := len_pos hp
 have h2 := len_pos hq
 have h3 : (p * q).len ≤ p.len + q.len - 1 := len_le fun i hi => mul_far (by omega)
 have h4 : (p * q).c (p.len + q.len - 2) ≠ 0 := by
  rw [mul_top hp hq]
  intro k
  rcases Rat.mul_eq_zero.1 k with k | k
  ·exact lead_ne hp k
  ·exact lead_ne hq k
 have := c_ne_len h4
 omega
theorem mul_ne {p q : Pol} (hp : p ≠ 0) (hq : q ≠ 0) : p * q ≠ 0 := by
 apply ne_of_len
 have := len_mul hp hq
 have := len_pos hp
 have := len_pos hq
 omega
theorem lead_mul {p q : Pol} (hp : p ≠ 0) (hq : q ≠ 0) : (p * q).lead = p.lead * q.lead := by
 unfold lead
 have h := len_mul hp hq
 have h1 := len_pos hp
 have h2 := len_pos hq
 rw [show (p * q).len - 1 = p.len + q.len - 2 by omega]
 exact mul_top hp hq
theorem eq_zero_of_mul {p q : Pol} (h : p * q = 0) : p = 0 ∨ q = 0 := by
 apply Classical.byContradiction
 intro k
 exact mul_ne (fun e => k (.inl e)) (fun e => k (.inr e)) h
theorem mul_cancel {p q r : Pol} (hr : r ≠ 0) (h : p * r = q * r) : p = q := by
 have h1 : (p - q) * r = 0 := by grind
 rcases eq_zero_of_mul h1 with k | k
 ·grind
 ·exact absurd k hr
theorem len_sub (p q : Pol) : (p - q).len ≤ max p.len q.len := len_le fun i hi => by rw [c_sub, c_ge (by omega), c_ge (by omega)]; grind
theorem C_ne {a : Rat} (h : a ≠ 0) : C a ≠ 0 := fun e => h (by have := c_C a 0; rw [e, c_zero] at this; simpa using this.symm)
theorem len_C {a : Rat} (h : a ≠ 0) : (C a).len = 1 := by
 have h1 : (C a).len ≤ 1 := len_le fun i hi => by rw [c_C, if_neg (by omega)]
 have := len_pos (C_ne h)
 omega
theorem lead_C {a : Rat} (h : a ≠ 0) : (C a).lead = a := by unfold lead; rw [len_C h, c_C, if_pos rfl]
theorem is_C {p : Pol} (h : p.len ≤ 1) : p = C (p.c 0) := ext fun i => by
 rw [c_C]
 split
 ·rename_i e; rw [e]
 ·exact c_ge (by omega)
theorem C_inv {a : Rat} (h : a ≠ 0) : C a * C (1 / a) = 1 := by
 rw [← C_mul, show a * (1 / a) = 1 by grind]; rfl
theorem C_mul_c (a : Rat) (p : Pol) (i : Nat) : (C a * p).c i = a * p.c i := by
 rw [c_mul]
 show co (mulQ (trimQ [a]) p.l) i = _
 rw [mulQ_congr (l' := [a]) (m' := p.l) (trim_co _) (fun _ => rfl), mulQ_cons]
 have e : sh (co (mulQ [] p.l)) i = 0 := by unfold sh; split <;> rfl
 rw [e]
 show a * p.c i + 0 = _
 grind
theorem len_Cmul {a : Rat} (h : a ≠ 0) (p : Pol) : (C a * p).len = p.len := by
 by_cases hp : p = 0
 ·subst hp; rw [mul_zero]
 ·have := len_mul (C_ne h) hp
  rw [len_C h] at this
  omega
theorem div_unique {u v u' v' q : Pol} (h : u * q + v = u' * q + v') (hv : v.len < q.len) (hv' : v'.len < q.len) : u = u' ∧ v = v' := by
 have hq : q ≠ 0 := ne_of_len (by omega)
 have h1 : (u - u') * q = v' - v := by grind
 have h2 : u - u' = 0 := by
  apply Classical.byContradiction
  intro k
  have h3 := len_mul k hq
  rw [h1] at h3
  have h4 := len_sub v' v
  have h5 := len_pos k
  omega
 have h3 : u = u' := by grind
 subst h3
 exact ⟨rfl, by grind⟩
instance : Dvd Pol := ⟨fun q p => ∃ u, p = q * u⟩
structure IsGcd (p q g : Pol) : Prop where
 m : g = 0 ∨ g.lead = 1
 l : g ∣ p
 r : g ∣ q
 s : ∃ u v, g = u * p + v * q
theorem one_ne : (1 : Pol) ≠ 0 := C_ne (a := 1) (by decide)
theorem monic_unit {a b : Pol} (h : a * b = 1) : a.len = 1 := by
 have ha : a ≠ 0 := by rintro rfl; rw [zero_mul] at h; exact one_ne h.symm
 have hb : b ≠ 0 := by rintro rfl; rw [mul_zero] at h; exact one_ne h.symm
 have h1 := len_mul ha hb
 rw [h] at h1
 have h2 : (1 : Pol).len = 1 := len_C (a := 1) (by decide)
 have := len_pos ha
 have := len_pos hb
 omega
theorem dvd_antisymm {g g' : Pol} (h1 : g = 0 ∨ g.lead = 1) (h2 : g' = 0 ∨ g'.lead = 1) (h : g ∣ g') (k : g' ∣ g) : g = g' := by
 obtain ⟨a, ha⟩ := h
 obtain ⟨b, hb⟩ := k
 by_cases hg : g = 0
 ·subst hg; rw [zero_mul] at ha; exact ha.symm
 ·have e : (a * b) * g = 1 * g := by rw [one_mul]; grind
  have e1 := mul_cancel hg e
  have ha0 : a ≠ 0 := by rintro rfl; rw [zero_mul] at e1; exact one_ne e1.symm
  have h3 := is_C (Nat.le_of_eq (monic_unit e1))
  have hg' : g' ≠ 0 := by rw [ha]; exact mul_ne hg ha0
  have h4 := lead_mul hg ha0
  rw [← ha] at h4
  have h5 : g.lead = 1 := h1.resolve_left hg
  have h6 : g'.lead = 1 := h2.resolve_left hg'
  rw [h5, h6] at h4
  have h7 : a.c 0 ≠ 0 := fun e => ha0 (by rw [h3, e]; rfl)
  have h8 : a.lead = a.c 0 := by unfold lead; rw [monic_unit e1]
  have h9 : a = 1 := by rw [h3, ← h8, show a.lead = 1 by grind]; rfl
  rw [ha, h9, mul_one]
theorem IsGcd.unique {p q g g' : Pol} (h : IsGcd p q g) (k : IsGcd p q g') : g = g' := by
 obtain ⟨a, ha⟩ := h.l
 obtain ⟨b, hb⟩ := h.r
 obtain ⟨a', ha'⟩ := k.l
 obtain ⟨b', hb'⟩ := k.r
 obtain ⟨u, v, e⟩ := h.s
 obtain ⟨u', v', e'⟩ := k.s
 exact dvd_antisymm h.m k.m ⟨u' * a + v' * b, by grind⟩ ⟨u * a' + v * b', by grind⟩
structure Same (p q a b : Pol) : Prop where
 ha : ∃ u v, a = u * p + v * q
 hb : ∃ u v, b = u * p + v * q
 hp : ∃ u v, p = u * a + v * b
 hq : ∃ u v, q = u * a + v * b
theorem Same.scale {p q : Pol} {s t : Rat} (hs : s ≠ 0) (ht : t ≠ 0) : Same p q (C s * p) (C t * q) := by
 have h1 := C_inv hs
 have h2 := C_inv ht
 exact ⟨⟨C s, 0, by grind⟩, ⟨0, C t, by grind⟩, ⟨C (1 / s), 0, by grind⟩, ⟨0, C (1 / t), by grind⟩⟩
theorem Same.step {p q a b r s : Pol} {f k : Rat} (h : Same p q a b) (hf : f ≠ 0) (hk : k ≠ 0) (e : C f * a = s * b + r) : Same p q b (C k * r) := by
 have h1 := C_inv hf
 have h2 := C_inv hk
 obtain ⟨⟨u1, v1, e1⟩, ⟨u2, v2, e2⟩, ⟨u3, v3, e3⟩, ⟨u4, v4, e4⟩⟩ := h
 refine ⟨⟨u2, v2, e2⟩, ⟨C k * (C f * u1 - s * u2), C k * (C f * v1 - s * v2), ?_⟩, ⟨u3 * C (1 / f) * s + v3, u3 * C (1 / f) * C (1 / k), ?_⟩, ⟨u4 * C (1 / f) * s + v4, u4 * C (1 / f) * C (1 / k), ?_⟩⟩
 ·have : r = C f * a - s * b := by grind
  rw [this]; grind
 ·have e5 : a = C (1 / f) * (s * b + r) := by rw [← e]; grind
  have e6 : r = C (1 / k) * (C k * r) := by grind
  grind
 ·have e5 : a = C (1 / f) * (s * b + r) := by rw [← e]; grind
  have e6 : r = C (1 / k) * (C k * r) := by grind
  grind
def monic (p : Pol) : Pol := C (1 / p.lead) * p
theorem monic_lead {p : Pol} (h : p ≠ 0) : p.monic.lead = 1 := by
 have h1 := lead_ne h
 have h2 : (1 / p.lead) ≠ 0 := by intro k; have : (1 : Rat) = (1 / p.lead) * p.lead := by grind
                                  rw [k] at this; grind
 unfold monic
 rw [lead_mul (C_ne h2) h, lead_C h2]; grind
theorem Same.gcd {p q a : Pol} (h : Same p q a 0) : IsGcd p q a.monic := by
 obtain ⟨⟨u1, v1, e1⟩, _, ⟨u3, v3, e3⟩, ⟨u4, v4, e4⟩⟩ := h
 by_cases ha : a = 0
 ·subst ha
  have e : (0 : Pol).monic = 0 := by unfold monic; rw [mul_zero]
  rw [e]
  exact ⟨.inl rfl, ⟨0, by grind⟩, ⟨0, by grind⟩, ⟨0, 0, by grind⟩⟩
 ·have h1 := lead_ne ha
  have h2 := C_inv h1
  refine ⟨.inr (monic_lead ha), ⟨u3 * C a.lead, ?_⟩, ⟨u4 * C a.lead, ?_⟩, ⟨C (1 / a.lead) * u1, C (1 / a.lead) * v1, ?_⟩⟩
  ·unfold monic; grind
  ·unfold monic; grind
  ·unfold monic
   have : C (1 / a.lead) * a = C (1 / a.lead) * (u1 * p + v1 * q) := by rw [← e1]
   rw [this]; grind
theorem mk_cons' (a : Rat) (l : List Rat) : mk' (a :: l) = C a + X * mk' l := ext fun i => by
 have hX : ∀ p : Pol, (X * p).c i = if i = 0 then 0 else p.c (i - 1) := fun p => by
  rw [c_mul]
  show co (mulQ (trimQ [0, 1]) p.l) i = _
  rw [mulQ_congr (l' := [0, 1]) (m' := p.l) (trim_co _) (fun _ => rfl), mulQ_cons]
  unfold sh
  split
  ·grind
  ·rw [mulQ_one]; show 0 * _ + p.c (i - 1) = _; grind
 rw [c_add, hX, mk_cons, c_C]
 split <;> grind
theorem ind {P : Pol → Prop} (h0 : P 0) (h1 : ∀ a p, P p → P (C a + X * p)) (p : Pol) : P p := by
 rw [← mk_l p]
 generalize p.l = l
 induction l with
 | nil => exact (zero_of_len (p := mk' []) rfl) ▸ h0
 | cons a l ih => rw [mk_cons']; exact h1 a _ ih
def D (p : Pol) : Pol := mk' (derQ p.l)
def evL : List Rat → Rat → Rat
 | [], x => 0
 | a :: l, x => a + x * evL l x
theorem evL_zero {l : List Rat} (h : ∀ i, co l i = 0) (x : Rat) : evL l x = 0 := by
 induction l with
 | nil => rfl
 | cons a l ih =>
  have h0 : a = 0 := h 0
  show a + x * evL l x = 0
  rw [ih fun i => by rw [← co_succ a]; exact h (i + 1), h0]; grind
theorem evL_congr {l m : List Rat} (h : ∀ i, co l i = co m i) (x : Rat) : evL l x = evL m x := by
 induction l generalizing m with
 | nil => rw [evL_zero (l := m) fun i => by rw [← h i, co_nil]]; rfl
 | cons a l ih =>
  cases m with
  | nil => rw [evL_zero (l := a :: l) fun i => by rw [h i, co_nil]]; rfl
  | cons b m =>
   have h0 : a = b := h 0
   show a + x * evL l x = b + x * evL m x
   have e := ih (m := m) (fun i => by have := h (i + 1); rw [co_succ, co_succ] at this; exact this)
   rw [h0, e]
def ev (p : Pol) (x : Rat) : Rat := evL p.l x
theorem mk_ev (l : List Rat) (x : Rat) : (mk' l).ev x = evL l x := evL_congr (trim_co l) x
theorem ev_zero (x : Rat) : ev 0 x = 0 := evL_zero (fun i => c_zero i) x
theorem ev_cons (a : Rat) (p : Pol) (x : Rat) : ev (C a + X * p) x = a + x * ev p x := by
 have e : C a + X * p = mk' (a :: p.l) := by rw [mk_cons', mk_l]
 rw [e, mk_ev]; rfl
theorem ev_add (p q : Pol) (x : Rat) : ev (p + q) x = ev p x + ev q x := by
 induction p using ind generalizing q with
 | h0 => rw [ev_zero, show (0 : Pol) + q = q by grind]; grind
 | h1 a p ih =>
  induction q using ind with
  | h0 => rw [ev_zero, add_zero]; grind
  | h1 b q _ =>
   have e : C a + X * p + (C b + X * q) = C (a + b) + X * (p + q) := by rw [C_add]; grind
   rw [e, ev_cons, ev_cons, ev_cons, ih]; grind
theorem ev_C (a : Rat) (x : Rat) : ev (C a) x = a := by
 have e : C a = C a + X * 0 := by rw [mul_zero, add_zero]
 rw [e, ev_cons, ev_zero]; grind
theorem ev_Cmul (a : Rat) (p : Pol) (x : Rat) : ev (C a * p) x = a * ev p x := by
 induction p using ind with
 | h0 => rw [mul_zero, ev_zero]; grind
 | h1 b p ih =>
  have e : C a * (C b + X * p) = C (a * b) + X * (C a * p) := by rw [C_mul]; grind
  rw [e, ev_cons, ev_cons, ih]; grind
theorem ev_mul (p q : Pol) (x : Rat) : ev (p * q) x = ev p x * ev q x := by
 induction p using ind with
 | h0 => rw [zero_mul, ev_zero]; grind
 | h1 a p ih =>
  have e : (C a + X * p) * q = C a * q + (C 0 + X * (p * q)) := by rw [C_zero]; grind
  rw [e, ev_add, ev_Cmul, ev_cons, ih, ev_cons]; grind
end Pol
end Nt
end Go.Proofs.YtmonfdlnihaabaaGreat
namespace Go.Proofs.YtmonfdlnihaabaaGreat
set_option linter.unusedVariables false
namespace Nt
theorem absQ_mul (y : Rat) : ∃ z : Int, y = absQ y * (z : Rat) ∧ absQ y = y * (z : Rat) := by
 unfold absQ
 split
 ·exact ⟨-1, by rw [show (((-1 : Int)) : Rat) = -1 from rfl]; grind, by rw [show (((-1 : Int)) : Rat) = -1 from rfl]; grind⟩
 ·exact ⟨1, by rw [show (((1 : Int)) : Rat) = 1 from rfl]; grind, by rw [show (((1 : Int)) : Rat) = 1 from rfl]; grind⟩
theorem cmn_spec (x y : Rat) : (∃ z : Int, x = cmn x y * (z : Rat)) ∧ (∃ z : Int, y = cmn x y * (z : Rat)) ∧ ∀ c : Rat, (∃ z : Int, x = c * (z : Rat)) → (∃ z : Int, y = c * (z : Rat)) → ∃ z : Int, cmn x y = c * (z : Rat) := by
 unfold cmn
 by_cases hx : x = 0
 ·rw [if_pos hx]
  obtain ⟨z, h1, h2⟩ := absQ_mul y
  refine ⟨⟨0, by rw [hx]; exact (Rat.mul_zero _).symm⟩, ⟨z, h1⟩, fun c _ ⟨v, hv⟩ => ⟨v * z, ?_⟩⟩
  rw [Rat.intCast_mul, h2]
  have e : y * (z : Rat) = c * (v : Rat) * (z : Rat) := by rw [← hv]
  rw [e]; grind
 ·rw [if_neg hx]
  by_cases hy : y = 0
  ·rw [if_pos hy]
   exact ⟨⟨1, by rw [show (((1 : Int)) : Rat) = 1 from rfl]; grind⟩, ⟨0, by rw [hy]; exact (Rat.mul_zero _).symm⟩, fun c h _ => h⟩
  ·rw [if_neg hy]
   obtain ⟨z0, h1, h2⟩ := absQ_mul (x / (((x / y).num : Int) : Rat))
   have hN := num_ne (div_ne hx hy)
   obtain ⟨hq, hD⟩ := quo_step (x := x) hy
   have hcop : Nat.gcd (x / y).num.natAbs (x / y).den = 1 := (x / y).reduced
   obtain ⟨s, t, hst⟩ := bez (x / y).num (x / y).den hcop
   generalize hn : (x / y).num = N at *
   generalize hd : ((x / y).den : Nat) = Dn at *
   have hst' : (s : Rat) * (N : Rat) + (t : Rat) * ((Dn : Int) : Rat) = 1 := by
    have h := congrArg (fun z : Int => (z : Rat)) hst
    simp only [Rat.intCast_add, Rat.intCast_mul] at h
    exact h
   generalize hw : x / (N : Rat) = w at *
   have ex : x = w * (N : Rat) := by rw [← hw]; grind
   have ey : y = w * ((Dn : Int) : Rat) := by
    have : w * (N : Rat) * ((Dn : Int) : Rat) = (N : Rat) * y := by rw [← ex]; exact hq
    grind
   refine ⟨⟨z0 * N, ?_⟩, ⟨z0 * (Dn : Int), ?_⟩, fun c ⟨a, ha⟩ ⟨b, hb⟩ => ⟨(s * a + t * b) * z0, ?_⟩⟩
   ·rw [Rat.intCast_mul]; rw [ex, h1] ; grind
   ·rw [Rat.intCast_mul]; rw [ey, h1]; grind
   ·rw [h2, Rat.intCast_mul, Rat.intCast_add, Rat.intCast_mul, Rat.intCast_mul]
    have : w = c * ((s : Rat) * (a : Rat) + (t : Rat) * (b : Rat)) := by
     have e1 : w = w * ((s : Rat) * (N : Rat) + (t : Rat) * ((Dn : Int) : Rat)) := by rw [hst']; grind
     have e2 : w * ((s : Rat) * (N : Rat) + (t : Rat) * ((Dn : Int) : Rat)) = (s : Rat) * x + (t : Rat) * y := by rw [ex, ey]; grind
     rw [e1, e2, ha, hb]; grind
    rw [this]; grind
where
 bez (N : Int) (D : Nat) (h : Nat.gcd N.natAbs D = 1) : ∃ s t : Int, s * N + t * (D : Int) = 1 := by
  have := Int.gcd_eq_gcd_ab' N D h
  exact this
 Int.gcd_eq_gcd_ab' (N : Int) (D : Nat) (h : Nat.gcd N.natAbs D = 1) : ∃ s t : Int, s * N + t * (D : Int) = 1 := by
  have key : ∀ (n a b : Nat), a + b ≤ n → ∃ s t : Int, s * (a : Int) + t * (b : Int) = (Nat.gcd a b : Int) := by
   intro n
   induction n with
   | zero => intro a b hab; exact ⟨0, 0, by have h1 : a = 0 := by omega
                                            have h2 : b = 0 := by omega
                                            subst h1; subst h2; simp⟩
   | succ n ih =>
    intro a b hab
    rcases Nat.eq_zero_or_pos a with ha | ha
    ·subst ha; exact ⟨0, 1, by simp⟩
    ·rcases Nat.eq_zero_or_pos b with hb | hb
     ·subst hb; exact ⟨1, 0, by simp⟩
     ·rcases Nat.le_total a b with hle | hle
      ·obtain ⟨s, t, e⟩ := ih a (b - a) (by omega)
       refine ⟨s - t, t, ?_⟩
       rw [Nat.gcd_sub_self_right hle] at e
       rw [← e, show ((b - a : Nat) : Int) = (b : Int) - (a : Int) by omega, Int.sub_mul, Int.mul_sub]; omega
      ·obtain ⟨s, t, e⟩ := ih (a - b) b (by omega)
       refine ⟨s, t - s, ?_⟩
       rw [Nat.gcd_sub_self_left hle] at e
       rw [← e, show ((a - b : Nat) : Int) = (a : Int) - (b : Int) by omega, Int.sub_mul, Int.mul_sub]; omega
  obtain ⟨s, t, e⟩ := key _ N.natAbs D (Nat.le_refl _)
  rw [h] at e
  rcases Int.natAbs_eq N with hN | hN
  ·exact ⟨s, t, by rw [← hN] at e; exact e⟩
  ·refine ⟨-s, t, ?_⟩
   have : ((N.natAbs : Nat) : Int) = -N := by omega
   rw [this] at e
   rw [Int.neg_mul, ← Int.mul_neg]; exact e
theorem msr_spec (l : List Rat) : (∀ x ∈ l, ∃ z : Int, x = msr l * (z : Rat)) ∧ ∀ c : Rat, (∀ x ∈ l, ∃ z : Int, x = c * (z : Rat)) → ∃ z : Int, msr l = c * (z : Rat) := by
 have key : ∀ (l : List Rat) (a : Rat), ((∃ z : Int, a = l.foldl cmn a * (z : Rat)) ∧ ∀ x ∈ l, ∃ z : Int, x = l.foldl cmn a * (z : Rat)) ∧ ∀ c : Rat, (∃ z : Int, a = c * (z : Rat)) → (∀ x ∈ l, ∃ z : Int, x = c * (z : Rat)) → ∃ z : Int, l.foldl cmn a = c * (z : Rat) := by
  intro l
  induction l with
  | nil => intro a; exact ⟨⟨⟨1, by show a = a * _; rw [show (((1 : Int)) : Rat) = 1 from rfl]; grind⟩, fun x hx => by cases hx⟩, fun c h _ => h⟩
  | cons b l ih =>
   intro a
   obtain ⟨⟨⟨z, hz⟩, h2⟩, h3⟩ := ih (cmn a b)
   obtain ⟨⟨z1, e1⟩, ⟨z2, e2⟩, h4⟩ := cmn_spec a b
   refine ⟨⟨⟨z * z1, ?_⟩, fun x hx => ?_⟩, fun c ha hl => ?_⟩
   ·show a = l.foldl cmn (cmn a b) * _
    rw [Rat.intCast_mul, ← Rat.mul_assoc, ← hz]; exact e1
   ·rcases List.mem_cons.1 hx with rfl | hx
    ·exact ⟨z * z2, by show x = l.foldl cmn (cmn a x) * _; rw [Rat.intCast_mul, ← Rat.mul_assoc, ← hz]; exact e2⟩
    ·exact h2 x hx
   ·exact h3 c (h4 c ha (hl b (List.mem_cons_self ..))) (fun x hx => hl x (List.mem_cons_of_mem _ hx))
 obtain ⟨⟨_, h1⟩, h2⟩ := key l 0
 exact ⟨h1, fun c hc => h2 c ⟨0, (Rat.mul_zero c).symm⟩ hc⟩
def prim (l : List Rat) : List Rat := (trimQ l).map (· / msr (trimQ l))
@[simp] theorem prim_len (l : List Rat) : (prim l).length = (trimQ l).length := by simp [prim]
theorem prim_co (l : List Rat) (i : Nat) : co (prim l) i = co l i / msr (trimQ l) := by
 unfold prim
 rw [co_map _ (by rw [Rat.div_def, Rat.zero_mul]), trim_co]
theorem co_mem {l : List Rat} {i : Nat} (h : i < l.length) : co l i ∈ l := by
 unfold co
 rw [List.getD_eq_getElem?_getD, List.getElem?_eq_getElem h]
 exact List.getElem_mem h
theorem msr_ne' {l : List Rat} (h : trimQ l ≠ []) : msr (trimQ l) ≠ 0 := msr_ne (trim_nrm l) (by cases e : trimQ l with | nil => exact absurd e h | cons a m => simp)
theorem prim_whole (l : List Rat) (i : Nat) : ∃ z : Int, co (prim l) i = (z : Rat) := by
 by_cases hi : i < (trimQ l).length
 ·have hm := msr_ne' (l := l) (by intro e; rw [e] at hi; simp at hi)
  obtain ⟨z, hz⟩ := (msr_spec (trimQ l)).1 _ (co_mem hi)
  refine ⟨z, ?_⟩
  rw [prim_co, ← trim_co, hz]; grind
 ·exact ⟨0, by rw [co_ge (by simp; omega)]; rfl⟩
theorem prim_nrm (l : List Rat) : Nrm (prim l) := by
 refine nrm_of fun h k => ?_
 have ht : trimQ l ≠ [] := fun e => h (by unfold prim; rw [e]; rfl)
 have hm := msr_ne' ht
 have hn := nrm_last (trim_nrm l) ht
 rw [prim_len, prim_co, ← trim_co] at k
 apply hn
 have : co (trimQ l) ((trimQ l).length - 1) = co (trimQ l) ((trimQ l).length - 1) / msr (trimQ l) * msr (trimQ l) := by grind
 rw [this, k]; grind
theorem dl_bits {n K : Nat} (h : dl n ≤ K) : n ≤ 2 ^ (32 * K) := by
 have h1 := dl_lt (x := n)
 have h2 := pw_mono h
 rw [pwTwo K] at h2
 have h3 : (n : Int) < ((2 ^ (32 * K) : Nat) : Int) := by omega
 exact Nat.le_of_lt (Int.ofNat_lt.1 h3)
theorem prim_bits {l W : List Rat} {c : Rat} {A : Nat} (hc : c ≠ 0) (h : ∀ i, co l i = c * co W i) (hW : WhL W A) : WhL (prim l) A := fun i => by
 by_cases ht : trimQ l = []
 ·have : co (prim l) i = 0 := by rw [prim_co, trim_nil_iff.1 ht i]; grind
  rw [this]; exact Wh.zero A
 ·have hm := msr_ne' ht
  obtain ⟨g, hg⟩ := (msr_spec (trimQ l)).2 c (fun x hx => by
   obtain ⟨j, hj, e⟩ := List.getElem_of_mem hx
   have e2 : x = co l j := by rw [← trim_co]; unfold co; rw [List.getD_eq_getElem?_getD, List.getElem?_eq_getElem hj, ← e]; rfl
   obtain ⟨z, hz, _⟩ := hW j
   exact ⟨z, by rw [e2, h j, hz]⟩)
  obtain ⟨z, hz⟩ := prim_whole l i
  obtain ⟨v, hv, hb⟩ := hW i
  have hg0 : g ≠ 0 := by rintro rfl; apply hm; rw [hg]; exact Rat.mul_zero c
  have e : (v : Rat) = ((z * g : Int) : Rat) := by
   rw [Rat.intCast_mul, ← hz, prim_co, h i, hv, hg]
   have : (g : Rat) ≠ 0 := fun k => hg0 (Rat.intCast_inj.1 (by rw [k]; rfl))
   grind
  have e2 := Rat.intCast_inj.1 e
  refine ⟨z, hz, Nat.le_trans ?_ hb⟩
  rw [e2, Int.natAbs_mul]
  exact Nat.le_mul_of_pos_right _ (Int.natAbs_pos.2 hg0)
theorem mk_map (l : List Rat) (c : Rat) : Pol.mk' (l.map (· * c)) = Pol.C c * Pol.mk' l := Pol.ext fun i => by
 rw [Pol.C_mul_c, Pol.mk_c, Pol.mk_c, co_map _ (Rat.zero_mul c)]; grind
theorem prim_mk' (l : List Rat) : ∃ k : Rat, k ≠ 0 ∧ Pol.mk' (prim l) = Pol.C k * Pol.mk' l := by
 by_cases h : trimQ l = []
 ·refine ⟨1, by decide, Pol.ext fun i => ?_⟩
  rw [Pol.C_mul_c, Pol.mk_c, Pol.mk_c, prim_co, trim_nil_iff.1 h i]; grind
 ·have hm := msr_ne' h
  refine ⟨1 / msr (trimQ l), fun k => ?_, Pol.ext fun i => ?_⟩
  ·have : (1 : Rat) = 1 / msr (trimQ l) * msr (trimQ l) := by grind
   rw [k] at this; grind
  ·rw [Pol.C_mul_c, Pol.mk_c, Pol.mk_c, prim_co]; grind
theorem DivR.pol {p q s t : List Rat} {f : Rat} (h : DivR p q s t f) : Pol.C f * Pol.mk' p = Pol.mk' s * Pol.mk' q + Pol.mk' t := Pol.ext fun i => by
 rw [Pol.C_mul_c, Pol.mk_c, h.eq i, Pol.c_add, ← Pol.mk_mul, Pol.mk_c, Pol.mk_c]
theorem mk_len (l : List Rat) : (Pol.mk' l).len ≤ l.length := zzg l
theorem mk_len_nrm {l : List Rat} (h : Nrm l) : (Pol.mk' l).len = l.length := congrArg List.length h
theorem prim_same (l m : List Rat) : Pol.Same (Pol.mk' l) (Pol.mk' m) (Pol.mk' (prim l)) (Pol.mk' (prim m)) := by
 obtain ⟨k, h1, h2⟩ := prim_mk' l
 obtain ⟨k', h3, h4⟩ := prim_mk' m
 rw [h2, h4]
 exact Pol.Same.scale h1 h3
theorem same_step {p q : Pol} {a b s t : List Rat} {f : Rat} (h : Pol.Same p q (Pol.mk' a) (Pol.mk' b)) (hd : DivR a b s t f) : Pol.Same p q (Pol.mk' b) (Pol.mk' (prim t)) := by
 obtain ⟨k, h1, h2⟩ := prim_mk' t
 rw [h2]
 exact h.step hd.f0 h1 hd.pol
theorem prim_of_wh {t : List Rat} {A : Nat} (h : WhL t A) : WhL (prim t) A := prim_bits (c := 1) (by decide) (fun i => (Rat.one_mul _).symm) h
theorem monic_scaled (l : List Rat) : ∃ k : Rat, k ≠ 0 ∧ ∀ i, co (Pol.mk' l).monic.l i = k * co l i := by
 by_cases h : Pol.mk' l = 0
 ·refine ⟨1, by decide, fun i => ?_⟩
  have e : co l i = 0 := by rw [← Pol.mk_c, h, Pol.c_zero]
  have e2 : (Pol.mk' l).monic = 0 := by unfold Pol.monic; rw [h, Pol.mul_zero]
  show (Pol.mk' l).monic.c i = _
  rw [e2, Pol.c_zero, e]; grind
 ·have h1 := Pol.lead_ne h
  refine ⟨1 / (Pol.mk' l).lead, fun k => ?_, fun i => ?_⟩
  ·have : (1 : Rat) = 1 / (Pol.mk' l).lead * (Pol.mk' l).lead := by grind
   rw [k] at this; grind
  ·show (Pol.mk' l).monic.c i = _
   unfold Pol.monic
   rw [Pol.C_mul_c, Pol.mk_c]
theorem mk_trim (l : List Rat) : Pol.mk' (trimQ l) = Pol.mk' l := Pol.mk_eq.2 (trim_trim l)
def IsSqf (p s : Pol) : Prop := (p = 0 ∧ s = 0) ∨ (p ≠ 0 ∧ ∃ g q, Pol.IsGcd p p.D g ∧ g ≠ 0 ∧ p = q * g ∧ s = q.monic)
theorem IsSqf.unique {p s t : Pol} (h : IsSqf p s) (k : IsSqf p t) : s = t := by
 rcases h with ⟨h1, h2⟩ | ⟨h1, g, q, h2, h3, h4, h5⟩
 ·rcases k with ⟨k1, k2⟩ | ⟨k1, _⟩
  ·rw [h2, k2]
  ·exact absurd h1 k1
 ·rcases k with ⟨k1, k2⟩ | ⟨k1, g', q', k2, k3, k4, k5⟩
  ·exact absurd k1 h1
  ·have e := h2.unique k2
   subst e
   have e2 := Pol.mul_cancel h3 (h4.symm.trans k4)
   rw [h5, k5, e2]
def pot (la lb : Nat) : Nat := la + lb + (if lb < la then 0 else if la = lb then 1 else 2)
theorem three_pow {k : Nat} (h : 2 ≤ k) : (k + 1) * (k + 1) ≤ 3 ^ k := by
 induction k with
 | zero => omega
 | succ k ih =>
  by_cases e : k = 1
  ·subst e; decide
  ·have := ih (by omega)
   rw [Nat.pow_succ]
   have h1 : (k + 1 + 1) * (k + 1 + 1) ≤ (k + 1) * (k + 1) * 3 := by
    have : (k + 1 + 1) * (k + 1 + 1) = (k + 1) * (k + 1) + 2 * (k + 1) + 1 := by grind
    have h2 : 2 * (k + 1) + 1 ≤ 2 * ((k + 1) * (k + 1)) := by
     have : (k + 1) * 2 ≤ (k + 1) * (k + 1) := Nat.mul_le_mul_left _ (by omega)
     omega
    omega
   omega
theorem pot_step {la lb lr A H : Nat} (h : (A + 1) * (A + 1) * 3 ^ pot la lb ≤ H * H) (hr : lr < lb) (hr2 : lr ≤ la) :
  (A + (la - lb + 1) * (A + 1) + 1) * (A + (la - lb + 1) * (A + 1) + 1) * 3 ^ pot lb lr ≤ H * H := by
 have e : A + (la - lb + 1) * (A + 1) + 1 = (la - lb + 1 + 1) * (A + 1) := by rw [Nat.succ_mul (la - lb + 1)]; omega
 have hp : pot lb lr = lb + lr := by unfold pot; rw [if_pos hr]; rfl
 rw [e, hp]
 refine Nat.le_trans ?_ h
 have key : (la - lb + 1 + 1) * (la - lb + 1 + 1) * 3 ^ (lb + lr) ≤ 3 ^ pot la lb := by
  by_cases c : lb < la
  ·have h1 := three_pow (k := la - lb + 1) (by omega)
   have h2 : 3 ^ (la - lb + 1) * 3 ^ (lb + lr) ≤ 3 ^ pot la lb := by
    rw [← Nat.pow_add]
    refine Nat.pow_le_pow_right (by omega) ?_
    unfold pot; rw [if_pos c]; omega
   exact Nat.le_trans (Nat.mul_le_mul_right _ h1) h2
  ·have e1 : la - lb = 0 := by omega
   rw [e1]
   have h2 : 3 ^ 2 * 3 ^ (lb + lr) ≤ 3 ^ pot la lb := by
    rw [← Nat.pow_add]
    refine Nat.pow_le_pow_right (by omega) ?_
    unfold pot; rw [if_neg c]; split <;> omega
   exact Nat.le_trans (Nat.mul_le_mul_right _ (by decide)) h2
 calc (la - lb + 1 + 1) * (A + 1) * ((la - lb + 1 + 1) * (A + 1)) * 3 ^ (lb + lr)
   = (A + 1) * (A + 1) * ((la - lb + 1 + 1) * (la - lb + 1 + 1) * 3 ^ (lb + lr)) := by grind
  _ ≤ (A + 1) * (A + 1) * 3 ^ pot la lb := Nat.mul_le_mul_left _ key
theorem pot_le {la lb A H : Nat} (h : (A + 1) * (A + 1) * 3 ^ pot la lb ≤ H * H) : A + 1 ≤ H := by
 apply Classical.byContradiction
 intro k
 have h1 : 1 ≤ 3 ^ pot la lb := Nat.pow_pos (by omega)
 have h2 : (A + 1) * (A + 1) * 1 ≤ (A + 1) * (A + 1) * 3 ^ pot la lb := Nat.mul_le_mul_left _ h1
 have h3 : (H + 1) * (H + 1) ≤ (A + 1) * (A + 1) := Nat.mul_le_mul (by omega) (by omega)
 have h4 : (H + 1) * (H + 1) = H * H + 2 * H + 1 := by grind
 omega
end Nt
end Go.Proofs.YtmonfdlnihaabaaGreat
namespace Go.Proofs.YtmonfdlnihaabaaGreat
open Go.RowKit Go.ChangeShapes Go.WideShapes
set_option linter.unusedVariables false
namespace Nt
def Sm (l : List Rat) (D A : Nat) : Prop := 0 < D ∧ ∀ i, Wh (co l i * ((D : Int) : Rat)) A
section
variable {l m : List Rat} {D E A B K : Nat} {q : Rat}
theorem dz (h : 0 < D) : ((D : Int) : Rat) ≠ 0 := fun e => by
 have := Rat.intCast_inj.1 (show ((D : Int) : Rat) = ((0 : Int) : Rat) from e); omega
theorem Sm.more (h : Sm l D A) (k : A ≤ B) : Sm l D B := ⟨h.1, fun i => (h.2 i).more k⟩
theorem Sm.co (h : Sm l D A) (e : ∀ i, co m i = co l i) : Sm m D A := ⟨h.1, fun i => by rw [e]; exact h.2 i⟩
theorem Sm.trim (h : Sm l D A) : Sm (trimQ l) D A := h.co (trim_co l)
theorem Sm.prim (h : Sm l D A) : WhL (prim l) A := by
 have h0 := dz h.1
 refine prim_bits (c := 1 / ((D : Int) : Rat)) (W := l.map (· * ((D : Int) : Rat))) (by grind) (fun i => ?_) (fun i => ?_)
 ·rw [co_map (fun x => x * ((D : Int) : Rat)) (Rat.zero_mul _)]; grind
 ·rw [co_map (fun x => x * ((D : Int) : Rat)) (Rat.zero_mul _)]; exact h.2 i
theorem dl_dg {n C : Nat} (h : n ≤ 2 ^ C) : dl n ≤ dg C := by
 refine dl_le ?_
 rw [pwTwo]
 exact Int.ofNat_lt.2 (Nat.lt_of_le_of_lt h (Nat.pow_lt_pow_right (by omega) (by unfold dg; omega)))
theorem wh_rs {x : Rat} (h0 : 0 < D) (h : Wh (x * ((D : Int) : Rat)) A) (hD : D ≤ 2 ^ A) : rs x ≤ dg A := by
 obtain ⟨z, hz, hb⟩ := h
 have h1 := dz h0
 have e : x = mkRat z D := by rw [← mk_div, ← hz]; grind
 rw [e]
 exact rs_mk (dl_dg hb) (dl_dg hD) (by unfold dg; omega)
theorem Sm.rs (h : Sm l D A) (hD : D ≤ 2 ^ A) (i : Nat) : rs (Nt.co l i) ≤ dg A := wh_rs h.1 (h.2 i) hD
theorem WhL.mulQ (h : WhL l A) (k : WhL m B) : WhL (mulQ l m) (A + B + l.length) := by
 induction l with
 | nil => exact fun i => by rw [mulQ_nil]; exact Wh.zero _
 | cons a l ih =>
  intro i
  rw [mulQ_cons]
  have h0 : Wh a A := by have := h 0; rwa [co_zero] at this
  have h1 : WhL l A := fun i => by have := h (i + 1); rwa [co_succ] at this
  have e : A + B + (a :: l).length = A + B + l.length + 1 := by simp; omega
  rw [e]
  refine ((h0.mul (k i)).more (by omega)).add ?_
  unfold sh
  split
  ·exact Wh.zero _
  ·exact ih h1 _
theorem Sm.mul (h : Sm l D A) (k : Sm m E B) : Sm (mulQ l m) (D * E) (A + B + l.length) := by
 refine ⟨Nat.mul_pos h.1 k.1, fun i => ?_⟩
 have h1 : WhL (l.map (((D : Int) : Rat) * ·)) A := fun i => by rw [co_map (fun x => ((D : Int) : Rat) * x) (Rat.mul_zero _), Rat.mul_comm]; exact h.2 i
 have h2 : WhL (m.map (((E : Int) : Rat) * ·)) B := fun i => by rw [co_map (fun x => ((E : Int) : Rat) * x) (Rat.mul_zero _), Rat.mul_comm]; exact k.2 i
 have h3 := h1.mulQ h2 i
 rw [mulQ_scale_l, mulQ_scale_r, List.length_map] at h3
 rw [show Nt.co (mulQ l m) i * (((D * E : Nat) : Int) : Rat) = ((D : Int) : Rat) * (((E : Int) : Rat) * Nt.co (mulQ l m) i) by rw [show (((D * E : Nat) : Int) : Rat) = ((D : Int) : Rat) * ((E : Int) : Rat) by rw [← Rat.intCast_mul]; simp]; grind]
 exact h3
theorem Sm.mulR (h : Sm l D A) (k : Sm m E B) : Sm (mulQ l m) (D * E) (A + B + m.length) := by
 have h9 := (k.mul h).co (m := mulQ l m) (fun i => Pol.mulQ_comm l m i)
 rw [Nat.mul_comm D E, Nat.add_comm A B]
 exact h9
theorem Sm.add (h : Sm l D A) (k : Sm m D A) : Sm (addQ l m) D (A + 1) := ⟨h.1, fun i => by
 rw [addQ_co, show (Nt.co l i + Nt.co m i) * ((D : Int) : Rat) = Nt.co l i * ((D : Int) : Rat) + Nt.co m i * ((D : Int) : Rat) by grind]
 exact (h.2 i).add (k.2 i)⟩
theorem natMul {x : Rat} (D E : Nat) : x * (((D * E : Nat) : Int) : Rat) = x * ((D : Int) : Rat) * ((E : Int) : Rat) := by
 rw [show (((D * E : Nat) : Int) : Rat) = ((D : Int) : Rat) * ((E : Int) : Rat) by rw [← Rat.intCast_mul]; simp]; grind
theorem Sm.map (h : Sm l D A) (hE : 0 < E) (k : Wh (q * ((E : Int) : Rat)) B) : Sm (l.map (· * q)) (D * E) (A + B) := ⟨Nat.mul_pos h.1 hE, fun i => by
 rw [co_map (fun x => x * q) (Rat.zero_mul q), natMul, show Nt.co l i * q * ((D : Int) : Rat) * ((E : Int) : Rat) = (Nt.co l i * ((D : Int) : Rat)) * (q * ((E : Int) : Rat)) by grind]
 exact (h.2 i).mul k⟩
theorem whNat {n b : Nat} (h : n ≤ 2 ^ b) : Wh (((n : Nat) : Int) : Rat) b := ⟨(n : Int), rfl, by simpa using h⟩
theorem whInt {z : Int} {b : Nat} (h : z.natAbs ≤ 2 ^ b) : Wh (z : Rat) b := ⟨z, rfl, h⟩
theorem Sm.over {b : Nat} (h : Sm l D A) (hE : 0 < E) (hb : E ≤ 2 ^ b) : Sm l (D * E) (A + b) := ⟨Nat.mul_pos h.1 hE, fun i => by
 rw [natMul]; exact (h.2 i).mul (whNat hb)⟩
theorem Sm.ofInts {zs : List Int} (h : ∀ z ∈ zs, z.natAbs ≤ 2 ^ A) : Sm (List.map (fun z : Int => (z : Rat)) zs) 1 A := ⟨by omega, fun i => by
 rw [show ((((1 : Nat) : Int)) : Rat) = 1 from rfl, Rat.mul_one]
 unfold Nt.co
 rw [List.getD_eq_getElem?_getD, List.getElem?_map]
 cases e : zs[i]? with
 | none => exact Wh.zero _
 | some z => exact whInt (h z (List.mem_of_getElem? e))⟩
theorem Sm.nil (hD : 0 < D) : Sm [] D A := ⟨hD, fun i => by rw [co_nil, Rat.zero_mul]; exact Wh.zero _⟩
theorem Sm.ofAll (hD : 0 < D) (h : ∀ x ∈ l, Wh (x * ((D : Int) : Rat)) A) : Sm l D A := ⟨hD, fun i => by
 by_cases hi : i < l.length
 ·exact h _ (co_mem hi)
 ·rw [co_ge (by omega), Rat.zero_mul]; exact Wh.zero _⟩
theorem Sm.any : ∀ {l : List Rat}, (∀ x ∈ l, Nt.rs x ≤ K) → ∃ D, D ≤ 2 ^ (32 * K * l.length) ∧ Sm l D (32 * K * (l.length + 1))
 | [], _ => ⟨1, Nat.one_le_two_pow, Sm.nil (by omega)⟩
 | a :: l, h => by
  obtain ⟨D, hD, hs⟩ := Sm.any (l := l) (fun x hx => h x (List.mem_cons_of_mem _ hx))
  have ha := h a (List.mem_cons_self ..)
  have hd : a.den ≤ 2 ^ (32 * K) := dl_bits (by unfold Nt.rs at ha; omega)
  have hn : a.num.natAbs ≤ 2 ^ (32 * K) := dl_bits (by unfold Nt.rs at ha; omega)
  refine ⟨a.den * D, ?_, Nat.mul_pos (den_pos a) hs.1, fun i => ?_⟩
  ·rw [List.length_cons, Nat.mul_add, Nat.mul_one, Nat.pow_add, Nat.mul_comm]
   exact Nat.mul_le_mul hD hd
  ·cases i with
   | zero =>
    rw [co_zero, natMul]
    have e : a * ((a.den : Int) : Rat) = (a.num : Rat) := by
     have h1 := dz (den_pos a)
     have h2 : mkRat a.num a.den = a := Rat.mkRat_self a
     rw [← mk_div] at h2
     grind
    rw [e]
    refine ((whInt hn).mul (whNat hD)).more ?_
    rw [List.length_cons, Nat.mul_add, Nat.mul_add]; omega
   | succ i =>
    rw [co_succ, Nat.mul_comm, natMul]
    refine ((hs.2 i).mul (whNat hd)).more ?_
    rw [List.length_cons, Nat.mul_add, Nat.mul_add, Nat.mul_add]; omega
end
theorem Pol.eqk {p q : Pol} (h : p.l = q.l) : p = q := by cases p; cases q; simp_all
end Nt
section
variable {u : World} {x : Sl} {l : List Rat} {D A K : Nat}
theorem RatsN.fitS {L : List RL} (h : RatsN u L l K) (s : Nt.Sm l D A) (hD : D ≤ 2 ^ A) : RatsN u L l (Nt.dg A) := ⟨h.1, fun i hi => (h.2 i hi).fit (s.rs hD i)⟩
theorem PolN.fitS (h : PolN u x l K) (s : Nt.Sm l D A) (hD : D ≤ 2 ^ A) : PolN u x l (Nt.dg A) := by obtain ⟨L, h1, h2⟩ := h; exact ⟨L, h1, h2.fitS s hD⟩
theorem PolV.all (h : PolV u x l K) : ∀ q ∈ l, Nt.rs q ≤ K := by
 obtain ⟨L, h1, h2⟩ := h
 intro q hq
 obtain ⟨j, hj, e⟩ := List.getElem_of_mem hq
 have h9 := (h2.2 j hj).rs
 rw [List.getD_eq_getElem?_getD, List.getElem?_eq_getElem hj, Option.getD_some, e] at h9
 exact h9
end
section
variable {H : Type} {enc : TypeId × Value → H} {w : World} {base : Nat} {spare : Nat → Bool} {held : Bool} {fuel : Nat} {r0 : Reach} {b0 : Nat} {v : Value} {d : DataW H} {p : List MemPlace}
end
end Go.Proofs.YtmonfdlnihaabaaGreat
namespace Go.Proofs.YtmonfdlnihaabaaGreat
open Go.RowKit
set_option linter.unusedVariables false
namespace Nt
namespace Pol
theorem monic_zero : (0 : Pol).monic = 0 := by unfold monic; rw [mul_zero]
theorem IsGcd.mul {p q g : Pol} (h : IsGcd p q g) (r : Pol) : IsGcd (p * r) (q * r) (g * r).monic := by
 obtain ⟨u1, e1⟩ := h.l
 obtain ⟨u2, e2⟩ := h.r
 obtain ⟨s, t, e3⟩ := h.s
 by_cases h0 : g * r = 0
 ·rw [h0, monic_zero]
  exact ⟨.inl rfl, ⟨0, by rw [e1]; grind⟩, ⟨0, by rw [e2]; grind⟩, ⟨0, 0, by grind⟩⟩
 ·have h1 := lead_ne h0
  have h2 := C_inv h1
  refine ⟨.inr (monic_lead h0), ⟨C (g * r).lead * u1, ?_⟩, ⟨C (g * r).lead * u2, ?_⟩, ⟨C (1 / (g * r).lead) * s, C (1 / (g * r).lead) * t, ?_⟩⟩
  ·unfold monic; grind
  ·unfold monic; grind
  ·unfold monic; grind
theorem npow_zero (p : Pol) : npow p 0 = 1 := rfl
theorem npow_succ (p : Pol) (n : Nat) : npow p (n + 1) = npow p n * p := rfl
end Pol
section
variable {l m : List Rat} {D E A B n : Nat}
theorem Sm.npow (h : Sm l D A) (n : Nat) : Sm (Pol.npow (Pol.mk' l) n).l (D ^ n) (n * (A + l.length)) := by
 induction n with
 | zero =>
  rw [Pol.npow_zero, Nat.pow_zero, Nat.zero_mul]
  exact (show Sm (List.map (fun z : Int => (z : Rat)) [1]) 1 0 from Sm.ofInts (by decide)).trim
 | succ n ih =>
  rw [Pol.npow_succ, Nat.pow_succ, Nat.add_mul, Nat.one_mul]
  have h9 := (ih.mulR (h.trim : Sm (Pol.mk' l).l D A)).trim.more (B := n * (A + l.length) + (A + l.length)) (by have h8 := zzg l; change _ + A + (trimQ l).length ≤ _; omega)
  exact h9
theorem len_of_co {a : Nat} (h : ∀ i, a ≤ i → Nt.co l i = 0) : (trimQ l).length ≤ a := Pol.len_le (p := Pol.mk' l) fun i hi => by rw [Pol.mk_c]; exact h i hi
theorem mul_lenQ {a b : Nat} (h1 : l.length ≤ a) (h2 : m.length ≤ b) : (trimQ (mulQ l m)).length ≤ a + b - 1 := len_of_co fun i hi => mulQ_far (by omega)
theorem add_lenQ {a b : Nat} (h1 : l.length ≤ a) (h2 : m.length ≤ b) : (trimQ (addQ l m)).length ≤ max a b := Nat.le_trans (zzg _) (by rw [addQ_len]; omega)
theorem map_lenQ {a : Nat} {f : Rat → Rat} (h1 : l.length ≤ a) : (trimQ (l.map f)).length ≤ a := Nat.le_trans (zzg _) (by rw [List.length_map]; omega)
end
end Nt
namespace Nt
section
variable {p q : List Rat} {u v x y : Pol}
end
end Nt
end Go.Proofs.YtmonfdlnihaabaaGreat
namespace Go.Proofs.YtmonfdlnihaabaaGreat.Nt
open Go.RowKit
open Pol
set_option linter.unusedVariables false
def RSz (l : List Rat) (j : Nat) : Prop := l.length ≤ 1 + j ∧ ∃ D, D ≤ 2 ^ (2 + 6 * j) ∧ Sm l D (2 + 6 * j)
theorem RSz.more {l : List Rat} {i j : Nat} (h : RSz l i) (k : i ≤ j) : RSz l j := by
 obtain ⟨h1, D, h2, h3⟩ := h
 exact ⟨by omega, D, Nat.le_trans h2 (Nat.pow_le_pow_right (by omega) (by omega)), h3.more (by omega)⟩
theorem RSz.one {z : Nat} (hz : z < 3) : RSz [(((1 + z : Nat) : Int) : Rat)] 0 :=
 ⟨by simp, 1, by decide, Sm.ofAll (by omega) (fun x hx => by
  rw [List.mem_singleton.1 hx, show ((((1 : Nat) : Int)) : Rat) = 1 from rfl, Rat.mul_one]
  exact whNat (by omega))⟩
theorem RSz.neg {l : List Rat} {j : Nat} (h : RSz l j) : RSz (trimQ (l.map (· * (((-1) : Int) : Rat)))) j := by
 obtain ⟨h1, D, h2, h3⟩ := h
 refine ⟨map_lenQ h1, D, h2, Sm.trim ⟨h3.1, fun i => ?_⟩⟩
 rw [co_map (fun x => x * (((-1) : Int) : Rat)) (Rat.zero_mul _)]
 obtain ⟨z, hz, hb⟩ := h3.2 i
 refine ⟨-z, ?_, by rw [Int.natAbs_neg]; exact hb⟩
 rw [Rat.intCast_neg (a := z), ← hz]
 have e1 : (((-1) : Int) : Rat) = -1 := by decide +kernel
 rw [e1]; grind
theorem lin_sm {r : Rat} (h : Wh (r * (((12 : Nat) : Int) : Rat)) 4) : Sm [-r, ((1 : Int) : Rat)] 12 4 := Sm.ofAll (by omega) (fun x hx => by
 rcases List.mem_cons.1 hx with rfl | hx
 ·obtain ⟨z, hz, hb⟩ := h
  exact ⟨-z, by rw [Rat.intCast_neg, ← hz]; grind, by rw [Int.natAbs_neg]; exact hb⟩
 ·rw [List.mem_singleton.1 hx]
  exact ⟨12, by decide +kernel, by decide⟩)
theorem RSz.lin {l : List Rat} {j : Nat} {r : Rat} (h : RSz l j) (hr : Wh (r * (((12 : Nat) : Int) : Rat)) 4) : RSz (trimQ (mulQ l [-r, ((1 : Int) : Rat)])) (j + 1) := by
 obtain ⟨h1, D, h2, h3⟩ := h
 refine ⟨Nat.le_trans (mul_lenQ h1 (Nat.le_refl _)) (by simp; omega), D * 12, ?_, ((h3.mulR (lin_sm hr)).trim).more (by simp; omega)⟩
 rw [show 2 + 6 * (j + 1) = (2 + 6 * j) + 6 by omega, Nat.pow_add]
 exact Nat.mul_le_mul h2 (by decide)
def RFin (l : List Rat) : Prop := l.length ≤ 12 ∧ ∃ D, D ≤ 2 ^ 63 ∧ Sm l D 63
theorem RSz.fin {l : List Rat} (h : RSz l 9) : RFin l := by
 obtain ⟨h1, D, h2, h3⟩ := h
 exact ⟨by omega, D, Nat.le_trans h2 (by decide), h3.more (by decide)⟩
end Go.Proofs.YtmonfdlnihaabaaGreat.Nt
namespace Go.Proofs.YtmonfdlnihaabaaGreat.Nt
open Go.RowKit
open Pol
set_option linter.unusedVariables false
section
variable {P q ps qs l m p : List Rat} {A B D E F a b K : Nat} {c x y : Rat}
def nxQ (q ps : List Rat) : List Rat := subN (ps.length - q.length) (ps.getD (ps.length - 1) 0 / q.getD (q.length - 1) 0) q (ps.take (ps.length - 1)) (q.length - 1)
theorem nx_co (hn : q.length ≤ ps.length) (hm : 0 < q.length) (hq : co q (q.length - 1) ≠ 0) (i : Nat) :
  co (nxQ q ps) i = co ps i - (if ps.length - q.length ≤ i then co ps (ps.length - 1) / co q (q.length - 1) * co q (i - (ps.length - q.length)) else 0) := by
 unfold nxQ
 rw [subN_co (by rw [List.length_take]; omega)]
 change _ - (if _ then co ps (ps.length - 1) / co q (q.length - 1) * _ else 0) = _
 obtain ⟨c, hc⟩ : ∃ c, co ps (ps.length - 1) / co q (q.length - 1) = c := ⟨_, rfl⟩
 rw [hc]
 by_cases h1 : i < ps.length - 1
 ·rw [co_take h1]
  change co ps i - _ = _
  by_cases h2 : ps.length - q.length ≤ i
  ·rw [if_pos h2, if_pos (by omega)]
  ·rw [if_neg h2, if_neg (by omega)]
 ·rw [co_ge (l := ps.take _) (by rw [List.length_take]; omega), if_neg (by omega), if_pos (by omega)]
  by_cases h2 : i = ps.length - 1
  ·rw [h2, show ps.length - 1 - (ps.length - q.length) = q.length - 1 by omega, ← hc]; grind
  ·rw [co_ge (by omega), co_ge (l := q) (by omega)]; grind
theorem nx_len (hn : q.length ≤ ps.length) (hm : 0 < q.length) : (trimQ (nxQ q ps)).length < ps.length := by
 have h9 := zzg (nxQ q ps)
 unfold nxQ at h9 ⊢
 rw [subN_len, List.length_take] at h9
 omega
structure RefI (P q qs ps : List Rat) : Prop where
 ql : qs.length = P.length + 1 - q.length
 pl : ps.length ≤ P.length
 qz : ∀ j, j + q.length ≤ ps.length → co qs j = 0
 eq : ∀ i, co P i = co (mulQ qs q) i + co ps i
theorem RefI.begin (P q : List Rat) : RefI P q (List.replicate (P.length + 1 - q.length) 0) P := by
 have h0 : ∀ j, co (List.replicate (P.length + 1 - q.length) 0) j = 0 := fun j => by
  unfold co; rw [List.getD_eq_getElem?_getD, List.getElem?_replicate]; split <;> rfl
 exact ⟨by simp, Nat.le_refl _, fun j _ => h0 j, fun i => by rw [mulQ_zero h0]; grind⟩
theorem RefI.step (h : RefI P q qs ps) (hn : q.length ≤ ps.length) (hm : 0 < q.length) (hq : co q (q.length - 1) ≠ 0) :
  RefI P q (qs.set (ps.length - q.length) (ps.getD (ps.length - 1) 0 / q.getD (q.length - 1) 0)) (trimQ (nxQ q ps)) := by
 have hl := nx_len hn hm
 have hp := h.pl
 have hk : ps.length - q.length < qs.length := by rw [h.ql]; omega
 refine ⟨by rw [List.length_set]; exact h.ql, by omega, fun j hj => ?_, fun i => ?_⟩
 ·rw [co_set hk, if_neg (by omega)]
  exact h.qz j (by omega)
 ·rw [mulQ_set hk (h.qz _ (by omega)), trim_co, nx_co hn hm hq, h.eq i]
  change _ = _ + (if _ then co ps (ps.length - 1) / co q (q.length - 1) * _ else 0) + _
  split <;> grind
theorem RefI.done (h : RefI P q qs ps) : Pol.mk' P = Pol.mk' qs * Pol.mk' q + Pol.mk' ps := by
 refine Pol.ext fun i => ?_
 rw [c_add, ← mk_mul, mk_c, mk_c, mk_c]
 exact h.eq i
theorem div_go (hB : WhL q b) (hq : 0 < q.length) (hl : co q (q.length - 1) ≠ 0) : ∀ (n k : Nat) (s t : List Rat) (f : Rat), k + n = p.length → (k = 0 ∨ q.length ≤ n + 1) → DivI p q n s t f → WhL t (a + k * (b + 1)) →
  ∃ s t f, DivR p q s t f ∧ WhL t (a + (p.length - q.length + 1) * (b + 1)) := by
 intro n
 have stop : ∀ (n k : Nat) (s t : List Rat) (f : Rat), k + n = p.length → (k = 0 ∨ q.length ≤ n + 1) → n < q.length → DivI p q n s t f → WhL t (a + k * (b + 1)) → ∃ s t f, DivR p q s t f ∧ WhL t (a + (p.length - q.length + 1) * (b + 1)) := by
  intro n k s t f hk hs h hD hW
  refine ⟨s, _, f, hD.done h, (hW.take _).more (Nat.add_le_add_left (Nat.mul_le_mul_right _ ?_) _)⟩
  omega
 induction n with
 | zero =>
  intro k s t f hk hs hD hW
  exact stop 0 k s t f hk hs hq hD hW
 | succ n ih =>
  intro k s t f hk hs hD hW
  by_cases h : n + 1 < q.length
  ·exact stop (n + 1) k s t f hk hs h hD hW
  ·have h1 := hD.step (by omega) (by omega) hq hl (x := co t n) (d := co q (q.length - 1)) hl rfl
   refine ih (k + 1) _ _ _ (by omega) (.inr (by omega)) h1 ?_
   have hd : Wh (co q (q.length - 1)) b := hB _
   refine WhL.more (WhL.subN (hW.map hd) (fun i => (hW n).mul (hB i)) (by rw [List.length_map, hD.tl]; omega)) ?_
   rw [Nat.add_mul]; omega
theorem div_exists (hA : WhL p a) (hB : WhL q b) (hq : Nrm q) (hq0 : 0 < q.length) : ∃ s t f, DivR p q s t f ∧ WhL t (a + (p.length - q.length + 1) * (b + 1)) :=
 div_go hB hq0 (nrm_last hq (by rintro rfl; simp at hq0)) p.length 0 _ _ _ (by omega) (.inl rfl) (DivI.begin p q) (by rw [Nat.zero_mul]; exact hA)
theorem monic_Cmul {k : Rat} (hk : k ≠ 0) (r : Pol) : (C k * r).monic = r.monic := by
 by_cases h0 : r = 0
 ·rw [h0, mul_zero]
 ·have h1 := lead_ne h0
  have h2 : (C k * r).lead = k * r.lead := by rw [lead_mul (C_ne hk) h0, lead_C hk]
  unfold monic
  rw [h2, ← mul_assoc, ← C_mul]
  congr 2
  grind
theorem C_unit {k : Rat} (hk : k ≠ 0) : C k * C (1 / k) = 1 := C_inv hk
structure GcdI (l m p q pa pb : List Rat) (A H : Nat) : Prop where
 ep : p = (mk' pa).monic.l
 eq : q = (mk' pb).monic.l
 nb : Nrm pb
 wa : WhL pa A
 wb : WhL pb A
 pt : (A + 1) * (A + 1) * 3 ^ pot pa.length pb.length ≤ H * H
 s : Same (mk' l) (mk' m) (mk' pa) (mk' pb)
theorem GcdI.begin {H : Nat} (hA : WhL (prim l) A) (hB : WhL (prim m) A) (hH : (A + 1) * (A + 1) * 3 ^ pot (trimQ l).length (trimQ m).length ≤ H * H) :
  GcdI l m (mk' l).monic.l (mk' m).monic.l (prim l) (prim m) A H := by
 have e : ∀ l, (mk' l).monic.l = (mk' (prim l)).monic.l := fun l => by
  obtain ⟨k, hk, e⟩ := prim_mk' l
  rw [e, monic_Cmul hk]
 exact ⟨e l, e m, prim_nrm m, hA, hB, by rw [prim_len, prim_len]; exact hH, prim_same l m⟩
theorem monic_nz {r : Pol} (h : r ≠ 0) : ∃ k : Rat, k ≠ 0 ∧ r.monic = C k * r := by
 have h1 := lead_ne h
 exact ⟨1 / r.lead, by intro k; have : (1 : Rat) = (1 / r.lead) * r.lead := by grind
                       rw [k] at this; grind, rfl⟩
theorem GcdI.step {pa pb : List Rat} {H : Nat} {u r : Pol} (h : GcdI l m p q pa pb A H) (hq : 0 < q.length) (e : mk' p = u * mk' q + r) (hr : r.len < (mk' q).len) :
  ∃ pc A', GcdI l m q r.monic.l pb pc A' H := by
 have hb0 : mk' pb ≠ 0 := by
  intro e0
  rw [h.eq, e0, monic_zero, zero_l] at hq
  simp at hq
 have hpb : 0 < pb.length := by
  cases hp : pb with
  | nil => exact absurd (by rw [hp]; rfl) hb0
  | cons x y => simp
 obtain ⟨s, t, f, hD, hW⟩ := div_exists h.wa h.wb h.nb hpb
 obtain ⟨β, hβ, eβ⟩ := monic_nz hb0
 have hpol := hD.pol
 have h2 : (prim t).length < pb.length := by rw [prim_len]; exact Nat.lt_of_le_of_lt (zzg t) hD.lt
 have h3 : (prim t).length ≤ pa.length := by rw [prim_len]; exact Nat.le_trans (zzg t) hD.tl
 refine ⟨prim t, A + (pa.length - pb.length + 1) * (A + 1), h.eq, ?_, prim_nrm t, h.wb.more (by omega), prim_of_wh hW, pot_step h.pt h2 h3, same_step h.s hD⟩
 have hf := C_unit hD.f0
 have hmq : mk' q = C β * mk' pb := by rw [h.eq, mk_l, eβ]
 have hCβ := C_unit hβ
 obtain ⟨α, hα, eα⟩ : ∃ α : Rat, α ≠ 0 ∧ mk' p = C α * mk' pa := by
  rw [h.ep, mk_l]
  by_cases h0 : mk' pa = 0
  ·exact ⟨1, by decide, by rw [h0, monic_zero, mul_zero]⟩
  ·obtain ⟨k, hk, e⟩ := monic_nz h0
   exact ⟨k, hk, e⟩
 have e2 : u * mk' q + r = (C (1 / f) * C α * mk' s * C (1 / β)) * mk' q + C (1 / f * α) * mk' t := by
  rw [← e, eα, hmq, C_mul]; grind
 have hκ : 1 / f * α ≠ 0 := by
  have := hD.f0
  intro k
  have h7 : α = f * (1 / f * α) := by grind
  rw [k] at h7; grind
 have hlt : (C (1 / f * α) * mk' t).len < (mk' q).len := by
  rw [len_Cmul hκ, hmq, len_Cmul hβ, mk_len_nrm h.nb]
  exact Nat.lt_of_le_of_lt (mk_len t) hD.lt
 have h5 := div_unique e2 hr hlt
 obtain ⟨k, hk, e3⟩ := prim_mk' t
 rw [h5.2, monic_Cmul hκ, e3, monic_Cmul hk]
theorem GcdI.done {pa pb : List Rat} {H : Nat} (h : GcdI l m p q pa pb A H) (hq : q.length = 0) : IsGcd (mk' l) (mk' m) (mk' p) ∧ (∃ k : Rat, k ≠ 0 ∧ ∀ i, co p i = k * co pa i) ∧ WhL pa H := by
 have hb0 : mk' pb = 0 := by
  apply Classical.byContradiction
  intro k
  have h1 := monic_lead k
  have h2 : (mk' pb).monic ≠ 0 := by intro e; rw [e] at h1; unfold lead at h1; rw [c_zero] at h1; exact absurd h1 (by decide)
  have h3 := len_pos h2
  rw [h.eq] at hq
  unfold len at h3
  omega
 have hs := h.s
 rw [hb0] at hs
 refine ⟨by rw [h.ep, mk_l]; exact hs.gcd, by rw [h.ep]; exact monic_scaled pa, h.wa.more ?_⟩
 have := pot_le h.pt; omega
theorem out_trim (hl : 0 < l.length) (hm : 0 < m.length) : trimQ (outQ l m (l.length + m.length - 1) l.length) = trimQ (mulQ l m) := by
 apply trim_ext
 intro k
 rw [outQ_co (by omega) hm (Nat.le_refl _), List.take_length]
theorem GcdI.le {pa pb : List Rat} {H : Nat} (h : GcdI l m p q pa pb A H) : A ≤ H := by have := pot_le h.pt; omega
theorem GcdI.steps {pa pb : List Rat} {H : Nat} (h : GcdI l m p q pa pb A H) (hq : 0 < q.length) : A + ((trimQ p).length - (trimQ q).length + 1) * (A + 1) ≤ H := by
 have h1 := pot_step h.pt (lr := 0)
 have hp : (trimQ p).length ≤ pa.length := by
  refine Nat.le_trans (zzg p) ?_
  rw [h.ep]
  refine Nat.le_trans (?_ : (mk' pa).monic.l.length ≤ (mk' pa).len) (mk_len pa)
  by_cases h0 : mk' pa = 0
  ·rw [h0, monic_zero]; exact Nat.le_refl _
  ·obtain ⟨k, hk, e⟩ := monic_nz h0
   rw [e]; exact Nat.le_of_eq (len_Cmul hk _)
 have hb0 : mk' pb ≠ 0 := by
  intro e0
  rw [h.eq, e0, monic_zero, zero_l] at hq
  simp at hq
 have hq2 : (trimQ q).length = pb.length := by
  rw [show trimQ q = q by rw [h.eq]; exact (mk' pb).monic.h, h.eq]
  obtain ⟨k, hk, e⟩ := monic_nz hb0
  rw [e]
  exact (len_Cmul hk (mk' pb)).trans (mk_len_nrm h.nb)
 have hpb : 0 < pb.length := by
  cases hp : pb with
  | nil => exact absurd (by rw [hp]; rfl) hb0
  | cons x y => simp
 have h2 := pot_le (h1 hpb (Nat.zero_le _))
 have h3 : ((trimQ p).length - (trimQ q).length + 1) * (A + 1) ≤ (pa.length - pb.length + 1) * (A + 1) := Nat.mul_le_mul_right _ (by omega)
 omega
end
end Go.Proofs.YtmonfdlnihaabaaGreat.Nt
namespace Go.Proofs.YtmonfdlnihaabaaGreat.Nt
open Go.RowKit
open Pol
set_option linter.unusedVariables false
def lin (r : Rat) : Pol := mk' [-r, ((1 : Int) : Rat)]
theorem lin_eq (r : Rat) : lin r = C (-r) + X * 1 := by
 unfold lin
 rw [mk_cons', show mk' [((1 : Int) : Rat)] = 1 from eqk (by decide +kernel)]
theorem ev_one (x : Rat) : (1 : Pol).ev x = 1 := ev_C 1 x
theorem ev_lin (r x : Rat) : (lin r).ev x = x - r := by
 rw [lin_eq, ev_cons, ev_one]; grind
theorem lin_c (r : Rat) (i : Nat) : (lin r).c i = if i = 0 then -r else if i = 1 then 1 else 0 := by
 unfold lin
 rw [mk_cons]
 split
 ·rfl
 ·rw [mk_c]
  match i with
  | 0 => contradiction
  | 1 => rfl
  | i + 2 => rw [if_neg (by omega)]; exact co_ge (by simp)
theorem len_lin (r : Rat) : (lin r).len = 2 := by
 have h1 : (lin r).len ≤ 2 := len_le fun i hi => by rw [lin_c, if_neg (by omega), if_neg (by omega)]
 have h2 : (lin r).c 1 ≠ 0 := by rw [lin_c, if_neg (by decide), if_pos rfl]; decide
 have := c_ne_len h2
 omega
def Cop (a b : Pol) : Prop := ∃ u v, u * a + v * b = 1
theorem Cop.symm {a b : Pol} (h : Cop a b) : Cop b a := by obtain ⟨u, v, e⟩ := h; exact ⟨v, u, by grind⟩
theorem Cop.mul {a b c : Pol} (h : Cop a c) (k : Cop b c) : Cop (a * b) c := by
 obtain ⟨u, v, e⟩ := h
 obtain ⟨u', v', e'⟩ := k
 refine ⟨u * u', u * a * v' + v * u' * b + v * v' * c, ?_⟩
 have : (u * a + v * c) * (u' * b + v' * c) = 1 := by rw [e, e', one_mul]
 grind
theorem Cop.mulR {a b c : Pol} (h : Cop c a) (k : Cop c b) : Cop c (a * b) := (h.symm.mul k.symm).symm
theorem Cop.add {a b : Pol} (h : Cop a b) (k : Pol) : Cop a (b + k * a) := by
 obtain ⟨u, v, e⟩ := h
 exact ⟨u - v * k, v, by grind⟩
theorem Cop.one (b : Pol) : Cop 1 b := ⟨1, 0, by grind⟩
theorem root_div (p : Pol) (r : Rat) : ∃ h, p = h * lin r + C (p.ev r) := by
 induction p using ind with
 | h0 => exact ⟨0, by rw [ev_zero, zero_mul, C_zero]; grind⟩
 | h1 a p ih =>
  obtain ⟨h, e⟩ := ih
  refine ⟨X * h + C (p.ev r), ?_⟩
  have hl := lin_eq r
  have hX : X = lin r + C r := by
   rw [hl, C_neg]; grind
  rw [ev_cons, C_add, C_mul]
  have e2 : X * p = X * h * lin r + C (p.ev r) * X := by
   have : X * p = X * (h * lin r + C (p.ev r)) := by rw [← e]
   rw [this]; grind
  rw [e2]
  have e3 : C (p.ev r) * X = C (p.ev r) * (lin r + C r) := by rw [← hX]
  rw [e3]; grind
def prA : List (Rat × Nat) → Pol
 | [] => 1
 | f :: fs => prA fs * npow (lin f.1) f.2
structure QOK (Q : Pol) (rs : List Rat) : Prop where
 ne : Q ≠ 0
 d : Cop Q Q.D
 r : ∀ r ∈ rs, Q.ev r ≠ 0
structure MadeF (P : Pol) (rs : List Rat) : Prop where
 nd : rs.Nodup
 wh : ∀ r ∈ rs, Wh (r * (((12 : Nat) : Int) : Rat)) 4
 ex : ∃ (c : Rat) (fs : List (Rat × Nat)), c ≠ 0 ∧ (∀ f ∈ fs, 1 ≤ f.2) ∧ fs.map (·.1) = rs.reverse ∧ P = C c * prA fs
theorem MadeF.begin (z : Nat) : MadeF (mk' [(((1 + z : Nat) : Int) : Rat)]) [] :=
 ⟨List.nodup_nil, (fun r hr => by cases hr), _, [], dz (show 0 < 1 + z by omega), (fun f hf => by cases hf), rfl, (mul_one _).symm⟩
theorem MadeF.neg {l : List Rat} (h : MadeF (mk' l) []) : MadeF (mk' (trimQ (l.map (· * (((-1) : Int) : Rat))))) [] := by
 obtain ⟨h1, h2, c, fs, h3, h4, h5, h6⟩ := h
 refine ⟨h1, h2, (((-1) : Int) : Rat) * c, fs, ?_, h4, h5, ?_⟩
 ·intro e
  rcases Rat.mul_eq_zero.1 e with e | e
  ·exact absurd e (by decide +kernel)
  ·exact h3 e
 ·rw [mk_trim, mk_map, h6, C_mul]; grind
theorem MadeF.step {P : Pol} {rs : List Rat} {r : Rat} {k : Nat} (h : MadeF P rs) (hr : r ∉ rs) (hk : 1 ≤ k) (hw : Wh (r * (((12 : Nat) : Int) : Rat)) 4) : MadeF (P * npow (lin r) k) (rs ++ [r]) := by
 obtain ⟨h1, h2, c, fs, h3, h4, h5, h6⟩ := h
 refine ⟨?_, ?_, c, (r, k) :: fs, h3, ?_, ?_, ?_⟩
 ·rw [List.nodup_append]
  refine ⟨h1, by simp, fun a ha b hb e => ?_⟩
  rw [List.mem_singleton.1 hb] at e
  exact hr (e ▸ ha)
 ·intro y hy
  rcases List.mem_append.1 hy with hy | hy
  ·exact h2 y hy
  ·rw [List.mem_singleton.1 hy]; exact hw
 ·intro f hf
  rcases List.mem_cons.1 hf with rfl | hf
  ·exact hk
  ·exact h4 f hf
 ·rw [List.map_cons, h5, List.reverse_append]; rfl
 ·show _ = C c * (prA fs * npow (lin r) k)
  rw [h6]; grind
end Go.Proofs.YtmonfdlnihaabaaGreat.Nt
namespace Go.Proofs.YtmonfdlnihaabaaGreat
set_option linter.unusedVariables false
namespace Nt
section
variable {a1 a2 b1 b2 c1 c2 d1 d2 : Rat}
def hl (a b c d : Rat) : Rat := lo (lo a b) (lo c d)
def hh (a b c d : Rat) : Rat := hi (hi a b) (hi c d)
end
end Nt
end Go.Proofs.YtmonfdlnihaabaaGreat
namespace Go.Proofs.YtmonfdlnihaabaaGreat.Nt
open Go.RowKit
open Pol
set_option linter.unusedVariables false
section
variable {l : List Rat} {x a b c : Rat} {i n D A B K : Nat} {q : Pol}
theorem evL_trim (l : List Rat) (x : Rat) : evL (trimQ l) x = evL l x := evL_congr (trim_co l) x
end
end Go.Proofs.YtmonfdlnihaabaaGreat.Nt
namespace Go.Proofs.YtmonfdlnihaabaaGreat.Nt
open Go.RowKit
open Pol
set_option linter.unusedVariables false
section
variable {l m W : List Rat} {x q : Rat} {i A B C : Nat}
def hp (q : Rat) (i : Nat) : Rat := (((q.den ^ (i - 1) : Nat) : Int) : Rat)
def hs (W : List Rat) (q : Rat) (i : Nat) : Rat := hp q i * evL (W.drop (W.length - i)) q
theorem ev_addL (l m : List Rat) (x : Rat) : evL (trimQ (addQ l m)) x = evL l x + evL m x := by
 rw [evL_trim, ← mk_ev, mk_add, ev_add, mk_ev, mk_ev]
theorem ev_mulL (l m : List Rat) (x : Rat) : evL (trimQ (mulQ l m)) x = evL l x * evL m x := by
 rw [evL_trim, ← mk_ev, mk_mul, ev_mul, mk_ev, mk_ev]
theorem Sm.mem {D : Nat} (h : Sm l D A) : ∀ y ∈ l, Wh (y * ((D : Int) : Rat)) A := fun y hy => by
 obtain ⟨j, hj, e⟩ := List.getElem_of_mem hy
 have h9 := h.2 j
 unfold Nt.co at h9
 rw [List.getD_eq_getElem?_getD, List.getElem?_eq_getElem hj, Option.getD_some, e] at h9
 exact h9
end
end Go.Proofs.YtmonfdlnihaabaaGreat.Nt
namespace Go.Proofs.YtmonfdlnihaabaaGreat.Nt
open Go.RowKit
open Pol
set_option linter.unusedVariables false
def zp (z : Rat) : Nat → Rat
 | 0 => 1
 | n + 1 => z * zp z n
def chebP : Nat → List Rat × List Rat
 | 0 => ([((1 : Int) : Rat)], [((0 : Int) : Rat), ((1 : Int) : Rat)])
 | n + 1 => ((chebP n).2, trimQ (addQ (trimQ (mulQ (chebP n).2 [((0 : Int) : Rat), ((2 : Int) : Rat)])) (trimQ ((chebP n).1.map (· * (((-1) : Int) : Rat))))))
def chebL (n : Nat) : List Rat := trimQ (chebP n).1
theorem evL_map (l : List Rat) (c x : Rat) : evL (l.map (· * c)) x = evL l x * c := by
 induction l with
 | nil => show (0 : Rat) = 0 * c; grind
 | cons a l ih => show a * c + x * evL (l.map (· * c)) x = (a + x * evL l x) * c; rw [ih]; grind
theorem cheb_ev {z w : Rat} (hz : z * w = 1) (n : Nat) : evL (chebP n).1 ((z + w) / 2) = (zp z n + zp w n) / 2 ∧ evL (chebP n).2 ((z + w) / 2) = (zp z (n + 1) + zp w (n + 1)) / 2 := by
 induction n with
 | zero =>
  constructor
  ·show ((1 : Int) : Rat) + (z + w) / 2 * 0 = (1 + 1) / 2; grind
  ·show ((0 : Int) : Rat) + (z + w) / 2 * (((1 : Int) : Rat) + (z + w) / 2 * 0) = (z * 1 + w * 1) / 2; grind
 | succ n ih =>
  refine ⟨ih.2, ?_⟩
  show evL (trimQ (addQ (trimQ (mulQ (chebP n).2 [((0 : Int) : Rat), ((2 : Int) : Rat)])) (trimQ ((chebP n).1.map (· * (((-1) : Int) : Rat)))))) _ = _
  rw [ev_addL, ev_mulL, evL_trim, evL_map, ih.1, ih.2]
  show (zp z (n + 1) + zp w (n + 1)) / 2 * (((0 : Int) : Rat) + (z + w) / 2 * (((2 : Int) : Rat) + (z + w) / 2 * 0)) + (zp z n + zp w n) / 2 * (((-1) : Int) : Rat) = (z * (z * zp z n) + w * (w * zp w n)) / 2
  show (z * zp z n + w * zp w n) / 2 * (((0 : Int) : Rat) + (z + w) / 2 * (((2 : Int) : Rat) + (z + w) / 2 * 0)) + (zp z n + zp w n) / 2 * (((-1) : Int) : Rat) = (z * (z * zp z n) + w * (w * zp w n)) / 2
  generalize zp z n = a
  generalize zp w n = b
  grind
def tsum (f : Nat → Rat) : Nat → Rat
 | 0 => 0
 | n + 1 => tsum f n + f n
theorem tsum_front (f : Nat → Rat) (n : Nat) : tsum f (n + 1) = f 0 + tsum (fun i => f (i + 1)) n := by
 induction n with
 | zero => show 0 + f 0 = f 0 + 0; grind
 | succ n ih => show tsum f (n + 1) + f (n + 1) = f 0 + (tsum (fun i => f (i + 1)) n + f (n + 1)); rw [ih]; grind
theorem tsum_add (f g : Nat → Rat) (n : Nat) : tsum (fun i => f i + g i) n = tsum f n + tsum g n := by
 induction n with
 | zero => show (0 : Rat) = 0 + 0; grind
 | succ n ih => show tsum (fun i => f i + g i) n + (f n + g n) = (tsum f n + f n) + (tsum g n + g n); rw [ih]; grind
theorem tsum_mul (f : Nat → Rat) (c : Rat) (n : Nat) : tsum (fun i => c * f i) n = c * tsum f n := by
 induction n with
 | zero => show (0 : Rat) = c * 0; grind
 | succ n ih => show tsum (fun i => c * f i) n + c * f n = c * (tsum f n + f n); rw [ih]; grind
theorem tsum_congr {f g : Nat → Rat} {n : Nat} (h : ∀ i, i < n → f i = g i) : tsum f n = tsum g n := by
 induction n with
 | zero => rfl
 | succ n ih => show tsum f n + f n = tsum g n + g n; rw [ih fun i hi => h i (by omega), h n (by omega)]
theorem tsum_zero {f : Nat → Rat} {n : Nat} (h : ∀ i, i < n → f i = 0) : tsum f n = 0 := by
 rw [tsum_congr h]
 induction n with
 | zero => rfl
 | succ n ih => show tsum (fun _ => 0) n + 0 = 0; rw [ih fun i hi => h i (by omega)]; grind
theorem ev_tsum (l : List Rat) (z : Rat) {n : Nat} (h : l.length ≤ n) : tsum (fun k => co l k * zp z k) n = evL l z := by
 induction l generalizing n with
 | nil => exact tsum_zero fun i _ => by rw [co_nil]; grind
 | cons a l ih =>
  obtain ⟨m, rfl⟩ : ∃ m, n = m + 1 := ⟨n - 1, by simp at h; omega⟩
  rw [tsum_front]
  have e : tsum (fun i => co (a :: l) (i + 1) * zp z (i + 1)) m = z * tsum (fun i => co l i * zp z i) m := by
   rw [← tsum_mul]
   refine tsum_congr fun i _ => ?_
   rw [co_succ]
   show co l i * (z * zp z i) = z * (co l i * zp z i)
   grind
  rw [e, ih (by simpa using h), co_zero]
  show a * 1 + z * evL l z = a + z * evL l z
  grind
def crS (b c : List Rat) (k : Nat) : Nat → Rat
 | 0 => ((0 : Int) : Rat)
 | i + 1 => if 0 < k then crS b c k i + co b i * co c (i + k) + co b (i + k) * co c i else crS b c k i + co b i * co c (i + k)
def crT (b : List Rat) (k i : Nat) : Rat := if 0 < k then co b i * co b (i + k) + co b (i + k) * co b i else co b i * co b (i + k)
theorem crS_sum (b : List Rat) (k n : Nat) : crS b b k n = tsum (crT b k) n := by
 induction n with
 | zero => rfl
 | succ n ih =>
  show (if 0 < k then crS b b k n + co b n * co b (n + k) + co b (n + k) * co b n else crS b b k n + co b n * co b (n + k)) = tsum (crT b k) n + crT b k n
  have e : crT b k n = if 0 < k then co b n * co b (n + k) + co b (n + k) * co b n else co b n * co b (n + k) := rfl
  rw [ih, e]
  generalize tsum (crT b k) n = s
  split <;> grind
theorem crG (b : List Rat) {z w : Rat} (hz : z * w = 1) {n : Nat} (h : b.length ≤ n) : tsum (fun k => tsum (crT b k) n * ((zp z k + zp w k) / 2)) n = evL b z * evL b w := by
 induction b generalizing n with
 | nil =>
  rw [tsum_zero (fun k _ => by rw [tsum_zero (fun i _ => by unfold crT; simp only [co_nil]; split <;> grind)]; grind)]
  show (0 : Rat) = 0 * 0
  grind
 | cons a l ih =>
  obtain ⟨m, rfl⟩ : ∃ m, n = m + 1 := ⟨n - 1, by simp at h; omega⟩
  have hm : l.length ≤ m := by simpa using h
  have e1 : ∀ k, tsum (crT (a :: l) k) (m + 1) = crT (a :: l) k 0 + tsum (crT l k) m := fun k => by
   rw [tsum_front]
   congr 1
   refine tsum_congr fun i _ => ?_
   unfold crT
   rw [show i + 1 + k = (i + k) + 1 by omega, co_succ, co_succ]
  have e2 : tsum (fun k => tsum (crT (a :: l) k) (m + 1) * ((zp z k + zp w k) / 2)) (m + 1) = tsum (fun k => crT (a :: l) k 0 * ((zp z k + zp w k) / 2)) (m + 1) + tsum (fun k => tsum (crT l k) m * ((zp z k + zp w k) / 2)) (m + 1) := by
   rw [← tsum_add]
   refine tsum_congr fun k _ => ?_
   rw [e1]; grind
  have e3 : tsum (fun k => tsum (crT l k) m * ((zp z k + zp w k) / 2)) (m + 1) = evL l z * evL l w := by
   show tsum (fun k => tsum (crT l k) m * ((zp z k + zp w k) / 2)) m + tsum (crT l m) m * ((zp z m + zp w m) / 2) = _
   rw [ih hm, tsum_zero (f := crT l m) (fun i hi => by unfold crT; rw [co_ge (l := l) (i := i + m) (by omega)]; split <;> grind)]
   grind
  have e4 : tsum (fun k => crT (a :: l) k 0 * ((zp z k + zp w k) / 2)) (m + 1) = a * a + a * (z * evL l z + w * evL l w) := by
   rw [tsum_front]
   have f1 : tsum (fun i => crT (a :: l) (i + 1) 0 * ((zp z (i + 1) + zp w (i + 1)) / 2)) m = a * z * tsum (fun i => co l i * zp z i) m + a * w * tsum (fun i => co l i * zp w i) m := by
    rw [← tsum_mul, ← tsum_mul, ← tsum_add]
    refine tsum_congr fun i _ => ?_
    unfold crT
    rw [if_pos (by omega), Nat.zero_add, co_succ, co_zero]
    show (a * co l i + co l i * a) * ((z * zp z i + w * zp w i) / 2) = _
    grind
   rw [f1, ev_tsum l z hm, ev_tsum l w hm]
   unfold crT
   rw [if_neg (by omega)]
   show co (a :: l) 0 * co (a :: l) (0 + 0) * ((1 + 1) / 2) + _ = _
   rw [co_zero]
   grind
  rw [e2, e3, e4]
  show a * a + a * (z * evL l z + w * evL l w) + evL l z * evL l w = (a + z * evL l z) * (a + w * evL l w)
  grind
def sumL (c : List Rat) : Nat → List Rat
 | 0 => []
 | k + 1 => trimQ (addQ (sumL c k) (trimQ ((chebL k).map (· * co c k))))
theorem sum_ev (c : List Rat) {z w : Rat} (hz : z * w = 1) (n : Nat) : evL (sumL c n) ((z + w) / 2) = tsum (fun k => co c k * ((zp z k + zp w k) / 2)) n := by
 induction n with
 | zero => rfl
 | succ n ih =>
  show evL (trimQ (addQ (sumL c n) (trimQ ((chebL n).map (· * co c n))))) _ = tsum _ n + _
  rw [ev_addL, evL_trim, evL_map, ih]
  unfold chebL
  rw [evL_trim, (cheb_ev hz n).1]
  grind
def crL (b c : List Rat) (n : Nat) : List Rat := (List.range n).map fun k => crS b c k n
theorem crL_co (b c : List Rat) (n k : Nat) (h : k < n) : co (crL b c n) k = crS b c k n := by
 unfold co crL
 rw [List.getD_eq_getElem?_getD, List.getElem?_map, List.getElem?_range h]
 rfl
def magL (p : List Rat) : List Rat := sumL (crL (trimQ p) (trimQ p) (trimQ p).length) (trimQ p).length
theorem mag_ev (p : List Rat) {z w : Rat} (hz : z * w = 1) : evL (magL p) ((z + w) / 2) = evL p z * evL p w := by
 unfold magL
 rw [sum_ev _ hz, tsum_congr (g := fun k => tsum (crT (trimQ p) k) (trimQ p).length * ((zp z k + zp w k) / 2)) (fun k hk => by rw [crL_co _ _ _ _ hk, crS_sum]), crG _ hz (Nat.le_refl _), evL_trim, evL_trim]
def AP (B A : List Rat) : Prop := ∀ z w : Rat, z * w = 1 → evL B z * evL B w = evL A z * evL A w
theorem AP.one : AP [((1 : Int) : Rat)] [((1 : Int) : Rat)] := fun z w _ => rfl
theorem AP.mul {B A B' A' : List Rat} (h : AP B A) (k : AP B' A') : AP (trimQ (mulQ B B')) (trimQ (mulQ A A')) := fun z w e => by
 rw [ev_mulL, ev_mulL, ev_mulL, ev_mulL]
 have h1 := h z w e
 have h2 := k z w e
 grind
theorem AP.trim {B A : List Rat} (h : AP B A) : AP (trimQ B) (trimQ A) := fun z w e => by rw [evL_trim, evL_trim, evL_trim, evL_trim]; exact h z w e
theorem AP.ord1 (g : Rat) : AP [-g, 1] [1, -g] := fun z w e => by
 show (-g + z * (1 + z * 0)) * (-g + w * (1 + w * 0)) = (1 + z * (-g + z * 0)) * (1 + w * (-g + w * 0))
 grind
theorem AP.ord2 (g m : Rat) : AP [-g, m, 1] [1, m, -g] := fun z w e => by
 show (-g + z * (m + z * (1 + z * 0))) * (-g + w * (m + w * (1 + w * 0))) = (1 + z * (m + z * (-g + z * 0))) * (1 + w * (m + w * (-g + w * 0)))
 grind
theorem zero_of_roots {f : Nat → Rat} (hf : ∀ i j, i < j → f i ≠ f j) : ∀ (n : Nat) (p : Pol) (m : Nat), p.len ≤ n → (∀ k, p.ev (f (m + k)) = 0) → p = 0 := by
 intro n
 induction n with
 | zero => intro p m hp _; exact zero_of_len (by omega)
 | succ n ih =>
  intro p m hp h
  obtain ⟨q, e⟩ := root_div p (f m)
  have h0 := h 0
  rw [Nat.add_zero] at h0
  rw [h0, C_zero, add_zero] at e
  by_cases h3 : q = 0
  ·rw [e, h3, zero_mul]
  ·have hl := len_mul h3 (show lin (f m) ≠ 0 from fun k => by have h9 := len_lin (f m); rw [k, len_zero] at h9; omega)
   rw [len_lin, ← e] at hl
   have hq := ih q (m + 1) (by omega) fun k => by
    have h1 := h (1 + k)
    rw [e, ev_mul, ev_lin, ← Nat.add_assoc] at h1
    have h2 := hf m (m + 1 + k) (by omega)
    rcases Rat.mul_eq_zero.1 h1 with h4 | h4
    ·exact h4
    ·exact absurd (by grind) h2
   exact absurd hq h3
def fz (k : Nat) : Rat := (((k + 1 : Nat) : Rat) + 1 / ((k + 1 : Nat) : Rat)) / 2
theorem fz_ne (i j : Nat) (h : i < j) : fz i ≠ fz j := by
 unfold fz
 obtain ⟨d, rfl⟩ : ∃ d, j = i + 1 + d := ⟨j - i - 1, by omega⟩
 have ha : (0 : Rat) < ((i + 1 : Nat) : Rat) := Rat.natCast_pos.2 (by omega)
 have hb : ((i + 1 + d + 1 : Nat) : Rat) = ((i + 1 : Nat) : Rat) + ((d + 1 : Nat) : Rat) := by rw [← Rat.natCast_add]; congr 1
 have hd : (0 : Rat) < ((d + 1 : Nat) : Rat) := Rat.natCast_pos.2 (by omega)
 have ha1 : (1 : Rat) ≤ ((i + 1 : Nat) : Rat) := by
  have : ((1 : Nat) : Rat) ≤ ((i + 1 : Nat) : Rat) := Rat.natCast_le_natCast.2 (by omega)
  exact this
 rw [hb]
 generalize ((i + 1 : Nat) : Rat) = a at *
 generalize ((d + 1 : Nat) : Rat) = t at *
 intro e
 have hab : a * (1 / a) = 1 := by grind
 have hbb : (a + t) * (1 / (a + t)) = 1 := by grind
 have e2 : a + 1 / a = a + t + 1 / (a + t) := by grind
 have e3 : t * (a * (a + t) - 1) = 0 := by
  generalize 1 / a = u at *
  generalize 1 / (a + t) = v at *
  have : u - v = t := by grind
  have h1 : (u - v) * (a * (a + t)) = t * (a * (a + t)) := by rw [this]
  have h2 : (u - v) * (a * (a + t)) = (a * u) * (a + t) - ((a + t) * v) * a := by grind
  rw [h2, hab, hbb] at h1
  grind
 rcases Rat.mul_eq_zero.1 e3 with h4 | h4
 ·grind
 ·have h5 : a * (a + t) = a * a + a * t := by grind
  have h6 : (1 : Rat) ≤ a * a := by
   have := Rat.mul_le_mul_of_nonneg_left ha1 (Rat.le_of_lt ha)
   grind
  have h7 : 0 < a * t := Rat.mul_pos ha hd
  grind
theorem same_of_ev {p q : List Rat} (h : ∀ z w : Rat, z * w = 1 → evL p ((z + w) / 2) = evL q ((z + w) / 2)) : trimQ p = trimQ q := by
 have key : mk' p - mk' q = 0 := zero_of_roots fz_ne _ _ 0 (Nat.le_refl _) fun k => by
  have hk : ((0 + k + 1 : Nat) : Rat) ≠ 0 := Ne.symm (Rat.ne_of_lt (Rat.natCast_pos.2 (by omega)))
  have h1 := h ((0 + k + 1 : Nat) : Rat) (1 / ((0 + k + 1 : Nat) : Rat)) (by grind)
  have e : mk' p - mk' q = mk' p + C (-1) * mk' q := by rw [C_neg, show C 1 = (1 : Pol) from rfl]; grind
  rw [e, ev_add, ev_Cmul, mk_ev, mk_ev]
  unfold fz
  rw [h1]; grind
 have e2 : mk' p = mk' q := by grind
 exact mk_eq.1 e2
end Go.Proofs.YtmonfdlnihaabaaGreat.Nt
namespace Go.Proofs.YtmonfdlnihaabaaGreat
open Go.RowKit
set_option linter.unusedVariables false
def PasOK (f : Int) (p : PL) : Prop := (p.o = 1 ∧ p.h = 0 ∨ p.o = 2) ∧ -Nt.p2i f < p.g ∧ p.g < Nt.p2i f ∧ -Nt.p2i f < p.h ∧ p.h < Nt.p2i f
namespace Nt
def wq (z f : Int) : Rat := ((z : Int) : Rat) / ((p2i f : Int) : Rat)
def secB (f : Int) (p : PL) : List Rat := if p.o = 1 then [-wq p.g f, ((1 : Int) : Rat)] else [-wq p.g f, wq p.h f * (wq p.g f - ((1 : Int) : Rat)), ((1 : Int) : Rat)]
def secA (f : Int) (p : PL) : List Rat := if p.o = 1 then [((1 : Int) : Rat), -wq p.g f] else [((1 : Int) : Rat), wq p.h f * (wq p.g f - ((1 : Int) : Rat)), -wq p.g f]
theorem sec_ap (f : Int) (p : PL) : AP (secB f p) (secA f p) := by
 unfold secB secA
 split
 ·exact AP.ord1 _
 ·exact AP.ord2 _ _
theorem sec_len (f : Int) (p : PL) : (secB f p).length ≤ 3 ∧ (secA f p).length ≤ 3 := by
 unfold secB secA
 split <;> exact ⟨by simp, by simp⟩
def prodB (f : Int) (L : List PL) : Nat → List Rat
 | 0 => [((1 : Int) : Rat)]
 | i + 1 => trimQ (mulQ (prodB f L i) (trimQ (secB f (L.getD i pl0))))
def prodA (f : Int) (L : List PL) : Nat → List Rat
 | 0 => [((1 : Int) : Rat)]
 | i + 1 => trimQ (mulQ (prodA f L i) (trimQ (secA f (L.getD i pl0))))
theorem prod_len (f : Int) (L : List PL) (n : Nat) : (prodB f L n).length ≤ 2 * n + 1 ∧ (prodA f L n).length ≤ 2 * n + 1 := by
 induction n with
 | zero => exact ⟨by simp [prodB], by simp [prodA]⟩
 | succ n ih =>
  have h := sec_len f (L.getD n pl0)
  refine ⟨Nat.le_trans (mul_lenQ ih.1 (Nat.le_trans (zzg _) h.1)) (by omega), Nat.le_trans (mul_lenQ ih.2 (Nat.le_trans (zzg _) h.2)) (by omega)⟩
def wD (f : Int) : Nat := (p2i f * p2i f).toNat
theorem wD_eq (f : Int) : ((wD f : Nat) : Int) = p2i f * p2i f := by
 have := Int.mul_pos (p2i_pos f) (p2i_pos f)
 unfold wD; omega
theorem wD_le {f : Int} (hf : f ≤ 24) : 0 < wD f ∧ wD f ≤ 2 ^ 48 := by
 have h0 := wD_eq f
 have h1 := Int.mul_pos (p2i_pos f) (p2i_pos f)
 have h2 : p2i f * p2i f ≤ 16777216 * 16777216 := Int.mul_le_mul (p2i_24 hf) (p2i_24 hf) (Int.le_of_lt (p2i_pos f)) (by decide)
 omega
theorem wh_of {x : Rat} {f z : Int} (h : x * ((p2i f * p2i f : Int) : Rat) = (z : Rat)) (hz : z.natAbs ≤ 2 ^ 49) : Wh (x * ((wD f : Int) : Rat)) 49 := ⟨z, by rw [wD_eq]; exact h, hz⟩
theorem sec_sm {f : Int} {p : PL} (hf : f ≤ 24) (hp : PasOK f p) : Sm (secB f p) (wD f) 49 ∧ Sm (secA f p) (wD f) 49 := by
 obtain ⟨_, g0, g1, h0, h1⟩ := hp
 have hF := p2i_pos f
 have hF2 := p2i_24 hf
 have hD := (wD_le hf).1
 have hne : ((p2i f : Int) : Rat) ≠ 0 := fun e => by have : p2i f = 0 := Rat.intCast_inj.1 e; omega
 have k1 : Wh (-wq p.g f * ((wD f : Int) : Rat)) 49 := wh_of (z := -p.g * p2i f) (by
  unfold wq; rw [Rat.intCast_mul, Rat.intCast_mul, Rat.intCast_neg]; grind) (by
  rw [Int.natAbs_mul]
  have := Nat.mul_le_mul (show (-p.g).natAbs ≤ 16777216 by omega) (show (p2i f).natAbs ≤ 16777216 by omega)
  omega)
 have k2 : Wh (((1 : Int) : Rat) * ((wD f : Int) : Rat)) 49 := wh_of (z := p2i f * p2i f) (by rw [Rat.intCast_mul]; grind) (by
  rw [Int.natAbs_mul]
  have := Nat.mul_le_mul (show (p2i f).natAbs ≤ 16777216 by omega) (show (p2i f).natAbs ≤ 16777216 by omega)
  omega)
 have k3 : Wh (wq p.h f * (wq p.g f - ((1 : Int) : Rat)) * ((wD f : Int) : Rat)) 49 := wh_of (z := p.h * (p.g - p2i f)) (by
  unfold wq; rw [Rat.intCast_mul, Rat.intCast_mul, Rat.intCast_sub]; grind) (by
  rw [Int.natAbs_mul]
  have := Nat.mul_le_mul (show p.h.natAbs ≤ 16777216 by omega) (show (p.g - p2i f).natAbs ≤ 33554432 by omega)
  omega)
 constructor
 ·refine Sm.ofAll hD fun x hx => ?_
  unfold secB at hx
  split at hx <;> simp at hx
  ·rcases hx with rfl | rfl
   ·exact k1
   ·exact k2
  ·rcases hx with rfl | rfl | rfl
   ·exact k1
   ·exact k3
   ·exact k2
 ·refine Sm.ofAll hD fun x hx => ?_
  unfold secA at hx
  split at hx <;> simp at hx
  ·rcases hx with rfl | rfl
   ·exact k2
   ·exact k1
  ·rcases hx with rfl | rfl | rfl
   ·exact k2
   ·exact k3
   ·exact k1
theorem prod_sm {f : Int} {L : List PL} (hf : f ≤ 24) (hL : ∀ p ∈ L, PasOK f p) (n : Nat) (hn : n ≤ L.length) : Sm (prodB f L n) (wD f ^ n) (52 * n) ∧ Sm (prodA f L n) (wD f ^ n) (52 * n) := by
 induction n with
 | zero =>
  have h : Sm [((1 : Int) : Rat)] 1 0 := Sm.ofInts (zs := [1]) (by decide)
  exact ⟨h, h⟩
 | succ n ih =>
  have ih := ih (by omega)
  have hp : PasOK f (L.getD n pl0) := hL _ (by rw [List.getD_eq_getElem?_getD, List.getElem?_eq_getElem (by omega)]; exact List.getElem_mem _)
  have hs := sec_sm hf hp
  have hl := sec_len f (L.getD n pl0)
  have t1 := Nat.le_trans (zzg (secB f (L.getD n pl0))) hl.1
  have t2 := Nat.le_trans (zzg (secA f (L.getD n pl0))) hl.2
  exact ⟨((ih.1.mulR hs.1.trim).trim).more (by omega), ((ih.2.mulR hs.2.trim).trim).more (by omega)⟩
theorem wD_pow {f : Int} (hf : f ≤ 24) {n N : Nat} (hn : n ≤ N) : wD f ^ n ≤ 2 ^ (52 * N) := by
 have h := wD_le hf
 calc wD f ^ n ≤ (2 ^ 48) ^ n := Nat.pow_le_pow_left h.2 n
  _ = 2 ^ (48 * n) := by rw [← Nat.pow_mul]
  _ ≤ 2 ^ (52 * N) := Nat.pow_le_pow_right (by decide) (by omega)
end Nt
end Go.Proofs.YtmonfdlnihaabaaGreat
namespace Go.Proofs.YtmonfdlnihaabaaGreat
open Go.RowKit Go.ChangeShapes Go.WideShapes
set_option linter.unusedVariables false
theorem wrap64_ex (n : Int) : ∃ z, IntKind.i64.wrap n = z ∧ -9223372036854775808 ≤ z ∧ z ≤ 9223372036854775807 := ⟨_, rfl, by rw [IntKind.wrap_i64]; omega⟩
theorem sy_tail {P : Program} {ops : Array Oper} {w0 : Base} {u0 : World} {S : St} {u : World} {o : Oper} {p : List Tmp} {seq : Bool} {rest : List (Oper × List Tmp)} {K : St → World → Prop} (d : Tmp) {T : TypeId} {x h : Operand} {A : Option Addr} {n c : Nat} {k : IntKind} {i : Int} (m : Nat) {sz : Nat} (hT : SlIs P T sz) (hi : i = m) (hm : m ≤ n)
  (kk : ∀ A', A' = (if c = m then A else A.map (·.add (m * sz))) → sym P ops w0 u0 seq rest (S.set d (.v (.slice A' (n - m) (c - m)))) u K) (hw : Wants ops o S := by exact wants0 (by kernel_rfl)) (hd : o.dst = some d := by kernel_rfl) (hop : o.op = .slice T x (some h) none none := by rfl) (hf : freeB S d = true := by kernel_rfl)
  (hx : evO S x = some (.v (.slice A n c)) := by rfl) (hh : evO S h = some (.v (.int k i)) := by rfl) : sym P ops w0 u0 seq ((o, p) :: rest) S u K := by
 subst hi
 have kk := kk _ rfl
 obtain ⟨E, agg, hu, hE⟩ := hT
 refine .inl ⟨by rw [hop]; exact (by decide : (0 : Nat) ≠ 2), .set (.v (.slice (if c = m then A else A.map (·.add (m * sz))) (n - m) (c - m))), ⟨free_of hd hf, .inl ⟨(fun t ht => by cases ht), fun B a w u' hr he hdt => ⟨hw B a hr, ?_⟩⟩⟩, ?_⟩
 ·have e1 : (execOp a.eval o).run P w = (do pure (Next.value (← Instr.sliceAt T (a.eval x) (some (a.eval h)) none none)) : Sem Next).run P w := by unfold execOp; rw [hop]; rfl
  rw [e1, ev_eval hr hx, ev_eval hr hh]
  refine run_val ?_
  show (Instr.sliceAt T (.slice A n c) (some (.int k m)) none none).run P w = .ok (.slice (if c = m then A else A.map (·.add (m * sz))) (n - m) (c - m)) w
  have hs := (hE w).2
  simp [Instr.sliceAt, Instr.slice, Instr.sliceBounds, Instr.sliceBound, asIntOf, run_underlying hu, go_sem, hs, hm]
 ·show sym P ops w0 u0 seq rest (S.put o.dst (some _)) u K
  rw [hd]; exact kk
section
variable {u : World} {k : IntKind} {A A' : Option Addr} {n c m : Nat} {l : List Int}
theorem ints_drop (h : SlR k u A n c l) (hm : m ≤ n) (hA : A' = (if c = m then A else A.map (·.add (m * 1)))) : SlR k u A' (n - m) (c - m) (l.drop m) := by
 obtain ⟨h1, h2, h3, h4⟩ := h
 refine ⟨by rw [List.length_drop]; omega, by omega, by omega, fun hp => ?_⟩
 obtain ⟨b, o, e, hb, hc⟩ := h4 (by omega)
 rw [if_neg (by omega), e] at hA
 refine ⟨b, o + m, by rw [hA]; simp [Addr.add], hb, fun i hi => ?_⟩
 rw [List.getElem?_drop, Nat.add_assoc]
 exact hc (m + i) (by omega)
theorem bd_drop {lo hi : Int} (h : ∀ z ∈ l, lo ≤ z ∧ z ≤ hi) (m : Nat) : ∀ z ∈ l.drop m, lo ≤ z ∧ z ≤ hi := fun z hz => h z (List.mem_of_mem_drop hz)
theorem bd_two {g h lo hi : Int} (h0 : lo ≤ g ∧ g ≤ hi) (h1 : lo ≤ h ∧ h ≤ hi) : ∀ z ∈ [g, h], lo ≤ z ∧ z ≤ hi := fun z hz => by
 rcases List.mem_cons.1 hz with rfl | hz
 ·exact h0
 ·rcases List.mem_cons.1 hz with rfl | hz
  ·exact h1
  ·cases hz
end
theorem pas_all0 {f : Int} : ∀ x ∈ ([] : List PL), PasOK f x := fun x hx => by cases hx
theorem pas_all1 {f : Int} {p : PL} (h : PasOK f p) : ∀ x ∈ [p], PasOK f x := fun x hx => by
 rcases List.mem_cons.1 hx with rfl | hx
 ·exact h
 ·cases hx
theorem pas_all2 {f : Int} {p q : PL} (h : PasOK f p) (k : PasOK f q) : ∀ x ∈ [p, q], PasOK f x := fun x hx => by
 rcases List.mem_cons.1 hx with rfl | hx
 ·exact h
 ·exact pas_all1 k x hx
theorem int_one (z : Int) : ∀ v ∈ [Value.int .i64 z], v.oneCell' = true := fun v hv => by
 rcases List.mem_cons.1 hv with rfl | hv
 ·rfl
 ·cases hv
section
variable {H : Type} {enc : TypeId × Value → H} {w : World} {base : Nat} {spare : Nat → Bool} {held : Bool} {r0 : Reach} {b0 : Nat} {v : Value} {d : DataW H} {p : List MemPlace}
set_option maxRecDepth 100000 in
theorem ar_ints2 (hv : Value.okWide Tryz.prog w r0 b0 49 v) (h : DataW.Trod enc Tryz.prog w base spare held 49 v d p) : ∃ (s t : Sl) (l m : List Int), v = .agg #[s.v, t.v] ∧ SlR .i64 w s.a s.n s.c l ∧ (∀ z ∈ l, -9223372036854775808 ≤ z ∧ z ≤ 9223372036854775807) ∧ SlR .i64 w t.a t.n t.c m ∧ (∀ z ∈ m, -9223372036854775808 ≤ z ∧ z ≤ 9223372036854775807) := by
 obtain ⟨cs, rfl, hsz⟩ := okWide_struct Tryz.underlying49 hv
 obtain ⟨fuel, hf⟩ := h
 obtain ⟨xs, n, _, _, hlen, hxs, hf⟩ := DataW.trod_struct Tryz.underlying49 hf
 have hlen : cs.toList.length = 2 := hlen.trans (by kernel_rfl)
 obtain ⟨c0, c1, hcs⟩ := two_of hlen
 obtain ⟨y0, y1, rfl⟩ := two_of (hxs.trans rfl)
 have hcs : cs.toList = [c0, c1] := hcs
 have e : Tryz.prog.cellsOf 22 = 1 := by kernel_rfl
 change ∀ _, _ at hf
 have h0 : DataW.trod enc Tryz.prog w base spare held n 22 [c0] = some y0 := by have h9 := hf 0 _ rfl; rw [show ((Value.agg cs).cells).toList = [c0, c1] from hcs] at h9; simpa [e] using h9
 have h1 : DataW.trod enc Tryz.prog w base spare held n 22 [c1] = some y1 := by have h9 := hf 1 _ rfl; rw [show ((Value.agg cs).cells).toList = [c0, c1] from hcs] at h9; simpa [e] using h9
 obtain ⟨s, l, hs, g, f⟩ := ar_slr (k := .i64) (e := 3) (by kernel_rfl) (by kernel_rfl) (by kernel_rfl) h0
 obtain ⟨t, m, ht, g', f'⟩ := ar_slr (k := .i64) (e := 3) (by kernel_rfl) (by kernel_rfl) (by kernel_rfl) h1
 have hs : c0 = s.v := (List.cons.inj hs).1
 have ht : c1 = t.v := (List.cons.inj ht).1
 subst hs ht
 have hcs2 : cs = #[s.v, t.v] := by cases cs; simpa using hcs
 exact ⟨s, t, l, m, by rw [hcs2], g, fun z hz => wf_i64 (f z hz), g', fun z hz => wf_i64 (f' z hz)⟩
end
end Go.Proofs.YtmonfdlnihaabaaGreat
namespace Go.Proofs.YtmonfdlnihaabaaGreat
set_option linter.unusedVariables false
open Go.RowKit
theorem ty3 : TyIs Tryz.prog 3 false 1 := fun w => ⟨by kernel_rfl, by kernel_rfl⟩
theorem ty4 : TyIs Tryz.prog 4 false 1 := fun w => ⟨by kernel_rfl, by kernel_rfl⟩
theorem ty22 : TyIs Tryz.prog 22 false 1 := fun w => ⟨by kernel_rfl, by kernel_rfl⟩
theorem ty24 : TyIs Tryz.prog 24 false 1 := fun w => ⟨by kernel_rfl, by kernel_rfl⟩
theorem ty25 : TyIs Tryz.prog 25 false 1 := fun w => ⟨by kernel_rfl, by kernel_rfl⟩
theorem ty27 : TyIs Tryz.prog 27 true 2 := fun w => ⟨by kernel_rfl, by kernel_rfl⟩
theorem ty29 : TyIs Tryz.prog 29 true 3 := fun w => ⟨by kernel_rfl, by kernel_rfl⟩
theorem ty32 : TyIs Tryz.prog 32 false 1 := fun w => ⟨by kernel_rfl, by kernel_rfl⟩
theorem ty49 : TyIs Tryz.prog 49 true 2 := fun w => ⟨by kernel_rfl, by kernel_rfl⟩
theorem ty51 : TyIs Tryz.prog 51 true 4 := fun w => ⟨by kernel_rfl, by kernel_rfl⟩
theorem ty54 : TyIs Tryz.prog 54 true 2 := fun w => ⟨by kernel_rfl, by kernel_rfl⟩
theorem ty57 : TyIs Tryz.prog 57 false 1 := fun w => ⟨by kernel_rfl, by kernel_rfl⟩
theorem ty59 : TyIs Tryz.prog 59 true 2 := fun w => ⟨by kernel_rfl, by kernel_rfl⟩
theorem ty63 : TyIs Tryz.prog 63 true 2 := fun w => ⟨by kernel_rfl, by kernel_rfl⟩
theorem ty65 : TyIs Tryz.prog 65 true 3 := fun w => ⟨by kernel_rfl, by kernel_rfl⟩
theorem ty102 : TyIs Tryz.prog 102 false 1 := fun w => ⟨by kernel_rfl, by kernel_rfl⟩
theorem ty150 : TyIs Tryz.prog 150 true 3 := fun w => ⟨by kernel_rfl, by kernel_rfl⟩
theorem ty152 : TyIs Tryz.prog 152 true 4 := fun w => ⟨by kernel_rfl, by kernel_rfl⟩
theorem sl22 : SlIs Tryz.prog 22 1 := ⟨3, false, by kernel_rfl, ty3⟩
theorem sl24 : SlIs Tryz.prog 24 3 := ⟨29, true, by kernel_rfl, ty29⟩
theorem sl25 : SlIs Tryz.prog 25 1 := ⟨102, false, by kernel_rfl, ty102⟩
theorem sl32 : SlIs Tryz.prog 32 3 := ⟨29, true, by kernel_rfl, ty29⟩
theorem sl57 : SlIs Tryz.prog 57 3 := ⟨65, true, by kernel_rfl, ty65⟩
end Go.Proofs.YtmonfdlnihaabaaGreat
namespace Go.Proofs.YtmonfdlnihaabaaGreat
open Go.RowKit
set_option linter.unusedVariables false
theorem k_riTrim {u w : World} {i1 : IL} {zN : Int} {K : Nat} (d : Dat u w) (hi1 : IntV u i1 zN K) (hK : K ≤ 500000000) : Calls Tryz.prog 107 #[i1.v] w (Post u w fun v u' => ∃ i : IL, v = i.v ∧ IntN u' i zN K) := by
 obtain ⟨N, hN, hzN⟩ := hi1
 refine zzl (args := [i1.v]) Tryz.func107 rfl Tryz.ntmps107 (rs := [.cell 2 27]) Tryz.results107 (le_b rfl) (le_b rfl) d ?_
 refine sq9 ?_
 refine zzj 1 ⟨27, i1.cs⟩ ?_
 refine zzj 2 ⟨27, [.bool false, .slice none 0 0]⟩ ?_
 refine zzb 16 [(1, .adr 1 0), (2, .adr 2 0)] [(1, ⟨27, i1.cs⟩), (2, ⟨27, [.bool false, .slice none 0 0]⟩)] ?_
 refine sq9 ?_
 refine zza 4 (.adr 1 1) ?_
 refine zzh 5 (.v i1.m.v) ty25 zzk ?_
 refine zzf 6 151 [i1.m.v] ?_
 intro w11 u11 e11 d11
 have k16 := k_rnTrim d11 (hN.ext e11) (by omega)
 with_reducible refine Post.mono k16 ?_
 rintro _ u14 g15 ⟨x12, rfl, h13⟩
 refine zza 3 (.v x12.v) ?_
 refine zzb 16 [(1, .adr 1 0), (2, .adr 2 0), (3, .v x12.v)] [(1, ⟨27, i1.cs⟩), (2, ⟨27, [.bool false, .slice none 0 0]⟩)] ?_
 refine sq9 ?_
 refine zza 7 (.adr 1 0) ?_
 refine zzh 8 (.v (.bool i1.s)) ty4 zzk ?_
 rcases Bool.eq_false_or_eq_true i1.s with hs17 | hs17
 ·refine zyp 9 (x := .v (.bool i1.s)) (.v (.bool true)) (by rw [hs17]) ?_
  refine zza 10 (.v x12.v) ?_ (hw := w1 2 true 9)
  refine zza 11 (.v (.int .i64 (x12.n : Int))) ?_ (hw := w1 2 true 9)
  refine zza 12 (.v (.bool (decide ((0 : Int) < (x12.n : Int))))) ?_ (hw := w1 2 true 9)
  refine zza 13 (.v (.bool (decide ((0 : Int) < (x12.n : Int))))) ?_
  refine zza 14 (.v x12.v) ?_
  refine zza 15 (.v (.agg #[.bool (decide ((0 : Int) < (x12.n : Int))), x12.v])) ?_
  refine zzi ⟨27, [.bool (decide ((0 : Int) < (x12.n : Int))), x12.v]⟩ ty27 ?_
  refine zzb 16 [(2, .adr 2 0)] [(2, ⟨27, [.bool (decide ((0 : Int) < (x12.n : Int))), x12.v]⟩)] ?_
  refine zzn (ret0 [.agg #[.bool (decide ((0 : Int) < (x12.n : Int))), .slice x12.a x12.n x12.c]] ⟨zzq ty27 zzd, trivial⟩ fun u18 e19 => ?_)
  refine ⟨⟨_, x12⟩, rfl, ?_⟩
  rw [hzN, hs17]
  exact signed_int (s := true) (h13.ext e19)
 ·refine zyp 9 (x := .v (.bool i1.s)) (.v (.bool false)) (by rw [hs17]) ?_
  refine zzm 10 (uw 2 true false 9) ?_
  refine zzm 11 (uw 2 true false 9) ?_
  refine zzm 12 (uw 2 true false 9) ?_
  refine zza 13 (.v (.bool false)) ?_
  refine zza 14 (.v x12.v) ?_
  refine zza 15 (.v (.agg #[.bool false, x12.v])) ?_
  refine zzi ⟨27, [.bool false, x12.v]⟩ ty27 ?_
  refine zzb 16 [(2, .adr 2 0)] [(2, ⟨27, [.bool false, x12.v]⟩)] ?_
  refine zzn (ret0 [.agg #[.bool false, .slice x12.a x12.n x12.c]] ⟨zzq ty27 zzd, trivial⟩ fun u20 e21 => ?_)
  refine ⟨⟨_, x12⟩, rfl, ?_⟩
  rw [hzN, hs17]
  exact signed_int (s := false) (h13.ext e21)
theorem k_riSign {u w : World} {i1 : IL} {zN : Int} {K : Nat} (d : Dat u w) (hi1 : IntV u i1 zN K) (hK : K ≤ 500000000) : Calls Tryz.prog 103 #[i1.v] w (Post u w fun v u' => v = .int .i64 (Nt.cmpS zN 0)) := by
 refine zzl (args := [i1.v]) Tryz.func103 rfl Tryz.ntmps103 (rs := [.tmp 2]) Tryz.results103 (le_b rfl) (le_b rfl) d ?_
 refine sq9 ?_
 refine zzj 1 ⟨27, i1.cs⟩ ?_
 refine zza 2 (.v (.int .i64 0)) ?_
 refine zzb 13 [(1, .adr 1 0)] [(1, ⟨27, i1.cs⟩)] ?_
 refine sq9 ?_
 refine zzh 3 (.v (i1.v)) ty27 zzd ?_
 refine zzf 4 107 [i1.v] ?_
 intro w11 u11 e11 d11
 have k16 := k_riTrim d11 (hi1.ext e11) (by omega)
 with_reducible refine Post.mono k16 ?_
 rintro _ u14 g15 ⟨i12, rfl, h13⟩
 refine zzi ⟨27, i12.cs⟩ ty27 ?_
 refine zzb 13 [(1, .adr 1 0)] [(1, ⟨27, i12.cs⟩)] ?_
 refine zzc ?_
 refine zzs ?_
 refine sq9 ?_
 refine zza 6 (.adr 1 1) ?_
 refine zzh 7 (.v i12.m.v) ty25 zzk ?_
 refine zza 8 (.v (.int .i64 (i12.m.n : Int))) ?_
 refine zza 9 (.v (.bool ((i12.m.n : Int) == 0))) ?_
 refine zza 5 (.v (.bool ((i12.m.n : Int) == 0))) ?_
 refine zzb 13 [(1, .adr 1 0), (5, .v (.bool ((i12.m.n : Int) == 0)))] [(1, ⟨27, i12.cs⟩)] ?_
 refine zzt (b := (i12.m.n : Int) == 0) (by kernel_rfl) (fun hb17 => ?_) (fun hb17 => ?_)
 ·replace hb17 : ((i12.m.n : Int) == 0) = true := hb17
  have qhb17 : (i12.m.n : Int) = 0 := by simpa using hb17
  refine sq9 ?_
  refine zza 2 (.v (.int .i64 0)) ?_
  refine zzb 13 [(2, .v (.int .i64 0))] [] ?_
  refine zzn (zyt (zzv (ret0 [.int .i64 0] ⟨zzp, trivial⟩ fun u18 e19 => ?_)))
  show _ = _
  rw [sign_len h13, if_pos hb17]
  rfl
 ·replace hb17 : ((i12.m.n : Int) == 0) = false := hb17
  have qhb17 : ¬ ((i12.m.n : Int) = 0) := by simpa using hb17
  refine sq9 ?_
  refine zza 11 (.adr 1 0) ?_
  refine zzh 12 (.v (.bool i12.s)) ty4 zzk ?_
  refine zza 10 (.v (.bool i12.s)) ?_
  refine zzb 13 [(10, .v (.bool i12.s))] [] ?_
  refine zzt (b := i12.s) (by kernel_rfl) (fun hb20 => ?_) (fun hb20 => ?_)
  ·replace hb20 : i12.s = true := hb20
   refine sq9 ?_
   refine zza 2 (.v (.int .i64 (-1))) ?_
   refine zzb 13 [(2, .v (.int .i64 (-1)))] [] ?_
   refine zzn (zyt (zzv (ret0 [.int .i64 (-1)] ⟨zzp, trivial⟩ fun u21 e22 => ?_)))
   show _ = _
   rw [sign_len h13, if_neg (ne_true_of_eq_false hb17), if_pos hb20]
   rfl
  ·replace hb20 : i12.s = false := hb20
   refine zzr (zzo ?_)
   refine sq9 ?_
   refine zza 2 (.v (.int .i64 1)) ?_
   refine zzb 13 [(2, .v (.int .i64 1))] [] ?_
   refine zzn (ret0 [.int .i64 1] ⟨zzp, trivial⟩ fun u23 e24 => ?_)
   show _ = _
   rw [sign_len h13, if_neg (ne_true_of_eq_false hb17), if_neg (ne_true_of_eq_false hb20)]
   rfl
theorem k_riNeg {u w : World} {i1 : IL} {zN : Int} {K : Nat} (d : Dat u w) (hi1 : IntV u i1 zN K) (hK : K ≤ 500000000) : Calls Tryz.prog 106 #[i1.v] w (Post u w fun v u' => ∃ i : IL, v = i.v ∧ IntN u' i (-zN) K) := by
 refine zzl (args := [i1.v]) Tryz.func106 rfl Tryz.ntmps106 (rs := [.cell 2 27]) Tryz.results106 (le_b rfl) (le_b rfl) d ?_
 refine sq9 ?_
 refine zzj 1 ⟨27, i1.cs⟩ ?_
 refine zzj 2 ⟨27, [.bool false, .slice none 0 0]⟩ ?_
 refine zzb 16 [(1, .adr 1 0), (2, .adr 2 0)] [(1, ⟨27, i1.cs⟩), (2, ⟨27, [.bool false, .slice none 0 0]⟩)] ?_
 refine sq9 ?_
 refine zzh 3 (.v (i1.v)) ty27 zzd ?_
 refine zzf 4 107 [i1.v] ?_
 intro w11 u11 e11 d11
 have k16 := k_riTrim d11 (hi1.ext e11) (by omega)
 with_reducible refine Post.mono k16 ?_
 rintro _ u14 g15 ⟨i12, rfl, h13⟩
 refine zzi ⟨27, i12.cs⟩ ty27 ?_
 refine zzb 16 [(1, .adr 1 0), (2, .adr 2 0)] [(1, ⟨27, i12.cs⟩), (2, ⟨27, [.bool false, .slice none 0 0]⟩)] ?_
 refine sq9 ?_
 refine zza 5 (.adr 1 0) ?_
 refine zzh 6 (.v (.bool i12.s)) ty4 zzk ?_
 refine zza 7 (.v (.bool (!i12.s))) ?_
 rcases Bool.eq_false_or_eq_true (!i12.s) with hs17 | hs17
 ·refine zyp 8 (x := .v (.bool (!i12.s))) (.v (.bool true)) (by rw [hs17]) ?_
  refine zza 9 (.adr 1 1) ?_ (hw := w1 3 true 8)
  refine zzh 10 (.v i12.m.v) ty25 zzk ?_ (hw := w1 3 true 8)
  refine zza 11 (.v (.int .i64 (i12.m.n : Int))) ?_ (hw := w1 3 true 8)
  refine zza 12 (.v (.bool (decide ((0 : Int) < (i12.m.n : Int))))) ?_ (hw := w1 3 true 8)
  refine zza 13 (.v (.bool (decide ((0 : Int) < (i12.m.n : Int))))) ?_
  refine zza 14 (.adr 1 0) ?_
  refine zzi ⟨27, [.bool (decide ((0 : Int) < (i12.m.n : Int))), i12.m.v]⟩ ty4 ?_
  refine zzb 16 [(1, .adr 1 0), (2, .adr 2 0)] [(1, ⟨27, [.bool (decide ((0 : Int) < (i12.m.n : Int))), i12.m.v]⟩), (2, ⟨27, [.bool false, .slice none 0 0]⟩)] ?_
  refine sq9 ?_
  refine zzh 15 (.v (.agg #[.bool (decide ((0 : Int) < (i12.m.n : Int))), i12.m.v])) ty27 zzd ?_
  refine zzi ⟨27, [.bool (decide ((0 : Int) < (i12.m.n : Int))), i12.m.v]⟩ ty27 ?_
  refine zzb 16 [(2, .adr 2 0)] [(2, ⟨27, [.bool (decide ((0 : Int) < (i12.m.n : Int))), i12.m.v]⟩)] ?_
  refine zzn (ret0 [.agg #[.bool (decide ((0 : Int) < (i12.m.n : Int))), .slice i12.m.a i12.m.n i12.m.c]] ⟨zzq ty27 zzd, trivial⟩ fun u18 e19 => ?_)
  refine ⟨⟨_, i12.m⟩, rfl, ?_⟩
  have h9 := neg_int (h13.ext e19)
  rw [hs17] at h9
  exact h9
 ·refine zyp 8 (x := .v (.bool (!i12.s))) (.v (.bool false)) (by rw [hs17]) ?_
  refine zzm 9 (uw 3 true false 8) ?_
  refine zzm 10 (uw 3 true false 8) ?_
  refine zzm 11 (uw 3 true false 8) ?_
  refine zzm 12 (uw 3 true false 8) ?_
  refine zza 13 (.v (.bool false)) ?_
  refine zza 14 (.adr 1 0) ?_
  refine zzi ⟨27, [.bool false, i12.m.v]⟩ ty4 ?_
  refine zzb 16 [(1, .adr 1 0), (2, .adr 2 0)] [(1, ⟨27, [.bool false, i12.m.v]⟩), (2, ⟨27, [.bool false, .slice none 0 0]⟩)] ?_
  refine sq9 ?_
  refine zzh 15 (.v (.agg #[.bool false, i12.m.v])) ty27 zzd ?_
  refine zzi ⟨27, [.bool false, i12.m.v]⟩ ty27 ?_
  refine zzb 16 [(2, .adr 2 0)] [(2, ⟨27, [.bool false, i12.m.v]⟩)] ?_
  refine zzn (ret0 [.agg #[.bool false, .slice i12.m.a i12.m.n i12.m.c]] ⟨zzq ty27 zzd, trivial⟩ fun u20 e21 => ?_)
  refine ⟨⟨_, i12.m⟩, rfl, ?_⟩
  have h9 := neg_int (h13.ext e21)
  rw [hs17] at h9
  exact h9
set_option maxHeartbeats 1000000 in
theorem k_riAdd {u w : World} {i1 : IL} {zN : Int} {K : Nat} {i2 : IL} {zM : Int} {L : Nat} (d : Dat u w) (hi1 : IntV u i1 zN K) (hi2 : IntV u i2 zM L) (hK : K ≤ 400000000) (hL : L ≤ 400000000) : Calls Tryz.prog 127 #[i1.v, i2.v] w (Post u w fun v u' => ∃ i : IL, v = i.v ∧ IntN u' i (zN + zM) (max K L + 1)) := by
 refine zzl (args := [i1.v, i2.v]) Tryz.func127 rfl Tryz.ntmps127 (rs := [.cell 4 27]) Tryz.results127 (le_b rfl) (le_b rfl) d ?_
 refine sq9 ?_
 refine zzj 2 ⟨27, i1.cs⟩ ?_
 refine zzj 3 ⟨27, i2.cs⟩ ?_
 refine zzj 4 ⟨27, [.bool false, .slice none 0 0]⟩ ?_
 refine zzb 47 [(2, .adr 2 0), (3, .adr 3 0), (4, .adr 4 0)] [(2, ⟨27, i1.cs⟩), (3, ⟨27, i2.cs⟩), (4, ⟨27, [.bool false, .slice none 0 0]⟩)] ?_
 refine zzc ?_
 refine zzy [0, 1, 0, 7, 15, 31] [(0, []), (2, []), (1, []), (3, []), (4, []), (5, [])] (by kernel_rfl) (by kernel_rfl) ?_
 refine zzh 5 (.v (i1.v)) ty27 zzd ?_
 refine zzh 7 (.v (i2.v)) ty27 zzd ?_
 refine zzf 6 107 [i1.v] ?_
 intro w11 u11 e11 d11
 have k16 := k_riTrim d11 (hi1.ext e11) (by omega)
 with_reducible refine Post.mono k16 ?_
 rintro _ u14 g15 ⟨i12, rfl, h13⟩
 refine zzf 8 107 [i2.v] ?_
 intro w17 u17 e17 d17
 have k22 := k_riTrim d17 (hi2.ext (e11.trans (g15.ext.trans e17))) (by omega)
 with_reducible refine Post.mono k22 ?_
 rintro _ u20 g21 ⟨i18, rfl, h19⟩
 refine zzi ⟨27, i12.cs⟩ ty27 ?_
 refine zzi ⟨27, i18.cs⟩ ty27 ?_
 refine zzb 47 [(2, .adr 2 0), (3, .adr 3 0), (4, .adr 4 0)] [(2, ⟨27, i12.cs⟩), (3, ⟨27, i18.cs⟩), (4, ⟨27, [.bool false, .slice none 0 0]⟩)] ?_
 refine zzc ?_
 refine sq9 ?_
 refine zza 9 (.adr 2 0) ?_
 refine zzh 10 (.v (.bool i12.s)) ty4 zzk ?_
 refine zza 11 (.adr 3 0) ?_
 refine zzh 12 (.v (.bool i18.s)) ty4 zzk ?_
 refine zza 13 (.v (.bool (i12.s == i18.s))) ?_
 refine zzb 47 [(2, .adr 2 0), (3, .adr 3 0), (4, .adr 4 0), (13, .v (.bool (i12.s == i18.s)))] [(2, ⟨27, i12.cs⟩), (3, ⟨27, i18.cs⟩), (4, ⟨27, [.bool false, .slice none 0 0]⟩)] ?_
 refine zzt (b := i12.s == i18.s) (by kernel_rfl) (fun hb23 => ?_) (fun hb23 => ?_)
 ·replace hb23 : (i12.s == i18.s) = true := hb23
  refine zzc ?_
  refine zzy [0, 1, 0, 4, 0, 16, 60, 127, 255, 511] [(0, []), (1, []), (2, []), (3, []), (4, []), (5, []), (6, []), (7, []), (8, []), (9, [])] (by kernel_rfl) (by kernel_rfl) ?_
  refine zza 14 (.adr 2 0) ?_
  refine zzh 15 (.v (.bool i12.s)) ty4 zzk ?_
  refine zza 16 (.adr 2 1) ?_
  refine zzh 17 (.v i12.m.v) ty25 zzk ?_
  refine zza 18 (.adr 3 1) ?_
  refine zzh 19 (.v i18.m.v) ty25 zzk ?_
  refine zzf 20 149 [i12.m.v, i18.m.v] ?_
  intro w24 u24 e24 d24
  have k29 := k_rnAdd d24 ((int_mag h13).ext (e17.trans (g21.ext.trans e24))).raw ((int_mag h19).ext e24).raw (by omega) (by omega)
  with_reducible refine Post.mono k29 ?_
  rintro _ u27 g28 ⟨x25, rfl, h26⟩
  refine zza 21 (.v (.agg #[.bool i12.s, x25.v])) ?_
  refine zzf 22 107 [.agg #[.bool i12.s, x25.v]] ?_
  intro w30 u30 e30 d30
  have k35 := k_riTrim d30 (IntV.same (s := i12.s) (h26.ext e30).raw) (by omega)
  with_reducible refine Post.mono k35 ?_
  rintro _ u33 g34 ⟨i31, rfl, h32⟩
  refine zzi ⟨27, i31.cs⟩ ty27 ?_
  refine zzb 47 [(4, .adr 4 0)] [(4, ⟨27, i31.cs⟩)] ?_
  refine zzn (zzv (ret0 [i31.v] ⟨zzq ty27 zzd, trivial⟩ fun u36 e37 => ?_))
  refine ⟨i31, rfl, IntN.more (K := (max K L + 1)) ?_ (by omega)⟩
  have h9 : zN + zM = (Nt.sg i12.s ((zN : Int).natAbs + (zM : Int).natAbs)) := by
   rw [Nt.sg_add1 _ _ hb23]
   rw [← IntN.sg h13, ← IntN.sg h19]
  rw [h9]
  exact (h32.ext e37)
 ·replace hb23 : (i12.s == i18.s) = false := hb23
  refine zzr (zzo ?_)
  refine zzc ?_
  refine sq9 ?_
  refine zza 23 (.adr 2 1) ?_
  refine zzh 24 (.v i12.m.v) ty25 zzk ?_
  refine zza 25 (.adr 3 1) ?_
  refine zzh 26 (.v i18.m.v) ty25 zzk ?_
  refine zzf 27 170 [i12.m.v, i18.m.v] ?_
  intro w38 u38 e38 d38
  have k41 := k_rnCompare d38 ((int_mag h13).ext (e17.trans (g21.ext.trans e38))).raw ((int_mag h19).ext e38).raw (by omega) (by omega)
  with_reducible refine Post.mono k41 ?_
  rintro _ u39 g40 rfl
  refine zza 28 (.v (.bool (decide ((0 : Int) ≤ (Nt.cmpS ((zN : Int).natAbs) ((zM : Int).natAbs)))))) ?_
  refine zzb 47 [(2, .adr 2 0), (3, .adr 3 0), (4, .adr 4 0), (28, .v (.bool (decide ((0 : Int) ≤ (Nt.cmpS ((zN : Int).natAbs) ((zM : Int).natAbs))))))] [(2, ⟨27, i12.cs⟩), (3, ⟨27, i18.cs⟩), (4, ⟨27, [.bool false, .slice none 0 0]⟩)] ?_
  refine zzt (b := decide ((0 : Int) ≤ (Nt.cmpS ((zN : Int).natAbs) ((zM : Int).natAbs)))) (by kernel_rfl) (fun hb42 => ?_) (fun hb42 => ?_)
  ·replace hb42 : (decide ((0 : Int) ≤ (Nt.cmpS ((zN : Int).natAbs) ((zM : Int).natAbs)))) = true := hb42
   have qhb42 := of_decide_eq_true hb42
   refine zzc ?_
   refine zzy [0, 1, 0, 4, 0, 16, 60, 127, 255, 511] [(0, []), (1, []), (2, []), (3, []), (4, []), (5, []), (6, []), (7, []), (8, []), (9, [])] (by kernel_rfl) (by kernel_rfl) ?_
   refine zza 29 (.adr 2 0) ?_
   refine zzh 30 (.v (.bool i12.s)) ty4 zzk ?_
   refine zza 31 (.adr 2 1) ?_
   refine zzh 32 (.v i12.m.v) ty25 zzk ?_
   refine zza 33 (.adr 3 1) ?_
   refine zzh 34 (.v i18.m.v) ty25 zzk ?_
   refine zzf 35 150 [i12.m.v, i18.m.v] ?_
   intro w43 u43 e43 d43
   have k48 := k_rnSub d43 ((int_mag h13).ext (e17.trans (g21.ext.trans (e38.trans (g40.ext.trans e43))))).raw ((int_mag h19).ext (e38.trans (g40.ext.trans e43))).raw (by omega) (by omega)
   with_reducible refine Post.mono k48 ?_
   rintro _ u46 g47 ⟨x44, rfl, h45⟩
   refine zza 36 (.v (.agg #[.bool i12.s, x44.v])) ?_
   refine zzf 37 107 [.agg #[.bool i12.s, x44.v]] ?_
   intro w49 u49 e49 d49
   have k54 := k_riTrim d49 (IntV.same (s := i12.s) (h45.ext e49).raw) (by omega)
   with_reducible refine Post.mono k54 ?_
   rintro _ u52 g53 ⟨i50, rfl, h51⟩
   refine zzi ⟨27, i50.cs⟩ ty27 ?_
   refine zzb 47 [(4, .adr 4 0)] [(4, ⟨27, i50.cs⟩)] ?_
   refine zzn (zzv (ret0 [i50.v] ⟨zzq ty27 zzd, trivial⟩ fun u55 e56 => ?_))
   refine ⟨i50, rfl, IntN.more (K := K) ?_ (by omega)⟩
   have h9 : zN + zM = (Nt.sg i12.s ((zN : Int).natAbs - (zM : Int).natAbs)) := by
    rw [Nt.sg_add4 _ _ hb23 hb42]
    rw [← IntN.sg h13, ← IntN.sg h19]
   rw [h9]
   exact (h51.ext e56)
  ·replace hb42 : (decide ((0 : Int) ≤ (Nt.cmpS ((zN : Int).natAbs) ((zM : Int).natAbs)))) = false := hb42
   have qhb42 := of_decide_eq_false hb42
   refine zzr (zzo ?_)
   refine zzc ?_
   refine zzy [0, 1, 0, 4, 0, 16, 60, 127, 255, 511] [(0, []), (1, []), (2, []), (3, []), (4, []), (5, []), (6, []), (7, []), (8, []), (9, [])] (by kernel_rfl) (by kernel_rfl) ?_
   refine zza 38 (.adr 3 0) ?_
   refine zzh 39 (.v (.bool i18.s)) ty4 zzk ?_
   refine zza 40 (.adr 3 1) ?_
   refine zzh 41 (.v i18.m.v) ty25 zzk ?_
   refine zza 42 (.adr 2 1) ?_
   refine zzh 43 (.v i12.m.v) ty25 zzk ?_
   refine zzf 44 150 [i18.m.v, i12.m.v] ?_
   intro w57 u57 e57 d57
   have k62 := k_rnSub d57 ((int_mag h19).ext (e38.trans (g40.ext.trans e57))).raw ((int_mag h13).ext (e17.trans (g21.ext.trans (e38.trans (g40.ext.trans e57))))).raw (by omega) (by omega)
   with_reducible refine Post.mono k62 ?_
   rintro _ u60 g61 ⟨x58, rfl, h59⟩
   refine zza 45 (.v (.agg #[.bool i18.s, x58.v])) ?_
   refine zzf 46 107 [.agg #[.bool i18.s, x58.v]] ?_
   intro w63 u63 e63 d63
   have k68 := k_riTrim d63 (IntV.same (s := i18.s) (h59.ext e63).raw) (by omega)
   with_reducible refine Post.mono k68 ?_
   rintro _ u66 g67 ⟨i64, rfl, h65⟩
   refine zzi ⟨27, i64.cs⟩ ty27 ?_
   refine zzb 47 [(4, .adr 4 0)] [(4, ⟨27, i64.cs⟩)] ?_
   refine zzn (ret0 [i64.v] ⟨zzq ty27 zzd, trivial⟩ fun u69 e70 => ?_)
   refine ⟨i64, rfl, IntN.more (K := L) ?_ (by omega)⟩
   have h9 : zN + zM = (Nt.sg i18.s ((zM : Int).natAbs - (zN : Int).natAbs)) := by
    rw [Nt.sg_add5 _ _ hb23 hb42]
    rw [← IntN.sg h13, ← IntN.sg h19]
   rw [h9]
   exact (h65.ext e70)
theorem k_riMul {u w : World} {i1 : IL} {zN : Int} {K : Nat} {i2 : IL} {zM : Int} {L : Nat} (d : Dat u w) (hi1 : IntV u i1 zN K) (hi2 : IntV u i2 zM L) (hK : K ≤ 250000000) (hL : L ≤ 250000000) : Calls Tryz.prog 123 #[i1.v, i2.v] w (Post u w fun v u' => ∃ i : IL, v = i.v ∧ IntN u' i (zN * zM) (K + L)) := by
 obtain ⟨N, hN, hzN⟩ := hi1
 obtain ⟨M, hM, hzM⟩ := hi2
 refine zzl (args := [i1.v, i2.v]) Tryz.func123 rfl Tryz.ntmps123 (rs := [.cell 4 27]) Tryz.results123 (le_b rfl) (le_b rfl) d ?_
 refine sq9 ?_
 refine zzj 2 ⟨27, i1.cs⟩ ?_
 refine zzj 3 ⟨27, i2.cs⟩ ?_
 refine zzj 4 ⟨27, [.bool false, .slice none 0 0]⟩ ?_
 refine zzb 17 [(2, .adr 2 0), (3, .adr 3 0), (4, .adr 4 0)] [(2, ⟨27, i1.cs⟩), (3, ⟨27, i2.cs⟩), (4, ⟨27, [.bool false, .slice none 0 0]⟩)] ?_
 refine zzc ?_
 refine zzy [0, 1, 0, 4, 15, 0, 32, 0, 128, 480, 1023, 2047, 4095] [(0, []), (1, []), (2, []), (3, []), (4, []), (5, []), (6, []), (7, []), (8, []), (9, []), (10, []), (11, []), (12, [])] (by kernel_rfl) (by kernel_rfl) ?_
 refine zza 5 (.adr 2 0) ?_
 refine zzh 6 (.v (.bool i1.s)) ty4 zzk ?_
 refine zza 7 (.adr 3 0) ?_
 refine zzh 8 (.v (.bool i2.s)) ty4 zzk ?_
 refine zza 9 (.v (.bool (!(i1.s == i2.s)))) ?_
 refine zza 10 (.adr 2 1) ?_
 refine zzh 11 (.v i1.m.v) ty25 zzk ?_
 refine zza 12 (.adr 3 1) ?_
 refine zzh 13 (.v i2.m.v) ty25 zzk ?_
 refine zzf 14 168 [i1.m.v, i2.m.v] ?_
 intro w11 u11 e11 d11
 have k16 := k_rnMul d11 (hN.ext e11) (hM.ext e11) (by omega) (by omega)
 with_reducible refine Post.mono k16 ?_
 rintro _ u14 g15 ⟨x12, rfl, h13⟩
 refine zza 15 (.v (.agg #[.bool (!(i1.s == i2.s)), x12.v])) ?_
 refine zzf 16 107 [.agg #[.bool (!(i1.s == i2.s)), x12.v]] ?_
 intro w17 u17 e17 d17
 have k22 := k_riTrim d17 (IntV.same (s := !(i1.s == i2.s)) (h13.ext e17).raw) (by omega)
 with_reducible refine Post.mono k22 ?_
 rintro _ u20 g21 ⟨i18, rfl, h19⟩
 refine zzi ⟨27, i18.cs⟩ ty27 ?_
 refine zzb 17 [(4, .adr 4 0)] [(4, ⟨27, i18.cs⟩)] ?_
 refine zzn (ret0 [i18.v] ⟨zzq ty27 zzd, trivial⟩ fun u23 e24 => ?_)
 refine ⟨i18, rfl, IntN.more (K := (K + L)) ?_ (by omega)⟩
 rw [hzN, hzM, ← Nt.sg_mul]
 exact (h19.ext e24)
theorem k_riGcd {u w : World} {i1 : IL} {zN : Int} {K : Nat} {i2 : IL} {zM : Int} {L : Nat} (d : Dat u w) (hi1 : IntV u i1 zN K) (hi2 : IntV u i2 zM L) (hK : K ≤ 500000000) (hL : L ≤ 500000000) : Calls Tryz.prog 104 #[i1.v, i2.v] w (Post u w fun v u' => ∃ i : IL, v = i.v ∧ IntN u' i (Nat.gcd zN.natAbs zM.natAbs : Int) (max K L)) := by
 refine zzl (args := [i1.v, i2.v]) Tryz.func104 rfl Tryz.ntmps104 (rs := [.cell 4 27]) Tryz.results104 (le_b rfl) (le_b rfl) d ?_
 refine sq9 ?_
 refine zzj 2 ⟨27, i1.cs⟩ ?_
 refine zzj 3 ⟨27, i2.cs⟩ ?_
 refine zzj 4 ⟨27, [.bool false, .slice none 0 0]⟩ ?_
 refine zzb 11 [(2, .adr 2 0), (3, .adr 3 0), (4, .adr 4 0)] [(2, ⟨27, i1.cs⟩), (3, ⟨27, i2.cs⟩), (4, ⟨27, [.bool false, .slice none 0 0]⟩)] ?_
 refine sq9 ?_
 refine zza 5 (.adr 2 1) ?_
 refine zzh 6 (.v i1.m.v) ty25 zzk ?_
 refine zza 7 (.adr 3 1) ?_
 refine zzh 8 (.v i2.m.v) ty25 zzk ?_
 refine zzf 9 147 [i1.m.v, i2.m.v] ?_
 intro w11 u11 e11 d11
 have k16 := k_rnGcd d11 ((IntV.abs hi1).ext e11) ((IntV.abs hi2).ext e11) (by omega) (by omega)
 with_reducible refine Post.mono k16 ?_
 rintro _ u14 g15 ⟨x12, rfl, h13⟩
 refine zza 10 (.v (.agg #[.bool false, x12.v])) ?_
 refine zzi ⟨27, [.bool false, x12.v]⟩ ty27 ?_
 refine zzb 11 [(4, .adr 4 0)] [(4, ⟨27, [.bool false, x12.v]⟩)] ?_
 refine zzn (ret0 [.agg #[.bool false, .slice x12.a x12.n x12.c]] ⟨zzq ty27 zzd, trivial⟩ fun u17 e18 => ?_)
 exact ⟨(⟨false, x12⟩ : IL), rfl, (nat_intN (h13.ext e18))⟩
theorem k_riSame {u w : World} {i1 i2 : IL} {z z' : Int} {K L : Nat} (d : Dat u w) (hi1 : IntN u i1 z K) (hi2 : IntN u i2 z' L) : Calls Tryz.prog 194 #[i1.v, i2.v] w (Post u w fun v _ => v = .bool (decide (z = z'))) := by
 refine zzl (args := [i1.v, i2.v]) Tryz.func194 rfl Tryz.ntmps194 (rs := [.tmp 4]) Tryz.results194 (le_b rfl) (le_b rfl) d ?_
 refine sq9 ?_
 refine zzj 2 ⟨27, i1.cs⟩ ?_
 refine zzj 3 ⟨27, i2.cs⟩ ?_
 refine zza 4 (.v (.bool false)) ?_
 refine zzb 17 [(2, .adr 2 0), (3, .adr 3 0)] [(2, ⟨27, i1.cs⟩), (3, ⟨27, i2.cs⟩)] ?_
 refine sq9 ?_
 refine zza 5 (.adr 2 0) ?_
 refine zzh 6 (.v (.bool i1.s)) ty4 zzk ?_
 refine zza 7 (.adr 3 0) ?_
 refine zzh 8 (.v (.bool i2.s)) ty4 zzk ?_
 refine zza 9 (.v (.bool (i1.s == i2.s))) ?_
 rcases Bool.eq_false_or_eq_true (i1.s == i2.s) with hs11 | hs11
 ·refine zyp 10 (x := .v (.bool (i1.s == i2.s))) (.v (.bool true)) (by rw [hs11]) ?_
  refine zza 11 (.adr 2 1) ?_ (hw := w1 5 true 10)
  refine zzh 12 (.v i1.m.v) ty25 zzk ?_ (hw := w1 5 true 10)
  refine zza 13 (.adr 3 1) ?_ (hw := w1 5 true 10)
  refine zzh 14 (.v i2.m.v) ty25 zzk ?_ (hw := w1 5 true 10)
  refine zzf 15 195 [i1.m.v, i2.m.v] ?_ (hw := w1 5 true 10)
  intro w12 u12 e12 d12
  have k15 := k_rnSame d12 ((int_mag hi1).ext e12) ((int_mag hi2).ext e12)
  with_reducible refine Post.mono k15 ?_
  rintro _ u13 g14 rfl
  refine zza 16 (.v (.bool (decide ((z : Int).natAbs = (z' : Int).natAbs)))) ?_
  refine zza 4 (.v (.bool (decide ((z : Int).natAbs = (z' : Int).natAbs)))) ?_
  refine zzb 17 [(4, .v (.bool (decide ((z : Int).natAbs = (z' : Int).natAbs))))] [] ?_
  refine zzn (ret0 [.bool (decide ((z : Int).natAbs = (z' : Int).natAbs))] ⟨zzp, trivial⟩ fun u16 e17 => ?_)
  show _ = _
  rw [← same_int hi1 hi2, hs11]
  rfl
 ·refine zyp 10 (x := .v (.bool (i1.s == i2.s))) (.v (.bool false)) (by rw [hs11]) ?_
  refine zzm 11 (uw 5 true false 10) ?_
  refine zzm 12 (uw 5 true false 10) ?_
  refine zzm 13 (uw 5 true false 10) ?_
  refine zzm 14 (uw 5 true false 10) ?_
  refine zzm 15 (uw 5 true false 10) ?_
  refine zza 16 (.v (.bool false)) ?_
  refine zza 4 (.v (.bool false)) ?_
  refine zzb 17 [(4, .v (.bool false))] [] ?_
  refine zzn (ret0 [.bool false] ⟨zzp, trivial⟩ fun u18 e19 => ?_)
  show _ = _
  rw [← same_int hi1 hi2, hs11]
  rfl
theorem k_riOf {u w : World} {z : Int} (d : Dat u w) (h0 : -9223372036854775808 ≤ z) (h1 : z ≤ 9223372036854775807) : Calls Tryz.prog 44 #[.int .i64 z] w (Post u w fun v u' => ∃ i : IL, v = i.v ∧ IntN u' i z 2) := by
 by_cases hneg : z < 0
 ·refine zzl (args := [.int .i64 z]) Tryz.func44 rfl Tryz.ntmps44 (rs := [.cell 2 27]) Tryz.results44 (le_b rfl) (le_b rfl) d ?_
  refine sq9 ?_
  refine zzj 2 ⟨27, [.bool false, .slice none 0 0]⟩ ?_
  refine zzb 28 [(0, .v (.int .i64 z)), (2, .adr 2 0)] [(2, ⟨27, [.bool false, .slice none 0 0]⟩)] ?_
  refine zzc ?_
  refine sq9 ?_
  refine zza 4 (.v (.int .i64 z)) ?_
  refine zyp 5 (x := .v (.bool (decide (z < 0)))) (.v (.bool true)) (by rw [show (decide (z < 0)) = true from (by simp; omega)]) ?_
  refine zzb 28 [(0, .v (.int .i64 z)), (2, .adr 2 0), (5, .v (.bool true))] [(2, ⟨27, [.bool false, .slice none 0 0]⟩)] ?_
  refine zyq (by kernel_rfl) ?_
  refine sq9 ?_
  refine zza 6 (.v (.int .i64 z)) ?_
  refine zyp 7 (x := .v (.int .i64 (IntKind.i64.wrap (z + 1)))) (.v (.int .i64 (z + 1))) (by rw [show (IntKind.i64.wrap (z + 1)) = (z + 1) from (IntWalk.i64_in _ (by omega))]) ?_
  refine zyp 8 (x := .v (.int .i64 (IntKind.i64.wrap (0 - (z + 1))))) (.v (.int .i64 (-z - 1))) (by rw [show (IntKind.i64.wrap (0 - (z + 1))) = (-z - 1) from (by rw [IntWalk.i64_in _ (by omega)]; omega)]) ?_
  refine zyp 9 (x := .v (.int .u64 (IntKind.u64.wrap (-z - 1)))) (.v (.int .u64 (-z - 1))) (by rw [show (IntKind.u64.wrap (-z - 1)) = (-z - 1) from (IntWalk.u64_in _ (by omega))]) ?_
  refine zyp 10 (x := .v (.int .u64 (IntKind.u64.wrap (-z - 1 + 1)))) (.v (.int .u64 (-z))) (by rw [show (IntKind.u64.wrap (-z - 1 + 1)) = (-z) from (by rw [IntWalk.u64_in _ (by omega)]; omega)]) ?_
  refine zza 3 (.v (.int .u64 (-z))) ?_
  refine zzb 28 [(2, .adr 2 0), (3, .v (.int .u64 (-z)))] [(2, ⟨27, [.bool false, .slice none 0 0]⟩)] ?_
  refine sq9 ?_
  refine zza 11 (.v (.int .u64 (-z))) ?_
  refine zyp 12 (x := .v (.int .u32 (IntKind.u32.wrap (-z)))) (.v (.int .u32 ((-z) % 4294967296))) (by rw [show (IntKind.u32.wrap (-z)) = ((-z) % 4294967296) from (IntKind.wrap_u32 _)]) ?_
  refine zza 13 (.v (.int .u64 (-z))) ?_
  refine zyp 14 (x := .v (.int .u64 (Int.fdiv (-z) (2 ^ 32)))) (.v (.int .u64 ((-z) / 4294967296))) (by rw [show (Int.fdiv (-z) (2 ^ 32)) = ((-z) / 4294967296) from (by rw [Int.fdiv_eq_ediv_of_nonneg _ (by decide)]; rfl)]) ?_
  refine zyp 15 (x := .v (.int .u32 (IntKind.u32.wrap ((-z) / 4294967296)))) (.v (.int .u32 ((-z) / 4294967296))) (by rw [show (IntKind.u32.wrap ((-z) / 4294967296)) = ((-z) / 4294967296) from (IntWalk.u32_in _ (by omega))]) ?_
  refine sy_data 16 ⟨102, [.int .u32 ((-z) % 4294967296), .int .u32 ((-z) / 4294967296)]⟩ 2 (fun b11 u12 e13 h14 => ?_)
  refine zza 17 (.v (.agg #[.bool true, .slice (some ⟨b11, 0, none⟩) 2 2])) ?_
  refine zzf 18 107 [.agg #[.bool true, .slice (some ⟨b11, 0, none⟩) 2 2]] ?_
  intro w15 u15 e15 d15
  have k20 := k_riTrim d15 (IntV.same (s := true) ((two_data (N := z.natAbs) h14 (by omega) (by omega) (by omega)).ext e15)) (by omega)
  with_reducible refine Post.mono k20 ?_
  rintro _ u18 g19 ⟨i16, rfl, h17⟩
  refine zzi ⟨27, i16.cs⟩ ty27 ?_
  refine zzb 28 [(2, .adr 2 0)] [(2, ⟨27, i16.cs⟩)] ?_
  refine zzn (zzv (ret0 [i16.v] ⟨zzq ty27 zzd, trivial⟩ fun u21 e22 => ?_))
  refine ⟨i16, rfl, IntN.more (K := 2) ?_ (by omega)⟩
  have e : z = Nt.sg true z.natAbs := by unfold Nt.sg; simp; omega
  rw [e]
  exact (h17.ext e22)
 ·refine zzl (args := [.int .i64 z]) Tryz.func44 rfl Tryz.ntmps44 (rs := [.cell 2 27]) Tryz.results44 (le_b rfl) (le_b rfl) d ?_
  refine sq9 ?_
  refine zzj 2 ⟨27, [.bool false, .slice none 0 0]⟩ ?_
  refine zzb 28 [(0, .v (.int .i64 z)), (2, .adr 2 0)] [(2, ⟨27, [.bool false, .slice none 0 0]⟩)] ?_
  refine zzc ?_
  refine sq9 ?_
  refine zza 4 (.v (.int .i64 z)) ?_
  refine zyp 5 (x := .v (.bool (decide (z < 0)))) (.v (.bool false)) (by rw [show (decide (z < 0)) = false from (by simp; omega)]) ?_
  refine zzb 28 [(0, .v (.int .i64 z)), (2, .adr 2 0), (5, .v (.bool false))] [(2, ⟨27, [.bool false, .slice none 0 0]⟩)] ?_
  refine zyr (by kernel_rfl) ?_
  refine zzr (zzo ?_)
  refine sq9 ?_
  refine zza 19 (.v (.int .i64 z)) ?_
  refine zyp 20 (x := .v (.int .u32 (IntKind.u32.wrap z))) (.v (.int .u32 (z % 4294967296))) (by rw [show (IntKind.u32.wrap z) = (z % 4294967296) from (IntKind.wrap_u32 _)]) ?_
  refine zza 21 (.v (.int .i64 z)) ?_
  refine zyp 22 (x := .v (.int .u64 (IntKind.u64.wrap z))) (.v (.int .u64 (z))) (by rw [show (IntKind.u64.wrap z) = z from (IntWalk.u64_in _ (by omega))]) ?_
  refine zyp 23 (x := .v (.int .u64 (Int.fdiv z (2 ^ 32)))) (.v (.int .u64 (z / 4294967296))) (by rw [show (Int.fdiv z (2 ^ 32)) = (z / 4294967296) from (by rw [Int.fdiv_eq_ediv_of_nonneg _ (by decide)]; rfl)]) ?_
  refine zyp 24 (x := .v (.int .u32 (IntKind.u32.wrap (z / 4294967296)))) (.v (.int .u32 (z / 4294967296))) (by rw [show (IntKind.u32.wrap (z / 4294967296)) = (z / 4294967296) from (IntWalk.u32_in _ (by omega))]) ?_
  refine sy_data 25 ⟨102, [.int .u32 (z % 4294967296), .int .u32 (z / 4294967296)]⟩ 2 (fun b11 u12 e13 h14 => ?_)
  refine zza 26 (.v (.agg #[.bool false, .slice (some ⟨b11, 0, none⟩) 2 2])) ?_
  refine zzf 27 107 [.agg #[.bool false, .slice (some ⟨b11, 0, none⟩) 2 2]] ?_
  intro w15 u15 e15 d15
  have k20 := k_riTrim d15 (nat_int ((two_data (N := z.natAbs) h14 (by omega) (by omega) (by omega)).ext e15)) (by omega)
  with_reducible refine Post.mono k20 ?_
  rintro _ u18 g19 ⟨i16, rfl, h17⟩
  refine zzi ⟨27, i16.cs⟩ ty27 ?_
  refine zzb 28 [(2, .adr 2 0)] [(2, ⟨27, i16.cs⟩)] ?_
  refine zzn (ret0 [i16.v] ⟨zzq ty27 zzd, trivial⟩ fun u21 e22 => ?_)
  refine ⟨i16, rfl, IntN.more (K := 2) ?_ (by omega)⟩
  have e : z = Nt.sg false z.natAbs := by unfold Nt.sg; simp; omega
  rw [e]
  exact (h17.ext e22)
set_option maxHeartbeats 2000000 in
theorem k_riDiv {u w : World} {i1 : IL} {zN : Int} {K : Nat} {i2 : IL} {zM : Int} {L : Nat} (d : Dat u w) (hi1 : IntV u i1 zN K) (hi2 : IntV u i2 zM L) (hM0 : zM ≠ 0) (hK : K ≤ 400000000) (hL : L ≤ 400000000) : Calls Tryz.prog 105 #[i1.v, i2.v] w (Post u w fun v u' => ∃ i j : IL, v = .tuple #[i.v, j.v, .int .i64 0] ∧ IntN u' i (zN / zM) (K + 1) ∧ IntN u' j (zN % zM) L) := by
 have hM : 0 < zM.natAbs := Int.natAbs_pos.2 hM0
 have hL1 : 1 ≤ L := by have h2 := hi2.size; have h3 := Nt.dl_mono (x := zM.natAbs) (y := 1) (by omega); rw [Nt.dl_one] at h3; omega
 refine zzl (args := [i1.v, i2.v]) Tryz.func105 rfl Tryz.ntmps105 (rs := [.cell 4 27, .cell 5 27, .tmp 6]) Tryz.results105 (le_b rfl) (le_b rfl) d ?_
 refine sq9 ?_
 refine zzj 2 ⟨27, i1.cs⟩ ?_
 refine zzj 3 ⟨27, i2.cs⟩ ?_
 refine zzj 4 ⟨27, [.bool false, .slice none 0 0]⟩ ?_
 refine zzj 5 ⟨27, [.bool false, .slice none 0 0]⟩ ?_
 refine zza 6 (.v (.int .i64 0)) ?_
 refine zzb 52 [(2, .adr 2 0), (3, .adr 3 0), (4, .adr 4 0), (5, .adr 5 0)] [(2, ⟨27, i1.cs⟩), (3, ⟨27, i2.cs⟩), (4, ⟨27, [.bool false, .slice none 0 0]⟩), (5, ⟨27, [.bool false, .slice none 0 0]⟩)] ?_
 refine zzc ?_
 refine zzy [0, 1, 0, 7, 15, 31] [(0, []), (2, []), (1, []), (3, []), (4, []), (5, [])] (by kernel_rfl) (by kernel_rfl) ?_
 refine zzh 10 (.v (i1.v)) ty27 zzd ?_
 refine zzh 12 (.v (i2.v)) ty27 zzd ?_
 refine zzf 11 107 [i1.v] ?_
 intro w11 u11 e11 d11
 have k16 := k_riTrim d11 (hi1.ext e11) (by omega)
 with_reducible refine Post.mono k16 ?_
 rintro _ u14 g15 ⟨i12, rfl, h13⟩
 refine zzf 13 107 [i2.v] ?_
 intro w17 u17 e17 d17
 have k22 := k_riTrim d17 (hi2.ext (e11.trans (g15.ext.trans e17))) (by omega)
 with_reducible refine Post.mono k22 ?_
 rintro _ u20 g21 ⟨i18, rfl, h19⟩
 refine zzi ⟨27, i12.cs⟩ ty27 ?_
 refine zzi ⟨27, i18.cs⟩ ty27 ?_
 refine zzb 52 [(2, .adr 2 0), (3, .adr 3 0), (4, .adr 4 0), (5, .adr 5 0)] [(2, ⟨27, i12.cs⟩), (3, ⟨27, i18.cs⟩), (4, ⟨27, [.bool false, .slice none 0 0]⟩), (5, ⟨27, [.bool false, .slice none 0 0]⟩)] ?_
 refine sq9 ?_
 refine zza 15 (.adr 2 1) ?_
 refine zzh 16 (.v i12.m.v) ty25 zzk ?_
 refine zza 17 (.adr 3 1) ?_
 refine zzh 18 (.v i18.m.v) ty25 zzk ?_
 refine zzf 19 148 [i12.m.v, i18.m.v] ?_
 intro w23 u23 e23 d23
 have k30 := k_rnDivMod d23 ((int_mag h13).ext (e17.trans (g21.ext.trans e23))).raw ((int_mag h19).ext e23).raw hM (by omega) (by omega)
 with_reducible refine Post.mono k30 ?_
 rintro _ u28 g29 ⟨x24, x25, rfl, h26, h27⟩
 refine zza 14 (.v (.tuple #[x24.v, x25.v, .int .i64 0])) ?_
 refine zza 20 (.v x24.v) ?_
 refine zza 21 (.v x25.v) ?_
 refine zza 22 (.v (.int .i64 0)) ?_
 refine zza 7 (.v x24.v) ?_
 refine zza 8 (.v x25.v) ?_
 refine zza 9 (.v (.int .i64 0)) ?_
 refine zzb 52 [(2, .adr 2 0), (3, .adr 3 0), (4, .adr 4 0), (5, .adr 5 0), (7, .v x24.v), (8, .v x25.v), (9, .v (.int .i64 0))] [(2, ⟨27, i12.cs⟩), (3, ⟨27, i18.cs⟩), (4, ⟨27, [.bool false, .slice none 0 0]⟩), (5, ⟨27, [.bool false, .slice none 0 0]⟩)] ?_
 refine zzc ?_
 refine sq9 ?_
 refine zza 23 (.v (.int .i64 0)) ?_
 refine zza 24 (.v (.bool false)) ?_
 refine zzb 52 [(2, .adr 2 0), (3, .adr 3 0), (4, .adr 4 0), (5, .adr 5 0), (7, .v x24.v), (8, .v x25.v), (9, .v (.int .i64 0)), (24, .v (.bool false))] [(2, ⟨27, i12.cs⟩), (3, ⟨27, i18.cs⟩), (4, ⟨27, [.bool false, .slice none 0 0]⟩), (5, ⟨27, [.bool false, .slice none 0 0]⟩)] ?_
 refine zyr (by kernel_rfl) ?_
 refine zzr (zzo ?_)
 refine zzc ?_
 refine sq9 ?_
 refine zza 28 (.adr 2 0) ?_
 refine zzh 29 (.v (.bool i12.s)) ty4 zzk ?_
 rcases Bool.eq_false_or_eq_true i12.s with hs31 | hs31
 ·refine zyp 30 (x := .v (.bool i12.s)) (.v (.bool true)) (by rw [hs31]) ?_
  refine zza 31 (.v x25.v) ?_ (hw := w1 2 true 30)
  refine zza 32 (.v (.int .i64 (x25.n : Int))) ?_ (hw := w1 2 true 30)
  refine zza 33 (.v (.bool (decide ((0 : Int) < (x25.n : Int))))) ?_ (hw := w1 2 true 30)
  refine zza 34 (.v (.bool (decide ((0 : Int) < (x25.n : Int))))) ?_
  refine zzb 52 [(2, .adr 2 0), (3, .adr 3 0), (4, .adr 4 0), (5, .adr 5 0), (7, .v x24.v), (8, .v x25.v), (34, .v (.bool (decide ((0 : Int) < (x25.n : Int)))))] [(2, ⟨27, i12.cs⟩), (3, ⟨27, i18.cs⟩), (4, ⟨27, [.bool false, .slice none 0 0]⟩), (5, ⟨27, [.bool false, .slice none 0 0]⟩)] ?_
  refine zzt (b := decide ((0 : Int) < (x25.n : Int))) (by kernel_rfl) (fun hb32 => ?_) (fun hb32 => ?_)
  ·replace hb32 : (decide ((0 : Int) < (x25.n : Int))) = true := hb32
   have qhb32 := of_decide_eq_true hb32
   refine zzy [0, 0, 3, 0, 8, 0, 63, 127, 255] [(0, []), (1, []), (3, []), (4, []), (5, []), (2, [36]), (6, []), (7, []), (8, [])] (by kernel_rfl) (by kernel_rfl) ?_
   refine zza 35 (.v x24.v) ?_
   refine sy_lit 36 ⟨102, [.int .u32 1]⟩ 1 ?_
   refine zza 38 (.adr 3 1) ?_
   refine zzh 39 (.v i18.m.v) ty25 zzk ?_
   refine zza 40 (.v x25.v) ?_
   refine zyn 37 149 [.v x24.v, .slc 36 0 1 1] [36] (.inr rfl) (pub_mk (by repeat first | exact noAt_of | refine zyc ?_ | refine zye ?_ | refine zyd ?_ | refine zzx ?_ | refine zya ?_)) (k := ?_)
   intro B33 w33 u33 e33 d33 v33
   have h35 : u33.heap[B33 36]? = some (.cells #[.int .u32 1] 102 (0, 0)) := v33 36 (by simp) _ rfl
   obtain ⟨b34, hBb34⟩ : ∃ b, B33 36 = b := ⟨_, rfl⟩
   rw [hBb34] at h35
   show Calls _ _ #[.slice x24.a x24.n x24.c, .slice (some ⟨B33 36, 0, none⟩) 1 1] _ _
   rw [hBb34]
   have k40 := k_rnAdd d33 (h26.ext e33).raw (one_data h35).raw (by omega) (by omega)
   with_reducible refine Post.mono k40 ?_
   rintro _ u38 g39 ⟨x36, rfl, h37⟩
   refine zzf 41 150 [i18.m.v, x25.v] ?_
   intro w41 u41 e41 d41
   have k46 := k_rnSub d41 ((int_mag h19).ext (e23.trans (g29.ext.trans (e33.trans (g39.ext.trans e41))))).raw (h27.ext (e33.trans (g39.ext.trans e41))).raw (by omega) (by omega)
   with_reducible refine Post.mono k46 ?_
   rintro _ u44 g45 ⟨x42, rfl, h43⟩
   refine zza 7 (.v x36.v) ?_
   refine zza 8 (.v x42.v) ?_
   refine zzb 52 [(2, .adr 2 0), (3, .adr 3 0), (4, .adr 4 0), (5, .adr 5 0), (7, .v x36.v), (8, .v x42.v)] [(2, ⟨27, i12.cs⟩), (3, ⟨27, i18.cs⟩), (4, ⟨27, [.bool false, .slice none 0 0]⟩), (5, ⟨27, [.bool false, .slice none 0 0]⟩)] ?_
   refine sq9 ?_
   refine zza 42 (.adr 2 0) ?_
   refine zzh 43 (.v (.bool i12.s)) ty4 zzk ?_
   refine zza 44 (.adr 3 0) ?_
   refine zzh 45 (.v (.bool i18.s)) ty4 zzk ?_
   refine zza 46 (.v (.bool (!(i12.s == i18.s)))) ?_
   refine zza 47 (.v x36.v) ?_
   refine zza 48 (.v (.agg #[.bool (!(i12.s == i18.s)), x36.v])) ?_
   refine zzf 49 107 [.agg #[.bool (!(i12.s == i18.s)), x36.v]] ?_
   intro w47 u47 e47 d47
   have k52 := k_riTrim d47 (IntV.same (s := !(i12.s == i18.s)) (h37.ext (e41.trans (g45.ext.trans e47))).raw) (by omega)
   with_reducible refine Post.mono k52 ?_
   rintro _ u50 g51 ⟨i48, rfl, h49⟩
   refine zza 50 (.v x42.v) ?_
   refine zza 51 (.v (.agg #[.bool false, x42.v])) ?_
   refine zzi ⟨27, i48.cs⟩ ty27 ?_
   refine zzi ⟨27, [.bool false, x42.v]⟩ ty27 ?_
   refine zza 6 (.v (.int .i64 0)) ?_
   refine zzb 52 [(4, .adr 4 0), (5, .adr 5 0), (6, .v (.int .i64 0))] [(4, ⟨27, i48.cs⟩), (5, ⟨27, [.bool false, x42.v]⟩)] ?_
   refine zzn (ret0 [i48.v, .agg #[.bool false, .slice x42.a x42.n x42.c], .int .i64 0] ⟨zzq ty27 zzd, zzq ty27 zzd, zzp, trivial⟩ fun u53 e54 => ?_)
   have hs := h13.1
   have ht := h19.1
   have hr := h27.pos
   have qhs31 := hs31
   have qhb32 := hb32
   have key := Nt.ediv_neg' zN zM rfl rfl hM (by rw [hs] at hs31; simpa using hs31) (by simp at hb32; omega)
   have hK1 : 1 ≤ K := by have h2 := hi1.size; have h3 := (Nt.dl_pos (x := zN.natAbs)).2 (by rw [hs] at hs31; simp at hs31; omega); omega
   rw [← hs, ← ht] at key
   refine ⟨i48, (⟨false, x42⟩ : IL), rfl, IntN.more (K := (max K 1 + 1)) ?_ (by omega), IntN.more (K := L) ?_ (by omega)⟩
   ·rw [key.1]; exact (h49.ext e54)
   ·rw [key.2]; exact (nat_intN (h43.ext (e47.trans (g51.ext.trans e54))))
  ·replace hb32 : (decide ((0 : Int) < (x25.n : Int))) = false := hb32
   have qhb32 := of_decide_eq_false hb32
   refine zzr (zzo ?_)
   refine sq9 ?_
   refine zza 42 (.adr 2 0) ?_
   refine zzh 43 (.v (.bool i12.s)) ty4 zzk ?_
   refine zza 44 (.adr 3 0) ?_
   refine zzh 45 (.v (.bool i18.s)) ty4 zzk ?_
   refine zza 46 (.v (.bool (!(i12.s == i18.s)))) ?_
   refine zza 47 (.v x24.v) ?_
   refine zza 48 (.v (.agg #[.bool (!(i12.s == i18.s)), x24.v])) ?_
   refine zzf 49 107 [.agg #[.bool (!(i12.s == i18.s)), x24.v]] ?_
   intro w55 u55 e55 d55
   have k60 := k_riTrim d55 (IntV.same (s := !(i12.s == i18.s)) (h26.ext e55).raw) (by omega)
   with_reducible refine Post.mono k60 ?_
   rintro _ u58 g59 ⟨i56, rfl, h57⟩
   refine zza 50 (.v x25.v) ?_
   refine zza 51 (.v (.agg #[.bool false, x25.v])) ?_
   refine zzi ⟨27, i56.cs⟩ ty27 ?_
   refine zzi ⟨27, [.bool false, x25.v]⟩ ty27 ?_
   refine zza 6 (.v (.int .i64 0)) ?_
   refine zzb 52 [(4, .adr 4 0), (5, .adr 5 0), (6, .v (.int .i64 0))] [(4, ⟨27, i56.cs⟩), (5, ⟨27, [.bool false, x25.v]⟩)] ?_
   refine zzn (ret0 [i56.v, .agg #[.bool false, .slice x25.a x25.n x25.c], .int .i64 0] ⟨zzq ty27 zzd, zzq ty27 zzd, zzp, trivial⟩ fun u61 e62 => ?_)
   have hs := h13.1
   have ht := h19.1
   have hr := h27.pos
   have qhs31 := hs31
   have qhb32 := hb32
   have key := Nt.ediv_pos zN zM rfl rfl hM (fun hc => by simp at hb32; omega)
   rw [← hs, ← ht] at key
   refine ⟨i56, (⟨false, x25⟩ : IL), rfl, IntN.more (K := K) ?_ (by omega), IntN.more (K := L) ?_ (by omega)⟩
   ·rw [key.1]; exact (h57.ext e62)
   ·rw [key.2]; exact (nat_intN (h27.ext (e55.trans (g59.ext.trans e62))))
 ·refine zyp 30 (x := .v (.bool i12.s)) (.v (.bool false)) (by rw [hs31]) ?_
  refine zzm 31 (uw 2 true false 30) ?_
  refine zzm 32 (uw 2 true false 30) ?_
  refine zzm 33 (uw 2 true false 30) ?_
  refine zza 34 (.v (.bool false)) ?_
  refine zzb 52 [(2, .adr 2 0), (3, .adr 3 0), (4, .adr 4 0), (5, .adr 5 0), (7, .v x24.v), (8, .v x25.v), (34, .v (.bool false))] [(2, ⟨27, i12.cs⟩), (3, ⟨27, i18.cs⟩), (4, ⟨27, [.bool false, .slice none 0 0]⟩), (5, ⟨27, [.bool false, .slice none 0 0]⟩)] ?_
  refine zyr (by kernel_rfl) ?_
  refine zzr (zzo ?_)
  refine sq9 ?_
  refine zza 42 (.adr 2 0) ?_
  refine zzh 43 (.v (.bool i12.s)) ty4 zzk ?_
  refine zza 44 (.adr 3 0) ?_
  refine zzh 45 (.v (.bool i18.s)) ty4 zzk ?_
  refine zza 46 (.v (.bool (!(i12.s == i18.s)))) ?_
  refine zza 47 (.v x24.v) ?_
  refine zza 48 (.v (.agg #[.bool (!(i12.s == i18.s)), x24.v])) ?_
  refine zzf 49 107 [.agg #[.bool (!(i12.s == i18.s)), x24.v]] ?_
  intro w63 u63 e63 d63
  have k68 := k_riTrim d63 (IntV.same (s := !(i12.s == i18.s)) (h26.ext e63).raw) (by omega)
  with_reducible refine Post.mono k68 ?_
  rintro _ u66 g67 ⟨i64, rfl, h65⟩
  refine zza 50 (.v x25.v) ?_
  refine zza 51 (.v (.agg #[.bool false, x25.v])) ?_
  refine zzi ⟨27, i64.cs⟩ ty27 ?_
  refine zzi ⟨27, [.bool false, x25.v]⟩ ty27 ?_
  refine zza 6 (.v (.int .i64 0)) ?_
  refine zzb 52 [(4, .adr 4 0), (5, .adr 5 0), (6, .v (.int .i64 0))] [(4, ⟨27, i64.cs⟩), (5, ⟨27, [.bool false, x25.v]⟩)] ?_
  refine zzn (ret0 [i64.v, .agg #[.bool false, .slice x25.a x25.n x25.c], .int .i64 0] ⟨zzq ty27 zzd, zzq ty27 zzd, zzp, trivial⟩ fun u69 e70 => ?_)
  have hs := h13.1
  have ht := h19.1
  have hr := h27.pos
  have qhs31 := hs31
  have key := Nt.ediv_pos zN zM rfl rfl hM (fun hc => by rw [hs] at hs31; simp at hs31; omega)
  rw [← hs, ← ht] at key
  refine ⟨i64, (⟨false, x25⟩ : IL), rfl, IntN.more (K := K) ?_ (by omega), IntN.more (K := L) ?_ (by omega)⟩
  ·rw [key.1]; exact (h65.ext e70)
  ·rw [key.2]; exact (nat_intN (h27.ext (e63.trans (g67.ext.trans e70))))
set_option maxHeartbeats 2000000 in
theorem k_reduce {u w : World} {i1 i2 : IL} {z y : Int} {K L : Nat} (d : Dat u w) (hi1 : IntV u i1 z K) (hi2 : IntV u i2 y L) (hK : K ≤ 400000000) (hL : L ≤ 400000000) : Calls Tryz.prog 43 #[i1.v, i2.v] w (Post u w fun v u' => ∃ r : RL, v = r.v ∧ RatN u' r ((z : Rat) / (y : Rat)) (max K L + 1)) := by
 refine zzl (args := [i1.v, i2.v]) Tryz.func43 rfl Tryz.ntmps43 (rs := [.cell 4 29]) Tryz.results43 (le_b rfl) (le_b rfl) d ?_
 refine sq9 ?_
 refine zzj 2 ⟨27, i1.cs⟩ ?_
 refine zzj 3 ⟨27, i2.cs⟩ ?_
 refine zzj 4 ⟨29, [.bool false, .slice none 0 0, .slice none 0 0]⟩ ?_
 refine zzb 47 [(2, .adr 2 0), (3, .adr 3 0), (4, .adr 4 0)] [(2, ⟨27, i1.cs⟩), (3, ⟨27, i2.cs⟩), (4, ⟨29, [.bool false, .slice none 0 0, .slice none 0 0]⟩)] ?_
 refine zzc ?_
 refine sq9 ?_
 refine zzh 12 (.v (i1.v)) ty27 zzd ?_
 refine zzf 13 103 [i1.v] ?_
 intro w11 u11 e11 d11
 have k14 := k_riSign d11 (hi1.ext e11) (by omega)
 with_reducible refine Post.mono k14 ?_
 rintro _ u12 g13 rfl
 refine zza 14 (.v (.bool ((Nt.cmpS z 0) == 0))) ?_
 rcases Bool.eq_false_or_eq_true ((Nt.cmpS z 0) == 0) with hs15 | hs15
 ·refine zyp 15 (x := .v (.bool ((Nt.cmpS z 0) == 0))) (.v (.bool true)) (by rw [hs15]) ?_
  have hz0 : z = 0 := Nt.cmp_eq0 hs15
  refine zzm 16 (uw 3 false true 15) ?_
  refine zzm 17 (uw 3 false true 15) ?_
  refine zzm 18 (uw 3 false true 15) ?_
  refine zza 19 (.v (.bool true)) ?_
  refine zzb 47 [(2, .adr 2 0), (3, .adr 3 0), (4, .adr 4 0), (19, .v (.bool true))] [(2, ⟨27, i1.cs⟩), (3, ⟨27, i2.cs⟩), (4, ⟨29, [.bool false, .slice none 0 0, .slice none 0 0]⟩)] ?_
  refine zyq (by kernel_rfl) ?_
  refine sq9 ?_
  refine sy_data 20 ⟨102, [.int .u32 1]⟩ 1 (fun b16 u17 e18 h19 => ?_)
  refine zza 21 (.v (.agg #[.bool false, .slice none 0 0, .slice (some ⟨b16, 0, none⟩) 1 1])) ?_
  refine zzi ⟨29, [.bool false, .slice none 0 0, .slice (some ⟨b16, 0, none⟩) 1 1]⟩ ty29 ?_
  refine zzb 47 [(4, .adr 4 0)] [(4, ⟨29, [.bool false, .slice none 0 0, .slice (some ⟨b16, 0, none⟩) 1 1]⟩)] ?_
  refine zzn (zzv (ret0 [.agg #[.bool false, .slice none 0 0, .slice (some ⟨b16, 0, none⟩) 1 1]] ⟨zzq ty29 zzd, trivial⟩ fun u20 e21 => ?_))
  refine ⟨(⟨false, ⟨none, 0, 0⟩, (⟨some ⟨b16, 0, none⟩, 1, 1⟩ : Sl)⟩ : RL), rfl, ?_⟩
  have h9 : (z : Rat) / (y : Rat) = ((0 : Int) : Rat) := by rw [hz0]; simp [Rat.div_def]
  rw [h9]
  exact RatN.more (whole_rat (int_zero _ 1) ((one_data h19).ext e21)) (by omega)
 ·refine zyp 15 (x := .v (.bool ((Nt.cmpS z 0) == 0))) (.v (.bool false)) (by rw [hs15]) ?_
  have hz0 : z ≠ 0 := Nt.cmp_ne0 hs15
  refine zzh 16 (.v (i2.v)) ty27 zzd ?_ (hw := w1 3 false 15)
  refine zzf 17 103 [i2.v] ?_ (hw := w1 3 false 15)
  intro w22 u22 e22 d22
  have k25 := k_riSign d22 (hi2.ext (e11.trans (g13.ext.trans e22))) (by omega)
  with_reducible refine Post.mono k25 ?_
  rintro _ u23 g24 rfl
  refine zza 18 (.v (.bool ((Nt.cmpS y 0) == 0))) ?_ (hw := w1 3 false 15)
  refine zza 19 (.v (.bool ((Nt.cmpS y 0) == 0))) ?_
  refine zzb 47 [(2, .adr 2 0), (3, .adr 3 0), (4, .adr 4 0), (19, .v (.bool ((Nt.cmpS y 0) == 0)))] [(2, ⟨27, i1.cs⟩), (3, ⟨27, i2.cs⟩), (4, ⟨29, [.bool false, .slice none 0 0, .slice none 0 0]⟩)] ?_
  refine zzt (b := (Nt.cmpS y 0) == 0) (by kernel_rfl) (fun hb26 => ?_) (fun hb26 => ?_)
  ·replace hb26 : ((Nt.cmpS y 0) == 0) = true := hb26
   have hy0 : y = 0 := Nt.cmp_eq0 hb26
   refine sq9 ?_
   refine sy_data 20 ⟨102, [.int .u32 1]⟩ 1 (fun b27 u28 e29 h30 => ?_)
   refine zza 21 (.v (.agg #[.bool false, .slice none 0 0, .slice (some ⟨b27, 0, none⟩) 1 1])) ?_
   refine zzi ⟨29, [.bool false, .slice none 0 0, .slice (some ⟨b27, 0, none⟩) 1 1]⟩ ty29 ?_
   refine zzb 47 [(4, .adr 4 0)] [(4, ⟨29, [.bool false, .slice none 0 0, .slice (some ⟨b27, 0, none⟩) 1 1]⟩)] ?_
   refine zzn (zzv (ret0 [.agg #[.bool false, .slice none 0 0, .slice (some ⟨b27, 0, none⟩) 1 1]] ⟨zzq ty29 zzd, trivial⟩ fun u31 e32 => ?_))
   refine ⟨(⟨false, ⟨none, 0, 0⟩, (⟨some ⟨b27, 0, none⟩, 1, 1⟩ : Sl)⟩ : RL), rfl, ?_⟩
   have h9 : (z : Rat) / (y : Rat) = ((0 : Int) : Rat) := by rw [hy0]; simp [Rat.div_def]
   rw [h9]
   exact RatN.more (whole_rat (int_zero _ 1) ((one_data h30).ext e32)) (by omega)
  ·replace hb26 : ((Nt.cmpS y 0) == 0) = false := hb26
   have hy0 : y ≠ 0 := Nt.cmp_ne0 hb26
   have hg0 : ((Nat.gcd z.natAbs y.natAbs : Nat) : Int) ≠ 0 := by have h9 := Nat.gcd_pos_of_pos_right z.natAbs (Int.natAbs_pos.2 hy0); omega
   refine zzr (zzo ?_)
   refine sq9 ?_
   refine zzh 22 (.v (i1.v)) ty27 zzd ?_
   refine zzh 23 (.v (i2.v)) ty27 zzd ?_
   refine zzf 24 104 [i1.v, i2.v] ?_
   intro w33 u33 e33 d33
   have k38 := k_riGcd d33 (hi1.ext (e11.trans (g13.ext.trans (e22.trans (g24.ext.trans e33))))) (hi2.ext (e11.trans (g13.ext.trans (e22.trans (g24.ext.trans e33))))) (by omega) (by omega)
   with_reducible refine Post.mono k38 ?_
   rintro _ u36 g37 ⟨i34, rfl, h35⟩
   refine zzj 5 ⟨27, [.bool false, .slice none 0 0]⟩ ?_
   refine zzi ⟨27, i34.cs⟩ ty27 ?_
   refine zzb 47 [(2, .adr 2 0), (3, .adr 3 0), (4, .adr 4 0), (5, .adr 5 0)] [(2, ⟨27, i1.cs⟩), (3, ⟨27, i2.cs⟩), (4, ⟨29, [.bool false, .slice none 0 0, .slice none 0 0]⟩), (5, ⟨27, i34.cs⟩)] ?_
   refine sq9 ?_
   refine zzh 26 (.v (i1.v)) ty27 zzd ?_
   refine zzh 27 (.v (i34.v)) ty27 zzd ?_
   refine zzf 28 105 [i1.v, i34.v] ?_
   intro w39 u39 e39 d39
   have k46 := k_riDiv d39 (hi1.ext (e11.trans (g13.ext.trans (e22.trans (g24.ext.trans (e33.trans (g37.ext.trans e39))))))) (h35.ext e39).raw hg0 (by omega) (by omega)
   with_reducible refine Post.mono k46 ?_
   rintro _ u44 g45 ⟨i40, i42, rfl, h41, h43⟩
   refine zza 25 (.v (.tuple #[i40.v, i42.v, .int .i64 0])) ?_
   refine zza 29 (.v (i40.v)) ?_
   refine zza 30 (.v (i42.v)) ?_
   refine zza 31 (.v (.int .i64 0)) ?_
   refine zzj 6 ⟨27, [.bool false, .slice none 0 0]⟩ ?_
   refine zzj 7 ⟨27, [.bool false, .slice none 0 0]⟩ ?_
   refine zzi ⟨27, i40.cs⟩ ty27 ?_
   refine zzi ⟨27, i42.cs⟩ ty27 ?_
   refine zza 8 (.v (.int .i64 0)) ?_
   refine zzb 47 [(3, .adr 3 0), (4, .adr 4 0), (5, .adr 5 0), (6, .adr 6 0)] [(3, ⟨27, i2.cs⟩), (4, ⟨29, [.bool false, .slice none 0 0, .slice none 0 0]⟩), (5, ⟨27, i34.cs⟩), (6, ⟨27, i40.cs⟩)] ?_
   refine sq9 ?_
   refine zzh 33 (.v (i2.v)) ty27 zzd ?_
   refine zzh 34 (.v (i34.v)) ty27 zzd ?_
   refine zzf 35 105 [i2.v, i34.v] ?_
   intro w47 u47 e47 d47
   have k54 := k_riDiv d47 (hi2.ext (e11.trans (g13.ext.trans (e22.trans (g24.ext.trans (e33.trans (g37.ext.trans (e39.trans (g45.ext.trans e47))))))))) (h35.ext (e39.trans (g45.ext.trans e47))).raw hg0 (by omega) (by omega)
   with_reducible refine Post.mono k54 ?_
   rintro _ u52 g53 ⟨i48, i50, rfl, h49, h51⟩
   refine zza 32 (.v (.tuple #[i48.v, i50.v, .int .i64 0])) ?_
   refine zza 36 (.v (i48.v)) ?_
   refine zza 37 (.v (i50.v)) ?_
   refine zza 38 (.v (.int .i64 0)) ?_
   refine zzj 9 ⟨27, [.bool false, .slice none 0 0]⟩ ?_
   refine zzj 10 ⟨27, [.bool false, .slice none 0 0]⟩ ?_
   refine zzi ⟨27, i48.cs⟩ ty27 ?_
   refine zzi ⟨27, i50.cs⟩ ty27 ?_
   refine zza 11 (.v (.int .i64 0)) ?_
   refine zzb 47 [(4, .adr 4 0), (6, .adr 6 0), (9, .adr 9 0)] [(4, ⟨29, [.bool false, .slice none 0 0, .slice none 0 0]⟩), (6, ⟨27, i40.cs⟩), (9, ⟨27, i48.cs⟩)] ?_
   refine zzc ?_
   refine sq9 ?_
   refine zza 39 (.adr 9 0) ?_
   refine zzh 40 (.v (.bool i48.s)) ty4 zzk ?_
   refine zzb 47 [(4, .adr 4 0), (6, .adr 6 0), (9, .adr 9 0), (40, .v (.bool i48.s))] [(4, ⟨29, [.bool false, .slice none 0 0, .slice none 0 0]⟩), (6, ⟨27, i40.cs⟩), (9, ⟨27, i48.cs⟩)] ?_
   refine zzt (b := i48.s) (by kernel_rfl) (fun hb55 => ?_) (fun hb55 => ?_)
   ·replace hb55 : i48.s = true := hb55
    refine zze ?_
    refine zzh 41 (.v (i40.v)) ty27 zzd ?_
    refine zzf 42 106 [i40.v] ?_
    intro w56 u56 e56 d56
    have k61 := k_riNeg d56 (h41.ext (e47.trans (g53.ext.trans e56))).raw (by omega)
    with_reducible refine Post.mono k61 ?_
    rintro _ u59 g60 ⟨i57, rfl, h58⟩
    refine zzi ⟨27, i57.cs⟩ ty27 ?_
    refine zzb 47 [(4, .adr 4 0), (6, .adr 6 0), (9, .adr 9 0)] [(4, ⟨29, [.bool false, .slice none 0 0, .slice none 0 0]⟩), (6, ⟨27, i57.cs⟩), (9, ⟨27, i48.cs⟩)] ?_
    refine sq9 ?_
    refine zzh 43 (.v (i57.v)) ty27 zzd ?_
    refine zza 44 (.adr 9 1) ?_
    refine zzh 45 (.v i48.m.v) ty25 zzk ?_
    refine zza 46 (.v (.agg #[.bool i57.s, i57.m.v, i48.m.v])) ?_
    refine zzi ⟨29, i57.cs ++ [i48.m.v]⟩ ty29 ?_
    refine zzb 47 [(4, .adr 4 0)] [(4, ⟨29, i57.cs ++ [i48.m.v]⟩)] ?_
    refine zzn (ret0 [.agg #[.bool i57.s, .slice i57.m.a i57.m.n i57.m.c, .slice i48.m.a i48.m.n i48.m.c]] ⟨zzq ty29 zzd, trivial⟩ fun u62 e63 => ?_)
    refine ⟨(⟨i57.s, i57.m, i48.m⟩ : RL), rfl, RatN.more (red_neg hy0 rfl (h58.ext e63) h49 hb55 ((int_mag h49).ext (e56.trans (g60.ext.trans e63)))) (by omega)⟩
   ·replace hb55 : i48.s = false := hb55
    refine zzr (zzo ?_)
    refine sq9 ?_
    refine zzh 43 (.v (i40.v)) ty27 zzd ?_
    refine zza 44 (.adr 9 1) ?_
    refine zzh 45 (.v i48.m.v) ty25 zzk ?_
    refine zza 46 (.v (.agg #[.bool i40.s, i40.m.v, i48.m.v])) ?_
    refine zzi ⟨29, i40.cs ++ [i48.m.v]⟩ ty29 ?_
    refine zzb 47 [(4, .adr 4 0)] [(4, ⟨29, i40.cs ++ [i48.m.v]⟩)] ?_
    refine zzn (ret0 [.agg #[.bool i40.s, .slice i40.m.a i40.m.n i40.m.c, .slice i48.m.a i48.m.n i48.m.c]] ⟨zzq ty29 zzd, trivial⟩ fun u64 e65 => ?_)
    refine ⟨(⟨i40.s, i40.m, i48.m⟩ : RL), rfl, RatN.more (red_pos hy0 rfl (h41.ext (e47.trans (g53.ext.trans e65))) h49 hb55 ((int_mag h49).ext e65)) (by omega)⟩
theorem k_parts {u w : World} {r : RL} {q : Rat} {K : Nat} (d : Dat u w) (h : RatV u r q K) (hKK : K ≤ 400000000) : Calls Tryz.prog 121 #[r.v] w (Post u w (PartV q K)) := by
 obtain ⟨⟨z, D, hi, hd, hq⟩, hK⟩ := h
 change IntV u ⟨r.s, r.m⟩ z K at hi
 change NatV u r.d D K at hd
 refine zzl (args := [r.v]) Tryz.func121 rfl Tryz.ntmps121 (rs := [.cell 2 27, .cell 3 27]) Tryz.results121 (le_b rfl) (le_b rfl) d ?_
 refine sq9 ?_
 refine zzj 1 ⟨29, r.cs⟩ ?_
 refine zzj 2 ⟨27, [.bool false, .slice none 0 0]⟩ ?_
 refine zzj 3 ⟨27, [.bool false, .slice none 0 0]⟩ ?_
 refine zzb 19 [(1, .adr 1 0), (2, .adr 2 0), (3, .adr 3 0)] [(1, ⟨29, r.cs⟩), (2, ⟨27, [.bool false, .slice none 0 0]⟩), (3, ⟨27, [.bool false, .slice none 0 0]⟩)] ?_
 refine sq9 ?_
 refine zza 5 (.adr 1 2) ?_
 refine zzh 6 (.v r.d.v) ty25 zzk ?_
 refine zzf 7 151 [r.d.v] ?_
 intro w11 u11 e11 d11
 have k16 := k_rnTrim d11 (hd.ext e11) (by omega)
 with_reducible refine Post.mono k16 ?_
 rintro _ u14 g15 ⟨x12, rfl, h13⟩
 refine zza 8 (.v (.agg #[.bool false, x12.v])) ?_
 refine zzj 4 ⟨27, [.bool false, .slice none 0 0]⟩ ?_
 refine zzi ⟨27, [.bool false, x12.v]⟩ ty27 ?_
 refine zzb 19 [(1, .adr 1 0), (2, .adr 2 0), (3, .adr 3 0), (4, .adr 4 0)] [(1, ⟨29, r.cs⟩), (2, ⟨27, [.bool false, .slice none 0 0]⟩), (3, ⟨27, [.bool false, .slice none 0 0]⟩), (4, ⟨27, [.bool false, x12.v]⟩)] ?_
 refine zzc ?_
 refine sq9 ?_
 refine zza 9 (.adr 4 1) ?_
 refine zzh 10 (.v x12.v) ty25 zzk ?_
 refine zza 11 (.v (.int .i64 (x12.n : Int))) ?_
 refine zza 12 (.v (.bool ((x12.n : Int) == 0))) ?_
 refine zzb 19 [(1, .adr 1 0), (2, .adr 2 0), (3, .adr 3 0), (4, .adr 4 0), (12, .v (.bool ((x12.n : Int) == 0)))] [(1, ⟨29, r.cs⟩), (2, ⟨27, [.bool false, .slice none 0 0]⟩), (3, ⟨27, [.bool false, .slice none 0 0]⟩), (4, ⟨27, [.bool false, x12.v]⟩)] ?_
 refine zzt (b := (x12.n : Int) == 0) (by kernel_rfl) (fun hb17 => ?_) (fun hb17 => ?_)
 ·replace hb17 : ((x12.n : Int) == 0) = true := hb17
  have qhb17 : (x12.n : Int) = 0 := by simpa using hb17
  refine sq9 ?_
  refine zza 13 (.v (.agg #[.bool false, .slice none 0 0])) ?_
  refine sy_data 14 ⟨102, [.int .u32 1]⟩ 1 (fun b18 u19 e20 h21 => ?_)
  refine zza 15 (.v (.agg #[.bool false, .slice (some ⟨b18, 0, none⟩) 1 1])) ?_
  refine zzi ⟨27, [.bool false, .slice none 0 0]⟩ ty27 ?_
  refine zzi ⟨27, [.bool false, .slice (some ⟨b18, 0, none⟩) 1 1]⟩ ty27 ?_
  refine zzb 19 [(2, .adr 2 0), (3, .adr 3 0)] [(2, ⟨27, [.bool false, .slice none 0 0]⟩), (3, ⟨27, [.bool false, .slice (some ⟨b18, 0, none⟩) 1 1]⟩)] ?_
  refine zzn (zzv (ret0 [.agg #[.bool false, .slice none 0 0], .agg #[.bool false, .slice (some ⟨b18, 0, none⟩) 1 1]] ⟨zzq ty27 zzd, zzq ty27 zzd, trivial⟩ fun u22 e23 => ?_))
  have hp := h13.pos
  have hD : D = 0 := by simp at hb17; omega
  exact ⟨⟨false, ⟨none, 0, 0⟩⟩, ⟨false, (⟨some ⟨b18, 0, none⟩, 1, 1⟩ : Sl)⟩, 0, 1, rfl, (int_zero _ K).raw, nat_intN (((one_data h21).ext e23).more hK), by omega, by rw [hq, hD]; simp, hK⟩
 ·replace hb17 : ((x12.n : Int) == 0) = false := hb17
  have qhb17 : ¬ ((x12.n : Int) = 0) := by simpa using hb17
  refine zzr (zzo ?_)
  refine zzc ?_
  refine zzy [0, 1, 0, 3, 15] [(0, []), (1, []), (2, []), (3, [4]), (4, [])] (by kernel_rfl) (by kernel_rfl) ?_
  refine zza 16 (.adr 1 0) ?_
  refine zzh 17 (.v (.agg #[.bool r.s, r.m.v])) ty27 zzd ?_
  refine zzh 18 (.v (.agg #[.bool false, x12.v])) ty27 zzd ?_
  refine zzi ⟨27, [.bool r.s, r.m.v]⟩ ty27 ?_
  refine zzi ⟨27, [.bool false, x12.v]⟩ ty27 ?_
  refine zzb 19 [(2, .adr 2 0), (3, .adr 3 0)] [(2, ⟨27, [.bool r.s, r.m.v]⟩), (3, ⟨27, [.bool false, x12.v]⟩)] ?_
  refine zzn (ret0 [.agg #[.bool r.s, .slice r.m.a r.m.n r.m.c], .agg #[.bool false, .slice x12.a x12.n x12.c]] ⟨zzq ty27 zzd, zzq ty27 zzd, trivial⟩ fun u24 e25 => ?_)
  have hp := h13.pos
  exact ⟨⟨r.s, r.m⟩, ⟨false, x12⟩, z, D, rfl, (hi.ext (e11.trans (g15.ext.trans e25))), nat_intN (h13.ext e25), by simp at hb17; omega, hq, hK⟩
theorem k_rqTrim {u w : World} {r1 : RL} {x : Rat} {K : Nat} (d : Dat u w) (hr1 : RatV u r1 x K) (hK : K ≤ 100000000) : Calls Tryz.prog 120 #[r1.v] w (Post u w fun v u' => ∃ r : RL, v = r.v ∧ RatN u' r x K) := by
 refine zzl (args := [r1.v]) Tryz.func120 rfl Tryz.ntmps120 (rs := [.cell 2 29]) Tryz.results120 (le_b rfl) (le_b rfl) d ?_
 refine sq9 ?_
 refine zzj 1 ⟨29, r1.cs⟩ ?_
 refine zzj 2 ⟨29, [.bool false, .slice none 0 0, .slice none 0 0]⟩ ?_
 refine zzb 13 [(1, .adr 1 0), (2, .adr 2 0)] [(1, ⟨29, r1.cs⟩), (2, ⟨29, [.bool false, .slice none 0 0, .slice none 0 0]⟩)] ?_
 refine sq9 ?_
 refine zzh 6 (.v (r1.v)) ty29 zzd ?_
 refine zzf 7 121 [r1.v] ?_
 intro w11 u11 e11 d11
 have k15 := k_parts d11 (hr1.ext e11) (by omega)
 with_reducible refine Post.mono k15 ?_
 rintro _ u13 g14 ⟨i12, j12, z12, D12, rfl, hi12, hj12, hp12, hq12, hk12⟩
 refine zza 5 (.v (.tuple #[i12.v, j12.v])) ?_
 refine zza 8 (.v (i12.v)) ?_
 refine zza 9 (.v (j12.v)) ?_
 refine zzj 3 ⟨27, [.bool false, .slice none 0 0]⟩ ?_
 refine zzj 4 ⟨27, [.bool false, .slice none 0 0]⟩ ?_
 refine zzi ⟨27, i12.cs⟩ ty27 ?_
 refine zzi ⟨27, j12.cs⟩ ty27 ?_
 refine zzb 13 [(2, .adr 2 0), (3, .adr 3 0), (4, .adr 4 0)] [(2, ⟨29, [.bool false, .slice none 0 0, .slice none 0 0]⟩), (3, ⟨27, i12.cs⟩), (4, ⟨27, j12.cs⟩)] ?_
 refine sq9 ?_
 refine zzh 10 (.v (i12.v)) ty27 zzd ?_
 refine zzh 11 (.v (j12.v)) ty27 zzd ?_
 refine zzf 12 43 [i12.v, j12.v] ?_
 intro w16 u16 e16 d16
 have k21 := k_reduce d16 (hi12.ext e16) (hj12.ext e16).raw (by omega) (by omega)
 with_reducible refine Post.mono k21 ?_
 rintro _ u19 g20 ⟨r17, rfl, h18⟩
 refine zzi ⟨29, r17.cs⟩ ty29 ?_
 refine zzb 13 [(2, .adr 2 0)] [(2, ⟨29, r17.cs⟩)] ?_
 refine zzn (ret0 [r17.v] ⟨zzq ty29 zzd, trivial⟩ fun u22 e23 => ?_)
 refine ⟨r17, rfl, RatN.fit (K := (max K K + 1)) ?_ (hr1.rs)⟩
 rw [hq12, ← Nt.mk_div]
 exact (h18.ext e23)
theorem k_rqSame {u w : World} {r1 r2 : RL} {x y : Rat} {K L : Nat} (d : Dat u w) (hr1 : RatN u r1 x K) (hr2 : RatN u r2 y L) : Calls Tryz.prog 171 #[r1.v, r2.v] w (Post u w fun v _ => v = .bool (decide (x = y))) := by
 refine zzl (args := [r1.v, r2.v]) Tryz.func171 rfl Tryz.ntmps171 (rs := [.tmp 4]) Tryz.results171 (le_b rfl) (le_b rfl) d ?_
 refine sq9 ?_
 refine zzj 2 ⟨29, r1.cs⟩ ?_
 refine zzj 3 ⟨29, r2.cs⟩ ?_
 refine zza 4 (.v (.bool false)) ?_
 refine zzb 17 [(2, .adr 2 0), (3, .adr 3 0)] [(2, ⟨29, r1.cs⟩), (3, ⟨29, r2.cs⟩)] ?_
 refine sq9 ?_
 refine zza 5 (.adr 2 0) ?_
 refine zzh 6 (.v (.agg #[.bool r1.s, r1.m.v])) ty27 zzd ?_
 refine zza 7 (.adr 3 0) ?_
 refine zzh 8 (.v (.agg #[.bool r2.s, r2.m.v])) ty27 zzd ?_
 refine zzf 9 194 [.agg #[.bool r1.s, r1.m.v], .agg #[.bool r2.s, r2.m.v]] ?_
 intro w11 u11 e11 d11
 have k14 := k_riSame d11 ((RatN.num hr1).ext e11) ((RatN.num hr2).ext e11)
 with_reducible refine Post.mono k14 ?_
 rintro _ u12 g13 rfl
 rcases Bool.eq_false_or_eq_true (decide (x.num = y.num)) with hs15 | hs15
 ·refine zyp 10 (x := .v (.bool (decide (x.num = y.num)))) (.v (.bool true)) (by rw [hs15]) ?_
  have qhs15 := of_decide_eq_true hs15
  refine zza 11 (.adr 2 2) ?_ (hw := w1 5 true 10)
  refine zzh 12 (.v r1.d.v) ty25 zzk ?_ (hw := w1 5 true 10)
  refine zza 13 (.adr 3 2) ?_ (hw := w1 5 true 10)
  refine zzh 14 (.v r2.d.v) ty25 zzk ?_ (hw := w1 5 true 10)
  refine zzf 15 195 [r1.d.v, r2.d.v] ?_ (hw := w1 5 true 10)
  intro w16 u16 e16 d16
  have k19 := k_rnSame d16 ((RatN.den hr1).ext (e11.trans (g13.ext.trans e16))) ((RatN.den hr2).ext (e11.trans (g13.ext.trans e16)))
  with_reducible refine Post.mono k19 ?_
  rintro _ u17 g18 rfl
  refine zza 16 (.v (.bool (decide (x.den = y.den)))) ?_
  refine zza 4 (.v (.bool (decide (x.den = y.den)))) ?_
  refine zzb 17 [(4, .v (.bool (decide (x.den = y.den))))] [] ?_
  refine zzn (ret0 [.bool (decide (x.den = y.den))] ⟨zzp, trivial⟩ fun u20 e21 => ?_)
  show _ = _
  rw [← Nt.same_q, hs15]
  rfl
 ·refine zyp 10 (x := .v (.bool (decide (x.num = y.num)))) (.v (.bool false)) (by rw [hs15]) ?_
  have qhs15 := of_decide_eq_false hs15
  refine zzm 11 (uw 5 true false 10) ?_
  refine zzm 12 (uw 5 true false 10) ?_
  refine zzm 13 (uw 5 true false 10) ?_
  refine zzm 14 (uw 5 true false 10) ?_
  refine zzm 15 (uw 5 true false 10) ?_
  refine zza 16 (.v (.bool false)) ?_
  refine zza 4 (.v (.bool false)) ?_
  refine zzb 17 [(4, .v (.bool false))] [] ?_
  refine zzn (ret0 [.bool false] ⟨zzp, trivial⟩ fun u22 e23 => ?_)
  show _ = _
  rw [← Nt.same_q, hs15]
  rfl
theorem k_rqOf {u w : World} {z : Int} (d : Dat u w) (h0 : -9223372036854775808 ≤ z) (h1 : z ≤ 9223372036854775807) : Calls Tryz.prog 19 #[.int .i64 z] w (Post u w fun v u' => ∃ r : RL, v = r.v ∧ RatN u' r (z : Rat) 2) := by
 refine zzl (args := [.int .i64 z]) Tryz.func19 rfl Tryz.ntmps19 (rs := [.cell 2 29]) Tryz.results19 (le_b rfl) (le_b rfl) d ?_
 refine sq9 ?_
 refine zzj 2 ⟨29, [.bool false, .slice none 0 0, .slice none 0 0]⟩ ?_
 refine zzb 7 [(0, .v (.int .i64 z)), (2, .adr 2 0)] [(2, ⟨29, [.bool false, .slice none 0 0, .slice none 0 0]⟩)] ?_
 refine sq9 ?_
 refine zza 3 (.v (.int .i64 z)) ?_
 refine zzf 4 44 [.int .i64 z] ?_
 intro w11 u11 e11 d11
 have k16 := k_riOf d11 (z := z) (by omega) (by omega)
 with_reducible refine Post.mono k16 ?_
 rintro _ u14 g15 ⟨i12, rfl, h13⟩
 refine sy_data 5 ⟨102, [.int .u32 1]⟩ 1 (fun b17 u18 e19 h20 => ?_)
 refine zza 6 (.v (.agg #[.bool i12.s, i12.m.v, .slice (some ⟨b17, 0, none⟩) 1 1])) ?_
 refine zzi ⟨29, i12.cs ++ [.slice (some ⟨b17, 0, none⟩) 1 1]⟩ ty29 ?_
 refine zzb 7 [(2, .adr 2 0)] [(2, ⟨29, i12.cs ++ [.slice (some ⟨b17, 0, none⟩) 1 1]⟩)] ?_
 refine zzn (ret0 [.agg #[.bool i12.s, .slice i12.m.a i12.m.n i12.m.c, .slice (some ⟨b17, 0, none⟩) 1 1]] ⟨zzq ty29 zzd, trivial⟩ fun u21 e22 => ?_)
 refine ⟨(⟨i12.s, i12.m, (⟨some ⟨b17, 0, none⟩, 1, 1⟩ : Sl)⟩ : RL), rfl, ?_⟩
 exact whole_rat (h13.ext (e19.trans e22)) ((one_data h20).ext e22)
theorem k_rqFrac {u w : World} {a b : Int} (d : Dat u w) (ha0 : -9223372036854775808 ≤ a) (ha1 : a ≤ 9223372036854775807) (hb0 : -9223372036854775808 ≤ b) (hb1 : b ≤ 9223372036854775807) : Calls Tryz.prog 10 #[.int .i64 a, .int .i64 b] w (Post u w fun v u' => ∃ r : RL, v = r.v ∧ RatN u' r ((a : Rat) / (b : Rat)) 3) := by
 refine zzl (args := [.int .i64 a, .int .i64 b]) Tryz.func10 rfl Tryz.ntmps10 (rs := [.cell 4 29]) Tryz.results10 (le_b rfl) (le_b rfl) d ?_
 refine sq9 ?_
 refine zzj 4 ⟨29, [.bool false, .slice none 0 0, .slice none 0 0]⟩ ?_
 refine zzb 10 [(0, .v (.int .i64 a)), (1, .v (.int .i64 b)), (4, .adr 4 0)] [(4, ⟨29, [.bool false, .slice none 0 0, .slice none 0 0]⟩)] ?_
 refine sq9 ?_
 refine zza 5 (.v (.int .i64 a)) ?_
 refine zzf 6 44 [.int .i64 a] ?_
 intro w11 u11 e11 d11
 have k16 := k_riOf d11 (z := a) (by omega) (by omega)
 with_reducible refine Post.mono k16 ?_
 rintro _ u14 g15 ⟨i12, rfl, h13⟩
 refine zza 7 (.v (.int .i64 b)) ?_
 refine zzf 8 44 [.int .i64 b] ?_
 intro w17 u17 e17 d17
 have k22 := k_riOf d17 (z := b) (by omega) (by omega)
 with_reducible refine Post.mono k22 ?_
 rintro _ u20 g21 ⟨i18, rfl, h19⟩
 refine zzf 9 43 [i12.v, i18.v] ?_
 intro w23 u23 e23 d23
 have k28 := k_reduce d23 (h13.ext (e17.trans (g21.ext.trans e23))).raw (h19.ext e23).raw (by omega) (by omega)
 with_reducible refine Post.mono k28 ?_
 rintro _ u26 g27 ⟨r24, rfl, h25⟩
 refine zzi ⟨29, r24.cs⟩ ty29 ?_
 refine zzb 10 [(4, .adr 4 0)] [(4, ⟨29, r24.cs⟩)] ?_
 refine zzn (ret0 [r24.v] ⟨zzq ty29 zzd, trivial⟩ fun u29 e30 => ?_)
 refine ⟨r24, rfl, RatN.more (K := (max 2 2 + 1)) ?_ (by omega)⟩
 exact (h25.ext e30)
theorem k_rqSign {u w : World} {r1 : RL} {x : Rat} {K : Nat} (d : Dat u w) (hr1 : RatV u r1 x K) (hK : K ≤ 100000000) : Calls Tryz.prog 119 #[r1.v] w (Post u w fun v u' => v = .int .i64 (Nt.sgQ x)) := by
 refine zzl (args := [r1.v]) Tryz.func119 rfl Tryz.ntmps119 (rs := [.tmp 2]) Tryz.results119 (le_b rfl) (le_b rfl) d ?_
 refine sq9 ?_
 refine zzj 1 ⟨29, r1.cs⟩ ?_
 refine zza 2 (.v (.int .i64 0)) ?_
 refine zzb 12 [(1, .adr 1 0)] [(1, ⟨29, r1.cs⟩)] ?_
 refine sq9 ?_
 refine zzh 6 (.v (r1.v)) ty29 zzd ?_
 refine zzf 7 121 [r1.v] ?_
 intro w11 u11 e11 d11
 have k15 := k_parts d11 (hr1.ext e11) (by omega)
 with_reducible refine Post.mono k15 ?_
 rintro _ u13 g14 ⟨i12, j12, z12, D12, rfl, hi12, hj12, hp12, hq12, hk12⟩
 refine zza 5 (.v (.tuple #[i12.v, j12.v])) ?_
 refine zza 8 (.v (i12.v)) ?_
 refine zza 9 (.v (j12.v)) ?_
 refine zzj 3 ⟨27, [.bool false, .slice none 0 0]⟩ ?_
 refine zzj 4 ⟨27, [.bool false, .slice none 0 0]⟩ ?_
 refine zzi ⟨27, i12.cs⟩ ty27 ?_
 refine zzi ⟨27, j12.cs⟩ ty27 ?_
 refine zzb 12 [(3, .adr 3 0)] [(3, ⟨27, i12.cs⟩)] ?_
 refine sq9 ?_
 refine zzh 10 (.v (i12.v)) ty27 zzd ?_
 refine zzf 11 103 [i12.v] ?_
 intro w16 u16 e16 d16
 have k19 := k_riSign d16 (hi12.ext e16) (by omega)
 with_reducible refine Post.mono k19 ?_
 rintro _ u17 g18 rfl
 refine zza 2 (.v (.int .i64 (Nt.cmpS z12 0))) ?_
 refine zzb 12 [(2, .v (.int .i64 (Nt.cmpS z12 0)))] [] ?_
 refine zzn (ret0 [.int .i64 (Nt.cmpS z12 0)] ⟨zzp, trivial⟩ fun u20 e21 => ?_)
 show _ = _
 rw [hq12, ← Nt.sg_mk hp12]
 rfl
theorem k_rqAdd {u w : World} {r1 : RL} {x : Rat} {K : Nat} {r2 : RL} {y : Rat} {L : Nat} (d : Dat u w) (hr1 : RatV u r1 x K) (hr2 : RatV u r2 y L) (hK : K ≤ 100000000) (hL : L ≤ 100000000) : Calls Tryz.prog 59 #[r1.v, r2.v] w (Post u w fun v u' => ∃ r : RL, v = r.v ∧ RatN u' r (x + y) (K + L + 2)) := by
 refine zzl (args := [r1.v, r2.v]) Tryz.func59 rfl Tryz.ntmps59 (rs := [.cell 4 29]) Tryz.results59 (le_b rfl) (le_b rfl) d ?_
 refine sq9 ?_
 refine zzj 2 ⟨29, r1.cs⟩ ?_
 refine zzj 3 ⟨29, r2.cs⟩ ?_
 refine zzj 4 ⟨29, [.bool false, .slice none 0 0, .slice none 0 0]⟩ ?_
 refine zzb 30 [(2, .adr 2 0), (3, .adr 3 0), (4, .adr 4 0)] [(2, ⟨29, r1.cs⟩), (3, ⟨29, r2.cs⟩), (4, ⟨29, [.bool false, .slice none 0 0, .slice none 0 0]⟩)] ?_
 refine sq9 ?_
 refine zzh 10 (.v (r1.v)) ty29 zzd ?_
 refine zzf 11 121 [r1.v] ?_
 intro w11 u11 e11 d11
 have k15 := k_parts d11 (hr1.ext e11) (by omega)
 with_reducible refine Post.mono k15 ?_
 rintro _ u13 g14 ⟨i12, j12, z12, D12, rfl, hi12, hj12, hp12, hq12, hk12⟩
 refine zza 9 (.v (.tuple #[i12.v, j12.v])) ?_
 refine zza 12 (.v (i12.v)) ?_
 refine zza 13 (.v (j12.v)) ?_
 refine zzj 5 ⟨27, [.bool false, .slice none 0 0]⟩ ?_
 refine zzj 6 ⟨27, [.bool false, .slice none 0 0]⟩ ?_
 refine zzi ⟨27, i12.cs⟩ ty27 ?_
 refine zzi ⟨27, j12.cs⟩ ty27 ?_
 refine zzb 30 [(3, .adr 3 0), (4, .adr 4 0), (5, .adr 5 0), (6, .adr 6 0)] [(3, ⟨29, r2.cs⟩), (4, ⟨29, [.bool false, .slice none 0 0, .slice none 0 0]⟩), (5, ⟨27, i12.cs⟩), (6, ⟨27, j12.cs⟩)] ?_
 refine sq9 ?_
 refine zzh 15 (.v (r2.v)) ty29 zzd ?_
 refine zzf 16 121 [r2.v] ?_
 intro w16 u16 e16 d16
 have k20 := k_parts d16 (hr2.ext (e11.trans (g14.ext.trans e16))) (by omega)
 with_reducible refine Post.mono k20 ?_
 rintro _ u18 g19 ⟨i17, j17, z17, D17, rfl, hi17, hj17, hp17, hq17, hk17⟩
 refine zza 14 (.v (.tuple #[i17.v, j17.v])) ?_
 refine zza 17 (.v (i17.v)) ?_
 refine zza 18 (.v (j17.v)) ?_
 refine zzj 7 ⟨27, [.bool false, .slice none 0 0]⟩ ?_
 refine zzj 8 ⟨27, [.bool false, .slice none 0 0]⟩ ?_
 refine zzi ⟨27, i17.cs⟩ ty27 ?_
 refine zzi ⟨27, j17.cs⟩ ty27 ?_
 refine zzb 30 [(4, .adr 4 0), (5, .adr 5 0), (6, .adr 6 0), (7, .adr 7 0), (8, .adr 8 0)] [(4, ⟨29, [.bool false, .slice none 0 0, .slice none 0 0]⟩), (5, ⟨27, i12.cs⟩), (6, ⟨27, j12.cs⟩), (7, ⟨27, i17.cs⟩), (8, ⟨27, j17.cs⟩)] ?_
 refine zzc ?_
 refine zzy [0, 0, 3, 0, 0, 31, 63, 0, 0, 511, 1023, 2047] [(0, []), (1, []), (3, []), (4, []), (7, []), (8, []), (2, []), (5, []), (6, []), (9, []), (10, []), (11, [])] (by kernel_rfl) (by kernel_rfl) ?_
 refine zzh 19 (.v (i12.v)) ty27 zzd ?_
 refine zzh 20 (.v (j17.v)) ty27 zzd ?_
 refine zzh 22 (.v (i17.v)) ty27 zzd ?_
 refine zzh 23 (.v (j12.v)) ty27 zzd ?_
 refine zzh 26 (.v (j12.v)) ty27 zzd ?_
 refine zzh 27 (.v (j17.v)) ty27 zzd ?_
 refine zzf 21 123 [i12.v, j17.v] ?_
 intro w21 u21 e21 d21
 have k26 := k_riMul d21 (hi12.ext (e16.trans (g19.ext.trans e21))) (hj17.ext e21).raw (by omega) (by omega)
 with_reducible refine Post.mono k26 ?_
 rintro _ u24 g25 ⟨i22, rfl, h23⟩
 refine zzf 24 123 [i17.v, j12.v] ?_
 intro w27 u27 e27 d27
 have k32 := k_riMul d27 (hi17.ext (e21.trans (g25.ext.trans e27))) (hj12.ext (e16.trans (g19.ext.trans (e21.trans (g25.ext.trans e27))))).raw (by omega) (by omega)
 with_reducible refine Post.mono k32 ?_
 rintro _ u30 g31 ⟨i28, rfl, h29⟩
 refine zzf 25 127 [i22.v, i28.v] ?_
 intro w33 u33 e33 d33
 have k38 := k_riAdd d33 (h23.ext (e27.trans (g31.ext.trans e33))).raw (h29.ext e33).raw (by omega) (by omega)
 with_reducible refine Post.mono k38 ?_
 rintro _ u36 g37 ⟨i34, rfl, h35⟩
 refine zzf 28 123 [j12.v, j17.v] ?_
 intro w39 u39 e39 d39
 have k44 := k_riMul d39 (hj12.ext (e16.trans (g19.ext.trans (e21.trans (g25.ext.trans (e27.trans (g31.ext.trans (e33.trans (g37.ext.trans e39))))))))).raw (hj17.ext (e21.trans (g25.ext.trans (e27.trans (g31.ext.trans (e33.trans (g37.ext.trans e39))))))).raw (by omega) (by omega)
 with_reducible refine Post.mono k44 ?_
 rintro _ u42 g43 ⟨i40, rfl, h41⟩
 refine zzf 29 43 [i34.v, i40.v] ?_
 intro w45 u45 e45 d45
 have k50 := k_reduce d45 (h35.ext (e39.trans (g43.ext.trans e45))).raw (h41.ext e45).raw (by omega) (by omega)
 with_reducible refine Post.mono k50 ?_
 rintro _ u48 g49 ⟨r46, rfl, h47⟩
 refine zzi ⟨29, r46.cs⟩ ty29 ?_
 refine zzb 30 [(4, .adr 4 0)] [(4, ⟨29, r46.cs⟩)] ?_
 refine zzn (ret0 [r46.v] ⟨zzq ty29 zzd, trivial⟩ fun u51 e52 => ?_)
 refine ⟨r46, rfl, RatN.more (K := (max (max (K + L) (L + K) + 1) (K + L) + 1)) ?_ (by omega)⟩
 rw [hq12, hq17, ← Nt.add_div2 hp12 hp17]
 exact (h47.ext e52)
theorem k_rqMul {u w : World} {r1 : RL} {x : Rat} {K : Nat} {r2 : RL} {y : Rat} {L : Nat} (d : Dat u w) (hr1 : RatV u r1 x K) (hr2 : RatV u r2 y L) (hK : K ≤ 100000000) (hL : L ≤ 100000000) : Calls Tryz.prog 61 #[r1.v, r2.v] w (Post u w fun v u' => ∃ r : RL, v = r.v ∧ RatN u' r (x * y) (K + L + 1)) := by
 refine zzl (args := [r1.v, r2.v]) Tryz.func61 rfl Tryz.ntmps61 (rs := [.cell 4 29]) Tryz.results61 (le_b rfl) (le_b rfl) d ?_
 refine sq9 ?_
 refine zzj 2 ⟨29, r1.cs⟩ ?_
 refine zzj 3 ⟨29, r2.cs⟩ ?_
 refine zzj 4 ⟨29, [.bool false, .slice none 0 0, .slice none 0 0]⟩ ?_
 refine zzb 26 [(2, .adr 2 0), (3, .adr 3 0), (4, .adr 4 0)] [(2, ⟨29, r1.cs⟩), (3, ⟨29, r2.cs⟩), (4, ⟨29, [.bool false, .slice none 0 0, .slice none 0 0]⟩)] ?_
 refine sq9 ?_
 refine zzh 10 (.v (r1.v)) ty29 zzd ?_
 refine zzf 11 121 [r1.v] ?_
 intro w11 u11 e11 d11
 have k15 := k_parts d11 (hr1.ext e11) (by omega)
 with_reducible refine Post.mono k15 ?_
 rintro _ u13 g14 ⟨i12, j12, z12, D12, rfl, hi12, hj12, hp12, hq12, hk12⟩
 refine zza 9 (.v (.tuple #[i12.v, j12.v])) ?_
 refine zza 12 (.v (i12.v)) ?_
 refine zza 13 (.v (j12.v)) ?_
 refine zzj 5 ⟨27, [.bool false, .slice none 0 0]⟩ ?_
 refine zzj 6 ⟨27, [.bool false, .slice none 0 0]⟩ ?_
 refine zzi ⟨27, i12.cs⟩ ty27 ?_
 refine zzi ⟨27, j12.cs⟩ ty27 ?_
 refine zzb 26 [(3, .adr 3 0), (4, .adr 4 0), (5, .adr 5 0), (6, .adr 6 0)] [(3, ⟨29, r2.cs⟩), (4, ⟨29, [.bool false, .slice none 0 0, .slice none 0 0]⟩), (5, ⟨27, i12.cs⟩), (6, ⟨27, j12.cs⟩)] ?_
 refine sq9 ?_
 refine zzh 15 (.v (r2.v)) ty29 zzd ?_
 refine zzf 16 121 [r2.v] ?_
 intro w16 u16 e16 d16
 have k20 := k_parts d16 (hr2.ext (e11.trans (g14.ext.trans e16))) (by omega)
 with_reducible refine Post.mono k20 ?_
 rintro _ u18 g19 ⟨i17, j17, z17, D17, rfl, hi17, hj17, hp17, hq17, hk17⟩
 refine zza 14 (.v (.tuple #[i17.v, j17.v])) ?_
 refine zza 17 (.v (i17.v)) ?_
 refine zza 18 (.v (j17.v)) ?_
 refine zzj 7 ⟨27, [.bool false, .slice none 0 0]⟩ ?_
 refine zzj 8 ⟨27, [.bool false, .slice none 0 0]⟩ ?_
 refine zzi ⟨27, i17.cs⟩ ty27 ?_
 refine zzi ⟨27, j17.cs⟩ ty27 ?_
 refine zzb 26 [(4, .adr 4 0), (5, .adr 5 0), (6, .adr 6 0), (7, .adr 7 0), (8, .adr 8 0)] [(4, ⟨29, [.bool false, .slice none 0 0, .slice none 0 0]⟩), (5, ⟨27, i12.cs⟩), (6, ⟨27, j12.cs⟩), (7, ⟨27, i17.cs⟩), (8, ⟨27, j17.cs⟩)] ?_
 refine zzc ?_
 refine zzy [0, 0, 3, 0, 0, 31, 63, 127] [(0, []), (1, []), (3, []), (4, []), (2, []), (5, []), (6, []), (7, [])] (by kernel_rfl) (by kernel_rfl) ?_
 refine zzh 19 (.v (i12.v)) ty27 zzd ?_
 refine zzh 20 (.v (i17.v)) ty27 zzd ?_
 refine zzh 22 (.v (j12.v)) ty27 zzd ?_
 refine zzh 23 (.v (j17.v)) ty27 zzd ?_
 refine zzf 21 123 [i12.v, i17.v] ?_
 intro w21 u21 e21 d21
 have k26 := k_riMul d21 (hi12.ext (e16.trans (g19.ext.trans e21))) (hi17.ext e21) (by omega) (by omega)
 with_reducible refine Post.mono k26 ?_
 rintro _ u24 g25 ⟨i22, rfl, h23⟩
 refine zzf 24 123 [j12.v, j17.v] ?_
 intro w27 u27 e27 d27
 have k32 := k_riMul d27 (hj12.ext (e16.trans (g19.ext.trans (e21.trans (g25.ext.trans e27))))).raw (hj17.ext (e21.trans (g25.ext.trans e27))).raw (by omega) (by omega)
 with_reducible refine Post.mono k32 ?_
 rintro _ u30 g31 ⟨i28, rfl, h29⟩
 refine zzf 25 43 [i22.v, i28.v] ?_
 intro w33 u33 e33 d33
 have k38 := k_reduce d33 (h23.ext (e27.trans (g31.ext.trans e33))).raw (h29.ext e33).raw (by omega) (by omega)
 with_reducible refine Post.mono k38 ?_
 rintro _ u36 g37 ⟨r34, rfl, h35⟩
 refine zzi ⟨29, r34.cs⟩ ty29 ?_
 refine zzb 26 [(4, .adr 4 0)] [(4, ⟨29, r34.cs⟩)] ?_
 refine zzn (ret0 [r34.v] ⟨zzq ty29 zzd, trivial⟩ fun u39 e40 => ?_)
 refine ⟨r34, rfl, RatN.more (K := (max (K + L) (K + L) + 1)) ?_ (by omega)⟩
 rw [hq12, hq17, ← Nt.mul_div2]
 exact (h35.ext e40)
theorem k_signed {u w : World} {s : Bool} {x : Sl} {N K : Nat} (d : Dat u w) (h : NatN u x N K) : Calls Tryz.prog 160 #[.bool s, x.v] w (Post u w fun v u' => ∃ i : IL, v = i.v ∧ IntN u' i (Nt.sg s N) K) := by
 refine zzl (args := [.bool s, .slice x.a x.n x.c]) Tryz.func160 rfl Tryz.ntmps160 (rs := [.cell 4 27]) Tryz.results160 (le_b rfl) (le_b rfl) d ?_
 refine sq9 ?_
 refine zzj 4 ⟨27, [.bool false, .slice none 0 0]⟩ ?_
 refine zzb 13 [(0, .v (.bool s)), (1, .v x.v), (4, .adr 4 0)] [(4, ⟨27, [.bool false, .slice none 0 0]⟩)] ?_
 refine sq9 ?_
 refine zza 5 (.v (.bool s)) ?_
 rcases Bool.eq_false_or_eq_true s with hs11 | hs11
 ·refine zyp 6 (x := .v (.bool s)) (.v (.bool true)) (by rw [hs11]) ?_
  refine zza 7 (.v x.v) ?_ (hw := w1 1 true 6)
  refine zza 8 (.v (.int .i64 (x.n : Int))) ?_ (hw := w1 1 true 6)
  refine zza 9 (.v (.bool (decide ((0 : Int) < (x.n : Int))))) ?_ (hw := w1 1 true 6)
  refine zza 10 (.v (.bool (decide ((0 : Int) < (x.n : Int))))) ?_
  refine zza 11 (.v x.v) ?_
  refine zza 12 (.v (.agg #[.bool (decide ((0 : Int) < (x.n : Int))), x.v])) ?_
  refine zzi ⟨27, [.bool (decide ((0 : Int) < (x.n : Int))), x.v]⟩ ty27 ?_
  refine zzb 13 [(4, .adr 4 0)] [(4, ⟨27, [.bool (decide ((0 : Int) < (x.n : Int))), x.v]⟩)] ?_
  refine zzn (ret0 [.agg #[.bool (decide ((0 : Int) < (x.n : Int))), .slice x.a x.n x.c]] ⟨zzq ty27 zzd, trivial⟩ fun u12 e13 => ?_)
  rw [hs11]
  exact ⟨⟨_, x⟩, rfl, signed_int (s := true) (h.ext e13)⟩
 ·refine zyp 6 (x := .v (.bool s)) (.v (.bool false)) (by rw [hs11]) ?_
  refine zzm 7 (uw 1 true false 6) ?_
  refine zzm 8 (uw 1 true false 6) ?_
  refine zzm 9 (uw 1 true false 6) ?_
  refine zza 10 (.v (.bool false)) ?_
  refine zza 11 (.v x.v) ?_
  refine zza 12 (.v (.agg #[.bool false, x.v])) ?_
  refine zzi ⟨27, [.bool false, x.v]⟩ ty27 ?_
  refine zzb 13 [(4, .adr 4 0)] [(4, ⟨27, [.bool false, x.v]⟩)] ?_
  refine zzn (ret0 [.agg #[.bool false, .slice x.a x.n x.c]] ⟨zzq ty27 zzd, trivial⟩ fun u14 e15 => ?_)
  rw [hs11]
  exact ⟨⟨_, x⟩, rfl, signed_int (s := false) (h.ext e15)⟩
theorem k_intTrim {u w : World} {i1 : IL} {zN : Int} {K : Nat} (d : Dat u w) (hi1 : IntV u i1 zN K) (hK : K ≤ 500000000) : Calls Tryz.prog 163 #[i1.v] w (Post u w fun v u' => ∃ i : IL, v = i.v ∧ IntN u' i zN K) := by
 obtain ⟨N, hN, hzN⟩ := hi1
 refine zzl (args := [i1.v]) Tryz.func163 rfl Tryz.ntmps163 (rs := [.cell 2 27]) Tryz.results163 (le_b rfl) (le_b rfl) d ?_
 refine sq9 ?_
 refine zzj 1 ⟨27, i1.cs⟩ ?_
 refine zzj 2 ⟨27, [.bool false, .slice none 0 0]⟩ ?_
 refine zzb 9 [(1, .adr 1 0), (2, .adr 2 0)] [(1, ⟨27, i1.cs⟩), (2, ⟨27, [.bool false, .slice none 0 0]⟩)] ?_
 refine zzc ?_
 refine zzy [0, 1, 0, 4, 12, 31, 63] [(0, []), (1, []), (2, []), (3, []), (4, []), (5, []), (6, [])] (by kernel_rfl) (by kernel_rfl) ?_
 refine zza 3 (.adr 1 0) ?_
 refine zzh 4 (.v (.bool i1.s)) ty4 zzk ?_
 refine zza 5 (.adr 1 1) ?_
 refine zzh 6 (.v i1.m.v) ty25 zzk ?_
 refine zzf 7 161 [i1.m.v] ?_
 intro w11 u11 e11 d11
 have k16 := k_natTrim d11 (hN.ext e11) (by omega)
 with_reducible refine Post.mono k16 ?_
 rintro _ u14 g15 ⟨x12, rfl, h13⟩
 refine zzf 8 160 [.bool i1.s, x12.v] ?_
 intro w17 u17 e17 d17
 have k22 := k_signed d17 (s := i1.s) (h13.ext e17)
 with_reducible refine Post.mono k22 ?_
 rintro _ u20 g21 ⟨i18, rfl, h19⟩
 refine zzi ⟨27, i18.cs⟩ ty27 ?_
 refine zzb 9 [(2, .adr 2 0)] [(2, ⟨27, i18.cs⟩)] ?_
 refine zzn (ret0 [i18.v] ⟨zzq ty27 zzd, trivial⟩ fun u23 e24 => ?_)
 refine ⟨i18, rfl, IntN.more (K := K) ?_ (by omega)⟩
 rw [hzN]
 exact (h19.ext e24)
theorem k_intMul {u w : World} {i1 : IL} {zN : Int} {K : Nat} {i2 : IL} {zM : Int} {L : Nat} (d : Dat u w) (hi1 : IntV u i1 zN K) (hi2 : IntV u i2 zM L) (hK : K ≤ 500000000) (hL : L ≤ 500000000) : Calls Tryz.prog 156 #[i1.v, i2.v] w (Post u w fun v u' => ∃ i : IL, v = i.v ∧ IntN u' i (zN * zM) (K + L)) := by
 obtain ⟨N, hN, hzN⟩ := hi1
 obtain ⟨M, hM, hzM⟩ := hi2
 refine zzl (args := [i1.v, i2.v]) Tryz.func156 rfl Tryz.ntmps156 (rs := [.cell 4 27]) Tryz.results156 (le_b rfl) (le_b rfl) d ?_
 refine sq9 ?_
 refine zzj 2 ⟨27, i1.cs⟩ ?_
 refine zzj 3 ⟨27, i2.cs⟩ ?_
 refine zzj 4 ⟨27, [.bool false, .slice none 0 0]⟩ ?_
 refine zzb 16 [(2, .adr 2 0), (3, .adr 3 0), (4, .adr 4 0)] [(2, ⟨27, i1.cs⟩), (3, ⟨27, i2.cs⟩), (4, ⟨27, [.bool false, .slice none 0 0]⟩)] ?_
 refine zzc ?_
 refine zzy [0, 1, 0, 4, 15, 0, 32, 0, 128, 480, 1023, 2047] [(0, []), (1, []), (2, []), (3, []), (4, []), (5, []), (6, []), (7, []), (8, []), (9, []), (10, []), (11, [])] (by kernel_rfl) (by kernel_rfl) ?_
 refine zza 5 (.adr 2 0) ?_
 refine zzh 6 (.v (.bool i1.s)) ty4 zzk ?_
 refine zza 7 (.adr 3 0) ?_
 refine zzh 8 (.v (.bool i2.s)) ty4 zzk ?_
 refine zza 9 (.v (.bool (!(i1.s == i2.s)))) ?_
 refine zza 10 (.adr 2 1) ?_
 refine zzh 11 (.v i1.m.v) ty25 zzk ?_
 refine zza 12 (.adr 3 1) ?_
 refine zzh 13 (.v i2.m.v) ty25 zzk ?_
 refine zzf 14 158 [i1.m.v, i2.m.v] ?_
 intro w11 u11 e11 d11
 have k16 := k_natMul d11 (hN.ext e11) (hM.ext e11) (by omega) (by omega)
 with_reducible refine Post.mono k16 ?_
 rintro _ u14 g15 ⟨x12, rfl, h13⟩
 refine zzf 15 160 [.bool (!(i1.s == i2.s)), x12.v] ?_
 intro w17 u17 e17 d17
 have k22 := k_signed d17 (s := !(i1.s == i2.s)) (h13.ext e17)
 with_reducible refine Post.mono k22 ?_
 rintro _ u20 g21 ⟨i18, rfl, h19⟩
 refine zzi ⟨27, i18.cs⟩ ty27 ?_
 refine zzb 16 [(4, .adr 4 0)] [(4, ⟨27, i18.cs⟩)] ?_
 refine zzn (ret0 [i18.v] ⟨zzq ty27 zzd, trivial⟩ fun u23 e24 => ?_)
 refine ⟨i18, rfl, IntN.more (K := (K + L)) ?_ (by omega)⟩
 rw [hzN, hzM, ← Nt.sg_mul]
 exact (h19.ext e24)
theorem k_intAdd {u w : World} {i1 : IL} {zN : Int} {K : Nat} {i2 : IL} {zM : Int} {L : Nat} (d : Dat u w) (hi1 : IntV u i1 zN K) (hi2 : IntV u i2 zM L) (hK : K ≤ 500000000) (hL : L ≤ 500000000) : Calls Tryz.prog 154 #[i1.v, i2.v] w (Post u w fun v u' => ∃ i : IL, v = i.v ∧ IntN u' i (zN + zM) (max K L + 1)) := by
 obtain ⟨N, hN, hzN⟩ := hi1
 obtain ⟨M, hM, hzM⟩ := hi2
 refine zzl (args := [i1.v, i2.v]) Tryz.func154 rfl Tryz.ntmps154 (rs := [.cell 4 27]) Tryz.results154 (le_b rfl) (le_b rfl) d ?_
 refine sq9 ?_
 refine zzj 2 ⟨27, i1.cs⟩ ?_
 refine zzj 3 ⟨27, i2.cs⟩ ?_
 refine zzj 4 ⟨27, [.bool false, .slice none 0 0]⟩ ?_
 refine zzb 40 [(2, .adr 2 0), (3, .adr 3 0), (4, .adr 4 0)] [(2, ⟨27, i1.cs⟩), (3, ⟨27, i2.cs⟩), (4, ⟨27, [.bool false, .slice none 0 0]⟩)] ?_
 refine zzc ?_
 refine sq9 ?_
 refine zza 5 (.adr 2 0) ?_
 refine zzh 6 (.v (.bool i1.s)) ty4 zzk ?_
 refine zza 7 (.adr 3 0) ?_
 refine zzh 8 (.v (.bool i2.s)) ty4 zzk ?_
 refine zza 9 (.v (.bool (i1.s == i2.s))) ?_
 refine zzb 40 [(2, .adr 2 0), (3, .adr 3 0), (4, .adr 4 0), (9, .v (.bool (i1.s == i2.s)))] [(2, ⟨27, i1.cs⟩), (3, ⟨27, i2.cs⟩), (4, ⟨27, [.bool false, .slice none 0 0]⟩)] ?_
 refine zzt (b := i1.s == i2.s) (by kernel_rfl) (fun hb11 => ?_) (fun hb11 => ?_)
 ·replace hb11 : (i1.s == i2.s) = true := hb11
  refine zzc ?_
  refine zzy [0, 1, 0, 4, 0, 16, 60, 127, 255] [(0, []), (1, []), (2, []), (3, []), (4, []), (5, []), (6, []), (7, []), (8, [])] (by kernel_rfl) (by kernel_rfl) ?_
  refine zza 10 (.adr 2 0) ?_
  refine zzh 11 (.v (.bool i1.s)) ty4 zzk ?_
  refine zza 12 (.adr 2 1) ?_
  refine zzh 13 (.v i1.m.v) ty25 zzk ?_
  refine zza 14 (.adr 3 1) ?_
  refine zzh 15 (.v i2.m.v) ty25 zzk ?_
  refine zzf 16 185 [i1.m.v, i2.m.v] ?_
  intro w12 u12 e12 d12
  have k17 := k_natAdd d12 (hN.ext e12) (hM.ext e12) (by omega) (by omega)
  with_reducible refine Post.mono k17 ?_
  rintro _ u15 g16 ⟨x13, rfl, h14⟩
  refine zzf 17 160 [.bool i1.s, x13.v] ?_
  intro w18 u18 e18 d18
  have k23 := k_signed d18 (s := i1.s) (h14.ext e18)
  with_reducible refine Post.mono k23 ?_
  rintro _ u21 g22 ⟨i19, rfl, h20⟩
  refine zzi ⟨27, i19.cs⟩ ty27 ?_
  refine zzb 40 [(4, .adr 4 0)] [(4, ⟨27, i19.cs⟩)] ?_
  refine zzn (zzv (ret0 [i19.v] ⟨zzq ty27 zzd, trivial⟩ fun u24 e25 => ?_))
  refine ⟨i19, rfl, IntN.more (K := (max K L + 1)) ?_ (by omega)⟩
  rw [hzN, hzM, ← Nt.sg_add1 N M hb11]
  exact (h20.ext e25)
 ·replace hb11 : (i1.s == i2.s) = false := hb11
  refine zzr (zzo ?_)
  refine zzc ?_
  refine sq9 ?_
  refine zza 18 (.adr 2 1) ?_
  refine zzh 19 (.v i1.m.v) ty25 zzk ?_
  refine zza 20 (.adr 3 1) ?_
  refine zzh 21 (.v i2.m.v) ty25 zzk ?_
  refine zzf 22 155 [i1.m.v, i2.m.v] ?_
  intro w26 u26 e26 d26
  have k29 := k_natCompare d26 (hN.ext e26) (hM.ext e26)
  with_reducible refine Post.mono k29 ?_
  rintro _ u27 g28 rfl
  refine zza 23 (.v (.bool ((Nt.cmpS N M) == (-1)))) ?_
  refine zzb 40 [(2, .adr 2 0), (3, .adr 3 0), (4, .adr 4 0), (23, .v (.bool ((Nt.cmpS N M) == (-1))))] [(2, ⟨27, i1.cs⟩), (3, ⟨27, i2.cs⟩), (4, ⟨27, [.bool false, .slice none 0 0]⟩)] ?_
  refine zzt (b := (Nt.cmpS N M) == (-1)) (by kernel_rfl) (fun hb30 => ?_) (fun hb30 => ?_)
  ·replace hb30 : ((Nt.cmpS N M) == (-1)) = true := hb30
   refine zzc ?_
   refine zzy [0, 1, 0, 4, 0, 16, 60, 127, 255] [(0, []), (1, []), (2, []), (3, []), (4, []), (5, []), (6, []), (7, []), (8, [])] (by kernel_rfl) (by kernel_rfl) ?_
   refine zza 24 (.adr 3 0) ?_
   refine zzh 25 (.v (.bool i2.s)) ty4 zzk ?_
   refine zza 26 (.adr 3 1) ?_
   refine zzh 27 (.v i2.m.v) ty25 zzk ?_
   refine zza 28 (.adr 2 1) ?_
   refine zzh 29 (.v i1.m.v) ty25 zzk ?_
   refine zzf 30 186 [i2.m.v, i1.m.v] ?_
   intro w31 u31 e31 d31
   have k36 := k_natSub d31 (hM.ext (e26.trans (g28.ext.trans e31))) (hN.ext (e26.trans (g28.ext.trans e31))) (by omega) (by omega)
   with_reducible refine Post.mono k36 ?_
   rintro _ u34 g35 ⟨x32, rfl, h33⟩
   refine zzf 31 160 [.bool i2.s, x32.v] ?_
   intro w37 u37 e37 d37
   have k42 := k_signed d37 (s := i2.s) (h33.ext e37)
   with_reducible refine Post.mono k42 ?_
   rintro _ u40 g41 ⟨i38, rfl, h39⟩
   refine zzi ⟨27, i38.cs⟩ ty27 ?_
   refine zzb 40 [(4, .adr 4 0)] [(4, ⟨27, i38.cs⟩)] ?_
   refine zzn (zzv (ret0 [i38.v] ⟨zzq ty27 zzd, trivial⟩ fun u43 e44 => ?_))
   refine ⟨i38, rfl, IntN.more (K := L) ?_ (by omega)⟩
   rw [hzN, hzM, ← Nt.sg_add2 N M hb11 hb30]
   exact (h39.ext e44)
  ·replace hb30 : ((Nt.cmpS N M) == (-1)) = false := hb30
   refine zzr (zzo ?_)
   refine zzc ?_
   refine zzy [0, 1, 0, 4, 0, 16, 60, 127, 255] [(0, []), (1, []), (2, []), (3, []), (4, []), (5, []), (6, []), (7, []), (8, [])] (by kernel_rfl) (by kernel_rfl) ?_
   refine zza 32 (.adr 2 0) ?_
   refine zzh 33 (.v (.bool i1.s)) ty4 zzk ?_
   refine zza 34 (.adr 2 1) ?_
   refine zzh 35 (.v i1.m.v) ty25 zzk ?_
   refine zza 36 (.adr 3 1) ?_
   refine zzh 37 (.v i2.m.v) ty25 zzk ?_
   refine zzf 38 186 [i1.m.v, i2.m.v] ?_
   intro w45 u45 e45 d45
   have k50 := k_natSub d45 (hN.ext (e26.trans (g28.ext.trans e45))) (hM.ext (e26.trans (g28.ext.trans e45))) (by omega) (by omega)
   with_reducible refine Post.mono k50 ?_
   rintro _ u48 g49 ⟨x46, rfl, h47⟩
   refine zzf 39 160 [.bool i1.s, x46.v] ?_
   intro w51 u51 e51 d51
   have k56 := k_signed d51 (s := i1.s) (h47.ext e51)
   with_reducible refine Post.mono k56 ?_
   rintro _ u54 g55 ⟨i52, rfl, h53⟩
   refine zzi ⟨27, i52.cs⟩ ty27 ?_
   refine zzb 40 [(4, .adr 4 0)] [(4, ⟨27, i52.cs⟩)] ?_
   refine zzn (ret0 [i52.v] ⟨zzq ty27 zzd, trivial⟩ fun u57 e58 => ?_)
   refine ⟨i52, rfl, IntN.more (K := K) ?_ (by omega)⟩
   rw [hzN, hzM, ← Nt.sg_add3 N M hb11 hb30]
   exact (h53.ext e58)
theorem k_intSign {u w : World} {i1 : IL} {zN : Int} {K : Nat} (d : Dat u w) (hi1 : IntV u i1 zN K)  : Calls Tryz.prog 178 #[i1.v] w (Post u w fun v u' => v = .int .i64 (Nt.cmpS zN 0)) := by
 obtain ⟨N, hN, hzN⟩ := hi1
 refine zzl (args := [i1.v]) Tryz.func178 rfl Tryz.ntmps178 (rs := [.tmp 2]) Tryz.results178 (le_b rfl) (le_b rfl) d ?_
 refine sq9 ?_
 refine zzj 1 ⟨27, i1.cs⟩ ?_
 refine zza 2 (.v (.int .i64 0)) ?_
 refine zzb 11 [(1, .adr 1 0)] [(1, ⟨27, i1.cs⟩)] ?_
 refine zzc ?_
 refine zzs ?_
 refine sq9 ?_
 refine zza 4 (.adr 1 1) ?_
 refine zzh 5 (.v i1.m.v) ty25 zzk ?_
 refine zzf 6 155 [i1.m.v, .slice none 0 0] ?_
 intro w11 u11 e11 d11
 have k14 := k_natCompare d11 (hN.ext e11) (nat_nil _ 1)
 with_reducible refine Post.mono k14 ?_
 rintro _ u12 g13 rfl
 refine zza 7 (.v (.bool ((Nt.cmpS N 0) == 0))) ?_
 refine zza 3 (.v (.bool ((Nt.cmpS N 0) == 0))) ?_
 refine zzb 11 [(1, .adr 1 0), (3, .v (.bool ((Nt.cmpS N 0) == 0)))] [(1, ⟨27, i1.cs⟩)] ?_
 refine zzt (b := (Nt.cmpS N 0) == 0) (by kernel_rfl) (fun hb15 => ?_) (fun hb15 => ?_)
 ·replace hb15 : ((Nt.cmpS N 0) == 0) = true := hb15
  refine sq9 ?_
  refine zza 2 (.v (.int .i64 0)) ?_
  refine zzb 11 [(2, .v (.int .i64 0))] [] ?_
  refine zzn (zyt (zzv (ret0 [.int .i64 0] ⟨zzp, trivial⟩ fun u16 e17 => ?_)))
  show _ = _
  rw [hzN, Nt.sg_cmp0, if_pos hb15]
  rfl
 ·replace hb15 : ((Nt.cmpS N 0) == 0) = false := hb15
  refine sq9 ?_
  refine zza 9 (.adr 1 0) ?_
  refine zzh 10 (.v (.bool i1.s)) ty4 zzk ?_
  refine zza 8 (.v (.bool i1.s)) ?_
  refine zzb 11 [(8, .v (.bool i1.s))] [] ?_
  refine zzt (b := i1.s) (by kernel_rfl) (fun hb18 => ?_) (fun hb18 => ?_)
  ·replace hb18 : i1.s = true := hb18
   refine sq9 ?_
   refine zza 2 (.v (.int .i64 (-1))) ?_
   refine zzb 11 [(2, .v (.int .i64 (-1)))] [] ?_
   refine zzn (zyt (zzv (ret0 [.int .i64 (-1)] ⟨zzp, trivial⟩ fun u19 e20 => ?_)))
   show _ = _
   rw [hzN, Nt.sg_cmp0, if_neg (ne_true_of_eq_false hb15), if_pos hb18]
   rfl
  ·replace hb18 : i1.s = false := hb18
   refine zzr (zzo ?_)
   refine sq9 ?_
   refine zza 2 (.v (.int .i64 1)) ?_
   refine zzb 11 [(2, .v (.int .i64 1))] [] ?_
   refine zzn (ret0 [.int .i64 1] ⟨zzp, trivial⟩ fun u21 e22 => ?_)
   show _ = _
   rw [hzN, Nt.sg_cmp0, if_neg (ne_true_of_eq_false hb15), if_neg (ne_true_of_eq_false hb18)]
   rfl
namespace Nt
theorem cmp_sg (s t : Bool) (N M : Nat) : cmpS (sg s N) (sg t M) = if decide (cmpS (sg s N) 0 < cmpS (sg t M) 0) = true then -1 else if decide (cmpS (sg t M) 0 < cmpS (sg s N) 0) = true then 1 else if (cmpS (sg s N) 0 == -1) = true then cmpS (M : Int) (N : Int) else cmpS (N : Int) (M : Int) := by
 rcases cmp_range (sg s N) 0 with ⟨e, h⟩ | ⟨e, h⟩ | ⟨e, h⟩ <;> rcases cmp_range (sg t M) 0 with ⟨e', h'⟩ | ⟨e', h'⟩ | ⟨e', h'⟩ <;> rw [e, e'] <;> simp
 ·unfold sg at *; cases s <;> cases t <;> simp at h h' ⊢ <;> unfold cmpS <;> (repeat' split) <;> first | rfl | omega
 ·exact cmp_lt (by omega)
 ·exact cmp_lt (by omega)
 ·exact cmp_gt (by omega)
 ·rw [h, h']; unfold sg at *; cases s <;> cases t <;> simp at h h' <;> rw [h, h'] <;> rfl
 ·exact cmp_lt (by omega)
 ·exact cmp_gt (by omega)
 ·exact cmp_gt (by omega)
 ·unfold sg at *; cases s <;> cases t <;> simp at h h' ⊢ <;> first | rfl | omega
end Nt
theorem k_intCompare {u w : World} {i1 : IL} {zN : Int} {K : Nat} {i2 : IL} {zM : Int} {L : Nat} (d : Dat u w) (hi1 : IntV u i1 zN K) (hi2 : IntV u i2 zM L)  : Calls Tryz.prog 184 #[i1.v, i2.v] w (Post u w fun v u' => v = .int .i64 (Nt.cmpS zN zM)) := by
 obtain ⟨N, hN, hzN⟩ := hi1
 obtain ⟨M, hM, hzM⟩ := hi2
 refine zzl (args := [i1.v, i2.v]) Tryz.func184 rfl Tryz.ntmps184 (rs := [.tmp 4]) Tryz.results184 (le_b rfl) (le_b rfl) d ?_
 refine sq9 ?_
 refine zzj 2 ⟨27, i1.cs⟩ ?_
 refine zzj 3 ⟨27, i2.cs⟩ ?_
 refine zza 4 (.v (.int .i64 0)) ?_
 refine zzb 32 [(2, .adr 2 0), (3, .adr 3 0)] [(2, ⟨27, i1.cs⟩), (3, ⟨27, i2.cs⟩)] ?_
 refine zzc ?_
 refine zzy [0, 1, 0, 7, 15, 31] [(0, []), (2, []), (1, []), (3, []), (4, []), (5, [])] (by kernel_rfl) (by kernel_rfl) ?_
 refine zzh 7 (.v (i1.v)) ty27 zzd ?_
 refine zzh 9 (.v (i2.v)) ty27 zzd ?_
 refine zzf 8 178 [i1.v] ?_
 intro w11 u11 e11 d11
 have k14 := k_intSign d11 (IntV.same (s := i1.s) (hN.ext e11))
 with_reducible refine Post.mono k14 ?_
 rintro _ u12 g13 rfl
 refine zzf 10 178 [i2.v] ?_
 intro w15 u15 e15 d15
 have k18 := k_intSign d15 (IntV.same (s := i2.s) (hM.ext (e11.trans (g13.ext.trans e15))))
 with_reducible refine Post.mono k18 ?_
 rintro _ u16 g17 rfl
 refine zza 5 (.v (.int .i64 (Nt.cmpS (Nt.sg i1.s N) 0))) ?_
 refine zza 6 (.v (.int .i64 (Nt.cmpS (Nt.sg i2.s M) 0))) ?_
 refine zzb 32 [(2, .adr 2 0), (3, .adr 3 0), (5, .v (.int .i64 (Nt.cmpS (Nt.sg i1.s N) 0))), (6, .v (.int .i64 (Nt.cmpS (Nt.sg i2.s M) 0)))] [(2, ⟨27, i1.cs⟩), (3, ⟨27, i2.cs⟩)] ?_
 refine zzc ?_
 refine zzs ?_
 refine sq9 ?_
 refine zza 12 (.v (.int .i64 (Nt.cmpS (Nt.sg i1.s N) 0))) ?_
 refine zza 13 (.v (.int .i64 (Nt.cmpS (Nt.sg i2.s M) 0))) ?_
 refine zza 14 (.v (.bool (decide ((Nt.cmpS (Nt.sg i1.s N) 0) < (Nt.cmpS (Nt.sg i2.s M) 0))))) ?_
 refine zza 11 (.v (.bool (decide ((Nt.cmpS (Nt.sg i1.s N) 0) < (Nt.cmpS (Nt.sg i2.s M) 0))))) ?_
 refine zzb 32 [(2, .adr 2 0), (3, .adr 3 0), (5, .v (.int .i64 (Nt.cmpS (Nt.sg i1.s N) 0))), (6, .v (.int .i64 (Nt.cmpS (Nt.sg i2.s M) 0))), (11, .v (.bool (decide ((Nt.cmpS (Nt.sg i1.s N) 0) < (Nt.cmpS (Nt.sg i2.s M) 0)))))] [(2, ⟨27, i1.cs⟩), (3, ⟨27, i2.cs⟩)] ?_
 refine zzt (b := decide ((Nt.cmpS (Nt.sg i1.s N) 0) < (Nt.cmpS (Nt.sg i2.s M) 0))) (by kernel_rfl) (fun hb19 => ?_) (fun hb19 => ?_)
 ·replace hb19 : (decide ((Nt.cmpS (Nt.sg i1.s N) 0) < (Nt.cmpS (Nt.sg i2.s M) 0))) = true := hb19
  have qhb19 := of_decide_eq_true hb19
  refine sq9 ?_
  refine zza 4 (.v (.int .i64 (-1))) ?_
  refine zzb 32 [(4, .v (.int .i64 (-1)))] [] ?_
  refine zzn (zyt (zzv (ret0 [.int .i64 (-1)] ⟨zzp, trivial⟩ fun u20 e21 => ?_)))
  show _ = _
  rw [hzN, hzM, Nt.cmp_sg, if_pos hb19]
  rfl
 ·replace hb19 : (decide ((Nt.cmpS (Nt.sg i1.s N) 0) < (Nt.cmpS (Nt.sg i2.s M) 0))) = false := hb19
  have qhb19 := of_decide_eq_false hb19
  refine sq9 ?_
  refine zza 16 (.v (.int .i64 (Nt.cmpS (Nt.sg i1.s N) 0))) ?_
  refine zza 17 (.v (.int .i64 (Nt.cmpS (Nt.sg i2.s M) 0))) ?_
  refine zza 18 (.v (.bool (decide ((Nt.cmpS (Nt.sg i2.s M) 0) < (Nt.cmpS (Nt.sg i1.s N) 0))))) ?_
  refine zza 15 (.v (.bool (decide ((Nt.cmpS (Nt.sg i2.s M) 0) < (Nt.cmpS (Nt.sg i1.s N) 0))))) ?_
  refine zzb 32 [(2, .adr 2 0), (3, .adr 3 0), (5, .v (.int .i64 (Nt.cmpS (Nt.sg i1.s N) 0))), (15, .v (.bool (decide ((Nt.cmpS (Nt.sg i2.s M) 0) < (Nt.cmpS (Nt.sg i1.s N) 0)))))] [(2, ⟨27, i1.cs⟩), (3, ⟨27, i2.cs⟩)] ?_
  refine zzt (b := decide ((Nt.cmpS (Nt.sg i2.s M) 0) < (Nt.cmpS (Nt.sg i1.s N) 0))) (by kernel_rfl) (fun hb22 => ?_) (fun hb22 => ?_)
  ·replace hb22 : (decide ((Nt.cmpS (Nt.sg i2.s M) 0) < (Nt.cmpS (Nt.sg i1.s N) 0))) = true := hb22
   have qhb22 := of_decide_eq_true hb22
   refine sq9 ?_
   refine zza 4 (.v (.int .i64 1)) ?_
   refine zzb 32 [(4, .v (.int .i64 1))] [] ?_
   refine zzn (zyt (zzv (ret0 [.int .i64 1] ⟨zzp, trivial⟩ fun u23 e24 => ?_)))
   show _ = _
   rw [hzN, hzM, Nt.cmp_sg, if_neg (ne_true_of_eq_false hb19), if_pos hb22]
   rfl
  ·replace hb22 : (decide ((Nt.cmpS (Nt.sg i2.s M) 0) < (Nt.cmpS (Nt.sg i1.s N) 0))) = false := hb22
   have qhb22 := of_decide_eq_false hb22
   refine sq9 ?_
   refine zza 20 (.v (.int .i64 (Nt.cmpS (Nt.sg i1.s N) 0))) ?_
   refine zza 21 (.v (.bool ((Nt.cmpS (Nt.sg i1.s N) 0) == (-1)))) ?_
   refine zza 19 (.v (.bool ((Nt.cmpS (Nt.sg i1.s N) 0) == (-1)))) ?_
   refine zzb 32 [(2, .adr 2 0), (3, .adr 3 0), (19, .v (.bool ((Nt.cmpS (Nt.sg i1.s N) 0) == (-1))))] [(2, ⟨27, i1.cs⟩), (3, ⟨27, i2.cs⟩)] ?_
   refine zzt (b := (Nt.cmpS (Nt.sg i1.s N) 0) == (-1)) (by kernel_rfl) (fun hb25 => ?_) (fun hb25 => ?_)
   ·replace hb25 : ((Nt.cmpS (Nt.sg i1.s N) 0) == (-1)) = true := hb25
    refine sq9 ?_
    refine zza 22 (.adr 3 1) ?_
    refine zzh 23 (.v i2.m.v) ty25 zzk ?_
    refine zza 24 (.adr 2 1) ?_
    refine zzh 25 (.v i1.m.v) ty25 zzk ?_
    refine zzf 26 155 [i2.m.v, i1.m.v] ?_
    intro w26 u26 e26 d26
    have k29 := k_natCompare d26 (hM.ext (e11.trans (g13.ext.trans (e15.trans (g17.ext.trans e26))))) (hN.ext (e11.trans (g13.ext.trans (e15.trans (g17.ext.trans e26)))))
    with_reducible refine Post.mono k29 ?_
    rintro _ u27 g28 rfl
    refine zza 4 (.v (.int .i64 (Nt.cmpS M N))) ?_
    refine zzb 32 [(4, .v (.int .i64 (Nt.cmpS M N)))] [] ?_
    refine zzn (zyt (zzv (ret0 [.int .i64 (Nt.cmpS M N)] ⟨zzp, trivial⟩ fun u30 e31 => ?_)))
    show _ = _
    rw [hzN, hzM, Nt.cmp_sg, if_neg (ne_true_of_eq_false hb19), if_neg (ne_true_of_eq_false hb22), if_pos hb25]
    rfl
   ·replace hb25 : ((Nt.cmpS (Nt.sg i1.s N) 0) == (-1)) = false := hb25
    refine zzr (zzo ?_)
    refine sq9 ?_
    refine zza 27 (.adr 2 1) ?_
    refine zzh 28 (.v i1.m.v) ty25 zzk ?_
    refine zza 29 (.adr 3 1) ?_
    refine zzh 30 (.v i2.m.v) ty25 zzk ?_
    refine zzf 31 155 [i1.m.v, i2.m.v] ?_
    intro w32 u32 e32 d32
    have k35 := k_natCompare d32 (hN.ext (e11.trans (g13.ext.trans (e15.trans (g17.ext.trans e32))))) (hM.ext (e11.trans (g13.ext.trans (e15.trans (g17.ext.trans e32)))))
    with_reducible refine Post.mono k35 ?_
    rintro _ u33 g34 rfl
    refine zza 4 (.v (.int .i64 (Nt.cmpS N M))) ?_
    refine zzb 32 [(4, .v (.int .i64 (Nt.cmpS N M)))] [] ?_
    refine zzn (ret0 [.int .i64 (Nt.cmpS N M)] ⟨zzp, trivial⟩ fun u36 e37 => ?_)
    show _ = _
    rw [hzN, hzM, Nt.cmp_sg, if_neg (ne_true_of_eq_false hb19), if_neg (ne_true_of_eq_false hb22), if_neg (ne_true_of_eq_false hb25)]
    rfl
theorem k_intOf {u w : World} {z : Int} (d : Dat u w) (h0 : -9223372036854775808 ≤ z) (h1 : z ≤ 9223372036854775807) : Calls Tryz.prog 115 #[.int .i64 z] w (Post u w fun v u' => ∃ i : IL, v = i.v ∧ IntN u' i z 2) := by
 by_cases hneg : z < 0
 ·refine zzl (args := [.int .i64 z]) Tryz.func115 rfl Tryz.ntmps115 (rs := [.cell 2 27]) Tryz.results115 (le_b rfl) (le_b rfl) d ?_
  refine sq9 ?_
  refine zzj 2 ⟨27, [.bool false, .slice none 0 0]⟩ ?_
  refine zzb 20 [(0, .v (.int .i64 z)), (2, .adr 2 0)] [(2, ⟨27, [.bool false, .slice none 0 0]⟩)] ?_
  refine sq9 ?_
  refine zza 4 (.v (.int .i64 z)) ?_
  refine zyp 5 (x := .v (.int .u64 (IntKind.u64.wrap z))) (.v (.int .u64 (z + 18446744073709551616))) (by rw [show (IntKind.u64.wrap z) = (z + 18446744073709551616) from (by simp [IntKind.wrap, IntKind.bits, IntKind.signed]; omega)]) ?_
  refine zza 3 (.v (.int .u64 (z + 18446744073709551616))) ?_
  refine zzb 20 [(0, .v (.int .i64 z)), (2, .adr 2 0), (3, .v (.int .u64 (z + 18446744073709551616)))] [(2, ⟨27, [.bool false, .slice none 0 0]⟩)] ?_
  refine zzc ?_
  refine sq9 ?_
  refine zza 6 (.v (.int .i64 z)) ?_
  refine zyp 7 (x := .v (.bool (decide (z < 0)))) (.v (.bool true)) (by rw [show (decide (z < 0)) = true from (by simp; omega)]) ?_
  refine zzb 20 [(0, .v (.int .i64 z)), (2, .adr 2 0), (3, .v (.int .u64 (z + 18446744073709551616))), (7, .v (.bool true))] [(2, ⟨27, [.bool false, .slice none 0 0]⟩)] ?_
  refine zyq (by kernel_rfl) ?_
  refine zze ?_
  refine zza 8 (.v (.int .u64 (z + 18446744073709551616))) ?_
  refine zyp 9 (x := .v (.int .u64 (IntKind.u64.wrap (0 - (z + 18446744073709551616))))) (.v (.int .u64 (-z))) (by rw [show (IntKind.u64.wrap (0 - (z + 18446744073709551616))) = (-z) from (by simp [IntKind.wrap, IntKind.bits, IntKind.signed]; omega)]) ?_
  refine zza 3 (.v (.int .u64 (-z))) ?_
  refine zzb 20 [(0, .v (.int .i64 z)), (2, .adr 2 0), (3, .v (.int .u64 (-z)))] [(2, ⟨27, [.bool false, .slice none 0 0]⟩)] ?_
  refine sq9 ?_
  refine zza 10 (.v (.int .i64 z)) ?_
  refine zyp 11 (x := .v (.bool (decide (z < 0)))) (.v (.bool true)) (by rw [show (decide (z < 0)) = true from (by simp; omega)]) ?_
  refine zza 12 (.v (.int .u64 (-z))) ?_
  refine zyp 13 (x := .v (.int .u32 (IntKind.u32.wrap (-z)))) (.v (.int .u32 ((-z) % 4294967296))) (by rw [show (IntKind.u32.wrap (-z)) = ((-z) % 4294967296) from (IntKind.wrap_u32 _)]) ?_
  refine zza 14 (.v (.int .u64 (-z))) ?_
  refine zyp 15 (x := .v (.int .u64 (Int.fdiv (-z) (2 ^ 32)))) (.v (.int .u64 ((-z) / 4294967296))) (by rw [show (Int.fdiv (-z) (2 ^ 32)) = ((-z) / 4294967296) from (by rw [Int.fdiv_eq_ediv_of_nonneg _ (by decide)]; rfl)]) ?_
  refine zyp 16 (x := .v (.int .u32 (IntKind.u32.wrap ((-z) / 4294967296)))) (.v (.int .u32 ((-z) / 4294967296))) (by rw [show (IntKind.u32.wrap ((-z) / 4294967296)) = ((-z) / 4294967296) from (IntWalk.u32_in _ (by omega))]) ?_
  refine sy_data 17 ⟨102, [.int .u32 ((-z) % 4294967296), .int .u32 ((-z) / 4294967296)]⟩ 2 (fun b11 u12 e13 h14 => ?_)
  refine zzf 18 161 [.slice (some ⟨b11, 0, none⟩) 2 2] ?_
  intro w15 u15 e15 d15
  have k20 := k_natTrim d15 ((two_data (N := z.natAbs) h14 (by omega) (by omega) (by omega)).ext e15) (by omega)
  with_reducible refine Post.mono k20 ?_
  rintro _ u18 g19 ⟨x16, rfl, h17⟩
  refine zzf 19 160 [.bool true, x16.v] ?_
  intro w21 u21 e21 d21
  have k26 := k_signed d21 (s := true) (h17.ext e21)
  with_reducible refine Post.mono k26 ?_
  rintro _ u24 g25 ⟨i22, rfl, h23⟩
  refine zzi ⟨27, i22.cs⟩ ty27 ?_
  refine zzb 20 [(2, .adr 2 0)] [(2, ⟨27, i22.cs⟩)] ?_
  refine zzn (ret0 [i22.v] ⟨zzq ty27 zzd, trivial⟩ fun u27 e28 => ?_)
  refine ⟨i22, rfl, IntN.more (K := 2) ?_ (by omega)⟩
  have e : z = Nt.sg true z.natAbs := by unfold Nt.sg; simp; omega
  rw [e]
  exact (h23.ext e28)
 ·refine zzl (args := [.int .i64 z]) Tryz.func115 rfl Tryz.ntmps115 (rs := [.cell 2 27]) Tryz.results115 (le_b rfl) (le_b rfl) d ?_
  refine sq9 ?_
  refine zzj 2 ⟨27, [.bool false, .slice none 0 0]⟩ ?_
  refine zzb 20 [(0, .v (.int .i64 z)), (2, .adr 2 0)] [(2, ⟨27, [.bool false, .slice none 0 0]⟩)] ?_
  refine sq9 ?_
  refine zza 4 (.v (.int .i64 z)) ?_
  refine zyp 5 (x := .v (.int .u64 (IntKind.u64.wrap z))) (.v (.int .u64 (z))) (by rw [show (IntKind.u64.wrap z) = z from (by simp [IntKind.wrap, IntKind.bits, IntKind.signed]; omega)]) ?_
  refine zza 3 (.v (.int .u64 z)) ?_
  refine zzb 20 [(0, .v (.int .i64 z)), (2, .adr 2 0), (3, .v (.int .u64 z))] [(2, ⟨27, [.bool false, .slice none 0 0]⟩)] ?_
  refine zzc ?_
  refine sq9 ?_
  refine zza 6 (.v (.int .i64 z)) ?_
  refine zyp 7 (x := .v (.bool (decide (z < 0)))) (.v (.bool false)) (by rw [show (decide (z < 0)) = false from (by simp; omega)]) ?_
  refine zzb 20 [(0, .v (.int .i64 z)), (2, .adr 2 0), (3, .v (.int .u64 z)), (7, .v (.bool false))] [(2, ⟨27, [.bool false, .slice none 0 0]⟩)] ?_
  refine zyr (by kernel_rfl) ?_
  refine zzr (zzo ?_)
  refine sq9 ?_
  refine zza 10 (.v (.int .i64 z)) ?_
  refine zyp 11 (x := .v (.bool (decide (z < 0)))) (.v (.bool false)) (by rw [show (decide (z < 0)) = false from (by simp; omega)]) ?_
  refine zza 12 (.v (.int .u64 z)) ?_
  refine zyp 13 (x := .v (.int .u32 (IntKind.u32.wrap (z)))) (.v (.int .u32 ((z) % 4294967296))) (by rw [show (IntKind.u32.wrap (z)) = ((z) % 4294967296) from (IntKind.wrap_u32 _)]) ?_
  refine zza 14 (.v (.int .u64 z)) ?_
  refine zyp 15 (x := .v (.int .u64 (Int.fdiv (z) (2 ^ 32)))) (.v (.int .u64 ((z) / 4294967296))) (by rw [show (Int.fdiv (z) (2 ^ 32)) = ((z) / 4294967296) from (by rw [Int.fdiv_eq_ediv_of_nonneg _ (by decide)]; rfl)]) ?_
  refine zyp 16 (x := .v (.int .u32 (IntKind.u32.wrap ((z) / 4294967296)))) (.v (.int .u32 ((z) / 4294967296))) (by rw [show (IntKind.u32.wrap ((z) / 4294967296)) = ((z) / 4294967296) from (IntWalk.u32_in _ (by omega))]) ?_
  refine sy_data 17 ⟨102, [.int .u32 ((z) % 4294967296), .int .u32 ((z) / 4294967296)]⟩ 2 (fun b11 u12 e13 h14 => ?_)
  refine zzf 18 161 [.slice (some ⟨b11, 0, none⟩) 2 2] ?_
  intro w15 u15 e15 d15
  have k20 := k_natTrim d15 ((two_data (N := z.natAbs) h14 (by omega) (by omega) (by omega)).ext e15) (by omega)
  with_reducible refine Post.mono k20 ?_
  rintro _ u18 g19 ⟨x16, rfl, h17⟩
  refine zzf 19 160 [.bool false, x16.v] ?_
  intro w21 u21 e21 d21
  have k26 := k_signed d21 (s := false) (h17.ext e21)
  with_reducible refine Post.mono k26 ?_
  rintro _ u24 g25 ⟨i22, rfl, h23⟩
  refine zzi ⟨27, i22.cs⟩ ty27 ?_
  refine zzb 20 [(2, .adr 2 0)] [(2, ⟨27, i22.cs⟩)] ?_
  refine zzn (ret0 [i22.v] ⟨zzq ty27 zzd, trivial⟩ fun u27 e28 => ?_)
  refine ⟨i22, rfl, IntN.more (K := 2) ?_ (by omega)⟩
  have e : z = Nt.sg false z.natAbs := by unfold Nt.sg; simp; omega
  rw [e]
  exact (h23.ext e28)
end Go.Proofs.YtmonfdlnihaabaaGreat
