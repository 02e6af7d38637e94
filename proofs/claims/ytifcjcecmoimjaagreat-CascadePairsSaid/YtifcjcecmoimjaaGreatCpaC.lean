/- Parts of the proof: contracts of functions, each walked once, and plain laws. -/
import Derived.Test.YtifcjcecmoimjaaGreatCpaB
import Derived.ArgAppend
import Derived.Laws.StructEq
import Derived.ChangeKeysEq
import Derived.Test.YtifcjcecmoimjaaGreatProg
import Derived.KernelRfl
namespace Go.Proofs.YtifcjcecmoimjaaGreat
set_option linter.unusedVariables false
namespace Nt
def Wh (x : Rat) (C : Nat) : Prop := ∃ z : Int, x = (z : Rat) ∧ z.natAbs ≤ 2 ^ C
def WhL (l : List Rat) (C : Nat) : Prop := ∀ i, Wh (co l i) C
def dg (C : Nat) : Nat := C / 32 + 1
theorem dg_mono {A C : Nat} (h : A ≤ C) : dg A ≤ dg C := by unfold dg; omega
theorem Wh.more {x : Rat} {A C : Nat} (h : Wh x A) (k : A ≤ C) : Wh x C := by
 obtain ⟨z, e, b⟩ := h
 exact ⟨z, e, Nat.le_trans b (Nat.pow_le_pow_right xq k)⟩
theorem WhL.more {l : List Rat} {A C : Nat} (h : WhL l A) (k : A ≤ C) : WhL l C := fun i => (h i).more k
theorem Wh.zero (C : Nat) : Wh 0 C := ⟨0, rfl, Nat.zero_le _⟩
theorem Wh.one (C : Nat) : Wh 1 C := ⟨1, rfl, Nat.pos_of_ne_zero (by exact Nat.ne_of_gt (Nat.pow_pos xq))⟩
theorem Wh.mul {x y : Rat} {A B : Nat} (h : Wh x A) (k : Wh y B) : Wh (x * y) (A + B) := by
 obtain ⟨z, rfl, b⟩ := h
 obtain ⟨v, rfl, c⟩ := k
 exact ⟨z * v, by rw [Rat.intCast_mul], by rw [Int.natAbs_mul, Nat.pow_add]; exact Nat.mul_le_mul b c⟩
theorem Wh.sub {x y : Rat} {A : Nat} (h : Wh x A) (k : Wh y A) : Wh (x - y) (A + 1) := by
 obtain ⟨z, rfl, b⟩ := h
 obtain ⟨v, rfl, c⟩ := k
 exact ⟨z - v, by rw [Rat.intCast_sub], by rw [Nat.pow_succ]; omega⟩
theorem Wh.add {x y : Rat} {A : Nat} (h : Wh x A) (k : Wh y A) : Wh (x + y) (A + 1) := by
 obtain ⟨z, rfl, b⟩ := h
 obtain ⟨v, rfl, c⟩ := k
 exact ⟨z + v, by rw [Rat.intCast_add], by rw [Nat.pow_succ]; omega⟩
theorem pwTwo (k : Nat) : pw k = ((2 ^ (32 * k) : Nat) : Int) := by
 induction k with
 | zero => rfl
 | succ k ih =>
  rw [show 32 * (k + 1) = 32 * k + 32 by omega, Nat.pow_add, Int.natCast_mul, ← ih]
  show 4294967296 * pw k = _
  rw [Int.mul_comm]; rfl
theorem Wh.rs {x : Rat} {C : Nat} (h : Wh x C) : rs x ≤ dg C := by
 obtain ⟨z, rfl, b⟩ := h
 refine rs_int ?_ (by unfold dg; omega)
 refine dl_le ?_
 rw [pwTwo]
 refine Int.ofNat_lt.2 (Nat.lt_of_le_of_lt b (Nat.pow_lt_pow_right xq (by unfold dg; omega)))
theorem Wh.quo {x y : Rat} {A B : Nat} (h : Wh x A) (k : Wh y B) (hy : y ≠ 0) : Wh ((x / y).num : Rat) A ∧ Wh (((x / y).den : Nat) : Int) B := by
 obtain ⟨z, rfl, b⟩ := h
 obtain ⟨v, rfl, c⟩ := k
 have hv : v ≠ 0 := by rintro rfl; exact hy rfl
 rw [← div_mk2 hv]
 have hp : 0 < v.natAbs := Int.natAbs_pos.2 hv
 refine ⟨⟨_, rfl, ?_⟩, ⟨_, rfl, ?_⟩⟩
 ·rw [(mk_num hp).1, quoI_abs]
  exact Nat.le_trans (Nat.div_le_self _ _) b
 ·rw [(mk_den hp).1, Int.natAbs_natCast]
  exact Nat.le_trans (Nat.div_le_self _ _) c
theorem co_take {l : List Rat} {n i : Nat} (h : i < n) : co (l.take n) i = l.getD i 0 := by
 unfold co
 rw [List.getD_eq_getElem?_getD, List.getElem?_take_of_lt h, ← List.getD_eq_getElem?_getD]
def mulN (n : Nat) (l : List Rat) (q : Rat) : List Rat := (List.range l.length).map fun i => if i < n then co l i * q else co l i
@[simp] theorem mulN_len (n : Nat) (l : List Rat) (q : Rat) : (mulN n l q).length = l.length := by simp [mulN]
theorem mulN_co (n : Nat) (l : List Rat) (q : Rat) (i : Nat) : co (mulN n l q) i = if i < n then co l i * q else co l i := by
 unfold mulN
 rw [co_range]
 by_cases h : i < l.length
 ·rw [if_pos h]
 ·rw [if_neg h, co_ge xq]
  split
  ·exact (Rat.zero_mul q).symm
  ·rfl
theorem list_ext {l m : List Rat} (hl : l.length = m.length) (h : ∀ i, co l i = co m i) : l = m := by
 apply List.ext_getElem? 
 intro i
 have := h i
 unfold co at this
 rw [List.getD_eq_getElem?_getD, List.getD_eq_getElem?_getD] at this
 by_cases hi : i < l.length
 ·rw [List.getElem?_eq_getElem hi, List.getElem?_eq_getElem xq] at this ⊢
  simpa using this
 ·rw [List.getElem?_eq_none xq, List.getElem?_eq_none xq]
theorem WhL.map {l : List Rat} {q : Rat} {A B : Nat} (h : WhL l A) (k : Wh q B) : WhL (l.map (· * q)) (A + B) := fun i => by
 rw [co_map _ (Rat.zero_mul q)]; exact (h i).mul k
theorem WhL.mulN {l : List Rat} {q : Rat} {A B : Nat} (h : WhL l A) (k : Wh q B) (n : Nat) : WhL (mulN n l q) (A + B) := fun i => by
 rw [mulN_co]; split
 ·exact (h i).mul k
 ·exact (h i).more xq
theorem WhL.set {l : List Rat} {x : Rat} {A : Nat} (h : WhL l A) (k : Wh x A) (i : Nat) : WhL (l.set i x) A := fun j => by
 by_cases hi : i < l.length
 ·rw [co_set hi]; split
  ·exact k
  ·exact h j
 ·rw [List.set_eq_of_length_le xq]; exact h j
def subN (a : Nat) (c : Rat) (q t : List Rat) : Nat → List Rat
 | 0 => t
 | j + 1 => (subN a c q t j).set (a + j) ((subN a c q t j).getD (a + j) 0 - c * q.getD j 0)
@[simp] theorem subN_len (a : Nat) (c : Rat) (q t : List Rat) (j : Nat) : (subN a c q t j).length = t.length := by
 induction j with
 | zero => rfl
 | succ j ih => simp [subN, ih]
theorem subN_co {a : Nat} {c : Rat} {q t : List Rat} {j : Nat} (h : a + j ≤ t.length) (k : Nat) : co (subN a c q t j) k = co t k - (if a ≤ k ∧ k < a + j then c * co q (k - a) else 0) := by
 induction j with
 | zero => rw [if_neg xq]; show co t k = _; grind
 | succ j ih =>
  have ih := ih xq
  unfold subN
  rw [co_set yw]
  by_cases e : k = a + j
  ·rw [if_pos e]
   subst e
   show co (subN a c q t j) (a + j) - c * co q j = _
   rw [ih, if_neg xq, if_pos xq, show a + j - a = j by omega]
   grind
  ·rw [if_neg e, ih]
   by_cases c : a ≤ k ∧ k < a + j
   ·rw [if_pos c, if_pos xq]
   ·rw [if_neg c, if_neg xq]
theorem WhL.subN {t q : List Rat} {c : Rat} {D : Nat} (ht : WhL t D) (hc : ∀ i, Wh (c * co q i) D) {a j : Nat} (h : a + j ≤ t.length) : WhL (subN a c q t j) (D + 1) := fun k => by
 rw [subN_co h]
 split
 ·exact (ht k).sub (hc _)
 ·exact (ht k).sub (Wh.zero D)
theorem mulQ_set {s : List Rat} {a : Nat} (ha : a < s.length) (h0 : co s a = 0) (x : Rat) (q : List Rat) (k : Nat) : co (mulQ (s.set a x) q) k = co (mulQ s q) k + (if a ≤ k then x * co q (k - a) else 0) := by
 induction s generalizing a k with
 | nil => simp at ha
 | cons b s ih =>
  cases a with
  | zero =>
   have hb : b = 0 := h0
   rw [List.set_cons_zero, zxe, zxe, hb, if_pos (Nat.zero_le _), Nat.sub_zero]
   grind
  | succ a =>
   rw [List.set_cons_succ, zxe, zxe]
   unfold sh
   cases k with
   | zero => rw [if_pos rfl, if_pos rfl, if_neg xq]; grind
   | succ k =>
    simp only [Nat.add_one_ne_zero, if_false, Nat.add_sub_cancel]
    rw [ih (by simpa using ha) (by rw [← zxw b]; exact h0)]
    by_cases c : a ≤ k
    ·rw [if_pos c, if_pos xq, show k + 1 - (a + 1) = k - a by omega]; grind
    ·rw [if_neg c, if_neg xq]; grind
structure DivI (p q : List Rat) (n : Nat) (s t : List Rat) (f : Rat) : Prop where
 sl : s.length = p.length - q.length + 1
 tl : t.length = p.length
 tz : ∀ i, n ≤ i → co t i = 0
 sz : ∀ i, i + q.length ≤ n → co s i = 0
 f0 : f ≠ 0
 eq : ∀ i, f * co p i = co (mulQ s q) i + co t i
theorem DivI.begin (p q : List Rat) : DivI p q p.length (List.replicate (p.length - q.length + 1) 0) p 1 := by
 have hz : ∀ i, co (List.replicate (p.length - q.length + 1) (0 : Rat)) i = 0 := fun i => by
  unfold co; rw [List.getD_eq_getElem?_getD, List.getElem?_replicate]; split <;> rfl
 refine ⟨by simp, rfl, fun i hi => co_ge hi, fun i _ => hz i, by decide, fun i => ?_⟩
 rw [mulQ_zero hz]; grind
theorem DivI.step {p q s t : List Rat} {n : Nat} {f : Rat} (h : DivI p q n s t f) (hn : n ≤ p.length) (hqn : q.length ≤ n) (hq : 0 < q.length) (hl : co q (q.length - 1) ≠ 0) {x d : Rat} (hd : d ≠ 0) (hx : co t (n - 1) * d = x * co q (q.length - 1)) :
  DivI p q (n - 1) ((s.map (· * d)).set (n - q.length) x) (subN (n - q.length) x q (t.map (· * d)) q.length) (f * d) := by
 have hsl := h.sl
 have htl := h.tl
 have ht : ∀ k, co (subN (n - q.length) x q (t.map (· * d)) q.length) k = co t k * d - (if n - q.length ≤ k ∧ k < n - q.length + q.length then x * co q (k - (n - q.length)) else 0) := fun k => by
  rw [subN_co yw, co_map _ (Rat.zero_mul d)]
 refine ⟨by simp [hsl], by simp [htl], fun i hi => ?_, fun i hi => ?_, fun k => ?_, fun i => ?_⟩
 ·rw [ht]
  by_cases e : i = n - 1
  ·subst e
   rw [if_pos xq, show n - 1 - (n - q.length) = q.length - 1 by omega, hx]; grind
  ·rw [h.tz i xq, if_neg xq]; grind
 ·rw [co_set yw, if_neg xq, co_map _ (Rat.zero_mul d), h.sz i xq]; grind
 ·rcases Rat.mul_eq_zero.1 k with k | k
  ·exact h.f0 k
  ·exact hd k
 ·have hs0 : co (s.map (· * d)) (n - q.length) = 0 := by rw [co_map _ (Rat.zero_mul d), h.sz _ xq, Rat.zero_mul]
  rw [mulQ_set yw hs0, ht]
  have e1 : s.map (· * d) = s.map (d * ·) := by congr 1; funext x; exact Rat.mul_comm _ _
  rw [e1, mulQ_scale_l]
  have hh := h.eq i
  by_cases c : n - q.length ≤ i
  ·rw [if_pos c]
   by_cases c2 : i < n - q.length + q.length
   ·rw [if_pos ⟨c, c2⟩]; grind
   ·rw [if_neg xq, co_ge (l := q) xq]; grind
  ·rw [if_neg c, if_neg xq]; grind
theorem DivI.less {p q s t : List Rat} {n m : Nat} {f : Rat} (h : DivI p q n s t f) (hm : m ≤ n) (hz : ∀ i, m ≤ i → co t i = 0) : DivI p q m s t f := ⟨h.sl, h.tl, hz, fun i hi => h.sz i xq, h.f0, h.eq⟩
theorem co_takez {t : List Rat} {n : Nat} (h : ∀ i, n ≤ i → co t i = 0) (i : Nat) : co (t.take n) i = co t i := by
 by_cases c : i < n
 ·rw [co_take c]; rfl
 ·rw [h i xq, co_ge (by rw [List.length_take]; omega)]
theorem WhL.take {t : List Rat} {C : Nat} (h : WhL t C) (n : Nat) : WhL (t.take n) C := fun i => by
 by_cases c : i < n
 ·rw [co_take c]; exact h i
 ·rw [co_ge (by rw [List.length_take]; omega)]; exact Wh.zero C
theorem quo_step {x y : Rat} (hy : y ≠ 0) : x * ((((x / y).den : Nat) : Int) : Rat) = (((x / y).num : Int) : Rat) * y ∧ ((((x / y).den : Nat) : Int) : Rat) ≠ 0 := by
 have hd : ((((x / y).den : Nat) : Int) : Rat) ≠ 0 := Ne.symm (Rat.ne_of_lt (Rat.natCast_pos.2 (den_pos' (x / y))))
 have e : x / y = (((x / y).num : Int) : Rat) / ((((x / y).den : Nat) : Int) : Rat) := by
  have h := (Rat.mkRat_self (x / y)).symm
  rw [Rat.mkRat_eq_div] at h
  exact h
 refine ⟨?_, hd⟩
 generalize (((x / y).num : Int) : Rat) = N at *
 generalize ((((x / y).den : Nat) : Int) : Rat) = D at *
 have h1 : x = N / D * y := by rw [← e]; grind
 rw [h1]; grind
structure DivR (p q s t : List Rat) (f : Rat) : Prop where
 f0 : f ≠ 0
 eq : ∀ i, f * co p i = co (mulQ s q) i + co t i
 lt : t.length < q.length
 tl : t.length ≤ p.length
 sl : s.length ≤ p.length + 1
theorem DivI.done {p q s t : List Rat} {n : Nat} {f : Rat} (h : DivI p q n s t f) (hn : n < q.length) : DivR p q s (t.take n) f := ⟨h.f0, fun i => by rw [co_takez h.tz]; exact h.eq i, by rw [List.length_take]; omega, by rw [List.length_take, h.tl]; omega, by rw [h.sl]; omega⟩
end Nt
section
open Go.RowKit
variable {u u' : World} {L : List RL} {X : List Value} {r : RL} {i : Nat} {l : List Rat} {K C : Nat}
theorem RatsN.fit (h : RatsN u L l K) (k : Nt.WhL l C) : RatsN u L l (Nt.dg C) := ⟨h.1, fun i hi => (h.2 i hi).fit (k i).rs⟩
end
end Go.Proofs.YtifcjcecmoimjaaGreat
namespace Go.Proofs.YtifcjcecmoimjaaGreat
set_option linter.unusedVariables false
namespace Nt
structure Pol where
 l : List Rat
 h : Nrm l
namespace Pol
def mk' (l : List Rat) : Pol := ⟨trimQ l, trim_nrm l⟩
def c (p : Pol) (i : Nat) : Rat := co p.l i
theorem mk_c (l : List Rat) (i : Nat) : (mk' l).c i = co l i := trim_co l i
theorem ext {p q : Pol} (h : ∀ i, p.c i = q.c i) : p = q := by
 obtain ⟨l, hl⟩ := p
 obtain ⟨m, hm⟩ := q
 have e : trimQ l = trimQ m := trim_ext h
 unfold Nrm at hl hm
 rw [hl, hm] at e
 subst e; rfl
theorem mk_eq {l m : List Rat} : mk' l = mk' m ↔ trimQ l = trimQ m := ⟨fun h => congrArg Pol.l h, fun h => by unfold mk'; simp [h]⟩
theorem mk_l (p : Pol) : mk' p.l = p := ext fun i => mk_c _ i
def C (a : Rat) : Pol := mk' [a]
instance (n : Nat) : OfNat Pol n := ⟨C (n : Rat)⟩
instance : Add Pol := ⟨fun p q => mk' (addQ p.l q.l)⟩
instance : Mul Pol := ⟨fun p q => mk' (mulQ p.l q.l)⟩
instance : Neg Pol := ⟨fun p => mk' (negQ p.l)⟩
instance : Sub Pol := ⟨fun p q => p + -q⟩
def X : Pol := mk' [0, 1]
theorem c_add (p q : Pol) (i : Nat) : (p + q).c i = p.c i + q.c i := (mk_c _ i).trans (addQ_co _ _ i)
theorem c_neg (p : Pol) (i : Nat) : (-p).c i = -p.c i := (mk_c _ i).trans (negQ_co _ i)
theorem c_sub (p q : Pol) (i : Nat) : (p - q).c i = p.c i - q.c i := by
 show (p + -q).c i = _
 rw [c_add, c_neg]; grind
theorem c_C (a : Rat) (i : Nat) : (C a).c i = if i = 0 then a else 0 := by
 unfold C
 rw [mk_c]
 cases i with
 | zero => rfl
 | succ i => rw [zxw, co_nil, if_neg xq]
theorem c_zero (i : Nat) : (0 : Pol).c i = 0 := by
 have h : (0 : Pol).c i = if i = 0 then (0 : Rat) else 0 := c_C 0 i
 rw [h]; split <;> rfl
theorem zero_l : (0 : Pol).l = [] := zwa.2 fun i => by
 have := c_zero i
 unfold c at this
 show co [((0 : Nat) : Rat)] i = 0
 rw [← trim_co]; exact this
theorem mk_mul (l m : List Rat) : mk' (mulQ l m) = mk' l * mk' m := ext fun i => by
 show _ = (mk' (mulQ (trimQ l) (trimQ m))).c i
 rw [mk_c, mk_c]
 exact zwj (fun i => (trim_co l i).symm) (fun i => (trim_co m i).symm) i
theorem c_mul (p q : Pol) (i : Nat) : (p * q).c i = co (mulQ p.l q.l) i := mk_c _ i
theorem mk_cons (a : Rat) (l : List Rat) (i : Nat) : (mk' (a :: l)).c i = if i = 0 then a else (mk' l).c (i - 1) := by
 rw [mk_c]
 cases i with
 | zero => rfl
 | succ i => rw [zxw, if_neg xq, mk_c]; rfl
theorem mulQ_consR (l : List Rat) (b : Rat) (m : List Rat) (k : Nat) : co (mulQ l (b :: m)) k = b * co l k + sh (co (mulQ l m)) k := by
 induction l generalizing k with
 | nil =>
  rw [mulQ_nil, co_nil]
  have e : sh (co (mulQ [] m)) k = 0 := by unfold sh; split <;> rfl
  rw [e]; grind
 | cons a l ih =>
  rw [zxe]
  cases k with
  | zero => unfold sh; rw [if_pos rfl, if_pos rfl, co_zero, co_zero]; grind
  | succ k =>
   have e1 : sh (co (mulQ l (b :: m))) (k + 1) = b * co l k + sh (co (mulQ l m)) k := by
    unfold sh; rw [if_neg xq, Nat.add_sub_cancel]; exact ih k
   have e2 : sh (co (mulQ (a :: l) m)) (k + 1) = a * co m k + sh (co (mulQ l m)) k := by
    unfold sh; rw [if_neg xq, Nat.add_sub_cancel]; exact zxe a l m k
   rw [e1, e2, zxw, zxw]; grind
theorem mulQ_comm (l m : List Rat) (k : Nat) : co (mulQ l m) k = co (mulQ m l) k := by
 induction l generalizing k with
 | nil =>
  rw [mulQ_nil]
  exact (mulQ_zero_r (m := []) (fun i => co_nil i) m k).symm
 | cons a l ih =>
  rw [zxe, mulQ_consR]
  have e : sh (co (mulQ l m)) k = sh (co (mulQ m l)) k := by unfold sh; split; rfl; exact ih _
  rw [e]
theorem mulQ_add (l l' m : List Rat) (k : Nat) : co (mulQ (addQ l l') m) k = co (mulQ l m) k + co (mulQ l' m) k := by
 induction m generalizing k with
 | nil =>
  rw [mulQ_zero_r (fun i => co_nil i), mulQ_zero_r (fun i => co_nil i), mulQ_zero_r (fun i => co_nil i)]; exact (Rat.add_zero 0).symm
 | cons b m ih =>
  rw [mulQ_consR, mulQ_consR, mulQ_consR, addQ_co]
  cases k with
  | zero => unfold sh; rw [if_pos rfl, if_pos rfl, if_pos rfl]; grind
  | succ k =>
   have e : ∀ x : List Rat, sh (co x) (k + 1) = co x k := fun x => by unfold sh; rw [if_neg xq, Nat.add_sub_cancel]
   rw [e, e, e, ih k]; grind
theorem mulQ_assoc (l m n : List Rat) (k : Nat) : co (mulQ (mulQ l m) n) k = co (mulQ l (mulQ m n)) k := by
 induction l generalizing k with
 | nil => rfl
 | cons a l ih =>
  show co (mulQ (addQ (m.map (a * ·)) (0 :: mulQ l m)) n) k = _
  rw [mulQ_add, mulQ_scale_l, zxe, zxe]
  cases k with
  | zero => unfold sh; rw [if_pos rfl, if_pos rfl]; grind
  | succ k =>
   have e : ∀ x : List Rat, sh (co x) (k + 1) = co x k := fun x => by unfold sh; rw [if_neg xq, Nat.add_sub_cancel]
   rw [e, e, ih k]; grind
theorem mulQ_one (m : List Rat) (k : Nat) : co (mulQ [1] m) k = co m k := by
 rw [zxe]
 have e : sh (co (mulQ [] m)) k = 0 := by unfold sh; split <;> rfl
 rw [e]; grind
theorem mul_comm (p q : Pol) : p * q = q * p := ext fun i => by rw [c_mul, c_mul, mulQ_comm]
theorem mul_assoc (p q r : Pol) : p * q * r = p * (q * r) := ext fun i => by
 rw [c_mul, c_mul]
 show co (mulQ (trimQ (mulQ p.l q.l)) r.l) i = co (mulQ p.l (trimQ (mulQ q.l r.l))) i
 rw [zwj (l' := mulQ p.l q.l) (m' := r.l) (trim_co _) (fun _ => rfl), zwj (l' := p.l) (m' := mulQ q.l r.l) (fun _ => rfl) (trim_co _)]
 exact mulQ_assoc _ _ _ i
theorem one_mul (p : Pol) : 1 * p = p := ext fun i => by
 rw [c_mul]
 show co (mulQ (trimQ [((1 : Nat) : Rat)]) p.l) i = _
 rw [zwj (l' := [((1 : Nat) : Rat)]) (m' := p.l) (trim_co _) (fun _ => rfl)]
 exact mulQ_one _ i
theorem right_distrib (p q r : Pol) : (p + q) * r = p * r + q * r := ext fun i => by
 rw [c_mul, c_add, c_mul, c_mul]
 show co (mulQ (trimQ (addQ p.l q.l)) r.l) i = _
 rw [zwj (l' := addQ p.l q.l) (m' := r.l) (trim_co _) (fun _ => rfl)]
 exact mulQ_add _ _ _ i
theorem add_comm (p q : Pol) : p + q = q + p := ext fun i => by rw [c_add, c_add]; grind
theorem add_assoc (p q r : Pol) : p + q + r = p + (q + r) := ext fun i => by rw [c_add, c_add, c_add, c_add]; grind
theorem add_zero (p : Pol) : p + 0 = p := ext fun i => by rw [c_add, c_zero]; grind
theorem neg_add_cancel (p : Pol) : -p + p = 0 := ext fun i => by rw [c_add, c_neg, c_zero]; grind
theorem zero_mul (p : Pol) : 0 * p = 0 := ext fun i => by rw [c_mul, zero_l, mulQ_nil, c_zero]
theorem left_distrib (p q r : Pol) : p * (q + r) = p * q + p * r := by rw [mul_comm, right_distrib, mul_comm q, mul_comm r]
theorem mul_zero (p : Pol) : p * 0 = 0 := by rw [mul_comm, zero_mul]
theorem mul_one (p : Pol) : p * 1 = p := by rw [mul_comm, one_mul]
instance : NatCast Pol := ⟨fun n => C (n : Rat)⟩
instance : IntCast Pol := ⟨fun n => C (n : Rat)⟩
def npow (p : Pol) : Nat → Pol
 | 0 => 1
 | n + 1 => npow p n * p
instance : HPow Pol Nat Pol := ⟨npow⟩
instance : SMul Nat Pol := ⟨fun n p => C (n : Rat) * p⟩
instance : SMul Int Pol := ⟨fun n p => C (n : Rat) * p⟩
theorem C_add (a b : Rat) : C (a + b) = C a + C b := ext fun i => by
 rw [c_add, c_C, c_C, c_C]; split <;> grind
theorem C_neg (a : Rat) : C (-a) = -C a := ext fun i => by
 rw [c_neg, c_C, c_C]; split <;> grind
theorem C_zero : C 0 = 0 := rfl
theorem C_mul (a b : Rat) : C (a * b) = C a * C b := by
 show mk' [a * b] = mk' [a] * mk' [b]
 rw [← mk_mul]
 refine ext fun i => ?_
 rw [mk_c, mk_c, zxe]
 have e : sh (co (mulQ [] [b])) i = 0 := by unfold sh; split <;> rfl
 rw [e]
 cases i with
 | zero => rw [co_zero, co_zero]; grind
 | succ i => rw [zxw, zxw, co_nil]; grind
instance : Lean.Grind.CommRing Pol where
 add_zero := add_zero
 add_comm := add_comm
 add_assoc := add_assoc
 mul_assoc := mul_assoc
 mul_one := mul_one
 one_mul := one_mul
 left_distrib := left_distrib
 right_distrib := right_distrib
 zero_mul := zero_mul
 mul_zero := mul_zero
 mul_comm := mul_comm
 pow_zero := fun p => rfl
 pow_succ := fun p n => rfl
 neg_add_cancel := neg_add_cancel
 sub_eq_add_neg := fun p q => rfl
 ofNat_succ := fun n => by
  show C ((n + 1 : Nat) : Rat) = C (n : Rat) + C 1
  rw [← C_add]; congr 1
  exact Rat.natCast_add n 1
 ofNat_eq_natCast := fun n => rfl
 intCast_ofNat := fun n => rfl
 intCast_neg := fun n => by
  show C ((-n : Int) : Rat) = -C (n : Rat)
  rw [← C_neg, Rat.intCast_neg]
 nsmul_eq_natCast_mul := fun n p => rfl
 zsmul_natCast_eq_nsmul := fun n p => rfl
 neg_zsmul := fun n p => by
  show C ((-n : Int) : Rat) * p = -(C (n : Rat) * p)
  rw [Rat.intCast_neg, C_neg]
  refine ext fun i => ?_
  rw [c_neg, c_mul, c_mul]
  show co (mulQ (trimQ (negQ (C (n : Rat)).l)) p.l) i = _
  rw [zwj (l' := negQ (C (n : Rat)).l) (m' := p.l) (trim_co _) (fun _ => rfl)]
  have e : negQ (C (n : Rat)).l = (C (n : Rat)).l.map ((-1) * ·) := by unfold negQ; congr 1; funext x; grind
  rw [e, mulQ_scale_l]; grind
example (p q : Pol) : (p + q) * (p - q) = p * p - q * q := by grind
example (p q : Pol) : (p + q) ^ 2 = p ^ 2 + 2 * p * q + q ^ 2 := by grind
end Pol
end Nt
end Go.Proofs.YtifcjcecmoimjaaGreat
namespace Go.Proofs.YtifcjcecmoimjaaGreat
set_option linter.unusedVariables false
namespace Nt
theorem mulQ_far {l m : List Rat} {k : Nat} (h : l.length + m.length ≤ k + 1) : co (mulQ l m) k = 0 := by
 induction l generalizing k with
 | nil => rfl
 | cons a l ih =>
  rw [zxe, co_ge (l := m) (by simp at h; omega)]
  unfold sh
  split
  ·grind
  ·rw [ih (by simp at h; omega)]; grind
theorem mulQ_top {l m : List Rat} (hl : 0 < l.length) (hm : 0 < m.length) : co (mulQ l m) (l.length + m.length - 2) = co l (l.length - 1) * co m (m.length - 1) := by
 induction l with
 | nil => simp at hl
 | cons a l ih =>
  rw [zxe]
  cases l with
  | nil =>
   have e : sh (co (mulQ [] m)) ([a].length + m.length - 2) = 0 := by unfold sh; split <;> rfl
   rw [e]
   show a * co m (1 + m.length - 2) + 0 = a * co m (m.length - 1)
   rw [show 1 + m.length - 2 = m.length - 1 by omega]; grind
  | cons b l =>
   have ih := ih yy
   rw [co_ge (l := m) yw]
   unfold sh
   rw [if_neg yw]
   have e : (a :: b :: l).length + m.length - 2 - 1 = (b :: l).length + m.length - 2 := by simp; omega
   rw [e, ih, show (a :: b :: l).length - 1 = ((b :: l).length - 1) + 1 by simp, zxw]; grind
namespace Pol
def len (p : Pol) : Nat := p.l.length
def lead (p : Pol) : Rat := p.c (p.len - 1)
theorem c_ge {p : Pol} {i : Nat} (h : p.len ≤ i) : p.c i = 0 := co_ge h
theorem len_le {p : Pol} {n : Nat} (h : ∀ i, n ≤ i → p.c i = 0) : p.len ≤ n := by
 apply Classical.byContradiction
 intro k
 have h1 : p.l.length > n := by unfold len at k; omega
 have h2 := nrm_last p.h (by intro e; rw [e] at h1; simp at h1)
 exact h2 (h _ xq)
theorem len_zero : (0 : Pol).len = 0 := by unfold len; rw [zero_l]; rfl
theorem zero_of_len {p : Pol} (h : p.len = 0) : p = 0 := ext fun i => by rw [c_zero, c_ge xq]
theorem len_pos {p : Pol} (h : p ≠ 0) : 0 < p.len := by
 rcases Nat.eq_zero_or_pos p.len with k | k
 ·exact absurd (zero_of_len k) h
 ·exact k
theorem ne_of_len {p : Pol} (h : 0 < p.len) : p ≠ 0 := by rintro rfl; rw [len_zero] at h; omega
theorem lead_ne {p : Pol} (h : p ≠ 0) : p.lead ≠ 0 := nrm_last p.h (by intro e; have := len_pos h; unfold len at this; rw [e] at this; simp at this)
theorem c_ne_len {p : Pol} {i : Nat} (h : p.c i ≠ 0) : i < p.len := by
 apply Classical.byContradiction
 intro k
 exact h (c_ge xq)
theorem mul_far {p q : Pol} {k : Nat} (h : p.len + q.len ≤ k + 1) : (p * q).c k = 0 := by rw [c_mul]; exact mulQ_far h
theorem mul_top {p q : Pol} (hp : p ≠ 0) (hq : q ≠ 0) : (p * q).c (p.len + q.len - 2) = p.lead * q.lead := by rw [c_mul]; exact mulQ_top (len_pos hp) (len_pos hq)
theorem len_mul {p q : Pol} (hp : p ≠ 0) (hq : q ≠ 0) : (p * q).len + 1 = p.len + q.len := by
 have h1 := len_pos hp
 have h2 := len_pos hq
 have h3 : (p * q).len ≤ p.len + q.len - 1 := len_le fun i hi => mul_far xq
 have h4 : (p * q).c (p.len + q.len - 2) ≠ 0 := by
  rw [mul_top hp hq]
  intro k
  rcases Rat.mul_eq_zero.1 k with k | k
  ·exact lead_ne hp k
  ·exact lead_ne hq k
 have := c_ne_len h4
 omega
theorem mul_ne {p q : Pol} (hp : p ≠ 0) (hq : q ≠ 0) : p * q ≠ 0 := by
 apply ne_of_len
 have := len_mul hp hq
 have := len_pos hp
 have := len_pos hq
 omega
theorem lead_mul {p q : Pol} (hp : p ≠ 0) (hq : q ≠ 0) : (p * q).lead = p.lead * q.lead := by
 unfold lead
 have h := len_mul hp hq
 have h1 := len_pos hp
 have h2 := len_pos hq
 rw [show (p * q).len - 1 = p.len + q.len - 2 by omega]
 exact mul_top hp hq
theorem eq_zero_of_mul {p q : Pol} (h : p * q = 0) : p = 0 ∨ q = 0 := by
 apply Classical.byContradiction
 intro k
 exact mul_ne (fun e => k (.inl e)) (fun e => k (.inr e)) h
theorem mul_cancel {p q r : Pol} (hr : r ≠ 0) (h : p * r = q * r) : p = q := by
 have h1 : (p - q) * r = 0 := by grind
 rcases eq_zero_of_mul h1 with k | k
 ·grind
 ·exact absurd k hr
theorem len_sub (p q : Pol) : (p - q).len ≤ max p.len q.len := len_le fun i hi => by rw [c_sub, c_ge xq, c_ge xq]; grind
theorem C_ne {a : Rat} (h : a ≠ 0) : C a ≠ 0 := fun e => h (by have := c_C a 0; rw [e, c_zero] at this; simpa using this.symm)
theorem len_C {a : Rat} (h : a ≠ 0) : (C a).len = 1 := by
 have h1 : (C a).len ≤ 1 := len_le fun i hi => by rw [c_C, if_neg xq]
 have := len_pos (C_ne h)
 omega
theorem lead_C {a : Rat} (h : a ≠ 0) : (C a).lead = a := by unfold lead; rw [len_C h, c_C, if_pos rfl]
theorem is_C {p : Pol} (h : p.len ≤ 1) : p = C (p.c 0) := ext fun i => by
 rw [c_C]
 split
 ·rename_i e; rw [e]
 ·exact c_ge xq
theorem C_inv {a : Rat} (h : a ≠ 0) : C a * C (1 / a) = 1 := by
 rw [← C_mul, show a * (1 / a) = 1 by grind]; rfl
theorem C_mul_c (a : Rat) (p : Pol) (i : Nat) : (C a * p).c i = a * p.c i := by
 rw [c_mul]
 show co (mulQ (trimQ [a]) p.l) i = _
 rw [zwj (l' := [a]) (m' := p.l) (trim_co _) (fun _ => rfl), zxe]
 have e : sh (co (mulQ [] p.l)) i = 0 := by unfold sh; split <;> rfl
 rw [e]
 show a * p.c i + 0 = _
 grind
theorem len_Cmul {a : Rat} (h : a ≠ 0) (p : Pol) : (C a * p).len = p.len := by
 by_cases hp : p = 0
 ·subst hp; rw [mul_zero]
 ·have := len_mul (C_ne h) hp
  rw [len_C h] at this
  omega
theorem div_unique {u v u' v' q : Pol} (h : u * q + v = u' * q + v') (hv : v.len < q.len) (hv' : v'.len < q.len) : u = u' ∧ v = v' := by
 have hq : q ≠ 0 := ne_of_len xq
 have h1 : (u - u') * q = v' - v := by grind
 have h2 : u - u' = 0 := by
  apply Classical.byContradiction
  intro k
  have h3 := len_mul k hq
  rw [h1] at h3
  have h4 := len_sub v' v
  have h5 := len_pos k
  omega
 have h3 : u = u' := by grind
 subst h3
 exact ⟨rfl, by grind⟩
instance : Dvd Pol := ⟨fun q p => ∃ u, p = q * u⟩
structure IsGcd (p q g : Pol) : Prop where
 m : g = 0 ∨ g.lead = 1
 l : g ∣ p
 r : g ∣ q
 s : ∃ u v, g = u * p + v * q
theorem one_ne : (1 : Pol) ≠ 0 := C_ne (a := 1) yq
theorem monic_unit {a b : Pol} (h : a * b = 1) : a.len = 1 := by
 have ha : a ≠ 0 := by rintro rfl; rw [zero_mul] at h; exact one_ne h.symm
 have hb : b ≠ 0 := by rintro rfl; rw [mul_zero] at h; exact one_ne h.symm
 have h1 := len_mul ha hb
 rw [h] at h1
 have h2 : (1 : Pol).len = 1 := len_C (a := 1) yq
 have := len_pos ha
 have := len_pos hb
 omega
theorem dvd_antisymm {g g' : Pol} (h1 : g = 0 ∨ g.lead = 1) (h2 : g' = 0 ∨ g'.lead = 1) (h : g ∣ g') (k : g' ∣ g) : g = g' := by
 obtain ⟨a, ha⟩ := h
 obtain ⟨b, hb⟩ := k
 by_cases hg : g = 0
 ·subst hg; rw [zero_mul] at ha; exact ha.symm
 ·have e : (a * b) * g = 1 * g := by rw [one_mul]; grind
  have e1 := mul_cancel hg e
  have ha0 : a ≠ 0 := by rintro rfl; rw [zero_mul] at e1; exact one_ne e1.symm
  have h3 := is_C (Nat.le_of_eq (monic_unit e1))
  have hg' : g' ≠ 0 := by rw [ha]; exact mul_ne hg ha0
  have h4 := lead_mul hg ha0
  rw [← ha] at h4
  have h5 : g.lead = 1 := h1.resolve_left hg
  have h6 : g'.lead = 1 := h2.resolve_left hg'
  rw [h5, h6] at h4
  have h7 : a.c 0 ≠ 0 := fun e => ha0 (by rw [h3, e]; rfl)
  have h8 : a.lead = a.c 0 := by unfold lead; rw [monic_unit e1]
  have h9 : a = 1 := by rw [h3, ← h8, show a.lead = 1 by grind]; rfl
  rw [ha, h9, mul_one]
theorem IsGcd.unique {p q g g' : Pol} (h : IsGcd p q g) (k : IsGcd p q g') : g = g' := by
 obtain ⟨a, ha⟩ := h.l
 obtain ⟨b, hb⟩ := h.r
 obtain ⟨a', ha'⟩ := k.l
 obtain ⟨b', hb'⟩ := k.r
 obtain ⟨u, v, e⟩ := h.s
 obtain ⟨u', v', e'⟩ := k.s
 exact dvd_antisymm h.m k.m ⟨u' * a + v' * b, by grind⟩ ⟨u * a' + v * b', by grind⟩
structure Same (p q a b : Pol) : Prop where
 ha : ∃ u v, a = u * p + v * q
 hb : ∃ u v, b = u * p + v * q
 hp : ∃ u v, p = u * a + v * b
 hq : ∃ u v, q = u * a + v * b
theorem Same.scale {p q : Pol} {s t : Rat} (hs : s ≠ 0) (ht : t ≠ 0) : Same p q (C s * p) (C t * q) := by
 have h1 := C_inv hs
 have h2 := C_inv ht
 exact ⟨⟨C s, 0, by grind⟩, ⟨0, C t, by grind⟩, ⟨C (1 / s), 0, by grind⟩, ⟨0, C (1 / t), by grind⟩⟩
theorem Same.step {p q a b r s : Pol} {f k : Rat} (h : Same p q a b) (hf : f ≠ 0) (hk : k ≠ 0) (e : C f * a = s * b + r) : Same p q b (C k * r) := by
 have h1 := C_inv hf
 have h2 := C_inv hk
 obtain ⟨⟨u1, v1, e1⟩, ⟨u2, v2, e2⟩, ⟨u3, v3, e3⟩, ⟨u4, v4, e4⟩⟩ := h
 refine ⟨⟨u2, v2, e2⟩, ⟨C k * (C f * u1 - s * u2), C k * (C f * v1 - s * v2), ?_⟩, ⟨u3 * C (1 / f) * s + v3, u3 * C (1 / f) * C (1 / k), ?_⟩, ⟨u4 * C (1 / f) * s + v4, u4 * C (1 / f) * C (1 / k), ?_⟩⟩
 ·have : r = C f * a - s * b := by grind
  rw [this]; grind
 ·have e5 : a = C (1 / f) * (s * b + r) := by rw [← e]; grind
  have e6 : r = C (1 / k) * (C k * r) := by grind
  grind
 ·have e5 : a = C (1 / f) * (s * b + r) := by rw [← e]; grind
  have e6 : r = C (1 / k) * (C k * r) := by grind
  grind
def monic (p : Pol) : Pol := C (1 / p.lead) * p
theorem monic_lead {p : Pol} (h : p ≠ 0) : p.monic.lead = 1 := by
 have h1 := lead_ne h
 have h2 : (1 / p.lead) ≠ 0 := by intro k; have : (1 : Rat) = (1 / p.lead) * p.lead := by grind
                                  rw [k] at this; grind
 unfold monic
 rw [lead_mul (C_ne h2) h, lead_C h2]; grind
theorem Same.gcd {p q a : Pol} (h : Same p q a 0) : IsGcd p q a.monic := by
 obtain ⟨⟨u1, v1, e1⟩, _, ⟨u3, v3, e3⟩, ⟨u4, v4, e4⟩⟩ := h
 by_cases ha : a = 0
 ·subst ha
  have e : (0 : Pol).monic = 0 := by unfold monic; rw [mul_zero]
  rw [e]
  exact ⟨.inl rfl, ⟨0, by grind⟩, ⟨0, by grind⟩, ⟨0, 0, by grind⟩⟩
 ·have h1 := lead_ne ha
  have h2 := C_inv h1
  refine ⟨.inr (monic_lead ha), ⟨u3 * C a.lead, ?_⟩, ⟨u4 * C a.lead, ?_⟩, ⟨C (1 / a.lead) * u1, C (1 / a.lead) * v1, ?_⟩⟩
  ·unfold monic; grind
  ·unfold monic; grind
  ·unfold monic
   have : C (1 / a.lead) * a = C (1 / a.lead) * (u1 * p + v1 * q) := by rw [← e1]
   rw [this]; grind
theorem mk_cons' (a : Rat) (l : List Rat) : mk' (a :: l) = C a + X * mk' l := ext fun i => by
 have hX : ∀ p : Pol, (X * p).c i = if i = 0 then 0 else p.c (i - 1) := fun p => by
  rw [c_mul]
  show co (mulQ (trimQ [0, 1]) p.l) i = _
  rw [zwj (l' := [0, 1]) (m' := p.l) (trim_co _) (fun _ => rfl), zxe]
  unfold sh
  split
  ·grind
  ·rw [mulQ_one]; show 0 * _ + p.c (i - 1) = _; grind
 rw [c_add, hX, mk_cons, c_C]
 split <;> grind
theorem ind {P : Pol → Prop} (h0 : P 0) (h1 : ∀ a p, P p → P (C a + X * p)) (p : Pol) : P p := by
 rw [← mk_l p]
 generalize p.l = l
 induction l with
 | nil => exact (zero_of_len (p := mk' []) rfl) ▸ h0
 | cons a l ih => rw [mk_cons']; exact h1 a _ ih
def D (p : Pol) : Pol := mk' (derQ p.l)
def evL : List Rat → Rat → Rat
 | [], x => 0
 | a :: l, x => a + x * evL l x
theorem evL_zero {l : List Rat} (h : ∀ i, co l i = 0) (x : Rat) : evL l x = 0 := by
 induction l with
 | nil => rfl
 | cons a l ih =>
  have h0 : a = 0 := h 0
  show a + x * evL l x = 0
  rw [ih fun i => by rw [← zxw a]; exact h (i + 1), h0]; grind
theorem evL_congr {l m : List Rat} (h : ∀ i, co l i = co m i) (x : Rat) : evL l x = evL m x := by
 induction l generalizing m with
 | nil => rw [evL_zero (l := m) fun i => by rw [← h i, co_nil]]; rfl
 | cons a l ih =>
  cases m with
  | nil => rw [evL_zero (l := a :: l) fun i => by rw [h i, co_nil]]; rfl
  | cons b m =>
   have h0 : a = b := h 0
   show a + x * evL l x = b + x * evL m x
   have e := ih (m := m) (fun i => by have := h (i + 1); rw [zxw, zxw] at this; exact this)
   rw [h0, e]
def ev (p : Pol) (x : Rat) : Rat := evL p.l x
theorem mk_ev (l : List Rat) (x : Rat) : (mk' l).ev x = evL l x := evL_congr (trim_co l) x
theorem ev_zero (x : Rat) : ev 0 x = 0 := evL_zero (fun i => c_zero i) x
theorem ev_cons (a : Rat) (p : Pol) (x : Rat) : ev (C a + X * p) x = a + x * ev p x := by
 have e : C a + X * p = mk' (a :: p.l) := by rw [mk_cons', mk_l]
 rw [e, mk_ev]; rfl
theorem ev_add (p q : Pol) (x : Rat) : ev (p + q) x = ev p x + ev q x := by
 induction p using ind generalizing q with
 | h0 => rw [ev_zero, show (0 : Pol) + q = q by grind]; grind
 | h1 a p ih =>
  induction q using ind with
  | h0 => rw [ev_zero, add_zero]; grind
  | h1 b q _ =>
   have e : C a + X * p + (C b + X * q) = C (a + b) + X * (p + q) := by rw [C_add]; grind
   rw [e, ev_cons, ev_cons, ev_cons, ih]; grind
theorem ev_Cmul (a : Rat) (p : Pol) (x : Rat) : ev (C a * p) x = a * ev p x := by
 induction p using ind with
 | h0 => rw [mul_zero, ev_zero]; grind
 | h1 b p ih =>
  have e : C a * (C b + X * p) = C (a * b) + X * (C a * p) := by rw [C_mul]; grind
  rw [e, ev_cons, ev_cons, ih]; grind
theorem ev_mul (p q : Pol) (x : Rat) : ev (p * q) x = ev p x * ev q x := by
 induction p using ind with
 | h0 => rw [zero_mul, ev_zero]; grind
 | h1 a p ih =>
  have e : (C a + X * p) * q = C a * q + (C 0 + X * (p * q)) := by rw [C_zero]; grind
  rw [e, ev_add, ev_Cmul, ev_cons, ih, ev_cons]; grind
end Pol
end Nt
end Go.Proofs.YtifcjcecmoimjaaGreat
namespace Go.Proofs.YtifcjcecmoimjaaGreat
set_option linter.unusedVariables false
namespace Nt
theorem absQ_mul (y : Rat) : ∃ z : Int, y = absQ y * (z : Rat) ∧ absQ y = y * (z : Rat) := by
 unfold absQ
 split
 ·exact ⟨-1, by rw [show (((-1 : Int)) : Rat) = -1 from rfl]; grind, by rw [show (((-1 : Int)) : Rat) = -1 from rfl]; grind⟩
 ·exact ⟨1, by rw [show (((1 : Int)) : Rat) = 1 from rfl]; grind, by rw [show (((1 : Int)) : Rat) = 1 from rfl]; grind⟩
theorem cmn_spec (x y : Rat) : (∃ z : Int, x = cmn x y * (z : Rat)) ∧ (∃ z : Int, y = cmn x y * (z : Rat)) ∧ ∀ c : Rat, (∃ z : Int, x = c * (z : Rat)) → (∃ z : Int, y = c * (z : Rat)) → ∃ z : Int, cmn x y = c * (z : Rat) := by
 unfold cmn
 by_cases hx : x = 0
 ·rw [if_pos hx]
  obtain ⟨z, h1, h2⟩ := absQ_mul y
  refine ⟨⟨0, by rw [hx]; exact (Rat.mul_zero _).symm⟩, ⟨z, h1⟩, fun c _ ⟨v, hv⟩ => ⟨v * z, ?_⟩⟩
  rw [Rat.intCast_mul, h2]
  have e : y * (z : Rat) = c * (v : Rat) * (z : Rat) := by rw [← hv]
  rw [e]; grind
 ·rw [if_neg hx]
  by_cases hy : y = 0
  ·rw [if_pos hy]
   exact ⟨⟨1, by rw [show (((1 : Int)) : Rat) = 1 from rfl]; grind⟩, ⟨0, by rw [hy]; exact (Rat.mul_zero _).symm⟩, fun c h _ => h⟩
  ·rw [if_neg hy]
   obtain ⟨z0, h1, h2⟩ := absQ_mul (x / (((x / y).num : Int) : Rat))
   have hN := num_ne (div_ne hx hy)
   obtain ⟨hq, hD⟩ := quo_step (x := x) hy
   have hcop : Nat.gcd (x / y).num.natAbs (x / y).den = 1 := (x / y).reduced
   obtain ⟨s, t, hst⟩ := bez (x / y).num (x / y).den hcop
   generalize hn : (x / y).num = N at *
   generalize hd : ((x / y).den : Nat) = Dn at *
   have hst' : (s : Rat) * (N : Rat) + (t : Rat) * ((Dn : Int) : Rat) = 1 := by
    have h := congrArg (fun z : Int => (z : Rat)) hst
    simp only [Rat.intCast_add, Rat.intCast_mul] at h
    exact h
   generalize hw : x / (N : Rat) = w at *
   have ex : x = w * (N : Rat) := by rw [← hw]; grind
   have ey : y = w * ((Dn : Int) : Rat) := by
    have : w * (N : Rat) * ((Dn : Int) : Rat) = (N : Rat) * y := by rw [← ex]; exact hq
    grind
   refine ⟨⟨z0 * N, ?_⟩, ⟨z0 * (Dn : Int), ?_⟩, fun c ⟨a, ha⟩ ⟨b, hb⟩ => ⟨(s * a + t * b) * z0, ?_⟩⟩
   ·rw [Rat.intCast_mul]; rw [ex, h1] ; grind
   ·rw [Rat.intCast_mul]; rw [ey, h1]; grind
   ·rw [h2, Rat.intCast_mul, Rat.intCast_add, Rat.intCast_mul, Rat.intCast_mul]
    have : w = c * ((s : Rat) * (a : Rat) + (t : Rat) * (b : Rat)) := by
     have e1 : w = w * ((s : Rat) * (N : Rat) + (t : Rat) * ((Dn : Int) : Rat)) := by rw [hst']; grind
     have e2 : w * ((s : Rat) * (N : Rat) + (t : Rat) * ((Dn : Int) : Rat)) = (s : Rat) * x + (t : Rat) * y := by rw [ex, ey]; grind
     rw [e1, e2, ha, hb]; grind
    rw [this]; grind
where
 bez (N : Int) (D : Nat) (h : Nat.gcd N.natAbs D = 1) : ∃ s t : Int, s * N + t * (D : Int) = 1 := by
  have := Int.gcd_eq_gcd_ab' N D h
  exact this
 Int.gcd_eq_gcd_ab' (N : Int) (D : Nat) (h : Nat.gcd N.natAbs D = 1) : ∃ s t : Int, s * N + t * (D : Int) = 1 := by
  have key : ∀ (n a b : Nat), a + b ≤ n → ∃ s t : Int, s * (a : Int) + t * (b : Int) = (Nat.gcd a b : Int) := by
   intro n
   induction n with
   | zero => intro a b hab; exact ⟨0, 0, by have h1 : a = 0 := by omega
                                            have h2 : b = 0 := by omega
                                            subst h1; subst h2; simp⟩
   | succ n ih =>
    intro a b hab
    rcases Nat.eq_zero_or_pos a with ha | ha
    ·subst ha; exact ⟨0, 1, by simp⟩
    ·rcases Nat.eq_zero_or_pos b with hb | hb
     ·subst hb; exact ⟨1, 0, by simp⟩
     ·rcases Nat.le_total a b with hle | hle
      ·obtain ⟨s, t, e⟩ := ih a (b - a) xq
       refine ⟨s - t, t, ?_⟩
       rw [Nat.gcd_sub_self_right hle] at e
       rw [← e, show ((b - a : Nat) : Int) = (b : Int) - (a : Int) by omega, Int.sub_mul, Int.mul_sub]; omega
      ·obtain ⟨s, t, e⟩ := ih (a - b) b xq
       refine ⟨s, t - s, ?_⟩
       rw [Nat.gcd_sub_self_left hle] at e
       rw [← e, show ((a - b : Nat) : Int) = (a : Int) - (b : Int) by omega, Int.sub_mul, Int.mul_sub]; omega
  obtain ⟨s, t, e⟩ := key _ N.natAbs D (Nat.le_refl _)
  rw [h] at e
  rcases Int.natAbs_eq N with hN | hN
  ·exact ⟨s, t, by rw [← hN] at e; exact e⟩
  ·refine ⟨-s, t, ?_⟩
   have : ((N.natAbs : Nat) : Int) = -N := by omega
   rw [this] at e
   rw [Int.neg_mul, ← Int.mul_neg]; exact e
theorem msr_spec (l : List Rat) : (∀ x ∈ l, ∃ z : Int, x = msr l * (z : Rat)) ∧ ∀ c : Rat, (∀ x ∈ l, ∃ z : Int, x = c * (z : Rat)) → ∃ z : Int, msr l = c * (z : Rat) := by
 have key : ∀ (l : List Rat) (a : Rat), ((∃ z : Int, a = l.foldl cmn a * (z : Rat)) ∧ ∀ x ∈ l, ∃ z : Int, x = l.foldl cmn a * (z : Rat)) ∧ ∀ c : Rat, (∃ z : Int, a = c * (z : Rat)) → (∀ x ∈ l, ∃ z : Int, x = c * (z : Rat)) → ∃ z : Int, l.foldl cmn a = c * (z : Rat) := by
  intro l
  induction l with
  | nil => intro a; exact ⟨⟨⟨1, by show a = a * _; rw [show (((1 : Int)) : Rat) = 1 from rfl]; grind⟩, fun x hx => by cases hx⟩, fun c h _ => h⟩
  | cons b l ih =>
   intro a
   obtain ⟨⟨⟨z, hz⟩, h2⟩, h3⟩ := ih (cmn a b)
   obtain ⟨⟨z1, e1⟩, ⟨z2, e2⟩, h4⟩ := cmn_spec a b
   refine ⟨⟨⟨z * z1, ?_⟩, fun x hx => ?_⟩, fun c ha hl => ?_⟩
   ·show a = l.foldl cmn (cmn a b) * _
    rw [Rat.intCast_mul, ← Rat.mul_assoc, ← hz]; exact e1
   ·rcases List.mem_cons.1 hx with rfl | hx
    ·exact ⟨z * z2, by show x = l.foldl cmn (cmn a x) * _; rw [Rat.intCast_mul, ← Rat.mul_assoc, ← hz]; exact e2⟩
    ·exact h2 x hx
   ·exact h3 c (h4 c ha (hl b (List.mem_cons_self ..))) (fun x hx => hl x (List.mem_cons_of_mem _ hx))
 obtain ⟨⟨_, h1⟩, h2⟩ := key l 0
 exact ⟨h1, fun c hc => h2 c ⟨0, (Rat.mul_zero c).symm⟩ hc⟩
def prim (l : List Rat) : List Rat := (trimQ l).map (· / msr (trimQ l))
@[simp] theorem prim_len (l : List Rat) : (prim l).length = (trimQ l).length := by simp [prim]
theorem prim_co (l : List Rat) (i : Nat) : co (prim l) i = co l i / msr (trimQ l) := by
 unfold prim
 rw [co_map _ (by rw [Rat.div_def, Rat.zero_mul]), trim_co]
theorem co_mem {l : List Rat} {i : Nat} (h : i < l.length) : co l i ∈ l := by
 unfold co
 rw [List.getD_eq_getElem?_getD, List.getElem?_eq_getElem h]
 exact List.getElem_mem h
theorem msr_ne' {l : List Rat} (h : trimQ l ≠ []) : msr (trimQ l) ≠ 0 := msr_ne (trim_nrm l) (by cases e : trimQ l with | nil => exact absurd e h | cons a m => simp)
theorem prim_whole (l : List Rat) (i : Nat) : ∃ z : Int, co (prim l) i = (z : Rat) := by
 by_cases hi : i < (trimQ l).length
 ·have hm := msr_ne' (l := l) (by intro e; rw [e] at hi; simp at hi)
  obtain ⟨z, hz⟩ := (msr_spec (trimQ l)).1 _ (co_mem hi)
  refine ⟨z, ?_⟩
  rw [prim_co, ← trim_co, hz]; grind
 ·exact ⟨0, by rw [co_ge yw]; rfl⟩
theorem prim_nrm (l : List Rat) : Nrm (prim l) := by
 refine nrm_of fun h k => ?_
 have ht : trimQ l ≠ [] := fun e => h (by unfold prim; rw [e]; rfl)
 have hm := msr_ne' ht
 have hn := nrm_last (trim_nrm l) ht
 rw [prim_len, prim_co, ← trim_co] at k
 apply hn
 have : co (trimQ l) ((trimQ l).length - 1) = co (trimQ l) ((trimQ l).length - 1) / msr (trimQ l) * msr (trimQ l) := by grind
 rw [this, k]; grind
theorem dl_bits {n K : Nat} (h : dl n ≤ K) : n ≤ 2 ^ (32 * K) := by
 have h1 := dl_lt (x := n)
 have h2 := pw_mono h
 rw [pwTwo K] at h2
 have h3 : (n : Int) < ((2 ^ (32 * K) : Nat) : Int) := by omega
 exact Nat.le_of_lt (Int.ofNat_lt.1 h3)
theorem prim_bits {l W : List Rat} {c : Rat} {A : Nat} (hc : c ≠ 0) (h : ∀ i, co l i = c * co W i) (hW : WhL W A) : WhL (prim l) A := fun i => by
 by_cases ht : trimQ l = []
 ·have : co (prim l) i = 0 := by rw [prim_co, zwa.1 ht i]; grind
  rw [this]; exact Wh.zero A
 ·have hm := msr_ne' ht
  obtain ⟨g, hg⟩ := (msr_spec (trimQ l)).2 c (fun x hx => by
   obtain ⟨j, hj, e⟩ := List.getElem_of_mem hx
   have e2 : x = co l j := by rw [← trim_co]; unfold co; rw [List.getD_eq_getElem?_getD, List.getElem?_eq_getElem hj, ← e]; rfl
   obtain ⟨z, hz, _⟩ := hW j
   exact ⟨z, by rw [e2, h j, hz]⟩)
  obtain ⟨z, hz⟩ := prim_whole l i
  obtain ⟨v, hv, hb⟩ := hW i
  have hg0 : g ≠ 0 := by rintro rfl; apply hm; rw [hg]; exact Rat.mul_zero c
  have e : (v : Rat) = ((z * g : Int) : Rat) := by
   rw [Rat.intCast_mul, ← hz, prim_co, h i, hv, hg]
   have : (g : Rat) ≠ 0 := fun k => hg0 (Rat.intCast_inj.1 (by rw [k]; rfl))
   grind
  have e2 := Rat.intCast_inj.1 e
  refine ⟨z, hz, Nat.le_trans ?_ hb⟩
  rw [e2, Int.natAbs_mul]
  exact Nat.le_mul_of_pos_right _ (Int.natAbs_pos.2 hg0)
theorem mk_map (l : List Rat) (c : Rat) : Pol.mk' (l.map (· * c)) = Pol.C c * Pol.mk' l := Pol.ext fun i => by
 rw [Pol.C_mul_c, Pol.mk_c, Pol.mk_c, co_map _ (Rat.zero_mul c)]; grind
theorem prim_mk' (l : List Rat) : ∃ k : Rat, k ≠ 0 ∧ Pol.mk' (prim l) = Pol.C k * Pol.mk' l := by
 by_cases h : trimQ l = []
 ·refine ⟨1, by decide, Pol.ext fun i => ?_⟩
  rw [Pol.C_mul_c, Pol.mk_c, Pol.mk_c, prim_co, zwa.1 h i]; grind
 ·have hm := msr_ne' h
  refine ⟨1 / msr (trimQ l), fun k => ?_, Pol.ext fun i => ?_⟩
  ·have : (1 : Rat) = 1 / msr (trimQ l) * msr (trimQ l) := by grind
   rw [k] at this; grind
  ·rw [Pol.C_mul_c, Pol.mk_c, Pol.mk_c, prim_co]; grind
theorem DivR.pol {p q s t : List Rat} {f : Rat} (h : DivR p q s t f) : Pol.C f * Pol.mk' p = Pol.mk' s * Pol.mk' q + Pol.mk' t := Pol.ext fun i => by
 rw [Pol.C_mul_c, Pol.mk_c, h.eq i, Pol.c_add, ← Pol.mk_mul, Pol.mk_c, Pol.mk_c]
theorem mk_len (l : List Rat) : (Pol.mk' l).len ≤ l.length := zzh l
theorem mk_len_nrm {l : List Rat} (h : Nrm l) : (Pol.mk' l).len = l.length := congrArg List.length h
theorem prim_same (l m : List Rat) : Pol.Same (Pol.mk' l) (Pol.mk' m) (Pol.mk' (prim l)) (Pol.mk' (prim m)) := by
 obtain ⟨k, h1, h2⟩ := prim_mk' l
 obtain ⟨k', h3, h4⟩ := prim_mk' m
 rw [h2, h4]
 exact Pol.Same.scale h1 h3
theorem same_step {p q : Pol} {a b s t : List Rat} {f : Rat} (h : Pol.Same p q (Pol.mk' a) (Pol.mk' b)) (hd : DivR a b s t f) : Pol.Same p q (Pol.mk' b) (Pol.mk' (prim t)) := by
 obtain ⟨k, h1, h2⟩ := prim_mk' t
 rw [h2]
 exact h.step hd.f0 h1 hd.pol
theorem prim_of_wh {t : List Rat} {A : Nat} (h : WhL t A) : WhL (prim t) A := prim_bits (c := 1) yq (fun i => (Rat.one_mul _).symm) h
theorem monic_scaled (l : List Rat) : ∃ k : Rat, k ≠ 0 ∧ ∀ i, co (Pol.mk' l).monic.l i = k * co l i := by
 by_cases h : Pol.mk' l = 0
 ·refine ⟨1, by decide, fun i => ?_⟩
  have e : co l i = 0 := by rw [← Pol.mk_c, h, Pol.c_zero]
  have e2 : (Pol.mk' l).monic = 0 := by unfold Pol.monic; rw [h, Pol.mul_zero]
  show (Pol.mk' l).monic.c i = _
  rw [e2, Pol.c_zero, e]; grind
 ·have h1 := Pol.lead_ne h
  refine ⟨1 / (Pol.mk' l).lead, fun k => ?_, fun i => ?_⟩
  ·have : (1 : Rat) = 1 / (Pol.mk' l).lead * (Pol.mk' l).lead := by grind
   rw [k] at this; grind
  ·show (Pol.mk' l).monic.c i = _
   unfold Pol.monic
   rw [Pol.C_mul_c, Pol.mk_c]
theorem mk_trim (l : List Rat) : Pol.mk' (trimQ l) = Pol.mk' l := Pol.mk_eq.2 (trim_trim l)
def IsSqf (p s : Pol) : Prop := (p = 0 ∧ s = 0) ∨ (p ≠ 0 ∧ ∃ g q, Pol.IsGcd p p.D g ∧ g ≠ 0 ∧ p = q * g ∧ s = q.monic)
theorem IsSqf.unique {p s t : Pol} (h : IsSqf p s) (k : IsSqf p t) : s = t := by
 rcases h with ⟨h1, h2⟩ | ⟨h1, g, q, h2, h3, h4, h5⟩
 ·rcases k with ⟨k1, k2⟩ | ⟨k1, _⟩
  ·rw [h2, k2]
  ·exact absurd h1 k1
 ·rcases k with ⟨k1, k2⟩ | ⟨k1, g', q', k2, k3, k4, k5⟩
  ·exact absurd k1 h1
  ·have e := h2.unique k2
   subst e
   have e2 := Pol.mul_cancel h3 (h4.symm.trans k4)
   rw [h5, k5, e2]
def pot (la lb : Nat) : Nat := la + lb + (if lb < la then 0 else if la = lb then 1 else 2)
theorem three_pow {k : Nat} (h : 2 ≤ k) : (k + 1) * (k + 1) ≤ 3 ^ k := by
 induction k with
 | zero => omega
 | succ k ih =>
  by_cases e : k = 1
  ·subst e; decide
  ·have := ih xq
   rw [Nat.pow_succ]
   have h1 : (k + 1 + 1) * (k + 1 + 1) ≤ (k + 1) * (k + 1) * 3 := by
    have : (k + 1 + 1) * (k + 1 + 1) = (k + 1) * (k + 1) + 2 * (k + 1) + 1 := by grind
    have h2 : 2 * (k + 1) + 1 ≤ 2 * ((k + 1) * (k + 1)) := by
     have : (k + 1) * 2 ≤ (k + 1) * (k + 1) := Nat.mul_le_mul_left _ xq
     omega
    omega
   omega
theorem pot_step {la lb lr A H : Nat} (h : (A + 1) * (A + 1) * 3 ^ pot la lb ≤ H * H) (hr : lr < lb) (hr2 : lr ≤ la) :
  (A + (la - lb + 1) * (A + 1) + 1) * (A + (la - lb + 1) * (A + 1) + 1) * 3 ^ pot lb lr ≤ H * H := by
 have e : A + (la - lb + 1) * (A + 1) + 1 = (la - lb + 1 + 1) * (A + 1) := by rw [Nat.succ_mul (la - lb + 1)]; omega
 have hp : pot lb lr = lb + lr := by unfold pot; rw [if_pos hr]; rfl
 rw [e, hp]
 refine Nat.le_trans ?_ h
 have key : (la - lb + 1 + 1) * (la - lb + 1 + 1) * 3 ^ (lb + lr) ≤ 3 ^ pot la lb := by
  by_cases c : lb < la
  ·have h1 := three_pow (k := la - lb + 1) xq
   have h2 : 3 ^ (la - lb + 1) * 3 ^ (lb + lr) ≤ 3 ^ pot la lb := by
    rw [← Nat.pow_add]
    refine Nat.pow_le_pow_right xq ?_
    unfold pot; rw [if_pos c]; omega
   exact Nat.le_trans (Nat.mul_le_mul_right _ h1) h2
  ·have e1 : la - lb = 0 := by omega
   rw [e1]
   have h2 : 3 ^ 2 * 3 ^ (lb + lr) ≤ 3 ^ pot la lb := by
    rw [← Nat.pow_add]
    refine Nat.pow_le_pow_right xq ?_
    unfold pot; rw [if_neg c]; split <;> omega
   exact Nat.le_trans (Nat.mul_le_mul_right _ yq) h2
 calc (la - lb + 1 + 1) * (A + 1) * ((la - lb + 1 + 1) * (A + 1)) * 3 ^ (lb + lr)
   = (A + 1) * (A + 1) * ((la - lb + 1 + 1) * (la - lb + 1 + 1) * 3 ^ (lb + lr)) := by grind
  _ ≤ (A + 1) * (A + 1) * 3 ^ pot la lb := Nat.mul_le_mul_left _ key
theorem pot_le {la lb A H : Nat} (h : (A + 1) * (A + 1) * 3 ^ pot la lb ≤ H * H) : A + 1 ≤ H := by
 apply Classical.byContradiction
 intro k
 have h1 : 1 ≤ 3 ^ pot la lb := Nat.pow_pos xq
 have h2 : (A + 1) * (A + 1) * 1 ≤ (A + 1) * (A + 1) * 3 ^ pot la lb := Nat.mul_le_mul_left _ h1
 have h3 : (H + 1) * (H + 1) ≤ (A + 1) * (A + 1) := Nat.mul_le_mul xq xq
 have h4 : (H + 1) * (H + 1) = H * H + 2 * H + 1 := by grind
 omega
end Nt
end Go.Proofs.YtifcjcecmoimjaaGreat
namespace Go.Proofs.YtifcjcecmoimjaaGreat
open Go.RowKit Go.ChangeShapes Go.WideShapes
set_option linter.unusedVariables false
namespace Nt
def Sm (l : List Rat) (D A : Nat) : Prop := 0 < D ∧ ∀ i, Wh (co l i * ((D : Int) : Rat)) A
section
variable {l m : List Rat} {D E A B K : Nat} {q : Rat}
theorem dz (h : 0 < D) : ((D : Int) : Rat) ≠ 0 := fun e => by
 have := Rat.intCast_inj.1 (show ((D : Int) : Rat) = ((0 : Int) : Rat) from e); omega
theorem Sm.more (h : Sm l D A) (k : A ≤ B) : Sm l D B := ⟨h.1, fun i => (h.2 i).more k⟩
theorem Sm.co (h : Sm l D A) (e : ∀ i, co m i = co l i) : Sm m D A := ⟨h.1, fun i => by rw [e]; exact h.2 i⟩
theorem Sm.trim (h : Sm l D A) : Sm (trimQ l) D A := h.co (trim_co l)
theorem Sm.prim (h : Sm l D A) : WhL (prim l) A := by
 have h0 := dz h.1
 refine prim_bits (c := 1 / ((D : Int) : Rat)) (W := l.map (· * ((D : Int) : Rat))) (by grind) (fun i => ?_) (fun i => ?_)
 ·rw [co_map (fun x => x * ((D : Int) : Rat)) (Rat.zero_mul _)]; grind
 ·rw [co_map (fun x => x * ((D : Int) : Rat)) (Rat.zero_mul _)]; exact h.2 i
theorem dl_dg {n C : Nat} (h : n ≤ 2 ^ C) : dl n ≤ dg C := by
 refine dl_le ?_
 rw [pwTwo]
 exact Int.ofNat_lt.2 (Nat.lt_of_le_of_lt h (Nat.pow_lt_pow_right xq (by unfold dg; omega)))
theorem wh_rs {x : Rat} (h0 : 0 < D) (h : Wh (x * ((D : Int) : Rat)) A) (hD : D ≤ 2 ^ A) : rs x ≤ dg A := by
 obtain ⟨z, hz, hb⟩ := h
 have h1 := dz h0
 have e : x = mkRat z D := by rw [← mk_div, ← hz]; grind
 rw [e]
 exact rs_mk (dl_dg hb) (dl_dg hD) (by unfold dg; omega)
theorem Sm.rs (h : Sm l D A) (hD : D ≤ 2 ^ A) (i : Nat) : rs (Nt.co l i) ≤ dg A := wh_rs h.1 (h.2 i) hD
theorem WhL.mulQ (h : WhL l A) (k : WhL m B) : WhL (mulQ l m) (A + B + l.length) := by
 induction l with
 | nil => exact fun i => by rw [mulQ_nil]; exact Wh.zero _
 | cons a l ih =>
  intro i
  rw [zxe]
  have h0 : Wh a A := by have := h 0; rwa [co_zero] at this
  have h1 : WhL l A := fun i => by have := h (i + 1); rwa [zxw] at this
  have e : A + B + (a :: l).length = A + B + l.length + 1 := by simp; omega
  rw [e]
  refine ((h0.mul (k i)).more xq).add ?_
  unfold sh
  split
  ·exact Wh.zero _
  ·exact ih h1 _
theorem Sm.mul (h : Sm l D A) (k : Sm m E B) : Sm (mulQ l m) (D * E) (A + B + l.length) := by
 refine ⟨Nat.mul_pos h.1 k.1, fun i => ?_⟩
 have h1 : WhL (l.map (((D : Int) : Rat) * ·)) A := fun i => by rw [co_map (fun x => ((D : Int) : Rat) * x) (Rat.mul_zero _), Rat.mul_comm]; exact h.2 i
 have h2 : WhL (m.map (((E : Int) : Rat) * ·)) B := fun i => by rw [co_map (fun x => ((E : Int) : Rat) * x) (Rat.mul_zero _), Rat.mul_comm]; exact k.2 i
 have h3 := h1.mulQ h2 i
 rw [mulQ_scale_l, mulQ_scale_r, List.length_map] at h3
 rw [show Nt.co (mulQ l m) i * (((D * E : Nat) : Int) : Rat) = ((D : Int) : Rat) * (((E : Int) : Rat) * Nt.co (mulQ l m) i) by rw [show (((D * E : Nat) : Int) : Rat) = ((D : Int) : Rat) * ((E : Int) : Rat) by rw [← Rat.intCast_mul]; simp]; grind]
 exact h3
theorem Sm.mulR (h : Sm l D A) (k : Sm m E B) : Sm (mulQ l m) (D * E) (A + B + m.length) := by
 have h9 := (k.mul h).co (m := mulQ l m) (fun i => Pol.mulQ_comm l m i)
 rw [Nat.mul_comm D E, Nat.add_comm A B]
 exact h9
theorem Sm.add (h : Sm l D A) (k : Sm m D A) : Sm (addQ l m) D (A + 1) := ⟨h.1, fun i => by
 rw [addQ_co, show (Nt.co l i + Nt.co m i) * ((D : Int) : Rat) = Nt.co l i * ((D : Int) : Rat) + Nt.co m i * ((D : Int) : Rat) by grind]
 exact (h.2 i).add (k.2 i)⟩
theorem natMul {x : Rat} (D E : Nat) : x * (((D * E : Nat) : Int) : Rat) = x * ((D : Int) : Rat) * ((E : Int) : Rat) := by
 rw [show (((D * E : Nat) : Int) : Rat) = ((D : Int) : Rat) * ((E : Int) : Rat) by rw [← Rat.intCast_mul]; simp]; grind
theorem Sm.map (h : Sm l D A) (hE : 0 < E) (k : Wh (q * ((E : Int) : Rat)) B) : Sm (l.map (· * q)) (D * E) (A + B) := ⟨Nat.mul_pos h.1 hE, fun i => by
 rw [co_map (fun x => x * q) (Rat.zero_mul q), natMul, show Nt.co l i * q * ((D : Int) : Rat) * ((E : Int) : Rat) = (Nt.co l i * ((D : Int) : Rat)) * (q * ((E : Int) : Rat)) by grind]
 exact (h.2 i).mul k⟩
theorem whNat {n b : Nat} (h : n ≤ 2 ^ b) : Wh (((n : Nat) : Int) : Rat) b := ⟨(n : Int), rfl, by simpa using h⟩
theorem whInt {z : Int} {b : Nat} (h : z.natAbs ≤ 2 ^ b) : Wh (z : Rat) b := ⟨z, rfl, h⟩
theorem Sm.over {b : Nat} (h : Sm l D A) (hE : 0 < E) (hb : E ≤ 2 ^ b) : Sm l (D * E) (A + b) := ⟨Nat.mul_pos h.1 hE, fun i => by
 rw [natMul]; exact (h.2 i).mul (whNat hb)⟩
theorem Sm.ofInts {zs : List Int} (h : ∀ z ∈ zs, z.natAbs ≤ 2 ^ A) : Sm (List.map (fun z : Int => (z : Rat)) zs) 1 A := ⟨by omega, fun i => by
 rw [show ((((1 : Nat) : Int)) : Rat) = 1 from rfl, Rat.mul_one]
 unfold Nt.co
 rw [List.getD_eq_getElem?_getD, List.getElem?_map]
 cases e : zs[i]? with
 | none => exact Wh.zero _
 | some z => exact whInt (h z (List.mem_of_getElem? e))⟩
theorem Sm.nil (hD : 0 < D) : Sm [] D A := ⟨hD, fun i => by rw [co_nil, Rat.zero_mul]; exact Wh.zero _⟩
theorem Sm.ofAll (hD : 0 < D) (h : ∀ x ∈ l, Wh (x * ((D : Int) : Rat)) A) : Sm l D A := ⟨hD, fun i => by
 by_cases hi : i < l.length
 ·exact h _ (co_mem hi)
 ·rw [co_ge xq, Rat.zero_mul]; exact Wh.zero _⟩
theorem Sm.any : ∀ {l : List Rat}, (∀ x ∈ l, Nt.rs x ≤ K) → ∃ D, D ≤ 2 ^ (32 * K * l.length) ∧ Sm l D (32 * K * (l.length + 1))
 | [], _ => ⟨1, Nat.one_le_two_pow, Sm.nil xq⟩
 | a :: l, h => by
  obtain ⟨D, hD, hs⟩ := Sm.any (l := l) (fun x hx => h x (List.mem_cons_of_mem _ hx))
  have ha := h a (List.mem_cons_self ..)
  have hd : a.den ≤ 2 ^ (32 * K) := dl_bits (by unfold Nt.rs at ha; omega)
  have hn : a.num.natAbs ≤ 2 ^ (32 * K) := dl_bits (by unfold Nt.rs at ha; omega)
  refine ⟨a.den * D, ?_, Nat.mul_pos (den_pos a) hs.1, fun i => ?_⟩
  ·rw [List.length_cons, Nat.mul_add, Nat.mul_one, Nat.pow_add, Nat.mul_comm]
   exact Nat.mul_le_mul hD hd
  ·cases i with
   | zero =>
    rw [co_zero, natMul]
    have e : a * ((a.den : Int) : Rat) = (a.num : Rat) := by
     have h1 := dz (den_pos a)
     have h2 : mkRat a.num a.den = a := Rat.mkRat_self a
     rw [← mk_div] at h2
     grind
    rw [e]
    refine ((whInt hn).mul (whNat hD)).more ?_
    rw [List.length_cons, Nat.mul_add, Nat.mul_add]; omega
   | succ i =>
    rw [zxw, Nat.mul_comm, natMul]
    refine ((hs.2 i).mul (whNat hd)).more ?_
    rw [List.length_cons, Nat.mul_add, Nat.mul_add, Nat.mul_add]; omega
end
end Nt
section
variable {u : World} {x : Sl} {l : List Rat} {D A K : Nat}
theorem RatsN.fitS {L : List RL} (h : RatsN u L l K) (s : Nt.Sm l D A) (hD : D ≤ 2 ^ A) : RatsN u L l (Nt.dg A) := ⟨h.1, fun i hi => (h.2 i hi).fit (s.rs hD i)⟩
theorem PolN.fitS (h : PolN u x l K) (s : Nt.Sm l D A) (hD : D ≤ 2 ^ A) : PolN u x l (Nt.dg A) := by obtain ⟨L, h1, h2⟩ := h; exact ⟨L, h1, h2.fitS s hD⟩
theorem PolV.all (h : PolV u x l K) : ∀ q ∈ l, Nt.rs q ≤ K := by
 obtain ⟨L, h1, h2⟩ := h
 intro q hq
 obtain ⟨j, hj, e⟩ := List.getElem_of_mem hq
 have h9 := (h2.2 j hj).rs
 rw [List.getD_eq_getElem?_getD, List.getElem?_eq_getElem hj, Option.getD_some, e] at h9
 exact h9
end
section
variable {H : Type} {enc : TypeId × Value → H} {w : World} {base : Nat} {spare : Nat → Bool} {held : Bool} {fuel : Nat} {r0 : Reach} {b0 : Nat} {v : Value} {d : DataW H} {p : List MemPlace}
end
end Go.Proofs.YtifcjcecmoimjaaGreat
namespace Go.Proofs.YtifcjcecmoimjaaGreat
open Go.RowKit
set_option linter.unusedVariables false
section
variable {P : Program} {u0 u u' w w' : World} {S : St} {B : Tmp → Nat} {a : Act} {c : Code} {w0 : Base}
variable {ops : Array Oper} {o : Oper} {p : List Tmp} {rest : List (Oper × List Tmp)} {K : St → World → Prop}
theorem sy_appL0 {seq : Bool} (d : Tmp) {T E : TypeId} {s x : Operand} {z : Value} {size bytes : Nat} {m c t2 : Nat} {ty2 : TypeId} (news : List Value) (hT : P.underlying T = some (.slice E)) (hi : (P.info? E).map (fun i => (i.zero, i.size, i.bytes)) = some (some z, size, bytes)) (hzs : z.cells.size = size) (hsz : 0 < size)
  (hl : news.length = m * size) (h1 : ∀ v ∈ news, v.oneCell' = true) (hm : 0 < m) (h63 : m ≤ maxLen) (hbytes : m * bytes ≤ 140737488355328)
  (k : ∀ c1 cs, m ≤ c1 → c1 ≤ maxLen → cs.length = c1 * size → cs.take (m * size) = news → sym P ops w0 u0 seq rest (S.own d ⟨E, cs⟩ m c1) u K)
  (hw : Wants ops o S := by exact zwh xj) (hd : o.dst = some d := by kernel_rfl) (hop : o.op = .call { callee := .builtin .append, args := #[s, x], argTypes := #[T, T] } := by rfl) (hf : (freeB S d && (S.var d).isNone) = true := by kernel_rfl)
  (hs : evO S s = some (.v (.slice none 0 0)) := by rfl) (hx : evO S x = some (.slc t2 0 m c) := by rfl) (hv2 : S.var t2 = some ⟨ty2, news⟩ := by rfl) : sym P ops w0 u0 seq ((o, p) :: rest) S u K := by
 simp only [Bool.and_eq_true, Option.isNone_iff_eq_none] at hf
 refine .inr (.inr (.inl ⟨.inr ⟨by rw [hop]; rfl, by rw [hop]; rfl⟩, fun B a w u' he hrep => ⟨hw B a hrep.regs, ?_⟩⟩))
 obtain ⟨q1, q2, q3⟩ := hrep.var t2 _ hv2
 obtain ⟨g, c1, cs, w', hrun, hgv, k1, k2, k3, k4, k5, k6⟩ := run_app (P := P) (u0 := u0) (w := w) (v := .slice none 0 0) (n := 0) (xs := []) (ad := ⟨B t2, 0, none⟩) (c := c) hT hi hzs hsz ⟨by simp, .inl ⟨rfl, rfl⟩⟩ hl (fun j v hv => by rw [addr_add, Nat.zero_add, cells_at q1]; simpa using hv) h1 hm xq (by simpa using hbytes) (by rw [← hrep.dat.size]; exact hrep.grow.size) o.type
 rw [Nat.zero_add] at hrun k1 k4
 unfold Oper.wp execOp
 simp only [hop, resolve, invoke, builtin, Sem.run_bind, Sem.run_pure, Result.andThen_ok, List.map_toArray, List.map_cons, List.map_nil, ev_of hrep.regs hs, ev_of hrep.regs hx, SV.conc, hrun]
 have hr2 := hrep.grown (pubs := []) (fun r x t _ _ h => by cases h) (row := none) (fun b h => by cases h) k5 (d := d) (V := ⟨E, cs.toList⟩) (g := g) (n := m) (c := c1) (zxz hd hf.1 d hd).1 (.inl hf.2) (by simpa using hgv) (k6.imp (fun h => by cases h) id)
 rw [unpub_nil] at hr2
 have hsz2 : u'.heap.size ≤ w'.heap.size := by rw [hrep.dat.size]; exact k5.size
 show ∃ S' B' u'' u2, Rep w0 u0 S' B' (a.put o.dst _) w' u'' ∧ _
 rw [hd]
 exact ⟨_, _, _, u, hr2, fun _ => (hide_grow hsz2).ext, fun _ => Ext.refl _, he.trans (hide_grow hsz2).ext, k c1 cs.toList k1 k2 k3 (by simpa using k4)⟩
theorem sy_appL1 {seq : Bool} (d : Tmp) {T E : TypeId} {s x : Operand} {z : Value} {size bytes : Nat} {m c t n cap t2 : Nat} {ty2 : TypeId} {cs0 : List Value} (pubs : List Tmp) (news : List Value) (hT : P.underlying T = some (.slice E)) (hi : (P.info? E).map (fun i => (i.zero, i.size, i.bytes)) = some (some z, size, bytes)) (hzs : z.cells.size = size) (hsz : 0 < size)
  (hl : news.length = m * size) (h1 : ∀ v ∈ news, v.oneCell' = true) (hm : 0 < m) (h63 : n + m ≤ maxLen) (hbytes : (n + m) * bytes ≤ 140737488355328)
  (hn : n ≤ cap) (hcap : cap ≤ maxLen) (hcl : cs0.length = cap * size) (hno : NoAt S pubs)
  (k : ∀ c1 cs, n + m ≤ c1 → c1 ≤ maxLen → cs.length = c1 * size → cs.take ((n + m) * size) = cs0.take (n * size) ++ news → sym P ops w0 u0 seq rest ((S.unpub pubs).own d ⟨E, cs⟩ (n + m) c1) u K)
  (hw : Wants ops o S := by exact zwh xj) (hd : o.dst = some d := by kernel_rfl) (hop : o.op = .call { callee := .builtin .append, args := #[s, x], argTypes := #[T, T] } := by rfl) (hf : (Nat.blt d S.n && ((S.var d).isNone || pubs.contains d) && pubs.contains t && Nat.blt t S.n) = true := by kernel_rfl)
  (hs : evO S s = some (.slc t 0 n cap) := by rfl) (hv : S.var t = some ⟨E, cs0⟩ := by rfl) (hx : evO S x = some (.slc t2 0 m c) := by rfl) (hv2 : S.var t2 = some ⟨ty2, news⟩ := by rfl) : sym P ops w0 u0 seq ((o, p) :: rest) S u K := by
 simp only [Bool.and_eq_true, Bool.or_eq_true, Option.isNone_iff_eq_none, List.contains_iff_mem] at hf
 refine .inr (.inr (.inl ⟨.inr ⟨by rw [hop]; rfl, by rw [hop]; rfl⟩, fun B a w u' he hrep => ⟨hw B a hrep.regs, ?_⟩⟩))
 have htn : t < S.n := Nat.le_of_ble_eq_true hf.2
 obtain ⟨v1, v2, v3⟩ := hrep.var t _ hv
 obtain ⟨q1, q2, q3⟩ := hrep.var t2 _ hv2
 have v3 := v3.1 htn
 obtain ⟨g, c1, cs, w', hrun, hgv, k1, k2, k3, k4, k5, k6⟩ := run_app (P := P) (u0 := u0) (w := w) (v := .slice (some ⟨B t, 0, none⟩) n cap) (n := n) (xs := cs0.take (n * size)) (ad := ⟨B t2, 0, none⟩) (c := c) hT hi hzs hsz
  ⟨by rw [List.length_take, hcl]; exact Nat.min_eq_left (Nat.mul_le_mul_right _ hn), .inr ⟨B t, cap, cs0.toArray, rfl, v3, v1, hn, hcap, by simpa using hcl, by simp⟩⟩ hl (fun j v hv => by rw [addr_add, Nat.zero_add, cells_at q1]; simpa using hv) h1 hm h63 hbytes (by rw [← hrep.dat.size]; exact hrep.grow.size) o.type
 unfold Oper.wp execOp
 simp only [hop, resolve, invoke, builtin, Sem.run_bind, Sem.run_pure, Result.andThen_ok, List.map_toArray, List.map_cons, List.map_nil, ev_of hrep.regs hs, ev_of hrep.regs hx, SV.conc, hrun]
 have hr2 := hrep.grown hno (row := some (B t)) (fun b h => by injection h with h; exact ⟨t, hf.1.2, htn, _, hv, h⟩) k5 (d := d) (V := ⟨E, cs.toList⟩) (g := g) (n := n + m) (c := c1) (Nat.le_of_ble_eq_true hf.1.1.1) hf.1.1.2 (by simpa using hgv) k6
 have hsz2 : u'.heap.size ≤ w'.heap.size := by rw [hrep.dat.size]; exact k5.size
 show ∃ S' B' u'' u2, Rep w0 u0 S' B' (a.put o.dst _) w' u'' ∧ _
 rw [hd]
 exact ⟨_, _, _, u, hr2, fun _ => (hide_grow hsz2).ext, fun _ => Ext.refl _, he.trans (hide_grow hsz2).ext, k c1 cs.toList k1 k2 k3 k4⟩
theorem sy_max0 (d : Tmp) {x : Operand} {k0 : IntKind} {n v : Int} {tys : Array TypeId} (hv : (if (0 : Int) > n then 0 else n) = v)
  (k : sym P ops w0 u0 true rest (S.set d (.v (.int k0 v))) u K)
  (hw : Wants ops o S := by exact zwh xj) (hd : o.dst = some d := by kernel_rfl) (hop : o.op = .call { callee := .builtin .max, args := #[x, .const (.int k0 0)], argTypes := tys } := by rfl) (hf : freeB S d = true := by kernel_rfl)
  (hx : evO S x = some (.v (.int k0 n)) := by rfl) : sym P ops w0 u0 true ((o, p) :: rest) S u K := by
 refine .inr (.inr (.inl ⟨.inl rfl, fun B a w u' he hrep => ⟨hw B a hrep.regs, ?_⟩⟩))
 have hrun : ∀ ty w, (Builtin.max_ tys ty #[.int k0 n, .int k0 0]).run P w = .ok (.int k0 v) w := by
  intro ty w
  rw [← hv]
  rfl
 have hc0 : a.eval (Operand.const (.int k0 0)) = .int k0 0 := rfl
 unfold Oper.wp execOp
 simp only [hop, resolve, invoke, builtin, Sem.run_bind, Sem.run_pure, Result.andThen_ok, List.map_toArray, List.map_cons, List.map_nil, ev_of hrep.regs hx, SV.conc, hc0, hrun]
 have hr2 := hrep.set (d := o.dst) (x := some (.v (.int k0 v))) (v := .int k0 v) (fun s hs => (zxz hd hf s hs).1) (fun z e => by injection e with e; rw [← e]; rfl) (fun z t e ht => by injection e with e; rw [← e] at ht; cases ht)
 show ∃ S' B' u'' u2, Rep w0 u0 S' B' (a.put o.dst _) w u'' ∧ _
 refine ⟨_, B, u', u, hr2, fun _ => Ext.refl _, fun _ => Ext.refl _, he, ?_⟩
 rw [hd]; exact k
end
section
variable {u u' : World} {L : List RL} {l : List Rat} {q : Rat} {r : RL} {K i b n c : Nat} {x : Sl}
theorem RatsV.set (h : RatsV u L l K) (hi : i < l.length) (hr : RatV u r q K) : RatsV u (L.set i r) (l.set i q) K := by
 refine ⟨by simpa using h.1, fun j hj => ?_⟩
 rw [List.length_set] at hj
 rw [List.getD_eq_getElem?_getD, List.getD_eq_getElem?_getD, List.getElem?_set, List.getElem?_set]
 by_cases e : i = j
 ·subst e
  rw [if_pos rfl, if_pos rfl, if_pos hi, if_pos (by rw [h.1]; exact hi)]
  exact hr
 ·rw [if_neg e, if_neg e, ← List.getD_eq_getElem?_getD, ← List.getD_eq_getElem?_getD]
  exact h.2 j hj
theorem RatsV.zeros (u : World) (n : Nat) : RatsV u (List.replicate n rl0) (List.replicate n 0) 1 := by
 refine ⟨by simp, fun i hi => ?_⟩
 rw [List.length_replicate] at hi
 rw [List.getD_eq_getElem?_getD, List.getD_eq_getElem?_getD, List.getElem?_replicate, List.getElem?_replicate, if_pos hi, if_pos hi]
 exact rat_nil _
theorem RatsN.fitR {M : Nat} (h : RatsN u L l K) (k : ∀ i, Nt.rs (l.getD i 0) ≤ M) : RatsN u L l M := ⟨h.1, fun i hi => (h.2 i hi).fit (k i)⟩
theorem PolN.fitR {M : Nat} (h : PolN u x l K) (k : ∀ i, Nt.rs (l.getD i 0) ≤ M) : PolN u x l M := by obtain ⟨L, h1, h2⟩ := h; exact ⟨L, h1, h2.fitR k⟩
end
section
variable {P : Program} {ops : Array Oper} {w0 : Base} {u0 : World} {S T : St} {B : Tmp → Nat} {a : Act} {w w' u u' : World} {o : Oper} {p : List Tmp} {seq : Bool} {rest : List (Oper × List Tmp)} {K : St → World → Prop}
def SL (P : Program) (w0 : Base) (u0 : World) (ops : Array Oper) (l : List Oper) (S : St) (u : World) (Q : MP) : Prop :=
 ∀ B a w u', Ext u u' → Rep w0 u0 S B a w u' → wpList P ops (fun e a' w' => ∃ S' B' u'', Rep w0 u0 S' B' a' w' u'' ∧ Q.f e S' u'') l a w
theorem SL.mono {l : List Oper} {Q : MP} : Mono (fun S u => SL P w0 u0 ops l S u Q) := fun S u u' e h B a w u'' e' hr => h B a w u'' (e.trans e') hr
theorem sl_key {Q : Exit → Act → World → Prop} (hK : Mono K) (l2 : List Oper) (hQ : ∀ S u, K S u → ∀ B a w, Rep w0 u0 S B a w u → wpList P ops Q l2 a w) :
  ∀ (l : List Oper) (S : St) (B : Tmp → Nat) (a : Act) (w u : World), Rep w0 u0 S B a w u → sym P ops w0 u0 true (l.map fun o => (o, [])) S u K → wpList P ops Q (l ++ l2) a w := by
 intro l
 induction l with
 | nil => intro S B a w u hr h; exact hQ S u h B a w hr
 | cons o l ih =>
  intro S B a w u hr h
  have hs := one_sound (Q := Q) (zwe hK) h (Ext.refl _) hr
  refine wpList_step fun K' hK' => ?_
  have hfin : ∀ a' w', (∃ S' B' u'', Rep w0 u0 S' B' a' w' u'' ∧ (true = false → Ext u u'') ∧ sym P ops w0 u0 true (l.map fun o => (o, [])) S' u'' K) → K' a' w' := by
   rintro a' w' ⟨S', B', u'', g1, _, g3⟩
   exact hK' _ _ (ih S' B' a' w' u'' g1 g3)
  show if Region.wanted o (yielded ops a.tmps) = true then _ else _
  split
  ·rename_i hw
   rw [if_pos hw] at hs
   exact Oper.wp_mono hfin hs
  ·rename_i hw
   rw [if_neg hw] at hs
   exact hfin _ _ hs
end
theorem sy_maxN {P : Program} {ops : Array Oper} {w0 : Base} {u0 : World} {S : St} {u : World} {seq : Bool} {o : Oper} {p : List Tmp} {rest : List (Oper × List Tmp)} {K : St → World → Prop} (d : Tmp) {x y : Operand} {k0 : IntKind} {n m v : Int} {tys : Array TypeId} (hv : (if m > n then m else n) = v)
  (k : sym P ops w0 u0 seq rest (S.set d (.v (.int k0 v))) u K)
  (hw : Wants ops o S := by exact zwh xj) (hd : o.dst = some d := by kernel_rfl) (hop : o.op = .call { callee := .builtin .max, args := #[x, y], argTypes := tys } := by rfl) (hf : freeB S d = true := by kernel_rfl)
  (hx : evO S x = some (.v (.int k0 n)) := by rfl) (hy : evO S y = some (.v (.int k0 m)) := by rfl) : sym P ops w0 u0 seq ((o, p) :: rest) S u K := by
 have hrun : ∀ ty w, (Builtin.max_ tys ty #[.int k0 n, .int k0 m]).run P w = .ok (.int k0 v) w := by
  intro ty w
  rw [← hv]
  rfl
 refine .inl ⟨by rw [hop]; exact (by decide : (0 : Nat) ≠ 2), .set (.v (.int k0 v)), ⟨zxz hd hf, .inl ⟨(fun t ht => by cases ht), fun B a w u' hr he hdt => ⟨hw B a hr, ?_⟩⟩⟩, ?_⟩
 ·unfold execOp
  simp only [hop, resolve, invoke, builtin, Sem.run_bind, Sem.run_pure, Result.andThen_ok, List.map_toArray, List.map_cons, List.map_nil, ev_of hr hx, ev_of hr hy, SV.conc, hrun]
 ·show sym P ops w0 u0 seq rest (S.put o.dst (some _)) u K
  rw [hd]; exact k
section
variable {u u' u1 : World} {L : List RL} {r : RL} {l : List Rat} {q : Rat} {K n b b6 : Nat} {cs : List Value} {t t6 : TypeId}
theorem rl_set_same {i : Nat} (h : i < L.length) : (L.set i r).getD i rl0 = r := by
 rw [List.getD_eq_getElem?_getD, List.getElem?_set_self h]; rfl
theorem SlR.extB0 {A : Option Addr} {m c : Nat} {z : List Int} (h : SlR .u32 u A m c z) (hb : u.heap[b]? = some (.cells cs.toArray t (0, 0))) (hn : ∀ v ∈ cs, ∀ y, v ≠ .int .u32 y) (e : ExtB b u u') : SlR .u32 u' A m c z := by
 obtain ⟨h1, h2, h3, h4⟩ := h
 refine ⟨h1, h2, h3, fun hp => ?_⟩
 obtain ⟨b', o, rfl, hlt, hc⟩ := h4 hp
 have hne : b' ≠ b := by
  rintro rfl
  have := hc 0 hp
  rw [cells_at hb] at this
  have h9 : cs[o + 0]? = some (.int .u32 (z[0]?.getD 0)) := by simpa using this
  exact hn _ (List.mem_of_getElem? h9) _ rfl
 refine ⟨b', o, rfl, Nat.lt_of_lt_of_le hlt e.size, fun i hi => ?_⟩
 have := hc i hi
 unfold World.cell? at this ⊢
 cases hb' : u.heap[b']? with
 | none => simp only [hb'] at this; cases this
 | some ob =>
  simp only [hb'] at this
  cases ob with
  | cells cs t' fr => rw [e.vis b' _ hne hb' (by unfold hidO; exact fun e => by cases e)]; exact this
  | _ => cases this
theorem RatN.extB0 (h : RatN u r q K) (hb : u.heap[b]? = some (.cells cs.toArray t (0, 0))) (hn : ∀ v ∈ cs, ∀ y, v ≠ .int .u32 y) (e : ExtB b u u') : RatN u' r q K :=
 ⟨⟨h.1.1, h.1.2.1, h.1.2.2.1.extB0 hb hn e, h.1.2.2.2⟩, h.2.1, h.2.2.1.extB0 hb hn e, h.2.2.2⟩
end
structure ExtF (F : List Nat) (u u' : World) : Prop where
 size : u.heap.size ≤ u'.heap.size
 vis : ∀ (k : Nat) (o : Obj), k ∉ F → u.heap[k]? = some o → o ≠ hidO → u'.heap[k]? = some o
section
variable {P : Program} {ops : Array Oper} {w0 : Base} {u0 : World} {S T : St} {B : Tmp → Nat} {a : Act} {w w' u u' u'' v : World} {o : Oper} {p : List Tmp} {seq : Bool} {rest : List (Oper × List Tmp)} {K : St → World → Prop} {F : List Nat} {b : Nat} {ob : Obj}
theorem ExtF.ext {u2 : World} (h : ExtF F u u') (e : Ext u' u2) : ExtF F u u2 := ⟨Nat.le_trans h.size e.size, fun k o hk ho hh => e.vis k o (h.vis k o hk ho hh) hh⟩
theorem ExtF.pre {u2 : World} (e : Ext u u') (h : ExtF F u' u2) : ExtF F u u2 := ⟨Nat.le_trans e.size h.size, fun k o hk ho hh => h.vis k o hk (e.vis k o ho hh) hh⟩
theorem ExtF.old (h : ExtF F u u') (e : Ext v u) (hb : ∀ b ∈ F, ∀ ob, v.heap[b]? = some ob → ob = hidO) : Ext v u' :=
 ⟨Nat.le_trans e.size h.size, fun k o hk hh => h.vis k o (fun e' => hh (hb k e' o hk)) (e.vis k o hk hh) hh⟩
theorem ExtF.cells {t : TypeId} {cs : Array Value} {k : Nat} (h : ExtF F u u') (hk : k ∉ F) (hb : u.heap[k]? = some (.cells cs t (0, 0))) : u'.heap[k]? = some (.cells cs t (0, 0)) := h.vis k _ hk hb (by unfold hidO; intro e; cases e)
theorem ExtB.cells {t : TypeId} {cs : Array Value} {k : Nat} (h : ExtB b u u') (hk : k ≠ b) (hb : u.heap[k]? = some (.cells cs t (0, 0))) : u'.heap[k]? = some (.cells cs t (0, 0)) := h.vis k _ hk hb (by unfold hidO; intro e; cases e)
def PostF (F : List Nat) (u w : World) (Φ : Value → World → Prop) (e : Ending) (w' : World) : Prop :=
 ∃ v u', e = .returned v ∧ Dat u' w' ∧ Bel ⟨w, none, F⟩ w' ∧ GrowF F u u' ∧ Φ v u'
theorem PostF.mono {f : FuncId} {args : Array Value} {Φ Ψ : Value → World → Prop} (h : Calls P f args w (PostF F u w Φ)) (k : ∀ v u', GrowF F u u' → Φ v u' → Ψ v u') : Calls P f args w (PostF F u w Ψ) :=
 h.mono fun e w' ⟨v, u', h1, h2, h3, h4, h5⟩ => ⟨v, u', h1, h2, h3, h4, k v u' h4 h5⟩
theorem Left.step {M : List Nat} {pre post : List (Nat × List Tmp)} {y : Nat × List Tmp} {listed : Array Bool} (hL : Left ops M (pre ++ y :: post) listed) (hro : ∀ j, (M.getD y.1 0).testBit j = true → j ∉ (pre ++ y :: post).map (·.1)) : Left ops M (pre ++ post) (listed.setIfInBounds y.1 true) := by
 have hsub : (pre ++ post).Sublist (pre ++ y :: post) := List.Sublist.append_left (List.sublist_cons_self _ _) _
 have hyn : y.1 ∉ (pre ++ post).map (·.1) := by
  have := hL.nodup
  rw [List.map_append, List.map_cons] at this
  have h2 := List.nodup_append.1 this
  have h3 := (List.nodup_cons.1 h2.2.1).1
  intro hm
  rw [List.map_append] at hm
  rcases List.mem_append.1 hm with hm | hm
  ·exact h2.2.2 y.1 hm y.1 (List.mem_cons_self ..) rfl
  ·exact h3 hm
 have hmem : ∀ j, j ≠ y.1 → (j ∈ (pre ++ post).map (·.1) ↔ j ∈ (pre ++ y :: post).map (·.1)) := fun j hj => by simp [hj]
 refine ⟨hL.nodup.sublist (hsub.map _), hL.pair.sublist hsub, by simp [hL.size], fun j hj => ?_, fun x hx => hL.lt x (hsub.mem hx), fun x hx => hL.mask x (hsub.mem hx), fun j hj hjn x hx => ?_⟩
 ·by_cases e : j = y.1
  ·subst e
   constructor
   ·intro h
    simp [hL.size, hj] at h
   ·intro h; exact absurd h hyn
  ·rw [getD_set_ne true (Ne.symm e), hmem j e]
   exact hL.mem j hj
 ·intro hmx
  by_cases e : j = y.1
  ·subst e; exact hro x hx ((hsub.map _).mem hmx)
  ·exact hL.closed j hj (fun h => hjn ((hmem j e).2 h)) x hx ((hsub.map _).mem hmx)
def chainB (M : List Nat) : List (Nat × List Tmp) → Bool
 | [] => true
 | x :: l => l.all (fun y => (M.getD y.1 0).testBit x.1) && chainB M l
theorem any_chain {M : List Nat} {Q : Exit → Act → World → Prop} : ∀ (T : List (Nat × List Tmp)) (listed : Array Bool) (a : Act) (w : World), Left ops M T listed → chainB M T = true →
  wpList P ops Q (T.map fun x => ops.getD x.1 default) a w → wpAny P .any ops Q T.length listed a w := by
 intro T
 induction T with
 | nil =>
  intro listed a w hL _ h
  refine ⟨?_, h⟩
  cases e : Region.ready .any ops listed with
  | nil => rfl
  | cons i l =>
   have := (hL.ready_mem (i := i) (by rw [e]; exact List.mem_cons_self ..)).2.1
   simp at this
 | cons y T ih =>
  intro listed a w hL hc h
  simp only [chainB, Bool.and_eq_true] at hc
  refine ⟨fun e => ?_, fun i hi => ?_⟩
  ·have := hL.head_ready
   rw [e] at this
   cases this
  ·obtain ⟨hlt, hm, hout⟩ := hL.ready_mem hi
   obtain ⟨x, hx, rfl⟩ := List.mem_map.1 hm
   have hro := reach_out hL hx hout
   have hxy : x = y := by
    rcases List.mem_cons.1 hx with rfl | hx'
    ·rfl
    ·exact absurd (List.mem_map.2 ⟨y, List.mem_cons_self .., rfl⟩) (hro y.1 (List.all_eq_true.1 hc.1 x hx'))
   subst hxy
   have hL' : Left ops M T (listed.setIfInBounds x.1 true) := by
    have := Left.step (pre := []) (post := T) hL hro
    exact this
   have key : ops[x.1]? = some (opAt ops x).1 := get_op hlt
   simp only [wpOp, key]
   simp only [List.map_cons] at h
   unfold wpList at h
   have h : if Region.wanted (opAt ops x).1 (yielded ops a.tmps) = true then (opAt ops x).1.wp P a w (wpList P ops Q (T.map fun x => ops.getD x.1 default)) Q ∨ ((opAt ops x).1.asks P a w ∧ LetsOut Q) else wpList P ops Q (T.map fun x => ops.getD x.1 default) (a.put (opAt ops x).1.dst undef) w := h
   split
   ·rename_i hw
    rw [if_pos hw] at h
    exact h.imp (Oper.wp_mono fun a w h => ih _ a w hL' hc.2 h) id
   ·rename_i hw
    rw [if_neg hw] at h
    exact ih _ _ w hL' hc.2 h
theorem any_symT {M : List Nat} {T : List (Nat × List Tmp)} {Q : Exit → Act → World → Prop} (hK : Mono K) (hc : chainB M T = true) (hQ : ∀ S u, K S u → ∀ B a w, Rep w0 u0 S B a w u → wpList P ops Q (T.map fun x => ops.getD x.1 default) a w) :
  ∀ (fuel : Nat) (L : List (Nat × List Tmp)) (listed : Array Bool) (S : St) (B : Tmp → Nat) (a : Act) (w u : World), L.length = fuel → Left ops M (L ++ T) listed → (∀ x ∈ L, ∀ y ∈ T, (M.getD y.1 0).testBit x.1 = true) → Rep w0 u0 S B a w u →
   sym P ops w0 u0 false (L.map (opAt ops)) S u K → wpAny P .any ops Q (fuel + T.length) listed a w := by
 intro fuel
 induction fuel with
 | zero =>
  intro L listed S B a w u hl hL _ hr hs
  obtain rfl := List.length_eq_zero_iff.1 hl
  rw [Nat.zero_add]
  exact any_chain T listed a w hL hc (hQ S u hs B a w hr)
 | succ fuel ih =>
  intro L listed S B a w u hl hL hT hr hs
  rw [Nat.succ_add]
  refine ⟨fun e => ?_, fun i hi => ?_⟩
  ·cases L with
   | nil => cases hl
   | cons x L =>
    have := Left.head_ready (L := L ++ T) hL
    rw [e] at this
    cases this
  ·obtain ⟨hlt, hm, hout⟩ := hL.ready_mem hi
   obtain ⟨y, hy, rfl⟩ := List.mem_map.1 hm
   have hro := reach_out hL hy hout
   have hyL : y ∈ L := by
    rcases List.mem_append.1 hy with h | h
    ·exact h
    ·cases L with
     | nil => cases hl
     | cons x L => exact absurd yy (hro x.1 (hT x (List.mem_cons_self ..) y h))
   obtain ⟨pre, post, rfl⟩ := List.append_of_mem hyL
   have hsw : ∀ x ∈ pre.map (opAt ops), swapOk ops x (opAt ops y) = true := by
    intro x hx
    obtain ⟨x', hx', rfl⟩ := List.mem_map.1 hx
    have hp := hL.pair
    rw [List.append_assoc, List.cons_append] at hp
    have := (List.pairwise_append.1 hp).2.2 x' hx' y (List.mem_cons_self ..)
    simp only [pairOk, Bool.and_eq_true, Bool.or_eq_true] at this
    rcases this.1 with h1 | h1
    ·exact absurd (List.mem_map.2 ⟨x', by simp [hx'], rfl⟩) (hro x'.1 h1)
    ·exact h1
   rw [List.map_append, List.map_cons] at hs
   have hone := bubble hK (pre.map (opAt ops)) S u hr.wf hsw hs
   have hsound := one_sound (Q := Q) (zwe hK) hone (Ext.refl _) hr
   have hL' : Left ops M ((pre ++ post) ++ T) (listed.setIfInBounds y.1 true) := by
    have e1 : (pre ++ y :: post) ++ T = pre ++ y :: (post ++ T) := by simp
    rw [e1] at hL hro
    have := Left.step hL hro
    rw [List.append_assoc]; exact this
   have hfin : ∀ a' w', (∃ S' B' u'', Rep w0 u0 S' B' a' w' u'' ∧ (false = false → Ext u u'') ∧ sym P ops w0 u0 false (pre.map (opAt ops) ++ post.map (opAt ops)) S' u'' K) → wpAny P .any ops Q (fuel + T.length) (listed.setIfInBounds y.1 true) a' w' := by
    rintro a' w' ⟨S', B', u'', g1, _, g3⟩
    refine ih (pre ++ post) _ S' B' a' w' u'' (by simp at hl ⊢; omega) hL' (fun x hx => hT x (by simp at hx ⊢; rcases hx with h | h <;> simp [h])) g1 ?_
    rw [List.map_append]; exact g3
   have key : ops[y.1]? = some (opAt ops y).1 := get_op hlt
   simp only [wpOp, key]
   split
   ·rename_i hw
    rw [if_pos hw] at hsound
    exact .inl (Oper.wp_mono hfin hsound)
   ·rename_i hw
    rw [if_neg hw] at hsound
    exact hfin _ _ hsound
def tailB (M : List Nat) (L T : List (Nat × List Tmp)) : Bool := L.all (fun x => T.all fun y => (M.getD y.1 0).testBit x.1) && chainB M T
theorem sw_anyC {id : Nat} {Q : MP} (M : List Nat) (q T : List (Nat × List Tmp)) (hm : P.follows .mixedOrders = true) (hok : regOk ops M (q ++ T) = true) (ht : tailB M q T = true)
  (h : sym P ops w0 u0 false (q.map (opAt ops)) S u (fun S' u' => sym P ops w0 u0 true (T.map fun x => (ops.getD x.1 default, [])) S' u' (Q.f .normal))) : SW P w0 u0 (.region id ops true) S u Q := by
 intro B a w u' e hr
 simp only [regOk, Bool.and_eq_true, beq_iff_eq, List.all_eq_true] at hok
 obtain ⟨⟨⟨⟨h1, h2⟩, h5⟩, h3⟩, h4⟩ := hok
 simp only [tailB, Bool.and_eq_true, List.all_eq_true] at ht
 have hnd := nodupB_spec h2
 have hall : ∀ i, i < ops.size → i ∈ (q ++ T).map (·.1) := fun i hi => List.contains_iff_mem.1 (h5 i (by simpa using hi))
 have hK : Mono (fun S' u' => sym P ops w0 u0 true (T.map fun x => (ops.getD x.1 default, ([] : List Tmp))) S' u' (Q.f .normal)) := zwe (Q.mono _)
 have hs : ops.size = q.length + T.length := by rw [← h1, List.length_append]
 refine wp_region_any hm ?_
 rw [hs]
 have hlist : Left ops M (q ++ T) (Array.replicate (q.length + T.length) false) := by
  rw [← hs]
  refine ⟨hnd, pairsOk_spec h4, by simp, fun i hi => ?_, fun x hx => ?_, fun x hx => (h3 x hx).2, fun j hj hjn => absurd (hall j hj) hjn⟩
  ·simp only [Array.getD_eq_getD_getElem?]
   rw [Array.getElem?_eq_getElem (by simpa using hi)]
   simp only [Array.getElem_replicate, Option.getD_some, true_iff]
   exact hall i hi
  ·obtain ⟨⟨g1, g2⟩, g3⟩ := h3 x hx
   refine ⟨by simpa using g1, fun e he hb => ?_⟩
   simp only [Bool.not_eq_true', List.any_eq_false] at g2
   have := g2 e (by simpa using he)
   simp [hb] at this
   exact this
 refine any_symT hK ht.2 (fun S u'' h B a w hr => ?_) q.length q _ S B a _ u' rfl hlist (fun x hx y hy => ht.1 x hx y hy) hr.drew (zwe hK _ _ _ e h)
 have := sl_key (Q := fun e a' w' => ∃ S' B' u'', Rep w0 u0 S' B' a' w' u'' ∧ Q.f e S' u'') (K := Q.f .normal) (Q.mono _) [] (fun S u h B a w hr => by exact ⟨S, B, u, hr, h⟩) (T.map fun x => ops.getD x.1 default) S B a w u'' hr (by rw [List.map_map]; exact h)
 rw [List.append_nil] at this
 exact this
end
structure PL where
 o : Int
 g : Int
 h : Int
def PL.cs (p : PL) : List Value := [.int .i64 p.o, .int .i64 p.g, .int .i64 p.h]
@[reducible] def PL.v (p : PL) : Value := .agg #[.int .i64 p.o, .int .i64 p.g, .int .i64 p.h]
def pcs (L : List PL) : List Value := L.flatMap PL.cs
section
variable {u u' w w' : World} {L M : List PL} {p : PL} {n i c b off K : Nat} {x y : Sl}
theorem pcs_cons : pcs (p :: L) = p.cs ++ pcs L := rfl
theorem pcs_len : (pcs L).length = L.length * 3 := by
 induction L with
 | nil => rfl
 | cons p L ih => rw [pcs_cons, List.length_append, ih, List.length_cons]; simp [PL.cs]; omega
def PasV (u : World) (x : Sl) (L : List PL) : Prop := SlC u x (pcs L)
theorem PasV.ext (h : PasV u x L) (e : Ext u u') : PasV u' x L := SlC.ext h e
theorem PasV.len (h : PasV u x L) : x.n = L.length := by
 have h1 := h.1
 rw [pcs_len] at h1; omega
theorem ints_data {cs : List Value} {t : TypeId} {l : List Int} (h : u.heap[b]? = some (.cells cs.toArray t (0, 0))) (hc : cs.take n = l.map (Value.int .i64)) (hl : cs.length = c) (hn : n ≤ c) (hm : c ≤ maxLen) : SlR .i64 u (some ⟨b, 0, none⟩) n c l := by
 have hlen : l.length = n := by have h9 := congrArg List.length hc; simp at h9; omega
 refine ⟨hlen, hn, hm, fun hp => ⟨b, 0, rfl, zxa h, fun i hi => ?_⟩⟩
 rw [Nat.zero_add, cells_at h]
 have h9 : (cs.take n)[i]? = (l.map (Value.int .i64))[i]? := by rw [hc]
 rw [List.getElem?_take_of_lt hi, List.getElem?_map, List.getElem?_eq_getElem (by omega : i < l.length)] at h9
 simp
 rw [h9, List.getElem?_eq_getElem (by omega : i < l.length)]
 rfl
end
section
variable {P : Program} {ops : Array Oper} {w0 : Base} {u0 : World} {S : St} {u u' w : World} {o : Oper} {p : List Tmp} {seq : Bool} {rest : List (Oper × List Tmp)} {K : St → World → Prop}
theorem sy_conv (d : Tmp) {src dst : TypeId} {x : Operand} {k0 k : IntKind} {n : Int} (v : Int) (hT : ∀ w, (convert src dst (.int k0 n)).run P w = .ok (.int k (k.wrap n)) w) (hv : k.wrap n = v) (kk : sym P ops w0 u0 seq rest (S.set d (.v (.int k v))) u K) (hw : Wants ops o S := by exact zwh xj) (hd : o.dst = some d := by kernel_rfl) (hop : o.op = .convert src dst x := by rfl) (hf : freeB S d = true := by kernel_rfl)
  (hx : evO S x = some (.v (.int k0 n)) := by rfl) : sym P ops w0 u0 seq ((o, p) :: rest) S u K := by
 subst hv
 refine .inl ⟨by rw [hop]; exact (by decide : (0 : Nat) ≠ 2), .set (.v (.int k (k.wrap n))), ⟨zxz hd hf, .inl ⟨(fun t ht => by cases ht), fun B a w u' hr he hdt => ⟨hw B a hr, ?_⟩⟩⟩, ?_⟩
 ·have e1 : (execOp a.eval o).run P w = (do pure (Next.value (← convert src dst (a.eval x))) : Sem Next).run P w := by unfold execOp; rw [hop]
  rw [e1, ev_eval hr hx]
  exact run_val (hT w)
 ·show sym P ops w0 u0 seq rest (S.put o.dst (some _)) u K
  rw [hd]; exact kk
theorem unwantedU {g : Nat} {b : Bool} {t : Tmp} (h : o.guard = some (g, b)) (ht : (ops[g]?).bind (·.dst) = some t) (hS : S.reg t = some (.v undef)) : ∀ B a, RegOK S B a → Want ops o a false := fun B a hr => by
 have := hr.reg t _ hS
 simp [Want, Region.wanted, h, yielded, ht, this, SV.conc, undef]
end
section
variable {u u' : World} {A : Option Addr} {n c i : Nat} {l : List Int} {k : IntKind}
theorem ints_at (h : SlR k u A n c l) (hi : i < n) : ∃ b o, A = some ⟨b, o, none⟩ ∧ u.cell? ⟨b, o + i * 1, none⟩ = some (.int k (l.getD i 0)) := by
 obtain ⟨h1, h2, h3, h4⟩ := h
 obtain ⟨b, o, e, _, hc⟩ := h4 xq
 exact ⟨b, o, e, by rw [Nat.mul_one]; exact hc i hi⟩
theorem ints_bd {lo hi : Int} (h : ∀ z ∈ l, lo ≤ z ∧ z ≤ hi) (h0 : lo ≤ 0 ∧ 0 ≤ hi) (i : Nat) : lo ≤ l.getD i 0 ∧ l.getD i 0 ≤ hi := by
 rw [List.getD_eq_getElem?_getD]
 cases e : l[i]? with
 | none => exact h0
 | some z => exact h z (List.mem_of_getElem? e)
end
structure WL where
 b : Int
 f : Int
 r : Int
 o : Int
@[reducible] def WL.v (w : WL) : Value := .agg #[.int .i64 w.b, .int .i64 w.f, .int .i64 w.r, .int .i64 w.o]
def WL.cs (w : WL) : List Value := [.int .i64 w.b, .int .i64 w.f, .int .i64 w.r, .int .i64 w.o]
def WdOK (w : WL) : Prop := 4 ≤ w.b ∧ w.b ≤ 24 ∧ 0 ≤ w.f ∧ w.f < w.b ∧ 1 ≤ w.r ∧ w.r ≤ 3 ∧ 1 ≤ w.o ∧ w.o ≤ 2
def CoefOK (w : WL) : Prop := 6 ≤ w.b ∧ w.b ≤ 9 ∧ 3 ≤ w.f ∧ w.f + 2 ≤ w.b ∧ 1 ≤ w.r ∧ w.r ≤ 3 ∧ 1 ≤ w.o ∧ w.o ≤ 2
theorem CoefOK.ok {w : WL} (h : CoefOK w) : WdOK w := by unfold CoefOK at h; unfold WdOK; omega
namespace Nt
def p2i (n : Int) : Int := 2 ^ n.toNat
theorem zxp (n : Int) : 0 < p2i n := Int.pow_pos yq
theorem zwf {a b : Int} (h : a ≤ b) : p2i a ≤ p2i b := by
 unfold p2i
 have h1 : 2 ^ a.toNat ≤ 2 ^ b.toNat := Nat.pow_le_pow_right yq xq
 have h2 : ((2 ^ a.toNat : Nat) : Int) ≤ ((2 ^ b.toNat : Nat) : Int) := Int.ofNat_le.2 h1
 simpa using h2
theorem p2i_24 {n : Int} (h : n ≤ 24) : p2i n ≤ 16777216 := zwf (b := 24) h
end Nt
section
variable {P : Program} {w0 : Base} {u0 u w : World} {S : St} {ops : Array Oper} {o : Oper} {p : List Tmp} {seq : Bool} {rest : List (Oper × List Tmp)} {K : St → World → Prop}
theorem run_shl {T : TypeId} {k yk : IntKind} {n s : Int} {x y : Operand} (h0 : 0 ≤ s) (h1 : s ≤ k.bits) : (do eqGuard .shl T x y (.int k n) (.int yk s); binOp .shl T (.int k n) (.int yk s) : Sem Value).run P w = .ok (.int k (k.wrap (n * 2 ^ s.toNat))) w := by
 simp [eqGuard, binOp, shift_shl k yk n s h0 h1, go_sem]
theorem sy_shl (d : Tmp) {T T2 : TypeId} {x y : Operand} {k yk : IntKind} {n s : Int} (v : Int) (h0 : 0 ≤ s) (h1 : s ≤ k.bits) (hv : k.wrap (n * 2 ^ s.toNat) = v) (kk : sym P ops w0 u0 seq rest (S.set d (.v (.int k v))) u K) (hw : Wants ops o S := by exact zwh xj) (hd : o.dst = some d := by kernel_rfl) (hop : o.op = .binOp .shl T x y T2 := by rfl) (hf : freeB S d = true := by kernel_rfl)
  (hx : evO S x = some (.v (.int k n)) := by rfl) (hy : evO S y = some (.v (.int yk s)) := by rfl) : sym P ops w0 u0 seq ((o, p) :: rest) S u K := by
 subst hv
 refine .inl ⟨by rw [hop]; exact (by decide : (0 : Nat) ≠ 2), .set (.v (.int k (k.wrap (n * 2 ^ s.toNat)))), ⟨zxz hd hf, .inl ⟨(fun t ht => by cases ht), fun B a w u' hr he hdt => ⟨hw B a hr, ?_⟩⟩⟩, ?_⟩
 ·have e1 : (execOp a.eval o).run P w = (do pure (Next.value (← (do eqGuard .shl T x y (a.eval x) (a.eval y); binOp .shl T (a.eval x) (a.eval y)))) : Sem Next).run P w := by unfold execOp; rw [hop]
  rw [e1, ev_eval hr hx, ev_eval hr hy]
  exact run_val (run_shl h0 h1)
 ·show sym P ops w0 u0 seq rest (S.put o.dst (some _)) u K
  rw [hd]; exact kk
end
theorem shl_one {n : Int} (h0 : 0 ≤ n) (h1 : n ≤ 24) : IntKind.i64.wrap (1 * 2 ^ n.toNat) = Nt.p2i n := by
 have h2 := Nt.p2i_24 h1
 have h3 := Nt.zxp n
 rw [Int.one_mul]
 exact IntWalk.i64_in _ (by unfold Nt.p2i at *; omega)
theorem mod_pos9 (m : Int) (hm : 1 ≤ m) (n : Int) (h : decide (Int.tmod n m < 0) = false) : Int.tmod n m = n % m := by
 have h := of_decide_eq_false h
 rcases Int.lt_or_le n 0 with hn | hn
 ·have e := Int.tmod_add_mul_tdiv n m
  have h2 : -m < Int.tmod n m := Int.lt_tmod_of_pos n xq
  have h3 : Int.tmod n m ≤ 0 := by
   have h8 := Int.neg_tmod n m
   have h9 : Int.tmod (-n) m = (-n) % m := Int.tmod_eq_emod_of_nonneg xq
   have h10 := Int.emod_nonneg (-n) (show m ≠ 0 by omega)
   omega
  have h4 : Int.tmod n m = 0 := by omega
  rw [h4] at e ⊢
  have : m ∣ n := ⟨n.tdiv m, by omega⟩
  exact (Int.emod_eq_zero_of_dvd this).symm
 ·exact Int.tmod_eq_emod_of_nonneg hn
theorem mod_neg9 (m : Int) (hm : 1 ≤ m) (n : Int) (h : decide (Int.tmod n m < 0) = true) : Int.tmod n m + m = n % m := by
 have h := of_decide_eq_true h
 have e := Int.tmod_add_mul_tdiv n m
 have h2 : -m < Int.tmod n m := Int.lt_tmod_of_pos n xq
 have h5 : n = m * (n.tdiv m - 1) + (Int.tmod n m + m) := by rw [Int.mul_sub, Int.mul_one]; omega
 have := (Nt.ediv_uniq (z := n) (y := m) (q := n.tdiv m - 1) (r := Int.tmod n m + m) xq h5 xq xq).2
 exact this.symm
def MutL (k : Nat) (ty : TypeId) (lo : Nat) (u : World) (x : Sl) (cs : List Value) : Prop :=
 cs.length = x.n * k ∧ x.n ≤ x.c ∧ x.c ≤ maxLen ∧ (x = ⟨none, 0, 0⟩ ∨ ∃ b all, x.a = some ⟨b, 0, none⟩ ∧ u.heap[b]? = some (.cells (List.toArray all) ty (0, 0)) ∧ all.length = x.c * k ∧ all.take (x.n * k) = cs ∧ lo ≤ b)
def offB (x : Sl) (h : Nat) : Prop := ∀ a, x.a = some a → a.block ≠ h
structure ExtX (x : Sl) (u u' : World) : Prop where
 size : u.heap.size ≤ u'.heap.size
 vis : ∀ (k : Nat) (o : Obj), offB x k → u.heap[k]? = some o → o ≠ hidO → u'.heap[k]? = some o
structure ExtT (ty : TypeId) (u u' : World) : Prop where
 size : u.heap.size ≤ u'.heap.size
 vis : ∀ (k : Nat) (cs : Array Value) (t : TypeId), t ≠ ty → u.heap[k]? = some (.cells cs t (0, 0)) → u'.heap[k]? = some (.cells cs t (0, 0))
def sl0 : Sl := ⟨none, 0, 0⟩
structure TL where
 f : Int
 c : Int
def TL.cs (t : TL) : List Value := [.int .i64 t.f, .int .i64 t.c]
@[reducible] def TL.v (t : TL) : Value := .agg #[.int .i64 t.f, .int .i64 t.c]
def tl0 : TL := ⟨0, 0⟩
def tcs (L : List TL) : List Value := L.flatMap TL.cs
def ics (l : List Int) : List Value := l.map (Value.int .i64)
section
variable {k lo lo' h b n c i : Nat} {ty t2 : TypeId} {u u' u'' v : World} {x y : Sl} {cs cs' : List Value}
theorem cells_not_hid {cs : Array Value} {t : TypeId} : Obj.cells cs t (0, 0) ≠ hidO := by unfold hidO; intro e; cases e
theorem MutL.ext (m : MutL k ty lo u x cs) (e : Ext u u') : MutL k ty lo u' x cs :=
 ⟨m.1, m.2.1, m.2.2.1, m.2.2.2.imp id fun ⟨b, all, h1, h2, h3⟩ => ⟨b, all, h1, e.cells h2, h3⟩⟩
theorem MutL.extT (m : MutL k ty lo u x cs) (e : ExtT t2 u u') (ht : ty ≠ t2) : MutL k ty lo u' x cs :=
 ⟨m.1, m.2.1, m.2.2.1, m.2.2.2.imp id fun ⟨b, all, h1, h2, h3⟩ => ⟨b, all, h1, e.vis _ _ _ ht h2, h3⟩⟩
theorem MutL.low (m : MutL k ty lo u x cs) (hl : lo' ≤ lo) : MutL k ty lo' u x cs :=
 ⟨m.1, m.2.1, m.2.2.1, m.2.2.2.imp id fun ⟨b, all, h1, h2, h3, h4, h5⟩ => ⟨b, all, h1, h2, h3, h4, Nat.le_trans hl h5⟩⟩
theorem MutL.nil (k : Nat) (ty : TypeId) (lo : Nat) (u : World) : MutL k ty lo u ⟨none, 0, 0⟩ [] := ⟨by simp, Nat.le_refl _, Nat.zero_le _, .inl rfl⟩
theorem ExtX.t {cs : List Value} (e : ExtX x u u') (m : MutL k ty lo u x cs) : ExtT ty u u' := ⟨e.size, fun q cs' t ht hq => by
 refine e.vis q _ (fun a ha hc => ?_) hq cells_not_hid
 rcases m.2.2.2 with h1 | ⟨b, all, h1, h2, _⟩
 ·rw [h1] at ha; cases ha
 ·rw [h1] at ha; injection ha with ha; subst ha
  rw [show b = q from hc, hq] at h2; injection h2 with h2; injection h2 with _ h2 _; exact ht h2⟩
theorem Ext.toX (e : Ext u u') (x : Sl) : ExtX x u u' := ⟨e.size, fun q o _ h1 h2 => e.vis q o h1 h2⟩
theorem ExtT.trans (e : ExtT ty u u') (f : ExtT ty u' u'') : ExtT ty u u'' := ⟨Nat.le_trans e.size f.size, fun q cs t ht h => f.vis q cs t ht (e.vis q cs t ht h)⟩
theorem ExtB.toX (e : ExtB b u u') (hx : x.a = some ⟨b, 0, none⟩) : ExtX x u u' := ⟨e.size, fun q o ho h1 h2 => e.vis q o (fun hc => ho _ hx hc.symm) h1 h2⟩
theorem MutL.lt {a : Addr} (m : MutL k ty lo u x cs) (ha : x.a = some a) : a.block < u.heap.size := by
 rcases m.2.2.2 with h1 | ⟨b, all, h1, h2, _⟩
 ·rw [h1] at ha; cases ha
 ·rw [h1] at ha; injection ha with ha; subst ha; exact zxa h2
theorem MutL.off (m : MutL k ty lo u x cs) (hh : u.heap.size ≤ h) : offB x h := fun a ha hc => by have := m.lt ha; omega
theorem MutL.take {m : Nat} (h0 : MutL k ty lo u x cs) (hm : m ≤ x.n) : MutL k ty lo u ⟨x.a, m, x.c⟩ (cs.take (m * k)) := by
 obtain ⟨h1, h2, h3, h4⟩ := h0
 refine ⟨by rw [List.length_take, h1]; exact Nat.min_eq_left (Nat.mul_le_mul_right _ hm), Nat.le_trans hm h2, h3, ?_⟩
 rcases h4 with h4 | ⟨b, all, g1, g2, g3, g4, g5⟩
 ·subst h4
  have : m = 0 := by simpa using hm
  subst this; exact .inl rfl
 ·refine .inr ⟨b, all, g1, g2, g3, ?_, g5⟩
  rw [← g4, List.take_take, Nat.min_eq_left (Nat.mul_le_mul_right _ hm)]
theorem MutL.cell {j : Nat} (m : MutL k ty lo u x cs) (hj : j < cs.length) : ∃ b, x.a = some ⟨b, 0, none⟩ ∧ u.cell? ⟨b, 0 + j, none⟩ = cs[j]? := by
 obtain ⟨h1, h2, h3, h4⟩ := m
 rcases h4 with h4 | ⟨b, all, g1, g2, g3, g4, g5⟩
 ·subst h4
  simp at h1; subst h1; simp at hj
 ·refine ⟨b, g1, ?_⟩
  rw [Nat.zero_add, cells_at g2, ← g4, List.getElem?_take_of_lt xq]; simp
theorem zwk (l : List Int) : (ics l).length = l.length := by unfold ics; simp
theorem ics_at {l : List Int} (h : i < l.length) : (ics l)[i]? = some (.int .i64 (l.getD i 0)) := by
 unfold ics
 rw [List.getElem?_map, List.getD_eq_getElem?_getD, List.getElem?_eq_getElem h]; rfl
theorem MutL.lit {cs : List Value} (hu : u.heap[b]? = some (.cells cs.toArray ty (0, 0))) (hl : cs.length = n * k) (hn : n ≤ maxLen) (hb : lo ≤ b) : MutL k ty lo u ⟨some ⟨b, 0, none⟩, n, n⟩ cs :=
 ⟨hl, Nat.le_refl _, hn, .inr ⟨b, cs, rfl, hu, hl, by rw [List.take_of_length_le (by show _ ≤ n * k; omega)], hb⟩⟩
end
def NodesB (lo h : Nat) (u : World) (x : Sl) (N : List (List TL)) : Prop :=
 ∃ Ls : List Sl, MutL 1 62 lo u x (Ls.map Sl.v) ∧ Ls.length = N.length ∧ ∀ i, i < N.length → MutL 2 64 lo u (Ls.getD i sl0) (tcs (N.getD i [])) ∧ offB (Ls.getD i sl0) h
section
variable {k lo lo' h h' b n c i : Nat} {ty t2 : TypeId} {u u' u'' v : World} {x y z : Sl} {cs cs' : List Value} {N : List (List TL)} {ts : List TL}
theorem NodesB.nil (lo h : Nat) (u : World) : NodesB lo h u ⟨none, 0, 0⟩ [] := ⟨[], .nil _ _ _ _, rfl, fun i hi => by simp at hi⟩
theorem NodesB.len (m : NodesB lo h u x N) : x.n = N.length := by
 obtain ⟨Ls, h1, h2, _⟩ := m
 have := h1.1
 rw [List.length_map, Nat.mul_one] at this
 omega
theorem NodesB.ext (m : NodesB lo h u x N) (e : Ext u u') : NodesB lo h u' x N := by
 obtain ⟨Ls, h1, h2, h3⟩ := m
 exact ⟨Ls, h1.ext e, h2, fun i hi => ⟨(h3 i hi).1.ext e, (h3 i hi).2⟩⟩
theorem NodesB.low (m : NodesB lo h u x N) (hl : lo' ≤ lo) : NodesB lo' h u x N := by
 obtain ⟨Ls, h1, h2, h3⟩ := m
 exact ⟨Ls, h1.low hl, h2, fun i hi => ⟨(h3 i hi).1.low hl, (h3 i hi).2⟩⟩
theorem NodesB.extT (m : NodesB lo h u x N) (e : ExtT t2 u u') (h1 : 62 ≠ t2) (h2 : 64 ≠ t2) : NodesB lo h u' x N := by
 obtain ⟨Ls, g1, g2, g3⟩ := m
 exact ⟨Ls, g1.extT e h1, g2, fun i hi => ⟨(g3 i hi).1.extT e h2, (g3 i hi).2⟩⟩
theorem getD_snoc {α : Type} (L : List α) (a z : α) (i : Nat) : (L ++ [a]).getD i z = if i < L.length then L.getD i z else if i = L.length then a else z := by
 rw [List.getD_eq_getElem?_getD]
 split
 ·rename_i h; rw [List.getElem?_append_left h, List.getD_eq_getElem?_getD]
 ·rename_i h
  rw [List.getElem?_append_right xq]
  split
  ·rename_i h2; rw [h2, Nat.sub_self]; rfl
  ·rename_i h2; rw [List.getElem?_eq_none yw]; rfl
theorem NodesB.snoc {Ls : List Sl} (h1 : MutL 1 62 lo u x (Ls.map Sl.v)) (h2 : Ls.length = N.length) (h3 : ∀ i, i < N.length → MutL 2 64 lo u (Ls.getD i sl0) (tcs (N.getD i [])) ∧ offB (Ls.getD i sl0) h)
  (my : MutL 2 64 lo u y (tcs ts)) (hy : offB y h) (e : ExtX x u u') (hm : MutL 1 62 lo u' z (Ls.map Sl.v ++ [y.v])) : NodesB lo h u' z (N ++ [ts]) := by
 have et := e.t h1
 refine ⟨Ls ++ [y], by rw [List.map_append]; exact hm, by simp [h2], fun i hi => ?_⟩
 rw [getD_snoc, getD_snoc, h2]
 by_cases hl : i < N.length
 ·rw [if_pos hl, if_pos hl]
  exact ⟨(h3 i hl).1.extT et yq, (h3 i hl).2⟩
 ·simp at hi
  rw [if_neg hl, if_neg hl, if_pos xq, if_pos xq]
  exact ⟨my.extT et yq, hy⟩
end
section
variable {P : Program} {ops : Array Oper} {w0 : Base} {u0 : World} {S T : St} {B : Tmp → Nat} {a : Act} {w w' u u' u'' v : World} {o : Oper} {p : List Tmp} {rest : List (Oper × List Tmp)} {K : St → World → Prop}
end
def Rows (k : Nat) (L : List (List Int)) : Prop := ∀ p ∈ L, p.length = k
def kcs (L : List (List Int)) : List Value := L.flatMap ics
def gi (L : List (List Int)) (i j : Nat) : Int := (L.getD i []).getD j 0
section
variable {u u' : World} {L M : List (List Int)} {p : List Int} {k n i j c b off : Nat} {x : Sl} {X : List Value} {a1 a2 a3 a4 a5 : Int}
theorem kcs_cons : kcs (p :: L) = ics p ++ kcs L := rfl
theorem kcs_app : kcs (L ++ M) = kcs L ++ kcs M := by simp [kcs]
theorem Rows.tail (h : Rows k (p :: L)) : Rows k L := fun q hq => h q (List.mem_cons_of_mem _ hq)
theorem Rows.head (h : Rows k (p :: L)) : p.length = k := h p (List.mem_cons_self ..)
theorem kcs_len (h : Rows k L) : (kcs L).length = L.length * k := by
 induction L with
 | nil => simp [kcs]
 | cons p L ih => rw [kcs_cons, List.length_append, ih h.tail, zwk, h.head, List.length_cons, Nat.succ_mul, Nat.add_comm]
theorem Rows.get (h : Rows k L) (hi : i < L.length) : (L.getD i []).length = k := by
 rw [List.getD_eq_getElem?_getD, List.getElem?_eq_getElem hi]
 exact h _ (List.getElem_mem hi)
theorem Rows.set (h : Rows k L) (hp : p.length = k) : Rows k (L.set i p) := fun q hq => by
 rcases List.mem_or_eq_of_mem_set hq with hq | rfl
 ·exact h q hq
 ·exact hp
theorem Rows.drop (h : Rows k L) : Rows k (L.drop n) := fun q hq => h q (List.mem_of_mem_drop hq)
theorem Rows.erase (h : Rows k L) : Rows k (L.eraseIdx n) := fun q hq => h q (List.mem_of_mem_eraseIdx hq)
theorem rows_rep (n : Nat) (hp : p.length = k) : Rows k (List.replicate n p) := fun q hq => by rw [(List.mem_replicate.1 hq).2]; exact hp
theorem rows_cons (hp : p.length = k) (h : Rows k L) : Rows k (p :: L) := fun q hq => by
 rcases List.mem_cons.1 hq with rfl | hq
 ·exact hp
 ·exact h q hq
theorem kcs_drop (h : Rows k L) : (kcs L).drop (n * k) = kcs (L.drop n) := by
 induction n generalizing L with
 | zero => simp
 | succ n ih =>
  cases L with
  | nil => simp [kcs]
  | cons p L => rw [kcs_cons, show (n + 1) * k = (ics p).length + n * k by rw [zwk, h.head, Nat.succ_mul, Nat.add_comm], List.drop_append, Nat.add_sub_cancel_left, ih h.tail, List.drop_of_length_le xq]; simp
theorem kcs_take (h : Rows k L) : (kcs L).take (n * k) = kcs (L.take n) := by
 induction n generalizing L with
 | zero => simp [kcs]
 | succ n ih =>
  cases L with
  | nil => simp [kcs]
  | cons p L => rw [kcs_cons, show (n + 1) * k = (ics p).length + n * k by rw [zwk, h.head, Nat.succ_mul, Nat.add_comm], List.take_append, Nat.add_sub_cancel_left, ih h.tail, List.take_of_length_le xq]; rfl
theorem kcs_get (h : Rows k L) (hi : i < L.length) : ((kcs L).drop (i * k)).take k = ics (L.getD i []) := by
 have hg := h.get hi
 rw [kcs_drop h, List.drop_eq_getElem_cons hi, kcs_cons]
 have e : L[i] = L.getD i [] := by rw [List.getD_eq_getElem?_getD, List.getElem?_eq_getElem hi]; rfl
 rw [e, List.take_append_of_le_length (by rw [zwk]; omega), List.take_of_length_le (by rw [zwk]; omega)]
theorem ics_one : ∀ v ∈ ics p, v.oneCell' = true := fun v hv => by
 unfold ics at hv
 obtain ⟨z, _, rfl⟩ := List.mem_map.1 hv; rfl
theorem kcs_one : ∀ v ∈ kcs L, v.oneCell' = true := fun v hv => by
 obtain ⟨p, _, hp⟩ := List.mem_flatMap.1 hv
 exact ics_one v hp
theorem part_k (h : Rows k L) (hi : i < L.length) {off : Nat} (ho : off = i * k) : PartIs (kcs L ++ X) off true k (.v (.agg (ics (L.getD i [])).toArray)) := by
 subst ho
 have hl := kcs_len h
 have : (i + 1) * k ≤ L.length * k := Nat.mul_le_mul_right _ hi
 rw [Nat.succ_mul] at this
 refine ⟨by rw [List.length_append, hl]; omega, ?_⟩
 rw [← kcs_get h hi, List.drop_append_of_le_length xq, List.take_append_of_le_length (by rw [List.length_drop]; omega)]
theorem row_eq2 (h : p.length = 2) : p = [p.getD 0 0, p.getD 1 0] := by
 match p, h with
 | [a, b], _ => rfl
theorem row_eq3 (h : p.length = 3) : p = [p.getD 0 0, p.getD 1 0, p.getD 2 0] := by
 match p, h with
 | [a, b, c], _ => rfl
theorem row_eq5 (h : p.length = 5) : p = [p.getD 0 0, p.getD 1 0, p.getD 2 0, p.getD 3 0, p.getD 4 0] := by
 match p, h with
 | [a, b, c, d, e], _ => rfl
theorem ics2 (h : Rows 2 L) (hi : i < L.length) : ics (L.getD i []) = [.int .i64 (gi L i 0), .int .i64 (gi L i 1)] := by rw [row_eq2 (h.get hi)]; rfl
theorem ics3 (h : Rows 3 L) (hi : i < L.length) : ics (L.getD i []) = [.int .i64 (gi L i 0), .int .i64 (gi L i 1), .int .i64 (gi L i 2)] := by rw [row_eq3 (h.get hi)]; rfl
theorem ics5 (h : Rows 5 L) (hi : i < L.length) : ics (L.getD i []) = [.int .i64 (gi L i 0), .int .i64 (gi L i 1), .int .i64 (gi L i 2), .int .i64 (gi L i 3), .int .i64 (gi L i 4)] := by rw [row_eq5 (h.get hi)]; rfl
theorem part_k2 (h : Rows 2 L) (hi : i < L.length) {off : Nat} (ho : off = i * 2) : PartIs (kcs L ++ X) off true 2 (.v (.agg #[.int .i64 (gi L i 0), .int .i64 (gi L i 1)])) := by
 have := part_k (X := X) h hi ho
 rw [ics2 h hi] at this; exact this
theorem part_k3 (h : Rows 3 L) (hi : i < L.length) {off : Nat} (ho : off = i * 3) : PartIs (kcs L ++ X) off true 3 (.v (.agg #[.int .i64 (gi L i 0), .int .i64 (gi L i 1), .int .i64 (gi L i 2)])) := by
 have := part_k (X := X) h hi ho
 rw [ics3 h hi] at this; exact this
theorem setL_k (h : Rows k L) (hp : p.length = k) (hi : i < L.length) {off : Nat} (ho : off = i * k) : setL (kcs L ++ X) off (ics p) = kcs (L.set i p) ++ X := by
 subst ho
 have hl := kcs_len h
 have : (i + 1) * k ≤ L.length * k := Nat.mul_le_mul_right _ hi
 have e : i * k + (ics p).length = (i + 1) * k := by rw [zwk, hp, Nat.succ_mul]
 rw [Nat.succ_mul] at this
 unfold setL
 rw [e, List.take_append_of_le_length xq, List.drop_append_of_le_length (by rw [Nat.succ_mul]; omega), kcs_take h, kcs_drop h, List.set_eq_take_append_cons_drop, if_pos hi, kcs_app, kcs_cons]
 simp
theorem setL_k2 (h : Rows 2 L) (hi : i < L.length) {off : Nat} (ho : off = i * 2) : setL (kcs L ++ X) off (Value.agg #[.int .i64 a1, .int .i64 a2]).cells.toList = kcs (L.set i [a1, a2]) ++ X := setL_k (p := [a1, a2]) h rfl hi ho
theorem setL_k5 (h : Rows 5 L) (hi : i < L.length) {off : Nat} (ho : off = i * 5) : setL (kcs L ++ X) off (Value.agg #[.int .i64 a1, .int .i64 a2, .int .i64 a3, .int .i64 a4, .int .i64 a5]).cells.toList = kcs (L.set i [a1, a2, a3, a4, a5]) ++ X := setL_k (p := [a1, a2, a3, a4, a5]) h rfl hi ho
def IrV (k : Nat) (u : World) (x : Sl) (L : List (List Int)) : Prop :=
 Rows k L ∧ x.n = L.length ∧ x.n ≤ x.c ∧ x.c ≤ maxLen ∧ (0 < x.n → ∃ b o, x.a = some ⟨b, o, none⟩ ∧ b < u.heap.size ∧ ∀ j, j < L.length * k → u.cell? ⟨b, o + j, none⟩ = (kcs L)[j]?)
theorem IrV.ext (h : IrV k u x L) (e : Ext u u') : IrV k u' x L := by
 obtain ⟨h0, h1, h2, h3, h4⟩ := h
 refine ⟨h0, h1, h2, h3, fun hp => ?_⟩
 obtain ⟨b, o, g1, g2, g3⟩ := h4 hp
 refine ⟨b, o, g1, Nat.lt_of_lt_of_le g2 e.size, fun j hj => ?_⟩
 have hk := g3 j hj
 have hj' : j < (kcs L).length := by rw [kcs_len h0]; exact hj
 rw [List.getElem?_eq_getElem hj'] at hk ⊢
 exact e.cell hk
theorem IrV.rows (h : IrV k u x L) : Rows k L := h.1
theorem IrV.len (h : IrV k u x L) : x.n = L.length := h.2.1
theorem ir_at (h : IrV k u x L) (hi : i < L.length) : ∃ b o, x.a = some ⟨b, o, none⟩ ∧ b < u.heap.size ∧ ∀ j, j < (ics (L.getD i [])).length → u.cell? ⟨b, o + i * k + j, none⟩ = (ics (L.getD i []))[j]? := by
 obtain ⟨h0, h1, h2, h3, h4⟩ := h
 obtain ⟨b, o, g1, g2, g3⟩ := h4 xq
 refine ⟨b, o, g1, g2, fun j hj => ?_⟩
 rw [zwk, h0.get hi] at hj
 have : (i + 1) * k ≤ L.length * k := Nat.mul_le_mul_right _ hi
 rw [Nat.succ_mul] at this
 rw [Nat.add_assoc, g3 (i * k + j) xq, ← kcs_get h0 hi, List.getElem?_take_of_lt hj, List.getElem?_drop]
theorem ir_at5 (h : IrV 5 u x L) (hi : i < L.length) : ∃ b o, x.a = some ⟨b, o, none⟩ ∧ ∀ j, j < [Value.int .i64 (gi L i 0), .int .i64 (gi L i 1), .int .i64 (gi L i 2), .int .i64 (gi L i 3), .int .i64 (gi L i 4)].length → u.cell? ⟨b, o + i * 5 + j, none⟩ = [Value.int .i64 (gi L i 0), .int .i64 (gi L i 1), .int .i64 (gi L i 2), .int .i64 (gi L i 3), .int .i64 (gi L i 4)][j]? := by
 obtain ⟨b, o, h1, h2, h3⟩ := ir_at h hi
 rw [ics5 h.rows hi] at h3
 exact ⟨b, o, h1, h3⟩
theorem ir_row (h : IrV k u x L) (hi : i < L.length) (hk : k ≤ maxLen) : ∃ b o, x.a = some ⟨b, o, none⟩ ∧ SlR .i64 u (some ⟨b, o + i * k, none⟩) k k (L.getD i []) := by
 obtain ⟨b, o, h1, h2, h3⟩ := ir_at h hi
 have hg := h.rows.get hi
 refine ⟨b, o, h1, hg, Nat.le_refl _, hk, fun hp => ⟨b, o + i * k, rfl, h2, fun j hj => ?_⟩⟩
 rw [h3 j (by rw [zwk]; omega), ics_at xq]
 rw [List.getD_eq_getElem?_getD]
theorem ir_data {cs : List Value} {t : TypeId} (h : u.heap[b]? = some (.cells cs.toArray t (0, 0))) (hR : Rows k L) (hc : cs.take (n * k) = kcs L) (hn : n = L.length) (hl : cs.length = c * k) (hnc : n ≤ c) (hm : c ≤ maxLen) : IrV k u ⟨some ⟨b, 0, none⟩, n, c⟩ L := by
 refine ⟨hR, hn, hnc, hm, fun _ => ⟨b, 0, rfl, zxa h, fun j hj => ?_⟩⟩
 rw [Nat.zero_add, cells_at h, ← hc, List.getElem?_take_of_lt (by rw [hn]; exact hj)]; simp
theorem made_k {z : List Int} (hz : z.length = k) (hk : 0 < k) (n : Nat) : (madeCells (ics z).toArray (n * k)).toList = kcs (List.replicate n z) := by
 apply List.ext_getElem?
 intro j
 have hl := kcs_len (rows_rep (k := k) n hz)
 rw [List.length_replicate] at hl
 by_cases hj : j < n * k
 ·have hq : j / k < n := Nat.div_lt_of_lt_mul (by rw [Nat.mul_comm]; exact hj)
  have hr := Nat.mod_lt j hk
  have hg := kcs_get (rows_rep (k := k) n hz) (i := j / k) (by simpa using hq)
  have e1 : (kcs (List.replicate n z))[j]? = (((kcs (List.replicate n z)).drop (j / k * k)).take k)[j % k]? := by
   rw [List.getElem?_take_of_lt hr, List.getElem?_drop]
   congr 1
   have := Nat.div_add_mod j k
   rw [Nat.mul_comm] at this; omega
  rw [e1, hg, List.getD_eq_getElem?_getD, List.getElem?_replicate, if_pos hq]
  unfold madeCells
  have hzl : (ics z).length = k := by rw [zwk, hz]
  simp [hj, hzl]
  rw [List.getElem?_eq_getElem (by rw [hzl]; exact hr)]
  simp
 ·rw [List.getElem?_eq_none (by unfold madeCells; simp; omega), List.getElem?_eq_none xq]
end
section
variable {P : Program} {ops : Array Oper} {w0 : Base} {u0 : World} {S : St} {u : World} {o : Oper} {p : List Tmp} {seq : Bool} {rest : List (Oper × List Tmp)} {K : St → World → Prop}
theorem sy_subO3 (d : Tmp) {T : TypeId} {r t : Tmp} {g h q : Operand} {off n c : Nat} {k1 k2 k3 : IntKind} {i1 i2 i3 : Int} (lo hi mx : Nat) {sz : Nat} (hT : SlIs P T sz) (e1 : i1 = lo) (e2 : i2 = hi) (e3 : i3 = mx) (h1 : lo ≤ hi) (h2 : hi ≤ mx) (h3 : mx ≤ c)
  (kk : ∀ off', off' = (if mx = lo then off else off + lo * sz) → sym P ops w0 u0 seq rest (S.set d (.slc t off' (hi - lo) (mx - lo))) u K) (hw : Wants ops o S := by exact zwh xj) (hd : o.dst = some d := by kernel_rfl) (hop : o.op = .slice T (.tmp r) (some g) (some h) (some q) := by rfl) (hf : freeB S d = true := by kernel_rfl)
  (hx : S.reg r = some (.slc t off n c) := by rfl) (hg : evO S g = some (.v (.int k1 i1)) := by rfl) (hh : evO S h = some (.v (.int k2 i2)) := by rfl) (hq : evO S q = some (.v (.int k3 i3)) := by rfl) : sym P ops w0 u0 seq ((o, p) :: rest) S u K := by
 subst e1 e2 e3
 have kk := kk _ rfl
 obtain ⟨E, agg, hu, hE⟩ := hT
 have hl : r ∈ o.looksAt ops := List.mem_append_left _ (List.mem_filterMap.2 ⟨.tmp r, by rw [hop]; simp [Op.operands], rfl⟩)
 refine .inl ⟨by rw [hop]; exact (by decide : (0 : Nat) ≠ 2), .set (.slc t (if mx = lo then off else off + lo * sz) (hi - lo) (mx - lo)), ⟨zxz hd hf, .inl ⟨(fun s hs => ⟨r, hl, _, hx, hs⟩), fun B a w u' hr he hdt => ⟨hw B a hr, ?_⟩⟩⟩, ?_⟩
 ·have e1 : (execOp a.eval o).run P w = (do pure (Next.value (← Instr.sliceAt T (a.eval (.tmp r)) (some (a.eval g)) (some (a.eval h)) (some (a.eval q)))) : Sem Next).run P w := by unfold execOp; rw [hop]; rfl
  rw [e1, hr.eval hx, ev_eval hr hg, ev_eval hr hh, ev_eval hr hq]
  refine run_val ?_
  show (Instr.sliceAt T (.slice (some ⟨B t, off, none⟩) n c) (some (.int k1 lo)) (some (.int k2 hi)) (some (.int k3 mx))).run P w = .ok (.slice (some ⟨B t, if mx = lo then off else off + lo * sz, none⟩) (hi - lo) (mx - lo)) w
  have hs := (hE w).2
  by_cases e : mx = lo
  ·simp [Instr.sliceAt, Instr.slice, Instr.sliceBounds, Instr.sliceBound, asIntOf, run_underlying hu, go_sem, hs, e]
   have : hi = lo := by omega
   subst this
   simp; omega
  ·simp [Instr.sliceAt, Instr.slice, Instr.sliceBounds, Instr.sliceBound, asIntOf, run_underlying hu, go_sem, hs, e, h1, h2, h3, Addr.add]
 ·show sym P ops w0 u0 seq rest (S.put o.dst (some _)) u K
  rw [hd]; exact kk
theorem sy_tailO (d : Tmp) {T : TypeId} {r t : Tmp} {g : Operand} {off n c : Nat} {k1 : IntKind} {i1 : Int} (lo : Nat) {sz : Nat} (hT : SlIs P T sz) (e1 : i1 = lo) (h1 : lo ≤ n) (h2 : n ≤ c)
  (kk : ∀ off', off' = (if c = lo then off else off + lo * sz) → sym P ops w0 u0 seq rest (S.set d (.slc t off' (n - lo) (c - lo))) u K) (hw : Wants ops o S := by exact zwh xj) (hd : o.dst = some d := by kernel_rfl) (hop : o.op = .slice T (.tmp r) (some g) none none := by rfl) (hf : freeB S d = true := by kernel_rfl)
  (hx : S.reg r = some (.slc t off n c) := by rfl) (hg : evO S g = some (.v (.int k1 i1)) := by rfl) : sym P ops w0 u0 seq ((o, p) :: rest) S u K := by
 subst e1
 have kk := kk _ rfl
 obtain ⟨E, agg, hu, hE⟩ := hT
 have hl : r ∈ o.looksAt ops := List.mem_append_left _ (List.mem_filterMap.2 ⟨.tmp r, by rw [hop]; simp [Op.operands], rfl⟩)
 refine .inl ⟨by rw [hop]; exact (by decide : (0 : Nat) ≠ 2), .set (.slc t (if c = lo then off else off + lo * sz) (n - lo) (c - lo)), ⟨zxz hd hf, .inl ⟨(fun s hs => ⟨r, hl, _, hx, hs⟩), fun B a w u' hr he hdt => ⟨hw B a hr, ?_⟩⟩⟩, ?_⟩
 ·have e1 : (execOp a.eval o).run P w = (do pure (Next.value (← Instr.sliceAt T (a.eval (.tmp r)) (some (a.eval g)) none none)) : Sem Next).run P w := by unfold execOp; rw [hop]; rfl
  rw [e1, hr.eval hx, ev_eval hr hg]
  refine run_val ?_
  show (Instr.sliceAt T (.slice (some ⟨B t, off, none⟩) n c) (some (.int k1 lo)) none none).run P w = .ok (.slice (some ⟨B t, if c = lo then off else off + lo * sz, none⟩) (n - lo) (c - lo)) w
  have hs := (hE w).2
  by_cases e : c = lo
  ·simp [Instr.sliceAt, Instr.slice, Instr.sliceBounds, Instr.sliceBound, asIntOf, run_underlying hu, go_sem, hs, e, h1]
  ·simp [Instr.sliceAt, Instr.slice, Instr.sliceBounds, Instr.sliceBound, asIntOf, run_underlying hu, go_sem, hs, e, h1, h2, Addr.add]
 ·show sym P ops w0 u0 seq rest (S.put o.dst (some _)) u K
  rw [hd]; exact kk
theorem sy_subO2 (d : Tmp) {T : TypeId} {r t : Tmp} {g h : Operand} {off n c : Nat} {k1 k2 : IntKind} {i1 i2 : Int} (lo hi : Nat) {sz : Nat} (hT : SlIs P T sz) (e1 : i1 = lo) (e2 : i2 = hi) (h1 : lo ≤ hi) (h2 : hi ≤ c)
  (kk : ∀ off', off' = (if c = lo then off else off + lo * sz) → sym P ops w0 u0 seq rest (S.set d (.slc t off' (hi - lo) (c - lo))) u K) (hw : Wants ops o S := by exact zwh xj) (hd : o.dst = some d := by kernel_rfl) (hop : o.op = .slice T (.tmp r) (some g) (some h) none := by rfl) (hf : freeB S d = true := by kernel_rfl)
  (hx : S.reg r = some (.slc t off n c) := by rfl) (hg : evO S g = some (.v (.int k1 i1)) := by rfl) (hh : evO S h = some (.v (.int k2 i2)) := by rfl) : sym P ops w0 u0 seq ((o, p) :: rest) S u K := by
 subst e1 e2
 have kk := kk _ rfl
 obtain ⟨E, agg, hu, hE⟩ := hT
 have hl : r ∈ o.looksAt ops := List.mem_append_left _ (List.mem_filterMap.2 ⟨.tmp r, by rw [hop]; simp [Op.operands], rfl⟩)
 refine .inl ⟨by rw [hop]; exact (by decide : (0 : Nat) ≠ 2), .set (.slc t (if c = lo then off else off + lo * sz) (hi - lo) (c - lo)), ⟨zxz hd hf, .inl ⟨(fun s hs => ⟨r, hl, _, hx, hs⟩), fun B a w u' hr he hdt => ⟨hw B a hr, ?_⟩⟩⟩, ?_⟩
 ·have e1 : (execOp a.eval o).run P w = (do pure (Next.value (← Instr.sliceAt T (a.eval (.tmp r)) (some (a.eval g)) (some (a.eval h)) none)) : Sem Next).run P w := by unfold execOp; rw [hop]; rfl
  rw [e1, hr.eval hx, ev_eval hr hg, ev_eval hr hh]
  refine run_val ?_
  show (Instr.sliceAt T (.slice (some ⟨B t, off, none⟩) n c) (some (.int k1 lo)) (some (.int k2 hi)) none).run P w = .ok (.slice (some ⟨B t, if c = lo then off else off + lo * sz, none⟩) (hi - lo) (c - lo)) w
  have hs := (hE w).2
  by_cases e : c = lo
  ·subst e
   have : hi = c := by omega
   subst this
   simp [Instr.sliceAt, Instr.slice, Instr.sliceBounds, Instr.sliceBound, asIntOf, run_underlying hu, go_sem, hs]
  ·simp [Instr.sliceAt, Instr.slice, Instr.sliceBounds, Instr.sliceBound, asIntOf, run_underlying hu, go_sem, hs, e, h1, h2, Addr.add]
 ·show sym P ops w0 u0 seq rest (S.put o.dst (some _)) u K
  rw [hd]; exact kk
theorem sy_appT (d : Tmp) {T E : TypeId} {s x : Operand} {z : Value} {size bytes : Nat} {off m c t n cap : Nat} {cs0 : List Value} (hT : P.underlying T = some (.slice E)) (hi : (P.info? E).map (fun i => (i.zero, i.size, i.bytes)) = some (some z, size, bytes))
  (hcl : cs0.length = cap * size) (hoff : off + m * size ≤ cs0.length) (hnm : n + m ≤ cap) {ns : List Value} (hns : (cs0.drop off).take (m * size) = ns) (h1 : ∀ v ∈ ns, v.oneCell' = true)
  (k : sym P ops w0 u0 seq rest ((S.setVar t ⟨E, setL cs0 (n * size) ns⟩).set d (.slc t 0 (n + m) cap)) u K)
  (hw : Wants ops o S := by exact zwh xj) (hd : o.dst = some d := by kernel_rfl) (hop : o.op = .call { callee := .builtin .append, args := #[s, x], argTypes := #[T, T] } := by rfl) (hf : freeB S d = true := by kernel_rfl)
  (hs : evO S s = some (.slc t 0 n cap) := by rfl) (hv : S.var t = some ⟨E, cs0⟩ := by rfl) (hx : evO S x = some (.slc t off m c) := by rfl) : sym P ops w0 u0 seq ((o, p) :: rest) S u K := by
 subst hns
 obtain ⟨inf, hi1, hz, hsz, hby⟩ := info_parts hi
 refine .inr (.inr (.inl ⟨.inr ⟨by rw [hop]; rfl, by rw [hop]; rfl⟩, fun B a w u' he hrep => ⟨hw B a hrep.regs, ?_⟩⟩))
 obtain ⟨v1, v2, v3⟩ := hrep.var t _ hv
 have hnl : n * size + ((cs0.drop off).take (m * size)).length ≤ cs0.length := by
  rw [List.length_take, List.length_drop, hcl]
  have : (n + m) * size ≤ cap * size := Nat.mul_le_mul_right _ hnm
  rw [Nat.add_mul] at this
  omega
 obtain ⟨w', k1, k2, k3⟩ := run_storeCells (P := P) (b := B t) (ty := E) (base := n * size) ((cs0.drop off).take (m * size)) 0 w cs0 v1 (by simpa using hnl) h1
 rw [Nat.add_zero] at k2
 have hld : (loadCells ⟨B t, off, none⟩ (m * size)).run P w = .ok ((cs0.drop off).take (m * size)).toArray w := by
  have := run_loadCells (P := P) (w := w) (b := B t) (l := (cs0.drop off).take (m * size)) (m * size) off #[] 0 (fun j hj => by
   rw [Nat.add_zero, cells_at v1, List.getElem?_take_of_lt xq, List.getElem?_drop]; simp) (by rw [List.length_take, List.length_drop]; omega)
  unfold loadCells
  rw [this]
  simp [List.take_take]
 have hrun : (Builtin.append_ #[T, T] o.type #[.slice (some ⟨B t, 0, none⟩) n cap, .slice (some ⟨B t, off, none⟩) m c]).run P w = .ok (.slice (some ⟨B t, 0, none⟩) (n + m) cap) w' := by
  have ha : (⟨B t, 0, none⟩ : Addr).add (n * size) = ⟨B t, n * size, none⟩ := by
   simp only [Addr.add, Nat.zero_add]; split
   ·rename_i h; rw [h]
   ·rfl
  simp [Builtin.append_, run_underlying hT, sizeOf, typeInfo, hi1, hsz, hnm, Builtin.lenOf, Builtin.firstCells, hld, ha, k1]
 unfold Oper.wp execOp
 simp only [hop, resolve, invoke, builtin, Sem.run_bind, Sem.run_pure, Result.andThen_ok, List.map_toArray, List.map_cons, List.map_nil, ev_of hrep.regs hs, ev_of hrep.regs hx, SV.conc, hrun]
 have hr1 := hrep.store (V' := ⟨E, setL cs0 (n * size) ((cs0.drop off).take (m * size))⟩) hv k2 k3
 have hr2 := hr1.set (d := o.dst) (x := some (.slc t 0 (n + m) cap)) (v := .slice (some ⟨B t, 0, none⟩) (n + m) cap) (fun s hs => (zxz hd hf s hs).1) (fun z e => by injection e with e; rw [← e]; rfl) (fun z t' e ht => by injection e with e; rw [← e] at ht; injection ht with ht; subst ht; exact ⟨_, zxc _ _ _⟩)
 show ∃ S' B' u'' u2, Rep w0 u0 S' B' (a.put o.dst _) w' u'' ∧ _
 refine ⟨_, B, u', u, hr2, fun _ => Ext.refl _, fun _ => Ext.refl _, he, ?_⟩
 rw [hd]; exact k
theorem sy_clear1 {T E : TypeId} {x : Operand} {z : Value} {size bytes : Nat} {off m c t : Nat} {cs0 zs : List Value} (hT : P.underlying T = some (.slice E)) (hi : (P.info? E).map (fun i => (i.zero, i.size, i.bytes)) = some (some z, size, bytes)) (hm : m = 1) (hzs : (Builtin.zeroCells z.cells 1).toList = zs) (hoff : off + zs.length ≤ cs0.length) (h1 : ∀ v ∈ zs, v.oneCell' = true)
  (k : sym P ops w0 u0 true rest (S.setVar t ⟨E, setL cs0 off zs⟩) u K)
  (hw : Wants ops o S := by exact zwh xj) (hd : o.dst = none := by kernel_rfl) (hop : o.op = .call { callee := .builtin .clear, args := #[x], argTypes := #[T] } := by rfl)
  (hv : S.var t = some ⟨E, cs0⟩ := by rfl) (hx : evO S x = some (.slc t off m c) := by rfl) : sym P ops w0 u0 true ((o, p) :: rest) S u K := by
 subst hm
 obtain ⟨inf, hi1, hz, hsz, hby⟩ := info_parts hi
 refine .inr (.inr (.inl ⟨.inl rfl, fun B a w u' he hrep => ⟨hw B a hrep.regs, ?_⟩⟩))
 obtain ⟨v1, v2, v3⟩ := hrep.var t _ hv
 obtain ⟨w', k1, k2, k3⟩ := run_storeCells (P := P) (b := B t) (ty := E) (base := off) zs 0 w cs0 v1 (by simpa using hoff) h1
 rw [Nat.add_zero] at k2
 have hrun : (Builtin.clear_ #[T] o.type #[.slice (some ⟨B t, off, none⟩) 1 c]).run P w = .ok (.tuple #[]) w' := by
  simp [Builtin.clear_, run_underlying hT, zeroValue, typeInfo, hi1, hz, hzs, k1]
 unfold Oper.wp execOp
 simp only [hop, resolve, invoke, builtin, Sem.run_bind, Sem.run_pure, Result.andThen_ok, List.map_toArray, List.map_cons, List.map_nil, ev_of hrep.regs hx, SV.conc, hrun]
 have hr1 := hrep.store (V' := ⟨E, setL cs0 off zs⟩) hv k2 k3
 show ∃ S' B' u'' u2, Rep w0 u0 S' B' (a.put o.dst _) w' u'' ∧ _
 rw [hd]
 exact ⟨_, B, u', u, hr1, (fun h => by cases h), (fun h => by cases h), he, k⟩
end
end Go.Proofs.YtifcjcecmoimjaaGreat
namespace Go.Proofs.YtifcjcecmoimjaaGreat
open Go.RowKit Go.ChangeShapes Go.WideShapes
set_option linter.unusedVariables false
def BdI (l : List Int) : Prop := ∀ z ∈ l, -9223372036854775808 ≤ z ∧ z ≤ 9223372036854775807
theorem bdI_nil : BdI [] := fun z hz => by cases hz
theorem bdI_cons {a : Int} {l : List Int} (h : -9223372036854775808 ≤ a ∧ a ≤ 9223372036854775807) (hl : BdI l) : BdI (a :: l) := fun z hz => by
 rcases List.mem_cons.1 hz with rfl | hz
 ·exact h
 ·exact hl z hz
section
variable {H : Type} {enc : TypeId × Value → H} {w : World} {base : Nat} {spare : Nat → Bool} {held : Bool} {r0 : Reach} {b0 fuel : Nat} {v : Value} {d : DataW H} {p : List MemPlace}
theorem ar_i1 {cs : List Value} {x : DataW H × List MemPlace} (h : DataW.trod enc Tryz.prog w base spare held fuel 3 cs = some x) : ∃ n : Int, cs = [.int .i64 n] ∧ -9223372036854775808 ≤ n ∧ n ≤ 9223372036854775807 := by
 obtain ⟨n0, k0, _, hw⟩ := DataW.trod_int (k := .i64) xj h
 exact ⟨n0, k0, wf_i64 hw⟩
theorem tri_of {α : Type} {xs : List α} (h : xs.length = 3) : ∃ a b c, xs = [a, b, c] := by
 match xs, h with
 | [a, b, c], _ => exact ⟨a, b, c, rfl⟩
set_option maxRecDepth 100000 in
theorem ar_a2 {cs : List Value} {x : DataW H × List MemPlace} (hl : cs.length = 2) (h : DataW.trod enc Tryz.prog w base spare held fuel 30 cs = some x) : ∃ q : List Int, q.length = 2 ∧ BdI q ∧ cs = ics q := by
 obtain ⟨c0, c1, rfl⟩ := two_of hl
 have e : Tryz.prog.cellsOf 3 = 1 := by kernel_rfl
 obtain ⟨ys, m, _, _, _, hys, hg⟩ := DataW.trod_array Tryz.underlying30 h
 obtain ⟨z0, z1, rfl⟩ := two_of hys
 have g0 : DataW.trod enc Tryz.prog w base spare held m 3 [c0] = some z0 := by simpa [e] using hg 0 yq
 have g1 : DataW.trod enc Tryz.prog w base spare held m 3 [c1] = some z1 := by simpa [e] using hg 1 yq
 obtain ⟨n0, k0, b0⟩ := ar_i1 g0
 obtain ⟨n1, k1, b1⟩ := ar_i1 g1
 refine ⟨[n0, n1], rfl, bdI_cons b0 (bdI_cons b1 bdI_nil), ?_⟩
 rw [(List.cons.inj k0).1, (List.cons.inj k1).1]; rfl
set_option maxRecDepth 100000 in
theorem ar_a3 {cs : List Value} {x : DataW H × List MemPlace} (hl : cs.length = 3) (h : DataW.trod enc Tryz.prog w base spare held fuel 29 cs = some x) : ∃ q : List Int, q.length = 3 ∧ BdI q ∧ cs = ics q := by
 obtain ⟨c0, c1, c2, rfl⟩ := tri_of hl
 have e : Tryz.prog.cellsOf 3 = 1 := by kernel_rfl
 obtain ⟨ys, m, _, _, _, hys, hg⟩ := DataW.trod_array Tryz.underlying29 h
 obtain ⟨z0, z1, z2, rfl⟩ := tri_of hys
 have g0 : DataW.trod enc Tryz.prog w base spare held m 3 [c0] = some z0 := by simpa [e] using hg 0 yq
 have g1 : DataW.trod enc Tryz.prog w base spare held m 3 [c1] = some z1 := by simpa [e] using hg 1 yq
 have g2 : DataW.trod enc Tryz.prog w base spare held m 3 [c2] = some z2 := by simpa [e] using hg 2 yq
 obtain ⟨n0, k0, b0⟩ := ar_i1 g0
 obtain ⟨n1, k1, b1⟩ := ar_i1 g1
 obtain ⟨n2, k2, b2⟩ := ar_i1 g2
 refine ⟨[n0, n1, n2], rfl, bdI_cons b0 (bdI_cons b1 (bdI_cons b2 bdI_nil)), ?_⟩
 rw [(List.cons.inj k0).1, (List.cons.inj k1).1, (List.cons.inj k2).1]; rfl
theorem ar_rows {k : Nat} {T e : TypeId} (hk : 0 < k) (hu : Tryz.prog.underlying T = some (.slice e)) (hc : Tryz.prog.cellsOf e = k)
  (hrow : ∀ {fuel : Nat} {cs : List Value} {x : DataW H × List MemPlace}, cs.length = k → DataW.trod enc Tryz.prog w base spare held fuel e cs = some x → ∃ q : List Int, q.length = k ∧ BdI q ∧ cs = ics q)
  {cs : List Value} {x : DataW H × List MemPlace} (h : DataW.trod enc Tryz.prog w base spare held fuel T cs = some x) : ∃ (s : Sl) (L : List (List Int)), cs = [s.v] ∧ IrV k w s L ∧ ∀ p ∈ L, BdI p := by
 rcases Go.Deep.open_slice (e := e) hu h with ⟨rfl, _⟩ | ⟨a, n, c, m, _, D, Pl, rfl, _, hl, hm, hmm, _, hi⟩
 ·exact ⟨⟨none, 0, 0⟩, [], rfl, ⟨(fun p hp => by cases hp), rfl, Nat.le_refl _, Nat.zero_le _, fun h => absurd h (Nat.lt_irrefl 0)⟩, fun p hp => by cases hp⟩
 ·rw [hc] at hi
  have hnm : n ≤ m := by rw [hmm]; split <;> omega
  have hi2 : ∀ i : Nat, ∃ q : List Int, i < n → q.length = k ∧ BdI q ∧ ∀ j, j < k → w.cell? ((a.add (i * k)).add j) = (ics q)[j]? := by
   intro i
   by_cases hin : i < n
   ·obtain ⟨cs', h1, h2⟩ := hi i xq
    have h5 := World.cells?_some h1
    obtain ⟨q, h3, h4, h6⟩ := hrow (by first | exact h5.1 | exact h5.2.1 | omega) h2
    have h7 := h5.2.2
    rw [h6] at h7
    exact ⟨q, fun _ => ⟨h3, h4, h7⟩⟩
   ·exact ⟨[], fun e => absurd e hin⟩
  obtain ⟨f, hf⟩ := Classical.skolem.1 hi2
  have hmem : ∀ p ∈ (List.range n).map f, p.length = k ∧ BdI p := fun p hp => by
   obtain ⟨i, hi, rfl⟩ := List.mem_map.1 hp
   have := hf i (List.mem_range.1 hi)
   exact ⟨this.1, this.2.1⟩
  have hR : Rows k ((List.range n).map f) := fun p hp => (hmem p hp).1
  refine ⟨⟨some a, n, c⟩, (List.range n).map f, rfl, ⟨hR, by simp, hl, hm, fun hp => ?_⟩, fun p hp => (hmem p hp).2⟩
  have hp : 0 < n := hp
  obtain ⟨b, o, sp⟩ := a
  obtain ⟨q1, q2, h0⟩ := hf 0 hp
  have h0 := h0 0 hk
  have e0 : ((⟨b, o, sp⟩ : Addr).add (0 * k)).add 0 = ⟨b, o, sp⟩ := by simp [Addr.add]
  rw [e0] at h0
  have h1 : (ics (f 0))[0]? = some (.int .i64 ((f 0).getD 0 0)) := by
   rw [ics_at xq]
  rw [h1] at h0
  have hsp : sp = none := by simpa using World.cell?_spot h0
  subst hsp
  refine ⟨b, o, rfl, by simpa using block_lt_of_cell h0, fun j hj => ?_⟩
  rw [List.length_map, List.length_range] at hj
  have hjk : j / k < n := Nat.div_lt_of_lt_mul (by rw [Nat.mul_comm]; exact hj)
  have hjm : j % k < k := Nat.mod_lt _ hk
  have hdm : j / k * k + j % k = j := Nat.div_add_mod' j k
  have hq := (hf (j / k) hjk).2.2 (j % k) hjm
  have ea : ((⟨b, o, none⟩ : Addr).add (j / k * k)).add (j % k) = ⟨b, o + j, none⟩ := by rw [addr_add, addr_add, Nat.add_assoc, hdm]
  rw [ea] at hq
  rw [hq]
  have hx := kcs_get (i := j / k) hR (by simp; exact hjk)
  have hy : ((kcs ((List.range n).map f)).drop (j / k * k)).take k = ics (f (j / k)) := by
   rw [hx, List.getD_eq_getElem?_getD, List.getElem?_map, List.getElem?_range hjk]; rfl
  rw [← hy, List.getElem?_take_of_lt hjm, List.getElem?_drop, hdm]
set_option maxRecDepth 100000 in
theorem ar_rows3 (hv : Value.okWide Tryz.prog w r0 b0 22 v) (h : DataW.Trod enc Tryz.prog w base spare held 22 v d p) : ∃ (s : Sl) (L : List (List Int)), v = s.v ∧ IrV 3 w s L ∧ ∀ p ∈ L, BdI p := by
 obtain ⟨a, n, c, rfl⟩ := okWide_slice Tryz.underlying22 hv
 obtain ⟨fuel, hf⟩ := h
 obtain ⟨s, L, h1, h2, h3⟩ := ar_rows (k := 3) (e := 29) yq xj xj (fun hl h => ar_a3 hl h) hf
 have h1 : [Value.slice a n c] = [s.v] := h1
 exact ⟨s, L, (List.cons.inj h1).1, h2, h3⟩
set_option maxRecDepth 100000 in
theorem ar_rows2 (hv : Value.okWide Tryz.prog w r0 b0 23 v) (h : DataW.Trod enc Tryz.prog w base spare held 23 v d p) : ∃ (s : Sl) (L : List (List Int)), v = s.v ∧ IrV 2 w s L ∧ ∀ p ∈ L, BdI p := by
 obtain ⟨a, n, c, rfl⟩ := okWide_slice Tryz.underlying23 hv
 obtain ⟨fuel, hf⟩ := h
 obtain ⟨s, L, h1, h2, h3⟩ := ar_rows (k := 2) (e := 30) yq xj xj (fun hl h => ar_a2 hl h) hf
 have h1 : [Value.slice a n c] = [s.v] := h1
 exact ⟨s, L, (List.cons.inj h1).1, h2, h3⟩
end
end Go.Proofs.YtifcjcecmoimjaaGreat
namespace Go.Proofs.YtifcjcecmoimjaaGreat
open Go.RowKit
set_option linter.unusedVariables false
def OkR (k : Nat) (L : List (List Int)) : Prop := ∀ p ∈ L, p.length = k ∧ ∀ z ∈ p, -16777216 ≤ z ∧ z ≤ 16777216
section
variable {L M : List (List Int)} {p : List Int} {k n i j c : Nat} {X : List Value} {a b : Int}
theorem OkR.rows (h : OkR k L) : Rows k L := fun p hp => (h p hp).1
theorem OkR.mem (h : OkR k L) (hi : i < L.length) : (L.getD i []).length = k ∧ ∀ z ∈ L.getD i [], -16777216 ≤ z ∧ z ≤ 16777216 := by
 have e : L[i] = L.getD i [] := by rw [List.getD_eq_getElem?_getD, List.getElem?_eq_getElem hi]; rfl
 rw [← e]; exact h _ (List.getElem_mem hi)
theorem OkR.bd (h : OkR k L) (hi : i < L.length) (hj : j < k) : -16777216 ≤ gi L i j ∧ gi L i j ≤ 16777216 := by
 obtain ⟨h1, h2⟩ := h.mem hi
 refine h2 _ ?_
 show (L.getD i []).getD j 0 ∈ _
 have hj' : j < (L.getD i []).length := by omega
 generalize L.getD i [] = q at *
 rw [List.getD_eq_getElem?_getD, List.getElem?_eq_getElem hj']
 exact List.getElem_mem hj'
theorem OkR.set (h : OkR k L) (hp : p.length = k) (hz : ∀ z ∈ p, -16777216 ≤ z ∧ z ≤ 16777216) : OkR k (L.set i p) := fun q hq => by
 rcases List.mem_or_eq_of_mem_set hq with hq | rfl
 ·exact h q hq
 ·exact ⟨hp, hz⟩
theorem OkR.set2 (h : OkR 2 L) (ha : -16777216 ≤ a ∧ a ≤ 16777216) (hb : -16777216 ≤ b ∧ b ≤ 16777216) : OkR 2 (L.set i [a, b]) := h.set rfl (fun z hz => by
 simp at hz
 rcases hz with rfl | rfl
 ·exact ha
 ·exact hb)
theorem OkR.erase (h : OkR k L) : OkR k (L.eraseIdx n) := fun q hq => h q (List.mem_of_mem_eraseIdx hq)
theorem OkR.drop (h : OkR k L) : OkR k (L.drop n) := fun q hq => h q (List.mem_of_mem_drop hq)
theorem setL_mid {A B C V : List Value} (hV : V.length = B.length) {m : Nat} (hm : m = A.length) : setL (A ++ (B ++ C)) m V = A ++ (V ++ C) := by
 subst hm
 unfold setL
 rw [List.take_left' rfl, hV, ← List.append_assoc A B C, List.drop_left' yy]
 simp
theorem del_rows {zs : List Value} (h : Rows k L) (hi : i < L.length) (hz : zs.length = k) {off : Nat} (hoff : i + 1 < L.length → off = (i + 1) * k) :
  ((kcs L ++ X).drop off).take ((L.length - (i + 1)) * k) = kcs (L.drop (i + 1)) ∧ setL (setL (kcs L ++ X) (i * k) (kcs (L.drop (i + 1)))) ((L.length - 1) * k) zs = kcs (L.eraseIdx i) ++ (zs ++ X) := by
 have hl := kcs_len h
 have hdl := kcs_len (h.drop (n := i + 1))
 rw [List.length_drop] at hdl
 have htl : (kcs (L.take i)).length = i * k := by rw [← kcs_take h, List.length_take, hl]; exact Nat.min_eq_left (Nat.mul_le_mul_right _ (Nat.le_of_lt hi))
 constructor
 ·by_cases e : i + 1 < L.length
  ·have h1 : (i + 1) * k ≤ L.length * k := Nat.mul_le_mul_right _ hi
   rw [hoff e, List.drop_append_of_le_length xq, kcs_drop h, List.take_append_of_le_length xq, List.take_of_length_le xq]
  ·have e0 : L.length - (i + 1) = 0 := by omega
   rw [e0, Nat.zero_mul, List.take_zero, List.drop_of_length_le xq]; rfl
 ·have e1 : kcs L = kcs (L.take i) ++ (kcs (L.drop i)) := by rw [← kcs_app, List.take_append_drop]
  have hB : kcs (L.drop i) = (kcs (L.drop i)).take ((L.length - (i + 1)) * k) ++ (kcs (L.drop i)).drop ((L.length - (i + 1)) * k) := (List.take_append_drop _ _).symm
  have hdi := kcs_len (h.drop (n := i))
  rw [List.length_drop] at hdi
  have e3 : (L.length - i) * k = (L.length - (i + 1)) * k + k := by rw [← Nat.succ_mul]; congr 1; omega
  have hT : ((kcs (L.drop i)).drop ((L.length - (i + 1)) * k)).length = k := by rw [List.length_drop, hdi, e3]; omega
  have hB1 : ((kcs (L.drop i)).take ((L.length - (i + 1)) * k)).length = (L.length - (i + 1)) * k := by rw [List.length_take, hdi, e3]; omega
  generalize ((kcs (L.drop i)).drop ((L.length - (i + 1)) * k)) = T at *
  generalize ((kcs (L.drop i)).take ((L.length - (i + 1)) * k)) = B at *
  rw [e1, hB, List.append_assoc, List.append_assoc, setL_mid (by rw [hdl, hB1]) htl.symm, ← List.append_assoc, setL_mid (by rw [hz, hT]) (by rw [List.length_append, htl, hdl, ← Nat.add_mul]; congr 1; omega), ← kcs_app, List.eraseIdx_eq_take_drop_succ]
end
namespace Nt
def az (z : Int) : Int := (z.natAbs : Int)
def cmpZ (a0 a1 b0 b1 : Int) : Int := if az a1 = az b1 then az b0 - az a0 else az b1 - az a1
def swapR (L : List (List Int)) (j : Nat) : List (List Int) := (L.set j [gi L (j - 1) 0, gi L (j - 1) 1]).set (j - 1) [gi L j 0, gi L j 1]
def insR (L : List (List Int)) : Nat → List (List Int)
 | 0 => L
 | j + 1 => if cmpZ (gi L (j + 1) 0) (gi L (j + 1) 1) (gi L j 0) (gi L j 1) < 0 then insR (swapR L (j + 1)) j else L
def outR (L : List (List Int)) (i : Nat) : Nat → List (List Int)
 | 0 => L
 | m + 1 => outR (insR L i) (i + 1) m
def sortR (L : List (List Int)) : List (List Int) := outR L 1 (L.length - 1)
def distZ (b1 b2 a0 a1 : Int) : Int := az (b1 - a0) + az (b2 - a1)
def bestR (Z : List (List Int)) (a0 a1 : Int) : Nat → Nat
 | 0 => 0
 | n + 1 => if distZ (gi Z n 1) (gi Z n 2) a0 a1 < distZ (gi Z (bestR Z a0 a1 n) 1) (gi Z (bestR Z a0 a1 n) 2) a0 a1 then n else bestR Z a0 a1 n
def pairR : List (List Int) → List (List Int) → List (List Int) → List (List Int)
 | [], _, acc => acc
 | a :: D, Z, acc => pairR D (Z.eraseIdx (bestR Z (a.getD 0 0) (a.getD 1 0) Z.length)) ([gi Z (bestR Z (a.getD 0 0) (a.getD 1 0) Z.length) 0, gi Z (bestR Z (a.getD 0 0) (a.getD 1 0) Z.length) 1, gi Z (bestR Z (a.getD 0 0) (a.getD 1 0) Z.length) 2, a.getD 0 0, a.getD 1 0] :: acc)
variable {L Z : List (List Int)} {n i j : Nat} {a0 a1 z : Int}
theorem swapR_len : (swapR L j).length = L.length := by simp [swapR]
theorem swapR_ok (h : OkR 2 L) (hj : j < L.length) (h0 : 0 < j) : OkR 2 (swapR L j) := by
 unfold swapR
 exact (h.set2 (h.bd xq yq) (h.bd xq yq)).set2 (h.bd hj yq) (h.bd hj yq)
theorem insR_len : (insR L j).length = L.length := by
 induction j generalizing L with
 | zero => rfl
 | succ j ih =>
  unfold insR
  split
  ·rw [ih, swapR_len]
  ·rfl
theorem insR_ok (h : OkR 2 L) (hj : j < L.length) : OkR 2 (insR L j) := by
 induction j generalizing L with
 | zero => exact h
 | succ j ih =>
  unfold insR
  split
  ·exact ih (swapR_ok h hj xq) (by rw [swapR_len]; omega)
  ·exact h
theorem outR_len {m : Nat} : (outR L i m).length = L.length := by
 induction m generalizing L i with
 | zero => rfl
 | succ m ih => unfold outR; rw [ih, insR_len]
theorem outR_ok {m : Nat} (h : OkR 2 L) (hm : i + m ≤ L.length) : OkR 2 (outR L i m) := by
 induction m generalizing L i with
 | zero => exact h
 | succ m ih => unfold outR; exact ih (insR_ok h xq) (by rw [insR_len]; omega)
theorem sortR_len : (sortR L).length = L.length := outR_len
theorem sortR_ok (h : OkR 2 L) (h0 : 0 < L.length) : OkR 2 (sortR L) := outR_ok h xq
theorem insR_go (h0 : 0 < j) (h : cmpZ (gi L j 0) (gi L j 1) (gi L (j - 1) 0) (gi L (j - 1) 1) < 0) : insR L j = insR (swapR L j) (j - 1) := by
 obtain ⟨k, rfl⟩ : ∃ k, j = k + 1 := ⟨j - 1, by omega⟩
 rw [Nat.add_sub_cancel] at h
 show (if _ then _ else _) = _
 rw [if_pos h, Nat.add_sub_cancel]
theorem insR_stop (h : 0 < j → ¬ cmpZ (gi L j 0) (gi L j 1) (gi L (j - 1) 0) (gi L (j - 1) 1) < 0) : insR L j = L := by
 cases j with
 | zero => rfl
 | succ k =>
  show (if _ then _ else _) = _
  have := h xq
  rw [Nat.add_sub_cancel] at this
  rw [if_neg this]
theorem outR_step (h : i < n) : outR L i (n - i) = outR (insR L i) (i + 1) (n - (i + 1)) := by
 obtain ⟨m, hm⟩ : ∃ m, n - i = m + 1 := ⟨n - i - 1, by omega⟩
 rw [hm, show n - (i + 1) = m by omega]; rfl
theorem bestR_lt (h : 0 < n) : bestR Z a0 a1 n < n := by
 induction n with
 | zero => omega
 | succ n ih =>
  unfold bestR
  split
  ·omega
  ·cases n with
   | zero => show 0 < 1; omega
   | succ n => have := ih xq; omega
theorem best_yes (h : distZ (gi Z n 1) (gi Z n 2) a0 a1 < distZ (gi Z (bestR Z a0 a1 n) 1) (gi Z (bestR Z a0 a1 n) 2) a0 a1) : bestR Z a0 a1 (n + 1) = n := by
 show (if _ then _ else _) = _
 rw [if_pos h]
theorem best_no (h : ¬ distZ (gi Z n 1) (gi Z n 2) a0 a1 < distZ (gi Z (bestR Z a0 a1 n) 1) (gi Z (bestR Z a0 a1 n) 2) a0 a1) : bestR Z a0 a1 (n + 1) = bestR Z a0 a1 n := by
 show (if _ then _ else _) = _
 rw [if_neg h]
theorem az_bd (h0 : -1000000000 ≤ z) (h1 : z ≤ 1000000000) : 0 ≤ az z ∧ az z ≤ 1000000000 := by unfold az; omega
theorem dist_bd {b1 b2 : Int} (h1 : -16777216 ≤ b1 ∧ b1 ≤ 16777216) (h2 : -16777216 ≤ b2 ∧ b2 ≤ 16777216) (h3 : -16777216 ≤ a0 ∧ a0 ≤ 16777216) (h4 : -16777216 ≤ a1 ∧ a1 ≤ 16777216) : 0 ≤ distZ b1 b2 a0 a1 ∧ distZ b1 b2 a0 a1 ≤ 67108864 := by unfold distZ az; omega
theorem fill_back {z : List Int} {acc : List (List Int)} (hi : i < n) (x : List Int) : (List.replicate (n - i) z ++ acc).set (n - 1 - i) x = List.replicate (n - (i + 1)) z ++ (x :: acc) := by
 rw [show n - i = (n - (i + 1)) + 1 by omega, List.replicate_succ', List.append_assoc]
 rw [List.set_append_right _ _ yw, List.length_replicate, show n - 1 - i - (n - (i + 1)) = 0 by omega]
 rfl
theorem pairR_step {D acc : List (List Int)} (hi : i < D.length) : pairR (D.drop i) Z acc = pairR (D.drop (i + 1)) (Z.eraseIdx (bestR Z (gi D i 0) (gi D i 1) Z.length)) ([gi Z (bestR Z (gi D i 0) (gi D i 1) Z.length) 0, gi Z (bestR Z (gi D i 0) (gi D i 1) Z.length) 1, gi Z (bestR Z (gi D i 0) (gi D i 1) Z.length) 2, gi D i 0, gi D i 1] :: acc) := by
 rw [List.drop_eq_getElem_cons hi]
 have e : D[i] = D.getD i [] := by rw [List.getD_eq_getElem?_getD, List.getElem?_eq_getElem hi]; rfl
 show pairR (D.drop (i + 1)) _ _ = _
 rw [e]; rfl
end Nt
namespace Nt
end Nt
section
variable {lo h g : Nat} {u u' : World} {x y z : Sl} {N : List (List TL)} {cs : List Value}
def Sep (x y : Sl) : Prop := ∀ a b, x.a = some a → y.a = some b → a.block ≠ b.block
theorem Sep.symm (h : Sep x y) : Sep y x := fun a b ha hb e => h b a hb ha e.symm
theorem Sep.nil (y : Sl) : Sep ⟨none, 0, 0⟩ y := fun a b ha => by cases ha
theorem Sep.step {k : Nat} {ty : TypeId} (hs : Sep x y) (m : MutL k ty lo u x cs) (ho : ∀ a, z.a = some a → (y.a = some a ∨ u.heap.size ≤ a.block)) : Sep x z := fun a b ha hb e => by
 rcases ho b hb with h1 | h1
 ·exact hs a b ha h1 e
 ·have := m.lt ha
  omega
end
section
variable {P : Program} {ops : Array Oper} {w0 u0 : World} {seq : Bool} {o : Oper} {p : List Tmp} {rest : List (Oper × List Tmp)} {S : St} {u : World} {K : St → World → Prop}
end
variable {k lo lo' h b n c i : Nat} {ty t2 : TypeId} {u u' : World} {x y : Sl}
theorem MutL.slr {l : List Int} (m : MutL 1 ty lo u x (ics l)) : SlR .i64 u x.a x.n x.c l := by
 have h1 := m.1
 rw [zwk] at h1
 refine ⟨by omega, m.2.1, m.2.2.1, fun hp => ?_⟩
 obtain ⟨b, e, _⟩ := MutL.cell (j := 0) m (by rw [zwk]; omega)
 refine ⟨b, 0, e, m.lt e, fun i hi => ?_⟩
 obtain ⟨b2, e2, g⟩ := MutL.cell (j := i) m (by rw [zwk]; omega)
 rw [e] at e2; injection e2 with e2; injection e2 with e2; subst e2
 rw [g, ics_at xq, List.getD_eq_getElem?_getD]
end Go.Proofs.YtifcjcecmoimjaaGreat
namespace Go.Proofs.YtifcjcecmoimjaaGreat
open Go.RowKit
set_option linter.unusedVariables false
namespace Nt
namespace Pol
theorem monic_zero : (0 : Pol).monic = 0 := by unfold monic; rw [mul_zero]
theorem IsGcd.mul {p q g : Pol} (h : IsGcd p q g) (r : Pol) : IsGcd (p * r) (q * r) (g * r).monic := by
 obtain ⟨u1, e1⟩ := h.l
 obtain ⟨u2, e2⟩ := h.r
 obtain ⟨s, t, e3⟩ := h.s
 by_cases h0 : g * r = 0
 ·rw [h0, monic_zero]
  exact ⟨.inl rfl, ⟨0, by rw [e1]; grind⟩, ⟨0, by rw [e2]; grind⟩, ⟨0, 0, by grind⟩⟩
 ·have h1 := lead_ne h0
  have h2 := C_inv h1
  refine ⟨.inr (monic_lead h0), ⟨C (g * r).lead * u1, ?_⟩, ⟨C (g * r).lead * u2, ?_⟩, ⟨C (1 / (g * r).lead) * s, C (1 / (g * r).lead) * t, ?_⟩⟩
  ·unfold monic; grind
  ·unfold monic; grind
  ·unfold monic; grind
theorem npow_zero (p : Pol) : npow p 0 = 1 := rfl
theorem npow_succ (p : Pol) (n : Nat) : npow p (n + 1) = npow p n * p := rfl
end Pol
section
variable {l m : List Rat} {D E A B n : Nat}
theorem Sm.npow (h : Sm l D A) (n : Nat) : Sm (Pol.npow (Pol.mk' l) n).l (D ^ n) (n * (A + l.length)) := by
 induction n with
 | zero =>
  rw [Pol.npow_zero, Nat.pow_zero, Nat.zero_mul]
  exact (show Sm (List.map (fun z : Int => (z : Rat)) [1]) 1 0 from Sm.ofInts yq).trim
 | succ n ih =>
  rw [Pol.npow_succ, Nat.pow_succ, Nat.add_mul, Nat.one_mul]
  have h9 := (ih.mulR (h.trim : Sm (Pol.mk' l).l D A)).trim.more (B := n * (A + l.length) + (A + l.length)) (by have h8 := zzh l; change _ + A + (trimQ l).length ≤ _; omega)
  exact h9
theorem len_of_co {a : Nat} (h : ∀ i, a ≤ i → Nt.co l i = 0) : (trimQ l).length ≤ a := Pol.len_le (p := Pol.mk' l) fun i hi => by rw [Pol.mk_c]; exact h i hi
theorem zxu {a b : Nat} (h1 : l.length ≤ a) (h2 : m.length ≤ b) : (trimQ (mulQ l m)).length ≤ a + b - 1 := len_of_co fun i hi => mulQ_far xq
theorem map_lenQ {a : Nat} {f : Rat → Rat} (h1 : l.length ≤ a) : (trimQ (l.map f)).length ≤ a := Nat.le_trans (zzh _) (by rw [List.length_map]; omega)
end
end Nt
namespace Nt
section
variable {p q : List Rat} {u v x y : Pol}
end
end Nt
end Go.Proofs.YtifcjcecmoimjaaGreat
namespace Go.Proofs.YtifcjcecmoimjaaGreat.Nt
open Go.RowKit
open Pol
set_option linter.unusedVariables false
def RSz (l : List Rat) (j : Nat) : Prop := l.length ≤ 1 + j ∧ ∃ D, D ≤ 2 ^ (2 + 6 * j) ∧ Sm l D (2 + 6 * j)
theorem RSz.more {l : List Rat} {i j : Nat} (h : RSz l i) (k : i ≤ j) : RSz l j := by
 obtain ⟨h1, D, h2, h3⟩ := h
 exact ⟨by omega, D, Nat.le_trans h2 (Nat.pow_le_pow_right xq xq), h3.more xq⟩
theorem RSz.one {z : Nat} (hz : z < 3) : RSz [(((1 + z : Nat) : Int) : Rat)] 0 :=
 ⟨by simp, 1, by decide, Sm.ofAll xq (fun x hx => by
  rw [List.mem_singleton.1 hx, show ((((1 : Nat) : Int)) : Rat) = 1 from rfl, Rat.mul_one]
  exact whNat xq)⟩
theorem RSz.neg {l : List Rat} {j : Nat} (h : RSz l j) : RSz (trimQ (l.map (· * (((-1) : Int) : Rat)))) j := by
 obtain ⟨h1, D, h2, h3⟩ := h
 refine ⟨map_lenQ h1, D, h2, Sm.trim ⟨h3.1, fun i => ?_⟩⟩
 rw [co_map (fun x => x * (((-1) : Int) : Rat)) (Rat.zero_mul _)]
 obtain ⟨z, hz, hb⟩ := h3.2 i
 refine ⟨-z, ?_, by rw [Int.natAbs_neg]; exact hb⟩
 rw [Rat.intCast_neg (a := z), ← hz]
 have e1 : (((-1) : Int) : Rat) = -1 := by decide +kernel
 rw [e1]; grind
theorem lin_sm {r : Rat} (h : Wh (r * (((12 : Nat) : Int) : Rat)) 4) : Sm [-r, ((1 : Int) : Rat)] 12 4 := Sm.ofAll xq (fun x hx => by
 rcases List.mem_cons.1 hx with rfl | hx
 ·obtain ⟨z, hz, hb⟩ := h
  exact ⟨-z, by rw [Rat.intCast_neg, ← hz]; grind, by rw [Int.natAbs_neg]; exact hb⟩
 ·rw [List.mem_singleton.1 hx]
  exact ⟨12, by decide +kernel, by decide⟩)
theorem RSz.lin {l : List Rat} {j : Nat} {r : Rat} (h : RSz l j) (hr : Wh (r * (((12 : Nat) : Int) : Rat)) 4) : RSz (trimQ (mulQ l [-r, ((1 : Int) : Rat)])) (j + 1) := by
 obtain ⟨h1, D, h2, h3⟩ := h
 refine ⟨Nat.le_trans (zxu h1 (Nat.le_refl _)) yw, D * 12, ?_, ((h3.mulR (lin_sm hr)).trim).more yw⟩
 rw [show 2 + 6 * (j + 1) = (2 + 6 * j) + 6 by omega, Nat.pow_add]
 exact Nat.mul_le_mul h2 yq
def RFin (l : List Rat) : Prop := l.length ≤ 12 ∧ ∃ D, D ≤ 2 ^ 63 ∧ Sm l D 63
theorem RSz.fin {l : List Rat} (h : RSz l 9) : RFin l := by
 obtain ⟨h1, D, h2, h3⟩ := h
 exact ⟨by omega, D, Nat.le_trans h2 yq, h3.more yq⟩
end Go.Proofs.YtifcjcecmoimjaaGreat.Nt
namespace Go.Proofs.YtifcjcecmoimjaaGreat.Nt
open Go.RowKit
open Pol
set_option linter.unusedVariables false
section
variable {P q ps qs l m p : List Rat} {A B D E F a b K : Nat} {c x y : Rat}
def nxQ (q ps : List Rat) : List Rat := subN (ps.length - q.length) (ps.getD (ps.length - 1) 0 / q.getD (q.length - 1) 0) q (ps.take (ps.length - 1)) (q.length - 1)
theorem nx_co (hn : q.length ≤ ps.length) (hm : 0 < q.length) (hq : co q (q.length - 1) ≠ 0) (i : Nat) :
  co (nxQ q ps) i = co ps i - (if ps.length - q.length ≤ i then co ps (ps.length - 1) / co q (q.length - 1) * co q (i - (ps.length - q.length)) else 0) := by
 unfold nxQ
 rw [subN_co (by rw [List.length_take]; omega)]
 change _ - (if _ then co ps (ps.length - 1) / co q (q.length - 1) * _ else 0) = _
 obtain ⟨c, hc⟩ : ∃ c, co ps (ps.length - 1) / co q (q.length - 1) = c := ⟨_, rfl⟩
 rw [hc]
 by_cases h1 : i < ps.length - 1
 ·rw [co_take h1]
  change co ps i - _ = _
  by_cases h2 : ps.length - q.length ≤ i
  ·rw [if_pos h2, if_pos xq]
  ·rw [if_neg h2, if_neg xq]
 ·rw [co_ge (l := ps.take _) (by rw [List.length_take]; omega), if_neg xq, if_pos xq]
  by_cases h2 : i = ps.length - 1
  ·rw [h2, show ps.length - 1 - (ps.length - q.length) = q.length - 1 by omega, ← hc]; grind
  ·rw [co_ge xq, co_ge (l := q) xq]; grind
theorem nx_len (hn : q.length ≤ ps.length) (hm : 0 < q.length) : (trimQ (nxQ q ps)).length < ps.length := by
 have h9 := zzh (nxQ q ps)
 unfold nxQ at h9 ⊢
 rw [subN_len, List.length_take] at h9
 omega
structure RefI (P q qs ps : List Rat) : Prop where
 ql : qs.length = P.length + 1 - q.length
 pl : ps.length ≤ P.length
 qz : ∀ j, j + q.length ≤ ps.length → co qs j = 0
 eq : ∀ i, co P i = co (mulQ qs q) i + co ps i
theorem RefI.begin (P q : List Rat) : RefI P q (List.replicate (P.length + 1 - q.length) 0) P := by
 have h0 : ∀ j, co (List.replicate (P.length + 1 - q.length) 0) j = 0 := fun j => by
  unfold co; rw [List.getD_eq_getElem?_getD, List.getElem?_replicate]; split <;> rfl
 exact ⟨by simp, Nat.le_refl _, fun j _ => h0 j, fun i => by rw [mulQ_zero h0]; grind⟩
theorem RefI.step (h : RefI P q qs ps) (hn : q.length ≤ ps.length) (hm : 0 < q.length) (hq : co q (q.length - 1) ≠ 0) :
  RefI P q (qs.set (ps.length - q.length) (ps.getD (ps.length - 1) 0 / q.getD (q.length - 1) 0)) (trimQ (nxQ q ps)) := by
 have hl := nx_len hn hm
 have hp := h.pl
 have hk : ps.length - q.length < qs.length := by rw [h.ql]; omega
 refine ⟨by rw [List.length_set]; exact h.ql, by omega, fun j hj => ?_, fun i => ?_⟩
 ·rw [co_set hk, if_neg xq]
  exact h.qz j xq
 ·rw [mulQ_set hk (h.qz _ xq), trim_co, nx_co hn hm hq, h.eq i]
  change _ = _ + (if _ then co ps (ps.length - 1) / co q (q.length - 1) * _ else 0) + _
  split <;> grind
theorem RefI.done (h : RefI P q qs ps) : Pol.mk' P = Pol.mk' qs * Pol.mk' q + Pol.mk' ps := by
 refine Pol.ext fun i => ?_
 rw [c_add, ← mk_mul, mk_c, mk_c, mk_c]
 exact h.eq i
theorem div_go (hB : WhL q b) (hq : 0 < q.length) (hl : co q (q.length - 1) ≠ 0) : ∀ (n k : Nat) (s t : List Rat) (f : Rat), k + n = p.length → (k = 0 ∨ q.length ≤ n + 1) → DivI p q n s t f → WhL t (a + k * (b + 1)) →
  ∃ s t f, DivR p q s t f ∧ WhL t (a + (p.length - q.length + 1) * (b + 1)) := by
 intro n
 have stop : ∀ (n k : Nat) (s t : List Rat) (f : Rat), k + n = p.length → (k = 0 ∨ q.length ≤ n + 1) → n < q.length → DivI p q n s t f → WhL t (a + k * (b + 1)) → ∃ s t f, DivR p q s t f ∧ WhL t (a + (p.length - q.length + 1) * (b + 1)) := by
  intro n k s t f hk hs h hD hW
  refine ⟨s, _, f, hD.done h, (hW.take _).more (Nat.add_le_add_left (Nat.mul_le_mul_right _ ?_) _)⟩
  omega
 induction n with
 | zero =>
  intro k s t f hk hs hD hW
  exact stop 0 k s t f hk hs hq hD hW
 | succ n ih =>
  intro k s t f hk hs hD hW
  by_cases h : n + 1 < q.length
  ·exact stop (n + 1) k s t f hk hs h hD hW
  ·have h1 := hD.step xq xq hq hl (x := co t n) (d := co q (q.length - 1)) hl rfl
   refine ih (k + 1) _ _ _ xq (.inr xq) h1 ?_
   have hd : Wh (co q (q.length - 1)) b := hB _
   refine WhL.more (WhL.subN (hW.map hd) (fun i => (hW n).mul (hB i)) (by rw [List.length_map, hD.tl]; omega)) ?_
   rw [Nat.add_mul]; omega
theorem div_exists (hA : WhL p a) (hB : WhL q b) (hq : Nrm q) (hq0 : 0 < q.length) : ∃ s t f, DivR p q s t f ∧ WhL t (a + (p.length - q.length + 1) * (b + 1)) :=
 div_go hB hq0 (nrm_last hq (by rintro rfl; simp at hq0)) p.length 0 _ _ _ xq (.inl rfl) (DivI.begin p q) (by rw [Nat.zero_mul]; exact hA)
theorem monic_Cmul {k : Rat} (hk : k ≠ 0) (r : Pol) : (C k * r).monic = r.monic := by
 by_cases h0 : r = 0
 ·rw [h0, mul_zero]
 ·have h1 := lead_ne h0
  have h2 : (C k * r).lead = k * r.lead := by rw [lead_mul (C_ne hk) h0, lead_C hk]
  unfold monic
  rw [h2, ← mul_assoc, ← C_mul]
  congr 2
  grind
theorem C_unit {k : Rat} (hk : k ≠ 0) : C k * C (1 / k) = 1 := C_inv hk
structure GcdI (l m p q pa pb : List Rat) (A H : Nat) : Prop where
 ep : p = (mk' pa).monic.l
 eq : q = (mk' pb).monic.l
 nb : Nrm pb
 wa : WhL pa A
 wb : WhL pb A
 pt : (A + 1) * (A + 1) * 3 ^ pot pa.length pb.length ≤ H * H
 s : Same (mk' l) (mk' m) (mk' pa) (mk' pb)
theorem GcdI.begin {H : Nat} (hA : WhL (prim l) A) (hB : WhL (prim m) A) (hH : (A + 1) * (A + 1) * 3 ^ pot (trimQ l).length (trimQ m).length ≤ H * H) :
  GcdI l m (mk' l).monic.l (mk' m).monic.l (prim l) (prim m) A H := by
 have e : ∀ l, (mk' l).monic.l = (mk' (prim l)).monic.l := fun l => by
  obtain ⟨k, hk, e⟩ := prim_mk' l
  rw [e, monic_Cmul hk]
 exact ⟨e l, e m, prim_nrm m, hA, hB, by rw [prim_len, prim_len]; exact hH, prim_same l m⟩
theorem monic_nz {r : Pol} (h : r ≠ 0) : ∃ k : Rat, k ≠ 0 ∧ r.monic = C k * r := by
 have h1 := lead_ne h
 exact ⟨1 / r.lead, by intro k; have : (1 : Rat) = (1 / r.lead) * r.lead := by grind
                       rw [k] at this; grind, rfl⟩
theorem GcdI.step {pa pb : List Rat} {H : Nat} {u r : Pol} (h : GcdI l m p q pa pb A H) (hq : 0 < q.length) (e : mk' p = u * mk' q + r) (hr : r.len < (mk' q).len) :
  ∃ pc A', GcdI l m q r.monic.l pb pc A' H := by
 have hb0 : mk' pb ≠ 0 := by
  intro e0
  rw [h.eq, e0, monic_zero, zero_l] at hq
  simp at hq
 have hpb : 0 < pb.length := by
  cases hp : pb with
  | nil => exact absurd (by rw [hp]; rfl) hb0
  | cons x y => simp
 obtain ⟨s, t, f, hD, hW⟩ := div_exists h.wa h.wb h.nb hpb
 obtain ⟨β, hβ, eβ⟩ := monic_nz hb0
 have hpol := hD.pol
 have h2 : (prim t).length < pb.length := by rw [prim_len]; exact Nat.lt_of_le_of_lt (zzh t) hD.lt
 have h3 : (prim t).length ≤ pa.length := by rw [prim_len]; exact Nat.le_trans (zzh t) hD.tl
 refine ⟨prim t, A + (pa.length - pb.length + 1) * (A + 1), h.eq, ?_, prim_nrm t, h.wb.more xq, prim_of_wh hW, pot_step h.pt h2 h3, same_step h.s hD⟩
 have hf := C_unit hD.f0
 have hmq : mk' q = C β * mk' pb := by rw [h.eq, mk_l, eβ]
 have hCβ := C_unit hβ
 obtain ⟨α, hα, eα⟩ : ∃ α : Rat, α ≠ 0 ∧ mk' p = C α * mk' pa := by
  rw [h.ep, mk_l]
  by_cases h0 : mk' pa = 0
  ·exact ⟨1, by decide, by rw [h0, monic_zero, mul_zero]⟩
  ·obtain ⟨k, hk, e⟩ := monic_nz h0
   exact ⟨k, hk, e⟩
 have e2 : u * mk' q + r = (C (1 / f) * C α * mk' s * C (1 / β)) * mk' q + C (1 / f * α) * mk' t := by
  rw [← e, eα, hmq, C_mul]; grind
 have hκ : 1 / f * α ≠ 0 := by
  have := hD.f0
  intro k
  have h7 : α = f * (1 / f * α) := by grind
  rw [k] at h7; grind
 have hlt : (C (1 / f * α) * mk' t).len < (mk' q).len := by
  rw [len_Cmul hκ, hmq, len_Cmul hβ, mk_len_nrm h.nb]
  exact Nat.lt_of_le_of_lt (mk_len t) hD.lt
 have h5 := div_unique e2 hr hlt
 obtain ⟨k, hk, e3⟩ := prim_mk' t
 rw [h5.2, monic_Cmul hκ, e3, monic_Cmul hk]
theorem GcdI.done {pa pb : List Rat} {H : Nat} (h : GcdI l m p q pa pb A H) (hq : q.length = 0) : IsGcd (mk' l) (mk' m) (mk' p) ∧ (∃ k : Rat, k ≠ 0 ∧ ∀ i, co p i = k * co pa i) ∧ WhL pa H := by
 have hb0 : mk' pb = 0 := by
  apply Classical.byContradiction
  intro k
  have h1 := monic_lead k
  have h2 : (mk' pb).monic ≠ 0 := by intro e; rw [e] at h1; unfold lead at h1; rw [c_zero] at h1; exact absurd h1 yq
  have h3 := len_pos h2
  rw [h.eq] at hq
  unfold len at h3
  omega
 have hs := h.s
 rw [hb0] at hs
 refine ⟨by rw [h.ep, mk_l]; exact hs.gcd, by rw [h.ep]; exact monic_scaled pa, h.wa.more ?_⟩
 have := pot_le h.pt; omega
theorem GcdI.le {pa pb : List Rat} {H : Nat} (h : GcdI l m p q pa pb A H) : A ≤ H := by have := pot_le h.pt; omega
theorem GcdI.steps {pa pb : List Rat} {H : Nat} (h : GcdI l m p q pa pb A H) (hq : 0 < q.length) : A + ((trimQ p).length - (trimQ q).length + 1) * (A + 1) ≤ H := by
 have h1 := pot_step h.pt (lr := 0)
 have hp : (trimQ p).length ≤ pa.length := by
  refine Nat.le_trans (zzh p) ?_
  rw [h.ep]
  refine Nat.le_trans (?_ : (mk' pa).monic.l.length ≤ (mk' pa).len) (mk_len pa)
  by_cases h0 : mk' pa = 0
  ·rw [h0, monic_zero]; exact Nat.le_refl _
  ·obtain ⟨k, hk, e⟩ := monic_nz h0
   rw [e]; exact Nat.le_of_eq (len_Cmul hk _)
 have hb0 : mk' pb ≠ 0 := by
  intro e0
  rw [h.eq, e0, monic_zero, zero_l] at hq
  simp at hq
 have hq2 : (trimQ q).length = pb.length := by
  rw [show trimQ q = q by rw [h.eq]; exact (mk' pb).monic.h, h.eq]
  obtain ⟨k, hk, e⟩ := monic_nz hb0
  rw [e]
  exact (len_Cmul hk (mk' pb)).trans (mk_len_nrm h.nb)
 have hpb : 0 < pb.length := by
  cases hp : pb with
  | nil => exact absurd (by rw [hp]; rfl) hb0
  | cons x y => simp
 have h2 := pot_le (h1 hpb (Nat.zero_le _))
 have h3 : ((trimQ p).length - (trimQ q).length + 1) * (A + 1) ≤ (pa.length - pb.length + 1) * (A + 1) := Nat.mul_le_mul_right _ xq
 omega
end
end Go.Proofs.YtifcjcecmoimjaaGreat.Nt
namespace Go.Proofs.YtifcjcecmoimjaaGreat.Nt
open Go.RowKit
open Pol
set_option linter.unusedVariables false
def lin (r : Rat) : Pol := mk' [-r, ((1 : Int) : Rat)]
def Cop (a b : Pol) : Prop := ∃ u v, u * a + v * b = 1
theorem Cop.symm {a b : Pol} (h : Cop a b) : Cop b a := by obtain ⟨u, v, e⟩ := h; exact ⟨v, u, by grind⟩
theorem Cop.mul {a b c : Pol} (h : Cop a c) (k : Cop b c) : Cop (a * b) c := by
 obtain ⟨u, v, e⟩ := h
 obtain ⟨u', v', e'⟩ := k
 refine ⟨u * u', u * a * v' + v * u' * b + v * v' * c, ?_⟩
 have : (u * a + v * c) * (u' * b + v' * c) = 1 := by rw [e, e', one_mul]
 grind
theorem Cop.mulR {a b c : Pol} (h : Cop c a) (k : Cop c b) : Cop c (a * b) := (h.symm.mul k.symm).symm
theorem Cop.add {a b : Pol} (h : Cop a b) (k : Pol) : Cop a (b + k * a) := by
 obtain ⟨u, v, e⟩ := h
 exact ⟨u - v * k, v, by grind⟩
theorem Cop.one (b : Pol) : Cop 1 b := ⟨1, 0, by grind⟩
def prA : List (Rat × Nat) → Pol
 | [] => 1
 | f :: fs => prA fs * npow (lin f.1) f.2
structure QOK (Q : Pol) (rs : List Rat) : Prop where
 ne : Q ≠ 0
 d : Cop Q Q.D
 r : ∀ r ∈ rs, Q.ev r ≠ 0
structure MadeF (P : Pol) (rs : List Rat) : Prop where
 nd : rs.Nodup
 wh : ∀ r ∈ rs, Wh (r * (((12 : Nat) : Int) : Rat)) 4
 ex : ∃ (c : Rat) (fs : List (Rat × Nat)), c ≠ 0 ∧ (∀ f ∈ fs, 1 ≤ f.2) ∧ fs.map (·.1) = rs.reverse ∧ P = C c * prA fs
theorem MadeF.begin (z : Nat) : MadeF (mk' [(((1 + z : Nat) : Int) : Rat)]) [] :=
 ⟨List.nodup_nil, (fun r hr => by cases hr), _, [], dz (show 0 < 1 + z by omega), (fun f hf => by cases hf), rfl, (mul_one _).symm⟩
theorem MadeF.neg {l : List Rat} (h : MadeF (mk' l) []) : MadeF (mk' (trimQ (l.map (· * (((-1) : Int) : Rat))))) [] := by
 obtain ⟨h1, h2, c, fs, h3, h4, h5, h6⟩ := h
 refine ⟨h1, h2, (((-1) : Int) : Rat) * c, fs, ?_, h4, h5, ?_⟩
 ·intro e
  rcases Rat.mul_eq_zero.1 e with e | e
  ·exact absurd e (by decide +kernel)
  ·exact h3 e
 ·rw [mk_trim, mk_map, h6, C_mul]; grind
theorem MadeF.step {P : Pol} {rs : List Rat} {r : Rat} {k : Nat} (h : MadeF P rs) (hr : r ∉ rs) (hk : 1 ≤ k) (hw : Wh (r * (((12 : Nat) : Int) : Rat)) 4) : MadeF (P * npow (lin r) k) (rs ++ [r]) := by
 obtain ⟨h1, h2, c, fs, h3, h4, h5, h6⟩ := h
 refine ⟨?_, ?_, c, (r, k) :: fs, h3, ?_, ?_, ?_⟩
 ·rw [List.nodup_append]
  refine ⟨h1, by simp, fun a ha b hb e => ?_⟩
  rw [List.mem_singleton.1 hb] at e
  exact hr (e ▸ ha)
 ·intro y hy
  rcases List.mem_append.1 hy with hy | hy
  ·exact h2 y hy
  ·rw [List.mem_singleton.1 hy]; exact hw
 ·intro f hf
  rcases List.mem_cons.1 hf with rfl | hf
  ·exact hk
  ·exact h4 f hf
 ·rw [List.map_cons, h5, List.reverse_append]; rfl
 ·show _ = C c * (prA fs * npow (lin r) k)
  rw [h6]; grind
end Go.Proofs.YtifcjcecmoimjaaGreat.Nt
namespace Go.Proofs.YtifcjcecmoimjaaGreat
set_option linter.unusedVariables false
namespace Nt
section
variable {a1 a2 b1 b2 c1 c2 d1 d2 : Rat}
def hl (a b c d : Rat) : Rat := lo (lo a b) (lo c d)
def hh (a b c d : Rat) : Rat := hi (hi a b) (hi c d)
end
end Nt
end Go.Proofs.YtifcjcecmoimjaaGreat
namespace Go.Proofs.YtifcjcecmoimjaaGreat.Nt
open Go.RowKit
open Pol
set_option linter.unusedVariables false
section
variable {l : List Rat} {x a b c : Rat} {i n D A B K : Nat} {q : Pol}
theorem evL_trim (l : List Rat) (x : Rat) : evL (trimQ l) x = evL l x := evL_congr (trim_co l) x
end
end Go.Proofs.YtifcjcecmoimjaaGreat.Nt
namespace Go.Proofs.YtifcjcecmoimjaaGreat.Nt
open Go.RowKit
open Pol
set_option linter.unusedVariables false
section
variable {l m W : List Rat} {x q : Rat} {i A B C : Nat}
def hp (q : Rat) (i : Nat) : Rat := (((q.den ^ (i - 1) : Nat) : Int) : Rat)
def hs (W : List Rat) (q : Rat) (i : Nat) : Rat := hp q i * evL (W.drop (W.length - i)) q
theorem ev_mulL (l m : List Rat) (x : Rat) : evL (trimQ (mulQ l m)) x = evL l x * evL m x := by
 rw [evL_trim, ← mk_ev, mk_mul, ev_mul, mk_ev, mk_ev]
theorem Sm.mem {D : Nat} (h : Sm l D A) : ∀ y ∈ l, Wh (y * ((D : Int) : Rat)) A := fun y hy => by
 obtain ⟨j, hj, e⟩ := List.getElem_of_mem hy
 have h9 := h.2 j
 unfold Nt.co at h9
 rw [List.getD_eq_getElem?_getD, List.getElem?_eq_getElem hj, Option.getD_some, e] at h9
 exact h9
end
end Go.Proofs.YtifcjcecmoimjaaGreat.Nt
namespace Go.Proofs.YtifcjcecmoimjaaGreat.Nt
open Go.RowKit
open Pol
set_option linter.unusedVariables false
def AP (B A : List Rat) : Prop := ∀ z w : Rat, z * w = 1 → evL B z * evL B w = evL A z * evL A w
theorem AP.one : AP [((1 : Int) : Rat)] [((1 : Int) : Rat)] := fun z w _ => rfl
theorem AP.mul {B A B' A' : List Rat} (h : AP B A) (k : AP B' A') : AP (trimQ (mulQ B B')) (trimQ (mulQ A A')) := fun z w e => by
 rw [ev_mulL, ev_mulL, ev_mulL, ev_mulL]
 have h1 := h z w e
 have h2 := k z w e
 grind
theorem AP.trim {B A : List Rat} (h : AP B A) : AP (trimQ B) (trimQ A) := fun z w e => by rw [evL_trim, evL_trim, evL_trim, evL_trim]; exact h z w e
end Go.Proofs.YtifcjcecmoimjaaGreat.Nt
namespace Go.Proofs.YtifcjcecmoimjaaGreat
open Go.RowKit
set_option linter.unusedVariables false
namespace Nt
def wq (z f : Int) : Rat := ((z : Int) : Rat) / ((p2i f : Int) : Rat)
end Nt
end Go.Proofs.YtifcjcecmoimjaaGreat
namespace Go.Proofs.YtifcjcecmoimjaaGreat
open Go.RowKit Go.ChangeShapes Go.WideShapes
set_option linter.unusedVariables false
theorem wrap64_ex (n : Int) : ∃ z, IntKind.i64.wrap n = z ∧ -9223372036854775808 ≤ z ∧ z ≤ 9223372036854775807 := ⟨_, rfl, by rw [IntKind.wrap_i64]; omega⟩
section
variable {u : World} {k : IntKind} {A A' : Option Addr} {n c m : Nat} {l : List Int}
end
theorem int_one (z : Int) : ∀ v ∈ [Value.int .i64 z], v.oneCell' = true := fun v hv => by
 rcases List.mem_cons.1 hv with rfl | hv
 ·rfl
 ·cases hv
section
variable {H : Type} {enc : TypeId × Value → H} {w : World} {base : Nat} {spare : Nat → Bool} {held : Bool} {r0 : Reach} {b0 : Nat} {v : Value} {d : DataW H} {p : List MemPlace}
end
end Go.Proofs.YtifcjcecmoimjaaGreat
namespace Go.Proofs.YtifcjcecmoimjaaGreat
open Go.RowKit
set_option linter.unusedVariables false
section
variable {P : Program} {ops : Array Oper} {w0 : Base} {u0 : World} {S : St} {u : World} {o : Oper} {p : List Tmp} {seq : Bool} {rest : List (Oper × List Tmp)} {K : St → World → Prop}
end
section
variable {P : Program} {ops : Array Oper} {w0 : Base} {u0 : World} {S : St} {u : World}
def exitsK (P : Program) (ops : Array Oper) (w0 : Base) (u0 : World) (K : List (Nat × List Tmp) → St → World → Prop) : List (Nat × List Tmp) → St → World → Prop
 | [], S, u => K [] S u
 | p :: F, S, u => K (p :: F) S u ∧ sym P ops w0 u0 false [opAt ops p] S u (exitsK P ops w0 u0 K F)
theorem zwq {K : List (Nat × List Tmp) → St → World → Prop} (hK : ∀ F, Mono (K F)) : ∀ F, Mono (exitsK P ops w0 u0 K F)
 | [] => hK []
 | p :: F => fun S u u' e h => ⟨hK _ S u u' e h.1, zwe (zwq hK F) S u u' e h.2⟩
theorem exitsK_now {K : List (Nat × List Tmp) → St → World → Prop} {F : List (Nat × List Tmp)} (h : exitsK P ops w0 u0 K F S u) : K F S u := by
 cases F with
 | nil => exact h
 | cons p F => exact h.1
theorem sym_app {K : St → World → Prop} (hK : Mono K) {seq : Bool} : ∀ (l1 l2 : List (Oper × List Tmp)) (S : St) (u : World), sym P ops w0 u0 seq l1 S u (fun S u => sym P ops w0 u0 seq l2 S u K) → sym P ops w0 u0 seq (l1 ++ l2) S u K
 | [], l2, S, u, h => h
 | e :: l1, l2, S, u, h => one_mono (w0 := w0) (u0 := u0) (fun S u h => sym_app hK l1 l2 S u h) (zwe (zwe hK)) (Ext.refl u) h
theorem sym_mono_k {K K' : St → World → Prop} {seq : Bool} : ∀ {l : List (Oper × List Tmp)} {S : St} {u : World}, (∀ S u, K S u → K' S u) → Mono K → sym P ops w0 u0 seq l S u K → sym P ops w0 u0 seq l S u K'
 | [], S, u, hk, _, h => hk S u h
 | e :: l, S, u, hk, hm, h => one_mono (w0 := w0) (u0 := u0) (fun S u h => sym_mono_k hk hm h) (zwe hm) (Ext.refl u) h
def backB (ops : Array Oper) : List (Nat × List Tmp) → Bool
 | [] => true
 | x :: l => l.all (fun y => !((ops.getD x.1 default).after.toList.any fun e => Region.binds .any e && e.on == y.1)) && backB ops l
theorem backB_spec : ∀ {l : List (Nat × List Tmp)}, backB ops l = true → l.Pairwise (fun x y => ((ops.getD x.1 default).after.toList.any fun e => Region.binds .any e && e.on == y.1) = false)
 | [], _ => List.Pairwise.nil
 | x :: l, h => by
  simp only [backB, Bool.and_eq_true] at h
  exact List.Pairwise.cons (fun y hy => by have := List.all_eq_true.1 h.1 y hy; simpa using this) (backB_spec h.2)
structure LeftX (ops : Array Oper) (M : List Nat) (L : List (Nat × List Tmp)) (listed : Array Bool) : Prop where
 nodup : (L.map (·.1)).Nodup
 back : L.Pairwise (fun x y => ((ops.getD x.1 default).after.toList.any fun e => Region.binds .any e && e.on == y.1) = false)
 size : listed.size = ops.size
 mem : ∀ i, i < ops.size → (listed.getD i true = false ↔ i ∈ L.map (·.1))
 lt : ∀ x ∈ L, x.1 < ops.size ∧ ∀ e ∈ (ops.getD x.1 default).after, Region.binds .any e = true → e.on ≠ x.1 ∧ e.on < ops.size
 mask : ∀ x ∈ L, M.getD x.1 0 = reachOf M (ops.getD x.1 default)
 closed : ∀ j, j < ops.size → j ∉ L.map (·.1) → ∀ x, (M.getD j 0).testBit x = true → x ∉ L.map (·.1)
theorem LeftX.ready_mem {M : List Nat} {L : List (Nat × List Tmp)} {listed : Array Bool} (h : LeftX ops M L listed) {i : Nat} (hi : i ∈ Region.ready .any ops listed) : i < ops.size ∧ i ∈ L.map (·.1) ∧ ∀ e ∈ (ops.getD i default).after, Region.binds .any e = true → e.on ∉ L.map (·.1) := by
 obtain ⟨h0, o, ho, hall⟩ := mem_ready.1 hi
 have hlt : i < ops.size := (Array.getElem?_eq_some_iff.1 ho).1
 have hm := (h.mem i hlt).1 h0
 refine ⟨hlt, hm, fun e he hb => ?_⟩
 rw [get_op hlt] at ho
 injection ho with ho
 obtain ⟨x, hx, hxi⟩ := List.mem_map.1 hm
 have hl := ((h.lt x hx).2 e (by rw [hxi]; exact he) hb).2
 have := hall e (by rw [← ho]; exact he) hb
 rw [listed_iff (by rw [h.size]; exact hl), h.mem e.on hl] at this
 exact this
theorem LeftX.head_ready {M : List Nat} {x : Nat × List Tmp} {L : List (Nat × List Tmp)} {listed : Array Bool} (h : LeftX ops M (x :: L) listed) : x.1 ∈ Region.ready .any ops listed := by
 obtain ⟨h1, h2⟩ := h.lt x (List.mem_cons_self ..)
 refine mem_ready.2 ⟨(h.mem x.1 h1).2 yy, _, get_op h1, fun e he hb => ?_⟩
 obtain ⟨h3, h4⟩ := h2 e he hb
 rw [listed_iff (by rw [h.size]; exact h4), h.mem e.on h4]
 intro hm
 obtain ⟨y, hy, hye⟩ := List.mem_map.1 hm
 rcases List.mem_cons.1 hy with rfl | hy
 ·exact h3 hye.symm
 ·have := (List.pairwise_cons.1 h.back).1 y hy
  have h5 : ((ops.getD x.1 default).after.toList.any fun e => Region.binds .any e && e.on == y.1) = true := List.any_eq_true.2 ⟨e, by simpa using he, by simp [hb, hye]⟩
  rw [h5] at this; cases this
theorem LeftX.out {M : List Nat} {L : List (Nat × List Tmp)} {listed : Array Bool} (h : LeftX ops M L listed) {x : Nat × List Tmp} (hx : x ∈ L) (hout : ∀ e ∈ (ops.getD x.1 default).after, Region.binds .any e = true → e.on ∉ L.map (·.1)) :
  ∀ j, (M.getD x.1 0).testBit j = true → j ∉ L.map (·.1) := by
 intro j hj
 rw [h.mask x hx] at hj
 rcases foldl_bit M j _ _ hj with h0 | ⟨e, he, hb, h1⟩
 ·simp at h0
 ·have he' : e ∈ (ops.getD x.1 default).after := by simpa using he
  have hn := hout e he' hb
  rcases h1 with rfl | h1
  ·exact hn
  ·exact h.closed e.on ((h.lt x hx).2 e he' hb).2 hn j h1
theorem LeftX.step {M : List Nat} {pre post : List (Nat × List Tmp)} {y : Nat × List Tmp} {listed : Array Bool} (hL : LeftX ops M (pre ++ y :: post) listed) (hro : ∀ j, (M.getD y.1 0).testBit j = true → j ∉ (pre ++ y :: post).map (·.1)) : LeftX ops M (pre ++ post) (listed.setIfInBounds y.1 true) := by
 have hsub : (pre ++ post).Sublist (pre ++ y :: post) := List.Sublist.append_left (List.sublist_cons_self _ _) _
 have hyn : y.1 ∉ (pre ++ post).map (·.1) := by
  have := hL.nodup
  rw [List.map_append, List.map_cons] at this
  have h2 := List.nodup_append.1 this
  have h3 := (List.nodup_cons.1 h2.2.1).1
  intro hm
  rw [List.map_append] at hm
  rcases List.mem_append.1 hm with hm | hm
  ·exact h2.2.2 y.1 hm y.1 (List.mem_cons_self ..) rfl
  ·exact h3 hm
 have hmem : ∀ j, j ≠ y.1 → (j ∈ (pre ++ post).map (·.1) ↔ j ∈ (pre ++ y :: post).map (·.1)) := fun j hj => by simp [hj]
 refine ⟨hL.nodup.sublist (hsub.map _), hL.back.sublist hsub, by simp [hL.size], fun j hj => ?_, fun x hx => hL.lt x (hsub.mem hx), fun x hx => hL.mask x (hsub.mem hx), fun j hj hjn x hx => ?_⟩
 ·by_cases e : j = y.1
  ·subst e
   constructor
   ·intro h
    simp [hL.size, hj] at h
   ·intro h; exact absurd h hyn
  ·rw [getD_set_ne true (Ne.symm e), hmem j e]
   exact hL.mem j hj
 ·intro hmx
  by_cases e : j = y.1
  ·subst e; exact hro x hx ((hsub.map _).mem hmx)
  ·exact hL.closed j hj (fun h => hjn ((hmem j e).2 h)) x hx ((hsub.map _).mem hmx)
theorem chainB_pair {M : List Nat} : ∀ {L : List (Nat × List Tmp)}, chainB M L = true → L.Pairwise (fun x y => (M.getD y.1 0).testBit x.1 = true)
 | [], _ => List.Pairwise.nil
 | x :: l, h => by
  simp only [chainB, Bool.and_eq_true, List.all_eq_true] at h
  exact List.Pairwise.cons h.1 (chainB_pair h.2)
theorem LeftX.toLeft {M : List Nat} {L : List (Nat × List Tmp)} {listed : Array Bool} (h : LeftX ops M L listed) (hc : chainB M L = true) : Left ops M L listed :=
 ⟨h.nodup, List.Pairwise.imp₂ (fun x y (h1 : (M.getD y.1 0).testBit x.1 = true) h2 => by simp only [pairOk, Bool.and_eq_true, Bool.or_eq_true, Bool.not_eq_true']; exact ⟨.inl h1, h2⟩) (chainB_pair hc) h.back, h.size, h.mem, h.lt, h.mask, h.closed⟩
theorem any_symE {M : List Nat} {T : List (Nat × List Tmp)} {y : Nat × List Tmp} {K : List (Nat × List Tmp) → St → World → Prop} {Q : Exit → Act → World → Prop} (hK : ∀ F, Mono (K F))
  (hQ : ∀ F S u, K F S u → ∀ B a w, Rep w0 u0 S B a w u → wpList P ops Q ((y :: (F ++ T)).map fun x => ops.getD x.1 default) a w) (hyT : ∀ t ∈ T, (M.getD t.1 0).testBit y.1 = true) :
  ∀ (fuel : Nat) (L F : List (Nat × List Tmp)) (listed : Array Bool) (S : St) (B : Tmp → Nat) (a : Act) (w u : World), L.length + F.length = fuel → chainB M (F ++ T) = true → (L ++ F).Pairwise (fun x y => pairOk ops M x y = true) → LeftX ops M (L ++ F ++ y :: T) listed → (∀ x ∈ L, (M.getD y.1 0).testBit x.1 = true) → (∀ x ∈ L ++ F, ∀ t ∈ T, (M.getD t.1 0).testBit x.1 = true) → Rep w0 u0 S B a w u →
   sym P ops w0 u0 false (L.map (opAt ops)) S u (exitsK P ops w0 u0 K F) → wpAny P .any ops Q (fuel + 1 + T.length) listed a w := by
 intro fuel
 induction fuel with
 | zero =>
  intro L F listed S B a w u hl hc hp hL hy hT hr hs
  obtain rfl := List.length_eq_zero_iff.1 (show L.length = 0 by omega)
  obtain rfl := List.length_eq_zero_iff.1 (show F.length = 0 by omega)
  have hcc : chainB M (y :: T) = true := by
   simp only [chainB, Bool.and_eq_true, List.all_eq_true]
   exact ⟨fun t ht => hyT t ht, by simpa using hc⟩
  rw [Nat.zero_add, Nat.add_comm]
  have h9 := hQ [] S u hs B a w hr
  exact any_chain (y :: T) listed a w ((show LeftX ops M (y :: T) listed from hL).toLeft hcc) hcc (by simpa using h9)
 | succ fuel ih =>
  intro L F listed S B a w u hl hc hp hL hy hT hr hs
  rw [show fuel + 1 + 1 + T.length = (fuel + 1 + T.length) + 1 by omega]
  refine ⟨fun e => ?_, fun i hi => ?_⟩
  ·cases hLF : L ++ F with
   | nil => have h8 := congrArg List.length hLF; rw [List.length_append] at h8; rw [h8] at hl; cases hl
   | cons x L' =>
    rw [hLF] at hL
    have := LeftX.head_ready (L := L' ++ y :: T) hL
    rw [e] at this
    cases this
  ·obtain ⟨hlt, hm, hout⟩ := hL.ready_mem hi
   obtain ⟨z, hz, rfl⟩ := List.mem_map.1 hm
   have hro := hL.out hz hout
   have key : ops[z.1]? = some (opAt ops z).1 := get_op hlt
   -- an operation of the first ones: what stands before it may stand behind it
   have front : ∀ (pre post F' : List (Nat × List Tmp)), L ++ F ++ y :: T = pre ++ z :: (post ++ F' ++ y :: T) → (pre ++ z :: post).Pairwise (fun x y => pairOk ops M x y = true) → (pre ++ post ++ F').Pairwise (fun x y => pairOk ops M x y = true) → pre.length + post.length + F'.length = fuel → chainB M (F' ++ T) = true → (∀ x ∈ pre ++ post, (M.getD y.1 0).testBit x.1 = true) → (∀ x ∈ pre ++ post ++ F', ∀ t ∈ T, (M.getD t.1 0).testBit x.1 = true) →
     sym P ops w0 u0 false ((pre ++ z :: post).map (opAt ops)) S u (exitsK P ops w0 u0 K F') → wpOp P ops Q z.1 (wpAny P .any ops Q (fuel + 1 + T.length) (listed.setIfInBounds z.1 true)) a w := by
    intro pre post F' he hp1 hp2 hfl hc' hy' hT' hs'
    have hsw : ∀ x ∈ pre.map (opAt ops), swapOk ops x (opAt ops z) = true := by
     intro x hx
     obtain ⟨x', hx', rfl⟩ := List.mem_map.1 hx
     have := (List.pairwise_append.1 hp1).2.2 x' hx' z (List.mem_cons_self ..)
     simp only [pairOk, Bool.and_eq_true, Bool.or_eq_true] at this
     rcases this.1 with h1 | h1
     ·exact absurd (List.mem_map.2 ⟨x', by rw [he]; simp [hx'], rfl⟩) (hro x'.1 h1)
     ·exact h1
    rw [List.map_append, List.map_cons] at hs'
    have hone := bubble (zwq hK F') (pre.map (opAt ops)) S u hr.wf hsw hs'
    have hsound := one_sound (Q := Q) (zwe (zwq hK F')) hone (Ext.refl _) hr
    rw [he] at hL hro
    have hL' := LeftX.step hL hro
    have hfin : ∀ a' w', (∃ S' B' u'', Rep w0 u0 S' B' a' w' u'' ∧ (false = false → Ext u u'') ∧ sym P ops w0 u0 false (pre.map (opAt ops) ++ post.map (opAt ops)) S' u'' (exitsK P ops w0 u0 K F')) → wpAny P .any ops Q (fuel + 1 + T.length) (listed.setIfInBounds z.1 true) a' w' := by
     rintro a' w' ⟨S', B', u'', g1, _, g3⟩
     refine ih (pre ++ post) F' _ S' B' a' w' u'' (by rw [List.length_append]; exact hfl) hc' hp2 ?_ hy' hT' g1 ?_
     ·simpa [List.append_assoc] using hL'
     ·rw [List.map_append]; exact g3
    simp only [wpOp, key]
    split
    ·rename_i hw
     rw [if_pos hw] at hsound
     exact .inl (Oper.wp_mono hfin hsound)
    ·rename_i hw
     rw [if_neg hw] at hsound
     exact hfin _ _ hsound
   rcases List.mem_append.1 hz with hz1 | hz1
   ·rcases List.mem_append.1 hz1 with hzL | hzF
    ·obtain ⟨pre, post, rfl⟩ := List.append_of_mem hzL
     refine front pre post F (by simp [List.append_assoc]) (List.pairwise_append.1 hp).1 ?_ (by simp at hl ⊢; omega) hc (fun x hx => hy x (by simp at hx ⊢; rcases hx with h | h <;> simp [h])) (fun x hx => hT x (by simp at hx ⊢; rcases hx with h | h | h <;> simp [h])) hs
     refine hp.sublist ?_
     rw [List.append_assoc, List.append_assoc, List.cons_append]
     exact List.Sublist.append_left (List.sublist_cons_self _ _) _
    ·cases F with
     | nil => cases hzF
     | cons p F =>
      have hzp : z = p := by
       rcases List.mem_cons.1 hzF with h | h
       ·exact h
       ·rw [List.cons_append] at hc
        simp only [chainB, Bool.and_eq_true, List.all_eq_true] at hc
        exact absurd (List.mem_map.2 ⟨p, by simp, rfl⟩) (hro p.1 (hc.1 z (List.mem_append_left _ h)))
      subst hzp
      have hs2 : sym P ops w0 u0 false ((L ++ [z]).map (opAt ops)) S u (exitsK P ops w0 u0 K F) := by
       rw [List.map_append]
       exact sym_app (zwq hK F) _ _ S u (sym_mono_k (fun S u h => h.2) (zwq hK (z :: F)) hs)
      refine front L [] F (by simp [List.append_assoc]) ?_ ?_ (by simp at hl ⊢; omega) ?_ (fun x hx => hy x (by simpa using hx)) (fun x hx => hT x (by simp at hx ⊢; rcases hx with h | h <;> simp [h])) (by simpa using hs2)
      ·refine hp.sublist ?_
       exact List.Sublist.append_left yy _
      ·refine hp.sublist ?_
       rw [List.append_nil]
       exact List.Sublist.append_left (List.sublist_cons_self _ _) _
      ·rw [List.cons_append] at hc
       simp only [chainB, Bool.and_eq_true] at hc
       exact hc.2
   ·rcases List.mem_cons.1 hz1 with rfl | hzT
    ·have hL0 : L = [] := by
      cases L with
      | nil => rfl
      | cons x L => exact absurd (List.mem_map.2 ⟨x, by simp, rfl⟩) (hro x.1 (hy x (List.mem_cons_self ..)))
     subst hL0
     have h9 := hQ F S u (exitsK_now hs) B a w hr
     rw [List.nil_append] at hL hro
     have hL' := LeftX.step hL hro
     have hch : ∀ a' w', wpList P ops Q ((F ++ T).map fun x => ops.getD x.1 default) a' w' → wpAny P .any ops Q (fuel + 1 + T.length) (listed.setIfInBounds z.1 true) a' w' := fun a' w' h => by
      have := any_chain (F ++ T) (listed.setIfInBounds z.1 true) a' w' (hL'.toLeft hc) hc h
      rw [List.length_append] at this
      rw [show fuel + 1 + T.length = F.length + T.length from by have h8 : F.length = fuel + 1 := (by simpa using hl); omega]
      exact this
     rw [List.map_cons] at h9
     unfold wpList at h9
     have h9 : if Region.wanted (opAt ops z).1 (yielded ops a.tmps) = true then (opAt ops z).1.wp P a w (wpList P ops Q ((F ++ T).map fun x => ops.getD x.1 default)) Q ∨ ((opAt ops z).1.asks P a w ∧ LetsOut Q) else wpList P ops Q ((F ++ T).map fun x => ops.getD x.1 default) (a.put (opAt ops z).1.dst undef) w := h9
     simp only [wpOp, key]
     split
     ·rename_i hw
      rw [if_pos hw] at h9
      exact h9.imp (Oper.wp_mono fun a w h => hch a w h) id
     ·rename_i hw
      rw [if_neg hw] at h9
      exact hch _ _ h9
    ·exact absurd (List.mem_map.2 ⟨y, by simp, rfl⟩) (hro y.1 (hyT z hzT))
end
section
variable {P : Program} {ops : Array Oper} {w0 : Base} {u0 : World} {S : St} {u : World}
theorem exitsK_both {K : List (Nat × List Tmp) → St → World → Prop} {p : Nat × List Tmp} {F : List (Nat × List Tmp)} (h1 : K (p :: F) S u) (h2 : sym P ops w0 u0 false [opAt ops p] S u (exitsK P ops w0 u0 K F)) : exitsK P ops w0 u0 K (p :: F) S u := ⟨h1, h2⟩
theorem exitsK_last {K : List (Nat × List Tmp) → St → World → Prop} (h1 : K [] S u) : exitsK P ops w0 u0 K [] S u := h1
theorem sw_join {A : Type} {r c : Code} {Q : MP} (T : A → St) (Φ : A → World → Prop) (h1 : ∀ a u1, Ext u u1 → Φ a u1 → SW P w0 u0 c (T a) u1 Q) (h2 : (∀ a u1, Ext u u1 → Φ a u1 → SW P w0 u0 c (T a) u1 Q) → SW P w0 u0 r S u (MP.seq P w0 u0 c Q)) : SW P w0 u0 r S u (MP.seq P w0 u0 c Q) := h2 h1
end
def AnyX (P : Program) (w0 : Base) (u0 : World) (ops : Array Oper) (listed : Array Bool) (n : Nat) (S : St) (u : World) (Q : MP) : Prop :=
 ∀ B a w u', Ext u u' → Rep w0 u0 S B a w u' → wpAny P .any ops (fun e a' w' => ∃ S' B' u'', Rep w0 u0 S' B' a' w' u'' ∧ Q.f e S' u'') n listed a w
section
variable {P : Program} {ops : Array Oper} {w0 : Base} {u0 : World} {S : St} {u : World} {Q : MP} {listed : Array Bool}
theorem sw_anyX {id : Nat} (hm : P.follows .mixedOrders = true) (n : Nat) (hn : ops.size = n) (h : AnyX P w0 u0 ops (Array.replicate n false) n S u Q) : SW P w0 u0 (.region id ops true) S u Q := by
 subst hn
 intro B a w u' e hr
 exact wp_region_any hm (h B a _ u' e hr.drew)
theorem takeX (i d n : Nat) (x : SV) (listed' : Array Bool) (k : AnyX P w0 u0 ops listed' n (S.set d x) u Q) (hp : ∀ c S u, ¬ Q.f (.panic c) S u := by intro c S u h; exact h) (hl : listed.setIfInBounds i true = listed' := by kernel_rfl)
  (hs : (Region.noSelect ops && Region.free .any ops listed i && (Region.ready .any ops listed).contains i && Nat.blt i ops.size && (ops.getD i default).dst == some d && (ops.getD i default).guard.isNone && x.at?.isNone && freeB S d && knownB S (ops.getD i default)) = true := by kernel_rfl) (hk : opK (ops.getD i default).op ≠ 2 := by decide)
  (hrun : ∀ B w, (execOp (rho S B) (ops.getD i default)).run P w = .ok (.value (x.conc B)) w := by intro _ _; kernel_rfl) : AnyX P w0 u0 ops listed (n + 1) S u Q := by
 intro B a w u' e hr
 simp only [Bool.and_eq_true, beq_iff_eq, Option.isNone_iff_eq_none] at hs
 obtain ⟨⟨⟨⟨⟨⟨⟨⟨h1, h2⟩, h3⟩, h4⟩, h5⟩, h6⟩, h7⟩, h8⟩, h9⟩ := hs
 have hi : ops[i]? = some (ops.getD i default) := get_op (Nat.le_of_ble_eq_true h4)
 subst hl
 refine wpAny_take (v := x.conc B) hi h1 h2 h3 (fun c a w h => ?_) (.inl ⟨zwh (S := S) h6 B a hr.regs, fun w => by rw [exec_rho hr.regs h9 hk]; exact hrun B w⟩) ?_
 ·obtain ⟨S', B', u'', _, g⟩ := h
  exact absurd g (hp c S' u'')
 ·refine k B _ w u' e ?_
  rw [h5]
  exact hr.set (d := some d) (x := some x) (v := x.conc B) (fun s hs => (zxz h5 h8 s (by rw [h5]; exact hs)).1) (fun z e => by injection e with e; rw [← e]) (fun z t e ht => by injection e with e; rw [← e, h7] at ht; cases ht)
theorem takeXe (i d n : Nat) {x : SV} (y : SV) (hxy : x = y) (listed' : Array Bool) (k : AnyX P w0 u0 ops listed' n (S.set d y) u Q) (hp : ∀ c S u, ¬ Q.f (.panic c) S u := by intro c S u h; exact h) (hl : listed.setIfInBounds i true = listed' := by kernel_rfl)
  (hs : (Region.noSelect ops && Region.free .any ops listed i && (Region.ready .any ops listed).contains i && Nat.blt i ops.size && (ops.getD i default).dst == some d && (ops.getD i default).guard.isNone && x.at?.isNone && freeB S d && knownB S (ops.getD i default)) = true := by kernel_rfl) (hk : opK (ops.getD i default).op ≠ 2 := by decide)
  (hrun : ∀ B w, (execOp (rho S B) (ops.getD i default)).run P w = .ok (.value (x.conc B)) w := by intro _ _; kernel_rfl) : AnyX P w0 u0 ops listed (n + 1) S u Q := by
 subst hxy; exact takeX i d n x listed' k hp hl hs hk hrun
def leftB (ops : Array Oper) (M : List Nat) (L : List (Nat × List Tmp)) (listed : Array Bool) : Bool :=
 nodupB (L.map (·.1)) && backB ops L && listed.size == ops.size && (List.range ops.size).all (fun i => (listed.getD i true == false) == (L.map (·.1)).contains i) &&
  L.all (fun x => Nat.blt x.1 ops.size && !((ops.getD x.1 default).after.toList.any fun e => Region.binds .any e && (e.on == x.1 || Nat.ble ops.size e.on)) && (M.getD x.1 0 == reachOf M (ops.getD x.1 default))) &&
  (List.range ops.size).all (fun j => (L.map (·.1)).contains j || (L.map (·.1)).all fun x => !(M.getD j 0).testBit x)
theorem leftB_spec {M : List Nat} {L : List (Nat × List Tmp)} (h : leftB ops M L listed = true) : LeftX ops M L listed := by
 simp only [leftB, Bool.and_eq_true, beq_iff_eq, List.all_eq_true, List.mem_range] at h
 obtain ⟨⟨⟨⟨⟨h1, h2⟩, h3⟩, h4⟩, h5⟩, h6⟩ := h
 refine ⟨nodupB_spec h1, backB_spec h2, h3, fun i hi => ?_, fun x hx => ?_, fun x hx => (h5 x hx).2, fun j hj hjn x hx hm => ?_⟩
 ·have := h4 i hi
  constructor
  ·intro h
   rw [h] at this
   exact List.contains_iff_mem.1 (by simpa using this.symm)
  ·intro h
   rw [List.contains_iff_mem.2 h] at this
   simpa using this
 ·obtain ⟨⟨k1, k2⟩, _⟩ := h5 x hx
  refine ⟨Nat.le_of_ble_eq_true k1, fun e he hb => ?_⟩
  simp only [Bool.not_eq_true', List.any_eq_false] at k2
  have := k2 e (by simpa using he)
  simp [hb] at this
  exact this
 ·have := h6 j hj
  rw [Bool.or_eq_true] at this
  rcases this with h9 | h9
  ·exact hjn (List.contains_iff_mem.1 h9)
  ·have := List.all_eq_true.1 h9 x hm
   rw [hx] at this; cases this
theorem restX (M : List Nat) (L F : List (Nat × List Tmp)) (y : Nat × List Tmp) (T : List (Nat × List Tmp)) {n : Nat}
  (hok : (leftB ops M (L ++ F ++ y :: T) listed && pairsOk ops M (L ++ F) && chainB M (F ++ T) && L.all (fun x => (M.getD y.1 0).testBit x.1) && (L ++ F).all (fun x => T.all fun t => (M.getD t.1 0).testBit x.1) && T.all (fun t => (M.getD t.1 0).testBit y.1) && Nat.beq n ((L.length + F.length) + 1 + T.length)) = true)
  (h : sym P ops w0 u0 false (L.map (opAt ops)) S u (exitsK P ops w0 u0 (fun F S' u' => sym P ops w0 u0 true ((y :: (F ++ T)).map fun x => (ops.getD x.1 default, [])) S' u' (Q.f .normal)) F)) : AnyX P w0 u0 ops listed n S u Q := by
 intro B a w u' e hr
 simp only [Bool.and_eq_true, List.all_eq_true] at hok
 obtain ⟨⟨⟨⟨⟨⟨g0, g1⟩, g2⟩, g3⟩, g4⟩, g5⟩, g6⟩ := hok
 have hK : ∀ F, Mono (fun S' u' => sym P ops w0 u0 true ((y :: (F ++ T)).map fun x => (ops.getD x.1 default, ([] : List Tmp))) S' u' (Q.f .normal)) := fun F => zwe (Q.mono _)
 rw [Nat.eq_of_beq_eq_true g6]
 refine any_symE hK (fun F S u'' h B a w hr => ?_) g5 (L.length + F.length) L F _ S B a _ u' rfl g2 (pairsOk_spec g1) (leftB_spec g0) g3 (fun x hx => g4 x hx) hr (zwe (zwq hK F) _ _ _ e h)
 have := sl_key (Q := fun e a' w' => ∃ S' B' u'', Rep w0 u0 S' B' a' w' u'' ∧ Q.f e S' u'') (K := Q.f .normal) (Q.mono _) [] (fun S u h B a w hr => by exact ⟨S, B, u, hr, h⟩) ((y :: (F ++ T)).map fun x => ops.getD x.1 default) S B a w u'' hr (by rw [List.map_map]; exact h)
 rw [List.append_nil] at this
 exact this
end
theorem PasV.news {u : World} {x : Sl} {L : List PL} (h : PasV u x L) (hL : 0 < L.length) : ∃ b o, x.a = some ⟨b, o, none⟩ ∧ ∀ j v, (pcs L)[j]? = some v → u.cell? ⟨b, o + j, none⟩ = some v := by
 obtain ⟨h1, h2, h3, h4⟩ := h
 obtain ⟨b, o, e, hc⟩ := h4 (by rw [pcs_len] at h1; omega)
 exact ⟨b, o, e, fun j v hv => by rw [hc j (List.getElem?_eq_some_iff.1 hv).1]; exact hv⟩
end Go.Proofs.YtifcjcecmoimjaaGreat
namespace Go.Proofs.YtifcjcecmoimjaaGreat
set_option linter.unusedVariables false
open Go.RowKit
theorem ty2 : TyIs Tryz.prog 2 false 1 := fun w => ⟨by kernel_rfl, by kernel_rfl⟩
theorem ty3 : TyIs Tryz.prog 3 false 1 := fun w => ⟨by kernel_rfl, by kernel_rfl⟩
theorem ty4 : TyIs Tryz.prog 4 false 1 := fun w => ⟨by kernel_rfl, by kernel_rfl⟩
theorem ty29 : TyIs Tryz.prog 29 true 3 := fun w => ⟨by kernel_rfl, by kernel_rfl⟩
theorem ty30 : TyIs Tryz.prog 30 true 2 := fun w => ⟨by kernel_rfl, by kernel_rfl⟩
theorem ty32 : TyIs Tryz.prog 32 true 5 := fun w => ⟨by kernel_rfl, by kernel_rfl⟩
theorem ty34 : TyIs Tryz.prog 34 true 4 := fun w => ⟨by kernel_rfl, by kernel_rfl⟩
theorem ty40 : TyIs Tryz.prog 40 false 1 := fun w => ⟨by kernel_rfl, by kernel_rfl⟩
theorem ty42 : TyIs Tryz.prog 42 true 2 := fun w => ⟨by kernel_rfl, by kernel_rfl⟩
theorem ty70 : TyIs Tryz.prog 70 false 1 := fun w => ⟨by kernel_rfl, by kernel_rfl⟩
theorem ty72 : TyIs Tryz.prog 72 true 2 := fun w => ⟨by kernel_rfl, by kernel_rfl⟩
theorem ty74 : TyIs Tryz.prog 74 true 3 := fun w => ⟨by kernel_rfl, by kernel_rfl⟩
theorem ty108 : TyIs Tryz.prog 108 true 9 := fun w => ⟨by kernel_rfl, by kernel_rfl⟩
theorem ty159 : TyIs Tryz.prog 159 false 1 := fun w => ⟨by kernel_rfl, by kernel_rfl⟩
theorem ty171 : TyIs Tryz.prog 171 true 3 := fun w => ⟨by kernel_rfl, by kernel_rfl⟩
theorem ty173 : TyIs Tryz.prog 173 true 4 := fun w => ⟨by kernel_rfl, by kernel_rfl⟩
theorem sl22 : SlIs Tryz.prog 22 3 := ⟨29, true, by kernel_rfl, ty29⟩
theorem sl23 : SlIs Tryz.prog 23 2 := ⟨30, true, by kernel_rfl, ty30⟩
theorem sl25 : SlIs Tryz.prog 25 5 := ⟨32, true, by kernel_rfl, ty32⟩
theorem sl37 : SlIs Tryz.prog 37 1 := ⟨3, false, by kernel_rfl, ty3⟩
theorem sl39 : SlIs Tryz.prog 39 3 := ⟨74, true, by kernel_rfl, ty74⟩
theorem sl40 : SlIs Tryz.prog 40 3 := ⟨74, true, by kernel_rfl, ty74⟩
theorem sl70 : SlIs Tryz.prog 70 1 := ⟨159, false, by kernel_rfl, ty159⟩
end Go.Proofs.YtifcjcecmoimjaaGreat
namespace Go.Proofs.YtifcjcecmoimjaaGreat
open Go.RowKit
set_option linter.unusedVariables false
theorem k_riTrim {u w : World} {i1 : IL} {zN : Int} {K : Nat} (d : Dat u w) (hi1 : IntV u i1 zN K) (hK : K ≤ 500000000) : Calls Tryz.prog 138 #[i1.v] w (Post u w fun v u' => ∃ i : IL, v = i.v ∧ IntN u' i zN K) := by
 obtain ⟨N, hN, hzN⟩ := hi1
 refine zzm (args := [i1.v]) Tryz.func138 rfl Tryz.ntmps138 (rs := [.cell 2 72]) Tryz.results138 (le_b rfl) (le_b rfl) d ?_
 refine sq9 (zzk 1 ⟨72, i1.cs⟩ (zzk 2 ⟨72, [.bool false, .slice none 0 0]⟩ (zzb (sq9 (zza 4 (.adr 1 1) (zzi 5 (.v i1.m.v) ty70 zzl (zzg 6 165 [i1.m.v] ?_)))))))
 intro w11 u11 e11 d11
 have k16 := k_rnTrim d11 (hN.ext e11) xq
 with_reducible refine zPm k16 ?_
 rintro _ u14 g15 ⟨x12, rfl, h13⟩
 refine zza 3 (.v x12.v) (zzb (sq9 (zza 7 (.adr 1 0) (zzi 8 (zB i1.s) ty4 zzl ?_))))
 rcases Bool.eq_false_or_eq_true i1.s with hs17 | hs17
 ·refine zyq 9 (x := zB i1.s) (zB true) (by rw [hs17]) (zza 10 (.v x12.v) ?_ (hw := w1 2 true 9))
  refine zza 11 (zI x12.n) ?_ (hw := w1 2 true 9)
  refine zza 12 (zB (decide ((0 : Int) < (x12.n : Int)))) ?_ (hw := w1 2 true 9)
  refine zza 13 (zB (decide ((0 : Int) < (x12.n : Int)))) (zza 14 (.v x12.v) (zza 15 (.v (.agg #[.bool (decide ((0 : Int) < (x12.n : Int))), x12.v])) (zzj ⟨72, [.bool (decide ((0 : Int) < (x12.n : Int))), x12.v]⟩ ty72 ?_)))
  refine zzb (zzo (ret0 [.agg #[.bool (decide ((0 : Int) < (x12.n : Int))), .slice x12.a x12.n x12.c]] ⟨zzr ty72 zze, trivial⟩ fun u18 e19 => ?_))
  refine ⟨⟨_, x12⟩, rfl, ?_⟩
  rw [hzN, hs17]
  exact signed_int (s := true) (h13.ext e19)
 ·refine zyq 9 (x := zB i1.s) (zB false) (by rw [hs17]) (zzn 10 (uw 2 true false 9) (zzn 11 (uw 2 true false 9) (zzn 12 (uw 2 true false 9) (zza 13 (zB false) (zza 14 (.v x12.v) (zza 15 (.v (.agg #[.bool false, x12.v])) (zzj ⟨72, [.bool false, x12.v]⟩ ty72 ?_)))))))
  refine zzb (zzo (ret0 [.agg #[.bool false, .slice x12.a x12.n x12.c]] ⟨zzr ty72 zze, trivial⟩ fun u20 e21 => ?_))
  refine ⟨⟨_, x12⟩, rfl, ?_⟩
  rw [hzN, hs17]
  exact signed_int (s := false) (h13.ext e21)
theorem k_riSign {u w : World} {i1 : IL} {zN : Int} {K : Nat} (d : Dat u w) (hi1 : IntV u i1 zN K) (hK : K ≤ 500000000) : Calls Tryz.prog 134 #[i1.v] w (Post u w fun v u' => v = .int .i64 (Nt.cmpS zN 0)) := by
 refine zzm (args := [i1.v]) Tryz.func134 rfl Tryz.ntmps134 (rs := [.tmp 2]) Tryz.results134 (le_b rfl) (le_b rfl) d ?_
 refine sq9 (zzk 1 ⟨72, i1.cs⟩ (zza 2 (zI 0) (zzb (sq9 (zzi 3 (.v (i1.v)) ty72 zze (zzg 4 138 [i1.v] ?_))))))
 intro w11 u11 e11 d11
 have k16 := k_riTrim d11 (hi1.ext e11) xq
 with_reducible refine zPm k16 ?_
 rintro _ u14 g15 ⟨i12, rfl, h13⟩
 refine zzj ⟨72, i12.cs⟩ ty72 ?_
 refine zzb (zzd (zzt (sq9 (zza 6 (.adr 1 1) (zzi 7 (.v i12.m.v) ty70 zzl (zza 8 (zI i12.m.n) (zza 9 (zB ((i12.m.n : Int) == 0)) (zza 5 (zB ((i12.m.n : Int) == 0)) (zzb (zzu (b := (i12.m.n : Int) == 0) xj (fun hb17 => ?_) (fun hb17 => ?_)))))))))))
 ·replace hb17 : ((i12.m.n : Int) == 0) = true := hb17
  have qhb17 : (i12.m.n : Int) = 0 := by simpa using hb17
  refine sq9 (zza 2 (zI 0) (zzb (zzo (zyu (zzw (ret0 [.int .i64 0] ⟨zzq, trivial⟩ fun u18 e19 => ?_))))))
  show _ = _
  rw [sign_len h13, if_pos hb17]
  rfl
 ·replace hb17 : ((i12.m.n : Int) == 0) = false := hb17
  have qhb17 : ¬ ((i12.m.n : Int) = 0) := by simpa using hb17
  refine sq9 (zza 11 (.adr 1 0) (zzi 12 (zB i12.s) ty4 zzl (zza 10 (zB i12.s) (zzb (zzu (b := i12.s) xj (fun hb20 => ?_) (fun hb20 => ?_))))))
  ·replace hb20 : i12.s = true := hb20
   refine sq9 (zza 2 (zI (-1)) (zzb (zzo (zyu (zzw (ret0 [.int .i64 (-1)] ⟨zzq, trivial⟩ fun u21 e22 => ?_))))))
   show _ = _
   rw [sign_len h13, if_neg (ne_true_of_eq_false hb17), if_pos hb20]
   rfl
  ·replace hb20 : i12.s = false := hb20
   refine zzs (zzp ?_)
   refine sq9 (zza 2 (zI 1) (zzb (zzo (ret0 [.int .i64 1] ⟨zzq, trivial⟩ fun u23 e24 => ?_))))
   show _ = _
   rw [sign_len h13, if_neg (ne_true_of_eq_false hb17), if_neg (ne_true_of_eq_false hb20)]
   rfl
theorem k_riNeg {u w : World} {i1 : IL} {zN : Int} {K : Nat} (d : Dat u w) (hi1 : IntV u i1 zN K) (hK : K ≤ 500000000) : Calls Tryz.prog 137 #[i1.v] w (Post u w fun v u' => ∃ i : IL, v = i.v ∧ IntN u' i (-zN) K) := by
 refine zzm (args := [i1.v]) Tryz.func137 rfl Tryz.ntmps137 (rs := [.cell 2 72]) Tryz.results137 (le_b rfl) (le_b rfl) d ?_
 refine sq9 (zzk 1 ⟨72, i1.cs⟩ (zzk 2 ⟨72, [.bool false, .slice none 0 0]⟩ (zzb (sq9 (zzi 3 (.v (i1.v)) ty72 zze (zzg 4 138 [i1.v] ?_))))))
 intro w11 u11 e11 d11
 have k16 := k_riTrim d11 (hi1.ext e11) xq
 with_reducible refine zPm k16 ?_
 rintro _ u14 g15 ⟨i12, rfl, h13⟩
 refine zzj ⟨72, i12.cs⟩ ty72 ?_
 refine zzb (sq9 (zza 5 (.adr 1 0) (zzi 6 (zB i12.s) ty4 zzl (zza 7 (zB (!i12.s)) ?_))))
 rcases Bool.eq_false_or_eq_true (!i12.s) with hs17 | hs17
 ·refine zyq 8 (x := zB (!i12.s)) (zB true) (by rw [hs17]) (zza 9 (.adr 1 1) ?_ (hw := w1 3 true 8))
  refine zzi 10 (.v i12.m.v) ty70 zzl ?_ (hw := w1 3 true 8)
  refine zza 11 (zI i12.m.n) ?_ (hw := w1 3 true 8)
  refine zza 12 (zB (decide ((0 : Int) < (i12.m.n : Int)))) ?_ (hw := w1 3 true 8)
  refine zza 13 (zB (decide ((0 : Int) < (i12.m.n : Int)))) (zza 14 (.adr 1 0) (zzj ⟨72, [.bool (decide ((0 : Int) < (i12.m.n : Int))), i12.m.v]⟩ ty4 ?_))
  refine zzb (sq9 (zzi 15 (.v (.agg #[.bool (decide ((0 : Int) < (i12.m.n : Int))), i12.m.v])) ty72 zze (zzj ⟨72, [.bool (decide ((0 : Int) < (i12.m.n : Int))), i12.m.v]⟩ ty72 ?_)))
  refine zzb (zzo (ret0 [.agg #[.bool (decide ((0 : Int) < (i12.m.n : Int))), .slice i12.m.a i12.m.n i12.m.c]] ⟨zzr ty72 zze, trivial⟩ fun u18 e19 => ?_))
  refine ⟨⟨_, i12.m⟩, rfl, ?_⟩
  have h9 := neg_int (h13.ext e19)
  rw [hs17] at h9
  exact h9
 ·refine zyq 8 (x := zB (!i12.s)) (zB false) (by rw [hs17]) (zzn 9 (uw 3 true false 8) (zzn 10 (uw 3 true false 8) (zzn 11 (uw 3 true false 8) (zzn 12 (uw 3 true false 8) (zza 13 (zB false) (zza 14 (.adr 1 0) (zzj ⟨72, [.bool false, i12.m.v]⟩ ty4 ?_)))))))
  refine zzb (sq9 (zzi 15 (.v (.agg #[.bool false, i12.m.v])) ty72 zze (zzj ⟨72, [.bool false, i12.m.v]⟩ ty72 ?_)))
  refine zzb (zzo (ret0 [.agg #[.bool false, .slice i12.m.a i12.m.n i12.m.c]] ⟨zzr ty72 zze, trivial⟩ fun u20 e21 => ?_))
  refine ⟨⟨_, i12.m⟩, rfl, ?_⟩
  have h9 := neg_int (h13.ext e21)
  rw [hs17] at h9
  exact h9
theorem k_riGcd {u w : World} {i1 : IL} {zN : Int} {K : Nat} {i2 : IL} {zM : Int} {L : Nat} (d : Dat u w) (hi1 : IntV u i1 zN K) (hi2 : IntV u i2 zM L) (hK : K ≤ 500000000) (hL : L ≤ 500000000) : Calls Tryz.prog 135 #[i1.v, i2.v] w (Post u w fun v u' => ∃ i : IL, v = i.v ∧ IntN u' i (Nat.gcd zN.natAbs zM.natAbs : Int) (max K L)) := by
 refine zzm (args := [i1.v, i2.v]) Tryz.func135 rfl Tryz.ntmps135 (rs := [.cell 4 72]) Tryz.results135 (le_b rfl) (le_b rfl) d ?_
 refine sq9 (zzk 2 ⟨72, i1.cs⟩ (zzk 3 ⟨72, i2.cs⟩ (zzk 4 ⟨72, [.bool false, .slice none 0 0]⟩ (zzb (sq9 (zza 5 (.adr 2 1) (zzi 6 (.v i1.m.v) ty70 zzl (zza 7 (.adr 3 1) (zzi 8 (.v i2.m.v) ty70 zzl (zzg 9 161 [i1.m.v, i2.m.v] ?_))))))))))
 intro w11 u11 e11 d11
 have k16 := k_rnGcd d11 ((IntV.abs hi1).ext e11) ((IntV.abs hi2).ext e11) xq xq
 with_reducible refine zPm k16 ?_
 rintro _ u14 g15 ⟨x12, rfl, h13⟩
 refine zza 10 (.v (.agg #[.bool false, x12.v])) (zzj ⟨72, [.bool false, x12.v]⟩ ty72 ?_)
 refine zzb (zzo (ret0 [.agg #[.bool false, .slice x12.a x12.n x12.c]] ⟨zzr ty72 zze, trivial⟩ fun u17 e18 => ?_))
 exact ⟨(⟨false, x12⟩ : IL), rfl, (nat_intN (h13.ext e18))⟩
theorem k_riSame {u w : World} {i1 i2 : IL} {z z' : Int} {K L : Nat} (d : Dat u w) (hi1 : IntN u i1 z K) (hi2 : IntN u i2 z' L) : Calls Tryz.prog 175 #[i1.v, i2.v] w (Post u w fun v _ => v = .bool (decide (z = z'))) := by
 refine zzm (args := [i1.v, i2.v]) Tryz.func175 rfl Tryz.ntmps175 (rs := [.tmp 4]) Tryz.results175 (le_b rfl) (le_b rfl) d ?_
 refine sq9 (zzk 2 ⟨72, i1.cs⟩ (zzk 3 ⟨72, i2.cs⟩ (zza 4 (zB false) (zzb (sq9 (zza 5 (.adr 2 0) (zzi 6 (zB i1.s) ty4 zzl (zza 7 (.adr 3 0) (zzi 8 (zB i2.s) ty4 zzl (zza 9 (zB (i1.s == i2.s)) ?_))))))))))
 rcases Bool.eq_false_or_eq_true (i1.s == i2.s) with hs11 | hs11
 ·refine zyq 10 (x := zB (i1.s == i2.s)) (zB true) (by rw [hs11]) (zza 11 (.adr 2 1) ?_ (hw := w1 5 true 10))
  refine zzi 12 (.v i1.m.v) ty70 zzl ?_ (hw := w1 5 true 10)
  refine zza 13 (.adr 3 1) ?_ (hw := w1 5 true 10)
  refine zzi 14 (.v i2.m.v) ty70 zzl ?_ (hw := w1 5 true 10)
  refine zzg 15 176 [i1.m.v, i2.m.v] ?_ (hw := w1 5 true 10)
  intro w12 u12 e12 d12
  have k15 := k_rnSame d12 ((int_mag hi1).ext e12) ((int_mag hi2).ext e12)
  with_reducible refine zPm k15 ?_
  rintro _ u13 g14 rfl
  refine zza 16 (zB (decide ((z : Int).natAbs = (z' : Int).natAbs))) (zza 4 (zB (decide ((z : Int).natAbs = (z' : Int).natAbs))) (zzb (zzo (ret0 [.bool (decide ((z : Int).natAbs = (z' : Int).natAbs))] ⟨zzq, trivial⟩ fun u16 e17 => ?_))))
  show _ = _
  rw [← same_int hi1 hi2, hs11]
  rfl
 ·refine zyq 10 (x := zB (i1.s == i2.s)) (zB false) (by rw [hs11]) (zzn 11 (uw 5 true false 10) (zzn 12 (uw 5 true false 10) (zzn 13 (uw 5 true false 10) (zzn 14 (uw 5 true false 10) (zzn 15 (uw 5 true false 10) (zza 16 (zB false) (zza 4 (zB false) (zzb (zzo (ret0 [.bool false] ⟨zzq, trivial⟩ fun u18 e19 => ?_))))))))))
  show _ = _
  rw [← same_int hi1 hi2, hs11]
  rfl
set_option maxHeartbeats 2000000 in
theorem k_riDiv {u w : World} {i1 : IL} {zN : Int} {K : Nat} {i2 : IL} {zM : Int} {L : Nat} (d : Dat u w) (hi1 : IntV u i1 zN K) (hi2 : IntV u i2 zM L) (hM0 : zM ≠ 0) (hK : K ≤ 400000000) (hL : L ≤ 400000000) : Calls Tryz.prog 136 #[i1.v, i2.v] w (Post u w fun v u' => ∃ i j : IL, v = .tuple #[i.v, j.v, .int .i64 0] ∧ IntN u' i (zN / zM) (K + 1) ∧ IntN u' j (zN % zM) L) := by
 have hM : 0 < zM.natAbs := Int.natAbs_pos.2 hM0
 have hL1 : 1 ≤ L := by have h2 := hi2.size; have h3 := Nt.dl_mono (x := zM.natAbs) (y := 1) xq; rw [Nt.dl_one] at h3; omega
 refine zzm (args := [i1.v, i2.v]) Tryz.func136 rfl Tryz.ntmps136 (rs := [.cell 4 72, .cell 5 72, .tmp 6]) Tryz.results136 (le_b rfl) (le_b rfl) d ?_
 refine sq9 (zzk 2 ⟨72, i1.cs⟩ (zzk 3 ⟨72, i2.cs⟩ (zzk 4 ⟨72, [.bool false, .slice none 0 0]⟩ (zzk 5 ⟨72, [.bool false, .slice none 0 0]⟩ (zza 6 (zI 0) (zzb (zzd (zzz [0, 1, 0, 7, 15, 31] [(0, []), (2, []), (1, []), (3, []), (4, []), (5, [])] xj xj (zzi 10 (.v (i1.v)) ty72 zze (zzi 12 (.v (i2.v)) ty72 zze (zzg 11 138 [i1.v] ?_)))))))))))
 intro w11 u11 e11 d11
 have k16 := k_riTrim d11 (hi1.ext e11) xq
 with_reducible refine zPm k16 ?_
 rintro _ u14 g15 ⟨i12, rfl, h13⟩
 refine zzg 13 138 [i2.v] ?_
 intro w17 u17 e17 d17
 have k22 := k_riTrim d17 (hi2.ext (e11.trans (g15.ext.trans e17))) xq
 with_reducible refine zPm k22 ?_
 rintro _ u20 g21 ⟨i18, rfl, h19⟩
 refine zzj ⟨72, i12.cs⟩ ty72 ?_
 refine zzj ⟨72, i18.cs⟩ ty72 ?_
 refine zzb (sq9 (zza 15 (.adr 2 1) (zzi 16 (.v i12.m.v) ty70 zzl (zza 17 (.adr 3 1) (zzi 18 (.v i18.m.v) ty70 zzl (zzg 19 162 [i12.m.v, i18.m.v] ?_))))))
 intro w23 u23 e23 d23
 have k30 := k_rnDivMod d23 ((int_mag h13).ext (e17.trans (g21.ext.trans e23))).raw ((int_mag h19).ext e23).raw hM xq xq
 with_reducible refine zPm k30 ?_
 rintro _ u28 g29 ⟨x24, x25, rfl, h26, h27⟩
 refine zza 14 (.v (.tuple #[x24.v, x25.v, .int .i64 0])) (zza 20 (.v x24.v) (zza 21 (.v x25.v) (zza 22 (zI 0) (zza 7 (.v x24.v) (zza 8 (.v x25.v) (zza 9 (zI 0) (zzb (zzd (sq9 (zza 23 (zI 0) (zza 24 (zB false) ?_)))))))))))
 refine zzb (zys xj (zzs (zzp ?_)))
 refine zzd (sq9 (zza 28 (.adr 2 0) (zzi 29 (zB i12.s) ty4 zzl ?_)))
 rcases Bool.eq_false_or_eq_true i12.s with hs31 | hs31
 ·refine zyq 30 (x := zB i12.s) (zB true) (by rw [hs31]) (zza 31 (.v x25.v) ?_ (hw := w1 2 true 30))
  refine zza 32 (zI x25.n) ?_ (hw := w1 2 true 30)
  refine zza 33 (zB (decide ((0 : Int) < (x25.n : Int)))) ?_ (hw := w1 2 true 30)
  refine zza 34 (zB (decide ((0 : Int) < (x25.n : Int)))) (zzc 52 [(2, .adr 2 0), (3, .adr 3 0), (4, .adr 4 0), (5, .adr 5 0), (7, .v x24.v), (8, .v x25.v), (34, zB (decide ((0 : Int) < (x25.n : Int))))] [(2, ⟨72, i12.cs⟩), (3, ⟨72, i18.cs⟩), (4, ⟨72, [.bool false, .slice none 0 0]⟩), (5, ⟨72, [.bool false, .slice none 0 0]⟩)] (zzu (b := decide ((0 : Int) < (x25.n : Int))) xj (fun hb32 => ?_) (fun hb32 => ?_)))
  ·replace hb32 : (decide ((0 : Int) < (x25.n : Int))) = true := hb32
   have qhb32 := of_decide_eq_true hb32
   refine zzz [0, 0, 3, 0, 8, 0, 63, 127, 255] [(0, []), (1, []), (3, []), (4, []), (5, []), (2, [36]), (6, []), (7, []), (8, [])] xj xj (zza 35 (.v x24.v) (sy_lit 36 ⟨159, [.int .u32 1]⟩ 1 ?_))
   refine zza 38 (.adr 3 1) (zzi 39 (.v i18.m.v) ty70 zzl (zza 40 (.v x25.v) (zyo 37 163 [.v x24.v, .slc 36 0 1 1] [36] (.inr rfl) (pub_mk xk) (k := ?_))))
   intro B33 w33 u33 e33 d33 v33
   have h35 : u33.heap[B33 36]? = some (.cells #[.int .u32 1] 159 (0, 0)) := v33 36 yy _ rfl
   obtain ⟨b34, hBb34⟩ : ∃ b, B33 36 = b := ⟨_, rfl⟩
   rw [hBb34] at h35
   show Calls _ _ #[.slice x24.a x24.n x24.c, .slice (some ⟨B33 36, 0, none⟩) 1 1] _ _
   rw [hBb34]
   have k40 := k_rnAdd d33 (h26.ext e33).raw (one_data h35).raw xq xq
   with_reducible refine zPm k40 ?_
   rintro _ u38 g39 ⟨x36, rfl, h37⟩
   refine zzg 41 164 [i18.m.v, x25.v] ?_
   intro w41 u41 e41 d41
   have k46 := k_rnSub d41 ((int_mag h19).ext (e23.trans (g29.ext.trans (e33.trans (g39.ext.trans e41))))).raw (h27.ext (e33.trans (g39.ext.trans e41))).raw xq xq
   with_reducible refine zPm k46 ?_
   rintro _ u44 g45 ⟨x42, rfl, h43⟩
   refine zza 7 (.v x36.v) (zza 8 (.v x42.v) (zzb (sq9 (zza 42 (.adr 2 0) (zzi 43 (zB i12.s) ty4 zzl (zza 44 (.adr 3 0) (zzi 45 (zB i18.s) ty4 zzl (zza 46 (zB (!(i12.s == i18.s))) (zza 47 (.v x36.v) (zza 48 (.v (.agg #[.bool (!(i12.s == i18.s)), x36.v])) (zzg 49 138 [.agg #[.bool (!(i12.s == i18.s)), x36.v]] ?_)))))))))))
   intro w47 u47 e47 d47
   have k52 := k_riTrim d47 (IntV.same (s := !(i12.s == i18.s)) (h37.ext (e41.trans (g45.ext.trans e47))).raw) xq
   with_reducible refine zPm k52 ?_
   rintro _ u50 g51 ⟨i48, rfl, h49⟩
   refine zza 50 (.v x42.v) (zza 51 (.v (.agg #[.bool false, x42.v])) (zzj ⟨72, i48.cs⟩ ty72 ?_))
   refine zzj ⟨72, [.bool false, x42.v]⟩ ty72 ?_
   refine zza 6 (zI 0) (zzb (zzo (ret0 [i48.v, .agg #[.bool false, .slice x42.a x42.n x42.c], .int .i64 0] ⟨zzr ty72 zze, zzr ty72 zze, zzq, trivial⟩ fun u53 e54 => ?_)))
   have hs := h13.1
   have ht := h19.1
   have hr := h27.pos
   have qhs31 := hs31
   have qhb32 := hb32
   have key := Nt.ediv_neg' zN zM rfl rfl hM (by rw [hs] at hs31; simpa using hs31) (by simp at hb32; omega)
   have hK1 : 1 ≤ K := by have h2 := hi1.size; have h3 := (Nt.dl_pos (x := zN.natAbs)).2 (by rw [hs] at hs31; simp at hs31; omega); omega
   rw [← hs, ← ht] at key
   refine ⟨i48, (⟨false, x42⟩ : IL), rfl, IntN.more (K := (max K 1 + 1)) ?_ xq, IntN.more (K := L) ?_ xq⟩
   ·rw [key.1]; exact (h49.ext e54)
   ·rw [key.2]; exact (nat_intN (h43.ext (e47.trans (g51.ext.trans e54))))
  ·replace hb32 : (decide ((0 : Int) < (x25.n : Int))) = false := hb32
   have qhb32 := of_decide_eq_false hb32
   refine zzs (zzp ?_)
   refine sq9 (zza 42 (.adr 2 0) (zzi 43 (zB i12.s) ty4 zzl (zza 44 (.adr 3 0) (zzi 45 (zB i18.s) ty4 zzl (zza 46 (zB (!(i12.s == i18.s))) (zza 47 (.v x24.v) (zza 48 (.v (.agg #[.bool (!(i12.s == i18.s)), x24.v])) (zzg 49 138 [.agg #[.bool (!(i12.s == i18.s)), x24.v]] ?_))))))))
   intro w55 u55 e55 d55
   have k60 := k_riTrim d55 (IntV.same (s := !(i12.s == i18.s)) (h26.ext e55).raw) xq
   with_reducible refine zPm k60 ?_
   rintro _ u58 g59 ⟨i56, rfl, h57⟩
   refine zza 50 (.v x25.v) (zza 51 (.v (.agg #[.bool false, x25.v])) (zzj ⟨72, i56.cs⟩ ty72 ?_))
   refine zzj ⟨72, [.bool false, x25.v]⟩ ty72 ?_
   refine zza 6 (zI 0) (zzb (zzo (ret0 [i56.v, .agg #[.bool false, .slice x25.a x25.n x25.c], .int .i64 0] ⟨zzr ty72 zze, zzr ty72 zze, zzq, trivial⟩ fun u61 e62 => ?_)))
   have hs := h13.1
   have ht := h19.1
   have hr := h27.pos
   have qhs31 := hs31
   have qhb32 := hb32
   have key := Nt.ediv_pos zN zM rfl rfl hM (fun hc => by simp at hb32; omega)
   rw [← hs, ← ht] at key
   refine ⟨i56, (⟨false, x25⟩ : IL), rfl, IntN.more (K := K) ?_ xq, IntN.more (K := L) ?_ xq⟩
   ·rw [key.1]; exact (h57.ext e62)
   ·rw [key.2]; exact (nat_intN (h27.ext (e55.trans (g59.ext.trans e62))))
 ·refine zyq 30 (x := zB i12.s) (zB false) (by rw [hs31]) (zzn 31 (uw 2 true false 30) (zzn 32 (uw 2 true false 30) (zzn 33 (uw 2 true false 30) (zza 34 (zB false) (zzc 52 [(2, .adr 2 0), (3, .adr 3 0), (4, .adr 4 0), (5, .adr 5 0), (7, .v x24.v), (8, .v x25.v), (34, zB false)] [(2, ⟨72, i12.cs⟩), (3, ⟨72, i18.cs⟩), (4, ⟨72, [.bool false, .slice none 0 0]⟩), (5, ⟨72, [.bool false, .slice none 0 0]⟩)] (zys xj (zzs (zzp ?_))))))))
  refine sq9 (zza 42 (.adr 2 0) (zzi 43 (zB i12.s) ty4 zzl (zza 44 (.adr 3 0) (zzi 45 (zB i18.s) ty4 zzl (zza 46 (zB (!(i12.s == i18.s))) (zza 47 (.v x24.v) (zza 48 (.v (.agg #[.bool (!(i12.s == i18.s)), x24.v])) (zzg 49 138 [.agg #[.bool (!(i12.s == i18.s)), x24.v]] ?_))))))))
  intro w63 u63 e63 d63
  have k68 := k_riTrim d63 (IntV.same (s := !(i12.s == i18.s)) (h26.ext e63).raw) xq
  with_reducible refine zPm k68 ?_
  rintro _ u66 g67 ⟨i64, rfl, h65⟩
  refine zza 50 (.v x25.v) (zza 51 (.v (.agg #[.bool false, x25.v])) (zzj ⟨72, i64.cs⟩ ty72 ?_))
  refine zzj ⟨72, [.bool false, x25.v]⟩ ty72 ?_
  refine zza 6 (zI 0) (zzb (zzo (ret0 [i64.v, .agg #[.bool false, .slice x25.a x25.n x25.c], .int .i64 0] ⟨zzr ty72 zze, zzr ty72 zze, zzq, trivial⟩ fun u69 e70 => ?_)))
  have hs := h13.1
  have ht := h19.1
  have hr := h27.pos
  have qhs31 := hs31
  have key := Nt.ediv_pos zN zM rfl rfl hM (fun hc => by rw [hs] at hs31; simp at hs31; omega)
  rw [← hs, ← ht] at key
  refine ⟨i64, (⟨false, x25⟩ : IL), rfl, IntN.more (K := K) ?_ xq, IntN.more (K := L) ?_ xq⟩
  ·rw [key.1]; exact (h65.ext e70)
  ·rw [key.2]; exact (nat_intN (h27.ext (e63.trans (g67.ext.trans e70))))
set_option maxHeartbeats 2000000 in
theorem k_reduce {u w : World} {i1 i2 : IL} {z y : Int} {K L : Nat} (d : Dat u w) (hi1 : IntV u i1 z K) (hi2 : IntV u i2 y L) (hK : K ≤ 400000000) (hL : L ≤ 400000000) : Calls Tryz.prog 96 #[i1.v, i2.v] w (Post u w fun v u' => ∃ r : RL, v = r.v ∧ RatN u' r ((z : Rat) / (y : Rat)) (max K L + 1)) := by
 refine zzm (args := [i1.v, i2.v]) Tryz.func96 rfl Tryz.ntmps96 (rs := [.cell 4 74]) Tryz.results96 (le_b rfl) (le_b rfl) d ?_
 refine sq9 (zzk 2 ⟨72, i1.cs⟩ (zzk 3 ⟨72, i2.cs⟩ (zzk 4 ⟨74, [.bool false, .slice none 0 0, .slice none 0 0]⟩ (zzb (zzd (sq9 (zzi 12 (.v (i1.v)) ty72 zze (zzg 13 134 [i1.v] ?_))))))))
 intro w11 u11 e11 d11
 have k14 := k_riSign d11 (hi1.ext e11) xq
 with_reducible refine zPm k14 ?_
 rintro _ u12 g13 rfl
 refine zza 14 (zB ((Nt.cmpS z 0) == 0)) ?_
 rcases Bool.eq_false_or_eq_true ((Nt.cmpS z 0) == 0) with hs15 | hs15
 ·refine zyq 15 (x := zB ((Nt.cmpS z 0) == 0)) (zB true) (by rw [hs15]) ?_
  have hz0 : z = 0 := Nt.cmp_eq0 hs15
  refine zzn 16 (uw 3 false true 15) (zzn 17 (uw 3 false true 15) (zzn 18 (uw 3 false true 15) (zza 19 (zB true) (zzb (zyr xj (sq9 (zxy 20 ⟨159, [.int .u32 1]⟩ 1 (fun b16 u17 e18 h19 => ?_))))))))
  refine zza 21 (.v (.agg #[.bool false, .slice none 0 0, .slice (some ⟨b16, 0, none⟩) 1 1])) (zzj ⟨74, [.bool false, .slice none 0 0, .slice (some ⟨b16, 0, none⟩) 1 1]⟩ ty74 ?_)
  refine zzb (zzo (zzw (ret0 [.agg #[.bool false, .slice none 0 0, .slice (some ⟨b16, 0, none⟩) 1 1]] ⟨zzr ty74 zze, trivial⟩ fun u20 e21 => ?_)))
  refine ⟨(⟨false, ⟨none, 0, 0⟩, (⟨some ⟨b16, 0, none⟩, 1, 1⟩ : Sl)⟩ : RL), rfl, ?_⟩
  have h9 : (z : Rat) / (y : Rat) = ((0 : Int) : Rat) := by rw [hz0]; simp [Rat.div_def]
  rw [h9]
  exact RatN.more (whole_rat (int_zero _ 1) ((one_data h19).ext e21)) xq
 ·refine zyq 15 (x := zB ((Nt.cmpS z 0) == 0)) (zB false) (by rw [hs15]) ?_
  have hz0 : z ≠ 0 := Nt.cmp_ne0 hs15
  refine zzi 16 (.v (i2.v)) ty72 zze ?_ (hw := w1 3 false 15)
  refine zzg 17 134 [i2.v] ?_ (hw := w1 3 false 15)
  intro w22 u22 e22 d22
  have k25 := k_riSign d22 (hi2.ext (e11.trans (g13.ext.trans e22))) xq
  with_reducible refine zPm k25 ?_
  rintro _ u23 g24 rfl
  refine zza 18 (zB ((Nt.cmpS y 0) == 0)) ?_ (hw := w1 3 false 15)
  refine zza 19 (zB ((Nt.cmpS y 0) == 0)) (zzb (zzu (b := (Nt.cmpS y 0) == 0) xj (fun hb26 => ?_) (fun hb26 => ?_)))
  ·replace hb26 : ((Nt.cmpS y 0) == 0) = true := hb26
   have hy0 : y = 0 := Nt.cmp_eq0 hb26
   refine sq9 (zxy 20 ⟨159, [.int .u32 1]⟩ 1 (fun b27 u28 e29 h30 => ?_))
   refine zza 21 (.v (.agg #[.bool false, .slice none 0 0, .slice (some ⟨b27, 0, none⟩) 1 1])) (zzj ⟨74, [.bool false, .slice none 0 0, .slice (some ⟨b27, 0, none⟩) 1 1]⟩ ty74 ?_)
   refine zzb (zzo (zzw (ret0 [.agg #[.bool false, .slice none 0 0, .slice (some ⟨b27, 0, none⟩) 1 1]] ⟨zzr ty74 zze, trivial⟩ fun u31 e32 => ?_)))
   refine ⟨(⟨false, ⟨none, 0, 0⟩, (⟨some ⟨b27, 0, none⟩, 1, 1⟩ : Sl)⟩ : RL), rfl, ?_⟩
   have h9 : (z : Rat) / (y : Rat) = ((0 : Int) : Rat) := by rw [hy0]; simp [Rat.div_def]
   rw [h9]
   exact RatN.more (whole_rat (int_zero _ 1) ((one_data h30).ext e32)) xq
  ·replace hb26 : ((Nt.cmpS y 0) == 0) = false := hb26
   have hy0 : y ≠ 0 := Nt.cmp_ne0 hb26
   have hg0 : ((Nat.gcd z.natAbs y.natAbs : Nat) : Int) ≠ 0 := by have h9 := Nat.gcd_pos_of_pos_right z.natAbs (Int.natAbs_pos.2 hy0); omega
   refine zzs (zzp ?_)
   refine sq9 (zzi 22 (.v (i1.v)) ty72 zze (zzi 23 (.v (i2.v)) ty72 zze (zzg 24 135 [i1.v, i2.v] ?_)))
   intro w33 u33 e33 d33
   have k38 := k_riGcd d33 (hi1.ext (e11.trans (g13.ext.trans (e22.trans (g24.ext.trans e33))))) (hi2.ext (e11.trans (g13.ext.trans (e22.trans (g24.ext.trans e33))))) xq xq
   with_reducible refine zPm k38 ?_
   rintro _ u36 g37 ⟨i34, rfl, h35⟩
   refine zzk 5 ⟨72, [.bool false, .slice none 0 0]⟩ (zzj ⟨72, i34.cs⟩ ty72 ?_)
   refine zzb (sq9 (zzi 26 (.v (i1.v)) ty72 zze (zzi 27 (.v (i34.v)) ty72 zze (zzg 28 136 [i1.v, i34.v] ?_))))
   intro w39 u39 e39 d39
   have k46 := k_riDiv d39 (hi1.ext (e11.trans (g13.ext.trans (e22.trans (g24.ext.trans (e33.trans (g37.ext.trans e39))))))) (h35.ext e39).raw hg0 xq xq
   with_reducible refine zPm k46 ?_
   rintro _ u44 g45 ⟨i40, i42, rfl, h41, h43⟩
   refine zza 25 (.v (.tuple #[i40.v, i42.v, .int .i64 0])) (zza 29 (.v (i40.v)) (zza 30 (.v (i42.v)) (zza 31 (zI 0) (zzk 6 ⟨72, [.bool false, .slice none 0 0]⟩ (zzk 7 ⟨72, [.bool false, .slice none 0 0]⟩ (zzj ⟨72, i40.cs⟩ ty72 ?_))))))
   refine zzj ⟨72, i42.cs⟩ ty72 ?_
   refine zza 8 (zI 0) (zzb (sq9 (zzi 33 (.v (i2.v)) ty72 zze (zzi 34 (.v (i34.v)) ty72 zze (zzg 35 136 [i2.v, i34.v] ?_)))))
   intro w47 u47 e47 d47
   have k54 := k_riDiv d47 (hi2.ext (e11.trans (g13.ext.trans (e22.trans (g24.ext.trans (e33.trans (g37.ext.trans (e39.trans (g45.ext.trans e47))))))))) (h35.ext (e39.trans (g45.ext.trans e47))).raw hg0 xq xq
   with_reducible refine zPm k54 ?_
   rintro _ u52 g53 ⟨i48, i50, rfl, h49, h51⟩
   refine zza 32 (.v (.tuple #[i48.v, i50.v, .int .i64 0])) (zza 36 (.v (i48.v)) (zza 37 (.v (i50.v)) (zza 38 (zI 0) (zzk 9 ⟨72, [.bool false, .slice none 0 0]⟩ (zzk 10 ⟨72, [.bool false, .slice none 0 0]⟩ (zzj ⟨72, i48.cs⟩ ty72 ?_))))))
   refine zzj ⟨72, i50.cs⟩ ty72 ?_
   refine zza 11 (zI 0) (zzc 47 [(4, .adr 4 0), (6, .adr 6 0), (9, .adr 9 0)] [(4, ⟨74, [.bool false, .slice none 0 0, .slice none 0 0]⟩), (6, ⟨72, i40.cs⟩), (9, ⟨72, i48.cs⟩)] (zzd (sq9 (zza 39 (.adr 9 0) (zzi 40 (zB i48.s) ty4 zzl (zzb (zzu (b := i48.s) xj (fun hb55 => ?_) (fun hb55 => ?_))))))))
   ·replace hb55 : i48.s = true := hb55
    refine zzf (zzi 41 (.v (i40.v)) ty72 zze (zzg 42 137 [i40.v] ?_))
    intro w56 u56 e56 d56
    have k61 := k_riNeg d56 (h41.ext (e47.trans (g53.ext.trans e56))).raw xq
    with_reducible refine zPm k61 ?_
    rintro _ u59 g60 ⟨i57, rfl, h58⟩
    refine zzj ⟨72, i57.cs⟩ ty72 ?_
    refine zzb (sq9 (zzi 43 (.v (i57.v)) ty72 zze (zza 44 (.adr 9 1) (zzi 45 (.v i48.m.v) ty70 zzl (zza 46 (.v (.agg #[.bool i57.s, i57.m.v, i48.m.v])) (zzj ⟨74, i57.cs ++ [i48.m.v]⟩ ty74 ?_))))))
    refine zzb (zzo (ret0 [.agg #[.bool i57.s, .slice i57.m.a i57.m.n i57.m.c, .slice i48.m.a i48.m.n i48.m.c]] ⟨zzr ty74 zze, trivial⟩ fun u62 e63 => ?_))
    refine ⟨(⟨i57.s, i57.m, i48.m⟩ : RL), rfl, RatN.more (red_neg hy0 rfl (h58.ext e63) h49 hb55 ((int_mag h49).ext (e56.trans (g60.ext.trans e63)))) xq⟩
   ·replace hb55 : i48.s = false := hb55
    refine zzs (zzp ?_)
    refine sq9 (zzi 43 (.v (i40.v)) ty72 zze (zza 44 (.adr 9 1) (zzi 45 (.v i48.m.v) ty70 zzl (zza 46 (.v (.agg #[.bool i40.s, i40.m.v, i48.m.v])) (zzj ⟨74, i40.cs ++ [i48.m.v]⟩ ty74 ?_)))))
    refine zzb (zzo (ret0 [.agg #[.bool i40.s, .slice i40.m.a i40.m.n i40.m.c, .slice i48.m.a i48.m.n i48.m.c]] ⟨zzr ty74 zze, trivial⟩ fun u64 e65 => ?_))
    refine ⟨(⟨i40.s, i40.m, i48.m⟩ : RL), rfl, RatN.more (red_pos hy0 rfl (h41.ext (e47.trans (g53.ext.trans e65))) h49 hb55 ((int_mag h49).ext e65)) xq⟩
theorem k_parts {u w : World} {r : RL} {q : Rat} {K : Nat} (d : Dat u w) (h : RatV u r q K) (hKK : K ≤ 400000000) : Calls Tryz.prog 154 #[r.v] w (Post u w (PartV q K)) := by
 obtain ⟨⟨z, D, hi, hd, hq⟩, hK⟩ := h
 change IntV u ⟨r.s, r.m⟩ z K at hi
 change NatV u r.d D K at hd
 refine zzm (args := [r.v]) Tryz.func154 rfl Tryz.ntmps154 (rs := [.cell 2 72, .cell 3 72]) Tryz.results154 (le_b rfl) (le_b rfl) d ?_
 refine sq9 (zzk 1 ⟨74, r.cs⟩ (zzk 2 ⟨72, [.bool false, .slice none 0 0]⟩ (zzk 3 ⟨72, [.bool false, .slice none 0 0]⟩ (zzb (sq9 (zza 5 (.adr 1 2) (zzi 6 (.v r.d.v) ty70 zzl (zzg 7 165 [r.d.v] ?_))))))))
 intro w11 u11 e11 d11
 have k16 := k_rnTrim d11 (hd.ext e11) xq
 with_reducible refine zPm k16 ?_
 rintro _ u14 g15 ⟨x12, rfl, h13⟩
 refine zza 8 (.v (.agg #[.bool false, x12.v])) (zzk 4 ⟨72, [.bool false, .slice none 0 0]⟩ (zzj ⟨72, [.bool false, x12.v]⟩ ty72 ?_))
 refine zzb (zzd (sq9 (zza 9 (.adr 4 1) (zzi 10 (.v x12.v) ty70 zzl (zza 11 (zI x12.n) (zza 12 (zB ((x12.n : Int) == 0)) (zzb (zzu (b := (x12.n : Int) == 0) xj (fun hb17 => ?_) (fun hb17 => ?_)))))))))
 ·replace hb17 : ((x12.n : Int) == 0) = true := hb17
  have qhb17 : (x12.n : Int) = 0 := by simpa using hb17
  refine sq9 (zza 13 (.v (.agg #[.bool false, .slice none 0 0])) (zxy 14 ⟨159, [.int .u32 1]⟩ 1 (fun b18 u19 e20 h21 => ?_)))
  refine zza 15 (.v (.agg #[.bool false, .slice (some ⟨b18, 0, none⟩) 1 1])) (zzj ⟨72, [.bool false, .slice none 0 0]⟩ ty72 ?_)
  refine zzj ⟨72, [.bool false, .slice (some ⟨b18, 0, none⟩) 1 1]⟩ ty72 ?_
  refine zzb (zzo (zzw (ret0 [.agg #[.bool false, .slice none 0 0], .agg #[.bool false, .slice (some ⟨b18, 0, none⟩) 1 1]] ⟨zzr ty72 zze, zzr ty72 zze, trivial⟩ fun u22 e23 => ?_)))
  have hp := h13.pos
  have hD : D = 0 := by simp at hb17; omega
  exact ⟨⟨false, ⟨none, 0, 0⟩⟩, ⟨false, (⟨some ⟨b18, 0, none⟩, 1, 1⟩ : Sl)⟩, 0, 1, rfl, (int_zero _ K).raw, nat_intN (((one_data h21).ext e23).more hK), by omega, by rw [hq, hD]; simp, hK⟩
 ·replace hb17 : ((x12.n : Int) == 0) = false := hb17
  have qhb17 : ¬ ((x12.n : Int) = 0) := by simpa using hb17
  refine zzs (zzp ?_)
  refine zzd (zzz [0, 1, 0, 3, 15] [(0, []), (1, []), (2, []), (3, [4]), (4, [])] xj xj (zza 16 (.adr 1 0) (zzi 17 (.v (.agg #[.bool r.s, r.m.v])) ty72 zze (zzi 18 (.v (.agg #[.bool false, x12.v])) ty72 zze (zzj ⟨72, [.bool r.s, r.m.v]⟩ ty72 ?_)))))
  refine zzj ⟨72, [.bool false, x12.v]⟩ ty72 ?_
  refine zzb (zzo (ret0 [.agg #[.bool r.s, .slice r.m.a r.m.n r.m.c], .agg #[.bool false, .slice x12.a x12.n x12.c]] ⟨zzr ty72 zze, zzr ty72 zze, trivial⟩ fun u24 e25 => ?_))
  have hp := h13.pos
  exact ⟨⟨r.s, r.m⟩, ⟨false, x12⟩, z, D, rfl, (hi.ext (e11.trans (g15.ext.trans e25))), nat_intN (h13.ext e25), by simp at hb17; omega, hq, hK⟩
theorem k_rqTrim {u w : World} {r1 : RL} {x : Rat} {K : Nat} (d : Dat u w) (hr1 : RatV u r1 x K) (hK : K ≤ 100000000) : Calls Tryz.prog 133 #[r1.v] w (Post u w fun v u' => ∃ r : RL, v = r.v ∧ RatN u' r x K) := by
 refine zzm (args := [r1.v]) Tryz.func133 rfl Tryz.ntmps133 (rs := [.cell 2 74]) Tryz.results133 (le_b rfl) (le_b rfl) d ?_
 refine sq9 (zzk 1 ⟨74, r1.cs⟩ (zzk 2 ⟨74, [.bool false, .slice none 0 0, .slice none 0 0]⟩ (zzb (sq9 (zzi 6 (.v (r1.v)) ty74 zze (zzg 7 154 [r1.v] ?_))))))
 intro w11 u11 e11 d11
 have k15 := k_parts d11 (hr1.ext e11) xq
 with_reducible refine zPm k15 ?_
 rintro _ u13 g14 ⟨i12, j12, z12, D12, rfl, hi12, hj12, hp12, hq12, hk12⟩
 refine zza 5 (.v (.tuple #[i12.v, j12.v])) (zza 8 (.v (i12.v)) (zza 9 (.v (j12.v)) (zzk 3 ⟨72, [.bool false, .slice none 0 0]⟩ (zzk 4 ⟨72, [.bool false, .slice none 0 0]⟩ (zzj ⟨72, i12.cs⟩ ty72 ?_)))))
 refine zzj ⟨72, j12.cs⟩ ty72 ?_
 refine zzb (sq9 (zzi 10 (.v (i12.v)) ty72 zze (zzi 11 (.v (j12.v)) ty72 zze (zzg 12 96 [i12.v, j12.v] ?_))))
 intro w16 u16 e16 d16
 have k21 := k_reduce d16 (hi12.ext e16) (hj12.ext e16).raw xq xq
 with_reducible refine zPm k21 ?_
 rintro _ u19 g20 ⟨r17, rfl, h18⟩
 refine zzj ⟨74, r17.cs⟩ ty74 ?_
 refine zzb (zzo (ret0 [r17.v] ⟨zzr ty74 zze, trivial⟩ fun u22 e23 => ?_))
 refine ⟨r17, rfl, RatN.fit (K := (max K K + 1)) ?_ (hr1.rs)⟩
 rw [hq12, ← Nt.mk_div]
 exact (h18.ext e23)
theorem k_rqSame {u w : World} {r1 r2 : RL} {x y : Rat} {K L : Nat} (d : Dat u w) (hr1 : RatN u r1 x K) (hr2 : RatN u r2 y L) : Calls Tryz.prog 160 #[r1.v, r2.v] w (Post u w fun v _ => v = .bool (decide (x = y))) := by
 refine zzm (args := [r1.v, r2.v]) Tryz.func160 rfl Tryz.ntmps160 (rs := [.tmp 4]) Tryz.results160 (le_b rfl) (le_b rfl) d ?_
 refine sq9 (zzk 2 ⟨74, r1.cs⟩ (zzk 3 ⟨74, r2.cs⟩ (zza 4 (zB false) (zzb (sq9 (zza 5 (.adr 2 0) (zzi 6 (.v (.agg #[.bool r1.s, r1.m.v])) ty72 zze (zza 7 (.adr 3 0) (zzi 8 (.v (.agg #[.bool r2.s, r2.m.v])) ty72 zze (zzg 9 175 [.agg #[.bool r1.s, r1.m.v], .agg #[.bool r2.s, r2.m.v]] ?_))))))))))
 intro w11 u11 e11 d11
 have k14 := k_riSame d11 ((RatN.num hr1).ext e11) ((RatN.num hr2).ext e11)
 with_reducible refine zPm k14 ?_
 rintro _ u12 g13 rfl
 rcases Bool.eq_false_or_eq_true (decide (x.num = y.num)) with hs15 | hs15
 ·refine zyq 10 (x := zB (decide (x.num = y.num))) (zB true) (by rw [hs15]) ?_
  have qhs15 := of_decide_eq_true hs15
  refine zza 11 (.adr 2 2) ?_ (hw := w1 5 true 10)
  refine zzi 12 (.v r1.d.v) ty70 zzl ?_ (hw := w1 5 true 10)
  refine zza 13 (.adr 3 2) ?_ (hw := w1 5 true 10)
  refine zzi 14 (.v r2.d.v) ty70 zzl ?_ (hw := w1 5 true 10)
  refine zzg 15 176 [r1.d.v, r2.d.v] ?_ (hw := w1 5 true 10)
  intro w16 u16 e16 d16
  have k19 := k_rnSame d16 ((RatN.den hr1).ext (e11.trans (g13.ext.trans e16))) ((RatN.den hr2).ext (e11.trans (g13.ext.trans e16)))
  with_reducible refine zPm k19 ?_
  rintro _ u17 g18 rfl
  refine zza 16 (zB (decide (x.den = y.den))) (zza 4 (zB (decide (x.den = y.den))) (zzb (zzo (ret0 [.bool (decide (x.den = y.den))] ⟨zzq, trivial⟩ fun u20 e21 => ?_))))
  show _ = _
  rw [← Nt.same_q, hs15]
  rfl
 ·refine zyq 10 (x := zB (decide (x.num = y.num))) (zB false) (by rw [hs15]) ?_
  have qhs15 := of_decide_eq_false hs15
  refine zzn 11 (uw 5 true false 10) (zzn 12 (uw 5 true false 10) (zzn 13 (uw 5 true false 10) (zzn 14 (uw 5 true false 10) (zzn 15 (uw 5 true false 10) (zza 16 (zB false) (zza 4 (zB false) (zzb (zzo (ret0 [.bool false] ⟨zzq, trivial⟩ fun u22 e23 => ?_)))))))))
  show _ = _
  rw [← Nt.same_q, hs15]
  rfl
theorem k_rqSign {u w : World} {r1 : RL} {x : Rat} {K : Nat} (d : Dat u w) (hr1 : RatV u r1 x K) (hK : K ≤ 100000000) : Calls Tryz.prog 132 #[r1.v] w (Post u w fun v u' => v = .int .i64 (Nt.sgQ x)) := by
 refine zzm (args := [r1.v]) Tryz.func132 rfl Tryz.ntmps132 (rs := [.tmp 2]) Tryz.results132 (le_b rfl) (le_b rfl) d ?_
 refine sq9 (zzk 1 ⟨74, r1.cs⟩ (zza 2 (zI 0) (zzb (sq9 (zzi 6 (.v (r1.v)) ty74 zze (zzg 7 154 [r1.v] ?_))))))
 intro w11 u11 e11 d11
 have k15 := k_parts d11 (hr1.ext e11) xq
 with_reducible refine zPm k15 ?_
 rintro _ u13 g14 ⟨i12, j12, z12, D12, rfl, hi12, hj12, hp12, hq12, hk12⟩
 refine zza 5 (.v (.tuple #[i12.v, j12.v])) (zza 8 (.v (i12.v)) (zza 9 (.v (j12.v)) (zzk 3 ⟨72, [.bool false, .slice none 0 0]⟩ (zzk 4 ⟨72, [.bool false, .slice none 0 0]⟩ (zzj ⟨72, i12.cs⟩ ty72 ?_)))))
 refine zzj ⟨72, j12.cs⟩ ty72 ?_
 refine zzb (sq9 (zzi 10 (.v (i12.v)) ty72 zze (zzg 11 134 [i12.v] ?_)))
 intro w16 u16 e16 d16
 have k19 := k_riSign d16 (hi12.ext e16) xq
 with_reducible refine zPm k19 ?_
 rintro _ u17 g18 rfl
 refine zza 2 (zI (Nt.cmpS z12 0)) (zzb (zzo (ret0 [.int .i64 (Nt.cmpS z12 0)] ⟨zzq, trivial⟩ fun u20 e21 => ?_)))
 show _ = _
 rw [hq12, ← Nt.sg_mk hp12]
 rfl
theorem k_signed {u w : World} {s : Bool} {x : Sl} {N K : Nat} (d : Dat u w) (h : NatN u x N K) : Calls Tryz.prog 128 #[.bool s, x.v] w (Post u w fun v u' => ∃ i : IL, v = i.v ∧ IntN u' i (Nt.sg s N) K) := by
 refine zzm (args := [.bool s, .slice x.a x.n x.c]) Tryz.func128 rfl Tryz.ntmps128 (rs := [.cell 4 72]) Tryz.results128 (le_b rfl) (le_b rfl) d ?_
 refine sq9 (zzk 4 ⟨72, [.bool false, .slice none 0 0]⟩ (zzb (sq9 (zza 5 (zB s) ?_))))
 rcases Bool.eq_false_or_eq_true s with hs11 | hs11
 ·refine zyq 6 (x := zB s) (zB true) (by rw [hs11]) (zza 7 (.v x.v) ?_ (hw := w1 1 true 6))
  refine zza 8 (zI x.n) ?_ (hw := w1 1 true 6)
  refine zza 9 (zB (decide ((0 : Int) < (x.n : Int)))) ?_ (hw := w1 1 true 6)
  refine zza 10 (zB (decide ((0 : Int) < (x.n : Int)))) (zza 11 (.v x.v) (zza 12 (.v (.agg #[.bool (decide ((0 : Int) < (x.n : Int))), x.v])) (zzj ⟨72, [.bool (decide ((0 : Int) < (x.n : Int))), x.v]⟩ ty72 ?_)))
  refine zzb (zzo (ret0 [.agg #[.bool (decide ((0 : Int) < (x.n : Int))), .slice x.a x.n x.c]] ⟨zzr ty72 zze, trivial⟩ fun u12 e13 => ?_))
  rw [hs11]
  exact ⟨⟨_, x⟩, rfl, signed_int (s := true) (h.ext e13)⟩
 ·refine zyq 6 (x := zB s) (zB false) (by rw [hs11]) (zzn 7 (uw 1 true false 6) (zzn 8 (uw 1 true false 6) (zzn 9 (uw 1 true false 6) (zza 10 (zB false) (zza 11 (.v x.v) (zza 12 (.v (.agg #[.bool false, x.v])) (zzj ⟨72, [.bool false, x.v]⟩ ty72 ?_)))))))
  refine zzb (zzo (ret0 [.agg #[.bool false, .slice x.a x.n x.c]] ⟨zzr ty72 zze, trivial⟩ fun u14 e15 => ?_))
  rw [hs11]
  exact ⟨⟨_, x⟩, rfl, signed_int (s := false) (h.ext e15)⟩
theorem k_intTrim {u w : World} {i1 : IL} {zN : Int} {K : Nat} (d : Dat u w) (hi1 : IntV u i1 zN K) (hK : K ≤ 500000000) : Calls Tryz.prog 143 #[i1.v] w (Post u w fun v u' => ∃ i : IL, v = i.v ∧ IntN u' i zN K) := by
 obtain ⟨N, hN, hzN⟩ := hi1
 refine zzm (args := [i1.v]) Tryz.func143 rfl Tryz.ntmps143 (rs := [.cell 2 72]) Tryz.results143 (le_b rfl) (le_b rfl) d ?_
 refine sq9 (zzk 1 ⟨72, i1.cs⟩ (zzk 2 ⟨72, [.bool false, .slice none 0 0]⟩ (zzb (zzd (zzz [0, 1, 0, 4, 12, 31, 63] [(0, []), (1, []), (2, []), (3, []), (4, []), (5, []), (6, [])] xj xj (zza 3 (.adr 1 0) (zzi 4 (zB i1.s) ty4 zzl (zza 5 (.adr 1 1) (zzi 6 (.v i1.m.v) ty70 zzl (zzg 7 129 [i1.m.v] ?_))))))))))
 intro w11 u11 e11 d11
 have k16 := k_natTrim d11 (hN.ext e11) xq
 with_reducible refine zPm k16 ?_
 rintro _ u14 g15 ⟨x12, rfl, h13⟩
 refine zzg 8 128 [.bool i1.s, x12.v] ?_
 intro w17 u17 e17 d17
 have k22 := k_signed d17 (s := i1.s) (h13.ext e17)
 with_reducible refine zPm k22 ?_
 rintro _ u20 g21 ⟨i18, rfl, h19⟩
 refine zzj ⟨72, i18.cs⟩ ty72 ?_
 refine zzb (zzo (ret0 [i18.v] ⟨zzr ty72 zze, trivial⟩ fun u23 e24 => ?_))
 refine ⟨i18, rfl, IntN.more (K := K) ?_ xq⟩
 rw [hzN]
 exact (h19.ext e24)
theorem k_intMul {u w : World} {i1 : IL} {zN : Int} {K : Nat} {i2 : IL} {zM : Int} {L : Nat} (d : Dat u w) (hi1 : IntV u i1 zN K) (hi2 : IntV u i2 zM L) (hK : K ≤ 500000000) (hL : L ≤ 500000000) : Calls Tryz.prog 109 #[i1.v, i2.v] w (Post u w fun v u' => ∃ i : IL, v = i.v ∧ IntN u' i (zN * zM) (K + L)) := by
 obtain ⟨N, hN, hzN⟩ := hi1
 obtain ⟨M, hM, hzM⟩ := hi2
 refine zzm (args := [i1.v, i2.v]) Tryz.func109 rfl Tryz.ntmps109 (rs := [.cell 4 72]) Tryz.results109 (le_b rfl) (le_b rfl) d ?_
 refine sq9 (zzk 2 ⟨72, i1.cs⟩ (zzk 3 ⟨72, i2.cs⟩ (zzk 4 ⟨72, [.bool false, .slice none 0 0]⟩ (zzb (zzd (zzz [0, 1, 0, 4, 15, 0, 32, 0, 128, 480, 1023, 2047] [(0, []), (1, []), (2, []), (3, []), (4, []), (5, []), (6, []), (7, []), (8, []), (9, []), (10, []), (11, [])] xj xj (zza 5 (.adr 2 0) (zzi 6 (zB i1.s) ty4 zzl (zza 7 (.adr 3 0) (zzi 8 (zB i2.s) ty4 zzl (zza 9 (zB (!(i1.s == i2.s))) ?_)))))))))))
 refine zza 10 (.adr 2 1) (zzi 11 (.v i1.m.v) ty70 zzl (zza 12 (.adr 3 1) (zzi 13 (.v i2.m.v) ty70 zzl (zzg 14 111 [i1.m.v, i2.m.v] ?_))))
 intro w11 u11 e11 d11
 have k16 := k_natMul d11 (hN.ext e11) (hM.ext e11) xq xq
 with_reducible refine zPm k16 ?_
 rintro _ u14 g15 ⟨x12, rfl, h13⟩
 refine zzg 15 128 [.bool (!(i1.s == i2.s)), x12.v] ?_
 intro w17 u17 e17 d17
 have k22 := k_signed d17 (s := !(i1.s == i2.s)) (h13.ext e17)
 with_reducible refine zPm k22 ?_
 rintro _ u20 g21 ⟨i18, rfl, h19⟩
 refine zzj ⟨72, i18.cs⟩ ty72 ?_
 refine zzb (zzo (ret0 [i18.v] ⟨zzr ty72 zze, trivial⟩ fun u23 e24 => ?_))
 refine ⟨i18, rfl, IntN.more (K := (K + L)) ?_ xq⟩
 rw [hzN, hzM, ← Nt.sg_mul]
 exact (h19.ext e24)
theorem k_intAdd {u w : World} {i1 : IL} {zN : Int} {K : Nat} {i2 : IL} {zM : Int} {L : Nat} (d : Dat u w) (hi1 : IntV u i1 zN K) (hi2 : IntV u i2 zM L) (hK : K ≤ 500000000) (hL : L ≤ 500000000) : Calls Tryz.prog 107 #[i1.v, i2.v] w (Post u w fun v u' => ∃ i : IL, v = i.v ∧ IntN u' i (zN + zM) (max K L + 1)) := by
 obtain ⟨N, hN, hzN⟩ := hi1
 obtain ⟨M, hM, hzM⟩ := hi2
 refine zzm (args := [i1.v, i2.v]) Tryz.func107 rfl Tryz.ntmps107 (rs := [.cell 4 72]) Tryz.results107 (le_b rfl) (le_b rfl) d ?_
 refine sq9 (zzk 2 ⟨72, i1.cs⟩ (zzk 3 ⟨72, i2.cs⟩ (zzk 4 ⟨72, [.bool false, .slice none 0 0]⟩ (zzb (zzd (sq9 (zza 5 (.adr 2 0) (zzi 6 (zB i1.s) ty4 zzl (zza 7 (.adr 3 0) (zzi 8 (zB i2.s) ty4 zzl (zza 9 (zB (i1.s == i2.s)) ?_)))))))))))
 refine zzb (zzu (b := i1.s == i2.s) xj (fun hb11 => ?_) (fun hb11 => ?_))
 ·replace hb11 : (i1.s == i2.s) = true := hb11
  refine zzd (zzz [0, 1, 0, 4, 0, 16, 60, 127, 255] [(0, []), (1, []), (2, []), (3, []), (4, []), (5, []), (6, []), (7, []), (8, [])] xj xj (zza 10 (.adr 2 0) (zzi 11 (zB i1.s) ty4 zzl (zza 12 (.adr 2 1) (zzi 13 (.v i1.m.v) ty70 zzl (zza 14 (.adr 3 1) (zzi 15 (.v i2.m.v) ty70 zzl (zzg 16 146 [i1.m.v, i2.m.v] ?_))))))))
  intro w12 u12 e12 d12
  have k17 := k_natAdd d12 (hN.ext e12) (hM.ext e12) xq xq
  with_reducible refine zPm k17 ?_
  rintro _ u15 g16 ⟨x13, rfl, h14⟩
  refine zzg 17 128 [.bool i1.s, x13.v] ?_
  intro w18 u18 e18 d18
  have k23 := k_signed d18 (s := i1.s) (h14.ext e18)
  with_reducible refine zPm k23 ?_
  rintro _ u21 g22 ⟨i19, rfl, h20⟩
  refine zzj ⟨72, i19.cs⟩ ty72 ?_
  refine zzb (zzo (zzw (ret0 [i19.v] ⟨zzr ty72 zze, trivial⟩ fun u24 e25 => ?_)))
  refine ⟨i19, rfl, IntN.more (K := (max K L + 1)) ?_ xq⟩
  rw [hzN, hzM, ← Nt.sg_add1 N M hb11]
  exact (h20.ext e25)
 ·replace hb11 : (i1.s == i2.s) = false := hb11
  refine zzs (zzp ?_)
  refine zzd (sq9 (zza 18 (.adr 2 1) (zzi 19 (.v i1.m.v) ty70 zzl (zza 20 (.adr 3 1) (zzi 21 (.v i2.m.v) ty70 zzl (zzg 22 108 [i1.m.v, i2.m.v] ?_))))))
  intro w26 u26 e26 d26
  have k29 := k_natCompare d26 (hN.ext e26) (hM.ext e26)
  with_reducible refine zPm k29 ?_
  rintro _ u27 g28 rfl
  refine zza 23 (zB ((Nt.cmpS N M) == (-1))) (zzb (zzu (b := (Nt.cmpS N M) == (-1)) xj (fun hb30 => ?_) (fun hb30 => ?_)))
  ·replace hb30 : ((Nt.cmpS N M) == (-1)) = true := hb30
   refine zzd (zzz [0, 1, 0, 4, 0, 16, 60, 127, 255] [(0, []), (1, []), (2, []), (3, []), (4, []), (5, []), (6, []), (7, []), (8, [])] xj xj (zza 24 (.adr 3 0) (zzi 25 (zB i2.s) ty4 zzl (zza 26 (.adr 3 1) (zzi 27 (.v i2.m.v) ty70 zzl (zza 28 (.adr 2 1) (zzi 29 (.v i1.m.v) ty70 zzl (zzg 30 147 [i2.m.v, i1.m.v] ?_))))))))
   intro w31 u31 e31 d31
   have k36 := k_natSub d31 (hM.ext (e26.trans (g28.ext.trans e31))) (hN.ext (e26.trans (g28.ext.trans e31))) xq xq
   with_reducible refine zPm k36 ?_
   rintro _ u34 g35 ⟨x32, rfl, h33⟩
   refine zzg 31 128 [.bool i2.s, x32.v] ?_
   intro w37 u37 e37 d37
   have k42 := k_signed d37 (s := i2.s) (h33.ext e37)
   with_reducible refine zPm k42 ?_
   rintro _ u40 g41 ⟨i38, rfl, h39⟩
   refine zzj ⟨72, i38.cs⟩ ty72 ?_
   refine zzb (zzo (zzw (ret0 [i38.v] ⟨zzr ty72 zze, trivial⟩ fun u43 e44 => ?_)))
   refine ⟨i38, rfl, IntN.more (K := L) ?_ xq⟩
   rw [hzN, hzM, ← Nt.sg_add2 N M hb11 hb30]
   exact (h39.ext e44)
  ·replace hb30 : ((Nt.cmpS N M) == (-1)) = false := hb30
   refine zzs (zzp ?_)
   refine zzd (zzz [0, 1, 0, 4, 0, 16, 60, 127, 255] [(0, []), (1, []), (2, []), (3, []), (4, []), (5, []), (6, []), (7, []), (8, [])] xj xj (zza 32 (.adr 2 0) (zzi 33 (zB i1.s) ty4 zzl (zza 34 (.adr 2 1) (zzi 35 (.v i1.m.v) ty70 zzl (zza 36 (.adr 3 1) (zzi 37 (.v i2.m.v) ty70 zzl (zzg 38 147 [i1.m.v, i2.m.v] ?_))))))))
   intro w45 u45 e45 d45
   have k50 := k_natSub d45 (hN.ext (e26.trans (g28.ext.trans e45))) (hM.ext (e26.trans (g28.ext.trans e45))) xq xq
   with_reducible refine zPm k50 ?_
   rintro _ u48 g49 ⟨x46, rfl, h47⟩
   refine zzg 39 128 [.bool i1.s, x46.v] ?_
   intro w51 u51 e51 d51
   have k56 := k_signed d51 (s := i1.s) (h47.ext e51)
   with_reducible refine zPm k56 ?_
   rintro _ u54 g55 ⟨i52, rfl, h53⟩
   refine zzj ⟨72, i52.cs⟩ ty72 ?_
   refine zzb (zzo (ret0 [i52.v] ⟨zzr ty72 zze, trivial⟩ fun u57 e58 => ?_))
   refine ⟨i52, rfl, IntN.more (K := K) ?_ xq⟩
   rw [hzN, hzM, ← Nt.sg_add3 N M hb11 hb30]
   exact (h53.ext e58)
theorem k_intSign {u w : World} {i1 : IL} {zN : Int} {K : Nat} (d : Dat u w) (hi1 : IntV u i1 zN K)  : Calls Tryz.prog 141 #[i1.v] w (Post u w fun v u' => v = .int .i64 (Nt.cmpS zN 0)) := by
 obtain ⟨N, hN, hzN⟩ := hi1
 refine zzm (args := [i1.v]) Tryz.func141 rfl Tryz.ntmps141 (rs := [.tmp 2]) Tryz.results141 (le_b rfl) (le_b rfl) d ?_
 refine sq9 (zzk 1 ⟨72, i1.cs⟩ (zza 2 (zI 0) (zzb (zzd (zzt (sq9 (zza 4 (.adr 1 1) (zzi 5 (.v i1.m.v) ty70 zzl (zzg 6 108 [i1.m.v, .slice none 0 0] ?_)))))))))
 intro w11 u11 e11 d11
 have k14 := k_natCompare d11 (hN.ext e11) (nat_nil _ 1)
 with_reducible refine zPm k14 ?_
 rintro _ u12 g13 rfl
 refine zza 7 (zB ((Nt.cmpS N 0) == 0)) (zza 3 (zB ((Nt.cmpS N 0) == 0)) (zzb (zzu (b := (Nt.cmpS N 0) == 0) xj (fun hb15 => ?_) (fun hb15 => ?_))))
 ·replace hb15 : ((Nt.cmpS N 0) == 0) = true := hb15
  refine sq9 (zza 2 (zI 0) (zzb (zzo (zyu (zzw (ret0 [.int .i64 0] ⟨zzq, trivial⟩ fun u16 e17 => ?_))))))
  show _ = _
  rw [hzN, Nt.sg_cmp0, if_pos hb15]
  rfl
 ·replace hb15 : ((Nt.cmpS N 0) == 0) = false := hb15
  refine sq9 (zza 9 (.adr 1 0) (zzi 10 (zB i1.s) ty4 zzl (zza 8 (zB i1.s) (zzb (zzu (b := i1.s) xj (fun hb18 => ?_) (fun hb18 => ?_))))))
  ·replace hb18 : i1.s = true := hb18
   refine sq9 (zza 2 (zI (-1)) (zzb (zzo (zyu (zzw (ret0 [.int .i64 (-1)] ⟨zzq, trivial⟩ fun u19 e20 => ?_))))))
   show _ = _
   rw [hzN, Nt.sg_cmp0, if_neg (ne_true_of_eq_false hb15), if_pos hb18]
   rfl
  ·replace hb18 : i1.s = false := hb18
   refine zzs (zzp ?_)
   refine sq9 (zza 2 (zI 1) (zzb (zzo (ret0 [.int .i64 1] ⟨zzq, trivial⟩ fun u21 e22 => ?_))))
   show _ = _
   rw [hzN, Nt.sg_cmp0, if_neg (ne_true_of_eq_false hb15), if_neg (ne_true_of_eq_false hb18)]
   rfl
namespace Nt
end Nt
theorem k_intOf {u w : World} {z : Int} (d : Dat u w) (h0 : -9223372036854775808 ≤ z) (h1 : z ≤ 9223372036854775807) : Calls Tryz.prog 88 #[.int .i64 z] w (Post u w fun v u' => ∃ i : IL, v = i.v ∧ IntN u' i z 2) := by
 by_cases hneg : z < 0
 ·refine zzm (args := [.int .i64 z]) Tryz.func88 rfl Tryz.ntmps88 (rs := [.cell 2 72]) Tryz.results88 (le_b rfl) (le_b rfl) d ?_
  refine sq9 (zzk 2 ⟨72, [.bool false, .slice none 0 0]⟩ (zzb (sq9 (zza 4 (zI z) (zyq 5 (x := .v (.int .u64 (IntKind.u64.wrap z))) (.v (.int .u64 (z + 18446744073709551616))) (by rw [show (IntKind.u64.wrap z) = (z + 18446744073709551616) from (by simp [IntKind.wrap, IntKind.bits, IntKind.signed]; omega)]) (zza 3 (.v (.int .u64 (z + 18446744073709551616))) (zzb (zzd (sq9 (zza 6 (zI z) (zyq 7 (x := zB (decide (z < 0))) (zB true) (by rw [show (decide (z < 0)) = true from yw]) ?_)))))))))))
  refine zzb (zyr xj (zzf (zza 8 (.v (.int .u64 (z + 18446744073709551616))) (zyq 9 (x := .v (.int .u64 (IntKind.u64.wrap (0 - (z + 18446744073709551616))))) (.v (.int .u64 (-z))) (by rw [show (IntKind.u64.wrap (0 - (z + 18446744073709551616))) = (-z) from (by simp [IntKind.wrap, IntKind.bits, IntKind.signed]; omega)]) (zza 3 (.v (.int .u64 (-z))) (zzb (sq9 (zza 10 (zI z) (zyq 11 (x := zB (decide (z < 0))) (zB true) (by rw [show (decide (z < 0)) = true from yw]) (zza 12 (.v (.int .u64 (-z))) (zyq 13 (x := .v (.int .u32 (IntKind.u32.wrap (-z)))) (.v (.int .u32 ((-z) % 4294967296))) (by rw [show (IntKind.u32.wrap (-z)) = ((-z) % 4294967296) from (IntKind.wrap_u32 _)]) ?_)))))))))))
  refine zza 14 (.v (.int .u64 (-z))) (zyq 15 (x := .v (.int .u64 (Int.fdiv (-z) (2 ^ 32)))) (.v (.int .u64 ((-z) / 4294967296))) (by rw [show (Int.fdiv (-z) (2 ^ 32)) = ((-z) / 4294967296) from (by rw [Int.fdiv_eq_ediv_of_nonneg _ yq]; rfl)]) (zyq 16 (x := .v (.int .u32 (IntKind.u32.wrap ((-z) / 4294967296)))) (.v (.int .u32 ((-z) / 4294967296))) (by rw [show (IntKind.u32.wrap ((-z) / 4294967296)) = ((-z) / 4294967296) from (IntWalk.u32_in _ xq)]) (zxy 17 ⟨159, [.int .u32 ((-z) % 4294967296), .int .u32 ((-z) / 4294967296)]⟩ 2 (fun b11 u12 e13 h14 => ?_))))
  refine zzg 18 129 [.slice (some ⟨b11, 0, none⟩) 2 2] ?_
  intro w15 u15 e15 d15
  have k20 := k_natTrim d15 ((two_data (N := z.natAbs) h14 xq xq xq).ext e15) xq
  with_reducible refine zPm k20 ?_
  rintro _ u18 g19 ⟨x16, rfl, h17⟩
  refine zzg 19 128 [.bool true, x16.v] ?_
  intro w21 u21 e21 d21
  have k26 := k_signed d21 (s := true) (h17.ext e21)
  with_reducible refine zPm k26 ?_
  rintro _ u24 g25 ⟨i22, rfl, h23⟩
  refine zzj ⟨72, i22.cs⟩ ty72 ?_
  refine zzb (zzo (ret0 [i22.v] ⟨zzr ty72 zze, trivial⟩ fun u27 e28 => ?_))
  refine ⟨i22, rfl, IntN.more (K := 2) ?_ xq⟩
  have e : z = Nt.sg true z.natAbs := by unfold Nt.sg; simp; omega
  rw [e]
  exact (h23.ext e28)
 ·refine zzm (args := [.int .i64 z]) Tryz.func88 rfl Tryz.ntmps88 (rs := [.cell 2 72]) Tryz.results88 (le_b rfl) (le_b rfl) d ?_
  refine sq9 (zzk 2 ⟨72, [.bool false, .slice none 0 0]⟩ (zzb (sq9 (zza 4 (zI z) (zyq 5 (x := .v (.int .u64 (IntKind.u64.wrap z))) (.v (.int .u64 (z))) (by rw [show (IntKind.u64.wrap z) = z from (by simp [IntKind.wrap, IntKind.bits, IntKind.signed]; omega)]) (zza 3 (.v (.int .u64 z)) (zzb (zzd (sq9 (zza 6 (zI z) (zyq 7 (x := zB (decide (z < 0))) (zB false) (by rw [show (decide (z < 0)) = false from yw]) ?_)))))))))))
  refine zzb (zys xj (zzs (zzp ?_)))
  refine sq9 (zza 10 (zI z) (zyq 11 (x := zB (decide (z < 0))) (zB false) (by rw [show (decide (z < 0)) = false from yw]) (zza 12 (.v (.int .u64 z)) (zyq 13 (x := .v (.int .u32 (IntKind.u32.wrap (z)))) (.v (.int .u32 ((z) % 4294967296))) (by rw [show (IntKind.u32.wrap (z)) = ((z) % 4294967296) from (IntKind.wrap_u32 _)]) (zza 14 (.v (.int .u64 z)) (zyq 15 (x := .v (.int .u64 (Int.fdiv (z) (2 ^ 32)))) (.v (.int .u64 ((z) / 4294967296))) (by rw [show (Int.fdiv (z) (2 ^ 32)) = ((z) / 4294967296) from (by rw [Int.fdiv_eq_ediv_of_nonneg _ yq]; rfl)]) (zyq 16 (x := .v (.int .u32 (IntKind.u32.wrap ((z) / 4294967296)))) (.v (.int .u32 ((z) / 4294967296))) (by rw [show (IntKind.u32.wrap ((z) / 4294967296)) = ((z) / 4294967296) from (IntWalk.u32_in _ xq)]) (zxy 17 ⟨159, [.int .u32 ((z) % 4294967296), .int .u32 ((z) / 4294967296)]⟩ 2 (fun b11 u12 e13 h14 => ?_)))))))))
  refine zzg 18 129 [.slice (some ⟨b11, 0, none⟩) 2 2] ?_
  intro w15 u15 e15 d15
  have k20 := k_natTrim d15 ((two_data (N := z.natAbs) h14 xq xq xq).ext e15) xq
  with_reducible refine zPm k20 ?_
  rintro _ u18 g19 ⟨x16, rfl, h17⟩
  refine zzg 19 128 [.bool false, x16.v] ?_
  intro w21 u21 e21 d21
  have k26 := k_signed d21 (s := false) (h17.ext e21)
  with_reducible refine zPm k26 ?_
  rintro _ u24 g25 ⟨i22, rfl, h23⟩
  refine zzj ⟨72, i22.cs⟩ ty72 ?_
  refine zzb (zzo (ret0 [i22.v] ⟨zzr ty72 zze, trivial⟩ fun u27 e28 => ?_))
  refine ⟨i22, rfl, IntN.more (K := 2) ?_ xq⟩
  have e : z = Nt.sg false z.natAbs := by unfold Nt.sg; simp; omega
  rw [e]
  exact (h23.ext e28)
end Go.Proofs.YtifcjcecmoimjaaGreat
