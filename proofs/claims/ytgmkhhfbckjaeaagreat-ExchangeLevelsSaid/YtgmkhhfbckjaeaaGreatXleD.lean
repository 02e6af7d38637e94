/- Parts of the proof: contracts of functions, each walked once, and plain laws. -/
import Derived.Test.YtgmkhhfbckjaeaaGreatXleC
import Derived.Test.YtgmkhhfbckjaeaaGreatProg
import Derived.KernelRfl
set_option linter.unusedVariables false
set_option maxHeartbeats 8000000
namespace Go.Proofs.YtgmkhhfbckjaeaaGreat
open Nt
namespace Nt
structure Pol where
 l : List Rat
 h : Nrm l
namespace Pol
def mk' (l : List Rat) : Pol := ⟨trimQ l, trim_nrm l⟩
def c (p : Pol) (i : Nat) : Rat := co p.l i
theorem mk_c (l : List Rat) (i : Nat) : (mk' l).c i = co l i := trim_co l i
theorem ext {p q : Pol} (h : ∀ i, p.c i = q.c i) : p = q := by
 obtain ⟨l, hl⟩ := p
 obtain ⟨m, hm⟩ := q
 have e : trimQ l = trimQ m := trim_ext h
 unfold Nrm at hl hm
 rw [hl, hm] at e
 subst e; rfl
theorem mk_l (p : Pol) : mk' p.l = p := ext fun i => mk_c _ i
def C (a : Rat) : Pol := mk' [a]
instance (n : Nat) : OfNat Pol n := ⟨C (n : Rat)⟩
instance : Add Pol := ⟨fun p q => mk' (addQ p.l q.l)⟩
instance : Mul Pol := ⟨fun p q => mk' (mulQ p.l q.l)⟩
instance : Neg Pol := ⟨fun p => mk' (negQ p.l)⟩
instance : Sub Pol := ⟨fun p q => p + -q⟩
def X : Pol := mk' [0, 1]
theorem c_add (p q : Pol) (i : Nat) : (p + q).c i = p.c i + q.c i := (mk_c _ i).trans (addQ_co _ _ i)
theorem c_neg (p : Pol) (i : Nat) : (-p).c i = -p.c i := (mk_c _ i).trans (negQ_co _ i)
theorem c_C (a : Rat) (i : Nat) : (C a).c i = if i = 0 then a else 0 := by
 unfold C
 rw [mk_c]
 cases i with
 | zero => rfl
 | succ i => rw [zxv, co_nil, if_neg xq]
theorem c_zero (i : Nat) : (0 : Pol).c i = 0 := by
 have h : (0 : Pol).c i = if i = 0 then (0 : Rat) else 0 := c_C 0 i
 rw [h]; split <;> rfl
theorem zero_l : (0 : Pol).l = [] := zxz.2 fun i => by
 have := c_zero i
 unfold c at this
 show co [((0 : Nat) : Rat)] i = 0
 rw [← trim_co]; exact this
theorem mk_add (l m : List Rat) : mk' (addQ l m) = mk' l + mk' m := ext fun i => by rw [mk_c, addQ_co, c_add, mk_c, mk_c]
theorem mk_mul (l m : List Rat) : mk' (mulQ l m) = mk' l * mk' m := ext fun i => by
 show _ = (mk' (mulQ (trimQ l) (trimQ m))).c i
 rw [mk_c, mk_c]
 exact zwh (fun i => (trim_co l i).symm) (fun i => (trim_co m i).symm) i
theorem c_mul (p q : Pol) (i : Nat) : (p * q).c i = co (mulQ p.l q.l) i := mk_c _ i
theorem mk_cons (a : Rat) (l : List Rat) (i : Nat) : (mk' (a :: l)).c i = if i = 0 then a else (mk' l).c (i - 1) := by
 rw [mk_c]
 cases i with
 | zero => rfl
 | succ i => rw [zxv, if_neg xq, mk_c]; rfl
theorem mulQ_consR (l : List Rat) (b : Rat) (m : List Rat) (k : Nat) : co (mulQ l (b :: m)) k = b * co l k + sh (co (mulQ l m)) k := by
 induction l generalizing k with
 | nil =>
  rw [mulQ_nil, co_nil]
  have e : sh (co (mulQ [] m)) k = 0 := by unfold sh; split <;> rfl
  rw [e]; grind
 | cons a l ih =>
  rw [zxe]
  cases k with
  | zero => unfold sh; rw [if_pos rfl, if_pos rfl, co_zero, co_zero]; grind
  | succ k =>
   have e1 : sh (co (mulQ l (b :: m))) (k + 1) = b * co l k + sh (co (mulQ l m)) k := by
    unfold sh; rw [if_neg xq, Nat.add_sub_cancel]; exact ih k
   have e2 : sh (co (mulQ (a :: l) m)) (k + 1) = a * co m k + sh (co (mulQ l m)) k := by
    unfold sh; rw [if_neg xq, Nat.add_sub_cancel]; exact zxe a l m k
   rw [e1, e2, zxv, zxv]; grind
theorem mulQ_comm (l m : List Rat) (k : Nat) : co (mulQ l m) k = co (mulQ m l) k := by
 induction l generalizing k with
 | nil =>
  rw [mulQ_nil]
  exact (mulQ_zero_r (m := []) (fun i => co_nil i) m k).symm
 | cons a l ih =>
  rw [zxe, mulQ_consR]
  have e : sh (co (mulQ l m)) k = sh (co (mulQ m l)) k := by unfold sh; split; rfl; exact ih _
  rw [e]
theorem mulQ_add (l l' m : List Rat) (k : Nat) : co (mulQ (addQ l l') m) k = co (mulQ l m) k + co (mulQ l' m) k := by
 induction m generalizing k with
 | nil =>
  rw [mulQ_zero_r (fun i => co_nil i), mulQ_zero_r (fun i => co_nil i), mulQ_zero_r (fun i => co_nil i)]; exact (Rat.add_zero 0).symm
 | cons b m ih =>
  rw [mulQ_consR, mulQ_consR, mulQ_consR, addQ_co]
  cases k with
  | zero => unfold sh; rw [if_pos rfl, if_pos rfl, if_pos rfl]; grind
  | succ k =>
   have e : ∀ x : List Rat, sh (co x) (k + 1) = co x k := fun x => by unfold sh; rw [if_neg xq, Nat.add_sub_cancel]
   rw [e, e, e, ih k]; grind
theorem mulQ_assoc (l m n : List Rat) (k : Nat) : co (mulQ (mulQ l m) n) k = co (mulQ l (mulQ m n)) k := by
 induction l generalizing k with
 | nil => rfl
 | cons a l ih =>
  show co (mulQ (addQ (m.map (a * ·)) (0 :: mulQ l m)) n) k = _
  rw [mulQ_add, mulQ_scale_l, zxe, zxe]
  cases k with
  | zero => unfold sh; rw [if_pos rfl, if_pos rfl]; grind
  | succ k =>
   have e : ∀ x : List Rat, sh (co x) (k + 1) = co x k := fun x => by unfold sh; rw [if_neg xq, Nat.add_sub_cancel]
   rw [e, e, ih k]; grind
theorem mulQ_one (m : List Rat) (k : Nat) : co (mulQ [1] m) k = co m k := by
 rw [zxe]
 have e : sh (co (mulQ [] m)) k = 0 := by unfold sh; split <;> rfl
 rw [e]; grind
theorem mul_comm (p q : Pol) : p * q = q * p := ext fun i => by rw [c_mul, c_mul, mulQ_comm]
theorem mul_assoc (p q r : Pol) : p * q * r = p * (q * r) := ext fun i => by
 rw [c_mul, c_mul]
 show co (mulQ (trimQ (mulQ p.l q.l)) r.l) i = co (mulQ p.l (trimQ (mulQ q.l r.l))) i
 rw [zwh (l' := mulQ p.l q.l) (m' := r.l) (trim_co _) (fun _ => rfl), zwh (l' := p.l) (m' := mulQ q.l r.l) (fun _ => rfl) (trim_co _)]
 exact mulQ_assoc _ _ _ i
theorem one_mul (p : Pol) : 1 * p = p := ext fun i => by
 rw [c_mul]
 show co (mulQ (trimQ [((1 : Nat) : Rat)]) p.l) i = _
 rw [zwh (l' := [((1 : Nat) : Rat)]) (m' := p.l) (trim_co _) (fun _ => rfl)]
 exact mulQ_one _ i
theorem right_distrib (p q r : Pol) : (p + q) * r = p * r + q * r := ext fun i => by
 rw [c_mul, c_add, c_mul, c_mul]
 show co (mulQ (trimQ (addQ p.l q.l)) r.l) i = _
 rw [zwh (l' := addQ p.l q.l) (m' := r.l) (trim_co _) (fun _ => rfl)]
 exact mulQ_add _ _ _ i
theorem add_comm (p q : Pol) : p + q = q + p := ext fun i => by rw [c_add, c_add]; grind
theorem add_assoc (p q r : Pol) : p + q + r = p + (q + r) := ext fun i => by rw [c_add, c_add, c_add, c_add]; grind
theorem add_zero (p : Pol) : p + 0 = p := ext fun i => by rw [c_add, c_zero]; grind
theorem neg_add_cancel (p : Pol) : -p + p = 0 := ext fun i => by rw [c_add, c_neg, c_zero]; grind
theorem zero_mul (p : Pol) : 0 * p = 0 := ext fun i => by rw [c_mul, zero_l, mulQ_nil, c_zero]
theorem left_distrib (p q r : Pol) : p * (q + r) = p * q + p * r := by rw [mul_comm, right_distrib, mul_comm q, mul_comm r]
theorem mul_zero (p : Pol) : p * 0 = 0 := by rw [mul_comm, zero_mul]
theorem mul_one (p : Pol) : p * 1 = p := by rw [mul_comm, one_mul]
instance : NatCast Pol := ⟨fun n => C (n : Rat)⟩
instance : IntCast Pol := ⟨fun n => C (n : Rat)⟩
def npow (p : Pol) : Nat → Pol
 | 0 => 1
 | n + 1 => npow p n * p
instance : HPow Pol Nat Pol := ⟨npow⟩
instance : SMul Nat Pol := ⟨fun n p => C (n : Rat) * p⟩
instance : SMul Int Pol := ⟨fun n p => C (n : Rat) * p⟩
theorem C_add (a b : Rat) : C (a + b) = C a + C b := ext fun i => by
 rw [c_add, c_C, c_C, c_C]; split <;> grind
theorem C_neg (a : Rat) : C (-a) = -C a := ext fun i => by
 rw [c_neg, c_C, c_C]; split <;> grind
theorem C_zero : C 0 = 0 := rfl
theorem C_mul (a b : Rat) : C (a * b) = C a * C b := by
 show mk' [a * b] = mk' [a] * mk' [b]
 rw [← mk_mul]
 refine ext fun i => ?_
 rw [mk_c, mk_c, zxe]
 have e : sh (co (mulQ [] [b])) i = 0 := by unfold sh; split <;> rfl
 rw [e]
 cases i with
 | zero => rw [co_zero, co_zero]; grind
 | succ i => rw [zxv, zxv, co_nil]; grind
instance : Lean.Grind.CommRing Pol where
 add_zero := add_zero
 add_comm := add_comm
 add_assoc := add_assoc
 mul_assoc := mul_assoc
 mul_one := mul_one
 one_mul := one_mul
 left_distrib := left_distrib
 right_distrib := right_distrib
 zero_mul := zero_mul
 mul_zero := mul_zero
 mul_comm := mul_comm
 pow_zero := fun p => rfl
 pow_succ := fun p n => rfl
 neg_add_cancel := neg_add_cancel
 sub_eq_add_neg := fun p q => rfl
 ofNat_succ := fun n => by
  show C ((n + 1 : Nat) : Rat) = C (n : Rat) + C 1
  rw [← C_add]; congr 1
  exact Rat.natCast_add n 1
 ofNat_eq_natCast := fun n => rfl
 intCast_ofNat := fun n => rfl
 intCast_neg := fun n => by
  show C ((-n : Int) : Rat) = -C (n : Rat)
  rw [← C_neg, Rat.intCast_neg]
 nsmul_eq_natCast_mul := fun n p => rfl
 zsmul_natCast_eq_nsmul := fun n p => rfl
 neg_zsmul := fun n p => by
  show C ((-n : Int) : Rat) * p = -(C (n : Rat) * p)
  rw [Rat.intCast_neg, C_neg]
  refine ext fun i => ?_
  rw [c_neg, c_mul, c_mul]
  show co (mulQ (trimQ (negQ (C (n : Rat)).l)) p.l) i = _
  rw [zwh (l' := negQ (C (n : Rat)).l) (m' := p.l) (trim_co _) (fun _ => rfl)]
  have e : negQ (C (n : Rat)).l = (C (n : Rat)).l.map ((-1) * ·) := by unfold negQ; congr 1; funext x; grind
  rw [e, mulQ_scale_l]; grind
example (p q : Pol) : (p + q) * (p - q) = p * p - q * q := by grind
example (p q : Pol) : (p + q) ^ 2 = p ^ 2 + 2 * p * q + q ^ 2 := by grind
end Pol
end Nt
namespace Nt
theorem mulQ_far {l m : List Rat} {k : Nat} (h : l.length + m.length ≤ k + 1) : co (mulQ l m) k = 0 := by
 induction l generalizing k with
 | nil => rfl
 | cons a l ih =>
  rw [zxe, co_ge (l := m) (by simp at h; omega)]
  unfold sh
  split
  ·grind
  rw [ih (by simp at h; omega)]; grind
namespace Pol
def len (p : Pol) : Nat := p.l.length
theorem c_ge {p : Pol} {i : Nat} (h : p.len ≤ i) : p.c i = 0 := co_ge h
theorem len_le {p : Pol} {n : Nat} (h : ∀ i, n ≤ i → p.c i = 0) : p.len ≤ n := by
 apply Classical.byContradiction
 intro k
 have h1 : p.l.length > n := by unfold len at k; omega
 have h2 := nrm_last p.h (by intro e; rw [e] at h1; simp at h1)
 exact h2 (h _ xq)
theorem zero_of_len {p : Pol} (h : p.len = 0) : p = 0 := ext fun i => by rw [c_zero, c_ge xq]
instance : Dvd Pol := ⟨fun q p => ∃ u, p = q * u⟩
theorem mk_cons' (a : Rat) (l : List Rat) : mk' (a :: l) = C a + X * mk' l := ext fun i => by
 have hX : ∀ p : Pol, (X * p).c i = if i = 0 then 0 else p.c (i - 1) := fun p => by
  rw [c_mul]
  show co (mulQ (trimQ [0, 1]) p.l) i = _
  rw [zwh (l' := [0, 1]) (m' := p.l) (trim_co _) (fun _ => rfl), zxe]
  unfold sh
  split
  ·grind
  rw [mulQ_one]; show 0 * _ + p.c (i - 1) = _; grind
 rw [c_add, hX, mk_cons, c_C]
 split <;> grind
theorem ind {P : Pol → Prop} (h0 : P 0) (h1 : ∀ a p, P p → P (C a + X * p)) (p : Pol) : P p := by
 rw [← mk_l p]
 generalize p.l = l
 induction l with
 | nil => exact (zero_of_len (p := mk' []) rfl) ▸ h0
 | cons a l ih => rw [mk_cons']; exact h1 a _ ih
def D (p : Pol) : Pol := mk' (derQ p.l)
def evL : List Rat → Rat → Rat
 | [], x => 0
 | a :: l, x => a + x * evL l x
theorem evL_zero {l : List Rat} (h : ∀ i, co l i = 0) (x : Rat) : evL l x = 0 := by
 induction l with
 | nil => rfl
 | cons a l ih =>
  have h0 : a = 0 := h 0
  show a + x * evL l x = 0
  rw [ih fun i => by rw [← zxv a]; exact h (i + 1), h0]; grind
theorem evL_congr {l m : List Rat} (h : ∀ i, co l i = co m i) (x : Rat) : evL l x = evL m x := by
 induction l generalizing m with
 | nil => rw [evL_zero (l := m) fun i => by rw [← h i, co_nil]]; rfl
 | cons a l ih =>
  cases m with
  | nil => rw [evL_zero (l := a :: l) fun i => by rw [h i, co_nil]]; rfl
  | cons b m =>
   have h0 : a = b := h 0
   show a + x * evL l x = b + x * evL m x
   have e := ih (m := m) (fun i => by have := h (i + 1); rw [zxv, zxv] at this; exact this)
   rw [h0, e]
def ev (p : Pol) (x : Rat) : Rat := evL p.l x
theorem mk_ev (l : List Rat) (x : Rat) : (mk' l).ev x = evL l x := evL_congr (trim_co l) x
theorem ev_zero (x : Rat) : ev 0 x = 0 := evL_zero (fun i => c_zero i) x
theorem ev_cons (a : Rat) (p : Pol) (x : Rat) : ev (C a + X * p) x = a + x * ev p x := by
 have e : C a + X * p = mk' (a :: p.l) := by rw [mk_cons', mk_l]
 rw [e, mk_ev]; rfl
theorem ev_add (p q : Pol) (x : Rat) : ev (p + q) x = ev p x + ev q x := by
 induction p using ind generalizing q with
 | h0 => rw [ev_zero, show (0 : Pol) + q = q by grind]; grind
 | h1 a p ih =>
  induction q using ind with
  | h0 => rw [ev_zero, add_zero]; grind
  | h1 b q _ =>
   have e : C a + X * p + (C b + X * q) = C (a + b) + X * (p + q) := by rw [C_add]; grind
   rw [e, ev_cons, ev_cons, ev_cons, ih]; grind
theorem ev_Cmul (a : Rat) (p : Pol) (x : Rat) : ev (C a * p) x = a * ev p x := by
 induction p using ind with
 | h0 => rw [mul_zero, ev_zero]; grind
 | h1 b p ih =>
  have e : C a * (C b + X * p) = C (a * b) + X * (C a * p) := by rw [C_mul]; grind
  rw [e, ev_cons, ev_cons, ih]; grind
theorem ev_mul (p q : Pol) (x : Rat) : ev (p * q) x = ev p x * ev q x := by
 induction p using ind with
 | h0 => rw [zero_mul, ev_zero]; grind
 | h1 a p ih =>
  have e : (C a + X * p) * q = C a * q + (C 0 + X * (p * q)) := by rw [C_zero]; grind
  rw [e, ev_add, ev_Cmul, ev_cons, ih, ev_cons]; grind
end Pol
end Nt
namespace Nt
def prim (l : List Rat) : List Rat := (trimQ l).map (· / msr (trimQ l))
@[simp] theorem prim_len (l : List Rat) : (prim l).length = (trimQ l).length := by simp [prim]
end Nt
open Go.RowKit Go.ChangeShapes Go.WideShapes
namespace Nt
section
variable {l m : List Rat} {D E A B K : Nat} {q : Rat}
theorem dz (h : 0 < D) : ((D : Int) : Rat) ≠ 0 := fun e => by
 have := Rat.intCast_inj.1 (show ((D : Int) : Rat) = ((0 : Int) : Rat) from e); omega
theorem dl_dg {n C : Nat} (h : n ≤ 2 ^ C) : dl n ≤ dg C := by
 refine dl_le ?_
 rw [pwTwo]
 exact Int.ofNat_lt.2 (Nat.lt_of_le_of_lt h (Nat.pow_lt_pow_right xq (by unfold dg; omega)))
theorem wh_rs {x : Rat} (h0 : 0 < D) (h : Wh (x * ((D : Int) : Rat)) A) (hD : D ≤ 2 ^ A) : rs x ≤ dg A := by
 obtain ⟨z, hz, hb⟩ := h
 have h1 := dz h0
 have e : x = mkRat z D := by rw [← mk_div, ← hz]; grind
 rw [e]
 exact rs_mk (dl_dg hb) (dl_dg hD) (by unfold dg; omega)
end
end Nt
section
variable {H : Type} {enc : TypeId × Value → H} {w : World} {base : Nat} {spare : Nat → Bool} {held : Bool} {fuel : Nat} {r0 : Reach} {b0 : Nat} {v : Value} {d : DataW H} {p : List MemPlace}
set_option maxRecDepth 100000 in
theorem ar_intsv (hv : Value.okWide Tryz.prog w r0 b0 22 v) (h : DataW.Trod enc Tryz.prog w base spare held 22 v d p) : ∃ (s : Sl) (l : List Int), v = s.v ∧ SlR .i64 w s.a s.n s.c l ∧ ∀ z ∈ l, -9223372036854775808 ≤ z ∧ z ≤ 9223372036854775807 := by
 obtain ⟨a, n, c, rfl⟩ := okWide_slice Tryz.underlying22 hv
 obtain ⟨fuel, hf⟩ := h
 obtain ⟨s, l, h1, h2, h3⟩ := ar_slr (k := .i64) (e := 3) xj xj xj hf
 have h1 : [Value.slice a n c] = [s.v] := h1
 exact ⟨s, l, (List.cons.inj h1).1, h2, fun z hz => wf_i64 (h3 z hz)⟩
theorem rcs_ix {L : List RL} {i k : Nat} (h : i < L.length) (hk : k < 3) : (rcs L)[i * 3 + k]? = (L.getD i rl0).cs[k]? := by
 rw [← rcs_get h, List.getElem?_take_of_lt hk, List.getElem?_drop]
set_option maxRecDepth 100000 in
theorem ar_pol {cs : List Value} {x : DataW H × List MemPlace} (h : DataW.trod enc Tryz.prog w base spare held fuel 27 cs = some x) : ∃ (s : Sl) (l : List Rat) (K : Nat), cs = [s.v] ∧ PolV w s l K := by
 rcases Go.Deep.open_slice (e := 32) xj h with ⟨rfl, _⟩ | ⟨a, n, c, m, k, D, Pl, rfl, _, hl, hm, hmm, _, hi⟩
 ·exact ⟨⟨none, 0, 0⟩, [], 1, rfl, (pol_nil _ _).raw⟩
 have e3 : Tryz.prog.cellsOf 32 = 3 := by kernel_rfl
 rw [e3] at hi
 have hnm : n ≤ m := by rw [hmm]; split <;> omega
 have hi2 : ∀ i : Nat, ∃ z : RL × Rat × Nat, i < n → RatV w z.1 z.2.1 z.2.2 ∧ ∀ k, k < 3 → w.cell? ((a.add (i * 3)).add k) = z.1.cs[k]? := by
  intro i
  by_cases hin : i < n
  ·obtain ⟨cs', h1, h2⟩ := hi i xq
   obtain ⟨r, q, K, h3, h4⟩ := ar_rat h2
   have h5 := (World.cells?_some h1).2.2
   rw [h3] at h5
   exact ⟨(r, q, K), fun _ => ⟨h4, h5⟩⟩
  exact ⟨(rl0, 0, 0), fun e => absurd e hin⟩
 obtain ⟨f, hf⟩ := Classical.skolem.1 hi2
 have hK : ∀ n : Nat, ∃ K, ∀ i, i < n → (f i).2.2 ≤ K := by
  intro n
  induction n with
  | zero => exact ⟨0, fun i h => absurd h (Nat.not_lt_zero i)⟩
  | succ n ih =>
   obtain ⟨K, hK⟩ := ih
   refine ⟨max K (f n).2.2, fun i hi => ?_⟩
   by_cases e : i = n
   ·rw [e]; exact Nat.le_max_right _ _
   exact Nat.le_trans (hK i xq) (Nat.le_max_left _ _)
 obtain ⟨K, hK⟩ := hK n
 refine ⟨⟨some a, n, c⟩, (List.range n).map fun i => (f i).2.1, K, rfl, (List.range n).map fun i => (f i).1, ⟨by rw [zyy]; simp, hl, hm, fun hp => ?_⟩, by simp, fun i hi => ?_⟩
 ·have hp : 0 < n := hp
  obtain ⟨b, o, sp⟩ := a
  have h0 := (hf 0 hp).2 0 xq
  have e0 : ((⟨b, o, sp⟩ : Addr).add (0 * 3)).add 0 = ⟨b, o, sp⟩ := by simp [Addr.add]
  rw [e0] at h0
  have hsp : sp = none := by
   have h1 : (f 0).1.cs[0]? = some (.bool (f 0).1.s) := rfl
   rw [h1] at h0
   simpa using World.cell?_spot h0
  subst hsp
  refine ⟨b, o, rfl, fun j hj => ?_⟩
  rw [zyy, List.length_map, List.length_range] at hj
  have hq : j / 3 < n := by omega
  have h2 := (hf (j / 3) hq).2 (j % 3) xq
  have e1 : ((⟨b, o, none⟩ : Addr).add (j / 3 * 3)).add (j % 3) = ⟨b, o + j, none⟩ := by rw [addr_add, addr_add, show o + j / 3 * 3 + j % 3 = o + j by omega]
  rw [e1] at h2
  have h3 := rcs_ix (L := (List.range n).map fun i => (f i).1) (i := j / 3) (k := j % 3) yw xq
  rw [show j / 3 * 3 + j % 3 = j by omega] at h3
  rw [h2, h3]
  simp [List.getElem?_range hq]
 simp only [List.length_map, List.length_range] at hi
 have h9 := ((hf i hi).1).more (hK i hi)
 simpa [qyg, List.getElem?_range hi] using h9
set_option maxRecDepth 100000 in
theorem ar_polv (hv : Value.okWide Tryz.prog w r0 b0 27 v) (h : DataW.Trod enc Tryz.prog w base spare held 27 v d p) : ∃ (s : Sl) (l : List Rat) (K : Nat), v = s.v ∧ PolV w s l K := by
 obtain ⟨a, n, c, rfl⟩ := okWide_slice (e := 32) xj hv
 obtain ⟨fuel, hf⟩ := h
 obtain ⟨s, l, K, h1, h2⟩ := ar_pol hf
 have h1 : [Value.slice a n c] = [s.v] := h1
 exact ⟨s, l, K, (List.cons.inj h1).1, h2⟩
end
end Go.Proofs.YtgmkhhfbckjaeaaGreat
namespace Go.Proofs.YtgmkhhfbckjaeaaGreat
open Nt
open Go.RowKit
theorem ty3 : TyIs Tryz.prog 3 false 1 := fun w => ⟨by kernel_rfl, by kernel_rfl⟩
theorem ty4 : TyIs Tryz.prog 4 false 1 := fun w => ⟨by kernel_rfl, by kernel_rfl⟩
theorem ty22 : TyIs Tryz.prog 22 false 1 := fun w => ⟨by kernel_rfl, by kernel_rfl⟩
theorem ty26 : TyIs Tryz.prog 26 false 1 := fun w => ⟨by kernel_rfl, by kernel_rfl⟩
theorem ty27 : TyIs Tryz.prog 27 false 1 := fun w => ⟨by kernel_rfl, by kernel_rfl⟩
theorem ty28 : TyIs Tryz.prog 28 false 1 := fun w => ⟨by kernel_rfl, by kernel_rfl⟩
theorem ty30 : TyIs Tryz.prog 30 true 2 := fun w => ⟨by kernel_rfl, by kernel_rfl⟩
theorem ty32 : TyIs Tryz.prog 32 true 3 := fun w => ⟨by kernel_rfl, by kernel_rfl⟩
theorem ty34 : TyIs Tryz.prog 34 true 5 := fun w => ⟨by kernel_rfl, by kernel_rfl⟩
theorem ty56 : TyIs Tryz.prog 56 true 9 := fun w => ⟨by kernel_rfl, by kernel_rfl⟩
theorem ty133 : TyIs Tryz.prog 133 false 1 := fun w => ⟨by kernel_rfl, by kernel_rfl⟩
theorem ty195 : TyIs Tryz.prog 195 true 3 := fun w => ⟨by kernel_rfl, by kernel_rfl⟩
theorem ty197 : TyIs Tryz.prog 197 true 4 := fun w => ⟨by kernel_rfl, by kernel_rfl⟩
theorem sl22 : SlIs Tryz.prog 22 1 := ⟨3, false, by kernel_rfl, ty3⟩
theorem sl23 : SlIs Tryz.prog 23 9 := ⟨56, true, by kernel_rfl, ty56⟩
theorem sl26 : SlIs Tryz.prog 26 3 := ⟨32, true, by kernel_rfl, ty32⟩
theorem sl27 : SlIs Tryz.prog 27 3 := ⟨32, true, by kernel_rfl, ty32⟩
theorem sl28 : SlIs Tryz.prog 28 1 := ⟨133, false, by kernel_rfl, ty133⟩
theorem sl62 : SlIs Tryz.prog 62 1 := ⟨22, false, by kernel_rfl, ty22⟩
theorem sl75 : SlIs Tryz.prog 75 1 := ⟨26, false, by kernel_rfl, ty26⟩
theorem sl191 : SlIs Tryz.prog 191 2 := ⟨30, true, by kernel_rfl, ty30⟩
theorem k_riTrim {u w : World} {i1 : IL} {zN : Int} {K : Nat} (d : Dat u w) (hi1 : IntV u i1 zN K) (hK : K ≤ 500000000) : qyc 154 #[i1.v] w (Post u w fun v u' => ∃ i : IL, v = i.v ∧ IntN u' i zN K) := by
 obtain ⟨N, hN, hzN⟩ := hi1
 refine zzm (args := [i1.v]) Tryz.func154 rfl Tryz.ntmps154 (rs := [.cell 2 30]) Tryz.results154 (le_b rfl) (le_b rfl) d ?_
 refine sq9 (zzk 1 ⟨30, i1.cs⟩ (zzk 2 ⟨30, [.bool false, qyn]⟩ (zzb (sq9 (zza 4 (.adr 1 1) (zzi 5 (.v (i1.m.v)) ty28 zzl (zzg 6 157 _ fun _ _ ae ag => qym (k_rnTrim ag (hN.ext ae) xq) ?_)))))))
 rintro _ u14 g15 ⟨aa, rfl, ac⟩
 refine zza 3 (.v (aa.v)) (zzb (sq9 (zza 7 (.adr 1 0) (zzi 8 (zB i1.s) ty4 zzl ?_))))
 rcases Bool.eq_false_or_eq_true i1.s with hs17 | hs17
 ·refine zyq 9 (x := zB i1.s) (zB true) (by rw [hs17]) (zza 10 (.v (aa.v)) ?_ (hw := w1 2 true 9))
  refine zza 11 (zI aa.n) ?_ (hw := w1 2 true 9)
  refine zza 12 (zB (decide ((0 : Int) < (aa.n : Int)))) ?_ (hw := w1 2 true 9)
  refine zza 13 (zB (decide ((0 : Int) < (aa.n : Int)))) (zza 14 (.v (aa.v)) (zza 15 (.v (.agg #[.bool (decide ((0 : Int) < (aa.n : Int))), aa.v])) (zzj ⟨30, [.bool (decide ((0 : Int) < (aa.n : Int))), aa.v]⟩ ty30 ?_)))
  refine zzb (zzo (ret0 [.agg #[.bool (decide ((0 : Int) < (aa.n : Int))), aa.v]] ⟨zzr ty30 zze, trivial⟩ fun u18 af => ?_))
  refine ⟨⟨_, aa⟩, rfl, ?_⟩
  rw [hzN, hs17]
  exact signed_int (s := true) (ac.ext af)
 refine zyq 9 (x := zB i1.s) (zB false) (by rw [hs17]) (zzn 10 (uw 2 true false 9) (zzn 11 (uw 2 true false 9) (zzn 12 (uw 2 true false 9) (zza 13 (zB false) (zza 14 (.v (aa.v)) (zza 15 (.v (.agg #[.bool false, aa.v])) (zzj ⟨30, [.bool false, aa.v]⟩ ty30 ?_)))))))
 refine zzb (zzo (ret0 [.agg #[.bool false, aa.v]] ⟨zzr ty30 zze, trivial⟩ fun u20 ad => ?_))
 refine ⟨⟨_, aa⟩, rfl, ?_⟩
 rw [hzN, hs17]
 exact signed_int (s := false) (ac.ext ad)
theorem k_riSign {u w : World} {i1 : IL} {zN : Int} {K : Nat} (d : Dat u w) (hi1 : IntV u i1 zN K) (hK : K ≤ 500000000) : qyc 96 #[i1.v] w (Post u w fun v u' => v = .int .i64 (Nt.cmpS zN 0)) := by
 refine zzm (args := [i1.v]) Tryz.func96 rfl Tryz.ntmps96 (rs := [.tmp 2]) Tryz.results96 (le_b rfl) (le_b rfl) d ?_
 refine sq9 (zzk 1 ⟨30, i1.cs⟩ (zza 2 (zI 0) (zzb (sq9 (zzi 3 (.v (i1.v)) ty30 zze (zzg 4 154 _ fun _ _ ag ah => qym (k_riTrim ah (hi1.ext ag) xq) ?_))))))
 rintro _ u14 g15 ⟨ac, rfl, af⟩
 refine zzj ⟨30, ac.cs⟩ ty30 ?_
 refine zzb (zzd (zzt (sq9 (zza 6 (.adr 1 1) (zzi 7 (.v (ac.m.v)) ty28 zzl (zza 8 (zI ac.m.n) (zza 9 (zB ((ac.m.n : Int) == 0)) (zza 5 (zB ((ac.m.n : Int) == 0)) (zzb (zzu (b := (ac.m.n : Int) == 0) xj (fun ad => ?_) (fun ad => ?_)))))))))))
 ·have ae : (ac.m.n : Int) = 0 := by simpa using ad
  refine sq9 (zza 2 (zI 0) (zzb (zzo (zyu (zzw (ret0 [.int .i64 0] ⟨zzq, trivial⟩ fun u18 e19 => ?_))))))
  show _ = _
  rw [sign_len af, if_pos ad]
  rfl
 have ae : ¬ ((ac.m.n : Int) = 0) := by simpa using ad
 refine sq9 (zza 11 (.adr 1 0) (zzi 12 (zB ac.s) ty4 zzl (zza 10 (zB ac.s) (zzb (zzu (b := ac.s) xj (fun aa => ?_) (fun aa => ?_))))))
 ·replace aa : ac.s = true := aa
  refine sq9 (zza 2 (zI (-1)) (zzb (zzo (zyu (zzw (ret0 [.int .i64 (-1)] ⟨zzq, trivial⟩ fun u21 e22 => ?_))))))
  show _ = _
  rw [sign_len af, if_neg (ne_true_of_eq_false ad), if_pos aa]
  rfl
 replace aa : ac.s = false := aa
 refine zzs (zzp ?_)
 refine sq9 (zza 2 (zI 1) (zzb (zzo (ret0 [.int .i64 1] ⟨zzq, trivial⟩ fun u23 e24 => ?_))))
 show _ = _
 rw [sign_len af, if_neg (ne_true_of_eq_false ad), if_neg (ne_true_of_eq_false aa)]
 rfl
theorem k_riNeg {u w : World} {i1 : IL} {zN : Int} {K : Nat} (d : Dat u w) (hi1 : IntV u i1 zN K) (hK : K ≤ 500000000) : qyc 81 #[i1.v] w (Post u w fun v u' => ∃ i : IL, v = i.v ∧ IntN u' i (-zN) K) := by
 refine zzm (args := [i1.v]) Tryz.func81 rfl Tryz.ntmps81 (rs := [.cell 2 30]) Tryz.results81 (le_b rfl) (le_b rfl) d ?_
 refine sq9 (zzk 1 ⟨30, i1.cs⟩ (zzk 2 ⟨30, [.bool false, qyn]⟩ (zzb (sq9 (zzi 3 (.v (i1.v)) ty30 zze (zzg 4 154 _ fun _ _ ae ag => qym (k_riTrim ag (hi1.ext ae) xq) ?_))))))
 rintro _ u14 g15 ⟨aa, rfl, ac⟩
 refine zzj ⟨30, aa.cs⟩ ty30 ?_
 refine zzb (sq9 (zza 5 (.adr 1 0) (zzi 6 (zB aa.s) ty4 zzl (zza 7 (zB (!aa.s)) ?_))))
 rcases Bool.eq_false_or_eq_true (!aa.s) with hs17 | hs17
 ·refine zyq 8 (x := zB (!aa.s)) (zB true) (by rw [hs17]) (zza 9 (.adr 1 1) ?_ (hw := w1 3 true 8))
  refine zzi 10 (.v (aa.m.v)) ty28 zzl ?_ (hw := w1 3 true 8)
  refine zza 11 (zI aa.m.n) ?_ (hw := w1 3 true 8)
  refine zza 12 (zB (decide ((0 : Int) < (aa.m.n : Int)))) ?_ (hw := w1 3 true 8)
  refine zza 13 (zB (decide ((0 : Int) < (aa.m.n : Int)))) (zza 14 (.adr 1 0) (zzj ⟨30, [.bool (decide ((0 : Int) < (aa.m.n : Int))), aa.m.v]⟩ ty4 ?_))
  refine zzb (sq9 (zzi 15 (.v (.agg #[.bool (decide ((0 : Int) < (aa.m.n : Int))), aa.m.v])) ty30 zze (zzj ⟨30, [.bool (decide ((0 : Int) < (aa.m.n : Int))), aa.m.v]⟩ ty30 ?_)))
  refine zzb (zzo (ret0 [.agg #[.bool (decide ((0 : Int) < (aa.m.n : Int))), aa.m.v]] ⟨zzr ty30 zze, trivial⟩ fun u18 af => ?_))
  refine ⟨⟨_, aa.m⟩, rfl, ?_⟩
  have h9 := neg_int (ac.ext af)
  rw [hs17] at h9
  exact h9
 refine zyq 8 (x := zB (!aa.s)) (zB false) (by rw [hs17]) (zzn 9 (uw 3 true false 8) (zzn 10 (uw 3 true false 8) (zzn 11 (uw 3 true false 8) (zzn 12 (uw 3 true false 8) (zza 13 (zB false) (zza 14 (.adr 1 0) (zzj ⟨30, [.bool false, aa.m.v]⟩ ty4 ?_)))))))
 refine zzb (sq9 (zzi 15 (.v (.agg #[.bool false, aa.m.v])) ty30 zze (zzj ⟨30, [.bool false, aa.m.v]⟩ ty30 ?_)))
 refine zzb (zzo (ret0 [.agg #[.bool false, aa.m.v]] ⟨zzr ty30 zze, trivial⟩ fun u20 ad => ?_))
 refine ⟨⟨_, aa.m⟩, rfl, ?_⟩
 have h9 := neg_int (ac.ext ad)
 rw [hs17] at h9
 exact h9
theorem k_riAbs {u w : World} {i1 : IL} {zN : Int} {K : Nat} (d : Dat u w) (hi1 : IntV u i1 zN K) (hK : K ≤ 500000000) : qyc 90 #[i1.v] w (Post u w fun v u' => ∃ i : IL, v = i.v ∧ IntN u' i (zN.natAbs : Int) K) := by
 refine zzm (args := [i1.v]) Tryz.func90 rfl Tryz.ntmps90 (rs := [.cell 2 30]) Tryz.results90 (le_b rfl) (le_b rfl) d ?_
 refine sq9 (zzk 1 ⟨30, i1.cs⟩ (zzk 2 ⟨30, [.bool false, qyn]⟩ (zzb (sq9 (zza 3 (.adr 1 1) (zzi 4 (.v (i1.m.v)) ty28 zzl (zzg 5 157 _ fun _ _ ac af => qym (k_rnTrim af ((IntV.abs hi1).ext ac) xq) ?_)))))))
 rintro _ u14 g15 ⟨aa, rfl, ad⟩
 refine zza 6 (.v (.agg #[.bool false, aa.v])) (zzj ⟨30, [.bool false, aa.v]⟩ ty30 ?_)
 refine zzb (zzo (ret0 [.agg #[.bool false, aa.v]] ⟨zzr ty30 zze, trivial⟩ fun u17 ae => ?_))
 exact ⟨(⟨false, aa⟩ : IL), rfl, (nat_intN (ad.ext ae))⟩
theorem k_riAdd {u w : World} {i1 : IL} {zN : Int} {K : Nat} {i2 : IL} {zM : Int} {L : Nat} (d : Dat u w) (hi1 : IntV u i1 zN K) (hi2 : IntV u i2 zM L) (hK : K ≤ 400000000) (hL : L ≤ 400000000) : qyc 136 #[i1.v, i2.v] w (Post u w fun v u' => ∃ i : IL, v = i.v ∧ IntN u' i (zN + zM) (max K L + 1)) := by
 refine zzm (args := [i1.v, i2.v]) Tryz.func136 rfl Tryz.ntmps136 (rs := [.cell 4 30]) Tryz.results136 (le_b rfl) (le_b rfl) d ?_
 refine sq9 (zzk 2 ⟨30, i1.cs⟩ (zzk 3 ⟨30, i2.cs⟩ (zzk 4 ⟨30, [.bool false, qyn]⟩ (zzb (zzd (zzz [0, 1, 0, 7, 15, 31] [(0, []), (2, []), (1, []), (3, []), (4, []), (5, [])] xj xj (zzi 5 (.v (i1.v)) ty30 zze (zzi 7 (.v (i2.v)) ty30 zze (zzg 6 154 _ fun _ _ ap aG => qym (k_riTrim aG (hi1.ext ap) xq) ?_)))))))))
 rintro _ u14 aI ⟨aa, rfl, ag⟩
 refine zzg 8 154 _ fun _ _ ai aP => qym (k_riTrim aP (hi2.ext (ap.t (aI.t ai))) xq) ?_
 rintro _ u20 ak ⟨ac, rfl, af⟩
 refine zzj ⟨30, aa.cs⟩ ty30 ?_
 refine zzj ⟨30, ac.cs⟩ ty30 ?_
 refine zzb (zzd (sq9 (zza 9 (.adr 2 0) (zzi 10 (zB aa.s) ty4 zzl (zza 11 (.adr 3 0) (zzi 12 (zB ac.s) ty4 zzl (zza 13 (zB (aa.s == ac.s)) (zzb (zzu (b := aa.s == ac.s) xj (fun ae => ?_) (fun ae => ?_))))))))))
 ·refine zzd (zzz [0, 1, 0, 4, 0, 16, 60, 127, 255, 511] [(0, []), (1, []), (2, []), (3, []), (4, []), (5, []), (6, []), (7, []), (8, []), (9, [])] xj xj (zza 14 (.adr 2 0) (zzi 15 (zB aa.s) ty4 zzl (zza 16 (.adr 2 1) (zzi 17 (.v (aa.m.v)) ty28 zzl (zza 18 (.adr 3 1) (zzi 19 (.v (ac.m.v)) ty28 zzl (zzg 20 189 _ fun _ _ ar aB => qym (k_rnAdd aB ((int_mag ag).ext (ai.t (ak.t ar))).raw ((int_mag af).ext ar).raw xq xq) ?_))))))))
  rintro _ u27 g28 ⟨aQ, rfl, aL⟩
  refine zza 21 (.v (.agg #[.bool aa.s, aQ.v])) (zzg 22 154 _ fun _ _ aC aJ => qym (k_riTrim aJ (IntV.same (s := aa.s) (aL.ext aC).raw) xq) ?_)
  rintro _ u33 g34 ⟨an, rfl, aA⟩
  refine zzj ⟨30, an.cs⟩ ty30 ?_
  refine zzb (zzo (zzw (ret0 [an.v] ⟨zzr ty30 zze, trivial⟩ fun u36 au => ?_)))
  refine ⟨an, rfl, IntN.more (K := (max K L + 1)) ?_ xq⟩
  have h9 : zN + zM = (Nt.sg aa.s ((zN : Int).natAbs + (zM : Int).natAbs)) := by
   rw [Nt.sg_add1 _ _ ae]
   rw [← IntN.sg ag, ← IntN.sg af]
  rw [h9]
  exact (aA.ext au)
 refine zzs (zzp ?_)
 refine zzd (sq9 (zza 23 (.adr 2 1) (zzi 24 (.v (aa.m.v)) ty28 zzl (zza 25 (.adr 3 1) (zzi 26 (.v (ac.m.v)) ty28 zzl (zzg 27 190 _ fun _ _ ah ay => qym (k_rnCompare ay ((int_mag ag).ext (ai.t (ak.t ah))).raw ((int_mag af).ext ah).raw xq xq) ?_))))))
 rintro _ u39 aj rfl
 refine zza 28 (zB (decide ((0 : Int) ≤ (Nt.cmpS ((zN : Int).natAbs) ((zM : Int).natAbs))))) (zzb (zzu (b := decide ((0 : Int) ≤ (Nt.cmpS ((zN : Int).natAbs) ((zM : Int).natAbs)))) xj (fun ad => ?_) (fun ad => ?_)))
 ·have qhb42 := qyt ad
  refine zzd (zzz [0, 1, 0, 4, 0, 16, 60, 127, 255, 511] [(0, []), (1, []), (2, []), (3, []), (4, []), (5, []), (6, []), (7, []), (8, []), (9, [])] xj xj (zza 29 (.adr 2 0) (zzi 30 (zB aa.s) ty4 zzl (zza 31 (.adr 2 1) (zzi 32 (.v (aa.m.v)) ty28 zzl (zza 33 (.adr 3 1) (zzi 34 (.v (ac.m.v)) ty28 zzl (zzg 35 191 _ fun _ _ ao aR => qym (k_rnSub aR ((int_mag ag).ext (ai.t (ak.t (ah.t (aj.t ao))))).raw ((int_mag af).ext (ah.t (aj.t ao))).raw xq xq) ?_))))))))
  rintro _ u46 g47 ⟨aO, rfl, aH⟩
  refine zza 36 (.v (.agg #[.bool aa.s, aO.v])) (zzg 37 154 _ fun _ _ ax aD => qym (k_riTrim aD (IntV.same (s := aa.s) (aH.ext ax).raw) xq) ?_)
  rintro _ u52 g53 ⟨am, rfl, aS⟩
  refine zzj ⟨30, am.cs⟩ ty30 ?_
  refine zzb (zzo (zzw (ret0 [am.v] ⟨zzr ty30 zze, trivial⟩ fun u55 av => ?_)))
  refine ⟨am, rfl, IntN.more (K := K) ?_ xq⟩
  have h9 : zN + zM = (Nt.sg aa.s ((zN : Int).natAbs - (zM : Int).natAbs)) := by
   rw [Nt.sg_add4 _ _ ae ad]
   rw [← IntN.sg ag, ← IntN.sg af]
  rw [h9]
  exact (aS.ext av)
 have qhb42 := qyf ad
 refine zzs (zzp ?_)
 refine zzd (zzz [0, 1, 0, 4, 0, 16, 60, 127, 255, 511] [(0, []), (1, []), (2, []), (3, []), (4, []), (5, []), (6, []), (7, []), (8, []), (9, [])] xj xj (zza 38 (.adr 3 0) (zzi 39 (zB ac.s) ty4 zzl (zza 40 (.adr 3 1) (zzi 41 (.v (ac.m.v)) ty28 zzl (zza 42 (.adr 2 1) (zzi 43 (.v (aa.m.v)) ty28 zzl (zzg 44 191 _ fun _ _ aq aM => qym (k_rnSub aM ((int_mag af).ext (ah.t (aj.t aq))).raw ((int_mag ag).ext (ai.t (ak.t (ah.t (aj.t aq))))).raw xq xq) ?_))))))))
 rintro _ u60 g61 ⟨aE, rfl, aF⟩
 refine zza 45 (.v (.agg #[.bool ac.s, aE.v])) (zzg 46 154 _ fun _ _ aN aK => qym (k_riTrim aK (IntV.same (s := ac.s) (aF.ext aN).raw) xq) ?_)
 rintro _ u66 g67 ⟨al, rfl, az⟩
 refine zzj ⟨30, al.cs⟩ ty30 ?_
 refine zzb (zzo (ret0 [al.v] ⟨zzr ty30 zze, trivial⟩ fun u69 aw => ?_))
 refine ⟨al, rfl, IntN.more (K := L) ?_ xq⟩
 have h9 : zN + zM = (Nt.sg ac.s ((zM : Int).natAbs - (zN : Int).natAbs)) := by
  rw [Nt.sg_add5 _ _ ae ad]
  rw [← IntN.sg ag, ← IntN.sg af]
 rw [h9]
 exact (az.ext aw)
theorem k_riSub {u w : World} {i1 : IL} {zN : Int} {K : Nat} {i2 : IL} {zM : Int} {L : Nat} (d : Dat u w) (hi1 : IntV u i1 zN K) (hi2 : IntV u i2 zM L) (hK : K ≤ 400000000) (hL : L ≤ 400000000) : qyc 202 #[i1.v, i2.v] w (Post u w fun v u' => ∃ i : IL, v = i.v ∧ IntN u' i (zN - zM) (max K L + 1)) := by
 refine zzm (args := [i1.v, i2.v]) Tryz.func202 rfl Tryz.ntmps202 (rs := [.cell 4 30]) Tryz.results202 (le_b rfl) (le_b rfl) d ?_
 refine sq9 (zzk 2 ⟨30, i1.cs⟩ (zzk 3 ⟨30, i2.cs⟩ (zzk 4 ⟨30, [.bool false, qyn]⟩ (zzb (zzd (zzz [0, 0, 2, 7, 15] [(0, []), (1, []), (2, []), (3, []), (4, [])] xj xj (zzi 5 (.v (i1.v)) ty30 zze (zzi 6 (.v (i2.v)) ty30 zze (zzg 7 81 _ fun _ _ ac ah => qym (k_riNeg ah (hi2.ext ac) xq) ?_)))))))))
 rintro _ u14 aj ⟨i12, rfl, ag⟩
 refine zzg 8 136 _ fun _ _ ad ai => qym (k_riAdd ai (hi1.ext (ac.t (aj.t ad))) (ag.ext ad).raw xq xq) ?_
 rintro _ u20 g21 ⟨aa, rfl, ae⟩
 refine zzj ⟨30, aa.cs⟩ ty30 ?_
 refine zzb (zzo (ret0 [aa.v] ⟨zzr ty30 zze, trivial⟩ fun u23 af => ?_))
 refine ⟨aa, rfl, ?_⟩
 rw [Int.sub_eq_add_neg]
 exact (ae.ext af)
theorem k_riCompare {u w : World} {i1 : IL} {zN : Int} {K : Nat} {i2 : IL} {zM : Int} {L : Nat} (d : Dat u w) (hi1 : IntV u i1 zN K) (hi2 : IntV u i2 zM L) (hK : K ≤ 400000000) (hL : L ≤ 400000000) : qyc 150 #[i1.v, i2.v] w (Post u w fun v u' => v = .int .i64 (Nt.cmpS zN zM)) := by
 refine zzm (args := [i1.v, i2.v]) Tryz.func150 rfl Tryz.ntmps150 (rs := [.tmp 4]) Tryz.results150 (le_b rfl) (le_b rfl) d ?_
 refine sq9 (zzk 2 ⟨30, i1.cs⟩ (zzk 3 ⟨30, i2.cs⟩ (zza 4 (zI 0) (zzb (sq9 (zzi 5 (.v (i1.v)) ty30 zze (zzi 6 (.v (i2.v)) ty30 zze (zzg 7 202 _ fun _ _ aa ae => qym (k_riSub ae (hi1.ext aa) (hi2.ext aa) xq xq) ?_))))))))
 rintro _ u14 g15 ⟨i12, rfl, ad⟩
 refine zzg 8 96 _ fun _ _ ac af => qym (k_riSign af (ad.ext ac).raw xq) ?_
 rintro _ u18 g19 rfl
 refine zza 4 (zI (Nt.cmpS (zN - zM) 0)) (zzb (zzo (ret0 [.int .i64 (Nt.cmpS (zN - zM) 0)] ⟨zzq, trivial⟩ fun u21 e22 => ?_)))
 show Value.int _ _ = Value.int _ _
 rw [Nt.cmp_self_sub]
theorem k_riMul {u w : World} {i1 : IL} {zN : Int} {K : Nat} {i2 : IL} {zM : Int} {L : Nat} (d : Dat u w) (hi1 : IntV u i1 zN K) (hi2 : IntV u i2 zM L) (hK : K ≤ 250000000) (hL : L ≤ 250000000) : qyc 137 #[i1.v, i2.v] w (Post u w fun v u' => ∃ i : IL, v = i.v ∧ IntN u' i (zN * zM) (K + L)) := by
 obtain ⟨N, hN, hzN⟩ := hi1
 obtain ⟨M, hM, hzM⟩ := hi2
 refine zzm (args := [i1.v, i2.v]) Tryz.func137 rfl Tryz.ntmps137 (rs := [.cell 4 30]) Tryz.results137 (le_b rfl) (le_b rfl) d ?_
 refine sq9 (zzk 2 ⟨30, i1.cs⟩ (zzk 3 ⟨30, i2.cs⟩ (zzk 4 ⟨30, [.bool false, qyn]⟩ (zzb (zzd (zzz [0, 1, 0, 4, 15, 0, 32, 0, 128, 480, 1023, 2047, 4095] [(0, []), (1, []), (2, []), (3, []), (4, []), (5, []), (6, []), (7, []), (8, []), (9, []), (10, []), (11, []), (12, [])] xj xj (zza 5 (.adr 2 0) (zzi 6 (zB i1.s) ty4 zzl (zza 7 (.adr 3 0) (zzi 8 (zB i2.s) ty4 zzl (zza 9 (zB (!(i1.s == i2.s))) ?_)))))))))))
 refine zza 10 (.adr 2 1) (zzi 11 (.v (i1.m.v)) ty28 zzl (zza 12 (.adr 3 1) (zzi 13 (.v (i2.m.v)) ty28 zzl (zzg 14 192 _ fun _ _ ac ai => qym (k_rnMul ai (hN.ext ac) (hM.ext ac) xq xq) ?_))))
 rintro _ u14 g15 ⟨ag, rfl, ah⟩
 refine zza 15 (.v (.agg #[.bool (!(i1.s == i2.s)), ag.v])) (zzg 16 154 _ fun _ _ af aj => qym (k_riTrim aj (IntV.same (s := !(i1.s == i2.s)) (ah.ext af).raw) xq) ?_)
 rintro _ u20 g21 ⟨aa, rfl, ad⟩
 refine zzj ⟨30, aa.cs⟩ ty30 ?_
 refine zzb (zzo (ret0 [aa.v] ⟨zzr ty30 zze, trivial⟩ fun u23 ae => ?_))
 refine ⟨aa, rfl, IntN.more (K := (K + L)) ?_ xq⟩
 rw [hzN, hzM, ← Nt.sg_mul]
 exact (ad.ext ae)
theorem k_riGcd {u w : World} {i1 : IL} {zN : Int} {K : Nat} {i2 : IL} {zM : Int} {L : Nat} (d : Dat u w) (hi1 : IntV u i1 zN K) (hi2 : IntV u i2 zM L) (hK : K ≤ 500000000) (hL : L ≤ 500000000) : qyc 155 #[i1.v, i2.v] w (Post u w fun v u' => ∃ i : IL, v = i.v ∧ IntN u' i (Nat.gcd zN.natAbs zM.natAbs : Int) (max K L)) := by
 refine zzm (args := [i1.v, i2.v]) Tryz.func155 rfl Tryz.ntmps155 (rs := [.cell 4 30]) Tryz.results155 (le_b rfl) (le_b rfl) d ?_
 refine sq9 (zzk 2 ⟨30, i1.cs⟩ (zzk 3 ⟨30, i2.cs⟩ (zzk 4 ⟨30, [.bool false, qyn]⟩ (zzb (sq9 (zza 5 (.adr 2 1) (zzi 6 (.v (i1.m.v)) ty28 zzl (zza 7 (.adr 3 1) (zzi 8 (.v (i2.m.v)) ty28 zzl (zzg 9 203 _ fun _ _ ac af => qym (k_rnGcd af ((IntV.abs hi1).ext ac) ((IntV.abs hi2).ext ac) xq xq) ?_))))))))))
 rintro _ u14 g15 ⟨aa, rfl, ad⟩
 refine zza 10 (.v (.agg #[.bool false, aa.v])) (zzj ⟨30, [.bool false, aa.v]⟩ ty30 ?_)
 refine zzb (zzo (ret0 [.agg #[.bool false, aa.v]] ⟨zzr ty30 zze, trivial⟩ fun u17 ae => ?_))
 exact ⟨(⟨false, aa⟩ : IL), rfl, (nat_intN (ad.ext ae))⟩
theorem k_riSame {u w : World} {i1 i2 : IL} {z z' : Int} {K L : Nat} (d : Dat u w) (hi1 : IntN u i1 z K) (hi2 : IntN u i2 z' L) : qyc 74 #[i1.v, i2.v] w (Post u w fun v _ => v = .bool (decide (z = z'))) := by
 refine zzm (args := [i1.v, i2.v]) Tryz.func74 rfl Tryz.ntmps74 (rs := [.tmp 4]) Tryz.results74 (le_b rfl) (le_b rfl) d ?_
 refine sq9 (zzk 2 ⟨30, i1.cs⟩ (zzk 3 ⟨30, i2.cs⟩ (zza 4 (zB false) (zzb (sq9 (zza 5 (.adr 2 0) (zzi 6 (zB i1.s) ty4 zzl (zza 7 (.adr 3 0) (zzi 8 (zB i2.s) ty4 zzl (zza 9 (zB (i1.s == i2.s)) ?_))))))))))
 rcases Bool.eq_false_or_eq_true (i1.s == i2.s) with hs11 | hs11
 ·refine zyq 10 (x := zB (i1.s == i2.s)) (zB true) (by rw [hs11]) (zza 11 (.adr 2 1) ?_ (hw := w1 5 true 10))
  refine zzi 12 (.v (i1.m.v)) ty28 zzl ?_ (hw := w1 5 true 10)
  refine zza 13 (.adr 3 1) ?_ (hw := w1 5 true 10)
  refine zzi 14 (.v (i2.m.v)) ty28 zzl ?_ (hw := w1 5 true 10)
  refine zzg 15 75 _ (fun _ _ aa ac => qym (k_rnSame ac ((int_mag hi1).ext aa) ((int_mag hi2).ext aa)) ?_) (hw := w1 5 true 10)
  rintro _ u13 g14 rfl
  refine zza 16 (zB (decide ((z : Int).natAbs = (z' : Int).natAbs))) (zza 4 (zB (decide ((z : Int).natAbs = (z' : Int).natAbs))) (zzb (zzo (ret0 [.bool (decide ((z : Int).natAbs = (z' : Int).natAbs))] ⟨zzq, trivial⟩ fun u16 e17 => ?_))))
  show _ = _
  rw [← same_int hi1 hi2, hs11]
  rfl
 refine zyq 10 (x := zB (i1.s == i2.s)) (zB false) (by rw [hs11]) (zzn 11 (uw 5 true false 10) (zzn 12 (uw 5 true false 10) (zzn 13 (uw 5 true false 10) (zzn 14 (uw 5 true false 10) (zzn 15 (uw 5 true false 10) (zza 16 (zB false) (zza 4 (zB false) (zzb (zzo (ret0 [.bool false] ⟨zzq, trivial⟩ fun u18 e19 => ?_))))))))))
 show _ = _
 rw [← same_int hi1 hi2, hs11]
 rfl
theorem k_riOf {u w : World} {z : Int} (d : Dat u w) (h0 : -9223372036854775808 ≤ z) (h1 : z ≤ 9223372036854775807) : qyc 85 #[.int .i64 z] w (Post u w fun v u' => ∃ i : IL, v = i.v ∧ IntN u' i z 2) := by
 by_cases hneg : z < 0
 ·refine zzm (args := [.int .i64 z]) Tryz.func85 rfl Tryz.ntmps85 (rs := [.cell 2 30]) Tryz.results85 (le_b rfl) (le_b rfl) d ?_
  refine sq9 (zzk 2 ⟨30, [.bool false, qyn]⟩ (zzb (zzd (sq9 (zza 4 (zI z) (zyq 5 (x := zB (decide (z < 0))) (zB true) (by rw [show (decide (z < 0)) = true from yw]) (zzb (zyr xj (sq9 (zza 6 (zI z) (zyq 7 (x := zI (IntKind.i64.wrap (z + 1))) (zI (z + 1)) (by rw [show (IntKind.i64.wrap (z + 1)) = (z + 1) from (IntWalk.i64_in _ xq)]) ?_)))))))))))
  refine zyq 8 (x := zI (IntKind.i64.wrap (0 - (z + 1)))) (zI (-z - 1)) (by rw [show (IntKind.i64.wrap (0 - (z + 1))) = (-z - 1) from xk]) (zyq 9 (x := .v (.int .u64 (IntKind.u64.wrap (-z - 1)))) (.v (.int .u64 (-z - 1))) (by rw [show (IntKind.u64.wrap (-z - 1)) = (-z - 1) from (IntWalk.u64_in _ xq)]) (zyq 10 (x := .v (.int .u64 (IntKind.u64.wrap (-z - 1 + 1)))) (.v (.int .u64 (-z))) (by rw [show (IntKind.u64.wrap (-z - 1 + 1)) = (-z) from (by rw [IntWalk.u64_in _ xq]; omega)]) (zza 3 (.v (.int .u64 (-z))) (zzb (sq9 (zza 11 (.v (.int .u64 (-z))) (zyq 12 (x := .v (.int .u32 (IntKind.u32.wrap (-z)))) (.v (.int .u32 ((-z) % 4294967296))) (by rw [show (IntKind.u32.wrap (-z)) = ((-z) % 4294967296) from (IntKind.wrap_u32 _)]) (zza 13 (.v (.int .u64 (-z))) (zyq 14 (x := .v (.int .u64 (Int.fdiv (-z) (2 ^ 32)))) (.v (.int .u64 ((-z) / 4294967296))) (by rw [show (Int.fdiv (-z) (2 ^ 32)) = ((-z) / 4294967296) from (by rw [Int.fdiv_eq_ediv_of_nonneg _ yv]; rfl)]) (zyq 15 (x := .v (.int .u32 (IntKind.u32.wrap ((-z) / 4294967296)))) (.v (.int .u32 ((-z) / 4294967296))) (by rw [show (IntKind.u32.wrap ((-z) / 4294967296)) = ((-z) / 4294967296) from (IntWalk.u32_in _ xq)]) (zxx 16 ⟨133, [.int .u32 ((-z) % 4294967296), .int .u32 ((-z) / 4294967296)]⟩ 2 (fun ac al am ah => ?_))))))))))))
  refine zza 17 (.v (.agg #[.bool true, .slice (some ⟨ac, 0, none⟩) 2 2])) (zzg 18 154 [.agg #[.bool true, .slice (some ⟨ac, 0, none⟩) 2 2]] ?_)
  intro w15 u15 ag ad
  have k20 := k_riTrim ad (IntV.same (s := true) ((two_data (N := z.natAbs) ah xq xq xq).ext ag)) xq
  with_reducible refine zPm k20 ?_
  rintro _ aj ak ⟨aa, rfl, ae⟩
  refine zzj ⟨30, aa.cs⟩ ty30 ?_
  refine zzb (zzo (zzw (ret0 [aa.v] ⟨zzr ty30 zze, trivial⟩ fun ai af => ?_)))
  refine ⟨aa, rfl, IntN.more (K := 2) ?_ xq⟩
  have e : z = Nt.sg true z.natAbs := by unfold Nt.sg; simp; omega
  rw [e]
  exact (ae.ext af)
 refine zzm (args := [.int .i64 z]) Tryz.func85 rfl Tryz.ntmps85 (rs := [.cell 2 30]) Tryz.results85 (le_b rfl) (le_b rfl) d ?_
 refine sq9 (zzk 2 ⟨30, [.bool false, qyn]⟩ (zzb (zzd (sq9 (zza 4 (zI z) (zyq 5 (x := zB (decide (z < 0))) (zB false) (by rw [show (decide (z < 0)) = false from yw]) (zzb (zys xj (zzs (zzp ?_))))))))))
 refine sq9 (zza 19 (zI z) (zyq 20 (x := .v (.int .u32 (IntKind.u32.wrap z))) (.v (.int .u32 (z % 4294967296))) (by rw [show (IntKind.u32.wrap z) = (z % 4294967296) from (IntKind.wrap_u32 _)]) (zza 21 (zI z) (zyq 22 (x := .v (.int .u64 (IntKind.u64.wrap z))) (.v (.int .u64 (z))) (by rw [show (IntKind.u64.wrap z) = z from (IntWalk.u64_in _ xq)]) (zyq 23 (x := .v (.int .u64 (Int.fdiv z (2 ^ 32)))) (.v (.int .u64 (z / 4294967296))) (by rw [show (Int.fdiv z (2 ^ 32)) = (z / 4294967296) from (by rw [Int.fdiv_eq_ediv_of_nonneg _ yv]; rfl)]) (zyq 24 (x := .v (.int .u32 (IntKind.u32.wrap (z / 4294967296)))) (.v (.int .u32 (z / 4294967296))) (by rw [show (IntKind.u32.wrap (z / 4294967296)) = (z / 4294967296) from (IntWalk.u32_in _ xq)]) (zxx 25 ⟨133, [.int .u32 (z % 4294967296), .int .u32 (z / 4294967296)]⟩ 2 (fun ac al am ah => ?_))))))))
 refine zza 26 (.v (.agg #[.bool false, .slice (some ⟨ac, 0, none⟩) 2 2])) (zzg 27 154 _ fun _ _ ag ad => qym (k_riTrim ad (nat_int ((two_data (N := z.natAbs) ah xq xq xq).ext ag)) xq) ?_)
 rintro _ aj ak ⟨aa, rfl, ae⟩
 refine zzj ⟨30, aa.cs⟩ ty30 ?_
 refine zzb (zzo (ret0 [aa.v] ⟨zzr ty30 zze, trivial⟩ fun ai af => ?_))
 refine ⟨aa, rfl, IntN.more (K := 2) ?_ xq⟩
 have e : z = Nt.sg false z.natAbs := by unfold Nt.sg; simp; omega
 rw [e]
 exact (ae.ext af)
theorem k_riDiv {u w : World} {i1 : IL} {zN : Int} {K : Nat} {i2 : IL} {zM : Int} {L : Nat} (d : Dat u w) (hi1 : IntV u i1 zN K) (hi2 : IntV u i2 zM L) (hM0 : zM ≠ 0) (hK : K ≤ 400000000) (hL : L ≤ 400000000) : qyc 156 #[i1.v, i2.v] w (Post u w fun v u' => ∃ i j : IL, v = .tuple #[i.v, j.v, .int .i64 0] ∧ IntN u' i (zN / zM) (K + 1) ∧ IntN u' j (zN % zM) L) := by
 have hM : 0 < zM.natAbs := Int.natAbs_pos.2 hM0
 have hL1 : 1 ≤ L := by have h2 := hi2.size; have h3 := Nt.dl_mono (x := zM.natAbs) (y := 1) xq; rw [Nt.dl_one] at h3; omega
 refine zzm (args := [i1.v, i2.v]) Tryz.func156 rfl Tryz.ntmps156 (rs := [.cell 4 30, .cell 5 30, .tmp 6]) Tryz.results156 (le_b rfl) (le_b rfl) d ?_
 refine sq9 (zzk 2 ⟨30, i1.cs⟩ (zzk 3 ⟨30, i2.cs⟩ (zzk 4 ⟨30, [.bool false, qyn]⟩ (zzk 5 ⟨30, [.bool false, qyn]⟩ (zza 6 (zI 0) (zzb (zzd (zzz [0, 1, 0, 7, 15, 31] [(0, []), (2, []), (1, []), (3, []), (4, []), (5, [])] xj xj (zzi 10 (.v (i1.v)) ty30 zze (zzi 12 (.v (i2.v)) ty30 zze (zzg 11 154 _ fun _ _ az aO => qym (k_riTrim aO (hi1.ext az) xq) ?_)))))))))))
 rintro _ u14 aR ⟨ac, rfl, ak⟩
 refine zzg 13 154 _ fun _ _ aA aW => qym (k_riTrim aW (hi2.ext (az.t (aR.t aA))) xq) ?_
 rintro _ u20 aJ ⟨ad, rfl, aj⟩
 refine zzj ⟨30, ac.cs⟩ ty30 ?_
 refine zzj ⟨30, ad.cs⟩ ty30 ?_
 refine zzb (sq9 (zza 15 (.adr 2 1) (zzi 16 (.v (ac.m.v)) ty28 zzl (zza 17 (.adr 3 1) (zzi 18 (.v (ad.m.v)) ty28 zzl (zzg 19 204 _ fun _ _ am aK => qym (k_rnDivMod aK ((int_mag ak).ext (aA.t (aJ.t am))).raw ((int_mag aj).ext am).raw hM xq xq) ?_))))))
 rintro _ u28 aI ⟨af, aa, rfl, aq, ai⟩
 refine zza 14 (.v (.tuple #[af.v, aa.v, .int .i64 0])) (zza 20 (.v (af.v)) (zza 21 (.v (aa.v)) (zza 22 (zI 0) (zza 7 (.v (af.v)) (zza 8 (.v (aa.v)) (zza 9 (zI 0) (zzb (zzd (sq9 (zza 23 (zI 0) (zza 24 (zB false) ?_)))))))))))
 refine zzb (zys xj (zzs (zzp ?_)))
 refine zzd (sq9 (zza 28 (.adr 2 0) (zzi 29 (zB ac.s) ty4 zzl ?_)))
 rcases Bool.eq_false_or_eq_true ac.s with hs31 | hs31
 ·refine zyq 30 (x := zB ac.s) (zB true) (by rw [hs31]) (zza 31 (.v (aa.v)) ?_ (hw := w1 2 true 30))
  refine zza 32 (zI aa.n) ?_ (hw := w1 2 true 30)
  refine zza 33 (zB (decide ((0 : Int) < (aa.n : Int)))) ?_ (hw := w1 2 true 30)
  refine zza 34 (zB (decide ((0 : Int) < (aa.n : Int)))) (zzc 52 [(2, .adr 2 0), (3, .adr 3 0), (4, .adr 4 0), (5, .adr 5 0), (7, .v (af.v)), (8, .v (aa.v)), (34, zB (decide ((0 : Int) < (aa.n : Int))))] [(2, ⟨30, ac.cs⟩), (3, ⟨30, ad.cs⟩), (4, ⟨30, [.bool false, qyn]⟩), (5, ⟨30, [.bool false, qyn]⟩)] (zzu (b := decide ((0 : Int) < (aa.n : Int))) xj (fun ae => ?_) (fun ae => ?_)))
  ·have qhb32 := qyt ae
   refine zzz [0, 0, 3, 0, 8, 0, 63, 127, 255] [(0, []), (1, []), (3, []), (4, []), (5, []), (2, [36]), (6, []), (7, []), (8, [])] xj xj (zza 35 (.v (af.v)) (sy_lit 36 ⟨133, [.int .u32 1]⟩ 1 ?_))
   refine zza 38 (.adr 3 1) (zzi 39 (.v (ad.m.v)) ty28 zzl (zza 40 (.v (aa.v)) (zyo 37 189 [.v (af.v), .slc 36 0 1 1] [36] (.inr rfl) (pub_mk xw) (k := ?_))))
   intro al w33 aL an aT aF
   have aC : aL.heap[al 36]? = some (.cells #[.int .u32 1] 133 (0, 0)) := aF 36 zv _ rfl
   obtain ⟨b34, ag⟩ : ∃ b, al 36 = b := ⟨_, rfl⟩
   rw [ag] at aC
   show Calls _ _ #[.slice af.a af.n af.c, .slice (some ⟨al 36, 0, none⟩) 1 1] _ _
   rw [ag]
   have k40 := k_rnAdd aT (aq.ext an).raw (one_data aC).raw xq xq
   with_reducible refine zPm k40 ?_
   rintro _ u38 ay ⟨au, rfl, aQ⟩
   refine zzg 41 191 _ fun _ _ ao aH => qym (k_rnSub aH ((int_mag aj).ext (am.t (aI.t (an.t (ay.t ao))))).raw (ai.ext (an.t (ay.t ao))).raw xq xq) ?_
   rintro _ u44 aV ⟨ah, rfl, a0⟩
   refine zza 7 (.v (au.v)) (zza 8 (.v (ah.v)) (zzb (sq9 (zza 42 (.adr 2 0) (zzi 43 (zB ac.s) ty4 zzl (zza 44 (.adr 3 0) (zzi 45 (zB ad.s) ty4 zzl (zza 46 (zB (!(ac.s == ad.s))) (zza 47 (.v (au.v)) (zza 48 (.v (.agg #[.bool (!(ac.s == ad.s)), au.v])) (zzg 49 154 _ fun _ _ aB aM => qym (k_riTrim aM (IntV.same (s := !(ac.s == ad.s)) (aQ.ext (ao.t (aV.t aB))).raw) xq) ?_)))))))))))
   rintro _ u50 aZ ⟨ar, rfl, aY⟩
   refine zza 50 (.v (ah.v)) (zza 51 (.v (.agg #[.bool false, ah.v])) (zzj ⟨30, ar.cs⟩ ty30 ?_))
   refine zzj ⟨30, [.bool false, ah.v]⟩ ty30 ?_
   refine zza 6 (zI 0) (zzb (zzo (ret0 [ar.v, .agg #[.bool false, ah.v], .int .i64 0] ⟨zzr ty30 zze, zzr ty30 zze, zzq, trivial⟩ fun u53 aE => ?_)))
   have hs := ak.1
   have ht := aj.1
   have hr := ai.pos
   have qhs31 := hs31
   have qhb32 := ae
   have key := Nt.ediv_neg' zN zM rfl rfl hM (by rw [hs] at hs31; simpa using hs31) (by simp at ae; omega)
   have hK1 : 1 ≤ K := by have h2 := hi1.size; have h3 := (Nt.dl_pos (x := zN.natAbs)).2 (by rw [hs] at hs31; simp at hs31; omega); omega
   rw [← hs, ← ht] at key
   refine ⟨ar, (⟨false, ah⟩ : IL), rfl, IntN.more (K := (max K 1 + 1)) ?_ xq, IntN.more (K := L) ?_ xq⟩
   ·rw [key.1]; exact (aY.ext aE)
   rw [key.2]; exact (nat_intN (a0.ext (aB.t (aZ.t aE))))
  have qhb32 := qyf ae
  refine zzs (zzp ?_)
  refine sq9 (zza 42 (.adr 2 0) (zzi 43 (zB ac.s) ty4 zzl (zza 44 (.adr 3 0) (zzi 45 (zB ad.s) ty4 zzl (zza 46 (zB (!(ac.s == ad.s))) (zza 47 (.v (af.v)) (zza 48 (.v (.agg #[.bool (!(ac.s == ad.s)), af.v])) (zzg 49 154 _ fun _ _ ax aX => qym (k_riTrim aX (IntV.same (s := !(ac.s == ad.s)) (aq.ext ax).raw) xq) ?_))))))))
  rintro _ u58 aS ⟨ap, rfl, aN⟩
  refine zza 50 (.v (aa.v)) (zza 51 (.v (.agg #[.bool false, aa.v])) (zzj ⟨30, ap.cs⟩ ty30 ?_))
  refine zzj ⟨30, [.bool false, aa.v]⟩ ty30 ?_
  refine zza 6 (zI 0) (zzb (zzo (ret0 [ap.v, .agg #[.bool false, aa.v], .int .i64 0] ⟨zzr ty30 zze, zzr ty30 zze, zzq, trivial⟩ fun u61 aw => ?_)))
  have hs := ak.1
  have ht := aj.1
  have hr := ai.pos
  have qhs31 := hs31
  have qhb32 := ae
  have key := Nt.ediv_pos zN zM rfl rfl hM (fun hc => by simp at ae; omega)
  rw [← hs, ← ht] at key
  refine ⟨ap, (⟨false, aa⟩ : IL), rfl, IntN.more (K := K) ?_ xq, IntN.more (K := L) ?_ xq⟩
  ·rw [key.1]; exact (aN.ext aw)
  rw [key.2]; exact (nat_intN (ai.ext (ax.t (aS.t aw))))
 refine zyq 30 (x := zB ac.s) (zB false) (by rw [hs31]) (zzn 31 (uw 2 true false 30) (zzn 32 (uw 2 true false 30) (zzn 33 (uw 2 true false 30) (zza 34 (zB false) (zzc 52 [(2, .adr 2 0), (3, .adr 3 0), (4, .adr 4 0), (5, .adr 5 0), (7, .v (af.v)), (8, .v (aa.v)), (34, zB false)] [(2, ⟨30, ac.cs⟩), (3, ⟨30, ad.cs⟩), (4, ⟨30, [.bool false, qyn]⟩), (5, ⟨30, [.bool false, qyn]⟩)] (zys xj (zzs (zzp ?_))))))))
 refine sq9 (zza 42 (.adr 2 0) (zzi 43 (zB ac.s) ty4 zzl (zza 44 (.adr 3 0) (zzi 45 (zB ad.s) ty4 zzl (zza 46 (zB (!(ac.s == ad.s))) (zza 47 (.v (af.v)) (zza 48 (.v (.agg #[.bool (!(ac.s == ad.s)), af.v])) (zzg 49 154 _ fun _ _ aD aU => qym (k_riTrim aU (IntV.same (s := !(ac.s == ad.s)) (aq.ext aD).raw) xq) ?_))))))))
 rintro _ u66 aP ⟨i64, rfl, aG⟩
 refine zza 50 (.v (aa.v)) (zza 51 (.v (.agg #[.bool false, aa.v])) (zzj ⟨30, i64.cs⟩ ty30 ?_))
 refine zzj ⟨30, [.bool false, aa.v]⟩ ty30 ?_
 refine zza 6 (zI 0) (zzb (zzo (ret0 [i64.v, .agg #[.bool false, aa.v], .int .i64 0] ⟨zzr ty30 zze, zzr ty30 zze, zzq, trivial⟩ fun u69 av => ?_)))
 have hs := ak.1
 have ht := aj.1
 have hr := ai.pos
 have qhs31 := hs31
 have key := Nt.ediv_pos zN zM rfl rfl hM (fun hc => by rw [hs] at hs31; simp at hs31; omega)
 rw [← hs, ← ht] at key
 refine ⟨i64, (⟨false, aa⟩ : IL), rfl, IntN.more (K := K) ?_ xq, IntN.more (K := L) ?_ xq⟩
 ·rw [key.1]; exact (aG.ext av)
 rw [key.2]; exact (nat_intN (ai.ext (aD.t (aP.t av))))
theorem k_reduce {u w : World} {i1 i2 : IL} {z y : Int} {K L : Nat} (d : Dat u w) (hi1 : IntV u i1 z K) (hi2 : IntV u i2 y L) (hK : K ≤ 400000000) (hL : L ≤ 400000000) : qyc 84 #[i1.v, i2.v] w (Post u w fun v u' => ∃ r : RL, v = r.v ∧ RatN u' r ((z : Rat) / (y : Rat)) (max K L + 1)) := by
 refine zzm (args := [i1.v, i2.v]) Tryz.func84 rfl Tryz.ntmps84 (rs := [.cell 4 32]) Tryz.results84 (le_b rfl) (le_b rfl) d ?_
 refine sq9 (zzk 2 ⟨30, i1.cs⟩ (zzk 3 ⟨30, i2.cs⟩ (zzk 4 ⟨32, zw3⟩ (zzb (zzd (sq9 (zzi 12 (.v (i1.v)) ty30 zze (zzg 13 96 _ fun _ _ ag aL => qym (k_riSign aL (hi1.ext ag) xq) ?_))))))))
 rintro _ u12 aj rfl
 refine zza 14 (zB ((Nt.cmpS z 0) == 0)) ?_
 rcases Bool.eq_false_or_eq_true ((Nt.cmpS z 0) == 0) with hs15 | hs15
 ·refine zyq 15 (x := zB ((Nt.cmpS z 0) == 0)) (zB true) (by rw [hs15]) ?_
  have aF : z = 0 := Nt.cmp_eq0 hs15
  refine zzn 16 (uw 3 false true 15) (zzn 17 (uw 3 false true 15) (zzn 18 (uw 3 false true 15) (zza 19 (zB true) (zzb (zyr xj (sq9 (zxx 20 ⟨133, [.int .u32 1]⟩ 1 (fun ap u17 e18 aH => ?_))))))))
  refine zza 21 (.v (.agg #[.bool false, qyn, .slice (some ⟨ap, 0, none⟩) 1 1])) (zzj ⟨32, [.bool false, qyn, .slice (some ⟨ap, 0, none⟩) 1 1]⟩ ty32 ?_)
  refine zzb (zzo (zzw (ret0 [.agg #[.bool false, qyn, .slice (some ⟨ap, 0, none⟩) 1 1]] ⟨zzr ty32 zze, trivial⟩ fun u20 aG => ?_)))
  refine ⟨(⟨false, ⟨none, 0, 0⟩, (⟨some ⟨ap, 0, none⟩, 1, 1⟩ : Sl)⟩ : RL), rfl, ?_⟩
  have h9 : (z : Rat) / (y : Rat) = ((0 : Int) : Rat) := by rw [aF]; simp [Rat.div_def]
  rw [h9]
  exact RatN.more (whole_rat (int_zero _ 1) ((one_data aH).ext aG)) xq
 refine zyq 15 (x := zB ((Nt.cmpS z 0) == 0)) (zB false) (by rw [hs15]) ?_
 have aF : z ≠ 0 := Nt.cmp_ne0 hs15
 refine zzi 16 (.v (i2.v)) ty30 zze ?_ (hw := w1 3 false 15)
 refine zzg 17 96 _ (fun _ _ ai aM => qym (k_riSign aM (hi2.ext (ag.t (aj.t ai))) xq) ?_) (hw := w1 3 false 15)
 rintro _ u23 an rfl
 refine zza 18 (zB ((Nt.cmpS y 0) == 0)) ?_ (hw := w1 3 false 15)
 refine zza 19 (zB ((Nt.cmpS y 0) == 0)) (zzb (zzu (b := (Nt.cmpS y 0) == 0) xj (fun af => ?_) (fun af => ?_)))
 ·have ah : y = 0 := Nt.cmp_eq0 af
  refine sq9 (zxx 20 ⟨133, [.int .u32 1]⟩ 1 (fun ak u28 e29 aR => ?_))
  refine zza 21 (.v (.agg #[.bool false, qyn, .slice (some ⟨ak, 0, none⟩) 1 1])) (zzj ⟨32, [.bool false, qyn, .slice (some ⟨ak, 0, none⟩) 1 1]⟩ ty32 ?_)
  refine zzb (zzo (zzw (ret0 [.agg #[.bool false, qyn, .slice (some ⟨ak, 0, none⟩) 1 1]] ⟨zzr ty32 zze, trivial⟩ fun u31 aI => ?_)))
  refine ⟨(⟨false, ⟨none, 0, 0⟩, (⟨some ⟨ak, 0, none⟩, 1, 1⟩ : Sl)⟩ : RL), rfl, ?_⟩
  have h9 : (z : Rat) / (y : Rat) = ((0 : Int) : Rat) := by rw [ah]; simp [Rat.div_def]
  rw [h9]
  exact RatN.more (whole_rat (int_zero _ 1) ((one_data aR).ext aI)) xq
 have ah : y ≠ 0 := Nt.cmp_ne0 af
 have aA : ((Nat.gcd z.natAbs y.natAbs : Nat) : Int) ≠ 0 := by have h9 := Nat.gcd_pos_of_pos_right z.natAbs (Int.natAbs_pos.2 ah); omega
 refine zzs (zzp ?_)
 refine sq9 (zzi 22 (.v (i1.v)) ty30 zze (zzi 23 (.v (i2.v)) ty30 zze (zzg 24 155 _ fun _ _ al aN => qym (k_riGcd aN (hi1.ext (ag.t (aj.t (ai.t (an.t al))))) (hi2.ext (ag.t (aj.t (ai.t (an.t al))))) xq xq) ?_)))
 rintro _ u36 aD ⟨au, rfl, aC⟩
 refine zzk 5 ⟨30, [.bool false, qyn]⟩ (zzj ⟨30, au.cs⟩ ty30 ?_)
 refine zzb (sq9 (zzi 26 (.v (i1.v)) ty30 zze (zzi 27 (.v (au.v)) ty30 zze (zzg 28 156 _ fun _ _ am aJ => qym (k_riDiv aJ (hi1.ext (ag.t (aj.t (ai.t (an.t (al.t (aD.t am))))))) (aC.ext am).raw aA xq xq) ?_))))
 rintro _ u44 aB ⟨ad, av, rfl, ay, h43⟩
 refine zza 25 (.v (.tuple #[ad.v, av.v, .int .i64 0])) (zza 29 (.v (ad.v)) (zza 30 (.v (av.v)) (zza 31 (zI 0) (zzk 6 ⟨30, [.bool false, qyn]⟩ (zzk 7 ⟨30, [.bool false, qyn]⟩ (zzj ⟨30, ad.cs⟩ ty30 ?_))))))
 refine zzj ⟨30, av.cs⟩ ty30 ?_
 refine zza 8 (zI 0) (zzb (sq9 (zzi 33 (.v (i2.v)) ty30 zze (zzi 34 (.v (au.v)) ty30 zze (zzg 35 156 _ fun _ _ ao aK => qym (k_riDiv aK (hi2.ext (ag.t (aj.t (ai.t (an.t (al.t (aD.t (am.t (aB.t ao))))))))) (aC.ext (am.t (aB.t ao))).raw aA xq xq) ?_)))))
 rintro _ u52 az ⟨aa, ar, rfl, aq, h51⟩
 refine zza 32 (.v (.tuple #[aa.v, ar.v, .int .i64 0])) (zza 36 (.v (aa.v)) (zza 37 (.v (ar.v)) (zza 38 (zI 0) (zzk 9 ⟨30, [.bool false, qyn]⟩ (zzk 10 ⟨30, [.bool false, qyn]⟩ (zzj ⟨30, aa.cs⟩ ty30 ?_))))))
 refine zzj ⟨30, ar.cs⟩ ty30 ?_
 refine zza 11 (zI 0) (zzc 47 [(4, .adr 4 0), (6, .adr 6 0), (9, .adr 9 0)] [(4, ⟨32, zw3⟩), (6, ⟨30, ad.cs⟩), (9, ⟨30, aa.cs⟩)] (zzd (sq9 (zza 39 (.adr 9 0) (zzi 40 (zB aa.s) ty4 zzl (zzb (zzu (b := aa.s) xj (fun ac => ?_) (fun ac => ?_))))))))
 ·replace ac : aa.s = true := ac
  refine zzf (zzi 41 (.v (ad.v)) ty30 zze (zzg 42 81 _ fun _ _ aw aP => qym (k_riNeg aP (ay.ext (ao.t (az.t aw))).raw xq) ?_))
  rintro _ u59 aQ ⟨ae, rfl, aO⟩
  refine zzj ⟨30, ae.cs⟩ ty30 ?_
  refine zzb (sq9 (zzi 43 (.v (ae.v)) ty30 zze (zza 44 (.adr 9 1) (zzi 45 (.v (aa.m.v)) ty28 zzl (zza 46 (.v (.agg #[.bool ae.s, ae.m.v, aa.m.v])) (zzj ⟨32, ae.cs ++ [aa.m.v]⟩ ty32 ?_))))))
  refine zzb (zzo (ret0 [.agg #[.bool ae.s, ae.m.v, aa.m.v]] ⟨zzr ty32 zze, trivial⟩ fun u62 aE => ?_))
  refine ⟨(⟨ae.s, ae.m, aa.m⟩ : RL), rfl, RatN.more (red_neg ah rfl (aO.ext aE) aq ac ((int_mag aq).ext (aw.t (aQ.t aE)))) xq⟩
 replace ac : aa.s = false := ac
 refine zzs (zzp ?_)
 refine sq9 (zzi 43 (.v (ad.v)) ty30 zze (zza 44 (.adr 9 1) (zzi 45 (.v (aa.m.v)) ty28 zzl (zza 46 (.v (.agg #[.bool ad.s, ad.m.v, aa.m.v])) (zzj ⟨32, ad.cs ++ [aa.m.v]⟩ ty32 ?_)))))
 refine zzb (zzo (ret0 [.agg #[.bool ad.s, ad.m.v, aa.m.v]] ⟨zzr ty32 zze, trivial⟩ fun u64 ax => ?_))
 refine ⟨(⟨ad.s, ad.m, aa.m⟩ : RL), rfl, RatN.more (red_pos ah rfl (ay.ext (ao.t (az.t ax))) aq ac ((int_mag aq).ext ax)) xq⟩
theorem k_parts {u w : World} {r : RL} {q : Rat} {K : Nat} (d : Dat u w) (h : RatV u r q K) (hKK : K ≤ 400000000) : qyc 95 #[r.v] w (Post u w (PartV q K)) := by
 obtain ⟨⟨z, D, hi, hd, hq⟩, hK⟩ := h
 change IntV u ⟨r.s, r.m⟩ z K at hi
 change NatV u r.d D K at hd
 refine zzm (args := [r.v]) Tryz.func95 rfl Tryz.ntmps95 (rs := [.cell 2 30, .cell 3 30]) Tryz.results95 (le_b rfl) (le_b rfl) d ?_
 refine sq9 (zzk 1 ⟨32, r.cs⟩ (zzk 2 ⟨30, [.bool false, qyn]⟩ (zzk 3 ⟨30, [.bool false, qyn]⟩ (zzb (sq9 (zza 5 (.adr 1 2) (zzi 6 (.v (r.d.v)) ty28 zzl (zzg 7 157 _ fun _ _ ag ak => qym (k_rnTrim ak (hd.ext ag) xq) ?_))))))))
 rintro _ u14 aj ⟨aa, rfl, af⟩
 refine zza 8 (.v (.agg #[.bool false, aa.v])) (zzk 4 ⟨30, [.bool false, qyn]⟩ (zzj ⟨30, [.bool false, aa.v]⟩ ty30 ?_))
 refine zzb (zzd (sq9 (zza 9 (.adr 4 1) (zzi 10 (.v (aa.v)) ty28 zzl (zza 11 (zI aa.n) (zza 12 (zB ((aa.n : Int) == 0)) (zzb (zzu (b := (aa.n : Int) == 0) xj (fun ac => ?_) (fun ac => ?_)))))))))
 ·have ad : (aa.n : Int) = 0 := by simpa using ac
  refine sq9 (zza 13 (.v (.agg #[.bool false, qyn])) (zxx 14 ⟨133, [.int .u32 1]⟩ 1 (fun ae u19 e20 al => ?_)))
  refine zza 15 (.v (.agg #[.bool false, .slice (some ⟨ae, 0, none⟩) 1 1])) (zzj ⟨30, [.bool false, qyn]⟩ ty30 ?_)
  refine zzj ⟨30, [.bool false, .slice (some ⟨ae, 0, none⟩) 1 1]⟩ ty30 ?_
  refine zzb (zzo (zzw (ret0 [.agg #[.bool false, qyn], .agg #[.bool false, .slice (some ⟨ae, 0, none⟩) 1 1]] ⟨zzr ty30 zze, zzr ty30 zze, trivial⟩ fun u22 ai => ?_)))
  have hp := af.pos
  have hD : D = 0 := by simp at ac; omega
  exact ⟨⟨false, ⟨none, 0, 0⟩⟩, ⟨false, (⟨some ⟨ae, 0, none⟩, 1, 1⟩ : Sl)⟩, 0, 1, rfl, (int_zero _ K).raw, nat_intN (((one_data al).ext ai).more hK), by omega, by rw [hq, hD]; simp, hK⟩
 have ad : ¬ ((aa.n : Int) = 0) := by simpa using ac
 refine zzs (zzp ?_)
 refine zzd (zzz [0, 1, 0, 3, 15] [(0, []), (1, []), (2, []), (3, [4]), (4, [])] xj xj (zza 16 (.adr 1 0) (zzi 17 (.v (.agg #[.bool r.s, r.m.v])) ty30 zze (zzi 18 (.v (.agg #[.bool false, aa.v])) ty30 zze (zzj ⟨30, [.bool r.s, r.m.v]⟩ ty30 ?_)))))
 refine zzj ⟨30, [.bool false, aa.v]⟩ ty30 ?_
 refine zzb (zzo (ret0 [.agg #[.bool r.s, r.m.v], .agg #[.bool false, aa.v]] ⟨zzr ty30 zze, zzr ty30 zze, trivial⟩ fun u24 ah => ?_))
 have hp := af.pos
 exact ⟨⟨r.s, r.m⟩, ⟨false, aa⟩, z, D, rfl, (hi.ext (ag.t (aj.t ah))), nat_intN (af.ext ah), by simp at ac; omega, hq, hK⟩
theorem k_rqTrim {u w : World} {r1 : RL} {x : Rat} {K : Nat} (d : Dat u w) (hr1 : RatV u r1 x K) (hK : K ≤ 100000000) : qyc 80 #[r1.v] w (Post u w fun v u' => ∃ r : RL, v = r.v ∧ RatN u' r x K) := by
 refine zzm (args := [r1.v]) Tryz.func80 rfl Tryz.ntmps80 (rs := [.cell 2 32]) Tryz.results80 (le_b rfl) (le_b rfl) d ?_
 refine sq9 (zzk 1 ⟨32, r1.cs⟩ (zzk 2 ⟨32, zw3⟩ (zzb (sq9 (zzi 6 (.v (r1.v)) ty32 zze (zzg 7 95 _ fun _ _ ak am => qym (k_parts am (hr1.ext ak) xq) ?_))))))
 rintro _ u13 g14 ⟨aa, ac, z12, D12, rfl, ag, ae, al, ad, ai⟩
 refine zza 5 (.v (.tuple #[aa.v, ac.v])) (zza 8 (.v (aa.v)) (zza 9 (.v (ac.v)) (zzk 3 ⟨30, [.bool false, qyn]⟩ (zzk 4 ⟨30, [.bool false, qyn]⟩ (zzj ⟨30, aa.cs⟩ ty30 ?_)))))
 refine zzj ⟨30, ac.cs⟩ ty30 ?_
 refine zzb (sq9 (zzi 10 (.v (aa.v)) ty30 zze (zzi 11 (.v (ac.v)) ty30 zze (zzg 12 84 _ fun _ _ ah an => qym (k_reduce an (ag.ext ah) (ae.ext ah).raw xq xq) ?_))))
 rintro _ u19 g20 ⟨af, rfl, ao⟩
 refine zzj ⟨32, af.cs⟩ ty32 ?_
 refine zzb (zzo (ret0 [af.v] ⟨zzr ty32 zze, trivial⟩ fun u22 aj => ?_))
 refine ⟨af, rfl, RatN.fit (K := (max K K + 1)) ?_ (hr1.rs)⟩
 rw [ad, ← Nt.mk_div]
 exact (ao.ext aj)
theorem k_rqSame {u w : World} {r1 r2 : RL} {x y : Rat} {K L : Nat} (d : Dat u w) (hr1 : RatN u r1 x K) (hr2 : RatN u r2 y L) : qyc 16 #[r1.v, r2.v] w (Post u w fun v _ => v = .bool (decide (x = y))) := by
 refine zzm (args := [r1.v, r2.v]) Tryz.func16 rfl Tryz.ntmps16 (rs := [.tmp 4]) Tryz.results16 (le_b rfl) (le_b rfl) d ?_
 refine sq9 (zzk 2 ⟨32, r1.cs⟩ (zzk 3 ⟨32, r2.cs⟩ (zza 4 (zB false) (zzb (sq9 (zza 5 (.adr 2 0) (zzi 6 (.v (.agg #[.bool r1.s, r1.m.v])) ty30 zze (zza 7 (.adr 3 0) (zzi 8 (.v (.agg #[.bool r2.s, r2.m.v])) ty30 zze (zzg 9 74 _ fun _ _ aa ae => qym (k_riSame ae ((RatN.num hr1).ext aa) ((RatN.num hr2).ext aa)) ?_))))))))))
 rintro _ u12 ad rfl
 rcases Bool.eq_false_or_eq_true (decide (x.num = y.num)) with hs15 | hs15
 ·refine zyq 10 (x := zB (decide (x.num = y.num))) (zB true) (by rw [hs15]) ?_
  have qhs15 := qyt hs15
  refine zza 11 (.adr 2 2) ?_ (hw := w1 5 true 10)
  refine zzi 12 (.v (r1.d.v)) ty28 zzl ?_ (hw := w1 5 true 10)
  refine zza 13 (.adr 3 2) ?_ (hw := w1 5 true 10)
  refine zzi 14 (.v (r2.d.v)) ty28 zzl ?_ (hw := w1 5 true 10)
  refine zzg 15 75 _ (fun _ _ ac af => qym (k_rnSame af ((RatN.den hr1).ext (aa.t (ad.t ac))) ((RatN.den hr2).ext (aa.t (ad.t ac)))) ?_) (hw := w1 5 true 10)
  rintro _ u17 g18 rfl
  refine zza 16 (zB (decide (x.den = y.den))) (zza 4 (zB (decide (x.den = y.den))) (zzb (zzo (ret0 [.bool (decide (x.den = y.den))] ⟨zzq, trivial⟩ fun u20 e21 => ?_))))
  show _ = _
  rw [← Nt.same_q, hs15]
  rfl
 refine zyq 10 (x := zB (decide (x.num = y.num))) (zB false) (by rw [hs15]) ?_
 have qhs15 := qyf hs15
 refine zzn 11 (uw 5 true false 10) (zzn 12 (uw 5 true false 10) (zzn 13 (uw 5 true false 10) (zzn 14 (uw 5 true false 10) (zzn 15 (uw 5 true false 10) (zza 16 (zB false) (zza 4 (zB false) (zzb (zzo (ret0 [.bool false] ⟨zzq, trivial⟩ fun u22 e23 => ?_)))))))))
 show _ = _
 rw [← Nt.same_q, hs15]
 rfl
theorem k_rqOf {u w : World} {z : Int} (d : Dat u w) (h0 : -9223372036854775808 ≤ z) (h1 : z ≤ 9223372036854775807) : qyc 30 #[.int .i64 z] w (Post u w fun v u' => ∃ r : RL, v = r.v ∧ RatN u' r (z : Rat) 2) := by
 refine zzm (args := [.int .i64 z]) Tryz.func30 rfl Tryz.ntmps30 (rs := [.cell 2 32]) Tryz.results30 (le_b rfl) (le_b rfl) d ?_
 refine sq9 (zzk 2 ⟨32, zw3⟩ (zzb (sq9 (zza 3 (zI z) (zzg 4 85 _ fun _ _ _ ah => qym (k_riOf ah (z := z) xq xq) ?_)))))
 rintro _ u14 g15 ⟨aa, rfl, af⟩
 refine zxx 5 ⟨133, [.int .u32 1]⟩ 1 (fun ac u18 ag ae => ?_)
 refine zza 6 (.v (.agg #[.bool aa.s, aa.m.v, .slice (some ⟨ac, 0, none⟩) 1 1])) (zzj ⟨32, aa.cs ++ [.slice (some ⟨ac, 0, none⟩) 1 1]⟩ ty32 ?_)
 refine zzb (zzo (ret0 [.agg #[.bool aa.s, aa.m.v, .slice (some ⟨ac, 0, none⟩) 1 1]] ⟨zzr ty32 zze, trivial⟩ fun u21 ad => ?_))
 refine ⟨(⟨aa.s, aa.m, (⟨some ⟨ac, 0, none⟩, 1, 1⟩ : Sl)⟩ : RL), rfl, ?_⟩
 exact whole_rat (af.ext (ag.trans ad)) ((one_data ae).ext ad)
theorem k_rqFrac {u w : World} {a b : Int} (d : Dat u w) (ha0 : -9223372036854775808 ≤ a) (ha1 : a ≤ 9223372036854775807) (hb0 : -9223372036854775808 ≤ b) (hb1 : b ≤ 9223372036854775807) : qyc 23 #[.int .i64 a, .int .i64 b] w (Post u w fun v u' => ∃ r : RL, v = r.v ∧ RatN u' r ((a : Rat) / (b : Rat)) 3) := by
 refine zzm (args := [.int .i64 a, .int .i64 b]) Tryz.func23 rfl Tryz.ntmps23 (rs := [.cell 4 32]) Tryz.results23 (le_b rfl) (le_b rfl) d ?_
 refine sq9 (zzk 4 ⟨32, zw3⟩ (zzb (sq9 (zza 5 (zI a) (zzg 6 85 _ fun _ _ _ ak => qym (k_riOf ak (z := a) xq xq) ?_)))))
 rintro _ u14 g15 ⟨i12, rfl, aj⟩
 refine zza 7 (zI b) (zzg 8 85 _ fun _ _ ai al => qym (k_riOf al (z := b) xq xq) ?_)
 rintro _ u20 af ⟨i18, rfl, ad⟩
 refine zzg 9 84 _ fun _ _ ac ag => qym (k_reduce ag (aj.ext (ai.t (af.t ac))).raw (ad.ext ac).raw xq xq) ?_
 rintro _ u26 g27 ⟨aa, rfl, ae⟩
 refine zzj ⟨32, aa.cs⟩ ty32 ?_
 refine zzb (zzo (ret0 [aa.v] ⟨zzr ty32 zze, trivial⟩ fun u29 ah => ?_))
 refine ⟨aa, rfl, RatN.more (K := (max 2 2 + 1)) ?_ xq⟩
 exact (ae.ext ah)
theorem k_rqSign {u w : World} {r1 : RL} {x : Rat} {K : Nat} (d : Dat u w) (hr1 : RatV u r1 x K) (hK : K ≤ 100000000) : qyc 32 #[r1.v] w (Post u w fun v u' => v = .int .i64 (Nt.sgQ x)) := by
 refine zzm (args := [r1.v]) Tryz.func32 rfl Tryz.ntmps32 (rs := [.tmp 2]) Tryz.results32 (le_b rfl) (le_b rfl) d ?_
 refine sq9 (zzk 1 ⟨32, r1.cs⟩ (zza 2 (zI 0) (zzb (sq9 (zzi 6 (.v (r1.v)) ty32 zze (zzg 7 95 _ fun _ _ ai aj => qym (k_parts aj (hr1.ext ai) xq) ?_))))))
 rintro _ u13 g14 ⟨aa, af, ag, D12, rfl, ae, ak, ad, ac, ah⟩
 refine zza 5 (.v (.tuple #[aa.v, af.v])) (zza 8 (.v (aa.v)) (zza 9 (.v (af.v)) (zzk 3 ⟨30, [.bool false, qyn]⟩ (zzk 4 ⟨30, [.bool false, qyn]⟩ (zzj ⟨30, aa.cs⟩ ty30 ?_)))))
 refine zzj ⟨30, af.cs⟩ ty30 ?_
 refine zzb (sq9 (zzi 10 (.v (aa.v)) ty30 zze (zzg 11 96 _ fun _ _ am al => qym (k_riSign al (ae.ext am) xq) ?_)))
 rintro _ u17 g18 rfl
 refine zza 2 (zI (Nt.cmpS ag 0)) (zzb (zzo (ret0 [.int .i64 (Nt.cmpS ag 0)] ⟨zzq, trivial⟩ fun u20 e21 => ?_)))
 show _ = _
 rw [ac, ← Nt.sg_mk ad]
 rfl
theorem k_rqCompare {u w : World} {r1 : RL} {x : Rat} {K : Nat} {r2 : RL} {y : Rat} {L : Nat} (d : Dat u w) (hr1 : RatV u r1 x K) (hr2 : RatV u r2 y L) (hK : K ≤ 100000000) (hL : L ≤ 100000000) : qyc 70 #[r1.v, r2.v] w (Post u w fun v u' => v = .int .i64 (Nt.cmpQ x y)) := by
 refine zzm (args := [r1.v, r2.v]) Tryz.func70 rfl Tryz.ntmps70 (rs := [.tmp 4]) Tryz.results70 (le_b rfl) (le_b rfl) d ?_
 refine sq9 (zzk 2 ⟨32, r1.cs⟩ (zzk 3 ⟨32, r2.cs⟩ (zza 4 (zI 0) (zzb (sq9 (zzi 10 (.v (r1.v)) ty32 zze (zzg 11 95 _ fun _ _ av aG => qym (k_parts aG (hr1.ext av) xq) ?_)))))))
 rintro _ u13 aF ⟨ac, ae, ay, aq, rfl, al, aj, ai, ag, aA⟩
 refine zza 9 (.v (.tuple #[ac.v, ae.v])) (zza 12 (.v (ac.v)) (zza 13 (.v (ae.v)) (zzk 5 ⟨30, [.bool false, qyn]⟩ (zzk 6 ⟨30, [.bool false, qyn]⟩ (zzj ⟨30, ac.cs⟩ ty30 ?_)))))
 refine zzj ⟨30, ae.cs⟩ ty30 ?_
 refine zzb (sq9 (zzi 15 (.v (r2.v)) ty32 zze (zzg 16 95 _ fun _ _ ap aH => qym (k_parts aH (hr2.ext (av.t (aF.t ap))) xq) ?_)))
 rintro _ u18 az ⟨ad, af, au, ar, rfl, ak, ah, am, an, aK⟩
 refine zza 14 (.v (.tuple #[ad.v, af.v])) (zza 17 (.v (ad.v)) (zza 18 (.v (af.v)) (zzk 7 ⟨30, [.bool false, qyn]⟩ (zzk 8 ⟨30, [.bool false, qyn]⟩ (zzj ⟨30, ad.cs⟩ ty30 ?_)))))
 refine zzj ⟨30, af.cs⟩ ty30 ?_
 refine zzb (zzd (zzz [0, 0, 3, 0, 0, 31, 63, 127] [(0, []), (1, []), (3, []), (4, []), (2, []), (5, []), (6, []), (7, [])] xj xj (zzi 19 (.v (ac.v)) ty30 zze (zzi 20 (.v (af.v)) ty30 zze (zzi 22 (.v (ad.v)) ty30 zze (zzi 23 (.v (ae.v)) ty30 zze (zzg 21 137 _ fun _ _ aa aJ => qym (k_riMul aJ (al.ext (ap.t (az.t aa))) (ah.ext aa).raw xq xq) ?_)))))))
 rintro _ u24 ax ⟨i22, rfl, aE⟩
 refine zzg 24 137 _ fun _ _ ao aD => qym (k_riMul aD (ak.ext (aa.t (ax.t ao))) (aj.ext (ap.t (az.t (aa.t (ax.t ao))))).raw xq xq) ?_
 rintro _ u30 aB ⟨i28, rfl, aC⟩
 refine zzg 25 150 _ fun _ _ aw aI => qym (k_riCompare aI (aE.ext (ao.t (aB.t aw))).raw (aC.ext aw).raw xq xq) ?_
 rintro _ u34 g35 rfl
 refine zza 4 (zI (Nt.cmpS (ay * (ar : Int)) (au * (aq : Int)))) (zzb (zzo (ret0 [.int .i64 (Nt.cmpS (ay * (ar : Int)) (au * (aq : Int)))] ⟨zzq, trivial⟩ fun u37 e38 => ?_)))
 show _ = _
 rw [ag, an, ← Nt.cmp_mk ai am]
 rfl
theorem k_rqLess {u w : World} {r1 : RL} {x : Rat} {K : Nat} {r2 : RL} {y : Rat} {L : Nat} (d : Dat u w) (hr1 : RatV u r1 x K) (hr2 : RatV u r2 y L) (hK : K ≤ 100000000) (hL : L ≤ 100000000) : qyc 26 #[r1.v, r2.v] w (Post u w fun v u' => v = .bool (decide (x < y))) := by
 refine zzm (args := [r1.v, r2.v]) Tryz.func26 rfl Tryz.ntmps26 (rs := [.tmp 4]) Tryz.results26 (le_b rfl) (le_b rfl) d ?_
 refine sq9 (zzk 2 ⟨32, r1.cs⟩ (zzk 3 ⟨32, r2.cs⟩ (zza 4 (zB false) (zzb (sq9 (zzi 5 (.v (r1.v)) ty32 zze (zzi 6 (.v (r2.v)) ty32 zze (zzg 7 70 _ fun _ _ aa ac => qym (k_rqCompare ac (hr1.ext aa) (hr2.ext aa) xq xq) ?_))))))))
 rintro _ u12 g13 rfl
 refine zza 8 (zB (decide ((Nt.cmpQ x y) < 0))) (zza 4 (zB (decide ((Nt.cmpQ x y) < 0))) (zzb (zzo (ret0 [.bool (decide ((Nt.cmpQ x y) < 0))] ⟨zzq, trivial⟩ fun u15 e16 => ?_))))
 show _ = _
 rw [← Nt.cmpQ_lt]
 rfl
theorem k_rqNeg {u w : World} {r1 : RL} {x : Rat} {K : Nat} (d : Dat u w) (hr1 : RatV u r1 x K) (hK : K ≤ 100000000) : qyc 21 #[r1.v] w (Post u w fun v u' => ∃ r : RL, v = r.v ∧ RatN u' r (-x) K) := by
 refine zzm (args := [r1.v]) Tryz.func21 rfl Tryz.ntmps21 (rs := [.cell 2 32]) Tryz.results21 (le_b rfl) (le_b rfl) d ?_
 refine sq9 (zzk 1 ⟨32, r1.cs⟩ (zzk 2 ⟨32, zw3⟩ (zzb (sq9 (zzi 3 (.v (r1.v)) ty32 zze (zzg 4 80 _ fun _ _ ah ai => qym (k_rqTrim ai (hr1.ext ah) xq) ?_))))))
 rintro _ u14 g15 ⟨ac, rfl, af⟩
 refine zzj ⟨32, ac.cs⟩ ty32 ?_
 refine zzb (sq9 (zza 5 (.adr 1 0) (zzi 6 (.v (.agg #[.bool ac.s, ac.m.v])) ty30 zze (zzg 7 81 _ fun _ _ ae aj => qym (k_riNeg aj ((RatN.num af).ext ae).raw xq) ?_))))
 rintro _ u20 ak ⟨aa, rfl, ag⟩
 refine zza 8 (.adr 1 0) (zzj ⟨32, aa.cs ++ [ac.d.v]⟩ ty30 ?_)
 refine zzb (sq9 (zzi 9 (.v (.agg #[.bool aa.s, aa.m.v, ac.d.v])) ty32 zze (zzj ⟨32, aa.cs ++ [ac.d.v]⟩ ty32 ?_)))
 refine zzb (zzo (ret0 [.agg #[.bool aa.s, aa.m.v, ac.d.v]] ⟨zzr ty32 zze, trivial⟩ fun u23 ad => ?_))
 exact ⟨(⟨aa.s, aa.m, ac.d⟩ : RL), rfl, neg_rat (af.ext (ae.t (ak.t ad))) (ag.ext ad)⟩
theorem k_rqAbs {u w : World} {r1 : RL} {x : Rat} {K : Nat} (d : Dat u w) (hr1 : RatV u r1 x K) (hK : K ≤ 100000000) : qyc 27 #[r1.v] w (Post u w fun v u' => ∃ r : RL, v = r.v ∧ RatN u' r (Nt.absQ x) K) := by
 refine zzm (args := [r1.v]) Tryz.func27 rfl Tryz.ntmps27 (rs := [.cell 2 32]) Tryz.results27 (le_b rfl) (le_b rfl) d ?_
 refine sq9 (zzk 1 ⟨32, r1.cs⟩ (zzk 2 ⟨32, zw3⟩ (zzb (sq9 (zzi 3 (.v (r1.v)) ty32 zze (zzg 4 80 _ fun _ _ ah ai => qym (k_rqTrim ai (hr1.ext ah) xq) ?_))))))
 rintro _ u14 g15 ⟨ac, rfl, af⟩
 refine zzj ⟨32, ac.cs⟩ ty32 ?_
 refine zzb (sq9 (zza 5 (.adr 1 0) (zzi 6 (.v (.agg #[.bool ac.s, ac.m.v])) ty30 zze (zzg 7 90 _ fun _ _ ae aj => qym (k_riAbs aj ((RatN.num af).ext ae).raw xq) ?_))))
 rintro _ u20 ak ⟨aa, rfl, ag⟩
 refine zza 8 (.adr 1 0) (zzj ⟨32, aa.cs ++ [ac.d.v]⟩ ty30 ?_)
 refine zzb (sq9 (zzi 9 (.v (.agg #[.bool aa.s, aa.m.v, ac.d.v])) ty32 zze (zzj ⟨32, aa.cs ++ [ac.d.v]⟩ ty32 ?_)))
 refine zzb (zzo (ret0 [.agg #[.bool aa.s, aa.m.v, ac.d.v]] ⟨zzr ty32 zze, trivial⟩ fun u23 ad => ?_))
 exact ⟨(⟨aa.s, aa.m, ac.d⟩ : RL), rfl, abs_rat3 (af.ext (ae.t (ak.t ad))) (ag.ext ad)⟩
theorem k_rqAdd {u w : World} {r1 : RL} {x : Rat} {K : Nat} {r2 : RL} {y : Rat} {L : Nat} (d : Dat u w) (hr1 : RatV u r1 x K) (hr2 : RatV u r2 y L) (hK : K ≤ 100000000) (hL : L ≤ 100000000) : qyc 58 #[r1.v, r2.v] w (Post u w fun v u' => ∃ r : RL, v = r.v ∧ RatN u' r (x + y) (K + L + 2)) := by
 refine zzm (args := [r1.v, r2.v]) Tryz.func58 rfl Tryz.ntmps58 (rs := [.cell 4 32]) Tryz.results58 (le_b rfl) (le_b rfl) d ?_
 refine sq9 (zzk 2 ⟨32, r1.cs⟩ (zzk 3 ⟨32, r2.cs⟩ (zzk 4 ⟨32, zw3⟩ (zzb (sq9 (zzi 10 (.v (r1.v)) ty32 zze (zzg 11 95 _ fun _ _ ay aJ => qym (k_parts aJ (hr1.ext ay) xq) ?_)))))))
 rintro _ u13 aH ⟨ah, af, z12, D12, rfl, au, ad, aq, an, aB⟩
 refine zza 9 (.v (.tuple #[ah.v, af.v])) (zza 12 (.v (ah.v)) (zza 13 (.v (af.v)) (zzk 5 ⟨30, [.bool false, qyn]⟩ (zzk 6 ⟨30, [.bool false, qyn]⟩ (zzj ⟨30, ah.cs⟩ ty30 ?_)))))
 refine zzj ⟨30, af.cs⟩ ty30 ?_
 refine zzb (sq9 (zzi 15 (.v (r2.v)) ty32 zze (zzg 16 95 _ fun _ _ am aK => qym (k_parts aK (hr2.ext (ay.t (aH.t am))) xq) ?_)))
 rintro _ u18 av ⟨aj, ag, z17, D17, rfl, ar, ac, aw, ax, aR⟩
 refine zza 14 (.v (.tuple #[aj.v, ag.v])) (zza 17 (.v (aj.v)) (zza 18 (.v (ag.v)) (zzk 7 ⟨30, [.bool false, qyn]⟩ (zzk 8 ⟨30, [.bool false, qyn]⟩ (zzj ⟨30, aj.cs⟩ ty30 ?_)))))
 refine zzj ⟨30, ag.cs⟩ ty30 ?_
 refine zzb (zzd (zzz [0, 0, 3, 0, 0, 31, 63, 0, 0, 511, 1023, 2047] [(0, []), (1, []), (3, []), (4, []), (7, []), (8, []), (2, []), (5, []), (6, []), (9, []), (10, []), (11, [])] xj xj (zzi 19 (.v (ah.v)) ty30 zze (zzi 20 (.v (ag.v)) ty30 zze (zzi 22 (.v (aj.v)) ty30 zze (zzi 23 (.v (af.v)) ty30 zze (zzi 26 (.v (af.v)) ty30 zze (zzi 27 (.v (ag.v)) ty30 zze (zzg 21 137 _ fun _ _ aa aQ => qym (k_riMul aQ (au.ext (am.t (av.t aa))) (ac.ext aa).raw xq xq) ?_)))))))))
 rintro _ u24 ak ⟨i22, rfl, aG⟩
 refine zzg 24 137 _ fun _ _ ae aF => qym (k_riMul aF (ar.ext (aa.t (ak.t ae))) (ad.ext (am.t (av.t (aa.t (ak.t ae))))).raw xq xq) ?_
 rintro _ u30 ao ⟨i28, rfl, aD⟩
 refine zzg 25 136 _ fun _ _ ai aL => qym (k_riAdd aL (aG.ext (ae.t (ao.t ai))).raw (aD.ext ai).raw xq xq) ?_
 rintro _ u36 aA ⟨i34, rfl, aM⟩
 refine zzg 28 137 _ fun _ _ ap aC => qym (k_riMul aC (ad.ext (am.t (av.t (aa.t (ak.t (ae.t (ao.t (ai.t (aA.t ap))))))))).raw (ac.ext (aa.t (ak.t (ae.t (ao.t (ai.t (aA.t ap))))))).raw xq xq) ?_
 rintro _ u42 aI ⟨i40, rfl, aE⟩
 refine zzg 29 84 _ fun _ _ az aP => qym (k_reduce aP (aM.ext (ap.t (aI.t az))).raw (aE.ext az).raw xq xq) ?_
 rintro _ u48 g49 ⟨al, rfl, aN⟩
 refine zzj ⟨32, al.cs⟩ ty32 ?_
 refine zzc 30 [(4, .adr 4 0)] [(4, ⟨32, al.cs⟩)] (zzo (ret0 [al.v] ⟨zzr ty32 zze, trivial⟩ fun u51 aO => ?_))
 refine ⟨al, rfl, RatN.more (K := (max (max (K + L) (L + K) + 1) (K + L) + 1)) ?_ xq⟩
 rw [an, ax, ← Nt.add_div2 aq aw]
 exact (aN.ext aO)
theorem k_rqSub {u w : World} {r1 : RL} {x : Rat} {K : Nat} {r2 : RL} {y : Rat} {L : Nat} (d : Dat u w) (hr1 : RatV u r1 x K) (hr2 : RatV u r2 y L) (hK : K ≤ 100000000) (hL : L ≤ 100000000) : qyc 93 #[r1.v, r2.v] w (Post u w fun v u' => ∃ r : RL, v = r.v ∧ RatN u' r (x - y) (K + L + 2)) := by
 refine zzm (args := [r1.v, r2.v]) Tryz.func93 rfl Tryz.ntmps93 (rs := [.cell 4 32]) Tryz.results93 (le_b rfl) (le_b rfl) d ?_
 refine sq9 (zzk 2 ⟨32, r1.cs⟩ (zzk 3 ⟨32, r2.cs⟩ (zzk 4 ⟨32, zw3⟩ (zzb (zzd (zzz [0, 0, 2, 7, 15] [(0, []), (1, []), (2, []), (3, []), (4, [])] xj xj (zzi 5 (.v (r1.v)) ty32 zze (zzi 6 (.v (r2.v)) ty32 zze (zzg 7 21 _ fun _ _ ac ah => qym (k_rqNeg ah (hr2.ext ac) xq) ?_)))))))))
 rintro _ u14 aj ⟨r12, rfl, ag⟩
 refine zzg 8 58 _ fun _ _ ad ai => qym (k_rqAdd ai (hr1.ext (ac.t (aj.t ad))) (ag.ext ad).raw xq xq) ?_
 rintro _ u20 g21 ⟨aa, rfl, ae⟩
 refine zzj ⟨32, aa.cs⟩ ty32 ?_
 refine zzb (zzo (ret0 [aa.v] ⟨zzr ty32 zze, trivial⟩ fun u23 af => ?_))
 refine ⟨aa, rfl, RatN.more (K := (K + L + 2)) ?_ xq⟩
 rw [Rat.sub_eq_add_neg]
 exact (ae.ext af)
theorem k_rqMul {u w : World} {r1 : RL} {x : Rat} {K : Nat} {r2 : RL} {y : Rat} {L : Nat} (d : Dat u w) (hr1 : RatV u r1 x K) (hr2 : RatV u r2 y L) (hK : K ≤ 100000000) (hL : L ≤ 100000000) : qyc 91 #[r1.v, r2.v] w (Post u w fun v u' => ∃ r : RL, v = r.v ∧ RatN u' r (x * y) (K + L + 1)) := by
 refine zzm (args := [r1.v, r2.v]) Tryz.func91 rfl Tryz.ntmps91 (rs := [.cell 4 32]) Tryz.results91 (le_b rfl) (le_b rfl) d ?_
 refine sq9 (zzk 2 ⟨32, r1.cs⟩ (zzk 3 ⟨32, r2.cs⟩ (zzk 4 ⟨32, zw3⟩ (zzb (sq9 (zzi 10 (.v (r1.v)) ty32 zze (zzg 11 95 _ fun _ _ ap aC => qym (k_parts aC (hr1.ext ap) xq) ?_)))))))
 rintro _ u13 aA ⟨ac, ae, z12, D12, rfl, ak, ai, aB, ag, av⟩
 refine zza 9 (.v (.tuple #[ac.v, ae.v])) (zza 12 (.v (ac.v)) (zza 13 (.v (ae.v)) (zzk 5 ⟨30, [.bool false, qyn]⟩ (zzk 6 ⟨30, [.bool false, qyn]⟩ (zzj ⟨30, ac.cs⟩ ty30 ?_)))))
 refine zzj ⟨30, ae.cs⟩ ty30 ?_
 refine zzb (sq9 (zzi 15 (.v (r2.v)) ty32 zze (zzg 16 95 _ fun _ _ ao aD => qym (k_parts aD (hr2.ext (ap.t (aA.t ao))) xq) ?_)))
 rintro _ u18 au ⟨ad, af, z17, D17, rfl, aj, ah, aH, al, aJ⟩
 refine zza 14 (.v (.tuple #[ad.v, af.v])) (zza 17 (.v (ad.v)) (zza 18 (.v (af.v)) (zzk 7 ⟨30, [.bool false, qyn]⟩ (zzk 8 ⟨30, [.bool false, qyn]⟩ (zzj ⟨30, ad.cs⟩ ty30 ?_)))))
 refine zzj ⟨30, af.cs⟩ ty30 ?_
 refine zzb (zzd (zzz [0, 0, 3, 0, 0, 31, 63, 127] [(0, []), (1, []), (3, []), (4, []), (2, []), (5, []), (6, []), (7, [])] xj xj (zzi 19 (.v (ac.v)) ty30 zze (zzi 20 (.v (ad.v)) ty30 zze (zzi 22 (.v (ae.v)) ty30 zze (zzi 23 (.v (af.v)) ty30 zze (zzg 21 137 _ fun _ _ aa aI => qym (k_riMul aI (ak.ext (ao.t (au.t aa))) (aj.ext aa) xq xq) ?_)))))))
 rintro _ u24 ar ⟨i22, rfl, az⟩
 refine zzg 24 137 _ fun _ _ am ay => qym (k_riMul ay (ai.ext (ao.t (au.t (aa.t (ar.t am))))).raw (ah.ext (aa.t (ar.t am))).raw xq xq) ?_
 rintro _ u30 aw ⟨i28, rfl, ax⟩
 refine zzg 25 84 _ fun _ _ aq aE => qym (k_reduce aE (az.ext (am.t (aw.t aq))).raw (ax.ext aq).raw xq xq) ?_
 rintro _ u36 g37 ⟨an, rfl, aG⟩
 refine zzj ⟨32, an.cs⟩ ty32 ?_
 refine zzb (zzo (ret0 [an.v] ⟨zzr ty32 zze, trivial⟩ fun u39 aF => ?_))
 refine ⟨an, rfl, RatN.more (K := (max (K + L) (K + L) + 1)) ?_ xq⟩
 rw [ag, al, ← Nt.mul_div2]
 exact (aG.ext aF)
def DivQ (x y : Rat) (K : Nat) (v : Value) (u : World) : Prop := (v = .tuple #[.agg #[.bool false, qyn, qyn], .int .i64 3] ∧ y = 0) ∨ (y ≠ 0 ∧ ∃ r : RL, v = .tuple #[r.v, .int .i64 0] ∧ RatN u r (x / y) K)
theorem k_rqDiv {u w : World} {r1 : RL} {x : Rat} {K : Nat} {r2 : RL} {y : Rat} {L : Nat} (d : Dat u w) (hr1 : RatV u r1 x K) (hr2 : RatV u r2 y L) (hK : K ≤ 100000000) (hL : L ≤ 100000000) : qyc 158 #[r1.v, r2.v] w (Post u w fun v u' => DivQ x y (K + L + 1) v u') := by
 refine zzm (args := [r1.v, r2.v]) Tryz.func158 rfl Tryz.ntmps158 (rs := [.cell 4 32, .tmp 5]) Tryz.results158 (le_b rfl) (le_b rfl) d ?_
 refine sq9 (zzk 2 ⟨32, r1.cs⟩ (zzk 3 ⟨32, r2.cs⟩ (zzk 4 ⟨32, zw3⟩ (zza 5 (zI 0) (zzb (sq9 (zzi 11 (.v (r1.v)) ty32 zze (zzg 12 95 _ fun _ _ ax aF => qym (k_parts aF (hr1.ext ax) xq) ?_))))))))
 rintro _ u13 aE ⟨ah, ak, z12, D12, rfl, au, ar, aq, an, aC⟩
 refine zza 10 (.v (.tuple #[ah.v, ak.v])) (zza 13 (.v (ah.v)) (zza 14 (.v (ak.v)) (zzk 6 ⟨30, [.bool false, qyn]⟩ (zzk 7 ⟨30, [.bool false, qyn]⟩ (zzj ⟨30, ah.cs⟩ ty30 ?_)))))
 refine zzj ⟨30, ak.cs⟩ ty30 ?_
 refine zzb (sq9 (zzi 16 (.v (r2.v)) ty32 zze (zzg 17 95 _ fun _ _ aw aH => qym (k_parts aH (hr2.ext (ax.t (aE.t aw))) xq) ?_)))
 rintro _ u18 az ⟨ae, al, ao, D17, rfl, af, ap, av, ac, aP⟩
 refine zza 15 (.v (.tuple #[ae.v, al.v])) (zza 18 (.v (ae.v)) (zza 19 (.v (al.v)) (zzk 8 ⟨30, [.bool false, qyn]⟩ (zzk 9 ⟨30, [.bool false, qyn]⟩ (zzj ⟨30, ae.cs⟩ ty30 ?_)))))
 refine zzj ⟨30, al.cs⟩ ty30 ?_
 refine zzb (zzd (sq9 (zzi 20 (.v (ae.v)) ty30 zze (zzg 21 96 _ fun _ _ ad aM => qym (k_riSign aM (af.ext ad) xq) ?_))))
 rintro _ u22 aj rfl
 refine zza 22 (zB ((Nt.cmpS ao 0) == 0)) (zzb (zzu (b := (Nt.cmpS ao 0) == 0) xj (fun aa => ?_) (fun aa => ?_)))
 ·refine sq9 (zza 23 (.v (.agg #[.bool false, qyn, qyn])) (zzj ⟨32, zw3⟩ ty32 ?_))
  refine zza 5 (zI 3) (zzb (zzo (zzw (ret0 [.agg #[.bool false, qyn, qyn], .int .i64 3] ⟨zzr ty32 zze, zzq, trivial⟩ fun u26 e27 => ?_))))
  left
  exact ⟨rfl, by rw [ac, Nt.cmp_eq0 aa, Rat.zero_mkRat]⟩
 have aB : ao ≠ 0 := Nt.cmp_ne0 aa
 refine zzs (zzp ?_)
 refine zzd (zzz [0, 0, 3, 0, 0, 31, 63, 127, 255] [(0, []), (1, []), (3, []), (4, []), (2, []), (5, []), (6, []), (7, []), (8, [])] xj xj (zzi 24 (.v (ah.v)) ty30 zze (zzi 25 (.v (al.v)) ty30 zze (zzi 27 (.v (ak.v)) ty30 zze (zzi 28 (.v (ae.v)) ty30 zze (zzg 26 137 _ fun _ _ ai aG => qym (k_riMul aG (au.ext (aw.t (az.t (ad.t (aj.t ai))))) (ap.ext (ad.t (aj.t ai))).raw xq xq) ?_))))))
 rintro _ u31 aA ⟨i29, rfl, aO⟩
 refine zzg 29 137 _ fun _ _ am aD => qym (k_riMul aD (ar.ext (aw.t (az.t (ad.t (aj.t (ai.t (aA.t am))))))).raw (af.ext (ad.t (aj.t (ai.t (aA.t am))))) xq xq) ?_
 rintro _ u37 aL ⟨i35, rfl, aN⟩
 refine zzg 30 84 _ fun _ _ ay aK => qym (k_reduce aK (aO.ext (am.t (aL.t ay))).raw (aN.ext ay).raw xq xq) ?_
 rintro _ u43 g44 ⟨ag, rfl, aJ⟩
 refine zzj ⟨32, ag.cs⟩ ty32 ?_
 refine zza 5 (zI 0) (zzc 31 [(4, .adr 4 0), (5, zI 0)] [(4, ⟨32, ag.cs⟩)] (zzo (ret0 [ag.v, .int .i64 0] ⟨zzr ty32 zze, zzq, trivial⟩ fun u46 aI => ?_)))
 right
 refine ⟨?_, ag, rfl, RatN.more (K := (max (K + L) (K + L) + 1)) ?_ xq⟩
 ·rw [ac]; exact (Rat.mkRat_ne_zero xq).2 aB
 rw [an, ac, ← Nt.quo_mk aq av aB]
 exact (aJ.ext aI)
theorem k_rqOver {u w : World} {r1 : RL} {x : Rat} {K : Nat} {r2 : RL} {y : Rat} {L : Nat} (d : Dat u w) (hr1 : RatV u r1 x K) (hr2 : RatV u r2 y L) (hK : K ≤ 100000000) (hL : L ≤ 100000000) : qyc 97 #[r1.v, r2.v] w (Post u w fun v u' => ∃ r : RL, v = r.v ∧ RatN u' r (x / y) (K + L + 2)) := by
 refine zzm (args := [r1.v, r2.v]) Tryz.func97 rfl Tryz.ntmps97 (rs := [.cell 4 32]) Tryz.results97 (le_b rfl) (le_b rfl) d ?_
 refine sq9 (zzk 2 ⟨32, r1.cs⟩ (zzk 3 ⟨32, r2.cs⟩ (zzk 4 ⟨32, zw3⟩ (zzb (sq9 (zzi 8 (.v (r1.v)) ty32 zze (zzi 9 (.v (r2.v)) ty32 zze (zzg 10 158 _ fun _ _ ae ai => qym (k_rqDiv ai (hr1.ext ae) (hr2.ext ae) xq xq) ?_))))))))
 rintro _ u15 g16 (⟨rfl, ac⟩ | ⟨ac, aa, rfl, ak⟩)
 ·skip
  refine zza 7 (.v (.tuple #[.agg #[.bool false, qyn, qyn], .int .i64 3])) (zza 11 (.v (.agg #[.bool false, qyn, qyn])) (zza 12 (zI 3) (zzk 5 ⟨32, zw3⟩ (zzj ⟨32, zw3⟩ ty32 ?_))))
  refine zza 6 (zI 3) (zzb (zzd (sq9 (zza 13 (zI 3) (zza 14 (zB true) (zzb (zyr xj (sq9 (zzg 15 30 _ fun _ _ _ ah => qym (k_rqOf ah (z := 0) xq xq) ?_)))))))))
  rintro _ u21 g22 ⟨ad, rfl, ag⟩
  refine zzj ⟨32, ad.cs⟩ ty32 ?_
  refine zzb (zzo (zzw (ret0 [ad.v] ⟨zzr ty32 zze, trivial⟩ fun u24 aj => ?_)))
  refine ⟨ad, rfl, RatN.more (K := 2) ?_ xq⟩
  rw [ac, Rat.div_def, Rat.inv_zero, Rat.mul_zero]
  exact (ag.ext aj)
 refine zza 7 (.v (.tuple #[aa.v, .int .i64 0])) (zza 11 (.v (aa.v)) (zza 12 (zI 0) (zzk 5 ⟨32, zw3⟩ (zzj ⟨32, aa.cs⟩ ty32 ?_))))
 refine zza 6 (zI 0) (zzb (zzd (sq9 (zza 13 (zI 0) (zza 14 (zB false) (zzb (zys xj (zzs (zzp ?_)))))))))
 refine sq9 (zzi 16 (.v (aa.v)) ty32 zze (zzj ⟨32, aa.cs⟩ ty32 ?_))
 refine zzb (zzo (ret0 [aa.v] ⟨zzr ty32 zze, trivial⟩ fun u26 af => ?_))
 refine ⟨aa, rfl, RatN.more (K := (K + L + 1)) ?_ xq⟩
 exact (ak.ext af)
theorem k_signed {u w : World} {s : Bool} {x : Sl} {N K : Nat} (d : Dat u w) (h : NatN u x N K) : qyc 193 #[.bool s, x.v] w (Post u w fun v u' => ∃ i : IL, v = i.v ∧ IntN u' i (Nt.sg s N) K) := by
 refine zzm (args := [.bool s, x.v]) Tryz.func193 rfl Tryz.ntmps193 (rs := [.cell 4 30]) Tryz.results193 (le_b rfl) (le_b rfl) d ?_
 refine sq9 (zzk 4 ⟨30, [.bool false, qyn]⟩ (zzb (sq9 (zza 5 (zB s) ?_))))
 rcases Bool.eq_false_or_eq_true s with hs11 | hs11
 ·refine zyq 6 (x := zB s) (zB true) (by rw [hs11]) (zza 7 (.v (x.v)) ?_ (hw := w1 1 true 6))
  refine zza 8 (zI x.n) ?_ (hw := w1 1 true 6)
  refine zza 9 (zB (decide ((0 : Int) < (x.n : Int)))) ?_ (hw := w1 1 true 6)
  refine zza 10 (zB (decide ((0 : Int) < (x.n : Int)))) (zza 11 (.v (x.v)) (zza 12 (.v (.agg #[.bool (decide ((0 : Int) < (x.n : Int))), x.v])) (zzj ⟨30, [.bool (decide ((0 : Int) < (x.n : Int))), x.v]⟩ ty30 ?_)))
  refine zzb (zzo (ret0 [.agg #[.bool (decide ((0 : Int) < (x.n : Int))), .slice x.a x.n x.c]] ⟨zzr ty30 zze, trivial⟩ fun u12 aa => ?_))
  rw [hs11]
  exact ⟨⟨_, x⟩, rfl, signed_int (s := true) (h.ext aa)⟩
 refine zyq 6 (x := zB s) (zB false) (by rw [hs11]) (zzn 7 (uw 1 true false 6) (zzn 8 (uw 1 true false 6) (zzn 9 (uw 1 true false 6) (zza 10 (zB false) (zza 11 (.v (x.v)) (zza 12 (.v (.agg #[.bool false, x.v])) (zzj ⟨30, [.bool false, x.v]⟩ ty30 ?_)))))))
 refine zzb (zzo (ret0 [.agg #[.bool false, .slice x.a x.n x.c]] ⟨zzr ty30 zze, trivial⟩ fun u14 ac => ?_))
 rw [hs11]
 exact ⟨⟨_, x⟩, rfl, signed_int (s := false) (h.ext ac)⟩
theorem k_intTrim {u w : World} {i1 : IL} {zN : Int} {K : Nat} (d : Dat u w) (hi1 : IntV u i1 zN K) (hK : K ≤ 500000000) : qyc 200 #[i1.v] w (Post u w fun v u' => ∃ i : IL, v = i.v ∧ IntN u' i zN K) := by
 obtain ⟨N, hN, hzN⟩ := hi1
 refine zzm (args := [i1.v]) Tryz.func200 rfl Tryz.ntmps200 (rs := [.cell 2 30]) Tryz.results200 (le_b rfl) (le_b rfl) d ?_
 refine sq9 (zzk 1 ⟨30, i1.cs⟩ (zzk 2 ⟨30, [.bool false, qyn]⟩ (zzb (zzd (zzz [0, 1, 0, 4, 12, 31, 63] [(0, []), (1, []), (2, []), (3, []), (4, []), (5, []), (6, [])] xj xj (zza 3 (.adr 1 0) (zzi 4 (zB i1.s) ty4 zzl (zza 5 (.adr 1 1) (zzi 6 (.v (i1.m.v)) ty28 zzl (zzg 7 194 _ fun _ _ ae ah => qym (k_natTrim ah (hN.ext ae) xq) ?_))))))))))
 rintro _ u14 g15 ⟨x12, rfl, ag⟩
 refine zzg 8 193 _ fun _ _ af ai => qym (k_signed ai (s := i1.s) (ag.ext af)) ?_
 rintro _ u20 g21 ⟨aa, rfl, ac⟩
 refine zzj ⟨30, aa.cs⟩ ty30 ?_
 refine zzb (zzo (ret0 [aa.v] ⟨zzr ty30 zze, trivial⟩ fun u23 ad => ?_))
 refine ⟨aa, rfl, IntN.more (K := K) ?_ xq⟩
 rw [hzN]
 exact (ac.ext ad)
theorem k_intMul {u w : World} {i1 : IL} {zN : Int} {K : Nat} {i2 : IL} {zM : Int} {L : Nat} (d : Dat u w) (hi1 : IntV u i1 zN K) (hi2 : IntV u i2 zM L) (hK : K ≤ 500000000) (hL : L ≤ 500000000) : qyc 143 #[i1.v, i2.v] w (Post u w fun v u' => ∃ i : IL, v = i.v ∧ IntN u' i (zN * zM) (K + L)) := by
 obtain ⟨N, hN, hzN⟩ := hi1
 obtain ⟨M, hM, hzM⟩ := hi2
 refine zzm (args := [i1.v, i2.v]) Tryz.func143 rfl Tryz.ntmps143 (rs := [.cell 4 30]) Tryz.results143 (le_b rfl) (le_b rfl) d ?_
 refine sq9 (zzk 2 ⟨30, i1.cs⟩ (zzk 3 ⟨30, i2.cs⟩ (zzk 4 ⟨30, [.bool false, qyn]⟩ (zzb (zzd (zzz [0, 1, 0, 4, 15, 0, 32, 0, 128, 480, 1023, 2047] [(0, []), (1, []), (2, []), (3, []), (4, []), (5, []), (6, []), (7, []), (8, []), (9, []), (10, []), (11, [])] xj xj (zza 5 (.adr 2 0) (zzi 6 (zB i1.s) ty4 zzl (zza 7 (.adr 3 0) (zzi 8 (zB i2.s) ty4 zzl (zza 9 (zB (!(i1.s == i2.s))) ?_)))))))))))
 refine zza 10 (.adr 2 1) (zzi 11 (.v (i1.m.v)) ty28 zzl (zza 12 (.adr 3 1) (zzi 13 (.v (i2.m.v)) ty28 zzl (zzg 14 167 _ fun _ _ ac ah => qym (k_natMul ah (hN.ext ac) (hM.ext ac) xq xq) ?_))))
 rintro _ u14 g15 ⟨x12, rfl, ag⟩
 refine zzg 15 193 _ fun _ _ af ai => qym (k_signed ai (s := !(i1.s == i2.s)) (ag.ext af)) ?_
 rintro _ u20 g21 ⟨aa, rfl, ad⟩
 refine zzj ⟨30, aa.cs⟩ ty30 ?_
 refine zzb (zzo (ret0 [aa.v] ⟨zzr ty30 zze, trivial⟩ fun u23 ae => ?_))
 refine ⟨aa, rfl, IntN.more (K := (K + L)) ?_ xq⟩
 rw [hzN, hzM, ← Nt.sg_mul]
 exact (ad.ext ae)
theorem k_intAdd {u w : World} {i1 : IL} {zN : Int} {K : Nat} {i2 : IL} {zM : Int} {L : Nat} (d : Dat u w) (hi1 : IntV u i1 zN K) (hi2 : IntV u i2 zM L) (hK : K ≤ 500000000) (hL : L ≤ 500000000) : qyc 165 #[i1.v, i2.v] w (Post u w fun v u' => ∃ i : IL, v = i.v ∧ IntN u' i (zN + zM) (max K L + 1)) := by
 obtain ⟨N, hN, hzN⟩ := hi1
 obtain ⟨M, hM, hzM⟩ := hi2
 refine zzm (args := [i1.v, i2.v]) Tryz.func165 rfl Tryz.ntmps165 (rs := [.cell 4 30]) Tryz.results165 (le_b rfl) (le_b rfl) d ?_
 refine sq9 (zzk 2 ⟨30, i1.cs⟩ (zzk 3 ⟨30, i2.cs⟩ (zzk 4 ⟨30, [.bool false, qyn]⟩ (zzb (zzd (sq9 (zza 5 (.adr 2 0) (zzi 6 (zB i1.s) ty4 zzl (zza 7 (.adr 3 0) (zzi 8 (zB i2.s) ty4 zzl (zza 9 (zB (i1.s == i2.s)) ?_)))))))))))
 refine zzb (zzu (b := i1.s == i2.s) xj (fun aa => ?_) (fun aa => ?_))
 ·refine zzd (zzz [0, 1, 0, 4, 0, 16, 60, 127, 255] [(0, []), (1, []), (2, []), (3, []), (4, []), (5, []), (6, []), (7, []), (8, [])] xj xj (zza 10 (.adr 2 0) (zzi 11 (zB i1.s) ty4 zzl (zza 12 (.adr 2 1) (zzi 13 (.v (i1.m.v)) ty28 zzl (zza 14 (.adr 3 1) (zzi 15 (.v (i2.m.v)) ty28 zzl (zzg 16 196 _ fun _ _ ai aE => qym (k_natAdd aE (hN.ext ai) (hM.ext ai) xq xq) ?_))))))))
  rintro _ u15 g16 ⟨x13, rfl, aB⟩
  refine zzg 17 193 _ fun _ _ az aA => qym (k_signed aA (s := i1.s) (aB.ext az)) ?_
  rintro _ u21 g22 ⟨af, rfl, av⟩
  refine zzj ⟨30, af.cs⟩ ty30 ?_
  refine zzb (zzo (zzw (ret0 [af.v] ⟨zzr ty30 zze, trivial⟩ fun u24 ap => ?_)))
  refine ⟨af, rfl, IntN.more (K := (max K L + 1)) ?_ xq⟩
  rw [hzN, hzM, ← Nt.sg_add1 N M aa]
  exact (av.ext ap)
 refine zzs (zzp ?_)
 refine zzd (sq9 (zza 18 (.adr 2 1) (zzi 19 (.v (i1.m.v)) ty28 zzl (zza 20 (.adr 3 1) (zzi 21 (.v (i2.m.v)) ty28 zzl (zzg 22 166 _ fun _ _ ad ar => qym (k_natCompare ar (hN.ext ad) (hM.ext ad)) ?_))))))
 rintro _ u27 ae rfl
 refine zza 23 (zB ((Nt.cmpS N M) == (-1))) (zzb (zzu (b := (Nt.cmpS N M) == (-1)) xj (fun ac => ?_) (fun ac => ?_)))
 ·refine zzd (zzz [0, 1, 0, 4, 0, 16, 60, 127, 255] [(0, []), (1, []), (2, []), (3, []), (4, []), (5, []), (6, []), (7, []), (8, [])] xj xj (zza 24 (.adr 3 0) (zzi 25 (zB i2.s) ty4 zzl (zza 26 (.adr 3 1) (zzi 27 (.v (i2.m.v)) ty28 zzl (zza 28 (.adr 2 1) (zzi 29 (.v (i1.m.v)) ty28 zzl (zzg 30 197 _ fun _ _ aj aC => qym (k_natSub aC (hM.ext (ad.t (ae.t aj))) (hN.ext (ad.t (ae.t aj))) xq xq) ?_))))))))
  rintro _ u34 g35 ⟨x32, rfl, aq⟩
  refine zzg 31 193 _ fun _ _ am aw => qym (k_signed aw (s := i2.s) (aq.ext am)) ?_
  rintro _ u40 g41 ⟨ag, rfl, au⟩
  refine zzj ⟨30, ag.cs⟩ ty30 ?_
  refine zzb (zzo (zzw (ret0 [ag.v] ⟨zzr ty30 zze, trivial⟩ fun u43 aF => ?_)))
  refine ⟨ag, rfl, IntN.more (K := L) ?_ xq⟩
  rw [hzN, hzM, ← Nt.sg_add2 N M aa ac]
  exact (au.ext aF)
 refine zzs (zzp ?_)
 refine zzd (zzz [0, 1, 0, 4, 0, 16, 60, 127, 255] [(0, []), (1, []), (2, []), (3, []), (4, []), (5, []), (6, []), (7, []), (8, [])] xj xj (zza 32 (.adr 2 0) (zzi 33 (zB i1.s) ty4 zzl (zza 34 (.adr 2 1) (zzi 35 (.v (i1.m.v)) ty28 zzl (zza 36 (.adr 3 1) (zzi 37 (.v (i2.m.v)) ty28 zzl (zzg 38 197 _ fun _ _ ak aD => qym (k_natSub aD (hN.ext (ad.t (ae.t ak))) (hM.ext (ad.t (ae.t ak))) xq xq) ?_))))))))
 rintro _ u48 g49 ⟨x46, rfl, ay⟩
 refine zzg 39 193 _ fun _ _ al ax => qym (k_signed ax (s := i1.s) (ay.ext al)) ?_
 rintro _ u54 g55 ⟨ah, rfl, an⟩
 refine zzj ⟨30, ah.cs⟩ ty30 ?_
 refine zzb (zzo (ret0 [ah.v] ⟨zzr ty30 zze, trivial⟩ fun u57 ao => ?_))
 refine ⟨ah, rfl, IntN.more (K := K) ?_ xq⟩
 rw [hzN, hzM, ← Nt.sg_add3 N M aa ac]
 exact (an.ext ao)
theorem k_intSign {u w : World} {i1 : IL} {zN : Int} {K : Nat} (d : Dat u w) (hi1 : IntV u i1 zN K)  : qyc 147 #[i1.v] w (Post u w fun v u' => v = .int .i64 (Nt.cmpS zN 0)) := by
 obtain ⟨N, hN, hzN⟩ := hi1
 refine zzm (args := [i1.v]) Tryz.func147 rfl Tryz.ntmps147 (rs := [.tmp 2]) Tryz.results147 (le_b rfl) (le_b rfl) d ?_
 refine sq9 (zzk 1 ⟨30, i1.cs⟩ (zza 2 (zI 0) (zzb (zzd (zzt (sq9 (zza 4 (.adr 1 1) (zzi 5 (.v (i1.m.v)) ty28 zzl (zzg 6 166 _ fun _ _ ad ae => qym (k_natCompare ae (hN.ext ad) (nat_nil _ 1)) ?_)))))))))
 rintro _ u12 g13 rfl
 refine zza 7 (zB ((Nt.cmpS N 0) == 0)) (zza 3 (zB ((Nt.cmpS N 0) == 0)) (zzb (zzu (b := (Nt.cmpS N 0) == 0) xj (fun ac => ?_) (fun ac => ?_))))
 ·refine sq9 (zza 2 (zI 0) (zzb (zzo (zyu (zzw (ret0 [.int .i64 0] ⟨zzq, trivial⟩ fun u16 e17 => ?_))))))
  show _ = _
  rw [hzN, Nt.sg_cmp0, if_pos ac]
  rfl
 refine sq9 (zza 9 (.adr 1 0) (zzi 10 (zB i1.s) ty4 zzl (zza 8 (zB i1.s) (zzb (zzu (b := i1.s) xj (fun aa => ?_) (fun aa => ?_))))))
 ·replace aa : i1.s = true := aa
  refine sq9 (zza 2 (zI (-1)) (zzb (zzo (zyu (zzw (ret0 [.int .i64 (-1)] ⟨zzq, trivial⟩ fun u19 e20 => ?_))))))
  show _ = _
  rw [hzN, Nt.sg_cmp0, if_neg (ne_true_of_eq_false ac), if_pos aa]
  rfl
 replace aa : i1.s = false := aa
 refine zzs (zzp ?_)
 refine sq9 (zza 2 (zI 1) (zzb (zzo (ret0 [.int .i64 1] ⟨zzq, trivial⟩ fun u21 e22 => ?_))))
 show _ = _
 rw [hzN, Nt.sg_cmp0, if_neg (ne_true_of_eq_false ac), if_neg (ne_true_of_eq_false aa)]
 rfl
namespace Nt
theorem cmp_sg (s t : Bool) (N M : Nat) : cmpS (sg s N) (sg t M) = if decide (cmpS (sg s N) 0 < cmpS (sg t M) 0) = true then -1 else if decide (cmpS (sg t M) 0 < cmpS (sg s N) 0) = true then 1 else if (cmpS (sg s N) 0 == -1) = true then cmpS (M : Int) (N : Int) else cmpS (N : Int) (M : Int) := by
 rcases cmp_range (sg s N) 0 with ⟨e, h⟩ | ⟨e, h⟩ | ⟨e, h⟩ <;> rcases cmp_range (sg t M) 0 with ⟨e', h'⟩ | ⟨e', h'⟩ | ⟨e', h'⟩ <;> rw [e, e'] <;> simp
 ·unfold sg at *; cases s <;> cases t <;> simp at h h' ⊢ <;> unfold cmpS <;> (repeat' split) <;> first | rfl | omega
 ·exact cmp_lt xq
 ·exact cmp_lt xq
 ·exact cmp_gt xq
 ·rw [h, h']; unfold sg at *; cases s <;> cases t <;> simp at h h' <;> rw [h, h'] <;> rfl
 ·exact cmp_lt xq
 ·exact cmp_gt xq
 ·exact cmp_gt xq
 unfold sg at *; cases s <;> cases t <;> simp at h h' ⊢ <;> first | rfl | omega
end Nt
theorem k_intCompare {u w : World} {i1 : IL} {zN : Int} {K : Nat} {i2 : IL} {zM : Int} {L : Nat} (d : Dat u w) (hi1 : IntV u i1 zN K) (hi2 : IntV u i2 zM L)  : qyc 146 #[i1.v, i2.v] w (Post u w fun v u' => v = .int .i64 (Nt.cmpS zN zM)) := by
 obtain ⟨N, hN, hzN⟩ := hi1
 obtain ⟨M, hM, hzM⟩ := hi2
 refine zzm (args := [i1.v, i2.v]) Tryz.func146 rfl Tryz.ntmps146 (rs := [.tmp 4]) Tryz.results146 (le_b rfl) (le_b rfl) d ?_
 refine sq9 (zzk 2 ⟨30, i1.cs⟩ (zzk 3 ⟨30, i2.cs⟩ (zza 4 (zI 0) (zzb (zzd (zzz [0, 1, 0, 7, 15, 31] [(0, []), (2, []), (1, []), (3, []), (4, []), (5, [])] xj xj (zzi 7 (.v (i1.v)) ty30 zze (zzi 9 (.v (i2.v)) ty30 zze (zzg 8 147 _ fun _ _ ae an => qym (k_intSign an (IntV.same (s := i1.s) (hN.ext ae))) ?_)))))))))
 rintro _ u12 ag rfl
 refine zzg 10 147 _ fun _ _ af al => qym (k_intSign al (IntV.same (s := i2.s) (hM.ext (ae.t (ag.t af))))) ?_
 rintro _ u16 ah rfl
 refine zza 5 (zI (Nt.cmpS (Nt.sg i1.s N) 0)) (zza 6 (zI (Nt.cmpS (Nt.sg i2.s M) 0)) (zzb (zzd (zzt (sq9 (zza 12 (zI (Nt.cmpS (Nt.sg i1.s N) 0)) (zza 13 (zI (Nt.cmpS (Nt.sg i2.s M) 0)) (zza 14 (zB (decide ((Nt.cmpS (Nt.sg i1.s N) 0) < (Nt.cmpS (Nt.sg i2.s M) 0)))) (zza 11 (zB (decide ((Nt.cmpS (Nt.sg i1.s N) 0) < (Nt.cmpS (Nt.sg i2.s M) 0)))) (zzb (zzu (b := decide ((Nt.cmpS (Nt.sg i1.s N) 0) < (Nt.cmpS (Nt.sg i2.s M) 0))) xj (fun aa => ?_) (fun aa => ?_))))))))))))
 ·have qhb19 := qyt aa
  refine sq9 (zza 4 (zI (-1)) (zzb (zzo (zyu (zzw (ret0 [.int .i64 (-1)] ⟨zzq, trivial⟩ fun u20 e21 => ?_))))))
  show _ = _
  rw [hzN, hzM, Nt.cmp_sg, if_pos aa]
  rfl
 have qhb19 := qyf aa
 refine sq9 (zza 16 (zI (Nt.cmpS (Nt.sg i1.s N) 0)) (zza 17 (zI (Nt.cmpS (Nt.sg i2.s M) 0)) (zza 18 (zB (decide ((Nt.cmpS (Nt.sg i2.s M) 0) < (Nt.cmpS (Nt.sg i1.s N) 0)))) (zza 15 (zB (decide ((Nt.cmpS (Nt.sg i2.s M) 0) < (Nt.cmpS (Nt.sg i1.s N) 0)))) (zzb (zzu (b := decide ((Nt.cmpS (Nt.sg i2.s M) 0) < (Nt.cmpS (Nt.sg i1.s N) 0))) xj (fun ac => ?_) (fun ac => ?_)))))))
 ·have qhb22 := qyt ac
  refine sq9 (zza 4 (zI 1) (zzb (zzo (zyu (zzw (ret0 [.int .i64 1] ⟨zzq, trivial⟩ fun u23 e24 => ?_))))))
  show _ = _
  rw [hzN, hzM, Nt.cmp_sg, if_neg (ne_true_of_eq_false aa), if_pos ac]
  rfl
 have qhb22 := qyf ac
 refine sq9 (zza 20 (zI (Nt.cmpS (Nt.sg i1.s N) 0)) (zza 21 (zB ((Nt.cmpS (Nt.sg i1.s N) 0) == (-1))) (zza 19 (zB ((Nt.cmpS (Nt.sg i1.s N) 0) == (-1))) (zzb (zzu (b := (Nt.cmpS (Nt.sg i1.s N) 0) == (-1)) xj (fun ad => ?_) (fun ad => ?_))))))
 ·refine sq9 (zza 22 (.adr 3 1) (zzi 23 (.v (i2.m.v)) ty28 zzl (zza 24 (.adr 2 1) (zzi 25 (.v (i1.m.v)) ty28 zzl (zzg 26 166 _ fun _ _ aj am => qym (k_natCompare am (hM.ext (ae.t (ag.t (af.t (ah.t aj))))) (hN.ext (ae.t (ag.t (af.t (ah.t aj)))))) ?_)))))
  rintro _ u27 g28 rfl
  refine zza 4 (zI (Nt.cmpS M N)) (zzb (zzo (zyu (zzw (ret0 [.int .i64 (Nt.cmpS M N)] ⟨zzq, trivial⟩ fun u30 e31 => ?_)))))
  show _ = _
  rw [hzN, hzM, Nt.cmp_sg, if_neg (ne_true_of_eq_false aa), if_neg (ne_true_of_eq_false ac), if_pos ad]
  rfl
 refine zzs (zzp ?_)
 refine sq9 (zza 27 (.adr 2 1) (zzi 28 (.v (i1.m.v)) ty28 zzl (zza 29 (.adr 3 1) (zzi 30 (.v (i2.m.v)) ty28 zzl (zzg 31 166 _ fun _ _ ai ak => qym (k_natCompare ak (hN.ext (ae.t (ag.t (af.t (ah.t ai))))) (hM.ext (ae.t (ag.t (af.t (ah.t ai)))))) ?_)))))
 rintro _ u33 g34 rfl
 refine zza 4 (zI (Nt.cmpS N M)) (zzb (zzo (ret0 [.int .i64 (Nt.cmpS N M)] ⟨zzq, trivial⟩ fun u36 e37 => ?_)))
 show _ = _
 rw [hzN, hzM, Nt.cmp_sg, if_neg (ne_true_of_eq_false aa), if_neg (ne_true_of_eq_false ac), if_neg (ne_true_of_eq_false ad)]
 rfl
theorem k_intOf {u w : World} {z : Int} (d : Dat u w) (h0 : -9223372036854775808 ≤ z) (h1 : z ≤ 9223372036854775807) : qyc 140 #[.int .i64 z] w (Post u w fun v u' => ∃ i : IL, v = i.v ∧ IntN u' i z 2) := by
 by_cases hneg : z < 0
 ·refine zzm (args := [.int .i64 z]) Tryz.func140 rfl Tryz.ntmps140 (rs := [.cell 2 30]) Tryz.results140 (le_b rfl) (le_b rfl) d ?_
  refine sq9 (zzk 2 ⟨30, [.bool false, qyn]⟩ (zzb (sq9 (zza 4 (zI z) (zyq 5 (x := .v (.int .u64 (IntKind.u64.wrap z))) (.v (.int .u64 (z + 18446744073709551616))) (by rw [show (IntKind.u64.wrap z) = (z + 18446744073709551616) from (by simp [IntKind.wrap, IntKind.bits, IntKind.signed]; omega)]) (zza 3 (.v (.int .u64 (z + 18446744073709551616))) (zzb (zzd (sq9 (zza 6 (zI z) (zyq 7 (x := zB (decide (z < 0))) (zB true) (by rw [show (decide (z < 0)) = true from yw]) ?_)))))))))))
  refine zzb (zyr xj (zzf (zza 8 (.v (.int .u64 (z + 18446744073709551616))) (zyq 9 (x := .v (.int .u64 (IntKind.u64.wrap (0 - (z + 18446744073709551616))))) (.v (.int .u64 (-z))) (by rw [show (IntKind.u64.wrap (0 - (z + 18446744073709551616))) = (-z) from (by simp [IntKind.wrap, IntKind.bits, IntKind.signed]; omega)]) (zza 3 (.v (.int .u64 (-z))) (zzb (sq9 (zza 10 (zI z) (zyq 11 (x := zB (decide (z < 0))) (zB true) (by rw [show (decide (z < 0)) = true from yw]) (zza 12 (.v (.int .u64 (-z))) (zyq 13 (x := .v (.int .u32 (IntKind.u32.wrap (-z)))) (.v (.int .u32 ((-z) % 4294967296))) (by rw [show (IntKind.u32.wrap (-z)) = ((-z) % 4294967296) from (IntKind.wrap_u32 _)]) ?_)))))))))))
  refine zza 14 (.v (.int .u64 (-z))) (zyq 15 (x := .v (.int .u64 (Int.fdiv (-z) (2 ^ 32)))) (.v (.int .u64 ((-z) / 4294967296))) (by rw [show (Int.fdiv (-z) (2 ^ 32)) = ((-z) / 4294967296) from (by rw [Int.fdiv_eq_ediv_of_nonneg _ yv]; rfl)]) (zyq 16 (x := .v (.int .u32 (IntKind.u32.wrap ((-z) / 4294967296)))) (.v (.int .u32 ((-z) / 4294967296))) (by rw [show (IntKind.u32.wrap ((-z) / 4294967296)) = ((-z) / 4294967296) from (IntWalk.u32_in _ xq)]) (zxx 17 ⟨133, [.int .u32 ((-z) % 4294967296), .int .u32 ((-z) / 4294967296)]⟩ 2 (fun al au aq ah => ?_))))
  refine zzg 18 194 [.slice (some ⟨al, 0, none⟩) 2 2] ?_
  intro w15 u15 aj ad
  have k20 := k_natTrim ad ((two_data (N := z.natAbs) ah xq xq xq).ext aj) xq
  with_reducible refine zPm k20 ?_
  rintro _ ar ap ⟨ak, rfl, ae⟩
  refine zzg 19 193 [.bool true, ak.v] ?_
  intro w21 u21 ac ai
  have k26 := k_signed ai (s := true) (ae.ext ac)
  with_reducible refine zPm k26 ?_
  rintro _ am an ⟨aa, rfl, ag⟩
  refine zzj ⟨30, aa.cs⟩ ty30 ?_
  refine zzb (zzo (ret0 [aa.v] ⟨zzr ty30 zze, trivial⟩ fun ao af => ?_))
  refine ⟨aa, rfl, IntN.more (K := 2) ?_ xq⟩
  have e : z = Nt.sg true z.natAbs := by unfold Nt.sg; simp; omega
  rw [e]
  exact (ag.ext af)
 refine zzm (args := [.int .i64 z]) Tryz.func140 rfl Tryz.ntmps140 (rs := [.cell 2 30]) Tryz.results140 (le_b rfl) (le_b rfl) d ?_
 refine sq9 (zzk 2 ⟨30, [.bool false, qyn]⟩ (zzb (sq9 (zza 4 (zI z) (zyq 5 (x := .v (.int .u64 (IntKind.u64.wrap z))) (.v (.int .u64 (z))) (by rw [show (IntKind.u64.wrap z) = z from (by simp [IntKind.wrap, IntKind.bits, IntKind.signed]; omega)]) (zza 3 (.v (.int .u64 z)) (zzb (zzd (sq9 (zza 6 (zI z) (zyq 7 (x := zB (decide (z < 0))) (zB false) (by rw [show (decide (z < 0)) = false from yw]) ?_)))))))))))
 refine zzb (zys xj (zzs (zzp ?_)))
 refine sq9 (zza 10 (zI z) (zyq 11 (x := zB (decide (z < 0))) (zB false) (by rw [show (decide (z < 0)) = false from yw]) (zza 12 (.v (.int .u64 z)) (zyq 13 (x := .v (.int .u32 (IntKind.u32.wrap (z)))) (.v (.int .u32 ((z) % 4294967296))) (by rw [show (IntKind.u32.wrap (z)) = ((z) % 4294967296) from (IntKind.wrap_u32 _)]) (zza 14 (.v (.int .u64 z)) (zyq 15 (x := .v (.int .u64 (Int.fdiv (z) (2 ^ 32)))) (.v (.int .u64 ((z) / 4294967296))) (by rw [show (Int.fdiv (z) (2 ^ 32)) = ((z) / 4294967296) from (by rw [Int.fdiv_eq_ediv_of_nonneg _ yv]; rfl)]) (zyq 16 (x := .v (.int .u32 (IntKind.u32.wrap ((z) / 4294967296)))) (.v (.int .u32 ((z) / 4294967296))) (by rw [show (IntKind.u32.wrap ((z) / 4294967296)) = ((z) / 4294967296) from (IntWalk.u32_in _ xq)]) (zxx 17 ⟨133, [.int .u32 ((z) % 4294967296), .int .u32 ((z) / 4294967296)]⟩ 2 (fun al au aq ah => ?_)))))))))
 refine zzg 18 194 _ fun _ _ aj ad => qym (k_natTrim ad ((two_data (N := z.natAbs) ah xq xq xq).ext aj) xq) ?_
 rintro _ ar ap ⟨ak, rfl, ae⟩
 refine zzg 19 193 _ fun _ _ ac ai => qym (k_signed ai (s := false) (ae.ext ac)) ?_
 rintro _ am an ⟨aa, rfl, ag⟩
 refine zzj ⟨30, aa.cs⟩ ty30 ?_
 refine zzb (zzo (ret0 [aa.v] ⟨zzr ty30 zze, trivial⟩ fun ao af => ?_))
 refine ⟨aa, rfl, IntN.more (K := 2) ?_ xq⟩
 have e : z = Nt.sg false z.natAbs := by unfold Nt.sg; simp; omega
 rw [e]
 exact (ag.ext af)
end Go.Proofs.YtgmkhhfbckjaeaaGreat
