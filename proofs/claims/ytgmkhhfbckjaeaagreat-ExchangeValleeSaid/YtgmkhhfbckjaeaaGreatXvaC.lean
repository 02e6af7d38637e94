/- Parts of the proof: contracts of functions, each walked once, and plain laws. -/
import Derived.Test.YtgmkhhfbckjaeaaGreatXvaB
import Derived.Test.YtgmkhhfbckjaeaaGreatProg
import Derived.KernelRfl
set_option linter.unusedVariables false
namespace Go.Proofs.YtgmkhhfbckjaeaaGreat
namespace Nt
structure Pol where
 l : List Rat
 h : Nrm l
namespace Pol
def mk' (l : List Rat) : Pol := ⟨trimQ l, trim_nrm l⟩
def c (p : Pol) (i : Nat) : Rat := co p.l i
theorem mk_c (l : List Rat) (i : Nat) : (mk' l).c i = co l i := trim_co l i
theorem ext {p q : Pol} (h : ∀ i, p.c i = q.c i) : p = q := by
 obtain ⟨l, hl⟩ := p
 obtain ⟨m, hm⟩ := q
 have e : trimQ l = trimQ m := trim_ext h
 unfold Nrm at hl hm
 rw [hl, hm] at e
 subst e; rfl
theorem mk_l (p : Pol) : mk' p.l = p := ext fun i => mk_c _ i
def C (a : Rat) : Pol := mk' [a]
instance (n : Nat) : OfNat Pol n := ⟨C (n : Rat)⟩
instance : Add Pol := ⟨fun p q => mk' (addQ p.l q.l)⟩
instance : Mul Pol := ⟨fun p q => mk' (mulQ p.l q.l)⟩
instance : Neg Pol := ⟨fun p => mk' (negQ p.l)⟩
instance : Sub Pol := ⟨fun p q => p + -q⟩
def X : Pol := mk' [0, 1]
theorem c_add (p q : Pol) (i : Nat) : (p + q).c i = p.c i + q.c i := (mk_c _ i).trans (addQ_co _ _ i)
theorem c_neg (p : Pol) (i : Nat) : (-p).c i = -p.c i := (mk_c _ i).trans (negQ_co _ i)
theorem c_C (a : Rat) (i : Nat) : (C a).c i = if i = 0 then a else 0 := by
 unfold C
 rw [mk_c]
 cases i with
 | zero => rfl
 | succ i => rw [zxv, co_nil, if_neg xq]
theorem c_zero (i : Nat) : (0 : Pol).c i = 0 := by
 have h : (0 : Pol).c i = if i = 0 then (0 : Rat) else 0 := c_C 0 i
 rw [h]; split <;> rfl
theorem zero_l : (0 : Pol).l = [] := zxz.2 fun i => by
 have := c_zero i
 unfold c at this
 show co [((0 : Nat) : Rat)] i = 0
 rw [← trim_co]; exact this
theorem mk_add (l m : List Rat) : mk' (addQ l m) = mk' l + mk' m := ext fun i => by rw [mk_c, addQ_co, c_add, mk_c, mk_c]
theorem mk_mul (l m : List Rat) : mk' (mulQ l m) = mk' l * mk' m := ext fun i => by
 show _ = (mk' (mulQ (trimQ l) (trimQ m))).c i
 rw [mk_c, mk_c]
 exact zwh (fun i => (trim_co l i).symm) (fun i => (trim_co m i).symm) i
theorem c_mul (p q : Pol) (i : Nat) : (p * q).c i = co (mulQ p.l q.l) i := mk_c _ i
theorem mk_cons (a : Rat) (l : List Rat) (i : Nat) : (mk' (a :: l)).c i = if i = 0 then a else (mk' l).c (i - 1) := by
 rw [mk_c]
 cases i with
 | zero => rfl
 | succ i => rw [zxv, if_neg xq, mk_c]; rfl
theorem mulQ_consR (l : List Rat) (b : Rat) (m : List Rat) (k : Nat) : co (mulQ l (b :: m)) k = b * co l k + sh (co (mulQ l m)) k := by
 induction l generalizing k with
 | nil =>
  rw [mulQ_nil, co_nil]
  have e : sh (co (mulQ [] m)) k = 0 := by unfold sh; split <;> rfl
  rw [e]; grind
 | cons a l ih =>
  rw [zxe]
  cases k with
  | zero => unfold sh; rw [if_pos rfl, if_pos rfl, co_zero, co_zero]; grind
  | succ k =>
   have e1 : sh (co (mulQ l (b :: m))) (k + 1) = b * co l k + sh (co (mulQ l m)) k := by
    unfold sh; rw [if_neg xq, Nat.add_sub_cancel]; exact ih k
   have e2 : sh (co (mulQ (a :: l) m)) (k + 1) = a * co m k + sh (co (mulQ l m)) k := by
    unfold sh; rw [if_neg xq, Nat.add_sub_cancel]; exact zxe a l m k
   rw [e1, e2, zxv, zxv]; grind
theorem mulQ_comm (l m : List Rat) (k : Nat) : co (mulQ l m) k = co (mulQ m l) k := by
 induction l generalizing k with
 | nil =>
  rw [mulQ_nil]
  exact (mulQ_zero_r (m := []) (fun i => co_nil i) m k).symm
 | cons a l ih =>
  rw [zxe, mulQ_consR]
  have e : sh (co (mulQ l m)) k = sh (co (mulQ m l)) k := by unfold sh; split; rfl; exact ih _
  rw [e]
theorem mulQ_add (l l' m : List Rat) (k : Nat) : co (mulQ (addQ l l') m) k = co (mulQ l m) k + co (mulQ l' m) k := by
 induction m generalizing k with
 | nil =>
  rw [mulQ_zero_r (fun i => co_nil i), mulQ_zero_r (fun i => co_nil i), mulQ_zero_r (fun i => co_nil i)]; exact (Rat.add_zero 0).symm
 | cons b m ih =>
  rw [mulQ_consR, mulQ_consR, mulQ_consR, addQ_co]
  cases k with
  | zero => unfold sh; rw [if_pos rfl, if_pos rfl, if_pos rfl]; grind
  | succ k =>
   have e : ∀ x : List Rat, sh (co x) (k + 1) = co x k := fun x => by unfold sh; rw [if_neg xq, Nat.add_sub_cancel]
   rw [e, e, e, ih k]; grind
theorem mulQ_assoc (l m n : List Rat) (k : Nat) : co (mulQ (mulQ l m) n) k = co (mulQ l (mulQ m n)) k := by
 induction l generalizing k with
 | nil => rfl
 | cons a l ih =>
  show co (mulQ (addQ (m.map (a * ·)) (0 :: mulQ l m)) n) k = _
  rw [mulQ_add, mulQ_scale_l, zxe, zxe]
  cases k with
  | zero => unfold sh; rw [if_pos rfl, if_pos rfl]; grind
  | succ k =>
   have e : ∀ x : List Rat, sh (co x) (k + 1) = co x k := fun x => by unfold sh; rw [if_neg xq, Nat.add_sub_cancel]
   rw [e, e, ih k]; grind
theorem mulQ_one (m : List Rat) (k : Nat) : co (mulQ [1] m) k = co m k := by
 rw [zxe]
 have e : sh (co (mulQ [] m)) k = 0 := by unfold sh; split <;> rfl
 rw [e]; grind
theorem mul_comm (p q : Pol) : p * q = q * p := ext fun i => by rw [c_mul, c_mul, mulQ_comm]
theorem mul_assoc (p q r : Pol) : p * q * r = p * (q * r) := ext fun i => by
 rw [c_mul, c_mul]
 show co (mulQ (trimQ (mulQ p.l q.l)) r.l) i = co (mulQ p.l (trimQ (mulQ q.l r.l))) i
 rw [zwh (l' := mulQ p.l q.l) (m' := r.l) (trim_co _) (fun _ => rfl), zwh (l' := p.l) (m' := mulQ q.l r.l) (fun _ => rfl) (trim_co _)]
 exact mulQ_assoc _ _ _ i
theorem one_mul (p : Pol) : 1 * p = p := ext fun i => by
 rw [c_mul]
 show co (mulQ (trimQ [((1 : Nat) : Rat)]) p.l) i = _
 rw [zwh (l' := [((1 : Nat) : Rat)]) (m' := p.l) (trim_co _) (fun _ => rfl)]
 exact mulQ_one _ i
theorem right_distrib (p q r : Pol) : (p + q) * r = p * r + q * r := ext fun i => by
 rw [c_mul, c_add, c_mul, c_mul]
 show co (mulQ (trimQ (addQ p.l q.l)) r.l) i = _
 rw [zwh (l' := addQ p.l q.l) (m' := r.l) (trim_co _) (fun _ => rfl)]
 exact mulQ_add _ _ _ i
theorem add_comm (p q : Pol) : p + q = q + p := ext fun i => by rw [c_add, c_add]; grind
theorem add_assoc (p q r : Pol) : p + q + r = p + (q + r) := ext fun i => by rw [c_add, c_add, c_add, c_add]; grind
theorem add_zero (p : Pol) : p + 0 = p := ext fun i => by rw [c_add, c_zero]; grind
theorem neg_add_cancel (p : Pol) : -p + p = 0 := ext fun i => by rw [c_add, c_neg, c_zero]; grind
theorem zero_mul (p : Pol) : 0 * p = 0 := ext fun i => by rw [c_mul, zero_l, mulQ_nil, c_zero]
theorem left_distrib (p q r : Pol) : p * (q + r) = p * q + p * r := by rw [mul_comm, right_distrib, mul_comm q, mul_comm r]
theorem mul_zero (p : Pol) : p * 0 = 0 := by rw [mul_comm, zero_mul]
theorem mul_one (p : Pol) : p * 1 = p := by rw [mul_comm, one_mul]
instance : NatCast Pol := ⟨fun n => C (n : Rat)⟩
instance : IntCast Pol := ⟨fun n => C (n : Rat)⟩
def npow (p : Pol) : Nat → Pol
 | 0 => 1
 | n + 1 => npow p n * p
instance : HPow Pol Nat Pol := ⟨npow⟩
instance : SMul Nat Pol := ⟨fun n p => C (n : Rat) * p⟩
instance : SMul Int Pol := ⟨fun n p => C (n : Rat) * p⟩
theorem C_add (a b : Rat) : C (a + b) = C a + C b := ext fun i => by
 rw [c_add, c_C, c_C, c_C]; split <;> grind
theorem C_neg (a : Rat) : C (-a) = -C a := ext fun i => by
 rw [c_neg, c_C, c_C]; split <;> grind
theorem C_zero : C 0 = 0 := rfl
theorem C_mul (a b : Rat) : C (a * b) = C a * C b := by
 show mk' [a * b] = mk' [a] * mk' [b]
 rw [← mk_mul]
 refine ext fun i => ?_
 rw [mk_c, mk_c, zxe]
 have e : sh (co (mulQ [] [b])) i = 0 := by unfold sh; split <;> rfl
 rw [e]
 cases i with
 | zero => rw [co_zero, co_zero]; grind
 | succ i => rw [zxv, zxv, co_nil]; grind
instance : Lean.Grind.CommRing Pol where
 add_zero := add_zero
 add_comm := add_comm
 add_assoc := add_assoc
 mul_assoc := mul_assoc
 mul_one := mul_one
 one_mul := one_mul
 left_distrib := left_distrib
 right_distrib := right_distrib
 zero_mul := zero_mul
 mul_zero := mul_zero
 mul_comm := mul_comm
 pow_zero := fun p => rfl
 pow_succ := fun p n => rfl
 neg_add_cancel := neg_add_cancel
 sub_eq_add_neg := fun p q => rfl
 ofNat_succ := fun n => by
  show C ((n + 1 : Nat) : Rat) = C (n : Rat) + C 1
  rw [← C_add]; congr 1
  exact Rat.natCast_add n 1
 ofNat_eq_natCast := fun n => rfl
 intCast_ofNat := fun n => rfl
 intCast_neg := fun n => by
  show C ((-n : Int) : Rat) = -C (n : Rat)
  rw [← C_neg, Rat.intCast_neg]
 nsmul_eq_natCast_mul := fun n p => rfl
 zsmul_natCast_eq_nsmul := fun n p => rfl
 neg_zsmul := fun n p => by
  show C ((-n : Int) : Rat) * p = -(C (n : Rat) * p)
  rw [Rat.intCast_neg, C_neg]
  refine ext fun i => ?_
  rw [c_neg, c_mul, c_mul]
  show co (mulQ (trimQ (negQ (C (n : Rat)).l)) p.l) i = _
  rw [zwh (l' := negQ (C (n : Rat)).l) (m' := p.l) (trim_co _) (fun _ => rfl)]
  have e : negQ (C (n : Rat)).l = (C (n : Rat)).l.map ((-1) * ·) := by unfold negQ; congr 1; funext x; grind
  rw [e, mulQ_scale_l]; grind
example (p q : Pol) : (p + q) * (p - q) = p * p - q * q := by grind
example (p q : Pol) : (p + q) ^ 2 = p ^ 2 + 2 * p * q + q ^ 2 := by grind
end Pol
end Nt
namespace Nt
theorem mulQ_far {l m : List Rat} {k : Nat} (h : l.length + m.length ≤ k + 1) : co (mulQ l m) k = 0 := by
 induction l generalizing k with
 | nil => rfl
 | cons a l ih =>
  rw [zxe, co_ge (l := m) (by simp at h; omega)]
  unfold sh
  split
  ·grind
  rw [ih (by simp at h; omega)]; grind
namespace Pol
def len (p : Pol) : Nat := p.l.length
theorem c_ge {p : Pol} {i : Nat} (h : p.len ≤ i) : p.c i = 0 := co_ge h
theorem len_le {p : Pol} {n : Nat} (h : ∀ i, n ≤ i → p.c i = 0) : p.len ≤ n := by
 apply Classical.byContradiction
 intro k
 have h1 : p.l.length > n := by unfold len at k; omega
 have h2 := nrm_last p.h (by intro e; rw [e] at h1; simp at h1)
 exact h2 (h _ xq)
theorem zero_of_len {p : Pol} (h : p.len = 0) : p = 0 := ext fun i => by rw [c_zero, c_ge xq]
instance : Dvd Pol := ⟨fun q p => ∃ u, p = q * u⟩
theorem mk_cons' (a : Rat) (l : List Rat) : mk' (a :: l) = C a + X * mk' l := ext fun i => by
 have hX : ∀ p : Pol, (X * p).c i = if i = 0 then 0 else p.c (i - 1) := fun p => by
  rw [c_mul]
  show co (mulQ (trimQ [0, 1]) p.l) i = _
  rw [zwh (l' := [0, 1]) (m' := p.l) (trim_co _) (fun _ => rfl), zxe]
  unfold sh
  split
  ·grind
  rw [mulQ_one]; show 0 * _ + p.c (i - 1) = _; grind
 rw [c_add, hX, mk_cons, c_C]
 split <;> grind
theorem ind {P : Pol → Prop} (h0 : P 0) (h1 : ∀ a p, P p → P (C a + X * p)) (p : Pol) : P p := by
 rw [← mk_l p]
 generalize p.l = l
 induction l with
 | nil => exact (zero_of_len (p := mk' []) rfl) ▸ h0
 | cons a l ih => rw [mk_cons']; exact h1 a _ ih
def D (p : Pol) : Pol := mk' (derQ p.l)
def evL : List Rat → Rat → Rat
 | [], x => 0
 | a :: l, x => a + x * evL l x
theorem evL_zero {l : List Rat} (h : ∀ i, co l i = 0) (x : Rat) : evL l x = 0 := by
 induction l with
 | nil => rfl
 | cons a l ih =>
  have h0 : a = 0 := h 0
  show a + x * evL l x = 0
  rw [ih fun i => by rw [← zxv a]; exact h (i + 1), h0]; grind
theorem evL_congr {l m : List Rat} (h : ∀ i, co l i = co m i) (x : Rat) : evL l x = evL m x := by
 induction l generalizing m with
 | nil => rw [evL_zero (l := m) fun i => by rw [← h i, co_nil]]; rfl
 | cons a l ih =>
  cases m with
  | nil => rw [evL_zero (l := a :: l) fun i => by rw [h i, co_nil]]; rfl
  | cons b m =>
   have h0 : a = b := h 0
   show a + x * evL l x = b + x * evL m x
   have e := ih (m := m) (fun i => by have := h (i + 1); rw [zxv, zxv] at this; exact this)
   rw [h0, e]
def ev (p : Pol) (x : Rat) : Rat := evL p.l x
theorem mk_ev (l : List Rat) (x : Rat) : (mk' l).ev x = evL l x := evL_congr (trim_co l) x
theorem ev_zero (x : Rat) : ev 0 x = 0 := evL_zero (fun i => c_zero i) x
theorem ev_cons (a : Rat) (p : Pol) (x : Rat) : ev (C a + X * p) x = a + x * ev p x := by
 have e : C a + X * p = mk' (a :: p.l) := by rw [mk_cons', mk_l]
 rw [e, mk_ev]; rfl
theorem ev_add (p q : Pol) (x : Rat) : ev (p + q) x = ev p x + ev q x := by
 induction p using ind generalizing q with
 | h0 => rw [ev_zero, show (0 : Pol) + q = q by grind]; grind
 | h1 a p ih =>
  induction q using ind with
  | h0 => rw [ev_zero, add_zero]; grind
  | h1 b q _ =>
   have e : C a + X * p + (C b + X * q) = C (a + b) + X * (p + q) := by rw [C_add]; grind
   rw [e, ev_cons, ev_cons, ev_cons, ih]; grind
theorem ev_Cmul (a : Rat) (p : Pol) (x : Rat) : ev (C a * p) x = a * ev p x := by
 induction p using ind with
 | h0 => rw [mul_zero, ev_zero]; grind
 | h1 b p ih =>
  have e : C a * (C b + X * p) = C (a * b) + X * (C a * p) := by rw [C_mul]; grind
  rw [e, ev_cons, ev_cons, ih]; grind
theorem ev_mul (p q : Pol) (x : Rat) : ev (p * q) x = ev p x * ev q x := by
 induction p using ind with
 | h0 => rw [zero_mul, ev_zero]; grind
 | h1 a p ih =>
  have e : (C a + X * p) * q = C a * q + (C 0 + X * (p * q)) := by rw [C_zero]; grind
  rw [e, ev_add, ev_Cmul, ev_cons, ih, ev_cons]; grind
end Pol
end Nt
namespace Nt
def prim (l : List Rat) : List Rat := (trimQ l).map (· / msr (trimQ l))
@[simp] theorem prim_len (l : List Rat) : (prim l).length = (trimQ l).length := by simp [prim]
end Nt
open Go.RowKit Go.ChangeShapes Go.WideShapes
namespace Nt
section
variable {l m : List Rat} {D E A B K : Nat} {q : Rat}
theorem dz (h : 0 < D) : ((D : Int) : Rat) ≠ 0 := fun e => by
 have := Rat.intCast_inj.1 (show ((D : Int) : Rat) = ((0 : Int) : Rat) from e); omega
theorem dl_dg {n C : Nat} (h : n ≤ 2 ^ C) : dl n ≤ dg C := by
 refine dl_le ?_
 rw [pwTwo]
 exact Int.ofNat_lt.2 (Nat.lt_of_le_of_lt h (Nat.pow_lt_pow_right xq (by unfold dg; omega)))
theorem wh_rs {x : Rat} (h0 : 0 < D) (h : Wh (x * ((D : Int) : Rat)) A) (hD : D ≤ 2 ^ A) : rs x ≤ dg A := by
 obtain ⟨z, hz, hb⟩ := h
 have h1 := dz h0
 have e : x = mkRat z D := by rw [← mk_div, ← hz]; grind
 rw [e]
 exact rs_mk (dl_dg hb) (dl_dg hD) (by unfold dg; omega)
end
end Nt
section
variable {H : Type} {enc : TypeId × Value → H} {w : World} {base : Nat} {spare : Nat → Bool} {held : Bool} {fuel : Nat} {r0 : Reach} {b0 : Nat} {v : Value} {d : DataW H} {p : List MemPlace}
set_option maxRecDepth 100000 in
theorem ar_intsv (hv : Value.okWide Tryz.prog w r0 b0 22 v) (h : DataW.Trod enc Tryz.prog w base spare held 22 v d p) : ∃ (s : Sl) (l : List Int), v = s.v ∧ SlR .i64 w s.a s.n s.c l ∧ ∀ z ∈ l, -9223372036854775808 ≤ z ∧ z ≤ 9223372036854775807 := by
 obtain ⟨a, n, c, rfl⟩ := okWide_slice Tryz.underlying22 hv
 obtain ⟨fuel, hf⟩ := h
 obtain ⟨s, l, h1, h2, h3⟩ := ar_slr (k := .i64) (e := 3) xj xj xj hf
 have h1 : [Value.slice a n c] = [s.v] := h1
 exact ⟨s, l, (List.cons.inj h1).1, h2, fun z hz => wf_i64 (h3 z hz)⟩
end
end Go.Proofs.YtgmkhhfbckjaeaaGreat
namespace Go.Proofs.YtgmkhhfbckjaeaaGreat
open Go.RowKit
theorem ty3 : TyIs Tryz.prog 3 false 1 := fun w => ⟨by kernel_rfl, by kernel_rfl⟩
theorem ty4 : TyIs Tryz.prog 4 false 1 := fun w => ⟨by kernel_rfl, by kernel_rfl⟩
theorem ty22 : TyIs Tryz.prog 22 false 1 := fun w => ⟨by kernel_rfl, by kernel_rfl⟩
theorem ty27 : TyIs Tryz.prog 27 false 1 := fun w => ⟨by kernel_rfl, by kernel_rfl⟩
theorem ty28 : TyIs Tryz.prog 28 false 1 := fun w => ⟨by kernel_rfl, by kernel_rfl⟩
theorem ty30 : TyIs Tryz.prog 30 true 2 := fun w => ⟨by kernel_rfl, by kernel_rfl⟩
theorem ty32 : TyIs Tryz.prog 32 true 3 := fun w => ⟨by kernel_rfl, by kernel_rfl⟩
theorem ty34 : TyIs Tryz.prog 34 true 5 := fun w => ⟨by kernel_rfl, by kernel_rfl⟩
theorem ty56 : TyIs Tryz.prog 56 true 9 := fun w => ⟨by kernel_rfl, by kernel_rfl⟩
theorem ty133 : TyIs Tryz.prog 133 false 1 := fun w => ⟨by kernel_rfl, by kernel_rfl⟩
theorem ty195 : TyIs Tryz.prog 195 true 3 := fun w => ⟨by kernel_rfl, by kernel_rfl⟩
theorem ty197 : TyIs Tryz.prog 197 true 4 := fun w => ⟨by kernel_rfl, by kernel_rfl⟩
theorem sl22 : SlIs Tryz.prog 22 1 := ⟨3, false, by kernel_rfl, ty3⟩
theorem sl23 : SlIs Tryz.prog 23 9 := ⟨56, true, by kernel_rfl, ty56⟩
theorem sl26 : SlIs Tryz.prog 26 3 := ⟨32, true, by kernel_rfl, ty32⟩
theorem sl27 : SlIs Tryz.prog 27 3 := ⟨32, true, by kernel_rfl, ty32⟩
theorem sl28 : SlIs Tryz.prog 28 1 := ⟨133, false, by kernel_rfl, ty133⟩
theorem sl191 : SlIs Tryz.prog 191 2 := ⟨30, true, by kernel_rfl, ty30⟩
theorem k_riTrim {u w : World} {i1 : IL} {zN : Int} {K : Nat} (d : Dat u w) (hi1 : IntV u i1 zN K) (hK : K ≤ 500000000) : Calls Tryz.prog 154 #[i1.v] w (Post u w fun v u' => ∃ i : IL, v = i.v ∧ IntN u' i zN K) := by
 obtain ⟨N, hN, hzN⟩ := hi1
 refine zzm (args := [i1.v]) Tryz.func154 rfl Tryz.ntmps154 (rs := [.cell 2 30]) Tryz.results154 (le_b rfl) (le_b rfl) d ?_
 refine sq9 (zzk 1 ⟨30, i1.cs⟩ (zzk 2 ⟨30, [.bool false, .slice none 0 0]⟩ (zzb (sq9 (zza 4 (.adr 1 1) (zzi 5 (.v (i1.m.v)) ty28 zzl (zzg 6 157 _ fun _ _ af ae => Post.mono (k_rnTrim ae (hN.ext af) xq) ?_)))))))
 rintro _ u14 g15 ⟨aa, rfl, ac⟩
 refine zza 3 (.v (aa.v)) (zzb (sq9 (zza 7 (.adr 1 0) (zzi 8 (zB i1.s) ty4 zzl ?_))))
 rcases Bool.eq_false_or_eq_true i1.s with hs17 | hs17
 ·refine zyq 9 (x := zB i1.s) (zB true) (by rw [hs17]) (zza 10 (.v (aa.v)) ?_ (hw := w1 2 true 9))
  refine zza 11 (zI aa.n) ?_ (hw := w1 2 true 9)
  refine zza 12 (zB (decide ((0 : Int) < (aa.n : Int)))) ?_ (hw := w1 2 true 9)
  refine zza 13 (zB (decide ((0 : Int) < (aa.n : Int)))) (zza 14 (.v (aa.v)) (zza 15 (.v (.agg #[.bool (decide ((0 : Int) < (aa.n : Int))), aa.v])) (zzj ⟨30, [.bool (decide ((0 : Int) < (aa.n : Int))), aa.v]⟩ ty30 ?_)))
  refine zzb (zzo (ret0 [.agg #[.bool (decide ((0 : Int) < (aa.n : Int))), aa.v]] ⟨zzr ty30 zze, trivial⟩ fun u18 ad => ?_))
  refine ⟨⟨_, aa⟩, rfl, ?_⟩
  rw [hzN, hs17]
  exact signed_int (s := true) (ac.ext ad)
 refine zyq 9 (x := zB i1.s) (zB false) (by rw [hs17]) (zzn 10 (uw 2 true false 9) (zzn 11 (uw 2 true false 9) (zzn 12 (uw 2 true false 9) (zza 13 (zB false) (zza 14 (.v (aa.v)) (zza 15 (.v (.agg #[.bool false, aa.v])) (zzj ⟨30, [.bool false, aa.v]⟩ ty30 ?_)))))))
 refine zzb (zzo (ret0 [.agg #[.bool false, aa.v]] ⟨zzr ty30 zze, trivial⟩ fun u20 ag => ?_))
 refine ⟨⟨_, aa⟩, rfl, ?_⟩
 rw [hzN, hs17]
 exact signed_int (s := false) (ac.ext ag)
theorem k_riSign {u w : World} {i1 : IL} {zN : Int} {K : Nat} (d : Dat u w) (hi1 : IntV u i1 zN K) (hK : K ≤ 500000000) : Calls Tryz.prog 96 #[i1.v] w (Post u w fun v u' => v = .int .i64 (Nt.cmpS zN 0)) := by
 refine zzm (args := [i1.v]) Tryz.func96 rfl Tryz.ntmps96 (rs := [.tmp 2]) Tryz.results96 (le_b rfl) (le_b rfl) d ?_
 refine sq9 (zzk 1 ⟨30, i1.cs⟩ (zza 2 (zI 0) (zzb (sq9 (zzi 3 (.v (i1.v)) ty30 zze (zzg 4 154 _ fun _ _ ah ag => Post.mono (k_riTrim ag (hi1.ext ah) xq) ?_))))))
 rintro _ u14 g15 ⟨ad, rfl, af⟩
 refine zzj ⟨30, ad.cs⟩ ty30 ?_
 refine zzb (zzd (zzt (sq9 (zza 6 (.adr 1 1) (zzi 7 (.v (ad.m.v)) ty28 zzl (zza 8 (zI ad.m.n) (zza 9 (zB ((ad.m.n : Int) == 0)) (zza 5 (zB ((ad.m.n : Int) == 0)) (zzb (zzu (b := (ad.m.n : Int) == 0) xj (fun ac => ?_) (fun ac => ?_)))))))))))
 ·have ae : (ad.m.n : Int) = 0 := by simpa using ac
  refine sq9 (zza 2 (zI 0) (zzb (zzo (zyu (zzw (ret0 [.int .i64 0] ⟨zzq, trivial⟩ fun u18 e19 => ?_))))))
  show _ = _
  rw [sign_len af, if_pos ac]
  rfl
 have ae : ¬ ((ad.m.n : Int) = 0) := by simpa using ac
 refine sq9 (zza 11 (.adr 1 0) (zzi 12 (zB ad.s) ty4 zzl (zza 10 (zB ad.s) (zzb (zzu (b := ad.s) xj (fun aa => ?_) (fun aa => ?_))))))
 ·replace aa : ad.s = true := aa
  refine sq9 (zza 2 (zI (-1)) (zzb (zzo (zyu (zzw (ret0 [.int .i64 (-1)] ⟨zzq, trivial⟩ fun u21 e22 => ?_))))))
  show _ = _
  rw [sign_len af, if_neg (ne_true_of_eq_false ac), if_pos aa]
  rfl
 replace aa : ad.s = false := aa
 refine zzs (zzp ?_)
 refine sq9 (zza 2 (zI 1) (zzb (zzo (ret0 [.int .i64 1] ⟨zzq, trivial⟩ fun u23 e24 => ?_))))
 show _ = _
 rw [sign_len af, if_neg (ne_true_of_eq_false ac), if_neg (ne_true_of_eq_false aa)]
 rfl
theorem k_riNeg {u w : World} {i1 : IL} {zN : Int} {K : Nat} (d : Dat u w) (hi1 : IntV u i1 zN K) (hK : K ≤ 500000000) : Calls Tryz.prog 81 #[i1.v] w (Post u w fun v u' => ∃ i : IL, v = i.v ∧ IntN u' i (-zN) K) := by
 refine zzm (args := [i1.v]) Tryz.func81 rfl Tryz.ntmps81 (rs := [.cell 2 30]) Tryz.results81 (le_b rfl) (le_b rfl) d ?_
 refine sq9 (zzk 1 ⟨30, i1.cs⟩ (zzk 2 ⟨30, [.bool false, .slice none 0 0]⟩ (zzb (sq9 (zzi 3 (.v (i1.v)) ty30 zze (zzg 4 154 _ fun _ _ af ae => Post.mono (k_riTrim ae (hi1.ext af) xq) ?_))))))
 rintro _ u14 g15 ⟨aa, rfl, ac⟩
 refine zzj ⟨30, aa.cs⟩ ty30 ?_
 refine zzb (sq9 (zza 5 (.adr 1 0) (zzi 6 (zB aa.s) ty4 zzl (zza 7 (zB (!aa.s)) ?_))))
 rcases Bool.eq_false_or_eq_true (!aa.s) with hs17 | hs17
 ·refine zyq 8 (x := zB (!aa.s)) (zB true) (by rw [hs17]) (zza 9 (.adr 1 1) ?_ (hw := w1 3 true 8))
  refine zzi 10 (.v (aa.m.v)) ty28 zzl ?_ (hw := w1 3 true 8)
  refine zza 11 (zI aa.m.n) ?_ (hw := w1 3 true 8)
  refine zza 12 (zB (decide ((0 : Int) < (aa.m.n : Int)))) ?_ (hw := w1 3 true 8)
  refine zza 13 (zB (decide ((0 : Int) < (aa.m.n : Int)))) (zza 14 (.adr 1 0) (zzj ⟨30, [.bool (decide ((0 : Int) < (aa.m.n : Int))), aa.m.v]⟩ ty4 ?_))
  refine zzb (sq9 (zzi 15 (.v (.agg #[.bool (decide ((0 : Int) < (aa.m.n : Int))), aa.m.v])) ty30 zze (zzj ⟨30, [.bool (decide ((0 : Int) < (aa.m.n : Int))), aa.m.v]⟩ ty30 ?_)))
  refine zzb (zzo (ret0 [.agg #[.bool (decide ((0 : Int) < (aa.m.n : Int))), aa.m.v]] ⟨zzr ty30 zze, trivial⟩ fun u18 ad => ?_))
  refine ⟨⟨_, aa.m⟩, rfl, ?_⟩
  have h9 := neg_int (ac.ext ad)
  rw [hs17] at h9
  exact h9
 refine zyq 8 (x := zB (!aa.s)) (zB false) (by rw [hs17]) (zzn 9 (uw 3 true false 8) (zzn 10 (uw 3 true false 8) (zzn 11 (uw 3 true false 8) (zzn 12 (uw 3 true false 8) (zza 13 (zB false) (zza 14 (.adr 1 0) (zzj ⟨30, [.bool false, aa.m.v]⟩ ty4 ?_)))))))
 refine zzb (sq9 (zzi 15 (.v (.agg #[.bool false, aa.m.v])) ty30 zze (zzj ⟨30, [.bool false, aa.m.v]⟩ ty30 ?_)))
 refine zzb (zzo (ret0 [.agg #[.bool false, aa.m.v]] ⟨zzr ty30 zze, trivial⟩ fun u20 ag => ?_))
 refine ⟨⟨_, aa.m⟩, rfl, ?_⟩
 have h9 := neg_int (ac.ext ag)
 rw [hs17] at h9
 exact h9
theorem k_riAbs {u w : World} {i1 : IL} {zN : Int} {K : Nat} (d : Dat u w) (hi1 : IntV u i1 zN K) (hK : K ≤ 500000000) : Calls Tryz.prog 90 #[i1.v] w (Post u w fun v u' => ∃ i : IL, v = i.v ∧ IntN u' i (zN.natAbs : Int) K) := by
 refine zzm (args := [i1.v]) Tryz.func90 rfl Tryz.ntmps90 (rs := [.cell 2 30]) Tryz.results90 (le_b rfl) (le_b rfl) d ?_
 refine sq9 (zzk 1 ⟨30, i1.cs⟩ (zzk 2 ⟨30, [.bool false, .slice none 0 0]⟩ (zzb (sq9 (zza 3 (.adr 1 1) (zzi 4 (.v (i1.m.v)) ty28 zzl (zzg 5 157 _ fun _ _ ae ac => Post.mono (k_rnTrim ac ((IntV.abs hi1).ext ae) xq) ?_)))))))
 rintro _ u14 g15 ⟨aa, rfl, ad⟩
 refine zza 6 (.v (.agg #[.bool false, aa.v])) (zzj ⟨30, [.bool false, aa.v]⟩ ty30 ?_)
 refine zzb (zzo (ret0 [.agg #[.bool false, aa.v]] ⟨zzr ty30 zze, trivial⟩ fun u17 af => ?_))
 exact ⟨(⟨false, aa⟩ : IL), rfl, (nat_intN (ad.ext af))⟩
set_option maxHeartbeats 1000000 in
theorem k_riAdd {u w : World} {i1 : IL} {zN : Int} {K : Nat} {i2 : IL} {zM : Int} {L : Nat} (d : Dat u w) (hi1 : IntV u i1 zN K) (hi2 : IntV u i2 zM L) (hK : K ≤ 400000000) (hL : L ≤ 400000000) : Calls Tryz.prog 136 #[i1.v, i2.v] w (Post u w fun v u' => ∃ i : IL, v = i.v ∧ IntN u' i (zN + zM) (max K L + 1)) := by
 refine zzm (args := [i1.v, i2.v]) Tryz.func136 rfl Tryz.ntmps136 (rs := [.cell 4 30]) Tryz.results136 (le_b rfl) (le_b rfl) d ?_
 refine sq9 (zzk 2 ⟨30, i1.cs⟩ (zzk 3 ⟨30, i2.cs⟩ (zzk 4 ⟨30, [.bool false, .slice none 0 0]⟩ (zzb (zzd (zzz [0, 1, 0, 7, 15, 31] [(0, []), (2, []), (1, []), (3, []), (4, []), (5, [])] xj xj (zzi 5 (.v (i1.v)) ty30 zze (zzi 7 (.v (i2.v)) ty30 zze (zzg 6 154 _ fun _ _ ap aH => Post.mono (k_riTrim aH (hi1.ext ap) xq) ?_)))))))))
 rintro _ u14 aC ⟨aa, rfl, af⟩
 refine zzg 8 154 _ fun _ _ ai aD => Post.mono (k_riTrim aD (hi2.ext (ap.t (aC.t ai))) xq) ?_
 rintro _ u20 ak ⟨ac, rfl, ag⟩
 refine zzj ⟨30, aa.cs⟩ ty30 ?_
 refine zzj ⟨30, ac.cs⟩ ty30 ?_
 refine zzb (zzd (sq9 (zza 9 (.adr 2 0) (zzi 10 (zB aa.s) ty4 zzl (zza 11 (.adr 3 0) (zzi 12 (zB ac.s) ty4 zzl (zza 13 (zB (aa.s == ac.s)) (zzb (zzu (b := aa.s == ac.s) xj (fun ae => ?_) (fun ae => ?_))))))))))
 ·refine zzd (zzz [0, 1, 0, 4, 0, 16, 60, 127, 255, 511] [(0, []), (1, []), (2, []), (3, []), (4, []), (5, []), (6, []), (7, []), (8, []), (9, [])] xj xj (zza 14 (.adr 2 0) (zzi 15 (zB aa.s) ty4 zzl (zza 16 (.adr 2 1) (zzi 17 (.v (aa.m.v)) ty28 zzl (zza 18 (.adr 3 1) (zzi 19 (.v (ac.m.v)) ty28 zzl (zzg 20 189 _ fun _ _ ao aN => Post.mono (k_rnAdd aN ((int_mag af).ext (ai.t (ak.t ao))).raw ((int_mag ag).ext ao).raw xq xq) ?_))))))))
  rintro _ u27 g28 ⟨aG, rfl, aK⟩
  refine zza 21 (.v (.agg #[.bool aa.s, aG.v])) (zzg 22 154 _ fun _ _ az aE => Post.mono (k_riTrim aE (IntV.same (s := aa.s) (aK.ext az).raw) xq) ?_)
  rintro _ u33 g34 ⟨al, rfl, aB⟩
  refine zzj ⟨30, al.cs⟩ ty30 ?_
  refine zzb (zzo (zzw (ret0 [al.v] ⟨zzr ty30 zze, trivial⟩ fun u36 aA => ?_)))
  refine ⟨al, rfl, IntN.more (K := (max K L + 1)) ?_ xq⟩
  have h9 : zN + zM = (Nt.sg aa.s ((zN : Int).natAbs + (zM : Int).natAbs)) := by
   rw [Nt.sg_add1 _ _ ae]
   rw [← IntN.sg af, ← IntN.sg ag]
  rw [h9]
  exact (aB.ext aA)
 refine zzs (zzp ?_)
 refine zzd (sq9 (zza 23 (.adr 2 1) (zzi 24 (.v (aa.m.v)) ty28 zzl (zza 25 (.adr 3 1) (zzi 26 (.v (ac.m.v)) ty28 zzl (zzg 27 190 _ fun _ _ ah av => Post.mono (k_rnCompare av ((int_mag af).ext (ai.t (ak.t ah))).raw ((int_mag ag).ext ah).raw xq xq) ?_))))))
 rintro _ u39 aj rfl
 refine zza 28 (zB (decide ((0 : Int) ≤ (Nt.cmpS ((zN : Int).natAbs) ((zM : Int).natAbs))))) (zzb (zzu (b := decide ((0 : Int) ≤ (Nt.cmpS ((zN : Int).natAbs) ((zM : Int).natAbs)))) xj (fun ad => ?_) (fun ad => ?_)))
 ·have qhb42 := of_decide_eq_true ad
  refine zzd (zzz [0, 1, 0, 4, 0, 16, 60, 127, 255, 511] [(0, []), (1, []), (2, []), (3, []), (4, []), (5, []), (6, []), (7, []), (8, []), (9, [])] xj xj (zza 29 (.adr 2 0) (zzi 30 (zB aa.s) ty4 zzl (zza 31 (.adr 2 1) (zzi 32 (.v (aa.m.v)) ty28 zzl (zza 33 (.adr 3 1) (zzi 34 (.v (ac.m.v)) ty28 zzl (zzg 35 191 _ fun _ _ aq aL => Post.mono (k_rnSub aL ((int_mag af).ext (ai.t (ak.t (ah.t (aj.t aq))))).raw ((int_mag ag).ext (ah.t (aj.t aq))).raw xq xq) ?_))))))))
  rintro _ u46 g47 ⟨aO, rfl, aP⟩
  refine zza 36 (.v (.agg #[.bool aa.s, aO.v])) (zzg 37 154 _ fun _ _ aM ax => Post.mono (k_riTrim ax (IntV.same (s := aa.s) (aP.ext aM).raw) xq) ?_)
  rintro _ u52 g53 ⟨an, rfl, aQ⟩
  refine zzj ⟨30, an.cs⟩ ty30 ?_
  refine zzb (zzo (zzw (ret0 [an.v] ⟨zzr ty30 zze, trivial⟩ fun u55 aR => ?_)))
  refine ⟨an, rfl, IntN.more (K := K) ?_ xq⟩
  have h9 : zN + zM = (Nt.sg aa.s ((zN : Int).natAbs - (zM : Int).natAbs)) := by
   rw [Nt.sg_add4 _ _ ae ad]
   rw [← IntN.sg af, ← IntN.sg ag]
  rw [h9]
  exact (aQ.ext aR)
 have qhb42 := of_decide_eq_false ad
 refine zzs (zzp ?_)
 refine zzd (zzz [0, 1, 0, 4, 0, 16, 60, 127, 255, 511] [(0, []), (1, []), (2, []), (3, []), (4, []), (5, []), (6, []), (7, []), (8, []), (9, [])] xj xj (zza 38 (.adr 3 0) (zzi 39 (zB ac.s) ty4 zzl (zza 40 (.adr 3 1) (zzi 41 (.v (ac.m.v)) ty28 zzl (zza 42 (.adr 2 1) (zzi 43 (.v (aa.m.v)) ty28 zzl (zzg 44 191 _ fun _ _ ar aF => Post.mono (k_rnSub aF ((int_mag ag).ext (ah.t (aj.t ar))).raw ((int_mag af).ext (ai.t (ak.t (ah.t (aj.t ar))))).raw xq xq) ?_))))))))
 rintro _ u60 g61 ⟨aS, rfl, au⟩
 refine zza 45 (.v (.agg #[.bool ac.s, aS.v])) (zzg 46 154 _ fun _ _ ay aI => Post.mono (k_riTrim aI (IntV.same (s := ac.s) (au.ext ay).raw) xq) ?_)
 rintro _ u66 g67 ⟨am, rfl, aw⟩
 refine zzj ⟨30, am.cs⟩ ty30 ?_
 refine zzb (zzo (ret0 [am.v] ⟨zzr ty30 zze, trivial⟩ fun u69 aJ => ?_))
 refine ⟨am, rfl, IntN.more (K := L) ?_ xq⟩
 have h9 : zN + zM = (Nt.sg ac.s ((zM : Int).natAbs - (zN : Int).natAbs)) := by
  rw [Nt.sg_add5 _ _ ae ad]
  rw [← IntN.sg af, ← IntN.sg ag]
 rw [h9]
 exact (aw.ext aJ)
theorem k_riSub {u w : World} {i1 : IL} {zN : Int} {K : Nat} {i2 : IL} {zM : Int} {L : Nat} (d : Dat u w) (hi1 : IntV u i1 zN K) (hi2 : IntV u i2 zM L) (hK : K ≤ 400000000) (hL : L ≤ 400000000) : Calls Tryz.prog 202 #[i1.v, i2.v] w (Post u w fun v u' => ∃ i : IL, v = i.v ∧ IntN u' i (zN - zM) (max K L + 1)) := by
 refine zzm (args := [i1.v, i2.v]) Tryz.func202 rfl Tryz.ntmps202 (rs := [.cell 4 30]) Tryz.results202 (le_b rfl) (le_b rfl) d ?_
 refine sq9 (zzk 2 ⟨30, i1.cs⟩ (zzk 3 ⟨30, i2.cs⟩ (zzk 4 ⟨30, [.bool false, .slice none 0 0]⟩ (zzb (zzd (zzz [0, 0, 2, 7, 15] [(0, []), (1, []), (2, []), (3, []), (4, [])] xj xj (zzi 5 (.v (i1.v)) ty30 zze (zzi 6 (.v (i2.v)) ty30 zze (zzg 7 81 _ fun _ _ ad ag => Post.mono (k_riNeg ag (hi2.ext ad) xq) ?_)))))))))
 rintro _ u14 af ⟨i12, rfl, ah⟩
 refine zzg 8 136 _ fun _ _ ac ae => Post.mono (k_riAdd ae (hi1.ext (ad.t (af.t ac))) (ah.ext ac).raw xq xq) ?_
 rintro _ u20 g21 ⟨aa, rfl, aj⟩
 refine zzj ⟨30, aa.cs⟩ ty30 ?_
 refine zzb (zzo (ret0 [aa.v] ⟨zzr ty30 zze, trivial⟩ fun u23 ai => ?_))
 refine ⟨aa, rfl, ?_⟩
 rw [Int.sub_eq_add_neg]
 exact (aj.ext ai)
theorem k_riCompare {u w : World} {i1 : IL} {zN : Int} {K : Nat} {i2 : IL} {zM : Int} {L : Nat} (d : Dat u w) (hi1 : IntV u i1 zN K) (hi2 : IntV u i2 zM L) (hK : K ≤ 400000000) (hL : L ≤ 400000000) : Calls Tryz.prog 150 #[i1.v, i2.v] w (Post u w fun v u' => v = .int .i64 (Nt.cmpS zN zM)) := by
 refine zzm (args := [i1.v, i2.v]) Tryz.func150 rfl Tryz.ntmps150 (rs := [.tmp 4]) Tryz.results150 (le_b rfl) (le_b rfl) d ?_
 refine sq9 (zzk 2 ⟨30, i1.cs⟩ (zzk 3 ⟨30, i2.cs⟩ (zza 4 (zI 0) (zzb (sq9 (zzi 5 (.v (i1.v)) ty30 zze (zzi 6 (.v (i2.v)) ty30 zze (zzg 7 202 _ fun _ _ aa ad => Post.mono (k_riSub ad (hi1.ext aa) (hi2.ext aa) xq xq) ?_))))))))
 rintro _ u14 g15 ⟨i12, rfl, ae⟩
 refine zzg 8 96 _ fun _ _ af ac => Post.mono (k_riSign ac (ae.ext af).raw xq) ?_
 rintro _ u18 g19 rfl
 refine zza 4 (zI (Nt.cmpS (zN - zM) 0)) (zzb (zzo (ret0 [.int .i64 (Nt.cmpS (zN - zM) 0)] ⟨zzq, trivial⟩ fun u21 e22 => ?_)))
 show Value.int _ _ = Value.int _ _
 rw [Nt.cmp_self_sub]
theorem k_riMul {u w : World} {i1 : IL} {zN : Int} {K : Nat} {i2 : IL} {zM : Int} {L : Nat} (d : Dat u w) (hi1 : IntV u i1 zN K) (hi2 : IntV u i2 zM L) (hK : K ≤ 250000000) (hL : L ≤ 250000000) : Calls Tryz.prog 137 #[i1.v, i2.v] w (Post u w fun v u' => ∃ i : IL, v = i.v ∧ IntN u' i (zN * zM) (K + L)) := by
 obtain ⟨N, hN, hzN⟩ := hi1
 obtain ⟨M, hM, hzM⟩ := hi2
 refine zzm (args := [i1.v, i2.v]) Tryz.func137 rfl Tryz.ntmps137 (rs := [.cell 4 30]) Tryz.results137 (le_b rfl) (le_b rfl) d ?_
 refine sq9 (zzk 2 ⟨30, i1.cs⟩ (zzk 3 ⟨30, i2.cs⟩ (zzk 4 ⟨30, [.bool false, .slice none 0 0]⟩ (zzb (zzd (zzz [0, 1, 0, 4, 15, 0, 32, 0, 128, 480, 1023, 2047, 4095] [(0, []), (1, []), (2, []), (3, []), (4, []), (5, []), (6, []), (7, []), (8, []), (9, []), (10, []), (11, []), (12, [])] xj xj (zza 5 (.adr 2 0) (zzi 6 (zB i1.s) ty4 zzl (zza 7 (.adr 3 0) (zzi 8 (zB i2.s) ty4 zzl (zza 9 (zB (!(i1.s == i2.s))) ?_)))))))))))
 refine zza 10 (.adr 2 1) (zzi 11 (.v (i1.m.v)) ty28 zzl (zza 12 (.adr 3 1) (zzi 13 (.v (i2.m.v)) ty28 zzl (zzg 14 192 _ fun _ _ ac ae => Post.mono (k_rnMul ae (hN.ext ac) (hM.ext ac) xq xq) ?_))))
 rintro _ u14 g15 ⟨ai, rfl, af⟩
 refine zza 15 (.v (.agg #[.bool (!(i1.s == i2.s)), ai.v])) (zzg 16 154 _ fun _ _ ag ad => Post.mono (k_riTrim ad (IntV.same (s := !(i1.s == i2.s)) (af.ext ag).raw) xq) ?_)
 rintro _ u20 g21 ⟨aa, rfl, aj⟩
 refine zzj ⟨30, aa.cs⟩ ty30 ?_
 refine zzb (zzo (ret0 [aa.v] ⟨zzr ty30 zze, trivial⟩ fun u23 ah => ?_))
 refine ⟨aa, rfl, IntN.more (K := (K + L)) ?_ xq⟩
 rw [hzN, hzM, ← Nt.sg_mul]
 exact (aj.ext ah)
theorem k_riGcd {u w : World} {i1 : IL} {zN : Int} {K : Nat} {i2 : IL} {zM : Int} {L : Nat} (d : Dat u w) (hi1 : IntV u i1 zN K) (hi2 : IntV u i2 zM L) (hK : K ≤ 500000000) (hL : L ≤ 500000000) : Calls Tryz.prog 155 #[i1.v, i2.v] w (Post u w fun v u' => ∃ i : IL, v = i.v ∧ IntN u' i (Nat.gcd zN.natAbs zM.natAbs : Int) (max K L)) := by
 refine zzm (args := [i1.v, i2.v]) Tryz.func155 rfl Tryz.ntmps155 (rs := [.cell 4 30]) Tryz.results155 (le_b rfl) (le_b rfl) d ?_
 refine sq9 (zzk 2 ⟨30, i1.cs⟩ (zzk 3 ⟨30, i2.cs⟩ (zzk 4 ⟨30, [.bool false, .slice none 0 0]⟩ (zzb (sq9 (zza 5 (.adr 2 1) (zzi 6 (.v (i1.m.v)) ty28 zzl (zza 7 (.adr 3 1) (zzi 8 (.v (i2.m.v)) ty28 zzl (zzg 9 203 _ fun _ _ ac ad => Post.mono (k_rnGcd ad ((IntV.abs hi1).ext ac) ((IntV.abs hi2).ext ac) xq xq) ?_))))))))))
 rintro _ u14 g15 ⟨aa, rfl, ae⟩
 refine zza 10 (.v (.agg #[.bool false, aa.v])) (zzj ⟨30, [.bool false, aa.v]⟩ ty30 ?_)
 refine zzb (zzo (ret0 [.agg #[.bool false, aa.v]] ⟨zzr ty30 zze, trivial⟩ fun u17 af => ?_))
 exact ⟨(⟨false, aa⟩ : IL), rfl, (nat_intN (ae.ext af))⟩
theorem k_riSame {u w : World} {i1 i2 : IL} {z z' : Int} {K L : Nat} (d : Dat u w) (hi1 : IntN u i1 z K) (hi2 : IntN u i2 z' L) : Calls Tryz.prog 74 #[i1.v, i2.v] w (Post u w fun v _ => v = .bool (decide (z = z'))) := by
 refine zzm (args := [i1.v, i2.v]) Tryz.func74 rfl Tryz.ntmps74 (rs := [.tmp 4]) Tryz.results74 (le_b rfl) (le_b rfl) d ?_
 refine sq9 (zzk 2 ⟨30, i1.cs⟩ (zzk 3 ⟨30, i2.cs⟩ (zza 4 (zB false) (zzb (sq9 (zza 5 (.adr 2 0) (zzi 6 (zB i1.s) ty4 zzl (zza 7 (.adr 3 0) (zzi 8 (zB i2.s) ty4 zzl (zza 9 (zB (i1.s == i2.s)) ?_))))))))))
 rcases Bool.eq_false_or_eq_true (i1.s == i2.s) with hs11 | hs11
 ·refine zyq 10 (x := zB (i1.s == i2.s)) (zB true) (by rw [hs11]) (zza 11 (.adr 2 1) ?_ (hw := w1 5 true 10))
  refine zzi 12 (.v (i1.m.v)) ty28 zzl ?_ (hw := w1 5 true 10)
  refine zza 13 (.adr 3 1) ?_ (hw := w1 5 true 10)
  refine zzi 14 (.v (i2.m.v)) ty28 zzl ?_ (hw := w1 5 true 10)
  refine zzg 15 75 _ (fun _ _ aa ac => Post.mono (k_rnSame ac ((int_mag hi1).ext aa) ((int_mag hi2).ext aa)) ?_) (hw := w1 5 true 10)
  rintro _ u13 g14 rfl
  refine zza 16 (zB (decide ((z : Int).natAbs = (z' : Int).natAbs))) (zza 4 (zB (decide ((z : Int).natAbs = (z' : Int).natAbs))) (zzb (zzo (ret0 [.bool (decide ((z : Int).natAbs = (z' : Int).natAbs))] ⟨zzq, trivial⟩ fun u16 e17 => ?_))))
  show _ = _
  rw [← same_int hi1 hi2, hs11]
  rfl
 refine zyq 10 (x := zB (i1.s == i2.s)) (zB false) (by rw [hs11]) (zzn 11 (uw 5 true false 10) (zzn 12 (uw 5 true false 10) (zzn 13 (uw 5 true false 10) (zzn 14 (uw 5 true false 10) (zzn 15 (uw 5 true false 10) (zza 16 (zB false) (zza 4 (zB false) (zzb (zzo (ret0 [.bool false] ⟨zzq, trivial⟩ fun u18 e19 => ?_))))))))))
 show _ = _
 rw [← same_int hi1 hi2, hs11]
 rfl
theorem k_riOf {u w : World} {z : Int} (d : Dat u w) (h0 : -9223372036854775808 ≤ z) (h1 : z ≤ 9223372036854775807) : Calls Tryz.prog 85 #[.int .i64 z] w (Post u w fun v u' => ∃ i : IL, v = i.v ∧ IntN u' i z 2) := by
 by_cases hneg : z < 0
 ·refine zzm (args := [.int .i64 z]) Tryz.func85 rfl Tryz.ntmps85 (rs := [.cell 2 30]) Tryz.results85 (le_b rfl) (le_b rfl) d ?_
  refine sq9 (zzk 2 ⟨30, [.bool false, .slice none 0 0]⟩ (zzb (zzd (sq9 (zza 4 (zI z) (zyq 5 (x := zB (decide (z < 0))) (zB true) (by rw [show (decide (z < 0)) = true from yz]) (zzb (zyr xj (sq9 (zza 6 (zI z) (zyq 7 (x := zI (IntKind.i64.wrap (z + 1))) (zI (z + 1)) (by rw [show (IntKind.i64.wrap (z + 1)) = (z + 1) from (IntWalk.i64_in _ xq)]) ?_)))))))))))
  refine zyq 8 (x := zI (IntKind.i64.wrap (0 - (z + 1)))) (zI (-z - 1)) (by rw [show (IntKind.i64.wrap (0 - (z + 1))) = (-z - 1) from xz]) (zyq 9 (x := .v (.int .u64 (IntKind.u64.wrap (-z - 1)))) (.v (.int .u64 (-z - 1))) (by rw [show (IntKind.u64.wrap (-z - 1)) = (-z - 1) from (IntWalk.u64_in _ xq)]) (zyq 10 (x := .v (.int .u64 (IntKind.u64.wrap (-z - 1 + 1)))) (.v (.int .u64 (-z))) (by rw [show (IntKind.u64.wrap (-z - 1 + 1)) = (-z) from (by rw [IntWalk.u64_in _ xq]; omega)]) (zza 3 (.v (.int .u64 (-z))) (zzb (sq9 (zza 11 (.v (.int .u64 (-z))) (zyq 12 (x := .v (.int .u32 (IntKind.u32.wrap (-z)))) (.v (.int .u32 ((-z) % 4294967296))) (by rw [show (IntKind.u32.wrap (-z)) = ((-z) % 4294967296) from (IntKind.wrap_u32 _)]) (zza 13 (.v (.int .u64 (-z))) (zyq 14 (x := .v (.int .u64 (Int.fdiv (-z) (2 ^ 32)))) (.v (.int .u64 ((-z) / 4294967296))) (by rw [show (Int.fdiv (-z) (2 ^ 32)) = ((-z) / 4294967296) from (by rw [Int.fdiv_eq_ediv_of_nonneg _ yq]; rfl)]) (zyq 15 (x := .v (.int .u32 (IntKind.u32.wrap ((-z) / 4294967296)))) (.v (.int .u32 ((-z) / 4294967296))) (by rw [show (IntKind.u32.wrap ((-z) / 4294967296)) = ((-z) / 4294967296) from (IntWalk.u32_in _ xq)]) (zxx 16 ⟨133, [.int .u32 ((-z) % 4294967296), .int .u32 ((-z) / 4294967296)]⟩ 2 (fun ac ai am ad => ?_))))))))))))
  refine zza 17 (.v (.agg #[.bool true, .slice (some ⟨ac, 0, none⟩) 2 2])) (zzg 18 154 [.agg #[.bool true, .slice (some ⟨ac, 0, none⟩) 2 2]] ?_)
  intro w15 u15 ah af
  have k20 := k_riTrim af (IntV.same (s := true) ((two_data (N := z.natAbs) ad xq xq xq).ext ah)) xq
  with_reducible refine zPm k20 ?_
  rintro _ ak aj ⟨aa, rfl, ag⟩
  refine zzj ⟨30, aa.cs⟩ ty30 ?_
  refine zzb (zzo (zzw (ret0 [aa.v] ⟨zzr ty30 zze, trivial⟩ fun al ae => ?_)))
  refine ⟨aa, rfl, IntN.more (K := 2) ?_ xq⟩
  have e : z = Nt.sg true z.natAbs := by unfold Nt.sg; simp; omega
  rw [e]
  exact (ag.ext ae)
 refine zzm (args := [.int .i64 z]) Tryz.func85 rfl Tryz.ntmps85 (rs := [.cell 2 30]) Tryz.results85 (le_b rfl) (le_b rfl) d ?_
 refine sq9 (zzk 2 ⟨30, [.bool false, .slice none 0 0]⟩ (zzb (zzd (sq9 (zza 4 (zI z) (zyq 5 (x := zB (decide (z < 0))) (zB false) (by rw [show (decide (z < 0)) = false from yz]) (zzb (zys xj (zzs (zzp ?_))))))))))
 refine sq9 (zza 19 (zI z) (zyq 20 (x := .v (.int .u32 (IntKind.u32.wrap z))) (.v (.int .u32 (z % 4294967296))) (by rw [show (IntKind.u32.wrap z) = (z % 4294967296) from (IntKind.wrap_u32 _)]) (zza 21 (zI z) (zyq 22 (x := .v (.int .u64 (IntKind.u64.wrap z))) (.v (.int .u64 (z))) (by rw [show (IntKind.u64.wrap z) = z from (IntWalk.u64_in _ xq)]) (zyq 23 (x := .v (.int .u64 (Int.fdiv z (2 ^ 32)))) (.v (.int .u64 (z / 4294967296))) (by rw [show (Int.fdiv z (2 ^ 32)) = (z / 4294967296) from (by rw [Int.fdiv_eq_ediv_of_nonneg _ yq]; rfl)]) (zyq 24 (x := .v (.int .u32 (IntKind.u32.wrap (z / 4294967296)))) (.v (.int .u32 (z / 4294967296))) (by rw [show (IntKind.u32.wrap (z / 4294967296)) = (z / 4294967296) from (IntWalk.u32_in _ xq)]) (zxx 25 ⟨133, [.int .u32 (z % 4294967296), .int .u32 (z / 4294967296)]⟩ 2 (fun ac ai am ad => ?_))))))))
 refine zza 26 (.v (.agg #[.bool false, .slice (some ⟨ac, 0, none⟩) 2 2])) (zzg 27 154 _ fun _ _ ah af => Post.mono (k_riTrim af (nat_int ((two_data (N := z.natAbs) ad xq xq xq).ext ah)) xq) ?_)
 rintro _ ak aj ⟨aa, rfl, ag⟩
 refine zzj ⟨30, aa.cs⟩ ty30 ?_
 refine zzb (zzo (ret0 [aa.v] ⟨zzr ty30 zze, trivial⟩ fun al ae => ?_))
 refine ⟨aa, rfl, IntN.more (K := 2) ?_ xq⟩
 have e : z = Nt.sg false z.natAbs := by unfold Nt.sg; simp; omega
 rw [e]
 exact (ag.ext ae)
set_option maxHeartbeats 2000000 in
theorem k_riDiv {u w : World} {i1 : IL} {zN : Int} {K : Nat} {i2 : IL} {zM : Int} {L : Nat} (d : Dat u w) (hi1 : IntV u i1 zN K) (hi2 : IntV u i2 zM L) (hM0 : zM ≠ 0) (hK : K ≤ 400000000) (hL : L ≤ 400000000) : Calls Tryz.prog 156 #[i1.v, i2.v] w (Post u w fun v u' => ∃ i j : IL, v = .tuple #[i.v, j.v, .int .i64 0] ∧ IntN u' i (zN / zM) (K + 1) ∧ IntN u' j (zN % zM) L) := by
 have hM : 0 < zM.natAbs := Int.natAbs_pos.2 hM0
 have hL1 : 1 ≤ L := by have h2 := hi2.size; have h3 := Nt.dl_mono (x := zM.natAbs) (y := 1) xq; rw [Nt.dl_one] at h3; omega
 refine zzm (args := [i1.v, i2.v]) Tryz.func156 rfl Tryz.ntmps156 (rs := [.cell 4 30, .cell 5 30, .tmp 6]) Tryz.results156 (le_b rfl) (le_b rfl) d ?_
 refine sq9 (zzk 2 ⟨30, i1.cs⟩ (zzk 3 ⟨30, i2.cs⟩ (zzk 4 ⟨30, [.bool false, .slice none 0 0]⟩ (zzk 5 ⟨30, [.bool false, .slice none 0 0]⟩ (zza 6 (zI 0) (zzb (zzd (zzz [0, 1, 0, 7, 15, 31] [(0, []), (2, []), (1, []), (3, []), (4, []), (5, [])] xj xj (zzi 10 (.v (i1.v)) ty30 zze (zzi 12 (.v (i2.v)) ty30 zze (zzg 11 154 _ fun _ _ aB aR => Post.mono (k_riTrim aR (hi1.ext aB) xq) ?_)))))))))))
 rintro _ u14 aK ⟨ac, rfl, ak⟩
 refine zzg 13 154 _ fun _ _ aA aL => Post.mono (k_riTrim aL (hi2.ext (aB.t (aK.t aA))) xq) ?_
 rintro _ u20 a1 ⟨ad, rfl, aj⟩
 refine zzj ⟨30, ac.cs⟩ ty30 ?_
 refine zzj ⟨30, ad.cs⟩ ty30 ?_
 refine zzb (sq9 (zza 15 (.adr 2 1) (zzi 16 (.v (ac.m.v)) ty28 zzl (zza 17 (.adr 3 1) (zzi 18 (.v (ad.m.v)) ty28 zzl (zzg 19 204 _ fun _ _ ar aM => Post.mono (k_rnDivMod aM ((int_mag ak).ext (aA.t (a1.t ar))).raw ((int_mag aj).ext ar).raw hM xq xq) ?_))))))
 rintro _ u28 aO ⟨af, aa, rfl, ap, ai⟩
 refine zza 14 (.v (.tuple #[af.v, aa.v, .int .i64 0])) (zza 20 (.v (af.v)) (zza 21 (.v (aa.v)) (zza 22 (zI 0) (zza 7 (.v (af.v)) (zza 8 (.v (aa.v)) (zza 9 (zI 0) (zzb (zzd (sq9 (zza 23 (zI 0) (zza 24 (zB false) ?_)))))))))))
 refine zzb (zys xj (zzs (zzp ?_)))
 refine zzd (sq9 (zza 28 (.adr 2 0) (zzi 29 (zB ac.s) ty4 zzl ?_)))
 rcases Bool.eq_false_or_eq_true ac.s with hs31 | hs31
 ·refine zyq 30 (x := zB ac.s) (zB true) (by rw [hs31]) (zza 31 (.v (aa.v)) ?_ (hw := w1 2 true 30))
  refine zza 32 (zI aa.n) ?_ (hw := w1 2 true 30)
  refine zza 33 (zB (decide ((0 : Int) < (aa.n : Int)))) ?_ (hw := w1 2 true 30)
  refine zza 34 (zB (decide ((0 : Int) < (aa.n : Int)))) (zzc 52 [(2, .adr 2 0), (3, .adr 3 0), (4, .adr 4 0), (5, .adr 5 0), (7, .v (af.v)), (8, .v (aa.v)), (34, zB (decide ((0 : Int) < (aa.n : Int))))] [(2, ⟨30, ac.cs⟩), (3, ⟨30, ad.cs⟩), (4, ⟨30, [.bool false, .slice none 0 0]⟩), (5, ⟨30, [.bool false, .slice none 0 0]⟩)] (zzu (b := decide ((0 : Int) < (aa.n : Int))) xj (fun ae => ?_) (fun ae => ?_)))
  ·have qhb32 := of_decide_eq_true ae
   refine zzz [0, 0, 3, 0, 8, 0, 63, 127, 255] [(0, []), (1, []), (3, []), (4, []), (5, []), (2, [36]), (6, []), (7, []), (8, [])] xj xj (zza 35 (.v (af.v)) (sy_lit 36 ⟨133, [.int .u32 1]⟩ 1 ?_))
   refine zza 38 (.adr 3 1) (zzi 39 (.v (ad.m.v)) ty28 zzl (zza 40 (.v (aa.v)) (zyo 37 189 [.v (af.v), .slc 36 0 1 1] [36] (.inr rfl) (pub_mk xw) (k := ?_))))
   intro am w33 aG ao aV aQ
   have aC : aG.heap[am 36]? = some (.cells #[.int .u32 1] 133 (0, 0)) := aQ 36 zv _ rfl
   obtain ⟨b34, ag⟩ : ∃ b, am 36 = b := ⟨_, rfl⟩
   rw [ag] at aC
   show Calls _ _ #[.slice af.a af.n af.c, .slice (some ⟨am 36, 0, none⟩) 1 1] _ _
   rw [ag]
   have k40 := k_rnAdd aV (ap.ext ao).raw (one_data aC).raw xq xq
   with_reducible refine zPm k40 ?_
   rintro _ u38 aw ⟨au, rfl, aN⟩
   refine zzg 41 191 _ fun _ _ an aJ => Post.mono (k_rnSub aJ ((int_mag aj).ext (ar.t (aO.t (ao.t (aw.t an))))).raw (ai.ext (ao.t (aw.t an))).raw xq xq) ?_
   rintro _ u44 aI ⟨ah, rfl, aZ⟩
   refine zza 7 (.v (au.v)) (zza 8 (.v (ah.v)) (zzb (sq9 (zza 42 (.adr 2 0) (zzi 43 (zB ac.s) ty4 zzl (zza 44 (.adr 3 0) (zzi 45 (zB ad.s) ty4 zzl (zza 46 (zB (!(ac.s == ad.s))) (zza 47 (.v (au.v)) (zza 48 (.v (.agg #[.bool (!(ac.s == ad.s)), au.v])) (zzg 49 154 _ fun _ _ ax aX => Post.mono (k_riTrim aX (IntV.same (s := !(ac.s == ad.s)) (aN.ext (an.t (aI.t ax))).raw) xq) ?_)))))))))))
   rintro _ u50 aT ⟨aq, rfl, aF⟩
   refine zza 50 (.v (ah.v)) (zza 51 (.v (.agg #[.bool false, ah.v])) (zzj ⟨30, aq.cs⟩ ty30 ?_))
   refine zzj ⟨30, [.bool false, ah.v]⟩ ty30 ?_
   refine zza 6 (zI 0) (zzb (zzo (ret0 [aq.v, .agg #[.bool false, ah.v], .int .i64 0] ⟨zzr ty30 zze, zzr ty30 zze, zzq, trivial⟩ fun u53 aE => ?_)))
   have hs := ak.1
   have ht := aj.1
   have hr := ai.pos
   have qhs31 := hs31
   have qhb32 := ae
   have key := Nt.ediv_neg' zN zM rfl rfl hM (by rw [hs] at hs31; simpa using hs31) (by simp at ae; omega)
   have hK1 : 1 ≤ K := by have h2 := hi1.size; have h3 := (Nt.dl_pos (x := zN.natAbs)).2 (by rw [hs] at hs31; simp at hs31; omega); omega
   rw [← hs, ← ht] at key
   refine ⟨aq, (⟨false, ah⟩ : IL), rfl, IntN.more (K := (max K 1 + 1)) ?_ xq, IntN.more (K := L) ?_ xq⟩
   ·rw [key.1]; exact (aF.ext aE)
   rw [key.2]; exact (nat_intN (aZ.ext (ax.t (aT.t aE))))
  have qhb32 := of_decide_eq_false ae
  refine zzs (zzp ?_)
  refine sq9 (zza 42 (.adr 2 0) (zzi 43 (zB ac.s) ty4 zzl (zza 44 (.adr 3 0) (zzi 45 (zB ad.s) ty4 zzl (zza 46 (zB (!(ac.s == ad.s))) (zza 47 (.v (af.v)) (zza 48 (.v (.agg #[.bool (!(ac.s == ad.s)), af.v])) (zzg 49 154 _ fun _ _ ay aP => Post.mono (k_riTrim aP (IntV.same (s := !(ac.s == ad.s)) (ap.ext ay).raw) xq) ?_))))))))
  rintro _ u58 aW ⟨al, rfl, aY⟩
  refine zza 50 (.v (aa.v)) (zza 51 (.v (.agg #[.bool false, aa.v])) (zzj ⟨30, al.cs⟩ ty30 ?_))
  refine zzj ⟨30, [.bool false, aa.v]⟩ ty30 ?_
  refine zza 6 (zI 0) (zzb (zzo (ret0 [al.v, .agg #[.bool false, aa.v], .int .i64 0] ⟨zzr ty30 zze, zzr ty30 zze, zzq, trivial⟩ fun u61 aD => ?_)))
  have hs := ak.1
  have ht := aj.1
  have hr := ai.pos
  have qhs31 := hs31
  have qhb32 := ae
  have key := Nt.ediv_pos zN zM rfl rfl hM (fun hc => by simp at ae; omega)
  rw [← hs, ← ht] at key
  refine ⟨al, (⟨false, aa⟩ : IL), rfl, IntN.more (K := K) ?_ xq, IntN.more (K := L) ?_ xq⟩
  ·rw [key.1]; exact (aY.ext aD)
  rw [key.2]; exact (nat_intN (ai.ext (ay.t (aW.t aD))))
 refine zyq 30 (x := zB ac.s) (zB false) (by rw [hs31]) (zzn 31 (uw 2 true false 30) (zzn 32 (uw 2 true false 30) (zzn 33 (uw 2 true false 30) (zza 34 (zB false) (zzc 52 [(2, .adr 2 0), (3, .adr 3 0), (4, .adr 4 0), (5, .adr 5 0), (7, .v (af.v)), (8, .v (aa.v)), (34, zB false)] [(2, ⟨30, ac.cs⟩), (3, ⟨30, ad.cs⟩), (4, ⟨30, [.bool false, .slice none 0 0]⟩), (5, ⟨30, [.bool false, .slice none 0 0]⟩)] (zys xj (zzs (zzp ?_))))))))
 refine sq9 (zza 42 (.adr 2 0) (zzi 43 (zB ac.s) ty4 zzl (zza 44 (.adr 3 0) (zzi 45 (zB ad.s) ty4 zzl (zza 46 (zB (!(ac.s == ad.s))) (zza 47 (.v (af.v)) (zza 48 (.v (.agg #[.bool (!(ac.s == ad.s)), af.v])) (zzg 49 154 _ fun _ _ av aS => Post.mono (k_riTrim aS (IntV.same (s := !(ac.s == ad.s)) (ap.ext av).raw) xq) ?_))))))))
 rintro _ u66 aU ⟨i64, rfl, aH⟩
 refine zza 50 (.v (aa.v)) (zza 51 (.v (.agg #[.bool false, aa.v])) (zzj ⟨30, i64.cs⟩ ty30 ?_))
 refine zzj ⟨30, [.bool false, aa.v]⟩ ty30 ?_
 refine zza 6 (zI 0) (zzb (zzo (ret0 [i64.v, .agg #[.bool false, aa.v], .int .i64 0] ⟨zzr ty30 zze, zzr ty30 zze, zzq, trivial⟩ fun u69 az => ?_)))
 have hs := ak.1
 have ht := aj.1
 have hr := ai.pos
 have qhs31 := hs31
 have key := Nt.ediv_pos zN zM rfl rfl hM (fun hc => by rw [hs] at hs31; simp at hs31; omega)
 rw [← hs, ← ht] at key
 refine ⟨i64, (⟨false, aa⟩ : IL), rfl, IntN.more (K := K) ?_ xq, IntN.more (K := L) ?_ xq⟩
 ·rw [key.1]; exact (aH.ext az)
 rw [key.2]; exact (nat_intN (ai.ext (av.t (aU.t az))))
set_option maxHeartbeats 2000000 in
theorem k_reduce {u w : World} {i1 i2 : IL} {z y : Int} {K L : Nat} (d : Dat u w) (hi1 : IntV u i1 z K) (hi2 : IntV u i2 y L) (hK : K ≤ 400000000) (hL : L ≤ 400000000) : Calls Tryz.prog 84 #[i1.v, i2.v] w (Post u w fun v u' => ∃ r : RL, v = r.v ∧ RatN u' r ((z : Rat) / (y : Rat)) (max K L + 1)) := by
 refine zzm (args := [i1.v, i2.v]) Tryz.func84 rfl Tryz.ntmps84 (rs := [.cell 4 32]) Tryz.results84 (le_b rfl) (le_b rfl) d ?_
 refine sq9 (zzk 2 ⟨30, i1.cs⟩ (zzk 3 ⟨30, i2.cs⟩ (zzk 4 ⟨32, zw3⟩ (zzb (zzd (sq9 (zzi 12 (.v (i1.v)) ty30 zze (zzg 13 96 _ fun _ _ ag aN => Post.mono (k_riSign aN (hi1.ext ag) xq) ?_))))))))
 rintro _ u12 ah rfl
 refine zza 14 (zB ((Nt.cmpS z 0) == 0)) ?_
 rcases Bool.eq_false_or_eq_true ((Nt.cmpS z 0) == 0) with hs15 | hs15
 ·refine zyq 15 (x := zB ((Nt.cmpS z 0) == 0)) (zB true) (by rw [hs15]) ?_
  have az : z = 0 := Nt.cmp_eq0 hs15
  refine zzn 16 (uw 3 false true 15) (zzn 17 (uw 3 false true 15) (zzn 18 (uw 3 false true 15) (zza 19 (zB true) (zzb (zyr xj (sq9 (zxx 20 ⟨133, [.int .u32 1]⟩ 1 (fun aq u17 e18 aI => ?_))))))))
  refine zza 21 (.v (.agg #[.bool false, .slice none 0 0, .slice (some ⟨aq, 0, none⟩) 1 1])) (zzj ⟨32, [.bool false, .slice none 0 0, .slice (some ⟨aq, 0, none⟩) 1 1]⟩ ty32 ?_)
  refine zzb (zzo (zzw (ret0 [.agg #[.bool false, .slice none 0 0, .slice (some ⟨aq, 0, none⟩) 1 1]] ⟨zzr ty32 zze, trivial⟩ fun u20 aQ => ?_)))
  refine ⟨(⟨false, ⟨none, 0, 0⟩, (⟨some ⟨aq, 0, none⟩, 1, 1⟩ : Sl)⟩ : RL), rfl, ?_⟩
  have h9 : (z : Rat) / (y : Rat) = ((0 : Int) : Rat) := by rw [az]; simp [Rat.div_def]
  rw [h9]
  exact RatN.more (whole_rat (int_zero _ 1) ((one_data aI).ext aQ)) xq
 refine zyq 15 (x := zB ((Nt.cmpS z 0) == 0)) (zB false) (by rw [hs15]) ?_
 have az : z ≠ 0 := Nt.cmp_ne0 hs15
 refine zzi 16 (.v (i2.v)) ty30 zze ?_ (hw := w1 3 false 15)
 refine zzg 17 96 _ (fun _ _ ai aL => Post.mono (k_riSign aL (hi2.ext (ag.t (ah.t ai))) xq) ?_) (hw := w1 3 false 15)
 rintro _ u23 ap rfl
 refine zza 18 (zB ((Nt.cmpS y 0) == 0)) ?_ (hw := w1 3 false 15)
 refine zza 19 (zB ((Nt.cmpS y 0) == 0)) (zzb (zzu (b := (Nt.cmpS y 0) == 0) xj (fun af => ?_) (fun af => ?_)))
 ·have aj : y = 0 := Nt.cmp_eq0 af
  refine sq9 (zxx 20 ⟨133, [.int .u32 1]⟩ 1 (fun an u28 e29 aJ => ?_))
  refine zza 21 (.v (.agg #[.bool false, .slice none 0 0, .slice (some ⟨an, 0, none⟩) 1 1])) (zzj ⟨32, [.bool false, .slice none 0 0, .slice (some ⟨an, 0, none⟩) 1 1]⟩ ty32 ?_)
  refine zzb (zzo (zzw (ret0 [.agg #[.bool false, .slice none 0 0, .slice (some ⟨an, 0, none⟩) 1 1]] ⟨zzr ty32 zze, trivial⟩ fun u31 aK => ?_)))
  refine ⟨(⟨false, ⟨none, 0, 0⟩, (⟨some ⟨an, 0, none⟩, 1, 1⟩ : Sl)⟩ : RL), rfl, ?_⟩
  have h9 : (z : Rat) / (y : Rat) = ((0 : Int) : Rat) := by rw [aj]; simp [Rat.div_def]
  rw [h9]
  exact RatN.more (whole_rat (int_zero _ 1) ((one_data aJ).ext aK)) xq
 have aj : y ≠ 0 := Nt.cmp_ne0 af
 have aC : ((Nat.gcd z.natAbs y.natAbs : Nat) : Int) ≠ 0 := by have h9 := Nat.gcd_pos_of_pos_right z.natAbs (Int.natAbs_pos.2 aj); omega
 refine zzs (zzp ?_)
 refine sq9 (zzi 22 (.v (i1.v)) ty30 zze (zzi 23 (.v (i2.v)) ty30 zze (zzg 24 155 _ fun _ _ ao aO => Post.mono (k_riGcd aO (hi1.ext (ag.t (ah.t (ai.t (ap.t ao))))) (hi2.ext (ag.t (ah.t (ai.t (ap.t ao))))) xq xq) ?_)))
 rintro _ u36 aB ⟨au, rfl, aD⟩
 refine zzk 5 ⟨30, [.bool false, .slice none 0 0]⟩ (zzj ⟨30, au.cs⟩ ty30 ?_)
 refine zzb (sq9 (zzi 26 (.v (i1.v)) ty30 zze (zzi 27 (.v (au.v)) ty30 zze (zzg 28 156 _ fun _ _ al aR => Post.mono (k_riDiv aR (hi1.ext (ag.t (ah.t (ai.t (ap.t (ao.t (aB.t al))))))) (aD.ext al).raw aC xq xq) ?_))))
 rintro _ u44 ax ⟨ad, ar, rfl, aw, h43⟩
 refine zza 25 (.v (.tuple #[ad.v, ar.v, .int .i64 0])) (zza 29 (.v (ad.v)) (zza 30 (.v (ar.v)) (zza 31 (zI 0) (zzk 6 ⟨30, [.bool false, .slice none 0 0]⟩ (zzk 7 ⟨30, [.bool false, .slice none 0 0]⟩ (zzj ⟨30, ad.cs⟩ ty30 ?_))))))
 refine zzj ⟨30, ar.cs⟩ ty30 ?_
 refine zza 8 (zI 0) (zzb (sq9 (zzi 33 (.v (i2.v)) ty30 zze (zzi 34 (.v (au.v)) ty30 zze (zzg 35 156 _ fun _ _ am aP => Post.mono (k_riDiv aP (hi2.ext (ag.t (ah.t (ai.t (ap.t (ao.t (aB.t (al.t (ax.t am))))))))) (aD.ext (al.t (ax.t am))).raw aC xq xq) ?_)))))
 rintro _ u52 aE ⟨aa, av, rfl, ak, h51⟩
 refine zza 32 (.v (.tuple #[aa.v, av.v, .int .i64 0])) (zza 36 (.v (aa.v)) (zza 37 (.v (av.v)) (zza 38 (zI 0) (zzk 9 ⟨30, [.bool false, .slice none 0 0]⟩ (zzk 10 ⟨30, [.bool false, .slice none 0 0]⟩ (zzj ⟨30, aa.cs⟩ ty30 ?_))))))
 refine zzj ⟨30, av.cs⟩ ty30 ?_
 refine zza 11 (zI 0) (zzc 47 [(4, .adr 4 0), (6, .adr 6 0), (9, .adr 9 0)] [(4, ⟨32, zw3⟩), (6, ⟨30, ad.cs⟩), (9, ⟨30, aa.cs⟩)] (zzd (sq9 (zza 39 (.adr 9 0) (zzi 40 (zB aa.s) ty4 zzl (zzb (zzu (b := aa.s) xj (fun ac => ?_) (fun ac => ?_))))))))
 ·replace ac : aa.s = true := ac
  refine zzf (zzi 41 (.v (ad.v)) ty30 zze (zzg 42 81 _ fun _ _ aF aM => Post.mono (k_riNeg aM (aw.ext (am.t (aE.t aF))).raw xq) ?_))
  rintro _ u59 aH ⟨ae, rfl, aG⟩
  refine zzj ⟨30, ae.cs⟩ ty30 ?_
  refine zzb (sq9 (zzi 43 (.v (ae.v)) ty30 zze (zza 44 (.adr 9 1) (zzi 45 (.v (aa.m.v)) ty28 zzl (zza 46 (.v (.agg #[.bool ae.s, ae.m.v, aa.m.v])) (zzj ⟨32, ae.cs ++ [aa.m.v]⟩ ty32 ?_))))))
  refine zzb (zzo (ret0 [.agg #[.bool ae.s, ae.m.v, aa.m.v]] ⟨zzr ty32 zze, trivial⟩ fun u62 ay => ?_))
  refine ⟨(⟨ae.s, ae.m, aa.m⟩ : RL), rfl, RatN.more (red_neg aj rfl (aG.ext ay) ak ac ((int_mag ak).ext (aF.t (aH.t ay)))) xq⟩
 replace ac : aa.s = false := ac
 refine zzs (zzp ?_)
 refine sq9 (zzi 43 (.v (ad.v)) ty30 zze (zza 44 (.adr 9 1) (zzi 45 (.v (aa.m.v)) ty28 zzl (zza 46 (.v (.agg #[.bool ad.s, ad.m.v, aa.m.v])) (zzj ⟨32, ad.cs ++ [aa.m.v]⟩ ty32 ?_)))))
 refine zzb (zzo (ret0 [.agg #[.bool ad.s, ad.m.v, aa.m.v]] ⟨zzr ty32 zze, trivial⟩ fun u64 aA => ?_))
 refine ⟨(⟨ad.s, ad.m, aa.m⟩ : RL), rfl, RatN.more (red_pos aj rfl (aw.ext (am.t (aE.t aA))) ak ac ((int_mag ak).ext aA)) xq⟩
theorem k_parts {u w : World} {r : RL} {q : Rat} {K : Nat} (d : Dat u w) (h : RatV u r q K) (hKK : K ≤ 400000000) : Calls Tryz.prog 95 #[r.v] w (Post u w (PartV q K)) := by
 obtain ⟨⟨z, D, hi, hd, hq⟩, hK⟩ := h
 change IntV u ⟨r.s, r.m⟩ z K at hi
 change NatV u r.d D K at hd
 refine zzm (args := [r.v]) Tryz.func95 rfl Tryz.ntmps95 (rs := [.cell 2 30, .cell 3 30]) Tryz.results95 (le_b rfl) (le_b rfl) d ?_
 refine sq9 (zzk 1 ⟨32, r.cs⟩ (zzk 2 ⟨30, [.bool false, .slice none 0 0]⟩ (zzk 3 ⟨30, [.bool false, .slice none 0 0]⟩ (zzb (sq9 (zza 5 (.adr 1 2) (zzi 6 (.v (r.d.v)) ty28 zzl (zzg 7 157 _ fun _ _ ah aj => Post.mono (k_rnTrim aj (hd.ext ah) xq) ?_))))))))
 rintro _ u14 ai ⟨aa, rfl, af⟩
 refine zza 8 (.v (.agg #[.bool false, aa.v])) (zzk 4 ⟨30, [.bool false, .slice none 0 0]⟩ (zzj ⟨30, [.bool false, aa.v]⟩ ty30 ?_))
 refine zzb (zzd (sq9 (zza 9 (.adr 4 1) (zzi 10 (.v (aa.v)) ty28 zzl (zza 11 (zI aa.n) (zza 12 (zB ((aa.n : Int) == 0)) (zzb (zzu (b := (aa.n : Int) == 0) xj (fun ac => ?_) (fun ac => ?_)))))))))
 ·have ad : (aa.n : Int) = 0 := by simpa using ac
  refine sq9 (zza 13 (.v (.agg #[.bool false, .slice none 0 0])) (zxx 14 ⟨133, [.int .u32 1]⟩ 1 (fun ae u19 e20 al => ?_)))
  refine zza 15 (.v (.agg #[.bool false, .slice (some ⟨ae, 0, none⟩) 1 1])) (zzj ⟨30, [.bool false, .slice none 0 0]⟩ ty30 ?_)
  refine zzj ⟨30, [.bool false, .slice (some ⟨ae, 0, none⟩) 1 1]⟩ ty30 ?_
  refine zzb (zzo (zzw (ret0 [.agg #[.bool false, .slice none 0 0], .agg #[.bool false, .slice (some ⟨ae, 0, none⟩) 1 1]] ⟨zzr ty30 zze, zzr ty30 zze, trivial⟩ fun u22 ak => ?_)))
  have hp := af.pos
  have hD : D = 0 := by simp at ac; omega
  exact ⟨⟨false, ⟨none, 0, 0⟩⟩, ⟨false, (⟨some ⟨ae, 0, none⟩, 1, 1⟩ : Sl)⟩, 0, 1, rfl, (int_zero _ K).raw, nat_intN (((one_data al).ext ak).more hK), by omega, by rw [hq, hD]; simp, hK⟩
 have ad : ¬ ((aa.n : Int) = 0) := by simpa using ac
 refine zzs (zzp ?_)
 refine zzd (zzz [0, 1, 0, 3, 15] [(0, []), (1, []), (2, []), (3, [4]), (4, [])] xj xj (zza 16 (.adr 1 0) (zzi 17 (.v (.agg #[.bool r.s, r.m.v])) ty30 zze (zzi 18 (.v (.agg #[.bool false, aa.v])) ty30 zze (zzj ⟨30, [.bool r.s, r.m.v]⟩ ty30 ?_)))))
 refine zzj ⟨30, [.bool false, aa.v]⟩ ty30 ?_
 refine zzb (zzo (ret0 [.agg #[.bool r.s, r.m.v], .agg #[.bool false, aa.v]] ⟨zzr ty30 zze, zzr ty30 zze, trivial⟩ fun u24 ag => ?_))
 have hp := af.pos
 exact ⟨⟨r.s, r.m⟩, ⟨false, aa⟩, z, D, rfl, (hi.ext (ah.t (ai.t ag))), nat_intN (af.ext ag), by simp at ac; omega, hq, hK⟩
theorem k_rqTrim {u w : World} {r1 : RL} {x : Rat} {K : Nat} (d : Dat u w) (hr1 : RatV u r1 x K) (hK : K ≤ 100000000) : Calls Tryz.prog 80 #[r1.v] w (Post u w fun v u' => ∃ r : RL, v = r.v ∧ RatN u' r x K) := by
 refine zzm (args := [r1.v]) Tryz.func80 rfl Tryz.ntmps80 (rs := [.cell 2 32]) Tryz.results80 (le_b rfl) (le_b rfl) d ?_
 refine sq9 (zzk 1 ⟨32, r1.cs⟩ (zzk 2 ⟨32, zw3⟩ (zzb (sq9 (zzi 6 (.v (r1.v)) ty32 zze (zzg 7 95 _ fun _ _ an al => Post.mono (k_parts al (hr1.ext an) xq) ?_))))))
 rintro _ u13 g14 ⟨aa, ac, z12, D12, rfl, ag, ae, ak, ad, ai⟩
 refine zza 5 (.v (.tuple #[aa.v, ac.v])) (zza 8 (.v (aa.v)) (zza 9 (.v (ac.v)) (zzk 3 ⟨30, [.bool false, .slice none 0 0]⟩ (zzk 4 ⟨30, [.bool false, .slice none 0 0]⟩ (zzj ⟨30, aa.cs⟩ ty30 ?_)))))
 refine zzj ⟨30, ac.cs⟩ ty30 ?_
 refine zzb (sq9 (zzi 10 (.v (aa.v)) ty30 zze (zzi 11 (.v (ac.v)) ty30 zze (zzg 12 84 _ fun _ _ ah aj => Post.mono (k_reduce aj (ag.ext ah) (ae.ext ah).raw xq xq) ?_))))
 rintro _ u19 g20 ⟨af, rfl, am⟩
 refine zzj ⟨32, af.cs⟩ ty32 ?_
 refine zzb (zzo (ret0 [af.v] ⟨zzr ty32 zze, trivial⟩ fun u22 ao => ?_))
 refine ⟨af, rfl, RatN.fit (K := (max K K + 1)) ?_ (hr1.rs)⟩
 rw [ad, ← Nt.mk_div]
 exact (am.ext ao)
theorem k_rqSame {u w : World} {r1 r2 : RL} {x y : Rat} {K L : Nat} (d : Dat u w) (hr1 : RatN u r1 x K) (hr2 : RatN u r2 y L) : Calls Tryz.prog 16 #[r1.v, r2.v] w (Post u w fun v _ => v = .bool (decide (x = y))) := by
 refine zzm (args := [r1.v, r2.v]) Tryz.func16 rfl Tryz.ntmps16 (rs := [.tmp 4]) Tryz.results16 (le_b rfl) (le_b rfl) d ?_
 refine sq9 (zzk 2 ⟨32, r1.cs⟩ (zzk 3 ⟨32, r2.cs⟩ (zza 4 (zB false) (zzb (sq9 (zza 5 (.adr 2 0) (zzi 6 (.v (.agg #[.bool r1.s, r1.m.v])) ty30 zze (zza 7 (.adr 3 0) (zzi 8 (.v (.agg #[.bool r2.s, r2.m.v])) ty30 zze (zzg 9 74 _ fun _ _ aa ae => Post.mono (k_riSame ae ((RatN.num hr1).ext aa) ((RatN.num hr2).ext aa)) ?_))))))))))
 rintro _ u12 ad rfl
 rcases Bool.eq_false_or_eq_true (decide (x.num = y.num)) with hs15 | hs15
 ·refine zyq 10 (x := zB (decide (x.num = y.num))) (zB true) (by rw [hs15]) ?_
  have qhs15 := of_decide_eq_true hs15
  refine zza 11 (.adr 2 2) ?_ (hw := w1 5 true 10)
  refine zzi 12 (.v (r1.d.v)) ty28 zzl ?_ (hw := w1 5 true 10)
  refine zza 13 (.adr 3 2) ?_ (hw := w1 5 true 10)
  refine zzi 14 (.v (r2.d.v)) ty28 zzl ?_ (hw := w1 5 true 10)
  refine zzg 15 75 _ (fun _ _ ac af => Post.mono (k_rnSame af ((RatN.den hr1).ext (aa.t (ad.t ac))) ((RatN.den hr2).ext (aa.t (ad.t ac)))) ?_) (hw := w1 5 true 10)
  rintro _ u17 g18 rfl
  refine zza 16 (zB (decide (x.den = y.den))) (zza 4 (zB (decide (x.den = y.den))) (zzb (zzo (ret0 [.bool (decide (x.den = y.den))] ⟨zzq, trivial⟩ fun u20 e21 => ?_))))
  show _ = _
  rw [← Nt.same_q, hs15]
  rfl
 refine zyq 10 (x := zB (decide (x.num = y.num))) (zB false) (by rw [hs15]) ?_
 have qhs15 := of_decide_eq_false hs15
 refine zzn 11 (uw 5 true false 10) (zzn 12 (uw 5 true false 10) (zzn 13 (uw 5 true false 10) (zzn 14 (uw 5 true false 10) (zzn 15 (uw 5 true false 10) (zza 16 (zB false) (zza 4 (zB false) (zzb (zzo (ret0 [.bool false] ⟨zzq, trivial⟩ fun u22 e23 => ?_)))))))))
 show _ = _
 rw [← Nt.same_q, hs15]
 rfl
theorem k_rqOf {u w : World} {z : Int} (d : Dat u w) (h0 : -9223372036854775808 ≤ z) (h1 : z ≤ 9223372036854775807) : Calls Tryz.prog 30 #[.int .i64 z] w (Post u w fun v u' => ∃ r : RL, v = r.v ∧ RatN u' r (z : Rat) 2) := by
 refine zzm (args := [.int .i64 z]) Tryz.func30 rfl Tryz.ntmps30 (rs := [.cell 2 32]) Tryz.results30 (le_b rfl) (le_b rfl) d ?_
 refine sq9 (zzk 2 ⟨32, zw3⟩ (zzb (sq9 (zza 3 (zI z) (zzg 4 85 _ fun _ _ _ af => Post.mono (k_riOf af (z := z) xq xq) ?_)))))
 rintro _ u14 g15 ⟨aa, rfl, ag⟩
 refine zxx 5 ⟨133, [.int .u32 1]⟩ 1 (fun ac u18 ae ah => ?_)
 refine zza 6 (.v (.agg #[.bool aa.s, aa.m.v, .slice (some ⟨ac, 0, none⟩) 1 1])) (zzj ⟨32, aa.cs ++ [.slice (some ⟨ac, 0, none⟩) 1 1]⟩ ty32 ?_)
 refine zzb (zzo (ret0 [.agg #[.bool aa.s, aa.m.v, .slice (some ⟨ac, 0, none⟩) 1 1]] ⟨zzr ty32 zze, trivial⟩ fun u21 ad => ?_))
 refine ⟨(⟨aa.s, aa.m, (⟨some ⟨ac, 0, none⟩, 1, 1⟩ : Sl)⟩ : RL), rfl, ?_⟩
 exact whole_rat (ag.ext (ae.trans ad)) ((one_data ah).ext ad)
theorem k_rqFrac {u w : World} {a b : Int} (d : Dat u w) (ha0 : -9223372036854775808 ≤ a) (ha1 : a ≤ 9223372036854775807) (hb0 : -9223372036854775808 ≤ b) (hb1 : b ≤ 9223372036854775807) : Calls Tryz.prog 23 #[.int .i64 a, .int .i64 b] w (Post u w fun v u' => ∃ r : RL, v = r.v ∧ RatN u' r ((a : Rat) / (b : Rat)) 3) := by
 refine zzm (args := [.int .i64 a, .int .i64 b]) Tryz.func23 rfl Tryz.ntmps23 (rs := [.cell 4 32]) Tryz.results23 (le_b rfl) (le_b rfl) d ?_
 refine sq9 (zzk 4 ⟨32, zw3⟩ (zzb (sq9 (zza 5 (zI a) (zzg 6 85 _ fun _ _ _ aj => Post.mono (k_riOf aj (z := a) xq xq) ?_)))))
 rintro _ u14 g15 ⟨i12, rfl, ad⟩
 refine zza 7 (zI b) (zzg 8 85 _ fun _ _ ak ag => Post.mono (k_riOf ag (z := b) xq xq) ?_)
 rintro _ u20 al ⟨i18, rfl, ae⟩
 refine zzg 9 84 _ fun _ _ ac ah => Post.mono (k_reduce ah (ad.ext (ak.t (al.t ac))).raw (ae.ext ac).raw xq xq) ?_
 rintro _ u26 g27 ⟨aa, rfl, ai⟩
 refine zzj ⟨32, aa.cs⟩ ty32 ?_
 refine zzb (zzo (ret0 [aa.v] ⟨zzr ty32 zze, trivial⟩ fun u29 af => ?_))
 refine ⟨aa, rfl, RatN.more (K := (max 2 2 + 1)) ?_ xq⟩
 exact (ai.ext af)
theorem k_rqSign {u w : World} {r1 : RL} {x : Rat} {K : Nat} (d : Dat u w) (hr1 : RatV u r1 x K) (hK : K ≤ 100000000) : Calls Tryz.prog 32 #[r1.v] w (Post u w fun v u' => v = .int .i64 (Nt.sgQ x)) := by
 refine zzm (args := [r1.v]) Tryz.func32 rfl Tryz.ntmps32 (rs := [.tmp 2]) Tryz.results32 (le_b rfl) (le_b rfl) d ?_
 refine sq9 (zzk 1 ⟨32, r1.cs⟩ (zza 2 (zI 0) (zzb (sq9 (zzi 6 (.v (r1.v)) ty32 zze (zzg 7 95 _ fun _ _ al ak => Post.mono (k_parts ak (hr1.ext al) xq) ?_))))))
 rintro _ u13 g14 ⟨aa, ae, ag, D12, rfl, af, am, ad, ac, ai⟩
 refine zza 5 (.v (.tuple #[aa.v, ae.v])) (zza 8 (.v (aa.v)) (zza 9 (.v (ae.v)) (zzk 3 ⟨30, [.bool false, .slice none 0 0]⟩ (zzk 4 ⟨30, [.bool false, .slice none 0 0]⟩ (zzj ⟨30, aa.cs⟩ ty30 ?_)))))
 refine zzj ⟨30, ae.cs⟩ ty30 ?_
 refine zzb (sq9 (zzi 10 (.v (aa.v)) ty30 zze (zzg 11 96 _ fun _ _ ah aj => Post.mono (k_riSign aj (af.ext ah) xq) ?_)))
 rintro _ u17 g18 rfl
 refine zza 2 (zI (Nt.cmpS ag 0)) (zzb (zzo (ret0 [.int .i64 (Nt.cmpS ag 0)] ⟨zzq, trivial⟩ fun u20 e21 => ?_)))
 show _ = _
 rw [ac, ← Nt.sg_mk ad]
 rfl
theorem k_rqCompare {u w : World} {r1 : RL} {x : Rat} {K : Nat} {r2 : RL} {y : Rat} {L : Nat} (d : Dat u w) (hr1 : RatV u r1 x K) (hr2 : RatV u r2 y L) (hK : K ≤ 100000000) (hL : L ≤ 100000000) : Calls Tryz.prog 70 #[r1.v, r2.v] w (Post u w fun v u' => v = .int .i64 (Nt.cmpQ x y)) := by
 refine zzm (args := [r1.v, r2.v]) Tryz.func70 rfl Tryz.ntmps70 (rs := [.tmp 4]) Tryz.results70 (le_b rfl) (le_b rfl) d ?_
 refine sq9 (zzk 2 ⟨32, r1.cs⟩ (zzk 3 ⟨32, r2.cs⟩ (zza 4 (zI 0) (zzb (sq9 (zzi 10 (.v (r1.v)) ty32 zze (zzg 11 95 _ fun _ _ ax aF => Post.mono (k_parts aF (hr1.ext ax) xq) ?_)))))))
 rintro _ u13 aD ⟨aa, ac, aw, ar, rfl, am, ak, ai, ah, aB⟩
 refine zza 9 (.v (.tuple #[aa.v, ac.v])) (zza 12 (.v (aa.v)) (zza 13 (.v (ac.v)) (zzk 5 ⟨30, [.bool false, .slice none 0 0]⟩ (zzk 6 ⟨30, [.bool false, .slice none 0 0]⟩ (zzj ⟨30, aa.cs⟩ ty30 ?_)))))
 refine zzj ⟨30, ac.cs⟩ ty30 ?_
 refine zzb (sq9 (zzi 15 (.v (r2.v)) ty32 zze (zzg 16 95 _ fun _ _ ag aE => Post.mono (k_parts aE (hr2.ext (ax.t (aD.t ag))) xq) ?_)))
 rintro _ u18 aq ⟨ae, ad, az, au, rfl, an, ao, aj, ap, aC⟩
 refine zza 14 (.v (.tuple #[ae.v, ad.v])) (zza 17 (.v (ae.v)) (zza 18 (.v (ad.v)) (zzk 7 ⟨30, [.bool false, .slice none 0 0]⟩ (zzk 8 ⟨30, [.bool false, .slice none 0 0]⟩ (zzj ⟨30, ae.cs⟩ ty30 ?_)))))
 refine zzj ⟨30, ad.cs⟩ ty30 ?_
 refine zzb (zzd (zzz [0, 0, 3, 0, 0, 31, 63, 127] [(0, []), (1, []), (3, []), (4, []), (2, []), (5, []), (6, []), (7, [])] xj xj (zzi 19 (.v (aa.v)) ty30 zze (zzi 20 (.v (ad.v)) ty30 zze (zzi 22 (.v (ae.v)) ty30 zze (zzi 23 (.v (ac.v)) ty30 zze (zzg 21 137 _ fun _ _ af aJ => Post.mono (k_riMul aJ (am.ext (ag.t (aq.t af))) (ao.ext af).raw xq xq) ?_)))))))
 rintro _ u24 av ⟨i22, rfl, aI⟩
 refine zzg 24 137 _ fun _ _ al aA => Post.mono (k_riMul aA (an.ext (af.t (av.t al))) (ak.ext (ag.t (aq.t (af.t (av.t al))))).raw xq xq) ?_
 rintro _ u30 aG ⟨i28, rfl, aK⟩
 refine zzg 25 150 _ fun _ _ ay aH => Post.mono (k_riCompare aH (aI.ext (al.t (aG.t ay))).raw (aK.ext ay).raw xq xq) ?_
 rintro _ u34 g35 rfl
 refine zza 4 (zI (Nt.cmpS (aw * (au : Int)) (az * (ar : Int)))) (zzb (zzo (ret0 [.int .i64 (Nt.cmpS (aw * (au : Int)) (az * (ar : Int)))] ⟨zzq, trivial⟩ fun u37 e38 => ?_)))
 show _ = _
 rw [ah, ap, ← Nt.cmp_mk ai aj]
 rfl
theorem k_rqLess {u w : World} {r1 : RL} {x : Rat} {K : Nat} {r2 : RL} {y : Rat} {L : Nat} (d : Dat u w) (hr1 : RatV u r1 x K) (hr2 : RatV u r2 y L) (hK : K ≤ 100000000) (hL : L ≤ 100000000) : Calls Tryz.prog 26 #[r1.v, r2.v] w (Post u w fun v u' => v = .bool (decide (x < y))) := by
 refine zzm (args := [r1.v, r2.v]) Tryz.func26 rfl Tryz.ntmps26 (rs := [.tmp 4]) Tryz.results26 (le_b rfl) (le_b rfl) d ?_
 refine sq9 (zzk 2 ⟨32, r1.cs⟩ (zzk 3 ⟨32, r2.cs⟩ (zza 4 (zB false) (zzb (sq9 (zzi 5 (.v (r1.v)) ty32 zze (zzi 6 (.v (r2.v)) ty32 zze (zzg 7 70 _ fun _ _ aa ac => Post.mono (k_rqCompare ac (hr1.ext aa) (hr2.ext aa) xq xq) ?_))))))))
 rintro _ u12 g13 rfl
 refine zza 8 (zB (decide ((Nt.cmpQ x y) < 0))) (zza 4 (zB (decide ((Nt.cmpQ x y) < 0))) (zzb (zzo (ret0 [.bool (decide ((Nt.cmpQ x y) < 0))] ⟨zzq, trivial⟩ fun u15 e16 => ?_))))
 show _ = _
 rw [← Nt.cmpQ_lt]
 rfl
theorem k_rqNeg {u w : World} {r1 : RL} {x : Rat} {K : Nat} (d : Dat u w) (hr1 : RatV u r1 x K) (hK : K ≤ 100000000) : Calls Tryz.prog 21 #[r1.v] w (Post u w fun v u' => ∃ r : RL, v = r.v ∧ RatN u' r (-x) K) := by
 refine zzm (args := [r1.v]) Tryz.func21 rfl Tryz.ntmps21 (rs := [.cell 2 32]) Tryz.results21 (le_b rfl) (le_b rfl) d ?_
 refine sq9 (zzk 1 ⟨32, r1.cs⟩ (zzk 2 ⟨32, zw3⟩ (zzb (sq9 (zzi 3 (.v (r1.v)) ty32 zze (zzg 4 80 _ fun _ _ ai ah => Post.mono (k_rqTrim ah (hr1.ext ai) xq) ?_))))))
 rintro _ u14 g15 ⟨aa, rfl, ad⟩
 refine zzj ⟨32, aa.cs⟩ ty32 ?_
 refine zzb (sq9 (zza 5 (.adr 1 0) (zzi 6 (.v (.agg #[.bool aa.s, aa.m.v])) ty30 zze (zzg 7 81 _ fun _ _ ae ag => Post.mono (k_riNeg ag ((RatN.num ad).ext ae).raw xq) ?_))))
 rintro _ u20 ak ⟨ac, rfl, aj⟩
 refine zza 8 (.adr 1 0) (zzj ⟨32, ac.cs ++ [aa.d.v]⟩ ty30 ?_)
 refine zzb (sq9 (zzi 9 (.v (.agg #[.bool ac.s, ac.m.v, aa.d.v])) ty32 zze (zzj ⟨32, ac.cs ++ [aa.d.v]⟩ ty32 ?_)))
 refine zzb (zzo (ret0 [.agg #[.bool ac.s, ac.m.v, aa.d.v]] ⟨zzr ty32 zze, trivial⟩ fun u23 af => ?_))
 exact ⟨(⟨ac.s, ac.m, aa.d⟩ : RL), rfl, neg_rat (ad.ext (ae.t (ak.t af))) (aj.ext af)⟩
theorem k_rqAbs {u w : World} {r1 : RL} {x : Rat} {K : Nat} (d : Dat u w) (hr1 : RatV u r1 x K) (hK : K ≤ 100000000) : Calls Tryz.prog 27 #[r1.v] w (Post u w fun v u' => ∃ r : RL, v = r.v ∧ RatN u' r (Nt.absQ x) K) := by
 refine zzm (args := [r1.v]) Tryz.func27 rfl Tryz.ntmps27 (rs := [.cell 2 32]) Tryz.results27 (le_b rfl) (le_b rfl) d ?_
 refine sq9 (zzk 1 ⟨32, r1.cs⟩ (zzk 2 ⟨32, zw3⟩ (zzb (sq9 (zzi 3 (.v (r1.v)) ty32 zze (zzg 4 80 _ fun _ _ ai ah => Post.mono (k_rqTrim ah (hr1.ext ai) xq) ?_))))))
 rintro _ u14 g15 ⟨aa, rfl, ad⟩
 refine zzj ⟨32, aa.cs⟩ ty32 ?_
 refine zzb (sq9 (zza 5 (.adr 1 0) (zzi 6 (.v (.agg #[.bool aa.s, aa.m.v])) ty30 zze (zzg 7 90 _ fun _ _ ae ag => Post.mono (k_riAbs ag ((RatN.num ad).ext ae).raw xq) ?_))))
 rintro _ u20 ak ⟨ac, rfl, aj⟩
 refine zza 8 (.adr 1 0) (zzj ⟨32, ac.cs ++ [aa.d.v]⟩ ty30 ?_)
 refine zzb (sq9 (zzi 9 (.v (.agg #[.bool ac.s, ac.m.v, aa.d.v])) ty32 zze (zzj ⟨32, ac.cs ++ [aa.d.v]⟩ ty32 ?_)))
 refine zzb (zzo (ret0 [.agg #[.bool ac.s, ac.m.v, aa.d.v]] ⟨zzr ty32 zze, trivial⟩ fun u23 af => ?_))
 exact ⟨(⟨ac.s, ac.m, aa.d⟩ : RL), rfl, abs_rat3 (ad.ext (ae.t (ak.t af))) (aj.ext af)⟩
theorem k_rqAdd {u w : World} {r1 : RL} {x : Rat} {K : Nat} {r2 : RL} {y : Rat} {L : Nat} (d : Dat u w) (hr1 : RatV u r1 x K) (hr2 : RatV u r2 y L) (hK : K ≤ 100000000) (hL : L ≤ 100000000) : Calls Tryz.prog 58 #[r1.v, r2.v] w (Post u w fun v u' => ∃ r : RL, v = r.v ∧ RatN u' r (x + y) (K + L + 2)) := by
 refine zzm (args := [r1.v, r2.v]) Tryz.func58 rfl Tryz.ntmps58 (rs := [.cell 4 32]) Tryz.results58 (le_b rfl) (le_b rfl) d ?_
 refine sq9 (zzk 2 ⟨32, r1.cs⟩ (zzk 3 ⟨32, r2.cs⟩ (zzk 4 ⟨32, zw3⟩ (zzb (sq9 (zzi 10 (.v (r1.v)) ty32 zze (zzg 11 95 _ fun _ _ az aK => Post.mono (k_parts aK (hr1.ext az) xq) ?_)))))))
 rintro _ u13 aG ⟨ak, ac, z12, D12, rfl, av, ad, aq, ap, aE⟩
 refine zza 9 (.v (.tuple #[ak.v, ac.v])) (zza 12 (.v (ak.v)) (zza 13 (.v (ac.v)) (zzk 5 ⟨30, [.bool false, .slice none 0 0]⟩ (zzk 6 ⟨30, [.bool false, .slice none 0 0]⟩ (zzj ⟨30, ak.cs⟩ ty30 ?_)))))
 refine zzj ⟨30, ac.cs⟩ ty30 ?_
 refine zzb (sq9 (zzi 15 (.v (r2.v)) ty32 zze (zzg 16 95 _ fun _ _ ah aH => Post.mono (k_parts aH (hr2.ext (az.t (aG.t ah))) xq) ?_)))
 rintro _ u18 an ⟨am, af, z17, D17, rfl, aw, ag, au, ax, aF⟩
 refine zza 14 (.v (.tuple #[am.v, af.v])) (zza 17 (.v (am.v)) (zza 18 (.v (af.v)) (zzk 7 ⟨30, [.bool false, .slice none 0 0]⟩ (zzk 8 ⟨30, [.bool false, .slice none 0 0]⟩ (zzj ⟨30, am.cs⟩ ty30 ?_)))))
 refine zzj ⟨30, af.cs⟩ ty30 ?_
 refine zzb (zzd (zzz [0, 0, 3, 0, 0, 31, 63, 0, 0, 511, 1023, 2047] [(0, []), (1, []), (3, []), (4, []), (7, []), (8, []), (2, []), (5, []), (6, []), (9, []), (10, []), (11, [])] xj xj (zzi 19 (.v (ak.v)) ty30 zze (zzi 20 (.v (af.v)) ty30 zze (zzi 22 (.v (am.v)) ty30 zze (zzi 23 (.v (ac.v)) ty30 zze (zzi 26 (.v (ac.v)) ty30 zze (zzi 27 (.v (af.v)) ty30 zze (zzg 21 137 _ fun _ _ aa aQ => Post.mono (k_riMul aQ (av.ext (ah.t (an.t aa))) (ag.ext aa).raw xq xq) ?_)))))))))
 rintro _ u24 aj ⟨i22, rfl, aP⟩
 refine zzg 24 137 _ fun _ _ ae aC => Post.mono (k_riMul aC (aw.ext (aa.t (aj.t ae))) (ad.ext (ah.t (an.t (aa.t (aj.t ae))))).raw xq xq) ?_
 rintro _ u30 ar ⟨i28, rfl, aO⟩
 refine zzg 25 136 _ fun _ _ al aM => Post.mono (k_riAdd aM (aP.ext (ae.t (ar.t al))).raw (aO.ext al).raw xq xq) ?_
 rintro _ u36 ay ⟨i34, rfl, aL⟩
 refine zzg 28 137 _ fun _ _ ao aR => Post.mono (k_riMul aR (ad.ext (ah.t (an.t (aa.t (aj.t (ae.t (ar.t (al.t (ay.t ao))))))))).raw (ag.ext (aa.t (aj.t (ae.t (ar.t (al.t (ay.t ao))))))).raw xq xq) ?_
 rintro _ u42 aI ⟨i40, rfl, aB⟩
 refine zzg 29 84 _ fun _ _ aA aN => Post.mono (k_reduce aN (aL.ext (ao.t (aI.t aA))).raw (aB.ext aA).raw xq xq) ?_
 rintro _ u48 g49 ⟨ai, rfl, aD⟩
 refine zzj ⟨32, ai.cs⟩ ty32 ?_
 refine zzc 30 [(4, .adr 4 0)] [(4, ⟨32, ai.cs⟩)] (zzo (ret0 [ai.v] ⟨zzr ty32 zze, trivial⟩ fun u51 aJ => ?_))
 refine ⟨ai, rfl, RatN.more (K := (max (max (K + L) (L + K) + 1) (K + L) + 1)) ?_ xq⟩
 rw [ap, ax, ← Nt.add_div2 aq au]
 exact (aD.ext aJ)
theorem k_rqSub {u w : World} {r1 : RL} {x : Rat} {K : Nat} {r2 : RL} {y : Rat} {L : Nat} (d : Dat u w) (hr1 : RatV u r1 x K) (hr2 : RatV u r2 y L) (hK : K ≤ 100000000) (hL : L ≤ 100000000) : Calls Tryz.prog 93 #[r1.v, r2.v] w (Post u w fun v u' => ∃ r : RL, v = r.v ∧ RatN u' r (x - y) (K + L + 2)) := by
 refine zzm (args := [r1.v, r2.v]) Tryz.func93 rfl Tryz.ntmps93 (rs := [.cell 4 32]) Tryz.results93 (le_b rfl) (le_b rfl) d ?_
 refine sq9 (zzk 2 ⟨32, r1.cs⟩ (zzk 3 ⟨32, r2.cs⟩ (zzk 4 ⟨32, zw3⟩ (zzb (zzd (zzz [0, 0, 2, 7, 15] [(0, []), (1, []), (2, []), (3, []), (4, [])] xj xj (zzi 5 (.v (r1.v)) ty32 zze (zzi 6 (.v (r2.v)) ty32 zze (zzg 7 21 _ fun _ _ ad ag => Post.mono (k_rqNeg ag (hr2.ext ad) xq) ?_)))))))))
 rintro _ u14 af ⟨r12, rfl, ah⟩
 refine zzg 8 58 _ fun _ _ ac ae => Post.mono (k_rqAdd ae (hr1.ext (ad.t (af.t ac))) (ah.ext ac).raw xq xq) ?_
 rintro _ u20 g21 ⟨aa, rfl, aj⟩
 refine zzj ⟨32, aa.cs⟩ ty32 ?_
 refine zzb (zzo (ret0 [aa.v] ⟨zzr ty32 zze, trivial⟩ fun u23 ai => ?_))
 refine ⟨aa, rfl, RatN.more (K := (K + L + 2)) ?_ xq⟩
 rw [Rat.sub_eq_add_neg]
 exact (aj.ext ai)
theorem k_rqMul {u w : World} {r1 : RL} {x : Rat} {K : Nat} {r2 : RL} {y : Rat} {L : Nat} (d : Dat u w) (hr1 : RatV u r1 x K) (hr2 : RatV u r2 y L) (hK : K ≤ 100000000) (hL : L ≤ 100000000) : Calls Tryz.prog 91 #[r1.v, r2.v] w (Post u w fun v u' => ∃ r : RL, v = r.v ∧ RatN u' r (x * y) (K + L + 1)) := by
 refine zzm (args := [r1.v, r2.v]) Tryz.func91 rfl Tryz.ntmps91 (rs := [.cell 4 32]) Tryz.results91 (le_b rfl) (le_b rfl) d ?_
 refine sq9 (zzk 2 ⟨32, r1.cs⟩ (zzk 3 ⟨32, r2.cs⟩ (zzk 4 ⟨32, zw3⟩ (zzb (sq9 (zzi 10 (.v (r1.v)) ty32 zze (zzg 11 95 _ fun _ _ ar aC => Post.mono (k_parts aC (hr1.ext ar) xq) ?_)))))))
 rintro _ u13 az ⟨aa, ac, z12, D12, rfl, al, aj, aB, ah, aw⟩
 refine zza 9 (.v (.tuple #[aa.v, ac.v])) (zza 12 (.v (aa.v)) (zza 13 (.v (ac.v)) (zzk 5 ⟨30, [.bool false, .slice none 0 0]⟩ (zzk 6 ⟨30, [.bool false, .slice none 0 0]⟩ (zzj ⟨30, aa.cs⟩ ty30 ?_)))))
 refine zzj ⟨30, ac.cs⟩ ty30 ?_
 refine zzb (sq9 (zzi 15 (.v (r2.v)) ty32 zze (zzg 16 95 _ fun _ _ ag aA => Post.mono (k_parts aA (hr2.ext (ar.t (az.t ag))) xq) ?_)))
 rintro _ u18 ap ⟨ae, ad, z17, D17, rfl, am, an, aF, ao, ay⟩
 refine zza 14 (.v (.tuple #[ae.v, ad.v])) (zza 17 (.v (ae.v)) (zza 18 (.v (ad.v)) (zzk 7 ⟨30, [.bool false, .slice none 0 0]⟩ (zzk 8 ⟨30, [.bool false, .slice none 0 0]⟩ (zzj ⟨30, ae.cs⟩ ty30 ?_)))))
 refine zzj ⟨30, ad.cs⟩ ty30 ?_
 refine zzb (zzd (zzz [0, 0, 3, 0, 0, 31, 63, 127] [(0, []), (1, []), (3, []), (4, []), (2, []), (5, []), (6, []), (7, [])] xj xj (zzi 19 (.v (aa.v)) ty30 zze (zzi 20 (.v (ae.v)) ty30 zze (zzi 22 (.v (ac.v)) ty30 zze (zzi 23 (.v (ad.v)) ty30 zze (zzg 21 137 _ fun _ _ af aI => Post.mono (k_riMul aI (al.ext (ag.t (ap.t af))) (am.ext af) xq xq) ?_)))))))
 rintro _ u24 aq ⟨i22, rfl, aH⟩
 refine zzg 24 137 _ fun _ _ ak av => Post.mono (k_riMul av (aj.ext (ag.t (ap.t (af.t (aq.t ak))))).raw (an.ext (af.t (aq.t ak))).raw xq xq) ?_
 rintro _ u30 aE ⟨i28, rfl, aJ⟩
 refine zzg 25 84 _ fun _ _ au aG => Post.mono (k_reduce aG (aH.ext (ak.t (aE.t au))).raw (aJ.ext au).raw xq xq) ?_
 rintro _ u36 g37 ⟨ai, rfl, aD⟩
 refine zzj ⟨32, ai.cs⟩ ty32 ?_
 refine zzb (zzo (ret0 [ai.v] ⟨zzr ty32 zze, trivial⟩ fun u39 ax => ?_))
 refine ⟨ai, rfl, RatN.more (K := (max (K + L) (K + L) + 1)) ?_ xq⟩
 rw [ah, ao, ← Nt.mul_div2]
 exact (aD.ext ax)
theorem k_rqMin {u w : World} {r1 : RL} {x : Rat} {K : Nat} {r2 : RL} {y : Rat} {L : Nat} (d : Dat u w) (hr1 : RatV u r1 x K) (hr2 : RatV u r2 y L) (hK : K ≤ 100000000) (hL : L ≤ 100000000) : Calls Tryz.prog 33 #[r1.v, r2.v] w (Post u w fun v u' => ∃ r : RL, v = r.v ∧ RatN u' r (Nt.lo x y) (max K L)) := by
 refine zzm (args := [r1.v, r2.v]) Tryz.func33 rfl Tryz.ntmps33 (rs := [.cell 4 32]) Tryz.results33 (le_b rfl) (le_b rfl) d ?_
 refine sq9 (zzk 2 ⟨32, r1.cs⟩ (zzk 3 ⟨32, r2.cs⟩ (zzk 4 ⟨32, zw3⟩ (zzb (zzd (sq9 (zzi 5 (.v (r2.v)) ty32 zze (zzi 6 (.v (r1.v)) ty32 zze (zzg 7 26 _ fun _ _ ac aj => Post.mono (k_rqLess aj (hr2.ext ac) (hr1.ext ac) xq xq) ?_)))))))))
 rintro _ u12 af rfl
 refine zzb (zzu (b := decide (y < x)) xj (fun aa => ?_) (fun aa => ?_))
 ·have qhb15 := of_decide_eq_true aa
  refine sq9 (zzi 8 (.v (r2.v)) ty32 zze (zzg 9 80 _ fun _ _ ag ai => Post.mono (k_rqTrim ai (hr2.ext (ac.t (af.t ag))) xq) ?_))
  rintro _ u19 g20 ⟨ae, rfl, al⟩
  refine zzj ⟨32, ae.cs⟩ ty32 ?_
  refine zzb (zzo (zzw (ret0 [ae.v] ⟨zzr ty32 zze, trivial⟩ fun u22 ao => ?_)))
  refine ⟨ae, rfl, RatN.more (K := L) ?_ xq⟩
  unfold Nt.lo
  rw [if_pos (of_decide_eq_true aa)]
  exact (al.ext ao)
 have qhb15 := of_decide_eq_false aa
 refine zzs (zzp ?_)
 refine sq9 (zzi 10 (.v (r1.v)) ty32 zze (zzg 11 80 _ fun _ _ ak an => Post.mono (k_rqTrim an (hr1.ext (ac.t (af.t ak))) xq) ?_))
 rintro _ u27 g28 ⟨ad, rfl, am⟩
 refine zzj ⟨32, ad.cs⟩ ty32 ?_
 refine zzb (zzo (ret0 [ad.v] ⟨zzr ty32 zze, trivial⟩ fun u30 ah => ?_))
 refine ⟨ad, rfl, RatN.more (K := K) ?_ xq⟩
 unfold Nt.lo
 rw [if_neg (of_decide_eq_false aa)]
 exact (am.ext ah)
theorem k_signed {u w : World} {s : Bool} {x : Sl} {N K : Nat} (d : Dat u w) (h : NatN u x N K) : Calls Tryz.prog 193 #[.bool s, x.v] w (Post u w fun v u' => ∃ i : IL, v = i.v ∧ IntN u' i (Nt.sg s N) K) := by
 refine zzm (args := [.bool s, x.v]) Tryz.func193 rfl Tryz.ntmps193 (rs := [.cell 4 30]) Tryz.results193 (le_b rfl) (le_b rfl) d ?_
 refine sq9 (zzk 4 ⟨30, [.bool false, .slice none 0 0]⟩ (zzb (sq9 (zza 5 (zB s) ?_))))
 rcases Bool.eq_false_or_eq_true s with hs11 | hs11
 ·refine zyq 6 (x := zB s) (zB true) (by rw [hs11]) (zza 7 (.v (x.v)) ?_ (hw := w1 1 true 6))
  refine zza 8 (zI x.n) ?_ (hw := w1 1 true 6)
  refine zza 9 (zB (decide ((0 : Int) < (x.n : Int)))) ?_ (hw := w1 1 true 6)
  refine zza 10 (zB (decide ((0 : Int) < (x.n : Int)))) (zza 11 (.v (x.v)) (zza 12 (.v (.agg #[.bool (decide ((0 : Int) < (x.n : Int))), x.v])) (zzj ⟨30, [.bool (decide ((0 : Int) < (x.n : Int))), x.v]⟩ ty30 ?_)))
  refine zzb (zzo (ret0 [.agg #[.bool (decide ((0 : Int) < (x.n : Int))), .slice x.a x.n x.c]] ⟨zzr ty30 zze, trivial⟩ fun u12 aa => ?_))
  rw [hs11]
  exact ⟨⟨_, x⟩, rfl, signed_int (s := true) (h.ext aa)⟩
 refine zyq 6 (x := zB s) (zB false) (by rw [hs11]) (zzn 7 (uw 1 true false 6) (zzn 8 (uw 1 true false 6) (zzn 9 (uw 1 true false 6) (zza 10 (zB false) (zza 11 (.v (x.v)) (zza 12 (.v (.agg #[.bool false, x.v])) (zzj ⟨30, [.bool false, x.v]⟩ ty30 ?_)))))))
 refine zzb (zzo (ret0 [.agg #[.bool false, .slice x.a x.n x.c]] ⟨zzr ty30 zze, trivial⟩ fun u14 ac => ?_))
 rw [hs11]
 exact ⟨⟨_, x⟩, rfl, signed_int (s := false) (h.ext ac)⟩
theorem k_intTrim {u w : World} {i1 : IL} {zN : Int} {K : Nat} (d : Dat u w) (hi1 : IntV u i1 zN K) (hK : K ≤ 500000000) : Calls Tryz.prog 200 #[i1.v] w (Post u w fun v u' => ∃ i : IL, v = i.v ∧ IntN u' i zN K) := by
 obtain ⟨N, hN, hzN⟩ := hi1
 refine zzm (args := [i1.v]) Tryz.func200 rfl Tryz.ntmps200 (rs := [.cell 2 30]) Tryz.results200 (le_b rfl) (le_b rfl) d ?_
 refine sq9 (zzk 1 ⟨30, i1.cs⟩ (zzk 2 ⟨30, [.bool false, .slice none 0 0]⟩ (zzb (zzd (zzz [0, 1, 0, 4, 12, 31, 63] [(0, []), (1, []), (2, []), (3, []), (4, []), (5, []), (6, [])] xj xj (zza 3 (.adr 1 0) (zzi 4 (zB i1.s) ty4 zzl (zza 5 (.adr 1 1) (zzi 6 (.v (i1.m.v)) ty28 zzl (zzg 7 194 _ fun _ _ ah ad => Post.mono (k_natTrim ad (hN.ext ah) xq) ?_))))))))))
 rintro _ u14 g15 ⟨x12, rfl, ae⟩
 refine zzg 8 193 _ fun _ _ af ac => Post.mono (k_signed ac (s := i1.s) (ae.ext af)) ?_
 rintro _ u20 g21 ⟨aa, rfl, ai⟩
 refine zzj ⟨30, aa.cs⟩ ty30 ?_
 refine zzb (zzo (ret0 [aa.v] ⟨zzr ty30 zze, trivial⟩ fun u23 ag => ?_))
 refine ⟨aa, rfl, IntN.more (K := K) ?_ xq⟩
 rw [hzN]
 exact (ai.ext ag)
theorem k_intMul {u w : World} {i1 : IL} {zN : Int} {K : Nat} {i2 : IL} {zM : Int} {L : Nat} (d : Dat u w) (hi1 : IntV u i1 zN K) (hi2 : IntV u i2 zM L) (hK : K ≤ 500000000) (hL : L ≤ 500000000) : Calls Tryz.prog 143 #[i1.v, i2.v] w (Post u w fun v u' => ∃ i : IL, v = i.v ∧ IntN u' i (zN * zM) (K + L)) := by
 obtain ⟨N, hN, hzN⟩ := hi1
 obtain ⟨M, hM, hzM⟩ := hi2
 refine zzm (args := [i1.v, i2.v]) Tryz.func143 rfl Tryz.ntmps143 (rs := [.cell 4 30]) Tryz.results143 (le_b rfl) (le_b rfl) d ?_
 refine sq9 (zzk 2 ⟨30, i1.cs⟩ (zzk 3 ⟨30, i2.cs⟩ (zzk 4 ⟨30, [.bool false, .slice none 0 0]⟩ (zzb (zzd (zzz [0, 1, 0, 4, 15, 0, 32, 0, 128, 480, 1023, 2047] [(0, []), (1, []), (2, []), (3, []), (4, []), (5, []), (6, []), (7, []), (8, []), (9, []), (10, []), (11, [])] xj xj (zza 5 (.adr 2 0) (zzi 6 (zB i1.s) ty4 zzl (zza 7 (.adr 3 0) (zzi 8 (zB i2.s) ty4 zzl (zza 9 (zB (!(i1.s == i2.s))) ?_)))))))))))
 refine zza 10 (.adr 2 1) (zzi 11 (.v (i1.m.v)) ty28 zzl (zza 12 (.adr 3 1) (zzi 13 (.v (i2.m.v)) ty28 zzl (zzg 14 167 _ fun _ _ ac ae => Post.mono (k_natMul ae (hN.ext ac) (hM.ext ac) xq xq) ?_))))
 rintro _ u14 g15 ⟨x12, rfl, af⟩
 refine zzg 15 193 _ fun _ _ ag ad => Post.mono (k_signed ad (s := !(i1.s == i2.s)) (af.ext ag)) ?_
 rintro _ u20 g21 ⟨aa, rfl, ai⟩
 refine zzj ⟨30, aa.cs⟩ ty30 ?_
 refine zzb (zzo (ret0 [aa.v] ⟨zzr ty30 zze, trivial⟩ fun u23 ah => ?_))
 refine ⟨aa, rfl, IntN.more (K := (K + L)) ?_ xq⟩
 rw [hzN, hzM, ← Nt.sg_mul]
 exact (ai.ext ah)
theorem k_intAdd {u w : World} {i1 : IL} {zN : Int} {K : Nat} {i2 : IL} {zM : Int} {L : Nat} (d : Dat u w) (hi1 : IntV u i1 zN K) (hi2 : IntV u i2 zM L) (hK : K ≤ 500000000) (hL : L ≤ 500000000) : Calls Tryz.prog 165 #[i1.v, i2.v] w (Post u w fun v u' => ∃ i : IL, v = i.v ∧ IntN u' i (zN + zM) (max K L + 1)) := by
 obtain ⟨N, hN, hzN⟩ := hi1
 obtain ⟨M, hM, hzM⟩ := hi2
 refine zzm (args := [i1.v, i2.v]) Tryz.func165 rfl Tryz.ntmps165 (rs := [.cell 4 30]) Tryz.results165 (le_b rfl) (le_b rfl) d ?_
 refine sq9 (zzk 2 ⟨30, i1.cs⟩ (zzk 3 ⟨30, i2.cs⟩ (zzk 4 ⟨30, [.bool false, .slice none 0 0]⟩ (zzb (zzd (sq9 (zza 5 (.adr 2 0) (zzi 6 (zB i1.s) ty4 zzl (zza 7 (.adr 3 0) (zzi 8 (zB i2.s) ty4 zzl (zza 9 (zB (i1.s == i2.s)) ?_)))))))))))
 refine zzb (zzu (b := i1.s == i2.s) xj (fun aa => ?_) (fun aa => ?_))
 ·refine zzd (zzz [0, 1, 0, 4, 0, 16, 60, 127, 255] [(0, []), (1, []), (2, []), (3, []), (4, []), (5, []), (6, []), (7, []), (8, [])] xj xj (zza 10 (.adr 2 0) (zzi 11 (zB i1.s) ty4 zzl (zza 12 (.adr 2 1) (zzi 13 (.v (i1.m.v)) ty28 zzl (zza 14 (.adr 3 1) (zzi 15 (.v (i2.m.v)) ty28 zzl (zzg 16 196 _ fun _ _ ai ap => Post.mono (k_natAdd ap (hN.ext ai) (hM.ext ai) xq xq) ?_))))))))
  rintro _ u15 g16 ⟨x13, rfl, aD⟩
  refine zzg 17 193 _ fun _ _ aA ax => Post.mono (k_signed ax (s := i1.s) (aD.ext aA)) ?_
  rintro _ u21 g22 ⟨ag, rfl, am⟩
  refine zzj ⟨30, ag.cs⟩ ty30 ?_
  refine zzb (zzo (zzw (ret0 [ag.v] ⟨zzr ty30 zze, trivial⟩ fun u24 aC => ?_)))
  refine ⟨ag, rfl, IntN.more (K := (max K L + 1)) ?_ xq⟩
  rw [hzN, hzM, ← Nt.sg_add1 N M aa]
  exact (am.ext aC)
 refine zzs (zzp ?_)
 refine zzd (sq9 (zza 18 (.adr 2 1) (zzi 19 (.v (i1.m.v)) ty28 zzl (zza 20 (.adr 3 1) (zzi 21 (.v (i2.m.v)) ty28 zzl (zzg 22 166 _ fun _ _ ad aE => Post.mono (k_natCompare aE (hN.ext ad) (hM.ext ad)) ?_))))))
 rintro _ u27 ae rfl
 refine zza 23 (zB ((Nt.cmpS N M) == (-1))) (zzb (zzu (b := (Nt.cmpS N M) == (-1)) xj (fun ac => ?_) (fun ac => ?_)))
 ·refine zzd (zzz [0, 1, 0, 4, 0, 16, 60, 127, 255] [(0, []), (1, []), (2, []), (3, []), (4, []), (5, []), (6, []), (7, []), (8, [])] xj xj (zza 24 (.adr 3 0) (zzi 25 (zB i2.s) ty4 zzl (zza 26 (.adr 3 1) (zzi 27 (.v (i2.m.v)) ty28 zzl (zza 28 (.adr 2 1) (zzi 29 (.v (i1.m.v)) ty28 zzl (zzg 30 197 _ fun _ _ aj aF => Post.mono (k_natSub aF (hM.ext (ad.t (ae.t aj))) (hN.ext (ad.t (ae.t aj))) xq xq) ?_))))))))
  rintro _ u34 g35 ⟨x32, rfl, al⟩
  refine zzg 31 193 _ fun _ _ aq av => Post.mono (k_signed av (s := i2.s) (al.ext aq)) ?_
  rintro _ u40 g41 ⟨ah, rfl, ar⟩
  refine zzj ⟨30, ah.cs⟩ ty30 ?_
  refine zzb (zzo (zzw (ret0 [ah.v] ⟨zzr ty30 zze, trivial⟩ fun u43 az => ?_)))
  refine ⟨ah, rfl, IntN.more (K := L) ?_ xq⟩
  rw [hzN, hzM, ← Nt.sg_add2 N M aa ac]
  exact (ar.ext az)
 refine zzs (zzp ?_)
 refine zzd (zzz [0, 1, 0, 4, 0, 16, 60, 127, 255] [(0, []), (1, []), (2, []), (3, []), (4, []), (5, []), (6, []), (7, []), (8, [])] xj xj (zza 32 (.adr 2 0) (zzi 33 (zB i1.s) ty4 zzl (zza 34 (.adr 2 1) (zzi 35 (.v (i1.m.v)) ty28 zzl (zza 36 (.adr 3 1) (zzi 37 (.v (i2.m.v)) ty28 zzl (zzg 38 197 _ fun _ _ ak aB => Post.mono (k_natSub aB (hN.ext (ad.t (ae.t ak))) (hM.ext (ad.t (ae.t ak))) xq xq) ?_))))))))
 rintro _ u48 g49 ⟨x46, rfl, an⟩
 refine zzg 39 193 _ fun _ _ ao au => Post.mono (k_signed au (s := i1.s) (an.ext ao)) ?_
 rintro _ u54 g55 ⟨af, rfl, ay⟩
 refine zzj ⟨30, af.cs⟩ ty30 ?_
 refine zzb (zzo (ret0 [af.v] ⟨zzr ty30 zze, trivial⟩ fun u57 aw => ?_))
 refine ⟨af, rfl, IntN.more (K := K) ?_ xq⟩
 rw [hzN, hzM, ← Nt.sg_add3 N M aa ac]
 exact (ay.ext aw)
theorem k_intSign {u w : World} {i1 : IL} {zN : Int} {K : Nat} (d : Dat u w) (hi1 : IntV u i1 zN K)  : Calls Tryz.prog 147 #[i1.v] w (Post u w fun v u' => v = .int .i64 (Nt.cmpS zN 0)) := by
 obtain ⟨N, hN, hzN⟩ := hi1
 refine zzm (args := [i1.v]) Tryz.func147 rfl Tryz.ntmps147 (rs := [.tmp 2]) Tryz.results147 (le_b rfl) (le_b rfl) d ?_
 refine sq9 (zzk 1 ⟨30, i1.cs⟩ (zza 2 (zI 0) (zzb (zzd (zzt (sq9 (zza 4 (.adr 1 1) (zzi 5 (.v (i1.m.v)) ty28 zzl (zzg 6 166 _ fun _ _ ae ad => Post.mono (k_natCompare ad (hN.ext ae) (nat_nil _ 1)) ?_)))))))))
 rintro _ u12 g13 rfl
 refine zza 7 (zB ((Nt.cmpS N 0) == 0)) (zza 3 (zB ((Nt.cmpS N 0) == 0)) (zzb (zzu (b := (Nt.cmpS N 0) == 0) xj (fun ac => ?_) (fun ac => ?_))))
 ·refine sq9 (zza 2 (zI 0) (zzb (zzo (zyu (zzw (ret0 [.int .i64 0] ⟨zzq, trivial⟩ fun u16 e17 => ?_))))))
  show _ = _
  rw [hzN, Nt.sg_cmp0, if_pos ac]
  rfl
 refine sq9 (zza 9 (.adr 1 0) (zzi 10 (zB i1.s) ty4 zzl (zza 8 (zB i1.s) (zzb (zzu (b := i1.s) xj (fun aa => ?_) (fun aa => ?_))))))
 ·replace aa : i1.s = true := aa
  refine sq9 (zza 2 (zI (-1)) (zzb (zzo (zyu (zzw (ret0 [.int .i64 (-1)] ⟨zzq, trivial⟩ fun u19 e20 => ?_))))))
  show _ = _
  rw [hzN, Nt.sg_cmp0, if_neg (ne_true_of_eq_false ac), if_pos aa]
  rfl
 replace aa : i1.s = false := aa
 refine zzs (zzp ?_)
 refine sq9 (zza 2 (zI 1) (zzb (zzo (ret0 [.int .i64 1] ⟨zzq, trivial⟩ fun u21 e22 => ?_))))
 show _ = _
 rw [hzN, Nt.sg_cmp0, if_neg (ne_true_of_eq_false ac), if_neg (ne_true_of_eq_false aa)]
 rfl
namespace Nt
theorem cmp_sg (s t : Bool) (N M : Nat) : cmpS (sg s N) (sg t M) = if decide (cmpS (sg s N) 0 < cmpS (sg t M) 0) = true then -1 else if decide (cmpS (sg t M) 0 < cmpS (sg s N) 0) = true then 1 else if (cmpS (sg s N) 0 == -1) = true then cmpS (M : Int) (N : Int) else cmpS (N : Int) (M : Int) := by
 rcases cmp_range (sg s N) 0 with ⟨e, h⟩ | ⟨e, h⟩ | ⟨e, h⟩ <;> rcases cmp_range (sg t M) 0 with ⟨e', h'⟩ | ⟨e', h'⟩ | ⟨e', h'⟩ <;> rw [e, e'] <;> simp
 ·unfold sg at *; cases s <;> cases t <;> simp at h h' ⊢ <;> unfold cmpS <;> (repeat' split) <;> first | rfl | omega
 ·exact cmp_lt xq
 ·exact cmp_lt xq
 ·exact cmp_gt xq
 ·rw [h, h']; unfold sg at *; cases s <;> cases t <;> simp at h h' <;> rw [h, h'] <;> rfl
 ·exact cmp_lt xq
 ·exact cmp_gt xq
 ·exact cmp_gt xq
 unfold sg at *; cases s <;> cases t <;> simp at h h' ⊢ <;> first | rfl | omega
end Nt
theorem k_intCompare {u w : World} {i1 : IL} {zN : Int} {K : Nat} {i2 : IL} {zM : Int} {L : Nat} (d : Dat u w) (hi1 : IntV u i1 zN K) (hi2 : IntV u i2 zM L)  : Calls Tryz.prog 146 #[i1.v, i2.v] w (Post u w fun v u' => v = .int .i64 (Nt.cmpS zN zM)) := by
 obtain ⟨N, hN, hzN⟩ := hi1
 obtain ⟨M, hM, hzM⟩ := hi2
 refine zzm (args := [i1.v, i2.v]) Tryz.func146 rfl Tryz.ntmps146 (rs := [.tmp 4]) Tryz.results146 (le_b rfl) (le_b rfl) d ?_
 refine sq9 (zzk 2 ⟨30, i1.cs⟩ (zzk 3 ⟨30, i2.cs⟩ (zza 4 (zI 0) (zzb (zzd (zzz [0, 1, 0, 7, 15, 31] [(0, []), (2, []), (1, []), (3, []), (4, []), (5, [])] xj xj (zzi 7 (.v (i1.v)) ty30 zze (zzi 9 (.v (i2.v)) ty30 zze (zzg 8 147 _ fun _ _ ae al => Post.mono (k_intSign al (IntV.same (s := i1.s) (hN.ext ae))) ?_)))))))))
 rintro _ u12 ag rfl
 refine zzg 10 147 _ fun _ _ af an => Post.mono (k_intSign an (IntV.same (s := i2.s) (hM.ext (ae.t (ag.t af))))) ?_
 rintro _ u16 ah rfl
 refine zza 5 (zI (Nt.cmpS (Nt.sg i1.s N) 0)) (zza 6 (zI (Nt.cmpS (Nt.sg i2.s M) 0)) (zzb (zzd (zzt (sq9 (zza 12 (zI (Nt.cmpS (Nt.sg i1.s N) 0)) (zza 13 (zI (Nt.cmpS (Nt.sg i2.s M) 0)) (zza 14 (zB (decide ((Nt.cmpS (Nt.sg i1.s N) 0) < (Nt.cmpS (Nt.sg i2.s M) 0)))) (zza 11 (zB (decide ((Nt.cmpS (Nt.sg i1.s N) 0) < (Nt.cmpS (Nt.sg i2.s M) 0)))) (zzb (zzu (b := decide ((Nt.cmpS (Nt.sg i1.s N) 0) < (Nt.cmpS (Nt.sg i2.s M) 0))) xj (fun aa => ?_) (fun aa => ?_))))))))))))
 ·have qhb19 := of_decide_eq_true aa
  refine sq9 (zza 4 (zI (-1)) (zzb (zzo (zyu (zzw (ret0 [.int .i64 (-1)] ⟨zzq, trivial⟩ fun u20 e21 => ?_))))))
  show _ = _
  rw [hzN, hzM, Nt.cmp_sg, if_pos aa]
  rfl
 have qhb19 := of_decide_eq_false aa
 refine sq9 (zza 16 (zI (Nt.cmpS (Nt.sg i1.s N) 0)) (zza 17 (zI (Nt.cmpS (Nt.sg i2.s M) 0)) (zza 18 (zB (decide ((Nt.cmpS (Nt.sg i2.s M) 0) < (Nt.cmpS (Nt.sg i1.s N) 0)))) (zza 15 (zB (decide ((Nt.cmpS (Nt.sg i2.s M) 0) < (Nt.cmpS (Nt.sg i1.s N) 0)))) (zzb (zzu (b := decide ((Nt.cmpS (Nt.sg i2.s M) 0) < (Nt.cmpS (Nt.sg i1.s N) 0))) xj (fun ac => ?_) (fun ac => ?_)))))))
 ·have qhb22 := of_decide_eq_true ac
  refine sq9 (zza 4 (zI 1) (zzb (zzo (zyu (zzw (ret0 [.int .i64 1] ⟨zzq, trivial⟩ fun u23 e24 => ?_))))))
  show _ = _
  rw [hzN, hzM, Nt.cmp_sg, if_neg (ne_true_of_eq_false aa), if_pos ac]
  rfl
 have qhb22 := of_decide_eq_false ac
 refine sq9 (zza 20 (zI (Nt.cmpS (Nt.sg i1.s N) 0)) (zza 21 (zB ((Nt.cmpS (Nt.sg i1.s N) 0) == (-1))) (zza 19 (zB ((Nt.cmpS (Nt.sg i1.s N) 0) == (-1))) (zzb (zzu (b := (Nt.cmpS (Nt.sg i1.s N) 0) == (-1)) xj (fun ad => ?_) (fun ad => ?_))))))
 ·refine sq9 (zza 22 (.adr 3 1) (zzi 23 (.v (i2.m.v)) ty28 zzl (zza 24 (.adr 2 1) (zzi 25 (.v (i1.m.v)) ty28 zzl (zzg 26 166 _ fun _ _ aj am => Post.mono (k_natCompare am (hM.ext (ae.t (ag.t (af.t (ah.t aj))))) (hN.ext (ae.t (ag.t (af.t (ah.t aj)))))) ?_)))))
  rintro _ u27 g28 rfl
  refine zza 4 (zI (Nt.cmpS M N)) (zzb (zzo (zyu (zzw (ret0 [.int .i64 (Nt.cmpS M N)] ⟨zzq, trivial⟩ fun u30 e31 => ?_)))))
  show _ = _
  rw [hzN, hzM, Nt.cmp_sg, if_neg (ne_true_of_eq_false aa), if_neg (ne_true_of_eq_false ac), if_pos ad]
  rfl
 refine zzs (zzp ?_)
 refine sq9 (zza 27 (.adr 2 1) (zzi 28 (.v (i1.m.v)) ty28 zzl (zza 29 (.adr 3 1) (zzi 30 (.v (i2.m.v)) ty28 zzl (zzg 31 166 _ fun _ _ ai ak => Post.mono (k_natCompare ak (hN.ext (ae.t (ag.t (af.t (ah.t ai))))) (hM.ext (ae.t (ag.t (af.t (ah.t ai)))))) ?_)))))
 rintro _ u33 g34 rfl
 refine zza 4 (zI (Nt.cmpS N M)) (zzb (zzo (ret0 [.int .i64 (Nt.cmpS N M)] ⟨zzq, trivial⟩ fun u36 e37 => ?_)))
 show _ = _
 rw [hzN, hzM, Nt.cmp_sg, if_neg (ne_true_of_eq_false aa), if_neg (ne_true_of_eq_false ac), if_neg (ne_true_of_eq_false ad)]
 rfl
theorem k_intOf {u w : World} {z : Int} (d : Dat u w) (h0 : -9223372036854775808 ≤ z) (h1 : z ≤ 9223372036854775807) : Calls Tryz.prog 140 #[.int .i64 z] w (Post u w fun v u' => ∃ i : IL, v = i.v ∧ IntN u' i z 2) := by
 by_cases hneg : z < 0
 ·refine zzm (args := [.int .i64 z]) Tryz.func140 rfl Tryz.ntmps140 (rs := [.cell 2 30]) Tryz.results140 (le_b rfl) (le_b rfl) d ?_
  refine sq9 (zzk 2 ⟨30, [.bool false, .slice none 0 0]⟩ (zzb (sq9 (zza 4 (zI z) (zyq 5 (x := .v (.int .u64 (IntKind.u64.wrap z))) (.v (.int .u64 (z + 18446744073709551616))) (by rw [show (IntKind.u64.wrap z) = (z + 18446744073709551616) from (by simp [IntKind.wrap, IntKind.bits, IntKind.signed]; omega)]) (zza 3 (.v (.int .u64 (z + 18446744073709551616))) (zzb (zzd (sq9 (zza 6 (zI z) (zyq 7 (x := zB (decide (z < 0))) (zB true) (by rw [show (decide (z < 0)) = true from yz]) ?_)))))))))))
  refine zzb (zyr xj (zzf (zza 8 (.v (.int .u64 (z + 18446744073709551616))) (zyq 9 (x := .v (.int .u64 (IntKind.u64.wrap (0 - (z + 18446744073709551616))))) (.v (.int .u64 (-z))) (by rw [show (IntKind.u64.wrap (0 - (z + 18446744073709551616))) = (-z) from (by simp [IntKind.wrap, IntKind.bits, IntKind.signed]; omega)]) (zza 3 (.v (.int .u64 (-z))) (zzb (sq9 (zza 10 (zI z) (zyq 11 (x := zB (decide (z < 0))) (zB true) (by rw [show (decide (z < 0)) = true from yz]) (zza 12 (.v (.int .u64 (-z))) (zyq 13 (x := .v (.int .u32 (IntKind.u32.wrap (-z)))) (.v (.int .u32 ((-z) % 4294967296))) (by rw [show (IntKind.u32.wrap (-z)) = ((-z) % 4294967296) from (IntKind.wrap_u32 _)]) ?_)))))))))))
  refine zza 14 (.v (.int .u64 (-z))) (zyq 15 (x := .v (.int .u64 (Int.fdiv (-z) (2 ^ 32)))) (.v (.int .u64 ((-z) / 4294967296))) (by rw [show (Int.fdiv (-z) (2 ^ 32)) = ((-z) / 4294967296) from (by rw [Int.fdiv_eq_ediv_of_nonneg _ yq]; rfl)]) (zyq 16 (x := .v (.int .u32 (IntKind.u32.wrap ((-z) / 4294967296)))) (.v (.int .u32 ((-z) / 4294967296))) (by rw [show (IntKind.u32.wrap ((-z) / 4294967296)) = ((-z) / 4294967296) from (IntWalk.u32_in _ xq)]) (zxx 17 ⟨133, [.int .u32 ((-z) % 4294967296), .int .u32 ((-z) / 4294967296)]⟩ 2 (fun ak am aq ad => ?_))))
  refine zzg 18 194 [.slice (some ⟨ak, 0, none⟩) 2 2] ?_
  intro w15 u15 ac af
  have k20 := k_natTrim af ((two_data (N := z.natAbs) ad xq xq xq).ext ac) xq
  with_reducible refine zPm k20 ?_
  rintro _ au an ⟨al, rfl, ag⟩
  refine zzg 19 193 [.bool true, al.v] ?_
  intro w21 u21 ae aj
  have k26 := k_signed aj (s := true) (ag.ext ae)
  with_reducible refine zPm k26 ?_
  rintro _ ar ao ⟨aa, rfl, ah⟩
  refine zzj ⟨30, aa.cs⟩ ty30 ?_
  refine zzb (zzo (ret0 [aa.v] ⟨zzr ty30 zze, trivial⟩ fun ap ai => ?_))
  refine ⟨aa, rfl, IntN.more (K := 2) ?_ xq⟩
  have e : z = Nt.sg true z.natAbs := by unfold Nt.sg; simp; omega
  rw [e]
  exact (ah.ext ai)
 refine zzm (args := [.int .i64 z]) Tryz.func140 rfl Tryz.ntmps140 (rs := [.cell 2 30]) Tryz.results140 (le_b rfl) (le_b rfl) d ?_
 refine sq9 (zzk 2 ⟨30, [.bool false, .slice none 0 0]⟩ (zzb (sq9 (zza 4 (zI z) (zyq 5 (x := .v (.int .u64 (IntKind.u64.wrap z))) (.v (.int .u64 (z))) (by rw [show (IntKind.u64.wrap z) = z from (by simp [IntKind.wrap, IntKind.bits, IntKind.signed]; omega)]) (zza 3 (.v (.int .u64 z)) (zzb (zzd (sq9 (zza 6 (zI z) (zyq 7 (x := zB (decide (z < 0))) (zB false) (by rw [show (decide (z < 0)) = false from yz]) ?_)))))))))))
 refine zzb (zys xj (zzs (zzp ?_)))
 refine sq9 (zza 10 (zI z) (zyq 11 (x := zB (decide (z < 0))) (zB false) (by rw [show (decide (z < 0)) = false from yz]) (zza 12 (.v (.int .u64 z)) (zyq 13 (x := .v (.int .u32 (IntKind.u32.wrap (z)))) (.v (.int .u32 ((z) % 4294967296))) (by rw [show (IntKind.u32.wrap (z)) = ((z) % 4294967296) from (IntKind.wrap_u32 _)]) (zza 14 (.v (.int .u64 z)) (zyq 15 (x := .v (.int .u64 (Int.fdiv (z) (2 ^ 32)))) (.v (.int .u64 ((z) / 4294967296))) (by rw [show (Int.fdiv (z) (2 ^ 32)) = ((z) / 4294967296) from (by rw [Int.fdiv_eq_ediv_of_nonneg _ yq]; rfl)]) (zyq 16 (x := .v (.int .u32 (IntKind.u32.wrap ((z) / 4294967296)))) (.v (.int .u32 ((z) / 4294967296))) (by rw [show (IntKind.u32.wrap ((z) / 4294967296)) = ((z) / 4294967296) from (IntWalk.u32_in _ xq)]) (zxx 17 ⟨133, [.int .u32 ((z) % 4294967296), .int .u32 ((z) / 4294967296)]⟩ 2 (fun ak am aq ad => ?_)))))))))
 refine zzg 18 194 _ fun _ _ ac af => Post.mono (k_natTrim af ((two_data (N := z.natAbs) ad xq xq xq).ext ac) xq) ?_
 rintro _ au an ⟨al, rfl, ag⟩
 refine zzg 19 193 _ fun _ _ ae aj => Post.mono (k_signed aj (s := false) (ag.ext ae)) ?_
 rintro _ ar ao ⟨aa, rfl, ah⟩
 refine zzj ⟨30, aa.cs⟩ ty30 ?_
 refine zzb (zzo (ret0 [aa.v] ⟨zzr ty30 zze, trivial⟩ fun ap ai => ?_))
 refine ⟨aa, rfl, IntN.more (K := 2) ?_ xq⟩
 have e : z = Nt.sg false z.natAbs := by unfold Nt.sg; simp; omega
 rw [e]
 exact (ah.ext ai)
theorem k_natural {u w : World} {x : Sl} (d : Dat u w) : Calls Tryz.prog 152 #[x.v] w (Post u w fun v _ => v = .agg #[.bool false, x.v]) := by
 refine zzm (args := [x.v]) Tryz.func152 rfl Tryz.ntmps152 (rs := [.cell 2 30]) Tryz.results152 (le_b rfl) (le_b rfl) d ?_
 refine sq9 (zzk 2 ⟨30, [.bool false, .slice none 0 0]⟩ (zzb (sq9 (zza 3 (.v (x.v)) (zza 4 (.v (.agg #[.bool false, x.v])) (zzj ⟨30, [.bool false, x.v]⟩ ty30 ?_))))))
 refine zzb (zzo (ret0 [.agg #[.bool false, x.v]] ⟨zzr ty30 zze, trivial⟩ fun u11 e12 => ?_))
 exact rfl
theorem k_whole {u w : World} {i : IL} (d : Dat u w) : Calls Tryz.prog 164 #[i.v] w (Post u w fun v u' => ∃ y : Sl, v = .agg #[.bool i.s, i.m.v, y.v] ∧ NatN u' y 1 1) := by
 refine zzm (args := [i.v]) Tryz.func164 rfl Tryz.ntmps164 (rs := [.cell 2 32]) Tryz.results164 (le_b rfl) (le_b rfl) d ?_
 refine sq9 (zzk 1 ⟨30, i.cs⟩ (zzk 2 ⟨32, zw3⟩ (zzb (sq9 (zzi 3 (.v (i.v)) ty30 zze (zxx 4 ⟨133, [.int .u32 1]⟩ 1 (fun aa u12 e13 ad => ?_)))))))
 refine zza 5 (.v (.agg #[.bool i.s, i.m.v, .slice (some ⟨aa, 0, none⟩) 1 1])) (zzj ⟨32, i.cs ++ [.slice (some ⟨aa, 0, none⟩) 1 1]⟩ ty32 ?_)
 refine zzb (zzo (ret0 [.agg #[.bool i.s, i.m.v, .slice (some ⟨aa, 0, none⟩) 1 1]] ⟨zzr ty32 zze, trivial⟩ fun u15 ac => ?_))
 exact ⟨_, rfl, ((one_data ad).ext ac)⟩
theorem k_quotient {u w : World} {i j : IL} (d : Dat u w) : Calls Tryz.prog 168 #[i.v, j.v] w (Post u w fun v _ => v = .agg #[.bool (!(i.s == j.s)), i.m.v, j.m.v]) := by
 refine zzm (args := [i.v, j.v]) Tryz.func168 rfl Tryz.ntmps168 (rs := [.cell 4 195]) Tryz.results168 (le_b rfl) (le_b rfl) d ?_
 refine sq9 (zzk 2 ⟨30, i.cs⟩ (zzk 3 ⟨30, j.cs⟩ (zzk 4 ⟨195, zw3⟩ (zzb (sq9 (zza 5 (.adr 2 0) (zzi 6 (zB i.s) ty4 zzl (zza 7 (.adr 3 0) (zzi 8 (zB j.s) ty4 zzl (zza 9 (zB (!(i.s == j.s))) (zza 10 (.adr 2 1) ?_)))))))))))
 refine zzi 11 (.v (i.m.v)) ty28 zzl (zza 12 (.v (.agg #[.bool (!(i.s == j.s)), i.m.v])) (zza 13 (.adr 3 1) (zzi 14 (.v (j.m.v)) ty28 zzl (zza 15 (.v (.agg #[.bool (!(i.s == j.s)), i.m.v, j.m.v])) (zzj ⟨195, [.bool (!(i.s == j.s)), i.m.v, j.m.v]⟩ ty195 ?_)))))
 refine zzb (zzo (ret0 [.agg #[.bool (!(i.s == j.s)), i.m.v, j.m.v]] ⟨zzr ty195 zze, trivial⟩ fun u11 e12 => ?_))
 exact rfl
theorem k_flip {u w : World} {r : RL} (d : Dat u w) : Calls Tryz.prog 153 #[r.v] w (Post u w fun v _ => v = .agg #[.bool (!r.s), r.m.v, r.d.v]) := by
 refine zzm (args := [r.v]) Tryz.func153 rfl Tryz.ntmps153 (rs := [.cell 2 32]) Tryz.results153 (le_b rfl) (le_b rfl) d ?_
 refine sq9 (zzk 1 ⟨32, r.cs⟩ (zzk 2 ⟨32, zw3⟩ (zzb (sq9 (zza 3 (.adr 1 0) (zza 4 (.adr 1 0) (zzi 5 (zB r.s) ty4 zzl (zza 6 (zB (!r.s)) (zza 7 (.adr 1 0) (zza 8 (.adr 1 1) (zzi 9 (.v (r.m.v)) ty28 zzl ?_)))))))))))
 refine zza 10 (.v (.agg #[.bool (!r.s), r.m.v])) (zza 11 (.adr 1 2) (zzi 12 (.v (r.d.v)) ty28 zzl (zza 13 (.v (.agg #[.bool (!r.s), r.m.v, r.d.v])) (zzj ⟨32, [.bool (!r.s), r.m.v, r.d.v]⟩ ty32 ?_))))
 refine zzb (zzo (ret0 [.agg #[.bool (!r.s), r.m.v, r.d.v]] ⟨zzr ty32 zze, trivial⟩ fun u11 e12 => ?_))
 exact rfl
set_option maxHeartbeats 1000000 in
theorem k_read {u w : World} {r : RL} {q : Rat} {K : Nat} (d : Dat u w) (h : RatV u r q K) : Calls Tryz.prog 148 #[r.v] w (Post u w fun v u' => ∃ (r' : RL) (wh : Bool), v = .agg #[.bool r'.s, r'.m.v, r'.d.v, .bool wh] ∧ NumV u' r' wh q K) := by
 obtain ⟨⟨z, D, hi, hd, hq⟩, hK⟩ := h
 change IntV u ⟨r.s, r.m⟩ z K at hi
 change NatV u r.d D K at hd
 by_cases hn : r.d.n = 1
 ·obtain ⟨b, o, ha, hc⟩ := nat_digit hd hn
  by_cases hD : D = 1
  ·refine zzm (args := [r.v]) Tryz.func148 rfl Tryz.ntmps148 (rs := [.cell 2 197]) Tryz.results148 (le_b rfl) (le_b rfl) d ?_
   refine sq9 (zzk 1 ⟨32, r.cs⟩ (zzk 2 ⟨197, [.bool false, .slice none 0 0, .slice none 0 0, .bool false]⟩ (zzb (zzd (sq9 (zza 3 (.adr 1 2) (zzi 4 (.v (r.d.v)) ty28 zzl (zza 5 (zI r.d.n) (zyq 6 (x := zB ((r.d.n : Int) == 1)) (zB true) (by rw [show ((r.d.n : Int) == 1) = true from (by simp [hn])]) (zza 7 (zB true) (zza 8 (.adr 1 2) ?_ (hw := w1 4 true 7))))))))))))
   refine zzi 9 (.v (r.d.v)) ty28 zzl ?_ (hw := w1 4 true 7)
   refine zya 10 o (i := 0) (n := r.d.n) zv ha xq (by rw [hn]; decide) sl28 ?_ (hw := w1 4 true 7)
   refine zyl 11 (.int .u32 D) ((Ext.refl _).cell hc) ty133 ?_ (hw := w1 4 true 7)
   refine zyq 12 (x := zB ((D : Int) == 1)) (zB true) (by rw [show ((D : Int) == 1) = true from (by simp [hD])]) ?_ (hw := w1 4 true 7)
   refine zza 13 (zB true) (zzb (zyr xj (sq9 (zza 14 (.adr 1 0) (zzi 15 (.v (.agg #[.bool r.s, r.m.v])) ty30 zze (zza 16 (.adr 1 2) (zzi 17 (.v (r.d.v)) ty28 zzl (zza 18 (.v (r.v)) (zza 19 (.v (.agg #[.bool r.s, r.m.v, r.d.v, .bool true])) (zzj ⟨197, r.cs ++ [.bool true]⟩ ty197 ?_))))))))))
   refine zzb (zzo (zzw (ret0 [.agg #[.bool r.s, r.m.v, r.d.v, .bool true]] ⟨zzr ty197 zze, trivial⟩ fun ao ak => ?_)))
   exact ⟨r, true, rfl, z, D, hi.ext ak, hd.ext ak, by omega, hq, fun _ => hD, hK⟩
  refine zzm (args := [r.v]) Tryz.func148 rfl Tryz.ntmps148 (rs := [.cell 2 197]) Tryz.results148 (le_b rfl) (le_b rfl) d ?_
  refine sq9 (zzk 1 ⟨32, r.cs⟩ (zzk 2 ⟨197, [.bool false, .slice none 0 0, .slice none 0 0, .bool false]⟩ (zzb (zzd (sq9 (zza 3 (.adr 1 2) (zzi 4 (.v (r.d.v)) ty28 zzl (zza 5 (zI r.d.n) (zyq 6 (x := zB ((r.d.n : Int) == 1)) (zB true) (by rw [show ((r.d.n : Int) == 1) = true from (by simp [hn])]) (zza 7 (zB true) (zza 8 (.adr 1 2) ?_ (hw := w1 4 true 7))))))))))))
  refine zzi 9 (.v (r.d.v)) ty28 zzl ?_ (hw := w1 4 true 7)
  refine zya 10 o (i := 0) (n := r.d.n) zv ha xq (by rw [hn]; decide) sl28 ?_ (hw := w1 4 true 7)
  refine zyl 11 (.int .u32 D) ((Ext.refl _).cell hc) ty133 ?_ (hw := w1 4 true 7)
  refine zyq 12 (x := zB ((D : Int) == 1)) (zB false) (by rw [show ((D : Int) == 1) = false from yz]) ?_ (hw := w1 4 true 7)
  refine zza 13 (zB false) (zzb (zys xj (zzs (zzp ?_))))
  refine zzd (sq9 (zza 20 (.adr 1 2) (zzi 21 (.v (r.d.v)) ty28 zzl (zzg 22 166 [r.d.v, .slice none 0 0] ?_))))
  intro w11 ao ad ah
  have k14 := k_natCompare ah (hd.ext ad) (nat_nil _ 1)
  with_reducible refine zPm k14 ?_
  rintro _ al ag rfl
  refine zza 23 (zB ((Nt.cmpS D 0) == 0)) (zzb (zzu (b := (Nt.cmpS D 0) == 0) xj (fun aa => ?_) (fun aa => ?_)))
  ·refine sq9 (zza 24 (.v (.agg #[.bool false, .slice none 0 0])) (zxx 25 ⟨133, [.int .u32 1]⟩ 1 (fun ac an aq ai => ?_)))
   refine zza 26 (.v (.agg #[.bool false, .slice none 0 0, .slice (some ⟨ac, 0, none⟩) 1 1])) (zza 27 (.v (.agg #[.bool false, .slice none 0 0, .slice (some ⟨ac, 0, none⟩) 1 1, .bool true])) (zzj ⟨197, [.bool false, .slice none 0 0, .slice (some ⟨ac, 0, none⟩) 1 1, .bool true]⟩ ty197 ?_))
   refine zzb (zzo (zzw (ret0 [.agg #[.bool false, .slice none 0 0, .slice (some ⟨ac, 0, none⟩) 1 1, .bool true]] ⟨zzr ty197 zze, trivial⟩ fun ap aj => ?_)))
   have ae : D = 0 := (Nt.cmp_nat0 aa).1 rfl
   refine ⟨⟨false, ⟨none, 0, 0⟩, (⟨some ⟨ac, 0, none⟩, 1, 1⟩ : Sl)⟩, true, rfl, 0, 1, (⟨0, nat_nil _ K, rfl⟩ : IntV _ ⟨false, ⟨none, 0, 0⟩⟩ 0 K), ((one_data ai).ext aj).raw.more hK, by omega, ?_, fun _ => rfl, hK⟩
   rw [hq, ae]; simp
  refine zzs (zzp ?_)
  refine sq9 (zza 28 (.adr 1 0) (zzi 29 (.v (.agg #[.bool r.s, r.m.v])) ty30 zze (zza 30 (.adr 1 2) (zzi 31 (.v (r.d.v)) ty28 zzl (zza 32 (.v (r.v)) (zza 33 (.v (.agg #[.bool r.s, r.m.v, r.d.v, .bool false])) (zzj ⟨197, r.cs ++ [.bool false]⟩ ty197 ?_)))))))
  refine zzb (zzo (ret0 [.agg #[.bool r.s, r.m.v, r.d.v, .bool false]] ⟨zzr ty197 zze, trivial⟩ fun am af => ?_))
  have ae : 0 < D := (Nt.cmp_nat0 aa).2 rfl
  exact ⟨r, false, rfl, z, D, hi.ext (ad.t (ag.t af)), hd.ext (ad.t (ag.t af)), ae, hq, (fun k => by cases k), hK⟩
 refine zzm (args := [r.v]) Tryz.func148 rfl Tryz.ntmps148 (rs := [.cell 2 197]) Tryz.results148 (le_b rfl) (le_b rfl) d ?_
 refine sq9 (zzk 1 ⟨32, r.cs⟩ (zzk 2 ⟨197, [.bool false, .slice none 0 0, .slice none 0 0, .bool false]⟩ (zzb (zzd (sq9 (zza 3 (.adr 1 2) (zzi 4 (.v (r.d.v)) ty28 zzl (zza 5 (zI r.d.n) (zyq 6 (x := zB ((r.d.n : Int) == 1)) (zB false) (by rw [show ((r.d.n : Int) == 1) = false from yz]) (zza 7 (zB false) (zzn 8 (uw 4 true false 7) ?_)))))))))))
 refine zzn 9 (uw 4 true false 7) (zzn 10 (uw 4 true false 7) (zzn 11 (uw 4 true false 7) (zzn 12 (uw 4 true false 7) (zza 13 (zB false) (zzb (zys xj (zzs (zzp ?_))))))))
 refine zzd (sq9 (zza 20 (.adr 1 2) (zzi 21 (.v (r.d.v)) ty28 zzl (zzg 22 166 _ fun _ _ ad ah => Post.mono (k_natCompare ah (hd.ext ad) (nat_nil _ 1)) ?_))))
 rintro _ al ag rfl
 refine zza 23 (zB ((Nt.cmpS D 0) == 0)) (zzb (zzu (b := (Nt.cmpS D 0) == 0) xj (fun aa => ?_) (fun aa => ?_)))
 ·refine sq9 (zza 24 (.v (.agg #[.bool false, .slice none 0 0])) (zxx 25 ⟨133, [.int .u32 1]⟩ 1 (fun ac an aq ai => ?_)))
  refine zza 26 (.v (.agg #[.bool false, .slice none 0 0, .slice (some ⟨ac, 0, none⟩) 1 1])) (zza 27 (.v (.agg #[.bool false, .slice none 0 0, .slice (some ⟨ac, 0, none⟩) 1 1, .bool true])) (zzj ⟨197, [.bool false, .slice none 0 0, .slice (some ⟨ac, 0, none⟩) 1 1, .bool true]⟩ ty197 ?_))
  refine zzb (zzo (zzw (ret0 [.agg #[.bool false, .slice none 0 0, .slice (some ⟨ac, 0, none⟩) 1 1, .bool true]] ⟨zzr ty197 zze, trivial⟩ fun ap aj => ?_)))
  have ae : D = 0 := (Nt.cmp_nat0 aa).1 rfl
  refine ⟨⟨false, ⟨none, 0, 0⟩, (⟨some ⟨ac, 0, none⟩, 1, 1⟩ : Sl)⟩, true, rfl, 0, 1, (⟨0, nat_nil _ K, rfl⟩ : IntV _ ⟨false, ⟨none, 0, 0⟩⟩ 0 K), ((one_data ai).ext aj).raw.more hK, by omega, ?_, fun _ => rfl, hK⟩
  rw [hq, ae]; simp
 refine zzs (zzp ?_)
 refine sq9 (zza 28 (.adr 1 0) (zzi 29 (.v (.agg #[.bool r.s, r.m.v])) ty30 zze (zza 30 (.adr 1 2) (zzi 31 (.v (r.d.v)) ty28 zzl (zza 32 (.v (r.v)) (zza 33 (.v (.agg #[.bool r.s, r.m.v, r.d.v, .bool false])) (zzj ⟨197, r.cs ++ [.bool false]⟩ ty197 ?_)))))))
 refine zzb (zzo (ret0 [.agg #[.bool r.s, r.m.v, r.d.v, .bool false]] ⟨zzr ty197 zze, trivial⟩ fun am af => ?_))
 have ae : 0 < D := (Nt.cmp_nat0 aa).2 rfl
 exact ⟨r, false, rfl, z, D, hi.ext (ad.t (ag.t af)), hd.ext (ad.t (ag.t af)), ae, hq, (fun k => by cases k), hK⟩
theorem k_isOne {u w : World} {x : Sl} {N K : Nat} (d : Dat u w) (h : NatN u x N K) : Calls Tryz.prog 201 #[x.v] w (Post u w fun v _ => v = .bool (decide (N = 1))) := by
 by_cases hn : x.n = 1
 ·obtain ⟨b, o, ha, hc⟩ := nat_digit h.raw hn
  refine zzm (args := [x.v]) Tryz.func201 rfl Tryz.ntmps201 (rs := [.tmp 2]) Tryz.results201 (le_b rfl) (le_b rfl) d ?_
  refine sq9 (zza 2 (zB false) (zzb (sq9 (zza 3 (.v (x.v)) (zza 4 (zI x.n) (zyq 5 (x := zB ((x.n : Int) == 1)) (zB true) (by rw [show ((x.n : Int) == 1) = true from (by simp [hn])]) (zza 6 (zB true) (zza 7 (.v (x.v)) ?_ (hw := w1 3 true 6)))))))))
  refine zya 8 o (i := 0) (n := x.n) zv ha xq (by rw [hn]; decide) sl28 ?_ (hw := w1 3 true 6)
  refine zyl 9 (.int .u32 N) ((Ext.refl _).cell hc) ty133 ?_ (hw := w1 3 true 6)
  refine zza 10 (zB ((N : Int) == 1)) ?_ (hw := w1 3 true 6)
  refine zza 11 (zB ((N : Int) == 1)) (zza 2 (zB ((N : Int) == 1)) (zzb (zzo (ret0 [.bool ((N : Int) == 1)] ⟨zzq, trivial⟩ fun ac aa => ?_))))
  show Value.bool _ = Value.bool _
  congr 1
  rw [Bool.eq_iff_iff]
  simp <;> omega
 have hN : N ≠ 1 := fun e => hn (by rw [h.1, e, Nt.dl_one])
 refine zzm (args := [x.v]) Tryz.func201 rfl Tryz.ntmps201 (rs := [.tmp 2]) Tryz.results201 (le_b rfl) (le_b rfl) d ?_
 refine sq9 (zza 2 (zB false) (zzb (sq9 (zza 3 (.v (x.v)) (zza 4 (zI x.n) (zyq 5 (x := zB ((x.n : Int) == 1)) (zB false) (by rw [show ((x.n : Int) == 1) = false from yz]) (zza 6 (zB false) (zzn 7 (uw 3 true false 6) (zzn 8 (uw 3 true false 6) (zzn 9 (uw 3 true false 6) (zzn 10 (uw 3 true false 6) ?_)))))))))))
 refine zza 11 (zB false) (zza 2 (zB false) (zzb (zzo (ret0 [.bool false] ⟨zzq, trivial⟩ fun ac aa => ?_))))
 show _ = _
 simp [tupV]
 exact hN
set_option maxHeartbeats 1000000 in
theorem k_lowest {u w : World} {i : IL} {z : Int} {y : Sl} {D K L : Nat} (d : Dat u w) (h1 : IntV u i z K) (hD : NatV u y D L) (hp : 0 < D) (hK : K ≤ 500000000) (hL : L ≤ 500000000) : Calls Tryz.prog 149 #[.agg #[.bool i.s, i.m.v, y.v]] w (Post u w fun v u' => ∃ r : RL, v = r.v ∧ RatN u' r (mkRat z D) (max K L)) := by
 obtain ⟨N, hN, hz⟩ := h1
 have hL1 : 1 ≤ L := by have h2 := hD.size; have h3 := Nt.dl_mono (x := D) (y := 1) xq; rw [Nt.dl_one] at h3; omega
 refine zzm (args := [.agg #[.bool i.s, i.m.v, y.v]]) Tryz.func149 rfl Tryz.ntmps149 (rs := [.cell 2 32]) Tryz.results149 (le_b rfl) (le_b rfl) d ?_
 refine sq9 (zzk 1 ⟨195, i.cs ++ [y.v]⟩ (zzk 2 ⟨32, zw3⟩ (zzb (sq9 (zza 14 (.adr 1 0) (zza 15 (.adr 1 1) (zzi 16 (.v (i.m.v)) ty28 zzl (zza 17 (.adr 1 2) (zzi 18 (.v (y.v)) ty28 zzl (zzg 19 195 _ fun _ _ aj aP => Post.mono (k_natDivMod aP (hN.ext aj) (hD.ext aj) hp xq xq) ?_))))))))))
 rintro _ u16 ap ⟨ao, ae, rfl, a2, aA⟩
 refine zza 13 (.v (.tuple #[ao.v, ae.v, .int .i64 0])) (zza 20 (.v (ao.v)) (zza 21 (.v (ae.v)) (zza 22 (zI 0) (zza 3 (.v (ao.v)) (zza 4 (.v (ae.v)) (zza 5 (zI 0) (zzb (zzd (sq9 (zza 23 (.v (ae.v)) (zza 24 (zI ae.n) ?_)))))))))))
 refine zza 25 (zB ((ae.n : Int) == 0)) (zzb (zzu (b := (ae.n : Int) == 0) xj (fun ac => ?_) (fun ac => ?_)))
 ·have aq : (ae.n : Int) = 0 := by simpa using ac
  have hr : N % D = 0 := by have h7 := (aA).pos; simp at ac; omega
  refine sq9 (zza 26 (.adr 1 0) (zza 27 (.adr 1 0) (zzi 28 (zB i.s) ty4 zzl (zza 29 (.v (ao.v)) (zza 30 (.v (.agg #[.bool i.s, ao.v])) (zzg 31 200 _ fun _ _ aK aU => Post.mono (k_intTrim aU (IntV.same (s := i.s) (a2.ext aK).raw) xq) ?_))))))
  rintro _ u23 g24 ⟨al, rfl, aS⟩
  refine zzg 32 164 _ fun _ _ aX a1 => Post.mono (k_whole (i := al) a1) ?_
  rintro _ u29 aO ⟨ax, rfl, aY⟩
  refine zzj ⟨32, al.cs ++ [ax.v]⟩ ty32 ?_
  refine zzb (zzo (zzw (ret0 [.agg #[.bool al.s, al.m.v, ax.v]] ⟨zzr ty32 zze, trivial⟩ fun u32 aR => ?_)))
  refine ⟨(⟨al.s, al.m, ax⟩ : RL), rfl, RatN.more (K := (max K 1)) ?_ xq⟩
  rw [hz, ← low1 hp hr]
  exact ((whole_rat (aS.ext (aX.t aO.ext)) aY).ext aR)
 have aq : ¬ ((ae.n : Int) = 0) := by simpa using ac
 have hr : N % D ≠ 0 := by have h7 := (aA).pos; simp at ac; omega
 refine zzs (zzp ?_)
 refine sq9 (zza 33 (.adr 1 2) (zzi 34 (.v (y.v)) ty28 zzl (zza 35 (.v (ae.v)) (zzg 36 198 _ fun _ _ am aV => Post.mono (k_natGcd aV (hD.ext (aj.t (ap.t am))) (aA.ext am).raw xq xq) ?_))))
 rintro _ u37 au ⟨an, rfl, aw⟩
 refine zza 6 (.v (an.v)) (zzb (zzd (sq9 (zza 37 (.v (an.v)) (zzg 38 201 _ fun _ _ ai aQ => Post.mono (k_isOne aQ (aw.ext ai)) ?_)))))
 rintro _ u41 ak rfl
 refine zzb (zzu (b := decide ((Nat.gcd D (N % D)) = 1)) xj (fun ad => ?_) (fun ad => ?_))
 ·have qhb44 := of_decide_eq_true ad
  have hg : Nat.gcd D (N % D) = 1 := by simpa using ad
  have hgp : 0 < Nat.gcd D (N % D) := Nat.gcd_pos_of_pos_left _ hp
  refine zzd (zzz [0, 1, 3, 0, 8, 31, 63, 127] [(0, []), (1, []), (3, []), (4, []), (2, []), (5, []), (6, []), (7, [])] xj xj (zza 39 (.adr 1 0) (zzi 40 (.v (i.v)) ty30 zze (zza 42 (.adr 1 2) (zzi 43 (.v (y.v)) ty28 zzl (zzg 41 200 _ fun _ _ aE aW => Post.mono (k_intTrim aW (IntV.same (s := i.s) (hN.ext (aj.t (ap.t (am.t (au.t (ai.t (ak.t aE)))))))) xq) ?_))))))
  rintro _ u48 aZ ⟨af, rfl, aI⟩
  refine zzg 44 194 _ fun _ _ aC aM => Post.mono (k_natTrim aM (hD.ext (aj.t (ap.t (am.t (au.t (ai.t (ak.t (aE.t (aZ.t aC))))))))) xq) ?_
  rintro _ u54 aN ⟨ah, rfl, aT⟩
  refine zza 45 (.v (.agg #[.bool af.s, af.m.v, ah.v])) (zzj ⟨32, af.cs ++ [ah.v]⟩ ty32 ?_)
  refine zzc 70 [(2, .adr 2 0)] [(2, ⟨32, af.cs ++ [ah.v]⟩)] (zzo (zzw (ret0 [.agg #[.bool af.s, .slice af.m.a af.m.n af.m.c, .slice ah.a ah.n ah.c]] ⟨zzr ty32 zze, trivial⟩ fun u57 aD => ?_)))
  refine ⟨(⟨af.s, af.m, ah⟩ : RL), rfl, ?_⟩
  rw [hz]
  exact low2 hp hg (aI.ext (aC.t (aN.t aD))) (aT.ext aD)
 have qhb44 := of_decide_eq_false ad
 have hg : ¬ Nat.gcd D (N % D) = 1 := by simpa using ad
 have hgp : 0 < Nat.gcd D (N % D) := Nat.gcd_pos_of_pos_left _ hp
 refine zzs (zzp ?_)
 refine sq9 (zza 47 (.adr 1 0) (zza 48 (.adr 1 1) (zzi 49 (.v (i.m.v)) ty28 zzl (zza 50 (.v (an.v)) (zzg 51 195 _ fun _ _ ar aH => Post.mono (k_natDivMod aH (hN.ext (aj.t (ap.t (am.t (au.t (ai.t (ak.t ar))))))) (aw.ext (ai.t (ak.t ar))).raw hgp xq xq) ?_)))))
 rintro _ u64 aB ⟨aa, ay, rfl, a3, h63⟩
 refine zza 46 (.v (.tuple #[aa.v, ay.v, .int .i64 0])) (zza 52 (.v (aa.v)) (zza 53 (.v (ay.v)) (zza 54 (zI 0) (zza 7 (.v (aa.v)) (zza 8 (.v (ay.v)) (zza 9 (zI 0) (zzc 70 [(1, .adr 1 0), (2, .adr 2 0), (6, .v (an.v)), (7, .v (aa.v))] [(1, ⟨195, i.cs ++ [y.v]⟩), (2, ⟨32, zw3⟩)] (sq9 (zza 56 (.adr 1 2) (zzi 57 (.v (y.v)) ty28 zzl (zza 58 (.v (an.v)) ?_)))))))))))
 refine zzg 59 195 _ fun _ _ az aG => Post.mono (k_natDivMod aG (hD.ext (aj.t (ap.t (am.t (au.t (ai.t (ak.t (ar.t (aB.t az))))))))) (aw.ext (ai.t (ak.t (ar.t (aB.t az))))).raw hgp xq xq) ?_
 rintro _ u72 aL ⟨ag, av, rfl, aJ, h71⟩
 refine zza 55 (.v (.tuple #[ag.v, av.v, .int .i64 0])) (zza 60 (.v (ag.v)) (zza 61 (.v (av.v)) (zza 62 (zI 0) (zza 10 (.v (ag.v)) (zza 11 (.v (av.v)) (zza 12 (zI 0) (zzb (sq9 (zza 63 (.adr 1 0) (zza 64 (.adr 1 0) (zzi 65 (zB i.s) ty4 zzl ?_)))))))))))
 refine zza 66 (.v (aa.v)) (zza 67 (.v (.agg #[.bool i.s, aa.v])) (zza 68 (.v (ag.v)) (zza 69 (.v (.agg #[.bool i.s, aa.v, ag.v])) (zzj ⟨32, [.bool i.s, aa.v, ag.v]⟩ ty32 ?_))))
 refine zzb (zzo (ret0 [.agg #[.bool i.s, .slice aa.a aa.n aa.c, .slice ag.a ag.n ag.c]] ⟨zzr ty32 zze, trivial⟩ fun u75 aF => ?_))
 refine ⟨(⟨i.s, aa, ag⟩ : RL), rfl, RatN.more (K := max K L) ?_ xq⟩
 rw [hz]
 exact low3 hp hr (a3.ext (az.t (aL.t aF))) (aJ.ext aF)
theorem k_ratTrim {u w : World} {r1 : RL} {x : Rat} {K : Nat} (d : Dat u w) (hr1 : RatV u r1 x K) (hK : K ≤ 200000000) : Calls Tryz.prog 68 #[r1.v] w (Post u w fun v u' => ∃ r : RL, v = r.v ∧ RatN u' r x K) := by
 refine zzm (args := [r1.v]) Tryz.func68 rfl Tryz.ntmps68 (rs := [.cell 2 32]) Tryz.results68 (le_b rfl) (le_b rfl) d ?_
 refine sq9 (zzk 1 ⟨32, r1.cs⟩ (zzk 2 ⟨32, zw3⟩ (zzb (sq9 (zzi 3 (.v (r1.v)) ty32 zze (zzg 4 148 _ fun _ _ am ak => Post.mono (k_read ak (hr1.ext am)) ?_))))))
 rintro _ u13 g14 ⟨aj, ao, rfl, z12, D12, af, ad, ac, aa, an, ah⟩
 refine zza 5 (.v (aj.v)) (zzg 6 149 _ fun _ _ ag ai => Post.mono (k_lowest ai (af.ext ag) (ad.ext ag) ac xq xq) ?_)
 rintro _ u19 g20 ⟨ae, rfl, al⟩
 refine zzj ⟨32, ae.cs⟩ ty32 ?_
 refine zzb (zzo (ret0 [ae.v] ⟨zzr ty32 zze, trivial⟩ fun u22 ap => ?_))
 refine ⟨ae, rfl, RatN.more (K := (max K K)) ?_ xq⟩
 rw [aa]; exact (al.ext ap)
theorem k_ratOf {u w : World} {z : Int} (d : Dat u w) (h0 : -9223372036854775808 ≤ z) (h1 : z ≤ 9223372036854775807) : Calls Tryz.prog 109 #[.int .i64 z] w (Post u w fun v u' => ∃ r : RL, v = r.v ∧ RatN u' r (z : Rat) 2) := by
 refine zzm (args := [.int .i64 z]) Tryz.func109 rfl Tryz.ntmps109 (rs := [.cell 2 32]) Tryz.results109 (le_b rfl) (le_b rfl) d ?_
 refine sq9 (zzk 2 ⟨32, zw3⟩ (zzb (sq9 (zza 3 (zI z) (zzg 4 140 _ fun _ _ _ ae => Post.mono (k_intOf ae (z := z) xq xq) ?_)))))
 rintro _ u14 g15 ⟨aa, rfl, af⟩
 refine zzg 5 164 _ fun _ _ ag ad => Post.mono (k_whole (i := aa) ad) ?_
 rintro _ u20 aj ⟨ac, rfl, ai⟩
 refine zzj ⟨32, aa.cs ++ [ac.v]⟩ ty32 ?_
 refine zzb (zzo (ret0 [.agg #[.bool aa.s, aa.m.v, ac.v]] ⟨zzr ty32 zze, trivial⟩ fun u23 ah => ?_))
 refine ⟨(⟨aa.s, aa.m, ac⟩ : RL), rfl, RatN.more (K := (max 2 1)) ?_ xq⟩
 exact ((whole_rat (af.ext (ag.t aj.ext)) ai).ext ah)
theorem k_ratSign {u w : World} {r1 : RL} {x : Rat} {K : Nat} (d : Dat u w) (hr1 : RatV u r1 x K)  : Calls Tryz.prog 66 #[r1.v] w (Post u w fun v u' => v = .int .i64 (Nt.sgQ x)) := by
 refine zzm (args := [r1.v]) Tryz.func66 rfl Tryz.ntmps66 (rs := [.tmp 2]) Tryz.results66 (le_b rfl) (le_b rfl) d ?_
 refine sq9 (zzk 1 ⟨32, r1.cs⟩ (zza 2 (zI 0) (zzb (sq9 (zzi 3 (.v (r1.v)) ty32 zze (zzg 4 148 _ fun _ _ ak aj => Post.mono (k_read aj (hr1.ext ak)) ?_))))))
 rintro _ u13 g14 ⟨ad, an, rfl, af, D12, ae, am, ac, aa, al, ah⟩
 refine zza 5 (.v (ad.v)) (zza 6 (.v (.agg #[.bool ad.s, ad.m.v])) (zzg 7 147 _ fun _ _ ag ai => Post.mono (k_intSign ai (ae.ext ag)) ?_))
 rintro _ u17 g18 rfl
 refine zza 2 (zI (Nt.cmpS af 0)) (zzb (zzo (ret0 [.int .i64 (Nt.cmpS af 0)] ⟨zzq, trivial⟩ fun u20 e21 => ?_)))
 show _ = _
 rw [aa, ← Nt.sg_mk ac]
 rfl
theorem k_ratCompare {u w : World} {r1 : RL} {x : Rat} {K : Nat} {r2 : RL} {y : Rat} {L : Nat} (d : Dat u w) (hr1 : RatV u r1 x K) (hr2 : RatV u r2 y L) (hK : K ≤ 200000000) (hL : L ≤ 200000000) : Calls Tryz.prog 78 #[r1.v, r2.v] w (Post u w fun v u' => v = .int .i64 (Nt.cmpQ x y)) := by
 refine zzm (args := [r1.v, r2.v]) Tryz.func78 rfl Tryz.ntmps78 (rs := [.tmp 4]) Tryz.results78 (le_b rfl) (le_b rfl) d ?_
 refine sq9 (zzk 2 ⟨32, r1.cs⟩ (zzk 3 ⟨32, r2.cs⟩ (zza 4 (zI 0) (zzb (zzd (zzz [0, 1, 0, 7, 0, 0, 63, 127] [(0, []), (2, []), (4, []), (5, []), (1, []), (3, []), (6, []), (7, [])] xj xj (zzi 7 (.v (r1.v)) ty32 zze (zzi 9 (.v (r2.v)) ty32 zze (zzk 5 ⟨197, [.bool false, .slice none 0 0, .slice none 0 0, .bool false]⟩ (zzk 6 ⟨197, [.bool false, .slice none 0 0, .slice none 0 0, .bool false]⟩ (zzg 8 148 _ fun _ _ aN ba => Post.mono (k_read ba (hr1.ext aN)) ?_)))))))))))
 rintro _ u13 a8 ⟨ae, af, rfl, ah, ao, ai, av, ak, aj, aG, aZ⟩
 refine zzg 10 148 _ fun _ _ aq a5 => Post.mono (k_read a5 (hr2.ext (aN.t (a8.t aq)))) ?_
 rintro _ u18 au ⟨ac, aa, rfl, ag, ap, an, ar, am, al, aJ, aS⟩
 refine zzj ⟨197, ae.cs ++ [.bool af]⟩ ty197 ?_
 refine zzj ⟨197, ac.cs ++ [.bool aa]⟩ ty197 ?_
 refine zzb (zzd (sq9 (zza 11 (.adr 5 3) (zzi 12 (zB af) ty4 zzl ?_))))
 rcases Bool.eq_false_or_eq_true af with hs21 | hs21
 ·refine zyq 13 (x := zB af) (zB true) (by rw [hs21]) (zza 14 (.adr 6 3) ?_ (hw := w1 2 true 13))
  refine zzi 15 (zB aa) ty4 zzl ?_ (hw := w1 2 true 13)
  refine zza 16 (zB aa) (zzb (zzu (b := aa) xj (fun ad => ?_) (fun ad => ?_)))
  ·replace ad : aa = true := ad
   refine sq9 (zza 17 (.adr 5 0) (zza 18 (.adr 5 0) (zzi 19 (.v (.agg #[.bool ae.s, ae.m.v])) ty30 zze (zza 20 (.adr 6 0) (zza 21 (.adr 6 0) (zzi 22 (.v (.agg #[.bool ac.s, ac.m.v])) ty30 zze (zzg 23 146 _ fun _ _ aP a3 => Post.mono (k_intCompare a3 (ai.ext (aq.t (au.t aP))) (an.ext aP)) ?_)))))))
   rintro _ u24 g25 rfl
   refine zza 4 (zI (Nt.cmpS ah ag)) (zzb (zzo (zzw (ret0 [.int .i64 (Nt.cmpS ah ag)] ⟨zzq, trivial⟩ fun u27 e28 => ?_))))
   show _ = _
   rw [aj, al, ← Nt.cmp_mk ak am]
   rw [aG (by assumption), aJ (by assumption)]
   simp [tupV]
  replace ad : aa = false := ad
  refine zzs (zzp ?_)
  refine zzd (zzz [0, 1, 3, 0, 8, 24, 56, 127, 0, 256, 768, 0, 2048, 6144, 14591, 32767, 65535, 131071] [(0, []), (1, []), (2, []), (3, []), (4, []), (5, []), (8, []), (9, []), (10, []), (11, []), (12, []), (13, []), (6, []), (7, []), (14, []), (15, []), (16, []), (17, [])] xj xj (zza 24 (.adr 5 0) (zza 25 (.adr 5 0) (zzi 26 (.v (.agg #[.bool ae.s, ae.m.v])) ty30 zze (zza 27 (.adr 6 0) (zza 28 (.adr 6 2) (zzi 29 (.v (ac.d.v)) ty28 zzl (zza 32 (.adr 6 0) (zza 33 (.adr 6 0) (zzi 34 (.v (.agg #[.bool ac.s, ac.m.v])) ty30 zze (zza 35 (.adr 5 0) ?_)))))))))))
  refine zza 36 (.adr 5 2) (zzi 37 (.v (ae.d.v)) ty28 zzl (zzg 30 152 _ fun _ _ ay a7 => Post.mono (k_natural (x := ac.d) a7) ?_))
  rintro _ u30 aB rfl
  refine zzg 31 143 _ fun _ _ aw a6 => Post.mono (k_intMul a6 (ai.ext (aq.t (au.t (ay.t (aB.t aw))))) (nat_int (ar.ext (ay.t (aB.t aw)))) xq xq) ?_
  rintro _ u36 aM ⟨i34, rfl, aV⟩
  refine zzg 38 152 _ fun _ _ aC aX => Post.mono (k_natural (x := ae.d) aX) ?_
  rintro _ u40 aH rfl
  refine zzg 39 143 _ fun _ _ aF aW => Post.mono (k_intMul aW (an.ext (ay.t (aB.t (aw.t (aM.t (aC.t (aH.t aF))))))) (nat_int (av.ext (aq.t (au.t (ay.t (aB.t (aw.t (aM.t (aC.t (aH.t aF)))))))))) xq xq) ?_
  rintro _ u46 aT ⟨i44, rfl, bc⟩
  refine zzg 40 146 _ fun _ _ aO aY => Post.mono (k_intCompare aY (aV.ext (aC.t (aH.t (aF.t (aT.t aO))))).raw (bc.ext aO).raw) ?_
  rintro _ u50 g51 rfl
  refine zza 4 (zI (Nt.cmpS (ah * (ap : Int)) (ag * (ao : Int)))) (zzc 41 [(4, zI (Nt.cmpS (ah * (ap : Int)) (ag * (ao : Int))))] [] (zzo (ret0 [.int .i64 (Nt.cmpS (ah * (ap : Int)) (ag * (ao : Int)))] ⟨zzq, trivial⟩ fun u53 e54 => ?_)))
  show _ = _
  rw [aj, al, ← Nt.cmp_mk ak am]
  rfl
 refine zyq 13 (x := zB af) (zB false) (by rw [hs21]) (zzn 14 (uw 2 true false 13) (zzn 15 (uw 2 true false 13) (zza 16 (zB false) (zzb (zys xj (zzs (zzp ?_)))))))
 refine zzd (zzz [0, 1, 3, 0, 8, 24, 56, 127, 0, 256, 768, 0, 2048, 6144, 14591, 32767, 65535, 131071] [(0, []), (1, []), (2, []), (3, []), (4, []), (5, []), (8, []), (9, []), (10, []), (11, []), (12, []), (13, []), (6, []), (7, []), (14, []), (15, []), (16, []), (17, [])] xj xj (zza 24 (.adr 5 0) (zza 25 (.adr 5 0) (zzi 26 (.v (.agg #[.bool ae.s, ae.m.v])) ty30 zze (zza 27 (.adr 6 0) (zza 28 (.adr 6 2) (zzi 29 (.v (ac.d.v)) ty28 zzl (zza 32 (.adr 6 0) (zza 33 (.adr 6 0) (zzi 34 (.v (.agg #[.bool ac.s, ac.m.v])) ty30 zze (zza 35 (.adr 5 0) ?_)))))))))))
 refine zza 36 (.adr 5 2) (zzi 37 (.v (ae.d.v)) ty28 zzl (zzg 30 152 _ fun _ _ az a9 => Post.mono (k_natural (x := ac.d) a9) ?_))
 rintro _ u56 aA rfl
 refine zzg 31 143 _ fun _ _ ax a1 => Post.mono (k_intMul a1 (ai.ext (aq.t (au.t (az.t (aA.t ax))))) (nat_int (ar.ext (az.t (aA.t ax)))) xq xq) ?_
 rintro _ u62 aK ⟨i60, rfl, a4⟩
 refine zzg 38 152 _ fun _ _ aE aR => Post.mono (k_natural (x := ae.d) aR) ?_
 rintro _ u66 aI rfl
 refine zzg 39 143 _ fun _ _ aD bb => Post.mono (k_intMul bb (an.ext (az.t (aA.t (ax.t (aK.t (aE.t (aI.t aD))))))) (nat_int (av.ext (aq.t (au.t (az.t (aA.t (ax.t (aK.t (aE.t (aI.t aD)))))))))) xq xq) ?_
 rintro _ u72 aQ ⟨i70, rfl, aU⟩
 refine zzg 40 146 _ fun _ _ aL a2 => Post.mono (k_intCompare a2 (a4.ext (aE.t (aI.t (aD.t (aQ.t aL))))).raw (aU.ext aL).raw) ?_
 rintro _ u76 g77 rfl
 refine zza 4 (zI (Nt.cmpS (ah * (ap : Int)) (ag * (ao : Int)))) (zzc 41 [(4, zI (Nt.cmpS (ah * (ap : Int)) (ag * (ao : Int))))] [] (zzo (ret0 [.int .i64 (Nt.cmpS (ah * (ap : Int)) (ag * (ao : Int)))] ⟨zzq, trivial⟩ fun u79 e80 => ?_)))
 show _ = _
 rw [aj, al, ← Nt.cmp_mk ak am]
 rfl
theorem k_ratNeg {u w : World} {r1 : RL} {x : Rat} {K : Nat} (d : Dat u w) (hr1 : RatV u r1 x K) (hK : K ≤ 200000000) : Calls Tryz.prog 79 #[r1.v] w (Post u w fun v u' => ∃ r : RL, v = r.v ∧ RatN u' r (-x) K) := by
 refine zzm (args := [r1.v]) Tryz.func79 rfl Tryz.ntmps79 (rs := [.cell 2 32]) Tryz.results79 (le_b rfl) (le_b rfl) d ?_
 refine sq9 (zzk 1 ⟨32, r1.cs⟩ (zzk 2 ⟨32, zw3⟩ (zzb (sq9 (zzi 3 (.v (r1.v)) ty32 zze (zzg 4 153 _ fun _ _ ae ac => Post.mono (k_flip (r := r1) ac) ?_))))))
 rintro _ u12 ad rfl
 refine zzg 5 68 _ fun _ _ ai ag => Post.mono (k_ratTrim ag ((flip_rat (hr1.ext (ae.t ad.ext))).ext ai) xq) ?_
 rintro _ u18 g19 ⟨aa, rfl, ah⟩
 refine zzj ⟨32, aa.cs⟩ ty32 ?_
 refine zzb (zzo (ret0 [aa.v] ⟨zzr ty32 zze, trivial⟩ fun u21 af => ?_))
 refine ⟨aa, rfl, RatN.more (K := K) ?_ xq⟩
 exact (ah.ext af)
theorem k_ratAbs {u w : World} {r1 : RL} {x : Rat} {K : Nat} (d : Dat u w) (hr1 : RatV u r1 x K) (hK : K ≤ 200000000) : Calls Tryz.prog 65 #[r1.v] w (Post u w fun v u' => ∃ r : RL, v = r.v ∧ RatN u' r (Nt.absQ x) K) := by
 refine zzm (args := [r1.v]) Tryz.func65 rfl Tryz.ntmps65 (rs := [.cell 2 32]) Tryz.results65 (le_b rfl) (le_b rfl) d ?_
 refine sq9 (zzk 1 ⟨32, r1.cs⟩ (zzk 2 ⟨32, zw3⟩ (zzb (sq9 (zza 3 (.adr 1 0) (zza 4 (.adr 1 1) (zzi 5 (.v (r1.m.v)) ty28 zzl (zza 6 (.v (.agg #[.bool false, r1.m.v])) (zza 7 (.adr 1 2) (zzi 8 (.v (r1.d.v)) ty28 zzl (zza 9 (.v (.agg #[.bool false, r1.m.v, r1.d.v])) ?_)))))))))))
 refine zzg 10 68 _ fun _ _ ae ac => Post.mono (k_ratTrim ac ((abs_rat hr1).ext ae) xq) ?_
 rintro _ u14 g15 ⟨aa, rfl, ad⟩
 refine zzj ⟨32, aa.cs⟩ ty32 ?_
 refine zzb (zzo (ret0 [aa.v] ⟨zzr ty32 zze, trivial⟩ fun u17 af => ?_))
 refine ⟨aa, rfl, RatN.more (K := K) ?_ xq⟩
 exact (ad.ext af)
set_option maxHeartbeats 1000000 in
theorem k_ratAdd {u w : World} {r1 : RL} {x : Rat} {K : Nat} {r2 : RL} {y : Rat} {L : Nat} (d : Dat u w) (hr1 : RatV u r1 x K) (hr2 : RatV u r2 y L) (hK : K ≤ 200000000) (hL : L ≤ 200000000) : Calls Tryz.prog 112 #[r1.v, r2.v] w (Post u w fun v u' => ∃ r : RL, v = r.v ∧ RatN u' r (x + y) (K + L + 1)) := by
 refine zzm (args := [r1.v, r2.v]) Tryz.func112 rfl Tryz.ntmps112 (rs := [.cell 4 32]) Tryz.results112 (le_b rfl) (le_b rfl) d ?_
 refine sq9 (zzk 2 ⟨32, r1.cs⟩ (zzk 3 ⟨32, r2.cs⟩ (zzk 4 ⟨32, zw3⟩ (zzb (zzd (zzz [0, 1, 0, 7, 0, 0, 63, 127] [(0, []), (2, []), (4, []), (5, []), (1, []), (3, []), (6, []), (7, [])] xj xj (zzi 8 (.v (r1.v)) ty32 zze (zzi 10 (.v (r2.v)) ty32 zze (zzk 5 ⟨197, [.bool false, .slice none 0 0, .slice none 0 0, .bool false]⟩ (zzk 6 ⟨197, [.bool false, .slice none 0 0, .slice none 0 0, .bool false]⟩ (zzg 9 148 _ fun _ _ bz cn => Post.mono (k_read cn (hr1.ext bz)) ?_)))))))))))
 rintro _ u13 ci ⟨aa, ag, rfl, z12, aL, ao, af, ae, aq, br, b3⟩
 refine zzg 11 148 _ fun _ _ ah b8 => Post.mono (k_read b8 (hr2.ext (bz.t (ci.t ah)))) ?_
 rintro _ u18 ak ⟨ac, ad, rfl, z17, D17, az, aj, aF, ar, bt, bF⟩
 refine zzj ⟨197, aa.cs ++ [.bool ag]⟩ ty197 ?_
 refine zzj ⟨197, ac.cs ++ [.bool ad]⟩ ty197 ?_
 refine zzb (zzd (sq9 (zza 12 (.adr 5 3) (zzi 13 (zB ag) ty4 zzl ?_))))
 rcases Bool.eq_false_or_eq_true ag with hs21 | hs21
 ·refine zyq 14 (x := zB ag) (zB true) (by rw [hs21]) (zza 15 (.adr 6 3) ?_ (hw := w1 2 true 14))
  refine zzi 16 (zB ad) ty4 zzl ?_ (hw := w1 2 true 14)
  refine zza 17 (zB ad) (zzb (zzu (b := ad) xj (fun au => ?_) (fun au => ?_)))
  ·replace au : ad = true := au
   refine sq9 (zza 18 (.adr 5 0) (zza 19 (.adr 5 0) (zzi 20 (.v (.agg #[.bool aa.s, aa.m.v])) ty30 zze (zza 21 (.adr 6 0) (zza 22 (.adr 6 0) (zzi 23 (.v (.agg #[.bool ac.s, ac.m.v])) ty30 zze (zzg 24 165 _ fun _ _ bA b6 => Post.mono (k_intAdd b6 (ao.ext (ah.t (ak.t bA))) (az.ext bA) xq xq) ?_)))))))
   rintro _ u26 g27 ⟨aN, rfl, bJ⟩
   refine zzg 25 164 _ fun _ _ b5 cf => Post.mono (k_whole (i := aN) cf) ?_
   rintro _ u32 cq ⟨bc, rfl, bR⟩
   refine zzj ⟨32, aN.cs ++ [bc.v]⟩ ty32 ?_
   refine zzb (zzo (zzw (ret0 [.agg #[.bool aN.s, aN.m.v, bc.v]] ⟨zzr ty32 zze, trivial⟩ fun u35 bD => ?_)))
   refine ⟨(⟨aN.s, aN.m, bc⟩ : RL), rfl, RatN.more (K := (max (max K L + 1) 1)) ?_ xq⟩
   rw [aq, ar, br (by assumption), bt (by assumption), Nt.mk_one, Nt.mk_one, ← Rat.intCast_add]
   exact ((whole_rat (bJ.ext (b5.t cq.ext)) bR).ext bD)
  replace au : ad = false := au
  refine zzs (zzp ?_)
  refine zzd (sq9 (zza 26 (.adr 5 0) (zza 27 (.adr 5 2) (zzi 28 (.v (aa.d.v)) ty28 zzl (zza 29 (.adr 6 0) (zza 30 (.adr 6 2) (zzi 31 (.v (ac.d.v)) ty28 zzl (zzg 32 166 _ fun _ _ ay ck => Post.mono (k_natCompare ck (af.ext (ah.t (ak.t ay))) (aj.ext ay)) ?_))))))))
  rintro _ u38 aA rfl
  refine zza 33 (zB ((Nt.cmpS aL D17) == 0)) (zzb (zzu (b := (Nt.cmpS aL D17) == 0) xj (fun aW => ?_) (fun aW => ?_)))
  ·refine zzd (zzz [0, 1, 3, 0, 8, 24, 63, 0, 128, 384, 1023, 2047, 4095] [(0, []), (1, []), (2, []), (3, []), (4, []), (5, []), (7, []), (8, []), (9, []), (6, []), (10, []), (11, []), (12, [])] xj xj (zza 34 (.adr 5 0) (zza 35 (.adr 5 0) (zzi 36 (.v (.agg #[.bool aa.s, aa.m.v])) ty30 zze (zza 37 (.adr 6 0) (zza 38 (.adr 6 0) (zzi 39 (.v (.agg #[.bool ac.s, ac.m.v])) ty30 zze (zza 41 (.adr 5 0) (zza 42 (.adr 5 2) (zzi 43 (.v (aa.d.v)) ty28 zzl (zzg 40 165 _ fun _ _ bj bY => Post.mono (k_intAdd bY (ao.ext (ah.t (ak.t (ay.t (aA.t bj))))) (az.ext (ay.t (aA.t bj))) xq xq) ?_)))))))))))
   rintro _ u45 cd ⟨bw, rfl, bT⟩
   refine zza 44 (.v (.agg #[.bool bw.s, bw.m.v, aa.d.v])) (zzg 45 149 _ fun _ _ bB b0 => Post.mono (k_lowest b0 (bT.ext bB).raw (af.ext (ah.t (ak.t (ay.t (aA.t (bj.t (cd.t bB))))))) ae xq xq) ?_)
   rintro _ u51 g52 ⟨a1, rfl, bG⟩
   refine zzj ⟨32, a1.cs⟩ ty32 ?_
   refine zzc 73 [(4, .adr 4 0)] [(4, ⟨32, a1.cs⟩)] (zzo (zzw (ret0 [a1.v] ⟨zzr ty32 zze, trivial⟩ fun u54 ca => ?_)))
   refine ⟨a1, rfl, RatN.more (K := (max (max K L + 1) K)) ?_ xq⟩
   have hD : aL = D17 := Nt.cmp_natE aW
   rw [aq, ar, ← hD, ← Nt.add_same ae]
   exact (bG.ext ca)
  refine zzs (zzp ?_)
  refine zzd (zzz [0, 1, 3, 0, 8, 24, 56, 127, 0, 256, 768, 0, 2048, 6144, 14591, 32767, 65535, 0, 262143] [(0, []), (1, []), (2, []), (3, []), (4, []), (5, []), (8, []), (9, []), (10, []), (11, []), (12, []), (13, []), (17, []), (6, []), (7, []), (14, []), (15, []), (16, []), (18, [])] xj xj (zza 46 (.adr 5 0) (zza 47 (.adr 5 0) (zzi 48 (.v (.agg #[.bool aa.s, aa.m.v])) ty30 zze (zza 49 (.adr 6 0) (zza 50 (.adr 6 2) (zzi 51 (.v (ac.d.v)) ty28 zzl (zza 54 (.adr 6 0) (zza 55 (.adr 6 0) (zzi 56 (.v (.agg #[.bool ac.s, ac.m.v])) ty30 zze (zza 57 (.adr 5 0) ?_)))))))))))
  refine zza 58 (.adr 5 2) (zzi 59 (.v (aa.d.v)) ty28 zzl (zzk 7 ⟨30, [.bool false, .slice none 0 0]⟩ (zzg 52 152 _ fun _ _ aP bK => Post.mono (k_natural (x := ac.d) bK) ?_)))
  rintro _ u57 aM rfl
  refine zzg 53 143 _ fun _ _ aO bV => Post.mono (k_intMul bV (ao.ext (ah.t (ak.t (ay.t (aA.t (aP.t (aM.t aO))))))) (nat_int (aj.ext (ay.t (aA.t (aP.t (aM.t aO)))))) xq xq) ?_
  rintro _ u63 aZ ⟨i61, rfl, b1⟩
  refine zzg 60 152 _ fun _ _ aS bL => Post.mono (k_natural (x := aa.d) bL) ?_
  rintro _ u67 aU rfl
  refine zzg 61 143 _ fun _ _ aY bQ => Post.mono (k_intMul bQ (az.ext (ay.t (aA.t (aP.t (aM.t (aO.t (aZ.t (aS.t (aU.t aY))))))))) (nat_int (af.ext (ah.t (ak.t (ay.t (aA.t (aP.t (aM.t (aO.t (aZ.t (aS.t (aU.t aY)))))))))))) xq xq) ?_
  rintro _ u73 bk ⟨i71, rfl, bM⟩
  refine zzg 62 165 _ fun _ _ a2 cg => Post.mono (k_intAdd cg (b1.ext (aS.t (aU.t (aY.t (bk.t a2))))).raw (bM.ext a2).raw xq xq) ?_
  rintro _ u79 bv ⟨aQ, rfl, bN⟩
  refine zzj ⟨30, aQ.cs⟩ ty30 ?_
  refine zzc 73 [(4, .adr 4 0), (5, .adr 5 0), (6, .adr 6 0), (7, .adr 7 0)] [(4, ⟨32, zw3⟩), (5, ⟨197, aa.cs ++ [.bool ag]⟩), (6, ⟨197, ac.cs ++ [.bool ad]⟩), (7, ⟨30, aQ.cs⟩)] (zzd (zzz [0, 0, 2, 6, 0, 16, 48, 126, 255, 511, 1023] [(0, []), (1, []), (2, []), (3, []), (4, []), (5, []), (6, []), (7, []), (8, []), (9, []), (10, [])] xj xj (zzi 63 (.v (aQ.v)) ty30 zze (zza 64 (.adr 5 0) (zza 65 (.adr 5 2) (zzi 66 (.v (aa.d.v)) ty28 zzl (zza 67 (.adr 6 0) (zza 68 (.adr 6 2) (zzi 69 (.v (ac.d.v)) ty28 zzl (zzg 70 167 _ fun _ _ bd ch => Post.mono (k_natMul ch (af.ext (ah.t (ak.t (ay.t (aA.t (aP.t (aM.t (aO.t (aZ.t (aS.t (aU.t (aY.t (bk.t (a2.t (bv.t bd))))))))))))))) (aj.ext (ay.t (aA.t (aP.t (aM.t (aO.t (aZ.t (aS.t (aU.t (aY.t (bk.t (a2.t (bv.t bd))))))))))))) xq xq) ?_))))))))))
  rintro _ u85 b2 ⟨cl, rfl, bX⟩
  refine zza 71 (.v (.agg #[.bool aQ.s, aQ.m.v, cl.v])) (zzg 72 149 _ fun _ _ bx bC => Post.mono (k_lowest bC (bN.ext (bd.t (b2.t bx))).raw (bX.ext bx).raw (Nat.mul_pos ae aF) xq xq) ?_)
  rintro _ u91 g92 ⟨bu, rfl, cr⟩
  refine zzj ⟨32, bu.cs⟩ ty32 ?_
  refine zzb (zzo (ret0 [bu.v] ⟨zzr ty32 zze, trivial⟩ fun u94 cp => ?_))
  refine ⟨bu, rfl, RatN.more (K := (max (max (K + L) (L + K) + 1) (K + L))) ?_ xq⟩
  rw [aq, ar, ← Nt.add_mk ae aF]
  exact (cr.ext cp)
 refine zyq 14 (x := zB ag) (zB false) (by rw [hs21]) (zzn 15 (uw 2 true false 14) (zzn 16 (uw 2 true false 14) (zza 17 (zB false) (zzb (zys xj (zzs (zzp ?_)))))))
 refine zzd (sq9 (zza 26 (.adr 5 0) (zza 27 (.adr 5 2) (zzi 28 (.v (aa.d.v)) ty28 zzl (zza 29 (.adr 6 0) (zza 30 (.adr 6 2) (zzi 31 (.v (ac.d.v)) ty28 zzl (zzg 32 166 _ fun _ _ ap bO => Post.mono (k_natCompare bO (af.ext (ah.t (ak.t ap))) (aj.ext ap)) ?_))))))))
 rintro _ u97 aE rfl
 refine zza 33 (zB ((Nt.cmpS aL D17) == 0)) (zzb (zzu (b := (Nt.cmpS aL D17) == 0) xj (fun aG => ?_) (fun aG => ?_)))
 ·refine zzd (zzz [0, 1, 3, 0, 8, 24, 63, 0, 128, 384, 1023, 2047, 4095] [(0, []), (1, []), (2, []), (3, []), (4, []), (5, []), (7, []), (8, []), (9, []), (6, []), (10, []), (11, []), (12, [])] xj xj (zza 34 (.adr 5 0) (zza 35 (.adr 5 0) (zzi 36 (.v (.agg #[.bool aa.s, aa.m.v])) ty30 zze (zza 37 (.adr 6 0) (zza 38 (.adr 6 0) (zzi 39 (.v (.agg #[.bool ac.s, ac.m.v])) ty30 zze (zza 41 (.adr 5 0) (zza 42 (.adr 5 2) (zzi 43 (.v (aa.d.v)) ty28 zzl (zzg 40 165 _ fun _ _ aK bg => Post.mono (k_intAdd bg (ao.ext (ah.t (ak.t (ap.t (aE.t aK))))) (az.ext (ap.t (aE.t aK))) xq xq) ?_)))))))))))
  rintro _ bI ba ⟨aV, rfl, bo⟩
  refine zza 44 (.v (.agg #[.bool aV.s, aV.m.v, aa.d.v])) (zzg 45 149 _ fun _ _ aR bs => Post.mono (k_lowest bs (bo.ext aR).raw (af.ext (ah.t (ak.t (ap.t (aE.t (aK.t (ba.t aR))))))) ae xq xq) ?_)
  rintro _ b4 cj ⟨aD, rfl, bm⟩
  refine zzj ⟨32, aD.cs⟩ ty32 ?_
  refine zzc 73 [(4, .adr 4 0)] [(4, ⟨32, aD.cs⟩)] (zzo (zzw (ret0 [aD.v] ⟨zzr ty32 zze, trivial⟩ fun bH a8 => ?_)))
  refine ⟨aD, rfl, RatN.more (K := (max (max K L + 1) K)) ?_ xq⟩
  have hD : aL = D17 := Nt.cmp_natE aG
  rw [aq, ar, ← hD, ← Nt.add_same ae]
  exact (bm.ext a8)
 refine zzs (zzp ?_)
 refine zzd (zzz [0, 1, 3, 0, 8, 24, 56, 127, 0, 256, 768, 0, 2048, 6144, 14591, 32767, 65535, 0, 262143] [(0, []), (1, []), (2, []), (3, []), (4, []), (5, []), (8, []), (9, []), (10, []), (11, []), (12, []), (13, []), (17, []), (6, []), (7, []), (14, []), (15, []), (16, []), (18, [])] xj xj (zza 46 (.adr 5 0) (zza 47 (.adr 5 0) (zzi 48 (.v (.agg #[.bool aa.s, aa.m.v])) ty30 zze (zza 49 (.adr 6 0) (zza 50 (.adr 6 2) (zzi 51 (.v (ac.d.v)) ty28 zzl (zza 54 (.adr 6 0) (zza 55 (.adr 6 0) (zzi 56 (.v (.agg #[.bool ac.s, ac.m.v])) ty30 zze (zza 57 (.adr 5 0) ?_)))))))))))
 refine zza 58 (.adr 5 2) (zzi 59 (.v (aa.d.v)) ty28 zzl (zzk 7 ⟨30, [.bool false, .slice none 0 0]⟩ (zzg 52 152 _ fun _ _ ai bb => Post.mono (k_natural (x := ac.d) bb) ?_)))
 rintro _ bU al rfl
 refine zzg 53 143 _ fun _ _ am a4 => Post.mono (k_intMul a4 (ao.ext (ah.t (ak.t (ap.t (aE.t (ai.t (al.t am))))))) (nat_int (aj.ext (ap.t (aE.t (ai.t (al.t am)))))) xq xq) ?_
 rintro _ cm aC ⟨ce, rfl, be⟩
 refine zzg 60 152 _ fun _ _ aw a5 => Post.mono (k_natural (x := aa.d) a5) ?_
 rintro _ bP an rfl
 refine zzg 61 143 _ fun _ _ av a9 => Post.mono (k_intMul a9 (az.ext (ap.t (aE.t (ai.t (al.t (am.t (aC.t (aw.t (an.t av))))))))) (nat_int (af.ext (ah.t (ak.t (ap.t (aE.t (ai.t (al.t (am.t (aC.t (aw.t (an.t av)))))))))))) xq xq) ?_
 rintro _ b9 aJ ⟨b7, rfl, bp⟩
 refine zzg 62 165 _ fun _ _ aB bi => Post.mono (k_intAdd bi (be.ext (aw.t (an.t (av.t (aJ.t aB))))).raw (bp.ext aB).raw xq xq) ?_
 rintro _ bE aX ⟨ax, rfl, bl⟩
 refine zzj ⟨30, ax.cs⟩ ty30 ?_
 refine zzc 73 [(4, .adr 4 0), (5, .adr 5 0), (6, .adr 6 0), (7, .adr 7 0)] [(4, ⟨32, zw3⟩), (5, ⟨197, aa.cs ++ [.bool ag]⟩), (6, ⟨197, ac.cs ++ [.bool ad]⟩), (7, ⟨30, ax.cs⟩)] (zzd (zzz [0, 0, 2, 6, 0, 16, 48, 126, 255, 511, 1023] [(0, []), (1, []), (2, []), (3, []), (4, []), (5, []), (6, []), (7, []), (8, []), (9, []), (10, [])] xj xj (zzi 63 (.v (ax.v)) ty30 zze (zza 64 (.adr 5 0) (zza 65 (.adr 5 2) (zzi 66 (.v (aa.d.v)) ty28 zzl (zza 67 (.adr 6 0) (zza 68 (.adr 6 2) (zzi 69 (.v (ac.d.v)) ty28 zzl (zzg 70 167 _ fun _ _ aI a6 => Post.mono (k_natMul a6 (af.ext (ah.t (ak.t (ap.t (aE.t (ai.t (al.t (am.t (aC.t (aw.t (an.t (av.t (aJ.t (aB.t (aX.t aI))))))))))))))) (aj.ext (ap.t (aE.t (ai.t (al.t (am.t (aC.t (aw.t (an.t (av.t (aJ.t (aB.t (aX.t aI))))))))))))) xq xq) ?_))))))))))
 rintro _ cb bn ⟨a3, rfl, a7⟩
 refine zza 71 (.v (.agg #[.bool ax.s, ax.m.v, a3.v])) (zzg 72 149 _ fun _ _ aT bh => Post.mono (k_lowest bh (bl.ext (aI.t (bn.t aT))).raw (a7.ext aT).raw (Nat.mul_pos ae aF) xq xq) ?_)
 rintro _ bS cc ⟨aH, rfl, bf⟩
 refine zzj ⟨32, aH.cs⟩ ty32 ?_
 refine zzb (zzo (ret0 [aH.v] ⟨zzr ty32 zze, trivial⟩ fun bW bq => ?_))
 refine ⟨aH, rfl, RatN.more (K := (max (max (K + L) (L + K) + 1) (K + L))) ?_ xq⟩
 rw [aq, ar, ← Nt.add_mk ae aF]
 exact (bf.ext bq)
theorem k_ratSub {u w : World} {r1 : RL} {x : Rat} {K : Nat} {r2 : RL} {y : Rat} {L : Nat} (d : Dat u w) (hr1 : RatV u r1 x K) (hr2 : RatV u r2 y L) (hK : K ≤ 200000000) (hL : L ≤ 200000000) : Calls Tryz.prog 139 #[r1.v, r2.v] w (Post u w fun v u' => ∃ r : RL, v = r.v ∧ RatN u' r (x - y) (K + L + 1)) := by
 refine zzm (args := [r1.v, r2.v]) Tryz.func139 rfl Tryz.ntmps139 (rs := [.cell 4 32]) Tryz.results139 (le_b rfl) (le_b rfl) d ?_
 refine sq9 (zzk 2 ⟨32, r1.cs⟩ (zzk 3 ⟨32, r2.cs⟩ (zzk 4 ⟨32, zw3⟩ (zzb (zzd (zzz [0, 0, 2, 7, 15] [(0, []), (1, []), (2, []), (3, []), (4, [])] xj xj (zzi 5 (.v (r1.v)) ty32 zze (zzi 6 (.v (r2.v)) ty32 zze (zzg 7 153 _ fun _ _ ad af => Post.mono (k_flip (r := r2) af) ?_)))))))))
 rintro _ u12 ac rfl
 refine zzg 8 112 _ fun _ _ ae ah => Post.mono (k_ratAdd ah (hr1.ext (ad.t (ac.t ae))) ((flip_rat (hr2.ext (ad.t ac.ext))).ext ae) xq xq) ?_
 rintro _ u18 g19 ⟨aa, rfl, ai⟩
 refine zzj ⟨32, aa.cs⟩ ty32 ?_
 refine zzb (zzo (ret0 [aa.v] ⟨zzr ty32 zze, trivial⟩ fun u21 ag => ?_))
 refine ⟨aa, rfl, RatN.more (K := (K + L + 1)) ?_ xq⟩
 rw [Rat.sub_eq_add_neg]
 exact (ai.ext ag)
set_option maxHeartbeats 1000000 in
theorem k_ratMul {u w : World} {r1 : RL} {x : Rat} {K : Nat} {r2 : RL} {y : Rat} {L : Nat} (d : Dat u w) (hr1 : RatV u r1 x K) (hr2 : RatV u r2 y L) (hK : K ≤ 200000000) (hL : L ≤ 200000000) : Calls Tryz.prog 113 #[r1.v, r2.v] w (Post u w fun v u' => ∃ r : RL, v = r.v ∧ RatN u' r (x * y) (K + L)) := by
 refine zzm (args := [r1.v, r2.v]) Tryz.func113 rfl Tryz.ntmps113 (rs := [.cell 4 32]) Tryz.results113 (le_b rfl) (le_b rfl) d ?_
 refine sq9 (zzk 2 ⟨32, r1.cs⟩ (zzk 3 ⟨32, r2.cs⟩ (zzk 4 ⟨32, zw3⟩ (zzb (zzd (zzz [0, 1, 0, 7, 0, 0, 63, 127] [(0, []), (2, []), (4, []), (5, []), (1, []), (3, []), (6, []), (7, [])] xj xj (zzi 8 (.v (r1.v)) ty32 zze (zzi 10 (.v (r2.v)) ty32 zze (zzk 5 ⟨197, [.bool false, .slice none 0 0, .slice none 0 0, .bool false]⟩ (zzk 6 ⟨197, [.bool false, .slice none 0 0, .slice none 0 0, .bool false]⟩ (zzg 9 148 _ fun _ _ aD aX => Post.mono (k_read aX (hr1.ext aD)) ?_)))))))))))
 rintro _ u13 aO ⟨ak, ae, rfl, z12, D12, az, al, ai, af, ay, aI⟩
 refine zzg 11 148 _ fun _ _ ao aU => Post.mono (k_read aU (hr2.ext (aD.t (aO.t ao)))) ?_
 rintro _ u18 au ⟨an, ac, rfl, z17, D17, aA, aj, am, ag, aB, aN⟩
 refine zzj ⟨197, ak.cs ++ [.bool ae]⟩ ty197 ?_
 refine zzj ⟨197, an.cs ++ [.bool ac]⟩ ty197 ?_
 refine zzb (sq9 (zza 12 (.adr 5 0) (zza 13 (.adr 5 0) (zzi 14 (.v (.agg #[.bool ak.s, ak.m.v])) ty30 zze (zza 15 (.adr 6 0) (zza 16 (.adr 6 0) (zzi 17 (.v (.agg #[.bool an.s, an.m.v])) ty30 zze (zzg 18 143 _ fun _ _ ah aG => Post.mono (k_intMul aG (az.ext (ao.t (au.t ah))) (aA.ext ah) xq xq) ?_))))))))
 rintro _ u24 aq ⟨aa, rfl, aC⟩
 refine zzk 7 ⟨30, [.bool false, .slice none 0 0]⟩ (zzj ⟨30, aa.cs⟩ ty30 ?_)
 refine zzb (zzd (sq9 (zza 19 (.adr 5 3) (zzi 20 (zB ae) ty4 zzl ?_))))
 rcases Bool.eq_false_or_eq_true ae with hs27 | hs27
 ·refine zyq 21 (x := zB ae) (zB true) (by rw [hs27]) (zza 22 (.adr 6 3) ?_ (hw := w1 2 true 21))
  refine zzi 23 (zB ac) ty4 zzl ?_ (hw := w1 2 true 21)
  refine zza 24 (zB ac) (zzb (zzu (b := ac) xj (fun ad => ?_) (fun ad => ?_)))
  ·replace ad : ac = true := ad
   refine sq9 (zzi 25 (.v (aa.v)) ty30 zze (zzg 26 164 _ fun _ _ aQ a5 => Post.mono (k_whole (i := aa) a5) ?_))
   rintro _ u32 a3 ⟨av, rfl, aR⟩
   refine zzj ⟨32, aa.cs ++ [av.v]⟩ ty32 ?_
   refine zzb (zzo (zzw (ret0 [.agg #[.bool aa.s, aa.m.v, av.v]] ⟨zzr ty32 zze, trivial⟩ fun u35 aK => ?_)))
   refine ⟨(⟨aa.s, aa.m, av⟩ : RL), rfl, RatN.more (K := (max (K + L) 1)) ?_ xq⟩
   rw [af, ag, ay (by assumption), aB (by assumption), Nt.mk_one, Nt.mk_one, ← Rat.intCast_mul]
   exact ((whole_rat (aC.ext (aQ.t a3.ext)) aR).ext aK)
  replace ad : ac = false := ad
  refine zzs (zzp ?_)
  refine zzd (zzz [0, 0, 2, 6, 0, 16, 48, 126, 255, 511, 1023] [(0, []), (1, []), (2, []), (3, []), (4, []), (5, []), (6, []), (7, []), (8, []), (9, []), (10, [])] xj xj (zzi 27 (.v (aa.v)) ty30 zze (zza 28 (.adr 5 0) (zza 29 (.adr 5 2) (zzi 30 (.v (ak.d.v)) ty28 zzl (zza 31 (.adr 6 0) (zza 32 (.adr 6 2) (zzi 33 (.v (an.d.v)) ty28 zzl (zzg 34 167 _ fun _ _ ax aS => Post.mono (k_natMul aS (al.ext (ao.t (au.t (ah.t (aq.t ax))))) (aj.ext (ah.t (aq.t ax))) xq xq) ?_)))))))))
  rintro _ u40 aZ ⟨aY, rfl, aL⟩
  refine zza 35 (.v (.agg #[.bool aa.s, aa.m.v, aY.v])) (zzg 36 149 _ fun _ _ aE a2 => Post.mono (k_lowest a2 (aC.ext (ax.t (aZ.t aE))).raw (aL.ext aE).raw (Nat.mul_pos ai am) xq xq) ?_)
  rintro _ u46 g47 ⟨ap, rfl, a4⟩
  refine zzj ⟨32, ap.cs⟩ ty32 ?_
  refine zzc 37 [(4, .adr 4 0)] [(4, ⟨32, ap.cs⟩)] (zzo (ret0 [ap.v] ⟨zzr ty32 zze, trivial⟩ fun u49 aT => ?_))
  refine ⟨ap, rfl, RatN.more (K := (max (K + L) (K + L))) ?_ xq⟩
  rw [af, ag, ← Nt.mul_mk]
  exact (a4.ext aT)
 refine zyq 21 (x := zB ae) (zB false) (by rw [hs27]) (zzn 22 (uw 2 true false 21) (zzn 23 (uw 2 true false 21) (zza 24 (zB false) (zzb (zys xj (zzs (zzp ?_)))))))
 refine zzd (zzz [0, 0, 2, 6, 0, 16, 48, 126, 255, 511, 1023] [(0, []), (1, []), (2, []), (3, []), (4, []), (5, []), (6, []), (7, []), (8, []), (9, []), (10, [])] xj xj (zzi 27 (.v (aa.v)) ty30 zze (zza 28 (.adr 5 0) (zza 29 (.adr 5 2) (zzi 30 (.v (ak.d.v)) ty28 zzl (zza 31 (.adr 6 0) (zza 32 (.adr 6 2) (zzi 33 (.v (an.d.v)) ty28 zzl (zzg 34 167 _ fun _ _ aw aM => Post.mono (k_natMul aM (al.ext (ao.t (au.t (ah.t (aq.t aw))))) (aj.ext (ah.t (aq.t aw))) xq xq) ?_)))))))))
 rintro _ u54 aP ⟨aJ, rfl, a1⟩
 refine zza 35 (.v (.agg #[.bool aa.s, aa.m.v, aJ.v])) (zzg 36 149 _ fun _ _ aF aV => Post.mono (k_lowest aV (aC.ext (aw.t (aP.t aF))).raw (a1.ext aF).raw (Nat.mul_pos ai am) xq xq) ?_)
 rintro _ u60 g61 ⟨ar, rfl, aH⟩
 refine zzj ⟨32, ar.cs⟩ ty32 ?_
 refine zzc 37 [(4, .adr 4 0)] [(4, ⟨32, ar.cs⟩)] (zzo (ret0 [ar.v] ⟨zzr ty32 zze, trivial⟩ fun u63 aW => ?_))
 refine ⟨ar, rfl, RatN.more (K := (max (K + L) (K + L))) ?_ xq⟩
 rw [af, ag, ← Nt.mul_mk]
 exact (aH.ext aW)
def DivR (x y : Rat) (K : Nat) (v : Value) (u : World) : Prop := (v = .tuple #[.agg #[.bool false, .slice none 0 0, .slice none 0 0], .int .i64 3] ∧ y = 0) ∨ (y ≠ 0 ∧ ∃ r : RL, v = .tuple #[r.v, .int .i64 0] ∧ RatN u r (x / y) K)
set_option maxHeartbeats 1000000 in
theorem k_ratDiv {u w : World} {r1 : RL} {x : Rat} {K : Nat} {r2 : RL} {y : Rat} {L : Nat} (d : Dat u w) (hr1 : RatV u r1 x K) (hr2 : RatV u r2 y L) (hK : K ≤ 200000000) (hL : L ≤ 200000000) : Calls Tryz.prog 138 #[r1.v, r2.v] w (Post u w fun v u' => DivR x y (K + L) v u') := by
 refine zzm (args := [r1.v, r2.v]) Tryz.func138 rfl Tryz.ntmps138 (rs := [.cell 4 32, .tmp 5]) Tryz.results138 (le_b rfl) (le_b rfl) d ?_
 refine sq9 (zzk 2 ⟨32, r1.cs⟩ (zzk 3 ⟨32, r2.cs⟩ (zzk 4 ⟨32, zw3⟩ (zza 5 (zI 0) (zzb (zzd (zzz [0, 1, 0, 7, 0, 0, 63, 127] [(0, []), (2, []), (4, []), (5, []), (1, []), (3, []), (6, []), (7, [])] xj xj (zzi 10 (.v (r1.v)) ty32 zze (zzi 12 (.v (r2.v)) ty32 zze (zzk 6 ⟨197, [.bool false, .slice none 0 0, .slice none 0 0, .bool false]⟩ (zzk 7 ⟨197, [.bool false, .slice none 0 0, .slice none 0 0, .bool false]⟩ ?_)))))))))))
 refine zzg 11 148 _ fun _ _ aK aW => Post.mono (k_read aW (hr1.ext aK)) ?_
 rintro _ u13 aS ⟨ae, aD, rfl, z12, aO, aC, ay, aw, av, aX, aP⟩
 refine zzg 13 148 _ fun _ _ ap aV => Post.mono (k_read aV (hr2.ext (aK.t (aS.t ap)))) ?_
 rintro _ u18 aH ⟨ac, au, rfl, al, D17, af, ax, az, ad, aZ, aR⟩
 refine zzj ⟨197, ae.cs ++ [.bool aD]⟩ ty197 ?_
 refine zzj ⟨197, ac.cs ++ [.bool au]⟩ ty197 ?_
 refine zzb (zzd (sq9 (zza 14 (.adr 7 0) (zza 15 (.adr 7 0) (zzi 16 (.v (.agg #[.bool ac.s, ac.m.v])) ty30 zze (zzg 17 147 _ fun _ _ ag a3 => Post.mono (k_intSign a3 (af.ext ag)) ?_))))))
 rintro _ u22 ak rfl
 refine zza 18 (zB ((Nt.cmpS al 0) == 0)) (zzb (zzu (b := (Nt.cmpS al 0) == 0) xj (fun aa => ?_) (fun aa => ?_)))
 ·refine sq9 (zza 19 (.v (.agg #[.bool false, .slice none 0 0, .slice none 0 0])) (zzj ⟨32, zw3⟩ ty32 ?_))
  refine zza 5 (zI 3) (zzb (zzo (zzw (ret0 [.agg #[.bool false, .slice none 0 0, .slice none 0 0], .int .i64 3] ⟨zzr ty32 zze, zzq, trivial⟩ fun u26 e27 => ?_))))
  left
  exact ⟨rfl, by rw [ad, Nt.cmp_eq0 aa, Rat.zero_mkRat]⟩
 have ar : al ≠ 0 := Nt.cmp_ne0 aa
 have hpp : 0 < ((aO : Int) * al : Int).natAbs := Int.natAbs_pos.2 (Int.mul_ne_zero xq ar)
 refine zzs (zzp ?_)
 refine zzd (zzz [0, 1, 3, 0, 8, 24, 56, 127, 0, 511] [(0, []), (1, []), (2, []), (3, []), (4, []), (5, []), (8, []), (6, []), (7, []), (9, [])] xj xj (zza 20 (.adr 6 0) (zza 21 (.adr 6 0) (zzi 22 (.v (.agg #[.bool ae.s, ae.m.v])) ty30 zze (zza 23 (.adr 7 0) (zza 24 (.adr 7 2) (zzi 25 (.v (ac.d.v)) ty28 zzl (zzk 8 ⟨30, [.bool false, .slice none 0 0]⟩ (zzg 26 152 _ fun _ _ an aY => Post.mono (k_natural (x := ac.d) aY) ?_)))))))))
 rintro _ u29 aj rfl
 refine zzg 27 143 _ fun _ _ ai aM => Post.mono (k_intMul aM (aC.ext (ap.t (aH.t (ag.t (ak.t (an.t (aj.t ai))))))) (nat_int (ax.ext (ag.t (ak.t (an.t (aj.t ai)))))) xq xq) ?_
 rintro _ u35 aG ⟨ah, rfl, aU⟩
 refine zzj ⟨30, ah.cs⟩ ty30 ?_
 refine zzb (zzd (zzz [0, 1, 3, 7, 0, 16, 48, 127, 0, 511] [(0, []), (1, []), (2, []), (4, []), (5, []), (6, []), (8, []), (3, []), (7, []), (9, [])] xj xj (zza 28 (.adr 6 0) (zza 29 (.adr 6 2) (zzi 30 (.v (ae.d.v)) ty28 zzl (zza 32 (.adr 7 0) (zza 33 (.adr 7 0) (zzi 34 (.v (.agg #[.bool ac.s, ac.m.v])) ty30 zze (zzk 9 ⟨30, [.bool false, .slice none 0 0]⟩ (zzg 31 152 _ fun _ _ ao aN => Post.mono (k_natural (x := ae.d) aN) ?_))))))))))
 rintro _ u39 aB rfl
 refine zzg 35 143 _ fun _ _ aA a2 => Post.mono (k_intMul a2 (nat_int (ay.ext (ap.t (aH.t (ag.t (ak.t (an.t (aj.t (ai.t (aG.t (ao.t (aB.t aA)))))))))))) (af.ext (ag.t (ak.t (an.t (aj.t (ai.t (aG.t (ao.t (aB.t aA))))))))) xq xq) ?_
 rintro _ u45 a1 ⟨am, rfl, aI⟩
 refine zzj ⟨30, am.cs⟩ ty30 ?_
 refine zzc 40 [(4, .adr 4 0), (8, .adr 8 0), (9, .adr 9 0)] [(4, ⟨32, zw3⟩), (8, ⟨30, ah.cs⟩), (9, ⟨30, am.cs⟩)] (sq9 (zzi 36 (.v (ah.v)) ty30 zze (zzi 37 (.v (am.v)) ty30 zze (zzg 38 168 _ fun _ _ aF a4 => Post.mono (k_quotient (i := ah) (j := am) a4) ?_))))
 rintro _ u49 aE rfl
 refine zzg 39 149 _ fun _ _ aJ aT => Post.mono (k_lowest aT ((quot_int (aU.ext (ao.t (aB.t (aA.t (a1.t (aF.t aE.ext)))))) (aI.ext (aF.t aE.ext))).ext aJ) ((int_mag (aI.ext (aF.t aE.ext))).ext aJ).raw hpp xq xq) ?_
 rintro _ u55 g56 ⟨aq, rfl, aL⟩
 refine zzj ⟨32, aq.cs⟩ ty32 ?_
 refine zza 5 (zI 0) (zzb (zzo (ret0 [aq.v, .int .i64 0] ⟨zzr ty32 zze, zzq, trivial⟩ fun u58 aQ => ?_)))
 right
 refine ⟨?_, aq, rfl, RatN.more (K := (max (K + L) (K + L))) ?_ xq⟩
 ·rw [ad]; exact (Rat.mkRat_ne_zero xq).2 ar
 rw [av, ad, ← Nt.quo_mk aw az ar, ← Nt.div_mk2 xq]
 exact (aL.ext aQ)
theorem k_ratDiv1 {u w : World} {r1 r2 : RL} {x y : Rat} {K L : Nat} (d : Dat u w) (hr1 : RatV u r1 x K) (hr2 : RatV u r2 y L) (hy : y ≠ 0) (hK : K ≤ 200000000) (hL : L ≤ 200000000) : Calls Tryz.prog 138 #[r1.v, r2.v] w (Post u w fun v u' => ∃ r : RL, v = .tuple #[r.v, .int .i64 0] ∧ RatN u' r (x / y) (K + L)) :=
 Post.mono (k_ratDiv d hr1 hr2 hK hL) fun v u' _ h => h.elim (fun h => absurd h.2 hy) (fun h => h.2)
theorem mod_pos (m : Int) (hm : 1 ≤ m) (n : Int) (h : decide (Int.tmod n m < 0) = false) : Int.tmod n m = n % m := by
 have h := of_decide_eq_false h
 rcases Int.lt_or_le n 0 with hn | hn
 ·have e := Int.tmod_add_mul_tdiv n m
  have h2 : -m < Int.tmod n m := Int.lt_tmod_of_pos n xq
  have h3 : Int.tmod n m ≤ 0 := by
   have h8 := Int.neg_tmod n m
   have h9 : Int.tmod (-n) m = (-n) % m := Int.tmod_eq_emod_of_nonneg xq
   have h10 := Int.emod_nonneg (-n) (show m ≠ 0 by omega)
   omega
  have h4 : Int.tmod n m = 0 := by omega
  rw [h4] at e ⊢
  have : m ∣ n := ⟨n.tdiv m, by omega⟩
  exact (Int.emod_eq_zero_of_dvd this).symm
 exact Int.tmod_eq_emod_of_nonneg hn
theorem mod_neg (m : Int) (hm : 1 ≤ m) (n : Int) (h : decide (Int.tmod n m < 0) = true) : Int.tmod n m + m = n % m := by
 have h := of_decide_eq_true h
 have e := Int.tmod_add_mul_tdiv n m
 have h2 : -m < Int.tmod n m := Int.lt_tmod_of_pos n xq
 have h5 : n = m * (n.tdiv m - 1) + (Int.tmod n m + m) := by rw [Int.mul_sub, Int.mul_one]; omega
 have := (Nt.ediv_uniq (z := n) (y := m) (q := n.tdiv m - 1) (r := Int.tmod n m + m) xq h5 xq xq).2
 exact this.symm
theorem k_Mod {u w : World} {n m : Int} (d : Dat u w) (hm : 1 ≤ m) (hm2 : m ≤ 4611686018427387904) (hn0 : -9223372036854775808 ≤ n) (hn1 : n ≤ 9223372036854775807) : Calls Tryz.prog 12 #[.int .i64 n, .int .i64 m] w (Post u w fun v _ => v = .int .i64 (n % m)) := by
 refine zzm (args := [.int .i64 n, .int .i64 m]) Tryz.func12 rfl Tryz.ntmps12 (rs := [.tmp 4]) Tryz.results12 (le_b rfl) (le_b rfl) d ?_
 refine sq9 (zza 4 (zI 0) (zzb (zzd (sq9 (zza 5 (zI m) (zyq 6 (x := zB (decide (m < 1))) (zB false) (by rw [show (decide (m < 1)) = false from yz]) (zzb (zys xj (zzs (zzp ?_))))))))))
 refine sq9 (zza 7 (zI n) (zza 8 (zI m) (sy_rem 9 (Int.tmod n m) xq rfl ?_)))
 refine zza 0 (zI (Int.tmod n m)) (zzb (zzd (sq9 (zza 10 (zI (Int.tmod n m)) (zza 11 (zB (decide ((Int.tmod n m) < 0))) (zzb (zzu (b := decide ((Int.tmod n m) < 0)) xj (fun aa => ?_) (fun aa => ?_))))))))
 ·have qhb11 := of_decide_eq_true aa
  refine zzf (zza 12 (zI (Int.tmod n m)) (zza 13 (zI m) (zyq 14 (x := zI (IntKind.i64.wrap (Int.tmod n m + m))) (zI (Int.tmod n m + m)) (by rw [show (IntKind.i64.wrap (Int.tmod n m + m)) = (Int.tmod n m + m) from (IntWalk.i64_in _ (by have h2 := Int.lt_tmod_of_pos n (show 0 < m by omega); have h3 := Int.tmod_lt_of_pos n (show 0 < m by omega); omega))]) (zza 0 (zI (Int.tmod n m + m)) (zzb (sq9 (zza 15 (zI (Int.tmod n m + m)) (zza 4 (zI (Int.tmod n m + m)) (zzb (zzo (ret0 [.int .i64 (Int.tmod n m + m)] ⟨zzq, trivial⟩ fun u12 e13 => ?_)))))))))))
  show Value.int _ _ = Value.int _ _
  rw [mod_neg m hm n aa]
 have qhb11 := of_decide_eq_false aa
 refine zzs (zzp ?_)
 refine sq9 (zza 15 (zI (Int.tmod n m)) (zza 4 (zI (Int.tmod n m)) (zzb (zzo (ret0 [.int .i64 (Int.tmod n m)] ⟨zzq, trivial⟩ fun u14 e15 => ?_)))))
 show Value.int _ _ = Value.int _ _
 rw [mod_pos m hm n aa]
end Go.Proofs.YtgmkhhfbckjaeaaGreat
