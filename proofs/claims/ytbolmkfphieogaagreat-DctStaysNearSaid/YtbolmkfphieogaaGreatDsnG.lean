/- Shears with rounding stay near the exact product: the bounds, the law. Spread, walked. Printed by wip/sym/g_dh.py. A range over slices.Backward. Printed by wip/sym/g_de.py. DctReverses. Printed by wip/sym/g_df.py. DctStaysNear. Printed by wip/sym/g_di.py. -/
import Derived.Test.YtbolmkfphieogaaGreatDsnF
import Derived.RangeFuncFrom
import Derived.RangeFuncLeaves
import Derived.RangeFuncCalls
import Derived.WalkKit
import Derived.OwnWalkIn
import Derived.TacticsInMore
import Derived.LoopNIn
import Derived.LoopIn
import Derived.RangeFuncNested
namespace Go.Proofs.YtbolmkfphieogaaGreat
open Go.RowKit
set_option linter.unusedVariables false
namespace Nt
def spG (cf sh : Int) (x : Rat) : Rat := absQ (wq cf sh) * x + (if cf.tmod (p2i sh) = 0 then 0 else 1 / 2)
def spF (s : List Int) (b : List Rat) : List Rat :=
 if s.getD 3 0 = -1 then swL b (s.getD 0 0).toNat (s.getD 1 0).toNat 0
 else if s.getD 3 0 = -2 then b
 else b.set (s.getD 0 0).toNat (b.getD (s.getD 0 0).toNat 0 + spG (s.getD 2 0) (s.getD 3 0) (b.getD (s.getD 1 0).toNat 0))
def spL (n : Nat) (S : List (List Int)) : List Rat := S.foldl (fun b s => spF s b) (List.replicate n 0)
def mxL (l : List Rat) : Rat := l.foldl (fun m x => if m < x then x else m) 0
section
variable {M : List (List Rat)} {b l : List Rat} {s : List Int} {S : List (List Int)} {n t f i j D A : Nat} {cf sh v : Int} {q x y : Rat}
theorem spF_x (h : sh = -1) : spF [(t : Int), (f : Int), cf, sh] b = swL b t f 0 := by subst h; rfl
theorem spF_n (h : sh = -2) : spF [(t : Int), (f : Int), cf, sh] b = b := by subst h; rfl
theorem spF_s (h1 : ¬ sh = -1) (h2 : ¬ sh = -2) : spF [(t : Int), (f : Int), cf, sh] b = b.set t (b.getD t 0 + spG cf sh (b.getD f 0)) := by
 unfold spF
 rw [if_neg (show ¬ [(t : Int), (f : Int), cf, sh].getD 3 0 = -1 from h1), if_neg (show ¬ [(t : Int), (f : Int), cf, sh].getD 3 0 = -2 from h2)]
 rfl
theorem spF_len : (spF s b).length = b.length := by
 unfold spF; split
 ·exact swL_len
 ·split
  ·rfl
  ·rw [List.length_set]
theorem spL_nil : spL n [] = List.replicate n 0 := rfl
theorem spL_snoc (i : Nat) (hi : i < S.length) : spL n (S.take (i + 1)) = spF (S.getD i []) (spL n (S.take i)) := by
 unfold spL
 rw [List.take_succ_eq_append_getElem hi, List.foldl_append, List.getD_eq_getElem?_getD, List.getElem?_eq_getElem hi]
 rfl
theorem spL_len : (spL n S).length = n := by
 unfold spL
 have key : ∀ (S : List (List Int)) (b : List Rat), (S.foldl (fun b s => spF s b) b).length = b.length := by
  intro S
  induction S with
  | nil => intro b; rfl
  | cons s S ih => intro b; rw [List.foldl_cons, ih, spF_len]
 rw [key, List.length_replicate]
theorem mxL_snoc (i : Nat) (hi : i < l.length) : mxL (l.take (i + 1)) = if mxL (l.take i) < l.getD i 0 then l.getD i 0 else mxL (l.take i) := by
 unfold mxL
 rw [List.take_succ_eq_append_getElem hi, List.foldl_append, List.getD_eq_getElem?_getD, List.getElem?_eq_getElem hi]
 rfl
theorem mxL_nil : mxL [] = 0 := rfl
theorem mxL_le : ∀ i, i < l.length → l.getD i 0 ≤ mxL l := by
 have key : ∀ k, k ≤ l.length → ∀ i, i < k → l.getD i 0 ≤ mxL (l.take k) := by
  intro k
  induction k with
  | zero => intro _ i hi; omega
  | succ k ih =>
   intro hk i hi
   rw [mxL_snoc k xq]
   rcases Nat.lt_or_ge i k with h | h
   ·have := ih xq i h
    split
    ·rename_i h2; grind
    ·exact this
   ·rw [show i = k by omega]
    split
    ·exact Rat.le_refl
    ·rename_i h2; exact Rat.not_lt.1 h2
 intro i hi
 have := key l.length (Nat.le_refl _) i hi
 rwa [List.take_length] at this
def Bw (b : List Rat) (D A : Nat) : Prop := 0 < D ∧ D % 2 = 0 ∧ ∀ i, Wh (b.getD i 0 * ((D : Int) : Rat)) A
theorem getD_setQ : (b.set t x).getD i 0 = if t = i ∧ t < b.length then x else b.getD i 0 := by
 by_cases h : t = i
 ·subst h
  by_cases h2 : t < b.length
  ·rw [if_pos ⟨rfl, h2⟩]; simp [List.getD_eq_getElem?_getD, h2]
  ·rw [if_neg (fun h => h2 h.2), List.set_eq_of_length_le xq]
 ·rw [if_neg (fun h9 => h h9.1)]; simp [List.getD_eq_getElem?_getD, h]
theorem absQ_wq (h : 0 ≤ sh) : absQ (wq cf sh) = wq (cf.natAbs : Int) sh := by
 unfold wq absQ
 have hp : (0 : Rat) < ((p2i sh : Int) : Rat) := castI_pos (zxo sh)
 have hi : (0 : Rat) < ((p2i sh : Int) : Rat)⁻¹ := Rat.inv_pos.2 hp
 rw [Rat.div_def, Rat.div_def]
 by_cases h1 : cf < 0
 ·have h2 : ((cf : Int) : Rat) < 0 := Rat.intCast_lt_intCast.2 h1
  have h3 : ((cf : Int) : Rat) * ((p2i sh : Int) : Rat)⁻¹ < 0 := by
   have := Rat.mul_pos (show 0 < -((cf : Int) : Rat) by grind) hi
   grind
  rw [if_pos h3, show (cf.natAbs : Int) = -cf by omega, Rat.intCast_neg, Rat.neg_mul]
 ·have h2 : (0 : Rat) ≤ ((cf : Int) : Rat) := Rat.intCast_le_intCast.2 (show (0 : Int) ≤ cf by omega)
  have h3 : ¬ ((cf : Int) : Rat) * ((p2i sh : Int) : Rat)⁻¹ < 0 := Rat.not_lt.2 (Rat.mul_nonneg h2 (Rat.le_of_lt hi))
  rw [if_neg h3, show (cf.natAbs : Int) = cf by omega]
theorem Wh.half (h0 : 0 < D) (hD : D % 2 = 0) (hb : D ≤ 2 ^ A) : Wh ((1 / 2 : Rat) * ((D : Int) : Rat)) A := by
 refine ⟨((D / 2 : Nat) : Int), ?_, by rw [Int.natAbs_natCast]; omega⟩
 obtain ⟨e, rfl⟩ : ∃ e, D = 2 * e := ⟨D / 2, by omega⟩
 rw [Nat.mul_div_cancel_left e xw]
 have : (((2 * e : Nat) : Int) : Rat) = 2 * ((e : Int) : Rat) := by rw [show ((2 * e : Nat) : Int) = 2 * (e : Int) from Int.natCast_mul 2 e, Rat.intCast_mul]; rfl
 rw [this]; grind
theorem Bw.spF (h : Bw b D A) (hD : D ≤ 2 ^ A) (ht : t < b.length) (hf : f < b.length) (h1 : -2 ≤ sh) (h2 : sh ≤ 20) (h3 : -2097152 ≤ cf ∧ cf ≤ 2097152) : Bw (spF [(t : Int), (f : Int), cf, sh] b) (D * 2 ^ 20) (A + 43) := by
 have hd2 : D * 2 ^ 20 % 2 = 0 := by rw [show D * 2 ^ 20 = 2 * (D * 2 ^ 19) by omega]; exact Nat.mul_mod_right 2 _
 refine ⟨Nat.mul_pos h.1 xw, hd2, fun i => ?_⟩
 by_cases g1 : sh = -1
 ·rw [spF_x g1, swL_at ht hf]
  split
  ·exact (h.2.2 f).scale.more xq
  ·split
   ·exact (h.2.2 t).scale.more xq
   ·exact (h.2.2 i).scale.more xq
 ·by_cases g2 : sh = -2
  ·rw [spF_n g2]; exact (h.2.2 i).scale.more xq
  ·rw [spF_s g1 g2, getD_setQ]
   split
   ·unfold spG
    rw [absQ_wq xq]
    have k1 := (h.2.2 t).scale
    have k2 := (h.2.2 f).shear (sh := sh) (cf := (cf.natAbs : Int)) xq h2 xq
    have k3 : Wh ((if cf.tmod (p2i sh) = 0 then (0 : Rat) else 1 / 2) * (((D * 2 ^ 20 : Nat) : Int) : Rat)) (A + 41) := by
     split
     ·exact Wh.zero' (Rat.zero_mul _) _
     ·refine Wh.half (Nat.mul_pos h.1 xw) hd2 ?_
      rw [Nat.pow_add]
      exact Nat.mul_le_mul hD (Nat.pow_le_pow_right xw xw)
    have e : (b.getD t 0 + (wq (cf.natAbs : Int) sh * b.getD f 0 + if cf.tmod (p2i sh) = 0 then (0 : Rat) else 1 / 2)) * (((D * 2 ^ 20 : Nat) : Int) : Rat) = b.getD t 0 * (((D * 2 ^ 20 : Nat) : Int) : Rat) + (wq (cf.natAbs : Int) sh * b.getD f 0 * (((D * 2 ^ 20 : Nat) : Int) : Rat) + (if cf.tmod (p2i sh) = 0 then (0 : Rat) else 1 / 2) * (((D * 2 ^ 20 : Nat) : Int) : Rat)) := by
     rw [Rat.add_mul, Rat.add_mul]
    rw [e]
    exact (k1.more xq).add (k2.add k3)
   ·exact (h.2.2 i).scale.more xq
theorem spL_ok (hV : ∀ i, i < S.length → shOK (n : Int) (S.getD i [])) (h4 : Rows 4 S) : ∀ i, i ≤ S.length → Bw (spL n (S.take i)) (2 ^ (20 * i + 1)) (43 * i + 1) := by
 intro i
 induction i with
 | zero =>
  intro _
  rw [List.take_zero, spL_nil]
  exact ⟨by decide, by decide, fun i => Wh.zero' (by
   have : (List.replicate n (0 : Rat)).getD i 0 = 0 := by rw [List.getD_eq_getElem?_getD, List.getElem?_replicate]; split <;> rfl
   rw [this, Rat.zero_mul]) _⟩
 | succ i ih =>
  intro hi
  obtain ⟨t, f, cf, sh, e, k1, k2, k3, k4, k5, k6, _⟩ := shOK_four (hV i xq) (h4.get xq)
  rw [spL_snoc i xq, e]
  have h9 := (ih xq).spF (Nat.pow_le_pow_right xw xq) (by rw [spL_len]; exact k1) (by rw [spL_len]; exact k2) k3 k4 ⟨k5, k6⟩
  rw [← Nat.pow_add] at h9
  rwa [show 20 * (i + 1) + 1 = 20 * i + 1 + 20 by omega, show 43 * (i + 1) + 1 = 43 * i + 1 + 43 by omega]
theorem spL_rs (hV : ∀ i, i < S.length → shOK (n : Int) (S.getD i [])) (h4 : Rows 4 S) (h64 : S.length ≤ 64) (k : Nat) (hk : k ≤ S.length) : ∀ i, rs ((spL n (S.take k)).getD i 0) ≤ 100 := fun i => by
 have h8 := spL_ok hV h4 k hk
 have h9 := wh_rs h8.1 (h8.2.2 i) (Nat.pow_le_pow_right xw xq)
 have : dg (43 * k + 1) ≤ 100 := by unfold dg; omega
 omega
theorem shift_near (h0 : 0 ≤ sh) : absQ (((shiftW v sh 2 : Int) : Rat) - wq v sh) ≤ 1 / 2 ∧ (v % p2i sh = 0 → ((shiftW v sh 2 : Int) : Rat) = wq v sh) := by
 have hp := zxo sh
 have hpr : (0 : Rat) < ((p2i sh : Int) : Rat) := castI_pos hp
 by_cases h1 : sh = 0
 ·subst h1
  have e : shiftW v 0 2 = v := if_pos rfl
  have e2 : wq v 0 = (v : Rat) := by unfold wq; rw [show p2i 0 = 1 from rfl, Rat.div_def, show ((1 : Int) : Rat)⁻¹ = 1 from by decide +kernel, Rat.mul_one]
  rw [e, e2]
  refine ⟨?_, fun _ => rfl⟩
  rw [show (v : Rat) - (v : Rat) = 0 by grind]; decide +kernel
 ·have e : shiftW v sh 2 = v / p2i sh + v / p2i (sh - 1) % 2 := by unfold shiftW; rw [if_neg h1, if_pos rfl]
  have hd : p2i sh = 2 * p2i (sh - 1) := p2i_succ xq
  have hq := zxo (sh - 1)
  obtain ⟨z, hz⟩ : ∃ z, shiftW v sh 2 = z := ⟨_, rfl⟩
  rw [hz]
  obtain ⟨P, hP⟩ : ∃ P, p2i (sh - 1) = P := ⟨_, rfl⟩
  rw [hP] at hd hq e
  rw [hz] at e
  have hv := Int.mul_ediv_add_emod v P
  have hm0 := Int.emod_nonneg v (show P ≠ 0 by omega)
  have hm1 := Int.emod_lt_of_pos v hq
  obtain ⟨a, ha⟩ : ∃ a, v / P = a := ⟨_, rfl⟩
  obtain ⟨m, hm⟩ : ∃ m, v % P = m := ⟨_, rfl⟩
  have hdd : v / p2i sh = a / 2 := by rw [hd, Int.mul_comm 2 P, ← Int.ediv_ediv_of_nonneg xq, ha]
  rw [hdd, ha] at e
  rw [ha, hm] at hv
  rw [hm] at hm0 hm1
  -- 2 P z is between v - P and v + P
  obtain ⟨c, hc⟩ : ∃ c, a = 2 * c ∨ a = 2 * c + 1 := ⟨a / 2, by omega⟩
  have hz2 : (a = 2 * c ∧ z = c) ∨ (a = 2 * c + 1 ∧ z = c + 1) := by omega
  have hb : -P ≤ 2 * P * z - v ∧ 2 * P * z - v ≤ P := by
   rcases hz2 with ⟨h3, h4⟩ | ⟨h3, h4⟩ <;> subst h3 <;> subst h4 <;> constructor <;> grind
  have hex : v % p2i sh = 0 → 2 * P * z = v := fun h => by
   rw [hd] at h
   have h5 := Int.mul_ediv_add_emod v (2 * P)
   rw [h, Int.add_zero] at h5
   have h6 : v / (2 * P) = a / 2 := by rw [← hd]; exact hdd
   rw [h6] at h5
   have h7 : a / 2 = c := by omega
   rw [h7] at h5
   rcases hz2 with ⟨h3, h4⟩ | ⟨h3, h4⟩
   ·rw [h4]; exact h5
   ·exfalso
    rw [h3] at hv
    have : P * (2 * c + 1) = 2 * P * c + P := by grind
    omega
  have hPr : (0 : Rat) < ((P : Int) : Rat) := castI_pos hq
  have hw : wq v sh = (v : Rat) / (2 * (P : Rat)) := by unfold wq; rw [hd, Rat.intCast_mul]; rfl
  have hne : (2 * (P : Rat)) ≠ 0 := by grind
  have h2 : ((z : Rat) - wq v sh) * (2 * (P : Rat)) = ((2 * P * z - v : Int) : Rat) := by
   rw [hw, Rat.intCast_sub, Rat.intCast_mul, Rat.intCast_mul]
   rw [Rat.div_def]
   have := Rat.mul_inv_cancel _ hne
   generalize (2 * (P : Rat))⁻¹ = I at *
   show _ = (2 : Rat) * (P : Rat) * (z : Rat) - (v : Rat)
   grind
  have b1 : -((P : Int) : Rat) ≤ ((2 * P * z - v : Int) : Rat) := by rw [← Rat.intCast_neg]; exact Rat.intCast_le_intCast.2 hb.1
  have b2 : ((2 * P * z - v : Int) : Rat) ≤ ((P : Int) : Rat) := Rat.intCast_le_intCast.2 hb.2
  rw [← h2] at b1 b2
  constructor
  ·unfold absQ
   generalize (z : Rat) - wq v sh = X at *
   generalize (P : Rat) = Q at *
   have k1 : X ≤ 1 / 2 := by
    refine Rat.not_lt.1 fun h9 => ?_
    have := Rat.mul_lt_mul_of_pos_right h9 (show (0 : Rat) < 2 * Q by grind)
    grind
   have k2 : -(1 / 2) ≤ X := by
    refine Rat.not_lt.1 fun h9 => ?_
    have := Rat.mul_lt_mul_of_pos_right h9 (show (0 : Rat) < 2 * Q by grind)
    grind
   split <;> grind
  ·intro h
   have h3 := hex h
   rw [h3, Int.sub_self] at h2
   have h4 : ((z : Rat) - wq v sh) = 0 := by
    rcases Rat.mul_eq_zero.1 (h2.trans rfl) with h5 | h5
    ·exact h5
    ·exact absurd h5 hne
   grind
theorem absQ_le (h1 : x ≤ y) (h2 : -y ≤ x) : absQ x ≤ y := by unfold absQ; split <;> grind
theorem absQ_ge : x ≤ absQ x ∧ -absQ x ≤ x := by unfold absQ; split <;> grind
theorem absQ_add : absQ (x + y) ≤ absQ x + absQ y := by
 have h1 := absQ_ge (x := x); have h2 := absQ_ge (x := y)
 exact absQ_le (by grind) (by grind)
theorem absQ_mulQ : absQ (x * y) = absQ x * absQ y := by
 by_cases h1 : x = 0
 ·subst h1; rw [Rat.zero_mul, show absQ 0 = 0 from rfl, Rat.zero_mul]
 ·by_cases h2 : y = 0
  ·subst h2; rw [Rat.mul_zero, show absQ 0 = 0 from rfl, Rat.mul_zero]
  ·unfold absQ
   rcases Rat.le_total (a := 0) (b := x) with hx | hx <;> rcases Rat.le_total (a := 0) (b := y) with hy | hy
   ·have := Rat.mul_nonneg hx hy
    rw [if_neg (Rat.not_lt.2 this), if_neg (Rat.not_lt.2 hx), if_neg (Rat.not_lt.2 hy)]
   ·have h3 := Rat.mul_pos (show 0 < x by grind) (show 0 < -y by grind)
    rw [if_pos (by grind), if_neg (Rat.not_lt.2 hx), if_pos (by grind)]; grind
   ·have h3 := Rat.mul_pos (show 0 < -x by grind) (show 0 < y by grind)
    rw [if_pos (by grind), if_pos (by grind), if_neg (Rat.not_lt.2 hy)]; grind
   ·have h3 := Rat.mul_pos (show 0 < -x by grind) (show 0 < -y by grind)
    rw [if_neg (by grind), if_pos (by grind), if_pos (by grind)]; grind
theorem absQ_n0 : 0 ≤ absQ x := by unfold absQ; split <;> grind
def dotI (M : List (List Rat)) (i : Nat) (l : List Int) (n : Nat) : Rat := su (fun j => ent M i j * (l.getD j 0 : Rat)) n
theorem dot_swap {l : List Int} (ht : t < M.length) (hf : f < M.length) : dotI (swL M t f []) i l n = if i = t then dotI M f l n else if i = f then dotI M t l n else dotI M i l n := by
 unfold dotI
 rw [ent_swap ht hf]
 unfold swR
 split
 ·rfl
 ·split <;> rfl
theorem dot_neg {l : List Int} (hq : Sq n M) (ht : t < n) : dotI (M.set t (negR (M.getD t []))) i l n = if i = t then -dotI M t l n else dotI M i l n := by
 unfold dotI
 by_cases e : i = t
 ·subst e
  rw [if_pos rfl]
  have := su_mul (f := fun j => ent M i j * (l.getD j 0 : Rat)) (c := -1) (n := n)
  rw [show -su (fun j => ent M i j * (l.getD j 0 : Rat)) n = -1 * su (fun j => ent M i j * (l.getD j 0 : Rat)) n by grind, ← this]
  refine su_congr fun j hj => ?_
  rw [ent_set, if_pos ⟨rfl, by rw [hq.1]; exact ht⟩, negR_at (by rw [hq.2 i ht]; exact hj)]
  unfold ent; grind
 ·rw [if_neg e]
  refine su_congr fun j hj => ?_
  rw [ent_set, if_neg (fun h => e h.1.symm)]
theorem dot_row {l : List Int} (hq : Sq n M) (ht : t < n) : dotI (M.set t (rowA (M.getD t []) (M.getD f []) q)) i l n = if i = t then dotI M t l n + q * dotI M f l n else dotI M i l n := by
 unfold dotI
 by_cases e : i = t
 ·subst e
  rw [if_pos rfl, ← su_mul, ← su_add]
  refine su_congr fun j hj => ?_
  rw [ent_set, if_pos ⟨rfl, by rw [hq.1]; exact ht⟩, rowA_at (by rw [hq.2 i ht]; exact hj)]
  unfold ent; grind
 ·rw [if_neg e]
  refine su_congr fun j hj => ?_
  rw [ent_set, if_neg (fun h => e h.1.symm)]
theorem dot_id {l : List Int} (hi : i < n) : dotI (idR n) i l n = (l.getD i 0 : Rat) := by
 unfold dotI
 rw [su_at (k := i) hi (fun j hj hji => by unfold ent; rw [idR_at hi, idRow_at hj, if_neg (Ne.symm hji), Rat.zero_mul])]
 unfold ent
 rw [idR_at hi, idRow_at hi, if_pos rfl, Rat.one_mul]
def nB : Nat → Int
 | 0 => 50
 | k + 1 => 4 * nB k + 1
theorem nB_le : ∀ k, k ≤ 12 → nB k ≤ 1000000000 := by decide +kernel
theorem nB_pos : ∀ k, 0 ≤ nB k := by
 intro k
 induction k with
 | zero => decide
 | succ k ih => show 0 ≤ 4 * nB k + 1; omega
theorem near {l : List Int} (hS : S.length ≤ 12) (hc : ∀ p ∈ S, shC (n : Int) 3 p) (hl : l.length = n) (hb : ∀ i, i < n → -50 ≤ l.getD i 0 ∧ l.getD i 0 ≤ 50) : ∀ k, k ≤ S.length →
  (∀ i, i < n → -(nB k) ≤ (shFs (S.take k) l).getD i 0 ∧ (shFs (S.take k) l).getD i 0 ≤ nB k) ∧
  ∀ i, i < n → absQ (((shFs (S.take k) l).getD i 0 : Rat) - dotI (linM n (S.take k)) i l n) ≤ (spL n (S.take k)).getD i 0 := by
 have hO : ∀ i, i < S.length → shOK (n : Int) (S.getD i []) := fun i hi => by
  rw [List.getD_eq_getElem?_getD, List.getElem?_eq_getElem hi]; exact (hc S[i] (List.getElem_mem hi)).2.1
 have h4 : Rows 4 S := fun p hp => (hc p hp).1
 intro k
 induction k with
 | zero =>
  intro _
  refine ⟨fun i hi => hb i hi, fun i hi => ?_⟩
  rw [List.take_zero, linM_nil, dot_id hi, spL_nil]
  show absQ ((l.getD i 0 : Rat) - (l.getD i 0 : Rat)) ≤ _
  rw [show (l.getD i 0 : Rat) - (l.getD i 0 : Rat) = 0 by grind, List.getD_eq_getElem?_getD, List.getElem?_replicate, if_pos hi]
  decide +kernel
 | succ k ih =>
  intro hk
  obtain ⟨hB, hN⟩ := ih xq
  obtain ⟨t, f, cf, sh, e, k1, k2, k3, k4, k5, k6, k7, k8⟩ := shOK_four (hO k xq) (h4.get xq)
  have hck := hc _ (show S.getD k [] ∈ S by rw [List.getD_eq_getElem?_getD, List.getElem?_eq_getElem xq]; exact List.getElem_mem _)
  rw [e] at hck
  have c1 : -3 ≤ cf := hck.2.2.1
  have c2 : cf ≤ 3 := hck.2.2.2.1
  obtain ⟨hsq, _⟩ := linM_ok hO h4 k xq
  rw [shFs_snoc S k xq, linM_snoc k xq, spL_snoc k xq, e]
  obtain ⟨Y, hY⟩ : ∃ Y, shFs (S.take k) l = Y := ⟨_, rfl⟩
  obtain ⟨M, hM⟩ : ∃ M, linM n (S.take k) = M := ⟨_, rfl⟩
  obtain ⟨E, hE⟩ : ∃ E, spL n (S.take k) = E := ⟨_, rfl⟩
  have hYl : Y.length = n := by rw [← hY, shFs_len]; exact hl
  have hEl : E.length = n := by rw [← hE]; exact spL_len
  rw [hY] at hB hN ⊢
  rw [hM] at hN hsq ⊢
  rw [hE] at hN ⊢
  have hMl := hsq.1
  have hp0 := nB_pos k
  have hpl := nB_le (k + 1) xq
  have hs : nB (k + 1) = 4 * nB k + 1 := rfl
  by_cases g1 : sh = -1
  ·rw [shF_x g1, cmb_x g1, spF_x g1]
   have hx : (Y.set t (Y.getD f 0)).set f (Y.getD t 0) = swL Y t f 0 := rfl
   rw [hx]
   refine ⟨fun i hi => ?_, fun i hi => ?_⟩
   ·rw [swL_at xq xq]
    have := hB t k1; have := hB f k2; have := hB i hi
    split
    ·omega
    ·split <;> omega
   ·rw [swL_at xq xq, dot_swap xq xq, swL_at xq xq]
    split
    ·exact hN f k2
    ·split
     ·exact hN t k1
     ·exact hN i hi
  ·by_cases g2 : sh = -2
   ·rw [shF_n g2, cmb_n g2, spF_n g2]
    have hw : wrapW 32 (-(Y.getD t 0)) = -(Y.getD t 0) := wrap32_id (by have := hB t k1; omega)
    rw [hw]
    refine ⟨fun i hi => ?_, fun i hi => ?_⟩
    ·by_cases e2 : t = i
     ·subst e2; rw [getD_set_eq xq]; have := hB t k1; omega
     ·rw [getD_set_ne2 e2]; have := hB i hi; omega
    ·rw [dot_neg hsq k1]
     by_cases e2 : t = i
     ·subst e2
      rw [getD_set_eq xq, if_pos rfl]
      have := hN t k1
      rw [Rat.intCast_neg]
      generalize ((Y.getD t 0 : Int) : Rat) = a at *
      generalize dotI M t l n = d at *
      have h9 := absQ_ge (x := a - d)
      exact absQ_le (by grind) (by grind)
     ·rw [getD_set_ne2 e2, if_neg (Ne.symm e2)]; exact hN i hi
   ·rw [shF_s g1 g2, cmb_s g1 g2, spF_s g1 g2]
    have hsh : 0 ≤ sh := by omega
    have b1 := hB t k1; have b2 := hB f k2
    have hm : -(3 * nB k) ≤ cf * Y.getD f 0 ∧ cf * Y.getD f 0 ≤ 3 * nB k := sh_mul ⟨c1, c2⟩ b2 xw
    have hsb := shift_bd2 (cf * Y.getD f 0) sh
    have hw : wrapW 32 (Y.getD t 0 + 1 * shiftW (cf * Y.getD f 0) sh 2) = Y.getD t 0 + shiftW (cf * Y.getD f 0) sh 2 := by
     rw [Int.one_mul]; exact wrap32_id xq
    rw [hw]
    refine ⟨fun i hi => ?_, fun i hi => ?_⟩
    ·by_cases e2 : t = i
     ·subst e2; rw [getD_set_eq xq]; omega
     ·rw [getD_set_ne2 e2]; have := hB i hi; omega
    ·rw [dot_row hsq k1]
     by_cases e2 : t = i
     ·subst e2
      rw [getD_set_eq xq, if_pos rfl, getD_setQ, if_pos ⟨rfl, by omega⟩]
      obtain ⟨s1, s2⟩ := shift_near (v := cf * Y.getD f 0) (sh := sh) hsh
      have n1 := hN t k1; have n2 := hN f k2
      have hwm : wq (cf * Y.getD f 0) sh = wq cf sh * ((Y.getD f 0 : Int) : Rat) := by
       unfold wq; rw [Rat.intCast_mul, Rat.div_def, Rat.div_def]; grind
      have hlast : absQ (((shiftW (cf * Y.getD f 0) sh 2 : Int) : Rat) - wq (cf * Y.getD f 0) sh) ≤ if cf.tmod (p2i sh) = 0 then 0 else 1 / 2 := by
       split
       ·rename_i h9
        have h8 : cf * Y.getD f 0 % p2i sh = 0 := Int.emod_eq_zero_of_dvd (Int.dvd_mul_of_dvd_left (Int.dvd_of_tmod_eq_zero h9))
        rw [s2 h8, show wq (cf * Y.getD f 0) sh - wq (cf * Y.getD f 0) sh = 0 by grind]; decide +kernel
       ·exact s1
      rw [hwm] at hlast
      unfold spG
      rw [Rat.intCast_add]
      generalize (if cf.tmod (p2i sh) = 0 then (0 : Rat) else 1 / 2) = h at *
      generalize ((shiftW (cf * Y.getD f 0) sh 2 : Int) : Rat) = z at *
      generalize ((Y.getD t 0 : Int) : Rat) = yt at *
      generalize ((Y.getD f 0 : Int) : Rat) = yf at *
      generalize dotI M t l n = dt at *
      generalize dotI M f l n = df at *
      generalize E.getD t 0 = et at *
      generalize E.getD f 0 = ef at *
      generalize wq cf sh = w at *
      have t1 := absQ_add (x := yt - dt) (y := w * (yf - df) + (z - w * yf))
      have t2 := absQ_add (x := w * (yf - df)) (y := z - w * yf)
      rw [absQ_mulQ] at t2
      have t3 : absQ w * absQ (yf - df) ≤ absQ w * ef := Rat.mul_le_mul_of_nonneg_left n2 absQ_n0
      have e3 : yt + z - (dt + w * df) = (yt - dt) + (w * (yf - df) + (z - w * yf)) := by grind
      rw [e3]
      grind
     ·rw [getD_set_ne2 e2, if_neg (Ne.symm e2), getD_setQ, if_neg (fun h => e2 h.1)]; exact hN i hi
end
end Nt
theorem rats_swap {u : World} {L : List RL} {T : List Rat} {t f K : Nat} {r1 r2 : RL} (h : RatsN u L T K) (ht : t < T.length) (hf : f < T.length) (h1 : RatN u r1 (T.getD f 0) K) (h2 : RatN u r2 (T.getD t 0) K) : RatsN u ((L.set t r1).set f r2) (Nt.swL T t f 0) K :=
 rats_set (rats_set h ht h1) (by rw [List.length_set]; exact hf) h2
theorem k_greater {u w : World} {r s : RL} {x y : Rat} {K : Nat} (d : Dat u w) (hr : RatN u r x K) (hs : RatN u s y K) (hK : K ≤ 1000000) : Calls Tryz.prog 128 #[r.v, s.v] w (Post u w fun v u' => ∃ q : RL, v = q.v ∧ RatN u' q (if x < y then y else x) K) := by
 refine zzl (args := [r.v, s.v]) Tryz.func128 rfl Tryz.ntmps128 (rs := [.cell 4 26]) Tryz.results128 (le_b rfl) (le_b rfl) d ?_
 refine sq9 (zzj 2 ⟨26, r.cs⟩ (zzj 3 ⟨26, s.cs⟩ (zzj 4 ⟨26, [.bool false, .slice none 0 0, .slice none 0 0]⟩ (zzb (zzd (sq9 (zzh 5 (.v (r.v)) ty26 zze (zzh 6 (.v (s.v)) ty26 zze (zzg 7 197 [r.v, s.v] ?_)))))))))
 intro w11 u11 e11 d11
 have k14 := k_ratCompare d11 (hr.ext e11).raw (hs.ext e11).raw xq xq
 with_reducible refine zPm k14 ?_
 rintro _ u12 g13 rfl
 refine zza 8 (zB (decide ((Nt.cmpQ x y) < 0))) (zzb (zzt (b := decide ((Nt.cmpQ x y) < 0)) xj (fun hb15 => ?_) (fun hb15 => ?_)))
 ·replace hb15 : (decide ((Nt.cmpQ x y) < 0)) = true := hb15
  have qhb15 := of_decide_eq_true hb15
  refine sq9 (zzh 9 (.v (s.v)) ty26 zze (zzi ⟨26, s.cs⟩ ty26 ?_))
  refine zzb (zzn (zzv (ret0 [s.v] ⟨zzq ty26 zze, trivial⟩ fun u16 e17 => ?_)))
  have h8 := hb15
  rw [Nt.cmpQ_lt] at h8
  have h7 := of_decide_eq_true h8
  refine ⟨s, rfl, ?_⟩
  rw [if_pos h7]
  exact (hs.ext (e11.trans (g13.ext.trans e17)))
 ·replace hb15 : (decide ((Nt.cmpQ x y) < 0)) = false := hb15
  have qhb15 := of_decide_eq_false hb15
  refine zzr (zzo ?_)
  refine sq9 (zzh 10 (.v (r.v)) ty26 zze (zzi ⟨26, r.cs⟩ ty26 ?_))
  refine zzb (zzn (ret0 [r.v] ⟨zzq ty26 zze, trivial⟩ fun u18 e19 => ?_))
  have h8 := hb15
  rw [Nt.cmpQ_lt] at h8
  have h7 := of_decide_eq_false h8
  refine ⟨r, rfl, ?_⟩
  rw [if_neg h7]
  exact (hr.ext (e11.trans (g13.ext.trans e19)))
set_option maxHeartbeats 4000000 in
theorem k_dspread {u w : World} {x : Sl} {S : List (List Int)} {n : Nat} (d : Dat u w) (hx : IrV 4 u x S) (hV : Nt.shV (n : Int) S) : Calls Tryz.prog 56 #[x.v, .int .i64 (n : Int)] w (Post u w fun v u' => ∃ r : RL, v = .tuple #[r.v, .int .i64 0] ∧ RatN u' r (Nt.mxL (Nt.spL n S)) 100) := by
 have hlx : x.n = S.length := hx.len
 have hV1 := hV.1
 have hV2 := hV.2.1
 have hV3 := hV.2.2.1
 refine zzl (args := [.slice x.a x.n x.c, .int .i64 n]) Tryz.func56 rfl Tryz.ntmps56 (rs := [.cell 4 26, .tmp 5]) Tryz.results56 (le_b rfl) (le_b rfl) d ?_
 refine sq9 (zzj 4 ⟨26, [.bool false, .slice none 0 0, .slice none 0 0]⟩ (zza 5 (zI 0) (zzb (zzd (sq9 (zza 14 (.v x.v) (zza 15 (zI n) (zzg 16 64 [x.v, .int .i64 n] ?_))))))))
 intro w11 u11 e11 d11
 have k14 := k_dvalid (x := x) (n := (n : Int)) d11 (hx.ext e11) xq
 with_reducible refine zPm k14 ?_
 rintro _ u12 g13 rfl
 refine zza 17 (zB (!(decide (Nt.shV (n : Int) S)))) (zzb (zzt (b := !(decide (Nt.shV (n : Int) S))) xj (fun hb => ?_) (fun hb => ?_)))
 ·exact absurd hb (by rw [show (!(decide (Nt.shV (n : Int) S))) = false from (by rw [decide_eq_true hV]; rfl)]; decide)
 ·clear hb
  refine zzr (zzo ?_)
  refine sq9 (zza 19 (zI n) (sy_make 20 (T := 54) (E := 26) (z := .agg #[.bool false, .slice none 0 0, .slice none 0 0]) (size := 3) (bytes := 56) n (rcs (List.replicate n rl0)) xj xj rfl rfl xq yv (made_rcs _) ?_))
  refine zza 6 (.slc 20 0 n n) (zzc 104 [(0, .v x.v), (4, .adr 4 0), (6, .slc 20 0 n n)] [(4, ⟨26, [.bool false, .slice none 0 0, .slice none 0 0]⟩), (20, ⟨26, rcs (List.replicate n rl0)⟩)] (zzd (sq9 (zza 21 (.slc 20 0 n n) (zza 22 (zI n) (zza 23 (zI 0) (zzc 104 [(0, .v x.v), (4, .adr 4 0), (6, .slc 20 0 n n), (22, zI n), (23, zI 0)] [(4, ⟨26, [.bool false, .slice none 0 0, .slice none 0 0]⟩), (20, ⟨26, rcs (List.replicate n rl0)⟩)] (zzs (zym (I := fun m15 S' u' => ∃ (i0 : Nat) (L0 : List RL), (m15 = n - i0) ∧ (i0 ≤ n) ∧ (L0.length = n) ∧ (S' = St.of 104 [(0, .v (.slice x.a x.n x.c)), (4, .adr 4 0), (6, .slc 20 0 n n), (22, zI n), (23, zI i0)] [(4, ⟨26, [.bool false, .slice none 0 0, .slice none 0 0]⟩), (20, ⟨26, rcs L0⟩)]) ∧ (Ext u12 u') ∧ (RatsN u' (L0.take i0) ((List.replicate n (0 : Rat)).take i0) 100)) (fun m S u1 u2 e h => by obtain ⟨i0, L0, hm, p0, p1, hS, hE, f0⟩ := h; exact ⟨i0, L0, hm, p0, p1, hS, hE.trans e, f0.ext e⟩) _ yw ⟨0, List.replicate n rl0, rfl, by omega, by simp, rfl, (Ext.refl _), RatsN.tnil _ _ _ _⟩ ?_)))))))))
  rintro m15 _ u15 ⟨i0, L0, hm15, hi0, hL0, rfl, e15, hR0⟩
  refine sq9 (zza 24 (zB (decide ((i0 : Int) < (n : Int)))) (zzb (zzd (zzt (b := decide ((i0 : Int) < (n : Int))) xj (fun hb16 => ?_) (fun hb16 => ?_)))))
  ·replace hb16 : (decide ((i0 : Int) < (n : Int))) = true := hb16
   have qhb16 := of_decide_eq_true hb16
   refine zzr (zzo ?_)
   refine zzd (zzs (sq9 (zza 25 (zI i0) (zza 7 (zI i0) (zzb (zzf (zza 26 (.slc 20 0 n n) (zza 27 (zI i0) (zzg 28 118 [.int .i64 0] ?_)))))))))
   intro w17 u17 e17 d17
   have k22 := k_ratOf d17 (z := 0) xq xq
   with_reducible refine zPm k22 ?_
   rintro _ u20 g21 ⟨r18, rfl, h19⟩
   refine zyv 29 (off' := i0 * 3) (n := n) (off := 0) (sz := 3) (i := (i0 : Int)) sl54 xq xq xq ?_
   refine zyu (V := ⟨26, rcs L0⟩) (off := i0 * 3) (rcs ((L0).set i0 r18)) ty26 (by rw [zyx]; first|omega|(simp;omega)) (zyw (r := r18) (i := i0) yy rfl) ?_
   refine zzw ?_
   refine zzo (zzf (zyp 30 (x := zI (IntKind.i64.wrap ((i0 : Int) + 1))) (zI (i0 + 1 : Nat)) (eqI xz) (zza 23 (zI (i0 + 1 : Nat)) (zzw ?_))))
   have ht23 : i0 < (List.replicate n (0 : Rat)).length := by rw [List.length_replicate]; omega
   refine ⟨_, ?_, _, by exact zzu _ _ _, i0 + 1, (L0).set i0 r18, rfl, by omega, by simpa using hL0, rfl, (e15.trans (e17.trans g21.ext)), RatsN.tstep (hR0.ext (e17.trans g21.ext)) xq ht23 (RatN.more (K := 2) h19 xq) (by rw [Nt.rep0_at]; rfl)⟩
   omega
  ·replace hb16 : (decide ((i0 : Int) < (n : Int))) = false := hb16
   have qhb16 := of_decide_eq_false hb16
   refine zyb (zzo (zzd (sq9 (zza 31 (.v x.v) (zza 32 (zI x.n) (zza 33 (zI 0) (zzb (zzs (zym (I := fun m24 S' u' => ∃ (k : Nat) (L : List RL), (m24 = S.length - k) ∧ (k ≤ S.length) ∧ (L.length = n) ∧ (S' = St.of 104 [(4, .adr 4 0), (6, .slc 20 0 n n), (31, .v (.slice x.a x.n x.c)), (32, zI x.n), (33, zI k)] [(4, ⟨26, [.bool false, .slice none 0 0, .slice none 0 0]⟩), (20, ⟨26, rcs L⟩)]) ∧ (Ext u15 u') ∧ (RatsN u' L (Nt.spL n (S.take k)) 100)) (fun m S u1 u2 e h => by obtain ⟨k, L, hm, p0, p1, hS, hE, f0⟩ := h; exact ⟨k, L, hm, p0, p1, hS, hE.trans e, f0.ext e⟩) _ yw ⟨0, L0, rfl, by omega, by omega, rfl, (Ext.refl _), (by rw [List.take_zero, Nt.spL_nil]; exact (RatsN.tdone hR0 xq (by rw [List.length_replicate]; omega)))⟩ ?_)))))))))
   rintro m24 _ u24 ⟨k, L, hm24, hk, hLl, rfl, e24, f0⟩
   have hEl : (Nt.spL n (S.take k)).length = n := Nt.spL_len
   refine sq9 (zza 34 (zB (decide ((k : Int) < (x.n : Int)))) (zzb (zzd (zzt (b := decide ((k : Int) < (x.n : Int))) xj (fun hb25 => ?_) (fun hb25 => ?_)))))
   ·replace hb25 : (decide ((k : Int) < (x.n : Int))) = true := hb25
    have qhb25 := of_decide_eq_true hb25
    refine zzr (zzo ?_)
    refine zzd (zzs (sq9 ?_))
    have hl26 := ((hx.ext (e11.trans (g13.ext.trans (e15.trans e24))))).len
    obtain ⟨b26, o26, hA26, hc26⟩ := ir_at4 (hx.ext (e11.trans (g13.ext.trans (e15.trans e24)))) (i := k) xq
    refine zzz 35 (o26 + k * 4) (n := x.n) (off := o26) (sz := 4) (i := (k : Int)) xq hA26 xq xq sl64 (zyl 36 [.int .i64 (gi S k 0), .int .i64 (gi S k 1), .int .i64 (gi S k 2), .int .i64 (gi S k 3)] hc26 ty90 (zzj 9 ⟨90, [.int .i64 0, .int .i64 0, .int .i64 0, .int .i64 0]⟩ (zzi ⟨90, [.int .i64 (gi S k 0), .int .i64 (gi S k 1), .int .i64 (gi S k 2), .int .i64 (gi S k 3)]⟩ ty90 ?_)))
    refine zzb (zzd ?_)
    have hsO := hV.2.2.2 k xq
    rw [row4 hx.rows xq] at hsO
    obtain ⟨tz, htz⟩ : ∃ t : Nat, gi S k 0 = (t : Int) := ⟨(gi S k 0).toNat, by have h9 : 0 ≤ gi S k 0 := hsO.1; omega⟩
    obtain ⟨fz, hfz⟩ : ∃ t : Nat, gi S k 1 = (t : Int) := ⟨(gi S k 1).toNat, by have h9 : 0 ≤ gi S k 1 := hsO.2.2.1; omega⟩
    rw [htz, hfz]
    rw [htz, hfz] at hsO
    obtain ⟨hs1, hs2, hs3, hs4, hs5, hs6, hs7, hs8⟩ := Nt.shOK_mk hsO
    refine zzf (zza 37 (.adr 9 3) (zzh 38 (zI (gi S k 3)) ty3 zzk (zzb (zzs (sq9 (zza 70 (zB ((gi S k 3) == (-2))) (zza 69 (zB ((gi S k 3) == (-2))) (zzb (zzt (b := (gi S k 3) == (-2)) xj (fun hb27 => ?_) (fun hb27 => ?_))))))))))
    ·replace hb27 : ((gi S k 3) == (-2)) = true := hb27
     have qhb27 : (gi S k 3) = (-2) := by simpa using hb27
     refine zzr (zzo ?_)
     refine zzf (zyp 91 (x := zI (IntKind.i64.wrap ((k : Int) + 1))) (zI (k + 1 : Nat)) (eqI xz) (zza 33 (zI (k + 1 : Nat)) (zzw ?_)))
     have hst : Nt.spL n (S.take (k + 1)) = Nt.spF [(tz : Int), (fz : Int), gi S k 2, gi S k 3] (Nt.spL n (S.take k)) := by rw [Nt.spL_snoc k xq, row4 hx.rows xq, htz, hfz]
     rw [Nt.spF_n qhb27] at hst
     refine ⟨_, ?_, _, by exact zzu _ _ _, k + 1, L, rfl, by omega, hLl, rfl, e24, (by rw [hst]; exact f0)⟩
     omega
    ·replace hb27 : ((gi S k 3) == (-2)) = false := hb27
     have qhb27 : ¬ (gi S k 3) = (-2) := by simpa using hb27
     refine sq9 (zza 72 (zB ((gi S k 3) == (-1))) (zza 71 (zB ((gi S k 3) == (-1))) (zzb (zzt (b := (gi S k 3) == (-1)) xj (fun hb28 => ?_) (fun hb28 => ?_)))))
     ·replace hb28 : ((gi S k 3) == (-1)) = true := hb28
      have qhb28 : (gi S k 3) = (-1) := by simpa using hb28
      refine zzy [0, 0, 2, 0, 0, 16, 0, 0, 128, 448, 960, 0, 0, 4096, 14336, 30720, 65479, 131015, 262143, 524287] [(0, []), (1, []), (2, []), (3, []), (4, []), (5, []), (6, []), (7, []), (8, []), (9, []), (10, []), (11, []), (12, []), (13, []), (14, []), (15, []), (16, []), (17, [77]), (18, []), (19, [])] xj xj (zza 73 (.slc 20 0 n n) (zza 74 (.adr 9 0) (zzh 75 (zI tz) ty3 zzk (zza 76 (.slc 20 0 n n) (zza 77 (.adr 9 1) (zzh 78 (zI fz) ty3 zzk (zza 79 (.slc 20 0 n n) (zza 80 (.adr 9 1) (zzh 81 (zI fz) ty3 zzk (zyv 82 (off' := fz * 3) (n := n) (off := 0) (sz := 3) (i := (fz : Int)) sl54 xq xq xq ?_))))))))))
      obtain ⟨r29, hrr29⟩ : ∃ r : RL, (L).getD fz rl0 = r := ⟨_, rfl⟩
      refine zzh 83 (V := ⟨26, rcs L⟩) (off := fz * 3) (.v r29.v) ty26 (by have h9 := part_rcs (L := L) (i := fz) (off := fz * 3) yy rfl; rw [hrr29] at h9; exact h9) ?_
      have h30 := f0.2 fz yy
      rw [hrr29] at h30
      refine zza 84 (.slc 20 0 n n) (zza 85 (.adr 9 0) (zzh 86 (zI tz) ty3 zzk (zyv 87 (off' := tz * 3) (n := n) (off := 0) (sz := 3) (i := (tz : Int)) sl54 xq xq xq ?_)))
      obtain ⟨r31, hrr31⟩ : ∃ r : RL, (L).getD tz rl0 = r := ⟨_, rfl⟩
      refine zzh 88 (V := ⟨26, rcs L⟩) (off := tz * 3) (.v r31.v) ty26 (by have h9 := part_rcs (L := L) (i := tz) (off := tz * 3) yy rfl; rw [hrr31] at h9; exact h9) ?_
      have h32 := f0.2 tz yy
      rw [hrr31] at h32
      refine zyv 89 (off' := tz * 3) (n := n) (off := 0) (sz := 3) (i := (tz : Int)) sl54 xq xq xq ?_
      refine zyu (V := ⟨26, rcs L⟩) (off := tz * 3) (rcs ((L).set tz r29)) ty26 (by rw [zyx]; first|omega|(simp;omega)) (zyw (r := r29) (i := tz) yy rfl) ?_
      refine zyv 90 (off' := fz * 3) (n := n) (off := 0) (sz := 3) (i := (fz : Int)) sl54 xq xq xq ?_
      refine zyu (V := ⟨26, rcs ((L).set tz r29)⟩) (off := fz * 3) (rcs (((L).set tz r29).set fz r31)) ty26 (by rw [zyx]; first|omega|(simp;omega)) (zyw (r := r31) (i := fz) yy rfl) ?_
      refine zzw ?_
      refine zzo (zzf (zyp 91 (x := zI (IntKind.i64.wrap ((k : Int) + 1))) (zI (k + 1 : Nat)) (eqI xz) (zza 33 (zI (k + 1 : Nat)) (zzw ?_))))
      have hst : Nt.spL n (S.take (k + 1)) = Nt.spF [(tz : Int), (fz : Int), gi S k 2, gi S k 3] (Nt.spL n (S.take k)) := by rw [Nt.spL_snoc k xq, row4 hx.rows xq, htz, hfz]
      rw [Nt.spF_x qhb28] at hst
      refine ⟨_, ?_, _, by exact zzu _ _ _, k + 1, (((L).set tz r29).set fz r31), rfl, by omega, by rw [List.length_set, List.length_set]; exact hLl, rfl, e24, (by rw [hst]; exact rats_swap f0 xq xq h30 h32)⟩
      omega
     ·replace hb28 : ((gi S k 3) == (-1)) = false := hb28
      have qhb28 : ¬ (gi S k 3) = (-1) := by simpa using hb28
      refine zzd (zzy [0, 1, 3, 0, 0, 16, 56, 120, 255, 0, 1023] [(0, []), (3, []), (4, []), (5, []), (6, []), (7, []), (9, []), (1, []), (2, []), (8, []), (10, [])] xj xj (zzh 39 (.v (.agg #[.int .i64 tz, .int .i64 fz, .int .i64 (gi S k 2), .int .i64 (gi S k 3)])) ty90 zze (zza 42 (.slc 20 0 n n) (zza 43 (.adr 9 1) (zzh 44 (zI fz) ty3 zzk (zyv 45 (off' := fz * 3) (n := n) (off := 0) (sz := 3) (i := (fz : Int)) sl54 xq xq xq ?_))))))
      obtain ⟨r33, hrr33⟩ : ∃ r : RL, (L).getD fz rl0 = r := ⟨_, rfl⟩
      refine zzh 46 (V := ⟨26, rcs L⟩) (off := fz * 3) (.v r33.v) ty26 (by have h9 := part_rcs (L := L) (i := fz) (off := fz * 3) yy rfl; rw [hrr33] at h9; exact h9) ?_
      have h34 := f0.2 fz yy
      rw [hrr33] at h34
      refine zzj 10 ⟨26, [.bool false, .slice none 0 0, .slice none 0 0]⟩ (zzg 40 125 [.agg #[.int .i64 tz, .int .i64 fz, .int .i64 (gi S k 2), .int .i64 (gi S k 3)]] ?_)
      intro w35 u35 e35 d35
      have k40 := k_factor (t := (tz : Int)) (f := (fz : Int)) (cf := gi S k 2) (sh := gi S k 3) d35 xq xq xq xq
      with_reducible refine zPm k40 ?_
      rintro _ u38 g39 ⟨r36, rfl, h37⟩
      refine zzg 41 124 [r36.v] ?_
      intro w41 u41 e41 d41
      have k46 := k_ratAbs d41 (h37.ext e41).raw xq
      with_reducible refine zPm k46 ?_
      rintro _ u44 g45 ⟨r42, rfl, h43⟩
      refine zzg 47 123 [r42.v, r33.v] ?_
      intro w47 u47 e47 d47
      have k52 := k_ratMul d47 (h43.ext e47).raw (h34.ext (e35.trans (g39.ext.trans (e41.trans (g45.ext.trans e47))))).raw xq xq
      with_reducible refine zPm k52 ?_
      rintro _ u50 g51 ⟨r48, rfl, h49⟩
      refine zzi ⟨26, r48.cs⟩ ty26 ?_
      refine zzc 104 [(4, .adr 4 0), (6, .slc 20 0 n n), (9, .adr 9 0), (10, .adr 10 0), (31, .v x.v), (32, zI x.n), (33, zI k)] [(4, ⟨26, [.bool false, .slice none 0 0, .slice none 0 0]⟩), (9, ⟨90, [.int .i64 tz, .int .i64 fz, .int .i64 (gi S k 2), .int .i64 (gi S k 3)]⟩), (10, ⟨26, r48.cs⟩), (20, ⟨26, rcs L⟩)] (zzd (zzd (zzy [0, 1, 0, 4, 12, 31, 63] [(0, []), (1, []), (2, []), (3, []), (4, []), (5, []), (6, [])] xj xj (zza 48 (.adr 9 2) (zzh 49 (zI (gi S k 2)) ty3 zzk (zza 50 (.adr 9 3) (zzh 51 (zI (gi S k 3)) ty3 zzk (sy_shl 52 (k := .i64) (s := gi S k 3) (Nt.p2i (gi S k 3)) xq yz (shl_one xq xq) ?_))))))))
      refine sy_rem 53 (n := gi S k 2) (m := Nt.p2i (gi S k 3)) ((gi S k 2).tmod (Nt.p2i (gi S k 3))) (by have h9 := Nt.zxo (gi S k 3); omega) rfl ?_
      refine zza 54 (zB (((gi S k 2).tmod (Nt.p2i (gi S k 3))) != 0)) (zzb (zzt (b := ((gi S k 2).tmod (Nt.p2i (gi S k 3))) != 0) xj (fun hb53 => ?_) (fun hb53 => ?_)))
      ·replace hb53 : (((gi S k 2).tmod (Nt.p2i (gi S k 3))) != 0) = true := hb53
       refine zzy [0, 0, 3, 7] [(0, []), (1, []), (2, []), (3, [])] xj xj (zzh 55 (.v (r48.v)) ty26 zze (zzg 56 127 [.int .i64 1, .int .i64 2] ?_))
       intro w54 u54 e54 d54
       have k59 := k_ratFrac d54 (a := 1) (b := 2) xq xq xq xq
       with_reducible refine zPm k59 ?_
       rintro _ u57 g58 ⟨r55, rfl, h56⟩
       refine zzg 57 126 [r48.v, r55.v] ?_
       intro w60 u60 e60 d60
       have k65 := k_ratAdd d60 (h49.ext (e54.trans (g58.ext.trans e60))).raw (h56.ext e60).raw xq xq
       with_reducible refine zPm k65 ?_
       rintro _ u63 g64 ⟨r61, rfl, h62⟩
       refine zzi ⟨26, r61.cs⟩ ty26 ?_
       refine zzb (zzy [0, 0, 2, 0, 0, 16, 56, 120, 0, 504, 1023, 2047] [(0, []), (1, []), (2, []), (3, []), (4, []), (5, []), (6, []), (7, []), (8, []), (9, []), (10, []), (11, [])] xj xj (zza 58 (.slc 20 0 n n) (zza 59 (.adr 9 0) (zzh 60 (zI tz) ty3 zzk (zza 61 (.slc 20 0 n n) (zza 62 (.adr 9 0) (zzh 63 (zI tz) ty3 zzk (zyv 64 (off' := tz * 3) (n := n) (off := 0) (sz := 3) (i := (tz : Int)) sl54 xq xq xq ?_))))))))
       obtain ⟨r66, hrr66⟩ : ∃ r : RL, (L).getD tz rl0 = r := ⟨_, rfl⟩
       refine zzh 65 (V := ⟨26, rcs L⟩) (off := tz * 3) (.v r66.v) ty26 (by have h9 := part_rcs (L := L) (i := tz) (off := tz * 3) yy rfl; rw [hrr66] at h9; exact h9) ?_
       have h67 := (f0.ext (e35.trans (g39.ext.trans (e41.trans (g45.ext.trans (e47.trans (g51.ext.trans (e54.trans (g58.ext.trans (e60.trans g64.ext)))))))))).2 tz yy
       rw [hrr66] at h67
       refine zzh 66 (.v (r61.v)) ty26 zze (zzg 67 126 [r66.v, r61.v] ?_)
       intro w68 u68 e68 d68
       have k73 := k_ratAdd d68 (h67.ext e68).raw (h62.ext e68).raw xq xq
       with_reducible refine zPm k73 ?_
       rintro _ u71 g72 ⟨r69, rfl, h70⟩
       refine zyv 68 (off' := tz * 3) (n := n) (off := 0) (sz := 3) (i := (tz : Int)) sl54 xq xq xq ?_
       refine zyu (V := ⟨26, rcs L⟩) (off := tz * 3) (rcs ((L).set tz r69)) ty26 (by rw [zyx]; first|omega|(simp;omega)) (zyw (r := r69) (i := tz) yy rfl) ?_
       refine zzw ?_
       refine zzo (zzf (zyp 91 (x := zI (IntKind.i64.wrap ((k : Int) + 1))) (zI (k + 1 : Nat)) (eqI xz) (zza 33 (zI (k + 1 : Nat)) (zzw ?_))))
       have hst : Nt.spL n (S.take (k + 1)) = Nt.spF [(tz : Int), (fz : Int), gi S k 2, gi S k 3] (Nt.spL n (S.take k)) := by rw [Nt.spL_snoc k xq, row4 hx.rows xq, htz, hfz]
       rw [Nt.spF_s qhb28 qhb27] at hst
       have hrm : ¬ (gi S k 2).tmod (Nt.p2i (gi S k 3)) = 0 := by have h9 := hb53; simpa using h9
       have hval : (((Nt.spL n (S.take k)).getD tz 0) + (((Nt.absQ (Nt.wq (gi S k 2) (gi S k 3))) * ((Nt.spL n (S.take k)).getD fz 0)) + (((1 : Int) : Rat) / ((2 : Int) : Rat)))) = (Nt.spL n (S.take k)).getD tz 0 + Nt.spG (gi S k 2) (gi S k 3) ((Nt.spL n (S.take k)).getD fz 0) := by unfold Nt.spG; rw [if_neg hrm]; first | (show _ = _; grind) | (rw [show (((1 : Int) : Rat) / ((2 : Int) : Rat)) = 1 / 2 from rfl])
       have hr9 := RatN.fit (L := 100) (q := (Nt.spL n (S.take k)).getD tz 0 + Nt.spG (gi S k 2) (gi S k 3) ((Nt.spL n (S.take k)).getD fz 0)) (by rw [← hval]; exact h70) (by have h9 := Nt.spL_rs hV.2.2.2 hx.rows xq (k + 1) xq tz; rw [hst, Nt.getD_setQ, if_pos ⟨rfl, by omega⟩] at h9; exact h9)
       refine ⟨_, ?_, _, by exact zzu _ _ _, k + 1, ((L).set tz r69), rfl, by omega, by rw [List.length_set]; exact hLl, rfl, (e24.trans (e35.trans (g39.ext.trans (e41.trans (g45.ext.trans (e47.trans (g51.ext.trans (e54.trans (g58.ext.trans (e60.trans (g64.ext.trans (e68.trans g72.ext)))))))))))), (by rw [hst]; exact rats_set (f0.ext (e35.trans (g39.ext.trans (e41.trans (g45.ext.trans (e47.trans (g51.ext.trans (e54.trans (g58.ext.trans (e60.trans (g64.ext.trans (e68.trans g72.ext)))))))))))) xq hr9)⟩
       omega
      ·replace hb53 : (((gi S k 2).tmod (Nt.p2i (gi S k 3))) != 0) = false := hb53
       refine zzr (zzo ?_)
       refine zzy [0, 0, 2, 0, 0, 16, 56, 120, 0, 504, 1023, 2047] [(0, []), (1, []), (2, []), (3, []), (4, []), (5, []), (6, []), (7, []), (8, []), (9, []), (10, []), (11, [])] xj xj (zza 58 (.slc 20 0 n n) (zza 59 (.adr 9 0) (zzh 60 (zI tz) ty3 zzk (zza 61 (.slc 20 0 n n) (zza 62 (.adr 9 0) (zzh 63 (zI tz) ty3 zzk (zyv 64 (off' := tz * 3) (n := n) (off := 0) (sz := 3) (i := (tz : Int)) sl54 xq xq xq ?_)))))))
       obtain ⟨r74, hrr74⟩ : ∃ r : RL, (L).getD tz rl0 = r := ⟨_, rfl⟩
       refine zzh 65 (V := ⟨26, rcs L⟩) (off := tz * 3) (.v r74.v) ty26 (by have h9 := part_rcs (L := L) (i := tz) (off := tz * 3) yy rfl; rw [hrr74] at h9; exact h9) ?_
       have h75 := (f0.ext (e35.trans (g39.ext.trans (e41.trans (g45.ext.trans (e47.trans g51.ext)))))).2 tz yy
       rw [hrr74] at h75
       refine zzh 66 (.v (r48.v)) ty26 zze (zzg 67 126 [r74.v, r48.v] ?_)
       intro w76 u76 e76 d76
       have k81 := k_ratAdd d76 (h75.ext e76).raw (h49.ext e76).raw xq xq
       with_reducible refine zPm k81 ?_
       rintro _ u79 g80 ⟨r77, rfl, h78⟩
       refine zyv 68 (off' := tz * 3) (n := n) (off := 0) (sz := 3) (i := (tz : Int)) sl54 xq xq xq ?_
       refine zyu (V := ⟨26, rcs L⟩) (off := tz * 3) (rcs ((L).set tz r77)) ty26 (by rw [zyx]; first|omega|(simp;omega)) (zyw (r := r77) (i := tz) yy rfl) ?_
       refine zzw ?_
       refine zzo (zzf (zyp 91 (x := zI (IntKind.i64.wrap ((k : Int) + 1))) (zI (k + 1 : Nat)) (eqI xz) (zza 33 (zI (k + 1 : Nat)) (zzw ?_))))
       have hst : Nt.spL n (S.take (k + 1)) = Nt.spF [(tz : Int), (fz : Int), gi S k 2, gi S k 3] (Nt.spL n (S.take k)) := by rw [Nt.spL_snoc k xq, row4 hx.rows xq, htz, hfz]
       rw [Nt.spF_s qhb28 qhb27] at hst
       have hrm : (gi S k 2).tmod (Nt.p2i (gi S k 3)) = 0 := by have h9 := hb53; simpa using h9
       have hval : (((Nt.spL n (S.take k)).getD tz 0) + ((Nt.absQ (Nt.wq (gi S k 2) (gi S k 3))) * ((Nt.spL n (S.take k)).getD fz 0))) = (Nt.spL n (S.take k)).getD tz 0 + Nt.spG (gi S k 2) (gi S k 3) ((Nt.spL n (S.take k)).getD fz 0) := by unfold Nt.spG; rw [if_pos hrm]; first | (show _ = _; grind) | (rw [show (((1 : Int) : Rat) / ((2 : Int) : Rat)) = 1 / 2 from rfl])
       have hr9 := RatN.fit (L := 100) (q := (Nt.spL n (S.take k)).getD tz 0 + Nt.spG (gi S k 2) (gi S k 3) ((Nt.spL n (S.take k)).getD fz 0)) (by rw [← hval]; exact h78) (by have h9 := Nt.spL_rs hV.2.2.2 hx.rows xq (k + 1) xq tz; rw [hst, Nt.getD_setQ, if_pos ⟨rfl, by omega⟩] at h9; exact h9)
       refine ⟨_, ?_, _, by exact zzu _ _ _, k + 1, ((L).set tz r77), rfl, by omega, by rw [List.length_set]; exact hLl, rfl, (e24.trans (e35.trans (g39.ext.trans (e41.trans (g45.ext.trans (e47.trans (g51.ext.trans (e76.trans g80.ext)))))))), (by rw [hst]; exact rats_set (f0.ext (e35.trans (g39.ext.trans (e41.trans (g45.ext.trans (e47.trans (g51.ext.trans (e76.trans g80.ext)))))))) xq hr9)⟩
       omega
   ·replace hb25 : (decide ((k : Int) < (x.n : Int))) = false := hb25
    have qhb25 := of_decide_eq_false hb25
    refine zyb (zzo (sq9 (zzg 92 118 [.int .i64 0] ?_)))
    intro w82 u82 e82 d82
    have k87 := k_ratOf d82 (z := 0) xq xq
    with_reducible refine zPm k87 ?_
    rintro _ u85 g86 ⟨r83, rfl, h84⟩
    refine zzj 11 ⟨26, [.bool false, .slice none 0 0, .slice none 0 0]⟩ (zzi ⟨26, r83.cs⟩ ty26 ?_)
    refine zzb (zzd (zzd ?_))
    obtain ⟨E, hE⟩ : ∃ E, Nt.spL n S = E := ⟨_, rfl⟩
    have hEn : E.length = n := by rw [← hE]; exact Nt.spL_len
    have hO : RatsN u85 L E 100 := by have h9 := (f0.ext (e82.trans g86.ext)); rw [show k = S.length by omega, List.take_length, hE] at h9; exact h9
    refine zzf (zza 93 (.slc 20 0 n n) (zza 94 (zI n) (zza 95 (zI 0) (zzc 104 [(4, .adr 4 0), (11, .adr 11 0), (93, .slc 20 0 n n), (94, zI n), (95, zI 0)] [(4, ⟨26, [.bool false, .slice none 0 0, .slice none 0 0]⟩), (11, ⟨26, r83.cs⟩), (20, ⟨26, rcs L⟩)] (zzs (zym (I := fun m88 S' u' => ∃ (i : Nat) (rm : RL), (m88 = n - i) ∧ (i ≤ n) ∧ (S' = St.of 104 [(4, .adr 4 0), (11, .adr 11 0), (93, .slc 20 0 n n), (94, zI n), (95, zI i)] [(4, ⟨26, [.bool false, .slice none 0 0, .slice none 0 0]⟩), (11, ⟨26, rm.cs⟩), (20, ⟨26, rcs L⟩)]) ∧ (Ext u85 u') ∧ (RatN u' rm (Nt.mxL (E.take i)) 100)) (fun m S u1 u2 e h => by obtain ⟨i, rm, hm, p0, hS, hE, f0⟩ := h; exact ⟨i, rm, hm, p0, hS, hE.trans e, f0.ext e⟩) _ yw ⟨0, r83, rfl, by omega, rfl, (Ext.refl _), (by rw [List.take_zero, Nt.mxL_nil]; exact RatN.more (K := 2) (by exact h84) xq)⟩ ?_))))))
    rintro m88 _ u88 ⟨i, rm, hm88, hi, rfl, e88, g0⟩
    refine sq9 (zza 96 (zB (decide ((i : Int) < (n : Int)))) (zzb (zzd (zzt (b := decide ((i : Int) < (n : Int))) xj (fun hb89 => ?_) (fun hb89 => ?_)))))
    ·replace hb89 : (decide ((i : Int) < (n : Int))) = true := hb89
     have qhb89 := of_decide_eq_true hb89
     refine zzr (zzo ?_)
     refine zzd (zzs (sq9 (zyv 97 (off' := i * 3) (n := n) (off := 0) (sz := 3) (i := (i : Int)) sl54 xq xq xq ?_)))
     obtain ⟨r90, hrr90⟩ : ∃ r : RL, (L).getD i rl0 = r := ⟨_, rfl⟩
     refine zzh 98 (V := ⟨26, rcs L⟩) (off := i * 3) (.v r90.v) ty26 (by have h9 := part_rcs (L := L) (i := i) (off := i * 3) yy rfl; rw [hrr90] at h9; exact h9) ?_
     have h91 := (hO.ext e88).2 i yy
     rw [hrr90] at h91
     refine zzj 13 ⟨26, [.bool false, .slice none 0 0, .slice none 0 0]⟩ (zzi ⟨26, r90.cs⟩ ty26 ?_)
     refine zzc 104 [(4, .adr 4 0), (11, .adr 11 0), (13, .adr 13 0), (93, .slc 20 0 n n), (94, zI n), (95, zI i)] [(4, ⟨26, [.bool false, .slice none 0 0, .slice none 0 0]⟩), (11, ⟨26, rm.cs⟩), (13, ⟨26, r90.cs⟩), (20, ⟨26, rcs L⟩)] (zzf (zzh 99 (.v (rm.v)) ty26 zze (zzh 100 (.v (r90.v)) ty26 zze (zzg 101 128 [rm.v, r90.v] ?_))))
     intro w92 u92 e92 d92
     have k97 := k_greater (K := 100) d92 (g0.ext e92) (h91.ext e92) xq
     with_reducible refine zPm k97 ?_
     rintro _ u95 g96 ⟨r93, rfl, h94⟩
     refine zzi ⟨26, r93.cs⟩ ty26 ?_
     refine zzw ?_
     refine zzo (zzf (zyp 102 (x := zI (IntKind.i64.wrap ((i : Int) + 1))) (zI (i + 1 : Nat)) (eqI xz) (zza 95 (zI (i + 1 : Nat)) (zzw ?_))))
     refine ⟨_, ?_, _, by exact zzu _ _ _, i + 1, r93, rfl, by omega, rfl, (e88.trans (e92.trans g96.ext)), (by rw [Nt.mxL_snoc i xq]; exact h94)⟩
     omega
    ·replace hb89 : (decide ((i : Int) < (n : Int))) = false := hb89
     have qhb89 := of_decide_eq_false hb89
     refine zyb (zzo (sq9 (zzh 103 (.v (rm.v)) ty26 zze (zzi ⟨26, rm.cs⟩ ty26 ?_))))
     refine zza 5 (zI 0) (zzc 104 [(4, .adr 4 0), (5, zI 0)] [(4, ⟨26, rm.cs⟩)] (zzn (ret0 [rm.v, .int .i64 0] ⟨zzq ty26 zze, zzp, trivial⟩ fun u98 e99 => ?_)))
     refine ⟨rm, rfl, ?_⟩
     rw [hE]
     have h9 := (g0.ext e99)
     rw [show i = E.length by omega, List.take_length] at h9
     exact h9
@[irreducible]
def Nt.lftV (v : Value) : Nat := match v with | .int _ i => (i + 1).toNat | _ => 0
theorem Nt.near_chk {S : List (List Int)} {l : List Int} {n : Nat} (hS : S.length ≤ 12) (hc : ∀ p ∈ S, Nt.shC (n : Int) 3 p) (hn : l.length = n) (h2 : 2 ≤ n) (h9 : n ≤ 64) (hb : ∀ z ∈ l, -50 ≤ z ∧ z ≤ 50) : Nt.chkE S l = 0 := by
 subst hn
 refine Nt.chk_ok ⟨by omega, by omega, by omega, fun i hi => ?_⟩ (fun i hi => ?_)
 ·rw [List.getD_eq_getElem?_getD, List.getElem?_eq_getElem hi]; exact (hc _ (List.getElem_mem hi)).2.1
 ·have := hb (l.getD i 0) (by rw [List.getD_eq_getElem?_getD, List.getElem?_eq_getElem hi]; exact List.getElem_mem hi)
  omega
theorem Nt.near_len {S : List (List Int)} {l : List Int} {n : Nat} (hS : S.length ≤ 12) (hc : ∀ p ∈ S, Nt.shC (n : Int) 3 p) (hn : l.length = n) (h2 : 2 ≤ n) (h9 : n ≤ 64) (hb : ∀ z ∈ l, -50 ≤ z ∧ z ≤ 50) : (Nt.fwdL S l).length = n := by
 rw [show Nt.fwdL S l = Nt.shFs S l from if_pos (Nt.near_chk hS hc hn h2 h9 hb), Nt.shFs_len]; exact hn
theorem Nt.near_law {S : List (List Int)} {l : List Int} {n : Nat} (hS : S.length ≤ 12) (hc : ∀ p ∈ S, Nt.shC (n : Int) 3 p) (hn : l.length = n) (h2 : 2 ≤ n) (h9 : n ≤ 64) (hb : ∀ z ∈ l, -50 ≤ z ∧ z ≤ 50) (i : Nat) (hi : i < n) :
  Nt.absQ (((Nt.fwdL S l).getD i 0 : Rat) - Nt.dotI (Nt.linM n S) i l n) ≤ Nt.mxL (Nt.spL n S) := by
 have h0 := Nt.near_chk hS hc hn h2 h9 hb
 have e : Nt.fwdL S l = Nt.shFs S l := if_pos h0
 rw [e]
 have h1 := (Nt.near hS hc hn (fun i hi => hb (l.getD i 0) (by rw [List.getD_eq_getElem?_getD, List.getElem?_eq_getElem xq]; exact List.getElem_mem _)) S.length (Nat.le_refl _)).2 i hi
 rw [List.take_length] at h1
 exact Rat.le_trans h1 (Nt.mxL_le i (by rw [Nt.spL_len]; exact hi))
set_option maxHeartbeats 4000000 in
theorem w_stays {u w : World} {x1 x2 x3 x4 y : Sl} {l1 l2 l3 l4 l : List Int} (d : Dat u w) (hx1 : SlR .i64 u x1.a x1.n x1.c l1) (hb1 : ∀ z ∈ l1, -9223372036854775808 ≤ z ∧ z ≤ 9223372036854775807) (hx2 : SlR .i64 u x2.a x2.n x2.c l2) (hb2 : ∀ z ∈ l2, -9223372036854775808 ≤ z ∧ z ≤ 9223372036854775807) (hx3 : SlR .i64 u x3.a x3.n x3.c l3) (hb3 : ∀ z ∈ l3, -9223372036854775808 ≤ z ∧ z ≤ 9223372036854775807) (hx4 : SlR .i64 u x4.a x4.n x4.c l4) (hb4 : ∀ z ∈ l4, -9223372036854775808 ≤ z ∧ z ≤ 9223372036854775807) (hy : SlR .i64 u y.a y.n y.c l) (hb : ∀ z ∈ l, -9223372036854775808 ≤ z ∧ z ≤ 9223372036854775807) : Calls Tryz.prog 11 #[.agg #[x1.v, x2.v, x3.v, x4.v], y.v] w (Post u w fun v _ => v = .bool true) := by
 have hyn : y.n ≤ 9223372036854775807 := Nat.le_trans hy.2.1 (Nat.le_trans hy.2.2.1 yv)
 have hly : l.length = y.n := hy.1
 refine zzl (args := [.agg #[.slice x1.a x1.n x1.c, .slice x2.a x2.n x2.c, .slice x3.a x3.n x3.c, .slice x4.a x4.n x4.c], .slice y.a y.n y.c]) Tryz.func11 rfl Tryz.ntmps11 (rs := [.tmp 4]) Tryz.results11 (le_b rfl) (le_b rfl) d ?_
 refine sq9 (zzj 2 ⟨63, [x1.v, x2.v, x3.v, x4.v]⟩ (zza 4 (zB false) (zzb (sq9 (zza 17 (.v y.v) (zza 18 (zI y.n) (zzg 19 45 [.int .i64 y.n, .int .i64 4] ?_)))))))
 intro w11 u11 e11 d11
 have k16 := (show Calls _ _ #[.int .i64 (y.n : Int), .int .i64 4] _ _ from k_withinN (n := (y.n : Int)) (m := 4) d11 xq xq xq xq)
 with_reducible refine zPm k16 ?_
 rintro _ u14 g15 ⟨z12, rfl, h13⟩
 refine zyp 20 (x := zI (IntKind.i64.wrap ((2 : Int) + (z12 : Int)))) (zI (2 + z12 : Nat)) (eqI xz) (zza 5 (zI (2 + z12 : Nat)) (zzb (sq9 (zzh 21 (.v (.agg #[x1.v, x2.v, x3.v, x4.v])) ty63 zze (zza 22 (zI (2 + z12 : Nat)) (zzg 23 46 [.agg #[x1.v, x2.v, x3.v, x4.v], .int .i64 (2 + z12 : Nat), .int .i64 3] ?_))))))
 intro w17 u17 e17 d17
 have k25 := (show Calls _ _ #[_, .int .i64 ((2 + z12 : Nat) : Int), _] _ _ from k_shears (n := 2 + z12) (b := 3) d17 (hx1.ext (e11.trans (g15.ext.trans e17))) hb1 (hx2.ext (e11.trans (g15.ext.trans e17))) hb2 (hx3.ext (e11.trans (g15.ext.trans e17))) hb3 (hx4.ext (e11.trans (g15.ext.trans e17))) hb4 xq xq xq xq)
 with_reducible refine zPm k25 ?_
 rintro _ u23 g24 ⟨y18, S19, rfl, hx20, hlS21, hcS22⟩
 have hlS_S19 := IrV.len hx20
 have hV_S19 : Nt.shV ((2 + z12 : Nat) : Int) S19 := Nt.shC_all xq hlS21 hcS22
 refine zza 6 (.v y18.v) (zzb (sq9 (zza 24 (.v y.v) (zza 25 (zI (2 + z12 : Nat)) (zzg 26 55 [.int .i64 50, y.v, .int .i64 (2 + z12 : Nat)] ?_)))))
 intro w26 u26 e26 d26
 have k30 := (show Calls _ _ #[.int .i64 50, .slice y.a y.n y.c, .int .i64 ((2 + z12 : Nat) : Int)] _ _ from k_belowN (x := y) (b := 50) (n := 2 + z12) d26 (hy.ext (e11.trans (g15.ext.trans (e17.trans (g24.ext.trans e26))))) hb xq xq xq)
 with_reducible refine zPm k30 ?_
 rintro _ u28 g29 ⟨y27, m27, rfl, hln27, hs27, hal27⟩
 have hly27 : m27.length = y27.n := hs27.1
 refine zza 7 (.v y27.v) (zzb (sq9 (zza 28 (.v y18.v) (zza 29 (.v y27.v) (zzg 30 49 [y18.v, y27.v] ?_)))))
 intro w31 u31 e31 d31
 have k36 := k_dforward (x := y18) (y := y27) d31 (hx20.ext (e26.trans (g29.ext.trans e31))) (by first | omega | decide) (hs27.ext e31) (fun z9 hz9 => by have h9 := hal27 z9 hz9; omega) (by first | omega | decide)
 with_reducible refine zPm k36 ?_
 rintro _ u34 g35 ⟨z32, rfl, hz33⟩
 have hlz_hz33 := hz33.1.symm.trans (Nt.near_len hlS21 hcS22 (show m27.length = 2 + z12 by omega) xq xq hal27)
 refine zza 27 (.v (.tuple #[z32.v, .int .i64 (Nt.chkE S19 m27)])) (zza 31 (.v z32.v) (zza 32 (zI (Nt.chkE S19 m27)) (zza 8 (.v z32.v) (zza 9 (zI (Nt.chkE S19 m27)) (zzb (sq9 (zza 34 (.v y18.v) (zza 35 (zI (2 + z12 : Nat)) (zzg 36 53 [y18.v, .int .i64 (2 + z12 : Nat)] ?_)))))))))
 intro w37 u37 e37 d37
 have k41 := (show Calls _ _ #[_, .int .i64 ((2 + z12 : Nat) : Int)] _ _ from k_dlinear (n := 2 + z12) d37 (hx20.ext (e26.trans (g29.ext.trans (e31.trans (g35.ext.trans e37))))) hV_S19)
 with_reducible refine zPm k41 ?_
 rintro _ u39 g40 ⟨y38, Rs38, Ls38, rfl, hM38, hN38⟩
 have hsq38 : Nt.Sq (2 + z12) (Nt.linM (2 + z12) S19) := by have h9 := (Nt.linM_ok hV_S19.2.2.2 hx20.rows _ (Nat.le_refl _)).1; rw [List.take_length] at h9; exact h9
 have hLl38 : Ls38.length = 2 + z12 := hN38.1.trans hsq38.1
 have hRl38 := hM38.len
 have hyn38 : y38.n = 2 + z12 := hM38.rows.trans hLl38
 refine zza 33 (.v (.tuple #[y38.v, .int .i64 0])) (zza 37 (.v y38.v) (zza 38 (zI 0) (zza 10 (.v y38.v) (zza 11 (zI 0) (zzc 114 [(5, zI (2 + z12 : Nat)), (6, .v y18.v), (7, .v y27.v), (8, .v z32.v), (9, zI (Nt.chkE S19 m27)), (10, .v y38.v), (11, zI 0)] [] (sq9 (zza 40 (.v y18.v) (zza 41 (zI (2 + z12 : Nat)) (zzg 42 56 [y18.v, .int .i64 (2 + z12 : Nat)] ?_)))))))))
 intro w42 u42 e42 d42
 have k47 := (show Calls _ _ #[_, .int .i64 ((2 + z12 : Nat) : Int)] _ _ from k_dspread (n := 2 + z12) d42 (hx20.ext (e26.trans (g29.ext.trans (e31.trans (g35.ext.trans (e37.trans (g40.ext.trans e42))))))) hV_S19)
 with_reducible refine zPm k47 ?_
 rintro _ u45 g46 ⟨r43, rfl, h44⟩
 refine zza 39 (.v (.tuple #[r43.v, .int .i64 0])) (zza 43 (.v (r43.v)) (zza 44 (zI 0) (zzj 12 ⟨26, [.bool false, .slice none 0 0, .slice none 0 0]⟩ (zzi ⟨26, r43.cs⟩ ty26 ?_))))
 refine zza 13 (zI 0) (zzb (zzd (sq9 (zza 45 (zI (Nt.chkE S19 m27)) (zza 46 (zB ((Nt.chkE S19 m27) != 0)) (zyp 47 (x := zB ((Nt.chkE S19 m27) != 0)) (zB false) (by rw [show ((Nt.chkE S19 m27) != 0) = false from (by rw [Nt.near_chk hlS21 hcS22 (show m27.length = 2 + z12 by omega) xq xq hal27]; rfl)]) (zza 48 (zI 0) ?_ (hw := w1 2 false 47))))))))
 refine zza 49 (zB false) ?_ (hw := w1 2 false 47)
 refine zza 50 (zB false) (zza 51 (zB false) (zza 52 (zI 0) ?_ (hw := w1 6 false 51)))
 refine zza 53 (zB false) ?_ (hw := w1 6 false 51)
 refine zza 54 (zB false) (zza 55 (zB false) (zza 56 (.v z32.v) ?_ (hw := w1 10 false 55)))
 refine zza 57 (zI z32.n) ?_ (hw := w1 10 false 55)
 refine zza 58 (zI (2 + z12 : Nat)) ?_ (hw := w1 10 false 55)
 refine zza 59 (zB ((z32.n : Int) != ((2 + z12 : Nat) : Int))) ?_ (hw := w1 10 false 55)
 refine zza 60 (zB ((z32.n : Int) != ((2 + z12 : Nat) : Int))) (zyp 61 (x := zB ((z32.n : Int) != ((2 + z12 : Nat) : Int))) (zB false) (by rw [show ((z32.n : Int) != ((2 + z12 : Nat) : Int)) = false from zq]) (zza 62 (.v y38.v) ?_ (hw := w1 16 false 61)))
 refine zza 63 (zI y38.n) ?_ (hw := w1 16 false 61)
 refine zza 64 (zI (2 + z12 : Nat)) ?_ (hw := w1 16 false 61)
 refine zza 65 (zB ((y38.n : Int) != ((2 + z12 : Nat) : Int))) ?_ (hw := w1 16 false 61)
 refine zza 66 (zB ((y38.n : Int) != ((2 + z12 : Nat) : Int))) (zzc 114 [(5, zI (2 + z12 : Nat)), (7, .v y27.v), (8, .v z32.v), (10, .v y38.v), (12, .adr 12 0), (66, zB ((y38.n : Int) != ((2 + z12 : Nat) : Int)))] [(12, ⟨26, r43.cs⟩)] (zzt (b := (y38.n : Int) != ((2 + z12 : Nat) : Int)) xj (fun hb => ?_) (fun hb => ?_)))
 ·exact absurd hb (by rw [show ((y38.n : Int) != ((2 + z12 : Nat) : Int)) = false from zq]; decide)
 ·clear hb
  refine zzr (zzo ?_)
  refine zzd (zzd ?_)
  have hln : m27.length = 2 + z12 := by omega
  have hnear : ∀ i, i < (2 + z12) → Nt.absQ (((Nt.fwdL S19 m27).getD i 0 : Rat) - Nt.dotI (Nt.linM (2 + z12) S19) i m27 (2 + z12)) ≤ Nt.mxL (Nt.spL (2 + z12) S19) := Nt.near_law hlS21 hcS22 hln xq xq hal27
  refine zzf (zza 14 (zI 0) (zzb (zzs (zym (I := fun m50 S' u' => ∃ (i : Nat), (m50 = (2 + z12) - i) ∧ (i ≤ 2 + z12) ∧ (S' = St.of 114 [(5, zI (2 + z12 : Nat)), (7, .v (.slice y27.a y27.n y27.c)), (8, .v (.slice z32.a z32.n z32.c)), (10, .v (.slice y38.a y38.n y38.c)), (12, .adr 12 0), (14, zI i)] [(12, ⟨26, r43.cs⟩)]) ∧ (Ext u45 u')) (fun m S u1 u2 e h => by obtain ⟨i, hm, p0, hS, hE⟩ := h; exact ⟨i, hm, p0, hS, hE.trans e⟩) _ yw ⟨0, rfl, by omega, rfl, (Ext.refl _)⟩ ?_))))
  rintro m50 _ u50 ⟨i, hm50, hi, rfl, e50⟩
  refine zzd (sq9 (zza 67 (zI i) (zza 68 (zI (2 + z12 : Nat)) (zza 69 (zB (decide ((i : Int) < ((2 + z12 : Nat) : Int)))) (zzb (zzt (b := decide ((i : Int) < ((2 + z12 : Nat) : Int))) xj (fun hb51 => ?_) (fun hb51 => ?_)))))))
  ·replace hb51 : (decide ((i : Int) < ((2 + z12 : Nat) : Int))) = true := hb51
   have qhb51 := of_decide_eq_true hb51
   refine zzr (zzo ?_)
   refine zzd (zzs (sq9 (zzg 72 30 [.int .i64 0] ?_)))
   intro w52 u52 e52 d52
   have k57 := k_rqOf d52 (z := 0) xq xq
   with_reducible refine zPm k57 ?_
   rintro _ u55 g56 ⟨r53, rfl, h54⟩
   refine zzj 15 ⟨26, [.bool false, .slice none 0 0, .slice none 0 0]⟩ (zzi ⟨26, r53.cs⟩ ty26 ?_)
   refine zzb (zzd (sq9 (zza 16 (zI 0) (zzb (zzs (zym (I := fun m58 S' u' => ∃ (j : Nat) (rs : RL), (m58 = (2 + z12) - j) ∧ (j ≤ 2 + z12) ∧ (S' = St.of 114 [(5, zI (2 + z12 : Nat)), (7, .v (.slice y27.a y27.n y27.c)), (8, .v (.slice z32.a z32.n z32.c)), (10, .v (.slice y38.a y38.n y38.c)), (12, .adr 12 0), (14, zI i), (15, .adr 15 0), (16, zI j)] [(12, ⟨26, r43.cs⟩), (15, ⟨26, rs.cs⟩)]) ∧ (Ext u55 u') ∧ (RatN u' rs (Nt.dotI (Nt.linM (2 + z12) S19) i m27 j) (200 * j + 10))) (fun m S u1 u2 e h => by obtain ⟨j, rs, hm, p0, hS, hE, f0⟩ := h; exact ⟨j, rs, hm, p0, hS, hE.trans e, f0.ext e⟩) _ yw ⟨0, r53, rfl, by omega, rfl, (Ext.refl _), (RatN.more (K := 2) (by exact h54) xq)⟩ ?_))))))
   rintro m58 _ u58 ⟨j, rs, hm58, hj, rfl, e58, f0⟩
   refine zzd (sq9 (zza 73 (zI j) (zza 74 (zI (2 + z12 : Nat)) (zza 75 (zB (decide ((j : Int) < ((2 + z12 : Nat) : Int)))) ?_))))
   rcases Bool.eq_false_or_eq_true (decide ((j : Int) < ((2 + z12 : Nat) : Int))) with hs59 | hs59
   ·refine zyp 76 (x := zB (decide ((j : Int) < ((2 + z12 : Nat) : Int)))) (zB true) (by rw [hs59]) ?_
    have qhs59 := of_decide_eq_true hs59
    refine zza 77 (zI j) ?_ (hw := w1 3 true 76)
    refine zza 78 (.v y38.v) ?_ (hw := w1 3 true 76)
    refine zza 79 (zI i) ?_ (hw := w1 3 true 76)
    obtain ⟨b60, hA60, hc60⟩ := MatQ.cell (i := i) (hM38.ext (e42.trans (g46.ext.trans (e50.trans (e52.trans (g56.ext.trans e58)))))) xq
    refine zzz 80 (0 + i * 1) (n := y38.n) (off := 0) (sz := 1) (i := (i : Int)) xq hA60 xq xq sl71 ?_ (hw := w1 3 true 76)
    have hrw61 := MatQ.row (hM38.ext (e42.trans (g46.ext.trans (e50.trans (e52.trans (g56.ext.trans e58)))))) i xq
    have hrn61 : (Rs38.getD i sl0).n = 2 + z12 := by rw [MutQ.rown hrw61, MatN.rowlen (hN38.ext (e42.trans (g46.ext.trans (e50.trans (e52.trans (g56.ext.trans e58)))))) (by rw [hsq38.1]; omega)]; exact hsq38.2 i xq
    have hrl61 : (Ls38.getD i []).length = 2 + z12 := by rw [← MutQ.rown hrw61]; exact hrn61
    refine zyk 81 (.slice (Rs38.getD i sl0).a (Rs38.getD i sl0).n (Rs38.getD i sl0).c) hc60 ty54 ?_ (hw := w1 3 true 76)
    refine zza 82 (zI (((Rs38.getD i sl0).n : Nat) : Int)) ?_ (hw := w1 3 true 76)
    refine zza 83 (zB (decide ((j : Int) < (((Rs38.getD i sl0).n : Nat) : Int)))) ?_ (hw := w1 3 true 76)
    refine zza 84 (zB (decide ((j : Int) < (((Rs38.getD i sl0).n : Nat) : Int)))) (zzb (zzt (b := decide ((j : Int) < (((Rs38.getD i sl0).n : Nat) : Int))) xj (fun hb => ?_) (fun hb => ?_)))
    ·clear hb
     refine zzr (zzo ?_)
     refine zzd (zzs (zzy [0, 0, 0, 6, 14, 0, 62, 126, 0, 0, 768, 1792, 3840, 8190, 16383, 32767] [(0, []), (1, []), (2, []), (3, []), (4, []), (5, []), (6, []), (7, []), (8, []), (9, []), (10, []), (11, []), (12, []), (13, []), (14, []), (15, [])] xj xj (zzh 87 (.v (rs.v)) ty26 zze (zza 88 (.v y38.v) (zza 89 (zI i) ?_)))))
     obtain ⟨b62, hA62, hc62⟩ := MatQ.cell (i := i) (hM38.ext (e42.trans (g46.ext.trans (e50.trans (e52.trans (g56.ext.trans e58)))))) xq
     refine zzz 90 (0 + i * 1) (n := y38.n) (off := 0) (sz := 1) (i := (i : Int)) xq hA62 xq xq sl71 ?_
     have hrw63 := MatQ.row (hM38.ext (e42.trans (g46.ext.trans (e50.trans (e52.trans (g56.ext.trans e58)))))) i xq
     have hrn63 : (Rs38.getD i sl0).n = 2 + z12 := by rw [MutQ.rown hrw63, MatN.rowlen (hN38.ext (e42.trans (g46.ext.trans (e50.trans (e52.trans (g56.ext.trans e58)))))) (by rw [hsq38.1]; omega)]; exact hsq38.2 i xq
     have hrl63 : (Ls38.getD i []).length = 2 + z12 := by rw [← MutQ.rown hrw63]; exact hrn63
     refine zyk 91 (.slice (Rs38.getD i sl0).a (Rs38.getD i sl0).n (Rs38.getD i sl0).c) hc62 ty54 (zza 92 (zI j) ?_)
     obtain ⟨b64, hA64, hc64⟩ := MutQ.el1 (j := j) hrw63 xq
     refine zzz 93 (0 + j * 3) (n := (Rs38.getD i sl0).n) (off := 0) (sz := 3) (i := (j : Int)) xq hA64 xq xq sl54 ?_
     obtain ⟨r65, hr66⟩ : ∃ r : RL, (Ls38.getD i []).getD j rl0 = r := ⟨_, rfl⟩
     rw [hr66] at hc64
     have hv67 := (MatN.at (i := i) (j := j) (hN38.ext (e42.trans (g46.ext.trans (e50.trans (e52.trans (g56.ext.trans e58)))))) (by rw [hsq38.1]; omega) (by rw [hsq38.2 i xq]; omega))
     rw [hr66] at hv67
     refine zyl 94 (r65.cs) hc64 ty26 (zza 95 (.v y27.v) (zza 96 (zI j) ?_))
     have hl68 := ((hs27.ext (e31.trans (g35.ext.trans (e37.trans (g40.ext.trans (e42.trans (g46.ext.trans (e50.trans (e52.trans (g56.ext.trans e58))))))))))).1
     obtain ⟨b68, o68, hA68, hc68⟩ := ints_at (hs27.ext (e31.trans (g35.ext.trans (e37.trans (g40.ext.trans (e42.trans (g46.ext.trans (e50.trans (e52.trans (g56.ext.trans e58)))))))))) (i := j) xq
     have hz68 := ints_bd (fun z9 hz9 => by have h9 := hal27 z9 hz9; omega) xq j
     refine zzz 97 (o68 + j * 1) (n := y27.n) (off := o68) (sz := 1) (i := (j : Int)) xq hA68 xq xq sl30 (zyk 98 (.int .i64 (m27.getD j 0)) hc68 ty3 (zzg 99 30 [.int .i64 (m27.getD j 0)] ?_))
     intro w69 u69 e69 d69
     have k74 := k_rqOf d69 (z := (m27.getD j 0)) xq xq
     with_reducible refine zPm k74 ?_
     rintro _ u72 g73 ⟨r70, rfl, h71⟩
     refine zzg 100 25 [r65.v, r70.v] ?_
     intro w75 u75 e75 d75
     have k80 := k_rqMul d75 (hv67.ext (e69.trans (g73.ext.trans e75))).raw (h71.ext e75).raw xq xq
     with_reducible refine zPm k80 ?_
     rintro _ u78 g79 ⟨r76, rfl, h77⟩
     refine zzg 101 57 [rs.v, r76.v] ?_
     intro w81 u81 e81 d81
     have k86 := k_rqAdd d81 (f0.ext (e69.trans (g73.ext.trans (e75.trans (g79.ext.trans e81))))).raw (h77.ext e81).raw xq xq
     with_reducible refine zPm k86 ?_
     rintro _ u84 g85 ⟨r82, rfl, h83⟩
     refine zzi ⟨26, r82.cs⟩ ty26 ?_
     refine zzw ?_
     refine zzo (zzf (zza 85 (zI j) (zyp 86 (x := zI (IntKind.i64.wrap ((j : Int) + 1))) (zI (j + 1 : Nat)) (eqI xz) (zza 16 (zI (j + 1 : Nat)) (zzw ?_)))))
     refine ⟨_, ?_, _, by exact zzu _ _ _, j + 1, r82, rfl, by omega, rfl, (e58.trans (e69.trans (g73.ext.trans (e75.trans (g79.ext.trans (e81.trans g85.ext)))))), (RatN.more (K := ((200 * j + 10) + (100 + 2 + 1) + 2)) (by exact h83) xq)⟩
     omega
    ·exact absurd hb (by rw [show (decide ((j : Int) < (((Rs38.getD i sl0).n : Nat) : Int))) = true from decide_eq_true xq]; decide)
   ·refine zyp 76 (x := zB (decide ((j : Int) < ((2 + z12 : Nat) : Int)))) (zB false) (by rw [hs59]) ?_
    have qhs59 := of_decide_eq_false hs59
    refine zzm 77 (uw 3 true false 76) (zzm 78 (uw 3 true false 76) (zzm 79 (uw 3 true false 76) (zzm 80 (uw 3 true false 76) (zzm 81 (uw 3 true false 76) (zzm 82 (uw 3 true false 76) (zzm 83 (uw 3 true false 76) (zza 84 (zB false) (zzb (zyr xj (zyb (zzo ?_)))))))))))
    refine zzd ?_
    have hsum : RatN u58 rs (Nt.dotI (Nt.linM (2 + z12) S19) i m27 (2 + z12)) (200 * j + 10) := by have h9 := f0; rw [show j = 2 + z12 by omega] at h9 ⊢; exact h9
    refine zzy [0, 0, 3, 7, 15, 0, 63, 127, 0, 511, 1023] [(0, []), (1, []), (2, []), (3, []), (5, []), (8, []), (4, []), (6, []), (7, []), (9, []), (10, [])] xj xj (zza 102 (.v z32.v) (zza 103 (zI i) ?_))
    have hl87 := ((hz33.ext (e37.trans (g40.ext.trans (e42.trans (g46.ext.trans (e50.trans (e52.trans (g56.ext.trans e58))))))))).1
    obtain ⟨b87, o87, hA87, hc87⟩ := ints_at (hz33.ext (e37.trans (g40.ext.trans (e42.trans (g46.ext.trans (e50.trans (e52.trans (g56.ext.trans e58)))))))) (i := i) xq
    have hz87 := ints_bd (Nt.fwd_mem (S := S19) (l := m27)) xq i
    refine zzz 104 (o87 + i * 1) (n := z32.n) (off := o87) (sz := 1) (i := (i : Int)) xq hA87 xq xq sl30 (zyk 105 (.int .i64 ((Nt.fwdL S19 m27).getD i 0)) hc87 ty3 (zzh 107 (.v (rs.v)) ty26 zze (zzh 110 (.v (r43.v)) ty26 zze (zzg 106 30 [.int .i64 ((Nt.fwdL S19 m27).getD i 0)] ?_))))
    intro w88 u88 e88 d88
    have k93 := k_rqOf d88 (z := ((Nt.fwdL S19 m27).getD i 0)) xq xq
    with_reducible refine zPm k93 ?_
    rintro _ u91 g92 ⟨r89, rfl, h90⟩
    refine zzg 108 58 [r89.v, rs.v] ?_
    intro w94 u94 e94 d94
    have k99 := k_rqSub d94 (h90.ext e94).raw (hsum.ext (e88.trans (g92.ext.trans e94))).raw xq xq
    with_reducible refine zPm k99 ?_
    rintro _ u97 g98 ⟨r95, rfl, h96⟩
    refine zzg 109 23 [r95.v] ?_
    intro w100 u100 e100 d100
    have k105 := k_rqAbs d100 (h96.ext e100).raw xq
    with_reducible refine zPm k105 ?_
    rintro _ u103 g104 ⟨r101, rfl, h102⟩
    refine zzg 111 28 [r101.v, r43.v] ?_
    intro w106 u106 e106 d106
    have k109 := k_rqCompare d106 (h102.ext e106).raw (h44.ext (e50.trans (e52.trans (g56.ext.trans (e58.trans (e88.trans (g92.ext.trans (e94.trans (g98.ext.trans (e100.trans (g104.ext.trans e106))))))))))).raw xq xq
    with_reducible refine zPm k109 ?_
    rintro _ u107 g108 rfl
    refine zza 112 (zB (decide ((0 : Int) < (Nt.cmpQ (Nt.absQ (((((Nt.fwdL S19 m27).getD i 0) : Int) : Rat) - (Nt.dotI (Nt.linM (2 + z12) S19) i m27 (2 + z12)))) (Nt.mxL (Nt.spL (2 + z12) S19)))))) (zzc 114 [(5, zI (2 + z12 : Nat)), (7, .v y27.v), (8, .v z32.v), (10, .v y38.v), (12, .adr 12 0), (14, zI i), (112, zB (decide ((0 : Int) < (Nt.cmpQ (Nt.absQ (((((Nt.fwdL S19 m27).getD i 0) : Int) : Rat) - (Nt.dotI (Nt.linM (2 + z12) S19) i m27 (2 + z12)))) (Nt.mxL (Nt.spL (2 + z12) S19))))))] [(12, ⟨26, r43.cs⟩)] (zzt (b := decide ((0 : Int) < (Nt.cmpQ (Nt.absQ (((((Nt.fwdL S19 m27).getD i 0) : Int) : Rat) - (Nt.dotI (Nt.linM (2 + z12) S19) i m27 (2 + z12)))) (Nt.mxL (Nt.spL (2 + z12) S19))))) xj (fun hb => ?_) (fun hb => ?_)))
    ·exact absurd hb (by rw [show (decide ((0 : Int) < (Nt.cmpQ (Nt.absQ (((((Nt.fwdL S19 m27).getD i 0) : Int) : Rat) - (Nt.dotI (Nt.linM (2 + z12) S19) i m27 (2 + z12)))) (Nt.mxL (Nt.spL (2 + z12) S19))))) = false from (by rw [Nt.cmpQ_gt]; exact decide_eq_false (Rat.not_lt.2 (hnear i xq)))]; decide)
    ·clear hb
     refine zzr (zzo ?_)
     refine zzf (zza 70 (zI i) (zyp 71 (x := zI (IntKind.i64.wrap ((i : Int) + 1))) (zI (i + 1 : Nat)) (eqI xz) (zza 14 (zI (i + 1 : Nat)) (zzw ?_))))
     refine ⟨_, ?_, _, by exact zzu _ _ _, i + 1, rfl, by omega, rfl, (e50.trans (e52.trans (g56.ext.trans (e58.trans (e88.trans (g92.ext.trans (e94.trans (g98.ext.trans (e100.trans (g104.ext.trans (e106.trans g108.ext)))))))))))⟩
     omega
  ·replace hb51 : (decide ((i : Int) < ((2 + z12 : Nat) : Int))) = false := hb51
   have qhb51 := of_decide_eq_false hb51
   refine zyb (zzo (sq9 (zzg 113 51 [] ?_)))
   intro w110 u110 e110 d110
   have k113 := k_known37 d110
   with_reducible refine zPm k113 ?_
   rintro _ u111 g112 rfl
   refine zza 4 (zB true) (zzb (zzn (ret0 [.bool true] ⟨zzp, trivial⟩ fun u114 e115 => ?_)))
   rfl
end Go.Proofs.YtbolmkfphieogaaGreat
