/- Stability without circles: what is bounded passes the steps down. Stability of lists: the steps down, with or without a failure; products of sections. A cascade is stable exactly if its sections are. Steps down that fail. Printed by wip/sym/g_kh.py. CascadeIsStable. Printed by wip/sym/g_kn.py. -/
import Derived.Test.YtdmpfhhhlhoeiaaCstD
namespace Go.Proofs.Ytdmpfhhhlhoeiaa
set_option linter.unusedVariables false
namespace Nt
section
variable {a b y z x : Nat → Rat} {n m N M i j d : Nat} {k C : Rat}
def sf (i : Nat) (y : Nat → Rat) (n : Nat) : Rat := if n < i then 0 else y (n - i)
theorem cv_fin (ha : ∀ i, M < i → a i = 0) : cv a y n = su (fun i => a i * sf i y n) (M + 1) := by
 have h1 : su (fun i => a i * sf i y n) (n + 1 + M) = cv a y n := by
  rw [su_split, su_0 (f := fun i => a (n + 1 + i) * sf (n + 1 + i) y n) (fun i _ => by unfold sf; rw [if_pos xq]; grind)]
  have : su (fun i => a i * sf i y n) (n + 1) = cv a y n := su_congr (fun i hi => by unfold sf; rw [if_neg xq])
  rw [this]; grind
 have h2 : su (fun i => a i * sf i y n) (M + 1 + n) = su (fun i => a i * sf i y n) (M + 1) := by
  rw [su_split (f := fun i => a i * sf i y n), su_0 (f := fun i => a (M + 1 + i) * sf (M + 1 + i) y n) (fun i _ => by rw [ha _ xq]; grind)]
  grind
 rw [← h1, ← h2]; congr 1; omega
def cr (y : Nat → Rat) (T i j : Nat) : Rat := su (fun n => sf i y n * sf j y n) T
theorem cr_comm (T : Nat) : cr y T i j = cr y T j i := su_congr (fun n _ => Rat.mul_comm _ _)
theorem cr_le (hy : ∀ n, N ≤ n → y n = 0) (hij : i ≤ j) (hj : j ≤ M) : cr y (N + M) i j = su (fun n => y (n + (j - i)) * y n) N := by
 unfold cr
 obtain ⟨e, rfl⟩ : ∃ e, M = j + e := ⟨M - j, by omega⟩
 rw [show N + (j + e) = j + (N + e) by omega, su_split, su_0 (n := j) (fun n hn => by unfold sf; rw [if_pos hn]; grind), su_split N e]
 rw [su_0 (f := fun n => sf i y (j + (N + n)) * sf j y (j + (N + n))) (fun n _ => by
  have : sf j y (j + (N + n)) = 0 := by unfold sf; rw [if_neg xq]; exact hy _ xq
  rw [this]; grind)]
 have e9 : su (fun n => sf i y (j + n) * sf j y (j + n)) N = su (fun n => y (n + (j - i)) * y n) N := su_congr (fun n _ => by
  unfold sf; rw [if_neg xq, if_neg xq, show j + n - i = n + (j - i) by omega, Nat.add_sub_cancel_left])
 rw [e9]; grind
theorem cr_rev (hy : ∀ n, N ≤ n → y n = 0) (hi : i ≤ M) (hj : j ≤ M) : cr y (N + M) (M - i) (M - j) = cr y (N + M) i j := by
 rcases Nat.le_total i j with h | h
 ·rw [cr_le hy h hj, cr_comm, cr_le hy (show M - j ≤ M - i by omega) xq]
  congr 1; funext n; rw [show M - i - (M - j) = j - i by omega]
 ·rw [cr_comm (i := i), cr_le hy h hi, cr_le hy (show M - i ≤ M - j by omega) xq]
  congr 1; funext n; rw [show M - j - (M - i) = i - j by omega]
theorem en_cr {T : Nat} (ha : ∀ i, M < i → a i = 0) : en (cv a y) T = su (fun i => su (fun j => a i * a j * cr y T i j) (M + 1)) (M + 1) := by
 have e1 : en (cv a y) T = su (fun n => su (fun i => su (fun j => a i * a j * (sf i y n * sf j y n)) (M + 1)) (M + 1)) T := su_congr (fun n _ => by
  rw [cv_fin ha, ← su_mul]
  refine su_congr (fun i _ => ?_)
  rw [Rat.mul_comm, ← su_mul]
  exact su_congr (fun j _ => by grind))
 rw [e1, su_swap]
 refine su_congr (fun i _ => ?_)
 rw [su_swap]
 refine su_congr (fun j _ => ?_)
 rw [su_mul]; rfl
theorem rv_fin (i : Nat) (h : M < i) : rv M a i = 0 := if_neg xq
theorem iso (hy : ∀ n, N ≤ n → y n = 0) (ha : ∀ i, M < i → a i = 0) : en (cv (rv M a) y) (N + M) = en (cv a y) (N + M) := by
 rw [en_cr ha, en_cr (a := rv M a) (M := M) (fun i h => rv_fin i h), ← su_rev (n := M)]
 refine su_congr (fun i hi => ?_)
 rw [← su_rev (n := M)]
 refine su_congr (fun j hj => ?_)
 rw [cr_rev hy xq xq]
 unfold rv
 rw [if_pos xq, if_pos xq, show M - (M - i) = i by omega, show M - (M - j) = j by omega]
def sol (a x : Nat → Rat) : Nat → List Rat
 | 0 => []
 | n + 1 => sol a x n ++ [x n - su (fun i => a (i + 1) * (sol a x n).getD (n - 1 - i) 0) n]
theorem sol_len : (sol a x n).length = n := by
 induction n with
 | zero => rfl
 | succ n ih => unfold sol; rw [List.length_append, ih]; rfl
theorem sol_get (h : j < n) : (sol a x n).getD j 0 = (sol a x (j + 1)).getD j 0 := by
 induction n with
 | zero => omega
 | succ n ih =>
  by_cases e : j = n
  ·rw [e]
  ·rw [← ih xq]
   rw [sol, List.getD_eq_getElem?_getD, List.getElem?_append_left (by rw [sol_len]; omega), ← List.getD_eq_getElem?_getD]
def so (a x : Nat → Rat) (n : Nat) : Rat := (sol a x (n + 1)).getD n 0
theorem so_eq : so a x n = x n - su (fun i => a (i + 1) * so a x (n - 1 - i)) n := by
 unfold so
 rw [sol, List.getD_eq_getElem?_getD, List.getElem?_append_right (by rw [sol_len]; exact Nat.le_refl _), sol_len, Nat.sub_self]
 show x n - su _ n = _
 rw [su_congr (fun i hi => by rw [sol_get (j := n - 1 - i) (n := n) xq])]
theorem so_cv (h0 : a 0 = 1) : cv a (so a x) n = x n := by
 unfold cv
 rw [su_head, h0, Nat.sub_zero, so_eq, su_congr (f := fun i => a (i + 1) * so a x (n - (i + 1))) (g := fun i => a (i + 1) * so a x (n - 1 - i)) (fun i _ => by rw [show n - (i + 1) = n - 1 - i by omega])]
 grind
theorem cv_uniq (h0 : a 0 = 1) (h : ∀ i, i < N → cv a y i = cv a z i) : ∀ i, i < N → y i = z i := by
 intro i
 induction i using Nat.strongRecOn with
 | ind i ih =>
  intro hi
  have h1 := h i hi
  unfold cv at h1
  rw [su_head, su_head, h0, Nat.sub_zero] at h1
  rw [su_congr (f := fun j => a (j + 1) * y (i - (j + 1))) (g := fun j => a (j + 1) * z (i - (j + 1))) (fun j hj => by rw [ih (i - (j + 1)) xq xq])] at h1
  grind
theorem cv_left0 (hy : y 0 = 1) (h : ∀ n, cv a y n = 0) : ∀ i, a i = 0 := by
 intro i
 induction i using Nat.strongRecOn with
 | ind i ih =>
  have h1 := h i
  unfold cv at h1
  rw [su_s, su_0 (fun j hj => by rw [ih j hj]; grind), Nat.sub_self, hy] at h1
  grind
theorem arch {e E : Rat} (he : 0 < e) : ∃ k : Nat, E < ((k : Int) : Rat) * e := by
 refine ⟨((E / e).floor + 1).toNat, ?_⟩
 have h1 : E / e < (((E / e).floor + 1 : Int) : Rat) := Rat.lt_floor_add_one _
 have h2 : (((E / e).floor + 1 : Int) : Rat) ≤ ((((E / e).floor + 1).toNat : Int) : Rat) := Rat.intCast_le_intCast.2 (Int.self_le_toNat _)
 have h3 : E / e < ((((E / e).floor + 1).toNat : Int) : Rat) := Std.lt_of_lt_of_le h1 h2
 exact (Rat.div_lt_iff he).1 h3
theorem tail {f : Nat → Rat} {E e : Rat} (hf : ∀ i, 0 ≤ f i) (hE : ∀ n, su f n ≤ E) (he : 0 < e) (N0 M : Nat) : ∃ T, N0 ≤ T ∧ su (fun i => f (T + i)) M ≤ e := by
 apply Classical.byContradiction
 intro hn
 have h1 : ∀ T, N0 ≤ T → e < su (fun i => f (T + i)) M := fun T hT => by
  apply Classical.byContradiction
  intro h2
  exact hn ⟨T, hT, Rat.not_lt.1 h2⟩
 have h2 : ∀ k : Nat, ((k : Int) : Rat) * e ≤ su f (N0 + k * M) := fun k => by
  induction k with
  | zero => have := su_nn (f := f) (n := N0 + 0 * M) (fun i _ => hf i); grind
  | succ k ih =>
   have h3 := h1 (N0 + k * M) xq
   rw [Nat.succ_mul, ← Nat.add_assoc, su_split]
   have e1 : (((k + 1 : Nat) : Int) : Rat) = ((k : Int) : Rat) + 1 := by rw [Int.natCast_add, Rat.intCast_add]; rfl
   rw [e1]; grind
 obtain ⟨k, hk⟩ := arch (E := E) he
 have h3 := h2 k
 have h4 := hE (N0 + k * M)
 grind
def cu (N : Nat) (y : Nat → Rat) (n : Nat) : Rat := if n < N then y n else 0
theorem cu_lt (h : n < N) : cu N y n = y n := if_pos h
theorem cu_ge (h : N ≤ n) : cu N y n = 0 := if_neg xq
theorem cut_small {B : Rat} (ha : ∀ i, M < i → a i = 0) (hB : ∀ y N, en (cv a y) N ≤ B * en y N) (T : Nat) : su (fun n => cv a (cu (T + M) y) (T + M + n) * cv a (cu (T + M) y) (T + M + n)) M ≤ B * su (fun i => y (T + i) * y (T + i)) M := by
 have h1 := hB (fun n => cu (T + M) y (T + n)) (M + M)
 have h2 : en (fun n => cu (T + M) y (T + n)) (M + M) = su (fun i => y (T + i) * y (T + i)) M := by
  unfold en
  rw [su_split, su_0 (f := fun n => cu (T + M) y (T + (M + n)) * cu (T + M) y (T + (M + n))) (fun n _ => by rw [cu_ge xq]; grind), su_congr (f := fun n => cu (T + M) y (T + n) * cu (T + M) y (T + n)) (g := fun i => y (T + i) * y (T + i)) (fun n hn => by rw [cu_lt xq])]
  grind
 have h3 : en (cv a fun n => cu (T + M) y (T + n)) (M + M) = su (fun i => cv a (fun n => cu (T + M) y (T + n)) i * cv a (fun n => cu (T + M) y (T + n)) i) M + su (fun n => cv a (cu (T + M) y) (T + M + n) * cv a (cu (T + M) y) (T + M + n)) M := by
  unfold en
  rw [su_split]
  congr 1
  refine su_congr (fun n hn => ?_)
  have e : cv a (fun n => cu (T + M) y (T + n)) (M + n) = cv a (cu (T + M) y) (T + M + n) := by
   rw [cv_fin ha, cv_fin ha]
   refine su_congr (fun i hi => ?_)
   unfold sf
   rw [if_neg xq, if_neg xq]
   show a i * cu (T + M) y (T + (M + n - i)) = _
   rw [show T + (M + n - i) = T + M + n - i by omega]
  rw [e]
 have h4 : 0 ≤ su (fun i => cv a (fun n => cu (T + M) y (T + n)) i * cv a (fun n => cu (T + M) y (T + n)) i) M := su_nn (fun i _ => sq0 _)
 rw [h2, h3] at h1
 grind
theorem rat_le_of {p q c : Rat} (hc : 0 ≤ c) (h : ∀ e, 0 < e → p ≤ q + c * e) : p ≤ q := by
 apply Classical.byContradiction
 intro hn
 have hd : 0 < p - q := by grind
 have hc1 : 0 < 2 * (c + 1) := by grind
 have h1 := h ((p - q) * (2 * (c + 1))⁻¹) (Rat.mul_pos hd (Rat.inv_pos.2 hc1))
 have h2 : (2 * (c + 1))⁻¹ * (2 * (c + 1)) = 1 := Rat.inv_mul_cancel _ (by grind)
 have h3 : 0 < (2 * (c + 1))⁻¹ := Rat.inv_pos.2 hc1
 have h4 : 0 < (p - q) * (2 * (c + 1))⁻¹ := Rat.mul_pos hd h3
 have h5 : c * ((p - q) * (2 * (c + 1))⁻¹) * 2 ≤ p - q := by
  have : (p - q) * ((2 * (c + 1))⁻¹ * (2 * (c + 1))) = p - q := by rw [h2]; grind
  grind
 grind
theorem OB.pa (h0 : a 0 = 1) (ha : ∀ i, M < i → a i = 0) (h : OB a) : PA M a := fun y N => by
 obtain ⟨C, hC, h⟩ := h
 obtain ⟨B, hB, hb⟩ := cv_bd (M + 1) a (fun i hi => ha i xq)
 have hx : ∀ T, en (cu N (cv a y)) T ≤ en (cv a y) N := fun T => by
  have e1 : en (cu N (cv a y)) N = en (cv a y) N := en_congr (fun i hi => cu_lt hi)
  rcases Nat.le_total T N with h1 | h1
  ·exact Rat.le_trans (en_mono h1) (by rw [e1]; exact Rat.le_refl)
  ·obtain ⟨e, rfl⟩ : ∃ e, T = N + e := ⟨T - N, by omega⟩
   have : en (cu N (cv a y)) (N + e) = en (cu N (cv a y)) N := by
    unfold en
    rw [su_split, su_0 (f := fun i => cu N (cv a y) (N + i) * cu N (cv a y) (N + i)) (fun i _ => by rw [cu_ge xq]; grind)]; grind
   rw [this, e1]; exact Rat.le_refl
 have hy : ∀ i, i < N → so a (cu N (cv a y)) i = y i := cv_uniq h0 (fun i hi => by rw [so_cv h0, cu_lt hi])
 have hz : ∀ T, en (so a (cu N (cv a y))) T ≤ C * en (cv a y) N := fun T => by
  refine Rat.le_trans (h _ T) (Rat.mul_le_mul_of_nonneg_left ?_ hC)
  rw [en_congr (y := cv a (so a (cu N (cv a y)))) (z := cu N (cv a y)) (fun i _ => so_cv h0)]
  exact hx T
 have e1 : en (cv (rv M a) y) N = en (cv (rv M a) (so a (cu N (cv a y)))) N := en_congr (fun i hi => cv_congr (fun _ _ => rfl) (fun j hj => (hy j xq).symm))
 rw [e1]
 generalize hZ : so a (cu N (cv a y)) = Z at *
 refine rat_le_of hB (fun e he => ?_)
 obtain ⟨T, hT, ht⟩ := tail (f := fun i => Z i * Z i) (fun i => sq0 _) hz he N M
 have g1 := cut_small (y := Z) ha hb T
 have g2 := iso (a := a) (y := cu (T + M) Z) (N := T + M) (M := M) (fun n hn => cu_ge hn) ha
 have g3 : en (cv (rv M a) Z) N ≤ en (cv (rv M a) (cu (T + M) Z)) (T + M + M) := by
  rw [en_congr (y := cv (rv M a) Z) (z := cv (rv M a) (cu (T + M) Z)) (fun i hi => cv_congr (fun _ _ => rfl) (fun j hj => (cu_lt xq).symm))]
  exact en_mono xq
 have g4 : en (cv a (cu (T + M) Z)) (T + M + M) = en (cv a (cu (T + M) Z)) (T + M) + su (fun n => cv a (cu (T + M) Z) (T + M + n) * cv a (cu (T + M) Z) (T + M + n)) M := su_split _ _
 have g5 : en (cv a (cu (T + M) Z)) (T + M) ≤ en (cv a y) N := by
  rw [en_congr (y := cv a (cu (T + M) Z)) (z := cu N (cv a y)) (fun i hi => by rw [cv_congr (a := a) (b := a) (y := cu (T + M) Z) (z := Z) (fun _ _ => rfl) (fun j hj => cu_lt xq), ← hZ, so_cv h0])]
  exact hx _
 have g6 := Rat.mul_le_mul_of_nonneg_left ht hB
 grind
theorem Step.down (s : Step m a b k) (h0 : a 0 = 1) (ha : ∀ i, m + 1 < i → a i = 0) (hk : k * k < 1) (h : OB a) : OB b := by
 have hp := h.pa h0 ha
 obtain ⟨C, hC, h⟩ := h
 refine ⟨4 * C, by grind, fun y N => ?_⟩
 have h1 := s.en (y := y) N
 have h2 := hp y N
 have h3 : Nt.en (sh (cv (rv m b) y)) N ≤ Nt.en (cv b y) N := by
  apply Classical.byContradiction
  intro hn
  have := Rat.mul_pos (show 0 < 1 - k * k by grind) (show 0 < Nt.en (sh (cv (rv m b) y)) N - Nt.en (cv b y) N by grind)
  grind
 have h4 : Nt.en (cv a y) N ≤ su (fun i => 2 * (cv b y i * cv b y i) + 2 * (k * k) * (sh (cv (rv m b) y) i * sh (cv (rv m b) y) i)) N := su_le (fun i _ => by
  rw [s.u i]
  have := sq0 (cv b y i - k * sh (cv (rv m b) y) i)
  grind)
 rw [su_add, su_mul, su_mul] at h4
 have h5 : 0 ≤ (1 - k * k) * Nt.en (sh (cv (rv m b) y)) N := Rat.mul_nonneg (by grind) en_nn
 have h6 : Nt.en (cv a y) N ≤ 4 * Nt.en (cv b y) N := by unfold Nt.en at *; grind
 have h7 := Rat.mul_le_mul_of_nonneg_left h6 hC
 have h8 := h y N
 grind
theorem OB.last (h0 : a 0 = 1) (ha : ∀ i, m + 1 < i → a i = 0) (h : OB a) : a (m + 1) * a (m + 1) < 1 := by
 have hp := h.pa h0 ha
 have r0 : rv (m + 1) a 0 = a (m + 1) := by unfold rv; rw [if_pos (Nat.zero_le _)]; rfl
 have hD : ∀ n, cv a (so a fun n => if n = 0 then 1 else 0) n = if n = 0 then 1 else 0 := fun n => so_cv h0
 obtain ⟨C, hC, h⟩ := h
 generalize hY : (so a fun n => if n = 0 then 1 else 0) = Y at hD
 have y0 : Y 0 = 1 := by have := hD 0; rw [cv_0, h0] at this; simpa using this
 have eD : ∀ N, en (cv a Y) (N + 1) = 1 := fun N => by
  unfold en
  rw [su_head, su_0 (fun i _ => by rw [hD]; simp), hD]; simp; grind
 apply Classical.byContradiction
 intro hk
 have v0 : cv (rv (m + 1) a) Y 0 = a (m + 1) := by rw [cv_0, r0, y0, Rat.mul_one]
 have hz : ∀ n, cv (rv (m + 1) a) Y (n + 1) = 0 := fun n => by
  have h1 := hp Y (n + 2)
  rw [eD] at h1
  unfold en at h1
  rw [su_s, su_head, v0] at h1
  have h2 : 0 ≤ su (fun i => cv (rv (m + 1) a) Y (i + 1) * cv (rv (m + 1) a) Y (i + 1)) n := su_nn (fun i _ => sq0 _)
  have h3 := sq0 (cv (rv (m + 1) a) Y (n + 1))
  have h4 : cv (rv (m + 1) a) Y (n + 1) * cv (rv (m + 1) a) Y (n + 1) = 0 := by grind
  exact (Rat.mul_eq_zero.1 h4).elim id id
 have hk1 : a (m + 1) * a (m + 1) = 1 := by
  have h1 := hp Y 1
  rw [eD 0] at h1
  unfold en at h1
  rw [su_head, v0] at h1
  have : su (fun i => cv (rv (m + 1) a) Y (i + 1) * cv (rv (m + 1) a) Y (i + 1)) 0 = 0 := rfl
  grind
 have hr : ∀ i, rv (m + 1) a i = a (m + 1) * a i := by
  have h1 : ∀ i, (fun i => -a (m + 1) * a i + rv (m + 1) a i) i = 0 := cv_left0 (y := Y) y0 (fun n => by
   rw [cv_lin, hD]
   cases n with
   | zero => rw [v0]; simp; grind
   | succ n => rw [hz]; simp; grind)
  intro i
  have := h1 i
  grind
 obtain ⟨B, hB, hb⟩ := cv_bd (m + 2) a (fun i hi => ha i xq)
 have hE : ∀ n, su (fun i => Y i * Y i) n ≤ C := fun n => by
  have h1 := h Y (n + 1)
  rw [eD, Rat.mul_one] at h1
  exact Rat.le_trans (en_mono (Nat.le_succ n)) h1
 obtain ⟨T, hT, ht⟩ := tail (f := fun i => Y i * Y i) (fun i => sq0 _) hE (show 0 < (2 * (B + 1))⁻¹ from Rat.inv_pos.2 (by grind)) 1 (m + 1)
 have g1 := cut_small (y := Y) ha hb T
 have gB := Rat.mul_le_mul_of_nonneg_left ht hB
 have gi : (2 * (B + 1))⁻¹ * (2 * (B + 1)) = 1 := Rat.inv_mul_cancel _ (by grind)
 generalize hc : cu (T + (m + 1)) Y = y at *
 have hy : ∀ n, T + (m + 1) ≤ n → y n = 0 := fun n hn => by rw [← hc]; exact cu_ge hn
 have hyl : ∀ n, n < T + (m + 1) → y n = Y n := fun n hn => by rw [← hc]; exact cu_lt hn
 have hcv : ∀ n, n < T + (m + 1) → cv a y n = if n = 0 then 1 else 0 := fun n hn => by
  rw [← hD n]; exact cv_congr (fun _ _ => rfl) (fun j hj => hyl j xq)
 -- the two correlations
 have cG : ∀ j, su (fun n => cv a y n * sf j y n) (T + (m + 1) + (m + 1)) = su (fun i => a i * cr y (T + (m + 1) + (m + 1)) i j) (m + 1 + 1) := fun j => by
  have e1 : su (fun n => cv a y n * sf j y n) (T + (m + 1) + (m + 1)) = su (fun n => su (fun i => a i * (sf i y n * sf j y n)) (m + 1 + 1)) (T + (m + 1) + (m + 1)) := su_congr (fun n _ => by
   rw [cv_fin ha, Rat.mul_comm, ← su_mul]
   exact su_congr (fun i _ => by grind))
  rw [e1, su_swap]
  exact su_congr (fun i _ => by rw [su_mul]; rfl)
 have cGr : su (fun i => a i * cr y (T + (m + 1) + (m + 1)) i (m + 1)) (m + 1 + 1) = a (m + 1) * su (fun i => a i * cr y (T + (m + 1) + (m + 1)) i 0) (m + 1 + 1) := by
  rw [← su_rev, ← su_mul]
  refine su_congr (fun i hi => ?_)
  have h1 := hr i
  unfold rv at h1
  rw [if_pos xq] at h1
  have h2 := cr_rev (N := T + (m + 1)) (M := m + 1) (i := i) (j := 0) hy xq (Nat.zero_le _)
  rw [Nat.sub_zero] at h2
  rw [h1, h2]; grind
 have G0 : su (fun n => cv a y n * sf 0 y n) (T + (m + 1) + (m + 1)) = 1 := by
  rw [su_split, su_0 (f := fun i => cv a y (T + (m + 1) + i) * sf 0 y (T + (m + 1) + i)) (fun i _ => by
   have : sf 0 y (T + (m + 1) + i) = 0 := by unfold sf; rw [if_neg xq]; exact hy _ xq
   rw [this]; grind)]
  obtain ⟨t, rfl⟩ : ∃ t, T = t + 1 := ⟨T - 1, by omega⟩
  rw [show t + 1 + (m + 1) = (t + (m + 1)) + 1 by omega, su_head, su_0 (fun i hi => by rw [hcv _ xq]; simp)]
  have e1 : sf 0 y 0 = 1 := by unfold sf; rw [if_neg xq, hyl _ xq]; exact y0
  rw [e1, hcv 0 xq]; simp; grind
 have Gm : su (fun n => cv a y n * sf (m + 1) y n) (T + (m + 1) + (m + 1)) = su (fun n => cv a y (T + (m + 1) + n) * Y (T + n)) (m + 1) := by
  rw [su_split, su_0 (n := T + (m + 1)) (fun i hi => by
   rw [hcv i hi]
   by_cases e : i = 0
   ·have : sf (m + 1) y i = 0 := by unfold sf; rw [if_pos xq]
    rw [this]; grind
   ·rw [if_neg e]; grind)]
  have e1 : su (fun i => cv a y (T + (m + 1) + i) * sf (m + 1) y (T + (m + 1) + i)) (m + 1) = su (fun n => cv a y (T + (m + 1) + n) * Y (T + n)) (m + 1) := su_congr (fun i hi => by
   have : sf (m + 1) y (T + (m + 1) + i) = Y (T + i) := by unfold sf; rw [if_neg xq, hyl _ xq]; congr 1; omega
   rw [this])
  rw [e1]; grind
 rw [← cG, ← cG, G0, Gm, Rat.mul_one] at cGr
 have b1 : su (fun n => cv a y (T + (m + 1) + n) * Y (T + n)) (m + 1) * 2 ≤ su (fun n => cv a y (T + (m + 1) + n) * cv a y (T + (m + 1) + n)) (m + 1) + su (fun i => Y (T + i) * Y (T + i)) (m + 1) := by
  rw [← su_add, Rat.mul_comm, ← su_mul]
  exact su_le (fun i _ => by have := sq0 (cv a y (T + (m + 1) + i) - Y (T + i)); grind)
 have b2 : su (fun n => cv a y (T + (m + 1) + n) * Y (T + n)) (m + 1) * (-2) ≤ su (fun n => cv a y (T + (m + 1) + n) * cv a y (T + (m + 1) + n)) (m + 1) + su (fun i => Y (T + i) * Y (T + i)) (m + 1) := by
  rw [← su_add, Rat.mul_comm, ← su_mul]
  exact su_le (fun i _ => by have := sq0 (cv a y (T + (m + 1) + i) + Y (T + i)); grind)
 rw [cGr] at b1 b2
 have b3 : B * (2 * (B + 1))⁻¹ + (2 * (B + 1))⁻¹ = 1 / 2 := by grind
 have h1 : a (m + 1) = 1 ∨ a (m + 1) = -1 := by
  have : (a (m + 1) - 1) * (a (m + 1) + 1) = 0 := by grind
  rcases Rat.mul_eq_zero.1 this with h | h
  ·exact .inl (by grind)
  ·exact .inr (by grind)
 rcases h1 with h1 | h1 <;> rw [h1] at b1 b2 <;> grind
end
end Nt
end Go.Proofs.Ytdmpfhhhlhoeiaa
namespace Go.Proofs.Ytdmpfhhhlhoeiaa
open Go.RowKit
set_option linter.unusedVariables false
namespace Nt
structure DownX (l : List Rat) (D : Nat → List Rat) (n t S : Nat) : Prop where
 len : l.length = n + 1
 nz : l.getD 0 0 ≠ 0
 top : D n = divS l (l.getD 0 0)
 dlen : ∀ m, m ≤ n → (D m).length = m + 1
 step : ∀ m, m < n → D m = dnS (D (m + 1)) (m + 1)
 small : ∀ m, t < m → m ≤ n → smallQ ((D m).getD m 0) = true
 bad : 1 ≤ t → smallQ ((D t).getD t 0) = false
 tn : t ≤ n
 sm : ∀ m, t ≤ m → m ≤ n → ∃ E A, Sm (D m) E A ∧ E ≤ 2 ^ A ∧ dg A ≤ S
theorem last_bad (P : Nat → Prop) (n : Nat) : ∃ t, t ≤ n ∧ (∀ m, t < m → m ≤ n → P m) ∧ (1 ≤ t → ¬ P t) := by
 induction n with
 | zero => exact ⟨0, Nat.le_refl _, fun m h1 h2 => by omega, fun h => by omega⟩
 | succ n ih =>
  by_cases h : P (n + 1)
  ·obtain ⟨t, h1, h2, h3⟩ := ih
   refine ⟨t, by omega, fun m g1 g2 => ?_, h3⟩
   by_cases e : m = n + 1
   ·rw [e]; exact h
   ·exact h2 m g1 xq
  ·exact ⟨n + 1, Nat.le_refl _, fun m g1 g2 => by omega, fun _ => h⟩
def stD (c : List Rat) (n : Nat) : Nat → List Rat
 | 0 => c
 | j + 1 => dnS (stD c n j) (n - j)
theorem small_sq {q : Rat} (h : smallQ q = true) : q * q < 1 := by
 obtain ⟨h1, h2⟩ := small_iff.1 h
 have := Rat.mul_pos (show 0 < 1 - q by grind) (show 0 < 1 + q by grind)
 grind
theorem sq_small {q : Rat} (h : q * q < 1) : smallQ q = true := by
 refine small_iff.2 ⟨?_, ?_⟩
 ·apply Classical.byContradiction
  intro hn
  have := Rat.mul_nonneg (show 0 ≤ -1 - q by grind) (show 0 ≤ 1 - q by grind)
  grind
 ·apply Classical.byContradiction
  intro hn
  have := Rat.mul_nonneg (show 0 ≤ q - 1 by grind) (show 0 ≤ 1 + q by grind)
  grind
theorem sm_dn {l : List Rat} {E A m : Nat} (h : Sm l E A) (hE : E ≤ 2 ^ A) (hs : smallQ (l.getD m 0) = true) : ∃ F, Sm (dnS l m) F (2 * A + 1) ∧ F ≤ 2 ^ (2 * A + 1) := by
 obtain ⟨h0, h⟩ := h
 obtain ⟨z, hz, hzb⟩ := h m
 have hq := small_sq hs
 have hEp : (0 : Rat) < ((E : Int) : Rat) := by
  have : ((0 : Int) : Rat) < ((E : Int) : Rat) := Rat.intCast_lt_intCast.2 xq
  exact this
 have hzz : z * z < (E : Int) * E := by
  have h1 : (z : Rat) * (z : Rat) < ((E : Int) : Rat) * ((E : Int) : Rat) := by
   rw [← hz]
   have h2 := Rat.mul_pos (show 0 < 1 - co l m * co l m by unfold co; grind) (Rat.mul_pos hEp hEp)
   grind
  rw [← Rat.intCast_mul, ← Rat.intCast_mul] at h1
  exact Rat.intCast_lt_intCast.1 h1
 have hF : (((((E : Int) * E - z * z).toNat : Nat) : Int) : Rat) = ((E : Int) : Rat) * ((E : Int) : Rat) * (1 - co l m * co l m) := by
  rw [Int.toNat_of_nonneg xq, Rat.intCast_sub, Rat.intCast_mul, Rat.intCast_mul, ← hz]; grind
 have h2A : 2 ^ (2 * A + 1) = 2 * (2 ^ A * 2 ^ A) := by rw [Nat.pow_succ, Nat.two_mul A, Nat.pow_add]; omega
 have hEE : E * E ≤ 2 ^ A * 2 ^ A := Nat.mul_le_mul hE hE
 refine ⟨((E : Int) * E - z * z).toNat, ⟨by omega, fun j => ?_⟩, ?_⟩
 ·rw [hF]
  by_cases hj : j < m
  ·obtain ⟨x, hx, hxb⟩ := h j
   obtain ⟨y, hy, hyb⟩ := h (m - j)
   refine ⟨x * E - z * y, ?_, ?_⟩
   ·rw [show co (dnS l m) j = _ from dnS_at l hj, Rat.intCast_sub, Rat.intCast_mul, Rat.intCast_mul, ← hx, ← hy, ← hz]
    have e1 : ((1 : Int) : Rat) = 1 := rfl
    have hn : (1 - co l m * co l m : Rat) ≠ 0 := by unfold co; grind
    rw [e1]
    show (co l j - co l m * co l (m - j)) / (1 - co l m * co l m) * _ = _
    have := Rat.div_mul_cancel (a := co l j - co l m * co l (m - j)) hn
    generalize (co l j - co l m * co l (m - j)) / (1 - co l m * co l m) = Q at *
    grind
   ·have g1 : (x * (E : Int)).natAbs ≤ 2 ^ A * 2 ^ A := by rw [Int.natAbs_mul]; exact Nat.mul_le_mul hxb xq
    have g2 : (z * y).natAbs ≤ 2 ^ A * 2 ^ A := by rw [Int.natAbs_mul]; exact Nat.mul_le_mul hzb hyb
    omega
  ·rw [co_ge (by rw [dnS_len]; omega), Rat.zero_mul]; exact Wh.zero _
 ·have : 0 ≤ z * z := by
   rcases Int.le_total 0 z with h | h
   ·exact Int.mul_nonneg h h
   ·have := Int.mul_nonneg (show 0 ≤ -z by omega) (show 0 ≤ -z by omega); rw [Int.neg_mul_neg] at this; exact this
  have h9 : ((E : Int) * E) ≤ ((2 ^ A * 2 ^ A : Nat) : Int) := by exact_mod_cast hEE
  omega
theorem downX {c : List Rat} {n A E : Nat} (hl : c.length = n + 1) (h0 : c.getD 0 0 = 1) (hs : Sm c E A) (hE : E ≤ 2 ^ A) (hn : n ≤ 6) (hA : A ≤ 162) : ∃ D t, DownX c D n t 400 := by
 have e1 : divS c (c.getD 0 0) = c := by
  unfold divS
  rw [h0]
  have : (fun x : Rat => x / 1) = id := funext fun x => by rw [Rat.div_def]; grind
  rw [this, List.map_id]
 obtain ⟨t, ht, h1, h2⟩ := last_bad (fun m => smallQ ((stD c n (n - m)).getD m 0) = true) n
 have hsz : ∀ j, j + t ≤ n → ∃ F, Sm (stD c n j) F (2 ^ j * (A + 1) - 1) ∧ F ≤ 2 ^ (2 ^ j * (A + 1) - 1) := fun j => by
  induction j with
  | zero => intro _; exact ⟨E, by rw [show 2 ^ 0 * (A + 1) - 1 = A by omega]; exact hs, by rw [show 2 ^ 0 * (A + 1) - 1 = A by omega]; exact hE⟩
  | succ j ih =>
   intro hj
   obtain ⟨F, g1, g2⟩ := ih xq
   have g3 := h1 (n - j) xq xq
   have g4 : n - (n - j) = j := by omega
   simp only [g4] at g3
   obtain ⟨G, k1, k2⟩ := sm_dn g1 g2 g3
   have e : 2 * (2 ^ j * (A + 1) - 1) + 1 = 2 ^ (j + 1) * (A + 1) - 1 := by
    have : 0 < 2 ^ j * (A + 1) := Nat.mul_pos (Nat.pow_pos xw) xq
    rw [Nat.pow_succ, Nat.mul_right_comm]; omega
   rw [e] at k1 k2
   exact ⟨G, k1, k2⟩
 refine ⟨fun m => stD c n (n - m), t, hl, by rw [h0]; decide, by rw [e1, Nat.sub_self]; rfl, fun m hm => ?_, fun m hm => ?_, h1, fun h => by simpa using h2 h, ht, fun m g1 g2 => ?_⟩
 ·by_cases e : m = n
  ·rw [e, Nat.sub_self]; exact hl
  ·obtain ⟨j, hj⟩ : ∃ j, n - m = j + 1 := ⟨n - m - 1, by omega⟩
   show (stD c n (n - m)).length = _
   rw [hj]
   show (dnS _ _).length = _
   rw [dnS_len]; omega
 ·obtain ⟨j, hj⟩ : ∃ j, n - m = j + 1 := ⟨n - m - 1, by omega⟩
  show stD c n (n - m) = dnS (stD c n (n - (m + 1))) (m + 1)
  rw [hj, show n - (m + 1) = j by omega]
  show dnS _ (n - j) = _
  rw [show n - j = m + 1 by omega]
 ·obtain ⟨F, k1, k2⟩ := hsz (n - m) xq
  refine ⟨F, _, k1, k2, ?_⟩
  have p1 : 2 ^ (n - m) ≤ 2 ^ 6 := Nat.pow_le_pow_right xw xq
  have p2 : 2 ^ (n - m) * (A + 1) ≤ 2 ^ 6 * 163 := Nat.mul_le_mul p1 xq
  exact Nat.le_trans (dg_mono (show 2 ^ (n - m) * (A + 1) - 1 ≤ 10431 by omega)) xw
section
variable {l : List Rat} {D : Nat → List Rat} {n t S m : Nat}
theorem DownX.d0 (h : DownX l D n t S) (h1 : t ≤ m) (h2 : m ≤ n) (hl : l.getD 0 0 = 1) : co (D m) 0 = 1 := by
 obtain ⟨j, rfl⟩ : ∃ j, m = n - j := ⟨n - m, by omega⟩
 clear h2
 induction j with
 | zero =>
  show (D n).getD 0 0 = 1
  rw [h.top, divS_at _ _ (by rw [h.len]; omega), hl]; grind
 | succ j ih =>
  by_cases e : n ≤ j
  ·rw [show n - (j + 1) = n - j by omega]; exact ih xq
  ·have h1' : t < n - j := by omega
   have h3 := small_sq (h.small (n - j) h1' xq)
   rw [h.step _ xq, show n - (j + 1) + 1 = n - j by omega]
   show (dnS _ _).getD 0 0 = 1
   rw [dnS_at _ xq, show (D (n - j)).getD 0 0 = 1 from ih xq, Nat.sub_zero]
   have e1 : ((1 : Int) : Rat) = 1 := rfl
   rw [e1, Rat.div_def, Rat.mul_inv_cancel _ (by grind)]
theorem DownX.st (h : DownX l D n t S) (h1 : t ≤ m) (h2 : m < n) (hl : l.getD 0 0 = 1) : Step m (co (D (m + 1))) (co (D m)) (co (D (m + 1)) (m + 1)) := by
 have h3 := small_sq (h.small (m + 1) xq xq)
 have ha0 := h.d0 (m := m + 1) xq xq hl
 have hb : ∀ i, i ≤ m + 1 → co (D m) i * (1 - co (D (m + 1)) (m + 1) * co (D (m + 1)) (m + 1)) = co (D (m + 1)) i - co (D (m + 1)) (m + 1) * co (D (m + 1)) (m + 1 - i) := fun i hi => by
  by_cases e : i = m + 1
  ·rw [e, Nat.sub_self, ha0, co_ge (l := D m) (by rw [h.dlen m xq]; omega)]; grind
  ·have e1 : co (D m) i = _ := (congrArg (co · i) (h.step m h2)).trans (dnS_at (D (m + 1)) xq)
   have e2 : ((1 : Int) : Rat) = 1 := rfl
   rw [e1, e2]
   exact Rat.div_mul_cancel (by show (1 - co (D (m + 1)) (m + 1) * co (D (m + 1)) (m + 1) : Rat) ≠ 0; unfold co; grind)
 have hsh : ∀ i, i ≤ m + 1 → sh (rv m (co (D m))) i = co (D m) (m + 1 - i) := fun i hi => by
  cases i with
  | zero => rw [sh_0, co_ge (by rw [h.dlen m xq]; omega)]
  | succ i => rw [sh_s]; unfold rv; rw [if_pos xq, Nat.add_sub_add_right]
 have hsh' : ∀ i, m + 1 < i → sh (rv m (co (D m))) i = 0 := fun i hi => by
  cases i with
  | zero => omega
  | succ i => rw [sh_s]; exact if_neg xq
 have hh : ∀ i, m + 1 < i → co (D m) i = 0 ∧ co (D (m + 1)) i = 0 := fun i hi => ⟨co_ge (by rw [h.dlen m xq]; omega), co_ge (by rw [h.dlen (m + 1) xq]; omega)⟩
 have h3' : co (D (m + 1)) (m + 1) * co (D (m + 1)) (m + 1) < 1 := h3
 generalize hk : co (D (m + 1)) (m + 1) = k at *
 have hne : (1 - k * k : Rat) ≠ 0 := by grind
 have canc : ∀ x y : Rat, x * (1 - k * k) = y * (1 - k * k) → x = y := fun x y e => by
  have : (x - y) * (1 - k * k) = 0 := by grind
  rcases Rat.mul_eq_zero.1 this with h | h
  ·grind
  ·exact absurd h hne
 refine ⟨fun i => ?_, fun i => ?_⟩
 ·by_cases hi : i ≤ m + 1
  ·rw [hsh i hi]
   have g1 := hb i hi
   have g2 := hb (m + 1 - i) xq
   rw [show m + 1 - (m + 1 - i) = i by omega] at g2
   exact canc _ _ (by grind)
  ·rw [hsh' i xq, (hh i xq).1, (hh i xq).2]; grind
 ·by_cases hi : i ≤ m + 1
  ·rw [hsh i hi]
   have g1 := hb i hi
   have g2 := hb (m + 1 - i) xq
   rw [show m + 1 - (m + 1 - i) = i by omega] at g2
   unfold rv
   rw [if_pos hi]
   exact canc _ _ (by grind)
  ·rw [hsh' i xq, (hh i xq).1, rv_fin i xq]; grind
theorem DownX.iff (h : DownX l D n t S) (hl : l.getD 0 0 = 1) : OB (co l) ↔ t = 0 := by
 have etop : ∀ i, co (D n) i = co l i := fun i => by
  rw [h.top, hl]
  have : (fun x : Rat => x / 1) = id := funext fun x => by rw [Rat.div_def]; grind
  unfold divS; rw [this, List.map_id]
 have etop' : co (D n) = co l := funext etop
 have fin : ∀ m, m ≤ n → ∀ i, m < i → co (D m) i = 0 := fun m hm i hi => co_ge (by rw [h.dlen m hm]; omega)
 constructor
 ·intro hO
  have hdown : ∀ j, j + t ≤ n → OB (co (D (n - j))) := fun j => by
   induction j with
   | zero => intro _; rw [Nat.sub_zero, etop']; exact hO
   | succ j ih =>
    intro hj
    have e : n - j = n - (j + 1) + 1 := by omega
    have g := ih xq
    have s := h.st (m := n - (j + 1)) xq xq hl
    rw [e] at g
    exact s.down (h.d0 xq xq hl) (fun i hi => fin _ xq i hi) (small_sq (h.small _ xq xq)) g
  apply Classical.byContradiction
  intro ht
  have g := hdown (n - t) (by have := h.tn; omega)
  have e : n - (n - t) = (t - 1) + 1 := by have := h.tn; omega
  rw [e] at g
  have h1 := g.last (h.d0 xq (by have := h.tn; omega) hl) (fun i hi => fin _ (by have := h.tn; omega) i hi)
  have h2 := h.bad xq
  have e2 : t - 1 + 1 = t := by omega
  rw [e2] at h1
  rw [show (D t).getD t 0 = co (D t) t from rfl, sq_small h1] at h2
  cases h2
 ·intro ht
  subst ht
  have hup : ∀ m, m ≤ n → OB (co (D m)) ∧ PA m (co (D m)) := fun m => by
   induction m with
   | zero =>
    intro _
    have h0 := h.d0 (m := 0) (Nat.le_refl _) xq hl
    have hf := fin 0 xq
    refine ⟨OB.one h0 (fun i hi => hf i xq), fun y N => ?_⟩
    have e : rv 0 (co (D 0)) = co (D 0) := funext fun i => by
     unfold rv
     by_cases hi : i ≤ 0
     ·rw [if_pos hi, show 0 - i = i by omega]
     ·rw [if_neg hi, hf i xq]
    rw [e]; exact Rat.le_refl
   | succ m ih =>
    intro hm
    obtain ⟨g1, g2⟩ := ih xq
    have s := h.st (m := m) xq xq hl
    obtain ⟨k1, k2⟩ := small_iff.1 (h.small (m + 1) xq hm)
    exact ⟨s.ob k1 k2 g2 g1, s.pa (Rat.le_of_lt (small_sq (h.small (m + 1) xq hm))) g2⟩
  rw [← etop']
  exact (hup n (Nat.le_refl _)).1
theorem DownX.lt (h : DownX l D n t S) (h1 : t ≤ m) (ht : 1 ≤ t) (hs : smallQ ((D m).getD m 0) = true) : t < m := by
 rcases Nat.lt_or_eq_of_le h1 with h2 | h2
 ·exact h2
 ·subst h2
  rw [h.bad ht] at hs; cases hs
theorem DownX.down (h : DownX l D n t S) (ht : t = 0) : Down l D n S := by
 subst ht
 exact ⟨h.len, h.nz, h.top, h.dlen, h.step, fun m h1 h2 => h.small m xq h2, fun m hm => h.sm m (Nat.zero_le _) hm⟩
theorem DownX.fit {K : Nat} {u : World} {x : Sl} (h : DownX l D n t S) (ht : t ≤ m) (hm : m ≤ n) (hx : PolN u x (D m) K) : PolN u x (D m) S := by
 obtain ⟨E, A, h1, h2, h3⟩ := h.sm m ht hm
 exact (hx.fitS h1 h2).more h3
theorem DownX.fitE {K i : Nat} {u : World} {r : RL} (h : DownX l D n t S) (ht : t ≤ m) (hm : m ≤ n) (hx : RatN u r ((D m).getD i 0) K) : RatN u r ((D m).getD i 0) S := by
 obtain ⟨E, A, h1, h2, h3⟩ := h.sm m ht hm
 exact (hx.fit (h1.rs h2 i)).more h3
end
end Nt
end Go.Proofs.Ytdmpfhhhlhoeiaa
namespace Go.Proofs.Ytdmpfhhhlhoeiaa
set_option linter.unusedVariables false
namespace Nt
theorem mul_cv (l m : List Rat) (n : Nat) : co (mulQ l m) n = cv (co l) (co m) n := by
 induction l generalizing n with
 | nil => rw [mulQ_nil]; exact (su_0 (fun i _ => by rw [co_nil]; grind)).symm
 | cons a l ih =>
  rw [zxe]
  cases n with
  | zero => rw [cv_0, sh_0, co_zero]; grind
  | succ n => rw [cv_s, sh_s, ih, co_zero]; rfl
section
variable {f : Int} {p : List Int} {L : List (List Int)} {k : Nat}
theorem csP_co : co (csP (csD f) L (k + 1)) = cv (co (csP (csD f) L k)) (co (csD f (L.getD k []))) := funext fun n => by
 show co (trimQ _) n = _
 rw [trim_co, mul_cv]
theorem csP_0 : co (csP (csD f) L k) 0 = 1 := by
 induction k with
 | zero => rfl
 | succ k ih => rw [csP_co, cv_0, ih]; show 1 * (1 : Rat) = 1; grind
theorem csP_ob : OB (co (csP (csD f) L k)) ↔ ∀ i, i < k → OB (co (csD f (L.getD i []))) := by
 induction k with
 | zero =>
  refine ⟨fun _ i hi => by omega, fun _ => OB.one rfl (fun i hi => co_ge (by show 1 ≤ i; omega))⟩
 | succ k ih =>
  rw [csP_co]
  have hf : ∀ i, 3 ≤ i → co (csD f (L.getD k [])) i = 0 := fun i hi => co_ge hi
  have hf2 : ∀ i, 2 * k + 1 ≤ i → co (csP (csD f) L k) i = 0 := fun i hi => co_ge (Nat.le_trans (csP_len (fun _ => rfl)) hi)
  constructor
  ·intro h i hi
   by_cases e : i = k
   ·rw [e]; exact h.right hf2
   ·exact ih.1 (h.left hf) i xq
  ·intro h
   exact (ih.2 (fun i hi => h i xq)).mul (h k xq)
theorem csD_ob (hf : p2i f ≤ 16777216) (h : ∀ j, j < 5 → (p.getD j 0).natAbs ≤ 2 ^ 24) : OB (co (csD f p)) ↔ secSt f p = true := by
 have hp := zxo f
 obtain ⟨D, t, hD⟩ := downX (c := csD f p) (n := 2) rfl rfl (csD_sm hf h) xq xw xw
 rw [hD.iff rfl]
 have hP : (0 : Rat) < ((p2i f : Int) : Rat) := by
  have : ((0 : Int) : Rat) < ((p2i f : Int) : Rat) := Rat.intCast_lt_intCast.2 hp
  exact this
 have q1 : wq (p.getD 3 0) f * ((p2i f : Int) : Rat) = ((p.getD 3 0 : Int) : Rat) := by unfold wq; exact Rat.div_mul_cancel (by grind)
 have q2 : wq (p.getD 4 0) f * ((p2i f : Int) : Rat) = ((p.getD 4 0 : Int) : Rat) := by unfold wq; exact Rat.div_mul_cancel (by grind)
 have d2 : (D 2).getD 2 0 = wq (p.getD 4 0) f := by
  rw [hD.top, divS_at _ _ (show 2 < 3 by decide)]
  show wq (p.getD 4 0) f / 1 = _
  rw [Rat.div_def]; grind
 have d21 : (D 2).getD 1 0 = wq (p.getD 3 0) f := by
  rw [hD.top, divS_at _ _ (show 1 < 3 by decide)]
  show wq (p.getD 3 0) f / 1 = _
  rw [Rat.div_def]; grind
 have d1 : (D 1).getD 1 0 = (wq (p.getD 3 0) f - wq (p.getD 4 0) f * wq (p.getD 3 0) f) / (1 - wq (p.getD 4 0) f * wq (p.getD 4 0) f) := by
  rw [hD.step 1 xw, dnS_at _ xw, d2]
  show ((D 2).getD 1 0 - _ * (D 2).getD 1 0) / _ = _
  rw [d21]; rfl
 -- the conditions in words
 have c2 : smallQ (wq (p.getD 4 0) f) = true ↔ az (p.getD 4 0) < p2i f := by
  rw [small_iff]
  generalize wq (p.getD 4 0) f = q at *
  generalize p.getD 4 0 = z at *
  constructor
  ·rintro ⟨h1, h2⟩
   have g1 := Rat.mul_pos (show 0 < q + 1 by grind) hP
   have g2 := Rat.mul_pos (show 0 < 1 - q by grind) hP
   have g3 : ((z : Int) : Rat) < ((p2i f : Int) : Rat) := by grind
   have g4 : ((-z : Int) : Rat) < ((p2i f : Int) : Rat) := by rw [Rat.intCast_neg]; grind
   have g5 := Rat.intCast_lt_intCast.1 g3
   have g6 := Rat.intCast_lt_intCast.1 g4
   unfold az; omega
  ·intro hz
   have g5 : z < p2i f ∧ -z < p2i f := by unfold az at hz; omega
   have g3 : ((z : Int) : Rat) < ((p2i f : Int) : Rat) := Rat.intCast_lt_intCast.2 g5.1
   have g4 : ((-z : Int) : Rat) < ((p2i f : Int) : Rat) := Rat.intCast_lt_intCast.2 g5.2
   rw [Rat.intCast_neg] at g4
   constructor
   ·apply Classical.byContradiction
    intro hn
    have := Rat.mul_nonneg (show 0 ≤ -1 - q by grind) (Rat.le_of_lt hP)
    grind
   ·apply Classical.byContradiction
    intro hn
    have := Rat.mul_nonneg (show 0 ≤ q - 1 by grind) (Rat.le_of_lt hP)
    grind
 have c1 : smallQ (wq (p.getD 4 0) f) = true → (smallQ ((D 1).getD 1 0) = true ↔ az (p.getD 3 0) < p2i f + p.getD 4 0) := by
  intro hs
  obtain ⟨s1, s2⟩ := small_iff.1 hs
  have hne := small_sq hs
  have hr := Rat.div_mul_cancel (a := wq (p.getD 3 0) f - wq (p.getD 4 0) f * wq (p.getD 3 0) f) (b := 1 - wq (p.getD 4 0) f * wq (p.getD 4 0) f) (by grind)
  rw [← d1] at hr
  rw [small_iff]
  generalize (D 1).getD 1 0 = r at *
  generalize wq (p.getD 4 0) f = b at *
  generalize wq (p.getD 3 0) f = a at *
  have hr2 : r * (1 + b) = a := by
   have : (r * (1 + b) - a) * (1 - b) = 0 := by grind
   rcases Rat.mul_eq_zero.1 this with h | h <;> grind
  generalize p.getD 4 0 = y at *
  generalize p.getD 3 0 = z at *
  have hb : 0 < 1 + b := by grind
  have e1 : r * (1 + b) * ((p2i f : Int) : Rat) = ((z : Int) : Rat) := by rw [hr2]; exact q1
  have e2 : (1 + b) * ((p2i f : Int) : Rat) = ((p2i f : Int) : Rat) + ((y : Int) : Rat) := by rw [← q2]; grind
  clear d1 hr hne hr2 q1 q2
  constructor
  ·rintro ⟨h1, h2⟩
   have g1 := Rat.mul_pos (Rat.mul_pos (show 0 < r + 1 by grind) hb) hP
   have g2 := Rat.mul_pos (Rat.mul_pos (show 0 < 1 - r by grind) hb) hP
   have g3 : ((z : Int) : Rat) < ((p2i f + y : Int) : Rat) := by rw [Rat.intCast_add]; grind
   have g4 : ((-z : Int) : Rat) < ((p2i f + y : Int) : Rat) := by rw [Rat.intCast_add, Rat.intCast_neg]; grind
   have g5 := Rat.intCast_lt_intCast.1 g3
   have g6 := Rat.intCast_lt_intCast.1 g4
   unfold az; omega
  ·intro hz
   have g5 : z < p2i f + y ∧ -z < p2i f + y := by unfold az at hz; omega
   have g3 : ((z : Int) : Rat) < ((p2i f + y : Int) : Rat) := Rat.intCast_lt_intCast.2 g5.1
   have g4 : ((-z : Int) : Rat) < ((p2i f + y : Int) : Rat) := Rat.intCast_lt_intCast.2 g5.2
   rw [Rat.intCast_add] at g3
   rw [Rat.intCast_add, Rat.intCast_neg] at g4
   constructor
   ·apply Classical.byContradiction
    intro hn
    have := Rat.mul_nonneg (Rat.mul_nonneg (show 0 ≤ -1 - r by grind) (Rat.le_of_lt hb)) (Rat.le_of_lt hP)
    grind
   ·apply Classical.byContradiction
    intro hn
    have := Rat.mul_nonneg (Rat.mul_nonneg (show 0 ≤ r - 1 by grind) (Rat.le_of_lt hb)) (Rat.le_of_lt hP)
    grind
 have ht := hD.tn
 unfold secSt
 rw [Bool.and_eq_true, decide_eq_true_iff, decide_eq_true_iff]
 constructor
 ·intro h0
  subst h0
  have s2 := hD.small 2 xw xw
  rw [d2] at s2
  exact ⟨c2.1 s2, (c1 s2).1 (hD.small 1 xw xw)⟩
 ·rintro ⟨h1, h2⟩
  have s2 := c2.2 h1
  have s1 := (c1 s2).2 h2
  apply Classical.byContradiction
  intro h0
  have hb := hD.bad xq
  have : t = 1 ∨ t = 2 := by omega
  rcases this with rfl | rfl
  ·rw [s1] at hb; cases hb
  ·rw [d2, s2] at hb; cases hb
theorem csP_down (hf : p2i f ≤ 16777216) (hl : L.length ≤ 3) (h : ∀ i, i < L.length → ∀ j, j < 5 → ((L.getD i []).getD j 0).natAbs ≤ 2 ^ 24) :
  ∃ D n t, DownX (csP (csD f) L L.length) D n t 400 ∧ n ≤ 6 ∧ (decide (t = 0) = csSt f L) := by
 have hp := zxo f
 have h0 : (csP (csD f) L L.length).getD 0 0 = 1 := csP_0
 have hlen := csP_len (g := csD f) (L := L) (k := L.length) (fun _ => rfl)
 have hpos : 0 < (csP (csD f) L L.length).length := by
  apply Classical.byContradiction
  intro hn
  rw [List.eq_nil_of_length_eq_zero (by omega : (csP (csD f) L L.length).length = 0)] at h0
  exact absurd h0 xw
 have hs := csP_sm (g := csD f) (L := L) (k := L.length) (P := (p2i f).toNat) xq (fun _ => rfl) (fun i hi => csD_sm hf (h i hi))
 have hE : (p2i f).toNat ^ L.length ≤ 2 ^ (27 * L.length) := by
  refine Nat.le_trans (Nat.pow_le_pow_left (show (p2i f).toNat ≤ 2 ^ 24 by omega) _) ?_
  rw [← Nat.pow_mul]
  exact Nat.pow_le_pow_right xw xq
 obtain ⟨D, t, hD⟩ := downX (c := csP (csD f) L L.length) (n := (csP (csD f) L L.length).length - 1) xq h0 hs hE xq xq
 refine ⟨D, _, t, hD, by omega, ?_⟩
 have h1 := hD.iff h0
 rw [csP_ob] at h1
 have h2 : (∀ i, i < L.length → OB (co (csD f (L.getD i [])))) ↔ ∀ i, i < L.length → secSt f (L.getD i []) = true := ⟨fun g i hi => (csD_ob hf (h i hi)).1 (g i hi), fun g i hi => (csD_ob hf (h i hi)).2 (g i hi)⟩
 rw [h2] at h1
 unfold csSt
 exact decide_eq_decide.2 h1.symm
end
end Nt
end Go.Proofs.Ytdmpfhhhlhoeiaa
namespace Go.Proofs.Ytdmpfhhhlhoeiaa
open Go.RowKit
set_option linter.unusedVariables false
set_option maxHeartbeats 4000000 in
theorem k_reflectX {u w : World} {x : Sl} {l : List Rat} {D : Nat → List Rat} {K n t S : Nat} (d : Dat u w) (hx : PolV u x l K) (hD : Nt.DownX (Nt.trimQ l) D n t S) (ht : 1 ≤ t) (hK : K ≤ 10000) (hS : S ≤ 10000) (hl : l.length ≤ 40) : Calls Try.prog 33 #[x.v] w (Post u w fun v u' => v = .tuple #[.slice none 0 0, .int .i64 14]) := by
 have hlen := hx.len
 have hDl := hD.len
 have htl := Nt.zzh l
 refine zzm (args := [.slice x.a x.n x.c]) Try.func33 rfl Try.ntmps33 (rs := [.tmp 2, .tmp 3]) Try.results33 (le_b rfl) (le_b rfl) d ?_
 refine sq9 (zza 2 (.v (.slice none 0 0)) (zza 3 (zI 0) (zzb (zzd (sq9 (zza 12 (.v x.v) (zzg 13 54 [x.v] ?_)))))))
 intro w11 u11 e11 d11
 have k14 := k_stWrong d11 (hx.ext e11) (fun h => hD.nz ((Nt.trim_co l 0).trans h)) xq xq
 with_reducible refine zPm k14 ?_
 rintro _ u12 g13 rfl
 refine zza 4 (zI 0) (zzb (sq9 (zza 14 (zI 0) (zza 15 (zB false) (zzb (zys xv (zzs (zzp ?_))))))))
 refine sq9 (zza 17 (.v x.v) (zzg 18 55 [x.v] ?_))
 intro w15 u15 e15 d15
 have k20 := k_poTrim d15 (hx.ext (e11.trans (g13.ext.trans e15))) xq (by first | omega | (simp; done) | (simp; omega))
 with_reducible refine zPm k20 ?_
 rintro _ u18 g19 ⟨y16, rfl, h17⟩
 have hly16 := h17.len
 refine zza 5 (.v y16.v) (zzb (sq9 (zza 19 (.v y16.v) ?_)))
 have hl21 := h17.len
 obtain ⟨r21, b21, o21, hA21, hc21, hr21⟩ := pol_atN h17 (i := 0) xq
 refine zya 20 (o21 + 0 * 3) (n := y16.n) (off := o21) (sz := 3) (i := 0) xq hA21 xq xq sl43 (zym 21 r21.cs hc21 ty82 (zzk 6 ⟨82, [.bool false, .slice none 0 0, .slice none 0 0]⟩ (zzj ⟨82, r21.cs⟩ ty82 ?_)))
 refine zzb (zzd (sw_pubA (r := 6) (t := 6) [6] xj xv zv zv xv (fun b22 u23 e24 hb25 hv26 hh27 => ?_)))
 refine zzf (zza 22 (.v y16.v) (sy_fun 23 [.pointer (some ⟨b22, 0, none⟩)] ?_))
 refine zzg 24 56 [y16.v, .func (.func 57) #[] #[.pointer (some ⟨b22, 0, none⟩)]] ?_
 intro w28 u28 e28 d28
 have k37 := k_mapDn1 d28 (h17.ext (e24.trans e28)) (hr21.ext (e24.trans e28)).raw (e28.cells hh27) hD.nz xq xq xq
 with_reducible refine zPm k37 ?_
 rintro _ u35 g36 ⟨b29, L30, rfl, hb31, hh32, hL33, hR34⟩
 have hp38 : PolN u35 (⟨some ⟨b29, 0, none⟩, y16.n, y16.n⟩ : Sl) (Nt.divS (Nt.trimQ l) ((Nt.trimQ l).getD 0 0)) (K + K) := pol_data1 hh32 yq hR34 xq
 refine zzk 7 ⟨42, [.slice none 0 0]⟩ (zzj ⟨42, [.slice (some ⟨b29, 0, none⟩) y16.n y16.n]⟩ ty42 ?_)
 refine zzb (sq9 (zzi 25 (.v (.slice (some ⟨b29, 0, none⟩) y16.n y16.n)) ty42 zzl (zza 26 (zI y16.n) (zyq 27 (x := zI (IntKind.i64.wrap ((y16.n : Int) - 1))) (zI n) (eqI xk) (sy_make 28 (T := 42) (E := 82) (z := .agg #[.bool false, .slice none 0 0, .slice none 0 0]) (size := 3) (bytes := 56) n (rcs (List.replicate n rl0)) xv xv rfl rfl xq yq (made_rcs _) ?_)))))
 refine zza 8 (.slc 28 0 n n) (zzc 61 [(7, .adr 7 0), (8, .slc 28 0 n n)] [(7, ⟨42, [.slice (some ⟨b29, 0, none⟩) y16.n y16.n]⟩), (28, ⟨82, rcs (List.replicate n rl0)⟩)] (zzd (sq9 (zzi 29 (.v (.slice (some ⟨b29, 0, none⟩) y16.n y16.n)) ty42 zzl (zza 30 (zI y16.n) (zyq 31 (x := zI (IntKind.i64.wrap ((y16.n : Int) - 1))) (zI n) (eqI xk) (zzk 9 ⟨3, [.int .i64 0]⟩ (zzj ⟨3, [.int .i64 n]⟩ ty3 ?_))))))))
 refine zzb (zzt ?_)
 have hn9 : n ≤ 40 := by have h9 := Nt.zzh l; omega
 refine zyn (I := fun m39 S' u' => ∃ (m : Nat) (c : Sl) (L : List RL), (m39 = m) ∧ (m ≤ n) ∧ (t ≤ m) ∧ (L.length = n) ∧ (S' = St.of 61 [(7, .adr 7 0), (8, .slc 28 0 n n), (9, .adr 9 0)] [(7, ⟨42, [.slice c.a c.n c.c]⟩), (9, ⟨3, [.int .i64 m]⟩), (28, ⟨82, rcs L⟩)]) ∧ (Ext u35 u') ∧ (PolN u' c (D m) S) ∧ (RatsN u' (L.drop m) ((Nt.refL D n).drop m) S)) (fun m S u1 u2 e h => by obtain ⟨m, c, L, hm, p0, p1, p2, hS, hE, f0, f1⟩ := h; exact ⟨m, c, L, hm, p0, p1, p2, hS, hE.trans e, f0.ext e, f1.ext e⟩) _ yj ⟨n, (⟨some ⟨b29, 0, none⟩, y16.n, y16.n⟩ : Sl), List.replicate n rl0, rfl, Nat.le_refl _, hD.tn, zq, rfl, (Ext.refl _), (hD.fit hD.tn (Nat.le_refl _) (by rw [hD.top]; exact hp38)), (RatsN.dnil zq (Nt.refL_len D n))⟩ ?_
 rintro m39 _ u39 ⟨m, c, L, hm39, hm9, htm9, hL, rfl, e39, hC, hR⟩
 have hcl := hC.len
 have hdl := hD.dlen m hm9
 refine zzd (sq9 (zzi 32 (zI m) ty3 zzl (zza 33 (zB (decide ((1 : Int) ≤ (m : Int)))) (zzb (zzu (b := decide ((1 : Int) ≤ (m : Int))) xv (fun hb => ?_) (fun hb => ?_))))))
 ·clear hb
  refine zzs (zzp ?_)
  refine zzd (zzt (sq9 (zzi 36 (.v c.v) ty42 zzl (zzi 37 (zI m) ty3 zzl ?_))))
  have hl40 := hC.len
  obtain ⟨r40, b40, o40, hA40, hc40, hr40⟩ := pol_atN hC (i := m) xq
  refine zya 38 (o40 + m * 3) (n := c.n) (off := o40) (sz := 3) (i := (m : Int)) xq hA40 xq xq sl42 (zym 39 r40.cs hc40 ty82 (zzg 40 59 [r40.v] ?_))
  intro w41 u41 e41 d41
  have k46 := k_ratTrim d41 (hr40.ext e41).raw xq
  with_reducible refine zPm k46 ?_
  rintro _ u44 g45 ⟨r42, rfl, h43⟩
  refine zzk 10 ⟨82, [.bool false, .slice none 0 0, .slice none 0 0]⟩ (zzj ⟨82, r42.cs⟩ ty82 ?_)
  refine zzb (zzd (sq9 (zzi 41 (.v (r42.v)) ty82 zze (zzg 42 60 [r42.v] ?_))))
  intro w47 u47 e47 d47
  have k50 := k_small d47 (h43.ext e47).raw xq
  with_reducible refine zPm k50 ?_
  rintro _ u48 g49 rfl
  refine zza 43 (zB (!(Nt.smallQ ((D m).getD m 0)))) (zzb (zzu (b := !(Nt.smallQ ((D m).getD m 0))) xv (fun hb51 => ?_) (fun hb51 => ?_)))
  ·replace hb51 : (!(Nt.smallQ ((D m).getD m 0))) = true := hb51
   refine sq9 (zza 2 (.v (.slice none 0 0)) (zza 3 (zI 14) (zzc 61 [(2, .v (.slice none 0 0)), (3, zI 14)] [] (zzo (zzw (zyu (zzw (zyt (zyu (zzw (ret0 [.slice none 0 0, .int .i64 14] ⟨zzq, zzq, trivial⟩ fun u52 e53 => ?_)))))))))))
   rfl
  ·replace hb51 : (!(Nt.smallQ ((D m).getD m 0))) = false := hb51
   have htm : t < m := hD.lt htm9 ht (by simpa using hb51)
   refine zzs (zzp ?_)
   refine sq9 (zza 44 (.slc 28 0 n n) (zzi 45 (zI m) ty3 zzl (zyq 46 (x := zI (IntKind.i64.wrap ((m : Int) - 1))) (zI (m - 1 : Nat)) (eqI xk) (zzi 47 (.v (r42.v)) ty82 zze (zyw 48 (off' := (m - 1) * 3) (n := n) (off := 0) (sz := 3) (i := ((m - 1 : Nat) : Int)) sl42 xq xq xq ?_)))))
   refine zyv (V := ⟨82, rcs L⟩) (off := (m - 1) * 3) (rcs ((L).set (m - 1) r42)) ty82 yy (zyx (r := r42) (i := m - 1) yw rfl) ?_
   refine zzc 61 [(7, .adr 7 0), (8, .slc 28 0 n n), (9, .adr 9 0), (10, .adr 10 0)] [(7, ⟨42, [c.v]⟩), (9, ⟨3, [.int .i64 m]⟩), (10, ⟨82, r42.cs⟩), (28, ⟨82, rcs ((L).set (m - 1) r42)⟩)] (zzd (zzz [0, 0, 0, 7, 15, 0, 63] [(1, []), (2, []), (5, []), (0, []), (3, []), (4, []), (6, [])] xv xv (zzi 50 (.v (r42.v)) ty82 zze (zzi 51 (.v (r42.v)) ty82 zze (zzk 11 ⟨82, [.bool false, .slice none 0 0, .slice none 0 0]⟩ (zzg 49 29 [.int .i64 1] ?_))))))
   intro w54 u54 e54 d54
   have k59 := k_ratOf d54 (z := 1) xq xq
   with_reducible refine zPm k59 ?_
   rintro _ u57 g58 ⟨r55, rfl, h56⟩
   refine zzg 52 52 [r42.v, r42.v] ?_
   intro w60 u60 e60 d60
   have k65 := k_ratMul d60 (h43.ext (e47.trans (g49.ext.trans (e54.trans (g58.ext.trans e60))))).raw (h43.ext (e47.trans (g49.ext.trans (e54.trans (g58.ext.trans e60))))).raw xq xq
   with_reducible refine zPm k65 ?_
   rintro _ u63 g64 ⟨r61, rfl, h62⟩
   refine zzg 53 61 [r55.v, r61.v] ?_
   intro w66 u66 e66 d66
   have k71 := k_ratSub d66 (h56.ext (e60.trans (g64.ext.trans e66))).raw (h62.ext e66).raw xq xq
   with_reducible refine zPm k71 ?_
   rintro _ u69 g70 ⟨r67, rfl, h68⟩
   refine zzj ⟨82, r67.cs⟩ ty82 ?_
   refine zzb (sw_pubA (r := 10) (t := 10) [10] xj xv zv zv xv (fun b72 u73 e74 hb75 hv76 hh77 => ?_))
   refine sw_pubA (r := 9) (t := 9) [9] xj xv zv zv xv (fun b78 u79 e80 hb81 hv82 hh83 => ?_)
   refine sw_pubA (r := 11) (t := 11) [11] xj xv zv zv xv (fun b84 u85 e86 hb87 hv88 hh89 => ?_)
   refine sw_pubA (r := 7) (t := 7) [7] xj xv zv zv xv (fun b90 u91 e92 hb93 hv94 hh95 => ?_)
   refine sw_cut 5 ?_
   refine zyl 54 c.v (var_cell1 hh95) ty42 (zyl 55 (.int .i64 m) (var_cell1 ((e86.trans e92).cells hh83)) ty3 ?_)
   have hl96 := (hC.ext (e41.trans (g45.ext.trans (e47.trans (g49.ext.trans (e54.trans (g58.ext.trans (e60.trans (g64.ext.trans (e66.trans (g70.ext.trans (e74.trans (e80.trans (e86.trans e92)))))))))))))).len
   have hc96 := (hC.ext (e41.trans (g45.ext.trans (e47.trans (g49.ext.trans (e54.trans (g58.ext.trans (e60.trans (g64.ext.trans (e66.trans (g70.ext.trans (e74.trans (e80.trans (e86.trans e92)))))))))))))).cap
   refine sy_front 56 (n := c.n) (c := c.c) m sl42 rfl xq ?_
   refine sy_fun 57 [.pointer (some ⟨b72, 0, none⟩), .pointer (some ⟨b90, 0, none⟩), .pointer (some ⟨b78, 0, none⟩), .pointer (some ⟨b84, 0, none⟩)] ?_
   refine zzg 58 56 [.slice c.a m c.c, .func (.func 62) #[] #[.pointer (some ⟨b72, 0, none⟩), .pointer (some ⟨b90, 0, none⟩), .pointer (some ⟨b78, 0, none⟩), .pointer (some ⟨b84, 0, none⟩)]] ?_
   intro w97 u97 e97 d97
   have k106 := k_mapDn2 (m := m) d97 (hC.ext (e41.trans (g45.ext.trans (e47.trans (g49.ext.trans (e54.trans (g58.ext.trans (e60.trans (g64.ext.trans (e66.trans (g70.ext.trans (e74.trans (e80.trans (e86.trans (e92.trans e97))))))))))))))) (h43.ext (e47.trans (g49.ext.trans (e54.trans (g58.ext.trans (e60.trans (g64.ext.trans (e66.trans (g70.ext.trans (e74.trans (e80.trans (e86.trans (e92.trans e97))))))))))))).raw (h68.ext (e74.trans (e80.trans (e86.trans (e92.trans e97))))).raw ((pol_takeN (hC.ext (e41.trans (g45.ext.trans (e47.trans (g49.ext.trans (e54.trans (g58.ext.trans (e60.trans (g64.ext.trans (e66.trans (g70.ext.trans (e74.trans (e80.trans (e86.trans e92)))))))))))))) xq).ext e97) ((e80.trans (e86.trans (e92.trans e97))).cells hh77) (e97.cells hh95) ((e86.trans (e92.trans e97)).cells hh83) ((e92.trans e97).cells hh89) (Nt.small_nz (hD.small m xq xq)) (by rw [hD.dlen m xq]) rfl rfl xq xq xq (by rw [hD.dlen m xq]; omega)
   with_reducible refine zPm k106 ?_
   rintro _ u104 g105 ⟨b98, L99, rfl, hb100, hh101, hL102, hR103⟩
   refine zzx ?_
   refine sl_adoptA (r := 7) (k := 7) zv ((e97.trans g105.ext).cells hh95) hb93 xv (fun u107 eB108 => ?_)
   have hp109 : PolN u107 (⟨some ⟨b98, 0, none⟩, m, m⟩ : Sl) (Nt.dnS (D m) m) (2 * S + S + (2 + (S + S) + 1) + 1) := newR_adopt hb100 ((Ext.refl _).cells hh101) hL102 (hR103.ext (Ext.refl _)) yq (e97.cells hh95) ((e97.trans g105.ext).cells hh95) zq eB108
   refine sl_sym ?_
   refine zzj ⟨42, [.slice (some ⟨b98, 0, none⟩) m m]⟩ ty42 ?_
   refine zzx ?_
   refine zzp (zzd (sq9 (zyl 59 (.int .i64 m) (var_cell1 ((e86.trans (ExtB.old2 eB108 (e92.trans (e97.trans g105.ext)) hv94)).cells hh83)) ty3 (zzb (zzf (zzk 9 ⟨3, [.int .i64 0]⟩ (zzj ⟨3, [.int .i64 m]⟩ ty3 ?_)))))))
   refine zzb (zzf (zzi 34 (zI m) ty3 zzl (zyq 35 (x := zI (IntKind.i64.wrap ((m : Int) - 1))) (zI (m - 1 : Nat)) (eqI xk) (zzj ⟨3, [.int .i64 (m - 1 : Nat)]⟩ ty3 ?_))))
   refine zzx ?_
   refine ⟨_, ?_, _, by exact zzv _ _ _, m - 1, (⟨some ⟨b98, 0, none⟩, m, m⟩ : Sl), (L).set (m - 1) r42, rfl, by omega, by omega, by simpa using hL, rfl, (e39.trans (e41.trans (g45.ext.trans (e47.trans (g49.ext.trans (e54.trans (g58.ext.trans (e60.trans (g64.ext.trans (e66.trans (g70.ext.trans (e74.trans (e80.trans (e86.trans (ExtB.old2 eB108 (e92.trans (e97.trans g105.ext)) hv94))))))))))))))), (hD.fit xq xq (by rw [hD.step (m - 1) xq, show m - 1 + 1 = m by omega]; exact hp109)), (RatsN.dstep (hR.ext (e41.trans (g45.ext.trans (e47.trans (g49.ext.trans (e54.trans (g58.ext.trans (e60.trans (g64.ext.trans (e66.trans (g70.ext.trans (e74.trans (e80.trans (e86.trans (ExtB.old2 eB108 (e92.trans (e97.trans g105.ext)) hv94))))))))))))))) xq xq (by rw [Nt.refL_len]; exact hL) (by rw [Nt.refL_at D xq, show m - 1 + 1 = m by omega]; exact (h43.ext (e47.trans (g49.ext.trans (e54.trans (g58.ext.trans (e60.trans (g64.ext.trans (e66.trans (g70.ext.trans (e74.trans (e80.trans (e86.trans (ExtB.old2 eB108 (e92.trans (e97.trans g105.ext)) hv94)))))))))))))))⟩
   omega
 ·exact absurd hb (by rw [show (decide ((1 : Int) ≤ (m : Int))) = true from decide_eq_true xq]; decide)
theorem k_stableX {u w : World} {x : Sl} {l : List Rat} {D : Nat → List Rat} {K n t S : Nat} (d : Dat u w) (hx : PolV u x l K) (hD : Nt.DownX (Nt.trimQ l) D n t S) (ht : 1 ≤ t) (hK : K ≤ 10000) (hS : S ≤ 10000) (hl : l.length ≤ 40) : Calls Try.prog 15 #[x.v] w (Post u w fun v u' => v = .tuple #[.bool false, .int .i64 0]) := by
 refine zzm (args := [.slice x.a x.n x.c]) Try.func15 rfl Try.ntmps15 (rs := [.tmp 2, .tmp 3]) Try.results15 (le_b rfl) (le_b rfl) d ?_
 refine sq9 (zza 2 (zB false) (zza 3 (zI 0) (zzb (sq9 (zza 7 (.v x.v) (zzg 8 33 [x.v] ?_))))))
 intro w11 u11 e11 d11
 have k14 := k_reflectX d11 (hx.ext e11) hD ht hK hS hl
 with_reducible refine zPm k14 ?_
 rintro _ u12 g13 rfl
 refine zza 6 (.v (.tuple #[.slice none 0 0, .int .i64 14])) (zza 9 (.v (.slice none 0 0)) (zza 10 (zI 14) (zza 4 (.v (.slice none 0 0)) (zza 5 (zI 14) (zzb (zzd (sq9 (zza 11 (zI 14) (zza 12 (zB true) (zzb (zyr xv ?_)))))))))))
 refine sq9 (zza 2 (zB false) (zza 3 (zI 0) (zzb (zzo (zzw (ret0 [.bool false, .int .i64 0] ⟨zzq, zzq, trivial⟩ fun u15 e16 => ?_))))))
 rfl
theorem k_stableD {u w : World} {x : Sl} {l : List Rat} {D : Nat → List Rat} {K n t S : Nat} (d : Dat u w) (hx : PolV u x l K) (hD : Nt.DownX (Nt.trimQ l) D n t S) (hK : K ≤ 10000) (hS : S ≤ 10000) (hl : l.length ≤ 40) : Calls Try.prog 15 #[x.v] w (Post u w fun v u' => v = .tuple #[.bool (decide (t = 0)), .int .i64 0]) := by
 by_cases ht : t = 0
 ·rw [decide_eq_true ht]; exact k_stable d hx (hD.down ht) hK hS hl
 ·rw [decide_eq_false ht]; exact k_stableX d hx hD xq hK hS hl
theorem rows_b5 {W : WL} {L : List (List Int)} (hW : WdOK W) (h : ∀ p ∈ L, p.length = 5 ∧ ∀ z ∈ p, -(Nt.p2i (W.b - 1) - 1) ≤ z ∧ z ≤ Nt.p2i (W.b - 1) - 1) : ∀ i, i < L.length → ∀ j, j < 5 → ((L.getD i []).getD j 0).natAbs ≤ 2 ^ 24 := fun i hi j hj => by
 have e : L[i] = L.getD i [] := by rw [List.getD_eq_getElem?_getD, List.getElem?_eq_getElem hi]; rfl
 obtain ⟨hl, hz⟩ := h _ (List.getElem_mem hi)
 rw [e] at hl hz
 have h1 := hz ((L.getD i []).getD j 0) (by rw [List.getD_eq_getElem?_getD (l := L.getD i []), List.getElem?_eq_getElem xq]; exact List.getElem_mem _)
 have h2 := Nt.p2i_24 (n := W.b - 1) (by obtain ⟨_, h3, _⟩ := hW; omega)
 omega
theorem csP_trim {g : List Int → List Rat} {L : List (List Int)} {k : Nat} (hk : 0 < k) : Nt.trimQ (Nt.csP g L k) = Nt.csP g L k := by
 cases k with
 | zero => omega
 | succ k => exact Nt.trim_trim _
set_option maxHeartbeats 4000000 in
theorem w_cascadeIsStable {u w : World} {x y : Sl} {l m : List Int} {k1 k2 : Int} (d : Dat u w) (hx : SlR .i64 u x.a x.n x.c l) (hb : ∀ z ∈ l, -9223372036854775808 ≤ z ∧ z ≤ 9223372036854775807) (hy : SlR .i64 u y.a y.n y.c m) (hbm : ∀ z ∈ m, -9223372036854775808 ≤ z ∧ z ≤ 9223372036854775807) (hk1 : -9223372036854775808 ≤ k1) (hk2 : k1 ≤ 9223372036854775807) (hk3 : -9223372036854775808 ≤ k2) (hk4 : k2 ≤ 9223372036854775807) : Calls Try.prog 4 #[.agg #[x.v, y.v], .int .i64 k1, .int .i64 k2] w (Post u w fun v _ => v = .bool true) := by
 refine zzm (args := [.agg #[.slice x.a x.n x.c, .slice y.a y.n y.c], .int .i64 k1, .int .i64 k2]) Try.func4 rfl Try.ntmps4 (rs := [.tmp 6]) Try.results4 (le_b rfl) (le_b rfl) d ?_
 refine sq9 (zzk 3 ⟨24, [x.v, y.v]⟩ (zza 6 (zB false) (zzb (sq9 (zza 15 (zI k2) (zzg 16 7 [.int .i64 k2] ?_))))))
 intro w11 u11 e11 d11
 have k16 := k_coef (k := k2) d11 xq xq
 with_reducible refine zPm k16 ?_
 rintro _ u14 g15 ⟨W12, rfl, hW13⟩
 have hw17 := hW13.ok
 have hw17f : 1 ≤ W12.f := by have h9 := hW13; unfold CoefOK at h9; omega
 have hw17g : W12.f ≤ 24 := by have h9 := hW13; unfold CoefOK at h9; omega
 refine zzk 7 ⟨27, [.int .i64 0, .int .i64 0, .int .i64 0, .int .i64 0]⟩ (zzj ⟨27, W12.cs⟩ ty27 ?_)
 refine zzb (sq9 (zzi 17 (.v (.agg #[x.v, y.v])) ty24 zze (zza 18 (zI k1) (zzi 19 (.v (W12.v)) ty27 zze (zzg 20 8 [.agg #[x.v, y.v], .int .i64 k1, .int .i64 3, W12.v] ?_)))))
 intro w18 u18 e18 d18
 have k21 := (show Calls _ _ #[.agg #[.slice x.a x.n x.c, .slice y.a y.n y.c], .int .i64 k1, .int .i64 3, .agg #[.int .i64 W12.b, .int .i64 W12.f, .int .i64 W12.r, .int .i64 W12.o]] _ _ from k_sections24 (x := x) (y := y) (W := W12) (n := k1) (q := 3) d18 (hx.ext (e11.trans (g15.ext.trans e18))) hb (hy.ext (e11.trans (g15.ext.trans e18))) hbm hw17 xw xw xq xq)
 with_reducible refine zPm k21 ?_
 rintro _ u19 g20 ⟨y1, L1, rfl, hI, hLn, hS⟩
 have hyl : y1.n = L1.length := hI.len
 have hmm0 := Int.emod_nonneg k1 (show (3 : Int) ≠ 0 by decide)
 have hmm1 := Int.emod_lt_of_pos k1 (show (0 : Int) < 3 by decide)
 have hL3 : L1.length ≤ 3 := by omega
 have hE : Nt.csE W12 L1 = 0 := Nt.csE_rows hw17 xq xq hS
 have hbd := rows_bd hw17 hS
 have hb5 := rows_b5 hw17 hS
 have hpf : Nt.p2i W12.f ≤ 16777216 := Nt.p2i_24 (by have h9 := hw17; unfold WdOK at h9; omega)
 obtain ⟨D9, n9, t9, hX9, hn9, ht9⟩ := Nt.csP_down (f := W12.f) hpf hL3 hb5
 refine zza 8 (.v y1.v) (zzb (sq9 (zza 22 (.v y1.v) (zzi 23 (.v (W12.v)) ty27 zze (zzg 24 13 [y1.v, W12.v] ?_)))))
 intro w22 u22 e22 d22
 have k25 := k_csIdeal (W := W12) d22 hE (hI.ext e22) hbd
 with_reducible refine zPm k25 ?_
 rintro _ u23 g24 ⟨B1, A1, rfl, hB1, hA1⟩
 refine zza 21 (.v (.tuple #[.agg #[B1.v, A1.v], .int .i64 0])) (zza 25 (.v (.agg #[B1.v, A1.v])) (zza 26 (zI 0) (zzk 9 ⟨45, [.slice none 0 0, .slice none 0 0]⟩ (zzj ⟨45, [B1.v, A1.v]⟩ ty45 ?_))))
 refine zza 10 (zI 0) (zzb (sq9 (zza 28 (.v y1.v) (zzi 29 (.v (W12.v)) ty27 zze (zzg 30 14 [y1.v, W12.v] ?_)))))
 intro w26 u26 e26 d26
 have k29 := k_csStable (W := W12) d26 hE (hI.ext (e22.trans (g24.ext.trans e26))) hbd
 with_reducible refine zPm k29 ?_
 rintro _ u27 g28 rfl
 refine zza 27 (.v (.tuple #[.bool (Nt.csSt W12.f L1), .int .i64 0])) (zza 31 (zB (Nt.csSt W12.f L1)) (zza 32 (zI 0) (zza 11 (zB (Nt.csSt W12.f L1)) (zza 12 (zI 0) (zzb (sq9 (zza 34 (.adr 9 1) (zzi 35 (.v A1.v) ty43 zzl (zzg 36 15 [A1.v] ?_)))))))))
 intro w30 u30 e30 d30
 have k33 := k_stableD (S := 400) d30 (hA1.ext (e26.trans (g28.ext.trans e30))).raw (by rw [csP_trim xq]; exact hX9) xw xw (Nat.le_trans (Nt.csP_len (fun _ => rfl)) xq)
 with_reducible refine zPm k33 ?_
 rintro _ u31 g32 rfl
 refine zza 33 (.v (.tuple #[.bool (decide (t9 = 0)), .int .i64 0])) (zza 37 (zB (decide (t9 = 0))) (zza 38 (zI 0) (zza 13 (zB (decide (t9 = 0))) (zza 14 (zI 0) (zzc 57 [(10, zI 0), (11, zB (Nt.csSt W12.f L1)), (12, zI 0), (13, zB (decide (t9 = 0))), (14, zI 0)] [] (sq9 (zzg 39 5 [] ?_)))))))
 intro w34 u34 e34 d34
 have k37 := k_known24 d34
 with_reducible refine zPm k37 ?_
 rintro _ u35 g36 rfl
 refine zza 40 (zB true) (zza 41 (zI 0) ?_ (hw := w1 1 true 40))
 refine zza 42 (zB true) ?_ (hw := w1 1 true 40)
 refine zza 43 (zB true) (zza 44 (zB true) (zza 45 (zI 0) ?_ (hw := w1 5 true 44)))
 refine zza 46 (zB true) ?_ (hw := w1 5 true 44)
 refine zza 47 (zB true) (zza 48 (zB true) (zza 49 (zI 0) ?_ (hw := w1 9 true 48)))
 refine zza 50 (zB true) ?_ (hw := w1 9 true 48)
 refine zza 51 (zB true) (zza 52 (zB true) (zza 53 (zB (Nt.csSt W12.f L1)) ?_ (hw := w1 13 true 52)))
 refine zza 54 (zB (decide (t9 = 0))) ?_ (hw := w1 13 true 52)
 refine zza 55 (zB ((Nt.csSt W12.f L1) == (decide (t9 = 0)))) ?_ (hw := w1 13 true 52)
 refine zza 56 (zB ((Nt.csSt W12.f L1) == (decide (t9 = 0)))) (zza 6 (zB ((Nt.csSt W12.f L1) == (decide (t9 = 0)))) (zzb (zzo (ret0 [.bool ((Nt.csSt W12.f L1) == (decide (t9 = 0)))] ⟨zzq, trivial⟩ fun u38 e39 => ?_))))
 rw [ht9]; simp; rfl
end Go.Proofs.Ytdmpfhhhlhoeiaa
