/- The two networks of a wave filter: their runs, the sum of their outputs. WaveIsComplementary, walked. Printed by wip/sym/g_wm.py. WaveSumsBack. Printed by wip/sym/g_ls.py. -/
import Derived.Test.YtifcjcecmoimjaaGreatWsbF
namespace Go.Proofs.YtifcjcecmoimjaaGreat
open Go.RowKit
set_option linter.unusedVariables false
namespace Nt
variable {D W : WL} {N NN : List (List TL)} {nx st xs v0 vs : List Int} {q a b h r f : Int} {n k i : Nat} {T T1 T2 : List TL} {L M : List PL} {U : Int}
theorem getD_append_l {α : Type} {l m : List α} {z : α} (h : i < l.length) : (l ++ m).getD i z = l.getD i z := by
 rw [List.getD_eq_getElem?_getD, List.getElem?_append_left h, ← List.getD_eq_getElem?_getD]
theorem getD_append_r {α : Type} {l : List α} {x z : α} : (l ++ [x]).getD l.length z = x := by
 rw [List.getD_eq_getElem?_getD, List.getElem?_append_right (Nat.le_refl _), Nat.sub_self]; rfl
theorem vals_front (hk : k ≤ NN.length) : valsK D W (NN ++ [T]) v0 k = valsK D W NN v0 k := by
 induction k with
 | zero => rfl
 | succ k ih =>
  show valsK D W (NN ++ [T]) v0 k ++ [nodeV D W (valsK D W (NN ++ [T]) v0 k) ((NN ++ [T]).getD k [])] = _
  rw [ih xq, getD_append_l xq]; rfl
theorem vals_last : valsK D W (NN ++ [T]) v0 (NN ++ [T]).length = valsK D W NN v0 NN.length ++ [nodeV D W (valsK D W NN v0 NN.length) T] := by
 rw [List.length_append]
 show valsK D W (NN ++ [T]) v0 NN.length ++ [nodeV D W (valsK D W (NN ++ [T]) v0 NN.length) ((NN ++ [T]).getD NN.length [])] = _
 rw [vals_front (Nat.le_refl _), getD_append_r]
theorem over_last (h : oversK D W (NN ++ [T]) v0 (NN ++ [T]).length = false) : fitB D (shiftW (sumT (valsK D W NN v0 NN.length) T) W.f D.r) = true := by
 rw [List.length_append] at h
 have h : (oversK D W (NN ++ [T]) v0 NN.length || overV D W (valsK D W (NN ++ [T]) v0 NN.length) ((NN ++ [T]).getD NN.length [])) = false := h
 rw [Bool.or_eq_false_iff] at h
 have h := h.2
 rw [vals_front (Nat.le_refl _), getD_append_r] at h
 unfold overV at h
 simpa using h
theorem red_fit {v : Int} (hD : WdOK D) (h : fitB D v = true) : redW D v = v := by
 have h1 := fit_iff.1 h
 have hb := hD.1
 have h2 := p2i_succ (b := D.b) xq
 have h3 := zxq (D.b - 1)
 unfold redW
 split
 ·unfold wrapW
  by_cases hv : 0 ≤ v
  ·rw [Int.emod_eq_of_lt hv xq, if_neg xq]
  ·have e : v % p2i D.b = v + p2i D.b := by
    rw [← Int.add_emod_right, Int.emod_eq_of_lt xq xq]
   rw [e, if_pos xq]; omega
 ·unfold satW
  split <;> split <;> omega
theorem runC_no : ∀ {n k : Nat}, runC D W N nx st xs n = 0 → k < n → oversK D W N (xs.getD k 0 :: runS D W N nx st xs k) N.length = false := by
 intro n
 induction n with
 | zero => intro k _ h; omega
 | succ n ih =>
  intro k h hk
  have h : runC D W N nx st xs n + (if oversK D W N (xs.getD n 0 :: runS D W N nx st xs n) N.length then 1 else 0) = 0 := h
  by_cases e : k = n
  ·subst e
   cases ho : oversK D W N (xs.getD k 0 :: runS D W N nx st xs k) N.length with
   | false => rfl
   | true => rw [ho] at h; simp at h
  ·exact ih xq xq
theorem nextV_app {l m : List Int} (hx : ∀ j, j < nx.length → 0 ≤ nx.getD j 0 ∧ nx.getD j 0 < (l.length : Int)) : nextV nx (l ++ m) = nextV nx l := by
 unfold nextV
 refine List.map_congr_left (fun z hz => ?_)
 obtain ⟨j, hj, rfl⟩ := mem_getD hz
 have := hx j hj
 exact getD_app_lt xq
theorem runS_last (hs : st.length = n) (hnl : nx.length = n) (hx : ∀ j, j < nx.length → 0 ≤ nx.getD j 0 ∧ nx.getD j 0 ≤ ((n + NN.length : Nat) : Int)) (k : Nat) : (runS D W (NN ++ [T1]) nx st xs k).length = n ∧ runS D W (NN ++ [T1]) nx st xs k = runS D W (NN ++ [T2]) nx st xs k := by
 induction k with
 | zero => exact ⟨hs, rfl⟩
 | succ k ih =>
  refine ⟨(nextV_len).trans hnl, ?_⟩
  show nextV nx (valsK D W (NN ++ [T1]) _ (NN ++ [T1]).length) = nextV nx (valsK D W (NN ++ [T2]) _ (NN ++ [T2]).length)
  rw [vals_last, vals_last, ← ih.2]
  have hl : (valsK D W NN (xs.getD k 0 :: runS D W (NN ++ [T1]) nx st xs k) NN.length).length = 1 + n + NN.length := by rw [valsK_len, List.length_cons, ih.1]; omega
  rw [nextV_app (fun j hj => by have := hx j hj; rw [hl]; omega), nextV_app (fun j hj => by have := hx j hj; rw [hl]; omega)]
def rndH (r s : Int) : Int := if r = 2 then s / 2 + s % 2 else if r = 3 ∧ s < 0 ∧ s % 2 ≠ 0 then s / 2 + 1 else s / 2
theorem shift_half {s : Int} (hf : 1 ≤ f) : shiftW (p2i (f - 1) * s) f r = rndH r s := by
 have h1 := p2i_succ hf
 have h2 := zxq (f - 1)
 have e1 : p2i (f - 1) * s / p2i f = s / 2 := by rw [h1, Int.mul_comm 2, Int.mul_ediv_mul_of_pos _ _ h2]
 have e2 : p2i (f - 1) * s % p2i f = p2i (f - 1) * (s % 2) := by rw [h1, Int.mul_comm 2, Int.mul_emod_mul_of_pos _ _ h2]
 have e3 : p2i (f - 1) * s / p2i (f - 1) = s := Int.mul_ediv_cancel_left _ xq
 unfold shiftW rndH
 rw [if_neg xq, e1, e2, e3]
 by_cases hr : r = 2
 ·rw [if_pos hr, if_pos hr]
 ·rw [if_neg hr, if_neg hr]
  have k1 : p2i (f - 1) * s < 0 ↔ s < 0 := by
   constructor
   ·intro h
    by_cases h3 : s < 0
    ·exact h3
    ·have := Int.mul_nonneg (Int.le_of_lt h2) (show 0 ≤ s by omega); omega
   ·intro h; exact Int.mul_neg_of_pos_of_neg h2 h
  have k2 : p2i (f - 1) * (s % 2) ≠ 0 ↔ s % 2 ≠ 0 := by
   constructor
   ·intro h h3; exact h (by rw [h3, Int.mul_zero])
   ·intro h h3
    rcases Int.mul_eq_zero.1 h3 with h4 | h4
    ·omega
    ·exact h h4
  by_cases h3 : r = 3 ∧ s < 0 ∧ s % 2 ≠ 0
  ·rw [if_pos h3, if_pos ⟨h3.1, k1.2 h3.2.1, k2.2 h3.2.2⟩]
  ·rw [if_neg h3, if_neg (fun h4 => h3 ⟨h4.1, k1.1 h4.2.1, k2.1 h4.2.2⟩)]
theorem rnd_gap (hr : 1 ≤ r ∧ r ≤ 3) : -1 ≤ a - rndH r (a + b) - rndH r (a - b) ∧ a - rndH r (a + b) - rndH r (a - b) ≤ 1 := by
 unfold rndH
 split
 ·omega
 ·split <;> split <;> omega
theorem p2i_half (hf : 1 ≤ f) : (p2i f).tdiv 2 = p2i (f - 1) := by
 have h1 := p2i_succ hf
 have h2 := zxq (f - 1)
 rw [Int.tdiv_eq_ediv_of_nonneg xq]; omega
theorem sums_back {fa fb : Int} (hD : WdOK D) (hf : 1 ≤ W.f) (hs : st.length = n) (hnl : nx.length = n) (hx : ∀ j, j < nx.length → 0 ≤ nx.getD j 0 ∧ nx.getD j 0 ≤ ((n + NN.length : Nat) : Int))
  (ha : 0 ≤ fa ∧ fa ≤ ((n + NN.length : Nat) : Int)) (hb : 0 ≤ fb ∧ fb ≤ ((n + NN.length : Nat) : Int)) (hT1 : T1 = [⟨fa, (p2i W.f).tdiv 2⟩, ⟨fb, (p2i W.f).tdiv 2⟩]) (hT2 : T2 = [⟨fa, (p2i W.f).tdiv 2⟩, ⟨fb, -(p2i W.f).tdiv 2⟩])
  (c1 : runC D W (NN ++ [T1]) nx st xs xs.length = 0) (c2 : runC D W (NN ++ [T2]) nx st xs xs.length = 0) (hk : k < xs.length) :
  -1 ≤ (runO D W (NN ++ [T1]) nx fa st xs xs.length).getD k 0 - (runO D W (NN ++ [T1]) nx ((n + NN.length + 1 : Nat) : Int) st xs xs.length).getD k 0 - (runO D W (NN ++ [T2]) nx ((n + NN.length + 1 : Nat) : Int) st xs xs.length).getD k 0 ∧
  (runO D W (NN ++ [T1]) nx fa st xs xs.length).getD k 0 - (runO D W (NN ++ [T1]) nx ((n + NN.length + 1 : Nat) : Int) st xs xs.length).getD k 0 - (runO D W (NN ++ [T2]) nx ((n + NN.length + 1 : Nat) : Int) st xs xs.length).getD k 0 ≤ 1 := by
 obtain ⟨hl, he⟩ := runS_last (D := D) (W := W) (T1 := T1) (T2 := T2) (xs := xs) hs hnl hx k
 have o1 := over_last (runC_no c1 hk)
 have o2 := over_last (runC_no c2 hk)
 rw [runO_get hk, runO_get hk, runO_get hk]
 unfold runV
 rw [vals_last, vals_last, ← he]
 rw [← he] at o2
 have hvl : (valsK D W NN (xs.getD k 0 :: runS D W (NN ++ [T1]) nx st xs k) NN.length).length = 1 + n + NN.length := by rw [valsK_len, List.length_cons, hl]; omega
 generalize valsK D W NN (xs.getD k 0 :: runS D W (NN ++ [T1]) nx st xs k) NN.length = vs at *
 have eq : ((n + NN.length + 1 : Nat) : Int).toNat = vs.length := by rw [hvl]; omega
 rw [eq, getD_append_r, getD_append_r, getD_app_lt xq]
 unfold nodeV
 rw [red_fit hD o1, red_fit hD o2, hT1, hT2]
 have e1 : sumT vs [⟨fa, (p2i W.f).tdiv 2⟩, ⟨fb, (p2i W.f).tdiv 2⟩] = p2i (W.f - 1) * (vs.getD fa.toNat 0 + vs.getD fb.toNat 0) := by
  show (p2i W.f).tdiv 2 * vs.getD fa.toNat 0 + ((p2i W.f).tdiv 2 * vs.getD fb.toNat 0 + 0) = _
  rw [p2i_half hf, Int.mul_add]; omega
 have e2 : sumT vs [⟨fa, (p2i W.f).tdiv 2⟩, ⟨fb, -(p2i W.f).tdiv 2⟩] = p2i (W.f - 1) * (vs.getD fa.toNat 0 - vs.getD fb.toNat 0) := by
  show (p2i W.f).tdiv 2 * vs.getD fa.toNat 0 + (-(p2i W.f).tdiv 2 * vs.getD fb.toNat 0 + 0) = _
  rw [p2i_half hf, Int.mul_sub, Int.neg_mul]; omega
 rw [e1, e2, shift_half hf, shift_half hf]
 exact rnd_gap ⟨hD.2.2.2.2.1, hD.2.2.2.2.2.1⟩
def TmOK (W : WL) (n k : Nat) (T : List TL) : Prop := T.length ≤ 2 ∧ ∀ t ∈ T, 0 ≤ t.f ∧ t.f ≤ ((n + k : Nat) : Int) ∧ (t.c = p2i W.f ∨ fitB W t.c = true)
def NdsOK (W : WL) (n : Nat) (N : List (List TL)) : Prop := ∀ k, k < N.length → TmOK W n k (N.getD k [])
theorem NdsOK.app {A B : List (List TL)} (h : NdsOK W n A) (k : ∀ j, j < B.length → TmOK W n (A.length + j) (B.getD j [])) : NdsOK W n (A ++ B) := fun i hi => by
 by_cases e : i < A.length
 ·rw [getD_append_l e]; exact h i e
 ·obtain ⟨j, rfl⟩ : ∃ j, i = A.length + j := ⟨i - A.length, by omega⟩
  rw [List.getD_eq_getElem?_getD, List.getElem?_append_right xq, show A.length + j - A.length = j by omega, ← List.getD_eq_getElem?_getD]
  exact k j (by rw [List.length_append] at hi; omega)
theorem adN_ok {g u s : Int} {m k0 : Nat} (hg : fitB W g = true ∧ fitB W (-g) = true) (hu : 0 ≤ u ∧ u ≤ ((n + k0 : Nat) : Int)) (hs : 0 ≤ s ∧ s ≤ ((n + k0 : Nat) : Int)) (hm : m = n + k0 + 1) : ∀ j, j < (adN (p2i W.f) g u s m).length → TmOK W n (k0 + j) ((adN (p2i W.f) g u s m).getD j []) := by
 intro j hj
 have hj : j < 3 := hj
 subst hm
 obtain rfl | rfl | rfl : j = 0 ∨ j = 1 ∨ j = 2 := by omega
 ·refine ⟨Nat.le_refl _, fun t ht => ?_⟩
  have ht : t ∈ [(⟨u, -g⟩ : TL), ⟨s, g⟩] := ht
  simp at ht
  rcases ht with rfl | rfl
  ·exact ⟨hu.1, hu.2, .inr hg.2⟩
  ·exact ⟨hs.1, hs.2, .inr hg.1⟩
 ·refine ⟨Nat.le_refl _, fun t ht => ?_⟩
  have ht : t ∈ [(⟨((n + k0 + 1 : Nat) : Int), p2i W.f⟩ : TL), ⟨s, p2i W.f⟩] := ht
  rcases List.mem_cons.1 ht with rfl | ht
  ·exact ⟨by show (0 : Int) ≤ ((n + k0 + 1 : Nat) : Int); omega, by show ((n + k0 + 1 : Nat) : Int) ≤ _; omega, .inl rfl⟩
  ·rw [List.mem_singleton.1 ht]
   exact ⟨hs.1, by show s ≤ _; omega, .inl rfl⟩
 ·refine ⟨Nat.le_refl _, fun t ht => ?_⟩
  have ht : t ∈ [(⟨((n + k0 + 1 : Nat) : Int), p2i W.f⟩ : TL), ⟨u, p2i W.f⟩] := ht
  rcases List.mem_cons.1 ht with rfl | ht
  ·exact ⟨by show (0 : Int) ≤ ((n + k0 + 1 : Nat) : Int); omega, by show ((n + k0 + 1 : Nat) : Int) ≤ _; omega, .inl rfl⟩
  ·rw [List.mem_singleton.1 ht]
   exact ⟨hu.1, by show u ≤ _; omega, .inl rfl⟩
theorem pas_fit {p : PL} (hW : WdOK W) (hb : W.f + 2 ≤ W.b) (hp : PasOK W.f p) : (fitB W p.g = true ∧ fitB W (-p.g) = true) ∧ fitB W p.h = true ∧ fitB W (-p.h) = true := by
 obtain ⟨_, h1, h2, h3, h4⟩ := hp
 have h5 := zwh (a := W.f) (b := W.b - 1) xq
 exact ⟨⟨fit_iff.2 xq, fit_iff.2 xq⟩, fit_iff.2 xq, fit_iff.2 xq⟩
structure WsOK (W : WL) (n : Nat) (s : WS) : Prop where
 nd : NdsOK W n s.N
 u : 0 ≤ s.u ∧ s.u ≤ ((n + s.N.length : Nat) : Int)
 s : ∀ z ∈ s.s, 0 ≤ z ∧ z ≤ ((n + s.N.length : Nat) : Int)
theorem ws_ok (hW : WdOK W) (hb : W.f + 2 ≤ W.b) (hL : ∀ p ∈ L, PasOK W.f p) {st : WS} (h : WsOK W n st) (hf : 1 ≤ st.f) : ∀ i, i ≤ L.length → st.f + ordS L i ≤ n + 1 → WsOK W n (wsS n (p2i W.f) L st i) := by
 intro i
 induction i with
 | zero => intro _ _; exact h
 | succ i ih =>
  intro hi ho
  have hS : ordS L (i + 1) = ordS L i + ordN (L.getD i pl0) := rfl
  obtain ⟨h1, h2, h3⟩ := ih xq xq
  have hff := ws_f (n := n) (U := p2i W.f) (L := L) (st := st) i
  have hp : PasOK W.f (L.getD i pl0) := by
   rw [List.getD_eq_getElem?_getD, List.getElem?_eq_getElem (show i < L.length by omega)]; exact hL _ (List.getElem_mem _)
  have hN : (wsS n (p2i W.f) L st (i + 1)) = ⟨(wsS n (p2i W.f) L st i).N ++ secN (p2i W.f) (L.getD i pl0) (wsS n (p2i W.f) L st i).f (wsS n (p2i W.f) L st i).u (n + (wsS n (p2i W.f) L st i).N.length + 1), secX (L.getD i pl0) (wsS n (p2i W.f) L st i).f (n + (wsS n (p2i W.f) L st i).N.length + 1) (wsS n (p2i W.f) L st i).s, secF (L.getD i pl0) (wsS n (p2i W.f) L st i).f, ((secO (L.getD i pl0) (n + (wsS n (p2i W.f) L st i).N.length + 1) : Nat) : Int)⟩ := rfl
  rw [hN]
  clear hN ih
  generalize wsS n (p2i W.f) L st i = w at *
  generalize L.getD i pl0 = p at *
  obtain ⟨hg, hh⟩ := pas_fit hW hb hp
  by_cases ho1 : p.o = 1
  ·have hord : ordN p = 1 := by unfold ordN; rw [if_pos ho1]
   have e1 : secN (p2i W.f) p w.f w.u (n + w.N.length + 1) = adN (p2i W.f) p.g w.u (w.f : Int) (n + w.N.length + 1) := by unfold secN; rw [if_pos ho1]
   have e2 : secX p w.f (n + w.N.length + 1) w.s = w.s.set (w.f - 1) ((n + w.N.length + 1 + 2 : Nat) : Int) := by unfold secX; rw [if_pos ho1]
   have e3 : secO p (n + w.N.length + 1) = n + w.N.length + 1 + 1 := by unfold secO; rw [if_pos ho1]
   rw [e1, e2, e3]
   have hlen : (w.N ++ adN (p2i W.f) p.g w.u (w.f : Int) (n + w.N.length + 1)).length = w.N.length + 3 := by rw [List.length_append]; rfl
   refine ⟨h1.app (adN_ok hg h2 xq rfl), ?_, fun z hz => ?_⟩
   ·show (0 : Int) ≤ ((n + w.N.length + 1 + 1 : Nat) : Int) ∧ ((n + w.N.length + 1 + 1 : Nat) : Int) ≤ _
    rw [hlen]; omega
   ·show 0 ≤ z ∧ z ≤ ((n + (w.N ++ adN (p2i W.f) p.g w.u (w.f : Int) (n + w.N.length + 1)).length : Nat) : Int)
    rw [hlen]
    rcases mem_set' hz with hz | hz
    ·have := h3 z hz; omega
    ·subst hz; omega
  ·have hord : ordN p = 2 := by unfold ordN; rw [if_neg ho1]
   have e1 : secN (p2i W.f) p w.f w.u (n + w.N.length + 1) = adN (p2i W.f) p.h (w.f : Int) ((w.f + 1 : Nat) : Int) (n + w.N.length + 1) ++ adN (p2i W.f) p.g w.u ((n + w.N.length + 1 + 1 : Nat) : Int) (n + w.N.length + 1 + 3) := by unfold secN; rw [if_neg ho1]
   have e2 : secX p w.f (n + w.N.length + 1) w.s = (w.s.set (w.f - 1) ((n + w.N.length + 1 + 5 : Nat) : Int)).set w.f ((n + w.N.length + 1 + 2 : Nat) : Int) := by unfold secX; rw [if_neg ho1]
   have e3 : secO p (n + w.N.length + 1) = n + w.N.length + 1 + 4 := by unfold secO; rw [if_neg ho1]
   rw [e1, e2, e3, ← List.append_assoc]
   have hA : (w.N ++ adN (p2i W.f) p.h (w.f : Int) ((w.f + 1 : Nat) : Int) (n + w.N.length + 1)).length = w.N.length + 3 := by rw [List.length_append]; rfl
   have hlen : (w.N ++ adN (p2i W.f) p.h (w.f : Int) ((w.f + 1 : Nat) : Int) (n + w.N.length + 1) ++ adN (p2i W.f) p.g w.u ((n + w.N.length + 1 + 1 : Nat) : Int) (n + w.N.length + 1 + 3)).length = w.N.length + 6 := by rw [List.length_append, hA]; rfl
   refine ⟨(h1.app (adN_ok hh xq xq rfl)).app (adN_ok hg (by rw [hA]; omega) (by rw [hA]; omega) (by rw [hA]; omega)), ?_, fun z hz => ?_⟩
   ·dsimp only
    rw [hlen]; omega
   ·dsimp only at hz ⊢
    rw [hlen]
    rcases mem_set' hz with hz | hz
    ·rcases mem_set' hz with hz | hz
     ·have := h3 z hz; omega
     ·subst hz; omega
    ·subst hz; omega
theorem ws_mono {n : Nat} {U : Int} {L : List PL} {st : WS} (i : Nat) : (wsS n U L st i).N.length ≤ (wsS n U L st (i + 1)).N.length := by
 show _ ≤ ((wsS n U L st i).N ++ secN U (L.getD i pl0) (wsS n U L st i).f (wsS n U L st i).u (n + (wsS n U L st i).N.length + 1)).length
 rw [List.length_append]; omega
end Nt
theorem wvB_ok {W : WL} {L M : List PL} (hW : WdOK W) (hb : W.f + 2 ≤ W.b) (hL : ∀ p ∈ L, PasOK W.f p) (hM : ∀ p ∈ M, PasOK W.f p) : Nt.WsOK W (wvN L M) (wvB (Nt.p2i W.f) L M) ∧ 0 ≤ (wvT (Nt.p2i W.f) L M).u ∧ (wvT (Nt.p2i W.f) L M).u ≤ ((wvN L M + (wvB (Nt.p2i W.f) L M).N.length : Nat) : Int) ∧ (wvB (Nt.p2i W.f) L M).s.length = wvN L M := by
 have h0 : Nt.WsOK W (wvN L M) ⟨[], List.replicate (wvN L M) 0, 1, 0⟩ := ⟨fun k hk => absurd hk (Nat.not_lt_zero k), ⟨Int.le_refl _, by show (0 : Int) ≤ _; omega⟩, fun z hz => by have := List.eq_of_mem_replicate hz; subst this; omega⟩
 have hT : Nt.WsOK W (wvN L M) (wvT (Nt.p2i W.f) L M) := Nt.ws_ok hW hb hL h0 (Nat.le_refl _) L.length (Nat.le_refl _) (by show 1 + _ ≤ _; unfold wvN; omega)
 have hfT : (wvT (Nt.p2i W.f) L M).f = 1 + Nt.ordS L L.length := Nt.ws_f _
 have h1 : Nt.WsOK W (wvN L M) ⟨(wvT (Nt.p2i W.f) L M).N, (wvT (Nt.p2i W.f) L M).s, (wvT (Nt.p2i W.f) L M).f, 0⟩ := ⟨hT.nd, ⟨Int.le_refl _, by show (0 : Int) ≤ _; omega⟩, hT.s⟩
 have hB : Nt.WsOK W (wvN L M) (wvB (Nt.p2i W.f) L M) := Nt.ws_ok hW hb hM h1 (by show 1 ≤ (wvT (Nt.p2i W.f) L M).f; omega) M.length (Nat.le_refl _) (by show (wvT (Nt.p2i W.f) L M).f + _ ≤ _; rw [hfT]; unfold wvN; omega)
 have hmono : ∀ i, (wvT (Nt.p2i W.f) L M).N.length ≤ (Nt.wsS (wvN L M) (Nt.p2i W.f) M ⟨(wvT (Nt.p2i W.f) L M).N, (wvT (Nt.p2i W.f) L M).s, (wvT (Nt.p2i W.f) L M).f, 0⟩ i).N.length := fun i => by
  induction i with
  | zero => exact Nat.le_refl _
  | succ i ih =>
   exact Nat.le_trans ih (Nt.ws_mono i)
 have hm : (wvT (Nt.p2i W.f) L M).N.length ≤ (wvB (Nt.p2i W.f) L M).N.length := hmono M.length
 refine ⟨hB, hT.u.1, by have := hT.u.2; omega, ?_⟩
 have hsT : (wvT (Nt.p2i W.f) L M).s.length = wvN L M := (Nt.ws_s _).trans zq
 exact (Nt.ws_s _).trans hsT
theorem wv_netOK {D W : WL} {L M : List PL} {c : Bool} {q : Int} (hD : WdOK D) (hW : WdOK W) (hf : 1 ≤ W.f) (hb : W.f + 2 ≤ W.b) (hl : L.length ≤ 4) (hm : M.length ≤ 4) (hL : ∀ p ∈ L, PasOK W.f p) (hM : ∀ p ∈ M, PasOK W.f p) (hq : 0 ≤ q ∧ q ≤ ((wvN L M + (wvB (Nt.p2i W.f) L M).N.length + 1 : Nat) : Int)) :
  Nt.NetOK D W (wvN L M) (wvO (Nt.p2i W.f) L M c) (wvB (Nt.p2i W.f) L M).s q := by
 obtain ⟨hB, hu0, hu1, hsl⟩ := wvB_ok hW hb hL hM
 have hoL := Nt.ordS_le L L.length
 have hoM := Nt.ordS_le M M.length
 have hN1 : (wvT (Nt.p2i W.f) L M).N.length ≤ 6 * L.length := Nat.le_trans (Nt.ws_N _) zq
 have hN2 : (wvB (Nt.p2i W.f) L M).N.length ≤ (wvT (Nt.p2i W.f) L M).N.length + 6 * M.length := Nt.ws_N _
 have hlen : (wvO (Nt.p2i W.f) L M c).length = (wvB (Nt.p2i W.f) L M).N.length + 1 := by unfold wvO; rw [List.length_append]; rfl
 have hw : wvN L M = Nt.ordS L L.length + Nt.ordS M M.length := rfl
 have hp2 := Nt.p2i_half hf
 have hpm := Nt.zwh (a := W.f - 1) (b := W.b - 1) xq
 have hpm2 := Nt.p2i_succ hf
 have hpp := Nt.zxq (W.f - 1)
 have hpm3 := Nt.zwh (a := W.f) (b := W.b - 1) xq
 have hall : Nt.NdsOK W (wvN L M) (wvO (Nt.p2i W.f) L M c) := by
  unfold wvO
  refine hB.nd.app (fun j hj => ?_)
  obtain rfl : j = 0 := by simp at hj; omega
  refine ⟨Nat.le_refl _, fun t ht => ?_⟩
  have ht : t ∈ [(⟨(wvT (Nt.p2i W.f) L M).u, (Nt.p2i W.f).tdiv 2⟩ : TL), ⟨(wvB (Nt.p2i W.f) L M).u, if c then -((Nt.p2i W.f).tdiv 2) else (Nt.p2i W.f).tdiv 2⟩] := ht
  rcases List.mem_cons.1 ht with rfl | ht
  ·exact ⟨hu0, hu1, .inr (Nt.fit_iff.2 (by show -Nt.p2i (W.b - 1) ≤ (Nt.p2i W.f).tdiv 2 ∧ (Nt.p2i W.f).tdiv 2 ≤ Nt.p2i (W.b - 1) - 1; rw [hp2]; omega))⟩
  ·rw [List.mem_singleton.1 ht]
   refine ⟨hB.u.1, hB.u.2, .inr (Nt.fit_iff.2 ?_)⟩
   show _ ≤ (if c then -((Nt.p2i W.f).tdiv 2) else (Nt.p2i W.f).tdiv 2) ∧ (if c then -((Nt.p2i W.f).tdiv 2) else (Nt.p2i W.f).tdiv 2) ≤ _
   rw [hp2]
   split <;> omega
 refine ⟨hD, hW, by omega, by omega, hsl, fun k hk => ?_, fun j hj => ?_, by rw [hlen]; omega⟩
 ·obtain ⟨h1, h2⟩ := hall k hk
  refine ⟨by omega, fun j hj => ?_⟩
  have := h2 (((wvO (Nt.p2i W.f) L M c).getD k []).getD j tl0) (by rw [List.getD_eq_getElem?_getD (l := (wvO (Nt.p2i W.f) L M c).getD k []), List.getElem?_eq_getElem hj]; exact List.getElem_mem _)
  refine ⟨this.1, by have := this.2.1; omega, this.2.2⟩
 ·have := hB.s ((wvB (Nt.p2i W.f) L M).s.getD j 0) (by rw [List.getD_eq_getElem?_getD, List.getElem?_eq_getElem hj]; exact List.getElem_mem _)
  rw [hlen]; omega
theorem wvO_last {U : Int} {L M : List PL} {c : Bool} : (wvO U L M c).getD (wvB U L M).N.length [] = [⟨(wvT U L M).u, U.tdiv 2⟩, ⟨(wvB U L M).u, if c then -(U.tdiv 2) else U.tdiv 2⟩] := Nt.getD_append_r
theorem wvO_len {U : Int} {L M : List PL} {c : Bool} : (wvO U L M c).length = (wvB U L M).N.length + 1 := by unfold wvO; rw [List.length_append]; rfl
theorem Nt.pas_get {f : Int} {L : List PL} (h : ∀ p ∈ L, PasOK f p) : ∀ i, i < L.length → PasOK f (L.getD i pl0) := fun i hi => by
 rw [List.getD_eq_getElem?_getD, List.getElem?_eq_getElem hi]; exact h _ (List.getElem_mem hi)
theorem wvB_N (U : Int) (L M : List PL) : (wvB U L M).N.length ≤ 6 * L.length + 6 * M.length := by
 have hN1 : (wvT U L M).N.length ≤ 6 * L.length := Nat.le_trans (Nt.ws_N _) zq
 have hN2 : (wvB U L M).N.length ≤ (wvT U L M).N.length + 6 * M.length := Nt.ws_N _
 omega
theorem wave_sums {D W : WL} {L M : List PL} {xs : List Int} {k : Nat} (hD : WdOK D) (hW : WdOK W) (hf : 1 ≤ W.f) (hb : W.f + 2 ≤ W.b) (hL : ∀ p ∈ L, PasOK W.f p) (hM : ∀ p ∈ M, PasOK W.f p)
  (c1 : Nt.runC D W (wvO (Nt.p2i W.f) L M false) (wvB (Nt.p2i W.f) L M).s (List.replicate (wvN L M) 0) xs xs.length = 0) (c2 : Nt.runC D W (wvO (Nt.p2i W.f) L M true) (wvB (Nt.p2i W.f) L M).s (List.replicate (wvN L M) 0) xs xs.length = 0) (hk : k < xs.length) :
  -1 ≤ (Nt.runO D W (wvO (Nt.p2i W.f) L M false) (wvB (Nt.p2i W.f) L M).s (wvT (Nt.p2i W.f) L M).u (List.replicate (wvN L M) 0) xs xs.length).getD k 0 - (Nt.runO D W (wvO (Nt.p2i W.f) L M false) (wvB (Nt.p2i W.f) L M).s ((wvN L M + (wvB (Nt.p2i W.f) L M).N.length + 1 : Nat) : Int) (List.replicate (wvN L M) 0) xs xs.length).getD k 0 - (Nt.runO D W (wvO (Nt.p2i W.f) L M true) (wvB (Nt.p2i W.f) L M).s ((wvN L M + (wvB (Nt.p2i W.f) L M).N.length + 1 : Nat) : Int) (List.replicate (wvN L M) 0) xs xs.length).getD k 0 ∧
  (Nt.runO D W (wvO (Nt.p2i W.f) L M false) (wvB (Nt.p2i W.f) L M).s (wvT (Nt.p2i W.f) L M).u (List.replicate (wvN L M) 0) xs xs.length).getD k 0 - (Nt.runO D W (wvO (Nt.p2i W.f) L M false) (wvB (Nt.p2i W.f) L M).s ((wvN L M + (wvB (Nt.p2i W.f) L M).N.length + 1 : Nat) : Int) (List.replicate (wvN L M) 0) xs xs.length).getD k 0 - (Nt.runO D W (wvO (Nt.p2i W.f) L M true) (wvB (Nt.p2i W.f) L M).s ((wvN L M + (wvB (Nt.p2i W.f) L M).N.length + 1 : Nat) : Int) (List.replicate (wvN L M) 0) xs xs.length).getD k 0 ≤ 1 := by
 obtain ⟨hB, hu0, hu1, hsl⟩ := wvB_ok hW hb hL hM
 exact Nt.sums_back (n := wvN L M) (NN := (wvB (Nt.p2i W.f) L M).N) (fa := (wvT (Nt.p2i W.f) L M).u) (fb := (wvB (Nt.p2i W.f) L M).u) hD hf (List.length_replicate ..) hsl
  (fun j hj => hB.s _ (by rw [List.getD_eq_getElem?_getD, List.getElem?_eq_getElem hj]; exact List.getElem_mem _)) ⟨hu0, hu1⟩ hB.u rfl rfl c1 c2 hk
theorem Nt.id_len {f : Int} {L M : List PL} (hL : L.length ≤ 4) (hM : M.length ≤ 4) : (Nt.trimQ ((Nt.trimQ (Nt.addQ (Nt.trimQ (Nt.mulQ (Nt.prodB f L L.length) (Nt.prodA f M M.length))) (Nt.trimQ (Nt.mulQ (Nt.prodB f M M.length) (Nt.prodA f L L.length))))).map (· * (((1 : Int) : Rat) / ((2 : Int) : Rat))))).length ≤ 17 ∧ (Nt.trimQ ((Nt.trimQ (Nt.addQ (Nt.trimQ (Nt.mulQ (Nt.prodB f L L.length) (Nt.prodA f M M.length))) ((Nt.trimQ (Nt.mulQ (Nt.prodB f M M.length) (Nt.prodA f L L.length))).map (fun z => -z)))).map (· * (((1 : Int) : Rat) / ((2 : Int) : Rat))))).length ≤ 17 ∧ (Nt.trimQ (Nt.mulQ (Nt.prodA f L L.length) (Nt.prodA f M M.length))).length ≤ 17 := by
 have hb : ∀ {L : List PL}, L.length ≤ 4 → (Nt.prodB f L L.length).length ≤ 9 := fun {L} h => by have h9 := (Nt.zwg f L L.length).1; omega
 have ha : ∀ {L : List PL}, L.length ≤ 4 → (Nt.prodA f L L.length).length ≤ 9 := fun {L} h => by have h9 := (Nt.zwg f L L.length).2; omega
 have h1 := Nt.zxv (hb hL) (ha hM)
 have h2 := Nt.zxv (hb hM) (ha hL)
 exact ⟨Nt.map_lenQ (Nt.add_lenQ h1 h2), Nt.map_lenQ (Nt.add_lenQ h1 (by rw [List.length_map]; exact h2 : (List.map (fun z : Rat => -z) _).length ≤ 9 + 9 - 1)), Nt.zxv (ha hL) (ha hM)⟩
set_option maxHeartbeats 4000000 in
theorem k_known26 {u w : World} (d : Dat u w) : Calls Tryz.prog 15 #[] w (Post u w fun v _ => v = .bool true) := by
 refine zzm (args := []) Tryz.func15 rfl Tryz.ntmps15 (rs := [.tmp 0]) Tryz.results15 (le_b rfl) (le_b rfl) d ?_
 refine sq9 (zza 0 (zB false) (zzb (sq9 (zza 8 (.v (.agg #[.int .i64 8, .int .i64 4, .int .i64 1, .int .i64 1])) (zzk 1 ⟨34, [.int .i64 0, .int .i64 0, .int .i64 0, .int .i64 0]⟩ (zzj ⟨34, [.int .i64 8, .int .i64 4, .int .i64 1, .int .i64 1]⟩ ty34 ?_))))))
 refine zzb (sq9 (zza 10 (.v (.agg #[.int .i64 8, .int .i64 0])) (zza 11 (.v (.agg #[.int .i64 1, .int .i64 8, .int .i64 0])) (zzi 12 (.v (.agg #[.int .i64 8, .int .i64 4, .int .i64 1, .int .i64 1])) ty34 zze (zzg 13 50 [.agg #[.int .i64 1, .int .i64 8, .int .i64 0], .agg #[.int .i64 8, .int .i64 4, .int .i64 1, .int .i64 1]] ?_)))))
 intro w11 u11 e11 d11
 have k18 := k_wAllPass (p := (⟨1, 8, 0⟩ : PL)) (W := (⟨8, 4, 1, 1⟩ : WL)) d11 (show WdOK (⟨8, 4, 1, 1⟩ : WL) by unfold WdOK; decide) yv (show PasOK (⟨8, 4, 1, 1⟩ : WL).f (⟨1, 8, 0⟩ : PL) by unfold PasOK; decide)
 with_reducible refine zPm k18 ?_
 rintro _ u16 g17 ⟨y12, y13, rfl, h14, h15⟩
 have hly12 := h14.len
 have hmy12 := Nat.le_trans (Nt.zzh (Nt.secB (⟨8, 4, 1, 1⟩ : WL).f (⟨1, 8, 0⟩ : PL))) (Nt.sec_len (⟨8, 4, 1, 1⟩ : WL).f (⟨1, 8, 0⟩ : PL)).1
 have hly13 := h15.len
 have hmy13 := Nat.le_trans (Nt.zzh (Nt.secA (⟨8, 4, 1, 1⟩ : WL).f (⟨1, 8, 0⟩ : PL))) (Nt.sec_len (⟨8, 4, 1, 1⟩ : WL).f (⟨1, 8, 0⟩ : PL)).2
 refine zza 9 (.v (.tuple #[.agg #[y12.v, y13.v], .int .i64 0])) (zza 14 (.v (.agg #[y12.v, y13.v])) (zza 15 (zI 0) (zzk 2 ⟨42, [.slice none 0 0, .slice none 0 0]⟩ (zzj ⟨42, [y12.v, y13.v]⟩ ty42 ?_))))
 refine zza 3 (zI 0) (zzb (sq9 (zza 17 (.v (.agg #[.slice none 0 0, .slice none 0 0])) (zzi 18 (.v (.agg #[.int .i64 8, .int .i64 4, .int .i64 1, .int .i64 1])) ty34 zze (zzg 19 27 [.agg #[.slice none 0 0, .slice none 0 0], .agg #[.int .i64 8, .int .i64 4, .int .i64 1, .int .i64 1]] ?_)))))
 intro w19 u19 e19 d19
 have k31 := k_wIdeal (W := (⟨8, 4, 1, 1⟩ : WL)) d19 (pas_nil _) pas_all0 yv (pas_nil _) pas_all0 yv (show WdOK (⟨8, 4, 1, 1⟩ : WL) by unfold WdOK; decide) yv
 with_reducible refine zPm k31 ?_
 rintro _ u29 g30 ⟨y20, y21, y22, y23, rfl, h24, h25, h26, h27⟩
 have hly20 := h24.len
 have hly21 := h25.len
 have hly22 := h26.len
 have hly23 := h27.len
 have hq28 := Nt.id_len (f := (⟨8, 4, 1, 1⟩ : WL).f) (L := []) (M := []) yv yv
 refine zza 16 (.v (.tuple #[.agg #[y20.v, y21.v], .agg #[y22.v, y23.v], .int .i64 0])) (zza 20 (.v (.agg #[y20.v, y21.v])) (zza 21 (.v (.agg #[y22.v, y23.v])) (zza 22 (zI 0) (zzk 4 ⟨42, [.slice none 0 0, .slice none 0 0]⟩ (zzk 5 ⟨42, [.slice none 0 0, .slice none 0 0]⟩ (zzj ⟨42, [y20.v, y21.v]⟩ ty42 ?_))))))
 refine zzj ⟨42, [y22.v, y23.v]⟩ ty42 ?_
 refine zza 6 (zI 0) (zzb (sq9 (zzg 23 51 [.int .i64 (-1), .int .i64 2] ?_)))
 intro w32 u32 e32 d32
 have k37 := k_rqFrac d32 (a := (-1)) (b := 2) xq xq xq xq
 with_reducible refine zPm k37 ?_
 rintro _ u35 g36 ⟨r33, rfl, h34⟩
 refine zzk 7 ⟨74, [.bool false, .slice none 0 0, .slice none 0 0]⟩ (zzj ⟨74, r33.cs⟩ ty74 ?_)
 refine zzb (zzd (zzz [0, 1, 3, 7, 15, 31, 63, 127, 255, 127, 127, 1663, 4095, 8191, 16383, 32767, 65535, 32767, 32767, 425983, 1048575, 2097151, 4194303, 8388607, 16777215, 8388607, 41943039, 134217727, 268435455, 536870911, 1073741823, 2147483647, 4294967295, 8589934591, 17179869183, 34359738367] [(0, []), (1, []), (2, []), (3, []), (4, []), (5, []), (6, []), (7, []), (8, []), (9, []), (10, []), (11, []), (12, [35]), (13, []), (14, []), (15, []), (16, []), (18, []), (17, []), (19, []), (20, [43]), (21, []), (22, []), (23, []), (24, []), (25, []), (26, []), (27, []), (28, []), (29, []), (30, []), (31, []), (32, []), (33, []), (34, []), (35, [])] xj xj (zza 24 (zI 0) (zza 25 (zB true) (zza 26 (zB true) (zza 27 (zI 0) ?_ (hw := w1 2 true 26)))))))
 refine zza 28 (zB true) ?_ (hw := w1 2 true 26)
 refine zza 29 (zB true) (zza 30 (zB true) (zza 31 (.adr 2 0) ?_ (hw := w1 6 true 30)))
 refine zzi 32 (.v y12.v) ty40 zzl ?_ (hw := w1 6 true 30)
 refine zzi 33 (.v (r33.v)) ty74 zze ?_ (hw := w1 6 true 30)
 refine zzg 34 52 [.int .i64 1] ?_ (hw := w1 6 true 30)
 intro w38 u38 e38 d38
 have k43 := k_rqOf d38 (z := 1) xq xq
 with_reducible refine zPm k43 ?_
 rintro _ u41 g42 ⟨r39, rfl, h40⟩
 refine sy_lit 35 ⟨74, r33.cs ++ r39.cs⟩ 2 ?_ (hw := w1 6 true 30)
 refine zyo 36 49 [.v y12.v, .slc 35 0 2 2] [35] (.inr rfl) (pub_mk xk) (k := ?_) (hw := w1 6 true 30)
 intro B44 w44 u44 e44 d44 v44
 have h46 : u44.heap[B44 35]? = some (.cells #[.bool r33.s, .slice r33.m.a r33.m.n r33.m.c, .slice r33.d.a r33.d.n r33.d.c, .bool r39.s, .slice r39.m.a r39.m.n r39.m.c, .slice r39.d.a r39.d.n r39.d.c] 74 (0, 0)) := v44 35 zq _ rfl
 obtain ⟨b45, hBb45⟩ : ∃ b, B44 35 = b := ⟨_, rfl⟩
 rw [hBb45] at h46
 have hp47 : PolN u44 (⟨some ⟨b45, 0, none⟩, 2, 2⟩ : Sl) [((((-1) : Int) : Rat) / ((2 : Int) : Rat)), ((1 : Int) : Rat)] (max 3 2) := pol_lit (L := [r33, r39]) h46 (rats2 (RatN.more (L := (max 3 2)) (h34.ext (e38.trans (g42.ext.trans e44))) xq) (RatN.more (L := (max 3 2)) (h40.ext e44) xq)) rfl yv
 show Calls _ _ #[.slice y12.a y12.n y12.c, .slice (some ⟨B44 35, 0, none⟩) 2 2] _ _
 rw [hBb45]
 have k50 := k_r5Same d44 (h14.ext (e19.trans (g30.ext.trans (e32.trans (g36.ext.trans (e38.trans (g42.ext.trans e44))))))).raw hp47.raw xq xq (by have h9 := hmy12; omega) (by first | omega | (simp; done) | (simp; omega) | (refine Nat.le_trans (Nt.zzh _) ?_; rw [Nt.addQ_len]; omega) | (refine Nat.le_trans (Nt.zzh _) ?_; have h9 := Nt.sec_len; exact Nat.le_trans (h9 _ _).1 yv) | (refine Nat.le_trans (Nt.zzh _) ?_; have h9 := Nt.sec_len; exact Nat.le_trans (h9 _ _).2 yv))
 with_reducible refine zPm k50 ?_
 rintro _ u48 g49 rfl
 refine zza 37 (zB (decide (Nt.trimQ (Nt.trimQ (Nt.secB (⟨8, 4, 1, 1⟩ : WL).f (⟨1, 8, 0⟩ : PL))) = Nt.trimQ [((((-1) : Int) : Rat) / ((2 : Int) : Rat)), ((1 : Int) : Rat)]))) (zyq 38 (x := zB (decide (Nt.trimQ (Nt.trimQ (Nt.secB (⟨8, 4, 1, 1⟩ : WL).f (⟨1, 8, 0⟩ : PL))) = Nt.trimQ [((((-1) : Int) : Rat) / ((2 : Int) : Rat)), ((1 : Int) : Rat)]))) (zB true) (by rw [show (decide (Nt.trimQ (Nt.trimQ (Nt.secB (⟨8, 4, 1, 1⟩ : WL).f (⟨1, 8, 0⟩ : PL))) = Nt.trimQ [((((-1) : Int) : Rat) / ((2 : Int) : Rat)), ((1 : Int) : Rat)])) = true from decide_eq_true (by decide +kernel)]) (zza 39 (.adr 2 1) ?_ (hw := w1 14 true 38)))
 refine zzi 40 (.v y13.v) ty40 zzl ?_ (hw := w1 14 true 38)
 refine zzi 42 (.v (r33.v)) ty74 zze ?_ (hw := w1 14 true 38)
 refine zzg 41 52 [.int .i64 1] ?_ (hw := w1 14 true 38)
 intro w52 u52 e52 d52
 have k57 := k_rqOf d52 (z := 1) xq xq
 with_reducible refine zPm k57 ?_
 rintro _ u55 g56 ⟨r53, rfl, h54⟩
 refine sy_lit 43 ⟨74, r53.cs ++ r33.cs⟩ 2 ?_ (hw := w1 14 true 38)
 refine zyo 44 49 [.v y13.v, .slc 43 0 2 2] [43] (.inr rfl) (pub_mk xk) (k := ?_) (hw := w1 14 true 38)
 intro B58 w58 u58 e58 d58 v58
 have h60 : u58.heap[B58 43]? = some (.cells #[.bool r53.s, .slice r53.m.a r53.m.n r53.m.c, .slice r53.d.a r53.d.n r53.d.c, .bool r33.s, .slice r33.m.a r33.m.n r33.m.c, .slice r33.d.a r33.d.n r33.d.c] 74 (0, 0)) := v58 43 zq _ rfl
 obtain ⟨b59, hBb59⟩ : ∃ b, B58 43 = b := ⟨_, rfl⟩
 rw [hBb59] at h60
 have hp61 : PolN u58 (⟨some ⟨b59, 0, none⟩, 2, 2⟩ : Sl) [((1 : Int) : Rat), ((((-1) : Int) : Rat) / ((2 : Int) : Rat))] (max 2 3) := pol_lit (L := [r53, r33]) h60 (rats2 (RatN.more (L := (max 2 3)) (h54.ext e58) xq) (RatN.more (L := (max 2 3)) (h34.ext (e38.trans (g42.ext.trans (e44.trans (g49.ext.trans (e52.trans (g56.ext.trans e58))))))) xq)) rfl yv
 show Calls _ _ #[.slice y13.a y13.n y13.c, .slice (some ⟨B58 43, 0, none⟩) 2 2] _ _
 rw [hBb59]
 have k64 := k_r5Same d58 (h15.ext (e19.trans (g30.ext.trans (e32.trans (g36.ext.trans (e38.trans (g42.ext.trans (e44.trans (g49.ext.trans (e52.trans (g56.ext.trans e58))))))))))).raw hp61.raw xq xq (by have h9 := hmy13; omega) (by first | omega | (simp; done) | (simp; omega) | (refine Nat.le_trans (Nt.zzh _) ?_; rw [Nt.addQ_len]; omega) | (refine Nat.le_trans (Nt.zzh _) ?_; have h9 := Nt.sec_len; exact Nat.le_trans (h9 _ _).1 yv) | (refine Nat.le_trans (Nt.zzh _) ?_; have h9 := Nt.sec_len; exact Nat.le_trans (h9 _ _).2 yv))
 with_reducible refine zPm k64 ?_
 rintro _ u62 g63 rfl
 refine zza 45 (zB (decide (Nt.trimQ (Nt.trimQ (Nt.secA (⟨8, 4, 1, 1⟩ : WL).f (⟨1, 8, 0⟩ : PL))) = Nt.trimQ [((1 : Int) : Rat), ((((-1) : Int) : Rat) / ((2 : Int) : Rat))]))) (zyq 46 (x := zB (decide (Nt.trimQ (Nt.trimQ (Nt.secA (⟨8, 4, 1, 1⟩ : WL).f (⟨1, 8, 0⟩ : PL))) = Nt.trimQ [((1 : Int) : Rat), ((((-1) : Int) : Rat) / ((2 : Int) : Rat))]))) (zB true) (by rw [show (decide (Nt.trimQ (Nt.trimQ (Nt.secA (⟨8, 4, 1, 1⟩ : WL).f (⟨1, 8, 0⟩ : PL))) = Nt.trimQ [((1 : Int) : Rat), ((((-1) : Int) : Rat) / ((2 : Int) : Rat))])) = true from decide_eq_true (by decide +kernel)]) (zza 47 (.adr 4 0) ?_ (hw := w1 22 true 46)))
 refine zzi 48 (.v y20.v) ty40 zzl ?_ (hw := w1 22 true 46)
 refine zza 49 (.adr 4 1) ?_ (hw := w1 22 true 46)
 refine zzi 50 (.v y21.v) ty40 zzl ?_ (hw := w1 22 true 46)
 refine zzg 51 49 [y20.v, y21.v] ?_ (hw := w1 22 true 46)
 intro w66 u66 e66 d66
 have k69 := k_r5Same d66 (h24.ext (e32.trans (g36.ext.trans (e38.trans (g42.ext.trans (e44.trans (g49.ext.trans (e52.trans (g56.ext.trans (e58.trans (g63.ext.trans e66))))))))))).raw (h25.ext (e32.trans (g36.ext.trans (e38.trans (g42.ext.trans (e44.trans (g49.ext.trans (e52.trans (g56.ext.trans (e58.trans (g63.ext.trans e66))))))))))).raw xq xq (by have h9 := hq28.1; omega) (by have h9 := hq28.2.2; omega)
 with_reducible refine zPm k69 ?_
 rintro _ u67 g68 rfl
 refine zza 52 (zB (decide (Nt.trimQ (Nt.trimQ ((Nt.trimQ (Nt.addQ (Nt.trimQ (Nt.mulQ (Nt.prodB (⟨8, 4, 1, 1⟩ : WL).f ([] : List PL) ([] : List PL).length) (Nt.prodA (⟨8, 4, 1, 1⟩ : WL).f ([] : List PL) ([] : List PL).length))) (Nt.trimQ (Nt.mulQ (Nt.prodB (⟨8, 4, 1, 1⟩ : WL).f ([] : List PL) ([] : List PL).length) (Nt.prodA (⟨8, 4, 1, 1⟩ : WL).f ([] : List PL) ([] : List PL).length))))).map (· * (((1 : Int) : Rat) / ((2 : Int) : Rat))))) = Nt.trimQ (Nt.trimQ (Nt.mulQ (Nt.prodA (⟨8, 4, 1, 1⟩ : WL).f ([] : List PL) ([] : List PL).length) (Nt.prodA (⟨8, 4, 1, 1⟩ : WL).f ([] : List PL) ([] : List PL).length)))))) (zyq 53 (x := zB (decide (Nt.trimQ (Nt.trimQ ((Nt.trimQ (Nt.addQ (Nt.trimQ (Nt.mulQ (Nt.prodB (⟨8, 4, 1, 1⟩ : WL).f ([] : List PL) ([] : List PL).length) (Nt.prodA (⟨8, 4, 1, 1⟩ : WL).f ([] : List PL) ([] : List PL).length))) (Nt.trimQ (Nt.mulQ (Nt.prodB (⟨8, 4, 1, 1⟩ : WL).f ([] : List PL) ([] : List PL).length) (Nt.prodA (⟨8, 4, 1, 1⟩ : WL).f ([] : List PL) ([] : List PL).length))))).map (· * (((1 : Int) : Rat) / ((2 : Int) : Rat))))) = Nt.trimQ (Nt.trimQ (Nt.mulQ (Nt.prodA (⟨8, 4, 1, 1⟩ : WL).f ([] : List PL) ([] : List PL).length) (Nt.prodA (⟨8, 4, 1, 1⟩ : WL).f ([] : List PL) ([] : List PL).length)))))) (zB true) (by rw [show (decide (Nt.trimQ (Nt.trimQ ((Nt.trimQ (Nt.addQ (Nt.trimQ (Nt.mulQ (Nt.prodB (⟨8, 4, 1, 1⟩ : WL).f ([] : List PL) ([] : List PL).length) (Nt.prodA (⟨8, 4, 1, 1⟩ : WL).f ([] : List PL) ([] : List PL).length))) (Nt.trimQ (Nt.mulQ (Nt.prodB (⟨8, 4, 1, 1⟩ : WL).f ([] : List PL) ([] : List PL).length) (Nt.prodA (⟨8, 4, 1, 1⟩ : WL).f ([] : List PL) ([] : List PL).length))))).map (· * (((1 : Int) : Rat) / ((2 : Int) : Rat))))) = Nt.trimQ (Nt.trimQ (Nt.mulQ (Nt.prodA (⟨8, 4, 1, 1⟩ : WL).f ([] : List PL) ([] : List PL).length) (Nt.prodA (⟨8, 4, 1, 1⟩ : WL).f ([] : List PL) ([] : List PL).length))))) = true from decide_eq_true (by decide +kernel)]) (zza 54 (.adr 5 0) ?_ (hw := w1 29 true 53)))
 refine zzi 55 (.v y22.v) ty40 zzl ?_ (hw := w1 29 true 53)
 refine zza 56 (zI y22.n) ?_ (hw := w1 29 true 53)
 refine zza 57 (zB ((y22.n : Int) == 0)) ?_ (hw := w1 29 true 53)
 refine zza 58 (zB ((y22.n : Int) == 0)) (zza 0 (zB ((y22.n : Int) == 0)) (zzc 59 [(0, zB ((y22.n : Int) == 0))] [] (zzo (ret0 [.bool ((y22.n : Int) == 0)] ⟨zzq, trivial⟩ fun u71 e72 => ?_))))
 show Value.bool _ = Value.bool _
 rw [show ((y22.n : Int) == 0) = true from (by have h9 := hly22; rw [show (Nt.trimQ ((Nt.trimQ (Nt.addQ (Nt.trimQ (Nt.mulQ (Nt.prodB (⟨8, 4, 1, 1⟩ : WL).f ([] : List PL) ([] : List PL).length) (Nt.prodA (⟨8, 4, 1, 1⟩ : WL).f ([] : List PL) ([] : List PL).length))) ((Nt.trimQ (Nt.mulQ (Nt.prodB (⟨8, 4, 1, 1⟩ : WL).f ([] : List PL) ([] : List PL).length) (Nt.prodA (⟨8, 4, 1, 1⟩ : WL).f ([] : List PL) ([] : List PL).length))).map (fun z => -z)))).map (· * (((1 : Int) : Rat) / ((2 : Int) : Rat))))).length = 0 from by decide +kernel] at h9; rw [h9]; rfl)]
theorem fit_getD9 {D : WL} {l : List Int} (h : ∀ z ∈ l, Nt.fitB D z = true) : ∀ i, i < l.length → Nt.fitB D (l.getD i 0) = true := fun i hi => by
 rw [List.getD_eq_getElem?_getD, List.getElem?_eq_getElem hi]; exact h _ (List.getElem_mem hi)
theorem rep_fit9 {D : WL} {n : Nat} : ∀ z ∈ List.replicate n (0 : Int), Nt.fitB D z = true := fun z hz => by rw [(List.mem_replicate.1 hz).2]; exact Nt.fit_iff.2 (by have := Nt.zxq (D.b - 1); omega)
theorem rep_data9 {u : World} {b E n : Nat} (h : u.heap[b]? = some (.cells (ics (List.replicate n 0)).toArray E (0, 0))) (hn : n ≤ 1000) : SlR .i64 u (some ⟨b, 0, none⟩) n n (List.replicate n 0) := ints_data h (by unfold ics; exact List.take_of_length_le zq) (by unfold ics; simp) (Nat.le_refl _) yj
theorem k_runW {u w : World} {D W : WL} {s : Nat} {X Y : Sl} {h : Nat} {N : List (List TL)} {nx : List Int} {q : Int} {y z : Sl} {xs : List Int} (d : Dat u w) (hN : NodesB 0 h u X N) (hY : MutL 1 3 0 u Y (ics nx)) (hok : Nt.NetOK D W s N nx q) (hy : SlR .i64 u y.a y.n y.c (List.replicate s 0)) (hz : SlR .i64 u z.a z.n z.c xs) (hal : ∀ z ∈ xs, Nt.fitB D z = true) (hxl : xs.length ≤ 4096) : Calls Tryz.prog 19 #[.agg #[.int .i64 D.b, .int .i64 D.f, .int .i64 D.r, .int .i64 D.o, .int .i64 W.b, .int .i64 W.f, .int .i64 W.r, .int .i64 W.o, .int .i64 (s : Int), X.v, Y.v, .int .i64 q], y.v, z.v] w (Post u w fun v u' => ∃ (o p : Sl) (n : Nat) (l : List Int), v = .tuple #[o.v, p.v, .int .i64 (n : Int), .int .i64 0] ∧ SlR .i64 u' o.a o.n o.c l ∧ l = Nt.runO D W N nx q (List.replicate s 0) xs xs.length ∧ n = Nt.runC D W N nx (List.replicate s 0) xs xs.length ∧ l.length = xs.length ∧ n ≤ xs.length ∧ ∀ z ∈ l, -8388608 ≤ z ∧ z ≤ 8388608) := by
 refine Post.mono (k_netRun d hN hY hok hy (fit_bd hok.hd rep_fit9) (by rw [List.length_replicate]) (fit_getD9 rep_fit9) hz (fit_bd hok.hd hal) hxl (fit_getD9 hal)) ?_
 rintro v u' _ ⟨o, p, hv, ho, _⟩
 refine ⟨o, p, _, _, hv, ho, rfl, rfl, Nt.runO_len, Nt.runC_le, fun z hz => ?_⟩
 obtain ⟨j, hj, rfl⟩ := Nt.mem_getD hz
 rw [Nt.runO_len] at hj
 have h1 := Nt.fit_iff.1 (Nt.runO_fit hok (by rw [List.length_replicate]) (fit_getD9 rep_fit9) (fit_getD9 hal) (Nat.le_refl _) j hj)
 have h2 : Nt.p2i (D.b - 1) ≤ 8388608 := Nt.zwh (b := 23) (by have := hok.hd.2.1; omega)
 omega
set_option maxHeartbeats 8000000 in
theorem w_waveSums {u w : World} {x y z : Sl} {l m xs : List Int} {k1 k2 : Int} (d : Dat u w) (hx : SlR .i64 u x.a x.n x.c l) (hb : ∀ z ∈ l, -9223372036854775808 ≤ z ∧ z ≤ 9223372036854775807) (hy : SlR .i64 u y.a y.n y.c m) (hbm : ∀ z ∈ m, -9223372036854775808 ≤ z ∧ z ≤ 9223372036854775807) (hz : SlR .i64 u z.a z.n z.c xs) (hbz : ∀ z ∈ xs, -9223372036854775808 ≤ z ∧ z ≤ 9223372036854775807) (hk1 : -9223372036854775808 ≤ k1) (hk2 : k1 ≤ 9223372036854775807) (hk3 : -9223372036854775808 ≤ k2) (hk4 : k2 ≤ 9223372036854775807) : Calls Tryz.prog 4 #[.agg #[x.v, y.v], .int .i64 k1, .int .i64 k2, z.v] w (Post u w fun v _ => v = .bool true) := by
 have hlz : xs.length = z.n := hz.1
 refine zzm (args := [.agg #[.slice x.a x.n x.c, .slice y.a y.n y.c], .int .i64 k1, .int .i64 k2, .slice z.a z.n z.c]) Tryz.func4 rfl Tryz.ntmps4 (rs := [.tmp 8]) Tryz.results4 (le_b rfl) (le_b rfl) d ?_
 refine sq9 (zzk 4 ⟨48, [x.v, y.v]⟩ (zza 8 (zB false) (zzb (zzd (sq9 (zza 32 (.v z.v) (zza 33 (zI z.n) (zza 34 (zB (decide ((20 : Int) < (z.n : Int)))) (zzb (zzu (b := decide ((20 : Int) < (z.n : Int))) xj (fun hb11 => ?_) (fun hb11 => ?_)))))))))))
 ·replace hb11 : (decide ((20 : Int) < (z.n : Int))) = true := hb11
  have qhb11 := of_decide_eq_true hb11
  refine sq9 (zzg 35 15 [] ?_)
  intro w12 u12 e12 d12
  have k15 := k_known26 d12
  with_reducible refine zPm k15 ?_
  rintro _ u13 g14 rfl
  refine zza 8 (zB true) (zzb (zzo (zzw (ret0 [.bool true] ⟨zzq, trivial⟩ fun u16 e17 => ?_))))
  rfl
 ·replace hb11 : (decide ((20 : Int) < (z.n : Int))) = false := hb11
  have qhb11 := of_decide_eq_false hb11
  refine zzs (zzp ?_)
  refine sq9 (zza 36 (zI k2) (zzg 37 11 [.int .i64 k2] ?_))
  intro w18 u18 e18 d18
  have k23 := k_coef (k := k2) d18 xq xq
  with_reducible refine zPm k23 ?_
  rintro _ u21 g22 ⟨W19, rfl, hW20⟩
  have hw24 := hW20.ok
  have hw24f : 1 ≤ W19.f := by have h9 := hW20; unfold CoefOK at h9; omega
  have hw24g : W19.f ≤ 24 := by have h9 := hW20; unfold CoefOK at h9; omega
  have hwb : W19.f + 2 ≤ W19.b := by have h9 := hW20; unfold CoefOK at h9; omega
  refine zza 38 (zI k1) (zzg 39 16 [.int .i64 k1] ?_)
  intro w25 u25 e25 d25
  have k32 := k_data (k := k1) d25 xq xq
  with_reducible refine zPm k32 ?_
  rintro _ u30 g31 ⟨D26, rfl, hD27, h628, h729⟩
  have hdb : 4 ≤ D26.b ∧ D26.b ≤ 24 := by have h9 := hD27; unfold WdOK at h9; omega
  have hpd4 := Nt.zxq (D26.b - 4)
  have hpd5 := Nt.p2i_24 (n := D26.b - 4) xq
  have hpd6 := Nt.p2i_double (a := D26.b - 4) (b := D26.b - 1) xq xq
  refine zzk 9 ⟨34, [.int .i64 0, .int .i64 0, .int .i64 0, .int .i64 0]⟩ (zzk 10 ⟨34, [.int .i64 0, .int .i64 0, .int .i64 0, .int .i64 0]⟩ (zzj ⟨34, W19.cs⟩ ty34 ?_))
  refine zzj ⟨34, D26.cs⟩ ty34 ?_
  refine zzb (sq9 (zzi 40 (.v (.agg #[x.v, y.v])) ty48 zze (zzi 41 (.v (W19.v)) ty34 zze (zzg 42 17 [.agg #[x.v, y.v], W19.v] ?_))))
  intro w33 u33 e33 d33
  have k37 := k_filter (W := W19) d33 (hx.ext (e18.trans (g22.ext.trans (e25.trans (g31.ext.trans e33))))) hb (hy.ext (e18.trans (g22.ext.trans (e25.trans (g31.ext.trans e33))))) hbm hw24
  with_reducible refine zPm k37 ?_
  rintro _ u35 g36 ⟨y34, z34, L34, M34, rfl, h134, h234, h334, h434, h534, h634⟩
  have hly34 := h134.len
  have hlz34 := h434.len
  have hWV : WvOK W19 L34 M34 := ⟨⟨hw24, hw24f⟩, h334, h634, Nt.pas_get h234, Nt.pas_get h534⟩
  have hoL := Nt.ordS_le L34 L34.length
  have hoM := Nt.ordS_le M34 M34.length
  have hwn : wvN L34 M34 ≤ 16 := by unfold wvN; omega
  have hNB := wvB_N (Nt.p2i W19.f) L34 M34
  obtain ⟨hBo, hTu0, hTu1, hBs⟩ := wvB_ok hw24 hwb h234 h534
  refine zzk 11 ⟨51, [.slice none 0 0, .slice none 0 0]⟩ (zzj ⟨51, [y34.v, z34.v]⟩ ty51 ?_)
  refine zzb (sq9 (zzi 44 (.v (.agg #[y34.v, z34.v])) ty51 zze (zzi 45 (.v (D26.v)) ty34 zze (zzi 46 (.v (W19.v)) ty34 zze (zzg 47 18 [.agg #[y34.v, z34.v], D26.v, W19.v, .bool false] ?_)))))
  intro w38 u38 e38 d38
  have k42 := k_wvBuild (D := D26) (W := W19) (x := y34) (y := z34) (c := false) d38 (h134.ext e38) (h434.ext e38) hD27 hWV
  with_reducible refine zPm k42 ?_
  rintro _ u40 g41 ⟨X39, Y39, rfl, ⟨hh39, hN39⟩, hY39⟩
  refine zza 43 (.v (.tuple #[.agg #[.int .i64 D26.b, .int .i64 D26.f, .int .i64 D26.r, .int .i64 D26.o, .int .i64 W19.b, .int .i64 W19.f, .int .i64 W19.r, .int .i64 W19.o, .int .i64 (wvN L34 M34 : Nat), X39.v, Y39.v, .int .i64 ((wvN L34 M34 + (wvB (Nt.p2i W19.f) L34 M34).N.length + 1 : Nat) : Int)], .int .i64 0])) (zza 48 (.v (.agg #[.int .i64 D26.b, .int .i64 D26.f, .int .i64 D26.r, .int .i64 D26.o, .int .i64 W19.b, .int .i64 W19.f, .int .i64 W19.r, .int .i64 W19.o, .int .i64 (wvN L34 M34 : Nat), X39.v, Y39.v, .int .i64 ((wvN L34 M34 + (wvB (Nt.p2i W19.f) L34 M34).N.length + 1 : Nat) : Int)])) (zza 49 (zI 0) (zzk 12 ⟨55, [.int .i64 0, .int .i64 0, .int .i64 0, .int .i64 0, .int .i64 0, .int .i64 0, .int .i64 0, .int .i64 0, .int .i64 0, .slice none 0 0, .slice none 0 0, .int .i64 0]⟩ (zzj ⟨55, [.int .i64 D26.b, .int .i64 D26.f, .int .i64 D26.r, .int .i64 D26.o, .int .i64 W19.b, .int .i64 W19.f, .int .i64 W19.r, .int .i64 W19.o, .int .i64 (wvN L34 M34 : Nat), X39.v, Y39.v, .int .i64 ((wvN L34 M34 + (wvB (Nt.p2i W19.f) L34 M34).N.length + 1 : Nat) : Int)]⟩ ty55 ?_))))
  refine zza 13 (zI 0) (zzb (sq9 (zzi 51 (.v (.agg #[y34.v, z34.v])) ty51 zze (zzi 52 (.v (D26.v)) ty34 zze (zzi 53 (.v (W19.v)) ty34 zze (zzg 54 18 [.agg #[y34.v, z34.v], D26.v, W19.v, .bool true] ?_))))))
  intro w43 u43 e43 d43
  have k47 := k_wvBuild (D := D26) (W := W19) (x := y34) (y := z34) (c := true) d43 (h134.ext (e38.trans (g41.ext.trans e43))) (h434.ext (e38.trans (g41.ext.trans e43))) hD27 hWV
  with_reducible refine zPm k47 ?_
  rintro _ u45 g46 ⟨X44, Y44, rfl, ⟨hh44, hN44⟩, hY44⟩
  refine zza 50 (.v (.tuple #[.agg #[.int .i64 D26.b, .int .i64 D26.f, .int .i64 D26.r, .int .i64 D26.o, .int .i64 W19.b, .int .i64 W19.f, .int .i64 W19.r, .int .i64 W19.o, .int .i64 (wvN L34 M34 : Nat), X44.v, Y44.v, .int .i64 ((wvN L34 M34 + (wvB (Nt.p2i W19.f) L34 M34).N.length + 1 : Nat) : Int)], .int .i64 0])) (zza 55 (.v (.agg #[.int .i64 D26.b, .int .i64 D26.f, .int .i64 D26.r, .int .i64 D26.o, .int .i64 W19.b, .int .i64 W19.f, .int .i64 W19.r, .int .i64 W19.o, .int .i64 (wvN L34 M34 : Nat), X44.v, Y44.v, .int .i64 ((wvN L34 M34 + (wvB (Nt.p2i W19.f) L34 M34).N.length + 1 : Nat) : Int)])) (zza 56 (zI 0) (zzk 14 ⟨55, [.int .i64 0, .int .i64 0, .int .i64 0, .int .i64 0, .int .i64 0, .int .i64 0, .int .i64 0, .int .i64 0, .int .i64 0, .slice none 0 0, .slice none 0 0, .int .i64 0]⟩ (zzj ⟨55, [.int .i64 D26.b, .int .i64 D26.f, .int .i64 D26.r, .int .i64 D26.o, .int .i64 W19.b, .int .i64 W19.f, .int .i64 W19.r, .int .i64 W19.o, .int .i64 (wvN L34 M34 : Nat), X44.v, Y44.v, .int .i64 ((wvN L34 M34 + (wvB (Nt.p2i W19.f) L34 M34).N.length + 1 : Nat) : Int)]⟩ ty55 ?_))))
  refine zza 15 (zI 0) (zzc 203 [(3, .v z.v), (10, .adr 10 0), (12, .adr 12 0), (13, zI 0), (14, .adr 14 0), (15, zI 0)] [(10, ⟨34, D26.cs⟩), (12, ⟨55, [.int .i64 D26.b, .int .i64 D26.f, .int .i64 D26.r, .int .i64 D26.o, .int .i64 W19.b, .int .i64 W19.f, .int .i64 W19.r, .int .i64 W19.o, .int .i64 (wvN L34 M34 : Nat), X39.v, Y39.v, .int .i64 ((wvN L34 M34 + (wvB (Nt.p2i W19.f) L34 M34).N.length + 1 : Nat) : Int)]⟩), (14, ⟨55, [.int .i64 D26.b, .int .i64 D26.f, .int .i64 D26.r, .int .i64 D26.o, .int .i64 W19.b, .int .i64 W19.f, .int .i64 W19.r, .int .i64 W19.o, .int .i64 (wvN L34 M34 : Nat), X44.v, Y44.v, .int .i64 ((wvN L34 M34 + (wvB (Nt.p2i W19.f) L34 M34).N.length + 1 : Nat) : Int)]⟩)] (sq9 (zza 57 (.adr 10 0) (zzi 58 (zI D26.b) ty3 zzl (zyq 59 (x := zI (IntKind.i64.wrap (D26.b - 4))) (zI (D26.b - 4)) yq (sy_conv 60 (D26.b - 4) (fun w => by kernel_rfl) (IntWalk.u64_in _ xq) ?_))))))
  refine sy_shl 61 (k := .i64) (s := D26.b - 4) (Nt.p2i (D26.b - 4)) xq yw (shl_one xq xq) ?_
  refine zza 62 (.v z.v) (zza 63 (.v z.v) (zza 64 (zI z.n) (zzg 65 12 [.int .i64 (Nt.p2i (D26.b - 4)), z.v, .int .i64 z.n] ?_)))
  intro w48 u48 e48 d48
  have k52 := (show Calls _ _ #[.int .i64 (Nt.p2i (D26.b - 4)), .slice z.a z.n z.c, .int .i64 (z.n : Int)] _ _ from k_belowN (x := z) (b := Nt.p2i (D26.b - 4)) (n := z.n) d48 (hz.ext (e18.trans (g22.ext.trans (e25.trans (g31.ext.trans (e33.trans (g36.ext.trans (e38.trans (g41.ext.trans (e43.trans (g46.ext.trans e48))))))))))) hbz xq xq xq)
  with_reducible refine zPm k52 ?_
  rintro _ u50 g51 ⟨y49, m49, rfl, hln49, hs49, hal49⟩
  have hly49 : m49.length = y49.n := hs49.1
  have hfx : ∀ z ∈ m49, Nt.fitB D26 z = true := fun z hz => Nt.fit_iff.2 (by have h9 := hal49 z hz; omega)
  refine zza 16 (.v y49.v) (zzb (zzd (zzz [0, 0, 2, 6, 0, 31, 63, 127, 127, 127, 127, 255, 2559, 7167, 16383] [(0, []), (1, []), (2, []), (4, []), (3, [70]), (5, []), (6, []), (7, []), (8, []), (9, []), (10, []), (11, []), (12, []), (13, []), (14, [])] xj xj (zzi 67 (.v (.agg #[.int .i64 D26.b, .int .i64 D26.f, .int .i64 D26.r, .int .i64 D26.o, .int .i64 W19.b, .int .i64 W19.f, .int .i64 W19.r, .int .i64 W19.o, .int .i64 (wvN L34 M34 : Nat), X39.v, Y39.v, .int .i64 ((wvN L34 M34 + (wvB (Nt.p2i W19.f) L34 M34).N.length + 1 : Nat) : Int)])) ty55 zze (zza 68 (.adr 12 8) (zzi 69 (zI (wvN L34 M34 : Nat)) ty3 zzl (zza 71 (.v y49.v) (sy_makeN 70 (T := 37) (E := 3) (z := .int .i64 0) (size := 1) (bytes := 8) (wvN L34 M34) (ics (List.replicate (wvN L34 M34) 0)) xj xj rfl rfl xq yj (made_ints _) (fun b53 u53 e53 h53 f53 g53 => ?_)))))))))
  have hm54 : SlR .i64 u53 (some ⟨b53, 0, none⟩) (wvN L34 M34) (wvN L34 M34) (List.replicate (wvN L34 M34) 0) := rep_data9 h53 xq
  refine zzg 72 19 [.agg #[.int .i64 D26.b, .int .i64 D26.f, .int .i64 D26.r, .int .i64 D26.o, .int .i64 W19.b, .int .i64 W19.f, .int .i64 W19.r, .int .i64 W19.o, .int .i64 (wvN L34 M34 : Nat), X39.v, Y39.v, .int .i64 ((wvN L34 M34 + (wvB (Nt.p2i W19.f) L34 M34).N.length + 1 : Nat) : Int)], .slice (some ⟨b53, 0, none⟩) (wvN L34 M34) (wvN L34 M34), y49.v] ?_
  intro w55 u55 e55 d55
  have k59 := (show Calls _ _ #[.agg #[.int .i64 D26.b, .int .i64 D26.f, .int .i64 D26.r, .int .i64 D26.o, .int .i64 W19.b, .int .i64 W19.f, .int .i64 W19.r, .int .i64 W19.o, .int .i64 ((wvN L34 M34 : Nat) : Int), .slice X39.a X39.n X39.c, .slice Y39.a Y39.n Y39.c, .int .i64 ((wvN L34 M34 + (wvB (Nt.p2i W19.f) L34 M34).N.length + 1 : Nat) : Int)], .slice (some ⟨b53, 0, none⟩) (wvN L34 M34) (wvN L34 M34), .slice y49.a y49.n y49.c] _ _ from k_runW (D := D26) (W := W19) (s := wvN L34 M34) (y := (⟨some ⟨b53, 0, none⟩, wvN L34 M34, wvN L34 M34⟩ : Sl)) (z := y49) d55 (NodesB.ext hN39 (e43.trans (g46.ext.trans (e48.trans (g51.ext.trans (e53.trans e55)))))) (MutL.ext hY39 (e43.trans (g46.ext.trans (e48.trans (g51.ext.trans (e53.trans e55)))))) (wv_netOK (c := false) hD27 hw24 hw24f hwb h334 h634 h234 h534 (by first | (constructor <;> omega) | exact ⟨hTu0, by omega⟩)) (hm54.ext e55) (hs49.ext (e53.trans e55)) hfx xq)
  with_reducible refine zPm k59 ?_
  rintro _ u57 g58 ⟨o56, p56, n56, l56, rfl, ho56, hle56, hne56, hll56, hnl56, hbd56⟩
  have hlo56 : l56.length = o56.n := ho56.1
  refine zza 66 (.v (.tuple #[o56.v, p56.v, .int .i64 n56, .int .i64 0])) (zza 73 (.v o56.v) (zza 74 (.v p56.v) (zza 75 (zI n56) (zza 76 (zI 0) (zza 17 (.v o56.v) (zza 18 (.v p56.v) (zza 19 (zI n56) (zza 20 (zI 0) (zzb (zzd (zzz [0, 0, 2, 6, 0, 31, 63, 127, 127, 127, 127, 255, 2559, 7167, 16383] [(0, []), (1, []), (2, []), (4, []), (3, [81]), (5, []), (6, []), (7, []), (8, []), (9, []), (10, []), (11, []), (12, []), (13, []), (14, [])] xj xj ?_)))))))))))
  refine zzi 78 (.v (.agg #[.int .i64 D26.b, .int .i64 D26.f, .int .i64 D26.r, .int .i64 D26.o, .int .i64 W19.b, .int .i64 W19.f, .int .i64 W19.r, .int .i64 W19.o, .int .i64 (wvN L34 M34 : Nat), X44.v, Y44.v, .int .i64 ((wvN L34 M34 + (wvB (Nt.p2i W19.f) L34 M34).N.length + 1 : Nat) : Int)])) ty55 zze (zza 79 (.adr 14 8) (zzi 80 (zI (wvN L34 M34 : Nat)) ty3 zzl (zza 82 (.v y49.v) (sy_makeN 81 (T := 37) (E := 3) (z := .int .i64 0) (size := 1) (bytes := 8) (wvN L34 M34) (ics (List.replicate (wvN L34 M34) 0)) xj xj rfl rfl xq yj (made_ints _) (fun b60 u60 e60 h60 f60 g60 => ?_)))))
  have hm61 : SlR .i64 u60 (some ⟨b60, 0, none⟩) (wvN L34 M34) (wvN L34 M34) (List.replicate (wvN L34 M34) 0) := rep_data9 h60 xq
  refine zzg 83 19 [.agg #[.int .i64 D26.b, .int .i64 D26.f, .int .i64 D26.r, .int .i64 D26.o, .int .i64 W19.b, .int .i64 W19.f, .int .i64 W19.r, .int .i64 W19.o, .int .i64 (wvN L34 M34 : Nat), X44.v, Y44.v, .int .i64 ((wvN L34 M34 + (wvB (Nt.p2i W19.f) L34 M34).N.length + 1 : Nat) : Int)], .slice (some ⟨b60, 0, none⟩) (wvN L34 M34) (wvN L34 M34), y49.v] ?_
  intro w62 u62 e62 d62
  have k66 := (show Calls _ _ #[.agg #[.int .i64 D26.b, .int .i64 D26.f, .int .i64 D26.r, .int .i64 D26.o, .int .i64 W19.b, .int .i64 W19.f, .int .i64 W19.r, .int .i64 W19.o, .int .i64 ((wvN L34 M34 : Nat) : Int), .slice X44.a X44.n X44.c, .slice Y44.a Y44.n Y44.c, .int .i64 ((wvN L34 M34 + (wvB (Nt.p2i W19.f) L34 M34).N.length + 1 : Nat) : Int)], .slice (some ⟨b60, 0, none⟩) (wvN L34 M34) (wvN L34 M34), .slice y49.a y49.n y49.c] _ _ from k_runW (D := D26) (W := W19) (s := wvN L34 M34) (y := (⟨some ⟨b60, 0, none⟩, wvN L34 M34, wvN L34 M34⟩ : Sl)) (z := y49) d62 (NodesB.ext hN44 (e48.trans (g51.ext.trans (e53.trans (e55.trans (g58.ext.trans (e60.trans e62))))))) (MutL.ext hY44 (e48.trans (g51.ext.trans (e53.trans (e55.trans (g58.ext.trans (e60.trans e62))))))) (wv_netOK (c := true) hD27 hw24 hw24f hwb h334 h634 h234 h534 (by first | (constructor <;> omega) | exact ⟨hTu0, by omega⟩)) (hm61.ext e62) (hs49.ext (e53.trans (e55.trans (g58.ext.trans (e60.trans e62))))) hfx xq)
  with_reducible refine zPm k66 ?_
  rintro _ u64 g65 ⟨o63, p63, n63, l63, rfl, ho63, hle63, hne63, hll63, hnl63, hbd63⟩
  have hlo63 : l63.length = o63.n := ho63.1
  refine zza 77 (.v (.tuple #[o63.v, p63.v, .int .i64 n63, .int .i64 0])) (zza 84 (.v o63.v) (zza 85 (.v p63.v) (zza 86 (zI n63) (zza 87 (zI 0) (zza 21 (.v o63.v) (zza 22 (.v p63.v) (zza 23 (zI n63) (zza 24 (zI 0) (zzc 203 [(12, .adr 12 0), (13, zI 0), (15, zI 0), (16, .v y49.v), (17, .v o56.v), (19, zI n56), (20, zI 0), (21, .v o63.v), (23, zI n63), (24, zI 0)] [(12, ⟨55, [.int .i64 D26.b, .int .i64 D26.f, .int .i64 D26.r, .int .i64 D26.o, .int .i64 W19.b, .int .i64 W19.f, .int .i64 W19.r, .int .i64 W19.o, .int .i64 (wvN L34 M34 : Nat), X39.v, Y39.v, .int .i64 ((wvN L34 M34 + (wvB (Nt.p2i W19.f) L34 M34).N.length + 1 : Nat) : Int)]⟩)] (sq9 (zzi 88 (.v (.agg #[.int .i64 D26.b, .int .i64 D26.f, .int .i64 D26.r, .int .i64 D26.o, .int .i64 W19.b, .int .i64 W19.f, .int .i64 W19.r, .int .i64 W19.o, .int .i64 (wvN L34 M34 : Nat), X39.v, Y39.v, .int .i64 ((wvN L34 M34 + (wvB (Nt.p2i W19.f) L34 M34).N.length + 1 : Nat) : Int)])) ty55 zze ?_)))))))))))
  refine zzk 25 ⟨55, [.int .i64 0, .int .i64 0, .int .i64 0, .int .i64 0, .int .i64 0, .int .i64 0, .int .i64 0, .int .i64 0, .int .i64 0, .slice none 0 0, .slice none 0 0, .int .i64 0]⟩ (zzj ⟨55, [.int .i64 D26.b, .int .i64 D26.f, .int .i64 D26.r, .int .i64 D26.o, .int .i64 W19.b, .int .i64 W19.f, .int .i64 W19.r, .int .i64 W19.o, .int .i64 (wvN L34 M34 : Nat), X39.v, Y39.v, .int .i64 ((wvN L34 M34 + (wvB (Nt.p2i W19.f) L34 M34).N.length + 1 : Nat) : Int)]⟩ ty55 ?_)
  refine zzb (zzd (zzd ?_))
  have hNe := NodesB.ext hN39 (e43.trans (g46.ext.trans (e48.trans (g51.ext.trans (e53.trans (e55.trans (g58.ext.trans (e60.trans (e62.trans g65.ext)))))))))
  obtain ⟨La, gA, gB, gC⟩ := id hNe
  have hNl := hNe.len
  have hNo : (wvO (Nt.p2i W19.f) L34 M34 false).length = (wvB (Nt.p2i W19.f) L34 M34).N.length + 1 := wvO_len
  have hln2 : (La.getD (wvB (Nt.p2i W19.f) L34 M34).N.length sl0).n = 2 := by rw [tms_len (gC (wvB (Nt.p2i W19.f) L34 M34).N.length xq).1, wvO_last]; rfl
  have hlT2 : ((wvO (Nt.p2i W19.f) L34 M34 false).getD (wvB (Nt.p2i W19.f) L34 M34).N.length []).length = 2 := by rw [wvO_last]; rfl
  refine zzf (zza 89 (.adr 12 9) (zzi 90 (.v X39.v) ty53 zzl (zza 91 (zI X39.n) (zza 92 (zB (decide ((0 : Int) < (X39.n : Int)))) (zyq 93 (x := zB (decide ((0 : Int) < (X39.n : Int)))) (zB true) (by rw [show (decide ((0 : Int) < (X39.n : Int))) = true from decide_eq_true xq]) (zza 94 (.adr 12 9) ?_ (hw := w1 4 true 93)))))))
  refine zzi 95 (.v X39.v) ty53 zzl ?_ (hw := w1 4 true 93)
  refine zza 96 (.adr 12 9) ?_ (hw := w1 4 true 93)
  refine zzi 97 (.v X39.v) ty53 zzl ?_ (hw := w1 4 true 93)
  refine zza 98 (zI X39.n) ?_ (hw := w1 4 true 93)
  refine zyq 99 (x := zI (IntKind.i64.wrap ((X39.n : Int) - 1))) (zI (((wvB (Nt.p2i W19.f) L34 M34).N.length : Nat) : Int)) (eqI xz) ?_ (hw := w1 4 true 93)
  obtain ⟨b68, hA68, hc68⟩ := nodes_at (i := (wvB (Nt.p2i W19.f) L34 M34).N.length) gA xq
  refine zya 100 (0 + ((wvB (Nt.p2i W19.f) L34 M34).N.length) * 1) (n := X39.n) (off := 0) (sz := 1) (i := (((wvB (Nt.p2i W19.f) L34 M34).N.length : Nat) : Int)) xq hA68 xq xq sl53 ?_ (hw := w1 4 true 93)
  refine zza 101 (.v (.pointer (some ⟨b68, 0 + ((wvB (Nt.p2i W19.f) L34 M34).N.length) * 1 + 0, none⟩))) ?_ (hw := w1 4 true 93)
  refine zyl 102 (.slice (La.getD ((wvB (Nt.p2i W19.f) L34 M34).N.length) sl0).a (La.getD ((wvB (Nt.p2i W19.f) L34 M34).N.length) sl0).n (La.getD ((wvB (Nt.p2i W19.f) L34 M34).N.length) sl0).c) hc68 ty60 ?_ (hw := w1 4 true 93)
  refine zza 103 (zI (((La.getD ((wvB (Nt.p2i W19.f) L34 M34).N.length) sl0).n : Nat) : Int)) ?_ (hw := w1 4 true 93)
  refine zza 104 (zB ((((La.getD ((wvB (Nt.p2i W19.f) L34 M34).N.length) sl0).n : Nat) : Int) == 2)) ?_ (hw := w1 4 true 93)
  refine zza 105 (zB ((((La.getD ((wvB (Nt.p2i W19.f) L34 M34).N.length) sl0).n : Nat) : Int) == 2)) (zzb (zzu (b := (((La.getD ((wvB (Nt.p2i W19.f) L34 M34).N.length) sl0).n : Nat) : Int) == 2) xj (fun hb => ?_) (fun hb => ?_)))
  ·clear hb
   refine zzf (zza 106 (.adr 12 9) (zzi 107 (.v X39.v) ty53 zzl (zza 108 (.adr 12 9) (zzi 109 (.v X39.v) ty53 zzl (zza 110 (zI X39.n) (zyq 111 (x := zI (IntKind.i64.wrap ((X39.n : Int) - 1))) (zI (((wvB (Nt.p2i W19.f) L34 M34).N.length : Nat) : Int)) (eqI xz) ?_))))))
   obtain ⟨b69, hA69, hc69⟩ := nodes_at (i := (wvB (Nt.p2i W19.f) L34 M34).N.length) gA xq
   refine zya 112 (0 + ((wvB (Nt.p2i W19.f) L34 M34).N.length) * 1) (n := X39.n) (off := 0) (sz := 1) (i := (((wvB (Nt.p2i W19.f) L34 M34).N.length : Nat) : Int)) xq hA69 xq xq sl53 (zza 113 (.v (.pointer (some ⟨b69, 0 + ((wvB (Nt.p2i W19.f) L34 M34).N.length) * 1 + 0, none⟩))) (zyl 114 (.slice (La.getD ((wvB (Nt.p2i W19.f) L34 M34).N.length) sl0).a (La.getD ((wvB (Nt.p2i W19.f) L34 M34).N.length) sl0).n (La.getD ((wvB (Nt.p2i W19.f) L34 M34).N.length) sl0).c) hc69 ty60 ?_))
   obtain ⟨b70, hA70, hc70⟩ := terms_at (i := 0) (T := ((wvO (Nt.p2i W19.f) L34 M34 false).getD ((wvB (Nt.p2i W19.f) L34 M34).N.length) [])) (gC ((wvB (Nt.p2i W19.f) L34 M34).N.length) xq).1 xq
   refine zya 115 (0 + 0 * 2) (n := (La.getD ((wvB (Nt.p2i W19.f) L34 M34).N.length) sl0).n) (off := 0) (sz := 2) (i := 0) xq hA70 xq xq sl60 (zza 116 (.v (.pointer (some ⟨b70, 0 + 0 * 2 + 0, none⟩))) (zyl 117 (.int .i64 (wvT (Nt.p2i W19.f) L34 M34).u) (by have h9 := hc70 0 (by exact Nat.zero_lt_succ _); rw [wvO_last] at h9; exact h9) ty3 (zza 118 (.adr 25 11) (zzj ⟨55, [.int .i64 D26.b, .int .i64 D26.f, .int .i64 D26.r, .int .i64 D26.o, .int .i64 W19.b, .int .i64 W19.f, .int .i64 W19.r, .int .i64 W19.o, .int .i64 (wvN L34 M34 : Nat), X39.v, Y39.v, .int .i64 ((wvT (Nt.p2i W19.f) L34 M34).u)]⟩ ty3 ?_))))
   refine zzc 203 [(12, .adr 12 0), (13, zI 0), (15, zI 0), (16, .v y49.v), (17, .v o56.v), (19, zI n56), (20, zI 0), (21, .v o63.v), (23, zI n63), (24, zI 0), (25, .adr 25 0)] [(12, ⟨55, [.int .i64 D26.b, .int .i64 D26.f, .int .i64 D26.r, .int .i64 D26.o, .int .i64 W19.b, .int .i64 W19.f, .int .i64 W19.r, .int .i64 W19.o, .int .i64 (wvN L34 M34 : Nat), X39.v, Y39.v, .int .i64 ((wvN L34 M34 + (wvB (Nt.p2i W19.f) L34 M34).N.length + 1 : Nat) : Int)]⟩), (25, ⟨55, [.int .i64 D26.b, .int .i64 D26.f, .int .i64 D26.r, .int .i64 D26.o, .int .i64 W19.b, .int .i64 W19.f, .int .i64 W19.r, .int .i64 W19.o, .int .i64 (wvN L34 M34 : Nat), X39.v, Y39.v, .int .i64 ((wvT (Nt.p2i W19.f) L34 M34).u)]⟩)] (zzd (zzz [0, 0, 2, 6, 0, 31, 63, 127, 127, 127, 127, 255, 2559, 7167, 16383] [(0, []), (1, []), (2, []), (4, []), (3, [123]), (5, []), (6, []), (7, []), (8, []), (9, []), (10, []), (11, []), (12, []), (13, []), (14, [])] xj xj (zzi 120 (.v (.agg #[.int .i64 D26.b, .int .i64 D26.f, .int .i64 D26.r, .int .i64 D26.o, .int .i64 W19.b, .int .i64 W19.f, .int .i64 W19.r, .int .i64 W19.o, .int .i64 (wvN L34 M34 : Nat), X39.v, Y39.v, .int .i64 ((wvT (Nt.p2i W19.f) L34 M34).u)])) ty55 zze (zza 121 (.adr 12 8) (zzi 122 (zI (wvN L34 M34 : Nat)) ty3 zzl (zza 124 (.v y49.v) (sy_makeN 123 (T := 37) (E := 3) (z := .int .i64 0) (size := 1) (bytes := 8) (wvN L34 M34) (ics (List.replicate (wvN L34 M34) 0)) xj xj rfl rfl xq yj (made_ints _) (fun b71 u71 e71 h71 f71 g71 => ?_))))))))
   have hm72 : SlR .i64 u71 (some ⟨b71, 0, none⟩) (wvN L34 M34) (wvN L34 M34) (List.replicate (wvN L34 M34) 0) := rep_data9 h71 xq
   refine zzg 125 19 [.agg #[.int .i64 D26.b, .int .i64 D26.f, .int .i64 D26.r, .int .i64 D26.o, .int .i64 W19.b, .int .i64 W19.f, .int .i64 W19.r, .int .i64 W19.o, .int .i64 (wvN L34 M34 : Nat), X39.v, Y39.v, .int .i64 ((wvT (Nt.p2i W19.f) L34 M34).u)], .slice (some ⟨b71, 0, none⟩) (wvN L34 M34) (wvN L34 M34), y49.v] ?_
   intro w73 u73 e73 d73
   have k77 := (show Calls _ _ #[.agg #[.int .i64 D26.b, .int .i64 D26.f, .int .i64 D26.r, .int .i64 D26.o, .int .i64 W19.b, .int .i64 W19.f, .int .i64 W19.r, .int .i64 W19.o, .int .i64 ((wvN L34 M34 : Nat) : Int), .slice X39.a X39.n X39.c, .slice Y39.a Y39.n Y39.c, .int .i64 ((wvT (Nt.p2i W19.f) L34 M34).u)], .slice (some ⟨b71, 0, none⟩) (wvN L34 M34) (wvN L34 M34), .slice y49.a y49.n y49.c] _ _ from k_runW (D := D26) (W := W19) (s := wvN L34 M34) (y := (⟨some ⟨b71, 0, none⟩, wvN L34 M34, wvN L34 M34⟩ : Sl)) (z := y49) d73 (NodesB.ext hN39 (e43.trans (g46.ext.trans (e48.trans (g51.ext.trans (e53.trans (e55.trans (g58.ext.trans (e60.trans (e62.trans (g65.ext.trans (e71.trans e73)))))))))))) (MutL.ext hY39 (e43.trans (g46.ext.trans (e48.trans (g51.ext.trans (e53.trans (e55.trans (g58.ext.trans (e60.trans (e62.trans (g65.ext.trans (e71.trans e73)))))))))))) (wv_netOK (c := false) hD27 hw24 hw24f hwb h334 h634 h234 h534 (by first | (constructor <;> omega) | exact ⟨hTu0, by omega⟩)) (hm72.ext e73) (hs49.ext (e53.trans (e55.trans (g58.ext.trans (e60.trans (e62.trans (g65.ext.trans (e71.trans e73)))))))) hfx xq)
   with_reducible refine zPm k77 ?_
   rintro _ u75 g76 ⟨o74, p74, n74, l74, rfl, ho74, hle74, hne74, hll74, hnl74, hbd74⟩
   have hlo74 : l74.length = o74.n := ho74.1
   refine zza 119 (.v (.tuple #[o74.v, p74.v, .int .i64 n74, .int .i64 0])) (zza 126 (.v o74.v) (zza 127 (.v p74.v) (zza 128 (zI n74) (zza 129 (zI 0) (zza 26 (.v o74.v) (zza 27 (.v p74.v) (zza 28 (zI n74) (zza 29 (zI 0) (zzb (zzd (sq9 ?_)))))))))))
   refine zza 130 (zI 0) (zza 131 (zB false) (zza 132 (zB false) (zza 133 (zI 0) ?_ (hw := w1 2 false 132))))
   refine zza 134 (zB false) ?_ (hw := w1 2 false 132)
   refine zza 135 (zB false) (zza 136 (zB false) (zza 137 (zI 0) ?_ (hw := w1 6 false 136)))
   refine zza 138 (zB false) ?_ (hw := w1 6 false 136)
   refine zza 139 (zB false) (zza 140 (zB false) (zza 141 (zI 0) ?_ (hw := w1 10 false 140)))
   refine zza 142 (zB false) ?_ (hw := w1 10 false 140)
   refine zza 143 (zB false) (zza 144 (zB false) (zza 145 (zI 0) ?_ (hw := w1 14 false 144)))
   refine zza 146 (zB false) ?_ (hw := w1 14 false 144)
   refine zza 147 (zB false) (zza 148 (zB false) (zza 149 (.v o56.v) ?_ (hw := w1 18 false 148)))
   refine zza 150 (zI o56.n) ?_ (hw := w1 18 false 148)
   refine zza 151 (.v y49.v) ?_ (hw := w1 18 false 148)
   refine zza 152 (zI y49.n) ?_ (hw := w1 18 false 148)
   refine zza 153 (zB ((o56.n : Int) != (y49.n : Int))) ?_ (hw := w1 18 false 148)
   refine zza 154 (zB ((o56.n : Int) != (y49.n : Int))) (zyq 155 (x := zB ((o56.n : Int) != (y49.n : Int))) (zB false) (by rw [show ((o56.n : Int) != (y49.n : Int)) = false from (by first | (rfl; done) | (simp; omega) | (simp; done))]) (zza 156 (.v o63.v) ?_ (hw := w1 25 false 155)))
   refine zza 157 (zI o63.n) ?_ (hw := w1 25 false 155)
   refine zza 158 (.v y49.v) ?_ (hw := w1 25 false 155)
   refine zza 159 (zI y49.n) ?_ (hw := w1 25 false 155)
   refine zza 160 (zB ((o63.n : Int) != (y49.n : Int))) ?_ (hw := w1 25 false 155)
   refine zza 161 (zB ((o63.n : Int) != (y49.n : Int))) (zyq 162 (x := zB ((o63.n : Int) != (y49.n : Int))) (zB false) (by rw [show ((o63.n : Int) != (y49.n : Int)) = false from (by first | (rfl; done) | (simp; omega) | (simp; done))]) (zza 163 (.v o74.v) ?_ (hw := w1 32 false 162)))
   refine zza 164 (zI o74.n) ?_ (hw := w1 32 false 162)
   refine zza 165 (.v y49.v) ?_ (hw := w1 32 false 162)
   refine zza 166 (zI y49.n) ?_ (hw := w1 32 false 162)
   refine zza 167 (zB ((o74.n : Int) != (y49.n : Int))) ?_ (hw := w1 32 false 162)
   refine zza 168 (zB ((o74.n : Int) != (y49.n : Int))) (zzc 203 [(16, .v y49.v), (17, .v o56.v), (19, zI n56), (21, .v o63.v), (23, zI n63), (26, .v o74.v), (28, zI n74), (168, zB ((o74.n : Int) != (y49.n : Int)))] [] (zzu (b := (o74.n : Int) != (y49.n : Int)) xj (fun hb => ?_) (fun hb => ?_)))
   ·exact absurd hb (by rw [show ((o74.n : Int) != (y49.n : Int)) = false from (by first | (rfl; done) | (simp; omega) | (simp; done))]; decide)
   ·clear hb
    refine zzs (zzp ?_)
    refine zzd (sq9 (zza 30 (zI 0) (zzb (zzt (zyn (I := fun m80 S' u' => ∃ (i : Nat), (m80 = y49.n - i) ∧ (i ≤ y49.n) ∧ (S' = St.of 203 [(16, .v (.slice y49.a y49.n y49.c)), (17, .v (.slice o56.a o56.n o56.c)), (19, zI n56), (21, .v (.slice o63.a o63.n o63.c)), (23, zI n63), (26, .v (.slice o74.a o74.n o74.c)), (28, zI n74), (30, zI i)] []) ∧ (Ext u75 u')) (fun m S u1 u2 e h => by obtain ⟨i, hm, p0, hS, hE⟩ := h; exact ⟨i, hm, p0, hS, hE.trans e⟩) _ yz ⟨0, rfl, Nat.zero_le _, rfl, (Ext.refl _)⟩ ?_)))))
    rintro m80 _ u80 ⟨i, hm80, hi, rfl, e80⟩
    refine zzd (sq9 (zza 169 (zI i) (zza 170 (.v y49.v) (zza 171 (zI y49.n) (zza 172 (zB (decide ((i : Int) < (y49.n : Int)))) (zzb (zzu (b := decide ((i : Int) < (y49.n : Int))) xj (fun hb81 => ?_) (fun hb81 => ?_))))))))
    ·replace hb81 : (decide ((i : Int) < (y49.n : Int))) = true := hb81
     have qhb81 := of_decide_eq_true hb81
     refine zzs (zzp ?_)
     refine zzd (zzt (zzd (zzz [0, 0, 3, 7, 0, 0, 48, 112, 255, 0, 0, 1536, 3584, 8191, 16383] [(0, []), (1, []), (2, []), (3, []), (4, []), (5, []), (6, []), (7, []), (8, []), (9, []), (10, []), (11, []), (12, []), (13, []), (14, [])] xj xj (zza 175 (.v o74.v) (zza 176 (zI i) ?_)))))
     have hl82 := ((ho74.ext e80)).1
     obtain ⟨b82, o82, hA82, hc82⟩ := ints_at (ho74.ext e80) (i := i) xq
     have hz82 := ints_bd hbd74 xq i
     refine zya 177 (o82 + i * 1) (n := o74.n) (off := o82) (sz := 1) (i := (i : Int)) xq hA82 xq xq sl37 (zyl 178 (.int .i64 (l74.getD i 0)) hc82 ty3 (zza 179 (.v o56.v) (zza 180 (zI i) ?_)))
     have hl83 := ((ho56.ext (e60.trans (e62.trans (g65.ext.trans (e71.trans (e73.trans (g76.ext.trans e80)))))))).1
     obtain ⟨b83, o83, hA83, hc83⟩ := ints_at (ho56.ext (e60.trans (e62.trans (g65.ext.trans (e71.trans (e73.trans (g76.ext.trans e80))))))) (i := i) xq
     have hz83 := ints_bd hbd56 xq i
     refine zya 181 (o83 + i * 1) (n := o56.n) (off := o83) (sz := 1) (i := (i : Int)) xq hA83 xq xq sl37 (zyl 182 (.int .i64 (l56.getD i 0)) hc83 ty3 (zyq 183 (x := zI (IntKind.i64.wrap ((l74.getD i 0) - (l56.getD i 0)))) (zI ((l74.getD i 0) - (l56.getD i 0))) yq (zza 184 (.v o63.v) (zza 185 (zI i) ?_))))
     have hl84 := ((ho63.ext (e71.trans (e73.trans (g76.ext.trans e80))))).1
     obtain ⟨b84, o84, hA84, hc84⟩ := ints_at (ho63.ext (e71.trans (e73.trans (g76.ext.trans e80)))) (i := i) xq
     have hz84 := ints_bd hbd63 xq i
     refine zya 186 (o84 + i * 1) (n := o63.n) (off := o84) (sz := 1) (i := (i : Int)) xq hA84 xq xq sl37 (zyl 187 (.int .i64 (l63.getD i 0)) hc84 ty3 (zyq 188 (x := zI (IntKind.i64.wrap (((l74.getD i 0) - (l56.getD i 0)) - (l63.getD i 0)))) (zI (((l74.getD i 0) - (l56.getD i 0)) - (l63.getD i 0))) yq (zza 31 (zI (((l74.getD i 0) - (l56.getD i 0)) - (l63.getD i 0))) (zzb (sq9 (zza 189 (zI n56) (zza 190 (zI n63) (zyq 191 (x := zI (IntKind.i64.wrap ((n56 : Int) + (n63 : Int)))) (zI (n56 + n63 : Nat)) (eqI xz) (zza 192 (zI n74) (zyq 193 (x := zI (IntKind.i64.wrap (((n56 + n63 : Nat) : Int) + (n74 : Int)))) (zI (((n56 + n63) + n74 : Nat) : Int)) (eqI xz) (zza 194 (zB ((((n56 + n63) + n74 : Nat) : Int) == 0)) ?_)))))))))))
     rcases Bool.eq_false_or_eq_true ((((n56 + n63) + n74 : Nat) : Int) == 0) with hs85 | hs85
     ·refine zyq 195 (x := zB ((((n56 + n63) + n74 : Nat) : Int) == 0)) (zB true) (by rw [hs85]) ?_
      have qhs85 : (((n56 + n63) + n74 : Nat) : Int) = 0 := by simpa using hs85
      have qhs85 : n56 = 0 ∧ n63 = 0 := by have h9 := hs85; simp at h9; omega
      have hsb := wave_sums (k := i) hD27 hw24 hw24f hwb h234 h534 (hne56.symm.trans qhs85.1) (hne63.symm.trans qhs85.2) xq
      rw [← hle74, ← hle56, ← hle63] at hsb
      refine zza 196 (zI (((l74.getD i 0) - (l56.getD i 0)) - (l63.getD i 0))) ?_ (hw := w1 6 true 195)
      refine zza 197 (zI (((l74.getD i 0) - (l56.getD i 0)) - (l63.getD i 0))) ?_ (hw := w1 6 true 195)
      refine zyq 198 (x := zI (IntKind.i64.wrap (0 - (((l74.getD i 0) - (l56.getD i 0)) - (l63.getD i 0))))) (zI (-(((l74.getD i 0) - (l56.getD i 0)) - (l63.getD i 0)))) (eqI xz) ?_ (hw := w1 6 true 195)
      refine sy_maxN 199 (n := ((l74.getD i 0) - (l56.getD i 0)) - (l63.getD i 0)) (m := -(((l74.getD i 0) - (l56.getD i 0)) - (l63.getD i 0))) (v := Nt.az (((l74.getD i 0) - (l56.getD i 0)) - (l63.getD i 0))) (by unfold Nt.az; split <;> omega) ?_ (hw := w1 6 true 195)
      refine zza 200 (zB (decide ((1 : Int) < (Nt.az (((l74.getD i 0) - (l56.getD i 0)) - (l63.getD i 0)))))) ?_ (hw := w1 6 true 195)
      refine zza 201 (zB (decide ((1 : Int) < (Nt.az (((l74.getD i 0) - (l56.getD i 0)) - (l63.getD i 0)))))) (zzc 203 [(16, .v y49.v), (17, .v o56.v), (19, zI n56), (21, .v o63.v), (23, zI n63), (26, .v o74.v), (28, zI n74), (30, zI i), (201, zB (decide ((1 : Int) < (Nt.az (((l74.getD i 0) - (l56.getD i 0)) - (l63.getD i 0))))))] [] (zzu (b := decide ((1 : Int) < (Nt.az (((l74.getD i 0) - (l56.getD i 0)) - (l63.getD i 0))))) xj (fun hb => ?_) (fun hb => ?_)))
      ·exact absurd hb (by rw [show (decide ((1 : Int) < (Nt.az (((l74.getD i 0) - (l56.getD i 0)) - (l63.getD i 0))))) = false from decide_eq_false (by unfold Nt.az; omega)]; decide)
      ·clear hb
       refine zzs (zzp ?_)
       refine zzf (zza 173 (zI i) (zyq 174 (x := zI (IntKind.i64.wrap ((i : Int) + 1))) (zI (i + 1 : Nat)) (eqI xz) (zza 30 (zI (i + 1 : Nat)) (zzx ?_))))
       refine ⟨_, ?_, _, by exact zzv _ _ _, i + 1, rfl, by omega, rfl, e80⟩
       omega
     ·refine zyq 195 (x := zB ((((n56 + n63) + n74 : Nat) : Int) == 0)) (zB false) (by rw [hs85]) ?_
      have qhs85 : ¬ ((((n56 + n63) + n74 : Nat) : Int) = 0) := by simpa using hs85
      refine zzn 196 (uw 6 true false 195) (zzn 197 (uw 6 true false 195) (zzn 198 (uw 6 true false 195) (zzn 199 (uw 6 true false 195) (zzn 200 (uw 6 true false 195) (zza 201 (zB false) (zzc 203 [(16, .v y49.v), (17, .v o56.v), (19, zI n56), (21, .v o63.v), (23, zI n63), (26, .v o74.v), (28, zI n74), (30, zI i), (201, zB false)] [] (zys xj (zzs (zzp ?_)))))))))
      refine zzf (zza 173 (zI i) (zyq 174 (x := zI (IntKind.i64.wrap ((i : Int) + 1))) (zI (i + 1 : Nat)) (eqI xz) (zza 30 (zI (i + 1 : Nat)) (zzx ?_))))
      refine ⟨_, ?_, _, by exact zzv _ _ _, i + 1, rfl, by omega, rfl, e80⟩
      omega
    ·replace hb81 : (decide ((i : Int) < (y49.n : Int))) = false := hb81
     have qhb81 := of_decide_eq_false hb81
     refine zyc (zzp (sq9 (zzg 202 15 [] ?_)))
     intro w86 u86 e86 d86
     have k89 := k_known26 d86
     with_reducible refine zPm k89 ?_
     rintro _ u87 g88 rfl
     refine zza 8 (zB true) (zzb (zzo (ret0 [.bool true] ⟨zzq, trivial⟩ fun u90 e91 => ?_)))
     rfl
  ·exact absurd hb (by rw [show ((((La.getD ((wvB (Nt.p2i W19.f) L34 M34).N.length) sl0).n : Nat) : Int) == 2) = true from (by rw [hln2]; rfl)]; decide)
end Go.Proofs.YtifcjcecmoimjaaGreat
