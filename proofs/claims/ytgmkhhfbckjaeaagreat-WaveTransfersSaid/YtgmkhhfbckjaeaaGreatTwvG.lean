/- Parts of the proof: contracts of functions, each walked once, and plain laws. -/
import Derived.Test.YtgmkhhfbckjaeaaGreatTwvF
set_option linter.unusedVariables false
namespace Go.Proofs.YtgmkhhfbckjaeaaGreat
open Go.RowKit
namespace Nt
variable {D W : WL} {N NN : List (List TL)} {nx st xs v0 vs : List Int} {q a b h r f : Int} {n k i : Nat} {T T1 T2 : List TL} {L M : List PL} {U : Int}
theorem getD_append_l {α : Type} {l m : List α} {z : α} (h : i < l.length) : (l ++ m).getD i z = l.getD i z := by
 rw [List.getD_eq_getElem?_getD, List.getElem?_append_left h, ← List.getD_eq_getElem?_getD]
theorem getD_append_r {α : Type} {l : List α} {x z : α} : (l ++ [x]).getD l.length z = x := by
 rw [List.getD_eq_getElem?_getD, List.getElem?_append_right (Nat.le_refl _), Nat.sub_self]; rfl
theorem p2i_half (hf : 1 ≤ f) : (p2i f).tdiv 2 = p2i (f - 1) := by
 have h1 := p2i_succ hf
 have h2 := zxq (f - 1)
 rw [Int.tdiv_eq_ediv_of_nonneg xq]; omega
def TmOK (W : WL) (n k : Nat) (T : List TL) : Prop := T.length ≤ 2 ∧ ∀ t ∈ T, 0 ≤ t.f ∧ t.f ≤ ((n + k : Nat) : Int) ∧ (t.c = p2i W.f ∨ fitB W t.c = true)
def NdsOK (W : WL) (n : Nat) (N : List (List TL)) : Prop := ∀ k, k < N.length → TmOK W n k (N.getD k [])
theorem NdsOK.app {A B : List (List TL)} (h : NdsOK W n A) (k : ∀ j, j < B.length → TmOK W n (A.length + j) (B.getD j [])) : NdsOK W n (A ++ B) := fun i hi => by
 by_cases e : i < A.length
 ·rw [getD_append_l e]; exact h i e
 obtain ⟨j, rfl⟩ : ∃ j, i = A.length + j := ⟨i - A.length, by omega⟩
 rw [List.getD_eq_getElem?_getD, List.getElem?_append_right xq, show A.length + j - A.length = j by omega, ← List.getD_eq_getElem?_getD]
 exact k j (by rw [List.length_append] at hi; omega)
theorem adN_ok {g u s : Int} {m k0 : Nat} (hg : fitB W g = true ∧ fitB W (-g) = true) (hu : 0 ≤ u ∧ u ≤ ((n + k0 : Nat) : Int)) (hs : 0 ≤ s ∧ s ≤ ((n + k0 : Nat) : Int)) (hm : m = n + k0 + 1) : ∀ j, j < (adN (p2i W.f) g u s m).length → TmOK W n (k0 + j) ((adN (p2i W.f) g u s m).getD j []) := by
 intro j hj
 have hj : j < 3 := hj
 subst hm
 obtain rfl | rfl | rfl : j = 0 ∨ j = 1 ∨ j = 2 := by omega
 ·refine ⟨Nat.le_refl _, fun t ht => ?_⟩
  have ht : t ∈ [(⟨u, -g⟩ : TL), ⟨s, g⟩] := ht
  simp at ht
  rcases ht with rfl | rfl
  ·exact ⟨hu.1, hu.2, .inr hg.2⟩
  exact ⟨hs.1, hs.2, .inr hg.1⟩
 ·refine ⟨Nat.le_refl _, fun t ht => ?_⟩
  have ht : t ∈ [(⟨((n + k0 + 1 : Nat) : Int), p2i W.f⟩ : TL), ⟨s, p2i W.f⟩] := ht
  rcases List.mem_cons.1 ht with rfl | ht
  ·exact ⟨by show (0 : Int) ≤ ((n + k0 + 1 : Nat) : Int); omega, by show ((n + k0 + 1 : Nat) : Int) ≤ _; omega, .inl rfl⟩
  rw [List.mem_singleton.1 ht]
  exact ⟨hs.1, by show s ≤ _; omega, .inl rfl⟩
 refine ⟨Nat.le_refl _, fun t ht => ?_⟩
 have ht : t ∈ [(⟨((n + k0 + 1 : Nat) : Int), p2i W.f⟩ : TL), ⟨u, p2i W.f⟩] := ht
 rcases List.mem_cons.1 ht with rfl | ht
 ·exact ⟨by show (0 : Int) ≤ ((n + k0 + 1 : Nat) : Int); omega, by show ((n + k0 + 1 : Nat) : Int) ≤ _; omega, .inl rfl⟩
 rw [List.mem_singleton.1 ht]
 exact ⟨hu.1, by show u ≤ _; omega, .inl rfl⟩
theorem pas_fit {p : PL} (hW : WdOK W) (hb : W.f + 2 ≤ W.b) (hp : PasOK W.f p) : (fitB W p.g = true ∧ fitB W (-p.g) = true) ∧ fitB W p.h = true ∧ fitB W (-p.h) = true := by
 obtain ⟨_, h1, h2, h3, h4⟩ := hp
 have h5 := zwh (a := W.f) (b := W.b - 1) xq
 exact ⟨⟨fit_iff.2 xq, fit_iff.2 xq⟩, fit_iff.2 xq, fit_iff.2 xq⟩
structure WsOK (W : WL) (n : Nat) (s : WS) : Prop where
 nd : NdsOK W n s.N
 u : 0 ≤ s.u ∧ s.u ≤ ((n + s.N.length : Nat) : Int)
 s : ∀ z ∈ s.s, 0 ≤ z ∧ z ≤ ((n + s.N.length : Nat) : Int)
theorem ws_ok (hW : WdOK W) (hb : W.f + 2 ≤ W.b) (hL : ∀ p ∈ L, PasOK W.f p) {st : WS} (h : WsOK W n st) (hf : 1 ≤ st.f) : ∀ i, i ≤ L.length → st.f + ordS L i ≤ n + 1 → WsOK W n (wsS n (p2i W.f) L st i) := by
 intro i
 induction i with
 | zero => intro _ _; exact h
 | succ i ih =>
  intro hi ho
  have hS : ordS L (i + 1) = ordS L i + ordN (L.getD i pl0) := rfl
  obtain ⟨h1, h2, h3⟩ := ih xq xq
  have hff := ws_f (n := n) (U := p2i W.f) (L := L) (st := st) i
  have hp : PasOK W.f (L.getD i pl0) := by
   rw [List.getD_eq_getElem?_getD, List.getElem?_eq_getElem (show i < L.length by omega)]; exact hL _ (List.getElem_mem _)
  have hN : (wsS n (p2i W.f) L st (i + 1)) = ⟨(wsS n (p2i W.f) L st i).N ++ secN (p2i W.f) (L.getD i pl0) (wsS n (p2i W.f) L st i).f (wsS n (p2i W.f) L st i).u (n + (wsS n (p2i W.f) L st i).N.length + 1), secX (L.getD i pl0) (wsS n (p2i W.f) L st i).f (n + (wsS n (p2i W.f) L st i).N.length + 1) (wsS n (p2i W.f) L st i).s, secF (L.getD i pl0) (wsS n (p2i W.f) L st i).f, ((secO (L.getD i pl0) (n + (wsS n (p2i W.f) L st i).N.length + 1) : Nat) : Int)⟩ := rfl
  rw [hN]
  clear hN ih
  generalize wsS n (p2i W.f) L st i = w at *
  generalize L.getD i pl0 = p at *
  obtain ⟨hg, hh⟩ := pas_fit hW hb hp
  by_cases ho1 : p.o = 1
  ·have hord : ordN p = 1 := by unfold ordN; rw [if_pos ho1]
   have e1 : secN (p2i W.f) p w.f w.u (n + w.N.length + 1) = adN (p2i W.f) p.g w.u (w.f : Int) (n + w.N.length + 1) := by unfold secN; rw [if_pos ho1]
   have e2 : secX p w.f (n + w.N.length + 1) w.s = w.s.set (w.f - 1) ((n + w.N.length + 1 + 2 : Nat) : Int) := by unfold secX; rw [if_pos ho1]
   have e3 : secO p (n + w.N.length + 1) = n + w.N.length + 1 + 1 := by unfold secO; rw [if_pos ho1]
   rw [e1, e2, e3]
   have hlen : (w.N ++ adN (p2i W.f) p.g w.u (w.f : Int) (n + w.N.length + 1)).length = w.N.length + 3 := by rw [List.length_append]; rfl
   refine ⟨h1.app (adN_ok hg h2 xq rfl), ?_, fun z hz => ?_⟩
   ·show (0 : Int) ≤ ((n + w.N.length + 1 + 1 : Nat) : Int) ∧ ((n + w.N.length + 1 + 1 : Nat) : Int) ≤ _
    rw [hlen]; omega
   show 0 ≤ z ∧ z ≤ ((n + (w.N ++ adN (p2i W.f) p.g w.u (w.f : Int) (n + w.N.length + 1)).length : Nat) : Int)
   rw [hlen]
   rcases mem_set' hz with hz | hz
   ·have := h3 z hz; omega
   subst hz; omega
  have hord : ordN p = 2 := by unfold ordN; rw [if_neg ho1]
  have e1 : secN (p2i W.f) p w.f w.u (n + w.N.length + 1) = adN (p2i W.f) p.h (w.f : Int) ((w.f + 1 : Nat) : Int) (n + w.N.length + 1) ++ adN (p2i W.f) p.g w.u ((n + w.N.length + 1 + 1 : Nat) : Int) (n + w.N.length + 1 + 3) := by unfold secN; rw [if_neg ho1]
  have e2 : secX p w.f (n + w.N.length + 1) w.s = (w.s.set (w.f - 1) ((n + w.N.length + 1 + 5 : Nat) : Int)).set w.f ((n + w.N.length + 1 + 2 : Nat) : Int) := by unfold secX; rw [if_neg ho1]
  have e3 : secO p (n + w.N.length + 1) = n + w.N.length + 1 + 4 := by unfold secO; rw [if_neg ho1]
  rw [e1, e2, e3, ← List.append_assoc]
  have hA : (w.N ++ adN (p2i W.f) p.h (w.f : Int) ((w.f + 1 : Nat) : Int) (n + w.N.length + 1)).length = w.N.length + 3 := by rw [List.length_append]; rfl
  have hlen : (w.N ++ adN (p2i W.f) p.h (w.f : Int) ((w.f + 1 : Nat) : Int) (n + w.N.length + 1) ++ adN (p2i W.f) p.g w.u ((n + w.N.length + 1 + 1 : Nat) : Int) (n + w.N.length + 1 + 3)).length = w.N.length + 6 := by rw [List.length_append, hA]; rfl
  refine ⟨(h1.app (adN_ok hh xq xq rfl)).app (adN_ok hg (by rw [hA]; omega) (by rw [hA]; omega) (by rw [hA]; omega)), ?_, fun z hz => ?_⟩
  ·dsimp only
   rw [hlen]; omega
  dsimp only at hz ⊢
  rw [hlen]
  rcases mem_set' hz with hz | hz
  ·rcases mem_set' hz with hz | hz
   ·have := h3 z hz; omega
   subst hz; omega
  subst hz; omega
theorem ws_mono {n : Nat} {U : Int} {L : List PL} {st : WS} (i : Nat) : (wsS n U L st i).N.length ≤ (wsS n U L st (i + 1)).N.length := by
 show _ ≤ ((wsS n U L st i).N ++ secN U (L.getD i pl0) (wsS n U L st i).f (wsS n U L st i).u (n + (wsS n U L st i).N.length + 1)).length
 rw [List.length_append]; omega
end Nt
theorem wvB_ok {W : WL} {L M : List PL} (hW : WdOK W) (hb : W.f + 2 ≤ W.b) (hL : ∀ p ∈ L, PasOK W.f p) (hM : ∀ p ∈ M, PasOK W.f p) : Nt.WsOK W (wvN L M) (wvB (Nt.p2i W.f) L M) ∧ 0 ≤ (wvT (Nt.p2i W.f) L M).u ∧ (wvT (Nt.p2i W.f) L M).u ≤ ((wvN L M + (wvB (Nt.p2i W.f) L M).N.length : Nat) : Int) ∧ (wvB (Nt.p2i W.f) L M).s.length = wvN L M := by
 have h0 : Nt.WsOK W (wvN L M) ⟨[], List.replicate (wvN L M) 0, 1, 0⟩ := ⟨fun k hk => absurd hk (Nat.not_lt_zero k), ⟨Int.le_refl _, by show (0 : Int) ≤ _; omega⟩, fun z hz => by have := List.eq_of_mem_replicate hz; subst this; omega⟩
 have hT : Nt.WsOK W (wvN L M) (wvT (Nt.p2i W.f) L M) := Nt.ws_ok hW hb hL h0 (Nat.le_refl _) L.length (Nat.le_refl _) (by show 1 + _ ≤ _; unfold wvN; omega)
 have hfT : (wvT (Nt.p2i W.f) L M).f = 1 + Nt.ordS L L.length := Nt.ws_f _
 have h1 : Nt.WsOK W (wvN L M) ⟨(wvT (Nt.p2i W.f) L M).N, (wvT (Nt.p2i W.f) L M).s, (wvT (Nt.p2i W.f) L M).f, 0⟩ := ⟨hT.nd, ⟨Int.le_refl _, by show (0 : Int) ≤ _; omega⟩, hT.s⟩
 have hB : Nt.WsOK W (wvN L M) (wvB (Nt.p2i W.f) L M) := Nt.ws_ok hW hb hM h1 (by show 1 ≤ (wvT (Nt.p2i W.f) L M).f; omega) M.length (Nat.le_refl _) (by show (wvT (Nt.p2i W.f) L M).f + _ ≤ _; rw [hfT]; unfold wvN; omega)
 have hmono : ∀ i, (wvT (Nt.p2i W.f) L M).N.length ≤ (Nt.wsS (wvN L M) (Nt.p2i W.f) M ⟨(wvT (Nt.p2i W.f) L M).N, (wvT (Nt.p2i W.f) L M).s, (wvT (Nt.p2i W.f) L M).f, 0⟩ i).N.length := fun i => by
  induction i with
  | zero => exact Nat.le_refl _
  | succ i ih =>
   exact Nat.le_trans ih (Nt.ws_mono i)
 have hm : (wvT (Nt.p2i W.f) L M).N.length ≤ (wvB (Nt.p2i W.f) L M).N.length := hmono M.length
 refine ⟨hB, hT.u.1, by have := hT.u.2; omega, ?_⟩
 have hsT : (wvT (Nt.p2i W.f) L M).s.length = wvN L M := (Nt.ws_s _).trans zj
 exact (Nt.ws_s _).trans hsT
theorem wv_netOK {D W : WL} {L M : List PL} {c : Bool} {q : Int} (hD : WdOK D) (hW : WdOK W) (hf : 1 ≤ W.f) (hb : W.f + 2 ≤ W.b) (hl : L.length ≤ 4) (hm : M.length ≤ 4) (hL : ∀ p ∈ L, PasOK W.f p) (hM : ∀ p ∈ M, PasOK W.f p) (hq : 0 ≤ q ∧ q ≤ ((wvN L M + (wvB (Nt.p2i W.f) L M).N.length + 1 : Nat) : Int)) :
  Nt.NetOK D W (wvN L M) (wvO (Nt.p2i W.f) L M c) (wvB (Nt.p2i W.f) L M).s q := by
 obtain ⟨hB, hu0, hu1, hsl⟩ := wvB_ok hW hb hL hM
 have hoL := Nt.ordS_le L L.length
 have hoM := Nt.ordS_le M M.length
 have hN1 : (wvT (Nt.p2i W.f) L M).N.length ≤ 6 * L.length := Nat.le_trans (Nt.ws_N _) zj
 have hN2 : (wvB (Nt.p2i W.f) L M).N.length ≤ (wvT (Nt.p2i W.f) L M).N.length + 6 * M.length := Nt.ws_N _
 have hlen : (wvO (Nt.p2i W.f) L M c).length = (wvB (Nt.p2i W.f) L M).N.length + 1 := by unfold wvO; rw [List.length_append]; rfl
 have hw : wvN L M = Nt.ordS L L.length + Nt.ordS M M.length := rfl
 have hp2 := Nt.p2i_half hf
 have hpm := Nt.zwh (a := W.f - 1) (b := W.b - 1) xq
 have hpm2 := Nt.p2i_succ hf
 have hpp := Nt.zxq (W.f - 1)
 have hpm3 := Nt.zwh (a := W.f) (b := W.b - 1) xq
 have hall : Nt.NdsOK W (wvN L M) (wvO (Nt.p2i W.f) L M c) := by
  unfold wvO
  refine hB.nd.app (fun j hj => ?_)
  obtain rfl : j = 0 := by simp at hj; omega
  refine ⟨Nat.le_refl _, fun t ht => ?_⟩
  have ht : t ∈ [(⟨(wvT (Nt.p2i W.f) L M).u, (Nt.p2i W.f).tdiv 2⟩ : TL), ⟨(wvB (Nt.p2i W.f) L M).u, if c then -((Nt.p2i W.f).tdiv 2) else (Nt.p2i W.f).tdiv 2⟩] := ht
  rcases List.mem_cons.1 ht with rfl | ht
  ·exact ⟨hu0, hu1, .inr (Nt.fit_iff.2 (by show -Nt.p2i (W.b - 1) ≤ (Nt.p2i W.f).tdiv 2 ∧ (Nt.p2i W.f).tdiv 2 ≤ Nt.p2i (W.b - 1) - 1; rw [hp2]; omega))⟩
  rw [List.mem_singleton.1 ht]
  refine ⟨hB.u.1, hB.u.2, .inr (Nt.fit_iff.2 ?_)⟩
  show _ ≤ (if c then -((Nt.p2i W.f).tdiv 2) else (Nt.p2i W.f).tdiv 2) ∧ (if c then -((Nt.p2i W.f).tdiv 2) else (Nt.p2i W.f).tdiv 2) ≤ _
  rw [hp2]
  split <;> omega
 refine ⟨hD, hW, by omega, by omega, hsl, fun k hk => ?_, fun j hj => ?_, by rw [hlen]; omega⟩
 ·obtain ⟨h1, h2⟩ := hall k hk
  refine ⟨by omega, fun j hj => ?_⟩
  have := h2 (((wvO (Nt.p2i W.f) L M c).getD k []).getD j tl0) (by rw [List.getD_eq_getElem?_getD (l := (wvO (Nt.p2i W.f) L M c).getD k []), List.getElem?_eq_getElem hj]; exact List.getElem_mem _)
  refine ⟨this.1, by have := this.2.1; omega, this.2.2⟩
 have := hB.s ((wvB (Nt.p2i W.f) L M).s.getD j 0) (by rw [List.getD_eq_getElem?_getD, List.getElem?_eq_getElem hj]; exact List.getElem_mem _)
 rw [hlen]; omega
theorem wvO_last {U : Int} {L M : List PL} {c : Bool} : (wvO U L M c).getD (wvB U L M).N.length [] = [⟨(wvT U L M).u, U.tdiv 2⟩, ⟨(wvB U L M).u, if c then -(U.tdiv 2) else U.tdiv 2⟩] := Nt.getD_append_r
theorem wvO_len {U : Int} {L M : List PL} {c : Bool} : (wvO U L M c).length = (wvB U L M).N.length + 1 := by unfold wvO; rw [List.length_append]; rfl
theorem Nt.pas_get {f : Int} {L : List PL} (h : ∀ p ∈ L, PasOK f p) : ∀ i, i < L.length → PasOK f (L.getD i pl0) := fun i hi => by
 rw [List.getD_eq_getElem?_getD, List.getElem?_eq_getElem hi]; exact h _ (List.getElem_mem hi)
theorem wvB_N (U : Int) (L M : List PL) : (wvB U L M).N.length ≤ 6 * L.length + 6 * M.length := by
 have hN1 : (wvT U L M).N.length ≤ 6 * L.length := Nat.le_trans (Nt.ws_N _) zj
 have hN2 : (wvB U L M).N.length ≤ (wvT U L M).N.length + 6 * M.length := Nt.ws_N _
 omega
namespace Nt
section
variable {F : Int} {N : List (List TL)} {n m i j k a : Nat} {p : PL} {U : Int} {L M : List PL} {st : WS} {nx s : List Int}
theorem getD_setn {l : List Int} {i j : Nat} {z : Int} (h : i ≠ j) : (l.set i z).getD j 0 = l.getD j 0 := by
 rw [List.getD_eq_getElem?_getD, List.getElem?_set_ne h, ← List.getD_eq_getElem?_getD]
theorem getD_sets {l : List Int} {i : Nat} {z : Int} (h : i < l.length) : (l.set i z).getD i 0 = z := by
 rw [List.getD_eq_getElem?_getD, List.getElem?_set_self h]; rfl
theorem ws_app (h : i ≤ j) : ∃ R, (wsS n U L st j).N = (wsS n U L st i).N ++ R := by
 induction j with
 | zero => obtain rfl : i = 0 := by omega
           exact ⟨[], (List.append_nil _).symm⟩
 | succ j ih =>
  by_cases e : i = j + 1
  ·subst e; exact ⟨[], (List.append_nil _).symm⟩
  obtain ⟨R, hR⟩ := ih xq
  exact ⟨R ++ secN U (L.getD j pl0) (wsS n U L st j).f (wsS n U L st j).u (n + (wsS n U L st j).N.length + 1), by
   show (wsS n U L st j).N ++ _ = _
   rw [hR, List.append_assoc]⟩
theorem ws_keep (hf : 1 ≤ st.f) (h : i ≤ j) (ha : a < (wsS n U L st i).f - 1) : (wsS n U L st j).s.getD a 0 = (wsS n U L st i).s.getD a 0 := by
 induction j with
 | zero => obtain rfl : i = 0 := by omega
           rfl
 | succ j ih =>
  by_cases e : i = j + 1
  ·rw [e]
  rw [← ih xq]
  have f1 := ws_f (n := n) (U := U) (L := L) (st := st) i
  have f2 := ws_f (n := n) (U := U) (L := L) (st := st) j
  have f3 := ordS_mono L (i := i) (j := j) xq
  show (secX (L.getD j pl0) (wsS n U L st j).f _ (wsS n U L st j).s).getD a 0 = _
  unfold secX
  split
  ·rw [getD_setn xq]
  rw [getD_setn xq, getD_setn xq]
theorem ws_u0 (h : 0 ≤ st.u) (i : Nat) : 0 ≤ (wsS n U L st i).u := by
 cases i with
 | zero => exact h
 | succ i => exact Int.natCast_nonneg _
theorem Br.of {R : List (List TL)} (hf : 1 ≤ st.f) (hu : st.u = 0) (hn : st.f - 1 + ordS L L.length ≤ n) (hs : st.s.length = n) (hN : N = (wsS n (p2i F) L st L.length).N ++ R) (hx : ∀ a, a < (wsS n (p2i F) L st L.length).f - 1 → nx.getD a 0 = (wsS n (p2i F) L st L.length).s.getD a 0) : Br F N n nx L st := by
 have ff : ∀ i, i < L.length → (wsS n (p2i F) L st i).f - 1 + ordN (L.getD i pl0) = (wsS n (p2i F) L st (i + 1)).f - 1 ∧ 1 ≤ (wsS n (p2i F) L st i).f ∧ (wsS n (p2i F) L st (i + 1)).f ≤ (wsS n (p2i F) L st L.length).f ∧ (wsS n (p2i F) L st L.length).f - 1 ≤ n := fun i hi => by
  have f1 := ws_f (n := n) (U := p2i F) (L := L) (st := st) i
  have f2 := ws_f (n := n) (U := p2i F) (L := L) (st := st) (i + 1)
  have f3 := ordS_mono L (i := i + 1) (j := L.length) xq
  have f4 := ws_f (n := n) (U := p2i F) (L := L) (st := st) L.length
  have f5 : ordS L (i + 1) = ordS L i + ordN (L.getD i pl0) := rfl
  omega
 have nxt : ∀ i a, i < L.length → a < (wsS n (p2i F) L st (i + 1)).f - 1 → nx.getD a 0 = (wsS n (p2i F) L st (i + 1)).s.getD a 0 := fun i a hi ha => by
  obtain ⟨_, _, f3, _⟩ := ff i hi
  rw [hx a xq, ws_keep hf (i := i + 1) xq ha]
 refine ⟨fun i hi V hV => ?_, fun i hi e => ?_, fun i hi e => ?_, hf, hn, hu⟩
 ·obtain ⟨R1, hR1⟩ := ws_app (n := n) (U := p2i F) (L := L) (st := st) (i := i + 1) (j := L.length) xq
  have e1 : (wsS n (p2i F) L st (i + 1)).N = (wsS n (p2i F) L st i).N ++ secN (p2i F) (L.getD i pl0) (wsS n (p2i F) L st i).f (wsS n (p2i F) L st i).u (n + (wsS n (p2i F) L st i).N.length + 1) := rfl
  have e2 : N = (wsS n (p2i F) L st i).N ++ (secN (p2i F) (L.getD i pl0) (wsS n (p2i F) L st i).f (wsS n (p2i F) L st i).u (n + (wsS n (p2i F) L st i).N.length + 1) ++ (R1 ++ R)) := by rw [hN, hR1, e1, List.append_assoc, List.append_assoc]
  have hu0 := ws_u0 (n := n) (U := p2i F) (L := L) (by rw [hu]; exact Int.le_refl _) i
  clear hR1 e1
  generalize wsS n (p2i F) L st i = w at *
  refine sec_ve (k0 := w.N.length) hV (by rw [e2, List.length_append, List.length_append]; omega) xq hu0 (fun r hr => ?_)
  rw [e2, List.getD_eq_getElem?_getD, List.getElem?_append_right xq, Nat.add_sub_cancel_left, List.getElem?_append_left hr, ← List.getD_eq_getElem?_getD]
 ·obtain ⟨f1, f2, f3, f4⟩ := ff i hi
  have o1 := ordN_1 e
  have hl : (wsS n (p2i F) L st i).s.length = n := (ws_s i).trans hs
  rw [nxt i _ hi xq]
  show (secX (L.getD i pl0) (wsS n (p2i F) L st i).f _ (wsS n (p2i F) L st i).s).getD _ 0 = _
  unfold secX
  rw [if_pos e, getD_sets xq]
 obtain ⟨f1, f2, f3, f4⟩ := ff i hi
 have o1 := ordN_2 e
 have hl : (wsS n (p2i F) L st i).s.length = n := (ws_s i).trans hs
 refine ⟨?_, ?_⟩
 ·rw [nxt i _ hi xq]
  show (secX (L.getD i pl0) (wsS n (p2i F) L st i).f _ (wsS n (p2i F) L st i).s).getD _ 0 = _
  unfold secX
  rw [if_neg e, getD_setn xq, getD_sets xq]
 rw [nxt i _ hi xq]
 show (secX (L.getD i pl0) (wsS n (p2i F) L st i).f _ (wsS n (p2i F) L st i).s).getD _ 0 = _
 unfold secX
 rw [if_neg e, getD_sets (by rw [List.length_set]; omega)]
end
end Nt
section
variable {D W : WL} {L M : List PL} {c : Bool} {q : Int}
theorem wv_br (F : Int) (L M : List PL) (c : Bool) : Nt.Br F (wvO (Nt.p2i F) L M c) (wvN L M) (wvB (Nt.p2i F) L M).s L ⟨[], List.replicate (wvN L M) 0, 1, 0⟩ ∧ Nt.Br F (wvO (Nt.p2i F) L M c) (wvN L M) (wvB (Nt.p2i F) L M).s M ⟨(wvT (Nt.p2i F) L M).N, (wvT (Nt.p2i F) L M).s, (wvT (Nt.p2i F) L M).f, 0⟩ := by
 have fT : (wvT (Nt.p2i F) L M).f = 1 + Nt.ordS L L.length := Nt.ws_f _
 have sT : (wvT (Nt.p2i F) L M).s.length = wvN L M := (Nt.ws_s _).trans zj
 obtain ⟨R, hR⟩ := Nt.ws_app (n := wvN L M) (U := Nt.p2i F) (L := M) (st := ⟨(wvT (Nt.p2i F) L M).N, (wvT (Nt.p2i F) L M).s, (wvT (Nt.p2i F) L M).f, 0⟩) (i := 0) (j := M.length) (Nat.zero_le _)
 refine ⟨Nt.Br.of (R := R ++ [[⟨(wvT (Nt.p2i F) L M).u, (Nt.p2i F).tdiv 2⟩, ⟨(wvB (Nt.p2i F) L M).u, if c then -((Nt.p2i F).tdiv 2) else (Nt.p2i F).tdiv 2⟩]]) (Nat.le_refl _) rfl (by show 0 + _ ≤ _; unfold wvN; omega) zj ?_ (fun a ha => ?_), Nt.Br.of (R := [[⟨(wvT (Nt.p2i F) L M).u, (Nt.p2i F).tdiv 2⟩, ⟨(wvB (Nt.p2i F) L M).u, if c then -((Nt.p2i F).tdiv 2) else (Nt.p2i F).tdiv 2⟩]]) (by show 1 ≤ (wvT (Nt.p2i F) L M).f; omega) rfl (by show (wvT (Nt.p2i F) L M).f - 1 + _ ≤ _; rw [fT]; unfold wvN; omega) sT rfl (fun a ha => rfl)⟩
 ·have e : (wvB (Nt.p2i F) L M).N = (wvT (Nt.p2i F) L M).N ++ R := hR
  unfold wvO
  rw [e, List.append_assoc]; rfl
 exact Nt.ws_keep (n := wvN L M) (U := Nt.p2i F) (L := M) (st := ⟨(wvT (Nt.p2i F) L M).N, (wvT (Nt.p2i F) L M).s, (wvT (Nt.p2i F) L M).f, 0⟩) (i := 0) (j := M.length) (by show 1 ≤ (wvT (Nt.p2i F) L M).f; omega) (Nat.zero_le _) (by show a < (wvT (Nt.p2i F) L M).f - 1; exact ha)
namespace Nt
theorem cv_lin2 (a b y : Nat → Rat) (x z : Rat) (n : Nat) : cv y (fun t => x * a t + z * b t) n = x * cv y a n + z * cv y b n := by
 unfold cv
 rw [← su_mul, ← su_mul, ← su_add]
 exact su_congr (fun i _ => by grind)
end Nt
theorem wv_system (hok : Nt.NetOK D W (wvN L M) (wvO (Nt.p2i W.f) L M c) (wvB (Nt.p2i W.f) L M).s q) (hf : 1 ≤ W.f) (hq : q = ((wvN L M + (wvB (Nt.p2i W.f) L M).N.length + 1 : Nat) : Int)) :
  Nt.Newt (wvN L M) (Nt.lnA (Nt.UQ W.f) (wvO (Nt.p2i W.f) L M c) (wvN L M) (wvB (Nt.p2i W.f) L M).s) (Nt.cv (Nt.co (Nt.prodA W.f L L.length)) (Nt.co (Nt.prodA W.f M M.length))) ∧
  ∀ V, Nt.Imp (Nt.UQ W.f) (wvO (Nt.p2i W.f) L M c) (wvN L M) (wvB (Nt.p2i W.f) L M).s V → ∀ k, Nt.cv (Nt.cv (Nt.co (Nt.prodA W.f L L.length)) (Nt.co (Nt.prodA W.f M M.length))) (fun t => V t q.toNat) k = (1 / 2) * Nt.cv (Nt.co (Nt.prodB W.f L L.length)) (Nt.co (Nt.prodA W.f M M.length)) k + (if c then -(1 / 2) else 1 / 2) * Nt.cv (Nt.co (Nt.prodB W.f M M.length)) (Nt.co (Nt.prodA W.f L L.length)) k := by
 obtain ⟨bL, bM⟩ := wv_br W.f L M c
 have hb := Nt.Back.of hok
 have fT : (wvT (Nt.p2i W.f) L M).f = 1 + Nt.ordS L L.length := Nt.ws_f _
 have fB : (wvB (Nt.p2i W.f) L M).f = (wvT (Nt.p2i W.f) L M).f + Nt.ordS M M.length := Nt.ws_f _
 refine ⟨?_, fun V hV k => ?_⟩
 ·obtain ⟨n1, z1, _⟩ := Nt.br_newt hb bL Nt.newt_0 (fun i j h _ _ => absurd h (Nat.not_lt_zero i)) L.length (Nat.le_refl _)
  have e0 : Nt.cv (fun i => if i = 0 then 1 else 0) (Nt.co (Nt.prodA W.f L L.length)) = Nt.co (Nt.prodA W.f L L.length) := by
   rw [Nt.cv_comm]
   exact funext fun t => Nt.cv_one t (fun t => rfl)
  rw [e0] at n1
  obtain ⟨n2, _, _⟩ := Nt.br_newt hb bM n1 z1 M.length (Nat.le_refl _)
  have e1 : (Nt.wsS (wvN L M) (Nt.p2i W.f) M ⟨(wvT (Nt.p2i W.f) L M).N, (wvT (Nt.p2i W.f) L M).s, (wvT (Nt.p2i W.f) L M).f, 0⟩ M.length).f - 1 = wvN L M := by
   show (wvB (Nt.p2i W.f) L M).f - 1 = _
   rw [fB, fT]; unfold wvN; omega
  rw [e1] at n2
  exact n2
 have rL := funext (Nt.br_run bL hV L.length (Nat.le_refl _))
 have rM := funext (Nt.br_run bM hV M.length (Nat.le_refl _))
 have out : ∀ t, V t q.toNat = (1 / 2) * V t (wvT (Nt.p2i W.f) L M).u.toNat + (if c then -(1 / 2) else 1 / 2) * V t (wvB (Nt.p2i W.f) L M).u.toNat := fun t => by
  have h := hV.ve t (wvB (Nt.p2i W.f) L M).N.length (by rw [wvO_len]; omega)
  rw [wvO_last] at h
  rw [hq, Int.toNat_natCast, show wvN L M + (wvB (Nt.p2i W.f) L M).N.length + 1 = 1 + wvN L M + (wvB (Nt.p2i W.f) L M).N.length by omega, h]
  have e : Nt.su (fun i => (((([(⟨(wvT (Nt.p2i W.f) L M).u, (Nt.p2i W.f).tdiv 2⟩ : TL), ⟨(wvB (Nt.p2i W.f) L M).u, if c then -((Nt.p2i W.f).tdiv 2) else (Nt.p2i W.f).tdiv 2⟩].getD i tl0).c : Int)) : Rat) * V t ([(⟨(wvT (Nt.p2i W.f) L M).u, (Nt.p2i W.f).tdiv 2⟩ : TL), ⟨(wvB (Nt.p2i W.f) L M).u, if c then -((Nt.p2i W.f).tdiv 2) else (Nt.p2i W.f).tdiv 2⟩].getD i tl0).f.toNat) [(⟨(wvT (Nt.p2i W.f) L M).u, (Nt.p2i W.f).tdiv 2⟩ : TL), ⟨(wvB (Nt.p2i W.f) L M).u, if c then -((Nt.p2i W.f).tdiv 2) else (Nt.p2i W.f).tdiv 2⟩].length = 0 + (((Nt.p2i W.f).tdiv 2 : Int) : Rat) * V t (wvT (Nt.p2i W.f) L M).u.toNat + ((if c then -((Nt.p2i W.f).tdiv 2) else (Nt.p2i W.f).tdiv 2 : Int) : Rat) * V t (wvB (Nt.p2i W.f) L M).u.toNat := rfl
  rw [e]
  have h1 := Nt.p2i_succ hf
  have h2 : (Nt.p2i W.f).tdiv 2 = Nt.p2i (W.f - 1) := Nt.p2i_half hf
  have h3 : Nt.UQ W.f = 2 * ((Nt.p2i (W.f - 1) : Int) : Rat) := by
   show ((Nt.p2i W.f : Int) : Rat) = _
   rw [h1, Rat.intCast_mul]; rfl
  have h4 : ((Nt.p2i (W.f - 1) : Int) : Rat) * ((Nt.p2i (W.f - 1) : Int) : Rat)⁻¹ = 1 := Rat.mul_inv_cancel _ (Nt.UQ_ne (W.f - 1))
  have h5 : (2 * ((Nt.p2i (W.f - 1) : Int) : Rat))⁻¹ = (1 / 2) * ((Nt.p2i (W.f - 1) : Int) : Rat)⁻¹ := by
   rw [Rat.inv_mul_rev]
   have : (2 : Rat)⁻¹ = 1 / 2 := by decide +kernel
   rw [this]; grind
  rw [Rat.div_def, h3, h5, h2]
  cases c with
  | true => rw [if_pos rfl, if_pos rfl, Rat.intCast_neg]; grind
  | false => rw [if_neg yj, if_neg yj]; grind
 rw [show (fun t => V t q.toNat) = fun t => (1 / 2) * V t (wvT (Nt.p2i W.f) L M).u.toNat + (if c then -(1 / 2) else 1 / 2) * V t (wvB (Nt.p2i W.f) L M).u.toNat from funext out, Nt.cv_lin2]
 have rL' : Nt.cv (Nt.co (Nt.prodA W.f L L.length)) (fun t => V t (wvT (Nt.p2i W.f) L M).u.toNat) = Nt.co (Nt.prodB W.f L L.length) := rL
 have rM' : Nt.cv (Nt.co (Nt.prodA W.f M M.length)) (fun t => V t (wvB (Nt.p2i W.f) L M).u.toNat) = Nt.co (Nt.prodB W.f M M.length) := rM
 have k1 : Nt.cv (Nt.cv (Nt.co (Nt.prodA W.f L L.length)) (Nt.co (Nt.prodA W.f M M.length))) (fun t => V t (wvT (Nt.p2i W.f) L M).u.toNat) k = Nt.cv (Nt.co (Nt.prodB W.f L L.length)) (Nt.co (Nt.prodA W.f M M.length)) k := by
  rw [Nt.cv_comm (Nt.co (Nt.prodA W.f L L.length)), Nt.cv_assoc, rL', Nt.cv_comm]
 have k2 : Nt.cv (Nt.cv (Nt.co (Nt.prodA W.f L L.length)) (Nt.co (Nt.prodA W.f M M.length))) (fun t => V t (wvB (Nt.p2i W.f) L M).u.toNat) k = Nt.cv (Nt.co (Nt.prodB W.f M M.length)) (Nt.co (Nt.prodA W.f L L.length)) k := by
  rw [Nt.cv_assoc, rM', Nt.cv_comm]
 rw [k1, k2]
end
namespace Nt
section
variable {D W : WL} {N : List (List TL)} {nx : List Int} {q : Int} {s k i j m : Nat} {P Q : List Rat}
theorem net_flb (hok : NetOK D W s N nx q) (hs : s ≤ 16) : FlB s (lnA (UQ W.f) N s nx) (lnB (UQ W.f) N s nx) (lnC (UQ W.f) N s q) ((p2i W.f).toNat ^ N.length) (30 * N.length) :=
 ⟨hs, (p_pow hok _).1, (p_pow hok _).2, fun i j => val_wd hok (j + 1) _ (Nat.le_refl _) _, fun i => val_wd hok 0 _ (Nat.le_refl _) _, fun i => val_wd hok (i + 1) _ (Nat.le_refl _) _⟩
theorem co_flB {n : Nat} {A : Nat → Nat → Rat} (k : Nat) : co (flBl n A) k = if k ≤ n then flC n A k else 0 := by
 by_cases h : k ≤ n
 ·rw [if_pos h]; exact flR_at xq
 rw [if_neg h]; exact co_ge (by rw [flBl_len]; omega)
theorem co_flA {n : Nat} {A : Nat → Nat → Rat} {B C : Nat → Rat} (k : Nat) : co (flAl n A B C) k = if k ≤ n then flAt n A B C k else 0 := by
 by_cases h : k ≤ n
 ·rw [if_pos h]; exact flR_at xq
 rw [if_neg h]; exact co_ge (by rw [flAl_len]; omega)
structure TrOK (W : WL) (N : List (List TL)) (s : Nat) (nx : List Int) (q : Int) (P Q : List Rat) : Prop where
 flb : FlB s (lnA (UQ W.f) N s nx) (lnB (UQ W.f) N s nx) (lnC (UQ W.f) N s q) ((p2i W.f).toNat ^ N.length) (30 * N.length)
 hl : N.length ≤ 64
 den : trimQ (flBl s (lnA (UQ W.f) N s nx)) = trimQ Q
 num : trimQ (addQ (flAl s (lnA (UQ W.f) N s nx) (lnB (UQ W.f) N s nx) (lnC (UQ W.f) N s q)) (trimQ ((flBl s (lnA (UQ W.f) N s nx)).map (· * lnD (UQ W.f) N s q)))) = trimQ P
theorem tr_ok (hok : NetOK D W s N nx q) (hs : s ≤ 16) (hp : ∀ k, k ≤ s → flC s (lnA (UQ W.f) N s nx) k = co Q k) (hQ : ∀ k, s < k → co Q k = 0) (hP : ∀ k, s < k → co P k = 0) (hh : ∀ V, Imp (UQ W.f) N s nx V → ∀ k, k ≤ s → cv (co Q) (fun t => V t q.toNat) k = co P k) : TrOK W N s nx q P Q := by
 obtain ⟨_, _, _, hNl, hnl, _, hnx, hq⟩ := id hok
 refine ⟨net_flb hok hs, hNl, trim_ext fun k => ?_, trim_ext fun k => ?_⟩
 ·rw [co_flB]
  by_cases h : k ≤ s
  ·rw [if_pos h]; exact hp k h
  rw [if_neg h]; exact (hQ k xq).symm
 have h9 := fl_transfer (U := UQ W.f) (b := co P) (Back.of hok) (fun i hi => by have := hnx i xq; omega) xq hp hh
 rw [addQ_co, trim_co, co_map (fun x => x * lnD (UQ W.f) N s q) (Rat.zero_mul _), co_flA, co_flB]
 by_cases h : k ≤ s
 ·rw [if_pos h, if_pos h]; exact h9 k h
 rw [if_neg h, if_neg h, hP k xq]; grind
end
end Nt
theorem k_nTransferL {u w : World} {W : WL} {s : Nat} {N : List (List TL)} {nx : List Int} {q : Int} {P Q : List Rat} {x y z : Sl} {r : RL} {Ra : List Sl} (d : Dat u w) (hA : MatV u x s Ra (fun i => rowL s ((Nt.lnA (Nt.UQ W.f) N s nx) i)) 100) (hB : PolN u y (rowL s (Nt.lnB (Nt.UQ W.f) N s nx)) 100) (hC : PolN u z (rowL s (Nt.lnC (Nt.UQ W.f) N s q)) 100) (hr : RatN u r (Nt.lnD (Nt.UQ W.f) N s q) 100) (h : Nt.TrOK W N s nx q P Q) : Calls Tryz.prog 43 #[.agg #[x.v, y.v, z.v, .bool r.s, .slice r.m.a r.m.n r.m.c, .slice r.d.a r.d.n r.d.c]] w (Post u w fun v u' => ∃ p q : Sl, v = .tuple #[.agg #[p.v, q.v], .int .i64 0] ∧ PolN u' p (Nt.trimQ P) 10000 ∧ PolN u' q (Nt.trimQ Q) 10000) := by
 have k := k_nTransfer d hA hB hC hr yj h.flb (by have := h.hl; omega)
 rw [h.num, h.den] at k
 exact k
instance {k : Nat} {L : List (List Int)} : Decidable (OkR k L) := by unfold OkR; exact inferInstance
instance {k : Nat} {L : List (List Int)} : Decidable (Rows k L) := by unfold Rows; exact inferInstance
set_option maxHeartbeats 1000000 in
theorem k_wordD {u w : World} {k : Int} (d : Dat u w) (hk0 : -9223372036854775808 ≤ k) (hk1 : k ≤ 9223372036854775807) : Calls Tryz.prog 99 #[.int .i64 k, .int .i64 6, .int .i64 12, .int .i64 2] w (Post u w fun v _ => ∃ W : WL, v = W.v ∧ WdOK W ∧ 6 ≤ W.b ∧ W.b ≤ 12) := by
 refine zzm (args := [.int .i64 k, .int .i64 6, .int .i64 12, .int .i64 2]) Tryz.func99 rfl Tryz.ntmps99 (rs := [.cell 8 66]) Tryz.results99 (le_b rfl) (le_b rfl) d ?_
 refine sq9 (zzk 8 ⟨66, [.int .i64 0, .int .i64 0, .int .i64 0, .int .i64 0]⟩ (zzb (sq9 (zza 10 (zI k) (zzg 11 100 _ fun _ _ _ ab => Post.mono ((show Calls _ _ #[.int .i64 k, .int .i64 1099511627776] _ _ from k_withinB (n := k) (m := 1099511627776) ab xq xq xq xq)) ?_)))))
 rintro _ u15 g16 ⟨aa, rfl, h13, h14⟩
 refine zza 0 (zI aa) (zzb (sq9 (zza 12 (zI 6) (zza 13 (zI aa) (zza 14 (zI 12) (zza 15 (zI 6) (zza 16 (zI 6) (zza 17 (zI 7) (sy_rem 18 (n := aa) (m := 7) (aa % 7) yj (Int.tmod_eq_emod_of_nonneg xq) ?_)))))))))
 refine zyq 19 (x := zI (IntKind.i64.wrap ((6 : Int) + (aa % 7)))) (zI ((6 : Int) + (aa % 7))) yw (zza 20 (.v (.agg #[.int .i64 ((6 : Int) + (aa % 7)), .int .i64 0, .int .i64 0, .int .i64 0])) (zzk 9 ⟨66, [.int .i64 0, .int .i64 0, .int .i64 0, .int .i64 0]⟩ (zzj ⟨66, [.int .i64 ((6 : Int) + (aa % 7)), .int .i64 0, .int .i64 0, .int .i64 0]⟩ ty66 ?_)))
 refine zzb (sq9 (zza 21 (zI aa) (zza 22 (zI 12) (zza 23 (zI 6) (zza 24 (zI 6) (zza 25 (zI 7) (sy_quo 26 (n := aa) (m := 7) (aa / 7) yj (by rw [Int.tdiv_eq_ediv_of_nonneg xq]; exact IntWalk.i64_in _ xq) ?_)))))))
 refine zza 0 (zI (aa / 7)) (zzb (sq9 (zza 27 (.adr 9 0) (zzi 28 (zI ((6 : Int) + (aa % 7))) ty3 zzl (zyq 29 (x := zI (IntKind.i64.wrap (((6 : Int) + (aa % 7)) - 1))) (zI (((6 : Int) + (aa % 7)) - 1)) yw (zza 30 (zI 2) (zyq 31 (x := zI (IntKind.i64.wrap ((((6 : Int) + (aa % 7)) - 1) - 2))) (zI ((((6 : Int) + (aa % 7)) - 1) - 2)) yw (zza 32 (zI (aa / 7)) (sy_rem 33 (n := aa / 7) (m := 2) ((aa / 7) % 2) yj (Int.tmod_eq_emod_of_nonneg xq) ?_)))))))))
 refine zyq 34 (x := zI (IntKind.i64.wrap (((((6 : Int) + (aa % 7)) - 1) - 2) - ((aa / 7) % 2)))) (zI (((((6 : Int) + (aa % 7)) - 1) - 2) - ((aa / 7) % 2))) yw (zza 35 (.adr 9 1) (zzj ⟨66, [.int .i64 ((6 : Int) + (aa % 7)), .int .i64 (((((6 : Int) + (aa % 7)) - 1) - 2) - ((aa / 7) % 2)), .int .i64 0, .int .i64 0]⟩ ty3 ?_))
 refine zzc 52 [(0, zI (aa / 7)), (8, .adr 8 0), (9, .adr 9 0)] [(8, ⟨66, [.int .i64 0, .int .i64 0, .int .i64 0, .int .i64 0]⟩), (9, ⟨66, [.int .i64 ((6 : Int) + (aa % 7)), .int .i64 (((((6 : Int) + (aa % 7)) - 1) - 2) - ((aa / 7) % 2)), .int .i64 0, .int .i64 0]⟩)] (sq9 (zza 36 (zI (aa / 7)) (sy_quo 37 (n := aa / 7) (m := 2) ((aa / 7) / 2) yj (by rw [Int.tdiv_eq_ediv_of_nonneg xq]; exact IntWalk.i64_in _ xq) ?_)))
 refine zza 0 (zI ((aa / 7) / 2)) (zzb (sq9 (zza 38 (.adr 9 1) (zzi 39 (zI (((((6 : Int) + (aa % 7)) - 1) - 2) - ((aa / 7) % 2))) ty3 zzl (sy_max0 40 (n := ((((6 : Int) + (aa % 7)) - 1) - 2) - ((aa / 7) % 2)) (v := ((((6 : Int) + (aa % 7)) - 1) - 2) - ((aa / 7) % 2)) (by split <;> omega) ?_)))))
 refine zza 41 (.adr 9 1) (zzj ⟨66, [.int .i64 ((6 : Int) + (aa % 7)), .int .i64 (((((6 : Int) + (aa % 7)) - 1) - 2) - ((aa / 7) % 2)), .int .i64 0, .int .i64 0]⟩ ty3 ?_)
 refine zzb (sq9 (zza 42 (zI ((aa / 7) / 2)) (sy_rem 43 (n := (aa / 7) / 2) (m := 3) (((aa / 7) / 2) % 3) yj (Int.tmod_eq_emod_of_nonneg xq) ?_)))
 refine zyq 44 (x := zI (IntKind.i64.wrap ((1 : Int) + (((aa / 7) / 2) % 3)))) (zI ((1 : Int) + (((aa / 7) / 2) % 3))) yw (zza 45 (zI ((aa / 7) / 2)) (sy_quo 46 (n := (aa / 7) / 2) (m := 3) (((aa / 7) / 2) / 3) yj (by rw [Int.tdiv_eq_ediv_of_nonneg xq]; exact IntWalk.i64_in _ xq) ?_))
 refine sy_rem 47 (n := ((aa / 7) / 2) / 3) (m := 2) ((((aa / 7) / 2) / 3) % 2) yj (Int.tmod_eq_emod_of_nonneg xq) ?_
 refine zyq 48 (x := zI (IntKind.i64.wrap ((1 : Int) + ((((aa / 7) / 2) / 3) % 2)))) (zI ((1 : Int) + ((((aa / 7) / 2) / 3) % 2))) yw (zza 49 (.adr 9 2) (zzj ⟨66, [.int .i64 ((6 : Int) + (aa % 7)), .int .i64 (((((6 : Int) + (aa % 7)) - 1) - 2) - ((aa / 7) % 2)), .int .i64 ((1 : Int) + (((aa / 7) / 2) % 3)), .int .i64 0]⟩ ty3 ?_))
 refine zza 50 (.adr 9 3) (zzj ⟨66, [.int .i64 ((6 : Int) + (aa % 7)), .int .i64 (((((6 : Int) + (aa % 7)) - 1) - 2) - ((aa / 7) % 2)), .int .i64 ((1 : Int) + (((aa / 7) / 2) % 3)), .int .i64 ((1 : Int) + ((((aa / 7) / 2) / 3) % 2))]⟩ ty3 ?_)
 refine zzb (sq9 (zzi 51 (.v (.agg #[.int .i64 ((6 : Int) + (aa % 7)), .int .i64 (((((6 : Int) + (aa % 7)) - 1) - 2) - ((aa / 7) % 2)), .int .i64 ((1 : Int) + (((aa / 7) / 2) % 3)), .int .i64 ((1 : Int) + ((((aa / 7) / 2) / 3) % 2))])) ty66 zze (zzj ⟨66, [.int .i64 ((6 : Int) + (aa % 7)), .int .i64 (((((6 : Int) + (aa % 7)) - 1) - 2) - ((aa / 7) % 2)), .int .i64 ((1 : Int) + (((aa / 7) / 2) % 3)), .int .i64 ((1 : Int) + ((((aa / 7) / 2) / 3) % 2))]⟩ ty66 ?_)))
 refine zzb (zzo (ret0 [.agg #[.int .i64 ((6 : Int) + (aa % 7)), .int .i64 (((((6 : Int) + (aa % 7)) - 1) - 2) - ((aa / 7) % 2)), .int .i64 ((1 : Int) + (((aa / 7) / 2) % 3)), .int .i64 ((1 : Int) + ((((aa / 7) / 2) / 3) % 2))]] ⟨zzr ty66 zze, trivial⟩ fun u18 e19 => ?_))
 exact ⟨⟨(6 : Int) + (aa % 7), ((((6 : Int) + (aa % 7)) - 1) - 2) - ((aa / 7) % 2), (1 : Int) + (((aa / 7) / 2) % 3), (1 : Int) + ((((aa / 7) / 2) / 3) % 2)⟩, rfl, by unfold WdOK; dsimp only; omega, by dsimp only; omega, by dsimp only; omega⟩
theorem k_data {u w : World} {k : Int} (d : Dat u w) (hk0 : -9223372036854775808 ≤ k) (hk1 : k ≤ 9223372036854775807) : Calls Tryz.prog 41 #[.int .i64 k] w (Post u w fun v _ => ∃ W : WL, v = W.v ∧ WdOK W ∧ 6 ≤ W.b ∧ W.b ≤ 12) := by
 refine zzm (args := [.int .i64 k]) Tryz.func41 rfl Tryz.ntmps41 (rs := [.cell 2 66]) Tryz.results41 (le_b rfl) (le_b rfl) d ?_
 refine sq9 (zzk 2 ⟨66, [.int .i64 0, .int .i64 0, .int .i64 0, .int .i64 0]⟩ (zzb (sq9 (zza 3 (zI k) (zzg 4 99 _ fun _ _ _ ad => Post.mono (k_wordD (k := k) ad xq xq) ?_)))))
 rintro _ u16 g17 ⟨aa, rfl, ab, ae, ac⟩
 refine zzj ⟨66, aa.cs⟩ ty66 ?_
 refine zzb (zzo (ret0 [.agg #[.int .i64 aa.b, .int .i64 aa.f, .int .i64 aa.r, .int .i64 aa.o]] ⟨zzr ty66 zze, trivial⟩ fun u19 e20 => ?_))
 exact ⟨aa, rfl, by assumption, by assumption, by assumption⟩
namespace Nt
section
variable {f : Int} {L M : List PL} {a b : List Rat} {n m k : Nat}
theorem mul_ge9 (ha : ∀ i, n < i → co a i = 0) (hb : ∀ i, m < i → co b i = 0) (h : n + m < k) : co (mulQ a b) k = 0 := by
 rw [mul_cv]
 exact su_0 (fun i hi => by
  by_cases h1 : n < i
  ·rw [ha i h1, Rat.zero_mul]
  rw [hb (k - i) xq, Rat.mul_zero])
theorem secA_le9 (p : PL) : (secA f p).length ≤ ordN p + 1 := by unfold secA ordN; split <;> simp
theorem secB_le9 (p : PL) : (secB f p).length ≤ ordN p + 1 := by unfold secB ordN; split <;> simp
theorem prodA_ge : ∀ n i, ordS L n < i → co (prodA f L n) i = 0
 | 0, i, h => co_ge (by show 1 ≤ i; omega)
 | n + 1, i, h => by
  show co (trimQ (mulQ (prodA f L n) (trimQ (secA f (L.getD n pl0))))) i = 0
  rw [trim_co]
  exact mul_ge9 (prodA_ge n) (fun j hj => by rw [trim_co]; exact co_ge (Nat.le_trans (secA_le9 _) hj)) h
theorem prodB_ge : ∀ n i, ordS L n < i → co (prodB f L n) i = 0
 | 0, i, h => co_ge (by show 1 ≤ i; omega)
 | n + 1, i, h => by
  show co (trimQ (mulQ (prodB f L n) (trimQ (secB f (L.getD n pl0))))) i = 0
  rw [trim_co]
  exact mul_ge9 (prodB_ge n) (fun j hj => by rw [trim_co]; exact co_ge (Nat.le_trans (secB_le9 _) hj)) h
theorem half9 : ((1 : Int) : Rat) / ((2 : Int) : Rat) = 1 / 2 := by decide +kernel
theorem wv_coF (k : Nat) : co ((trimQ (addQ (trimQ (mulQ (prodB f L L.length) (prodA f M M.length))) (trimQ (mulQ (prodB f M M.length) (prodA f L L.length))))).map (· * (((1 : Int) : Rat) / ((2 : Int) : Rat)))) k = (1 / 2) * cv (co (prodB f L L.length)) (co (prodA f M M.length)) k + (1 / 2) * cv (co (prodB f M M.length)) (co (prodA f L L.length)) k := by
 rw [co_map (fun x => x * (((1 : Int) : Rat) / ((2 : Int) : Rat))) (Rat.zero_mul _), trim_co, addQ_co, trim_co, trim_co, mul_cv, mul_cv, half9]
 grind
theorem wv_coT (k : Nat) : co ((trimQ (addQ (trimQ (mulQ (prodB f L L.length) (prodA f M M.length))) ((trimQ (mulQ (prodB f M M.length) (prodA f L L.length))).map (fun z => -z)))).map (· * (((1 : Int) : Rat) / ((2 : Int) : Rat)))) k = (1 / 2) * cv (co (prodB f L L.length)) (co (prodA f M M.length)) k + -(1 / 2) * cv (co (prodB f M M.length)) (co (prodA f L L.length)) k := by
 rw [co_map (fun x => x * (((1 : Int) : Rat) / ((2 : Int) : Rat))) (Rat.zero_mul _), trim_co, addQ_co, trim_co, co_map (fun z => -z) Rat.neg_zero, trim_co, mul_cv, mul_cv, half9]
 grind
theorem wv_cvz (k : Nat) (h : wvN L M < k) : cv (co (prodB f L L.length)) (co (prodA f M M.length)) k = 0 ∧ cv (co (prodB f M M.length)) (co (prodA f L L.length)) k = 0 := by
 rw [← mul_cv, ← mul_cv]
 unfold wvN at h
 exact ⟨mul_ge9 (prodB_ge _) (prodA_ge _) h, mul_ge9 (prodB_ge _) (prodA_ge _) xq⟩
end
theorem wv_tr {D W : WL} {L M : List PL} {c : Bool} {P : List Rat} (hok : NetOK D W (wvN L M) (wvO (p2i W.f) L M c) (wvB (p2i W.f) L M).s ((wvN L M + (wvB (p2i W.f) L M).N.length + 1 : Nat) : Int)) (hf : 1 ≤ W.f) (hs : wvN L M ≤ 16) (hP : ∀ k, co P k = (1 / 2) * cv (co (prodB W.f L L.length)) (co (prodA W.f M M.length)) k + (if c then -(1 / 2) else 1 / 2) * cv (co (prodB W.f M M.length)) (co (prodA W.f L L.length)) k) :
  TrOK W (wvO (p2i W.f) L M c) (wvN L M) (wvB (p2i W.f) L M).s ((wvN L M + (wvB (p2i W.f) L M).N.length + 1 : Nat) : Int) P (mulQ (prodA W.f L L.length) (prodA W.f M M.length)) := by
 obtain ⟨hn, hr⟩ := wv_system hok hf rfl
 have hQ : co (mulQ (prodA W.f L L.length) (prodA W.f M M.length)) = cv (co (prodA W.f L L.length)) (co (prodA W.f M M.length)) := funext fun k => mul_cv _ _ k
 refine tr_ok hok hs (fun k _ => by rw [hQ]; exact flC_of hn k) (fun k h => mul_ge9 (prodA_ge _) (prodA_ge _) h) (fun k h => ?_) (fun V hV k _ => ?_)
 ·rw [hP, (wv_cvz k h).1, (wv_cvz k h).2]; grind
 rw [hQ, hP]; exact hr V hV k
end Nt
theorem ordN_o {f : Int} {p : PL} (h : PasOK f p) : ((Nt.ordN p : Nat) : Int) = p.o := by
 unfold Nt.ordN
 rcases h.1 with ⟨h1, _⟩ | h1
 ·rw [if_pos h1, h1]; rfl
 rw [if_neg xq, h1]; rfl
def BlkAt (u : World) (b : Nat) (cs : List Value) (ty : TypeId) : Prop := u.heap[b]? = some (.cells cs.toArray ty (0, 0))
theorem BlkAt.ext {u u' : World} {b : Nat} {cs : List Value} {ty : TypeId} (h : BlkAt u b cs ty) (e : Ext u u') : BlkAt u' b cs ty := e.cells h
theorem half_b {z : Int} (h0 : 0 ≤ z) (h1 : z ≤ 16777216) : ∃ y, z.tdiv 2 = y ∧ 0 ≤ y ∧ y ≤ 16777216 := by
 refine ⟨_, rfl, Int.tdiv_nonneg h0 yj, ?_⟩
 rw [Int.tdiv_eq_ediv_of_nonneg h0]; omega
@[reducible] def wsA (W : WL) (L M : List PL) (i : Nat) := Nt.wsS (wvN L M) (Nt.p2i W.f) L ⟨[], List.replicate (wvN L M) 0, 1, 0⟩ i
@[reducible] def wsM (W : WL) (L M : List PL) (i : Nat) := Nt.wsS (wvN L M) (Nt.p2i W.f) M ⟨(wvT (Nt.p2i W.f) L M).N, (wvT (Nt.p2i W.f) L M).s, (wvT (Nt.p2i W.f) L M).f, 0⟩ i
set_option maxHeartbeats 8000000 in
theorem k_wvBuild {u w : World} {D W : WL} {x y : Sl} {L M : List PL} {c : Bool} (d : Dat u w) (hx : PasV u x L) (hy : PasV u y M) (hD : WdOK D) (hV : WvOK W L M) : Calls Tryz.prog 49 #[.agg #[x.v, y.v], D.v, W.v, .bool c] w (Post u w fun v u' => ∃ X Y : Sl, v = .tuple #[.agg #[.int .i64 D.b, .int .i64 D.f, .int .i64 D.r, .int .i64 D.o, .int .i64 W.b, .int .i64 W.f, .int .i64 W.r, .int .i64 W.o, .int .i64 ((wvN L M : Nat) : Int), X.v, Y.v, .int .i64 ((wvN L M + (wvB (Nt.p2i W.f) L M).N.length + 1 : Nat) : Int)], .int .i64 0] ∧ (∃ h, NodesB 0 h u' X (wvO (Nt.p2i W.f) L M c)) ∧ MutL 1 3 0 u' Y (ics (wvB (Nt.p2i W.f) L M).s)) := by
 obtain ⟨⟨hW, hf⟩, hnx, hny, hax, hay⟩ := id hV
 have hpx := all_mem hax
 have hpy := all_mem hay
 obtain ⟨hw1, hw2, hw3, hw4, hw5, hw6, hw7, hw8⟩ := id hW
 have hu0 := Nt.zxq W.f
 have hu1 := Nt.p2i_24 (n := W.f) xq
 have hu2 := Nt.zwh (a := W.f) (b := W.b - 1) xq
 have hu3 := Nt.p2i_24 (n := W.b - 1) xq
 have hlx := hx.len
 have hly := hy.len
 have hoL := Nt.ordS_le L L.length
 have hoM := Nt.ordS_le M M.length
 have hwN : wvN L M = Nt.ordS L L.length + Nt.ordS M M.length := rfl
 have hfT : (wvT (Nt.p2i W.f) L M).f = 1 + Nt.ordS L L.length := Nt.ws_f _
 have hsT : (wvT (Nt.p2i W.f) L M).s.length = wvN L M := (Nt.ws_s _).trans zj
 have hNT : (wvT (Nt.p2i W.f) L M).N.length ≤ 6 * L.length := Nat.le_trans (Nt.ws_N _) zj
 refine zzm (args := [.agg #[x.v, y.v], .agg #[.int .i64 D.b, .int .i64 D.f, .int .i64 D.r, .int .i64 D.o], .agg #[.int .i64 W.b, .int .i64 W.f, .int .i64 W.r, .int .i64 W.o], .bool c]) Tryz.func49 rfl Tryz.ntmps49 (rs := [.cell 8 72, .tmp 9]) Tryz.results49 (le_b rfl) (le_b rfl) d ?_
 refine sq9 (zzk 4 ⟨93, [x.v, y.v]⟩ (zzk 5 ⟨66, D.cs⟩ (zzk 6 ⟨66, W.cs⟩ (zzk 8 ⟨72, [.int .i64 0, .int .i64 0, .int .i64 0, .int .i64 0, .int .i64 0, .int .i64 0, .int .i64 0, .int .i64 0, .int .i64 0, .slice none 0 0, .slice none 0 0, .int .i64 0]⟩ (zza 9 (zI 0) (zzb (zzd (sq9 (zzi 22 (.v (D.v)) ty66 zze (zzg 23 103 _ fun _ _ aj bX => Post.mono ((Post.mono (k_fxValidG (W := D) bX) (fun v u9 _ h8 => by rw [decide_eq_true hD] at h8; exact (show v = .bool true from h8)))) ?_))))))))))
 rintro _ u12 ak rfl
 refine zza 24 (zB false) (zzb (zys xj (zzs (zzp ?_))))
 refine zzd (sq9 (zzi 26 (.v (.agg #[x.v, y.v])) ty93 zze (zzi 27 (.v (W.v)) ty66 zze (zzg 28 125 _ fun _ _ al cl => Post.mono ((Post.mono (k_wvValidG (W := W) (x := x) (y := y) (L := L) (M := M) cl (hx.ext (aj.t (ak.t al))) (hy.ext (aj.t (ak.t al)))) (fun v u9 _ h8 => by rw [decide_eq_true hV] at h8; exact (show v = .bool true from h8)))) ?_))))
 rintro _ u16 aA rfl
 refine zza 29 (zB false) (zzb (zys xj (zzs (zzp ?_))))
 refine sq9 (zza 10 (zI 0) (zzb (zzd (sq9 (zza 31 (zI 0) (zzb (zzt (sw_rounds 2 ?_))))))))
 refine sq9 (zza 32 (zB true) (zzb (zzd (zyr xj (zzs (zzp ?_))))))
 refine zzd (zzt (sq9 (zza 33 (zI 0) (zza 11 (zI 0) (zzb (sq9 (zzi 34 (.v (.agg #[x.v, y.v])) ty93 zze (zza 35 (zI 0) (zzg 36 126 _ fun _ _ ay cb => Post.mono (k_branch0 (x := x) (y := y) cb) ?_)))))))))
 rintro _ b0 aB rfl
 refine zza 37 (zI x.n) (zza 38 (zI 0) (zzb (zzt (zyn (I := fun bQ S' u' => ∃ (i : Nat), (bQ = L.length - i) ∧ (i ≤ L.length) ∧ (S' = St.of 96 [(3, zB c), (4, .adr 4 0), (5, .adr 5 0), (6, .adr 6 0), (8, .adr 8 0), (10, zI (Nt.ordS L i : Nat)), (31, zI 0), (36, .v (x.v)), (37, zI x.n), (38, zI i)] [(4, ⟨93, [x.v, y.v]⟩), (5, ⟨66, [.int .i64 D.b, .int .i64 D.f, .int .i64 D.r, .int .i64 D.o]⟩), (6, ⟨66, [.int .i64 W.b, .int .i64 W.f, .int .i64 W.r, .int .i64 W.o]⟩), (8, ⟨72, [.int .i64 0, .int .i64 0, .int .i64 0, .int .i64 0, .int .i64 0, .int .i64 0, .int .i64 0, .int .i64 0, .int .i64 0, .slice none 0 0, .slice none 0 0, .int .i64 0]⟩)]) ∧ (Ext b0 u')) (fun m S u1 u2 e h => by obtain ⟨i, hm, p0, hS, hE⟩ := h; exact ⟨i, hm, p0, hS, hE.trans e⟩) _ yz ⟨0, rfl, Nat.zero_le _, rfl, (Ext.refl _)⟩ ?_))))
 rintro bQ _ u23 ⟨i, bY, hi, rfl, ap⟩
 refine sq9 (zza 39 (zB (decide ((i : Int) < (x.n : Int)))) (zzb (zzd (zzu (b := decide ((i : Int) < (x.n : Int))) xj (fun aq => ?_) (fun aq => ?_)))))
 ·have qhb24 := of_decide_eq_true aq
  refine zzs (zzp ?_)
  refine zzd (zzt (sq9 ?_))
  have hl25 := ((hx.ext (aj.t (ak.t (al.t (aA.t (ay.t (aB.t ap)))))))).len
  obtain ⟨p25, b25, bR, bi, a8, aQ⟩ := pas_at ((hx.ext (aj.t (ak.t (al.t (aA.t (ay.t (aB.t ap)))))))) (i := i) xq
  refine zya 40 (bR + i * 3) (n := x.n) (off := bR) (sz := 3) (i := (i : Int)) xq bi xq xq sl91 (zym 41 p25.cs a8 ty168 (zzk 13 ⟨168, [.int .i64 0, .int .i64 0, .int .i64 0]⟩ (zzj ⟨168, [.int .i64 p25.o, .int .i64 p25.g, .int .i64 p25.h]⟩ ty168 ?_)))
  refine zzb ?_
  have aH : PasOK W.f p25 := by rw [aQ]; exact hpx _ (by rw [List.getD_eq_getElem?_getD, List.getElem?_eq_getElem xq]; exact List.getElem_mem _)
  refine zzf (zza 42 (zI (Nt.ordS L i : Nat)) (zza 43 (.adr 13 0) (zzi 44 (zI p25.o) ty3 zzl ?_)))
  have bo : Nt.ordS L (i + 1) = Nt.ordS L i + Nt.ordN p25 := by rw [aQ]; rfl
  have ho3 := ordN_o aH
  have ho4 := Nt.ordS_mono L (show i + 1 ≤ L.length by omega)
  refine zyq 45 (x := zI (IntKind.i64.wrap (((Nt.ordS L i : Nat) : Int) + p25.o))) (zI ((Nt.ordS L (i + 1) : Nat) : Int)) (eqI yq) (zza 10 (zI ((Nt.ordS L (i + 1) : Nat) : Int)) (zzx ?_))
  refine zzp (zzf (zyq 46 (x := zI (IntKind.i64.wrap ((i : Int) + 1))) (zI (i + 1 : Nat)) (eqI yq) (zza 38 (zI (i + 1 : Nat)) (zzx ?_))))
  refine ⟨_, ?_, _, by exact zzv _ _ _, i + 1, rfl, by omega, rfl, ap⟩
  omega
 have qhb24 := of_decide_eq_false aq
 refine zyc (zzp ?_)
 obtain rfl : i = L.length := by omega
 refine zzf (zza 47 (zI 1) (zza 31 (zI 1) (zzx ?_)))
 refine rn_next ?_
 refine sw_weak (T := St.of 96 [(3, zB c), (4, .adr 4 0), (5, .adr 5 0), (6, .adr 6 0), (8, .adr 8 0), (10, zI (Nt.ordS L L.length : Nat)), (31, zI 1)] [(4, ⟨93, [x.v, y.v]⟩), (5, ⟨66, [.int .i64 D.b, .int .i64 D.f, .int .i64 D.r, .int .i64 D.o]⟩), (6, ⟨66, [.int .i64 W.b, .int .i64 W.f, .int .i64 W.r, .int .i64 W.o]⟩), (8, ⟨72, [.int .i64 0, .int .i64 0, .int .i64 0, .int .i64 0, .int .i64 0, .int .i64 0, .int .i64 0, .int .i64 0, .int .i64 0, .slice none 0 0, .slice none 0 0, .int .i64 0]⟩)]) yz ?_
 refine sq9 (zza 32 (zB true) (zzb (zzd (zyr xj (zzs (zzp ?_))))))
 refine zzd (zzt (sq9 (zza 33 (zI 1) (zza 11 (zI 1) (zzb (sq9 (zzi 34 (.v (.agg #[x.v, y.v])) ty93 zze (zza 35 (zI 1) (zzg 36 126 _ fun _ _ a0 bZ => Post.mono (k_branch1 (x := x) (y := y) bZ) ?_)))))))))
 rintro _ b1 a1 rfl
 refine zza 37 (zI y.n) (zza 38 (zI 0) (zzc 96 [(3, zB c), (4, .adr 4 0), (5, .adr 5 0), (6, .adr 6 0), (8, .adr 8 0), (10, zI (Nt.ordS L L.length : Nat)), (31, zI 1), (36, .v (y.v)), (37, zI y.n), (38, zI 0)] [(4, ⟨93, [x.v, y.v]⟩), (5, ⟨66, D.cs⟩), (6, ⟨66, W.cs⟩), (8, ⟨72, [.int .i64 0, .int .i64 0, .int .i64 0, .int .i64 0, .int .i64 0, .int .i64 0, .int .i64 0, .int .i64 0, .int .i64 0, .slice none 0 0, .slice none 0 0, .int .i64 0]⟩)] (zzt (zyn (I := fun bN S' u' => ∃ (i : Nat), (bN = M.length - i) ∧ (i ≤ M.length) ∧ (S' = St.of 96 [(3, zB c), (4, .adr 4 0), (5, .adr 5 0), (6, .adr 6 0), (8, .adr 8 0), (10, zI (Nt.ordS L L.length + Nt.ordS M i : Nat)), (31, zI 1), (36, .v (y.v)), (37, zI y.n), (38, zI i)] [(4, ⟨93, [x.v, y.v]⟩), (5, ⟨66, [.int .i64 D.b, .int .i64 D.f, .int .i64 D.r, .int .i64 D.o]⟩), (6, ⟨66, [.int .i64 W.b, .int .i64 W.f, .int .i64 W.r, .int .i64 W.o]⟩), (8, ⟨72, [.int .i64 0, .int .i64 0, .int .i64 0, .int .i64 0, .int .i64 0, .int .i64 0, .int .i64 0, .int .i64 0, .int .i64 0, .slice none 0 0, .slice none 0 0, .int .i64 0]⟩)]) ∧ (Ext b1 u')) (fun m S u1 u2 e h => by obtain ⟨i, hm, p0, hS, hE⟩ := h; exact ⟨i, hm, p0, hS, hE.trans e⟩) _ yz ⟨0, rfl, Nat.zero_le _, rfl, (Ext.refl _)⟩ ?_))))
 rintro bN _ u30 ⟨i, ch, hi, rfl, aP⟩
 refine sq9 (zza 39 (zB (decide ((i : Int) < (y.n : Int)))) (zzb (zzd (zzu (b := decide ((i : Int) < (y.n : Int))) xj (fun am => ?_) (fun am => ?_)))))
 ·have qhb31 := of_decide_eq_true am
  refine zzs (zzp ?_)
  refine zzd (zzt (sq9 ?_))
  have hl32 := ((hy.ext (aj.t (ak.t (al.t (aA.t (ay.t (aB.t (ap.t (a0.t (a1.t aP))))))))))).len
  obtain ⟨p32, b32, bL, bn, bd, aN⟩ := pas_at ((hy.ext (aj.t (ak.t (al.t (aA.t (ay.t (aB.t (ap.t (a0.t (a1.t aP))))))))))) (i := i) xq
  refine zya 40 (bL + i * 3) (n := y.n) (off := bL) (sz := 3) (i := (i : Int)) xq bn xq xq sl91 (zym 41 p32.cs bd ty168 (zzk 13 ⟨168, [.int .i64 0, .int .i64 0, .int .i64 0]⟩ (zzj ⟨168, [.int .i64 p32.o, .int .i64 p32.g, .int .i64 p32.h]⟩ ty168 ?_)))
  refine zzb ?_
  have aI : PasOK W.f p32 := by rw [aN]; exact hpy _ (by rw [List.getD_eq_getElem?_getD, List.getElem?_eq_getElem xq]; exact List.getElem_mem _)
  refine zzf (zza 42 (zI (Nt.ordS L L.length + Nt.ordS M i : Nat)) (zza 43 (.adr 13 0) (zzi 44 (zI p32.o) ty3 zzl ?_)))
  have bo : Nt.ordS M (i + 1) = Nt.ordS M i + Nt.ordN p32 := by rw [aN]; rfl
  have ho3 := ordN_o aI
  have ho4 := Nt.ordS_mono M (show i + 1 ≤ M.length by omega)
  refine zyq 45 (x := zI (IntKind.i64.wrap (((Nt.ordS L L.length + Nt.ordS M i : Nat) : Int) + p32.o))) (zI ((Nt.ordS L L.length + Nt.ordS M (i + 1) : Nat) : Int)) (eqI yq) (zza 10 (zI ((Nt.ordS L L.length + Nt.ordS M (i + 1) : Nat) : Int)) (zzx ?_))
  refine zzp (zzf (zyq 46 (x := zI (IntKind.i64.wrap ((i : Int) + 1))) (zI (i + 1 : Nat)) (eqI yq) (zza 38 (zI (i + 1 : Nat)) (zzx ?_))))
  refine ⟨_, ?_, _, by exact zzv _ _ _, i + 1, rfl, by omega, rfl, aP⟩
  omega
 have qhb31 := of_decide_eq_false am
 refine zyc (zzp ?_)
 obtain rfl : i = M.length := by omega
 refine zzf (zza 47 (zI 2) (zza 31 (zI 2) (zzx ?_)))
 refine rn_next ?_
 refine sw_weak (T := St.of 96 [(3, zB c), (4, .adr 4 0), (5, .adr 5 0), (6, .adr 6 0), (8, .adr 8 0), (10, zI (Nt.ordS L L.length + Nt.ordS M M.length : Nat)), (31, zI 2)] [(4, ⟨93, [x.v, y.v]⟩), (5, ⟨66, [.int .i64 D.b, .int .i64 D.f, .int .i64 D.r, .int .i64 D.o]⟩), (6, ⟨66, [.int .i64 W.b, .int .i64 W.f, .int .i64 W.r, .int .i64 W.o]⟩), (8, ⟨72, [.int .i64 0, .int .i64 0, .int .i64 0, .int .i64 0, .int .i64 0, .int .i64 0, .int .i64 0, .int .i64 0, .int .i64 0, .slice none 0 0, .slice none 0 0, .int .i64 0]⟩)]) yz ?_
 refine sq9 (zza 32 (zB false) (zzb (zzd (zys xj (zyc (zzp (sq9 (zza 48 (.adr 6 1) (zzi 49 (zI W.f) ty3 zzl (sy_shl 50 (k := .i64) (s := W.f) (Nt.p2i W.f) xq zx (shl_one xq xq) ?_))))))))))
 refine zza 51 (.v (.agg #[.int .i64 0, .int .i64 0, .int .i64 0, .int .i64 0, .int .i64 0, .int .i64 0, .int .i64 0, .int .i64 0, .int .i64 0, .slice none 0 0, .slice none 0 0, .int .i64 0, .int .i64 (Nt.p2i W.f), .int .i64 1])) (zzk 14 ⟨170, [.int .i64 0, .int .i64 0, .int .i64 0, .int .i64 0, .int .i64 0, .int .i64 0, .int .i64 0, .int .i64 0, .int .i64 0, .slice none 0 0, .slice none 0 0, .int .i64 0, .int .i64 0, .int .i64 0]⟩ (zzj ⟨170, [.int .i64 0, .int .i64 0, .int .i64 0, .int .i64 0, .int .i64 0, .int .i64 0, .int .i64 0, .int .i64 0, .int .i64 0, .slice none 0 0, .slice none 0 0, .int .i64 0, .int .i64 (Nt.p2i W.f), .int .i64 1]⟩ ty170 ?_))
 refine zzb (zzd (zzz [0, 0, 0, 0, 8, 31, 63, 127] [(0, []), (1, []), (2, []), (3, []), (4, [56]), (5, []), (6, []), (7, [])] xj xj (zzi 52 (.v (D.v)) ty66 zze (zzi 53 (.v (W.v)) ty66 zze (zza 54 (zI (Nt.ordS L L.length + Nt.ordS M M.length : Nat)) (zza 55 (zI (Nt.ordS L L.length + Nt.ordS M M.length : Nat)) (sy_makeN 56 (T := 22) (E := 3) (z := .int .i64 0) (size := 1) (bytes := 8) (Nt.ordS L L.length + Nt.ordS M M.length) (ics (List.replicate (Nt.ordS L L.length + Nt.ordS M M.length) 0)) xj xj rfl rfl xq yv (made_ints _) (fun aa cj bM cf b2 g33 => ?_))))))))
 have bh : MutL 1 3 u.heap.size cj (⟨some ⟨aa, 0, none⟩, Nt.ordS L L.length + Nt.ordS M M.length, Nt.ordS L L.length + Nt.ordS M M.length⟩ : Sl) (ics (List.replicate (Nt.ordS L L.length + Nt.ordS M M.length) 0)) := MutL.lit cf (by rw [zwm, List.length_replicate, Nat.mul_one]) yv b2
 refine zza 57 (.v (.agg #[.int .i64 D.b, .int .i64 D.f, .int .i64 D.r, .int .i64 D.o, .int .i64 W.b, .int .i64 W.f, .int .i64 W.r, .int .i64 W.o, .int .i64 (Nt.ordS L L.length + Nt.ordS M M.length : Nat), .slice none 0 0, .slice (some ⟨aa, 0, none⟩) (Nt.ordS L L.length + Nt.ordS M M.length) (Nt.ordS L L.length + Nt.ordS M M.length), .int .i64 0])) (zza 58 (.adr 14 0) (zzj ⟨170, [.int .i64 D.b, .int .i64 D.f, .int .i64 D.r, .int .i64 D.o, .int .i64 W.b, .int .i64 W.f, .int .i64 W.r, .int .i64 W.o, .int .i64 (Nt.ordS L L.length + Nt.ordS M M.length : Nat), .slice none 0 0, .slice (some ⟨aa, 0, none⟩) (Nt.ordS L L.length + Nt.ordS M M.length) (Nt.ordS L L.length + Nt.ordS M M.length), .int .i64 0, .int .i64 (Nt.p2i W.f), .int .i64 1]⟩ ty72 ?_))
 refine zzb (sq9 (zzk 15 ⟨166, [.int .i64 0, .int .i64 0]⟩ (zzb (zzd (zzd (sw_pubA (r := 14) (t := 14) [14, 58] xk xj zk zk xj (fun b35 bu a6 bg cc bt => ?_)))))))
 have ae : MayB ⟨w, none, []⟩ u b35 := .inl bg
 have bl : MutM 1 3 (MayB ⟨w, none, []⟩ u) bu _ _ := ((bh.ext a6)).toM
 have hX41 := NodesM.nil (MayB ⟨w, none, []⟩ u) bu
 have hz41 := (aj.t (ak.t (al.t (aA.t (ay.t (aB.t (ap.t (a0.t (a1.t (aP.trans (bM.trans a6))))))))))).size
 have a4 : bu.heap[b35]? = some (.cells (⟨⟨D.b, D.f, D.r, D.o⟩, ⟨W.b, W.f, W.r, W.o⟩, wvN L M, (⟨none, 0, 0⟩ : Sl), (⟨some ⟨aa, 0, none⟩, Nt.ordS L L.length + Nt.ordS M M.length, Nt.ordS L L.length + Nt.ordS M M.length⟩ : Sl), 0, Nt.p2i W.f, 1⟩ : BL).cs.toArray 170 (0, 0)) := bt
 refine zzf (zza 59 (zI 0) (zzb (zzt (sw_rounds 2 ?_))))
 refine sq9 (zza 60 (zB true) (zzb (zzd (zyr xj (zzs (zzp ?_))))))
 refine zzd (zzt (sq9 (zza 61 (zI 0) (zza 16 (zI 0) (zzb (sq9 (zza 17 (zI 0) (zzb (zzd (sq9 (zzi 62 (.v (.agg #[x.v, y.v])) ty93 zze ?_)))))))))))
 refine zza 63 (zI 0) (zzg 64 126 _ fun _ _ aT ci => Post.mono (k_branch0 (x := x) (y := y) ci) ?_)
 rintro _ u43 aR rfl
 refine zza 65 (zI x.n) (zza 66 (zI 0) (zzb (zzt ?_)))
 have hB46 := (aT.t aR.ext).cells a4
 have hX46 := hX41.ext (aT.t aR.ext)
 have hY46 := bl.ext (aT.t aR.ext)
 have hz46 := Nat.le_trans hz41 (aT.t aR.ext).size
 refine zyn (I := fun bE S' u' => ∃ (i : Nat) (X : Sl), (bE = L.length - i) ∧ (i ≤ L.length) ∧ (S' = St.of 96 [(3, zB c), (4, .adr 4 0), (8, .adr 8 0), (14, .v (.pointer (some ⟨b35, 0, none⟩))), (15, .adr 15 0), (16, zI 0), (17, zI ((wsA W L M i).u)), (59, zI 0), (64, .v (x.v)), (65, zI x.n), (66, zI i)] [(4, ⟨93, [x.v, y.v]⟩), (8, ⟨72, [.int .i64 0, .int .i64 0, .int .i64 0, .int .i64 0, .int .i64 0, .int .i64 0, .int .i64 0, .int .i64 0, .int .i64 0, .slice none 0 0, .slice none 0 0, .int .i64 0]⟩), (15, ⟨166, [.int .i64 0, .int .i64 0]⟩)]) ∧ (Ext u u') ∧ (BlkAt u' b35 (⟨⟨D.b, D.f, D.r, D.o⟩, ⟨W.b, W.f, W.r, W.o⟩, wvN L M, X, (⟨some ⟨aa, 0, none⟩, Nt.ordS L L.length + Nt.ordS M M.length, Nt.ordS L L.length + Nt.ordS M M.length⟩ : Sl), 0, Nt.p2i W.f, (wsA W L M i).f⟩ : BL).cs 170) ∧ (NodesM (MayB ⟨w, none, []⟩ u) u' X (wsA W L M i).N) ∧ (MutM 1 3 (MayB ⟨w, none, []⟩ u) u' (⟨some ⟨aa, 0, none⟩, Nt.ordS L L.length + Nt.ordS M M.length, Nt.ordS L L.length + Nt.ordS M M.length⟩ : Sl) (ics (wsA W L M i).s))) (fun m S u1 u2 e h => by obtain ⟨i, X, hm, p0, hS, hE, f0, f1, f2⟩ := h; exact ⟨i, X, hm, p0, hS, hE.trans e, f0.ext e, f1.ext e, f2.ext e⟩) _ yz ⟨0, (⟨none, 0, 0⟩ : Sl), rfl, Nat.zero_le _, rfl, (aj.t (ak.t (al.t (aA.t (ay.t (aB.t (ap.t (a0.t (a1.t (aP.t (bM.t (a6.t (aT.t aR.ext))))))))))))), hB46, hX46, hY46⟩ ?_
 rintro bE _ bG ⟨i, X, cm, hi, rfl, aL, hBi, hXi, hYi⟩
 have hzi := aL.size
 have hfi : (wsA W L M i).f = 1 + Nt.ordS L i := Nt.ws_f i
 have hsi : (wsA W L M i).s.length = wvN L M := (Nt.ws_s i).trans zj
 have hNi : (wsA W L M i).N.length ≤ 6 * i := Nat.le_trans (Nt.ws_N i) zj
 refine sq9 (zza 67 (zB (decide ((i : Int) < (x.n : Int)))) (zzb (zzd (zzu (b := decide ((i : Int) < (x.n : Int))) xj (fun ao => ?_) (fun ao => ?_)))))
 ·have qhb48 := of_decide_eq_true ao
  refine zzs (zzp ?_)
  refine zzd (zzt (sq9 ?_))
  have hl49 := ((hx.ext aL)).len
  obtain ⟨p49, b49, bI, bv, a5, aw⟩ := pas_at ((hx.ext aL)) (i := i) xq
  refine zya 68 (bI + i * 3) (n := x.n) (off := bI) (sz := 3) (i := (i : Int)) xq bv xq xq sl91 (zym 69 p49.cs a5 ty168 (zzk 19 ⟨168, [.int .i64 0, .int .i64 0, .int .i64 0]⟩ (zzj ⟨168, [.int .i64 p49.o, .int .i64 p49.g, .int .i64 p49.h]⟩ ty168 ?_)))
  refine zzc 96 [(3, zB c), (4, .adr 4 0), (8, .adr 8 0), (14, .v (.pointer (some ⟨b35, 0, none⟩))), (15, .adr 15 0), (16, zI 0), (17, zI ((wsA W L M i).u)), (19, .adr 19 0), (59, zI 0), (64, .v (x.v)), (65, zI x.n), (66, zI i)] [(4, ⟨93, [x.v, y.v]⟩), (8, ⟨72, [.int .i64 0, .int .i64 0, .int .i64 0, .int .i64 0, .int .i64 0, .int .i64 0, .int .i64 0, .int .i64 0, .int .i64 0, .slice none 0 0, .slice none 0 0, .int .i64 0]⟩), (15, ⟨166, [.int .i64 0, .int .i64 0]⟩), (19, ⟨168, [.int .i64 p49.o, .int .i64 p49.g, .int .i64 p49.h]⟩)] ?_
  have aE : PasOK W.f p49 := by rw [aw]; exact hpx _ (by rw [List.getD_eq_getElem?_getD, List.getElem?_eq_getElem xq]; exact List.getElem_mem _)
  have bo : Nt.ordS L (i + 1) = Nt.ordS L i + Nt.ordN p49 := by rw [aw]; rfl
  have ho4 := Nt.ordS_mono L (show i + 1 ≤ L.length by omega)
  refine zzf (zzi 70 (.v (.agg #[.int .i64 p49.o, .int .i64 p49.g, .int .i64 p49.h])) ty168 zze (zza 71 (zI ((wsA W L M i).u)) ?_))
  have af : BldR 170 (MayB ⟨w, none, []⟩ u) bG b35 (⟨⟨D.b, D.f, D.r, D.o⟩, ⟨W.b, W.f, W.r, W.o⟩, wvN L M, X, (⟨some ⟨aa, 0, none⟩, Nt.ordS L L.length + Nt.ordS M M.length, Nt.ordS L L.length + Nt.ordS M M.length⟩ : Sl), 0, Nt.p2i W.f, (wsA W L M i).f⟩ : BL) (wsA W L M i).N (wsA W L M i).s := ⟨hBi, ae, hXi, hYi⟩
  have hl50 := NodesM.len hXi
  refine zwo (blks b35 (⟨⟨D.b, D.f, D.r, D.o⟩, ⟨W.b, W.f, W.r, W.o⟩, wvN L M, X, (⟨some ⟨aa, 0, none⟩, Nt.ordS L L.length + Nt.ordS M M.length, Nt.ordS L L.length + Nt.ordS M M.length⟩ : Sl), 0, Nt.p2i W.f, (wsA W L M i).f⟩ : BL)) 72 127 [.pointer (some ⟨b35, 0, none⟩), .agg #[.int .i64 p49.o, .int .i64 p49.g, .int .i64 p49.h], .int .i64 ((wsA W L M i).u)] (BldR.may af) (fun w50 u50 bP b3 => k_psection (f := W.f) (p := p49) aE xq rfl (lo := bG.heap.size) b3 (af.own.ext bP) bP.size (by show 1 ≤ (wsA W L M i).f; omega) (by show (wsA W L M i).f + _ ≤ _; omega) xq (by show wvN L M ≤ 100; omega) xq) (fun v50 b4 aV bw => ?_)
  obtain ⟨rfl, ca, bx⟩ := bw
  obtain ⟨bp, bT, aY, a2⟩ := bx.back (fun b hb => (BldR.may af b hb).1) hzi
  have hz50 := Nat.le_trans hzi aV.size
  have hl50b := NodesM.len aY
  have eT50 := aV.root af aL
  refine zza 17 (zI ((Nt.secO p49 (wvN L M + ((wsA W L M i).N).length + 1) : Nat) : Int)) (zzx ?_)
  refine zzp (zzf (zyq 73 (x := zI (IntKind.i64.wrap ((i : Int) + 1))) (zI (i + 1 : Nat)) (eqI yq) (zza 66 (zI (i + 1 : Nat)) (zzx ?_))))
  subst aw
  refine ⟨_, ?_, _, by exact zzv _ _ _, i + 1, ca, rfl, by omega, rfl, eT50, bp, aY, a2⟩
  omega
 have qhb48 := of_decide_eq_false ao
 refine zyc (zzp ?_)
 obtain rfl : i = L.length := by omega
 refine zzf (zza 74 (zI 0) (zza 75 (zI ((wsA W L M L.length).u)) (zza 76 (.adr 15 0) (zzj ⟨166, [.int .i64 ((wsA W L M L.length).u), .int .i64 0]⟩ ty3 ?_))))
 refine zzx ?_
 refine zzp (zzf (zza 77 (zI 1) (zza 59 (zI 1) (zzx ?_))))
 refine rn_next ?_
 refine sw_weak (T := St.of 96 [(3, zB c), (4, .adr 4 0), (8, .adr 8 0), (14, .v (.pointer (some ⟨b35, 0, none⟩))), (15, .adr 15 0), (59, zI 1)] [(4, ⟨93, [x.v, y.v]⟩), (8, ⟨72, [.int .i64 0, .int .i64 0, .int .i64 0, .int .i64 0, .int .i64 0, .int .i64 0, .int .i64 0, .int .i64 0, .int .i64 0, .slice none 0 0, .slice none 0 0, .int .i64 0]⟩), (15, ⟨166, [.int .i64 ((wsA W L M L.length).u), .int .i64 0]⟩)]) yz ?_
 refine sq9 (zza 60 (zB true) (zzb (zzd (zyr xj (zzs (zzp ?_))))))
 refine zzd (zzt (sq9 (zza 61 (zI 1) (zza 16 (zI 1) (zzc 96 [(3, zB c), (4, .adr 4 0), (8, .adr 8 0), (14, .v (.pointer (some ⟨b35, 0, none⟩))), (15, .adr 15 0), (16, zI 1), (59, zI 1)] [(4, ⟨93, [x.v, y.v]⟩), (8, ⟨72, [.int .i64 0, .int .i64 0, .int .i64 0, .int .i64 0, .int .i64 0, .int .i64 0, .int .i64 0, .int .i64 0, .int .i64 0, .slice none 0 0, .slice none 0 0, .int .i64 0]⟩), (15, ⟨166, [.int .i64 ((wsA W L M L.length).u), .int .i64 0]⟩)] (sq9 (zza 17 (zI 0) (zzb (zzd (sq9 (zzi 62 (.v (.agg #[x.v, y.v])) ty93 zze ?_)))))))))))
 refine zza 63 (zI 1) (zzg 64 126 _ fun _ _ aM b7 => Post.mono (k_branch1 (x := x) (y := y) b7) ?_)
 rintro _ u52 aF rfl
 refine zza 65 (zI y.n) (zza 66 (zI 0) (zzb (zzt ?_)))
 have hB55 := (aM.t aF.ext).cells hBi
 have hX55 := hXi.ext (aM.t aF.ext)
 have hY55 := hYi.ext (aM.t aF.ext)
 have hz55 := Nat.le_trans hzi (aM.t aF.ext).size
 refine zyn (I := fun bK S' u' => ∃ (i : Nat) (X : Sl), (bK = M.length - i) ∧ (i ≤ M.length) ∧ (S' = St.of 96 [(3, zB c), (4, .adr 4 0), (8, .adr 8 0), (14, .v (.pointer (some ⟨b35, 0, none⟩))), (15, .adr 15 0), (16, zI 1), (17, zI ((wsM W L M i).u)), (59, zI 1), (64, .v (y.v)), (65, zI y.n), (66, zI i)] [(4, ⟨93, [x.v, y.v]⟩), (8, ⟨72, [.int .i64 0, .int .i64 0, .int .i64 0, .int .i64 0, .int .i64 0, .int .i64 0, .int .i64 0, .int .i64 0, .int .i64 0, .slice none 0 0, .slice none 0 0, .int .i64 0]⟩), (15, ⟨166, [.int .i64 ((wsA W L M L.length).u), .int .i64 0]⟩)]) ∧ (Ext u u') ∧ (BlkAt u' b35 (⟨⟨D.b, D.f, D.r, D.o⟩, ⟨W.b, W.f, W.r, W.o⟩, wvN L M, X, (⟨some ⟨aa, 0, none⟩, Nt.ordS L L.length + Nt.ordS M M.length, Nt.ordS L L.length + Nt.ordS M M.length⟩ : Sl), 0, Nt.p2i W.f, (wsM W L M i).f⟩ : BL).cs 170) ∧ (NodesM (MayB ⟨w, none, []⟩ u) u' X (wsM W L M i).N) ∧ (MutM 1 3 (MayB ⟨w, none, []⟩ u) u' (⟨some ⟨aa, 0, none⟩, Nt.ordS L L.length + Nt.ordS M M.length, Nt.ordS L L.length + Nt.ordS M M.length⟩ : Sl) (ics (wsM W L M i).s))) (fun m S u1 u2 e h => by obtain ⟨i, X, hm, p0, hS, hE, f0, f1, f2⟩ := h; exact ⟨i, X, hm, p0, hS, hE.trans e, f0.ext e, f1.ext e, f2.ext e⟩) _ yz ⟨0, X, rfl, Nat.zero_le _, rfl, (aL.t (aM.t aF.ext)), hB55, hX55, hY55⟩ ?_
 rintro bK _ aC ⟨i, X, ck, hi, rfl, ax, hBi, hXi, hYi⟩
 have hzi := ax.size
 have hfi : (wsM W L M i).f = (wvT (Nt.p2i W.f) L M).f + Nt.ordS M i := Nt.ws_f i
 have hsi : (wsM W L M i).s.length = (wvT (Nt.p2i W.f) L M).s.length := Nt.ws_s i
 have hNi : (wsM W L M i).N.length ≤ (wvT (Nt.p2i W.f) L M).N.length + 6 * i := Nt.ws_N i
 refine sq9 (zza 67 (zB (decide ((i : Int) < (y.n : Int)))) (zzb (zzd (zzu (b := decide ((i : Int) < (y.n : Int))) xj (fun au => ?_) (fun au => ?_)))))
 ·have qhb57 := of_decide_eq_true au
  refine zzs (zzp ?_)
  refine zzd (zzt (sq9 ?_))
  have hl58 := ((hy.ext ax)).len
  obtain ⟨p58, b58, bF, bf, bz, ar⟩ := pas_at ((hy.ext ax)) (i := i) xq
  refine zya 68 (bF + i * 3) (n := y.n) (off := bF) (sz := 3) (i := (i : Int)) xq bf xq xq sl91 (zym 69 p58.cs bz ty168 (zzk 19 ⟨168, [.int .i64 0, .int .i64 0, .int .i64 0]⟩ (zzj ⟨168, [.int .i64 p58.o, .int .i64 p58.g, .int .i64 p58.h]⟩ ty168 ?_)))
  refine zzb ?_
  have aX : PasOK W.f p58 := by rw [ar]; exact hpy _ (by rw [List.getD_eq_getElem?_getD, List.getElem?_eq_getElem xq]; exact List.getElem_mem _)
  have bo : Nt.ordS M (i + 1) = Nt.ordS M i + Nt.ordN p58 := by rw [ar]; rfl
  have ho4 := Nt.ordS_mono M (show i + 1 ≤ M.length by omega)
  refine zzf (zzi 70 (.v (.agg #[.int .i64 p58.o, .int .i64 p58.g, .int .i64 p58.h])) ty168 zze (zza 71 (zI ((wsM W L M i).u)) ?_))
  have ah : BldR 170 (MayB ⟨w, none, []⟩ u) aC b35 (⟨⟨D.b, D.f, D.r, D.o⟩, ⟨W.b, W.f, W.r, W.o⟩, wvN L M, X, (⟨some ⟨aa, 0, none⟩, Nt.ordS L L.length + Nt.ordS M M.length, Nt.ordS L L.length + Nt.ordS M M.length⟩ : Sl), 0, Nt.p2i W.f, (wsM W L M i).f⟩ : BL) (wsM W L M i).N (wsM W L M i).s := ⟨hBi, ae, hXi, hYi⟩
  have hl59 := NodesM.len hXi
  refine zwo (blks b35 (⟨⟨D.b, D.f, D.r, D.o⟩, ⟨W.b, W.f, W.r, W.o⟩, wvN L M, X, (⟨some ⟨aa, 0, none⟩, Nt.ordS L L.length + Nt.ordS M M.length, Nt.ordS L L.length + Nt.ordS M M.length⟩ : Sl), 0, Nt.p2i W.f, (wsM W L M i).f⟩ : BL)) 72 127 [.pointer (some ⟨b35, 0, none⟩), .agg #[.int .i64 p58.o, .int .i64 p58.g, .int .i64 p58.h], .int .i64 ((wsM W L M i).u)] (BldR.may ah) (fun w59 u59 bO b5 => k_psection (f := W.f) (p := p58) aX xq rfl (lo := aC.heap.size) b5 (ah.own.ext bO) bO.size (by show 1 ≤ (wsM W L M i).f; omega) (by show (wsM W L M i).f + _ ≤ _; omega) xq (by show wvN L M ≤ 100; omega) xq) (fun v59 cn aG a7 => ?_)
  obtain ⟨rfl, ce, ba⟩ := a7
  obtain ⟨be, bS, aK, bq⟩ := ba.back (fun b hb => (BldR.may ah b hb).1) hzi
  have hz59 := Nat.le_trans hzi aG.size
  have hl59b := NodesM.len aK
  have eT59 := aG.root ah ax
  refine zza 17 (zI ((Nt.secO p58 (wvN L M + ((wsM W L M i).N).length + 1) : Nat) : Int)) (zzx ?_)
  refine zzp (zzf (zyq 73 (x := zI (IntKind.i64.wrap ((i : Int) + 1))) (zI (i + 1 : Nat)) (eqI yq) (zza 66 (zI (i + 1 : Nat)) (zzx ?_))))
  subst ar
  refine ⟨_, ?_, _, by exact zzv _ _ _, i + 1, ce, rfl, by omega, rfl, eT59, be, aK, bq⟩
  omega
 have qhb57 := of_decide_eq_false au
 refine zyc (zzp ?_)
 obtain rfl : i = M.length := by omega
 refine zzf (zza 74 (zI 1) (zza 75 (zI ((wsM W L M M.length).u)) (zza 76 (.adr 15 1) (zzj ⟨166, [.int .i64 ((wsA W L M L.length).u), .int .i64 ((wsM W L M M.length).u)]⟩ ty3 ?_))))
 refine zzx ?_
 refine zzp (zzf (zza 77 (zI 2) (zza 59 (zI 2) (zzx ?_))))
 refine rn_next ?_
 refine sw_weak (T := St.of 96 [(3, zB c), (4, .adr 4 0), (8, .adr 8 0), (14, .v (.pointer (some ⟨b35, 0, none⟩))), (15, .adr 15 0), (59, zI 2)] [(4, ⟨93, [x.v, y.v]⟩), (8, ⟨72, [.int .i64 0, .int .i64 0, .int .i64 0, .int .i64 0, .int .i64 0, .int .i64 0, .int .i64 0, .int .i64 0, .int .i64 0, .slice none 0 0, .slice none 0 0, .int .i64 0]⟩), (15, ⟨166, [.int .i64 ((wsA W L M L.length).u), .int .i64 ((wsM W L M M.length).u)]⟩)]) yz ?_
 refine sq9 (zza 60 (zB false) (zzb (zzd (zys xj (zyc (zzp (sq9 (zza 78 (.v (.pointer (some ⟨b35, 12, none⟩))) (zyl 79 (.int .i64 (Nt.p2i W.f)) (zxc (j := 12) hBi rfl) ty3 ?_)))))))))
 obtain ⟨z2, bc, bV, bU⟩ := half_b (z := Nt.p2i W.f) xq xq
 refine zyq 80 (x := zI (IntKind.i64.wrap (Int.tdiv (Nt.p2i W.f) 2))) (zI z2) (by rw [bc, IntWalk.i64_in _ xq]) (zza 20 (zI z2) (zzb (sq9 (zza 81 (zI z2) (zza 21 (zI z2) (zzb (zzd (sq9 (zza 82 (zB c) (zzb (zzu (b := c) xj (fun ab => ?_) (fun ab => ?_))))))))))))
 ·replace ab : c = true := ab
  refine zzf (zza 83 (zI z2) (zyq 84 (x := zI (IntKind.i64.wrap (0 - z2))) (zI (-z2)) (eqI yq) (zza 21 (zI (-z2)) (zzb (sq9 (zza 85 (.adr 15 0) (zzi 86 (zI ((wsA W L M L.length).u)) ty3 zzl (zza 87 (zI z2) (zza 88 (.adr 15 1) (zzi 89 (zI ((wsM W L M M.length).u)) ty3 zzl (zza 90 (zI (-z2)) ?_)))))))))))
  have ag : BldR 170 (MayB ⟨w, none, []⟩ u) aC b35 (⟨⟨D.b, D.f, D.r, D.o⟩, ⟨W.b, W.f, W.r, W.o⟩, wvN L M, X, (⟨some ⟨aa, 0, none⟩, Nt.ordS L L.length + Nt.ordS M M.length, Nt.ordS L L.length + Nt.ordS M M.length⟩ : Sl), 0, Nt.p2i W.f, (wsM W L M M.length).f⟩ : BL) (wsM W L M M.length).N (wsM W L M M.length).s := ⟨hBi, ae, hXi, hYi⟩
  have hl61 := NodesM.len hXi
  refine zwo (blks b35 (⟨⟨D.b, D.f, D.r, D.o⟩, ⟨W.b, W.f, W.r, W.o⟩, wvN L M, X, (⟨some ⟨aa, 0, none⟩, Nt.ordS L L.length + Nt.ordS M M.length, Nt.ordS L L.length + Nt.ordS M M.length⟩ : Sl), 0, Nt.p2i W.f, (wsM W L M M.length).f⟩ : BL)) 91 128 [.pointer (some ⟨b35, 0, none⟩), .int .i64 ((wsA W L M L.length).u), .int .i64 z2, .int .i64 ((wsM W L M M.length).u), .int .i64 (-z2)] (BldR.may ag) (fun w61 u61 bJ cd => k_pnode (lo := aC.heap.size) cd (ag.own.ext bJ) bJ.size (by show wvN L M ≤ 100; omega) xq) (fun v61 b9 aZ bj => ?_)
  obtain ⟨rfl, az, bk⟩ := bj
  obtain ⟨an, aW, aO, bA⟩ := bk.back (fun b hb => (BldR.may ag b hb).1) hzi
  have hz61 := Nat.le_trans hzi aZ.size
  have hl61b := NodesM.len aO
  have eT61 := aZ.root ag ax
  refine zza 92 (.v (.pointer (some ⟨b35, 0, none⟩))) (zza 93 (.v (.pointer (some ⟨b35, 11, none⟩))) (sy_storeD (b := b35) (off := 11) an aW ty3 (show 11 + 1 ≤ 14 by decide) (fun u62 a3 ad => ?_)))
  have bb : u62.heap[b35]? = some (.cells (⟨⟨D.b, D.f, D.r, D.o⟩, ⟨W.b, W.f, W.r, W.o⟩, wvN L M, az, (⟨some ⟨aa, 0, none⟩, Nt.ordS L L.length + Nt.ordS M M.length, Nt.ordS L L.length + Nt.ordS M M.length⟩ : Sl), ((wvN L M + ((wsM W L M M.length).N).length + 1 : Nat) : Int), Nt.p2i W.f, (wsM W L M M.length).f⟩ : BL).cs.toArray 170 (0, 0)) := a3
  have hX62 := aO.extB ad an yj yj
  have hY62 := bA.extB ad an yj
  have hz62 := Nat.le_trans hz61 ad.size
  have bW : Ext u u62 := (ExtB.toF ad).old eT61 (fun b hb ob ho => by have h9 := zxa ho; rw [List.mem_singleton] at hb; subst hb; rcases aW with h8 | h8; omega; cases h8)
  refine zzb (sq9 (zza 94 (.v (.pointer (some ⟨b35, 0, none⟩))) (zym 95 [.int .i64 D.b, .int .i64 D.f, .int .i64 D.r, .int .i64 D.o, .int .i64 W.b, .int .i64 W.f, .int .i64 W.r, .int .i64 W.o, .int .i64 (wvN L M : Nat), az.v, .slice (some ⟨aa, 0, none⟩) (Nt.ordS L L.length + Nt.ordS M M.length) (Nt.ordS L L.length + Nt.ordS M M.length), .int .i64 ((wvN L M + ((wsM W L M M.length).N).length + 1 : Nat) : Int)] (blk_cells bb (off := 0) rfl) ty72 (zzj ⟨72, [.int .i64 D.b, .int .i64 D.f, .int .i64 D.r, .int .i64 D.o, .int .i64 W.b, .int .i64 W.f, .int .i64 W.r, .int .i64 W.o, .int .i64 (wvN L M : Nat), az.v, .slice (some ⟨aa, 0, none⟩) (Nt.ordS L L.length + Nt.ordS M M.length) (Nt.ordS L L.length + Nt.ordS M M.length), .int .i64 ((wvN L M + ((wsM W L M M.length).N).length + 1 : Nat) : Int)]⟩ ty72 ?_))))
  refine zza 9 (zI 0) (zzc 96 [(8, .adr 8 0), (9, zI 0)] [(8, ⟨72, [.int .i64 D.b, .int .i64 D.f, .int .i64 D.r, .int .i64 D.o, .int .i64 W.b, .int .i64 W.f, .int .i64 W.r, .int .i64 W.o, .int .i64 (wvN L M : Nat), az.v, .slice (some ⟨aa, 0, none⟩) (Nt.ordS L L.length + Nt.ordS M M.length) (Nt.ordS L L.length + Nt.ordS M M.length), .int .i64 ((wvN L M + ((wsM W L M M.length).N).length + 1 : Nat) : Int)]⟩)] (zzo (ret0 [.agg #[.int .i64 D.b, .int .i64 D.f, .int .i64 D.r, .int .i64 D.o, .int .i64 W.b, .int .i64 W.f, .int .i64 W.r, .int .i64 W.o, .int .i64 (wvN L M : Nat), az.v, .slice (some ⟨aa, 0, none⟩) (Nt.ordS L L.length + Nt.ordS M M.length) (Nt.ordS L L.length + Nt.ordS M M.length), .int .i64 ((wvN L M + ((wsM W L M M.length).N).length + 1 : Nat) : Int)], .int .i64 0] ⟨zzr ty72 zze, zzq, trivial⟩ fun u63 bC => ?_)))
  refine ⟨az, (⟨some ⟨aa, 0, none⟩, Nt.ordS L L.length + Nt.ordS M M.length, Nt.ordS L L.length + Nt.ordS M M.length⟩ : Sl), ?_, ⟨_, NodesM.toB (mb := MayB ⟨w, none, []⟩ u) ?_⟩, ?_⟩
  ·rfl
  ·unfold wvO
   rw [ab, bc]
   exact hX62.ext bC
  exact (hY62.ext bC).toL
 replace ab : c = false := ab
 refine zzs (zzp ?_)
 refine sq9 (zza 85 (.adr 15 0) (zzi 86 (zI ((wsA W L M L.length).u)) ty3 zzl (zza 87 (zI z2) (zza 88 (.adr 15 1) (zzi 89 (zI ((wsM W L M M.length).u)) ty3 zzl (zza 90 (zI z2) ?_))))))
 have ai : BldR 170 (MayB ⟨w, none, []⟩ u) aC b35 (⟨⟨D.b, D.f, D.r, D.o⟩, ⟨W.b, W.f, W.r, W.o⟩, wvN L M, X, (⟨some ⟨aa, 0, none⟩, Nt.ordS L L.length + Nt.ordS M M.length, Nt.ordS L L.length + Nt.ordS M M.length⟩ : Sl), 0, Nt.p2i W.f, (wsM W L M M.length).f⟩ : BL) (wsM W L M M.length).N (wsM W L M M.length).s := ⟨hBi, ae, hXi, hYi⟩
 have hl65 := NodesM.len hXi
 refine zwo (blks b35 (⟨⟨D.b, D.f, D.r, D.o⟩, ⟨W.b, W.f, W.r, W.o⟩, wvN L M, X, (⟨some ⟨aa, 0, none⟩, Nt.ordS L L.length + Nt.ordS M M.length, Nt.ordS L L.length + Nt.ordS M M.length⟩ : Sl), 0, Nt.p2i W.f, (wsM W L M M.length).f⟩ : BL)) 91 128 [.pointer (some ⟨b35, 0, none⟩), .int .i64 ((wsA W L M L.length).u), .int .i64 z2, .int .i64 ((wsM W L M M.length).u), .int .i64 z2] (BldR.may ai) (fun w65 u65 bH b6 => k_pnode (lo := aC.heap.size) b6 (ai.own.ext bH) bH.size (by show wvN L M ≤ 100; omega) xq) (fun v65 cg aD a9 => ?_)
 obtain ⟨rfl, aU, br⟩ := a9
 obtain ⟨av, aS, aJ, bm⟩ := br.back (fun b hb => (BldR.may ai b hb).1) hzi
 have hz65 := Nat.le_trans hzi aD.size
 have hl65b := NodesM.len aJ
 have eT65 := aD.root ai ax
 refine zza 92 (.v (.pointer (some ⟨b35, 0, none⟩))) (zza 93 (.v (.pointer (some ⟨b35, 11, none⟩))) (sy_storeD (b := b35) (off := 11) av aS ty3 (show 11 + 1 ≤ 14 by decide) (fun u66 bs ac => ?_)))
 have bB : u66.heap[b35]? = some (.cells (⟨⟨D.b, D.f, D.r, D.o⟩, ⟨W.b, W.f, W.r, W.o⟩, wvN L M, aU, (⟨some ⟨aa, 0, none⟩, Nt.ordS L L.length + Nt.ordS M M.length, Nt.ordS L L.length + Nt.ordS M M.length⟩ : Sl), ((wvN L M + ((wsM W L M M.length).N).length + 1 : Nat) : Int), Nt.p2i W.f, (wsM W L M M.length).f⟩ : BL).cs.toArray 170 (0, 0)) := bs
 have hX66 := aJ.extB ac av yj yj
 have hY66 := bm.extB ac av yj
 have hz66 := Nat.le_trans hz65 ac.size
 have b8 : Ext u u66 := (ExtB.toF ac).old eT65 (fun b hb ob ho => by have h9 := zxa ho; rw [List.mem_singleton] at hb; subst hb; rcases aS with h8 | h8; omega; cases h8)
 refine zzb (sq9 (zza 94 (.v (.pointer (some ⟨b35, 0, none⟩))) (zym 95 [.int .i64 D.b, .int .i64 D.f, .int .i64 D.r, .int .i64 D.o, .int .i64 W.b, .int .i64 W.f, .int .i64 W.r, .int .i64 W.o, .int .i64 (wvN L M : Nat), aU.v, .slice (some ⟨aa, 0, none⟩) (Nt.ordS L L.length + Nt.ordS M M.length) (Nt.ordS L L.length + Nt.ordS M M.length), .int .i64 ((wvN L M + ((wsM W L M M.length).N).length + 1 : Nat) : Int)] (blk_cells bB (off := 0) rfl) ty72 (zzj ⟨72, [.int .i64 D.b, .int .i64 D.f, .int .i64 D.r, .int .i64 D.o, .int .i64 W.b, .int .i64 W.f, .int .i64 W.r, .int .i64 W.o, .int .i64 (wvN L M : Nat), aU.v, .slice (some ⟨aa, 0, none⟩) (Nt.ordS L L.length + Nt.ordS M M.length) (Nt.ordS L L.length + Nt.ordS M M.length), .int .i64 ((wvN L M + ((wsM W L M M.length).N).length + 1 : Nat) : Int)]⟩ ty72 ?_))))
 refine zza 9 (zI 0) (zzb (zzo (ret0 [.agg #[.int .i64 D.b, .int .i64 D.f, .int .i64 D.r, .int .i64 D.o, .int .i64 W.b, .int .i64 W.f, .int .i64 W.r, .int .i64 W.o, .int .i64 (wvN L M : Nat), aU.v, .slice (some ⟨aa, 0, none⟩) (Nt.ordS L L.length + Nt.ordS M M.length) (Nt.ordS L L.length + Nt.ordS M M.length), .int .i64 ((wvN L M + ((wsM W L M M.length).N).length + 1 : Nat) : Int)], .int .i64 0] ⟨zzr ty72 zze, zzq, trivial⟩ fun u67 bD => ?_)))
 refine ⟨aU, (⟨some ⟨aa, 0, none⟩, Nt.ordS L L.length + Nt.ordS M M.length, Nt.ordS L L.length + Nt.ordS M M.length⟩ : Sl), ?_, ⟨_, NodesM.toB (mb := MayB ⟨w, none, []⟩ u) ?_⟩, ?_⟩
 ·rfl
 ·unfold wvO
  rw [ab, bc]
  exact hX66.ext bD
 exact (hY66.ext bD).toL
theorem Nt.id_len {f : Int} {L M : List PL} (hL : L.length ≤ 4) (hM : M.length ≤ 4) : (Nt.trimQ ((Nt.trimQ (Nt.addQ (Nt.trimQ (Nt.mulQ (Nt.prodB f L L.length) (Nt.prodA f M M.length))) (Nt.trimQ (Nt.mulQ (Nt.prodB f M M.length) (Nt.prodA f L L.length))))).map (· * (((1 : Int) : Rat) / ((2 : Int) : Rat))))).length ≤ 17 ∧ (Nt.trimQ ((Nt.trimQ (Nt.addQ (Nt.trimQ (Nt.mulQ (Nt.prodB f L L.length) (Nt.prodA f M M.length))) ((Nt.trimQ (Nt.mulQ (Nt.prodB f M M.length) (Nt.prodA f L L.length))).map (fun z => -z)))).map (· * (((1 : Int) : Rat) / ((2 : Int) : Rat))))).length ≤ 17 ∧ (Nt.trimQ (Nt.mulQ (Nt.prodA f L L.length) (Nt.prodA f M M.length))).length ≤ 17 := by
 have hb : ∀ {L : List PL}, L.length ≤ 4 → (Nt.prodB f L L.length).length ≤ 9 := fun {L} h => by have h9 := (Nt.zwg f L L.length).1; omega
 have ha : ∀ {L : List PL}, L.length ≤ 4 → (Nt.prodA f L L.length).length ≤ 9 := fun {L} h => by have h9 := (Nt.zwg f L L.length).2; omega
 have h1 := Nt.zxv (hb hL) (ha hM)
 have h2 := Nt.zxv (hb hM) (ha hL)
 exact ⟨Nt.map_lenQ (Nt.add_lenQ h1 h2), Nt.map_lenQ (Nt.add_lenQ h1 (by rw [List.length_map]; exact h2 : (List.map (fun z : Rat => -z) _).length ≤ 9 + 9 - 1)), Nt.zxv (ha hL) (ha hM)⟩
set_option maxHeartbeats 4000000 in
theorem k_known26 {u w : World} (d : Dat u w) : Calls Tryz.prog 51 #[] w (Post u w fun v _ => v = .bool true) := by
 refine zzm (args := []) Tryz.func51 rfl Tryz.ntmps51 (rs := [.tmp 0]) Tryz.results51 (le_b rfl) (le_b rfl) d ?_
 refine sq9 (zza 0 (zB false) (zzb (sq9 (zza 8 (.v (.agg #[.int .i64 8, .int .i64 4, .int .i64 1, .int .i64 1])) (zzk 1 ⟨66, [.int .i64 0, .int .i64 0, .int .i64 0, .int .i64 0]⟩ (zzj ⟨66, [.int .i64 8, .int .i64 4, .int .i64 1, .int .i64 1]⟩ ty66 ?_))))))
 refine zzb (sq9 (zza 10 (.v (.agg #[.int .i64 8, .int .i64 0])) (zza 11 (.v (.agg #[.int .i64 1, .int .i64 8, .int .i64 0])) (zzi 12 (.v (.agg #[.int .i64 8, .int .i64 4, .int .i64 1, .int .i64 1])) ty66 zze (zzg 13 132 _ fun _ _ _ aW => Post.mono (k_wAllPass (p := (⟨1, 8, 0⟩ : PL)) (W := (⟨8, 4, 1, 1⟩ : WL)) aW (show WdOK (⟨8, 4, 1, 1⟩ : WL) by unfold WdOK; decide) yj (show PasOK (⟨8, 4, 1, 1⟩ : WL).f (⟨1, 8, 0⟩ : PL) by unfold PasOK; decide)) ?_)))))
 rintro _ u16 g17 ⟨ag, ae, rfl, aC, aJ⟩
 have hly12 := aC.len
 have hmy12 := Nat.le_trans (Nt.zzh (Nt.secB (⟨8, 4, 1, 1⟩ : WL).f (⟨1, 8, 0⟩ : PL))) (Nt.sec_len (⟨8, 4, 1, 1⟩ : WL).f (⟨1, 8, 0⟩ : PL)).1
 have hly13 := aJ.len
 have hmy13 := Nat.le_trans (Nt.zzh (Nt.secA (⟨8, 4, 1, 1⟩ : WL).f (⟨1, 8, 0⟩ : PL))) (Nt.sec_len (⟨8, 4, 1, 1⟩ : WL).f (⟨1, 8, 0⟩ : PL)).2
 refine zza 9 (.v (.tuple #[.agg #[ag.v, ae.v], .int .i64 0])) (zza 14 (.v (.agg #[ag.v, ae.v])) (zza 15 (zI 0) (zzk 2 ⟨81, [.slice none 0 0, .slice none 0 0]⟩ (zzj ⟨81, [ag.v, ae.v]⟩ ty81 ?_))))
 refine zza 3 (zI 0) (zzb (sq9 (zza 17 (.v (.agg #[.slice none 0 0, .slice none 0 0])) (zzi 18 (.v (.agg #[.int .i64 8, .int .i64 4, .int .i64 1, .int .i64 1])) ty66 zze (zzg 19 50 _ fun _ _ aK aR => Post.mono (k_wIdeal (W := (⟨8, 4, 1, 1⟩ : WL)) aR (pas_nil _) pas_all0 yj (pas_nil _) pas_all0 yj (show WdOK (⟨8, 4, 1, 1⟩ : WL) by unfold WdOK; decide) yj) ?_)))))
 rintro _ u29 aG ⟨ao, aq, ab, ax, rfl, aF, aD, a2, aU⟩
 have hly20 := aF.len
 have hly21 := aD.len
 have hly22 := a2.len
 have hly23 := aU.len
 have hq28 := Nt.id_len (f := (⟨8, 4, 1, 1⟩ : WL).f) (L := []) (M := []) yj yj
 refine zza 16 (.v (.tuple #[.agg #[ao.v, aq.v], .agg #[ab.v, ax.v], .int .i64 0])) (zza 20 (.v (.agg #[ao.v, aq.v])) (zza 21 (.v (.agg #[ab.v, ax.v])) (zza 22 (zI 0) (zzk 4 ⟨81, [.slice none 0 0, .slice none 0 0]⟩ (zzk 5 ⟨81, [.slice none 0 0, .slice none 0 0]⟩ (zzj ⟨81, [ao.v, aq.v]⟩ ty81 ?_))))))
 refine zzj ⟨81, [ab.v, ax.v]⟩ ty81 ?_
 refine zza 6 (zI 0) (zzb (sq9 (zzg 23 23 _ fun _ _ am aZ => Post.mono (k_rqFrac aZ (a := (-1)) (b := 2) xq xq xq xq) ?_)))
 rintro _ u35 ap ⟨aa, rfl, aM⟩
 refine zzk 7 ⟨32, zw3⟩ (zzj ⟨32, aa.cs⟩ ty32 ?_)
 refine zzb (zzd (zzz [0, 1, 3, 7, 15, 31, 63, 127, 255, 127, 127, 1663, 4095, 8191, 16383, 32767, 65535, 32767, 32767, 425983, 1048575, 2097151, 4194303, 8388607, 16777215, 8388607, 41943039, 134217727, 268435455, 536870911, 1073741823, 2147483647, 4294967295, 8589934591, 17179869183, 34359738367] [(0, []), (1, []), (2, []), (3, []), (4, []), (5, []), (6, []), (7, []), (8, []), (9, []), (10, []), (11, []), (12, [35]), (13, []), (14, []), (15, []), (16, []), (18, []), (17, []), (19, []), (20, [43]), (21, []), (22, []), (23, []), (24, []), (25, []), (26, []), (27, []), (28, []), (29, []), (30, []), (31, []), (32, []), (33, []), (34, []), (35, [])] xj xj (zza 24 (zI 0) (zza 25 (zB true) (zza 26 (zB true) (zza 27 (zI 0) ?_ (hw := w1 2 true 26)))))))
 refine zza 28 (zB true) ?_ (hw := w1 2 true 26)
 refine zza 29 (zB true) (zza 30 (zB true) (zza 31 (.adr 2 0) ?_ (hw := w1 6 true 30)))
 refine zzi 32 (.v (ag.v)) ty27 zzl ?_ (hw := w1 6 true 30)
 refine zzi 33 (.v (aa.v)) ty32 zze ?_ (hw := w1 6 true 30)
 refine zzg 34 30 _ (fun _ _ aj aY => Post.mono (k_rqOf aY (z := 1) xq xq) ?_) (hw := w1 6 true 30)
 rintro _ u41 ak ⟨ac, rfl, aT⟩
 refine sy_lit 35 ⟨32, aa.cs ++ ac.cs⟩ 2 ?_ (hw := w1 6 true 30)
 refine zyo 36 37 [.v (ag.v), .slc 35 0 2 2] [35] (.inr rfl) (pub_mk xk) (k := ?_) (hw := w1 6 true 30)
 intro av w44 aL ai aQ aV
 have aB : aL.heap[av 35]? = some (.cells #[.bool aa.s, .slice aa.m.a aa.m.n aa.m.c, .slice aa.d.a aa.d.n aa.d.c, .bool ac.s, .slice ac.m.a ac.m.n ac.m.c, .slice ac.d.a ac.d.n ac.d.c] 32 (0, 0)) := aV 35 zj _ rfl
 obtain ⟨aS, af⟩ : ∃ b, av 35 = b := ⟨_, rfl⟩
 rw [af] at aB
 have ay : PolN aL (⟨some ⟨aS, 0, none⟩, 2, 2⟩ : Sl) [((((-1) : Int) : Rat) / ((2 : Int) : Rat)), ((1 : Int) : Rat)] (max 3 2) := pol_lit (L := [aa, ac]) aB (rats2 (RatN.more (L := (max 3 2)) (aM.ext (aj.t (ak.t ai))) xq) (RatN.more (L := (max 3 2)) (aT.ext ai) xq)) rfl yj
 show Calls _ _ #[.slice ag.a ag.n ag.c, .slice (some ⟨av 35, 0, none⟩) 2 2] _ _
 rw [af]
 have k50 := k_r5Same aQ (aC.ext (aK.t (aG.t (am.t (ap.t (aj.t (ak.t ai))))))).raw ay.raw xq xq (by have h9 := hmy12; omega) (by first | omega | (simp; done) | (simp; omega) | (refine Nat.le_trans (Nt.zzh _) ?_; rw [Nt.addQ_len]; omega) | (refine Nat.le_trans (Nt.zzh _) ?_; have h9 := Nt.sec_len; exact Nat.le_trans (h9 _ _).1 yj) | (refine Nat.le_trans (Nt.zzh _) ?_; have h9 := Nt.sec_len; exact Nat.le_trans (h9 _ _).2 yj))
 with_reducible refine zPm k50 ?_
 rintro _ u48 ar rfl
 refine zza 37 (zB (decide (Nt.trimQ (Nt.trimQ (Nt.secB (⟨8, 4, 1, 1⟩ : WL).f (⟨1, 8, 0⟩ : PL))) = Nt.trimQ [((((-1) : Int) : Rat) / ((2 : Int) : Rat)), ((1 : Int) : Rat)]))) (zyq 38 (x := zB (decide (Nt.trimQ (Nt.trimQ (Nt.secB (⟨8, 4, 1, 1⟩ : WL).f (⟨1, 8, 0⟩ : PL))) = Nt.trimQ [((((-1) : Int) : Rat) / ((2 : Int) : Rat)), ((1 : Int) : Rat)]))) (zB true) (by rw [show (decide (Nt.trimQ (Nt.trimQ (Nt.secB (⟨8, 4, 1, 1⟩ : WL).f (⟨1, 8, 0⟩ : PL))) = Nt.trimQ [((((-1) : Int) : Rat) / ((2 : Int) : Rat)), ((1 : Int) : Rat)])) = true from decide_eq_true (by decide +kernel)]) (zza 39 (.adr 2 1) ?_ (hw := w1 14 true 38)))
 refine zzi 40 (.v (ae.v)) ty27 zzl ?_ (hw := w1 14 true 38)
 refine zzi 42 (.v (aa.v)) ty32 zze ?_ (hw := w1 14 true 38)
 refine zzg 41 30 _ (fun _ _ au aO => Post.mono (k_rqOf aO (z := 1) xq xq) ?_) (hw := w1 14 true 38)
 rintro _ u55 an ⟨ad, rfl, aX⟩
 refine sy_lit 43 ⟨32, ad.cs ++ aa.cs⟩ 2 ?_ (hw := w1 14 true 38)
 refine zyo 44 37 [.v (ae.v), .slc 43 0 2 2] [43] (.inr rfl) (pub_mk xk) (k := ?_) (hw := w1 14 true 38)
 intro az w58 aA al aN a0
 have aE : aA.heap[az 43]? = some (.cells #[.bool ad.s, .slice ad.m.a ad.m.n ad.m.c, .slice ad.d.a ad.d.n ad.d.c, .bool aa.s, .slice aa.m.a aa.m.n aa.m.c, .slice aa.d.a aa.d.n aa.d.c] 32 (0, 0)) := a0 43 zj _ rfl
 obtain ⟨a1, ah⟩ : ∃ b, az 43 = b := ⟨_, rfl⟩
 rw [ah] at aE
 have aw : PolN aA (⟨some ⟨a1, 0, none⟩, 2, 2⟩ : Sl) [((1 : Int) : Rat), ((((-1) : Int) : Rat) / ((2 : Int) : Rat))] (max 2 3) := pol_lit (L := [ad, aa]) aE (rats2 (RatN.more (L := (max 2 3)) (aX.ext al) xq) (RatN.more (L := (max 2 3)) (aM.ext (aj.t (ak.t (ai.t (ar.t (au.t (an.t al))))))) xq)) rfl yj
 show Calls _ _ #[.slice ae.a ae.n ae.c, .slice (some ⟨az 43, 0, none⟩) 2 2] _ _
 rw [ah]
 have k64 := k_r5Same aN (aJ.ext (aK.t (aG.t (am.t (ap.t (aj.t (ak.t (ai.t (ar.t (au.t (an.t al))))))))))).raw aw.raw xq xq (by have h9 := hmy13; omega) (by first | omega | (simp; done) | (simp; omega) | (refine Nat.le_trans (Nt.zzh _) ?_; rw [Nt.addQ_len]; omega) | (refine Nat.le_trans (Nt.zzh _) ?_; have h9 := Nt.sec_len; exact Nat.le_trans (h9 _ _).1 yj) | (refine Nat.le_trans (Nt.zzh _) ?_; have h9 := Nt.sec_len; exact Nat.le_trans (h9 _ _).2 yj))
 with_reducible refine zPm k64 ?_
 rintro _ u62 aI rfl
 refine zza 45 (zB (decide (Nt.trimQ (Nt.trimQ (Nt.secA (⟨8, 4, 1, 1⟩ : WL).f (⟨1, 8, 0⟩ : PL))) = Nt.trimQ [((1 : Int) : Rat), ((((-1) : Int) : Rat) / ((2 : Int) : Rat))]))) (zyq 46 (x := zB (decide (Nt.trimQ (Nt.trimQ (Nt.secA (⟨8, 4, 1, 1⟩ : WL).f (⟨1, 8, 0⟩ : PL))) = Nt.trimQ [((1 : Int) : Rat), ((((-1) : Int) : Rat) / ((2 : Int) : Rat))]))) (zB true) (by rw [show (decide (Nt.trimQ (Nt.trimQ (Nt.secA (⟨8, 4, 1, 1⟩ : WL).f (⟨1, 8, 0⟩ : PL))) = Nt.trimQ [((1 : Int) : Rat), ((((-1) : Int) : Rat) / ((2 : Int) : Rat))])) = true from decide_eq_true (by decide +kernel)]) (zza 47 (.adr 4 0) ?_ (hw := w1 22 true 46)))
 refine zzi 48 (.v (ao.v)) ty27 zzl ?_ (hw := w1 22 true 46)
 refine zza 49 (.adr 4 1) ?_ (hw := w1 22 true 46)
 refine zzi 50 (.v (aq.v)) ty27 zzl ?_ (hw := w1 22 true 46)
 refine zzg 51 37 _ (fun _ _ aH aP => Post.mono (k_r5Same aP (aF.ext (am.t (ap.t (aj.t (ak.t (ai.t (ar.t (au.t (an.t (al.t (aI.t aH))))))))))).raw (aD.ext (am.t (ap.t (aj.t (ak.t (ai.t (ar.t (au.t (an.t (al.t (aI.t aH))))))))))).raw xq xq (by have h9 := hq28.1; omega) (by have h9 := hq28.2.2; omega)) ?_) (hw := w1 22 true 46)
 rintro _ u67 g68 rfl
 refine zza 52 (zB (decide (Nt.trimQ (Nt.trimQ ((Nt.trimQ (Nt.addQ (Nt.trimQ (Nt.mulQ (Nt.prodB (⟨8, 4, 1, 1⟩ : WL).f ([] : List PL) ([] : List PL).length) (Nt.prodA (⟨8, 4, 1, 1⟩ : WL).f ([] : List PL) ([] : List PL).length))) (Nt.trimQ (Nt.mulQ (Nt.prodB (⟨8, 4, 1, 1⟩ : WL).f ([] : List PL) ([] : List PL).length) (Nt.prodA (⟨8, 4, 1, 1⟩ : WL).f ([] : List PL) ([] : List PL).length))))).map (· * (((1 : Int) : Rat) / ((2 : Int) : Rat))))) = Nt.trimQ (Nt.trimQ (Nt.mulQ (Nt.prodA (⟨8, 4, 1, 1⟩ : WL).f ([] : List PL) ([] : List PL).length) (Nt.prodA (⟨8, 4, 1, 1⟩ : WL).f ([] : List PL) ([] : List PL).length)))))) (zyq 53 (x := zB (decide (Nt.trimQ (Nt.trimQ ((Nt.trimQ (Nt.addQ (Nt.trimQ (Nt.mulQ (Nt.prodB (⟨8, 4, 1, 1⟩ : WL).f ([] : List PL) ([] : List PL).length) (Nt.prodA (⟨8, 4, 1, 1⟩ : WL).f ([] : List PL) ([] : List PL).length))) (Nt.trimQ (Nt.mulQ (Nt.prodB (⟨8, 4, 1, 1⟩ : WL).f ([] : List PL) ([] : List PL).length) (Nt.prodA (⟨8, 4, 1, 1⟩ : WL).f ([] : List PL) ([] : List PL).length))))).map (· * (((1 : Int) : Rat) / ((2 : Int) : Rat))))) = Nt.trimQ (Nt.trimQ (Nt.mulQ (Nt.prodA (⟨8, 4, 1, 1⟩ : WL).f ([] : List PL) ([] : List PL).length) (Nt.prodA (⟨8, 4, 1, 1⟩ : WL).f ([] : List PL) ([] : List PL).length)))))) (zB true) (by rw [show (decide (Nt.trimQ (Nt.trimQ ((Nt.trimQ (Nt.addQ (Nt.trimQ (Nt.mulQ (Nt.prodB (⟨8, 4, 1, 1⟩ : WL).f ([] : List PL) ([] : List PL).length) (Nt.prodA (⟨8, 4, 1, 1⟩ : WL).f ([] : List PL) ([] : List PL).length))) (Nt.trimQ (Nt.mulQ (Nt.prodB (⟨8, 4, 1, 1⟩ : WL).f ([] : List PL) ([] : List PL).length) (Nt.prodA (⟨8, 4, 1, 1⟩ : WL).f ([] : List PL) ([] : List PL).length))))).map (· * (((1 : Int) : Rat) / ((2 : Int) : Rat))))) = Nt.trimQ (Nt.trimQ (Nt.mulQ (Nt.prodA (⟨8, 4, 1, 1⟩ : WL).f ([] : List PL) ([] : List PL).length) (Nt.prodA (⟨8, 4, 1, 1⟩ : WL).f ([] : List PL) ([] : List PL).length))))) = true from decide_eq_true (by decide +kernel)]) (zza 54 (.adr 5 0) ?_ (hw := w1 29 true 53)))
 refine zzi 55 (.v (ab.v)) ty27 zzl ?_ (hw := w1 29 true 53)
 refine zza 56 (zI ab.n) ?_ (hw := w1 29 true 53)
 refine zza 57 (zB ((ab.n : Int) == 0)) ?_ (hw := w1 29 true 53)
 refine zza 58 (zB ((ab.n : Int) == 0)) (zza 0 (zB ((ab.n : Int) == 0)) (zzc 59 [(0, zB ((ab.n : Int) == 0))] [] (zzo (ret0 [.bool ((ab.n : Int) == 0)] ⟨zzq, trivial⟩ fun u71 e72 => ?_))))
 show Value.bool _ = Value.bool _
 rw [show ((ab.n : Int) == 0) = true from (by have h9 := hly22; rw [show (Nt.trimQ ((Nt.trimQ (Nt.addQ (Nt.trimQ (Nt.mulQ (Nt.prodB (⟨8, 4, 1, 1⟩ : WL).f ([] : List PL) ([] : List PL).length) (Nt.prodA (⟨8, 4, 1, 1⟩ : WL).f ([] : List PL) ([] : List PL).length))) ((Nt.trimQ (Nt.mulQ (Nt.prodB (⟨8, 4, 1, 1⟩ : WL).f ([] : List PL) ([] : List PL).length) (Nt.prodA (⟨8, 4, 1, 1⟩ : WL).f ([] : List PL) ([] : List PL).length))).map (fun z => -z)))).map (· * (((1 : Int) : Rat) / ((2 : Int) : Rat))))).length = 0 from by decide +kernel] at h9; rw [h9]; rfl)]
set_option maxHeartbeats 4000000 in
theorem w_waveTrfalse {u w : World} {x y : Sl} {l m : List Int} {k1 k2 : Int} (d : Dat u w) (hx : SlR .i64 u x.a x.n x.c l) (hb : ∀ z ∈ l, -9223372036854775808 ≤ z ∧ z ≤ 9223372036854775807) (hy : SlR .i64 u y.a y.n y.c m) (hbm : ∀ z ∈ m, -9223372036854775808 ≤ z ∧ z ≤ 9223372036854775807) (hk1 : -9223372036854775808 ≤ k1) (hk2 : k1 ≤ 9223372036854775807) (hk3 : -9223372036854775808 ≤ k2) (hk4 : k2 ≤ 9223372036854775807) : Calls Tryz.prog 9 #[.agg #[x.v, y.v], .int .i64 k1, .int .i64 k2, .bool false] w (Post u w fun v _ => v = .bool true) := by
 refine zzm (args := [.agg #[x.v, y.v], .int .i64 k1, .int .i64 k2, .bool false]) Tryz.func9 rfl Tryz.ntmps9 (rs := [.tmp 8]) Tryz.results9 (le_b rfl) (le_b rfl) d ?_
 refine sq9 (zzk 4 ⟨90, [x.v, y.v]⟩ (zza 8 (zB false) (zzb (sq9 (zza 20 (zI k2) (zzg 21 38 _ fun _ _ aY a3 => Post.mono (k_coef (k := k2) a3 xq xq) ?_))))))
 rintro _ u14 aV ⟨aa, rfl, al⟩
 have hw17 := al.ok
 have ae : 1 ≤ aa.f := by have h9 := al; unfold CoefOK at h9; omega
 have aX : aa.f ≤ 24 := by have h9 := al; unfold CoefOK at h9; omega
 have hwb : aa.f + 2 ≤ aa.b := by have h9 := al; unfold CoefOK at h9; omega
 refine zzk 9 ⟨66, [.int .i64 0, .int .i64 0, .int .i64 0, .int .i64 0]⟩ (zzj ⟨66, aa.cs⟩ ty66 ?_)
 refine zzb (sq9 (zzi 22 (.v (.agg #[x.v, y.v])) ty90 zze (zzi 23 (.v (aa.v)) ty66 zze (zzg 24 48 _ fun _ _ a1 bb => Post.mono (k_filter (W := aa) bb (hx.ext (aY.t (aV.t a1))) hb (hy.ext (aY.t (aV.t a1))) hbm hw17) ?_))))
 rintro _ u20 g21 ⟨ay, av, ab, M19, rfl, ap, ao, aj, aq, an, af⟩
 have hly19 := ap.len
 have hlz19 := aq.len
 have hWV : WvOK aa ab M19 := ⟨⟨hw17, ae⟩, aj, af, Nt.pas_get ao, Nt.pas_get an⟩
 have hoL := Nt.ordS_le ab ab.length
 have hoM := Nt.ordS_le M19 M19.length
 have hwn : wvN ab M19 ≤ 16 := by unfold wvN; omega
 have hNB := wvB_N (Nt.p2i aa.f) ab M19
 obtain ⟨hBo, a9, bh, hBs⟩ := wvB_ok hw17 hwb ao an
 refine zzk 10 ⟨93, [.slice none 0 0, .slice none 0 0]⟩ (zzj ⟨93, [ay.v, av.v]⟩ ty93 ?_)
 refine zzb (zzd (zzz [0, 0, 2, 0, 0, 31, 63, 127, 127, 0, 767, 2047] [(0, []), (1, []), (3, []), (4, []), (9, []), (2, []), (5, []), (6, []), (7, []), (8, []), (10, []), (11, [])] xj xj (zzi 26 (.v (.agg #[ay.v, av.v])) ty93 zze (zza 27 (zI k1) (zzi 29 (.v (aa.v)) ty66 zze (zza 30 (zB false) (zzk 11 ⟨72, [.int .i64 0, .int .i64 0, .int .i64 0, .int .i64 0, .int .i64 0, .int .i64 0, .int .i64 0, .int .i64 0, .int .i64 0, .slice none 0 0, .slice none 0 0, .int .i64 0]⟩ (zzg 28 41 _ fun _ _ aK be => Post.mono (k_data (k := k1) be xq xq) ?_))))))))
 rintro _ u28 aF ⟨ad, rfl, az, bd, bi⟩
 refine zzg 31 49 _ fun _ _ aL a4 => Post.mono (k_wvBuild (D := ad) (W := aa) (x := ay) (y := av) (c := false) a4 (ap.ext (aK.t (aF.t aL))) (aq.ext (aK.t (aF.t aL))) az hWV) ?_
 rintro _ u33 a0 ⟨aM, aH, rfl, ⟨bg, aP⟩, aR⟩
 have hil := Nt.id_len (f := aa.f) aj af
 have hok32 := wv_netOK (c := false) az hw17 ae hwb aj af ao an (by constructor <;> omega : (0 : Int) ≤ ((wvN ab M19 + (wvB (Nt.p2i aa.f) ab M19).N.length + 1 : Nat) : Int) ∧ _)
 have hT32 := Nt.wv_tr (c := false) (P := ((Nt.trimQ (Nt.addQ (Nt.trimQ (Nt.mulQ (Nt.prodB aa.f ab ab.length) (Nt.prodA aa.f M19 M19.length))) (Nt.trimQ (Nt.mulQ (Nt.prodB aa.f M19 M19.length) (Nt.prodA aa.f ab ab.length))))).map (· * (((1 : Int) : Rat) / ((2 : Int) : Rat))))) hok32 ae hwn (fun k => Nt.wv_coF k)
 refine zza 25 (.v (.tuple #[.agg #[.int .i64 ad.b, .int .i64 ad.f, .int .i64 ad.r, .int .i64 ad.o, .int .i64 aa.b, .int .i64 aa.f, .int .i64 aa.r, .int .i64 aa.o, .int .i64 (wvN ab M19 : Nat), aM.v, aH.v, .int .i64 ((wvN ab M19 + (wvB (Nt.p2i aa.f) ab M19).N.length + 1 : Nat) : Int)], .int .i64 0])) (zza 32 (.v (.agg #[.int .i64 ad.b, .int .i64 ad.f, .int .i64 ad.r, .int .i64 ad.o, .int .i64 aa.b, .int .i64 aa.f, .int .i64 aa.r, .int .i64 aa.o, .int .i64 (wvN ab M19 : Nat), aM.v, aH.v, .int .i64 ((wvN ab M19 + (wvB (Nt.p2i aa.f) ab M19).N.length + 1 : Nat) : Int)])) (zza 33 (zI 0) (zzj ⟨72, [.int .i64 ad.b, .int .i64 ad.f, .int .i64 ad.r, .int .i64 ad.o, .int .i64 aa.b, .int .i64 aa.f, .int .i64 aa.r, .int .i64 aa.o, .int .i64 (wvN ab M19 : Nat), aM.v, aH.v, .int .i64 ((wvN ab M19 + (wvB (Nt.p2i aa.f) ab M19).N.length + 1 : Nat) : Int)]⟩ ty72 ?_)))
 refine zza 12 (zI 0) (zzb (sq9 (zzi 35 (.v (.agg #[.int .i64 ad.b, .int .i64 ad.f, .int .i64 ad.r, .int .i64 ad.o, .int .i64 aa.b, .int .i64 aa.f, .int .i64 aa.r, .int .i64 aa.o, .int .i64 (wvN ab M19 : Nat), aM.v, aH.v, .int .i64 ((wvN ab M19 + (wvB (Nt.p2i aa.f) ab M19).N.length + 1 : Nat) : Int)])) ty72 zze (zzg 36 42 _ fun _ _ aO ba => Post.mono (k_nLinear (D := ad) (W := aa) (s := wvN ab M19) (N := wvO (Nt.p2i aa.f) ab M19 false) (nx := (wvB (Nt.p2i aa.f) ab M19).s) (q := wvN ab M19 + (wvB (Nt.p2i aa.f) ab M19).N.length + 1) ba (NodesB.ext aP aO) (MutL.ext aR aO) hok32) ?_))))
 rintro _ u38 aW ⟨ag, ah, ai, ac, bc, rfl, au, aB, aC, aw⟩
 refine zza 34 (.v (.tuple #[.agg #[ag.v, ah.v, ai.v, .bool ac.s, ac.m.v, ac.d.v], .int .i64 0])) (zza 37 (.v (.agg #[ag.v, ah.v, ai.v, .bool ac.s, ac.m.v, ac.d.v])) (zza 38 (zI 0) (zzk 13 ⟨77, [.slice none 0 0, .slice none 0 0, .slice none 0 0, .bool false, .slice none 0 0, .slice none 0 0]⟩ (zzj ⟨77, [ag.v, ah.v, ai.v] ++ ac.cs⟩ ty77 ?_))))
 refine zza 14 (zI 0) (zzc 75 [(3, zB false), (9, .adr 9 0), (10, .adr 10 0), (12, zI 0), (13, .adr 13 0), (14, zI 0)] [(9, ⟨66, aa.cs⟩), (10, ⟨93, [ay.v, av.v]⟩), (13, ⟨77, [ag.v, ah.v, ai.v] ++ ac.cs⟩)] (sq9 (zzi 40 (.v (.agg #[ag.v, ah.v, ai.v, .bool ac.s, ac.m.v, ac.d.v])) ty77 zze (zzg 41 43 _ fun _ _ ar a8 => Post.mono (k_nTransferL (W := aa) (N := wvO (Nt.p2i aa.f) ab M19 false) (nx := (wvB (Nt.p2i aa.f) ab M19).s) (P := ((Nt.trimQ (Nt.addQ (Nt.trimQ (Nt.mulQ (Nt.prodB aa.f ab ab.length) (Nt.prodA aa.f M19 M19.length))) (Nt.trimQ (Nt.mulQ (Nt.prodB aa.f M19 M19.length) (Nt.prodA aa.f ab ab.length))))).map (· * (((1 : Int) : Rat) / ((2 : Int) : Rat))))) (Q := (Nt.mulQ (Nt.prodA aa.f ab ab.length) (Nt.prodA aa.f M19 M19.length))) a8 (au.ext ar) (aB.ext ar) (aC.ext ar) (aw.ext ar) hT32) ?_))))
 rintro _ u43 aZ ⟨ak, am, rfl, aA, ax⟩
 refine zza 39 (.v (.tuple #[.agg #[ak.v, am.v], .int .i64 0])) (zza 42 (.v (.agg #[ak.v, am.v])) (zza 43 (zI 0) (zzk 15 ⟨81, [.slice none 0 0, .slice none 0 0]⟩ (zzj ⟨81, [ak.v, am.v]⟩ ty81 ?_))))
 refine zza 16 (zI 0) (zzb (sq9 (zzi 45 (.v (.agg #[ay.v, av.v])) ty93 zze (zzi 46 (.v (aa.v)) ty66 zze (zzg 47 50 _ fun _ _ aD bj => Post.mono (k_wIdeal (W := aa) bj (ap.ext (aK.t (aF.t (aL.t (a0.t (aO.t (aW.t (ar.t (aZ.t aD))))))))) ao aj (aq.ext (aK.t (aF.t (aL.t (a0.t (aO.t (aW.t (ar.t (aZ.t aD))))))))) an af hw17 ae) ?_)))))
 rintro _ u56 aU ⟨aJ, aN, aS, aQ, rfl, aT, a2, a6, bf⟩
 have hly47 := aT.len
 have hly48 := a2.len
 have hly49 := a6.len
 have hly50 := bf.len
 have hq55 := Nt.id_len (f := aa.f) aj af
 refine zza 44 (.v (.tuple #[.agg #[aJ.v, aN.v], .agg #[aS.v, aQ.v], .int .i64 0])) (zza 48 (.v (.agg #[aJ.v, aN.v])) (zza 49 (.v (.agg #[aS.v, aQ.v])) (zza 50 (zI 0) (zzk 17 ⟨81, [.slice none 0 0, .slice none 0 0]⟩ (zzk 18 ⟨81, [.slice none 0 0, .slice none 0 0]⟩ (zzj ⟨81, [aJ.v, aN.v]⟩ ty81 ?_))))))
 refine zzj ⟨81, [aS.v, aQ.v]⟩ ty81 ?_
 refine zza 19 (zI 0) (zzb (zzd (sq9 (zza 51 (zB false) (zzb (zys xj (zzs (zzp ?_))))))))
 refine sq9 (zzg 53 51 _ fun _ _ aI a7 => Post.mono (k_known26 a7) ?_)
 rintro _ u60 aE rfl
 refine zza 54 (zB true) (zza 55 (zI 0) ?_ (hw := w1 1 true 54))
 refine zza 56 (zB true) ?_ (hw := w1 1 true 54)
 refine zza 57 (zB true) (zza 58 (zB true) (zza 59 (zI 0) ?_ (hw := w1 5 true 58)))
 refine zza 60 (zB true) ?_ (hw := w1 5 true 58)
 refine zza 61 (zB true) (zza 62 (zB true) (zza 63 (zI 0) ?_ (hw := w1 9 true 62)))
 refine zza 64 (zB true) ?_ (hw := w1 9 true 62)
 refine zza 65 (zB true) (zza 66 (zB true) (zza 67 (zI 0) ?_ (hw := w1 13 true 66)))
 refine zza 68 (zB true) ?_ (hw := w1 13 true 66)
 refine zza 69 (zB true) (zza 70 (zB true) (zzi 71 (.v (.agg #[ak.v, am.v])) ty81 zze ?_ (hw := w1 17 true 70)))
 refine zzi 72 (.v (.agg #[aJ.v, aN.v])) ty81 zze ?_ (hw := w1 17 true 70)
 refine zzg 73 47 _ (fun _ _ aG a5 => Post.mono ((show Calls _ _ #[_, _] _ _ from k_sameFilt (K := 100000) (l := Nt.trimQ ((Nt.trimQ (Nt.addQ (Nt.trimQ (Nt.mulQ (Nt.prodB aa.f ab ab.length) (Nt.prodA aa.f M19 M19.length))) (Nt.trimQ (Nt.mulQ (Nt.prodB aa.f M19 M19.length) (Nt.prodA aa.f ab ab.length))))).map (· * (((1 : Int) : Rat) / ((2 : Int) : Rat))))) (m := Nt.trimQ (Nt.mulQ (Nt.prodA aa.f ab ab.length) (Nt.prodA aa.f M19 M19.length))) a5 (PolN.more (K := 10000) (aA.ext (aD.t (aU.t (aI.t (aE.t aG))))) yj) (PolN.more (K := 10000) (ax.ext (aD.t (aU.t (aI.t (aE.t aG))))) yj) (PolN.more (K := 40) (aT.ext (aI.t (aE.t aG))) yj) (PolN.more (K := 40) (a2.ext (aI.t (aE.t aG))) yj) yj (Nat.le_trans hil.1 yj) (Nat.le_trans hil.2.2 yj))) ?_) (hw := w1 17 true 70)
 rintro _ u64 g65 rfl
 refine zza 74 (zB true) (zza 8 (zB true) (zzc 75 [(8, zB true)] [] (zzo (ret0 [.bool true] ⟨zzq, trivial⟩ fun u67 e68 => ?_))))
 rfl
set_option maxHeartbeats 4000000 in
theorem w_waveTrtrue {u w : World} {x y : Sl} {l m : List Int} {k1 k2 : Int} (d : Dat u w) (hx : SlR .i64 u x.a x.n x.c l) (hb : ∀ z ∈ l, -9223372036854775808 ≤ z ∧ z ≤ 9223372036854775807) (hy : SlR .i64 u y.a y.n y.c m) (hbm : ∀ z ∈ m, -9223372036854775808 ≤ z ∧ z ≤ 9223372036854775807) (hk1 : -9223372036854775808 ≤ k1) (hk2 : k1 ≤ 9223372036854775807) (hk3 : -9223372036854775808 ≤ k2) (hk4 : k2 ≤ 9223372036854775807) : Calls Tryz.prog 9 #[.agg #[x.v, y.v], .int .i64 k1, .int .i64 k2, .bool true] w (Post u w fun v _ => v = .bool true) := by
 refine zzm (args := [.agg #[x.v, y.v], .int .i64 k1, .int .i64 k2, .bool true]) Tryz.func9 rfl Tryz.ntmps9 (rs := [.tmp 8]) Tryz.results9 (le_b rfl) (le_b rfl) d ?_
 refine sq9 (zzk 4 ⟨90, [x.v, y.v]⟩ (zza 8 (zB false) (zzb (sq9 (zza 20 (zI k2) (zzg 21 38 _ fun _ _ aY a4 => Post.mono (k_coef (k := k2) a4 xq xq) ?_))))))
 rintro _ u14 aU ⟨aa, rfl, al⟩
 have hw17 := al.ok
 have ae : 1 ≤ aa.f := by have h9 := al; unfold CoefOK at h9; omega
 have aX : aa.f ≤ 24 := by have h9 := al; unfold CoefOK at h9; omega
 have hwb : aa.f + 2 ≤ aa.b := by have h9 := al; unfold CoefOK at h9; omega
 refine zzk 9 ⟨66, [.int .i64 0, .int .i64 0, .int .i64 0, .int .i64 0]⟩ (zzj ⟨66, aa.cs⟩ ty66 ?_)
 refine zzb (sq9 (zzi 22 (.v (.agg #[x.v, y.v])) ty90 zze (zzi 23 (.v (aa.v)) ty66 zze (zzg 24 48 _ fun _ _ a1 bb => Post.mono (k_filter (W := aa) bb (hx.ext (aY.t (aU.t a1))) hb (hy.ext (aY.t (aU.t a1))) hbm hw17) ?_))))
 rintro _ u20 g21 ⟨aA, ax, ab, M19, rfl, ap, ao, aj, aq, an, af⟩
 have hly19 := ap.len
 have hlz19 := aq.len
 have hWV : WvOK aa ab M19 := ⟨⟨hw17, ae⟩, aj, af, Nt.pas_get ao, Nt.pas_get an⟩
 have hoL := Nt.ordS_le ab ab.length
 have hoM := Nt.ordS_le M19 M19.length
 have hwn : wvN ab M19 ≤ 16 := by unfold wvN; omega
 have hNB := wvB_N (Nt.p2i aa.f) ab M19
 obtain ⟨hBo, a9, bg, hBs⟩ := wvB_ok hw17 hwb ao an
 refine zzk 10 ⟨93, [.slice none 0 0, .slice none 0 0]⟩ (zzj ⟨93, [aA.v, ax.v]⟩ ty93 ?_)
 refine zzb (zzd (zzz [0, 0, 2, 0, 0, 31, 63, 127, 127, 0, 767, 2047] [(0, []), (1, []), (3, []), (4, []), (9, []), (2, []), (5, []), (6, []), (7, []), (8, []), (10, []), (11, [])] xj xj (zzi 26 (.v (.agg #[aA.v, ax.v])) ty93 zze (zza 27 (zI k1) (zzi 29 (.v (aa.v)) ty66 zze (zza 30 (zB true) (zzk 11 ⟨72, [.int .i64 0, .int .i64 0, .int .i64 0, .int .i64 0, .int .i64 0, .int .i64 0, .int .i64 0, .int .i64 0, .int .i64 0, .slice none 0 0, .slice none 0 0, .int .i64 0]⟩ (zzg 28 41 _ fun _ _ aL be => Post.mono (k_data (k := k1) be xq xq) ?_))))))))
 rintro _ u28 aH ⟨ad, rfl, aB, bd, bh⟩
 refine zzg 31 49 _ fun _ _ aM a5 => Post.mono (k_wvBuild (D := ad) (W := aa) (x := aA) (y := ax) (c := true) a5 (ap.ext (aL.t (aH.t aM))) (aq.ext (aL.t (aH.t aM))) aB hWV) ?_
 rintro _ u33 a0 ⟨aN, aJ, rfl, ⟨bf, aP⟩, aQ⟩
 have hil := Nt.id_len (f := aa.f) aj af
 have hok32 := wv_netOK (c := true) aB hw17 ae hwb aj af ao an (by constructor <;> omega : (0 : Int) ≤ ((wvN ab M19 + (wvB (Nt.p2i aa.f) ab M19).N.length + 1 : Nat) : Int) ∧ _)
 have hT32 := Nt.wv_tr (c := true) (P := ((Nt.trimQ (Nt.addQ (Nt.trimQ (Nt.mulQ (Nt.prodB aa.f ab ab.length) (Nt.prodA aa.f M19 M19.length))) ((Nt.trimQ (Nt.mulQ (Nt.prodB aa.f M19 M19.length) (Nt.prodA aa.f ab ab.length))).map (fun z => -z)))).map (· * (((1 : Int) : Rat) / ((2 : Int) : Rat))))) hok32 ae hwn (fun k => Nt.wv_coT k)
 refine zza 25 (.v (.tuple #[.agg #[.int .i64 ad.b, .int .i64 ad.f, .int .i64 ad.r, .int .i64 ad.o, .int .i64 aa.b, .int .i64 aa.f, .int .i64 aa.r, .int .i64 aa.o, .int .i64 (wvN ab M19 : Nat), aN.v, aJ.v, .int .i64 ((wvN ab M19 + (wvB (Nt.p2i aa.f) ab M19).N.length + 1 : Nat) : Int)], .int .i64 0])) (zza 32 (.v (.agg #[.int .i64 ad.b, .int .i64 ad.f, .int .i64 ad.r, .int .i64 ad.o, .int .i64 aa.b, .int .i64 aa.f, .int .i64 aa.r, .int .i64 aa.o, .int .i64 (wvN ab M19 : Nat), aN.v, aJ.v, .int .i64 ((wvN ab M19 + (wvB (Nt.p2i aa.f) ab M19).N.length + 1 : Nat) : Int)])) (zza 33 (zI 0) (zzj ⟨72, [.int .i64 ad.b, .int .i64 ad.f, .int .i64 ad.r, .int .i64 ad.o, .int .i64 aa.b, .int .i64 aa.f, .int .i64 aa.r, .int .i64 aa.o, .int .i64 (wvN ab M19 : Nat), aN.v, aJ.v, .int .i64 ((wvN ab M19 + (wvB (Nt.p2i aa.f) ab M19).N.length + 1 : Nat) : Int)]⟩ ty72 ?_)))
 refine zza 12 (zI 0) (zzb (sq9 (zzi 35 (.v (.agg #[.int .i64 ad.b, .int .i64 ad.f, .int .i64 ad.r, .int .i64 ad.o, .int .i64 aa.b, .int .i64 aa.f, .int .i64 aa.r, .int .i64 aa.o, .int .i64 (wvN ab M19 : Nat), aN.v, aJ.v, .int .i64 ((wvN ab M19 + (wvB (Nt.p2i aa.f) ab M19).N.length + 1 : Nat) : Int)])) ty72 zze (zzg 36 42 _ fun _ _ aO ba => Post.mono (k_nLinear (D := ad) (W := aa) (s := wvN ab M19) (N := wvO (Nt.p2i aa.f) ab M19 true) (nx := (wvB (Nt.p2i aa.f) ab M19).s) (q := wvN ab M19 + (wvB (Nt.p2i aa.f) ab M19).N.length + 1) ba (NodesB.ext aP aO) (MutL.ext aQ aO) hok32) ?_))))
 rintro _ u38 aW ⟨ag, ah, ai, ac, bc, rfl, aw, aD, aE, ay⟩
 refine zza 34 (.v (.tuple #[.agg #[ag.v, ah.v, ai.v, .bool ac.s, ac.m.v, ac.d.v], .int .i64 0])) (zza 37 (.v (.agg #[ag.v, ah.v, ai.v, .bool ac.s, ac.m.v, ac.d.v])) (zza 38 (zI 0) (zzk 13 ⟨77, [.slice none 0 0, .slice none 0 0, .slice none 0 0, .bool false, .slice none 0 0, .slice none 0 0]⟩ (zzj ⟨77, [ag.v, ah.v, ai.v] ++ ac.cs⟩ ty77 ?_))))
 refine zza 14 (zI 0) (zzc 75 [(3, zB true), (9, .adr 9 0), (10, .adr 10 0), (12, zI 0), (13, .adr 13 0), (14, zI 0)] [(9, ⟨66, aa.cs⟩), (10, ⟨93, [aA.v, ax.v]⟩), (13, ⟨77, [ag.v, ah.v, ai.v] ++ ac.cs⟩)] (sq9 (zzi 40 (.v (.agg #[ag.v, ah.v, ai.v, .bool ac.s, ac.m.v, ac.d.v])) ty77 zze (zzg 41 43 _ fun _ _ au a8 => Post.mono (k_nTransferL (W := aa) (N := wvO (Nt.p2i aa.f) ab M19 true) (nx := (wvB (Nt.p2i aa.f) ab M19).s) (P := ((Nt.trimQ (Nt.addQ (Nt.trimQ (Nt.mulQ (Nt.prodB aa.f ab ab.length) (Nt.prodA aa.f M19 M19.length))) ((Nt.trimQ (Nt.mulQ (Nt.prodB aa.f M19 M19.length) (Nt.prodA aa.f ab ab.length))).map (fun z => -z)))).map (· * (((1 : Int) : Rat) / ((2 : Int) : Rat))))) (Q := (Nt.mulQ (Nt.prodA aa.f ab ab.length) (Nt.prodA aa.f M19 M19.length))) a8 (aw.ext au) (aD.ext au) (aE.ext au) (ay.ext au) hT32) ?_))))
 rintro _ u43 aZ ⟨ak, am, rfl, aC, az⟩
 refine zza 39 (.v (.tuple #[.agg #[ak.v, am.v], .int .i64 0])) (zza 42 (.v (.agg #[ak.v, am.v])) (zza 43 (zI 0) (zzk 15 ⟨81, [.slice none 0 0, .slice none 0 0]⟩ (zzj ⟨81, [ak.v, am.v]⟩ ty81 ?_))))
 refine zza 16 (zI 0) (zzb (sq9 (zzi 45 (.v (.agg #[aA.v, ax.v])) ty93 zze (zzi 46 (.v (aa.v)) ty66 zze (zzg 47 50 _ fun _ _ aF bi => Post.mono (k_wIdeal (W := aa) bi (ap.ext (aL.t (aH.t (aM.t (a0.t (aO.t (aW.t (au.t (aZ.t aF))))))))) ao aj (aq.ext (aL.t (aH.t (aM.t (a0.t (aO.t (aW.t (au.t (aZ.t aF))))))))) an af hw17 ae) ?_)))))
 rintro _ u56 aT ⟨aR, aS, av, ar, rfl, a3, bj, aV, a2⟩
 have hly47 := a3.len
 have hly48 := bj.len
 have hly49 := aV.len
 have hly50 := a2.len
 have hq55 := Nt.id_len (f := aa.f) aj af
 refine zza 44 (.v (.tuple #[.agg #[aR.v, aS.v], .agg #[av.v, ar.v], .int .i64 0])) (zza 48 (.v (.agg #[aR.v, aS.v])) (zza 49 (.v (.agg #[av.v, ar.v])) (zza 50 (zI 0) (zzk 17 ⟨81, [.slice none 0 0, .slice none 0 0]⟩ (zzk 18 ⟨81, [.slice none 0 0, .slice none 0 0]⟩ (zzj ⟨81, [aR.v, aS.v]⟩ ty81 ?_))))))
 refine zzj ⟨81, [av.v, ar.v]⟩ ty81 ?_
 refine zza 19 (zI 0) (zzb (zzd (sq9 (zza 51 (zB true) (zzb (zyr xj (zzf (zzi 52 (.v (.agg #[av.v, ar.v])) ty81 zze (zzj ⟨81, [av.v, ar.v]⟩ ty81 ?_)))))))))
 refine zzb (sq9 (zzg 53 51 _ fun _ _ aK a7 => Post.mono (k_known26 a7) ?_))
 rintro _ u60 aG rfl
 refine zza 54 (zB true) (zza 55 (zI 0) ?_ (hw := w1 1 true 54))
 refine zza 56 (zB true) ?_ (hw := w1 1 true 54)
 refine zza 57 (zB true) (zza 58 (zB true) (zza 59 (zI 0) ?_ (hw := w1 5 true 58)))
 refine zza 60 (zB true) ?_ (hw := w1 5 true 58)
 refine zza 61 (zB true) (zza 62 (zB true) (zza 63 (zI 0) ?_ (hw := w1 9 true 62)))
 refine zza 64 (zB true) ?_ (hw := w1 9 true 62)
 refine zza 65 (zB true) (zza 66 (zB true) (zza 67 (zI 0) ?_ (hw := w1 13 true 66)))
 refine zza 68 (zB true) ?_ (hw := w1 13 true 66)
 refine zza 69 (zB true) (zza 70 (zB true) (zzi 71 (.v (.agg #[ak.v, am.v])) ty81 zze ?_ (hw := w1 17 true 70)))
 refine zzi 72 (.v (.agg #[av.v, ar.v])) ty81 zze ?_ (hw := w1 17 true 70)
 refine zzg 73 47 _ (fun _ _ aI a6 => Post.mono ((show Calls _ _ #[_, _] _ _ from k_sameFilt (K := 100000) (l := Nt.trimQ ((Nt.trimQ (Nt.addQ (Nt.trimQ (Nt.mulQ (Nt.prodB aa.f ab ab.length) (Nt.prodA aa.f M19 M19.length))) ((Nt.trimQ (Nt.mulQ (Nt.prodB aa.f M19 M19.length) (Nt.prodA aa.f ab ab.length))).map (fun z => -z)))).map (· * (((1 : Int) : Rat) / ((2 : Int) : Rat))))) (m := Nt.trimQ (Nt.mulQ (Nt.prodA aa.f ab ab.length) (Nt.prodA aa.f M19 M19.length))) a6 (PolN.more (K := 10000) (aC.ext (aF.t (aT.t (aK.t (aG.t aI))))) yj) (PolN.more (K := 10000) (az.ext (aF.t (aT.t (aK.t (aG.t aI))))) yj) (PolN.more (K := 40) (aV.ext (aK.t (aG.t aI))) yj) (PolN.more (K := 40) (a2.ext (aK.t (aG.t aI))) yj) yj (Nat.le_trans hil.2.1 yj) (Nat.le_trans hil.2.2 yj))) ?_) (hw := w1 17 true 70)
 rintro _ u64 g65 rfl
 refine zza 74 (zB true) (zza 8 (zB true) (zzc 75 [(8, zB true)] [] (zzo (ret0 [.bool true] ⟨zzq, trivial⟩ fun u67 e68 => ?_))))
 rfl
theorem w_waveTransfers {u w : World} {x y : Sl} {l m : List Int} {k1 k2 : Int} {c : Bool} (d : Dat u w) (hx : SlR .i64 u x.a x.n x.c l) (hb : ∀ z ∈ l, -9223372036854775808 ≤ z ∧ z ≤ 9223372036854775807) (hy : SlR .i64 u y.a y.n y.c m) (hbm : ∀ z ∈ m, -9223372036854775808 ≤ z ∧ z ≤ 9223372036854775807) (hk1 : -9223372036854775808 ≤ k1) (hk2 : k1 ≤ 9223372036854775807) (hk3 : -9223372036854775808 ≤ k2) (hk4 : k2 ≤ 9223372036854775807) : Calls Tryz.prog 9 #[.agg #[x.v, y.v], .int .i64 k1, .int .i64 k2, .bool c] w (Post u w fun v _ => v = .bool true) := by
 cases c with
 | false => exact w_waveTrfalse d hx hb hy hbm hk1 hk2 hk3 hk4
 | true => exact w_waveTrtrue d hx hb hy hbm hk1 hk2 hk3 hk4
end Go.Proofs.YtgmkhhfbckjaeaaGreat
