/- Parts of the proof: contracts of functions, each walked once, and plain laws. -/
import Derived.Test.YtdmpfhhhlhoeiaaGreatCbdD
namespace Go.Proofs.YtdmpfhhhlhoeiaaGreat
open Go.RowKit
set_option linter.unusedVariables false
namespace Nt
def secFit (W : WL) (p : List Int) : Bool := fitB W (p.getD 0 0) && fitB W (p.getD 1 0) && fitB W (p.getD 2 0) && (fitB W (p.getD 3 0) && fitB W (-p.getD 3 0)) && (fitB W (p.getD 4 0) && fitB W (-p.getD 4 0))
def csE (W : WL) (L : List (List Int)) : Int :=
 if ¬ WdOK W then 2 else if L.length < 1 ∨ 8 < L.length then 1 else if ∀ i, i < L.length → secFit W (L.getD i []) = true then 0 else 17
def csED (D W : WL) (L : List (List Int)) : Int := if ¬ WdOK D then 2 else csE W L
variable {D W : WL} {L : List (List Int)} {i j n k : Nat}
theorem csE_2 (h : ¬ WdOK W) : csE W L = 2 := by unfold csE; rw [if_pos h]
theorem csE_1 (hW : WdOK W) (h : L.length < 1 ∨ 8 < L.length) : csE W L = 1 := by unfold csE; rw [if_neg (not_not_intro hW), if_pos h]
theorem csE_17 (hW : WdOK W) (h1 : 1 ≤ L.length) (h8 : L.length ≤ 8) (hi : i < L.length) (h : secFit W (L.getD i []) = false) : csE W L = 17 := by
 unfold csE
 rw [if_neg (not_not_intro hW), if_neg xq, if_neg (fun k => by rw [k i hi] at h; cases h)]
theorem csE_0 (hW : WdOK W) (h1 : 1 ≤ L.length) (h8 : L.length ≤ 8) (h : ∀ i, i < L.length → secFit W (L.getD i []) = true) : csE W L = 0 := by
 unfold csE
 rw [if_neg (not_not_intro hW), if_neg xq, if_pos h]
theorem csE_ok (h : csE W L = 0) : WdOK W ∧ 1 ≤ L.length ∧ L.length ≤ 8 ∧ ∀ i, i < L.length → secFit W (L.getD i []) = true := by
 unfold csE at h
 by_cases hW : WdOK W
 ·rw [if_neg (not_not_intro hW)] at h
  by_cases hl : L.length < 1 ∨ 8 < L.length
  ·rw [if_pos hl] at h; cases h
  ·rw [if_neg hl] at h
   by_cases ha : ∀ i, i < L.length → secFit W (L.getD i []) = true
   ·exact ⟨hW, by omega, by omega, ha⟩
   ·rw [if_neg ha] at h; cases h
 ·rw [if_pos hW] at h; cases h
theorem secFit_ok (h : secFit W (L.getD i []) = true) : ∀ j, j < 5 → -p2i (W.b - 1) ≤ gi L i j ∧ gi L i j ≤ p2i (W.b - 1) - 1 := by
 unfold secFit at h
 simp only [Bool.and_eq_true] at h
 obtain ⟨⟨⟨⟨h0, h1⟩, h2⟩, h3, _⟩, h4, _⟩ := h
 intro j hj
 obtain rfl | rfl | rfl | rfl | rfl : j = 0 ∨ j = 1 ∨ j = 2 ∨ j = 3 ∨ j = 4 := by omega
 ·exact fit_iff.1 h0
 ·exact fit_iff.1 h1
 ·exact fit_iff.1 h2
 ·exact fit_iff.1 h3
 ·exact fit_iff.1 h4
theorem secFit_neg (h : secFit W (L.getD i []) = true) : fitB W (-gi L i 3) = true ∧ fitB W (-gi L i 4) = true := by
 unfold secFit at h
 simp only [Bool.and_eq_true] at h
 exact ⟨h.1.2.2, h.2.2⟩
def csF0 (n i : Nat) : Int := if i = 0 then 0 else ((2 + 2 * n + i : Nat) : Int)
def csNode (n i : Nat) (p : List Int) : List TL := [⟨csF0 n i, p.getD 0 0⟩, ⟨((1 + 2 * i : Nat) : Int), p.getD 1 0⟩, ⟨((2 + 2 * i : Nat) : Int), p.getD 2 0⟩, ⟨((3 + 2 * i : Nat) : Int), -p.getD 3 0⟩, ⟨((3 + 2 * i + 1 : Nat) : Int), -p.getD 4 0⟩]
def csNodes (n : Nat) (L : List (List Int)) (k : Nat) : List (List TL) := (List.range k).map fun i => csNode n i (L.getD i [])
def csNext (n k : Nat) : List Int := [0, 1] ++ (List.range k).flatMap fun i => [((3 + 2 * n + i : Nat) : Int), ((3 + 2 * i : Nat) : Int)]
theorem csNodes_len : (csNodes n L k).length = k := by simp [csNodes]
theorem csNodes_succ : csNodes n L (k + 1) = csNodes n L k ++ [csNode n k (L.getD k [])] := by
 unfold csNodes
 rw [List.range_succ, List.map_append]; rfl
theorem csNodes_get (h : i < k) : (csNodes n L k).getD i [] = csNode n i (L.getD i []) := by
 unfold csNodes
 rw [List.getD_eq_getElem?_getD, List.getElem?_map, List.getElem?_range h]; rfl
theorem csNext_succ : csNext n (k + 1) = csNext n k ++ [((3 + 2 * n + k : Nat) : Int), ((3 + 2 * k : Nat) : Int)] := by
 unfold csNext
 rw [List.range_succ, List.flatMap_append, ← List.append_assoc]; simp
theorem csNext_len : (csNext n k).length = 2 + 2 * k := by
 induction k with
 | zero => rfl
 | succ k ih => rw [csNext_succ, List.length_append, ih]; simp; omega
theorem csNext_0 : (csNext n k).getD 0 0 = 0 := rfl
theorem csNext_1 : (csNext n k).getD 1 0 = 1 := rfl
theorem csNext_even (h : i < k) : (csNext n k).getD (2 + 2 * i) 0 = ((3 + 2 * n + i : Nat) : Int) ∧ (csNext n k).getD (2 + 2 * i + 1) 0 = ((3 + 2 * i : Nat) : Int) := by
 induction k with
 | zero => omega
 | succ k ih =>
  rw [csNext_succ]
  by_cases e : i < k
  ·rw [getD_app_lt (by rw [csNext_len]; omega), getD_app_lt (by rw [csNext_len]; omega)]; exact ih e
  ·obtain rfl : i = k := by omega
   constructor
   ·rw [List.getD_eq_getElem?_getD, List.getElem?_append_right (by rw [csNext_len]; omega), csNext_len, show 2 + 2 * i - (2 + 2 * i) = 0 by omega]; rfl
   ·rw [List.getD_eq_getElem?_getD, List.getElem?_append_right (by rw [csNext_len]; omega), csNext_len, show 2 + 2 * i + 1 - (2 + 2 * i) = 1 by omega]; rfl
theorem getD5 {α : Type} {a b c d e z : α} {j : Nat} (h : j < 5) : ([a, b, c, d, e].getD j z = a ∧ j = 0) ∨ ([a, b, c, d, e].getD j z = b ∧ j = 1) ∨ ([a, b, c, d, e].getD j z = c ∧ j = 2) ∨ ([a, b, c, d, e].getD j z = d ∧ j = 3) ∨ ([a, b, c, d, e].getD j z = e ∧ j = 4) := by
 obtain rfl | rfl | rfl | rfl | rfl : j = 0 ∨ j = 1 ∨ j = 2 ∨ j = 3 ∨ j = 4 := by omega
 ·exact .inl ⟨rfl, rfl⟩
 ·exact .inr (.inl ⟨rfl, rfl⟩)
 ·exact .inr (.inr (.inl ⟨rfl, rfl⟩))
 ·exact .inr (.inr (.inr (.inl ⟨rfl, rfl⟩)))
 ·exact .inr (.inr (.inr (.inr ⟨rfl, rfl⟩)))
theorem csNetOK (hD : WdOK D) (hE : csE W L = 0) : NetOK D W (2 + 2 * L.length) (csNodes L.length L L.length) (csNext L.length L.length) ((2 + 2 * L.length + L.length : Nat) : Int) := by
 obtain ⟨hW, h1, h8, ha⟩ := csE_ok hE
 refine ⟨hD, hW, by omega, by rw [csNodes_len]; omega, csNext_len, fun k hk => ?_, fun j hj => ?_, by rw [csNodes_len]; omega⟩
 ·rw [csNodes_len] at hk
  rw [csNodes_get hk]
  refine ⟨by show 5 ≤ 64; decide, fun j hj => ?_⟩
  have hf := ha k hk
  have hn := secFit_neg hf
  unfold secFit at hf
  simp only [Bool.and_eq_true] at hf
  obtain ⟨⟨⟨⟨g0, g1⟩, g2⟩, g3, _⟩, g4, _⟩ := hf
  have hj5 : j < 5 := hj
  unfold csNode
  rcases getD5 (a := (⟨csF0 L.length k, (L.getD k []).getD 0 0⟩ : TL)) (b := ⟨((1 + 2 * k : Nat) : Int), (L.getD k []).getD 1 0⟩) (c := ⟨((2 + 2 * k : Nat) : Int), (L.getD k []).getD 2 0⟩) (d := ⟨((3 + 2 * k : Nat) : Int), -(L.getD k []).getD 3 0⟩) (e := ⟨((3 + 2 * k + 1 : Nat) : Int), -(L.getD k []).getD 4 0⟩) (z := tl0) hj5 with ⟨e, _⟩ | ⟨e, _⟩ | ⟨e, _⟩ | ⟨e, _⟩ | ⟨e, _⟩ <;> rw [e]
  ·exact ⟨by show 0 ≤ csF0 L.length k; unfold csF0; split <;> omega, by show csF0 L.length k ≤ _; unfold csF0; split <;> omega, .inr g0⟩
  ·exact ⟨by show (0 : Int) ≤ ((1 + 2 * k : Nat) : Int); omega, by show ((1 + 2 * k : Nat) : Int) ≤ _; omega, .inr g1⟩
  ·exact ⟨by show (0 : Int) ≤ ((2 + 2 * k : Nat) : Int); omega, by show ((2 + 2 * k : Nat) : Int) ≤ _; omega, .inr g2⟩
  ·exact ⟨by show (0 : Int) ≤ ((3 + 2 * k : Nat) : Int); omega, by show ((3 + 2 * k : Nat) : Int) ≤ _; omega, .inr hn.1⟩
  ·exact ⟨by show (0 : Int) ≤ ((3 + 2 * k + 1 : Nat) : Int); omega, by show ((3 + 2 * k + 1 : Nat) : Int) ≤ _; omega, .inr hn.2⟩
 ·rw [csNext_len] at hj
  rw [csNodes_len]
  match j, hj with
  | 0, _ => rw [csNext_0]; omega
  | 1, _ => rw [csNext_1]; omega
  | j + 2, hj =>
   obtain ⟨q, hq⟩ : ∃ q, j = 2 * q ∨ j = 2 * q + 1 := ⟨j / 2, by omega⟩
   have he := csNext_even (n := L.length) (i := q) (k := L.length) xq
   rcases hq with rfl | rfl
   ·rw [show 2 * q + 2 = 2 + 2 * q by omega, he.1]; omega
   ·rw [show 2 * q + 1 + 2 = 2 + 2 * q + 1 by omega, he.2]; omega
end Nt
theorem k_csize {u w : World} {z : Int} (d : Dat u w) (h0 : -1000000000 ≤ z) (h1 : z ≤ 1000000000) : Calls Tryz.prog 114 #[.int .i64 z] w (Post u w fun v _ => v = .int .i64 (Nt.az z)) := by
 refine zzm (args := [.int .i64 z]) Tryz.func114 rfl Tryz.ntmps114 (rs := [.tmp 2]) Tryz.results114 (le_b rfl) (le_b rfl) d ?_
 refine sq9 (zza 2 (zI 0) (zzb (sq9 (zza 3 (zI z) (zza 4 (zI z) (zyq 5 (x := zI (IntKind.i64.wrap (0 - z))) (zI (-z)) (eqI xk) (sy_maxN 6 (n := z) (m := -z) (v := Nt.az z) (by unfold Nt.az; split <;> omega) ?_)))))))
 refine zza 2 (zI (Nt.az z)) (zzb (zzo (ret0 [.int .i64 (Nt.az z)] ⟨zzq, trivial⟩ fun u11 e12 => ?_)))
 rfl
theorem k_cdist {u w : World} {b0 b1 b2 a0 a1 : Int} (d : Dat u w) (hb1 : -16777216 ≤ b1 ∧ b1 ≤ 16777216) (hb2 : -16777216 ≤ b2 ∧ b2 ≤ 16777216) (ha0 : -16777216 ≤ a0 ∧ a0 ≤ 16777216) (ha1 : -16777216 ≤ a1 ∧ a1 ≤ 16777216) : Calls Tryz.prog 116 #[.agg #[.int .i64 b0, .int .i64 b1, .int .i64 b2], .agg #[.int .i64 a0, .int .i64 a1]] w (Post u w fun v _ => v = .int .i64 (Nt.distZ b1 b2 a0 a1)) := by
 refine zzm (args := [.agg #[.int .i64 b0, .int .i64 b1, .int .i64 b2], .agg #[.int .i64 a0, .int .i64 a1]]) Tryz.func116 rfl Tryz.ntmps116 (rs := [.tmp 4]) Tryz.results116 (le_b rfl) (le_b rfl) d ?_
 refine sq9 (zzk 2 ⟨85, [.int .i64 b0, .int .i64 b1, .int .i64 b2]⟩ (zzk 3 ⟨58, [.int .i64 a0, .int .i64 a1]⟩ (zza 4 (zI 0) (zzb (zzd (zzz [0, 1, 0, 4, 15, 31, 0, 64, 0, 256, 960, 2047, 4095, 8191] [(0, []), (1, []), (2, []), (3, []), (4, []), (6, []), (7, []), (8, []), (9, []), (10, []), (5, []), (11, []), (12, []), (13, [])] xj xj (zza 5 (.adr 2 1) (zzi 6 (zI b1) ty3 zzl (zza 7 (.adr 3 0) (zzi 8 (zI a0) ty3 zzl (zyq 9 (x := zI (IntKind.i64.wrap (b1 - a0))) (zI (b1 - a0)) yy ?_)))))))))))
 refine zza 11 (.adr 2 2) (zzi 12 (zI b2) ty3 zzl (zza 13 (.adr 3 1) (zzi 14 (zI a1) ty3 zzl (zyq 15 (x := zI (IntKind.i64.wrap (b2 - a1))) (zI (b2 - a1)) yy (zzg 10 114 [.int .i64 (b1 - a0)] ?_)))))
 intro w11 u11 e11 d11
 have k14 := k_csize (z := b1 - a0) d11 xq xq
 with_reducible refine zPm k14 ?_
 rintro _ u12 g13 rfl
 have haz15 := Nt.az_bd (z := b1 - a0) xq xq
 refine zzg 16 114 [.int .i64 (b2 - a1)] ?_
 intro w16 u16 e16 d16
 have k19 := k_csize (z := b2 - a1) d16 xq xq
 with_reducible refine zPm k19 ?_
 rintro _ u17 g18 rfl
 have haz20 := Nt.az_bd (z := b2 - a1) xq xq
 refine zyq 17 (x := zI (IntKind.i64.wrap ((Nt.az (b1 - a0)) + (Nt.az (b2 - a1))))) (zI ((Nt.az (b1 - a0)) + (Nt.az (b2 - a1)))) yy (zza 4 (zI ((Nt.az (b1 - a0)) + (Nt.az (b2 - a1)))) (zzb (zzo (ret0 [.int .i64 ((Nt.az (b1 - a0)) + (Nt.az (b2 - a1)))] ⟨zzq, trivial⟩ fun u21 e22 => ?_))))
 rfl
theorem k_ccmp {u w : World} {a0 a1 b0 b1 : Int} (d : Dat u w) (ha0 : -16777216 ≤ a0 ∧ a0 ≤ 16777216) (ha1 : -16777216 ≤ a1 ∧ a1 ≤ 16777216) (hb0 : -16777216 ≤ b0 ∧ b0 ≤ 16777216) (hb1 : -16777216 ≤ b1 ∧ b1 ≤ 16777216) : Calls Tryz.prog 113 #[.agg #[.int .i64 a0, .int .i64 a1], .agg #[.int .i64 b0, .int .i64 b1]] w (Post u w fun v _ => v = .int .i64 (Nt.cmpZ a0 a1 b0 b1)) := by
 refine zzm (args := [.agg #[.int .i64 a0, .int .i64 a1], .agg #[.int .i64 b0, .int .i64 b1]]) Tryz.func113 rfl Tryz.ntmps113 (rs := [.tmp 4]) Tryz.results113 (le_b rfl) (le_b rfl) d ?_
 refine sq9 (zzk 2 ⟨58, [.int .i64 a0, .int .i64 a1]⟩ (zzk 3 ⟨58, [.int .i64 b0, .int .i64 b1]⟩ (zza 4 (zI 0) (zzb (zzd (zzd (zzz [0, 1, 3, 0, 8, 31, 63] [(0, []), (1, []), (3, []), (4, []), (2, []), (5, []), (6, [])] xj xj (zza 5 (.adr 2 1) (zzi 6 (zI a1) ty3 zzl (zza 8 (.adr 3 1) (zzi 9 (zI b1) ty3 zzl ?_)))))))))))
 refine zzg 7 114 [.int .i64 a1] ?_
 intro w11 u11 e11 d11
 have k14 := k_csize (z := a1) d11 xq xq
 with_reducible refine zPm k14 ?_
 rintro _ u12 g13 rfl
 have haz15 := Nt.az_bd (z := a1) xq xq
 refine zzg 10 114 [.int .i64 b1] ?_
 intro w16 u16 e16 d16
 have k19 := k_csize (z := b1) d16 xq xq
 with_reducible refine zPm k19 ?_
 rintro _ u17 g18 rfl
 have haz20 := Nt.az_bd (z := b1) xq xq
 refine zza 11 (zB ((Nt.az a1) != (Nt.az b1))) (zzb (zzu (b := (Nt.az a1) != (Nt.az b1)) xj (fun hb21 => ?_) (fun hb21 => ?_)))
 ·replace hb21 : ((Nt.az a1) != (Nt.az b1)) = true := hb21
  have qhb21 := hb21
  simp at qhb21
  refine zzd (zzz [0, 1, 3, 0, 8, 31, 63, 127] [(0, []), (1, []), (3, []), (4, []), (2, []), (5, []), (6, []), (7, [])] xj xj (zza 12 (.adr 3 1) (zzi 13 (zI b1) ty3 zzl (zza 15 (.adr 2 1) (zzi 16 (zI a1) ty3 zzl (zzg 14 114 [.int .i64 b1] ?_))))))
  intro w22 u22 e22 d22
  have k25 := k_csize (z := b1) d22 xq xq
  with_reducible refine zPm k25 ?_
  rintro _ u23 g24 rfl
  have haz26 := Nt.az_bd (z := b1) xq xq
  refine zzg 17 114 [.int .i64 a1] ?_
  intro w27 u27 e27 d27
  have k30 := k_csize (z := a1) d27 xq xq
  with_reducible refine zPm k30 ?_
  rintro _ u28 g29 rfl
  have haz31 := Nt.az_bd (z := a1) xq xq
  refine zyq 18 (x := zI (IntKind.i64.wrap ((Nt.az b1) - (Nt.az a1)))) (zI ((Nt.az b1) - (Nt.az a1))) yy (zza 4 (zI ((Nt.az b1) - (Nt.az a1))) (zzb (zzo (zzw (ret0 [.int .i64 ((Nt.az b1) - (Nt.az a1))] ⟨zzq, trivial⟩ fun u32 e33 => ?_)))))
  show Value.int _ _ = Value.int _ _
  unfold Nt.cmpZ
  rw [if_neg qhb21]
 ·replace hb21 : ((Nt.az a1) != (Nt.az b1)) = false := hb21
  have qhb21 := hb21
  simp at qhb21
  refine zzs (zzp ?_)
  refine zzd (zzz [0, 1, 3, 0, 8, 31, 63, 127] [(0, []), (1, []), (3, []), (4, []), (2, []), (5, []), (6, []), (7, [])] xj xj (zza 19 (.adr 3 0) (zzi 20 (zI b0) ty3 zzl (zza 22 (.adr 2 0) (zzi 23 (zI a0) ty3 zzl (zzg 21 114 [.int .i64 b0] ?_))))))
  intro w34 u34 e34 d34
  have k37 := k_csize (z := b0) d34 xq xq
  with_reducible refine zPm k37 ?_
  rintro _ u35 g36 rfl
  have haz38 := Nt.az_bd (z := b0) xq xq
  refine zzg 24 114 [.int .i64 a0] ?_
  intro w39 u39 e39 d39
  have k42 := k_csize (z := a0) d39 xq xq
  with_reducible refine zPm k42 ?_
  rintro _ u40 g41 rfl
  have haz43 := Nt.az_bd (z := a0) xq xq
  refine zyq 25 (x := zI (IntKind.i64.wrap ((Nt.az b0) - (Nt.az a0)))) (zI ((Nt.az b0) - (Nt.az a0))) yy (zza 4 (zI ((Nt.az b0) - (Nt.az a0))) (zzb (zzo (ret0 [.int .i64 ((Nt.az b0) - (Nt.az a0))] ⟨zzq, trivial⟩ fun u44 e45 => ?_))))
  show Value.int _ _ = Value.int _ _
  unfold Nt.cmpZ
  rw [if_pos qhb21]
set_option maxHeartbeats 2000000 in
theorem k_cins {u w : World} {g n c : Nat} {L : List (List Int)} {X : List Value} (d : Dat u w) (hg : w.heap[g]? = some (.cells (kcs L ++ X).toArray 58 (0, 0))) (hu : u.heap[g]? = some hidO) (hL : OkR 2 L) (hLn : L.length = n) (hn9 : n ≤ 1000) : Calls Tryz.prog 192 #[.slice (some ⟨g, 0, none⟩) n c, .int .i64 0, .int .i64 (n : Int), .func (.func 113) #[] #[]] w (PostL u w g fun V u' => V = ⟨58, kcs (Nt.sortR L) ++ X⟩) := by
 refine calls_lent (args := [.int .i64 0, .int .i64 (n : Int), .func (.func 113) #[] #[]]) Tryz.func192 rfl Tryz.ntmps192 Tryz.results192 (le_b rfl) d hg hu ?_
 refine sq9 (zza 10 (zI 0) (zza 11 (zI 1) (zza 8 (zI 1) (zzb (zzt (zyn (I := fun m11 S' u' => ∃ (i : Nat) (L' : List (List Int)), (m11 = n - i) ∧ (1 ≤ i) ∧ (OkR 2 L') ∧ (L'.length = n) ∧ (Nt.outR L' i (n - i) = Nt.sortR L) ∧ (S' = St.of 53 [(0, .slc 53 0 n c), (1, zI 0), (2, zI n), (3, .v (.func (.func 113) #[] #[])), (8, zI i)] [(53, ⟨58, kcs L' ++ X⟩)]) ∧ (Ext u u')) (fun m S u1 u2 e h => by obtain ⟨i, L', hm, p0, p1, p2, p3, hS, hE⟩ := h; exact ⟨i, L', hm, p0, p1, p2, p3, hS, hE.trans e⟩) _ yz ⟨1, L, rfl, Nat.le_refl _, hL, hLn, (by rw [← hLn]; rfl), rfl, (Ext.refl _)⟩ ?_))))))
 rintro m11 _ u11 ⟨i, L', hm11, hi, hL', hLn', hOut, rfl, e11⟩
 refine zzd (sq9 (zza 12 (zI i) (zza 13 (zI n) (zza 14 (zB (decide ((i : Int) < (n : Int)))) (zzb (zzu (b := decide ((i : Int) < (n : Int))) xj (fun hb12 => ?_) (fun hb12 => ?_)))))))
 ·replace hb12 : (decide ((i : Int) < (n : Int))) = true := hb12
  have qhb12 := of_decide_eq_true hb12
  refine zzs (zzp ?_)
  refine zzd (zzt (sq9 (zza 17 (zI i) (zza 9 (zI i) (zzb (zzt (zyn (I := fun m13 S' u' => ∃ (j : Nat) (M : List (List Int)), (m13 = j) ∧ (j < n) ∧ (OkR 2 M) ∧ (M.length = n) ∧ (Nt.insR M j = Nt.insR L' i) ∧ (S' = St.of 53 [(0, .slc 53 0 n c), (1, zI 0), (2, zI n), (3, .v (.func (.func 113) #[] #[])), (8, zI i), (9, zI j)] [(53, ⟨58, kcs M ++ X⟩)]) ∧ (Ext u11 u')) (fun m S u1 u2 e h => by obtain ⟨j, M, hm, p0, p1, p2, p3, hS, hE⟩ := h; exact ⟨j, M, hm, p0, p1, p2, p3, hS, hE.trans e⟩) _ yz ⟨i, L', rfl, by omega, hL', hLn', rfl, rfl, (Ext.refl _)⟩ ?_)))))))
  rintro m13 _ u13 ⟨j, M, hm13, hj, hM, hMn, hIns, rfl, e13⟩
  refine zzd (zzd (zzz [0, 0, 3, 7, 15, 15, 15, 111, 239, 15, 15, 1039, 3599, 7695, 16383, 32767, 65535] [(0, []), (1, []), (2, []), (3, []), (4, []), (5, []), (6, []), (7, []), (8, []), (9, []), (10, []), (11, []), (12, []), (13, []), (14, []), (15, []), (16, [])] xj xj (zza 18 (zI j) (zza 19 (zI 0) (zza 20 (zB (decide ((0 : Int) < (j : Int)))) ?_)))))
  rcases Bool.eq_false_or_eq_true (decide ((0 : Int) < (j : Int))) with hs14 | hs14
  ·refine zyq 21 (x := zB (decide ((0 : Int) < (j : Int)))) (zB true) (by rw [hs14]) ?_
   have qhs14 := of_decide_eq_true hs14
   refine zza 22 (.v (.func (.func 113) #[] #[])) ?_ (hw := w1 3 true 21)
   refine zza 23 (.slc 53 0 n c) ?_ (hw := w1 3 true 21)
   refine zza 24 (zI j) ?_ (hw := w1 3 true 21)
   refine zyw 25 (off' := j * 2) (n := n) (off := 0) (sz := 2) (i := (j : Int)) sl81 xq xq xq ?_ (hw := w1 3 true 21)
   refine zzi 26 (V := ⟨58, kcs M ++ X⟩) (off := j * 2) (.v (.agg #[.int .i64 (gi M j 0), .int .i64 (gi M j 1)])) ty58 (part_k2 (OkR.rows hM) (i := j) (by rw [hMn]; omega) rfl) ?_ (hw := w1 3 true 21)
   have hz150 := OkR.bd hM (i := j) (j := 0) (by rw [hMn]; omega) yq
   have hz151 := OkR.bd hM (i := j) (j := 1) (by rw [hMn]; omega) yq
   refine zza 27 (.slc 53 0 n c) ?_ (hw := w1 3 true 21)
   refine zza 28 (zI j) ?_ (hw := w1 3 true 21)
   refine zyq 29 (x := zI (IntKind.i64.wrap ((j : Int) - 1))) (zI (j - 1 : Nat)) (eqI xk) ?_ (hw := w1 3 true 21)
   refine zyw 30 (off' := (j - 1) * 2) (n := n) (off := 0) (sz := 2) (i := ((j - 1 : Nat) : Int)) sl81 xq xq xq ?_ (hw := w1 3 true 21)
   refine zzi 31 (V := ⟨58, kcs M ++ X⟩) (off := (j - 1) * 2) (.v (.agg #[.int .i64 (gi M (j - 1) 0), .int .i64 (gi M (j - 1) 1)])) ty58 (part_k2 (OkR.rows hM) (i := j - 1) (by rw [hMn]; omega) rfl) ?_ (hw := w1 3 true 21)
   have hz160 := OkR.bd hM (i := j - 1) (j := 0) (by rw [hMn]; omega) yq
   have hz161 := OkR.bd hM (i := j - 1) (j := 1) (by rw [hMn]; omega) yq
   refine zzg 32 113 [.agg #[.int .i64 (gi M j 0), .int .i64 (gi M j 1)], .agg #[.int .i64 (gi M (j - 1) 0), .int .i64 (gi M (j - 1) 1)]] ?_ (hw := w1 3 true 21)
   intro w17 u17 e17 d17
   have k20 := k_ccmp (a0 := gi M j 0) (a1 := gi M j 1) (b0 := gi M (j - 1) 0) (b1 := gi M (j - 1) 1) d17 xq xq xq xq
   with_reducible refine zPm k20 ?_
   rintro _ u18 g19 rfl
   refine zza 33 (zB (decide ((Nt.cmpZ (gi M j 0) (gi M j 1) (gi M (j - 1) 0) (gi M (j - 1) 1)) < 0))) ?_ (hw := w1 3 true 21)
   refine zza 34 (zB (decide ((Nt.cmpZ (gi M j 0) (gi M j 1) (gi M (j - 1) 0) (gi M (j - 1) 1)) < 0))) (zzc 53 [(0, .slc 53 0 n c), (1, zI 0), (2, zI n), (3, .v (.func (.func 113) #[] #[])), (8, zI i), (9, zI j), (34, zB (decide ((Nt.cmpZ (gi M j 0) (gi M j 1) (gi M (j - 1) 0) (gi M (j - 1) 1)) < 0)))] [(53, ⟨58, kcs M ++ X⟩)] (zzu (b := decide ((Nt.cmpZ (gi M j 0) (gi M j 1) (gi M (j - 1) 0) (gi M (j - 1) 1)) < 0)) xj (fun hb21 => ?_) (fun hb21 => ?_)))
   ·replace hb21 : (decide ((Nt.cmpZ (gi M j 0) (gi M j 1) (gi M (j - 1) 0) (gi M (j - 1) 1)) < 0)) = true := hb21
    have qhb21 := of_decide_eq_true hb21
    refine zzs (zzp ?_)
    refine zzd (zzt (zzz [0, 0, 0, 0, 8, 0, 0, 64, 224, 480, 0, 0, 3072, 7168, 16355, 32739, 65535, 131071] [(0, []), (1, []), (2, []), (3, []), (4, []), (5, []), (6, []), (7, []), (8, []), (9, []), (10, []), (11, []), (12, []), (13, []), (14, []), (15, []), (16, []), (17, [])] xj xj (zza 37 (.slc 53 0 n c) (zza 38 (zI j) (zza 39 (.slc 53 0 n c) (zza 40 (zI j) (zyq 41 (x := zI (IntKind.i64.wrap ((j : Int) - 1))) (zI (j - 1 : Nat)) (eqI xk) (zza 42 (.slc 53 0 n c) (zza 43 (zI j) (zyq 44 (x := zI (IntKind.i64.wrap ((j : Int) - 1))) (zI (j - 1 : Nat)) (eqI xk) (zyw 45 (off' := (j - 1) * 2) (n := n) (off := 0) (sz := 2) (i := ((j - 1 : Nat) : Int)) sl81 xq xq xq ?_)))))))))))
    refine zzi 46 (V := ⟨58, kcs M ++ X⟩) (off := (j - 1) * 2) (.v (.agg #[.int .i64 (gi M (j - 1) 0), .int .i64 (gi M (j - 1) 1)])) ty58 (part_k2 (OkR.rows hM) (i := j - 1) (by rw [hMn]; omega) rfl) ?_
    have hz220 := OkR.bd hM (i := j - 1) (j := 0) (by rw [hMn]; omega) yq
    have hz221 := OkR.bd hM (i := j - 1) (j := 1) (by rw [hMn]; omega) yq
    refine zza 47 (.slc 53 0 n c) (zza 48 (zI j) (zyw 49 (off' := j * 2) (n := n) (off := 0) (sz := 2) (i := (j : Int)) sl81 xq xq xq ?_))
    refine zzi 50 (V := ⟨58, kcs M ++ X⟩) (off := j * 2) (.v (.agg #[.int .i64 (gi M j 0), .int .i64 (gi M j 1)])) ty58 (part_k2 (OkR.rows hM) (i := j) (by rw [hMn]; omega) rfl) ?_
    have hz230 := OkR.bd hM (i := j) (j := 0) (by rw [hMn]; omega) yq
    have hz231 := OkR.bd hM (i := j) (j := 1) (by rw [hMn]; omega) yq
    refine zyw 51 (off' := j * 2) (n := n) (off := 0) (sz := 2) (i := (j : Int)) sl81 xq xq xq ?_
    have hS24 : OkR 2 (M.set j [gi M (j - 1) 0, gi M (j - 1) 1]) := (OkR.set2 hM xq xq)
    have hT24 : (M.set j [gi M (j - 1) 0, gi M (j - 1) 1]).length = n := (by rw [List.length_set]; exact hMn)
    refine zyv (V := ⟨58, kcs M ++ X⟩) (off := j * 2) (kcs (M.set j [gi M (j - 1) 0, gi M (j - 1) 1]) ++ X) ty58 (by rw [List.length_append, kcs_len (OkR.rows hM), hMn]; omega) (setL_k2 (OkR.rows hM) (i := j) (by rw [hMn]; omega) rfl) ?_
    refine zyw 52 (off' := (j - 1) * 2) (n := n) (off := 0) (sz := 2) (i := ((j - 1 : Nat) : Int)) sl81 xq xq xq ?_
    have hS25 : OkR 2 ((M.set j [gi M (j - 1) 0, gi M (j - 1) 1]).set (j - 1) [gi M j 0, gi M j 1]) := (OkR.set2 hS24 xq xq)
    have hT25 : ((M.set j [gi M (j - 1) 0, gi M (j - 1) 1]).set (j - 1) [gi M j 0, gi M j 1]).length = n := (by rw [List.length_set]; exact hT24)
    refine zyv (V := ⟨58, kcs (M.set j [gi M (j - 1) 0, gi M (j - 1) 1]) ++ X⟩) (off := (j - 1) * 2) (kcs ((M.set j [gi M (j - 1) 0, gi M (j - 1) 1]).set (j - 1) [gi M j 0, gi M j 1]) ++ X) ty58 (by rw [List.length_append, kcs_len (OkR.rows hS24), hT24]; omega) (setL_k2 (OkR.rows hS24) (i := j - 1) (by rw [hT24]; omega) rfl) ?_
    refine zzx ?_
    refine zzp (zzf (zza 35 (zI j) (zyq 36 (x := zI (IntKind.i64.wrap ((j : Int) - 1))) (zI (j - 1 : Nat)) (eqI xk) (zza 9 (zI (j - 1 : Nat)) (zzx ?_)))))
    refine ⟨_, ?_, _, by exact zzv _ _ _, j - 1, ((M.set j [gi M (j - 1) 0, gi M (j - 1) 1]).set (j - 1) [gi M j 0, gi M j 1]), rfl, by omega, hS25, hT25, (by rw [← hIns, Nt.insR_go xq qhb21]; rfl), rfl, (e13.trans (e17.trans g19.ext))⟩
    omega
   ·replace hb21 : (decide ((Nt.cmpZ (gi M j 0) (gi M j 1) (gi M (j - 1) 0) (gi M (j - 1) 1)) < 0)) = false := hb21
    have qhb21 := of_decide_eq_false hb21
    refine zyc (zzp (zzf (zza 15 (zI i) (zyq 16 (x := zI (IntKind.i64.wrap ((i : Int) + 1))) (zI (i + 1 : Nat)) (eqI xk) (zza 8 (zI (i + 1 : Nat)) (zzx ?_))))))
    refine ⟨_, ?_, _, by exact zzv _ _ _, i + 1, M, rfl, by omega, hM, hMn, (by have h9 := hOut; rw [Nt.outR_step xq, ← hIns, Nt.insR_stop (fun _ => qhb21)] at h9; exact h9), rfl, (e11.trans (e13.trans (e17.trans g19.ext)))⟩
    omega
  ·refine zyq 21 (x := zB (decide ((0 : Int) < (j : Int)))) (zB false) (by rw [hs14]) ?_
   have qhs14 := of_decide_eq_false hs14
   refine zzn 22 (uw 3 true false 21) (zzn 23 (uw 3 true false 21) (zzn 24 (uw 3 true false 21) (zzn 25 (uw 3 true false 21) (zzn 26 (uw 3 true false 21) (zzn 27 (uw 3 true false 21) (zzn 28 (uw 3 true false 21) (zzn 29 (uw 3 true false 21) (zzn 30 (uw 3 true false 21) (zzn 31 (uw 3 true false 21) (zzn 32 (uw 3 true false 21) (zzn 33 (uw 3 true false 21) ?_)))))))))))
   refine zza 34 (zB false) (zzb (zys xj (zyc (zzp (zzf (zza 15 (zI i) (zyq 16 (x := zI (IntKind.i64.wrap ((i : Int) + 1))) (zI (i + 1 : Nat)) (eqI xk) (zza 8 (zI (i + 1 : Nat)) (zzx ?_)))))))))
   refine ⟨_, ?_, _, by exact zzv _ _ _, i + 1, M, rfl, by omega, hM, hMn, (by have h9 := hOut; rw [Nt.outR_step xq, ← hIns, Nt.insR_stop (fun h9 => absurd h9 xq)] at h9; exact h9), rfl, (e11.trans e13)⟩
   omega
 ·replace hb12 : (decide ((i : Int) < (n : Int))) = false := hb12
  have qhb12 := of_decide_eq_false hb12
  refine zyc ?_
  refine lent_end (V := ⟨58, kcs L' ++ X⟩) rfl rfl (fun _ _ => ?_)
  have h9 := hOut
  rw [show n - i = 0 by omega] at h9
  rw [← h9]; rfl
theorem k_cstable {u w : World} {g n c : Nat} {L : List (List Int)} {X : List Value} (d : Dat u w) (hg : w.heap[g]? = some (.cells (kcs L ++ X).toArray 58 (0, 0))) (hu : u.heap[g]? = some hidO) (hL : OkR 2 L) (hLn : L.length = n) (hn0 : 0 < n ∧ n ≤ 12) : Calls Tryz.prog 166 #[.slice (some ⟨g, 0, none⟩) n c, .int .i64 (n : Int), .func (.func 113) #[] #[]] w (PostL u w g fun V u' => V = ⟨58, kcs (Nt.sortR L) ++ X⟩) := by
 refine calls_lent (args := [.int .i64 (n : Int), .func (.func 113) #[] #[]]) Tryz.func166 rfl Tryz.ntmps166 Tryz.results166 (le_b rfl) d hg hu ?_
 refine sq9 (zza 6 (zI 20) (zzb (sq9 (zza 10 (zI 20) (zza 7 (zI 0) (zza 8 (zI 20) (zzb (zzd (zzt (sw_rounds 0 ?_))))))))))
 refine zzd (sq9 (zza 11 (zI 20) (zza 12 (zI n) (zza 13 (zB (decide ((20 : Int) ≤ (n : Int)))) (zzb (zzu (b := decide ((20 : Int) ≤ (n : Int))) xj (fun hb => ?_) (fun hb => ?_)))))))
 ·exact absurd hb (by rw [show (decide ((20 : Int) ≤ (n : Int))) = false from decide_eq_false xq]; decide)
 ·clear hb
  refine zyc (zzp (sq9 (zza 23 (.slc 63 0 n c) (zza 24 (zI 0) (zza 25 (zI n) (zza 26 (.v (.func (.func 113) #[] #[])) ?_))))))
  have kc11 := fun (g : Nat) (w u1 : World) (e : Ext u u1) (d : Dat u1 w) (hg : w.heap[g]? = some (.cells (kcs L ++ X).toArray 58 (0, 0))) (hu : u1.heap[g]? = some hidO) => k_cins (n := n) (c := c) d hg hu hL hLn xq
  refine sy_lend 27 192 (t := 63) (V := ⟨58, kcs L ++ X⟩) (len := n) (cap := c) [.int .i64 0, .int .i64 n, .func (.func 113) #[] #[]] xj kc11 ?_
  clear kc11
  rintro _ u11 e11 rfl
  refine zzc 63 [(0, .slc 63 0 n c), (1, zI n), (2, .v (.func (.func 113) #[] #[])), (6, zI 20)] [(63, ⟨58, kcs (Nt.sortR L) ++ X⟩)] (zzt (sw_rounds 0 ?_))
  refine zzd (sq9 (zza 28 (zI 20) (zza 29 (zI n) (zza 30 (zB (decide ((20 : Int) < (n : Int)))) (zzb (zzu (b := decide ((20 : Int) < (n : Int))) xj (fun hb => ?_) (fun hb => ?_)))))))
  ·exact absurd hb (by rw [show (decide ((20 : Int) < (n : Int))) = false from decide_eq_false xq]; decide)
  ·clear hb
   refine zyc ?_
   exact lent_end rfl rfl (fun _ _ => rfl)
theorem k_csort {u w : World} {g n c : Nat} {L : List (List Int)} {X : List Value} (d : Dat u w) (hg : w.heap[g]? = some (.cells (kcs L ++ X).toArray 58 (0, 0))) (hu : u.heap[g]? = some hidO) (hL : OkR 2 L) (hLn : L.length = n) (hn0 : 0 < n ∧ n ≤ 12) : Calls Tryz.prog 112 #[.slice (some ⟨g, 0, none⟩) n c, .func (.func 113) #[] #[]] w (PostL u w g fun V u' => V = ⟨58, kcs (Nt.sortR L) ++ X⟩) := by
 refine calls_lent (args := [.func (.func 113) #[] #[]]) Tryz.func112 rfl Tryz.ntmps112 Tryz.results112 (le_b rfl) d hg hu ?_
 refine zzf (zza 4 (.slc 9 0 n c) (zza 5 (.slc 9 0 n c) (zza 6 (zI n) (zza 7 (.v (.func (.func 113) #[] #[])) ?_))))
 have kc11 := fun (g : Nat) (w u1 : World) (e : Ext u u1) (d : Dat u1 w) (hg : w.heap[g]? = some (.cells (kcs L ++ X).toArray 58 (0, 0))) (hu : u1.heap[g]? = some hidO) => k_cstable (n := n) (c := c) d hg hu hL hLn xq
 refine sy_lend 8 166 (t := 9) (V := ⟨58, kcs L ++ X⟩) (len := n) (cap := c) [.int .i64 n, .func (.func 113) #[] #[]] xj kc11 ?_
 clear kc11
 rintro _ u11 e11 rfl
 refine zzx ?_
 exact lent_end rfl rfl (fun _ _ => rfl)
set_option maxHeartbeats 1000000 in
theorem k_clone2 {u w : World} {x : Sl} {L : List (List Int)} (d : Dat u w) (hx : IrV 2 u x L) (h0 : 0 < L.length) (h9 : L.length ≤ 1000000000) : Calls Tryz.prog 111 #[x.v] w (Post u w fun v u' => ∃ (b c : Nat) (X : List Value), v = .slice (some ⟨b, 0, none⟩) x.n c ∧ u.heap.size ≤ b ∧ u'.heap[b]? = some (.cells (kcs L ++ X).toArray 58 (0, 0)) ∧ (kcs L ++ X).length = c * 2 ∧ x.n ≤ c ∧ c ≤ maxLen) := by
 have hn := hx.len
 obtain ⟨xa, n0, c0⟩ := x
 obtain ⟨hR, h1, h2, h3, h4⟩ := hx
 change n0 = L.length at hn
 obtain ⟨b0, o0, e, hb0, hc⟩ := h4 (by show 0 < n0; omega)
 change xa = _ at e
 subst e
 change Calls _ _ #[.slice (some ⟨b0, o0, none⟩) n0 c0] _ _
 refine zzm (args := [.slice (some ⟨b0, o0, none⟩) n0 c0]) Tryz.func111 rfl Tryz.ntmps111 (rs := [.tmp 2]) Tryz.results111 (le_b rfl) (le_b rfl) d ?_
 refine sq9 (zza 2 (.v (.slice none 0 0)) (zzb (zzd (sq9 (zza 3 (.v (.slice (some ⟨b0, o0, none⟩) n0 c0)) (zza 4 (zB false) (zzb (zys xj (zzs (zzp ?_))))))))))
 refine sq9 (sy_lit 5 ⟨58, []⟩ 0 ?_)
 refine zza 6 (.v (.slice (some ⟨b0, o0, none⟩) n0 c0)) (sy_app1 7 (T := 81) (E := 58) (z := .agg #[.int .i64 0, .int .i64 0]) (size := 2) (bytes := 16) (b := b0) (off := o0) (m := n0) (c := c0) (n := 0) (cap := 0) (t := 5) (cs0 := []) [5, 7] (kcs L) xj xj xj yq (by rw [kcs_len hR, hn]) (fun j v hv => by have h9 := (List.getElem?_eq_some_iff.1 hv).1; rw [kcs_len hR] at h9; rw [hc j h9]; exact hv) kcs_one xq yv xq xq yq rfl xw ?_)
 intro c1 cs k1 k2 k3 k4
 refine zza 2 (.slc 7 0 (0 + n0) c1) (zzc 8 [(2, .slc 7 0 (0 + n0) c1)] [(7, ⟨58, cs⟩)] (zyp (r := 2) (t := 7) [2, 7] xw xj (by rfl) (by rfl) xj (fun b u2 e2 hb hh => ?_)))
 refine zzo (ret0 [.slice (some ⟨b, 0, none⟩) (0 + n0) c1] ⟨zzq, trivial⟩ fun u11 e12 => ?_)
 rw [Nat.zero_add] at k1 k4
 change cs.take (n0 * 2) = kcs L at k4
 have e9 : cs = kcs L ++ cs.drop (n0 * 2) := by rw [← k4]; exact (List.take_append_drop (n0 * 2) cs).symm
 refine ⟨b, c1, cs.drop (n0 * 2), ?_, hb, ?_, by rw [← e9]; exact k3, k1, k2⟩
 ·show Value.slice _ (0 + n0) _ = _; rw [Nat.zero_add]
 ·rw [← e9]; exact e12.cells hh
set_option maxHeartbeats 1000000 in
theorem k_clone3 {u w : World} {x : Sl} {L : List (List Int)} (d : Dat u w) (hx : IrV 3 u x L) (h0 : 0 < L.length) (h9 : L.length ≤ 1000000000) : Calls Tryz.prog 115 #[x.v] w (Post u w fun v u' => ∃ (b c : Nat) (X : List Value), v = .slice (some ⟨b, 0, none⟩) x.n c ∧ u.heap.size ≤ b ∧ u'.heap[b]? = some (.cells (kcs L ++ X).toArray 85 (0, 0)) ∧ (kcs L ++ X).length = c * 3 ∧ x.n ≤ c ∧ c ≤ maxLen) := by
 have hn := hx.len
 obtain ⟨xa, n0, c0⟩ := x
 obtain ⟨hR, h1, h2, h3, h4⟩ := hx
 change n0 = L.length at hn
 obtain ⟨b0, o0, e, hb0, hc⟩ := h4 (by show 0 < n0; omega)
 change xa = _ at e
 subst e
 change Calls _ _ #[.slice (some ⟨b0, o0, none⟩) n0 c0] _ _
 refine zzm (args := [.slice (some ⟨b0, o0, none⟩) n0 c0]) Tryz.func115 rfl Tryz.ntmps115 (rs := [.tmp 2]) Tryz.results115 (le_b rfl) (le_b rfl) d ?_
 refine sq9 (zza 2 (.v (.slice none 0 0)) (zzb (zzd (sq9 (zza 3 (.v (.slice (some ⟨b0, o0, none⟩) n0 c0)) (zza 4 (zB false) (zzb (zys xj (zzs (zzp ?_))))))))))
 refine sq9 (sy_lit 5 ⟨85, []⟩ 0 ?_)
 refine zza 6 (.v (.slice (some ⟨b0, o0, none⟩) n0 c0)) (sy_app1 7 (T := 80) (E := 85) (z := .agg #[.int .i64 0, .int .i64 0, .int .i64 0]) (size := 3) (bytes := 24) (b := b0) (off := o0) (m := n0) (c := c0) (n := 0) (cap := 0) (t := 5) (cs0 := []) [5, 7] (kcs L) xj xj xj yq (by rw [kcs_len hR, hn]) (fun j v hv => by have h9 := (List.getElem?_eq_some_iff.1 hv).1; rw [kcs_len hR] at h9; rw [hc j h9]; exact hv) kcs_one xq yv xq xq yq rfl xw ?_)
 intro c1 cs k1 k2 k3 k4
 refine zza 2 (.slc 7 0 (0 + n0) c1) (zzc 8 [(2, .slc 7 0 (0 + n0) c1)] [(7, ⟨85, cs⟩)] (zyp (r := 2) (t := 7) [2, 7] xw xj (by rfl) (by rfl) xj (fun b u2 e2 hb hh => ?_)))
 refine zzo (ret0 [.slice (some ⟨b, 0, none⟩) (0 + n0) c1] ⟨zzq, trivial⟩ fun u11 e12 => ?_)
 rw [Nat.zero_add] at k1 k4
 change cs.take (n0 * 3) = kcs L at k4
 have e9 : cs = kcs L ++ cs.drop (n0 * 3) := by rw [← k4]; exact (List.take_append_drop (n0 * 3) cs).symm
 refine ⟨b, c1, cs.drop (n0 * 3), ?_, hb, ?_, by rw [← e9]; exact k3, k1, k2⟩
 ·show Value.slice _ (0 + n0) _ = _; rw [Nat.zero_add]
 ·rw [← e9]; exact e12.cells hh
def Nt.smallB (l : List Int) : Bool := decide (∀ j, j < l.length → -16777216 ≤ l.getD j 0 ∧ l.getD j 0 ≤ 16777216)
theorem Nt.smallB_of {k i : Nat} {L : List (List Int)} (h : OkR k L) (hi : i < L.length) : Nt.smallB (L.getD i []) = true := decide_eq_true (fun j hj => by
 have h9 := h.bd hi (j := j) (by rw [(h.mem hi).1] at hj; exact hj)
 exact h9)
theorem k_cwithin {u w : World} {x : Sl} {l : List Int} (d : Dat u w) (hx : SlR .i64 u x.a x.n x.c l) (hb : ∀ z ∈ l, -9223372036854775808 ≤ z ∧ z ≤ 9223372036854775807) : Calls Tryz.prog 110 #[x.v] w (Post u w fun v _ => v = .bool (Nt.smallB l)) := by
 have hlen : l.length = x.n := hx.1
 have hmx8 := Nat.le_trans hx.2.1 hx.2.2.1
 unfold maxLen at hmx8
 refine zzm (args := [.slice x.a x.n x.c]) Tryz.func110 rfl Tryz.ntmps110 (rs := [.tmp 2]) Tryz.results110 (le_b rfl) (le_b rfl) d ?_
 refine sq9 (zza 2 (zB false) (zzb (zzd (sq9 (zza 5 (.v x.v) (zza 6 (zI x.n) (zza 7 (zI 0) (zzb (zzt (zyn (I := fun m11 S' u' => ∃ (i : Nat), (m11 = x.n - i) ∧ (i ≤ x.n) ∧ (∀ j, j < i → -16777216 ≤ l.getD j 0 ∧ l.getD j 0 ≤ 16777216) ∧ (S' = St.of 18 [(5, .v (.slice x.a x.n x.c)), (6, zI x.n), (7, zI i)] []) ∧ (Ext u u')) (fun m S u1 u2 e h => by obtain ⟨i, hm, p0, p1, hS, hE⟩ := h; exact ⟨i, hm, p0, p1, hS, hE.trans e⟩) _ yz ⟨0, rfl, Nat.zero_le _, fun j hj => absurd hj (Nat.not_lt_zero j), rfl, (Ext.refl _)⟩ ?_))))))))))
 rintro m11 _ u11 ⟨i, hm11, hi, hs, rfl, e11⟩
 refine sq9 (zza 8 (zB (decide ((i : Int) < (x.n : Int)))) (zzb (zzd (zzu (b := decide ((i : Int) < (x.n : Int))) xj (fun hb12 => ?_) (fun hb12 => ?_)))))
 ·replace hb12 : (decide ((i : Int) < (x.n : Int))) = true := hb12
  have qhb12 := of_decide_eq_true hb12
  refine zzs (zzp ?_)
  refine zzd (zzt (sq9 ?_))
  have hl13 := ((hx.ext e11)).1
  obtain ⟨b13, o13, hA13, hc13⟩ := ints_at (hx.ext e11) (i := i) xq
  have hz13 := ints_bd hb xq i
  refine zya 9 (o13 + i * 1) (n := x.n) (off := o13) (sz := 1) (i := (i : Int)) xq hA13 xq xq sl22 (zyl 10 (.int .i64 (l.getD i 0)) hc13 ty3 (zza 4 (zI (l.getD i 0)) (zzb (sq9 (zza 11 (zI (l.getD i 0)) (zza 12 (zB (decide ((l.getD i 0) < (-16777216)))) ?_))))))
  rcases Bool.eq_false_or_eq_true (decide ((l.getD i 0) < (-16777216))) with hs14 | hs14
  ·refine zyq 13 (x := zB (decide ((l.getD i 0) < (-16777216)))) (zB true) (by rw [hs14]) ?_
   have qhs14 := of_decide_eq_true hs14
   refine zzn 14 (uw 2 false true 13) (zzn 15 (uw 2 false true 13) (zza 16 (zB true) (zzb (zyr xj (sq9 (zza 2 (zB false) (zzb (zzo (zyu (zzw (zyt (zyu (zzw (ret0 [.bool false] ⟨zzq, trivial⟩ fun u15 e16 => ?_))))))))))))))
   show Value.bool _ = Value.bool _
   congr 1
   exact (decide_eq_false (fun k => by have h9 := k i xq; omega)).symm
  ·refine zyq 13 (x := zB (decide ((l.getD i 0) < (-16777216)))) (zB false) (by rw [hs14]) ?_
   have qhs14 := of_decide_eq_false hs14
   refine zza 14 (zI (l.getD i 0)) ?_ (hw := w1 2 false 13)
   refine zza 15 (zB (decide ((16777216 : Int) < (l.getD i 0)))) ?_ (hw := w1 2 false 13)
   refine zza 16 (zB (decide ((16777216 : Int) < (l.getD i 0)))) (zzb (zzu (b := decide ((16777216 : Int) < (l.getD i 0))) xj (fun hb17 => ?_) (fun hb17 => ?_)))
   ·replace hb17 : (decide ((16777216 : Int) < (l.getD i 0))) = true := hb17
    have qhb17 := of_decide_eq_true hb17
    refine sq9 (zza 2 (zB false) (zzb (zzo (zyu (zzw (zyt (zyu (zzw (ret0 [.bool false] ⟨zzq, trivial⟩ fun u18 e19 => ?_)))))))))
    show Value.bool _ = Value.bool _
    congr 1
    exact (decide_eq_false (fun k => by have h9 := k i xq; omega)).symm
   ·replace hb17 : (decide ((16777216 : Int) < (l.getD i 0))) = false := hb17
    have qhb17 := of_decide_eq_false hb17
    refine zzs (zzp ?_)
    refine zzf (zyq 17 (x := zI (IntKind.i64.wrap ((i : Int) + 1))) (zI (i + 1 : Nat)) (eqI xk) (zza 7 (zI (i + 1 : Nat)) (zzx ?_)))
    refine ⟨_, ?_, _, by exact zzv _ _ _, i + 1, rfl, by omega, (fun j hj => by by_cases e : j = i; (rw [e]; omega); exact hs j xq), rfl, e11⟩
    omega
 ·replace hb12 : (decide ((i : Int) < (x.n : Int))) = false := hb12
  have qhb12 := of_decide_eq_false hb12
  refine zyc (zzp (sq9 (zza 2 (zB true) (zzb (zzo (ret0 [.bool true] ⟨zzq, trivial⟩ fun u20 e21 => ?_))))))
  show Value.bool _ = Value.bool _
  congr 1
  exact (decide_eq_true (fun j hj => hs j xq)).symm
set_option maxHeartbeats 1000000 in
theorem k_cdelete {u w : World} {g n c i : Nat} {L : List (List Int)} {X : List Value} (d : Dat u w) (hg : w.heap[g]? = some (.cells (kcs L ++ X).toArray 85 (0, 0))) (hu : u.heap[g]? = some hidO) (hL : OkR 3 L) (hLn : L.length = n) (hcl : (kcs L ++ X).length = c * 3) (hi : i < n) (hnc : n ≤ c) (hn9 : n ≤ 1000) : Calls Tryz.prog 117 #[.slice (some ⟨g, 0, none⟩) n c, .int .i64 (i : Int), .int .i64 ((i + 1 : Nat) : Int)] w (PostS u w g c fun m V u' => m = n - 1 ∧ ∃ X', V = ⟨85, kcs (L.eraseIdx i) ++ X'⟩ ∧ (kcs (L.eraseIdx i) ++ X').length = c * 3) := by
 refine calls_lentS (args := [.int .i64 (i : Int), .int .i64 ((i + 1 : Nat) : Int)]) Tryz.func117 rfl Tryz.ntmps117 Tryz.results117 (le_b rfl) d hg hu ?_
 refine sq9 (zza 6 (.v (.slice none 0 0)) (zzb (sq9 (zza 8 (.slc 33 0 n c) (zza 9 (zI i) (zza 10 (zI (i + 1 : Nat)) (zza 11 (.slc 33 0 n c) (zza 12 (zI n) (sy_subO3 13 (off := 0) (n := n) (c := c) i (i + 1) n sl80 rfl rfl rfl xq xq xq (fun o11 ho11 => ?_))))))))))
 refine zzc 33 [(0, .slc 33 0 n c), (1, zI i), (2, zI (i + 1 : Nat))] [(33, ⟨85, kcs L ++ X⟩)] (zzd (sq9 (zza 14 (zI i) (zza 15 (zI (i + 1 : Nat)) (zza 16 (zB ((i : Int) == ((i + 1 : Nat) : Int))) (zzb (zzu (b := (i : Int) == ((i + 1 : Nat) : Int)) xj (fun hb => ?_) (fun hb => ?_))))))))
 ·exact absurd hb (by rw [show ((i : Int) == ((i + 1 : Nat) : Int)) = false from yw]; decide)
 ·clear hb
  refine zzs (zzp ?_)
  refine sq9 (zza 18 (.slc 33 0 n c) (zza 19 (zI n) (zza 7 (zI n) (zzc 33 [(0, .slc 33 0 n c), (1, zI i), (2, zI (i + 1 : Nat)), (7, zI n)] [(33, ⟨85, kcs L ++ X⟩)] (zzd (sw_anyC [0, 0, 3, 0, 0, 24, 63, 127] [(0, []), (1, []), (2, []), (3, []), (4, []), (5, []), (6, [])] [(7, [])] xj xj xj ?_))))))
  refine zza 20 (.slc 33 0 n c) (zza 21 (zI i) (sy_frontO 22 (n := n) (c := c) i sl80 rfl xq ?_))
  refine zza 23 (.slc 33 0 n c) (zza 24 (zI (i + 1 : Nat)) (sy_tailO 25 (off := 0) (n := n) (c := c) (i + 1) sl80 rfl xq xq (fun o13 ho13 => ?_)))
  have hdl := del_rows (X := X) (zs := ics [0, 0, 0]) (OkR.rows hL) (i := i) xq rfl (off := o13) (fun h9 => by rw [ho13, if_neg xq]; omega)
  refine sy_appT 26 (T := 80) (E := 85) (z := .agg #[.int .i64 0, .int .i64 0, .int .i64 0]) (size := 3) (bytes := 24) (off := o13) (m := n - (i + 1)) (c := c - (i + 1)) (t := 33) (n := i) (cap := c) (cs0 := kcs L ++ X) (ns := kcs (L.drop (i + 1))) xj xj hcl (by rw [ho13, hcl]; split <;> omega) xq (by have h9 := hdl.1; rw [hLn] at h9; exact h9) kcs_one ?_
  refine zzx ?_
  refine sy_over 0 (.slc 33 0 (i + (n - (i + 1))) c) (zzc 33 [(0, .slc 33 0 (i + (n - (i + 1))) c), (7, zI n)] [(33, ⟨85, setL (kcs L ++ X) (i * 3) (kcs (L.drop (i + 1)))⟩)] (sq9 (zza 27 (.slc 33 0 (i + (n - (i + 1))) c) (zza 28 (.slc 33 0 (i + (n - (i + 1))) c) (zza 29 (zI ((i + (n - (i + 1)) : Nat) : Int)) (zza 30 (zI n) (sy_subO2 31 (off := 0) (n := (i + (n - (i + 1)))) (c := c) (i + (n - (i + 1))) n sl80 rfl rfl xq xq (fun o9 ho9 => ?_))))))))
  have e9 : o9 = (L.length - 1) * 3 := by rw [ho9, if_neg xq, hLn]; omega
  refine sy_clear1 (T := 80) (E := 85) (z := .agg #[.int .i64 0, .int .i64 0, .int .i64 0]) (size := 3) (bytes := 24) (off := o9) (m := n - (i + (n - (i + 1)))) (c := c - (i + (n - (i + 1)))) (t := 33) (cs0 := setL (kcs L ++ X) (i * 3) (kcs (L.drop (i + 1)))) (zs := ics [0, 0, 0]) xj xj xq xj (by rw [e9, setL_length (by rw [kcs_len (OkR.drop hL).rows, List.length_drop, hcl, hLn]; omega), hcl]; show _ + 3 ≤ _; omega) ics_one ?_
  rw [e9, hdl.2]
  refine zzc 33 [(0, .slc 33 0 (i + (n - (i + 1))) c)] [(33, ⟨85, kcs (L.eraseIdx i) ++ (ics [0, 0, 0] ++ X)⟩)] (sq9 (zza 32 (.slc 33 0 (i + (n - (i + 1))) c) (zza 6 (.slc 33 0 (i + (n - (i + 1))) c) (zzc 33 [(6, .slc 33 0 (i + (n - (i + 1))) c)] [(33, ⟨85, kcs (L.eraseIdx i) ++ (ics [0, 0, 0] ++ X)⟩)] (zzo (lentS_ret (V := ⟨85, kcs (L.eraseIdx i) ++ (ics [0, 0, 0] ++ X)⟩) (i + (n - (i + 1))) rfl rfl zzq (fun _ _ => ⟨by omega, ics [0, 0, 0] ++ X, rfl, ?_⟩)))))))
  rw [List.length_append, kcs_len (OkR.erase hL).rows, List.length_eraseIdx, if_pos xq, List.length_append, hLn]
  rw [List.length_append, kcs_len hL.rows, hLn] at hcl
  show _ + (3 + _) = _; omega
instance {k : Nat} {L : List (List Int)} : Decidable (OkR k L) := by unfold OkR; exact inferInstance
instance {k : Nat} {L : List (List Int)} : Decidable (Rows k L) := by unfold Rows; exact inferInstance
theorem okR_fill {A : List (List Int)} {m : Nat} (h : OkR 5 A) : OkR 5 (List.replicate m [0, 0, 0, 0, 0] ++ A) := fun p hp => by
 rcases List.mem_append.1 hp with hp | hp
 ·rw [(List.mem_replicate.1 hp).2]; decide
 ·exact h p hp
theorem okR_cons5 {A : List (List Int)} {a b c d e : Int} (h : OkR 5 A) (ha : -16777216 ≤ a ∧ a ≤ 16777216) (hb : -16777216 ≤ b ∧ b ≤ 16777216) (hc : -16777216 ≤ c ∧ c ≤ 16777216) (hd : -16777216 ≤ d ∧ d ≤ 16777216) (he : -16777216 ≤ e ∧ e ≤ 16777216) : OkR 5 ([a, b, c, d, e] :: A) := fun p hp => by
 rcases List.mem_cons.1 hp with rfl | hp
 ·refine ⟨rfl, fun z hz => ?_⟩
  simp at hz
  rcases hz with rfl | rfl | rfl | rfl | rfl
  ·exact ha
  ·exact hb
  ·exact hc
  ·exact hd
  ·exact he
 ·exact h p hp
theorem Nt.best_in {Z : List (List Int)} {a b : Int} {n j : Nat} (h : 0 < n) (hj : j ≤ n) : Nt.bestR Z a b j < n := by
 cases j with
 | zero => exact h
 | succ j => have := Nt.bestR_lt (Z := Z) (a0 := a) (a1 := b) (n := j + 1) xq; omega
set_option maxHeartbeats 8000000 in
theorem k_cpair {u w : World} {x y : Sl} {Z D : List (List Int)} (d : Dat u w) (hx : IrV 3 u x Z) (hy : IrV 2 u y D) (hZ : OkR 3 Z) (hD : OkR 2 D) (hl : Z.length = D.length) (h0 : 0 < D.length) (h8 : D.length ≤ 8) : Calls Tryz.prog 36 #[x.v, y.v] w (Post u w fun v u' => ∃ z : Sl, v = .tuple #[z.v, .int .i64 0] ∧ IrV 5 u' z (Nt.pairR (Nt.sortR D) Z [])) := by
 have hlx := hx.len
 have hly := hy.len
 obtain ⟨ya, yn, yc⟩ := y
 change yn = D.length at hly
 obtain rfl : yn = x.n := by omega
 refine zzm (args := [.slice x.a x.n x.c, .slice ya x.n yc]) Tryz.func36 rfl Tryz.ntmps36 (rs := [.tmp 4, .tmp 5]) Tryz.results36 (le_b rfl) (le_b rfl) d ?_
 refine sq9 (zza 4 (.v (.slice none 0 0)) (zza 5 (zI 0) (zzb (zzd (sq9 (zza 14 (.v x.v) (zza 15 (zI x.n) (zza 16 (.v (.slice ya x.n yc)) (zza 17 (zI x.n) (zza 18 (zB ((x.n : Int) != (x.n : Int))) (zyq 19 (x := zB ((x.n : Int) != (x.n : Int))) (zB false) (by rw [show ((x.n : Int) != (x.n : Int)) = false from (by first | (simp; done) | (simp; omega))]) ?_)))))))))))
 refine zza 20 (.v x.v) ?_ (hw := w1 5 false 19)
 refine zza 21 (zI x.n) ?_ (hw := w1 5 false 19)
 refine zza 22 (zB (decide ((x.n : Int) < 1))) ?_ (hw := w1 5 false 19)
 refine zza 23 (zB (decide ((x.n : Int) < 1))) (zyq 24 (x := zB (decide ((x.n : Int) < 1))) (zB false) (by rw [show (decide ((x.n : Int) < 1)) = false from decide_eq_false xq]) (zza 25 (.v x.v) ?_ (hw := w1 10 false 24)))
 refine zza 26 (zI x.n) ?_ (hw := w1 10 false 24)
 refine zza 27 (zB (decide ((8 : Int) < (x.n : Int)))) ?_ (hw := w1 10 false 24)
 refine zza 28 (zB (decide ((8 : Int) < (x.n : Int)))) (zzb (zzu (b := decide ((8 : Int) < (x.n : Int))) xj (fun hb => ?_) (fun hb => ?_)))
 ·exact absurd hb (by rw [show (decide ((8 : Int) < (x.n : Int))) = false from decide_eq_false xq]; decide)
 ·clear hb
  refine zzs (zzp ?_)
  refine zzd (sq9 (zza 29 (.v x.v) (zza 30 (zI x.n) (zza 31 (zI 0) (zzb (zzt (zyn (I := fun m13 S' u' => ∃ (i : Nat), (m13 = x.n - i) ∧ (i ≤ x.n) ∧ (S' = St.of 105 [(0, .v (.slice x.a x.n x.c)), (1, .v (.slice ya x.n yc)), (30, zI x.n), (31, zI i)] []) ∧ (Ext u u')) (fun m S u1 u2 e h => by obtain ⟨i, hm, p0, hS, hE⟩ := h; exact ⟨i, hm, p0, hS, hE.trans e⟩) _ yz ⟨0, rfl, Nat.zero_le _, rfl, (Ext.refl _)⟩ ?_)))))))
  rintro m13 _ u13 ⟨i, hm13, hi, rfl, e13⟩
  refine sq9 (zza 32 (zB (decide ((i : Int) < (x.n : Int)))) (zzb (zzd (zzu (b := decide ((i : Int) < (x.n : Int))) xj (fun hb14 => ?_) (fun hb14 => ?_)))))
  ·replace hb14 : (decide ((i : Int) < (x.n : Int))) = true := hb14
   have qhb14 := of_decide_eq_true hb14
   refine zzs (zzp ?_)
   refine zzd (zzt (sq9 (zza 33 (zI i) (zza 6 (zI i) (zzb (sq9 (zza 34 (.v x.v) (zza 35 (zI i) ?_))))))))
   have hl15 := ((hx.ext e13)).len
   obtain ⟨b15, o15, hA15, hc15⟩ := ir_row (hx.ext e13) (i := i) xq yv
   refine zya 36 (o15 + i * 3) (n := x.n) (off := o15) (sz := 3) (i := (i : Int)) xq hA15 xq xq sl80 (zza 37 (.v (.slice (some ⟨b15, o15 + i * 3, none⟩) 3 3)) (zzg 38 110 [.slice (some ⟨b15, o15 + i * 3, none⟩) 3 3] ?_))
   intro w16 u16 e16 d16
   have k19 := (show Calls _ _ #[.slice (some ⟨b15, o15 + i * 3, none⟩) 3 3] _ _ from k_cwithin (x := (⟨some ⟨b15, o15 + i * 3, none⟩, 3, 3⟩ : Sl)) d16 (hc15.ext e16) (fun z hz => by have h9 := (OkR.mem hZ (i := i) xq).2 z hz; omega))
   with_reducible refine zPm k19 ?_
   rintro _ u17 g18 rfl
   refine zza 39 (zB (!(Nt.smallB (Z.getD i [])))) (zyq 40 (x := zB (!(Nt.smallB (Z.getD i [])))) (zB false) (by rw [show (!(Nt.smallB (Z.getD i []))) = false from (by rw [Nt.smallB_of hZ xq]; rfl)]) (zza 41 (.v (.slice ya x.n yc)) ?_ (hw := w1 6 false 40)))
   refine zza 42 (zI i) ?_ (hw := w1 6 false 40)
   have hl21 := ((hy.ext (e13.trans (e16.trans g18.ext)))).len
   change x.n = _ at hl21
   obtain ⟨b21, o21, hA21, hc21⟩ := ir_row (hy.ext (e13.trans (e16.trans g18.ext))) (i := i) xq yv
   refine zya 43 (o21 + i * 2) (n := x.n) (off := o21) (sz := 2) (i := (i : Int)) xq hA21 xq xq sl81 ?_ (hw := w1 6 false 40)
   refine zza 44 (.v (.slice (some ⟨b21, o21 + i * 2, none⟩) 2 2)) ?_ (hw := w1 6 false 40)
   refine zzg 45 110 [.slice (some ⟨b21, o21 + i * 2, none⟩) 2 2] ?_ (hw := w1 6 false 40)
   intro w22 u22 e22 d22
   have k25 := (show Calls _ _ #[.slice (some ⟨b21, o21 + i * 2, none⟩) 2 2] _ _ from k_cwithin (x := (⟨some ⟨b21, o21 + i * 2, none⟩, 2, 2⟩ : Sl)) d22 (hc21.ext e22) (fun z hz => by have h9 := (OkR.mem hD (i := i) xq).2 z hz; omega))
   with_reducible refine zPm k25 ?_
   rintro _ u23 g24 rfl
   refine zza 46 (zB (!(Nt.smallB (D.getD i [])))) ?_ (hw := w1 6 false 40)
   refine zza 47 (zB (!(Nt.smallB (D.getD i [])))) (zzc 105 [(0, .v x.v), (1, .v (.slice ya x.n yc)), (30, zI x.n), (31, zI i), (47, zB (!(Nt.smallB (D.getD i []))))] [] (zzu (b := !(Nt.smallB (D.getD i []))) xj (fun hb => ?_) (fun hb => ?_)))
   ·exact absurd hb (by rw [show (!(Nt.smallB (D.getD i []))) = false from (by rw [Nt.smallB_of hD xq]; rfl)]; decide)
   ·clear hb
    refine zzs (zzp ?_)
    refine zzf (zyq 48 (x := zI (IntKind.i64.wrap ((i : Int) + 1))) (zI (i + 1 : Nat)) (eqI xk) (zza 31 (zI (i + 1 : Nat)) (zzx ?_)))
    refine ⟨_, ?_, _, by exact zzv _ _ _, i + 1, rfl, by omega, rfl, (e13.trans (e16.trans (g18.ext.trans (e22.trans g24.ext))))⟩
    omega
  ·replace hb14 : (decide ((i : Int) < (x.n : Int))) = false := hb14
   have qhb14 := of_decide_eq_false hb14
   refine zyc (zzp (sq9 (zza 49 (.v (.slice ya x.n yc)) (zzg 50 111 [.slice ya x.n yc] ?_))))
   intro w26 u26 e26 d26
   have k37 := k_clone2 d26 (hy.ext (e13.trans e26)) xq xq
   with_reducible refine zPm k37 ?_
   rintro _ u35 g36 ⟨b27, c28, X29, rfl, hb30, hh31, hlX32, hle33, hmx34⟩
   refine zza 7 (.v (.slice (some ⟨b27, 0, none⟩) x.n c28)) (zzb (zzd (sw_adopt (r := 7) (k := 50) (cs := kcs D ++ X29) (by rfl) hh31 (Nat.le_trans ((e13.trans e26).size) hb30) xj (fun u38 eB39 => ?_))))
   refine zzf (zza 51 (.slc 50 0 x.n c28) ?_)
   have kc40 := fun (g : Nat) (w u1 : World) (e : Ext u38 u1) (d : Dat u1 w) (hg : w.heap[g]? = some (.cells (kcs D ++ X29).toArray 58 (0, 0))) (hu : u1.heap[g]? = some hidO) => k_csort (n := x.n) (c := c28) d hg hu hD (show D.length = x.n by omega) xq
   refine sy_lend 52 112 (t := 50) (V := ⟨58, kcs D ++ X29⟩) (len := x.n) (cap := c28) [.func (.func 113) #[] #[]] xj kc40 ?_
   clear kc40
   rintro _ u40 e40 rfl
   refine zzc 105 [(0, .v x.v), (7, .slc 50 0 x.n c28)] [(50, ⟨58, kcs (Nt.sortR D) ++ X29⟩)] (sq9 (zza 53 (.v x.v) (zzg 54 115 [x.v] ?_)))
   intro w41 u41 e41 d41
   have k52 := k_clone3 d41 (hx.ext (e13.trans (e26.trans ((ExtB.old eB39 g36.ext hb30).trans (e40.trans e41))))) xq xq
   with_reducible refine zPm k52 ?_
   rintro _ u50 g51 ⟨b42, c43, X44, rfl, hb45, hh46, hlX47, hle48, hmx49⟩
   refine zza 8 (.v (.slice (some ⟨b42, 0, none⟩) x.n c43)) (zzb (zzd (sw_adopt (r := 8) (k := 54) (cs := kcs Z ++ X44) (by rfl) hh46 (Nat.le_trans ((e13.trans (e26.trans ((ExtB.old eB39 g36.ext hb30).trans (e40.trans e41)))).size) hb45) xj (fun u53 eB54 => ?_))))
   refine zzf (zza 55 (.slc 50 0 x.n c28) (zza 56 (zI x.n) (sy_make 57 (T := 82) (E := 87) (z := .agg #[.int .i64 0, .int .i64 0, .int .i64 0, .int .i64 0, .int .i64 0]) (size := 5) (bytes := 40) x.n (kcs (List.replicate x.n [0, 0, 0, 0, 0] ++ []) ++ []) xj xj rfl rfl xq yv (by rw [List.append_nil, List.append_nil]; exact made_k (z := [0, 0, 0, 0, 0]) rfl yq _) ?_)))
   refine zza 9 (.slc 57 0 x.n x.n) (zzc 105 [(7, .slc 50 0 x.n c28), (8, .slc 54 0 x.n c43), (9, .slc 57 0 x.n x.n)] [(50, ⟨58, kcs (Nt.sortR D) ++ X29⟩), (54, ⟨85, kcs Z ++ X44⟩), (57, ⟨87, kcs (List.replicate x.n [0, 0, 0, 0, 0] ++ []) ++ []⟩)] (zzd (sq9 (zza 58 (.slc 50 0 x.n c28) (zza 59 (zI x.n) (zza 60 (zI 0) (zzb (zzt (zyn (I := fun m55 S' u' => ∃ (i : Nat) (Z' : List (List Int)) (X' : List Value) (A' : List (List Int)), (m55 = x.n - i) ∧ (i ≤ x.n) ∧ (OkR 3 Z') ∧ (Z'.length = x.n - i) ∧ ((kcs Z' ++ X').length = c43 * 3) ∧ (OkR 5 A') ∧ (A'.length = i) ∧ (Nt.pairR ((Nt.sortR D).drop i) Z' A' = Nt.pairR (Nt.sortR D) Z []) ∧ (S' = St.of 105 [(7, .slc 50 0 x.n c28), (8, .slc 54 0 (x.n - i) c43), (9, .slc 57 0 x.n x.n), (58, .slc 50 0 x.n c28), (59, zI x.n), (60, zI i)] [(50, ⟨58, kcs (Nt.sortR D) ++ X29⟩), (54, ⟨85, kcs Z' ++ X'⟩), (57, ⟨87, kcs (List.replicate (x.n - i) [0, 0, 0, 0, 0] ++ A') ++ []⟩)]) ∧ (Ext u53 u')) (fun m S u1 u2 e h => by obtain ⟨i, Z', X', A', hm, p0, p1, p2, p3, p4, p5, p6, hS, hE⟩ := h; exact ⟨i, Z', X', A', hm, p0, p1, p2, p3, p4, p5, p6, hS, hE.trans e⟩) _ yz ⟨0, Z, X44, [], rfl, Nat.zero_le _, hZ, xq, hlX47, (fun p hp => by cases hp), rfl, rfl, rfl, (Ext.refl _)⟩ ?_)))))))))
   rintro m55 _ u55 ⟨i, Z', X', A', hm55, hi1, hZ', hZn', hX', hA', hAn', hP', rfl, e55⟩
   have hO9 : OkR 5 (List.replicate (x.n - i) [0, 0, 0, 0, 0] ++ A') := okR_fill hA'
   have hO8 : (List.replicate (x.n - i) [0, 0, 0, 0, 0] ++ A').length = x.n := by rw [List.length_append, List.length_replicate, hAn']; omega
   refine sq9 (zza 61 (zB (decide ((i : Int) < (x.n : Int)))) (zzb (zzd (zzu (b := decide ((i : Int) < (x.n : Int))) xj (fun hb56 => ?_) (fun hb56 => ?_)))))
   ·replace hb56 : (decide ((i : Int) < (x.n : Int))) = true := hb56
    have qhb56 := of_decide_eq_true hb56
    refine zzs (zzp ?_)
    refine zzd (zzt (sq9 (zza 62 (zI i) (zyw 63 (off' := i * 2) (n := x.n) (off := 0) (sz := 2) (i := (i : Int)) sl81 xq xq xq ?_))))
    refine zzi 64 (V := ⟨58, kcs (Nt.sortR D) ++ X29⟩) (off := i * 2) (.v (.agg #[.int .i64 (gi (Nt.sortR D) i 0), .int .i64 (gi (Nt.sortR D) i 1)])) ty58 (part_k2 (OkR.rows (Nt.sortR_ok hD (by rw [(show D.length = x.n by omega)]; omega))) (i := i) (by rw [(Nt.sortR_len.trans (show D.length = x.n by omega))]; omega) rfl) ?_
    have hz570 := OkR.bd (Nt.sortR_ok hD (by rw [(show D.length = x.n by omega)]; omega)) (i := i) (j := 0) (by rw [(Nt.sortR_len.trans (show D.length = x.n by omega))]; omega) yq
    have hz571 := OkR.bd (Nt.sortR_ok hD (by rw [(show D.length = x.n by omega)]; omega)) (i := i) (j := 1) (by rw [(Nt.sortR_len.trans (show D.length = x.n by omega))]; omega) yq
    refine zzk 11 ⟨58, [.int .i64 0, .int .i64 0]⟩ (zza 10 (zI i) (zzj ⟨58, [.int .i64 (gi (Nt.sortR D) i 0), .int .i64 (gi (Nt.sortR D) i 1)]⟩ ty58 ?_))
    refine zzc 105 [(7, .slc 50 0 x.n c28), (8, .slc 54 0 (x.n - i) c43), (9, .slc 57 0 x.n x.n), (10, zI i), (11, .adr 11 0), (58, .slc 50 0 x.n c28), (59, zI x.n), (60, zI i)] [(11, ⟨58, [.int .i64 (gi (Nt.sortR D) i 0), .int .i64 (gi (Nt.sortR D) i 1)]⟩), (50, ⟨58, kcs (Nt.sortR D) ++ X29⟩), (54, ⟨85, kcs Z' ++ X'⟩), (57, ⟨87, kcs (List.replicate (x.n - i) [0, 0, 0, 0, 0] ++ A') ++ []⟩)] (sq9 (zza 12 (zI 0) (zzb (zzd (sq9 (zza 65 (.slc 54 0 (x.n - i) c43) (zza 66 (zI (x.n - i : Nat)) (zza 67 (zI 0) (zzc 105 [(7, .slc 50 0 x.n c28), (8, .slc 54 0 (x.n - i) c43), (9, .slc 57 0 x.n x.n), (10, zI i), (11, .adr 11 0), (12, zI 0), (58, .slc 50 0 x.n c28), (59, zI x.n), (60, zI i), (66, zI (x.n - i : Nat)), (67, zI 0)] [(11, ⟨58, [.int .i64 (gi (Nt.sortR D) i 0), .int .i64 (gi (Nt.sortR D) i 1)]⟩), (50, ⟨58, kcs (Nt.sortR D) ++ X29⟩), (54, ⟨85, kcs Z' ++ X'⟩), (57, ⟨87, kcs (List.replicate (x.n - i) [0, 0, 0, 0, 0] ++ A') ++ []⟩)] (zzt (zyn (I := fun m58 S' u' => ∃ (j : Nat) (m : Nat), (m58 = x.n - i - j) ∧ (j ≤ x.n - i) ∧ (m = Nt.bestR Z' (gi (Nt.sortR D) i 0) (gi (Nt.sortR D) i 1) j) ∧ (S' = St.of 105 [(7, .slc 50 0 x.n c28), (8, .slc 54 0 (x.n - i) c43), (9, .slc 57 0 x.n x.n), (10, zI i), (11, .adr 11 0), (12, zI m), (58, .slc 50 0 x.n c28), (59, zI x.n), (60, zI i), (66, zI (x.n - i : Nat)), (67, zI j)] [(11, ⟨58, [.int .i64 (gi (Nt.sortR D) i 0), .int .i64 (gi (Nt.sortR D) i 1)]⟩), (50, ⟨58, kcs (Nt.sortR D) ++ X29⟩), (54, ⟨85, kcs Z' ++ X'⟩), (57, ⟨87, kcs (List.replicate (x.n - i) [0, 0, 0, 0, 0] ++ A') ++ []⟩)]) ∧ (Ext u55 u')) (fun m S u1 u2 e h => by obtain ⟨j, m, hm, p0, p1, hS, hE⟩ := h; exact ⟨j, m, hm, p0, p1, hS, hE.trans e⟩) _ yz ⟨0, 0, rfl, Nat.zero_le _, rfl, rfl, (Ext.refl _)⟩ ?_)))))))))))
    rintro m58 _ u58 ⟨j, m, hm58, hj, hm, rfl, e58⟩
    have hmL : m < x.n - i := by rw [hm]; exact Nt.best_in xq hj
    refine sq9 (zza 68 (zB (decide ((j : Int) < ((x.n - i : Nat) : Int)))) (zzb (zzd (zzu (b := decide ((j : Int) < ((x.n - i : Nat) : Int))) xj (fun hb59 => ?_) (fun hb59 => ?_)))))
    ·replace hb59 : (decide ((j : Int) < ((x.n - i : Nat) : Int))) = true := hb59
     have qhb59 := of_decide_eq_true hb59
     refine zzs (zzp ?_)
     refine zzd (zzt (sq9 (zza 69 (zI j) (zza 13 (zI j) (zzb (zzd (zzz [0, 0, 3, 7, 0, 31, 0, 0, 192, 448, 0, 2047, 4095] [(0, []), (1, []), (2, []), (3, []), (4, []), (6, []), (7, []), (8, []), (9, []), (10, []), (5, []), (11, []), (12, [])] xj xj (zza 70 (.slc 54 0 (x.n - i) c43) (zza 71 (zI j) (zyw 72 (off' := j * 3) (n := (x.n - i)) (off := 0) (sz := 3) (i := (j : Int)) sl80 xq xq xq ?_))))))))))
     refine zzi 73 (V := ⟨85, kcs Z' ++ X'⟩) (off := j * 3) (.v (.agg #[.int .i64 (gi Z' j 0), .int .i64 (gi Z' j 1), .int .i64 (gi Z' j 2)])) ty85 (part_k3 (OkR.rows hZ') (i := j) (by rw [hZn']; omega) rfl) ?_
     have hz600 := OkR.bd hZ' (i := j) (j := 0) (by rw [hZn']; omega) yq
     have hz601 := OkR.bd hZ' (i := j) (j := 1) (by rw [hZn']; omega) yq
     have hz602 := OkR.bd hZ' (i := j) (j := 2) (by rw [hZn']; omega) yq
     refine zzi 74 (.v (.agg #[.int .i64 (gi (Nt.sortR D) i 0), .int .i64 (gi (Nt.sortR D) i 1)])) ty58 zze (zza 76 (.slc 54 0 (x.n - i) c43) (zza 77 (zI m) (zyw 78 (off' := m * 3) (n := (x.n - i)) (off := 0) (sz := 3) (i := (m : Int)) sl80 xq xq xq ?_)))
     refine zzi 79 (V := ⟨85, kcs Z' ++ X'⟩) (off := m * 3) (.v (.agg #[.int .i64 (gi Z' m 0), .int .i64 (gi Z' m 1), .int .i64 (gi Z' m 2)])) ty85 (part_k3 (OkR.rows hZ') (i := m) (by rw [hZn']; omega) rfl) ?_
     have hz610 := OkR.bd hZ' (i := m) (j := 0) (by rw [hZn']; omega) yq
     have hz611 := OkR.bd hZ' (i := m) (j := 1) (by rw [hZn']; omega) yq
     have hz612 := OkR.bd hZ' (i := m) (j := 2) (by rw [hZn']; omega) yq
     refine zzi 80 (.v (.agg #[.int .i64 (gi (Nt.sortR D) i 0), .int .i64 (gi (Nt.sortR D) i 1)])) ty58 zze (zzg 75 116 [.agg #[.int .i64 (gi Z' j 0), .int .i64 (gi Z' j 1), .int .i64 (gi Z' j 2)], .agg #[.int .i64 (gi (Nt.sortR D) i 0), .int .i64 (gi (Nt.sortR D) i 1)]] ?_)
     intro w62 u62 e62 d62
     have k65 := k_cdist (b0 := gi Z' j 0) (b1 := gi Z' j 1) (b2 := gi Z' j 2) (a0 := gi (Nt.sortR D) i 0) (a1 := gi (Nt.sortR D) i 1) d62 xq xq xq xq
     with_reducible refine zPm k65 ?_
     rintro _ u63 g64 rfl
     have hdz66 := Nt.dist_bd (b1 := gi Z' j 1) (b2 := gi Z' j 2) (a0 := gi (Nt.sortR D) i 0) (a1 := gi (Nt.sortR D) i 1) xq xq xq xq
     refine zzg 81 116 [.agg #[.int .i64 (gi Z' m 0), .int .i64 (gi Z' m 1), .int .i64 (gi Z' m 2)], .agg #[.int .i64 (gi (Nt.sortR D) i 0), .int .i64 (gi (Nt.sortR D) i 1)]] ?_
     intro w67 u67 e67 d67
     have k70 := k_cdist (b0 := gi Z' m 0) (b1 := gi Z' m 1) (b2 := gi Z' m 2) (a0 := gi (Nt.sortR D) i 0) (a1 := gi (Nt.sortR D) i 1) d67 xq xq xq xq
     with_reducible refine zPm k70 ?_
     rintro _ u68 g69 rfl
     have hdz71 := Nt.dist_bd (b1 := gi Z' m 1) (b2 := gi Z' m 2) (a0 := gi (Nt.sortR D) i 0) (a1 := gi (Nt.sortR D) i 1) xq xq xq xq
     refine zza 82 (zB (decide ((Nt.distZ (gi Z' j 1) (gi Z' j 2) (gi (Nt.sortR D) i 0) (gi (Nt.sortR D) i 1)) < (Nt.distZ (gi Z' m 1) (gi Z' m 2) (gi (Nt.sortR D) i 0) (gi (Nt.sortR D) i 1))))) (zzc 105 [(7, .slc 50 0 x.n c28), (8, .slc 54 0 (x.n - i) c43), (9, .slc 57 0 x.n x.n), (10, zI i), (11, .adr 11 0), (12, zI m), (13, zI j), (58, .slc 50 0 x.n c28), (59, zI x.n), (60, zI i), (66, zI (x.n - i : Nat)), (67, zI j), (82, zB (decide ((Nt.distZ (gi Z' j 1) (gi Z' j 2) (gi (Nt.sortR D) i 0) (gi (Nt.sortR D) i 1)) < (Nt.distZ (gi Z' m 1) (gi Z' m 2) (gi (Nt.sortR D) i 0) (gi (Nt.sortR D) i 1)))))] [(11, ⟨58, [.int .i64 (gi (Nt.sortR D) i 0), .int .i64 (gi (Nt.sortR D) i 1)]⟩), (50, ⟨58, kcs (Nt.sortR D) ++ X29⟩), (54, ⟨85, kcs Z' ++ X'⟩), (57, ⟨87, kcs (List.replicate (x.n - i) [0, 0, 0, 0, 0] ++ A') ++ []⟩)] (zzu (b := decide ((Nt.distZ (gi Z' j 1) (gi Z' j 2) (gi (Nt.sortR D) i 0) (gi (Nt.sortR D) i 1)) < (Nt.distZ (gi Z' m 1) (gi Z' m 2) (gi (Nt.sortR D) i 0) (gi (Nt.sortR D) i 1)))) xj (fun hb72 => ?_) (fun hb72 => ?_)))
     ·replace hb72 : (decide ((Nt.distZ (gi Z' j 1) (gi Z' j 2) (gi (Nt.sortR D) i 0) (gi (Nt.sortR D) i 1)) < (Nt.distZ (gi Z' m 1) (gi Z' m 2) (gi (Nt.sortR D) i 0) (gi (Nt.sortR D) i 1)))) = true := hb72
      have qhb72 := of_decide_eq_true hb72
      refine zzf (zza 83 (zI j) (zza 12 (zI j) (zzx ?_)))
      refine zzp (zzf (zyq 84 (x := zI (IntKind.i64.wrap ((j : Int) + 1))) (zI (j + 1 : Nat)) (eqI xk) (zza 67 (zI (j + 1 : Nat)) (zzx ?_))))
      refine ⟨_, ?_, _, by exact zzv _ _ _, j + 1, j, rfl, by omega, (by have h9 := qhb72; rw [hm] at h9; exact (Nt.best_yes h9).symm), rfl, (e58.trans (e62.trans (g64.ext.trans (e67.trans g69.ext))))⟩
      omega
     ·replace hb72 : (decide ((Nt.distZ (gi Z' j 1) (gi Z' j 2) (gi (Nt.sortR D) i 0) (gi (Nt.sortR D) i 1)) < (Nt.distZ (gi Z' m 1) (gi Z' m 2) (gi (Nt.sortR D) i 0) (gi (Nt.sortR D) i 1)))) = false := hb72
      have qhb72 := of_decide_eq_false hb72
      refine zzs (zzp ?_)
      refine zzf (zyq 84 (x := zI (IntKind.i64.wrap ((j : Int) + 1))) (zI (j + 1 : Nat)) (eqI xk) (zza 67 (zI (j + 1 : Nat)) (zzx ?_)))
      refine ⟨_, ?_, _, by exact zzv _ _ _, j + 1, m, rfl, by omega, (by have h9 := qhb72; rw [hm] at h9; exact hm.trans (Nt.best_no h9).symm), rfl, (e58.trans (e62.trans (g64.ext.trans (e67.trans g69.ext))))⟩
      omega
    ·replace hb59 : (decide ((j : Int) < ((x.n - i : Nat) : Int))) = false := hb59
     have qhb59 := of_decide_eq_false hb59
     refine zyc (zzp (zzd (zzz [0, 0, 2, 6, 0, 30, 0, 0, 192, 448, 0, 1984, 4095, 8191] [(0, []), (1, []), (2, []), (3, []), (4, []), (5, []), (6, []), (7, []), (8, []), (9, []), (10, []), (11, []), (12, []), (13, [])] xj xj (zza 85 (.slc 57 0 x.n x.n) (zza 86 (.slc 50 0 x.n c28) (zza 87 (zI x.n) (zyq 88 (x := zI (IntKind.i64.wrap ((x.n : Int) - 1))) (zI (x.n - 1 : Nat)) (eqI xk) (zza 89 (zI i) (zyq 90 (x := zI (IntKind.i64.wrap (((x.n - 1 : Nat) : Int) - (i : Int)))) (zI (((x.n - 1) - i : Nat) : Int)) (eqI xk) (zza 91 (.slc 54 0 (x.n - i) c43) (zza 92 (zI m) ?_)))))))))))
     refine zyw 93 (off' := m * 3) (n := (x.n - i)) (off := 0) (sz := 3) (i := (m : Int)) sl80 xq xq xq ?_
     refine zzi 94 (V := ⟨85, kcs Z' ++ X'⟩) (off := m * 3) (.v (.agg #[.int .i64 (gi Z' m 0), .int .i64 (gi Z' m 1), .int .i64 (gi Z' m 2)])) ty85 (part_k3 (OkR.rows hZ') (i := m) (by rw [hZn']; omega) rfl) ?_
     have hz730 := OkR.bd hZ' (i := m) (j := 0) (by rw [hZn']; omega) yq
     have hz731 := OkR.bd hZ' (i := m) (j := 1) (by rw [hZn']; omega) yq
     have hz732 := OkR.bd hZ' (i := m) (j := 2) (by rw [hZn']; omega) yq
     refine zzi 95 (.v (.agg #[.int .i64 (gi (Nt.sortR D) i 0), .int .i64 (gi (Nt.sortR D) i 1)])) ty58 zze (zza 96 (.v (.agg #[.int .i64 (gi Z' m 0), .int .i64 (gi Z' m 1), .int .i64 (gi Z' m 2), .int .i64 (gi (Nt.sortR D) i 0), .int .i64 (gi (Nt.sortR D) i 1)])) (zyw 97 (off' := ((x.n - 1) - i) * 5) (n := x.n) (off := 0) (sz := 5) (i := (((x.n - 1) - i : Nat) : Int)) sl82 xq xq xq ?_))
     have hA74 : OkR 5 ([gi Z' m 0, gi Z' m 1, gi Z' m 2, gi (Nt.sortR D) i 0, gi (Nt.sortR D) i 1] :: A') := okR_cons5 hA' xq xq xq xq xq
     have hO74 : OkR 5 (List.replicate (x.n - (i + 1)) [0, 0, 0, 0, 0] ++ ([gi Z' m 0, gi Z' m 1, gi Z' m 2, gi (Nt.sortR D) i 0, gi (Nt.sortR D) i 1] :: A')) := okR_fill hA74
     have hP74 : (List.replicate (x.n - (i + 1)) [0, 0, 0, 0, 0] ++ ([gi Z' m 0, gi Z' m 1, gi Z' m 2, gi (Nt.sortR D) i 0, gi (Nt.sortR D) i 1] :: A')).length = x.n := by rw [List.length_append, List.length_replicate, List.length_cons, hAn']; omega
     refine zyv (V := ⟨87, kcs (List.replicate (x.n - i) [0, 0, 0, 0, 0] ++ A') ++ []⟩) (off := ((x.n - 1) - i) * 5) (kcs (List.replicate (x.n - (i + 1)) [0, 0, 0, 0, 0] ++ ([gi Z' m 0, gi Z' m 1, gi Z' m 2, gi (Nt.sortR D) i 0, gi (Nt.sortR D) i 1] :: A')) ++ []) ty87 (by rw [List.length_append, kcs_len (OkR.rows hO9), hO8]; omega) (by rw [← Nt.fill_back (z := [0, 0, 0, 0, 0]) (show i < x.n by omega) [gi Z' m 0, gi Z' m 1, gi Z' m 2, gi (Nt.sortR D) i 0, gi (Nt.sortR D) i 1]]; exact (setL_k5 (OkR.rows hO9) (i := (x.n - 1) - i) (by rw [hO8]; omega) rfl)) ?_
     refine zzc 105 [(7, .slc 50 0 x.n c28), (8, .slc 54 0 (x.n - i) c43), (9, .slc 57 0 x.n x.n), (12, zI m), (58, .slc 50 0 x.n c28), (59, zI x.n), (60, zI i)] [(50, ⟨58, kcs (Nt.sortR D) ++ X29⟩), (54, ⟨85, kcs Z' ++ X'⟩), (57, ⟨87, kcs (List.replicate (x.n - (i + 1)) [0, 0, 0, 0, 0] ++ ([gi Z' m 0, gi Z' m 1, gi Z' m 2, gi (Nt.sortR D) i 0, gi (Nt.sortR D) i 1] :: A')) ++ []⟩)] (zzf (zza 98 (.slc 54 0 (x.n - i) c43) (zza 99 (zI m) (zza 100 (zI m) (zyq 101 (x := zI (IntKind.i64.wrap ((m : Int) + 1))) (zI (m + 1 : Nat)) (eqI xk) ?_)))))
     have kc75 := fun (g : Nat) (w u1 : World) (e : Ext u58 u1) (d : Dat u1 w) (hg : w.heap[g]? = some (.cells (kcs Z' ++ X').toArray 85 (0, 0))) (hu : u1.heap[g]? = some hidO) => k_cdelete (n := x.n - i) (c := c43) (i := m) d hg hu hZ' hZn' hX' xq xq xq
     refine sy_lendS 102 117 (t := 54) (V := ⟨85, kcs Z' ++ X'⟩) (len := (x.n - i)) (cap := c43) [.int .i64 m, .int .i64 (m + 1 : Nat)] xj kc75 ?_
     clear kc75
     rintro m75 _ u75 e75 ⟨hm75, X75, rfl, hX75⟩
     obtain rfl : m75 = x.n - (i + 1) := by omega
     have hE75 : (Z'.eraseIdx m).length = x.n - (i + 1) := by rw [List.length_eraseIdx, if_pos xq, hZn']; omega
     refine sy_over 8 (.slc 54 0 (x.n - (i + 1)) c43) (zzx ?_)
     refine zzp (zzf (zyq 103 (x := zI (IntKind.i64.wrap ((i : Int) + 1))) (zI (i + 1 : Nat)) (eqI xk) (zza 60 (zI (i + 1 : Nat)) (zzx ?_))))
     refine ⟨_, ?_, _, by exact zzv _ _ _, i + 1, (Z'.eraseIdx m), X75, [gi Z' m 0, gi Z' m 1, gi Z' m 2, gi (Nt.sortR D) i 0, gi (Nt.sortR D) i 1] :: A', rfl, by omega, (OkR.erase hZ'), hE75, hX75, hA74, (by rw [List.length_cons, hAn']), (by have h9 := hP'; rw [Nt.pairR_step (by rw [Nt.sortR_len]; omega), hZn', show x.n - i = j by omega, ← hm] at h9; exact h9), rfl, (e55.trans (e58.trans e75))⟩
     omega
   ·replace hb56 : (decide ((i : Int) < (x.n : Int))) = false := hb56
    have qhb56 := of_decide_eq_false hb56
    refine zyc (zzp (zzd (zyp (r := 9) (t := 57) [9, 57] xw xj (by rfl) (by rfl) xj (fun b76 u77 e78 hb79 hh80 => ?_))))
    have hp81 : IrV 5 u77 ⟨some ⟨b76, 0, none⟩, x.n, x.n⟩ (List.replicate (x.n - i) [0, 0, 0, 0, 0] ++ A') := ir_data hh80 (OkR.rows hO9) (by rw [List.append_nil, List.take_of_length_le (by rw [kcs_len (OkR.rows hO9), hO8]; omega)]) (by rw [hO8]) (by rw [List.append_nil, kcs_len (OkR.rows hO9), hO8]) xq yv
    refine zzf (zza 104 (.v (.slice (some ⟨b76, 0, none⟩) x.n x.n)) (zza 4 (.v (.slice (some ⟨b76, 0, none⟩) x.n x.n)) (zza 5 (zI 0) (zzc 105 [(4, .v (.slice (some ⟨b76, 0, none⟩) x.n x.n)), (5, zI 0)] [] (zzo (ret0 [.slice (some ⟨b76, 0, none⟩) x.n x.n, .int .i64 0] ⟨zzq, zzq, trivial⟩ fun u82 e83 => ?_))))))
    have hi9 : i = x.n := by omega
    have h9 := (hp81.ext e83)
    rw [show x.n - i = 0 by omega] at h9
    have h8 := hP'
    rw [List.drop_of_length_le (by rw [Nt.sortR_len]; omega)] at h8
    refine ⟨(⟨some ⟨b76, 0, none⟩, x.n, x.n⟩ : Sl), rfl, ?_⟩
    rw [← h8]
    exact h9
set_option maxHeartbeats 2000000 in
theorem k_known24 {u w : World} (d : Dat u w) : Calls Tryz.prog 35 #[] w (Post u w fun v _ => v = .bool true) := by
 refine zzm (args := []) Tryz.func35 rfl Tryz.ntmps35 (rs := [.tmp 0]) Tryz.results35 (le_b rfl) (le_b rfl) d ?_
 refine sq9 (zza 0 (zB false) (zzb (sq9 (zza 4 (.v (.agg #[.int .i64 1, .int .i64 0, .int .i64 1])) (zza 5 (.v (.agg #[.int .i64 1, .int .i64 2, .int .i64 1])) (zxy 6 ⟨85, [.int .i64 1, .int .i64 0, .int .i64 1, .int .i64 1, .int .i64 2, .int .i64 1]⟩ 2 (fun b11 u12 e13 h14 => ?_)))))))
 have hI15 : IrV 3 u12 (⟨some ⟨b11, 0, none⟩, 2, 2⟩ : Sl) [[1, 0, 1], [1, 2, 1]] := ir_data (cs := [.int .i64 1, .int .i64 0, .int .i64 1, .int .i64 1, .int .i64 2, .int .i64 1]) h14 yq rfl rfl rfl yq (by unfold maxLen; decide)
 refine zza 7 (.v (.agg #[.int .i64 0, .int .i64 1])) (zza 8 (.v (.agg #[.int .i64 2, .int .i64 2])) (zxy 9 ⟨58, [.int .i64 0, .int .i64 1, .int .i64 2, .int .i64 2]⟩ 2 (fun b16 u17 e18 h19 => ?_)))
 have hI20 : IrV 2 u17 (⟨some ⟨b16, 0, none⟩, 2, 2⟩ : Sl) [[0, 1], [2, 2]] := ir_data (cs := [.int .i64 0, .int .i64 1, .int .i64 2, .int .i64 2]) h19 yq rfl rfl rfl yq (by unfold maxLen; decide)
 refine zzg 10 36 [.slice (some ⟨b11, 0, none⟩) 2 2, .slice (some ⟨b16, 0, none⟩) 2 2] ?_
 intro w21 u21 e21 d21
 have k25 := (show Calls _ _ #[.slice (some ⟨b11, 0, none⟩) 2 2, .slice (some ⟨b16, 0, none⟩) 2 2] _ _ from k_cpair (x := (⟨some ⟨b11, 0, none⟩, 2, 2⟩ : Sl)) (y := (⟨some ⟨b16, 0, none⟩, 2, 2⟩ : Sl)) d21 (hI15.ext (e18.trans e21)) (hI20.ext e21) yq yq yq yq yq)
 with_reducible refine zPm k25 ?_
 rintro _ u23 g24 ⟨z22, rfl, hz22⟩
 refine zza 3 (.v (.tuple #[z22.v, .int .i64 0])) (zza 11 (.v z22.v) (zza 12 (zI 0) (zza 1 (.v z22.v) (zza 2 (zI 0) (zzb (zzd ?_))))))
 have hP9 := hz22
 rw [show (Nt.pairR (Nt.sortR ([[0, 1], [2, 2]])) ([[1, 0, 1], [1, 2, 1]]) []) = [[1, 0, 1, 0, 1], [1, 2, 1, 2, 2]] by decide] at hP9
 have hn9 := hP9.len
 change _ = 2 at hn9
 refine zzf (zza 13 (zI 0) (zza 14 (zB true) (zza 15 (zB true) (zza 16 (.v z22.v) ?_ (hw := w1 2 true 15)))))
 refine zza 17 (zI z22.n) ?_ (hw := w1 2 true 15)
 refine zza 18 (zB ((z22.n : Int) == 2)) ?_ (hw := w1 2 true 15)
 refine zza 19 (zB ((z22.n : Int) == 2)) (zyq 20 (x := zB ((z22.n : Int) == 2)) (zB true) (by rw [show ((z22.n : Int) == 2) = true from yw]) (zza 21 (.v z22.v) ?_ (hw := w1 7 true 20)))
 have hl27 := (hP9).len
 obtain ⟨b27, o27, hA27, hc27⟩ := ir_at5 hP9 (i := 0) xq
 refine zya 22 (o27 + 0 * 5) (n := z22.n) (off := o27) (sz := 5) (i := 0) xq hA27 xq xq sl82 ?_ (hw := w1 7 true 20)
 refine zym 23 [.int .i64 (gi ([[1, 0, 1, 0, 1], [1, 2, 1, 2, 2]]) 0 0), .int .i64 (gi ([[1, 0, 1, 0, 1], [1, 2, 1, 2, 2]]) 0 1), .int .i64 (gi ([[1, 0, 1, 0, 1], [1, 2, 1, 2, 2]]) 0 2), .int .i64 (gi ([[1, 0, 1, 0, 1], [1, 2, 1, 2, 2]]) 0 3), .int .i64 (gi ([[1, 0, 1, 0, 1], [1, 2, 1, 2, 2]]) 0 4)] hc27 ty87 ?_ (hw := w1 7 true 20)
 refine zza 24 (.v (.agg #[.int .i64 1, .int .i64 0, .int .i64 1])) ?_ (hw := w1 7 true 20)
 refine zza 25 (.v (.agg #[.int .i64 0, .int .i64 1])) ?_ (hw := w1 7 true 20)
 refine zza 26 (.v (.agg #[.int .i64 1, .int .i64 0, .int .i64 1, .int .i64 0, .int .i64 1])) ?_ (hw := w1 7 true 20)
 refine zza 27 (zB true) ?_ (hw := w1 7 true 20)
 refine zza 28 (zB true) (zza 29 (zB true) (zza 30 (.v z22.v) ?_ (hw := w1 16 true 29)))
 have hl28 := (hP9).len
 obtain ⟨b28, o28, hA28, hc28⟩ := ir_at5 hP9 (i := 1) xq
 refine zya 31 (o28 + 1 * 5) (n := z22.n) (off := o28) (sz := 5) (i := 1) xq hA28 xq xq sl82 ?_ (hw := w1 16 true 29)
 refine zym 32 [.int .i64 (gi ([[1, 0, 1, 0, 1], [1, 2, 1, 2, 2]]) 1 0), .int .i64 (gi ([[1, 0, 1, 0, 1], [1, 2, 1, 2, 2]]) 1 1), .int .i64 (gi ([[1, 0, 1, 0, 1], [1, 2, 1, 2, 2]]) 1 2), .int .i64 (gi ([[1, 0, 1, 0, 1], [1, 2, 1, 2, 2]]) 1 3), .int .i64 (gi ([[1, 0, 1, 0, 1], [1, 2, 1, 2, 2]]) 1 4)] hc28 ty87 ?_ (hw := w1 16 true 29)
 refine zza 33 (.v (.agg #[.int .i64 1, .int .i64 2, .int .i64 1])) ?_ (hw := w1 16 true 29)
 refine zza 34 (.v (.agg #[.int .i64 2, .int .i64 2])) ?_ (hw := w1 16 true 29)
 refine zza 35 (.v (.agg #[.int .i64 1, .int .i64 2, .int .i64 1, .int .i64 2, .int .i64 2])) ?_ (hw := w1 16 true 29)
 refine zza 36 (zB true) ?_ (hw := w1 16 true 29)
 refine zza 37 (zB true) (zza 0 (zB true) (zzc 38 [(0, zB true)] [] (zzo (ret0 [.bool true] ⟨zzq, trivial⟩ fun u29 e30 => ?_))))
 rfl
theorem row_bd {k : Nat} {L : List (List Int)} (hR : Rows k L) (h : ∀ p ∈ L, ∀ z ∈ p, -9223372036854775808 ≤ z ∧ z ≤ 9223372036854775807) {i j : Nat} (hi : i < L.length) (hj : j < k) : -9223372036854775808 ≤ gi L i j ∧ gi L i j ≤ 9223372036854775807 := by
 have e : L[i] = L.getD i [] := by rw [List.getD_eq_getElem?_getD, List.getElem?_eq_getElem hi]; rfl
 have hl := hR.get hi
 refine h _ (List.getElem_mem hi) _ ?_
 rw [e]
 show (L.getD i []).getD j 0 ∈ _
 have hj' : j < (L.getD i []).length := by omega
 generalize L.getD i [] = q at *
 rw [List.getD_eq_getElem?_getD, List.getElem?_eq_getElem hj']
 exact List.getElem_mem hj'
theorem Nt.fit7 {a b c d e f g : Bool} (h0 : a = true) (h1 : b = true) (h2 : c = true) (h3 : d = true) (h4 : e = true) (h5 : f = true) (h6 : g = true) : (a && b && c && (d && e) && (f && g)) = true := by rw [h0, h1, h2, h3, h4, h5, h6]; rfl
theorem Nt.secFit_no {W : WL} {p : List Int} (h : fitB W (p.getD 0 0) = false ∨ fitB W (p.getD 1 0) = false ∨ fitB W (p.getD 2 0) = false ∨ fitB W (p.getD 3 0) = false ∨ fitB W (-p.getD 3 0) = false ∨ fitB W (p.getD 4 0) = false ∨ fitB W (-p.getD 4 0) = false) : secFit W p = false := by
 unfold secFit
 rcases h with h | h | h | h | h | h | h <;> rw [h] <;> simp
set_option maxHeartbeats 4000000 in
theorem k_csWrong {u w : World} {x : Sl} {L : List (List Int)} {W : WL} (d : Dat u w) (hx : IrV 5 u x L) (hb : ∀ p ∈ L, ∀ z ∈ p, -9223372036854775808 ≤ z ∧ z ≤ 9223372036854775807) : Calls Tryz.prog 122 #[x.v, W.v] w (Post u w fun v _ => v = .int .i64 (Nt.csE W L)) := by
 have hlx := hx.len
 refine zzm (args := [.slice x.a x.n x.c, .agg #[.int .i64 W.b, .int .i64 W.f, .int .i64 W.r, .int .i64 W.o]]) Tryz.func122 rfl Tryz.ntmps122 (rs := [.tmp 4]) Tryz.results122 (le_b rfl) (le_b rfl) d ?_
 refine sq9 (zzk 3 ⟨24, W.cs⟩ (zza 4 (zI 0) (zzb (zzd (sq9 (zzi 11 (.v (W.v)) ty24 zze (zzg 12 75 [W.v] ?_)))))))
 intro w11 u11 e11 d11
 have k14 := k_fxValidG (W := W) d11
 with_reducible refine zPm k14 ?_
 rintro _ u12 g13 rfl
 refine zza 13 (zB (!(decide (WdOK W)))) (zzb (zzu (b := !(decide (WdOK W))) xj (fun hb15 => ?_) (fun hb15 => ?_)))
 ·replace hb15 : (!(decide (WdOK W))) = true := hb15
  have nhW : ¬ WdOK W := by simpa using hb15
  refine sq9 (zza 4 (zI 2) (zzb (zzo (zzw (ret0 [.int .i64 2] ⟨zzq, trivial⟩ fun u16 e17 => ?_)))))
  show Value.int _ _ = Value.int _ _
  rw [Nt.csE_2 nhW]
 ·replace hb15 : (!(decide (WdOK W))) = false := hb15
  have hW : WdOK W := by simpa using hb15
  refine zzs (zzp ?_)
  refine zzd (sq9 (zza 14 (.v x.v) (zza 15 (zI x.n) (zza 16 (zB (decide ((x.n : Int) < 1))) ?_))))
  rcases Bool.eq_false_or_eq_true (decide ((x.n : Int) < 1)) with hs18 | hs18
  ·refine zyq 17 (x := zB (decide ((x.n : Int) < 1))) (zB true) (by rw [hs18]) ?_
   have qhs18 := of_decide_eq_true hs18
   refine zzn 18 (uw 3 false true 17) (zzn 19 (uw 3 false true 17) (zzn 20 (uw 3 false true 17) (zza 21 (zB true) (zzb (zyr xj (sq9 (zza 4 (zI 1) (zzb (zzo (zzw (ret0 [.int .i64 1] ⟨zzq, trivial⟩ fun u19 e20 => ?_)))))))))))
   show Value.int _ _ = Value.int _ _
   rw [Nt.csE_1 hW xq]
  ·refine zyq 17 (x := zB (decide ((x.n : Int) < 1))) (zB false) (by rw [hs18]) ?_
   have qhs18 := of_decide_eq_false hs18
   refine zza 18 (.v x.v) ?_ (hw := w1 3 false 17)
   refine zza 19 (zI x.n) ?_ (hw := w1 3 false 17)
   refine zza 20 (zB (decide ((8 : Int) < (x.n : Int)))) ?_ (hw := w1 3 false 17)
   refine zza 21 (zB (decide ((8 : Int) < (x.n : Int)))) (zzb (zzu (b := decide ((8 : Int) < (x.n : Int))) xj (fun hb21 => ?_) (fun hb21 => ?_)))
   ·replace hb21 : (decide ((8 : Int) < (x.n : Int))) = true := hb21
    have qhb21 := of_decide_eq_true hb21
    refine sq9 (zza 4 (zI 1) (zzb (zzo (zzw (ret0 [.int .i64 1] ⟨zzq, trivial⟩ fun u22 e23 => ?_)))))
    show Value.int _ _ = Value.int _ _
    rw [Nt.csE_1 hW xq]
   ·replace hb21 : (decide ((8 : Int) < (x.n : Int))) = false := hb21
    have qhb21 := of_decide_eq_false hb21
    refine zzs (zzp ?_)
    refine zzd (sq9 (zza 22 (.v x.v) (zza 23 (zI x.n) (zza 24 (zI 0) (zzb (zzt (zyn (I := fun m24 S' u' => ∃ (i : Nat), (m24 = x.n - i) ∧ (i ≤ x.n) ∧ (∀ j, j < i → Nt.secFit W (L.getD j []) = true) ∧ (S' = St.of 56 [(3, .adr 3 0), (22, .v (.slice x.a x.n x.c)), (23, zI x.n), (24, zI i)] [(3, ⟨24, [.int .i64 W.b, .int .i64 W.f, .int .i64 W.r, .int .i64 W.o]⟩)]) ∧ (Ext u12 u')) (fun m S u1 u2 e h => by obtain ⟨i, hm, p0, p1, hS, hE⟩ := h; exact ⟨i, hm, p0, p1, hS, hE.trans e⟩) _ yz ⟨0, rfl, Nat.zero_le _, (fun j hj => absurd hj (Nat.not_lt_zero j)), rfl, (Ext.refl _)⟩ ?_)))))))
    rintro m24 _ u24 ⟨i, hm24, hi, hs, rfl, e24⟩
    refine sq9 (zza 25 (zB (decide ((i : Int) < (x.n : Int)))) (zzb (zzd (zzu (b := decide ((i : Int) < (x.n : Int))) xj (fun hb25 => ?_) (fun hb25 => ?_)))))
    ·replace hb25 : (decide ((i : Int) < (x.n : Int))) = true := hb25
     have qhb25 := of_decide_eq_true hb25
     refine zzs (zzp ?_)
     refine zzd (zzt (sq9 ?_))
     have hl26 := ((hx.ext (e11.trans (g13.ext.trans e24)))).len
     obtain ⟨b26, o26, hA26, hc26⟩ := ir_at5 (hx.ext (e11.trans (g13.ext.trans e24))) (i := i) xq
     refine zya 26 (o26 + i * 5) (n := x.n) (off := o26) (sz := 5) (i := (i : Int)) xq hA26 xq xq sl82 (zym 27 [.int .i64 (gi L i 0), .int .i64 (gi L i 1), .int .i64 (gi L i 2), .int .i64 (gi L i 3), .int .i64 (gi L i 4)] hc26 ty87 (zzk 6 ⟨87, [.int .i64 0, .int .i64 0, .int .i64 0, .int .i64 0, .int .i64 0]⟩ (zzj ⟨87, [.int .i64 (gi L i 0), .int .i64 (gi L i 1), .int .i64 (gi L i 2), .int .i64 (gi L i 3), .int .i64 (gi L i 4)]⟩ ty87 ?_)))
     refine zzb (zzd (sq9 (zza 28 (.adr 6 0) (zzi 29 (.v (.agg #[.int .i64 (gi L i 0), .int .i64 (gi L i 1), .int .i64 (gi L i 2)])) ty85 zze (zza 30 (zI 0) (zzb (zzt (sw_rounds 3 ?_))))))))
     refine sq9 (zza 31 (zB true) (zzb (zzd (zyr xj (zzs (zzp ?_))))))
     refine zzd (zzt (sq9 (zza 32 (zI (gi L i 0)) (zza 8 (zI (gi L i 0)) (zzb (sq9 (zzi 33 (.v (W.v)) ty24 zze (zza 34 (zI (gi L i 0)) (zzg 35 126 [W.v, .int .i64 (gi L i 0)] ?_)))))))))
     intro w27 u27 e27 d27
     have k30 := k_fxFitsG (W := W) (z := gi L i 0) d27 hW
     with_reducible refine zPm k30 ?_
     rintro _ u28 g29 rfl
     refine zza 36 (zB (!(Nt.fitB W (gi L i 0)))) (zzc 56 [(3, .adr 3 0), (6, .adr 6 0), (22, .v x.v), (23, zI x.n), (24, zI i), (29, .v (.agg #[.int .i64 (gi L i 0), .int .i64 (gi L i 1), .int .i64 (gi L i 2)])), (30, zI 0), (36, zB (!(Nt.fitB W (gi L i 0))))] [(3, ⟨24, W.cs⟩), (6, ⟨87, [.int .i64 (gi L i 0), .int .i64 (gi L i 1), .int .i64 (gi L i 2), .int .i64 (gi L i 3), .int .i64 (gi L i 4)]⟩)] (zzu (b := !(Nt.fitB W (gi L i 0))) xj (fun hb31 => ?_) (fun hb31 => ?_)))
     ·replace hb31 : (!(Nt.fitB W (gi L i 0))) = true := hb31
      have qhb31 := hb31
      simp at qhb31
      refine sq9 (zza 4 (zI 17) (zzb (zzo (zyu (zzw (mpr_rn (zyu (zzw (zyu (zzw (zyt (zyu (zzw (ret0 [.int .i64 17] ⟨zzq, trivial⟩ fun u32 e33 => ?_))))))))))))))
      show Value.int _ _ = Value.int _ _
      rw [Nt.csE_17 hW xq xq (i := i) xq (Nt.secFit_no (.inl qhb31))]
     ·replace hb31 : (!(Nt.fitB W (gi L i 0))) = false := hb31
      have qhb31 := hb31
      simp at qhb31
      have rhb31 := Nt.fit_iff.1 qhb31
      have hp9 := Nt.p2i_24 (n := W.b - 1) (by have h9 := hW; unfold WdOK at h9; omega)
      refine zzs (zzp ?_)
      refine zzf (zza 37 (zI 1) (zza 30 (zI 1) (zzx ?_)))
      refine rn_next ?_
      refine sw_weak (T := St.of 56 [(3, .adr 3 0), (6, .adr 6 0), (22, .v (.slice x.a x.n x.c)), (23, zI x.n), (24, zI i), (29, .v (.agg #[.int .i64 (gi L i 0), .int .i64 (gi L i 1), .int .i64 (gi L i 2)])), (30, zI 1)] [(3, ⟨24, [.int .i64 W.b, .int .i64 W.f, .int .i64 W.r, .int .i64 W.o]⟩), (6, ⟨87, [.int .i64 (gi L i 0), .int .i64 (gi L i 1), .int .i64 (gi L i 2), .int .i64 (gi L i 3), .int .i64 (gi L i 4)]⟩)]) yz ?_
      refine sq9 (zza 31 (zB true) (zzb (zzd (zyr xj (zzs (zzp ?_))))))
      refine zzd (zzt (sq9 (zza 32 (zI (gi L i 1)) (zza 8 (zI (gi L i 1)) (zzb (sq9 (zzi 33 (.v (W.v)) ty24 zze (zza 34 (zI (gi L i 1)) (zzg 35 126 [W.v, .int .i64 (gi L i 1)] ?_)))))))))
      intro w34 u34 e34 d34
      have k37 := k_fxFitsG (W := W) (z := gi L i 1) d34 hW
      with_reducible refine zPm k37 ?_
      rintro _ u35 g36 rfl
      refine zza 36 (zB (!(Nt.fitB W (gi L i 1)))) (zzb (zzu (b := !(Nt.fitB W (gi L i 1))) xj (fun hb38 => ?_) (fun hb38 => ?_)))
      ·replace hb38 : (!(Nt.fitB W (gi L i 1))) = true := hb38
       have qhb38 := hb38
       simp at qhb38
       refine sq9 (zza 4 (zI 17) (zzb (zzo (zyu (zzw (mpr_rn (zyu (zzw (zyu (zzw (zyt (zyu (zzw (ret0 [.int .i64 17] ⟨zzq, trivial⟩ fun u39 e40 => ?_))))))))))))))
       show Value.int _ _ = Value.int _ _
       rw [Nt.csE_17 hW xq xq (i := i) xq (Nt.secFit_no (.inr (.inl qhb38)))]
      ·replace hb38 : (!(Nt.fitB W (gi L i 1))) = false := hb38
       have qhb38 := hb38
       simp at qhb38
       have rhb38 := Nt.fit_iff.1 qhb38
       have hp9 := Nt.p2i_24 (n := W.b - 1) (by have h9 := hW; unfold WdOK at h9; omega)
       refine zzs (zzp ?_)
       refine zzf (zza 37 (zI 2) (zza 30 (zI 2) (zzx ?_)))
       refine rn_next ?_
       refine sw_weak (T := St.of 56 [(3, .adr 3 0), (6, .adr 6 0), (22, .v (.slice x.a x.n x.c)), (23, zI x.n), (24, zI i), (29, .v (.agg #[.int .i64 (gi L i 0), .int .i64 (gi L i 1), .int .i64 (gi L i 2)])), (30, zI 2)] [(3, ⟨24, [.int .i64 W.b, .int .i64 W.f, .int .i64 W.r, .int .i64 W.o]⟩), (6, ⟨87, [.int .i64 (gi L i 0), .int .i64 (gi L i 1), .int .i64 (gi L i 2), .int .i64 (gi L i 3), .int .i64 (gi L i 4)]⟩)]) yz ?_
       refine sq9 (zza 31 (zB true) (zzb (zzd (zyr xj (zzs (zzp ?_))))))
       refine zzd (zzt (sq9 (zza 32 (zI (gi L i 2)) (zza 8 (zI (gi L i 2)) (zzb (sq9 (zzi 33 (.v (W.v)) ty24 zze (zza 34 (zI (gi L i 2)) (zzg 35 126 [W.v, .int .i64 (gi L i 2)] ?_)))))))))
       intro w41 u41 e41 d41
       have k44 := k_fxFitsG (W := W) (z := gi L i 2) d41 hW
       with_reducible refine zPm k44 ?_
       rintro _ u42 g43 rfl
       refine zza 36 (zB (!(Nt.fitB W (gi L i 2)))) (zzb (zzu (b := !(Nt.fitB W (gi L i 2))) xj (fun hb45 => ?_) (fun hb45 => ?_)))
       ·replace hb45 : (!(Nt.fitB W (gi L i 2))) = true := hb45
        have qhb45 := hb45
        simp at qhb45
        refine sq9 (zza 4 (zI 17) (zzb (zzo (zyu (zzw (mpr_rn (zyu (zzw (zyu (zzw (zyt (zyu (zzw (ret0 [.int .i64 17] ⟨zzq, trivial⟩ fun u46 e47 => ?_))))))))))))))
        show Value.int _ _ = Value.int _ _
        rw [Nt.csE_17 hW xq xq (i := i) xq (Nt.secFit_no (.inr (.inr (.inl qhb45))))]
       ·replace hb45 : (!(Nt.fitB W (gi L i 2))) = false := hb45
        have qhb45 := hb45
        simp at qhb45
        have rhb45 := Nt.fit_iff.1 qhb45
        have hp9 := Nt.p2i_24 (n := W.b - 1) (by have h9 := hW; unfold WdOK at h9; omega)
        refine zzs (zzp ?_)
        refine zzf (zza 37 (zI 3) (zza 30 (zI 3) (zzx ?_)))
        refine rn_next ?_
        refine sw_weak (T := St.of 56 [(3, .adr 3 0), (6, .adr 6 0), (22, .v (.slice x.a x.n x.c)), (23, zI x.n), (24, zI i), (29, .v (.agg #[.int .i64 (gi L i 0), .int .i64 (gi L i 1), .int .i64 (gi L i 2)])), (30, zI 3)] [(3, ⟨24, [.int .i64 W.b, .int .i64 W.f, .int .i64 W.r, .int .i64 W.o]⟩), (6, ⟨87, [.int .i64 (gi L i 0), .int .i64 (gi L i 1), .int .i64 (gi L i 2), .int .i64 (gi L i 3), .int .i64 (gi L i 4)]⟩)]) yz ?_
        refine sq9 (zza 31 (zB false) (zzb (zzd (zys xj (zyc (zzp (sq9 (zza 38 (.adr 6 3) (zzi 39 (.v (.agg #[.int .i64 (gi L i 3), .int .i64 (gi L i 4)])) ty58 zze (zza 40 (zI 0) (zzb ?_)))))))))))
        refine zzt (sw_rounds 2 ?_)
        refine sq9 (zza 41 (zB true) (zzb (zzd (zyr xj (zzs (zzp ?_))))))
        refine zzd (zzt (sq9 (zza 42 (zI (gi L i 3)) (zza 10 (zI (gi L i 3)) (zzb (sq9 (zzi 43 (.v (W.v)) ty24 zze (zza 44 (zI (gi L i 3)) (zzg 45 126 [W.v, .int .i64 (gi L i 3)] ?_)))))))))
        intro w48 u48 e48 d48
        have k51 := k_fxFitsG (W := W) (z := gi L i 3) d48 hW
        with_reducible refine zPm k51 ?_
        rintro _ u49 g50 rfl
        refine zza 46 (zB (!(Nt.fitB W (gi L i 3)))) ?_
        rcases Bool.eq_false_or_eq_true (!(Nt.fitB W (gi L i 3))) with hs52 | hs52
        ·refine zyq 47 (x := zB (!(Nt.fitB W (gi L i 3)))) (zB true) (by rw [hs52]) ?_
         have qhs52 := hs52
         simp at qhs52
         refine zzn 48 (uw 4 false true 47) (zzn 49 (uw 4 false true 47) (zzn 50 (uw 4 false true 47) (zzn 51 (uw 4 false true 47) (zzn 52 (uw 4 false true 47) (zza 53 (zB true) (zzc 56 [(3, .adr 3 0), (22, .v x.v), (23, zI x.n), (24, zI i), (39, .v (.agg #[.int .i64 (gi L i 3), .int .i64 (gi L i 4)])), (40, zI 0), (53, zB true)] [(3, ⟨24, W.cs⟩)] (zyr xj (sq9 (zza 4 (zI 17) (zzb (zzo (zyu (zzw (mpr_rn (zyu (zyu (zzw (zyt (zyu (zzw (ret0 [.int .i64 17] ⟨zzq, trivial⟩ fun u53 e54 => ?_)))))))))))))))))))))
         show Value.int _ _ = Value.int _ _
         rw [Nt.csE_17 hW xq xq (i := i) xq (Nt.secFit_no (.inr (.inr (.inr (.inl qhs52)))))]
        ·refine zyq 47 (x := zB (!(Nt.fitB W (gi L i 3)))) (zB false) (by rw [hs52]) ?_
         have qhs52 := hs52
         simp at qhs52
         have rhs52 := Nt.fit_iff.1 qhs52
         have hp9 := Nt.p2i_24 (n := W.b - 1) (by have h9 := hW; unfold WdOK at h9; omega)
         refine zzi 48 (.v (W.v)) ty24 zze ?_ (hw := w1 4 false 47)
         refine zza 49 (zI (gi L i 3)) ?_ (hw := w1 4 false 47)
         refine zyq 50 (x := zI (IntKind.i64.wrap (0 - (gi L i 3)))) (zI (-(gi L i 3))) (eqI xk) ?_ (hw := w1 4 false 47)
         refine zzg 51 126 [W.v, .int .i64 (-(gi L i 3))] ?_ (hw := w1 4 false 47)
         intro w55 u55 e55 d55
         have k58 := k_fxFitsG (W := W) (z := -(gi L i 3)) d55 hW
         with_reducible refine zPm k58 ?_
         rintro _ u56 g57 rfl
         refine zza 52 (zB (!(Nt.fitB W (-(gi L i 3))))) ?_ (hw := w1 4 false 47)
         refine zza 53 (zB (!(Nt.fitB W (-(gi L i 3))))) (zzc 56 [(3, .adr 3 0), (22, .v x.v), (23, zI x.n), (24, zI i), (39, .v (.agg #[.int .i64 (gi L i 3), .int .i64 (gi L i 4)])), (40, zI 0), (53, zB (!(Nt.fitB W (-(gi L i 3)))))] [(3, ⟨24, W.cs⟩)] (zzu (b := !(Nt.fitB W (-(gi L i 3)))) xj (fun hb59 => ?_) (fun hb59 => ?_)))
         ·replace hb59 : (!(Nt.fitB W (-(gi L i 3)))) = true := hb59
          have qhb59 := hb59
          simp at qhb59
          refine sq9 (zza 4 (zI 17) (zzb (zzo (zyu (zzw (mpr_rn (zyu (zyu (zzw (zyt (zyu (zzw (ret0 [.int .i64 17] ⟨zzq, trivial⟩ fun u60 e61 => ?_)))))))))))))
          show Value.int _ _ = Value.int _ _
          rw [Nt.csE_17 hW xq xq (i := i) xq (Nt.secFit_no (.inr (.inr (.inr (.inr (.inl qhb59))))))]
         ·replace hb59 : (!(Nt.fitB W (-(gi L i 3)))) = false := hb59
          have qhb59 := hb59
          simp at qhb59
          have rhb59 := Nt.fit_iff.1 qhb59
          have hp9 := Nt.p2i_24 (n := W.b - 1) (by have h9 := hW; unfold WdOK at h9; omega)
          refine zzs (zzp ?_)
          refine zzf (zza 54 (zI 1) (zza 40 (zI 1) (zzx ?_)))
          refine rn_next ?_
          refine sw_weak (T := St.of 56 [(3, .adr 3 0), (22, .v (.slice x.a x.n x.c)), (23, zI x.n), (24, zI i), (39, .v (.agg #[.int .i64 (gi L i 3), .int .i64 (gi L i 4)])), (40, zI 1)] [(3, ⟨24, [.int .i64 W.b, .int .i64 W.f, .int .i64 W.r, .int .i64 W.o]⟩)]) yz ?_
          refine sq9 (zza 41 (zB true) (zzb (zzd (zyr xj (zzs (zzp ?_))))))
          refine zzd (zzt (sq9 (zza 42 (zI (gi L i 4)) (zza 10 (zI (gi L i 4)) (zzb (sq9 (zzi 43 (.v (W.v)) ty24 zze (zza 44 (zI (gi L i 4)) (zzg 45 126 [W.v, .int .i64 (gi L i 4)] ?_)))))))))
          intro w62 u62 e62 d62
          have k65 := k_fxFitsG (W := W) (z := gi L i 4) d62 hW
          with_reducible refine zPm k65 ?_
          rintro _ u63 g64 rfl
          refine zza 46 (zB (!(Nt.fitB W (gi L i 4)))) ?_
          rcases Bool.eq_false_or_eq_true (!(Nt.fitB W (gi L i 4))) with hs66 | hs66
          ·refine zyq 47 (x := zB (!(Nt.fitB W (gi L i 4)))) (zB true) (by rw [hs66]) ?_
           have qhs66 := hs66
           simp at qhs66
           refine zzn 48 (uw 4 false true 47) (zzn 49 (uw 4 false true 47) (zzn 50 (uw 4 false true 47) (zzn 51 (uw 4 false true 47) (zzn 52 (uw 4 false true 47) (zza 53 (zB true) (zzb (zyr xj (sq9 (zza 4 (zI 17) (zzb (zzo (zyu (zzw (mpr_rn (zyu (zyu (zzw (zyt (zyu (zzw (ret0 [.int .i64 17] ⟨zzq, trivial⟩ fun u67 e68 => ?_)))))))))))))))))))))
           show Value.int _ _ = Value.int _ _
           rw [Nt.csE_17 hW xq xq (i := i) xq (Nt.secFit_no (.inr (.inr (.inr (.inr (.inr (.inl qhs66)))))))]
          ·refine zyq 47 (x := zB (!(Nt.fitB W (gi L i 4)))) (zB false) (by rw [hs66]) ?_
           have qhs66 := hs66
           simp at qhs66
           have rhs66 := Nt.fit_iff.1 qhs66
           have hp9 := Nt.p2i_24 (n := W.b - 1) (by have h9 := hW; unfold WdOK at h9; omega)
           refine zzi 48 (.v (W.v)) ty24 zze ?_ (hw := w1 4 false 47)
           refine zza 49 (zI (gi L i 4)) ?_ (hw := w1 4 false 47)
           refine zyq 50 (x := zI (IntKind.i64.wrap (0 - (gi L i 4)))) (zI (-(gi L i 4))) (eqI xk) ?_ (hw := w1 4 false 47)
           refine zzg 51 126 [W.v, .int .i64 (-(gi L i 4))] ?_ (hw := w1 4 false 47)
           intro w69 u69 e69 d69
           have k72 := k_fxFitsG (W := W) (z := -(gi L i 4)) d69 hW
           with_reducible refine zPm k72 ?_
           rintro _ u70 g71 rfl
           refine zza 52 (zB (!(Nt.fitB W (-(gi L i 4))))) ?_ (hw := w1 4 false 47)
           refine zza 53 (zB (!(Nt.fitB W (-(gi L i 4))))) (zzb (zzu (b := !(Nt.fitB W (-(gi L i 4)))) xj (fun hb73 => ?_) (fun hb73 => ?_)))
           ·replace hb73 : (!(Nt.fitB W (-(gi L i 4)))) = true := hb73
            have qhb73 := hb73
            simp at qhb73
            refine sq9 (zza 4 (zI 17) (zzb (zzo (zyu (zzw (mpr_rn (zyu (zyu (zzw (zyt (zyu (zzw (ret0 [.int .i64 17] ⟨zzq, trivial⟩ fun u74 e75 => ?_)))))))))))))
            show Value.int _ _ = Value.int _ _
            rw [Nt.csE_17 hW xq xq (i := i) xq (Nt.secFit_no (.inr (.inr (.inr (.inr (.inr (.inr (qhb73))))))))]
           ·replace hb73 : (!(Nt.fitB W (-(gi L i 4)))) = false := hb73
            have qhb73 := hb73
            simp at qhb73
            have rhb73 := Nt.fit_iff.1 qhb73
            have hp9 := Nt.p2i_24 (n := W.b - 1) (by have h9 := hW; unfold WdOK at h9; omega)
            refine zzs (zzp ?_)
            refine zzf (zza 54 (zI 2) (zza 40 (zI 2) (zzx ?_)))
            refine rn_next ?_
            refine sw_weak (T := St.of 56 [(3, .adr 3 0), (22, .v (.slice x.a x.n x.c)), (23, zI x.n), (24, zI i), (39, .v (.agg #[.int .i64 (gi L i 3), .int .i64 (gi L i 4)])), (40, zI 2)] [(3, ⟨24, [.int .i64 W.b, .int .i64 W.f, .int .i64 W.r, .int .i64 W.o]⟩)]) yz ?_
            refine sq9 (zza 41 (zB false) (zzb (zzd (zys xj (zyc (zzp (zzf (zyq 55 (x := zI (IntKind.i64.wrap ((i : Int) + 1))) (zI (i + 1 : Nat)) (eqI xk) (zza 24 (zI (i + 1 : Nat)) (zzx ?_))))))))))
            refine ⟨_, ?_, _, by exact zzv _ _ _, i + 1, rfl, by omega, (fun j hj => by by_cases e : j = i; (rw [e]; unfold Nt.secFit; exact Nt.fit7 qhb31 qhb38 qhb45 qhs52 qhb59 qhs66 qhb73); exact hs j xq), rfl, (e24.trans (e27.trans (g29.ext.trans (e34.trans (g36.ext.trans (e41.trans (g43.ext.trans (e48.trans (g50.ext.trans (e55.trans (g57.ext.trans (e62.trans (g64.ext.trans (e69.trans g71.ext))))))))))))))⟩
            omega
    ·replace hb25 : (decide ((i : Int) < (x.n : Int))) = false := hb25
     have qhb25 := of_decide_eq_false hb25
     refine zyc (zzp (sq9 (zza 4 (zI 0) (zzb (zzo (ret0 [.int .i64 0] ⟨zzq, trivial⟩ fun u76 e77 => ?_))))))
     show Value.int _ _ = Value.int _ _
     rw [Nt.csE_0 hW xq xq (fun i hi => hs i xq)]
set_option maxHeartbeats 8000000 in
theorem k_csBuild {u w : World} {x : Sl} {L : List (List Int)} {D W : WL} (d : Dat u w) (hD : WdOK D) (hE : Nt.csE W L = 0) (hx : IrV 5 u x L) (hb : ∀ p ∈ L, ∀ z ∈ p, -9223372036854775808 ≤ z ∧ z ≤ 9223372036854775807) : Calls Tryz.prog 39 #[x.v, D.v, W.v] w (Post u w fun v u' => ∃ (y z : Sl), v = .tuple #[.agg #[.int .i64 D.b, .int .i64 D.f, .int .i64 D.r, .int .i64 D.o, .int .i64 W.b, .int .i64 W.f, .int .i64 W.r, .int .i64 W.o, .int .i64 ((2 + 2 * L.length : Nat) : Int), y.v, z.v, .int .i64 ((2 + 2 * L.length + L.length : Nat) : Int)], .int .i64 0] ∧ (∃ h, NodesB 0 h u' y (Nt.csNodes L.length L L.length)) ∧ MutL 1 3 0 u' z (ics (Nt.csNext L.length L.length))) := by
 obtain ⟨hW, h1, h8, hall⟩ := Nt.csE_ok hE
 have hlx := hx.len
 obtain ⟨hw1, hw2, hw3, hw4, hw5, hw6, hw7, hw8⟩ := id hW
 have hp24 := Nt.p2i_24 (n := W.b - 1) xq
 refine zzm (args := [.slice x.a x.n x.c, .agg #[.int .i64 D.b, .int .i64 D.f, .int .i64 D.r, .int .i64 D.o], .agg #[.int .i64 W.b, .int .i64 W.f, .int .i64 W.r, .int .i64 W.o]]) Tryz.func39 rfl Tryz.ntmps39 (rs := [.cell 6 49, .tmp 7]) Tryz.results39 (le_b rfl) (le_b rfl) d ?_
 refine sq9 (zzk 4 ⟨24, D.cs⟩ (zzk 5 ⟨24, W.cs⟩ (zzk 6 ⟨49, [.int .i64 0, .int .i64 0, .int .i64 0, .int .i64 0, .int .i64 0, .int .i64 0, .int .i64 0, .int .i64 0, .int .i64 0, .slice none 0 0, .slice none 0 0, .int .i64 0]⟩ (zza 7 (zI 0) (zzb (zzd (sq9 (zzi 21 (.v (D.v)) ty24 zze (zzg 22 75 [D.v] ?_)))))))))
 intro w11 u11 e11 d11
 have k14 := k_fxValid (W := D) d11 hD
 with_reducible refine zPm k14 ?_
 rintro _ u12 g13 rfl
 refine zza 23 (zB false) (zzb (zys xj (zzs (zzp ?_))))
 refine zzd (sq9 (zza 25 (.v x.v) (zzi 26 (.v (W.v)) ty24 zze (zzg 27 122 [x.v, W.v] ?_))))
 intro w15 u15 e15 d15
 have k18 := (Post.mono (Ψ := fun v _ => v = .int .i64 0) (k_csWrong (W := W) d15 (hx.ext (e11.trans (g13.ext.trans e15))) hb) (fun v u9 _ h => by rw [hE] at h; exact h))
 with_reducible refine zPm k18 ?_
 rintro _ u16 g17 rfl
 refine zza 8 (zI 0) (zzb (sq9 (zza 28 (zI 0) (zza 29 (zB false) (zzb (zys xj (zzs (zzp ?_))))))))
 refine sq9 (zza 32 (.v x.v) (zza 33 (zI x.n) (zyq 34 (x := zI (IntKind.i64.wrap ((2 : Int) * (x.n : Int)))) (zI (2 * x.n : Nat)) (eqI xk) (zyq 35 (x := zI (IntKind.i64.wrap ((2 : Int) + ((2 * x.n : Nat) : Int)))) (zI ((2 + (2 * x.n) : Nat) : Int)) (eqI xk) (zza 9 (zI ((2 + (2 * x.n) : Nat) : Int)) (zzb (sq9 (zzi 36 (.v (D.v)) ty24 zze (zzi 37 (.v (W.v)) ty24 zze (zza 38 (zI ((2 + (2 * x.n) : Nat) : Int)) (sy_dataF 39 ⟨3, [.int .i64 0, .int .i64 1]⟩ 2 (fun b19 u19 e19 h19 f19 g19 => ?_))))))))))))
 have hm20 : MutL 1 3 u.heap.size u19 (⟨some ⟨b19, 0, none⟩, 2, 2⟩ : Sl) (ics [0, 1]) := MutL.lit h19 rfl yv f19
 refine zza 40 (zI ((2 + (2 * x.n) : Nat) : Int)) (zza 41 (.v x.v) (zza 42 (zI x.n) (zyq 43 (x := zI (IntKind.i64.wrap (((2 + (2 * x.n) : Nat) : Int) + (x.n : Int)))) (zI (((2 + (2 * x.n)) + x.n : Nat) : Int)) (eqI xk) (zza 44 (.v (.agg #[.int .i64 D.b, .int .i64 D.f, .int .i64 D.r, .int .i64 D.o, .int .i64 W.b, .int .i64 W.f, .int .i64 W.r, .int .i64 W.o, .int .i64 ((2 + (2 * x.n) : Nat) : Int), .slice none 0 0, .slice (some ⟨b19, 0, none⟩) 2 2, .int .i64 (((2 + (2 * x.n)) + x.n : Nat) : Int)])) (zzk 10 ⟨49, [.int .i64 0, .int .i64 0, .int .i64 0, .int .i64 0, .int .i64 0, .int .i64 0, .int .i64 0, .int .i64 0, .int .i64 0, .slice none 0 0, .slice none 0 0, .int .i64 0]⟩ (zzj ⟨49, [.int .i64 D.b, .int .i64 D.f, .int .i64 D.r, .int .i64 D.o, .int .i64 W.b, .int .i64 W.f, .int .i64 W.r, .int .i64 W.o, .int .i64 ((2 + (2 * x.n) : Nat) : Int), .slice none 0 0, .slice (some ⟨b19, 0, none⟩) 2 2, .int .i64 (((2 + (2 * x.n)) + x.n : Nat) : Int)]⟩ ty49 ?_))))))
 refine zzb (sq9 (zza 45 (.v (.agg #[.int .i64 0, .int .i64 1, .int .i64 2])) (zzk 11 ⟨85, [.int .i64 0, .int .i64 0, .int .i64 0]⟩ (zzj ⟨85, [.int .i64 0, .int .i64 1, .int .i64 2]⟩ ty85 ?_))))
 refine zzc 113 [(0, .v x.v), (6, .adr 6 0), (9, zI ((2 + (2 * x.n) : Nat) : Int)), (10, .adr 10 0), (11, .adr 11 0)] [(6, ⟨49, [.int .i64 0, .int .i64 0, .int .i64 0, .int .i64 0, .int .i64 0, .int .i64 0, .int .i64 0, .int .i64 0, .int .i64 0, .slice none 0 0, .slice none 0 0, .int .i64 0]⟩), (10, ⟨49, [.int .i64 D.b, .int .i64 D.f, .int .i64 D.r, .int .i64 D.o, .int .i64 W.b, .int .i64 W.f, .int .i64 W.r, .int .i64 W.o, .int .i64 ((2 + (2 * x.n) : Nat) : Int), .slice none 0 0, .slice (some ⟨b19, 0, none⟩) 2 2, .int .i64 (((2 + (2 * x.n)) + x.n : Nat) : Int)]⟩), (11, ⟨85, [.int .i64 0, .int .i64 1, .int .i64 2]⟩)] (zzd (sq9 (zza 46 (.v x.v) (zza 47 (zI x.n) (zza 48 (zI 0) (zzb (zzt (zyn (I := fun m21 S' u' => ∃ (i : Nat) (hz : Nat) (X : Sl) (Y : Sl) (F0 : Int) (F1 : Int) (F2 : Int), (m21 = x.n - i) ∧ (i ≤ x.n) ∧ (F0 = Nt.csF0 x.n i) ∧ (F1 = ((1 + 2 * i : Nat) : Int)) ∧ (F2 = ((2 + 2 * i : Nat) : Int)) ∧ (S' = St.of 113 [(6, .adr 6 0), (9, zI ((2 + (2 * x.n) : Nat) : Int)), (10, .adr 10 0), (11, .adr 11 0), (46, .v (.slice x.a x.n x.c)), (47, zI x.n), (48, zI i)] [(6, ⟨49, [.int .i64 0, .int .i64 0, .int .i64 0, .int .i64 0, .int .i64 0, .int .i64 0, .int .i64 0, .int .i64 0, .int .i64 0, .slice none 0 0, .slice none 0 0, .int .i64 0]⟩), (10, ⟨49, [.int .i64 D.b, .int .i64 D.f, .int .i64 D.r, .int .i64 D.o, .int .i64 W.b, .int .i64 W.f, .int .i64 W.r, .int .i64 W.o, .int .i64 (2 + 2 * x.n : Nat), .slice X.a X.n X.c, .slice Y.a Y.n Y.c, .int .i64 (2 + 2 * x.n + x.n : Nat)]⟩), (11, ⟨85, [.int .i64 F0, .int .i64 F1, .int .i64 F2]⟩)]) ∧ (Ext u u') ∧ (NodesB u.heap.size hz u' X (Nt.csNodes x.n L i)) ∧ (MutL 1 3 u.heap.size u' Y (ics (Nt.csNext x.n i)))) (fun m S u1 u2 e h => by obtain ⟨i, hz, X, Y, F0, F1, F2, hm, p0, p1, p2, p3, hS, hE, f0, f1⟩ := h; exact ⟨i, hz, X, Y, F0, F1, F2, hm, p0, p1, p2, p3, hS, hE.trans e, f0.ext e, f1.ext e⟩) _ yz ⟨0, u.heap.size, ⟨none, 0, 0⟩, (⟨some ⟨b19, 0, none⟩, 2, 2⟩ : Sl), 0, ((1 : Nat) : Int), ((2 : Nat) : Int), rfl, Nat.zero_le _, rfl, rfl, rfl, rfl, (e11.trans (g13.ext.trans (e15.trans (g17.ext.trans e19)))), NodesB.nil _ _ _, hm20⟩ ?_))))))))
 rintro m21 _ u21 ⟨i, hz, X, Y, F0, F1, F2, hm21, hi, hF0, hF1, hF2, rfl, e21, hN, hY⟩
 have hNl := hN.len
 rw [Nt.csNodes_len] at hNl
 have hYl := hY.1
 rw [zwk, Nt.csNext_len, Nat.mul_one] at hYl
 refine sq9 (zza 49 (zB (decide ((i : Int) < (x.n : Int)))) (zzb (zzd (zzu (b := decide ((i : Int) < (x.n : Int))) xj (fun hb22 => ?_) (fun hb22 => ?_)))))
 ·replace hb22 : (decide ((i : Int) < (x.n : Int))) = true := hb22
  have qhb22 := of_decide_eq_true hb22
  refine zzs (zzp ?_)
  refine zzd (zzt (sq9 (zza 50 (zI i) ?_)))
  have hl23 := ((hx.ext e21)).len
  obtain ⟨b23, o23, hA23, hc23⟩ := ir_at5 (hx.ext e21) (i := i) xq
  refine zya 51 (o23 + i * 5) (n := x.n) (off := o23) (sz := 5) (i := (i : Int)) xq hA23 xq xq sl82 (zym 52 [.int .i64 (gi L i 0), .int .i64 (gi L i 1), .int .i64 (gi L i 2), .int .i64 (gi L i 3), .int .i64 (gi L i 4)] hc23 ty87 (zzk 13 ⟨87, [.int .i64 0, .int .i64 0, .int .i64 0, .int .i64 0, .int .i64 0]⟩ (zza 12 (zI i) (zzj ⟨87, [.int .i64 (gi L i 0), .int .i64 (gi L i 1), .int .i64 (gi L i 2), .int .i64 (gi L i 3), .int .i64 (gi L i 4)]⟩ ty87 ?_))))
  refine zzb (zzd ?_)
  have hsf := hall i xq
  have hbd := Nt.secFit_ok hsf
  have hbd0 := hbd 0 yq
  have hbd1 := hbd 1 yq
  have hbd2 := hbd 2 yq
  have hbd3 := hbd 3 yq
  have hbd4 := hbd 4 yq
  refine zzf (zza 53 (zI i) (zyq 54 (x := zI (IntKind.i64.wrap ((2 : Int) * (i : Int)))) (zI (2 * i : Nat)) (eqI xk) (zyq 55 (x := zI (IntKind.i64.wrap ((3 : Int) + ((2 * i : Nat) : Int)))) (zI ((3 + (2 * i) : Nat) : Int)) (eqI xk) (zza 14 (zI ((3 + (2 * i) : Nat) : Int)) (zzb (sq9 (sy_makeC 56 (T := 74) (E := 78) (z := .agg #[.int .i64 0, .int .i64 0]) (size := 2) (bytes := 16) 0 5 (tcs (List.replicate 5 tl0)) xj xj rfl rfl yq yq (by unfold maxLen; decide) xj ?_)))))))
  have hc24 : (tcs (List.replicate 5 tl0)).length = 5 * 2 := rfl
  have hmx24 : 5 ≤ maxLen := by unfold maxLen; decide
  have ht24 : (tcs (List.replicate 5 tl0)).take (0 * 2) = tcs [] := rfl
  refine zza 15 (.slc 56 0 0 5) (zzc 113 [(6, .adr 6 0), (9, zI ((2 + (2 * x.n) : Nat) : Int)), (10, .adr 10 0), (11, .adr 11 0), (12, zI i), (13, .adr 13 0), (14, zI ((3 + (2 * i) : Nat) : Int)), (15, .slc 56 0 0 5), (46, .v x.v), (47, zI x.n), (48, zI i)] [(6, ⟨49, [.int .i64 0, .int .i64 0, .int .i64 0, .int .i64 0, .int .i64 0, .int .i64 0, .int .i64 0, .int .i64 0, .int .i64 0, .slice none 0 0, .slice none 0 0, .int .i64 0]⟩), (10, ⟨49, [.int .i64 D.b, .int .i64 D.f, .int .i64 D.r, .int .i64 D.o, .int .i64 W.b, .int .i64 W.f, .int .i64 W.r, .int .i64 W.o, .int .i64 (2 + 2 * x.n : Nat), X.v, Y.v, .int .i64 (2 + 2 * x.n + x.n : Nat)]⟩), (11, ⟨85, [.int .i64 F0, .int .i64 F1, .int .i64 F2]⟩), (13, ⟨87, [.int .i64 (gi L i 0), .int .i64 (gi L i 1), .int .i64 (gi L i 2), .int .i64 (gi L i 3), .int .i64 (gi L i 4)]⟩), (56, ⟨78, (tcs (List.replicate 5 tl0))⟩)] (zzd (sq9 (zza 57 (.adr 13 0) (zzi 58 (.v (.agg #[.int .i64 (gi L i 0), .int .i64 (gi L i 1), .int .i64 (gi L i 2)])) ty85 zze (zza 59 (zI 0) (zzb (zzt (sw_rounds 3 ?_)))))))))
  refine sq9 (zza 60 (zB true) (zzb (zzd (zyr xj (zzs (zzp ?_))))))
  refine zzd (zzt (sq9 (zza 61 (zI 0) (zza 62 (zI (gi L i 0)) (zza 16 (zI 0) (zza 17 (zI (gi L i 0)) (zzb (zzf (zza 63 (.slc 56 0 0 5) (zza 64 (zI 0) (zza 65 (.adr 11 0) ?_)))))))))))
  refine zzi 66 (zI F0) ty3 zzl (zza 67 (zI (gi L i 0)) (zza 68 (.v (.agg #[.int .i64 F0, .int .i64 (gi L i 0)])) (zxy 69 ⟨78, [.int .i64 F0, .int .i64 (gi L i 0)]⟩ 1 (fun b25 u26 e27 h28 => ?_))))
  refine sy_app1 70 (T := 74) (E := 78) (z := .agg #[.int .i64 0, .int .i64 0]) (size := 2) (bytes := 16) (b := b25) (off := 0) (m := 1) (n := 0) (cap := 5) (t := 56) (cs0 := (tcs (List.replicate 5 tl0))) [15, 56, 63, 70] [.int .i64 F0, .int .i64 (gi L i 0)] xj xj xj yq rfl (lit_news ((Ext.refl _).cells h28)) (tl_one (⟨F0, gi L i 0⟩ : TL)) yq yv xq xq xq xq xw ?_
  intro c29 cs29 ha29 hb29 hc29 hd29
  have hd29r : cs29.take ((0 + 1) * 2) = tcs ([] ++ [(⟨F0, gi L i 0⟩ : TL)]) := by rw [hd29, ht24, tcs_app]; rfl
  refine zza 15 (.slc 70 0 (0 + 1) c29) (zzx ?_)
  refine zzp (zzf (zza 71 (zI 1) (zza 59 (zI 1) (zzx ?_))))
  refine rn_next ?_
  refine sw_weak (T := St.of 113 [(6, .adr 6 0), (9, zI ((2 + (2 * x.n) : Nat) : Int)), (10, .adr 10 0), (11, .adr 11 0), (12, zI i), (13, .adr 13 0), (14, zI ((3 + (2 * i) : Nat) : Int)), (15, .slc 70 0 (0 + 1) c29), (46, .v (.slice x.a x.n x.c)), (47, zI x.n), (48, zI i), (58, .v (.agg #[.int .i64 (gi L i 0), .int .i64 (gi L i 1), .int .i64 (gi L i 2)])), (59, zI 1)] [(6, ⟨49, [.int .i64 0, .int .i64 0, .int .i64 0, .int .i64 0, .int .i64 0, .int .i64 0, .int .i64 0, .int .i64 0, .int .i64 0, .slice none 0 0, .slice none 0 0, .int .i64 0]⟩), (10, ⟨49, [.int .i64 D.b, .int .i64 D.f, .int .i64 D.r, .int .i64 D.o, .int .i64 W.b, .int .i64 W.f, .int .i64 W.r, .int .i64 W.o, .int .i64 (2 + 2 * x.n : Nat), .slice X.a X.n X.c, .slice Y.a Y.n Y.c, .int .i64 (2 + 2 * x.n + x.n : Nat)]⟩), (11, ⟨85, [.int .i64 F0, .int .i64 F1, .int .i64 F2]⟩), (13, ⟨87, [.int .i64 (gi L i 0), .int .i64 (gi L i 1), .int .i64 (gi L i 2), .int .i64 (gi L i 3), .int .i64 (gi L i 4)]⟩), (70, ⟨78, cs29⟩)]) yz ?_
  refine sq9 (zza 60 (zB true) (zzb (zzd (zyr xj (zzs (zzp ?_))))))
  refine zzd (zzt (sq9 (zza 61 (zI 1) (zza 62 (zI (gi L i 1)) (zza 16 (zI 1) (zza 17 (zI (gi L i 1)) (zzb (zzf (zza 63 (.slc 70 0 (0 + 1) c29) (zza 64 (zI 1) (zza 65 (.adr 11 1) ?_)))))))))))
  refine zzi 66 (zI F1) ty3 zzl (zza 67 (zI (gi L i 1)) (zza 68 (.v (.agg #[.int .i64 F1, .int .i64 (gi L i 1)])) (zxy 69 ⟨78, [.int .i64 F1, .int .i64 (gi L i 1)]⟩ 1 (fun b30 u31 e32 h33 => ?_))))
  refine sy_app1 70 (T := 74) (E := 78) (z := .agg #[.int .i64 0, .int .i64 0]) (size := 2) (bytes := 16) (b := b30) (off := 0) (m := 1) (n := 0 + 1) (cap := c29) (t := 70) (cs0 := cs29) [15, 63, 70] [.int .i64 F1, .int .i64 (gi L i 1)] xj xj xj yq rfl (lit_news ((Ext.refl _).cells h33)) (tl_one (⟨F1, gi L i 1⟩ : TL)) yq yv xq xq xq xq xw ?_
  intro c34 cs34 ha34 hb34 hc34 hd34
  have hd34r : cs34.take ((0 + 1 + 1) * 2) = tcs ([] ++ [(⟨F0, gi L i 0⟩ : TL)] ++ [(⟨F1, gi L i 1⟩ : TL)]) := by rw [hd34, hd29r, tcs_app]; rfl
  refine zza 15 (.slc 70 0 (0 + 1 + 1) c34) (zzx ?_)
  refine zzp (zzf (zza 71 (zI 2) (zza 59 (zI 2) (zzx ?_))))
  refine rn_next ?_
  refine sw_weak (T := St.of 113 [(6, .adr 6 0), (9, zI ((2 + (2 * x.n) : Nat) : Int)), (10, .adr 10 0), (11, .adr 11 0), (12, zI i), (13, .adr 13 0), (14, zI ((3 + (2 * i) : Nat) : Int)), (15, .slc 70 0 (0 + 1 + 1) c34), (46, .v (.slice x.a x.n x.c)), (47, zI x.n), (48, zI i), (58, .v (.agg #[.int .i64 (gi L i 0), .int .i64 (gi L i 1), .int .i64 (gi L i 2)])), (59, zI 2)] [(6, ⟨49, [.int .i64 0, .int .i64 0, .int .i64 0, .int .i64 0, .int .i64 0, .int .i64 0, .int .i64 0, .int .i64 0, .int .i64 0, .slice none 0 0, .slice none 0 0, .int .i64 0]⟩), (10, ⟨49, [.int .i64 D.b, .int .i64 D.f, .int .i64 D.r, .int .i64 D.o, .int .i64 W.b, .int .i64 W.f, .int .i64 W.r, .int .i64 W.o, .int .i64 (2 + 2 * x.n : Nat), .slice X.a X.n X.c, .slice Y.a Y.n Y.c, .int .i64 (2 + 2 * x.n + x.n : Nat)]⟩), (11, ⟨85, [.int .i64 F0, .int .i64 F1, .int .i64 F2]⟩), (13, ⟨87, [.int .i64 (gi L i 0), .int .i64 (gi L i 1), .int .i64 (gi L i 2), .int .i64 (gi L i 3), .int .i64 (gi L i 4)]⟩), (70, ⟨78, cs34⟩)]) yz ?_
  refine sq9 (zza 60 (zB true) (zzb (zzd (zyr xj (zzs (zzp ?_))))))
  refine zzd (zzt (sq9 (zza 61 (zI 2) (zza 62 (zI (gi L i 2)) (zza 16 (zI 2) (zza 17 (zI (gi L i 2)) (zzb (zzf (zza 63 (.slc 70 0 (0 + 1 + 1) c34) (zza 64 (zI 2) (zza 65 (.adr 11 2) ?_)))))))))))
  refine zzi 66 (zI F2) ty3 zzl (zza 67 (zI (gi L i 2)) (zza 68 (.v (.agg #[.int .i64 F2, .int .i64 (gi L i 2)])) (zxy 69 ⟨78, [.int .i64 F2, .int .i64 (gi L i 2)]⟩ 1 (fun b35 u36 e37 h38 => ?_))))
  refine sy_app1 70 (T := 74) (E := 78) (z := .agg #[.int .i64 0, .int .i64 0]) (size := 2) (bytes := 16) (b := b35) (off := 0) (m := 1) (n := 0 + 1 + 1) (cap := c34) (t := 70) (cs0 := cs34) [15, 63, 70] [.int .i64 F2, .int .i64 (gi L i 2)] xj xj xj yq rfl (lit_news ((Ext.refl _).cells h38)) (tl_one (⟨F2, gi L i 2⟩ : TL)) yq yv xq xq xq xq xw ?_
  intro c39 cs39 ha39 hb39 hc39 hd39
  have hd39r : cs39.take ((0 + 1 + 1 + 1) * 2) = tcs ([] ++ [(⟨F0, gi L i 0⟩ : TL)] ++ [(⟨F1, gi L i 1⟩ : TL)] ++ [(⟨F2, gi L i 2⟩ : TL)]) := by rw [hd39, hd34r, tcs_app]; rfl
  refine zza 15 (.slc 70 0 (0 + 1 + 1 + 1) c39) (zzx ?_)
  refine zzp (zzf (zza 71 (zI 3) (zza 59 (zI 3) (zzx ?_))))
  refine rn_next ?_
  refine sw_weak (T := St.of 113 [(6, .adr 6 0), (9, zI ((2 + (2 * x.n) : Nat) : Int)), (10, .adr 10 0), (11, .adr 11 0), (12, zI i), (13, .adr 13 0), (14, zI ((3 + (2 * i) : Nat) : Int)), (15, .slc 70 0 (0 + 1 + 1 + 1) c39), (46, .v (.slice x.a x.n x.c)), (47, zI x.n), (48, zI i), (58, .v (.agg #[.int .i64 (gi L i 0), .int .i64 (gi L i 1), .int .i64 (gi L i 2)])), (59, zI 3)] [(6, ⟨49, [.int .i64 0, .int .i64 0, .int .i64 0, .int .i64 0, .int .i64 0, .int .i64 0, .int .i64 0, .int .i64 0, .int .i64 0, .slice none 0 0, .slice none 0 0, .int .i64 0]⟩), (10, ⟨49, [.int .i64 D.b, .int .i64 D.f, .int .i64 D.r, .int .i64 D.o, .int .i64 W.b, .int .i64 W.f, .int .i64 W.r, .int .i64 W.o, .int .i64 (2 + 2 * x.n : Nat), .slice X.a X.n X.c, .slice Y.a Y.n Y.c, .int .i64 (2 + 2 * x.n + x.n : Nat)]⟩), (11, ⟨85, [.int .i64 F0, .int .i64 F1, .int .i64 F2]⟩), (13, ⟨87, [.int .i64 (gi L i 0), .int .i64 (gi L i 1), .int .i64 (gi L i 2), .int .i64 (gi L i 3), .int .i64 (gi L i 4)]⟩), (70, ⟨78, cs39⟩)]) yz ?_
  refine sq9 (zza 60 (zB false) (zzb (zzd (zys xj (zyc (zzp (zzd (sq9 (zza 72 (.adr 13 3) (zzi 73 (.v (.agg #[.int .i64 (gi L i 3), .int .i64 (gi L i 4)])) ty58 zze (zza 74 (zI 0) ?_)))))))))))
  refine zzb (zzt (sw_rounds 2 ?_))
  refine sq9 (zza 75 (zB true) (zzb (zzd (zyr xj (zzs (zzp ?_))))))
  refine zzd (zzt (sq9 (zza 76 (zI 0) (zza 77 (zI (gi L i 3)) (zza 18 (zI 0) (zza 19 (zI (gi L i 3)) (zzb (zzf (zza 78 (.slc 70 0 (0 + 1 + 1 + 1) c39) (zza 79 (zI ((3 + (2 * i) : Nat) : Int)) (zza 80 (zI 0) ?_)))))))))))
  refine zyq 81 (x := zI (IntKind.i64.wrap (((3 + (2 * i) : Nat) : Int) + 0))) (zI (((3 + (2 * i)) + 0 : Nat) : Int)) (eqI xk) (zza 82 (zI (gi L i 3)) (zyq 83 (x := zI (IntKind.i64.wrap (0 - (gi L i 3)))) (zI (-(gi L i 3))) (eqI xk) (zza 84 (.v (.agg #[.int .i64 (((3 + (2 * i)) + 0 : Nat) : Int), .int .i64 (-(gi L i 3))])) (zxy 85 ⟨78, [.int .i64 (((3 + (2 * i)) + 0 : Nat) : Int), .int .i64 (-(gi L i 3))]⟩ 1 (fun b40 u41 e42 h43 => ?_)))))
  refine sy_app1 86 (T := 74) (E := 78) (z := .agg #[.int .i64 0, .int .i64 0]) (size := 2) (bytes := 16) (b := b40) (off := 0) (m := 1) (n := 0 + 1 + 1 + 1) (cap := c39) (t := 70) (cs0 := cs39) [15, 70, 78, 86] [.int .i64 (((3 + (2 * i)) + 0 : Nat) : Int), .int .i64 (-(gi L i 3))] xj xj xj yq rfl (lit_news ((Ext.refl _).cells h43)) (tl_one (⟨(((3 + (2 * i)) + 0 : Nat) : Int), -(gi L i 3)⟩ : TL)) yq yv xq xq xq xq xw ?_
  intro c44 cs44 ha44 hb44 hc44 hd44
  have hd44r : cs44.take ((0 + 1 + 1 + 1 + 1) * 2) = tcs ([] ++ [(⟨F0, gi L i 0⟩ : TL)] ++ [(⟨F1, gi L i 1⟩ : TL)] ++ [(⟨F2, gi L i 2⟩ : TL)] ++ [(⟨(((3 + (2 * i)) + 0 : Nat) : Int), -(gi L i 3)⟩ : TL)]) := by rw [hd44, hd39r, tcs_app]; rfl
  refine zza 15 (.slc 86 0 (0 + 1 + 1 + 1 + 1) c44) (zzx ?_)
  refine zzp (zzf (zza 87 (zI 1) (zza 74 (zI 1) (zzx ?_))))
  refine rn_next ?_
  refine sw_weak (T := St.of 113 [(6, .adr 6 0), (9, zI ((2 + (2 * x.n) : Nat) : Int)), (10, .adr 10 0), (11, .adr 11 0), (12, zI i), (14, zI ((3 + (2 * i) : Nat) : Int)), (15, .slc 86 0 (0 + 1 + 1 + 1 + 1) c44), (46, .v (.slice x.a x.n x.c)), (47, zI x.n), (48, zI i), (73, .v (.agg #[.int .i64 (gi L i 3), .int .i64 (gi L i 4)])), (74, zI 1)] [(6, ⟨49, [.int .i64 0, .int .i64 0, .int .i64 0, .int .i64 0, .int .i64 0, .int .i64 0, .int .i64 0, .int .i64 0, .int .i64 0, .slice none 0 0, .slice none 0 0, .int .i64 0]⟩), (10, ⟨49, [.int .i64 D.b, .int .i64 D.f, .int .i64 D.r, .int .i64 D.o, .int .i64 W.b, .int .i64 W.f, .int .i64 W.r, .int .i64 W.o, .int .i64 (2 + 2 * x.n : Nat), .slice X.a X.n X.c, .slice Y.a Y.n Y.c, .int .i64 (2 + 2 * x.n + x.n : Nat)]⟩), (11, ⟨85, [.int .i64 F0, .int .i64 F1, .int .i64 F2]⟩), (86, ⟨78, cs44⟩)]) yz ?_
  refine sq9 (zza 75 (zB true) (zzb (zzd (zyr xj (zzs (zzp ?_))))))
  refine zzd (zzt (sq9 (zza 76 (zI 1) (zza 77 (zI (gi L i 4)) (zza 18 (zI 1) (zza 19 (zI (gi L i 4)) (zzc 113 [(6, .adr 6 0), (9, zI ((2 + (2 * x.n) : Nat) : Int)), (10, .adr 10 0), (11, .adr 11 0), (12, zI i), (14, zI ((3 + (2 * i) : Nat) : Int)), (15, .slc 86 0 (0 + 1 + 1 + 1 + 1) c44), (18, zI 1), (19, zI (gi L i 4)), (46, .v x.v), (47, zI x.n), (48, zI i), (73, .v (.agg #[.int .i64 (gi L i 3), .int .i64 (gi L i 4)])), (74, zI 1)] [(6, ⟨49, [.int .i64 0, .int .i64 0, .int .i64 0, .int .i64 0, .int .i64 0, .int .i64 0, .int .i64 0, .int .i64 0, .int .i64 0, .slice none 0 0, .slice none 0 0, .int .i64 0]⟩), (10, ⟨49, [.int .i64 D.b, .int .i64 D.f, .int .i64 D.r, .int .i64 D.o, .int .i64 W.b, .int .i64 W.f, .int .i64 W.r, .int .i64 W.o, .int .i64 (2 + 2 * x.n : Nat), X.v, Y.v, .int .i64 (2 + 2 * x.n + x.n : Nat)]⟩), (11, ⟨85, [.int .i64 F0, .int .i64 F1, .int .i64 F2]⟩), (86, ⟨78, cs44⟩)] (zzf (zza 78 (.slc 86 0 (0 + 1 + 1 + 1 + 1) c44) (zza 79 (zI ((3 + (2 * i) : Nat) : Int)) (zza 80 (zI 1) ?_)))))))))))
  refine zyq 81 (x := zI (IntKind.i64.wrap (((3 + (2 * i) : Nat) : Int) + 1))) (zI (((3 + (2 * i)) + 1 : Nat) : Int)) (eqI xk) (zza 82 (zI (gi L i 4)) (zyq 83 (x := zI (IntKind.i64.wrap (0 - (gi L i 4)))) (zI (-(gi L i 4))) (eqI xk) (zza 84 (.v (.agg #[.int .i64 (((3 + (2 * i)) + 1 : Nat) : Int), .int .i64 (-(gi L i 4))])) (zxy 85 ⟨78, [.int .i64 (((3 + (2 * i)) + 1 : Nat) : Int), .int .i64 (-(gi L i 4))]⟩ 1 (fun b45 u46 e47 h48 => ?_)))))
  refine sy_app1 86 (T := 74) (E := 78) (z := .agg #[.int .i64 0, .int .i64 0]) (size := 2) (bytes := 16) (b := b45) (off := 0) (m := 1) (n := 0 + 1 + 1 + 1 + 1) (cap := c44) (t := 86) (cs0 := cs44) [15, 78, 86] [.int .i64 (((3 + (2 * i)) + 1 : Nat) : Int), .int .i64 (-(gi L i 4))] xj xj xj yq rfl (lit_news ((Ext.refl _).cells h48)) (tl_one (⟨(((3 + (2 * i)) + 1 : Nat) : Int), -(gi L i 4)⟩ : TL)) yq yv xq xq xq xq xw ?_
  intro c49 cs49 ha49 hb49 hc49 hd49
  have hd49r : cs49.take ((0 + 1 + 1 + 1 + 1 + 1) * 2) = tcs ([] ++ [(⟨F0, gi L i 0⟩ : TL)] ++ [(⟨F1, gi L i 1⟩ : TL)] ++ [(⟨F2, gi L i 2⟩ : TL)] ++ [(⟨(((3 + (2 * i)) + 0 : Nat) : Int), -(gi L i 3)⟩ : TL)] ++ [(⟨(((3 + (2 * i)) + 1 : Nat) : Int), -(gi L i 4)⟩ : TL)]) := by rw [hd49, hd44r, tcs_app]; rfl
  refine zza 15 (.slc 86 0 (0 + 1 + 1 + 1 + 1 + 1) c49) (zzx ?_)
  refine zzp (zzf (zza 87 (zI 2) (zza 74 (zI 2) (zzx ?_))))
  refine rn_next ?_
  refine sw_weak (T := St.of 113 [(6, .adr 6 0), (9, zI ((2 + (2 * x.n) : Nat) : Int)), (10, .adr 10 0), (11, .adr 11 0), (12, zI i), (14, zI ((3 + (2 * i) : Nat) : Int)), (15, .slc 86 0 (0 + 1 + 1 + 1 + 1 + 1) c49), (46, .v (.slice x.a x.n x.c)), (47, zI x.n), (48, zI i), (73, .v (.agg #[.int .i64 (gi L i 3), .int .i64 (gi L i 4)])), (74, zI 2)] [(6, ⟨49, [.int .i64 0, .int .i64 0, .int .i64 0, .int .i64 0, .int .i64 0, .int .i64 0, .int .i64 0, .int .i64 0, .int .i64 0, .slice none 0 0, .slice none 0 0, .int .i64 0]⟩), (10, ⟨49, [.int .i64 D.b, .int .i64 D.f, .int .i64 D.r, .int .i64 D.o, .int .i64 W.b, .int .i64 W.f, .int .i64 W.r, .int .i64 W.o, .int .i64 (2 + 2 * x.n : Nat), .slice X.a X.n X.c, .slice Y.a Y.n Y.c, .int .i64 (2 + 2 * x.n + x.n : Nat)]⟩), (11, ⟨85, [.int .i64 F0, .int .i64 F1, .int .i64 F2]⟩), (86, ⟨78, cs49⟩)]) yz ?_
  refine sq9 (zza 75 (zB false) (zzb (zzd (zys xj (zyc (zzp (sq9 (zza 88 (zI ((2 + (2 * x.n) : Nat) : Int)) (zyq 89 (x := zI (IntKind.i64.wrap (((2 + (2 * x.n) : Nat) : Int) + 1))) (zI (((2 + (2 * x.n)) + 1 : Nat) : Int)) (eqI xk) (zza 90 (zI i) (zyq 91 (x := zI (IntKind.i64.wrap ((((2 + (2 * x.n)) + 1 : Nat) : Int) + (i : Int)))) (zI ((((2 + (2 * x.n)) + 1) + i : Nat) : Int)) (eqI xk) ?_)))))))))))
  refine zza 20 (zI ((((2 + (2 * x.n)) + 1) + i : Nat) : Int)) (zzb (zzd (zyp (r := 15) (t := 86) [15, 86] xw xj (by rfl) (by rfl) xj (fun b50 u51 e52 hb53 hh54 => ?_))))
  have hp55 : MutL 2 78 u.heap.size u51 (⟨some ⟨b50, 0, none⟩, 0 + 1 + 1 + 1 + 1 + 1, c49⟩ : Sl) (tcs (Nt.csNode x.n i (L.getD i []))) := by
   have h9 : MutL 2 78 u.heap.size u51 (⟨some ⟨b50, 0, none⟩, 0 + 1 + 1 + 1 + 1 + 1, c49⟩ : Sl) (tcs ([] ++ [(⟨F0, gi L i 0⟩ : TL)] ++ [(⟨F1, gi L i 1⟩ : TL)] ++ [(⟨F2, gi L i 2⟩ : TL)] ++ [(⟨(((3 + (2 * i)) + 0 : Nat) : Int), -(gi L i 3)⟩ : TL)] ++ [(⟨(((3 + (2 * i)) + 1 : Nat) : Int), -(gi L i 4)⟩ : TL)])) := ⟨rfl, ha49, hb49, .inr ⟨b50, cs49, rfl, hh54, hc49, hd49r, hb53⟩⟩
   rw [hF0, hF1, hF2] at h9; exact h9
  have hNe := NodesB.excl (hN.ext (e27.trans (e32.trans (e37.trans (e42.trans (e47.trans e52)))))) (Nat.le_refl _)
  have hZo := MutL.off hp55 (Nat.le_refl _)
  refine zzf (zza 92 (.adr 10 9) (zzi 93 (.v X.v) ty47 zzl (zza 94 (.v (.slice (some ⟨b50, 0, none⟩) (0 + 1 + 1 + 1 + 1 + 1) c49)) (zza 95 (.v (.agg #[.slice (some ⟨b50, 0, none⟩) (0 + 1 + 1 + 1 + 1 + 1) c49])) (zxy 96 ⟨76, [.slice (some ⟨b50, 0, none⟩) (0 + 1 + 1 + 1 + 1 + 1) c49]⟩ 1 (fun b56 u57 e58 h59 => ?_))))))
  obtain ⟨Ls60, gA60, gB60, gC60⟩ := id (hNe.ext e58)
  have hnl60 := NodesB.len (hNe.ext e58)
  refine sy_appM 97 (T := 47) (E := 76) (z := .agg #[.slice none 0 0]) (size := 1) (bytes := 24) (b2 := b56) (off := 0) (m := 1) X (Ls60.map Sl.v) [.slice (some ⟨b50, 0, none⟩) (0 + 1 + 1 + 1 + 1 + 1) c49] gA60 xj xj xj yq rfl (lit_news ((Ext.refl _).cells h59)) (sl_one (⟨some ⟨b50, 0, none⟩, 0 + 1 + 1 + 1 + 1 + 1, c49⟩ : Sl)) yq yv xq (fun y60 u60 hm60 hn60 eX60 ho60 => ?_)
  have hN61 := NodesB.snoc (ts := (Nt.csNode x.n i (L.getD i []))) gA60 gB60 gC60 (hp55.ext e58) hZo eX60 hm60
  have eT62 := ExtX.t eX60 gA60
  have eT62r := ExtX.root eX60 gA60 (e21.trans (e27.trans (e32.trans (e37.trans (e42.trans (e47.trans (e52.trans e58)))))))
  have hk63 := MutL.extT (hY.ext (e27.trans (e32.trans (e37.trans (e42.trans (e47.trans (e52.trans e58))))))) eT62 yq
  have hN61l := NodesB.len hN61
  simp only [List.length_append, List.length_cons, List.length_nil, Nt.ndB_len] at hN61l
  refine zza 98 (.adr 10 9) (zzj ⟨49, [.int .i64 D.b, .int .i64 D.f, .int .i64 D.r, .int .i64 D.o, .int .i64 W.b, .int .i64 W.f, .int .i64 W.r, .int .i64 W.o, .int .i64 (2 + 2 * x.n : Nat), y60.v, Y.v, .int .i64 (2 + 2 * x.n + x.n : Nat)]⟩ ty47 ?_)
  refine zzb (sq9 (zza 99 (.adr 10 10) (zzi 100 (.v Y.v) ty22 zzl (zza 101 (zI ((((2 + (2 * x.n)) + 1) + i : Nat) : Int)) (zza 102 (zI ((3 + (2 * i) : Nat) : Int)) (zxy 103 ⟨3, [.int .i64 ((((2 + (2 * x.n)) + 1) + i : Nat) : Int), .int .i64 ((3 + (2 * i) : Nat) : Int)]⟩ 2 (fun b64 u65 e66 h67 => ?_)))))))
  refine sy_appM 104 (T := 22) (E := 3) (z := .int .i64 0) (size := 1) (bytes := 8) (b2 := b64) (off := 0) (m := 2) Y (ics (Nt.csNext x.n i)) [.int .i64 ((((2 + (2 * x.n)) + 1) + i : Nat) : Int), .int .i64 ((3 + (2 * i) : Nat) : Int)] (hk63.ext e66) xj xj xj yq rfl (lit_news ((Ext.refl _).cells h67)) (int_two _ _) yq yv xq (fun y68 u68 hm68 hn68 eX68 ho68 => ?_)
  have eT69 := ExtX.t eX68 (hk63.ext e66)
  have eT69r := ExtX.root eX68 (hk63.ext e66) (eT62r.trans e66)
  have hk70 := NodesB.extT (hN61.ext e66) eT69 yq yq
  have hN71 : MutL 1 3 u.heap.size u68 y68 (ics ((Nt.csNext x.n i) ++ [((((2 + (2 * x.n)) + 1) + i : Nat) : Int), ((3 + (2 * i) : Nat) : Int)])) := by rw [ics_app]; exact hm68
  refine zza 105 (.adr 10 10) (zzj ⟨49, [.int .i64 D.b, .int .i64 D.f, .int .i64 D.r, .int .i64 D.o, .int .i64 W.b, .int .i64 W.f, .int .i64 W.r, .int .i64 W.o, .int .i64 (2 + 2 * x.n : Nat), y60.v, y68.v, .int .i64 (2 + 2 * x.n + x.n : Nat)]⟩ ty22 ?_)
  refine zzb (zzf (zza 106 (zI ((((2 + (2 * x.n)) + 1) + i : Nat) : Int)) (zza 107 (zI ((3 + (2 * i) : Nat) : Int)) (zza 108 (zI ((3 + (2 * i) : Nat) : Int)) (zyq 109 (x := zI (IntKind.i64.wrap (((3 + (2 * i) : Nat) : Int) + 1))) (zI (((3 + (2 * i)) + 1 : Nat) : Int)) (eqI xk) (zza 110 (.v (.agg #[.int .i64 ((((2 + (2 * x.n)) + 1) + i : Nat) : Int), .int .i64 ((3 + (2 * i) : Nat) : Int), .int .i64 (((3 + (2 * i)) + 1 : Nat) : Int)])) (zzj ⟨85, [.int .i64 ((((2 + (2 * x.n)) + 1) + i : Nat) : Int), .int .i64 ((3 + (2 * i) : Nat) : Int), .int .i64 (((3 + (2 * i)) + 1 : Nat) : Int)]⟩ ty85 ?_)))))))
  refine zzx ?_
  refine zzp (zzf (zyq 111 (x := zI (IntKind.i64.wrap ((i : Int) + 1))) (zI (i + 1 : Nat)) (eqI xk) (zza 48 (zI (i + 1 : Nat)) (zzx ?_))))
  refine ⟨_, ?_, _, by exact zzv _ _ _, i + 1, u51.heap.size, y60, y68, ((((2 + (2 * x.n)) + 1) + i : Nat) : Int), ((3 + (2 * i) : Nat) : Int), (((3 + (2 * i)) + 1 : Nat) : Int), rfl, by omega, (by unfold Nt.csF0; rw [if_neg xq]; omega), xq, xq, rfl, eT69r, (by rw [Nt.csNodes_succ]; exact hk70), (by rw [Nt.csNext_succ, show 3 + 2 * x.n + i = 2 + 2 * x.n + 1 + i by omega]; exact hN71)⟩
  omega
 ·replace hb22 : (decide ((i : Int) < (x.n : Int))) = false := hb22
  have qhb22 := of_decide_eq_false hb22
  refine zyc (zzp (sq9 (zzi 112 (.v (.agg #[.int .i64 D.b, .int .i64 D.f, .int .i64 D.r, .int .i64 D.o, .int .i64 W.b, .int .i64 W.f, .int .i64 W.r, .int .i64 W.o, .int .i64 (2 + 2 * x.n : Nat), X.v, Y.v, .int .i64 (2 + 2 * x.n + x.n : Nat)])) ty49 zze (zzj ⟨49, [.int .i64 D.b, .int .i64 D.f, .int .i64 D.r, .int .i64 D.o, .int .i64 W.b, .int .i64 W.f, .int .i64 W.r, .int .i64 W.o, .int .i64 (2 + 2 * x.n : Nat), X.v, Y.v, .int .i64 (2 + 2 * x.n + x.n : Nat)]⟩ ty49 ?_))))
  refine zza 7 (zI 0) (zzb (zzo (ret0 [.agg #[.int .i64 D.b, .int .i64 D.f, .int .i64 D.r, .int .i64 D.o, .int .i64 W.b, .int .i64 W.f, .int .i64 W.r, .int .i64 W.o, .int .i64 (2 + 2 * x.n : Nat), .slice X.a X.n X.c, .slice Y.a Y.n Y.c, .int .i64 (2 + 2 * x.n + x.n : Nat)], .int .i64 0] ⟨zzr ty49 zze, zzq, trivial⟩ fun u72 e73 => ?_)))
  have hi9 : i = L.length := by omega
  refine ⟨X, Y, ?_, ⟨hz, ?_⟩, ?_⟩
  ·rw [← hlx]; rfl
  ·have h9 := NodesB.low (hN.ext e73) (Nat.zero_le _)
   rw [hi9, hlx] at h9; exact h9
  ·have h9 := MutL.low (hY.ext e73) (Nat.zero_le _)
   rw [hi9, hlx] at h9; exact h9
namespace Nt
theorem wq_wh {z f : Int} {b : Nat} (hz : z.natAbs ≤ 2 ^ b) : Wh (wq z f * ((((p2i f).toNat : Nat) : Int) : Rat)) b := by
 have hp := zxp f
 rw [Int.toNat_of_nonneg (Int.le_of_lt hp)]
 refine ⟨z, ?_, hz⟩
 unfold wq
 exact Rat.div_mul_cancel (fun e => by have : p2i f = 0 := Rat.intCast_inj.1 e; omega)
def csN (f : Int) (p : List Int) : List Rat := [wq (p.getD 0 0) f, wq (p.getD 1 0) f, wq (p.getD 2 0) f]
def csD (f : Int) (p : List Int) : List Rat := [1, wq (p.getD 3 0) f, wq (p.getD 4 0) f]
def csP (g : List Int → List Rat) (L : List (List Int)) : Nat → List Rat
 | 0 => [1]
 | k + 1 => trimQ (mulQ (csP g L k) (g (L.getD k [])))
theorem csN_sm {f : Int} {p : List Int} (h : ∀ j, j < 5 → (p.getD j 0).natAbs ≤ 2 ^ 24) : Sm (csN f p) (p2i f).toNat 24 := by
 have hp := zxp f
 refine Sm.ofAll xq (fun x hx => ?_)
 rcases List.mem_cons.1 hx with rfl | hx
 ·exact wq_wh (h 0 yq)
 rcases List.mem_cons.1 hx with rfl | hx
 ·exact wq_wh (h 1 yq)
 rw [List.mem_singleton.1 hx]
 exact wq_wh (h 2 yq)
theorem csD_sm {f : Int} {p : List Int} (hf : p2i f ≤ 16777216) (h : ∀ j, j < 5 → (p.getD j 0).natAbs ≤ 2 ^ 24) : Sm (csD f p) (p2i f).toNat 24 := by
 have hp := zxp f
 refine Sm.ofAll xq (fun x hx => ?_)
 rcases List.mem_cons.1 hx with rfl | hx
 ·exact ⟨((p2i f).toNat : Int), by rw [Rat.one_mul], by omega⟩
 rcases List.mem_cons.1 hx with rfl | hx
 ·exact wq_wh (h 3 yq)
 rw [List.mem_singleton.1 hx]
 exact wq_wh (h 4 yq)
section
variable {g : List Int → List Rat} {L : List (List Int)} {k P K : Nat}
theorem csP_len (hg : ∀ p, (g p).length = 3) : (csP g L k).length ≤ 2 * k + 1 := by
 induction k with
 | zero => exact Nat.le_refl _
 | succ k ih => exact Nat.le_trans (zxu ih (Nat.le_of_eq (hg _))) xq
theorem csP_sm (hP : 0 < P) (hg : ∀ p, (g p).length = 3) (hs : ∀ i, i < k → Sm (g (L.getD i [])) P 24) : Sm (csP g L k) (P ^ k) (27 * k) := by
 induction k with
 | zero => exact Sm.ofAll (Nat.lt_of_lt_of_le (by decide : 0 < 1) (Nat.le_of_eq (Nat.pow_zero P).symm)) (fun x hx => by rw [List.mem_singleton.1 hx]; exact ⟨1, by simp, by decide⟩)
 | succ k ih =>
  have h1 := (Sm.mulR (ih (fun i hi => hs i xq)) (hs k xq)).trim
  rw [hg] at h1
  rw [Nat.pow_succ]
  exact h1.more xq
end
def secSt (f : Int) (p : List Int) : Bool := decide (az (p.getD 4 0) < p2i f) && decide (az (p.getD 3 0) < p2i f + p.getD 4 0)
def csSt (f : Int) (L : List (List Int)) : Bool := decide (∀ i, i < L.length → secSt f (L.getD i []) = true)
theorem csSt_yes {f : Int} {L : List (List Int)} (h : ∀ i, i < L.length → secSt f (L.getD i []) = true) : csSt f L = true := decide_eq_true h
theorem csSt_no {f : Int} {L : List (List Int)} {i : Nat} (hi : i < L.length) (h : secSt f (L.getD i []) = false) : csSt f L = false := decide_eq_false (fun k => by rw [k i hi] at h; cases h)
theorem secSt_yes {f : Int} {L : List (List Int)} {i : Nat} (h1 : az (gi L i 4) < p2i f) (h2 : az (gi L i 3) < p2i f + gi L i 4) : secSt f (L.getD i []) = true := by
 unfold gi at h1 h2
 unfold secSt; rw [decide_eq_true h1, decide_eq_true h2]; rfl
theorem secSt_no1 {f : Int} {L : List (List Int)} {i : Nat} (h1 : ¬ az (gi L i 4) < p2i f) : secSt f (L.getD i []) = false := by
 unfold gi at h1
 unfold secSt; rw [decide_eq_false h1]; rfl
theorem secSt_no2 {f : Int} {L : List (List Int)} {i : Nat} (h2 : ¬ az (gi L i 3) < p2i f + gi L i 4) : secSt f (L.getD i []) = false := by
 unfold gi at h2
 unfold secSt; rw [decide_eq_false h2, Bool.and_false]
end Nt
theorem csP_fit {u : World} {x : Sl} {g : List Int → List Rat} {L : List (List Int)} {k P K : Nat} (h : PolN u x (Nt.csP g L k) K) (hP : 0 < P) (hP2 : P ≤ 2 ^ 24) (hk : k ≤ 8) (hg : ∀ p, (g p).length = 3) (hs : ∀ i, i < k → Nt.Sm (g (L.getD i [])) P 24) : PolN u x (Nt.csP g L k) 7 := by
 refine (PolN.fitS h (Nt.csP_sm hP hg hs) ?_).more ?_
 ·refine Nat.le_trans (Nat.pow_le_pow_left hP2 k) ?_
  rw [← Nat.pow_mul]
  exact Nat.pow_le_pow_right yq xq
 ·exact Nat.le_trans (Nt.dg_mono (show 27 * k ≤ 216 by omega)) yq
set_option maxHeartbeats 4000000 in
theorem k_csIdeal {u w : World} {x : Sl} {L : List (List Int)} {W : WL} (d : Dat u w) (hE : Nt.csE W L = 0) (hx : IrV 5 u x L) (hb : ∀ p ∈ L, ∀ z ∈ p, -9223372036854775808 ≤ z ∧ z ≤ 9223372036854775807) : Calls Tryz.prog 38 #[x.v, W.v] w (Post u w fun v u' => ∃ y z : Sl, v = .tuple #[.agg #[y.v, z.v], .int .i64 0] ∧ PolN u' y (Nt.csP (Nt.csN W.f) L L.length) 7 ∧ PolN u' z (Nt.csP (Nt.csD W.f) L L.length) 7) := by
 obtain ⟨hW, h1, h8, hall⟩ := Nt.csE_ok hE
 have hlx := hx.len
 obtain ⟨hw1, hw2, hw3, hw4, hw5, hw6, hw7, hw8⟩ := id hW
 have hp24 := Nt.p2i_24 (n := W.b - 1) xq
 have hpf := Nt.p2i_24 (n := W.f) xq
 have hpp := Nt.zxp W.f
 have hbd5 : ∀ i, i < L.length → ∀ j, j < 5 → ((L.getD i []).getD j 0).natAbs ≤ 2 ^ 24 := fun i hi j hj => by have h9 := Nt.secFit_ok (hall i hi) j hj; unfold gi at h9; omega
 refine zzm (args := [.slice x.a x.n x.c, .agg #[.int .i64 W.b, .int .i64 W.f, .int .i64 W.r, .int .i64 W.o]]) Tryz.func38 rfl Tryz.ntmps38 (rs := [.cell 4 31, .tmp 5]) Tryz.results38 (le_b rfl) (le_b rfl) d ?_
 refine sq9 (zzk 3 ⟨24, W.cs⟩ (zzk 4 ⟨31, [.slice none 0 0, .slice none 0 0]⟩ (zza 5 (zI 0) (zzb (zzd (sq9 (zza 17 (.v x.v) (zzi 18 (.v (W.v)) ty24 zze (zzg 19 122 [x.v, W.v] ?_)))))))))
 intro w11 u11 e11 d11
 have k14 := (Post.mono (Ψ := fun v _ => v = .int .i64 0) (k_csWrong (W := W) d11 (hx.ext e11) hb) (fun v u9 _ h => by rw [hE] at h; exact h))
 with_reducible refine zPm k14 ?_
 rintro _ u12 g13 rfl
 refine zza 6 (zI 0) (zzb (sq9 (zza 20 (zI 0) (zza 21 (zB false) (zzb (zys xj (zzs (zzp ?_))))))))
 refine sq9 (zzg 24 61 [.int .i64 1] ?_)
 intro w15 u15 e15 d15
 have k20 := k_ratOf d15 (z := 1) xq xq
 with_reducible refine zPm k20 ?_
 rintro _ u18 g19 ⟨r16, rfl, h17⟩
 refine zxy 25 ⟨41, r16.cs⟩ 1 (fun b21 u22 e23 h24 => ?_)
 have hp25 : PolN u22 (⟨some ⟨b21, 0, none⟩, 1, 1⟩ : Sl) [((1 : Int) : Rat)] 2 := pol_lit (L := [r16]) h24 (rats1 (h17.ext e23)) rfl yq
 refine zzg 26 61 [.int .i64 1] ?_
 intro w26 u26 e26 d26
 have k31 := k_ratOf d26 (z := 1) xq xq
 with_reducible refine zPm k31 ?_
 rintro _ u29 g30 ⟨r27, rfl, h28⟩
 refine zxy 27 ⟨41, r27.cs⟩ 1 (fun b32 u33 e34 h35 => ?_)
 have hp36 : PolN u33 (⟨some ⟨b32, 0, none⟩, 1, 1⟩ : Sl) [((1 : Int) : Rat)] 2 := pol_lit (L := [r27]) h35 (rats1 (h28.ext e34)) rfl yq
 refine zza 7 (.v (.slice (some ⟨b21, 0, none⟩) 1 1)) (zza 8 (.v (.slice (some ⟨b32, 0, none⟩) 1 1)) (zzb (zzd (sq9 (zza 28 (.v x.v) (zza 29 (zI x.n) (zza 30 (zI 0) (zzb (zzt (zyn (I := fun m37 S' u' => ∃ (i : Nat) (a : Sl) (b : Sl), (m37 = x.n - i) ∧ (i ≤ x.n) ∧ (S' = St.of 71 [(3, .adr 3 0), (4, .adr 4 0), (7, .v (.slice a.a a.n a.c)), (8, .v (.slice b.a b.n b.c)), (28, .v (.slice x.a x.n x.c)), (29, zI x.n), (30, zI i)] [(3, ⟨24, [.int .i64 W.b, .int .i64 W.f, .int .i64 W.r, .int .i64 W.o]⟩), (4, ⟨31, [.slice none 0 0, .slice none 0 0]⟩)]) ∧ (Ext u33 u') ∧ (PolN u' a (Nt.csP (Nt.csN W.f) L i) 7) ∧ (PolN u' b (Nt.csP (Nt.csD W.f) L i) 7)) (fun m S u1 u2 e h => by obtain ⟨i, a, b, hm, p0, hS, hE, f0, f1⟩ := h; exact ⟨i, a, b, hm, p0, hS, hE.trans e, f0.ext e, f1.ext e⟩) _ yz ⟨0, (⟨some ⟨b21, 0, none⟩, 1, 1⟩ : Sl), (⟨some ⟨b32, 0, none⟩, 1, 1⟩ : Sl), rfl, Nat.zero_le _, rfl, (Ext.refl _), (show PolN _ _ [1] _ from PolN.more (K := 2) (hp25.ext (e26.trans (g30.ext.trans e34))) xq), (show PolN _ _ [1] _ from PolN.more (K := 2) hp36 xq)⟩ ?_))))))))))
 rintro m37 _ u37 ⟨i, a, b, hm37, hi, rfl, e37, hA, hB⟩
 have hal := hA.len
 have hbl := hB.len
 have hla : ((Nt.csP (Nt.csN W.f) L i)).length ≤ 17 := Nat.le_trans (Nt.csP_len (fun _ => rfl)) xq
 have hlb : ((Nt.csP (Nt.csD W.f) L i)).length ≤ 17 := Nat.le_trans (Nt.csP_len (fun _ => rfl)) xq
 refine sq9 (zza 31 (zB (decide ((i : Int) < (x.n : Int)))) (zzb (zzd (zzu (b := decide ((i : Int) < (x.n : Int))) xj (fun hb38 => ?_) (fun hb38 => ?_)))))
 ·replace hb38 : (decide ((i : Int) < (x.n : Int))) = true := hb38
  have qhb38 := of_decide_eq_true hb38
  refine zzs (zzp ?_)
  refine zzd (zzt (zzd ?_))
  have hbd := Nt.secFit_ok (hall i xq)
  have hbd0 := hbd 0 yq
  have hbd1 := hbd 1 yq
  have hbd2 := hbd 2 yq
  have hbd3 := hbd 3 yq
  have hbd4 := hbd 4 yq
  refine zzf ?_
  have hl39 := ((hx.ext (e11.trans (g13.ext.trans (e15.trans (g19.ext.trans (e23.trans (e26.trans (g30.ext.trans (e34.trans e37)))))))))).len
  obtain ⟨b39, o39, hA39, hc39⟩ := ir_at5 (hx.ext (e11.trans (g13.ext.trans (e15.trans (g19.ext.trans (e23.trans (e26.trans (g30.ext.trans (e34.trans e37))))))))) (i := i) xq
  refine zya 32 (o39 + i * 5) (n := x.n) (off := o39) (sz := 5) (i := (i : Int)) xq hA39 xq xq sl82 (zym 33 [.int .i64 (gi L i 0), .int .i64 (gi L i 1), .int .i64 (gi L i 2), .int .i64 (gi L i 3), .int .i64 (gi L i 4)] hc39 ty87 (zzk 10 ⟨87, [.int .i64 0, .int .i64 0, .int .i64 0, .int .i64 0, .int .i64 0]⟩ (zzj ⟨87, [.int .i64 (gi L i 0), .int .i64 (gi L i 1), .int .i64 (gi L i 2), .int .i64 (gi L i 3), .int .i64 (gi L i 4)]⟩ ty87 ?_)))
  refine zzb (sq9 (zzk 11 ⟨158, [.bool false, .slice none 0 0, .slice none 0 0, .bool false, .slice none 0 0, .slice none 0 0, .bool false, .slice none 0 0, .slice none 0 0]⟩ (zzb (sq9 (zzg 34 61 [.int .i64 1] ?_)))))
  intro w40 u40 e40 d40
  have k45 := k_ratOf d40 (z := 1) xq xq
  with_reducible refine zPm k45 ?_
  rintro _ u43 g44 ⟨r41, rfl, h42⟩
  refine zza 35 (.v (.agg #[.bool r41.s, r41.m.v, r41.d.v, .bool false, .slice none 0 0, .slice none 0 0, .bool false, .slice none 0 0, .slice none 0 0])) (zzk 12 ⟨158, [.bool false, .slice none 0 0, .slice none 0 0, .bool false, .slice none 0 0, .slice none 0 0, .bool false, .slice none 0 0, .slice none 0 0]⟩ (zzj ⟨158, r41.cs ++ [.bool false, .slice none 0 0, .slice none 0 0, .bool false, .slice none 0 0, .slice none 0 0]⟩ ty158 ?_))
  refine zzb (zzd (sq9 (zza 36 (.adr 10 0) (zzi 37 (.v (.agg #[.int .i64 (gi L i 0), .int .i64 (gi L i 1), .int .i64 (gi L i 2)])) ty85 zze (zza 38 (zI 0) (zzc 71 [(3, .adr 3 0), (4, .adr 4 0), (7, .v a.v), (8, .v b.v), (10, .adr 10 0), (11, .adr 11 0), (12, .adr 12 0), (28, .v x.v), (29, zI x.n), (30, zI i), (37, .v (.agg #[.int .i64 (gi L i 0), .int .i64 (gi L i 1), .int .i64 (gi L i 2)])), (38, zI 0)] [(3, ⟨24, W.cs⟩), (4, ⟨31, [.slice none 0 0, .slice none 0 0]⟩), (10, ⟨87, [.int .i64 (gi L i 0), .int .i64 (gi L i 1), .int .i64 (gi L i 2), .int .i64 (gi L i 3), .int .i64 (gi L i 4)]⟩), (11, ⟨158, [.bool false, .slice none 0 0, .slice none 0 0, .bool false, .slice none 0 0, .slice none 0 0, .bool false, .slice none 0 0, .slice none 0 0]⟩), (12, ⟨158, r41.cs ++ [.bool false, .slice none 0 0, .slice none 0 0, .bool false, .slice none 0 0, .slice none 0 0]⟩)] (zzt (sw_rounds 3 ?_))))))))
  refine sq9 (zza 39 (zB true) (zzb (zzd (zyr xj (zzs (zzp ?_))))))
  refine zzd (zzt (sq9 (zza 40 (zI 0) (zza 41 (zI (gi L i 0)) (zza 13 (zI 0) (zza 14 (zI (gi L i 0)) (zzb (zzf (zza 42 (zI 0) (zzi 43 (.v (W.v)) ty24 zze (zza 44 (zI (gi L i 0)) ?_)))))))))))
  refine zzg 45 48 [W.v, .int .i64 (gi L i 0)] ?_
  intro w46 u46 e46 d46
  have k51 := k_fxValue (W := W) (z := gi L i 0) d46 hW xq xq
  with_reducible refine zPm k51 ?_
  rintro _ u49 g50 ⟨r47, rfl, h48⟩
  refine zza 46 (.adr 11 0) (zzj ⟨158, r47.cs ++ [.bool false, .slice none 0 0, .slice none 0 0, .bool false, .slice none 0 0, .slice none 0 0]⟩ ty41 ?_)
  refine zzx ?_
  refine zzp (zzf (zza 47 (zI 1) (zza 38 (zI 1) (zzx ?_))))
  refine rn_next ?_
  refine sw_weak (T := St.of 71 [(3, .adr 3 0), (4, .adr 4 0), (7, .v (.slice a.a a.n a.c)), (8, .v (.slice b.a b.n b.c)), (10, .adr 10 0), (11, .adr 11 0), (12, .adr 12 0), (28, .v (.slice x.a x.n x.c)), (29, zI x.n), (30, zI i), (37, .v (.agg #[.int .i64 (gi L i 0), .int .i64 (gi L i 1), .int .i64 (gi L i 2)])), (38, zI 1)] [(3, ⟨24, [.int .i64 W.b, .int .i64 W.f, .int .i64 W.r, .int .i64 W.o]⟩), (4, ⟨31, [.slice none 0 0, .slice none 0 0]⟩), (10, ⟨87, [.int .i64 (gi L i 0), .int .i64 (gi L i 1), .int .i64 (gi L i 2), .int .i64 (gi L i 3), .int .i64 (gi L i 4)]⟩), (11, ⟨158, r47.cs ++ [.bool false, .slice none 0 0, .slice none 0 0, .bool false, .slice none 0 0, .slice none 0 0]⟩), (12, ⟨158, r41.cs ++ [.bool false, .slice none 0 0, .slice none 0 0, .bool false, .slice none 0 0, .slice none 0 0]⟩)]) yz ?_
  refine sq9 (zza 39 (zB true) (zzb (zzd (zyr xj (zzs (zzp ?_))))))
  refine zzd (zzt (sq9 (zza 40 (zI 1) (zza 41 (zI (gi L i 1)) (zza 13 (zI 1) (zza 14 (zI (gi L i 1)) (zzb (zzf (zza 42 (zI 1) (zzi 43 (.v (W.v)) ty24 zze (zza 44 (zI (gi L i 1)) ?_)))))))))))
  refine zzg 45 48 [W.v, .int .i64 (gi L i 1)] ?_
  intro w52 u52 e52 d52
  have k57 := k_fxValue (W := W) (z := gi L i 1) d52 hW xq xq
  with_reducible refine zPm k57 ?_
  rintro _ u55 g56 ⟨r53, rfl, h54⟩
  refine zza 46 (.adr 11 3) (zzj ⟨158, r47.cs ++ r53.cs ++ [.bool false, .slice none 0 0, .slice none 0 0]⟩ ty41 ?_)
  refine zzx ?_
  refine zzp (zzf (zza 47 (zI 2) (zza 38 (zI 2) (zzx ?_))))
  refine rn_next ?_
  refine sw_weak (T := St.of 71 [(3, .adr 3 0), (4, .adr 4 0), (7, .v (.slice a.a a.n a.c)), (8, .v (.slice b.a b.n b.c)), (10, .adr 10 0), (11, .adr 11 0), (12, .adr 12 0), (28, .v (.slice x.a x.n x.c)), (29, zI x.n), (30, zI i), (37, .v (.agg #[.int .i64 (gi L i 0), .int .i64 (gi L i 1), .int .i64 (gi L i 2)])), (38, zI 2)] [(3, ⟨24, [.int .i64 W.b, .int .i64 W.f, .int .i64 W.r, .int .i64 W.o]⟩), (4, ⟨31, [.slice none 0 0, .slice none 0 0]⟩), (10, ⟨87, [.int .i64 (gi L i 0), .int .i64 (gi L i 1), .int .i64 (gi L i 2), .int .i64 (gi L i 3), .int .i64 (gi L i 4)]⟩), (11, ⟨158, r47.cs ++ r53.cs ++ [.bool false, .slice none 0 0, .slice none 0 0]⟩), (12, ⟨158, r41.cs ++ [.bool false, .slice none 0 0, .slice none 0 0, .bool false, .slice none 0 0, .slice none 0 0]⟩)]) yz ?_
  refine sq9 (zza 39 (zB true) (zzb (zzd (zyr xj (zzs (zzp ?_))))))
  refine zzd (zzt (sq9 (zza 40 (zI 2) (zza 41 (zI (gi L i 2)) (zza 13 (zI 2) (zza 14 (zI (gi L i 2)) (zzb (zzf (zza 42 (zI 2) (zzi 43 (.v (W.v)) ty24 zze (zza 44 (zI (gi L i 2)) ?_)))))))))))
  refine zzg 45 48 [W.v, .int .i64 (gi L i 2)] ?_
  intro w58 u58 e58 d58
  have k63 := k_fxValue (W := W) (z := gi L i 2) d58 hW xq xq
  with_reducible refine zPm k63 ?_
  rintro _ u61 g62 ⟨r59, rfl, h60⟩
  refine zza 46 (.adr 11 6) (zzj ⟨158, r47.cs ++ r53.cs ++ r59.cs⟩ ty41 ?_)
  refine zzx ?_
  refine zzp (zzf (zza 47 (zI 3) (zza 38 (zI 3) (zzx ?_))))
  refine rn_next ?_
  refine sw_weak (T := St.of 71 [(3, .adr 3 0), (4, .adr 4 0), (7, .v (.slice a.a a.n a.c)), (8, .v (.slice b.a b.n b.c)), (10, .adr 10 0), (11, .adr 11 0), (12, .adr 12 0), (28, .v (.slice x.a x.n x.c)), (29, zI x.n), (30, zI i), (37, .v (.agg #[.int .i64 (gi L i 0), .int .i64 (gi L i 1), .int .i64 (gi L i 2)])), (38, zI 3)] [(3, ⟨24, [.int .i64 W.b, .int .i64 W.f, .int .i64 W.r, .int .i64 W.o]⟩), (4, ⟨31, [.slice none 0 0, .slice none 0 0]⟩), (10, ⟨87, [.int .i64 (gi L i 0), .int .i64 (gi L i 1), .int .i64 (gi L i 2), .int .i64 (gi L i 3), .int .i64 (gi L i 4)]⟩), (11, ⟨158, r47.cs ++ r53.cs ++ r59.cs⟩), (12, ⟨158, r41.cs ++ [.bool false, .slice none 0 0, .slice none 0 0, .bool false, .slice none 0 0, .slice none 0 0]⟩)]) yz ?_
  refine sq9 (zza 39 (zB false) (zzb (zzd (zys xj (zyc (zzp (zzd (sq9 (zza 48 (.adr 10 3) (zzi 49 (.v (.agg #[.int .i64 (gi L i 3), .int .i64 (gi L i 4)])) ty58 zze (zza 50 (zI 0) ?_)))))))))))
  refine zzb (zzt (sw_rounds 2 ?_))
  refine sq9 (zza 51 (zB true) (zzb (zzd (zyr xj (zzs (zzp ?_))))))
  refine zzd (zzt (sq9 (zza 52 (zI 0) (zza 53 (zI (gi L i 3)) (zza 15 (zI 0) (zza 16 (zI (gi L i 3)) (zzb (zzf (zza 54 (zI 0) (zza 55 (zI 1) (zzi 56 (.v (W.v)) ty24 zze ?_)))))))))))
  refine zza 57 (zI (gi L i 3)) (zzg 58 48 [W.v, .int .i64 (gi L i 3)] ?_)
  intro w64 u64 e64 d64
  have k69 := k_fxValue (W := W) (z := gi L i 3) d64 hW xq xq
  with_reducible refine zPm k69 ?_
  rintro _ u67 g68 ⟨r65, rfl, h66⟩
  refine zza 59 (.adr 12 3) (zzj ⟨158, r41.cs ++ r65.cs ++ [.bool false, .slice none 0 0, .slice none 0 0]⟩ ty41 ?_)
  refine zzx ?_
  refine zzp (zzf (zza 60 (zI 1) (zza 50 (zI 1) (zzx ?_))))
  refine rn_next ?_
  refine sw_weak (T := St.of 71 [(3, .adr 3 0), (4, .adr 4 0), (7, .v (.slice a.a a.n a.c)), (8, .v (.slice b.a b.n b.c)), (11, .adr 11 0), (12, .adr 12 0), (28, .v (.slice x.a x.n x.c)), (29, zI x.n), (30, zI i), (49, .v (.agg #[.int .i64 (gi L i 3), .int .i64 (gi L i 4)])), (50, zI 1)] [(3, ⟨24, [.int .i64 W.b, .int .i64 W.f, .int .i64 W.r, .int .i64 W.o]⟩), (4, ⟨31, [.slice none 0 0, .slice none 0 0]⟩), (11, ⟨158, r47.cs ++ r53.cs ++ r59.cs⟩), (12, ⟨158, r41.cs ++ r65.cs ++ [.bool false, .slice none 0 0, .slice none 0 0]⟩)]) yz ?_
  refine sq9 (zza 51 (zB true) (zzb (zzd (zyr xj (zzs (zzp ?_))))))
  refine zzd (zzt (sq9 (zza 52 (zI 1) (zza 53 (zI (gi L i 4)) (zza 15 (zI 1) (zza 16 (zI (gi L i 4)) (zzb (zzf (zza 54 (zI 1) (zza 55 (zI 2) (zzi 56 (.v (W.v)) ty24 zze ?_)))))))))))
  refine zza 57 (zI (gi L i 4)) (zzg 58 48 [W.v, .int .i64 (gi L i 4)] ?_)
  intro w70 u70 e70 d70
  have k75 := k_fxValue (W := W) (z := gi L i 4) d70 hW xq xq
  with_reducible refine zPm k75 ?_
  rintro _ u73 g74 ⟨r71, rfl, h72⟩
  refine zza 59 (.adr 12 6) (zzj ⟨158, r41.cs ++ r65.cs ++ r71.cs⟩ ty41 ?_)
  refine zzx ?_
  refine zzp (zzf (zza 60 (zI 2) (zza 50 (zI 2) (zzx ?_))))
  refine rn_next ?_
  refine sw_weak (T := St.of 71 [(3, .adr 3 0), (4, .adr 4 0), (7, .v (.slice a.a a.n a.c)), (8, .v (.slice b.a b.n b.c)), (11, .adr 11 0), (12, .adr 12 0), (28, .v (.slice x.a x.n x.c)), (29, zI x.n), (30, zI i), (49, .v (.agg #[.int .i64 (gi L i 3), .int .i64 (gi L i 4)])), (50, zI 2)] [(3, ⟨24, [.int .i64 W.b, .int .i64 W.f, .int .i64 W.r, .int .i64 W.o]⟩), (4, ⟨31, [.slice none 0 0, .slice none 0 0]⟩), (11, ⟨158, r47.cs ++ r53.cs ++ r59.cs⟩), (12, ⟨158, r41.cs ++ r65.cs ++ r71.cs⟩)]) yz ?_
  refine sq9 (zza 51 (zB false) (zzb (zzd (zys xj (zyc (zzp (sq9 (zza 61 (.v a.v) (zza 62 (.slc 11 0 3 3) (zyo 63 94 [.v a.v, .slc 11 0 3 3] [11, 62] (.inl rfl) (pub_mk xw) (k := ?_)))))))))))
  intro B76 w76 u76 e76 d76 v76
  have h78 : u76.heap[B76 11]? = some (.cells #[.bool r47.s, .slice r47.m.a r47.m.n r47.m.c, .slice r47.d.a r47.d.n r47.d.c, .bool r53.s, .slice r53.m.a r53.m.n r53.m.c, .slice r53.d.a r53.d.n r53.d.c, .bool r59.s, .slice r59.m.a r59.m.n r59.m.c, .slice r59.d.a r59.d.n r59.d.c] 158 (0, 0)) := v76 11 zv _ rfl
  obtain ⟨b77, hBb77⟩ : ∃ b, B76 11 = b := ⟨_, rfl⟩
  rw [hBb77] at h78
  have hp79 : PolN u76 (⟨some ⟨b77, 0, none⟩, 3, 3⟩ : Sl) [(((gi L i 0 : Int) : Rat) / ((Nt.p2i W.f : Int) : Rat)), (((gi L i 1 : Int) : Rat) / ((Nt.p2i W.f : Int) : Rat)), (((gi L i 2 : Int) : Rat) / ((Nt.p2i W.f : Int) : Rat))] 2 := pol_lit (L := [r47, r53, r59]) h78 (rats3 (h48.ext (e52.trans (g56.ext.trans (e58.trans (g62.ext.trans (e64.trans (g68.ext.trans (e70.trans (g74.ext.trans e76))))))))) (h54.ext (e58.trans (g62.ext.trans (e64.trans (g68.ext.trans (e70.trans (g74.ext.trans e76))))))) (h60.ext (e64.trans (g68.ext.trans (e70.trans (g74.ext.trans e76)))))) rfl yq
  show Calls _ _ #[.slice a.a a.n a.c, .slice (some ⟨B76 11, 0, none⟩) 3 3] _ _
  rw [hBb77]
  have k84 := k_poMul d76 (hA.ext (e40.trans (g44.ext.trans (e46.trans (g50.ext.trans (e52.trans (g56.ext.trans (e58.trans (g62.ext.trans (e64.trans (g68.ext.trans (e70.trans (g74.ext.trans e76))))))))))))).raw hp79.raw (Nat.le_trans (Nt.mlK_mono hla (show ([(((gi L i 0 : Int) : Rat) / ((Nt.p2i W.f : Int) : Rat)), (((gi L i 1 : Int) : Rat) / ((Nt.p2i W.f : Int) : Rat)), (((gi L i 2 : Int) : Rat) / ((Nt.p2i W.f : Int) : Rat))]).length ≤ 3 from Nat.le_refl _) (Nat.le_refl _) (Nat.le_refl _)) (by decide +kernel)) (by have h9 := hla; omega) (by have h9 := (show ([(((gi L i 0 : Int) : Rat) / ((Nt.p2i W.f : Int) : Rat)), (((gi L i 1 : Int) : Rat) / ((Nt.p2i W.f : Int) : Rat)), (((gi L i 2 : Int) : Rat) / ((Nt.p2i W.f : Int) : Rat))]).length ≤ 3 from Nat.le_refl _); omega) (by have h9 := hla; omega) (by have h9 := (show ([(((gi L i 0 : Int) : Rat) / ((Nt.p2i W.f : Int) : Rat)), (((gi L i 1 : Int) : Rat) / ((Nt.p2i W.f : Int) : Rat)), (((gi L i 2 : Int) : Rat) / ((Nt.p2i W.f : Int) : Rat))]).length ≤ 3 from Nat.le_refl _); omega)
  with_reducible refine zPm k84 ?_
  rintro _ u82 g83 ⟨y80, rfl, h81⟩
  replace h81 := PolN.more h81 (Nat.le_trans (Nt.mlK_mono hla (show ([(((gi L i 0 : Int) : Rat) / ((Nt.p2i W.f : Int) : Rat)), (((gi L i 1 : Int) : Rat) / ((Nt.p2i W.f : Int) : Rat)), (((gi L i 2 : Int) : Rat) / ((Nt.p2i W.f : Int) : Rat))]).length ≤ 3 from Nat.le_refl _) (Nat.le_refl _) (Nat.le_refl _)) (by decide +kernel : _ ≤ 7220))
  have hly80 := h81.len
  have hm85 : (Nt.trimQ (Nt.mulQ (Nt.csP (Nt.csN W.f) L i) [(((gi L i 0 : Int) : Rat) / ((Nt.p2i W.f : Int) : Rat)), (((gi L i 1 : Int) : Rat) / ((Nt.p2i W.f : Int) : Rat)), (((gi L i 2 : Int) : Rat) / ((Nt.p2i W.f : Int) : Rat))])).length ≤ 19 := Nt.zxu hla (show ([(((gi L i 0 : Int) : Rat) / ((Nt.p2i W.f : Int) : Rat)), (((gi L i 1 : Int) : Rat) / ((Nt.p2i W.f : Int) : Rat)), (((gi L i 2 : Int) : Rat) / ((Nt.p2i W.f : Int) : Rat))]).length ≤ 3 from Nat.le_refl _)
  have hk86 : PolN _ y80 (Nt.trimQ (Nt.mulQ (Nt.csP (Nt.csN W.f) L i) [(((gi L i 0 : Int) : Rat) / ((Nt.p2i W.f : Int) : Rat)), (((gi L i 1 : Int) : Rat) / ((Nt.p2i W.f : Int) : Rat)), (((gi L i 2 : Int) : Rat) / ((Nt.p2i W.f : Int) : Rat))])) 7220 := PolN.more h81 xq
  refine zza 7 (.v y80.v) (zzc 71 [(3, .adr 3 0), (4, .adr 4 0), (7, .v y80.v), (8, .v b.v), (12, .adr 12 0), (28, .v x.v), (29, zI x.n), (30, zI i)] [(3, ⟨24, W.cs⟩), (4, ⟨31, [.slice none 0 0, .slice none 0 0]⟩), (12, ⟨158, r41.cs ++ r65.cs ++ r71.cs⟩)] (zzf (zza 64 (.v b.v) (zza 65 (.slc 12 0 3 3) (zyo 66 94 [.v b.v, .slc 12 0 3 3] [12, 65] (.inl rfl) (pub_mk xw) (k := ?_))))))
  intro B87 w87 u87 e87 d87 v87
  have h89 : u87.heap[B87 12]? = some (.cells #[.bool r41.s, .slice r41.m.a r41.m.n r41.m.c, .slice r41.d.a r41.d.n r41.d.c, .bool r65.s, .slice r65.m.a r65.m.n r65.m.c, .slice r65.d.a r65.d.n r65.d.c, .bool r71.s, .slice r71.m.a r71.m.n r71.m.c, .slice r71.d.a r71.d.n r71.d.c] 158 (0, 0)) := v87 12 zv _ rfl
  obtain ⟨b88, hBb88⟩ : ∃ b, B87 12 = b := ⟨_, rfl⟩
  rw [hBb88] at h89
  have hp90 : PolN u87 (⟨some ⟨b88, 0, none⟩, 3, 3⟩ : Sl) [((1 : Int) : Rat), (((gi L i 3 : Int) : Rat) / ((Nt.p2i W.f : Int) : Rat)), (((gi L i 4 : Int) : Rat) / ((Nt.p2i W.f : Int) : Rat))] 2 := pol_lit (L := [r41, r65, r71]) h89 (rats3 (h42.ext (e46.trans (g50.ext.trans (e52.trans (g56.ext.trans (e58.trans (g62.ext.trans (e64.trans (g68.ext.trans (e70.trans (g74.ext.trans (e76.trans (g83.ext.trans e87))))))))))))) (h66.ext (e70.trans (g74.ext.trans (e76.trans (g83.ext.trans e87))))) (h72.ext (e76.trans (g83.ext.trans e87)))) rfl yq
  show Calls _ _ #[.slice b.a b.n b.c, .slice (some ⟨B87 12, 0, none⟩) 3 3] _ _
  rw [hBb88]
  have k95 := k_poMul d87 (hB.ext (e40.trans (g44.ext.trans (e46.trans (g50.ext.trans (e52.trans (g56.ext.trans (e58.trans (g62.ext.trans (e64.trans (g68.ext.trans (e70.trans (g74.ext.trans (e76.trans (g83.ext.trans e87))))))))))))))).raw hp90.raw (Nat.le_trans (Nt.mlK_mono hlb (show ([((1 : Int) : Rat), (((gi L i 3 : Int) : Rat) / ((Nt.p2i W.f : Int) : Rat)), (((gi L i 4 : Int) : Rat) / ((Nt.p2i W.f : Int) : Rat))]).length ≤ 3 from Nat.le_refl _) (Nat.le_refl _) (Nat.le_refl _)) (by decide +kernel)) (by have h9 := hlb; omega) (by have h9 := (show ([((1 : Int) : Rat), (((gi L i 3 : Int) : Rat) / ((Nt.p2i W.f : Int) : Rat)), (((gi L i 4 : Int) : Rat) / ((Nt.p2i W.f : Int) : Rat))]).length ≤ 3 from Nat.le_refl _); omega) (by have h9 := hlb; omega) (by have h9 := (show ([((1 : Int) : Rat), (((gi L i 3 : Int) : Rat) / ((Nt.p2i W.f : Int) : Rat)), (((gi L i 4 : Int) : Rat) / ((Nt.p2i W.f : Int) : Rat))]).length ≤ 3 from Nat.le_refl _); omega)
  with_reducible refine zPm k95 ?_
  rintro _ u93 g94 ⟨y91, rfl, h92⟩
  replace h92 := PolN.more h92 (Nat.le_trans (Nt.mlK_mono hlb (show ([((1 : Int) : Rat), (((gi L i 3 : Int) : Rat) / ((Nt.p2i W.f : Int) : Rat)), (((gi L i 4 : Int) : Rat) / ((Nt.p2i W.f : Int) : Rat))]).length ≤ 3 from Nat.le_refl _) (Nat.le_refl _) (Nat.le_refl _)) (by decide +kernel : _ ≤ 7220))
  have hly91 := h92.len
  have hm96 : (Nt.trimQ (Nt.mulQ (Nt.csP (Nt.csD W.f) L i) [((1 : Int) : Rat), (((gi L i 3 : Int) : Rat) / ((Nt.p2i W.f : Int) : Rat)), (((gi L i 4 : Int) : Rat) / ((Nt.p2i W.f : Int) : Rat))])).length ≤ 19 := Nt.zxu hlb (show ([((1 : Int) : Rat), (((gi L i 3 : Int) : Rat) / ((Nt.p2i W.f : Int) : Rat)), (((gi L i 4 : Int) : Rat) / ((Nt.p2i W.f : Int) : Rat))]).length ≤ 3 from Nat.le_refl _)
  have hk97 : PolN _ y91 (Nt.trimQ (Nt.mulQ (Nt.csP (Nt.csD W.f) L i) [((1 : Int) : Rat), (((gi L i 3 : Int) : Rat) / ((Nt.p2i W.f : Int) : Rat)), (((gi L i 4 : Int) : Rat) / ((Nt.p2i W.f : Int) : Rat))])) 7220 := PolN.more h92 xq
  refine zza 8 (.v y91.v) (zzx ?_)
  refine zzp (zzf (zyq 67 (x := zI (IntKind.i64.wrap ((i : Int) + 1))) (zI (i + 1 : Nat)) (eqI xk) (zza 30 (zI (i + 1 : Nat)) (zzx ?_))))
  refine ⟨_, ?_, _, by exact zzv _ _ _, i + 1, y80, y91, rfl, by omega, rfl, (e37.trans (e40.trans (g44.ext.trans (e46.trans (g50.ext.trans (e52.trans (g56.ext.trans (e58.trans (g62.ext.trans (e64.trans (g68.ext.trans (e70.trans (g74.ext.trans (e76.trans (g83.ext.trans (e87.trans g94.ext)))))))))))))))), (csP_fit (g := Nt.csN W.f) (L := L) (k := i + 1) (P := (Nt.p2i W.f).toNat) (K := 7220) (show PolN _ _ (Nt.csP (Nt.csN W.f) L (i + 1)) _ from (hk86.ext (e87.trans g94.ext))) xq xq xq (fun _ => rfl) (fun i hi => Nt.csN_sm (hbd5 i xq))), (csP_fit (g := Nt.csD W.f) (L := L) (k := i + 1) (P := (Nt.p2i W.f).toNat) (K := 7220) (show PolN _ _ (Nt.csP (Nt.csD W.f) L (i + 1)) _ from hk97) xq xq xq (fun _ => rfl) (fun i hi => Nt.csD_sm xq (hbd5 i xq)))⟩
  omega
 ·replace hb38 : (decide ((i : Int) < (x.n : Int))) = false := hb38
  have qhb38 := of_decide_eq_false hb38
  refine zyc (zzp (sq9 (zza 68 (.v a.v) (zza 69 (.v b.v) (zza 70 (.v (.agg #[a.v, b.v])) (zzj ⟨31, [a.v, b.v]⟩ ty31 ?_))))))
  refine zza 5 (zI 0) (zzb (zzo (ret0 [.agg #[.slice a.a a.n a.c, .slice b.a b.n b.c], .int .i64 0] ⟨zzr ty31 zze, zzq, trivial⟩ fun u98 e99 => ?_)))
  have hi9 : i = L.length := by omega
  have h9 := (hA.ext e99)
  have h7 := (hB.ext e99)
  rw [hi9] at h9 h7
  exact ⟨a, b, rfl, h9, h7⟩
set_option maxHeartbeats 4000000 in
theorem k_csStable {u w : World} {x : Sl} {L : List (List Int)} {W : WL} (d : Dat u w) (hE : Nt.csE W L = 0) (hx : IrV 5 u x L) (hb : ∀ p ∈ L, ∀ z ∈ p, -9223372036854775808 ≤ z ∧ z ≤ 9223372036854775807) : Calls Tryz.prog 42 #[x.v, W.v] w (Post u w fun v u' => v = .tuple #[.bool (Nt.csSt W.f L), .int .i64 0]) := by
 obtain ⟨hW, h1, h8, hall⟩ := Nt.csE_ok hE
 have hlx := hx.len
 obtain ⟨hw1, hw2, hw3, hw4, hw5, hw6, hw7, hw8⟩ := id hW
 have hp24 := Nt.p2i_24 (n := W.b - 1) xq
 have hpf := Nt.p2i_24 (n := W.f) xq
 have hpp := Nt.zxp W.f
 have hbd5 : ∀ i, i < L.length → ∀ j, j < 5 → ((L.getD i []).getD j 0).natAbs ≤ 2 ^ 24 := fun i hi j hj => by have h9 := Nt.secFit_ok (hall i hi) j hj; unfold gi at h9; omega
 refine zzm (args := [.slice x.a x.n x.c, .agg #[.int .i64 W.b, .int .i64 W.f, .int .i64 W.r, .int .i64 W.o]]) Tryz.func42 rfl Tryz.ntmps42 (rs := [.tmp 4, .tmp 5]) Tryz.results42 (le_b rfl) (le_b rfl) d ?_
 refine sq9 (zzk 3 ⟨24, W.cs⟩ (zza 4 (zB false) (zza 5 (zI 0) (zzb (zzd (sq9 (zza 10 (.v x.v) (zzi 11 (.v (W.v)) ty24 zze (zzg 12 122 [x.v, W.v] ?_)))))))))
 intro w11 u11 e11 d11
 have k14 := (Post.mono (Ψ := fun v _ => v = .int .i64 0) (k_csWrong (W := W) d11 (hx.ext e11) hb) (fun v u9 _ h => by rw [hE] at h; exact h))
 with_reducible refine zPm k14 ?_
 rintro _ u12 g13 rfl
 refine zza 6 (zI 0) (zzb (sq9 (zza 13 (zI 0) (zza 14 (zB false) (zzb (zys xj (zzs (zzp ?_))))))))
 refine sq9 (zza 16 (.adr 3 1) (zzi 17 (zI W.f) ty3 zzl (sy_shl 18 (k := .i64) (s := W.f) (Nt.p2i W.f) xq zq (shl_one xq xq) ?_)))
 refine zza 7 (zI (Nt.p2i W.f)) (zzb (zzd (sq9 (zza 19 (.v x.v) (zza 20 (zI x.n) (zza 21 (zI 0) (zzb (zzt (zyn (I := fun m15 S' u' => ∃ (i : Nat), (m15 = x.n - i) ∧ (i ≤ x.n) ∧ (∀ j, j < i → Nt.secSt W.f (L.getD j []) = true) ∧ (S' = St.of 44 [(7, zI (Nt.p2i W.f)), (19, .v (.slice x.a x.n x.c)), (20, zI x.n), (21, zI i)] []) ∧ (Ext u12 u')) (fun m S u1 u2 e h => by obtain ⟨i, hm, p0, p1, hS, hE⟩ := h; exact ⟨i, hm, p0, p1, hS, hE.trans e⟩) _ yz ⟨0, rfl, Nat.zero_le _, (fun j hj => absurd hj (Nat.not_lt_zero j)), rfl, (Ext.refl _)⟩ ?_)))))))))
 rintro m15 _ u15 ⟨i, hm15, hi, hs, rfl, e15⟩
 refine sq9 (zza 22 (zB (decide ((i : Int) < (x.n : Int)))) (zzb (zzd (zzu (b := decide ((i : Int) < (x.n : Int))) xj (fun hb16 => ?_) (fun hb16 => ?_)))))
 ·replace hb16 : (decide ((i : Int) < (x.n : Int))) = true := hb16
  have qhb16 := of_decide_eq_true hb16
  refine zzs (zzp ?_)
  refine zzd (zzt (zzd ?_))
  have hbd := Nt.secFit_ok (hall i xq)
  have hbd3 := hbd 3 yq
  have hbd4 := hbd 4 yq
  refine zzf ?_
  have hl17 := ((hx.ext (e11.trans (g13.ext.trans e15)))).len
  obtain ⟨b17, o17, hA17, hc17⟩ := ir_at5 (hx.ext (e11.trans (g13.ext.trans e15))) (i := i) xq
  refine zya 23 (o17 + i * 5) (n := x.n) (off := o17) (sz := 5) (i := (i : Int)) xq hA17 xq xq sl82 (zym 24 [.int .i64 (gi L i 0), .int .i64 (gi L i 1), .int .i64 (gi L i 2), .int .i64 (gi L i 3), .int .i64 (gi L i 4)] hc17 ty87 (zzk 9 ⟨87, [.int .i64 0, .int .i64 0, .int .i64 0, .int .i64 0, .int .i64 0]⟩ (zzj ⟨87, [.int .i64 (gi L i 0), .int .i64 (gi L i 1), .int .i64 (gi L i 2), .int .i64 (gi L i 3), .int .i64 (gi L i 4)]⟩ ty87 ?_)))
  refine zzb (zzd (zzz [0, 1, 3, 7, 0, 31, 63, 127, 255, 511, 1023, 127, 127, 4223, 12415, 30847, 65535, 131071] [(0, []), (1, []), (2, []), (4, []), (3, []), (5, []), (6, []), (7, []), (8, []), (9, []), (11, []), (12, []), (13, []), (14, []), (15, []), (10, []), (16, []), (17, [])] xj xj (zza 25 (.adr 9 3) (zza 26 (.adr 9 4) (zzi 27 (zI (gi L i 4)) ty3 zzl (zza 29 (zI (Nt.p2i W.f)) (zzg 28 114 [.int .i64 (gi L i 4)] ?_)))))))
  intro w18 u18 e18 d18
  have k21 := k_csize (z := gi L i 4) d18 xq xq
  with_reducible refine zPm k21 ?_
  rintro _ u19 g20 rfl
  have haz22 := Nt.az_bd (z := gi L i 4) xq xq
  refine zza 30 (zB (decide ((Nt.p2i W.f) ≤ (Nt.az (gi L i 4))))) ?_
  rcases Bool.eq_false_or_eq_true (decide ((Nt.p2i W.f) ≤ (Nt.az (gi L i 4)))) with hs23 | hs23
  ·refine zyq 31 (x := zB (decide ((Nt.p2i W.f) ≤ (Nt.az (gi L i 4))))) (zB true) (by rw [hs23]) ?_
   have qhs23 := of_decide_eq_true hs23
   refine zzn 32 (uw 6 false true 31) (zzn 33 (uw 6 false true 31) (zzn 34 (uw 6 false true 31) (zzn 36 (uw 6 false true 31) (zzn 37 (uw 6 false true 31) (zzn 38 (uw 6 false true 31) (zzn 39 (uw 6 false true 31) (zzn 40 (uw 6 false true 31) (zzn 35 (uw 6 false true 31) (zzn 41 (uw 6 false true 31) (zza 42 (zB true) (zzc 44 [(7, zI (Nt.p2i W.f)), (19, .v x.v), (20, zI x.n), (21, zI i), (42, zB true)] [] ?_)))))))))))
   refine zyr xj (sq9 (zza 4 (zB false) (zza 5 (zI 0) (zzb (zzo (zyu (zzw (zyt (zyu (zzw (ret0 [.bool false, .int .i64 0] ⟨zzq, zzq, trivial⟩ fun u24 e25 => ?_)))))))))))
   rw [Nt.csSt_no (i := i) xq (Nt.secSt_no1 xq)]
   rfl
  ·refine zyq 31 (x := zB (decide ((Nt.p2i W.f) ≤ (Nt.az (gi L i 4))))) (zB false) (by rw [hs23]) ?_
   have qhs23 := of_decide_eq_false hs23
   refine zza 32 (.adr 9 3) ?_ (hw := w1 6 false 31)
   refine zza 33 (.adr 9 3) ?_ (hw := w1 6 false 31)
   refine zzi 34 (zI (gi L i 3)) ty3 zzl ?_ (hw := w1 6 false 31)
   refine zza 36 (zI (Nt.p2i W.f)) ?_ (hw := w1 6 false 31)
   refine zza 37 (.adr 9 3) ?_ (hw := w1 6 false 31)
   refine zza 38 (.adr 9 4) ?_ (hw := w1 6 false 31)
   refine zzi 39 (zI (gi L i 4)) ty3 zzl ?_ (hw := w1 6 false 31)
   refine zyq 40 (x := zI (IntKind.i64.wrap ((Nt.p2i W.f) + (gi L i 4)))) (zI ((Nt.p2i W.f) + (gi L i 4))) yy ?_ (hw := w1 6 false 31)
   refine zzg 35 114 [.int .i64 (gi L i 3)] ?_ (hw := w1 6 false 31)
   intro w26 u26 e26 d26
   have k29 := k_csize (z := gi L i 3) d26 xq xq
   with_reducible refine zPm k29 ?_
   rintro _ u27 g28 rfl
   have haz30 := Nt.az_bd (z := gi L i 3) xq xq
   refine zza 41 (zB (decide (((Nt.p2i W.f) + (gi L i 4)) ≤ (Nt.az (gi L i 3))))) ?_ (hw := w1 6 false 31)
   refine zza 42 (zB (decide (((Nt.p2i W.f) + (gi L i 4)) ≤ (Nt.az (gi L i 3))))) (zzc 44 [(7, zI (Nt.p2i W.f)), (19, .v x.v), (20, zI x.n), (21, zI i), (42, zB (decide (((Nt.p2i W.f) + (gi L i 4)) ≤ (Nt.az (gi L i 3)))))] [] (zzu (b := decide (((Nt.p2i W.f) + (gi L i 4)) ≤ (Nt.az (gi L i 3)))) xj (fun hb31 => ?_) (fun hb31 => ?_)))
   ·replace hb31 : (decide (((Nt.p2i W.f) + (gi L i 4)) ≤ (Nt.az (gi L i 3)))) = true := hb31
    have qhb31 := of_decide_eq_true hb31
    refine sq9 (zza 4 (zB false) (zza 5 (zI 0) (zzb (zzo (zyu (zzw (zyt (zyu (zzw (ret0 [.bool false, .int .i64 0] ⟨zzq, zzq, trivial⟩ fun u32 e33 => ?_))))))))))
    rw [Nt.csSt_no (i := i) xq (Nt.secSt_no2 xq)]
    rfl
   ·replace hb31 : (decide (((Nt.p2i W.f) + (gi L i 4)) ≤ (Nt.az (gi L i 3)))) = false := hb31
    have qhb31 := of_decide_eq_false hb31
    refine zzs (zzp ?_)
    refine zzf (zyq 43 (x := zI (IntKind.i64.wrap ((i : Int) + 1))) (zI (i + 1 : Nat)) (eqI xk) (zza 21 (zI (i + 1 : Nat)) (zzx ?_)))
    refine ⟨_, ?_, _, by exact zzv _ _ _, i + 1, rfl, by omega, (fun j hj => by by_cases e : j = i; (rw [e]; exact Nt.secSt_yes xq xq); exact hs j xq), rfl, (e15.trans (e18.trans (g20.ext.trans (e26.trans g28.ext))))⟩
    omega
 ·replace hb16 : (decide ((i : Int) < (x.n : Int))) = false := hb16
  have qhb16 := of_decide_eq_false hb16
  refine zyc (zzp (sq9 (zza 4 (zB true) (zza 5 (zI 0) (zzb (zzo (ret0 [.bool true, .int .i64 0] ⟨zzq, zzq, trivial⟩ fun u34 e35 => ?_)))))))
  rw [Nt.csSt_yes (fun i hi => hs i xq)]
  rfl
theorem Nt.csED_same {W : WL} {L : List (List Int)} : Nt.csED W W L = Nt.csE W L := by
 unfold Nt.csED
 by_cases h : WdOK W
 ·rw [if_neg (not_not_intro h)]
 ·rw [if_pos h]; unfold Nt.csE; rw [if_pos h]
theorem k_csIdealBad {u w : World} {x : Sl} {L : List (List Int)} {W : WL} (d : Dat u w) (hE : Nt.csE W L ≠ 0) (hx : IrV 5 u x L) (hb : ∀ p ∈ L, ∀ z ∈ p, -9223372036854775808 ≤ z ∧ z ≤ 9223372036854775807) : Calls Tryz.prog 38 #[x.v, W.v] w (Post u w fun v u' => v = .tuple #[.agg #[.slice none 0 0, .slice none 0 0], .int .i64 (Nt.csE W L)]) := by
 refine zzm (args := [.slice x.a x.n x.c, .agg #[.int .i64 W.b, .int .i64 W.f, .int .i64 W.r, .int .i64 W.o]]) Tryz.func38 rfl Tryz.ntmps38 (rs := [.cell 4 31, .tmp 5]) Tryz.results38 (le_b rfl) (le_b rfl) d ?_
 refine sq9 (zzk 3 ⟨24, W.cs⟩ (zzk 4 ⟨31, [.slice none 0 0, .slice none 0 0]⟩ (zza 5 (zI 0) (zzb (zzd (sq9 (zza 17 (.v x.v) (zzi 18 (.v (W.v)) ty24 zze (zzg 19 122 [x.v, W.v] ?_)))))))))
 intro w11 u11 e11 d11
 have k14 := k_csWrong (W := W) d11 (hx.ext e11) hb
 with_reducible refine zPm k14 ?_
 rintro _ u12 g13 rfl
 refine zza 6 (zI (Nt.csE W L)) (zzb (sq9 (zza 20 (zI (Nt.csE W L)) (zza 21 (zB ((Nt.csE W L) != 0)) (zzb (zzu (b := (Nt.csE W L) != 0) xj (fun hb => ?_) (fun hb => ?_)))))))
 ·clear hb
  refine sq9 (zza 22 (.v (.agg #[.slice none 0 0, .slice none 0 0])) (zza 23 (zI (Nt.csE W L)) (zzj ⟨31, [.slice none 0 0, .slice none 0 0]⟩ ty31 ?_)))
  refine zza 5 (zI (Nt.csE W L)) (zzb (zzo (zzw (ret0 [.agg #[.slice none 0 0, .slice none 0 0], .int .i64 (Nt.csE W L)] ⟨zzr ty31 zze, zzq, trivial⟩ fun u15 e16 => ?_))))
  rfl
 ·exact absurd hb (by rw [show ((Nt.csE W L) != 0) = true from (by simpa using hE)]; decide)
theorem k_csStableBad {u w : World} {x : Sl} {L : List (List Int)} {W : WL} (d : Dat u w) (hE : Nt.csE W L ≠ 0) (hx : IrV 5 u x L) (hb : ∀ p ∈ L, ∀ z ∈ p, -9223372036854775808 ≤ z ∧ z ≤ 9223372036854775807) : Calls Tryz.prog 42 #[x.v, W.v] w (Post u w fun v u' => v = .tuple #[.bool false, .int .i64 (Nt.csE W L)]) := by
 refine zzm (args := [.slice x.a x.n x.c, .agg #[.int .i64 W.b, .int .i64 W.f, .int .i64 W.r, .int .i64 W.o]]) Tryz.func42 rfl Tryz.ntmps42 (rs := [.tmp 4, .tmp 5]) Tryz.results42 (le_b rfl) (le_b rfl) d ?_
 refine sq9 (zzk 3 ⟨24, W.cs⟩ (zza 4 (zB false) (zza 5 (zI 0) (zzb (zzd (sq9 (zza 10 (.v x.v) (zzi 11 (.v (W.v)) ty24 zze (zzg 12 122 [x.v, W.v] ?_)))))))))
 intro w11 u11 e11 d11
 have k14 := k_csWrong (W := W) d11 (hx.ext e11) hb
 with_reducible refine zPm k14 ?_
 rintro _ u12 g13 rfl
 refine zza 6 (zI (Nt.csE W L)) (zzb (sq9 (zza 13 (zI (Nt.csE W L)) (zza 14 (zB ((Nt.csE W L) != 0)) (zzb (zzu (b := (Nt.csE W L) != 0) xj (fun hb => ?_) (fun hb => ?_)))))))
 ·clear hb
  refine sq9 (zza 15 (zI (Nt.csE W L)) (zza 4 (zB false) (zza 5 (zI (Nt.csE W L)) (zzb (zzo (zzw (ret0 [.bool false, .int .i64 (Nt.csE W L)] ⟨zzq, zzq, trivial⟩ fun u15 e16 => ?_)))))))
  rfl
 ·exact absurd hb (by rw [show ((Nt.csE W L) != 0) = true from (by simpa using hE)]; decide)
theorem k_csBuildE {u w : World} {x : Sl} {L : List (List Int)} {D W : WL} (d : Dat u w) (hD : WdOK D) (hE : Nt.csE W L ≠ 0) (hx : IrV 5 u x L) (hb : ∀ p ∈ L, ∀ z ∈ p, -9223372036854775808 ≤ z ∧ z ≤ 9223372036854775807) : Calls Tryz.prog 39 #[x.v, D.v, W.v] w (Post u w fun v u' => v = .tuple #[.agg #[.int .i64 0, .int .i64 0, .int .i64 0, .int .i64 0, .int .i64 0, .int .i64 0, .int .i64 0, .int .i64 0, .int .i64 0, .slice none 0 0, .slice none 0 0, .int .i64 0], .int .i64 (Nt.csE W L)]) := by
 refine zzm (args := [.slice x.a x.n x.c, .agg #[.int .i64 D.b, .int .i64 D.f, .int .i64 D.r, .int .i64 D.o], .agg #[.int .i64 W.b, .int .i64 W.f, .int .i64 W.r, .int .i64 W.o]]) Tryz.func39 rfl Tryz.ntmps39 (rs := [.cell 6 49, .tmp 7]) Tryz.results39 (le_b rfl) (le_b rfl) d ?_
 refine sq9 (zzk 4 ⟨24, D.cs⟩ (zzk 5 ⟨24, W.cs⟩ (zzk 6 ⟨49, [.int .i64 0, .int .i64 0, .int .i64 0, .int .i64 0, .int .i64 0, .int .i64 0, .int .i64 0, .int .i64 0, .int .i64 0, .slice none 0 0, .slice none 0 0, .int .i64 0]⟩ (zza 7 (zI 0) (zzb (zzd (sq9 (zzi 21 (.v (D.v)) ty24 zze (zzg 22 75 [D.v] ?_)))))))))
 intro w11 u11 e11 d11
 have k14 := k_fxValidG (W := D) d11
 with_reducible refine zPm k14 ?_
 rintro _ u12 g13 rfl
 refine zza 23 (zB (!(decide (WdOK D)))) (zzb (zzu (b := !(decide (WdOK D))) xj (fun hb => ?_) (fun hb => ?_)))
 ·exact absurd hb (by rw [show (!(decide (WdOK D))) = false from (by simp [hD])]; decide)
 ·clear hb
  refine zzs (zzp ?_)
  refine zzd (sq9 (zza 25 (.v x.v) (zzi 26 (.v (W.v)) ty24 zze (zzg 27 122 [x.v, W.v] ?_))))
  intro w15 u15 e15 d15
  have k18 := k_csWrong (W := W) d15 (hx.ext (e11.trans (g13.ext.trans e15))) hb
  with_reducible refine zPm k18 ?_
  rintro _ u16 g17 rfl
  refine zza 8 (zI (Nt.csE W L)) (zzb (sq9 (zza 28 (zI (Nt.csE W L)) (zza 29 (zB ((Nt.csE W L) != 0)) (zzb (zzu (b := (Nt.csE W L) != 0) xj (fun hb => ?_) (fun hb => ?_)))))))
  ·clear hb
   refine sq9 (zza 30 (.v (.agg #[.int .i64 0, .int .i64 0, .int .i64 0, .int .i64 0, .int .i64 0, .int .i64 0, .int .i64 0, .int .i64 0, .int .i64 0, .slice none 0 0, .slice none 0 0, .int .i64 0])) (zza 31 (zI (Nt.csE W L)) (zzj ⟨49, [.int .i64 0, .int .i64 0, .int .i64 0, .int .i64 0, .int .i64 0, .int .i64 0, .int .i64 0, .int .i64 0, .int .i64 0, .slice none 0 0, .slice none 0 0, .int .i64 0]⟩ ty49 ?_)))
   refine zza 7 (zI (Nt.csE W L)) (zzb (zzo (zzw (ret0 [.agg #[.int .i64 0, .int .i64 0, .int .i64 0, .int .i64 0, .int .i64 0, .int .i64 0, .int .i64 0, .int .i64 0, .int .i64 0, .slice none 0 0, .slice none 0 0, .int .i64 0], .int .i64 (Nt.csE W L)] ⟨zzr ty49 zze, zzq, trivial⟩ fun u19 e20 => ?_))))
   rfl
  ·exact absurd hb (by rw [show ((Nt.csE W L) != 0) = true from (by simpa using hE)]; decide)
theorem k_csBuildD {u w : World} {x : Sl} {L : List (List Int)} {D W : WL} (d : Dat u w) (hD : ¬ WdOK D) (hx : IrV 5 u x L) (hb : ∀ p ∈ L, ∀ z ∈ p, -9223372036854775808 ≤ z ∧ z ≤ 9223372036854775807) : Calls Tryz.prog 39 #[x.v, D.v, W.v] w (Post u w fun v u' => v = .tuple #[.agg #[.int .i64 0, .int .i64 0, .int .i64 0, .int .i64 0, .int .i64 0, .int .i64 0, .int .i64 0, .int .i64 0, .int .i64 0, .slice none 0 0, .slice none 0 0, .int .i64 0], .int .i64 (2)]) := by
 refine zzm (args := [.slice x.a x.n x.c, .agg #[.int .i64 D.b, .int .i64 D.f, .int .i64 D.r, .int .i64 D.o], .agg #[.int .i64 W.b, .int .i64 W.f, .int .i64 W.r, .int .i64 W.o]]) Tryz.func39 rfl Tryz.ntmps39 (rs := [.cell 6 49, .tmp 7]) Tryz.results39 (le_b rfl) (le_b rfl) d ?_
 refine sq9 (zzk 4 ⟨24, D.cs⟩ (zzk 5 ⟨24, W.cs⟩ (zzk 6 ⟨49, [.int .i64 0, .int .i64 0, .int .i64 0, .int .i64 0, .int .i64 0, .int .i64 0, .int .i64 0, .int .i64 0, .int .i64 0, .slice none 0 0, .slice none 0 0, .int .i64 0]⟩ (zza 7 (zI 0) (zzb (zzd (sq9 (zzi 21 (.v (D.v)) ty24 zze (zzg 22 75 [D.v] ?_)))))))))
 intro w11 u11 e11 d11
 have k14 := k_fxValidG (W := D) d11
 with_reducible refine zPm k14 ?_
 rintro _ u12 g13 rfl
 refine zza 23 (zB (!(decide (WdOK D)))) (zzb (zzu (b := !(decide (WdOK D))) xj (fun hb => ?_) (fun hb => ?_)))
 ·clear hb
  refine sq9 (zza 24 (.v (.agg #[.int .i64 0, .int .i64 0, .int .i64 0, .int .i64 0, .int .i64 0, .int .i64 0, .int .i64 0, .int .i64 0, .int .i64 0, .slice none 0 0, .slice none 0 0, .int .i64 0])) (zzj ⟨49, [.int .i64 0, .int .i64 0, .int .i64 0, .int .i64 0, .int .i64 0, .int .i64 0, .int .i64 0, .int .i64 0, .int .i64 0, .slice none 0 0, .slice none 0 0, .int .i64 0]⟩ ty49 ?_))
  refine zza 7 (zI 2) (zzb (zzo (zzw (ret0 [.agg #[.int .i64 0, .int .i64 0, .int .i64 0, .int .i64 0, .int .i64 0, .int .i64 0, .int .i64 0, .int .i64 0, .int .i64 0, .slice none 0 0, .slice none 0 0, .int .i64 0], .int .i64 2] ⟨zzr ty49 zze, zzq, trivial⟩ fun u15 e16 => ?_))))
  rfl
 ·exact absurd hb (by rw [show (!(decide (WdOK D))) = true from (by simp [hD])]; decide)
theorem k_csBuildBad {u w : World} {x : Sl} {L : List (List Int)} {D W : WL} (d : Dat u w) (hE : Nt.csED D W L ≠ 0) (hx : IrV 5 u x L) (hb : ∀ p ∈ L, ∀ z ∈ p, -9223372036854775808 ≤ z ∧ z ≤ 9223372036854775807) : Calls Tryz.prog 39 #[x.v, D.v, W.v] w (Post u w fun v u' => v = .tuple #[.agg #[.int .i64 0, .int .i64 0, .int .i64 0, .int .i64 0, .int .i64 0, .int .i64 0, .int .i64 0, .int .i64 0, .int .i64 0, .slice none 0 0, .slice none 0 0, .int .i64 0], .int .i64 (Nt.csED D W L)]) := by
 unfold Nt.csED at *
 by_cases hD : WdOK D
 ·rw [if_neg (not_not_intro hD)] at *
  exact k_csBuildE d hD hE hx hb
 ·rw [if_pos hD]
  exact k_csBuildD d hD hx hb
theorem bd_nil9 : ∀ z ∈ ([] : List Int), -9223372036854775808 ≤ z ∧ z ≤ 9223372036854775807 := fun z hz => by cases hz
theorem bd_cons9 {a : Int} {l : List Int} (h : -9223372036854775808 ≤ a ∧ a ≤ 9223372036854775807) (hl : ∀ z ∈ l, -9223372036854775808 ≤ z ∧ z ≤ 9223372036854775807) : ∀ z ∈ a :: l, -9223372036854775808 ≤ z ∧ z ≤ 9223372036854775807 := fun z hz => by
 rcases List.mem_cons.1 hz with rfl | hz
 ·exact h
 ·exact hl z hz
theorem fit_wrap {W : WL} (hW : WdOK W) {z y : Int} (h0 : -9223372036854775808 ≤ z) (h1 : z ≤ 9223372036854775807) (hy : IntKind.i64.wrap (0 - z) = y) : Nt.fitB W y = Nt.fitB W (-z) := by
 have h2 := Nt.p2i_24 (n := W.b - 1) (by obtain ⟨_, h3, _⟩ := hW; omega)
 by_cases h : z = -9223372036854775808
 ·have e1 : y = -9223372036854775808 := by rw [← hy, h]; decide
  have a1 : Nt.fitB W y = false := by rw [Bool.eq_false_iff]; intro h9; have := Nt.fit_iff.1 h9; omega
  have a2 : Nt.fitB W (-z) = false := by rw [Bool.eq_false_iff]; intro h9; have := Nt.fit_iff.1 h9; omega
  rw [a1, a2]
 ·rw [IntWalk.i64_in _ xq] at hy
  rw [show y = -z by omega]
theorem fits7 {W : WL} {p : List Int} {y1 y2 : Int} (h1 : Nt.fitB W y1 = Nt.fitB W (-p.getD 3 0)) (h2 : Nt.fitB W y2 = Nt.fitB W (-p.getD 4 0)) : Nt.fitsB W [p.getD 0 0, p.getD 1 0, p.getD 2 0, p.getD 3 0, p.getD 4 0, y1, y2] = Nt.secFit W p := by
 have e : Nt.fitsB W [p.getD 0 0, p.getD 1 0, p.getD 2 0, p.getD 3 0, p.getD 4 0, y1, y2] = (Nt.fitB W (p.getD 0 0) && (Nt.fitB W (p.getD 1 0) && (Nt.fitB W (p.getD 2 0) && (Nt.fitB W (p.getD 3 0) && (Nt.fitB W (p.getD 4 0) && (Nt.fitB W y1 && Nt.fitB W y2)))))) := by
  unfold Nt.fitsB
  rw [Bool.eq_iff_iff, decide_eq_true_iff]
  simp only [Bool.and_eq_true]
  constructor
  ·intro h
   exact ⟨h 0 (by show 0 < 7; decide), h 1 (by show 1 < 7; decide), h 2 (by show 2 < 7; decide), h 3 (by show 3 < 7; decide), h 4 (by show 4 < 7; decide), h 5 (by show 5 < 7; decide), h 6 (by show 6 < 7; decide)⟩
  ·rintro ⟨g0, g1, g2, g3, g4, g5, g6⟩ i hi
   match i, hi with
   | 0, _ => exact g0
   | 1, _ => exact g1
   | 2, _ => exact g2
   | 3, _ => exact g3
   | 4, _ => exact g4
   | 5, _ => exact g5
   | 6, _ => exact g6
 rw [e, h1, h2]
 unfold Nt.secFit
 cases Nt.fitB W (p.getD 0 0) <;> cases Nt.fitB W (p.getD 1 0) <;> cases Nt.fitB W (p.getD 2 0) <;> cases Nt.fitB W (p.getD 3 0) <;> cases Nt.fitB W (p.getD 4 0) <;> cases Nt.fitB W (-p.getD 3 0) <;> cases Nt.fitB W (-p.getD 4 0) <;> rfl
set_option maxHeartbeats 4000000 in
theorem k_check24 {u w : World} {x : Sl} {L : List (List Int)} {D W : WL} (d : Dat u w) (hx : IrV 5 u x L) (hb : ∀ p ∈ L, ∀ z ∈ p, -9223372036854775808 ≤ z ∧ z ≤ 9223372036854775807) : Calls Tryz.prog 123 #[x.v, D.v, W.v] w (Post u w fun v u' => v = .int .i64 (Nt.csED D W L)) := by
 have hlx := hx.len
 refine zzm (args := [.slice x.a x.n x.c, .agg #[.int .i64 D.b, .int .i64 D.f, .int .i64 D.r, .int .i64 D.o], .agg #[.int .i64 W.b, .int .i64 W.f, .int .i64 W.r, .int .i64 W.o]]) Tryz.func123 rfl Tryz.ntmps123 (rs := [.tmp 6]) Tryz.results123 (le_b rfl) (le_b rfl) d ?_
 refine sq9 (zzk 4 ⟨24, D.cs⟩ (zzk 5 ⟨24, W.cs⟩ (zza 6 (zI 0) (zzb (zzd (sq9 (zzi 9 (.v (D.v)) ty24 zze (zzg 10 68 [D.v] ?_))))))))
 intro w11 u11 e11 d11
 have k14 := k_r21ValidG (W := D) d11
 with_reducible refine zPm k14 ?_
 rintro _ u12 g13 rfl
 refine zza 11 (zB (!(decide (WdOK D)))) ?_
 rcases Bool.eq_false_or_eq_true (!(decide (WdOK D))) with hs15 | hs15
 ·refine zyq 12 (x := zB (!(decide (WdOK D)))) (zB true) (by rw [hs15]) ?_
  have nhD : ¬ WdOK D := by simpa using hs15
  refine zzn 13 (uw 3 false true 12) (zzn 14 (uw 3 false true 12) (zzn 15 (uw 3 false true 12) (zza 16 (zB true) (zzb (zyr xj (sq9 (zza 6 (zI 2) (zzb (zzo (zzw (ret0 [.int .i64 2] ⟨zzq, trivial⟩ fun u16 e17 => ?_)))))))))))
  show Value.int _ _ = Value.int _ _
  unfold Nt.csED
  rw [if_pos nhD]
 ·refine zyq 12 (x := zB (!(decide (WdOK D)))) (zB false) (by rw [hs15]) ?_
  have hD : WdOK D := by simpa using hs15
  refine zzi 13 (.v (W.v)) ty24 zze ?_ (hw := w1 3 false 12)
  refine zzg 14 68 [W.v] ?_ (hw := w1 3 false 12)
  intro w18 u18 e18 d18
  have k21 := k_r21ValidG (W := W) d18
  with_reducible refine zPm k21 ?_
  rintro _ u19 g20 rfl
  refine zza 15 (zB (!(decide (WdOK W)))) ?_ (hw := w1 3 false 12)
  refine zza 16 (zB (!(decide (WdOK W)))) (zzb (zzu (b := !(decide (WdOK W))) xj (fun hb22 => ?_) (fun hb22 => ?_)))
  ·replace hb22 : (!(decide (WdOK W))) = true := hb22
   have nhW : ¬ WdOK W := by simpa using hb22
   refine sq9 (zza 6 (zI 2) (zzb (zzo (zzw (ret0 [.int .i64 2] ⟨zzq, trivial⟩ fun u23 e24 => ?_)))))
   show Value.int _ _ = Value.int _ _
   unfold Nt.csED
   rw [if_neg (not_not_intro hD), Nt.csE_2 nhW]
  ·replace hb22 : (!(decide (WdOK W))) = false := hb22
   have hW : WdOK W := by simpa using hb22
   refine zzs (zzp ?_)
   refine zzd (sq9 (zza 17 (.v x.v) (zza 18 (zI x.n) (zzg 19 118 [.int .i64 x.n, .int .i64 1, .int .i64 8] ?_))))
   intro w25 u25 e25 d25
   have k28 := k_in d25 (z := (x.n : Int)) (a := 1) (b := 8)
   with_reducible refine zPm k28 ?_
   rintro _ u26 g27 rfl
   refine zza 20 (zB (!(decide ((1 : Int) ≤ (x.n : Int)) && decide ((x.n : Int) ≤ 8)))) (zzb (zzu (b := !(decide ((1 : Int) ≤ (x.n : Int)) && decide ((x.n : Int) ≤ 8))) xj (fun hb29 => ?_) (fun hb29 => ?_)))
   ·replace hb29 : (!(decide ((1 : Int) ≤ (x.n : Int)) && decide ((x.n : Int) ≤ 8))) = true := hb29
    have hIhb29 : x.n < 1 ∨ 8 < x.n := by have h9 := hb29; simp at h9; omega
    refine sq9 (zza 6 (zI 1) (zzb (zzo (zzw (ret0 [.int .i64 1] ⟨zzq, trivial⟩ fun u30 e31 => ?_)))))
    show Value.int _ _ = Value.int _ _
    unfold Nt.csED
    rw [if_neg (not_not_intro hD), Nt.csE_1 hW xq]
   ·replace hb29 : (!(decide ((1 : Int) ≤ (x.n : Int)) && decide ((x.n : Int) ≤ 8))) = false := hb29
    have hIhb29 : 1 ≤ x.n ∧ x.n ≤ 8 := by have h9 := hb29; simp at h9; omega
    refine zzs (zzp ?_)
    refine zzd (sq9 (zza 7 (zI 0) (zzb (zzt (zyn (I := fun m32 S' u' => ∃ (i : Nat), (m32 = x.n - i) ∧ (i ≤ x.n) ∧ (∀ j, j < i → Nt.secFit W (L.getD j []) = true) ∧ (S' = St.of 58 [(0, .v (.slice x.a x.n x.c)), (5, .adr 5 0), (7, zI i)] [(5, ⟨24, [.int .i64 W.b, .int .i64 W.f, .int .i64 W.r, .int .i64 W.o]⟩)]) ∧ (Ext u26 u')) (fun m S u1 u2 e h => by obtain ⟨i, hm, p0, p1, hS, hE⟩ := h; exact ⟨i, hm, p0, p1, hS, hE.trans e⟩) _ yz ⟨0, rfl, Nat.zero_le _, (fun j hj => absurd hj (Nat.not_lt_zero j)), rfl, (Ext.refl _)⟩ ?_)))))
    rintro m32 _ u32 ⟨i, hm32, hi, hs, rfl, e32⟩
    refine zzd (sq9 (zza 21 (zI i) (zza 22 (.v x.v) (zza 23 (zI x.n) (zza 24 (zB (decide ((i : Int) < (x.n : Int)))) (zzb (zzu (b := decide ((i : Int) < (x.n : Int))) xj (fun hb33 => ?_) (fun hb33 => ?_))))))))
    ·replace hb33 : (decide ((i : Int) < (x.n : Int))) = true := hb33
     have qhb33 := of_decide_eq_true hb33
     refine zzs (zzp ?_)
     refine zzd (zzt (zzd ?_))
     have hbd := fun j (hj : j < 5) => row_bd hx.rows hb (i := i) (j := j) xq hj
     have hbd0 := hbd 0 yq
     have hbd1 := hbd 1 yq
     have hbd2 := hbd 2 yq
     have hbd3 := hbd 3 yq
     have hbd4 := hbd 4 yq
     refine zzf (zza 27 (.v x.v) (zza 28 (zI i) ?_))
     have hl34 := ((hx.ext (e11.trans (g13.ext.trans (e18.trans (g20.ext.trans (e25.trans (g27.ext.trans e32)))))))).len
     obtain ⟨b34, o34, hA34, hc34⟩ := ir_at5 (hx.ext (e11.trans (g13.ext.trans (e18.trans (g20.ext.trans (e25.trans (g27.ext.trans e32))))))) (i := i) xq
     refine zya 29 (o34 + i * 5) (n := x.n) (off := o34) (sz := 5) (i := (i : Int)) xq hA34 xq xq sl82 (zym 30 [.int .i64 (gi L i 0), .int .i64 (gi L i 1), .int .i64 (gi L i 2), .int .i64 (gi L i 3), .int .i64 (gi L i 4)] hc34 ty87 (zzk 8 ⟨87, [.int .i64 0, .int .i64 0, .int .i64 0, .int .i64 0, .int .i64 0]⟩ (zzj ⟨87, [.int .i64 (gi L i 0), .int .i64 (gi L i 1), .int .i64 (gi L i 2), .int .i64 (gi L i 3), .int .i64 (gi L i 4)]⟩ ty87 ?_)))
     refine zzb (sq9 (zzi 31 (.v (W.v)) ty24 zze (zza 32 (.adr 8 0) (zza 33 (.adr 8 0) (zzi 34 (zI (gi L i 0)) ty3 zzl (zza 35 (.adr 8 0) (zza 36 (.adr 8 1) (zzi 37 (zI (gi L i 1)) ty3 zzl (zza 38 (.adr 8 0) (zza 39 (.adr 8 2) (zzi 40 (zI (gi L i 2)) ty3 zzl ?_)))))))))))
     refine zza 41 (.adr 8 3) (zza 42 (.adr 8 3) (zzi 43 (zI (gi L i 3)) ty3 zzl (zza 44 (.adr 8 3) (zza 45 (.adr 8 4) (zzi 46 (zI (gi L i 4)) ty3 zzl (zza 47 (.adr 8 3) (zza 48 (.adr 8 3) (zzi 49 (zI (gi L i 3)) ty3 zzl ?_))))))))
     obtain ⟨z35, hz35, ha35, hb35⟩ := wrap64_ex (0 - (gi L i 3))
     refine zyq 50 (x := zI (IntKind.i64.wrap (0 - (gi L i 3)))) (zI z35) (eqI hz35) (zza 51 (.adr 8 3) (zza 52 (.adr 8 4) (zzi 53 (zI (gi L i 4)) ty3 zzl ?_)))
     obtain ⟨z36, hz36, ha36, hb36⟩ := wrap64_ex (0 - (gi L i 4))
     refine zyq 54 (x := zI (IntKind.i64.wrap (0 - (gi L i 4)))) (zI z36) (eqI hz36) (zxy 55 ⟨3, [.int .i64 (gi L i 0), .int .i64 (gi L i 1), .int .i64 (gi L i 2), .int .i64 (gi L i 3), .int .i64 (gi L i 4), .int .i64 z35, .int .i64 z36]⟩ 7 (fun b37 u38 e39 h40 => ?_))
     have hI41 : SlR .i64 u38 (some ⟨b37, 0, none⟩) 7 7 [gi L i 0, gi L i 1, gi L i 2, gi L i 3, gi L i 4, z35, z36] := ints_data (cs := [.int .i64 (gi L i 0), .int .i64 (gi L i 1), .int .i64 (gi L i 2), .int .i64 (gi L i 3), .int .i64 (gi L i 4), .int .i64 z35, .int .i64 z36]) h40 rfl rfl yq (by unfold maxLen; decide)
     have hf7 := fits7 (W := W) (p := L.getD i []) (fit_wrap hW (z := gi L i 3) xq xq hz35) (fit_wrap hW (z := gi L i 4) xq xq hz36)
     refine zzg 56 154 [W.v, .slice (some ⟨b37, 0, none⟩) 7 7] ?_
     intro w42 u42 e42 d42
     have k45 := k_words21 (y := (⟨some ⟨b37, 0, none⟩, 7, 7⟩ : Sl)) (W := W) d42 hW (hI41.ext e42) (bd_cons9 (a := gi L i 0) xq (bd_cons9 (a := gi L i 1) xq (bd_cons9 (a := gi L i 2) xq (bd_cons9 (a := gi L i 3) xq (bd_cons9 (a := gi L i 4) xq (bd_cons9 (a := z35) xq (bd_cons9 (a := z36) xq bd_nil9))))))) (by show 7 ≤ 1000; decide)
     with_reducible refine zPm k45 ?_
     rintro _ u43 g44 rfl
     refine zza 57 (zB (!(Nt.fitsB W [gi L i 0, gi L i 1, gi L i 2, gi L i 3, gi L i 4, z35, z36]))) (zzc 58 [(0, .v x.v), (5, .adr 5 0), (7, zI i), (57, zB (!(Nt.fitsB W [gi L i 0, gi L i 1, gi L i 2, gi L i 3, gi L i 4, z35, z36])))] [(5, ⟨24, W.cs⟩)] (zzu (b := !(Nt.fitsB W [gi L i 0, gi L i 1, gi L i 2, gi L i 3, gi L i 4, z35, z36])) xj (fun hb46 => ?_) (fun hb46 => ?_)))
     ·replace hb46 : (!(Nt.fitsB W [gi L i 0, gi L i 1, gi L i 2, gi L i 3, gi L i 4, z35, z36])) = true := hb46
      have qhb46 : Nt.secFit W (L.getD i []) = false := by have h9 := hb46; simp only [Bool.not_eq_true', Bool.not_eq_false'] at h9; rw [← hf7]; exact h9
      refine sq9 (zza 6 (zI 17) (zzb (zzo (zyu (zzw (zyt (zyu (zzw (ret0 [.int .i64 17] ⟨zzq, trivial⟩ fun u47 e48 => ?_)))))))))
      show Value.int _ _ = Value.int _ _
      unfold Nt.csED
      rw [if_neg (not_not_intro hD), Nt.csE_17 hW xq xq (i := i) xq qhb46]
     ·replace hb46 : (!(Nt.fitsB W [gi L i 0, gi L i 1, gi L i 2, gi L i 3, gi L i 4, z35, z36])) = false := hb46
      have qhb46 : Nt.secFit W (L.getD i []) = true := by have h9 := hb46; simp only [Bool.not_eq_true', Bool.not_eq_false'] at h9; rw [← hf7]; exact h9
      refine zzs (zzp ?_)
      refine zzf (zza 25 (zI i) (zyq 26 (x := zI (IntKind.i64.wrap ((i : Int) + 1))) (zI (i + 1 : Nat)) (eqI xk) (zza 7 (zI (i + 1 : Nat)) (zzx ?_))))
      refine ⟨_, ?_, _, by exact zzv _ _ _, i + 1, rfl, by omega, (fun j hj => by by_cases e : j = i; (rw [e]; exact qhb46); exact hs j xq), rfl, (e32.trans (e39.trans (e42.trans g44.ext)))⟩
      omega
    ·replace hb33 : (decide ((i : Int) < (x.n : Int))) = false := hb33
     have qhb33 := of_decide_eq_false hb33
     refine zyc (zzp (sq9 (zza 6 (zI 0) (zzb (zzo (ret0 [.int .i64 0] ⟨zzq, trivial⟩ fun u49 e50 => ?_))))))
     show Value.int _ _ = Value.int _ _
     unfold Nt.csED
     rw [if_neg (not_not_intro hD), Nt.csE_0 hW xq xq (fun i hi => hs i xq)]
theorem k_rcsIdealBad {u w : World} {x : Sl} {L : List (List Int)} {W : WL} (d : Dat u w) (hE : Nt.csE W L ≠ 0) (hx : IrV 5 u x L) (hb : ∀ p ∈ L, ∀ z ∈ p, -9223372036854775808 ≤ z ∧ z ≤ 9223372036854775807) : Calls Tryz.prog 41 #[x.v, W.v] w (Post u w fun v u' => v = .tuple #[.agg #[.slice none 0 0, .slice none 0 0], .int .i64 (Nt.csE W L)]) := by
 refine zzm (args := [.slice x.a x.n x.c, .agg #[.int .i64 W.b, .int .i64 W.f, .int .i64 W.r, .int .i64 W.o]]) Tryz.func41 rfl Tryz.ntmps41 (rs := [.cell 4 31, .tmp 5]) Tryz.results41 (le_b rfl) (le_b rfl) d ?_
 refine sq9 (zzk 3 ⟨24, W.cs⟩ (zzk 4 ⟨31, [.slice none 0 0, .slice none 0 0]⟩ (zza 5 (zI 0) (zzb (zzd (sq9 (zza 11 (.v x.v) (zzi 12 (.v (W.v)) ty24 zze (zzi 13 (.v (W.v)) ty24 zze (zzg 14 123 [x.v, W.v, W.v] ?_))))))))))
 intro w11 u11 e11 d11
 have k14 := (Post.mono (Ψ := fun v _ => v = .int .i64 (Nt.csE W L)) (k_check24 (D := W) (W := W) d11 (hx.ext e11) hb) (fun v u9 _ h => by rw [Nt.csED_same] at h; exact h))
 with_reducible refine zPm k14 ?_
 rintro _ u12 g13 rfl
 refine zza 6 (zI (Nt.csE W L)) (zzb (sq9 (zza 15 (zI (Nt.csE W L)) (zza 16 (zB ((Nt.csE W L) != 0)) (zzb (zzu (b := (Nt.csE W L) != 0) xj (fun hb => ?_) (fun hb => ?_)))))))
 ·clear hb
  refine sq9 (zza 17 (.v (.agg #[.slice none 0 0, .slice none 0 0])) (zza 18 (zI (Nt.csE W L)) (zzj ⟨31, [.slice none 0 0, .slice none 0 0]⟩ ty31 ?_)))
  refine zza 5 (zI (Nt.csE W L)) (zzb (zzo (zzw (ret0 [.agg #[.slice none 0 0, .slice none 0 0], .int .i64 (Nt.csE W L)] ⟨zzr ty31 zze, zzq, trivial⟩ fun u15 e16 => ?_))))
  rfl
 ·exact absurd hb (by rw [show ((Nt.csE W L) != 0) = true from (by simpa using hE)]; decide)
theorem k_rcsStableBad {u w : World} {x : Sl} {L : List (List Int)} {W : WL} (d : Dat u w) (hE : Nt.csE W L ≠ 0) (hx : IrV 5 u x L) (hb : ∀ p ∈ L, ∀ z ∈ p, -9223372036854775808 ≤ z ∧ z ≤ 9223372036854775807) : Calls Tryz.prog 43 #[x.v, W.v] w (Post u w fun v u' => v = .tuple #[.bool false, .int .i64 (Nt.csE W L)]) := by
 refine zzm (args := [.slice x.a x.n x.c, .agg #[.int .i64 W.b, .int .i64 W.f, .int .i64 W.r, .int .i64 W.o]]) Tryz.func43 rfl Tryz.ntmps43 (rs := [.tmp 4, .tmp 5]) Tryz.results43 (le_b rfl) (le_b rfl) d ?_
 refine sq9 (zzk 3 ⟨24, W.cs⟩ (zza 4 (zB false) (zza 5 (zI 0) (zzb (zzd (sq9 (zza 9 (.v x.v) (zzi 10 (.v (W.v)) ty24 zze (zzi 11 (.v (W.v)) ty24 zze (zzg 12 123 [x.v, W.v, W.v] ?_))))))))))
 intro w11 u11 e11 d11
 have k14 := (Post.mono (Ψ := fun v _ => v = .int .i64 (Nt.csE W L)) (k_check24 (D := W) (W := W) d11 (hx.ext e11) hb) (fun v u9 _ h => by rw [Nt.csED_same] at h; exact h))
 with_reducible refine zPm k14 ?_
 rintro _ u12 g13 rfl
 refine zza 6 (zI (Nt.csE W L)) (zzb (sq9 (zza 13 (zI (Nt.csE W L)) (zza 14 (zB ((Nt.csE W L) != 0)) (zzb (zzu (b := (Nt.csE W L) != 0) xj (fun hb => ?_) (fun hb => ?_)))))))
 ·clear hb
  refine sq9 (zza 15 (zI (Nt.csE W L)) (zza 4 (zB false) (zza 5 (zI (Nt.csE W L)) (zzb (zzo (zzw (ret0 [.bool false, .int .i64 (Nt.csE W L)] ⟨zzq, zzq, trivial⟩ fun u15 e16 => ?_)))))))
  rfl
 ·exact absurd hb (by rw [show ((Nt.csE W L) != 0) = true from (by simpa using hE)]; decide)
theorem k_rcsBuildBad {u w : World} {x : Sl} {L : List (List Int)} {D W : WL} (d : Dat u w) (hE : Nt.csED D W L ≠ 0) (hx : IrV 5 u x L) (hb : ∀ p ∈ L, ∀ z ∈ p, -9223372036854775808 ≤ z ∧ z ≤ 9223372036854775807) : Calls Tryz.prog 40 #[x.v, D.v, W.v] w (Post u w fun v u' => v = .tuple #[.agg #[.int .i64 0, .int .i64 0, .int .i64 0, .int .i64 0, .int .i64 0, .int .i64 0, .int .i64 0, .int .i64 0, .int .i64 0, .slice none 0 0, .slice none 0 0, .int .i64 0], .int .i64 (Nt.csED D W L)]) := by
 refine zzm (args := [.slice x.a x.n x.c, .agg #[.int .i64 D.b, .int .i64 D.f, .int .i64 D.r, .int .i64 D.o], .agg #[.int .i64 W.b, .int .i64 W.f, .int .i64 W.r, .int .i64 W.o]]) Tryz.func40 rfl Tryz.ntmps40 (rs := [.cell 6 49, .tmp 7]) Tryz.results40 (le_b rfl) (le_b rfl) d ?_
 refine sq9 (zzk 4 ⟨24, D.cs⟩ (zzk 5 ⟨24, W.cs⟩ (zzk 6 ⟨49, [.int .i64 0, .int .i64 0, .int .i64 0, .int .i64 0, .int .i64 0, .int .i64 0, .int .i64 0, .int .i64 0, .int .i64 0, .slice none 0 0, .slice none 0 0, .int .i64 0]⟩ (zza 7 (zI 0) (zzb (zzd (sq9 (zza 16 (.v x.v) (zzi 17 (.v (D.v)) ty24 zze (zzi 18 (.v (W.v)) ty24 zze (zzg 19 123 [x.v, D.v, W.v] ?_)))))))))))
 intro w11 u11 e11 d11
 have k14 := k_check24 (D := D) (W := W) d11 (hx.ext e11) hb
 with_reducible refine zPm k14 ?_
 rintro _ u12 g13 rfl
 refine zza 8 (zI (Nt.csED D W L)) (zzb (sq9 (zza 20 (zI (Nt.csED D W L)) (zza 21 (zB ((Nt.csED D W L) != 0)) (zzb (zzu (b := (Nt.csED D W L) != 0) xj (fun hb => ?_) (fun hb => ?_)))))))
 ·clear hb
  refine sq9 (zza 22 (.v (.agg #[.int .i64 0, .int .i64 0, .int .i64 0, .int .i64 0, .int .i64 0, .int .i64 0, .int .i64 0, .int .i64 0, .int .i64 0, .slice none 0 0, .slice none 0 0, .int .i64 0])) (zza 23 (zI (Nt.csED D W L)) (zzj ⟨49, [.int .i64 0, .int .i64 0, .int .i64 0, .int .i64 0, .int .i64 0, .int .i64 0, .int .i64 0, .int .i64 0, .int .i64 0, .slice none 0 0, .slice none 0 0, .int .i64 0]⟩ ty49 ?_)))
  refine zza 7 (zI (Nt.csED D W L)) (zzb (zzo (zzw (ret0 [.agg #[.int .i64 0, .int .i64 0, .int .i64 0, .int .i64 0, .int .i64 0, .int .i64 0, .int .i64 0, .int .i64 0, .int .i64 0, .slice none 0 0, .slice none 0 0, .int .i64 0], .int .i64 (Nt.csED D W L)] ⟨zzr ty49 zze, zzq, trivial⟩ fun u15 e16 => ?_))))
  rfl
 ·exact absurd hb (by rw [show ((Nt.csED D W L) != 0) = true from (by simpa using hE)]; decide)
theorem k_rsize {u w : World} {z : Int} (d : Dat u w) (h0 : -1000000000 ≤ z) (h1 : z ≤ 1000000000) : Calls Tryz.prog 125 #[.int .i64 z] w (Post u w fun v _ => v = .int .i64 (Nt.az z)) := by
 refine zzm (args := [.int .i64 z]) Tryz.func125 rfl Tryz.ntmps125 (rs := [.tmp 2]) Tryz.results125 (le_b rfl) (le_b rfl) d ?_
 refine sq9 (zza 2 (zI 0) (zzb (sq9 (zza 3 (zI z) (zza 4 (zI z) (zyq 5 (x := zI (IntKind.i64.wrap (0 - z))) (zI (-z)) (eqI xk) (sy_maxN 6 (n := z) (m := -z) (v := Nt.az z) (by unfold Nt.az; split <;> omega) ?_)))))))
 refine zza 2 (zI (Nt.az z)) (zzb (zzo (ret0 [.int .i64 (Nt.az z)] ⟨zzq, trivial⟩ fun u11 e12 => ?_)))
 rfl
theorem ir_parts {u : World} {x : Sl} {L : List (List Int)} {i : Nat} (h : IrV 5 u x L) (hi : i < L.length) : ∃ b o, x.a = some ⟨b, o, none⟩ ∧ (∀ j, j < 5 → u.cell? ⟨b, o + i * 5 + j, none⟩ = some (.int .i64 (gi L i j))) ∧ SlR .i64 u (some ⟨b, o + i * 5, none⟩) 3 3 [gi L i 0, gi L i 1, gi L i 2] ∧ SlR .i64 u (some ⟨b, o + i * 5 + 3, none⟩) 2 2 [gi L i 3, gi L i 4] := by
 obtain ⟨b, o, h1, h2, h3⟩ := ir_at h hi
 rw [ics5 h.rows hi] at h3
 have h4 : ∀ j, j < 5 → u.cell? ⟨b, o + i * 5 + j, none⟩ = some (.int .i64 (gi L i j)) := fun j hj => by
  rw [h3 j hj]
  match j, hj with
  | 0, _ => rfl
  | 1, _ => rfl
  | 2, _ => rfl
  | 3, _ => rfl
  | 4, _ => rfl
 refine ⟨b, o, h1, h4, ⟨rfl, Nat.le_refl _, by unfold maxLen; decide, fun _ => ⟨b, o + i * 5, rfl, h2, fun j hj => ?_⟩⟩, ⟨rfl, Nat.le_refl _, by unfold maxLen; decide, fun _ => ⟨b, o + i * 5 + 3, rfl, h2, fun j hj => ?_⟩⟩⟩
 ·rw [h4 j xq]
  match j, hj with
  | 0, _ => rfl
  | 1, _ => rfl
  | 2, _ => rfl
 ·rw [Nat.add_assoc, h4 (3 + j) xq]
  match j, hj with
  | 0, _ => rfl
  | 1, _ => rfl
set_option maxHeartbeats 4000000 in
theorem k_rcsStable {u w : World} {x : Sl} {L : List (List Int)} {W : WL} (d : Dat u w) (hE : Nt.csE W L = 0) (hx : IrV 5 u x L) (hb : ∀ p ∈ L, ∀ z ∈ p, -9223372036854775808 ≤ z ∧ z ≤ 9223372036854775807) : Calls Tryz.prog 43 #[x.v, W.v] w (Post u w fun v u' => v = .tuple #[.bool (Nt.csSt W.f L), .int .i64 0]) := by
 obtain ⟨hW, h1, h8, hall⟩ := Nt.csE_ok hE
 have hlx := hx.len
 obtain ⟨hw1, hw2, hw3, hw4, hw5, hw6, hw7, hw8⟩ := id hW
 have hp24 := Nt.p2i_24 (n := W.b - 1) xq
 have hpf := Nt.p2i_24 (n := W.f) xq
 have hpp := Nt.zxp W.f
 have hbd5 : ∀ i, i < L.length → ∀ j, j < 5 → ((L.getD i []).getD j 0).natAbs ≤ 2 ^ 24 := fun i hi j hj => by have h9 := Nt.secFit_ok (hall i hi) j hj; unfold gi at h9; omega
 refine zzm (args := [.slice x.a x.n x.c, .agg #[.int .i64 W.b, .int .i64 W.f, .int .i64 W.r, .int .i64 W.o]]) Tryz.func43 rfl Tryz.ntmps43 (rs := [.tmp 4, .tmp 5]) Tryz.results43 (le_b rfl) (le_b rfl) d ?_
 refine sq9 (zzk 3 ⟨24, W.cs⟩ (zza 4 (zB false) (zza 5 (zI 0) (zzb (zzd (sq9 (zza 9 (.v x.v) (zzi 10 (.v (W.v)) ty24 zze (zzi 11 (.v (W.v)) ty24 zze (zzg 12 123 [x.v, W.v, W.v] ?_))))))))))
 intro w11 u11 e11 d11
 have k14 := (Post.mono (Ψ := fun v _ => v = .int .i64 0) (Post.mono (Ψ := fun v _ => v = .int .i64 (Nt.csE W L)) (k_check24 (D := W) (W := W) d11 (hx.ext e11) hb) (fun v u9 _ h => by rw [Nt.csED_same] at h; exact h)) (fun v u9 _ h => by rw [hE] at h; exact h))
 with_reducible refine zPm k14 ?_
 rintro _ u12 g13 rfl
 refine zza 6 (zI 0) (zzb (sq9 (zza 13 (zI 0) (zza 14 (zB false) (zzb (zys xj (zzs (zzp ?_))))))))
 refine sq9 (zza 16 (.adr 3 1) (zzi 17 (zI W.f) ty3 zzl (sy_conv 18 (W.f) (fun w => by kernel_rfl) (IntWalk.u64_in _ xq) ?_)))
 refine sy_shl 19 (k := .i64) (s := W.f) (Nt.p2i W.f) xq zq (shl_one xq xq) ?_
 refine zza 7 (zI (Nt.p2i W.f)) (zzb (zzd (sq9 (zza 8 (zI 0) (zzb (zzt (zyn (I := fun m15 S' u' => ∃ (i : Nat), (m15 = x.n - i) ∧ (i ≤ x.n) ∧ (∀ j, j < i → Nt.secSt W.f (L.getD j []) = true) ∧ (S' = St.of 53 [(0, .v (.slice x.a x.n x.c)), (7, zI (Nt.p2i W.f)), (8, zI i)] []) ∧ (Ext u12 u')) (fun m S u1 u2 e h => by obtain ⟨i, hm, p0, p1, hS, hE⟩ := h; exact ⟨i, hm, p0, p1, hS, hE.trans e⟩) _ yz ⟨0, rfl, Nat.zero_le _, (fun j hj => absurd hj (Nat.not_lt_zero j)), rfl, (Ext.refl _)⟩ ?_)))))))
 rintro m15 _ u15 ⟨i, hm15, hi, hs, rfl, e15⟩
 refine zzd (sq9 (zza 20 (zI i) (zza 21 (.v x.v) (zza 22 (zI x.n) (zza 23 (zB (decide ((i : Int) < (x.n : Int)))) (zzb (zzu (b := decide ((i : Int) < (x.n : Int))) xj (fun hb16 => ?_) (fun hb16 => ?_))))))))
 ·replace hb16 : (decide ((i : Int) < (x.n : Int))) = true := hb16
  have qhb16 := of_decide_eq_true hb16
  refine zzs (zzp ?_)
  refine zzd (zzt (zzd ?_))
  have hbd := Nt.secFit_ok (hall i xq)
  have hbd3 := hbd 3 yq
  have hbd4 := hbd 4 yq
  refine zzz [0, 0, 3, 7, 15, 31, 63, 0, 255, 511, 1023, 1023, 4095, 8191, 16383, 32767, 65535, 1023, 1023, 1023, 787455, 1836031, 3933183, 8127487, 16647167, 33554431, 67108863] [(0, []), (1, []), (2, []), (3, []), (4, []), (5, []), (7, []), (6, []), (8, []), (9, []), (10, []), (11, []), (12, []), (13, []), (14, []), (15, []), (17, []), (18, []), (19, []), (20, []), (21, []), (22, []), (23, []), (24, []), (16, []), (25, []), (26, [])] xj xj (zza 26 (.v x.v) (zza 27 (zI i) ?_))
  have hl17 := ((hx.ext (e11.trans (g13.ext.trans e15)))).len
  obtain ⟨b17, o17, hA17, hc17, hp317, hp217⟩ := ir_parts (hx.ext (e11.trans (g13.ext.trans e15))) (i := i) xq
  refine zya 28 (o17 + i * 5) (n := x.n) (off := o17) (sz := 5) (i := (i : Int)) xq hA17 xq xq sl82 (zza 29 (.v (.pointer (some ⟨b17, o17 + i * 5 + 3, none⟩))) (zza 30 (.v (.pointer (some ⟨b17, o17 + i * 5 + 3 + 1, none⟩))) (zyl 31 (.int .i64 (gi L i 4)) (hc17 4 yq) ty3 (zza 33 (zI (Nt.p2i W.f)) (zzg 32 125 [.int .i64 (gi L i 4)] ?_)))))
  intro w18 u18 e18 d18
  have k21 := k_rsize (z := (gi L i 4)) d18 xq xq
  with_reducible refine zPm k21 ?_
  rintro _ u19 g20 rfl
  have haz22 := Nt.az_bd (z := (gi L i 4)) xq xq
  refine zza 34 (zB (decide ((Nt.p2i W.f) ≤ (Nt.az (gi L i 4))))) ?_
  rcases Bool.eq_false_or_eq_true (decide ((Nt.p2i W.f) ≤ (Nt.az (gi L i 4)))) with hs23 | hs23
  ·refine zyq 35 (x := zB (decide ((Nt.p2i W.f) ≤ (Nt.az (gi L i 4))))) (zB true) (by rw [hs23]) ?_
   have qhs23 := of_decide_eq_true hs23
   refine zzn 36 (uw 9 false true 35) (zzn 37 (uw 9 false true 35) (zzn 38 (uw 9 false true 35) (zzn 39 (uw 9 false true 35) (zzn 40 (uw 9 false true 35) (zzn 41 (uw 9 false true 35) (zzn 43 (uw 9 false true 35) (zzn 44 (uw 9 false true 35) (zzn 45 (uw 9 false true 35) (zzn 46 (uw 9 false true 35) (zzn 47 (uw 9 false true 35) (zzn 48 (uw 9 false true 35) ?_)))))))))))
   refine zzn 49 (uw 9 false true 35) (zzn 50 (uw 9 false true 35) (zzn 42 (uw 9 false true 35) (zzn 51 (uw 9 false true 35) (zza 52 (zB true) (zzc 53 [(0, .v x.v), (7, zI (Nt.p2i W.f)), (8, zI i), (52, zB true)] [] (zyr xj (sq9 (zza 4 (zB false) (zza 5 (zI 0) (zzb (zzo (zyu (zzw (zyt (zyu (zzw (ret0 [.bool false, .int .i64 0] ⟨zzq, zzq, trivial⟩ fun u24 e25 => ?_)))))))))))))))))
   rw [Nt.csSt_no (i := i) xq (Nt.secSt_no1 xq)]
   rfl
  ·refine zyq 35 (x := zB (decide ((Nt.p2i W.f) ≤ (Nt.az (gi L i 4))))) (zB false) (by rw [hs23]) ?_
   have qhs23 := of_decide_eq_false hs23
   refine zza 36 (.v x.v) ?_ (hw := w1 9 false 35)
   refine zza 37 (zI i) ?_ (hw := w1 9 false 35)
   have hl26 := ((hx.ext (e11.trans (g13.ext.trans (e15.trans (e18.trans g20.ext)))))).len
   obtain ⟨b26, o26, hA26, hc26, hp326, hp226⟩ := ir_parts (hx.ext (e11.trans (g13.ext.trans (e15.trans (e18.trans g20.ext))))) (i := i) xq
   refine zya 38 (o26 + i * 5) (n := x.n) (off := o26) (sz := 5) (i := (i : Int)) xq hA26 xq xq sl82 ?_ (hw := w1 9 false 35)
   refine zza 39 (.v (.pointer (some ⟨b26, o26 + i * 5 + 3, none⟩))) ?_ (hw := w1 9 false 35)
   refine zza 40 (.v (.pointer (some ⟨b26, o26 + i * 5 + 3 + 0, none⟩))) ?_ (hw := w1 9 false 35)
   refine zyl 41 (.int .i64 (gi L i 3)) (hc26 3 yq) ty3 ?_ (hw := w1 9 false 35)
   refine zza 43 (zI (Nt.p2i W.f)) ?_ (hw := w1 9 false 35)
   refine zza 44 (.v x.v) ?_ (hw := w1 9 false 35)
   refine zza 45 (zI i) ?_ (hw := w1 9 false 35)
   have hl27 := ((hx.ext (e11.trans (g13.ext.trans (e15.trans (e18.trans g20.ext)))))).len
   obtain ⟨b27, o27, hA27, hc27, hp327, hp227⟩ := ir_parts (hx.ext (e11.trans (g13.ext.trans (e15.trans (e18.trans g20.ext))))) (i := i) xq
   refine zya 46 (o27 + i * 5) (n := x.n) (off := o27) (sz := 5) (i := (i : Int)) xq hA27 xq xq sl82 ?_ (hw := w1 9 false 35)
   refine zza 47 (.v (.pointer (some ⟨b27, o27 + i * 5 + 3, none⟩))) ?_ (hw := w1 9 false 35)
   refine zza 48 (.v (.pointer (some ⟨b27, o27 + i * 5 + 3 + 1, none⟩))) ?_ (hw := w1 9 false 35)
   refine zyl 49 (.int .i64 (gi L i 4)) (hc27 4 yq) ty3 ?_ (hw := w1 9 false 35)
   refine zyq 50 (x := zI (IntKind.i64.wrap ((Nt.p2i W.f) + (gi L i 4)))) (zI ((Nt.p2i W.f) + (gi L i 4))) yy ?_ (hw := w1 9 false 35)
   refine zzg 42 125 [.int .i64 (gi L i 3)] ?_ (hw := w1 9 false 35)
   intro w28 u28 e28 d28
   have k31 := k_rsize (z := (gi L i 3)) d28 xq xq
   with_reducible refine zPm k31 ?_
   rintro _ u29 g30 rfl
   have haz32 := Nt.az_bd (z := (gi L i 3)) xq xq
   refine zza 51 (zB (decide (((Nt.p2i W.f) + (gi L i 4)) ≤ (Nt.az (gi L i 3))))) ?_ (hw := w1 9 false 35)
   refine zza 52 (zB (decide (((Nt.p2i W.f) + (gi L i 4)) ≤ (Nt.az (gi L i 3))))) (zzc 53 [(0, .v x.v), (7, zI (Nt.p2i W.f)), (8, zI i), (52, zB (decide (((Nt.p2i W.f) + (gi L i 4)) ≤ (Nt.az (gi L i 3)))))] [] (zzu (b := decide (((Nt.p2i W.f) + (gi L i 4)) ≤ (Nt.az (gi L i 3)))) xj (fun hb33 => ?_) (fun hb33 => ?_)))
   ·replace hb33 : (decide (((Nt.p2i W.f) + (gi L i 4)) ≤ (Nt.az (gi L i 3)))) = true := hb33
    have qhb33 := of_decide_eq_true hb33
    refine sq9 (zza 4 (zB false) (zza 5 (zI 0) (zzb (zzo (zyu (zzw (zyt (zyu (zzw (ret0 [.bool false, .int .i64 0] ⟨zzq, zzq, trivial⟩ fun u34 e35 => ?_))))))))))
    rw [Nt.csSt_no (i := i) xq (Nt.secSt_no2 xq)]
    rfl
   ·replace hb33 : (decide (((Nt.p2i W.f) + (gi L i 4)) ≤ (Nt.az (gi L i 3)))) = false := hb33
    have qhb33 := of_decide_eq_false hb33
    refine zzs (zzp ?_)
    refine zzf (zza 24 (zI i) (zyq 25 (x := zI (IntKind.i64.wrap ((i : Int) + 1))) (zI (i + 1 : Nat)) (eqI xk) (zza 8 (zI (i + 1 : Nat)) (zzx ?_))))
    refine ⟨_, ?_, _, by exact zzv _ _ _, i + 1, rfl, by omega, (fun j hj => by by_cases e : j = i; (rw [e]; exact Nt.secSt_yes xq xq); exact hs j xq), rfl, (e15.trans (e18.trans (g20.ext.trans (e28.trans g30.ext))))⟩
    omega
 ·replace hb16 : (decide ((i : Int) < (x.n : Int))) = false := hb16
  have qhb16 := of_decide_eq_false hb16
  refine zyc (zzp (sq9 (zza 4 (zB true) (zza 5 (zI 0) (zzb (zzo (ret0 [.bool true, .int .i64 0] ⟨zzq, zzq, trivial⟩ fun u36 e37 => ?_)))))))
  rw [Nt.csSt_yes (fun i hi => hs i xq)]
  rfl
end Go.Proofs.YtdmpfhhhlhoeiaaGreat
