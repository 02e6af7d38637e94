/- Networks of cascades, plain. Sections of a cascade: sorting, pairing. Printed by wip/sym/g_ka.py. Sections of a cascade: pairing. Printed by wip/sym/g_kb.py. Runs of networks, walked. Printed by wip/sym/g_ua.py. -/
import Derived.Test.YtdmpfhhhlhoeiaaCrnB
namespace Go.Proofs.Ytdmpfhhhlhoeiaa
open Go.RowKit
set_option linter.unusedVariables false
namespace Nt
def secFit (W : WL) (p : List Int) : Bool := fitB W (p.getD 0 0) && fitB W (p.getD 1 0) && fitB W (p.getD 2 0) && (fitB W (p.getD 3 0) && fitB W (-p.getD 3 0)) && (fitB W (p.getD 4 0) && fitB W (-p.getD 4 0))
def csE (W : WL) (L : List (List Int)) : Int :=
 if ¬ WdOK W then 2 else if L.length < 1 ∨ 8 < L.length then 1 else if ∀ i, i < L.length → secFit W (L.getD i []) = true then 0 else 17
variable {D W : WL} {L : List (List Int)} {i j n k : Nat}
theorem csE_2 (h : ¬ WdOK W) : csE W L = 2 := by unfold csE; rw [if_pos h]
theorem csE_1 (hW : WdOK W) (h : L.length < 1 ∨ 8 < L.length) : csE W L = 1 := by unfold csE; rw [if_neg (not_not_intro hW), if_pos h]
theorem csE_17 (hW : WdOK W) (h1 : 1 ≤ L.length) (h8 : L.length ≤ 8) (hi : i < L.length) (h : secFit W (L.getD i []) = false) : csE W L = 17 := by
 unfold csE
 rw [if_neg (not_not_intro hW), if_neg xq, if_neg (fun k => by rw [k i hi] at h; cases h)]
theorem csE_0 (hW : WdOK W) (h1 : 1 ≤ L.length) (h8 : L.length ≤ 8) (h : ∀ i, i < L.length → secFit W (L.getD i []) = true) : csE W L = 0 := by
 unfold csE
 rw [if_neg (not_not_intro hW), if_neg xq, if_pos h]
theorem csE_ok (h : csE W L = 0) : WdOK W ∧ 1 ≤ L.length ∧ L.length ≤ 8 ∧ ∀ i, i < L.length → secFit W (L.getD i []) = true := by
 unfold csE at h
 by_cases hW : WdOK W
 ·rw [if_neg (not_not_intro hW)] at h
  by_cases hl : L.length < 1 ∨ 8 < L.length
  ·rw [if_pos hl] at h; cases h
  ·rw [if_neg hl] at h
   by_cases ha : ∀ i, i < L.length → secFit W (L.getD i []) = true
   ·exact ⟨hW, by omega, by omega, ha⟩
   ·rw [if_neg ha] at h; cases h
 ·rw [if_pos hW] at h; cases h
theorem secFit_ok (h : secFit W (L.getD i []) = true) : ∀ j, j < 5 → -p2i (W.b - 1) ≤ gi L i j ∧ gi L i j ≤ p2i (W.b - 1) - 1 := by
 unfold secFit at h
 simp only [Bool.and_eq_true] at h
 obtain ⟨⟨⟨⟨h0, h1⟩, h2⟩, h3, _⟩, h4, _⟩ := h
 intro j hj
 obtain rfl | rfl | rfl | rfl | rfl : j = 0 ∨ j = 1 ∨ j = 2 ∨ j = 3 ∨ j = 4 := by omega
 ·exact fit_iff.1 h0
 ·exact fit_iff.1 h1
 ·exact fit_iff.1 h2
 ·exact fit_iff.1 h3
 ·exact fit_iff.1 h4
theorem secFit_neg (h : secFit W (L.getD i []) = true) : fitB W (-gi L i 3) = true ∧ fitB W (-gi L i 4) = true := by
 unfold secFit at h
 simp only [Bool.and_eq_true] at h
 exact ⟨h.1.2.2, h.2.2⟩
def csF0 (n i : Nat) : Int := if i = 0 then 0 else ((2 + 2 * n + i : Nat) : Int)
def csNode (n i : Nat) (p : List Int) : List TL := [⟨csF0 n i, p.getD 0 0⟩, ⟨((1 + 2 * i : Nat) : Int), p.getD 1 0⟩, ⟨((2 + 2 * i : Nat) : Int), p.getD 2 0⟩, ⟨((3 + 2 * i : Nat) : Int), -p.getD 3 0⟩, ⟨((3 + 2 * i + 1 : Nat) : Int), -p.getD 4 0⟩]
def csNodes (n : Nat) (L : List (List Int)) (k : Nat) : List (List TL) := (List.range k).map fun i => csNode n i (L.getD i [])
def csNext (n k : Nat) : List Int := [0, 1] ++ (List.range k).flatMap fun i => [((3 + 2 * n + i : Nat) : Int), ((3 + 2 * i : Nat) : Int)]
theorem csNodes_len : (csNodes n L k).length = k := by simp [csNodes]
theorem csNodes_succ : csNodes n L (k + 1) = csNodes n L k ++ [csNode n k (L.getD k [])] := by
 unfold csNodes
 rw [List.range_succ, List.map_append]; rfl
theorem csNodes_get (h : i < k) : (csNodes n L k).getD i [] = csNode n i (L.getD i []) := by
 unfold csNodes
 rw [List.getD_eq_getElem?_getD, List.getElem?_map, List.getElem?_range h]; rfl
theorem csNext_succ : csNext n (k + 1) = csNext n k ++ [((3 + 2 * n + k : Nat) : Int), ((3 + 2 * k : Nat) : Int)] := by
 unfold csNext
 rw [List.range_succ, List.flatMap_append, ← List.append_assoc]; simp
theorem csNext_len : (csNext n k).length = 2 + 2 * k := by
 induction k with
 | zero => rfl
 | succ k ih => rw [csNext_succ, List.length_append, ih]; simp; omega
theorem csNext_0 : (csNext n k).getD 0 0 = 0 := rfl
theorem csNext_1 : (csNext n k).getD 1 0 = 1 := rfl
theorem csNext_even (h : i < k) : (csNext n k).getD (2 + 2 * i) 0 = ((3 + 2 * n + i : Nat) : Int) ∧ (csNext n k).getD (2 + 2 * i + 1) 0 = ((3 + 2 * i : Nat) : Int) := by
 induction k with
 | zero => omega
 | succ k ih =>
  rw [csNext_succ]
  by_cases e : i < k
  ·rw [getD_app_lt (by rw [csNext_len]; omega), getD_app_lt (by rw [csNext_len]; omega)]; exact ih e
  ·obtain rfl : i = k := by omega
   constructor
   ·rw [List.getD_eq_getElem?_getD, List.getElem?_append_right (by rw [csNext_len]; omega), csNext_len, show 2 + 2 * i - (2 + 2 * i) = 0 by omega]; rfl
   ·rw [List.getD_eq_getElem?_getD, List.getElem?_append_right (by rw [csNext_len]; omega), csNext_len, show 2 + 2 * i + 1 - (2 + 2 * i) = 1 by omega]; rfl
theorem getD5 {α : Type} {a b c d e z : α} {j : Nat} (h : j < 5) : ([a, b, c, d, e].getD j z = a ∧ j = 0) ∨ ([a, b, c, d, e].getD j z = b ∧ j = 1) ∨ ([a, b, c, d, e].getD j z = c ∧ j = 2) ∨ ([a, b, c, d, e].getD j z = d ∧ j = 3) ∨ ([a, b, c, d, e].getD j z = e ∧ j = 4) := by
 obtain rfl | rfl | rfl | rfl | rfl : j = 0 ∨ j = 1 ∨ j = 2 ∨ j = 3 ∨ j = 4 := by omega
 ·exact .inl ⟨rfl, rfl⟩
 ·exact .inr (.inl ⟨rfl, rfl⟩)
 ·exact .inr (.inr (.inl ⟨rfl, rfl⟩))
 ·exact .inr (.inr (.inr (.inl ⟨rfl, rfl⟩)))
 ·exact .inr (.inr (.inr (.inr ⟨rfl, rfl⟩)))
theorem csNetOK (hD : WdOK D) (hE : csE W L = 0) : NetOK D W (2 + 2 * L.length) (csNodes L.length L L.length) (csNext L.length L.length) ((2 + 2 * L.length + L.length : Nat) : Int) := by
 obtain ⟨hW, h1, h8, ha⟩ := csE_ok hE
 refine ⟨hD, hW, by omega, by rw [csNodes_len]; omega, csNext_len, fun k hk => ?_, fun j hj => ?_, by rw [csNodes_len]; omega⟩
 ·rw [csNodes_len] at hk
  rw [csNodes_get hk]
  refine ⟨by show 5 ≤ 64; decide, fun j hj => ?_⟩
  have hf := ha k hk
  have hn := secFit_neg hf
  unfold secFit at hf
  simp only [Bool.and_eq_true] at hf
  obtain ⟨⟨⟨⟨g0, g1⟩, g2⟩, g3, _⟩, g4, _⟩ := hf
  have hj5 : j < 5 := hj
  unfold csNode
  rcases getD5 (a := (⟨csF0 L.length k, (L.getD k []).getD 0 0⟩ : TL)) (b := ⟨((1 + 2 * k : Nat) : Int), (L.getD k []).getD 1 0⟩) (c := ⟨((2 + 2 * k : Nat) : Int), (L.getD k []).getD 2 0⟩) (d := ⟨((3 + 2 * k : Nat) : Int), -(L.getD k []).getD 3 0⟩) (e := ⟨((3 + 2 * k + 1 : Nat) : Int), -(L.getD k []).getD 4 0⟩) (z := tl0) hj5 with ⟨e, _⟩ | ⟨e, _⟩ | ⟨e, _⟩ | ⟨e, _⟩ | ⟨e, _⟩ <;> rw [e]
  ·exact ⟨by show 0 ≤ csF0 L.length k; unfold csF0; split <;> omega, by show csF0 L.length k ≤ _; unfold csF0; split <;> omega, .inr g0⟩
  ·exact ⟨by show (0 : Int) ≤ ((1 + 2 * k : Nat) : Int); omega, by show ((1 + 2 * k : Nat) : Int) ≤ _; omega, .inr g1⟩
  ·exact ⟨by show (0 : Int) ≤ ((2 + 2 * k : Nat) : Int); omega, by show ((2 + 2 * k : Nat) : Int) ≤ _; omega, .inr g2⟩
  ·exact ⟨by show (0 : Int) ≤ ((3 + 2 * k : Nat) : Int); omega, by show ((3 + 2 * k : Nat) : Int) ≤ _; omega, .inr hn.1⟩
  ·exact ⟨by show (0 : Int) ≤ ((3 + 2 * k + 1 : Nat) : Int); omega, by show ((3 + 2 * k + 1 : Nat) : Int) ≤ _; omega, .inr hn.2⟩
 ·rw [csNext_len] at hj
  rw [csNodes_len]
  match j, hj with
  | 0, _ => rw [csNext_0]; omega
  | 1, _ => rw [csNext_1]; omega
  | j + 2, hj =>
   obtain ⟨q, hq⟩ : ∃ q, j = 2 * q ∨ j = 2 * q + 1 := ⟨j / 2, by omega⟩
   have he := csNext_even (n := L.length) (i := q) (k := L.length) xq
   rcases hq with rfl | rfl
   ·rw [show 2 * q + 2 = 2 + 2 * q by omega, he.1]; omega
   ·rw [show 2 * q + 1 + 2 = 2 + 2 * q + 1 by omega, he.2]; omega
end Nt
theorem k_csize {u w : World} {z : Int} (d : Dat u w) (h0 : -1000000000 ≤ z) (h1 : z ≤ 1000000000) : Calls Try.prog 32 #[.int .i64 z] w (Post u w fun v _ => v = .int .i64 (Nt.az z)) := by
 refine zzm (args := [.int .i64 z]) Try.func32 rfl Try.ntmps32 (rs := [.tmp 2]) Try.results32 (le_b rfl) (le_b rfl) d ?_
 refine sq9 (zza 2 (zI 0) (zzb (sq9 (zza 3 (zI z) (zza 4 (zI z) (zyq 5 (x := zI (IntKind.i64.wrap (0 - z))) (zI (-z)) (eqI xk) (sy_maxN 6 (n := z) (m := -z) (v := Nt.az z) (by unfold Nt.az; split <;> omega) ?_)))))))
 refine zza 2 (zI (Nt.az z)) (zzb (zzo (ret0 [.int .i64 (Nt.az z)] ⟨zzq, trivial⟩ fun u11 e12 => ?_)))
 rfl
theorem k_cdist {u w : World} {b0 b1 b2 a0 a1 : Int} (d : Dat u w) (hb1 : -16777216 ≤ b1 ∧ b1 ≤ 16777216) (hb2 : -16777216 ≤ b2 ∧ b2 ≤ 16777216) (ha0 : -16777216 ≤ a0 ∧ a0 ≤ 16777216) (ha1 : -16777216 ≤ a1 ∧ a1 ≤ 16777216) : Calls Try.prog 39 #[.agg #[.int .i64 b0, .int .i64 b1, .int .i64 b2], .agg #[.int .i64 a0, .int .i64 a1]] w (Post u w fun v _ => v = .int .i64 (Nt.distZ b1 b2 a0 a1)) := by
 refine zzm (args := [.agg #[.int .i64 b0, .int .i64 b1, .int .i64 b2], .agg #[.int .i64 a0, .int .i64 a1]]) Try.func39 rfl Try.ntmps39 (rs := [.tmp 4]) Try.results39 (le_b rfl) (le_b rfl) d ?_
 refine sq9 (zzk 2 ⟨54, [.int .i64 b0, .int .i64 b1, .int .i64 b2]⟩ (zzk 3 ⟨56, [.int .i64 a0, .int .i64 a1]⟩ (zza 4 (zI 0) (zzb (zzd (zzz [0, 1, 0, 4, 15, 31, 0, 64, 0, 256, 960, 2047, 4095, 8191] [(0, []), (1, []), (2, []), (3, []), (4, []), (6, []), (7, []), (8, []), (9, []), (10, []), (5, []), (11, []), (12, []), (13, [])] xv xv (zza 5 (.adr 2 1) (zzi 6 (zI b1) ty3 zzl (zza 7 (.adr 3 0) (zzi 8 (zI a0) ty3 zzl (zyq 9 (x := zI (IntKind.i64.wrap (b1 - a0))) (zI (b1 - a0)) xz ?_)))))))))))
 refine zza 11 (.adr 2 2) (zzi 12 (zI b2) ty3 zzl (zza 13 (.adr 3 1) (zzi 14 (zI a1) ty3 zzl (zyq 15 (x := zI (IntKind.i64.wrap (b2 - a1))) (zI (b2 - a1)) xz (zzg 10 32 [.int .i64 (b1 - a0)] ?_)))))
 intro w11 u11 e11 d11
 have k14 := k_csize (z := b1 - a0) d11 xq xq
 with_reducible refine zPm k14 ?_
 rintro _ u12 g13 rfl
 have haz15 := Nt.az_bd (z := b1 - a0) xq xq
 refine zzg 16 32 [.int .i64 (b2 - a1)] ?_
 intro w16 u16 e16 d16
 have k19 := k_csize (z := b2 - a1) d16 xq xq
 with_reducible refine zPm k19 ?_
 rintro _ u17 g18 rfl
 have haz20 := Nt.az_bd (z := b2 - a1) xq xq
 refine zyq 17 (x := zI (IntKind.i64.wrap ((Nt.az (b1 - a0)) + (Nt.az (b2 - a1))))) (zI ((Nt.az (b1 - a0)) + (Nt.az (b2 - a1)))) xz (zza 4 (zI ((Nt.az (b1 - a0)) + (Nt.az (b2 - a1)))) (zzb (zzo (ret0 [.int .i64 ((Nt.az (b1 - a0)) + (Nt.az (b2 - a1)))] ⟨zzq, trivial⟩ fun u21 e22 => ?_))))
 rfl
theorem k_ccmp {u w : World} {a0 a1 b0 b1 : Int} (d : Dat u w) (ha0 : -16777216 ≤ a0 ∧ a0 ≤ 16777216) (ha1 : -16777216 ≤ a1 ∧ a1 ≤ 16777216) (hb0 : -16777216 ≤ b0 ∧ b0 ≤ 16777216) (hb1 : -16777216 ≤ b1 ∧ b1 ≤ 16777216) : Calls Try.prog 37 #[.agg #[.int .i64 a0, .int .i64 a1], .agg #[.int .i64 b0, .int .i64 b1]] w (Post u w fun v _ => v = .int .i64 (Nt.cmpZ a0 a1 b0 b1)) := by
 refine zzm (args := [.agg #[.int .i64 a0, .int .i64 a1], .agg #[.int .i64 b0, .int .i64 b1]]) Try.func37 rfl Try.ntmps37 (rs := [.tmp 4]) Try.results37 (le_b rfl) (le_b rfl) d ?_
 refine sq9 (zzk 2 ⟨56, [.int .i64 a0, .int .i64 a1]⟩ (zzk 3 ⟨56, [.int .i64 b0, .int .i64 b1]⟩ (zza 4 (zI 0) (zzb (zzd (zzd (zzz [0, 1, 3, 0, 8, 31, 63] [(0, []), (1, []), (3, []), (4, []), (2, []), (5, []), (6, [])] xv xv (zza 5 (.adr 2 1) (zzi 6 (zI a1) ty3 zzl (zza 8 (.adr 3 1) (zzi 9 (zI b1) ty3 zzl ?_)))))))))))
 refine zzg 7 32 [.int .i64 a1] ?_
 intro w11 u11 e11 d11
 have k14 := k_csize (z := a1) d11 xq xq
 with_reducible refine zPm k14 ?_
 rintro _ u12 g13 rfl
 have haz15 := Nt.az_bd (z := a1) xq xq
 refine zzg 10 32 [.int .i64 b1] ?_
 intro w16 u16 e16 d16
 have k19 := k_csize (z := b1) d16 xq xq
 with_reducible refine zPm k19 ?_
 rintro _ u17 g18 rfl
 have haz20 := Nt.az_bd (z := b1) xq xq
 refine zza 11 (zB ((Nt.az a1) != (Nt.az b1))) (zzb (zzu (b := (Nt.az a1) != (Nt.az b1)) xv (fun hb21 => ?_) (fun hb21 => ?_)))
 ·replace hb21 : ((Nt.az a1) != (Nt.az b1)) = true := hb21
  have qhb21 := hb21
  simp at qhb21
  refine zzd (zzz [0, 1, 3, 0, 8, 31, 63, 127] [(0, []), (1, []), (3, []), (4, []), (2, []), (5, []), (6, []), (7, [])] xv xv (zza 12 (.adr 3 1) (zzi 13 (zI b1) ty3 zzl (zza 15 (.adr 2 1) (zzi 16 (zI a1) ty3 zzl (zzg 14 32 [.int .i64 b1] ?_))))))
  intro w22 u22 e22 d22
  have k25 := k_csize (z := b1) d22 xq xq
  with_reducible refine zPm k25 ?_
  rintro _ u23 g24 rfl
  have haz26 := Nt.az_bd (z := b1) xq xq
  refine zzg 17 32 [.int .i64 a1] ?_
  intro w27 u27 e27 d27
  have k30 := k_csize (z := a1) d27 xq xq
  with_reducible refine zPm k30 ?_
  rintro _ u28 g29 rfl
  have haz31 := Nt.az_bd (z := a1) xq xq
  refine zyq 18 (x := zI (IntKind.i64.wrap ((Nt.az b1) - (Nt.az a1)))) (zI ((Nt.az b1) - (Nt.az a1))) xz (zza 4 (zI ((Nt.az b1) - (Nt.az a1))) (zzb (zzo (zzw (ret0 [.int .i64 ((Nt.az b1) - (Nt.az a1))] ⟨zzq, trivial⟩ fun u32 e33 => ?_)))))
  show Value.int _ _ = Value.int _ _
  unfold Nt.cmpZ
  rw [if_neg qhb21]
 ·replace hb21 : ((Nt.az a1) != (Nt.az b1)) = false := hb21
  have qhb21 := hb21
  simp at qhb21
  refine zzs (zzp ?_)
  refine zzd (zzz [0, 1, 3, 0, 8, 31, 63, 127] [(0, []), (1, []), (3, []), (4, []), (2, []), (5, []), (6, []), (7, [])] xv xv (zza 19 (.adr 3 0) (zzi 20 (zI b0) ty3 zzl (zza 22 (.adr 2 0) (zzi 23 (zI a0) ty3 zzl (zzg 21 32 [.int .i64 b0] ?_))))))
  intro w34 u34 e34 d34
  have k37 := k_csize (z := b0) d34 xq xq
  with_reducible refine zPm k37 ?_
  rintro _ u35 g36 rfl
  have haz38 := Nt.az_bd (z := b0) xq xq
  refine zzg 24 32 [.int .i64 a0] ?_
  intro w39 u39 e39 d39
  have k42 := k_csize (z := a0) d39 xq xq
  with_reducible refine zPm k42 ?_
  rintro _ u40 g41 rfl
  have haz43 := Nt.az_bd (z := a0) xq xq
  refine zyq 25 (x := zI (IntKind.i64.wrap ((Nt.az b0) - (Nt.az a0)))) (zI ((Nt.az b0) - (Nt.az a0))) xz (zza 4 (zI ((Nt.az b0) - (Nt.az a0))) (zzb (zzo (ret0 [.int .i64 ((Nt.az b0) - (Nt.az a0))] ⟨zzq, trivial⟩ fun u44 e45 => ?_))))
  show Value.int _ _ = Value.int _ _
  unfold Nt.cmpZ
  rw [if_pos qhb21]
set_option maxHeartbeats 2000000 in
theorem k_cins {u w : World} {g n c : Nat} {L : List (List Int)} {X : List Value} (d : Dat u w) (hg : w.heap[g]? = some (.cells (kcs L ++ X).toArray 56 (0, 0))) (hu : u.heap[g]? = some hidO) (hL : OkR 2 L) (hLn : L.length = n) (hn9 : n ≤ 1000) : Calls Try.prog 87 #[.slice (some ⟨g, 0, none⟩) n c, .int .i64 0, .int .i64 (n : Int), .func (.func 37) #[] #[]] w (PostL u w g fun V u' => V = ⟨56, kcs (Nt.sortR L) ++ X⟩) := by
 refine calls_lent (args := [.int .i64 0, .int .i64 (n : Int), .func (.func 37) #[] #[]]) Try.func87 rfl Try.ntmps87 Try.results87 (le_b rfl) d hg hu ?_
 refine sq9 (zza 10 (zI 0) (zza 11 (zI 1) (zza 8 (zI 1) (zzb (zzt (zyn (I := fun m11 S' u' => ∃ (i : Nat) (L' : List (List Int)), (m11 = n - i) ∧ (1 ≤ i) ∧ (OkR 2 L') ∧ (L'.length = n) ∧ (Nt.outR L' i (n - i) = Nt.sortR L) ∧ (S' = St.of 53 [(0, .slc 53 0 n c), (1, zI 0), (2, zI n), (3, .v (.func (.func 37) #[] #[])), (8, zI i)] [(53, ⟨56, kcs L' ++ X⟩)]) ∧ (Ext u u')) (fun m S u1 u2 e h => by obtain ⟨i, L', hm, p0, p1, p2, p3, hS, hE⟩ := h; exact ⟨i, L', hm, p0, p1, p2, p3, hS, hE.trans e⟩) _ yj ⟨1, L, rfl, Nat.le_refl _, hL, hLn, (by rw [← hLn]; rfl), rfl, (Ext.refl _)⟩ ?_))))))
 rintro m11 _ u11 ⟨i, L', hm11, hi, hL', hLn', hOut, rfl, e11⟩
 refine zzd (sq9 (zza 12 (zI i) (zza 13 (zI n) (zza 14 (zB (decide ((i : Int) < (n : Int)))) (zzb (zzu (b := decide ((i : Int) < (n : Int))) xv (fun hb12 => ?_) (fun hb12 => ?_)))))))
 ·replace hb12 : (decide ((i : Int) < (n : Int))) = true := hb12
  have qhb12 := of_decide_eq_true hb12
  refine zzs (zzp ?_)
  refine zzd (zzt (sq9 (zza 17 (zI i) (zza 9 (zI i) (zzb (zzt (zyn (I := fun m13 S' u' => ∃ (j : Nat) (M : List (List Int)), (m13 = j) ∧ (j < n) ∧ (OkR 2 M) ∧ (M.length = n) ∧ (Nt.insR M j = Nt.insR L' i) ∧ (S' = St.of 53 [(0, .slc 53 0 n c), (1, zI 0), (2, zI n), (3, .v (.func (.func 37) #[] #[])), (8, zI i), (9, zI j)] [(53, ⟨56, kcs M ++ X⟩)]) ∧ (Ext u11 u')) (fun m S u1 u2 e h => by obtain ⟨j, M, hm, p0, p1, p2, p3, hS, hE⟩ := h; exact ⟨j, M, hm, p0, p1, p2, p3, hS, hE.trans e⟩) _ yj ⟨i, L', rfl, by omega, hL', hLn', rfl, rfl, (Ext.refl _)⟩ ?_)))))))
  rintro m13 _ u13 ⟨j, M, hm13, hj, hM, hMn, hIns, rfl, e13⟩
  refine zzd (zzd (zzz [0, 0, 3, 7, 15, 15, 15, 111, 239, 15, 15, 1039, 3599, 7695, 16383, 32767, 65535] [(0, []), (1, []), (2, []), (3, []), (4, []), (5, []), (6, []), (7, []), (8, []), (9, []), (10, []), (11, []), (12, []), (13, []), (14, []), (15, []), (16, [])] xv xv (zza 18 (zI j) (zza 19 (zI 0) (zza 20 (zB (decide ((0 : Int) < (j : Int)))) ?_)))))
  rcases Bool.eq_false_or_eq_true (decide ((0 : Int) < (j : Int))) with hs14 | hs14
  ·refine zyq 21 (x := zB (decide ((0 : Int) < (j : Int)))) (zB true) (by rw [hs14]) ?_
   have qhs14 := of_decide_eq_true hs14
   refine zza 22 (.v (.func (.func 37) #[] #[])) ?_ (hw := w1 3 true 21)
   refine zza 23 (.slc 53 0 n c) ?_ (hw := w1 3 true 21)
   refine zza 24 (zI j) ?_ (hw := w1 3 true 21)
   refine zyw 25 (off' := j * 2) (n := n) (off := 0) (sz := 2) (i := (j : Int)) sl57 xq xq xq ?_ (hw := w1 3 true 21)
   refine zzi 26 (V := ⟨56, kcs M ++ X⟩) (off := j * 2) (.v (.agg #[.int .i64 (gi M j 0), .int .i64 (gi M j 1)])) ty56 (part_k2 (OkR.rows hM) (i := j) (by rw [hMn]; omega) rfl) ?_ (hw := w1 3 true 21)
   have hz150 := OkR.bd hM (i := j) (j := 0) (by rw [hMn]; omega) xw
   have hz151 := OkR.bd hM (i := j) (j := 1) (by rw [hMn]; omega) xw
   refine zza 27 (.slc 53 0 n c) ?_ (hw := w1 3 true 21)
   refine zza 28 (zI j) ?_ (hw := w1 3 true 21)
   refine zyq 29 (x := zI (IntKind.i64.wrap ((j : Int) - 1))) (zI (j - 1 : Nat)) (eqI xk) ?_ (hw := w1 3 true 21)
   refine zyw 30 (off' := (j - 1) * 2) (n := n) (off := 0) (sz := 2) (i := ((j - 1 : Nat) : Int)) sl57 xq xq xq ?_ (hw := w1 3 true 21)
   refine zzi 31 (V := ⟨56, kcs M ++ X⟩) (off := (j - 1) * 2) (.v (.agg #[.int .i64 (gi M (j - 1) 0), .int .i64 (gi M (j - 1) 1)])) ty56 (part_k2 (OkR.rows hM) (i := j - 1) (by rw [hMn]; omega) rfl) ?_ (hw := w1 3 true 21)
   have hz160 := OkR.bd hM (i := j - 1) (j := 0) (by rw [hMn]; omega) xw
   have hz161 := OkR.bd hM (i := j - 1) (j := 1) (by rw [hMn]; omega) xw
   refine zzg 32 37 [.agg #[.int .i64 (gi M j 0), .int .i64 (gi M j 1)], .agg #[.int .i64 (gi M (j - 1) 0), .int .i64 (gi M (j - 1) 1)]] ?_ (hw := w1 3 true 21)
   intro w17 u17 e17 d17
   have k20 := k_ccmp (a0 := gi M j 0) (a1 := gi M j 1) (b0 := gi M (j - 1) 0) (b1 := gi M (j - 1) 1) d17 xq xq xq xq
   with_reducible refine zPm k20 ?_
   rintro _ u18 g19 rfl
   refine zza 33 (zB (decide ((Nt.cmpZ (gi M j 0) (gi M j 1) (gi M (j - 1) 0) (gi M (j - 1) 1)) < 0))) ?_ (hw := w1 3 true 21)
   refine zza 34 (zB (decide ((Nt.cmpZ (gi M j 0) (gi M j 1) (gi M (j - 1) 0) (gi M (j - 1) 1)) < 0))) (zzc 53 [(0, .slc 53 0 n c), (1, zI 0), (2, zI n), (3, .v (.func (.func 37) #[] #[])), (8, zI i), (9, zI j), (34, zB (decide ((Nt.cmpZ (gi M j 0) (gi M j 1) (gi M (j - 1) 0) (gi M (j - 1) 1)) < 0)))] [(53, ⟨56, kcs M ++ X⟩)] (zzu (b := decide ((Nt.cmpZ (gi M j 0) (gi M j 1) (gi M (j - 1) 0) (gi M (j - 1) 1)) < 0)) xv (fun hb21 => ?_) (fun hb21 => ?_)))
   ·replace hb21 : (decide ((Nt.cmpZ (gi M j 0) (gi M j 1) (gi M (j - 1) 0) (gi M (j - 1) 1)) < 0)) = true := hb21
    have qhb21 := of_decide_eq_true hb21
    refine zzs (zzp ?_)
    refine zzd (zzt (zzz [0, 0, 0, 0, 8, 0, 0, 64, 224, 480, 0, 0, 3072, 7168, 16355, 32739, 65535, 131071] [(0, []), (1, []), (2, []), (3, []), (4, []), (5, []), (6, []), (7, []), (8, []), (9, []), (10, []), (11, []), (12, []), (13, []), (14, []), (15, []), (16, []), (17, [])] xv xv (zza 37 (.slc 53 0 n c) (zza 38 (zI j) (zza 39 (.slc 53 0 n c) (zza 40 (zI j) (zyq 41 (x := zI (IntKind.i64.wrap ((j : Int) - 1))) (zI (j - 1 : Nat)) (eqI xk) (zza 42 (.slc 53 0 n c) (zza 43 (zI j) (zyq 44 (x := zI (IntKind.i64.wrap ((j : Int) - 1))) (zI (j - 1 : Nat)) (eqI xk) (zyw 45 (off' := (j - 1) * 2) (n := n) (off := 0) (sz := 2) (i := ((j - 1 : Nat) : Int)) sl57 xq xq xq ?_)))))))))))
    refine zzi 46 (V := ⟨56, kcs M ++ X⟩) (off := (j - 1) * 2) (.v (.agg #[.int .i64 (gi M (j - 1) 0), .int .i64 (gi M (j - 1) 1)])) ty56 (part_k2 (OkR.rows hM) (i := j - 1) (by rw [hMn]; omega) rfl) ?_
    have hz220 := OkR.bd hM (i := j - 1) (j := 0) (by rw [hMn]; omega) xw
    have hz221 := OkR.bd hM (i := j - 1) (j := 1) (by rw [hMn]; omega) xw
    refine zza 47 (.slc 53 0 n c) (zza 48 (zI j) (zyw 49 (off' := j * 2) (n := n) (off := 0) (sz := 2) (i := (j : Int)) sl57 xq xq xq ?_))
    refine zzi 50 (V := ⟨56, kcs M ++ X⟩) (off := j * 2) (.v (.agg #[.int .i64 (gi M j 0), .int .i64 (gi M j 1)])) ty56 (part_k2 (OkR.rows hM) (i := j) (by rw [hMn]; omega) rfl) ?_
    have hz230 := OkR.bd hM (i := j) (j := 0) (by rw [hMn]; omega) xw
    have hz231 := OkR.bd hM (i := j) (j := 1) (by rw [hMn]; omega) xw
    refine zyw 51 (off' := j * 2) (n := n) (off := 0) (sz := 2) (i := (j : Int)) sl57 xq xq xq ?_
    have hS24 : OkR 2 (M.set j [gi M (j - 1) 0, gi M (j - 1) 1]) := (OkR.set2 hM xq xq)
    have hT24 : (M.set j [gi M (j - 1) 0, gi M (j - 1) 1]).length = n := (by rw [List.length_set]; exact hMn)
    refine zyv (V := ⟨56, kcs M ++ X⟩) (off := j * 2) (kcs (M.set j [gi M (j - 1) 0, gi M (j - 1) 1]) ++ X) ty56 (by rw [List.length_append, kcs_len (OkR.rows hM), hMn]; omega) (setL_k2 (OkR.rows hM) (i := j) (by rw [hMn]; omega) rfl) ?_
    refine zyw 52 (off' := (j - 1) * 2) (n := n) (off := 0) (sz := 2) (i := ((j - 1 : Nat) : Int)) sl57 xq xq xq ?_
    have hS25 : OkR 2 ((M.set j [gi M (j - 1) 0, gi M (j - 1) 1]).set (j - 1) [gi M j 0, gi M j 1]) := (OkR.set2 hS24 xq xq)
    have hT25 : ((M.set j [gi M (j - 1) 0, gi M (j - 1) 1]).set (j - 1) [gi M j 0, gi M j 1]).length = n := (by rw [List.length_set]; exact hT24)
    refine zyv (V := ⟨56, kcs (M.set j [gi M (j - 1) 0, gi M (j - 1) 1]) ++ X⟩) (off := (j - 1) * 2) (kcs ((M.set j [gi M (j - 1) 0, gi M (j - 1) 1]).set (j - 1) [gi M j 0, gi M j 1]) ++ X) ty56 (by rw [List.length_append, kcs_len (OkR.rows hS24), hT24]; omega) (setL_k2 (OkR.rows hS24) (i := j - 1) (by rw [hT24]; omega) rfl) ?_
    refine zzx ?_
    refine zzp (zzf (zza 35 (zI j) (zyq 36 (x := zI (IntKind.i64.wrap ((j : Int) - 1))) (zI (j - 1 : Nat)) (eqI xk) (zza 9 (zI (j - 1 : Nat)) (zzx ?_)))))
    refine ⟨_, ?_, _, by exact zzv _ _ _, j - 1, ((M.set j [gi M (j - 1) 0, gi M (j - 1) 1]).set (j - 1) [gi M j 0, gi M j 1]), rfl, by omega, hS25, hT25, (by rw [← hIns, Nt.insR_go xq qhb21]; rfl), rfl, (e13.trans (e17.trans g19.ext))⟩
    omega
   ·replace hb21 : (decide ((Nt.cmpZ (gi M j 0) (gi M j 1) (gi M (j - 1) 0) (gi M (j - 1) 1)) < 0)) = false := hb21
    have qhb21 := of_decide_eq_false hb21
    refine zyc (zzp (zzf (zza 15 (zI i) (zyq 16 (x := zI (IntKind.i64.wrap ((i : Int) + 1))) (zI (i + 1 : Nat)) (eqI xk) (zza 8 (zI (i + 1 : Nat)) (zzx ?_))))))
    refine ⟨_, ?_, _, by exact zzv _ _ _, i + 1, M, rfl, by omega, hM, hMn, (by have h9 := hOut; rw [Nt.outR_step xq, ← hIns, Nt.insR_stop (fun _ => qhb21)] at h9; exact h9), rfl, (e11.trans (e13.trans (e17.trans g19.ext)))⟩
    omega
  ·refine zyq 21 (x := zB (decide ((0 : Int) < (j : Int)))) (zB false) (by rw [hs14]) ?_
   have qhs14 := of_decide_eq_false hs14
   refine zzn 22 (uw 3 true false 21) (zzn 23 (uw 3 true false 21) (zzn 24 (uw 3 true false 21) (zzn 25 (uw 3 true false 21) (zzn 26 (uw 3 true false 21) (zzn 27 (uw 3 true false 21) (zzn 28 (uw 3 true false 21) (zzn 29 (uw 3 true false 21) (zzn 30 (uw 3 true false 21) (zzn 31 (uw 3 true false 21) (zzn 32 (uw 3 true false 21) (zzn 33 (uw 3 true false 21) ?_)))))))))))
   refine zza 34 (zB false) (zzb (zys xv (zyc (zzp (zzf (zza 15 (zI i) (zyq 16 (x := zI (IntKind.i64.wrap ((i : Int) + 1))) (zI (i + 1 : Nat)) (eqI xk) (zza 8 (zI (i + 1 : Nat)) (zzx ?_)))))))))
   refine ⟨_, ?_, _, by exact zzv _ _ _, i + 1, M, rfl, by omega, hM, hMn, (by have h9 := hOut; rw [Nt.outR_step xq, ← hIns, Nt.insR_stop (fun h9 => absurd h9 xq)] at h9; exact h9), rfl, (e11.trans e13)⟩
   omega
 ·replace hb12 : (decide ((i : Int) < (n : Int))) = false := hb12
  have qhb12 := of_decide_eq_false hb12
  refine zyc ?_
  refine lent_end (V := ⟨56, kcs L' ++ X⟩) rfl rfl (fun _ _ => ?_)
  have h9 := hOut
  rw [show n - i = 0 by omega] at h9
  rw [← h9]; rfl
theorem k_cstable {u w : World} {g n c : Nat} {L : List (List Int)} {X : List Value} (d : Dat u w) (hg : w.heap[g]? = some (.cells (kcs L ++ X).toArray 56 (0, 0))) (hu : u.heap[g]? = some hidO) (hL : OkR 2 L) (hLn : L.length = n) (hn0 : 0 < n ∧ n ≤ 12) : Calls Try.prog 63 #[.slice (some ⟨g, 0, none⟩) n c, .int .i64 (n : Int), .func (.func 37) #[] #[]] w (PostL u w g fun V u' => V = ⟨56, kcs (Nt.sortR L) ++ X⟩) := by
 refine calls_lent (args := [.int .i64 (n : Int), .func (.func 37) #[] #[]]) Try.func63 rfl Try.ntmps63 Try.results63 (le_b rfl) d hg hu ?_
 refine sq9 (zza 6 (zI 20) (zzb (sq9 (zza 10 (zI 20) (zza 7 (zI 0) (zza 8 (zI 20) (zzb (zzd (zzt (sw_rounds 0 ?_))))))))))
 refine zzd (sq9 (zza 11 (zI 20) (zza 12 (zI n) (zza 13 (zB (decide ((20 : Int) ≤ (n : Int)))) (zzb (zzu (b := decide ((20 : Int) ≤ (n : Int))) xv (fun hb => ?_) (fun hb => ?_)))))))
 ·exact absurd hb (by rw [show (decide ((20 : Int) ≤ (n : Int))) = false from decide_eq_false xq]; decide)
 ·clear hb
  refine zyc (zzp (sq9 (zza 23 (.slc 63 0 n c) (zza 24 (zI 0) (zza 25 (zI n) (zza 26 (.v (.func (.func 37) #[] #[])) ?_))))))
  have kc11 := fun (g : Nat) (w u1 : World) (e : Ext u u1) (d : Dat u1 w) (hg : w.heap[g]? = some (.cells (kcs L ++ X).toArray 56 (0, 0))) (hu : u1.heap[g]? = some hidO) => k_cins (n := n) (c := c) d hg hu hL hLn xq
  refine sy_lend 27 87 (t := 63) (V := ⟨56, kcs L ++ X⟩) (len := n) (cap := c) [.int .i64 0, .int .i64 n, .func (.func 37) #[] #[]] xv kc11 ?_
  clear kc11
  rintro _ u11 e11 rfl
  refine zzc 63 [(0, .slc 63 0 n c), (1, zI n), (2, .v (.func (.func 37) #[] #[])), (6, zI 20)] [(63, ⟨56, kcs (Nt.sortR L) ++ X⟩)] (zzt (sw_rounds 0 ?_))
  refine zzd (sq9 (zza 28 (zI 20) (zza 29 (zI n) (zza 30 (zB (decide ((20 : Int) < (n : Int)))) (zzb (zzu (b := decide ((20 : Int) < (n : Int))) xv (fun hb => ?_) (fun hb => ?_)))))))
  ·exact absurd hb (by rw [show (decide ((20 : Int) < (n : Int))) = false from decide_eq_false xq]; decide)
  ·clear hb
   refine zyc ?_
   exact lent_end rfl rfl (fun _ _ => rfl)
theorem k_csort {u w : World} {g n c : Nat} {L : List (List Int)} {X : List Value} (d : Dat u w) (hg : w.heap[g]? = some (.cells (kcs L ++ X).toArray 56 (0, 0))) (hu : u.heap[g]? = some hidO) (hL : OkR 2 L) (hLn : L.length = n) (hn0 : 0 < n ∧ n ≤ 12) : Calls Try.prog 36 #[.slice (some ⟨g, 0, none⟩) n c, .func (.func 37) #[] #[]] w (PostL u w g fun V u' => V = ⟨56, kcs (Nt.sortR L) ++ X⟩) := by
 refine calls_lent (args := [.func (.func 37) #[] #[]]) Try.func36 rfl Try.ntmps36 Try.results36 (le_b rfl) d hg hu ?_
 refine zzf (zza 4 (.slc 9 0 n c) (zza 5 (.slc 9 0 n c) (zza 6 (zI n) (zza 7 (.v (.func (.func 37) #[] #[])) ?_))))
 have kc11 := fun (g : Nat) (w u1 : World) (e : Ext u u1) (d : Dat u1 w) (hg : w.heap[g]? = some (.cells (kcs L ++ X).toArray 56 (0, 0))) (hu : u1.heap[g]? = some hidO) => k_cstable (n := n) (c := c) d hg hu hL hLn xq
 refine sy_lend 8 63 (t := 9) (V := ⟨56, kcs L ++ X⟩) (len := n) (cap := c) [.int .i64 n, .func (.func 37) #[] #[]] xv kc11 ?_
 clear kc11
 rintro _ u11 e11 rfl
 refine zzx ?_
 exact lent_end rfl rfl (fun _ _ => rfl)
set_option maxHeartbeats 1000000 in
theorem k_clone2 {u w : World} {x : Sl} {L : List (List Int)} (d : Dat u w) (hx : IrV 2 u x L) (h0 : 0 < L.length) (h9 : L.length ≤ 1000000000) : Calls Try.prog 35 #[x.v] w (Post u w fun v u' => ∃ (b c : Nat) (X : List Value), v = .slice (some ⟨b, 0, none⟩) x.n c ∧ u.heap.size ≤ b ∧ u'.heap[b]? = some (.cells (kcs L ++ X).toArray 56 (0, 0)) ∧ (kcs L ++ X).length = c * 2 ∧ x.n ≤ c ∧ c ≤ maxLen) := by
 have hn := hx.len
 obtain ⟨xa, n0, c0⟩ := x
 obtain ⟨hR, h1, h2, h3, h4⟩ := hx
 change n0 = L.length at hn
 obtain ⟨b0, o0, e, hb0, hc⟩ := h4 (by show 0 < n0; omega)
 change xa = _ at e
 subst e
 change Calls _ _ #[.slice (some ⟨b0, o0, none⟩) n0 c0] _ _
 refine zzm (args := [.slice (some ⟨b0, o0, none⟩) n0 c0]) Try.func35 rfl Try.ntmps35 (rs := [.tmp 2]) Try.results35 (le_b rfl) (le_b rfl) d ?_
 refine sq9 (zza 2 (.v (.slice none 0 0)) (zzb (zzd (sq9 (zza 3 (.v (.slice (some ⟨b0, o0, none⟩) n0 c0)) (zza 4 (zB false) (zzb (zys xv (zzs (zzp ?_))))))))))
 refine sq9 (sy_lit 5 ⟨56, []⟩ 0 ?_)
 refine zza 6 (.v (.slice (some ⟨b0, o0, none⟩) n0 c0)) (sy_app1 7 (T := 57) (E := 56) (z := .agg #[.int .i64 0, .int .i64 0]) (size := 2) (bytes := 16) (b := b0) (off := o0) (m := n0) (c := c0) (n := 0) (cap := 0) (t := 5) (cs0 := []) [5, 7] (kcs L) xv xv xv xw (by rw [kcs_len hR, hn]) (fun j v hv => by have h9 := (List.getElem?_eq_some_iff.1 hv).1; rw [kcs_len hR] at h9; rw [hc j h9]; exact hv) kcs_one xq yq xq xq xw rfl xj ?_)
 intro c1 cs k1 k2 k3 k4
 refine zza 2 (.slc 7 0 (0 + n0) c1) (zzc 8 [(2, .slc 7 0 (0 + n0) c1)] [(7, ⟨56, cs⟩)] (zyp (r := 2) (t := 7) [2, 7] xj xv (by rfl) (by rfl) xv (fun b u2 e2 hb hh => ?_)))
 refine zzo (ret0 [.slice (some ⟨b, 0, none⟩) (0 + n0) c1] ⟨zzq, trivial⟩ fun u11 e12 => ?_)
 rw [Nat.zero_add] at k1 k4
 change cs.take (n0 * 2) = kcs L at k4
 have e9 : cs = kcs L ++ cs.drop (n0 * 2) := by rw [← k4]; exact (List.take_append_drop (n0 * 2) cs).symm
 refine ⟨b, c1, cs.drop (n0 * 2), ?_, hb, ?_, by rw [← e9]; exact k3, k1, k2⟩
 ·show Value.slice _ (0 + n0) _ = _; rw [Nat.zero_add]
 ·rw [← e9]; exact e12.cells hh
set_option maxHeartbeats 1000000 in
theorem k_clone3 {u w : World} {x : Sl} {L : List (List Int)} (d : Dat u w) (hx : IrV 3 u x L) (h0 : 0 < L.length) (h9 : L.length ≤ 1000000000) : Calls Try.prog 38 #[x.v] w (Post u w fun v u' => ∃ (b c : Nat) (X : List Value), v = .slice (some ⟨b, 0, none⟩) x.n c ∧ u.heap.size ≤ b ∧ u'.heap[b]? = some (.cells (kcs L ++ X).toArray 54 (0, 0)) ∧ (kcs L ++ X).length = c * 3 ∧ x.n ≤ c ∧ c ≤ maxLen) := by
 have hn := hx.len
 obtain ⟨xa, n0, c0⟩ := x
 obtain ⟨hR, h1, h2, h3, h4⟩ := hx
 change n0 = L.length at hn
 obtain ⟨b0, o0, e, hb0, hc⟩ := h4 (by show 0 < n0; omega)
 change xa = _ at e
 subst e
 change Calls _ _ #[.slice (some ⟨b0, o0, none⟩) n0 c0] _ _
 refine zzm (args := [.slice (some ⟨b0, o0, none⟩) n0 c0]) Try.func38 rfl Try.ntmps38 (rs := [.tmp 2]) Try.results38 (le_b rfl) (le_b rfl) d ?_
 refine sq9 (zza 2 (.v (.slice none 0 0)) (zzb (zzd (sq9 (zza 3 (.v (.slice (some ⟨b0, o0, none⟩) n0 c0)) (zza 4 (zB false) (zzb (zys xv (zzs (zzp ?_))))))))))
 refine sq9 (sy_lit 5 ⟨54, []⟩ 0 ?_)
 refine zza 6 (.v (.slice (some ⟨b0, o0, none⟩) n0 c0)) (sy_app1 7 (T := 55) (E := 54) (z := .agg #[.int .i64 0, .int .i64 0, .int .i64 0]) (size := 3) (bytes := 24) (b := b0) (off := o0) (m := n0) (c := c0) (n := 0) (cap := 0) (t := 5) (cs0 := []) [5, 7] (kcs L) xv xv xv xw (by rw [kcs_len hR, hn]) (fun j v hv => by have h9 := (List.getElem?_eq_some_iff.1 hv).1; rw [kcs_len hR] at h9; rw [hc j h9]; exact hv) kcs_one xq yq xq xq xw rfl xj ?_)
 intro c1 cs k1 k2 k3 k4
 refine zza 2 (.slc 7 0 (0 + n0) c1) (zzc 8 [(2, .slc 7 0 (0 + n0) c1)] [(7, ⟨54, cs⟩)] (zyp (r := 2) (t := 7) [2, 7] xj xv (by rfl) (by rfl) xv (fun b u2 e2 hb hh => ?_)))
 refine zzo (ret0 [.slice (some ⟨b, 0, none⟩) (0 + n0) c1] ⟨zzq, trivial⟩ fun u11 e12 => ?_)
 rw [Nat.zero_add] at k1 k4
 change cs.take (n0 * 3) = kcs L at k4
 have e9 : cs = kcs L ++ cs.drop (n0 * 3) := by rw [← k4]; exact (List.take_append_drop (n0 * 3) cs).symm
 refine ⟨b, c1, cs.drop (n0 * 3), ?_, hb, ?_, by rw [← e9]; exact k3, k1, k2⟩
 ·show Value.slice _ (0 + n0) _ = _; rw [Nat.zero_add]
 ·rw [← e9]; exact e12.cells hh
def Nt.smallB (l : List Int) : Bool := decide (∀ j, j < l.length → -16777216 ≤ l.getD j 0 ∧ l.getD j 0 ≤ 16777216)
theorem Nt.smallB_of {k i : Nat} {L : List (List Int)} (h : OkR k L) (hi : i < L.length) : Nt.smallB (L.getD i []) = true := decide_eq_true (fun j hj => by
 have h9 := h.bd hi (j := j) (by rw [(h.mem hi).1] at hj; exact hj)
 exact h9)
theorem k_cwithin {u w : World} {x : Sl} {l : List Int} (d : Dat u w) (hx : SlR .i64 u x.a x.n x.c l) (hb : ∀ z ∈ l, -9223372036854775808 ≤ z ∧ z ≤ 9223372036854775807) : Calls Try.prog 34 #[x.v] w (Post u w fun v _ => v = .bool (Nt.smallB l)) := by
 have hlen : l.length = x.n := hx.1
 have hmx8 := Nat.le_trans hx.2.1 hx.2.2.1
 unfold maxLen at hmx8
 refine zzm (args := [.slice x.a x.n x.c]) Try.func34 rfl Try.ntmps34 (rs := [.tmp 2]) Try.results34 (le_b rfl) (le_b rfl) d ?_
 refine sq9 (zza 2 (zB false) (zzb (zzd (sq9 (zza 5 (.v x.v) (zza 6 (zI x.n) (zza 7 (zI 0) (zzb (zzt (zyn (I := fun m11 S' u' => ∃ (i : Nat), (m11 = x.n - i) ∧ (i ≤ x.n) ∧ (∀ j, j < i → -16777216 ≤ l.getD j 0 ∧ l.getD j 0 ≤ 16777216) ∧ (S' = St.of 18 [(5, .v (.slice x.a x.n x.c)), (6, zI x.n), (7, zI i)] []) ∧ (Ext u u')) (fun m S u1 u2 e h => by obtain ⟨i, hm, p0, p1, hS, hE⟩ := h; exact ⟨i, hm, p0, p1, hS, hE.trans e⟩) _ yj ⟨0, rfl, Nat.zero_le _, fun j hj => absurd hj (Nat.not_lt_zero j), rfl, (Ext.refl _)⟩ ?_))))))))))
 rintro m11 _ u11 ⟨i, hm11, hi, hs, rfl, e11⟩
 refine sq9 (zza 8 (zB (decide ((i : Int) < (x.n : Int)))) (zzb (zzd (zzu (b := decide ((i : Int) < (x.n : Int))) xv (fun hb12 => ?_) (fun hb12 => ?_)))))
 ·replace hb12 : (decide ((i : Int) < (x.n : Int))) = true := hb12
  have qhb12 := of_decide_eq_true hb12
  refine zzs (zzp ?_)
  refine zzd (zzt (sq9 ?_))
  have hl13 := ((hx.ext e11)).1
  obtain ⟨b13, o13, hA13, hc13⟩ := ints_at (hx.ext e11) (i := i) xq
  have hz13 := ints_bd hb xq i
  refine zya 9 (o13 + i * 1) (n := x.n) (off := o13) (sz := 1) (i := (i : Int)) xq hA13 xq xq sl22 (zyl 10 (.int .i64 (l.getD i 0)) hc13 ty3 (zza 4 (zI (l.getD i 0)) (zzb (sq9 (zza 11 (zI (l.getD i 0)) (zza 12 (zB (decide ((l.getD i 0) < (-16777216)))) ?_))))))
  rcases Bool.eq_false_or_eq_true (decide ((l.getD i 0) < (-16777216))) with hs14 | hs14
  ·refine zyq 13 (x := zB (decide ((l.getD i 0) < (-16777216)))) (zB true) (by rw [hs14]) ?_
   have qhs14 := of_decide_eq_true hs14
   refine zzn 14 (uw 2 false true 13) (zzn 15 (uw 2 false true 13) (zza 16 (zB true) (zzb (zyr xv (sq9 (zza 2 (zB false) (zzb (zzo (zyu (zzw (zyt (zyu (zzw (ret0 [.bool false] ⟨zzq, trivial⟩ fun u15 e16 => ?_))))))))))))))
   show Value.bool _ = Value.bool _
   congr 1
   exact (decide_eq_false (fun k => by have h9 := k i xq; omega)).symm
  ·refine zyq 13 (x := zB (decide ((l.getD i 0) < (-16777216)))) (zB false) (by rw [hs14]) ?_
   have qhs14 := of_decide_eq_false hs14
   refine zza 14 (zI (l.getD i 0)) ?_ (hw := w1 2 false 13)
   refine zza 15 (zB (decide ((16777216 : Int) < (l.getD i 0)))) ?_ (hw := w1 2 false 13)
   refine zza 16 (zB (decide ((16777216 : Int) < (l.getD i 0)))) (zzb (zzu (b := decide ((16777216 : Int) < (l.getD i 0))) xv (fun hb17 => ?_) (fun hb17 => ?_)))
   ·replace hb17 : (decide ((16777216 : Int) < (l.getD i 0))) = true := hb17
    have qhb17 := of_decide_eq_true hb17
    refine sq9 (zza 2 (zB false) (zzb (zzo (zyu (zzw (zyt (zyu (zzw (ret0 [.bool false] ⟨zzq, trivial⟩ fun u18 e19 => ?_)))))))))
    show Value.bool _ = Value.bool _
    congr 1
    exact (decide_eq_false (fun k => by have h9 := k i xq; omega)).symm
   ·replace hb17 : (decide ((16777216 : Int) < (l.getD i 0))) = false := hb17
    have qhb17 := of_decide_eq_false hb17
    refine zzs (zzp ?_)
    refine zzf (zyq 17 (x := zI (IntKind.i64.wrap ((i : Int) + 1))) (zI (i + 1 : Nat)) (eqI xk) (zza 7 (zI (i + 1 : Nat)) (zzx ?_)))
    refine ⟨_, ?_, _, by exact zzv _ _ _, i + 1, rfl, by omega, (fun j hj => by by_cases e : j = i; (rw [e]; omega); exact hs j xq), rfl, e11⟩
    omega
 ·replace hb12 : (decide ((i : Int) < (x.n : Int))) = false := hb12
  have qhb12 := of_decide_eq_false hb12
  refine zyc (zzp (sq9 (zza 2 (zB true) (zzb (zzo (ret0 [.bool true] ⟨zzq, trivial⟩ fun u20 e21 => ?_))))))
  show Value.bool _ = Value.bool _
  congr 1
  exact (decide_eq_true (fun j hj => hs j xq)).symm
set_option maxHeartbeats 1000000 in
theorem k_cdelete {u w : World} {g n c i : Nat} {L : List (List Int)} {X : List Value} (d : Dat u w) (hg : w.heap[g]? = some (.cells (kcs L ++ X).toArray 54 (0, 0))) (hu : u.heap[g]? = some hidO) (hL : OkR 3 L) (hLn : L.length = n) (hcl : (kcs L ++ X).length = c * 3) (hi : i < n) (hnc : n ≤ c) (hn9 : n ≤ 1000) : Calls Try.prog 40 #[.slice (some ⟨g, 0, none⟩) n c, .int .i64 (i : Int), .int .i64 ((i + 1 : Nat) : Int)] w (PostS u w g c fun m V u' => m = n - 1 ∧ ∃ X', V = ⟨54, kcs (L.eraseIdx i) ++ X'⟩ ∧ (kcs (L.eraseIdx i) ++ X').length = c * 3) := by
 refine calls_lentS (args := [.int .i64 (i : Int), .int .i64 ((i + 1 : Nat) : Int)]) Try.func40 rfl Try.ntmps40 Try.results40 (le_b rfl) d hg hu ?_
 refine sq9 (zza 6 (.v (.slice none 0 0)) (zzb (sq9 (zza 8 (.slc 33 0 n c) (zza 9 (zI i) (zza 10 (zI (i + 1 : Nat)) (zza 11 (.slc 33 0 n c) (zza 12 (zI n) (sy_subO3 13 (off := 0) (n := n) (c := c) i (i + 1) n sl55 rfl rfl rfl xq xq xq (fun o11 ho11 => ?_))))))))))
 refine zzc 33 [(0, .slc 33 0 n c), (1, zI i), (2, zI (i + 1 : Nat))] [(33, ⟨54, kcs L ++ X⟩)] (zzd (sq9 (zza 14 (zI i) (zza 15 (zI (i + 1 : Nat)) (zza 16 (zB ((i : Int) == ((i + 1 : Nat) : Int))) (zzb (zzu (b := (i : Int) == ((i + 1 : Nat) : Int)) xv (fun hb => ?_) (fun hb => ?_))))))))
 ·exact absurd hb (by rw [show ((i : Int) == ((i + 1 : Nat) : Int)) = false from yz]; decide)
 ·clear hb
  refine zzs (zzp ?_)
  refine sq9 (zza 18 (.slc 33 0 n c) (zza 19 (zI n) (zza 7 (zI n) (zzc 33 [(0, .slc 33 0 n c), (1, zI i), (2, zI (i + 1 : Nat)), (7, zI n)] [(33, ⟨54, kcs L ++ X⟩)] (zzd (sw_anyC [0, 0, 3, 0, 0, 24, 63, 127] [(0, []), (1, []), (2, []), (3, []), (4, []), (5, []), (6, [])] [(7, [])] xv xv xv ?_))))))
  refine zza 20 (.slc 33 0 n c) (zza 21 (zI i) (sy_frontO 22 (n := n) (c := c) i sl55 rfl xq ?_))
  refine zza 23 (.slc 33 0 n c) (zza 24 (zI (i + 1 : Nat)) (sy_tailO 25 (off := 0) (n := n) (c := c) (i + 1) sl55 rfl xq xq (fun o13 ho13 => ?_)))
  have hdl := del_rows (X := X) (zs := ics [0, 0, 0]) (OkR.rows hL) (i := i) xq rfl (off := o13) (fun h9 => by rw [ho13, if_neg xq]; omega)
  refine sy_appT 26 (T := 55) (E := 54) (z := .agg #[.int .i64 0, .int .i64 0, .int .i64 0]) (size := 3) (bytes := 24) (off := o13) (m := n - (i + 1)) (c := c - (i + 1)) (t := 33) (n := i) (cap := c) (cs0 := kcs L ++ X) (ns := kcs (L.drop (i + 1))) xv xv hcl (by rw [ho13, hcl]; split <;> omega) xq (by have h9 := hdl.1; rw [hLn] at h9; exact h9) kcs_one ?_
  refine zzx ?_
  refine sy_over 0 (.slc 33 0 (i + (n - (i + 1))) c) (zzc 33 [(0, .slc 33 0 (i + (n - (i + 1))) c), (7, zI n)] [(33, ⟨54, setL (kcs L ++ X) (i * 3) (kcs (L.drop (i + 1)))⟩)] (sq9 (zza 27 (.slc 33 0 (i + (n - (i + 1))) c) (zza 28 (.slc 33 0 (i + (n - (i + 1))) c) (zza 29 (zI ((i + (n - (i + 1)) : Nat) : Int)) (zza 30 (zI n) (sy_subO2 31 (off := 0) (n := (i + (n - (i + 1)))) (c := c) (i + (n - (i + 1))) n sl55 rfl rfl xq xq (fun o9 ho9 => ?_))))))))
  have e9 : o9 = (L.length - 1) * 3 := by rw [ho9, if_neg xq, hLn]; omega
  refine sy_clear1 (T := 55) (E := 54) (z := .agg #[.int .i64 0, .int .i64 0, .int .i64 0]) (size := 3) (bytes := 24) (off := o9) (m := n - (i + (n - (i + 1)))) (c := c - (i + (n - (i + 1)))) (t := 33) (cs0 := setL (kcs L ++ X) (i * 3) (kcs (L.drop (i + 1)))) (zs := ics [0, 0, 0]) xv xv xq xv (by rw [e9, setL_length (by rw [kcs_len (OkR.drop hL).rows, List.length_drop, hcl, hLn]; omega), hcl]; show _ + 3 ≤ _; omega) ics_one ?_
  rw [e9, hdl.2]
  refine zzc 33 [(0, .slc 33 0 (i + (n - (i + 1))) c)] [(33, ⟨54, kcs (L.eraseIdx i) ++ (ics [0, 0, 0] ++ X)⟩)] (sq9 (zza 32 (.slc 33 0 (i + (n - (i + 1))) c) (zza 6 (.slc 33 0 (i + (n - (i + 1))) c) (zzc 33 [(6, .slc 33 0 (i + (n - (i + 1))) c)] [(33, ⟨54, kcs (L.eraseIdx i) ++ (ics [0, 0, 0] ++ X)⟩)] (zzo (lentS_ret (V := ⟨54, kcs (L.eraseIdx i) ++ (ics [0, 0, 0] ++ X)⟩) (i + (n - (i + 1))) rfl rfl zzq (fun _ _ => ⟨by omega, ics [0, 0, 0] ++ X, rfl, ?_⟩)))))))
  rw [List.length_append, kcs_len (OkR.erase hL).rows, List.length_eraseIdx, if_pos xq, List.length_append, hLn]
  rw [List.length_append, kcs_len hL.rows, hLn] at hcl
  show _ + (3 + _) = _; omega
instance {k : Nat} {L : List (List Int)} : Decidable (OkR k L) := by unfold OkR; exact inferInstance
instance {k : Nat} {L : List (List Int)} : Decidable (Rows k L) := by unfold Rows; exact inferInstance
theorem okR_fill {A : List (List Int)} {m : Nat} (h : OkR 5 A) : OkR 5 (List.replicate m [0, 0, 0, 0, 0] ++ A) := fun p hp => by
 rcases List.mem_append.1 hp with hp | hp
 ·rw [(List.mem_replicate.1 hp).2]; decide
 ·exact h p hp
theorem okR_cons5 {A : List (List Int)} {a b c d e : Int} (h : OkR 5 A) (ha : -16777216 ≤ a ∧ a ≤ 16777216) (hb : -16777216 ≤ b ∧ b ≤ 16777216) (hc : -16777216 ≤ c ∧ c ≤ 16777216) (hd : -16777216 ≤ d ∧ d ≤ 16777216) (he : -16777216 ≤ e ∧ e ≤ 16777216) : OkR 5 ([a, b, c, d, e] :: A) := fun p hp => by
 rcases List.mem_cons.1 hp with rfl | hp
 ·refine ⟨rfl, fun z hz => ?_⟩
  simp at hz
  rcases hz with rfl | rfl | rfl | rfl | rfl
  ·exact ha
  ·exact hb
  ·exact hc
  ·exact hd
  ·exact he
 ·exact h p hp
theorem Nt.best_in {Z : List (List Int)} {a b : Int} {n j : Nat} (h : 0 < n) (hj : j ≤ n) : Nt.bestR Z a b j < n := by
 cases j with
 | zero => exact h
 | succ j => have := Nt.bestR_lt (Z := Z) (a0 := a) (a1 := b) (n := j + 1) xq; omega
set_option maxHeartbeats 8000000 in
theorem k_cpair {u w : World} {x y : Sl} {Z D : List (List Int)} (d : Dat u w) (hx : IrV 3 u x Z) (hy : IrV 2 u y D) (hZ : OkR 3 Z) (hD : OkR 2 D) (hl : Z.length = D.length) (h0 : 0 < D.length) (h8 : D.length ≤ 8) : Calls Try.prog 16 #[x.v, y.v] w (Post u w fun v u' => ∃ z : Sl, v = .tuple #[z.v, .int .i64 0] ∧ IrV 5 u' z (Nt.pairR (Nt.sortR D) Z [])) := by
 have hlx := hx.len
 have hly := hy.len
 obtain ⟨ya, yn, yc⟩ := y
 change yn = D.length at hly
 obtain rfl : yn = x.n := by omega
 refine zzm (args := [.slice x.a x.n x.c, .slice ya x.n yc]) Try.func16 rfl Try.ntmps16 (rs := [.tmp 4, .tmp 5]) Try.results16 (le_b rfl) (le_b rfl) d ?_
 refine sq9 (zza 4 (.v (.slice none 0 0)) (zza 5 (zI 0) (zzb (zzd (sq9 (zza 14 (.v x.v) (zza 15 (zI x.n) (zza 16 (.v (.slice ya x.n yc)) (zza 17 (zI x.n) (zza 18 (zB ((x.n : Int) != (x.n : Int))) (zyq 19 (x := zB ((x.n : Int) != (x.n : Int))) (zB false) (by rw [show ((x.n : Int) != (x.n : Int)) = false from (by first | (simp; done) | (simp; omega))]) ?_)))))))))))
 refine zza 20 (.v x.v) ?_ (hw := w1 5 false 19)
 refine zza 21 (zI x.n) ?_ (hw := w1 5 false 19)
 refine zza 22 (zB (decide ((x.n : Int) < 1))) ?_ (hw := w1 5 false 19)
 refine zza 23 (zB (decide ((x.n : Int) < 1))) (zyq 24 (x := zB (decide ((x.n : Int) < 1))) (zB false) (by rw [show (decide ((x.n : Int) < 1)) = false from decide_eq_false xq]) (zza 25 (.v x.v) ?_ (hw := w1 10 false 24)))
 refine zza 26 (zI x.n) ?_ (hw := w1 10 false 24)
 refine zza 27 (zB (decide ((8 : Int) < (x.n : Int)))) ?_ (hw := w1 10 false 24)
 refine zza 28 (zB (decide ((8 : Int) < (x.n : Int)))) (zzb (zzu (b := decide ((8 : Int) < (x.n : Int))) xv (fun hb => ?_) (fun hb => ?_)))
 ·exact absurd hb (by rw [show (decide ((8 : Int) < (x.n : Int))) = false from decide_eq_false xq]; decide)
 ·clear hb
  refine zzs (zzp ?_)
  refine zzd (sq9 (zza 29 (.v x.v) (zza 30 (zI x.n) (zza 31 (zI 0) (zzb (zzt (zyn (I := fun m13 S' u' => ∃ (i : Nat), (m13 = x.n - i) ∧ (i ≤ x.n) ∧ (S' = St.of 105 [(0, .v (.slice x.a x.n x.c)), (1, .v (.slice ya x.n yc)), (30, zI x.n), (31, zI i)] []) ∧ (Ext u u')) (fun m S u1 u2 e h => by obtain ⟨i, hm, p0, hS, hE⟩ := h; exact ⟨i, hm, p0, hS, hE.trans e⟩) _ yj ⟨0, rfl, Nat.zero_le _, rfl, (Ext.refl _)⟩ ?_)))))))
  rintro m13 _ u13 ⟨i, hm13, hi, rfl, e13⟩
  refine sq9 (zza 32 (zB (decide ((i : Int) < (x.n : Int)))) (zzb (zzd (zzu (b := decide ((i : Int) < (x.n : Int))) xv (fun hb14 => ?_) (fun hb14 => ?_)))))
  ·replace hb14 : (decide ((i : Int) < (x.n : Int))) = true := hb14
   have qhb14 := of_decide_eq_true hb14
   refine zzs (zzp ?_)
   refine zzd (zzt (sq9 (zza 33 (zI i) (zza 6 (zI i) (zzb (sq9 (zza 34 (.v x.v) (zza 35 (zI i) ?_))))))))
   have hl15 := ((hx.ext e13)).len
   obtain ⟨b15, o15, hA15, hc15⟩ := ir_row (hx.ext e13) (i := i) xq yq
   refine zya 36 (o15 + i * 3) (n := x.n) (off := o15) (sz := 3) (i := (i : Int)) xq hA15 xq xq sl55 (zza 37 (.v (.slice (some ⟨b15, o15 + i * 3, none⟩) 3 3)) (zzg 38 34 [.slice (some ⟨b15, o15 + i * 3, none⟩) 3 3] ?_))
   intro w16 u16 e16 d16
   have k19 := (show Calls _ _ #[.slice (some ⟨b15, o15 + i * 3, none⟩) 3 3] _ _ from k_cwithin (x := (⟨some ⟨b15, o15 + i * 3, none⟩, 3, 3⟩ : Sl)) d16 (hc15.ext e16) (fun z hz => by have h9 := (OkR.mem hZ (i := i) xq).2 z hz; omega))
   with_reducible refine zPm k19 ?_
   rintro _ u17 g18 rfl
   refine zza 39 (zB (!(Nt.smallB (Z.getD i [])))) (zyq 40 (x := zB (!(Nt.smallB (Z.getD i [])))) (zB false) (by rw [show (!(Nt.smallB (Z.getD i []))) = false from (by rw [Nt.smallB_of hZ xq]; rfl)]) (zza 41 (.v (.slice ya x.n yc)) ?_ (hw := w1 6 false 40)))
   refine zza 42 (zI i) ?_ (hw := w1 6 false 40)
   have hl21 := ((hy.ext (e13.trans (e16.trans g18.ext)))).len
   change x.n = _ at hl21
   obtain ⟨b21, o21, hA21, hc21⟩ := ir_row (hy.ext (e13.trans (e16.trans g18.ext))) (i := i) xq yq
   refine zya 43 (o21 + i * 2) (n := x.n) (off := o21) (sz := 2) (i := (i : Int)) xq hA21 xq xq sl57 ?_ (hw := w1 6 false 40)
   refine zza 44 (.v (.slice (some ⟨b21, o21 + i * 2, none⟩) 2 2)) ?_ (hw := w1 6 false 40)
   refine zzg 45 34 [.slice (some ⟨b21, o21 + i * 2, none⟩) 2 2] ?_ (hw := w1 6 false 40)
   intro w22 u22 e22 d22
   have k25 := (show Calls _ _ #[.slice (some ⟨b21, o21 + i * 2, none⟩) 2 2] _ _ from k_cwithin (x := (⟨some ⟨b21, o21 + i * 2, none⟩, 2, 2⟩ : Sl)) d22 (hc21.ext e22) (fun z hz => by have h9 := (OkR.mem hD (i := i) xq).2 z hz; omega))
   with_reducible refine zPm k25 ?_
   rintro _ u23 g24 rfl
   refine zza 46 (zB (!(Nt.smallB (D.getD i [])))) ?_ (hw := w1 6 false 40)
   refine zza 47 (zB (!(Nt.smallB (D.getD i [])))) (zzc 105 [(0, .v x.v), (1, .v (.slice ya x.n yc)), (30, zI x.n), (31, zI i), (47, zB (!(Nt.smallB (D.getD i []))))] [] (zzu (b := !(Nt.smallB (D.getD i []))) xv (fun hb => ?_) (fun hb => ?_)))
   ·exact absurd hb (by rw [show (!(Nt.smallB (D.getD i []))) = false from (by rw [Nt.smallB_of hD xq]; rfl)]; decide)
   ·clear hb
    refine zzs (zzp ?_)
    refine zzf (zyq 48 (x := zI (IntKind.i64.wrap ((i : Int) + 1))) (zI (i + 1 : Nat)) (eqI xk) (zza 31 (zI (i + 1 : Nat)) (zzx ?_)))
    refine ⟨_, ?_, _, by exact zzv _ _ _, i + 1, rfl, by omega, rfl, (e13.trans (e16.trans (g18.ext.trans (e22.trans g24.ext))))⟩
    omega
  ·replace hb14 : (decide ((i : Int) < (x.n : Int))) = false := hb14
   have qhb14 := of_decide_eq_false hb14
   refine zyc (zzp (sq9 (zza 49 (.v (.slice ya x.n yc)) (zzg 50 35 [.slice ya x.n yc] ?_))))
   intro w26 u26 e26 d26
   have k37 := k_clone2 d26 (hy.ext (e13.trans e26)) xq xq
   with_reducible refine zPm k37 ?_
   rintro _ u35 g36 ⟨b27, c28, X29, rfl, hb30, hh31, hlX32, hle33, hmx34⟩
   refine zza 7 (.v (.slice (some ⟨b27, 0, none⟩) x.n c28)) (zzb (zzd (sw_adopt (r := 7) (k := 50) (cs := kcs D ++ X29) (by rfl) hh31 (Nat.le_trans ((e13.trans e26).size) hb30) xv (fun u38 eB39 => ?_))))
   refine zzf (zza 51 (.slc 50 0 x.n c28) ?_)
   have kc40 := fun (g : Nat) (w u1 : World) (e : Ext u38 u1) (d : Dat u1 w) (hg : w.heap[g]? = some (.cells (kcs D ++ X29).toArray 56 (0, 0))) (hu : u1.heap[g]? = some hidO) => k_csort (n := x.n) (c := c28) d hg hu hD (show D.length = x.n by omega) xq
   refine sy_lend 52 36 (t := 50) (V := ⟨56, kcs D ++ X29⟩) (len := x.n) (cap := c28) [.func (.func 37) #[] #[]] xv kc40 ?_
   clear kc40
   rintro _ u40 e40 rfl
   refine zzc 105 [(0, .v x.v), (7, .slc 50 0 x.n c28)] [(50, ⟨56, kcs (Nt.sortR D) ++ X29⟩)] (sq9 (zza 53 (.v x.v) (zzg 54 38 [x.v] ?_)))
   intro w41 u41 e41 d41
   have k52 := k_clone3 d41 (hx.ext (e13.trans (e26.trans ((ExtB.old eB39 g36.ext hb30).trans (e40.trans e41))))) xq xq
   with_reducible refine zPm k52 ?_
   rintro _ u50 g51 ⟨b42, c43, X44, rfl, hb45, hh46, hlX47, hle48, hmx49⟩
   refine zza 8 (.v (.slice (some ⟨b42, 0, none⟩) x.n c43)) (zzb (zzd (sw_adopt (r := 8) (k := 54) (cs := kcs Z ++ X44) (by rfl) hh46 (Nat.le_trans ((e13.trans (e26.trans ((ExtB.old eB39 g36.ext hb30).trans (e40.trans e41)))).size) hb45) xv (fun u53 eB54 => ?_))))
   refine zzf (zza 55 (.slc 50 0 x.n c28) (zza 56 (zI x.n) (sy_make 57 (T := 29) (E := 59) (z := .agg #[.int .i64 0, .int .i64 0, .int .i64 0, .int .i64 0, .int .i64 0]) (size := 5) (bytes := 40) x.n (kcs (List.replicate x.n [0, 0, 0, 0, 0] ++ []) ++ []) xv xv rfl rfl xq yq (by rw [List.append_nil, List.append_nil]; exact made_k (z := [0, 0, 0, 0, 0]) rfl xw _) ?_)))
   refine zza 9 (.slc 57 0 x.n x.n) (zzc 105 [(7, .slc 50 0 x.n c28), (8, .slc 54 0 x.n c43), (9, .slc 57 0 x.n x.n)] [(50, ⟨56, kcs (Nt.sortR D) ++ X29⟩), (54, ⟨54, kcs Z ++ X44⟩), (57, ⟨59, kcs (List.replicate x.n [0, 0, 0, 0, 0] ++ []) ++ []⟩)] (zzd (sq9 (zza 58 (.slc 50 0 x.n c28) (zza 59 (zI x.n) (zza 60 (zI 0) (zzb (zzt (zyn (I := fun m55 S' u' => ∃ (i : Nat) (Z' : List (List Int)) (X' : List Value) (A' : List (List Int)), (m55 = x.n - i) ∧ (i ≤ x.n) ∧ (OkR 3 Z') ∧ (Z'.length = x.n - i) ∧ ((kcs Z' ++ X').length = c43 * 3) ∧ (OkR 5 A') ∧ (A'.length = i) ∧ (Nt.pairR ((Nt.sortR D).drop i) Z' A' = Nt.pairR (Nt.sortR D) Z []) ∧ (S' = St.of 105 [(7, .slc 50 0 x.n c28), (8, .slc 54 0 (x.n - i) c43), (9, .slc 57 0 x.n x.n), (58, .slc 50 0 x.n c28), (59, zI x.n), (60, zI i)] [(50, ⟨56, kcs (Nt.sortR D) ++ X29⟩), (54, ⟨54, kcs Z' ++ X'⟩), (57, ⟨59, kcs (List.replicate (x.n - i) [0, 0, 0, 0, 0] ++ A') ++ []⟩)]) ∧ (Ext u53 u')) (fun m S u1 u2 e h => by obtain ⟨i, Z', X', A', hm, p0, p1, p2, p3, p4, p5, p6, hS, hE⟩ := h; exact ⟨i, Z', X', A', hm, p0, p1, p2, p3, p4, p5, p6, hS, hE.trans e⟩) _ yj ⟨0, Z, X44, [], rfl, Nat.zero_le _, hZ, xq, hlX47, (fun p hp => by cases hp), rfl, rfl, rfl, (Ext.refl _)⟩ ?_)))))))))
   rintro m55 _ u55 ⟨i, Z', X', A', hm55, hi1, hZ', hZn', hX', hA', hAn', hP', rfl, e55⟩
   have hO9 : OkR 5 (List.replicate (x.n - i) [0, 0, 0, 0, 0] ++ A') := okR_fill hA'
   have hO8 : (List.replicate (x.n - i) [0, 0, 0, 0, 0] ++ A').length = x.n := by rw [List.length_append, List.length_replicate, hAn']; omega
   refine sq9 (zza 61 (zB (decide ((i : Int) < (x.n : Int)))) (zzb (zzd (zzu (b := decide ((i : Int) < (x.n : Int))) xv (fun hb56 => ?_) (fun hb56 => ?_)))))
   ·replace hb56 : (decide ((i : Int) < (x.n : Int))) = true := hb56
    have qhb56 := of_decide_eq_true hb56
    refine zzs (zzp ?_)
    refine zzd (zzt (sq9 (zza 62 (zI i) (zyw 63 (off' := i * 2) (n := x.n) (off := 0) (sz := 2) (i := (i : Int)) sl57 xq xq xq ?_))))
    refine zzi 64 (V := ⟨56, kcs (Nt.sortR D) ++ X29⟩) (off := i * 2) (.v (.agg #[.int .i64 (gi (Nt.sortR D) i 0), .int .i64 (gi (Nt.sortR D) i 1)])) ty56 (part_k2 (OkR.rows (Nt.sortR_ok hD (by rw [(show D.length = x.n by omega)]; omega))) (i := i) (by rw [(Nt.sortR_len.trans (show D.length = x.n by omega))]; omega) rfl) ?_
    have hz570 := OkR.bd (Nt.sortR_ok hD (by rw [(show D.length = x.n by omega)]; omega)) (i := i) (j := 0) (by rw [(Nt.sortR_len.trans (show D.length = x.n by omega))]; omega) xw
    have hz571 := OkR.bd (Nt.sortR_ok hD (by rw [(show D.length = x.n by omega)]; omega)) (i := i) (j := 1) (by rw [(Nt.sortR_len.trans (show D.length = x.n by omega))]; omega) xw
    refine zzk 11 ⟨56, [.int .i64 0, .int .i64 0]⟩ (zza 10 (zI i) (zzj ⟨56, [.int .i64 (gi (Nt.sortR D) i 0), .int .i64 (gi (Nt.sortR D) i 1)]⟩ ty56 ?_))
    refine zzc 105 [(7, .slc 50 0 x.n c28), (8, .slc 54 0 (x.n - i) c43), (9, .slc 57 0 x.n x.n), (10, zI i), (11, .adr 11 0), (58, .slc 50 0 x.n c28), (59, zI x.n), (60, zI i)] [(11, ⟨56, [.int .i64 (gi (Nt.sortR D) i 0), .int .i64 (gi (Nt.sortR D) i 1)]⟩), (50, ⟨56, kcs (Nt.sortR D) ++ X29⟩), (54, ⟨54, kcs Z' ++ X'⟩), (57, ⟨59, kcs (List.replicate (x.n - i) [0, 0, 0, 0, 0] ++ A') ++ []⟩)] (sq9 (zza 12 (zI 0) (zzb (zzd (sq9 (zza 65 (.slc 54 0 (x.n - i) c43) (zza 66 (zI (x.n - i : Nat)) (zza 67 (zI 0) (zzc 105 [(7, .slc 50 0 x.n c28), (8, .slc 54 0 (x.n - i) c43), (9, .slc 57 0 x.n x.n), (10, zI i), (11, .adr 11 0), (12, zI 0), (58, .slc 50 0 x.n c28), (59, zI x.n), (60, zI i), (66, zI (x.n - i : Nat)), (67, zI 0)] [(11, ⟨56, [.int .i64 (gi (Nt.sortR D) i 0), .int .i64 (gi (Nt.sortR D) i 1)]⟩), (50, ⟨56, kcs (Nt.sortR D) ++ X29⟩), (54, ⟨54, kcs Z' ++ X'⟩), (57, ⟨59, kcs (List.replicate (x.n - i) [0, 0, 0, 0, 0] ++ A') ++ []⟩)] (zzt (zyn (I := fun m58 S' u' => ∃ (j : Nat) (m : Nat), (m58 = x.n - i - j) ∧ (j ≤ x.n - i) ∧ (m = Nt.bestR Z' (gi (Nt.sortR D) i 0) (gi (Nt.sortR D) i 1) j) ∧ (S' = St.of 105 [(7, .slc 50 0 x.n c28), (8, .slc 54 0 (x.n - i) c43), (9, .slc 57 0 x.n x.n), (10, zI i), (11, .adr 11 0), (12, zI m), (58, .slc 50 0 x.n c28), (59, zI x.n), (60, zI i), (66, zI (x.n - i : Nat)), (67, zI j)] [(11, ⟨56, [.int .i64 (gi (Nt.sortR D) i 0), .int .i64 (gi (Nt.sortR D) i 1)]⟩), (50, ⟨56, kcs (Nt.sortR D) ++ X29⟩), (54, ⟨54, kcs Z' ++ X'⟩), (57, ⟨59, kcs (List.replicate (x.n - i) [0, 0, 0, 0, 0] ++ A') ++ []⟩)]) ∧ (Ext u55 u')) (fun m S u1 u2 e h => by obtain ⟨j, m, hm, p0, p1, hS, hE⟩ := h; exact ⟨j, m, hm, p0, p1, hS, hE.trans e⟩) _ yj ⟨0, 0, rfl, Nat.zero_le _, rfl, rfl, (Ext.refl _)⟩ ?_)))))))))))
    rintro m58 _ u58 ⟨j, m, hm58, hj, hm, rfl, e58⟩
    have hmL : m < x.n - i := by rw [hm]; exact Nt.best_in xq hj
    refine sq9 (zza 68 (zB (decide ((j : Int) < ((x.n - i : Nat) : Int)))) (zzb (zzd (zzu (b := decide ((j : Int) < ((x.n - i : Nat) : Int))) xv (fun hb59 => ?_) (fun hb59 => ?_)))))
    ·replace hb59 : (decide ((j : Int) < ((x.n - i : Nat) : Int))) = true := hb59
     have qhb59 := of_decide_eq_true hb59
     refine zzs (zzp ?_)
     refine zzd (zzt (sq9 (zza 69 (zI j) (zza 13 (zI j) (zzb (zzd (zzz [0, 0, 3, 7, 0, 31, 0, 0, 192, 448, 0, 2047, 4095] [(0, []), (1, []), (2, []), (3, []), (4, []), (6, []), (7, []), (8, []), (9, []), (10, []), (5, []), (11, []), (12, [])] xv xv (zza 70 (.slc 54 0 (x.n - i) c43) (zza 71 (zI j) (zyw 72 (off' := j * 3) (n := (x.n - i)) (off := 0) (sz := 3) (i := (j : Int)) sl55 xq xq xq ?_))))))))))
     refine zzi 73 (V := ⟨54, kcs Z' ++ X'⟩) (off := j * 3) (.v (.agg #[.int .i64 (gi Z' j 0), .int .i64 (gi Z' j 1), .int .i64 (gi Z' j 2)])) ty54 (part_k3 (OkR.rows hZ') (i := j) (by rw [hZn']; omega) rfl) ?_
     have hz600 := OkR.bd hZ' (i := j) (j := 0) (by rw [hZn']; omega) xw
     have hz601 := OkR.bd hZ' (i := j) (j := 1) (by rw [hZn']; omega) xw
     have hz602 := OkR.bd hZ' (i := j) (j := 2) (by rw [hZn']; omega) xw
     refine zzi 74 (.v (.agg #[.int .i64 (gi (Nt.sortR D) i 0), .int .i64 (gi (Nt.sortR D) i 1)])) ty56 zze (zza 76 (.slc 54 0 (x.n - i) c43) (zza 77 (zI m) (zyw 78 (off' := m * 3) (n := (x.n - i)) (off := 0) (sz := 3) (i := (m : Int)) sl55 xq xq xq ?_)))
     refine zzi 79 (V := ⟨54, kcs Z' ++ X'⟩) (off := m * 3) (.v (.agg #[.int .i64 (gi Z' m 0), .int .i64 (gi Z' m 1), .int .i64 (gi Z' m 2)])) ty54 (part_k3 (OkR.rows hZ') (i := m) (by rw [hZn']; omega) rfl) ?_
     have hz610 := OkR.bd hZ' (i := m) (j := 0) (by rw [hZn']; omega) xw
     have hz611 := OkR.bd hZ' (i := m) (j := 1) (by rw [hZn']; omega) xw
     have hz612 := OkR.bd hZ' (i := m) (j := 2) (by rw [hZn']; omega) xw
     refine zzi 80 (.v (.agg #[.int .i64 (gi (Nt.sortR D) i 0), .int .i64 (gi (Nt.sortR D) i 1)])) ty56 zze (zzg 75 39 [.agg #[.int .i64 (gi Z' j 0), .int .i64 (gi Z' j 1), .int .i64 (gi Z' j 2)], .agg #[.int .i64 (gi (Nt.sortR D) i 0), .int .i64 (gi (Nt.sortR D) i 1)]] ?_)
     intro w62 u62 e62 d62
     have k65 := k_cdist (b0 := gi Z' j 0) (b1 := gi Z' j 1) (b2 := gi Z' j 2) (a0 := gi (Nt.sortR D) i 0) (a1 := gi (Nt.sortR D) i 1) d62 xq xq xq xq
     with_reducible refine zPm k65 ?_
     rintro _ u63 g64 rfl
     have hdz66 := Nt.dist_bd (b1 := gi Z' j 1) (b2 := gi Z' j 2) (a0 := gi (Nt.sortR D) i 0) (a1 := gi (Nt.sortR D) i 1) xq xq xq xq
     refine zzg 81 39 [.agg #[.int .i64 (gi Z' m 0), .int .i64 (gi Z' m 1), .int .i64 (gi Z' m 2)], .agg #[.int .i64 (gi (Nt.sortR D) i 0), .int .i64 (gi (Nt.sortR D) i 1)]] ?_
     intro w67 u67 e67 d67
     have k70 := k_cdist (b0 := gi Z' m 0) (b1 := gi Z' m 1) (b2 := gi Z' m 2) (a0 := gi (Nt.sortR D) i 0) (a1 := gi (Nt.sortR D) i 1) d67 xq xq xq xq
     with_reducible refine zPm k70 ?_
     rintro _ u68 g69 rfl
     have hdz71 := Nt.dist_bd (b1 := gi Z' m 1) (b2 := gi Z' m 2) (a0 := gi (Nt.sortR D) i 0) (a1 := gi (Nt.sortR D) i 1) xq xq xq xq
     refine zza 82 (zB (decide ((Nt.distZ (gi Z' j 1) (gi Z' j 2) (gi (Nt.sortR D) i 0) (gi (Nt.sortR D) i 1)) < (Nt.distZ (gi Z' m 1) (gi Z' m 2) (gi (Nt.sortR D) i 0) (gi (Nt.sortR D) i 1))))) (zzc 105 [(7, .slc 50 0 x.n c28), (8, .slc 54 0 (x.n - i) c43), (9, .slc 57 0 x.n x.n), (10, zI i), (11, .adr 11 0), (12, zI m), (13, zI j), (58, .slc 50 0 x.n c28), (59, zI x.n), (60, zI i), (66, zI (x.n - i : Nat)), (67, zI j), (82, zB (decide ((Nt.distZ (gi Z' j 1) (gi Z' j 2) (gi (Nt.sortR D) i 0) (gi (Nt.sortR D) i 1)) < (Nt.distZ (gi Z' m 1) (gi Z' m 2) (gi (Nt.sortR D) i 0) (gi (Nt.sortR D) i 1)))))] [(11, ⟨56, [.int .i64 (gi (Nt.sortR D) i 0), .int .i64 (gi (Nt.sortR D) i 1)]⟩), (50, ⟨56, kcs (Nt.sortR D) ++ X29⟩), (54, ⟨54, kcs Z' ++ X'⟩), (57, ⟨59, kcs (List.replicate (x.n - i) [0, 0, 0, 0, 0] ++ A') ++ []⟩)] (zzu (b := decide ((Nt.distZ (gi Z' j 1) (gi Z' j 2) (gi (Nt.sortR D) i 0) (gi (Nt.sortR D) i 1)) < (Nt.distZ (gi Z' m 1) (gi Z' m 2) (gi (Nt.sortR D) i 0) (gi (Nt.sortR D) i 1)))) xv (fun hb72 => ?_) (fun hb72 => ?_)))
     ·replace hb72 : (decide ((Nt.distZ (gi Z' j 1) (gi Z' j 2) (gi (Nt.sortR D) i 0) (gi (Nt.sortR D) i 1)) < (Nt.distZ (gi Z' m 1) (gi Z' m 2) (gi (Nt.sortR D) i 0) (gi (Nt.sortR D) i 1)))) = true := hb72
      have qhb72 := of_decide_eq_true hb72
      refine zzf (zza 83 (zI j) (zza 12 (zI j) (zzx ?_)))
      refine zzp (zzf (zyq 84 (x := zI (IntKind.i64.wrap ((j : Int) + 1))) (zI (j + 1 : Nat)) (eqI xk) (zza 67 (zI (j + 1 : Nat)) (zzx ?_))))
      refine ⟨_, ?_, _, by exact zzv _ _ _, j + 1, j, rfl, by omega, (by have h9 := qhb72; rw [hm] at h9; exact (Nt.best_yes h9).symm), rfl, (e58.trans (e62.trans (g64.ext.trans (e67.trans g69.ext))))⟩
      omega
     ·replace hb72 : (decide ((Nt.distZ (gi Z' j 1) (gi Z' j 2) (gi (Nt.sortR D) i 0) (gi (Nt.sortR D) i 1)) < (Nt.distZ (gi Z' m 1) (gi Z' m 2) (gi (Nt.sortR D) i 0) (gi (Nt.sortR D) i 1)))) = false := hb72
      have qhb72 := of_decide_eq_false hb72
      refine zzs (zzp ?_)
      refine zzf (zyq 84 (x := zI (IntKind.i64.wrap ((j : Int) + 1))) (zI (j + 1 : Nat)) (eqI xk) (zza 67 (zI (j + 1 : Nat)) (zzx ?_)))
      refine ⟨_, ?_, _, by exact zzv _ _ _, j + 1, m, rfl, by omega, (by have h9 := qhb72; rw [hm] at h9; exact hm.trans (Nt.best_no h9).symm), rfl, (e58.trans (e62.trans (g64.ext.trans (e67.trans g69.ext))))⟩
      omega
    ·replace hb59 : (decide ((j : Int) < ((x.n - i : Nat) : Int))) = false := hb59
     have qhb59 := of_decide_eq_false hb59
     refine zyc (zzp (zzd (zzz [0, 0, 2, 6, 0, 30, 0, 0, 192, 448, 0, 1984, 4095, 8191] [(0, []), (1, []), (2, []), (3, []), (4, []), (5, []), (6, []), (7, []), (8, []), (9, []), (10, []), (11, []), (12, []), (13, [])] xv xv (zza 85 (.slc 57 0 x.n x.n) (zza 86 (.slc 50 0 x.n c28) (zza 87 (zI x.n) (zyq 88 (x := zI (IntKind.i64.wrap ((x.n : Int) - 1))) (zI (x.n - 1 : Nat)) (eqI xk) (zza 89 (zI i) (zyq 90 (x := zI (IntKind.i64.wrap (((x.n - 1 : Nat) : Int) - (i : Int)))) (zI (((x.n - 1) - i : Nat) : Int)) (eqI xk) (zza 91 (.slc 54 0 (x.n - i) c43) (zza 92 (zI m) ?_)))))))))))
     refine zyw 93 (off' := m * 3) (n := (x.n - i)) (off := 0) (sz := 3) (i := (m : Int)) sl55 xq xq xq ?_
     refine zzi 94 (V := ⟨54, kcs Z' ++ X'⟩) (off := m * 3) (.v (.agg #[.int .i64 (gi Z' m 0), .int .i64 (gi Z' m 1), .int .i64 (gi Z' m 2)])) ty54 (part_k3 (OkR.rows hZ') (i := m) (by rw [hZn']; omega) rfl) ?_
     have hz730 := OkR.bd hZ' (i := m) (j := 0) (by rw [hZn']; omega) xw
     have hz731 := OkR.bd hZ' (i := m) (j := 1) (by rw [hZn']; omega) xw
     have hz732 := OkR.bd hZ' (i := m) (j := 2) (by rw [hZn']; omega) xw
     refine zzi 95 (.v (.agg #[.int .i64 (gi (Nt.sortR D) i 0), .int .i64 (gi (Nt.sortR D) i 1)])) ty56 zze (zza 96 (.v (.agg #[.int .i64 (gi Z' m 0), .int .i64 (gi Z' m 1), .int .i64 (gi Z' m 2), .int .i64 (gi (Nt.sortR D) i 0), .int .i64 (gi (Nt.sortR D) i 1)])) (zyw 97 (off' := ((x.n - 1) - i) * 5) (n := x.n) (off := 0) (sz := 5) (i := (((x.n - 1) - i : Nat) : Int)) sl29 xq xq xq ?_))
     have hA74 : OkR 5 ([gi Z' m 0, gi Z' m 1, gi Z' m 2, gi (Nt.sortR D) i 0, gi (Nt.sortR D) i 1] :: A') := okR_cons5 hA' xq xq xq xq xq
     have hO74 : OkR 5 (List.replicate (x.n - (i + 1)) [0, 0, 0, 0, 0] ++ ([gi Z' m 0, gi Z' m 1, gi Z' m 2, gi (Nt.sortR D) i 0, gi (Nt.sortR D) i 1] :: A')) := okR_fill hA74
     have hP74 : (List.replicate (x.n - (i + 1)) [0, 0, 0, 0, 0] ++ ([gi Z' m 0, gi Z' m 1, gi Z' m 2, gi (Nt.sortR D) i 0, gi (Nt.sortR D) i 1] :: A')).length = x.n := by rw [List.length_append, List.length_replicate, List.length_cons, hAn']; omega
     refine zyv (V := ⟨59, kcs (List.replicate (x.n - i) [0, 0, 0, 0, 0] ++ A') ++ []⟩) (off := ((x.n - 1) - i) * 5) (kcs (List.replicate (x.n - (i + 1)) [0, 0, 0, 0, 0] ++ ([gi Z' m 0, gi Z' m 1, gi Z' m 2, gi (Nt.sortR D) i 0, gi (Nt.sortR D) i 1] :: A')) ++ []) ty59 (by rw [List.length_append, kcs_len (OkR.rows hO9), hO8]; omega) (by rw [← Nt.fill_back (z := [0, 0, 0, 0, 0]) (show i < x.n by omega) [gi Z' m 0, gi Z' m 1, gi Z' m 2, gi (Nt.sortR D) i 0, gi (Nt.sortR D) i 1]]; exact (setL_k5 (OkR.rows hO9) (i := (x.n - 1) - i) (by rw [hO8]; omega) rfl)) ?_
     refine zzc 105 [(7, .slc 50 0 x.n c28), (8, .slc 54 0 (x.n - i) c43), (9, .slc 57 0 x.n x.n), (12, zI m), (58, .slc 50 0 x.n c28), (59, zI x.n), (60, zI i)] [(50, ⟨56, kcs (Nt.sortR D) ++ X29⟩), (54, ⟨54, kcs Z' ++ X'⟩), (57, ⟨59, kcs (List.replicate (x.n - (i + 1)) [0, 0, 0, 0, 0] ++ ([gi Z' m 0, gi Z' m 1, gi Z' m 2, gi (Nt.sortR D) i 0, gi (Nt.sortR D) i 1] :: A')) ++ []⟩)] (zzf (zza 98 (.slc 54 0 (x.n - i) c43) (zza 99 (zI m) (zza 100 (zI m) (zyq 101 (x := zI (IntKind.i64.wrap ((m : Int) + 1))) (zI (m + 1 : Nat)) (eqI xk) ?_)))))
     have kc75 := fun (g : Nat) (w u1 : World) (e : Ext u58 u1) (d : Dat u1 w) (hg : w.heap[g]? = some (.cells (kcs Z' ++ X').toArray 54 (0, 0))) (hu : u1.heap[g]? = some hidO) => k_cdelete (n := x.n - i) (c := c43) (i := m) d hg hu hZ' hZn' hX' xq xq xq
     refine sy_lendS 102 40 (t := 54) (V := ⟨54, kcs Z' ++ X'⟩) (len := (x.n - i)) (cap := c43) [.int .i64 m, .int .i64 (m + 1 : Nat)] xv kc75 ?_
     clear kc75
     rintro m75 _ u75 e75 ⟨hm75, X75, rfl, hX75⟩
     obtain rfl : m75 = x.n - (i + 1) := by omega
     have hE75 : (Z'.eraseIdx m).length = x.n - (i + 1) := by rw [List.length_eraseIdx, if_pos xq, hZn']; omega
     refine sy_over 8 (.slc 54 0 (x.n - (i + 1)) c43) (zzx ?_)
     refine zzp (zzf (zyq 103 (x := zI (IntKind.i64.wrap ((i : Int) + 1))) (zI (i + 1 : Nat)) (eqI xk) (zza 60 (zI (i + 1 : Nat)) (zzx ?_))))
     refine ⟨_, ?_, _, by exact zzv _ _ _, i + 1, (Z'.eraseIdx m), X75, [gi Z' m 0, gi Z' m 1, gi Z' m 2, gi (Nt.sortR D) i 0, gi (Nt.sortR D) i 1] :: A', rfl, by omega, (OkR.erase hZ'), hE75, hX75, hA74, (by rw [List.length_cons, hAn']), (by have h9 := hP'; rw [Nt.pairR_step (by rw [Nt.sortR_len]; omega), hZn', show x.n - i = j by omega, ← hm] at h9; exact h9), rfl, (e55.trans (e58.trans e75))⟩
     omega
   ·replace hb56 : (decide ((i : Int) < (x.n : Int))) = false := hb56
    have qhb56 := of_decide_eq_false hb56
    refine zyc (zzp (zzd (zyp (r := 9) (t := 57) [9, 57] xj xv (by rfl) (by rfl) xv (fun b76 u77 e78 hb79 hh80 => ?_))))
    have hp81 : IrV 5 u77 ⟨some ⟨b76, 0, none⟩, x.n, x.n⟩ (List.replicate (x.n - i) [0, 0, 0, 0, 0] ++ A') := ir_data hh80 (OkR.rows hO9) (by rw [List.append_nil, List.take_of_length_le (by rw [kcs_len (OkR.rows hO9), hO8]; omega)]) (by rw [hO8]) (by rw [List.append_nil, kcs_len (OkR.rows hO9), hO8]) xq yq
    refine zzf (zza 104 (.v (.slice (some ⟨b76, 0, none⟩) x.n x.n)) (zza 4 (.v (.slice (some ⟨b76, 0, none⟩) x.n x.n)) (zza 5 (zI 0) (zzc 105 [(4, .v (.slice (some ⟨b76, 0, none⟩) x.n x.n)), (5, zI 0)] [] (zzo (ret0 [.slice (some ⟨b76, 0, none⟩) x.n x.n, .int .i64 0] ⟨zzq, zzq, trivial⟩ fun u82 e83 => ?_))))))
    have hi9 : i = x.n := by omega
    have h9 := (hp81.ext e83)
    rw [show x.n - i = 0 by omega] at h9
    have h8 := hP'
    rw [List.drop_of_length_le (by rw [Nt.sortR_len]; omega)] at h8
    refine ⟨(⟨some ⟨b76, 0, none⟩, x.n, x.n⟩ : Sl), rfl, ?_⟩
    rw [← h8]
    exact h9
set_option maxHeartbeats 2000000 in
theorem k_known24 {u w : World} (d : Dat u w) : Calls Try.prog 5 #[] w (Post u w fun v _ => v = .bool true) := by
 refine zzm (args := []) Try.func5 rfl Try.ntmps5 (rs := [.tmp 0]) Try.results5 (le_b rfl) (le_b rfl) d ?_
 refine sq9 (zza 0 (zB false) (zzb (sq9 (zza 4 (.v (.agg #[.int .i64 1, .int .i64 0, .int .i64 1])) (zza 5 (.v (.agg #[.int .i64 1, .int .i64 2, .int .i64 1])) (zxs 6 ⟨54, [.int .i64 1, .int .i64 0, .int .i64 1, .int .i64 1, .int .i64 2, .int .i64 1]⟩ 2 (fun b11 u12 e13 h14 => ?_)))))))
 have hI15 : IrV 3 u12 (⟨some ⟨b11, 0, none⟩, 2, 2⟩ : Sl) [[1, 0, 1], [1, 2, 1]] := ir_data (cs := [.int .i64 1, .int .i64 0, .int .i64 1, .int .i64 1, .int .i64 2, .int .i64 1]) h14 xw rfl rfl rfl xw (by unfold maxLen; decide)
 refine zza 7 (.v (.agg #[.int .i64 0, .int .i64 1])) (zza 8 (.v (.agg #[.int .i64 2, .int .i64 2])) (zxs 9 ⟨56, [.int .i64 0, .int .i64 1, .int .i64 2, .int .i64 2]⟩ 2 (fun b16 u17 e18 h19 => ?_)))
 have hI20 : IrV 2 u17 (⟨some ⟨b16, 0, none⟩, 2, 2⟩ : Sl) [[0, 1], [2, 2]] := ir_data (cs := [.int .i64 0, .int .i64 1, .int .i64 2, .int .i64 2]) h19 xw rfl rfl rfl xw (by unfold maxLen; decide)
 refine zzg 10 16 [.slice (some ⟨b11, 0, none⟩) 2 2, .slice (some ⟨b16, 0, none⟩) 2 2] ?_
 intro w21 u21 e21 d21
 have k25 := (show Calls _ _ #[.slice (some ⟨b11, 0, none⟩) 2 2, .slice (some ⟨b16, 0, none⟩) 2 2] _ _ from k_cpair (x := (⟨some ⟨b11, 0, none⟩, 2, 2⟩ : Sl)) (y := (⟨some ⟨b16, 0, none⟩, 2, 2⟩ : Sl)) d21 (hI15.ext (e18.trans e21)) (hI20.ext e21) xw xw xw xw xw)
 with_reducible refine zPm k25 ?_
 rintro _ u23 g24 ⟨z22, rfl, hz22⟩
 refine zza 3 (.v (.tuple #[z22.v, .int .i64 0])) (zza 11 (.v z22.v) (zza 12 (zI 0) (zza 1 (.v z22.v) (zza 2 (zI 0) (zzb (zzd ?_))))))
 have hP9 := hz22
 rw [show (Nt.pairR (Nt.sortR ([[0, 1], [2, 2]])) ([[1, 0, 1], [1, 2, 1]]) []) = [[1, 0, 1, 0, 1], [1, 2, 1, 2, 2]] by decide] at hP9
 have hn9 := hP9.len
 change _ = 2 at hn9
 refine zzf (zza 13 (zI 0) (zza 14 (zB true) (zza 15 (zB true) (zza 16 (.v z22.v) ?_ (hw := w1 2 true 15)))))
 refine zza 17 (zI z22.n) ?_ (hw := w1 2 true 15)
 refine zza 18 (zB ((z22.n : Int) == 2)) ?_ (hw := w1 2 true 15)
 refine zza 19 (zB ((z22.n : Int) == 2)) (zyq 20 (x := zB ((z22.n : Int) == 2)) (zB true) (by rw [show ((z22.n : Int) == 2) = true from yz]) (zza 21 (.v z22.v) ?_ (hw := w1 7 true 20)))
 have hl27 := (hP9).len
 obtain ⟨b27, o27, hA27, hc27⟩ := ir_at5 hP9 (i := 0) xq
 refine zya 22 (o27 + 0 * 5) (n := z22.n) (off := o27) (sz := 5) (i := 0) xq hA27 xq xq sl29 ?_ (hw := w1 7 true 20)
 refine zym 23 [.int .i64 (gi ([[1, 0, 1, 0, 1], [1, 2, 1, 2, 2]]) 0 0), .int .i64 (gi ([[1, 0, 1, 0, 1], [1, 2, 1, 2, 2]]) 0 1), .int .i64 (gi ([[1, 0, 1, 0, 1], [1, 2, 1, 2, 2]]) 0 2), .int .i64 (gi ([[1, 0, 1, 0, 1], [1, 2, 1, 2, 2]]) 0 3), .int .i64 (gi ([[1, 0, 1, 0, 1], [1, 2, 1, 2, 2]]) 0 4)] hc27 ty59 ?_ (hw := w1 7 true 20)
 refine zza 24 (.v (.agg #[.int .i64 1, .int .i64 0, .int .i64 1])) ?_ (hw := w1 7 true 20)
 refine zza 25 (.v (.agg #[.int .i64 0, .int .i64 1])) ?_ (hw := w1 7 true 20)
 refine zza 26 (.v (.agg #[.int .i64 1, .int .i64 0, .int .i64 1, .int .i64 0, .int .i64 1])) ?_ (hw := w1 7 true 20)
 refine zza 27 (zB true) ?_ (hw := w1 7 true 20)
 refine zza 28 (zB true) (zza 29 (zB true) (zza 30 (.v z22.v) ?_ (hw := w1 16 true 29)))
 have hl28 := (hP9).len
 obtain ⟨b28, o28, hA28, hc28⟩ := ir_at5 hP9 (i := 1) xq
 refine zya 31 (o28 + 1 * 5) (n := z22.n) (off := o28) (sz := 5) (i := 1) xq hA28 xq xq sl29 ?_ (hw := w1 16 true 29)
 refine zym 32 [.int .i64 (gi ([[1, 0, 1, 0, 1], [1, 2, 1, 2, 2]]) 1 0), .int .i64 (gi ([[1, 0, 1, 0, 1], [1, 2, 1, 2, 2]]) 1 1), .int .i64 (gi ([[1, 0, 1, 0, 1], [1, 2, 1, 2, 2]]) 1 2), .int .i64 (gi ([[1, 0, 1, 0, 1], [1, 2, 1, 2, 2]]) 1 3), .int .i64 (gi ([[1, 0, 1, 0, 1], [1, 2, 1, 2, 2]]) 1 4)] hc28 ty59 ?_ (hw := w1 16 true 29)
 refine zza 33 (.v (.agg #[.int .i64 1, .int .i64 2, .int .i64 1])) ?_ (hw := w1 16 true 29)
 refine zza 34 (.v (.agg #[.int .i64 2, .int .i64 2])) ?_ (hw := w1 16 true 29)
 refine zza 35 (.v (.agg #[.int .i64 1, .int .i64 2, .int .i64 1, .int .i64 2, .int .i64 2])) ?_ (hw := w1 16 true 29)
 refine zza 36 (zB true) ?_ (hw := w1 16 true 29)
 refine zza 37 (zB true) (zza 0 (zB true) (zzc 38 [(0, zB true)] [] (zzo (ret0 [.bool true] ⟨zzq, trivial⟩ fun u29 e30 => ?_))))
 rfl
theorem Nt.div_bd {v p : Int} (hp : 0 < p) : -v.natAbs ≤ v / p ∧ v / p ≤ v.natAbs := by
 constructor
 ·rw [Int.le_ediv_iff_mul_le hp]
  have : (-(v.natAbs : Int)) * p ≤ (-(v.natAbs : Int)) * 1 := Int.mul_le_mul_of_nonpos_left xq xq
  omega
 ·by_cases h : 0 ≤ v
  ·have := Int.ediv_le_self p h; omega
  ·have := Int.ediv_neg_of_neg_of_pos (show v < 0 by omega) hp; omega
theorem k_fxShift1 {u w : World} {v n : Int} (d : Dat u w) (hv0 : -1152921504606846976 ≤ v) (hv1 : v ≤ 1152921504606846976) (hn0 : 0 ≤ n) (hn1 : n ≤ 24) : Calls Try.prog 44 #[.int .i64 v, .int .i64 n, .int .i64 1] w (Post u w fun y _ => y = .int .i64 (Nt.shiftW v n 1)) := by
 have hp1 := Nt.zxj n
 have hp2 := Nt.p2i_24 (n := n) xq
 have hd1 := Nt.div_bd (v := v) hp1
 have hm1 := Int.emod_nonneg (v / Nt.p2i (n - 1)) (show (2 : Int) ≠ 0 by decide)
 have hm2 := Int.emod_lt_of_pos (v / Nt.p2i (n - 1)) (show (0 : Int) < 2 by decide)
 refine zzm (args := [.int .i64 v, .int .i64 n, .int .i64 1]) Try.func44 rfl Try.ntmps44 (rs := [.tmp 6]) Try.results44 (le_b rfl) (le_b rfl) d ?_
 refine sq9 (zza 6 (zI 0) (zzb (zzd (sq9 (zza 9 (zI n) (zza 10 (zB (decide (n < 0))) (zyq 11 (x := zB (decide (n < 0))) (zB false) (by rw [show (decide (n < 0)) = false from decide_eq_false xq]) (zza 12 (zI n) ?_ (hw := w1 2 false 11)))))))))
 refine zza 13 (zB (decide ((62 : Int) < n))) ?_ (hw := w1 2 false 11)
 refine zza 14 (zB (decide ((62 : Int) < n))) (zyq 15 (x := zB (decide ((62 : Int) < n))) (zB false) (by rw [show (decide ((62 : Int) < n)) = false from decide_eq_false xq]) (zza 16 (zI 1) ?_ (hw := w1 6 false 15)))
 refine zzg 17 42 [.int .i64 1] ?_ (hw := w1 6 false 15)
 intro w13 u13 e13 d13
 have k16 := k_mode (r := 1) d13 xq xq
 with_reducible refine zPm k16 ?_
 rintro _ u14 g15 rfl
 refine zza 18 (zB false) ?_ (hw := w1 6 false 15)
 refine zza 19 (zB false) (zzb (zys xv (zzs (zzp ?_))))
 refine zzd (sq9 (zza 20 (zI n) (zza 21 (zB (n == 0)) (zzb (zzu (b := n == 0) xv (fun hb17 => ?_) (fun hb17 => ?_))))))
 ·replace hb17 : (n == 0) = true := hb17
  have qhb17 := hb17
  simp at qhb17
  refine sq9 (zza 22 (zI v) (zza 6 (zI v) (zzb (zzo (zzw (ret0 [.int .i64 v] ⟨zzq, trivial⟩ fun u18 e19 => ?_))))))
  show Value.int _ _ = Value.int _ _
  unfold Nt.shiftW
  rw [if_pos qhb17]
 ·replace hb17 : (n == 0) = false := hb17
  have qhb17 := hb17
  simp at qhb17
  refine zzs (zzp ?_)
  refine sq9 (zza 23 (zI v) (zza 24 (zI n) (sy_shr 25 (k := .i64) (n := v) (s := n) (v / Nt.p2i n) xq yv rfl ?_)))
  refine zza 7 (zI (v / Nt.p2i n)) (zzb (sq9 (zza 26 (zI (v / Nt.p2i n)) (zza 27 (zI (v / Nt.p2i n)) (zza 28 (zI v) (zza 29 (zI n) (zyq 30 (x := zI (IntKind.i64.wrap (n - 1))) (zI (n - 1)) xz (sy_shr 31 (k := .i64) (n := v) (s := n - 1) (v / Nt.p2i (n - 1)) xq yv rfl ?_))))))))
  refine zyq 32 (x := zI (bits .and .i64 (v / Nt.p2i (n - 1)) 1)) (zI (v / Nt.p2i (n - 1) % 2)) (eqI (Nt.bits_1 _)) (zyq 33 (x := zI (IntKind.i64.wrap ((v / Nt.p2i n) + (v / Nt.p2i (n - 1) % 2)))) (zI ((v / Nt.p2i n) + (v / Nt.p2i (n - 1) % 2))) xz (zza 34 (zI (v / Nt.p2i n)) (zza 35 (.v (.agg #[.int .i64 (v / Nt.p2i n), .int .i64 ((v / Nt.p2i n) + (v / Nt.p2i (n - 1) % 2)), .int .i64 (v / Nt.p2i n)])) (zzk 8 ⟨54, [.int .i64 0, .int .i64 0, .int .i64 0]⟩ (zzj ⟨54, [.int .i64 (v / Nt.p2i n), .int .i64 ((v / Nt.p2i n) + (v / Nt.p2i (n - 1) % 2)), .int .i64 (v / Nt.p2i n)]⟩ ty54 ?_)))))
  refine zzb (zzd (sq9 (zza 36 (zI v) (zza 37 (zB (decide (v < 0))) ?_))))
  rcases Bool.eq_false_or_eq_true (decide (v < 0)) with hs20 | hs20
  ·refine zyq 38 (x := zB (decide (v < 0))) (zB true) (by rw [hs20]) ?_
   have qhs20 := of_decide_eq_true hs20
   refine zza 39 (zI v) ?_ (hw := w1 2 true 38)
   refine zza 40 (zI n) ?_ (hw := w1 2 true 38)
   refine sy_shl 41 (k := .i64) (s := n) (Nt.p2i n) xq yv (shl_one xq xq) ?_ (hw := w1 2 true 38)
   refine zyq 42 (x := zI (IntKind.i64.wrap ((Nt.p2i n) - 1))) (zI ((Nt.p2i n) - 1)) xz ?_ (hw := w1 2 true 38)
   refine zyq 43 (x := zI (bits .and .i64 v (Nt.p2i n - 1))) (zI (v % Nt.p2i n)) (eqI (Nt.bits_p2 xq xq)) ?_ (hw := w1 2 true 38)
   refine zza 44 (zB ((v % Nt.p2i n) != 0)) ?_ (hw := w1 2 true 38)
   refine zza 45 (zB ((v % Nt.p2i n) != 0)) (zzc 54 [(2, zI 1), (8, .adr 8 0), (45, zB ((v % Nt.p2i n) != 0))] [(8, ⟨54, [.int .i64 (v / Nt.p2i n), .int .i64 ((v / Nt.p2i n) + (v / Nt.p2i (n - 1) % 2)), .int .i64 (v / Nt.p2i n)]⟩)] (zzu (b := (v % Nt.p2i n) != 0) xv (fun hb21 => ?_) (fun hb21 => ?_)))
   ·replace hb21 : ((v % Nt.p2i n) != 0) = true := hb21
    have qhb21 := hb21
    simp at qhb21
    refine zzf (zza 46 (.adr 8 2) (zzi 47 (zI (v / Nt.p2i n)) ty3 zzl (zyq 48 (x := zI (IntKind.i64.wrap ((v / Nt.p2i n) + 1))) (zI ((v / Nt.p2i n) + 1)) xz (zza 49 (.adr 8 2) (zzj ⟨54, [.int .i64 (v / Nt.p2i n), .int .i64 ((v / Nt.p2i n) + (v / Nt.p2i (n - 1) % 2)), .int .i64 ((v / Nt.p2i n) + 1)]⟩ ty3 ?_)))))
    refine zzb (sq9 (zza 50 (zI 1) (zza 51 (zI 0) (zza 52 (.adr 8 0) (zzi 53 (zI (v / Nt.p2i n)) ty3 zzl (zza 6 (zI (v / Nt.p2i n)) (zzb (zzo (ret0 [.int .i64 (v / Nt.p2i n)] ⟨zzq, trivial⟩ fun u22 e23 => ?_)))))))))
    show Value.int _ _ = Value.int _ _
    unfold Nt.shiftW
    rw [if_neg qhb17]
    rw [if_neg xw]
    rw [if_neg (by rintro ⟨h9, _⟩; exact absurd h9 xw)]
   ·replace hb21 : ((v % Nt.p2i n) != 0) = false := hb21
    have qhb21 := hb21
    simp at qhb21
    refine zzs (zzp ?_)
    refine sq9 (zza 50 (zI 1) (zza 51 (zI 0) (zza 52 (.adr 8 0) (zzi 53 (zI (v / Nt.p2i n)) ty3 zzl (zza 6 (zI (v / Nt.p2i n)) (zzb (zzo (ret0 [.int .i64 (v / Nt.p2i n)] ⟨zzq, trivial⟩ fun u24 e25 => ?_))))))))
    show Value.int _ _ = Value.int _ _
    unfold Nt.shiftW
    rw [if_neg qhb17]
    rw [if_neg xw]
    rw [if_neg (by rintro ⟨h9, _⟩; exact absurd h9 xw)]
  ·refine zyq 38 (x := zB (decide (v < 0))) (zB false) (by rw [hs20]) ?_
   have qhs20 := of_decide_eq_false hs20
   refine zzn 39 (uw 2 true false 38) (zzn 40 (uw 2 true false 38) (zzn 41 (uw 2 true false 38) (zzn 42 (uw 2 true false 38) (zzn 43 (uw 2 true false 38) (zzn 44 (uw 2 true false 38) (zza 45 (zB false) (zzc 54 [(2, zI 1), (8, .adr 8 0), (45, zB false)] [(8, ⟨54, [.int .i64 (v / Nt.p2i n), .int .i64 ((v / Nt.p2i n) + (v / Nt.p2i (n - 1) % 2)), .int .i64 (v / Nt.p2i n)]⟩)] (zys xv (zzs (zzp ?_))))))))))
   refine sq9 (zza 50 (zI 1) (zza 51 (zI 0) (zza 52 (.adr 8 0) (zzi 53 (zI (v / Nt.p2i n)) ty3 zzl (zza 6 (zI (v / Nt.p2i n)) (zzb (zzo (ret0 [.int .i64 (v / Nt.p2i n)] ⟨zzq, trivial⟩ fun u26 e27 => ?_))))))))
   show Value.int _ _ = Value.int _ _
   unfold Nt.shiftW
   rw [if_neg qhb17]
   rw [if_neg xw]
   rw [if_neg (by rintro ⟨h9, _⟩; exact absurd h9 xw)]
theorem k_fxShift2 {u w : World} {v n : Int} (d : Dat u w) (hv0 : -1152921504606846976 ≤ v) (hv1 : v ≤ 1152921504606846976) (hn0 : 0 ≤ n) (hn1 : n ≤ 24) : Calls Try.prog 44 #[.int .i64 v, .int .i64 n, .int .i64 2] w (Post u w fun y _ => y = .int .i64 (Nt.shiftW v n 2)) := by
 have hp1 := Nt.zxj n
 have hp2 := Nt.p2i_24 (n := n) xq
 have hd1 := Nt.div_bd (v := v) hp1
 have hm1 := Int.emod_nonneg (v / Nt.p2i (n - 1)) (show (2 : Int) ≠ 0 by decide)
 have hm2 := Int.emod_lt_of_pos (v / Nt.p2i (n - 1)) (show (0 : Int) < 2 by decide)
 refine zzm (args := [.int .i64 v, .int .i64 n, .int .i64 2]) Try.func44 rfl Try.ntmps44 (rs := [.tmp 6]) Try.results44 (le_b rfl) (le_b rfl) d ?_
 refine sq9 (zza 6 (zI 0) (zzb (zzd (sq9 (zza 9 (zI n) (zza 10 (zB (decide (n < 0))) (zyq 11 (x := zB (decide (n < 0))) (zB false) (by rw [show (decide (n < 0)) = false from decide_eq_false xq]) (zza 12 (zI n) ?_ (hw := w1 2 false 11)))))))))
 refine zza 13 (zB (decide ((62 : Int) < n))) ?_ (hw := w1 2 false 11)
 refine zza 14 (zB (decide ((62 : Int) < n))) (zyq 15 (x := zB (decide ((62 : Int) < n))) (zB false) (by rw [show (decide ((62 : Int) < n)) = false from decide_eq_false xq]) (zza 16 (zI 2) ?_ (hw := w1 6 false 15)))
 refine zzg 17 42 [.int .i64 2] ?_ (hw := w1 6 false 15)
 intro w13 u13 e13 d13
 have k16 := k_mode (r := 2) d13 xq xq
 with_reducible refine zPm k16 ?_
 rintro _ u14 g15 rfl
 refine zza 18 (zB false) ?_ (hw := w1 6 false 15)
 refine zza 19 (zB false) (zzb (zys xv (zzs (zzp ?_))))
 refine zzd (sq9 (zza 20 (zI n) (zza 21 (zB (n == 0)) (zzb (zzu (b := n == 0) xv (fun hb17 => ?_) (fun hb17 => ?_))))))
 ·replace hb17 : (n == 0) = true := hb17
  have qhb17 := hb17
  simp at qhb17
  refine sq9 (zza 22 (zI v) (zza 6 (zI v) (zzb (zzo (zzw (ret0 [.int .i64 v] ⟨zzq, trivial⟩ fun u18 e19 => ?_))))))
  show Value.int _ _ = Value.int _ _
  unfold Nt.shiftW
  rw [if_pos qhb17]
 ·replace hb17 : (n == 0) = false := hb17
  have qhb17 := hb17
  simp at qhb17
  refine zzs (zzp ?_)
  refine sq9 (zza 23 (zI v) (zza 24 (zI n) (sy_shr 25 (k := .i64) (n := v) (s := n) (v / Nt.p2i n) xq yv rfl ?_)))
  refine zza 7 (zI (v / Nt.p2i n)) (zzb (sq9 (zza 26 (zI (v / Nt.p2i n)) (zza 27 (zI (v / Nt.p2i n)) (zza 28 (zI v) (zza 29 (zI n) (zyq 30 (x := zI (IntKind.i64.wrap (n - 1))) (zI (n - 1)) xz (sy_shr 31 (k := .i64) (n := v) (s := n - 1) (v / Nt.p2i (n - 1)) xq yv rfl ?_))))))))
  refine zyq 32 (x := zI (bits .and .i64 (v / Nt.p2i (n - 1)) 1)) (zI (v / Nt.p2i (n - 1) % 2)) (eqI (Nt.bits_1 _)) (zyq 33 (x := zI (IntKind.i64.wrap ((v / Nt.p2i n) + (v / Nt.p2i (n - 1) % 2)))) (zI ((v / Nt.p2i n) + (v / Nt.p2i (n - 1) % 2))) xz (zza 34 (zI (v / Nt.p2i n)) (zza 35 (.v (.agg #[.int .i64 (v / Nt.p2i n), .int .i64 ((v / Nt.p2i n) + (v / Nt.p2i (n - 1) % 2)), .int .i64 (v / Nt.p2i n)])) (zzk 8 ⟨54, [.int .i64 0, .int .i64 0, .int .i64 0]⟩ (zzj ⟨54, [.int .i64 (v / Nt.p2i n), .int .i64 ((v / Nt.p2i n) + (v / Nt.p2i (n - 1) % 2)), .int .i64 (v / Nt.p2i n)]⟩ ty54 ?_)))))
  refine zzb (zzd (sq9 (zza 36 (zI v) (zza 37 (zB (decide (v < 0))) ?_))))
  rcases Bool.eq_false_or_eq_true (decide (v < 0)) with hs20 | hs20
  ·refine zyq 38 (x := zB (decide (v < 0))) (zB true) (by rw [hs20]) ?_
   have qhs20 := of_decide_eq_true hs20
   refine zza 39 (zI v) ?_ (hw := w1 2 true 38)
   refine zza 40 (zI n) ?_ (hw := w1 2 true 38)
   refine sy_shl 41 (k := .i64) (s := n) (Nt.p2i n) xq yv (shl_one xq xq) ?_ (hw := w1 2 true 38)
   refine zyq 42 (x := zI (IntKind.i64.wrap ((Nt.p2i n) - 1))) (zI ((Nt.p2i n) - 1)) xz ?_ (hw := w1 2 true 38)
   refine zyq 43 (x := zI (bits .and .i64 v (Nt.p2i n - 1))) (zI (v % Nt.p2i n)) (eqI (Nt.bits_p2 xq xq)) ?_ (hw := w1 2 true 38)
   refine zza 44 (zB ((v % Nt.p2i n) != 0)) ?_ (hw := w1 2 true 38)
   refine zza 45 (zB ((v % Nt.p2i n) != 0)) (zzc 54 [(2, zI 2), (8, .adr 8 0), (45, zB ((v % Nt.p2i n) != 0))] [(8, ⟨54, [.int .i64 (v / Nt.p2i n), .int .i64 ((v / Nt.p2i n) + (v / Nt.p2i (n - 1) % 2)), .int .i64 (v / Nt.p2i n)]⟩)] (zzu (b := (v % Nt.p2i n) != 0) xv (fun hb21 => ?_) (fun hb21 => ?_)))
   ·replace hb21 : ((v % Nt.p2i n) != 0) = true := hb21
    have qhb21 := hb21
    simp at qhb21
    refine zzf (zza 46 (.adr 8 2) (zzi 47 (zI (v / Nt.p2i n)) ty3 zzl (zyq 48 (x := zI (IntKind.i64.wrap ((v / Nt.p2i n) + 1))) (zI ((v / Nt.p2i n) + 1)) xz (zza 49 (.adr 8 2) (zzj ⟨54, [.int .i64 (v / Nt.p2i n), .int .i64 ((v / Nt.p2i n) + (v / Nt.p2i (n - 1) % 2)), .int .i64 ((v / Nt.p2i n) + 1)]⟩ ty3 ?_)))))
    refine zzb (sq9 (zza 50 (zI 2) (zza 51 (zI 1) (zza 52 (.adr 8 1) (zzi 53 (zI ((v / Nt.p2i n) + (v / Nt.p2i (n - 1) % 2))) ty3 zzl (zza 6 (zI ((v / Nt.p2i n) + (v / Nt.p2i (n - 1) % 2))) (zzb (zzo (ret0 [.int .i64 ((v / Nt.p2i n) + (v / Nt.p2i (n - 1) % 2))] ⟨zzq, trivial⟩ fun u22 e23 => ?_)))))))))
    show Value.int _ _ = Value.int _ _
    unfold Nt.shiftW
    rw [if_neg qhb17]
    rw [if_pos rfl]
   ·replace hb21 : ((v % Nt.p2i n) != 0) = false := hb21
    have qhb21 := hb21
    simp at qhb21
    refine zzs (zzp ?_)
    refine sq9 (zza 50 (zI 2) (zza 51 (zI 1) (zza 52 (.adr 8 1) (zzi 53 (zI ((v / Nt.p2i n) + (v / Nt.p2i (n - 1) % 2))) ty3 zzl (zza 6 (zI ((v / Nt.p2i n) + (v / Nt.p2i (n - 1) % 2))) (zzb (zzo (ret0 [.int .i64 ((v / Nt.p2i n) + (v / Nt.p2i (n - 1) % 2))] ⟨zzq, trivial⟩ fun u24 e25 => ?_))))))))
    show Value.int _ _ = Value.int _ _
    unfold Nt.shiftW
    rw [if_neg qhb17]
    rw [if_pos rfl]
  ·refine zyq 38 (x := zB (decide (v < 0))) (zB false) (by rw [hs20]) ?_
   have qhs20 := of_decide_eq_false hs20
   refine zzn 39 (uw 2 true false 38) (zzn 40 (uw 2 true false 38) (zzn 41 (uw 2 true false 38) (zzn 42 (uw 2 true false 38) (zzn 43 (uw 2 true false 38) (zzn 44 (uw 2 true false 38) (zza 45 (zB false) (zzc 54 [(2, zI 2), (8, .adr 8 0), (45, zB false)] [(8, ⟨54, [.int .i64 (v / Nt.p2i n), .int .i64 ((v / Nt.p2i n) + (v / Nt.p2i (n - 1) % 2)), .int .i64 (v / Nt.p2i n)]⟩)] (zys xv (zzs (zzp ?_))))))))))
   refine sq9 (zza 50 (zI 2) (zza 51 (zI 1) (zza 52 (.adr 8 1) (zzi 53 (zI ((v / Nt.p2i n) + (v / Nt.p2i (n - 1) % 2))) ty3 zzl (zza 6 (zI ((v / Nt.p2i n) + (v / Nt.p2i (n - 1) % 2))) (zzb (zzo (ret0 [.int .i64 ((v / Nt.p2i n) + (v / Nt.p2i (n - 1) % 2))] ⟨zzq, trivial⟩ fun u26 e27 => ?_))))))))
   show Value.int _ _ = Value.int _ _
   unfold Nt.shiftW
   rw [if_neg qhb17]
   rw [if_pos rfl]
theorem k_fxShift3 {u w : World} {v n : Int} (d : Dat u w) (hv0 : -1152921504606846976 ≤ v) (hv1 : v ≤ 1152921504606846976) (hn0 : 0 ≤ n) (hn1 : n ≤ 24) : Calls Try.prog 44 #[.int .i64 v, .int .i64 n, .int .i64 3] w (Post u w fun y _ => y = .int .i64 (Nt.shiftW v n 3)) := by
 have hp1 := Nt.zxj n
 have hp2 := Nt.p2i_24 (n := n) xq
 have hd1 := Nt.div_bd (v := v) hp1
 have hm1 := Int.emod_nonneg (v / Nt.p2i (n - 1)) (show (2 : Int) ≠ 0 by decide)
 have hm2 := Int.emod_lt_of_pos (v / Nt.p2i (n - 1)) (show (0 : Int) < 2 by decide)
 refine zzm (args := [.int .i64 v, .int .i64 n, .int .i64 3]) Try.func44 rfl Try.ntmps44 (rs := [.tmp 6]) Try.results44 (le_b rfl) (le_b rfl) d ?_
 refine sq9 (zza 6 (zI 0) (zzb (zzd (sq9 (zza 9 (zI n) (zza 10 (zB (decide (n < 0))) (zyq 11 (x := zB (decide (n < 0))) (zB false) (by rw [show (decide (n < 0)) = false from decide_eq_false xq]) (zza 12 (zI n) ?_ (hw := w1 2 false 11)))))))))
 refine zza 13 (zB (decide ((62 : Int) < n))) ?_ (hw := w1 2 false 11)
 refine zza 14 (zB (decide ((62 : Int) < n))) (zyq 15 (x := zB (decide ((62 : Int) < n))) (zB false) (by rw [show (decide ((62 : Int) < n)) = false from decide_eq_false xq]) (zza 16 (zI 3) ?_ (hw := w1 6 false 15)))
 refine zzg 17 42 [.int .i64 3] ?_ (hw := w1 6 false 15)
 intro w13 u13 e13 d13
 have k16 := k_mode (r := 3) d13 xq xq
 with_reducible refine zPm k16 ?_
 rintro _ u14 g15 rfl
 refine zza 18 (zB false) ?_ (hw := w1 6 false 15)
 refine zza 19 (zB false) (zzb (zys xv (zzs (zzp ?_))))
 refine zzd (sq9 (zza 20 (zI n) (zza 21 (zB (n == 0)) (zzb (zzu (b := n == 0) xv (fun hb17 => ?_) (fun hb17 => ?_))))))
 ·replace hb17 : (n == 0) = true := hb17
  have qhb17 := hb17
  simp at qhb17
  refine sq9 (zza 22 (zI v) (zza 6 (zI v) (zzb (zzo (zzw (ret0 [.int .i64 v] ⟨zzq, trivial⟩ fun u18 e19 => ?_))))))
  show Value.int _ _ = Value.int _ _
  unfold Nt.shiftW
  rw [if_pos qhb17]
 ·replace hb17 : (n == 0) = false := hb17
  have qhb17 := hb17
  simp at qhb17
  refine zzs (zzp ?_)
  refine sq9 (zza 23 (zI v) (zza 24 (zI n) (sy_shr 25 (k := .i64) (n := v) (s := n) (v / Nt.p2i n) xq yv rfl ?_)))
  refine zza 7 (zI (v / Nt.p2i n)) (zzb (sq9 (zza 26 (zI (v / Nt.p2i n)) (zza 27 (zI (v / Nt.p2i n)) (zza 28 (zI v) (zza 29 (zI n) (zyq 30 (x := zI (IntKind.i64.wrap (n - 1))) (zI (n - 1)) xz (sy_shr 31 (k := .i64) (n := v) (s := n - 1) (v / Nt.p2i (n - 1)) xq yv rfl ?_))))))))
  refine zyq 32 (x := zI (bits .and .i64 (v / Nt.p2i (n - 1)) 1)) (zI (v / Nt.p2i (n - 1) % 2)) (eqI (Nt.bits_1 _)) (zyq 33 (x := zI (IntKind.i64.wrap ((v / Nt.p2i n) + (v / Nt.p2i (n - 1) % 2)))) (zI ((v / Nt.p2i n) + (v / Nt.p2i (n - 1) % 2))) xz (zza 34 (zI (v / Nt.p2i n)) (zza 35 (.v (.agg #[.int .i64 (v / Nt.p2i n), .int .i64 ((v / Nt.p2i n) + (v / Nt.p2i (n - 1) % 2)), .int .i64 (v / Nt.p2i n)])) (zzk 8 ⟨54, [.int .i64 0, .int .i64 0, .int .i64 0]⟩ (zzj ⟨54, [.int .i64 (v / Nt.p2i n), .int .i64 ((v / Nt.p2i n) + (v / Nt.p2i (n - 1) % 2)), .int .i64 (v / Nt.p2i n)]⟩ ty54 ?_)))))
  refine zzb (zzd (sq9 (zza 36 (zI v) (zza 37 (zB (decide (v < 0))) ?_))))
  rcases Bool.eq_false_or_eq_true (decide (v < 0)) with hs20 | hs20
  ·refine zyq 38 (x := zB (decide (v < 0))) (zB true) (by rw [hs20]) ?_
   have qhs20 := of_decide_eq_true hs20
   refine zza 39 (zI v) ?_ (hw := w1 2 true 38)
   refine zza 40 (zI n) ?_ (hw := w1 2 true 38)
   refine sy_shl 41 (k := .i64) (s := n) (Nt.p2i n) xq yv (shl_one xq xq) ?_ (hw := w1 2 true 38)
   refine zyq 42 (x := zI (IntKind.i64.wrap ((Nt.p2i n) - 1))) (zI ((Nt.p2i n) - 1)) xz ?_ (hw := w1 2 true 38)
   refine zyq 43 (x := zI (bits .and .i64 v (Nt.p2i n - 1))) (zI (v % Nt.p2i n)) (eqI (Nt.bits_p2 xq xq)) ?_ (hw := w1 2 true 38)
   refine zza 44 (zB ((v % Nt.p2i n) != 0)) ?_ (hw := w1 2 true 38)
   refine zza 45 (zB ((v % Nt.p2i n) != 0)) (zzc 54 [(2, zI 3), (8, .adr 8 0), (45, zB ((v % Nt.p2i n) != 0))] [(8, ⟨54, [.int .i64 (v / Nt.p2i n), .int .i64 ((v / Nt.p2i n) + (v / Nt.p2i (n - 1) % 2)), .int .i64 (v / Nt.p2i n)]⟩)] (zzu (b := (v % Nt.p2i n) != 0) xv (fun hb21 => ?_) (fun hb21 => ?_)))
   ·replace hb21 : ((v % Nt.p2i n) != 0) = true := hb21
    have qhb21 := hb21
    simp at qhb21
    refine zzf (zza 46 (.adr 8 2) (zzi 47 (zI (v / Nt.p2i n)) ty3 zzl (zyq 48 (x := zI (IntKind.i64.wrap ((v / Nt.p2i n) + 1))) (zI ((v / Nt.p2i n) + 1)) xz (zza 49 (.adr 8 2) (zzj ⟨54, [.int .i64 (v / Nt.p2i n), .int .i64 ((v / Nt.p2i n) + (v / Nt.p2i (n - 1) % 2)), .int .i64 ((v / Nt.p2i n) + 1)]⟩ ty3 ?_)))))
    refine zzb (sq9 (zza 50 (zI 3) (zza 51 (zI 2) (zza 52 (.adr 8 2) (zzi 53 (zI ((v / Nt.p2i n) + 1)) ty3 zzl (zza 6 (zI ((v / Nt.p2i n) + 1)) (zzb (zzo (ret0 [.int .i64 ((v / Nt.p2i n) + 1)] ⟨zzq, trivial⟩ fun u22 e23 => ?_)))))))))
    show Value.int _ _ = Value.int _ _
    unfold Nt.shiftW
    rw [if_neg qhb17]
    rw [if_neg xw]
    rw [if_pos ⟨rfl, qhs20, qhb21⟩]
   ·replace hb21 : ((v % Nt.p2i n) != 0) = false := hb21
    have qhb21 := hb21
    simp at qhb21
    refine zzs (zzp ?_)
    refine sq9 (zza 50 (zI 3) (zza 51 (zI 2) (zza 52 (.adr 8 2) (zzi 53 (zI (v / Nt.p2i n)) ty3 zzl (zza 6 (zI (v / Nt.p2i n)) (zzb (zzo (ret0 [.int .i64 (v / Nt.p2i n)] ⟨zzq, trivial⟩ fun u24 e25 => ?_))))))))
    show Value.int _ _ = Value.int _ _
    unfold Nt.shiftW
    rw [if_neg qhb17]
    rw [if_neg xw]
    rw [if_neg (by rintro ⟨_, _, h9⟩; exact h9 qhb21)]
  ·refine zyq 38 (x := zB (decide (v < 0))) (zB false) (by rw [hs20]) ?_
   have qhs20 := of_decide_eq_false hs20
   refine zzn 39 (uw 2 true false 38) (zzn 40 (uw 2 true false 38) (zzn 41 (uw 2 true false 38) (zzn 42 (uw 2 true false 38) (zzn 43 (uw 2 true false 38) (zzn 44 (uw 2 true false 38) (zza 45 (zB false) (zzc 54 [(2, zI 3), (8, .adr 8 0), (45, zB false)] [(8, ⟨54, [.int .i64 (v / Nt.p2i n), .int .i64 ((v / Nt.p2i n) + (v / Nt.p2i (n - 1) % 2)), .int .i64 (v / Nt.p2i n)]⟩)] (zys xv (zzs (zzp ?_))))))))))
   refine sq9 (zza 50 (zI 3) (zza 51 (zI 2) (zza 52 (.adr 8 2) (zzi 53 (zI (v / Nt.p2i n)) ty3 zzl (zza 6 (zI (v / Nt.p2i n)) (zzb (zzo (ret0 [.int .i64 (v / Nt.p2i n)] ⟨zzq, trivial⟩ fun u26 e27 => ?_))))))))
   show Value.int _ _ = Value.int _ _
   unfold Nt.shiftW
   rw [if_neg qhb17]
   rw [if_neg xw]
   rw [if_neg (by rintro ⟨_, h9, _⟩; exact absurd h9 xq)]
theorem k_fxShift {u w : World} {v n r : Int} (d : Dat u w) (hv0 : -1152921504606846976 ≤ v) (hv1 : v ≤ 1152921504606846976) (hn0 : 0 ≤ n) (hn1 : n ≤ 24) (hr : 1 ≤ r ∧ r ≤ 3) : Calls Try.prog 44 #[.int .i64 v, .int .i64 n, .int .i64 r] w (Post u w fun y _ => y = .int .i64 (Nt.shiftW v n r)) := by
 obtain rfl | rfl | rfl : r = 1 ∨ r = 2 ∨ r = 3 := by omega
 ·exact k_fxShift1 d hv0 hv1 hn0 hn1
 ·exact k_fxShift2 d hv0 hv1 hn0 hn1
 ·exact k_fxShift3 d hv0 hv1 hn0 hn1
theorem k_fxWrap {u w : World} {b v : Int} (d : Dat u w) (hb0 : 1 ≤ b) (hb1 : b ≤ 62) : Calls Try.prog 67 #[.int .i64 b, .int .i64 v] w (Post u w fun y _ => y = .int .i64 (Nt.wrapW b v)) := by
 have hp1 := Nt.zxj b
 have hp2 : Nt.p2i b ≤ 4611686018427387904 := Nt.zxz (b := 62) xq
 have hp3 := Nt.zxj (b - 1)
 have hp4 : Nt.p2i (b - 1) ≤ Nt.p2i b := Nt.zxz xq
 have hm1 := Int.emod_nonneg v (show Nt.p2i b ≠ 0 by omega)
 have hm2 := Int.emod_lt_of_pos v hp1
 refine zzm (args := [.int .i64 b, .int .i64 v]) Try.func67 rfl Try.ntmps67 (rs := [.tmp 4]) Try.results67 (le_b rfl) (le_b rfl) d ?_
 refine sq9 (zza 4 (zI 0) (zzb (zzd (sq9 (zza 6 (zI b) (zza 7 (zB (decide (b < 1))) (zyq 8 (x := zB (decide (b < 1))) (zB false) (by rw [show (decide (b < 1)) = false from decide_eq_false xq]) (zza 9 (zI b) ?_ (hw := w1 2 false 8)))))))))
 refine zza 10 (zB (decide ((62 : Int) < b))) ?_ (hw := w1 2 false 8)
 refine zza 11 (zB (decide ((62 : Int) < b))) (zzb (zzu (b := decide ((62 : Int) < b)) xv (fun hb => ?_) (fun hb => ?_)))
 ·exact absurd hb (by rw [show (decide ((62 : Int) < b)) = false from decide_eq_false xq]; decide)
 ·clear hb
  refine zzs (zzp ?_)
  refine sq9 (zza 12 (zI v) (zza 13 (zI b) (sy_shl 14 (k := .i64) (s := b) (Nt.p2i b) xq yv (Nt.shl_one9 xq xq) ?_)))
  refine zyq 15 (x := zI (IntKind.i64.wrap ((Nt.p2i b) - 1))) (zI ((Nt.p2i b) - 1)) xz (zyq 16 (x := zI (bits .and .i64 v (Nt.p2i b - 1))) (zI (v % Nt.p2i b)) (eqI (Nt.bits_p2 xq xq)) (zza 5 (zI (v % Nt.p2i b)) (zzb (zzd (sq9 (zza 17 (zI (v % Nt.p2i b)) (zza 18 (zI b) (zyq 19 (x := zI (IntKind.i64.wrap (b - 1))) (zI (b - 1)) xz (sy_shl 20 (k := .i64) (s := b - 1) (Nt.p2i (b - 1)) xq yv (Nt.shl_one9 xq xq) ?_)))))))))
  refine zza 21 (zB (decide ((Nt.p2i (b - 1)) ≤ (v % Nt.p2i b)))) (zzb (zzu (b := decide ((Nt.p2i (b - 1)) ≤ (v % Nt.p2i b))) xv (fun hb12 => ?_) (fun hb12 => ?_)))
  ·replace hb12 : (decide ((Nt.p2i (b - 1)) ≤ (v % Nt.p2i b))) = true := hb12
   have qhb12 := of_decide_eq_true hb12
   refine zzf (zza 22 (zI (v % Nt.p2i b)) (zza 23 (zI b) (sy_shl 24 (k := .i64) (s := b) (Nt.p2i b) xq yv (Nt.shl_one9 xq xq) ?_)))
   refine zyq 25 (x := zI (IntKind.i64.wrap ((v % Nt.p2i b) - (Nt.p2i b)))) (zI ((v % Nt.p2i b) - (Nt.p2i b))) xz (zza 5 (zI ((v % Nt.p2i b) - (Nt.p2i b))) (zzb (sq9 (zza 26 (zI ((v % Nt.p2i b) - (Nt.p2i b))) (zza 4 (zI ((v % Nt.p2i b) - (Nt.p2i b))) (zzb (zzo (ret0 [.int .i64 ((v % Nt.p2i b) - (Nt.p2i b))] ⟨zzq, trivial⟩ fun u13 e14 => ?_))))))))
   show Value.int _ _ = Value.int _ _
   unfold Nt.wrapW
   rw [if_pos xq]
  ·replace hb12 : (decide ((Nt.p2i (b - 1)) ≤ (v % Nt.p2i b))) = false := hb12
   have qhb12 := of_decide_eq_false hb12
   refine zzs (zzp ?_)
   refine sq9 (zza 26 (zI (v % Nt.p2i b)) (zza 4 (zI (v % Nt.p2i b)) (zzb (zzo (ret0 [.int .i64 (v % Nt.p2i b)] ⟨zzq, trivial⟩ fun u15 e16 => ?_)))))
   show Value.int _ _ = Value.int _ _
   unfold Nt.wrapW
   rw [if_neg xq]
theorem k_fxSat {u w : World} {D : WL} {v : Int} (d : Dat u w) (hW : WdOK D) : Calls Try.prog 68 #[D.v, .int .i64 v] w (Post u w fun y _ => y = .int .i64 (Nt.satW D.b v)) := by
 obtain ⟨hw1, hw2, hw3, hw4, hw5, hw6, hw7, hw8⟩ := id hW
 refine zzm (args := [.agg #[.int .i64 D.b, .int .i64 D.f, .int .i64 D.r, .int .i64 D.o], .int .i64 v]) Try.func68 rfl Try.ntmps68 (rs := [.tmp 4]) Try.results68 (le_b rfl) (le_b rfl) d ?_
 refine sq9 (zzk 2 ⟨27, D.cs⟩ (zza 4 (zI 0) (zzb (zzd (zzz [0, 0, 2, 7, 0, 22, 63, 127] [(0, []), (1, []), (4, []), (2, []), (3, []), (5, []), (6, []), (7, [])] xv xv (zza 5 (zI v) (zzi 6 (.v (D.v)) ty27 zze (zzi 9 (.v (D.v)) ty27 zze (zzg 7 65 [D.v] ?_)))))))))
 intro w11 u11 e11 d11
 have k14 := k_fxLow (W := D) d11 hW
 with_reducible refine zPm k14 ?_
 rintro _ u12 g13 rfl
 refine sy_maxN 8 (n := v) (m := -Nt.p2i (D.b - 1)) (v := if -Nt.p2i (D.b - 1) > v then -Nt.p2i (D.b - 1) else v) rfl ?_
 refine zzg 10 66 [D.v] ?_
 intro w15 u15 e15 d15
 have k18 := k_fxHigh (W := D) d15 hW
 with_reducible refine zPm k18 ?_
 rintro _ u16 g17 rfl
 refine sy_minN 11 (n := if -Nt.p2i (D.b - 1) > v then -Nt.p2i (D.b - 1) else v) (m := Nt.p2i (D.b - 1) - 1) (v := Nt.satW D.b v) rfl ?_
 refine zza 4 (zI (Nt.satW D.b v)) (zzb (zzo (ret0 [.int .i64 (Nt.satW D.b v)] ⟨zzq, trivial⟩ fun u19 e20 => ?_)))
 rfl
theorem k_fxReduce {u w : World} {D : WL} {v : Int} (d : Dat u w) (hW : WdOK D) : Calls Try.prog 45 #[D.v, .int .i64 v] w (Post u w fun y _ => y = .int .i64 (Nt.redW D v)) := by
 obtain ⟨hw1, hw2, hw3, hw4, hw5, hw6, hw7, hw8⟩ := id hW
 refine zzm (args := [.agg #[.int .i64 D.b, .int .i64 D.f, .int .i64 D.r, .int .i64 D.o], .int .i64 v]) Try.func45 rfl Try.ntmps45 (rs := [.tmp 4]) Try.results45 (le_b rfl) (le_b rfl) d ?_
 refine sq9 (zzk 2 ⟨27, D.cs⟩ (zza 4 (zI 0) (zzb (zzd (sq9 (zzi 5 (.v (D.v)) ty27 zze (zzg 6 23 [D.v] ?_)))))))
 intro w11 u11 e11 d11
 have k14 := k_fxValid (W := D) d11 hW
 with_reducible refine zPm k14 ?_
 rintro _ u12 g13 rfl
 refine zza 7 (zB false) (zzb (zys xv (zzs (zzp ?_))))
 refine zzd (sq9 (zza 8 (.adr 2 3) (zzi 9 (zI D.o) ty3 zzl (zza 10 (zB (D.o == 2)) (zzb (zzu (b := D.o == 2) xv (fun hb15 => ?_) (fun hb15 => ?_)))))))
 ·replace hb15 : (D.o == 2) = true := hb15
  refine sq9 (zza 11 (.adr 2 0) (zzi 12 (zI D.b) ty3 zzl (zza 13 (zI v) (zzg 14 67 [.int .i64 D.b, .int .i64 v] ?_))))
  intro w16 u16 e16 d16
  have k19 := k_fxWrap (b := D.b) (v := v) d16 xq xq
  with_reducible refine zPm k19 ?_
  rintro _ u17 g18 rfl
  refine zza 4 (zI (Nt.wrapW D.b v)) (zzb (zzo (zzw (ret0 [.int .i64 (Nt.wrapW D.b v)] ⟨zzq, trivial⟩ fun u20 e21 => ?_))))
  show Value.int _ _ = Value.int _ _
  unfold Nt.redW
  rw [if_pos (by simpa using hb15)]
 ·replace hb15 : (D.o == 2) = false := hb15
  refine zzs (zzp ?_)
  refine sq9 (zzi 15 (.v (D.v)) ty27 zze (zza 16 (zI v) (zzg 17 68 [D.v, .int .i64 v] ?_)))
  intro w22 u22 e22 d22
  have k25 := k_fxSat (D := D) (v := v) d22 hW
  with_reducible refine zPm k25 ?_
  rintro _ u23 g24 rfl
  refine zza 4 (zI (Nt.satW D.b v)) (zzb (zzo (ret0 [.int .i64 (Nt.satW D.b v)] ⟨zzq, trivial⟩ fun u26 e27 => ?_)))
  show Value.int _ _ = Value.int _ _
  unfold Nt.redW
  rw [if_neg (by simpa using hb15)]
set_option maxHeartbeats 4000000 in
theorem k_netValid {u w : World} {D W : WL} {s : Nat} {X Y : Sl} {h lo : Nat} {N : List (List TL)} {nx : List Int} {q : Int} (d : Dat u w) (hN : NodesB lo h u X N) (hY : MutL 1 3 lo u Y (ics nx)) (hok : Nt.NetOK D W s N nx q) : Calls Try.prog 25 #[.agg #[.int .i64 D.b, .int .i64 D.f, .int .i64 D.r, .int .i64 D.o, .int .i64 W.b, .int .i64 W.f, .int .i64 W.r, .int .i64 W.o, .int .i64 (s : Int), X.v, Y.v, .int .i64 q]] w (Post u w fun y _ => y = .bool true) := by
 obtain ⟨La, gA, gB, gC⟩ := id hN
 have hNl := hN.len
 have hD := hok.hd
 have hWc := hok.hw
 have hs64 := hok.hs
 have hn64 := hok.hn
 have hxs := hok.hx
 have hYr := MutL.slr hY
 have hYl : nx.length = Y.n := hYr.1
 have hqq := hok.hq
 have hbx : ∀ z ∈ nx, -9223372036854775808 ≤ z ∧ z ≤ 9223372036854775807 := fun z hz => by
  obtain ⟨j, hj, rfl⟩ := Nt.mem_getD hz
  have h9 := hok.hr j hj
  omega
 have hT1 : ∀ i, i < N.length → (La.getD i sl0).n = (N.getD i []).length ∧ (N.getD i []).length ≤ 64 := fun i hi => ⟨tms_len (gC i hi).1, (hok.ht i hi).1⟩
 obtain ⟨hd1, hd2, hd3, hd4, hd5, hd6, hd7, hd8⟩ := id hD
 obtain ⟨hw1, hw2, hw3, hw4, hw5, hw6, hw7, hw8⟩ := id hWc
 have hpw1 := Nt.zxj W.f
 have hpw2 := Nt.p2i_24 (n := W.f) xq
 have hpd1 := Nt.zxj (D.b - 1)
 have hpd2 : Nt.p2i (D.b - 1) ≤ 8388608 := Nt.zxz (b := 23) xq
 refine zzm (args := [.agg #[.int .i64 D.b, .int .i64 D.f, .int .i64 D.r, .int .i64 D.o, .int .i64 W.b, .int .i64 W.f, .int .i64 W.r, .int .i64 W.o, .int .i64 s, .slice X.a X.n X.c, .slice Y.a Y.n Y.c, .int .i64 q]]) Try.func25 rfl Try.ntmps25 (rs := [.tmp 2]) Try.results25 (le_b rfl) (le_b rfl) d ?_
 refine sq9 (zzk 1 ⟨34, [.int .i64 D.b, .int .i64 D.f, .int .i64 D.r, .int .i64 D.o, .int .i64 W.b, .int .i64 W.f, .int .i64 W.r, .int .i64 W.o, .int .i64 s, X.v, Y.v, .int .i64 q]⟩ (zza 2 (zB false) (zzb (zzd (sq9 (zza 10 (.adr 1 0) (zzi 11 (.v (D.v)) ty27 zze (zzg 12 23 [D.v] ?_))))))))
 intro w11 u11 e11 d11
 have k14 := k_fxValid (W := D) d11 hD
 with_reducible refine zPm k14 ?_
 rintro _ u12 g13 rfl
 refine zza 13 (zB false) (zza 14 (zB false) (zza 15 (.adr 1 4) ?_ (hw := w1 4 false 14)))
 refine zzi 16 (.v (W.v)) ty27 zze ?_ (hw := w1 4 false 14)
 refine zzg 17 23 [W.v] ?_ (hw := w1 4 false 14)
 intro w15 u15 e15 d15
 have k18 := k_fxValid (W := W) d15 hWc
 with_reducible refine zPm k18 ?_
 rintro _ u16 g17 rfl
 refine zza 18 (zB false) ?_ (hw := w1 4 false 14)
 refine zza 19 (zB false) (zzb (zys xv (zzs (zzp ?_))))
 refine zzd (sq9 (zza 20 (.adr 1 8) (zzi 21 (zI s) ty3 zzl (zza 22 (zB (decide ((s : Int) < 0))) (zyq 23 (x := zB (decide ((s : Int) < 0))) (zB false) (by rw [show (decide ((s : Int) < 0)) = false from decide_eq_false xq]) (zza 24 (.adr 1 8) ?_ (hw := w1 3 false 23)))))))
 refine zzi 25 (zI s) ty3 zzl ?_ (hw := w1 3 false 23)
 refine zza 26 (zB (decide ((64 : Int) < (s : Int)))) ?_ (hw := w1 3 false 23)
 refine zza 27 (zB (decide ((64 : Int) < (s : Int)))) (zyq 28 (x := zB (decide ((64 : Int) < (s : Int)))) (zB false) (by rw [show (decide ((64 : Int) < (s : Int))) = false from decide_eq_false xq]) (zza 29 (.adr 1 9) ?_ (hw := w1 8 false 28)))
 refine zzi 30 (.v X.v) ty32 zzl ?_ (hw := w1 8 false 28)
 refine zza 31 (zI X.n) ?_ (hw := w1 8 false 28)
 refine zza 32 (zB (decide ((64 : Int) < (X.n : Int)))) ?_ (hw := w1 8 false 28)
 refine zza 33 (zB (decide ((64 : Int) < (X.n : Int)))) (zyq 34 (x := zB (decide ((64 : Int) < (X.n : Int)))) (zB false) (by rw [show (decide ((64 : Int) < (X.n : Int))) = false from decide_eq_false xq]) (zza 35 (.adr 1 10) ?_ (hw := w1 14 false 34)))
 refine zzi 36 (.v Y.v) ty22 zzl ?_ (hw := w1 14 false 34)
 refine zza 37 (zI Y.n) ?_ (hw := w1 14 false 34)
 refine zza 38 (.adr 1 8) ?_ (hw := w1 14 false 34)
 refine zzi 39 (zI s) ty3 zzl ?_ (hw := w1 14 false 34)
 refine zza 40 (zB ((Y.n : Int) != (s : Int))) ?_ (hw := w1 14 false 34)
 refine zza 41 (zB ((Y.n : Int) != (s : Int))) (zzc 120 [(1, .adr 1 0), (41, zB ((Y.n : Int) != (s : Int)))] [(1, ⟨34, [.int .i64 D.b, .int .i64 D.f, .int .i64 D.r, .int .i64 D.o, .int .i64 W.b, .int .i64 W.f, .int .i64 W.r, .int .i64 W.o, .int .i64 s, X.v, Y.v, .int .i64 q]⟩)] (zzu (b := (Y.n : Int) != (s : Int)) xv (fun hb => ?_) (fun hb => ?_)))
 ·exact absurd hb (by rw [show ((Y.n : Int) != (s : Int)) = false from (by first | (simp; done) | (simp; omega))]; decide)
 ·clear hb
  refine zzs (zzp ?_)
  refine zzd (sq9 (zza 42 (.adr 1 9) (zzi 43 (.v X.v) ty32 zzl (zza 44 (zI X.n) (zza 45 (zI 0) (zzb (zzt (zyn (I := fun m22 S' u' => ∃ (i : Nat), (m22 = X.n - i) ∧ (i ≤ X.n) ∧ (S' = St.of 120 [(1, .adr 1 0), (43, .v (.slice X.a X.n X.c)), (44, zI X.n), (45, zI i)] [(1, ⟨34, [.int .i64 D.b, .int .i64 D.f, .int .i64 D.r, .int .i64 D.o, .int .i64 W.b, .int .i64 W.f, .int .i64 W.r, .int .i64 W.o, .int .i64 s, .slice X.a X.n X.c, .slice Y.a Y.n Y.c, .int .i64 q]⟩)]) ∧ (Ext u16 u')) (fun m S u1 u2 e h => by obtain ⟨i, hm, p0, hS, hE⟩ := h; exact ⟨i, hm, p0, hS, hE.trans e⟩) _ yj ⟨0, rfl, Nat.zero_le _, rfl, (Ext.refl _)⟩ ?_))))))))
  rintro m22 _ u22 ⟨i, hm22, hi, rfl, e22⟩
  refine sq9 (zza 46 (zB (decide ((i : Int) < (X.n : Int)))) (zzb (zzd (zzu (b := decide ((i : Int) < (X.n : Int))) xv (fun hb23 => ?_) (fun hb23 => ?_)))))
  ·replace hb23 : (decide ((i : Int) < (X.n : Int))) = true := hb23
   have qhb23 := of_decide_eq_true hb23
   refine zzs (zzp ?_)
   refine zzd (zzt (sq9 (zza 47 (zI i) ?_)))
   obtain ⟨b24, hA24, hc24⟩ := nodes_at (i := i) gA xq
   refine zya 48 (0 + i * 1) (n := X.n) (off := 0) (sz := 1) (i := (i : Int)) xq hA24 xq xq sl32 (zym 49 [.slice (La.getD i sl0).a (La.getD i sl0).n (La.getD i sl0).c] (fun j hj => by cases j with | zero => exact ((e11.trans (g13.ext.trans (e15.trans (g17.ext.trans e22)))).cell hc24) | succ j => exact absurd hj (by simp)) ty72 (zzk 4 ⟨72, [.slice none 0 0]⟩ (zza 3 (zI i) (zzj ⟨72, [.slice (La.getD i sl0).a (La.getD i sl0).n (La.getD i sl0).c]⟩ ty72 ?_))))
   refine zzb (zzd (zzd ?_))
   have hTi := hT1 i xq
   refine zzf (zza 50 (.adr 4 0) (zzi 51 (.v (.slice (La.getD i sl0).a (La.getD i sl0).n (La.getD i sl0).c)) ty68 zzl (zza 52 (zI (((La.getD i sl0).n : Nat) : Int)) (zza 53 (zB (decide ((64 : Int) < (((La.getD i sl0).n : Nat) : Int)))) (zzb (zzu (b := decide ((64 : Int) < (((La.getD i sl0).n : Nat) : Int))) xv (fun hb => ?_) (fun hb => ?_)))))))
   ·exact absurd hb (by rw [show (decide ((64 : Int) < (((La.getD i sl0).n : Nat) : Int))) = false from decide_eq_false xq]; decide)
   ·clear hb
    refine zzs (zzp ?_)
    refine sq9 (zza 54 (.adr 4 0) (zzi 55 (.v (.slice (La.getD i sl0).a (La.getD i sl0).n (La.getD i sl0).c)) ty68 zzl (zza 56 (zI (((La.getD i sl0).n : Nat) : Int)) (zza 57 (zI 0) (zzb (zzt (zyn (I := fun m25 S' u' => ∃ (j : Nat), (m25 = (La.getD i sl0).n - j) ∧ (j ≤ (La.getD i sl0).n) ∧ (S' = St.of 120 [(1, .adr 1 0), (3, zI i), (43, .v (.slice X.a X.n X.c)), (44, zI X.n), (45, zI i), (55, .v (.slice (La.getD i sl0).a (La.getD i sl0).n (La.getD i sl0).c)), (56, zI (((La.getD i sl0).n : Nat) : Int)), (57, zI j)] [(1, ⟨34, [.int .i64 D.b, .int .i64 D.f, .int .i64 D.r, .int .i64 D.o, .int .i64 W.b, .int .i64 W.f, .int .i64 W.r, .int .i64 W.o, .int .i64 s, .slice X.a X.n X.c, .slice Y.a Y.n Y.c, .int .i64 q]⟩)]) ∧ (Ext u22 u')) (fun m S u1 u2 e h => by obtain ⟨j, hm, p0, hS, hE⟩ := h; exact ⟨j, hm, p0, hS, hE.trans e⟩) _ yj ⟨0, rfl, Nat.zero_le _, rfl, (Ext.refl _)⟩ ?_)))))))
    rintro m25 _ u25 ⟨j, hm25, hj, rfl, e25⟩
    refine sq9 (zza 58 (zB (decide ((j : Int) < (((La.getD i sl0).n : Nat) : Int)))) (zzb (zzd (zzu (b := decide ((j : Int) < (((La.getD i sl0).n : Nat) : Int))) xv (fun hb26 => ?_) (fun hb26 => ?_)))))
    ·replace hb26 : (decide ((j : Int) < (((La.getD i sl0).n : Nat) : Int))) = true := hb26
     have qhb26 := of_decide_eq_true hb26
     refine zzs (zzp ?_)
     refine zzd (zzt (sq9 ?_))
     obtain ⟨b27, hA27, hc27⟩ := terms_at (i := j) (T := (N.getD i [])) (gC i xq).1 xq
     refine zya 59 (0 + j * 2) (n := (La.getD i sl0).n) (off := 0) (sz := 2) (i := (j : Int)) xq hA27 xq xq sl68 (zym 60 ((N.getD i []).getD j tl0).cs (fun j hj => by have h9 := hc27 j hj; rw [List.getElem?_eq_getElem hj] at h9 ⊢; exact (e11.trans (g13.ext.trans (e15.trans (g17.ext.trans (e22.trans e25))))).cell h9) ty70 ?_)
     refine zzk 6 ⟨70, [.int .i64 0, .int .i64 0]⟩ (zzj ⟨70, [.int .i64 (((N.getD i []).getD j tl0).f), .int .i64 (((N.getD i []).getD j tl0).c)]⟩ ty70 ?_)
     refine zzb (zzd (zzd ?_))
     have htj := (hok.ht i xq).2 j xq
     refine zzf (zza 61 (.adr 6 0) (zzi 62 (zI (((N.getD i []).getD j tl0).f)) ty3 zzl (zza 63 (zB (decide ((((N.getD i []).getD j tl0).f) < 0))) (zyq 64 (x := zB (decide ((((N.getD i []).getD j tl0).f) < 0))) (zB false) (by rw [show (decide ((((N.getD i []).getD j tl0).f) < 0)) = false from decide_eq_false xq]) (zza 65 (.adr 6 0) ?_ (hw := w1 3 false 64))))))
     refine zzi 66 (zI (((N.getD i []).getD j tl0).f)) ty3 zzl ?_ (hw := w1 3 false 64)
     refine zza 67 (.adr 1 8) ?_ (hw := w1 3 false 64)
     refine zzi 68 (zI s) ty3 zzl ?_ (hw := w1 3 false 64)
     refine zza 69 (zI i) ?_ (hw := w1 3 false 64)
     refine zyq 70 (x := zI (IntKind.i64.wrap ((s : Int) + (i : Int)))) (zI (s + i : Nat)) (eqI xk) ?_ (hw := w1 3 false 64)
     refine zza 71 (zB (decide (((s + i : Nat) : Int) < (((N.getD i []).getD j tl0).f)))) ?_ (hw := w1 3 false 64)
     refine zza 72 (zB (decide (((s + i : Nat) : Int) < (((N.getD i []).getD j tl0).f)))) (zzc 120 [(1, .adr 1 0), (3, zI i), (6, .adr 6 0), (43, .v X.v), (44, zI X.n), (45, zI i), (55, .v (.slice (La.getD i sl0).a (La.getD i sl0).n (La.getD i sl0).c)), (56, zI (((La.getD i sl0).n : Nat) : Int)), (57, zI j), (72, zB (decide (((s + i : Nat) : Int) < (((N.getD i []).getD j tl0).f))))] [(1, ⟨34, [.int .i64 D.b, .int .i64 D.f, .int .i64 D.r, .int .i64 D.o, .int .i64 W.b, .int .i64 W.f, .int .i64 W.r, .int .i64 W.o, .int .i64 s, X.v, Y.v, .int .i64 q]⟩), (6, ⟨70, [.int .i64 (((N.getD i []).getD j tl0).f), .int .i64 (((N.getD i []).getD j tl0).c)]⟩)] (zzu (b := decide (((s + i : Nat) : Int) < (((N.getD i []).getD j tl0).f))) xv (fun hb => ?_) (fun hb => ?_)))
     ·exact absurd hb (by rw [show (decide (((s + i : Nat) : Int) < (((N.getD i []).getD j tl0).f))) = false from decide_eq_false xq]; decide)
     ·clear hb
      refine zzs (zzp ?_)
      refine zzd (zzz [0, 1, 0, 4, 12, 28, 63, 127, 255, 511, 255, 1279, 4095, 8191, 16383] [(0, []), (1, []), (2, []), (3, []), (4, []), (5, []), (6, []), (7, []), (8, []), (9, []), (10, []), (11, []), (12, []), (13, []), (14, [])] xv xv (zza 73 (.adr 6 1) (zzi 74 (zI (((N.getD i []).getD j tl0).c)) ty3 zzl (zza 75 (.adr 1 4) (zza 76 (.adr 1 5) (zzi 77 (zI W.f) ty3 zzl (sy_shl 78 (k := .i64) (s := W.f) (Nt.p2i W.f) xq yv (shl_one xq xq) ?_)))))))
      refine zza 79 (zB ((((N.getD i []).getD j tl0).c) != (Nt.p2i W.f))) ?_
      rcases Bool.eq_false_or_eq_true ((((N.getD i []).getD j tl0).c) != (Nt.p2i W.f)) with hs29 | hs29
      ·refine zyq 80 (x := zB ((((N.getD i []).getD j tl0).c) != (Nt.p2i W.f))) (zB true) (by rw [hs29]) ?_
       have qhs29 := hs29
       simp at qhs29
       refine zza 81 (.adr 1 4) ?_ (hw := w1 7 true 80)
       refine zzi 82 (.v (W.v)) ty27 zze ?_ (hw := w1 7 true 80)
       refine zza 83 (.adr 6 1) ?_ (hw := w1 7 true 80)
       refine zzi 84 (zI (((N.getD i []).getD j tl0).c)) ty3 zzl ?_ (hw := w1 7 true 80)
       refine zzg 85 43 [W.v, .int .i64 (((N.getD i []).getD j tl0).c)] ?_ (hw := w1 7 true 80)
       intro w30 u30 e30 d30
       have k33 := k_fxFitsG (W := W) (z := ((N.getD i []).getD j tl0).c) d30 hWc
       with_reducible refine zPm k33 ?_
       rintro _ u31 g32 rfl
       refine zza 86 (zB (!(Nt.fitB W (((N.getD i []).getD j tl0).c)))) ?_ (hw := w1 7 true 80)
       refine zza 87 (zB (!(Nt.fitB W (((N.getD i []).getD j tl0).c)))) (zzb (zzu (b := !(Nt.fitB W (((N.getD i []).getD j tl0).c))) xv (fun hb => ?_) (fun hb => ?_)))
       ·exact absurd hb (by rw [show (!(Nt.fitB W (((N.getD i []).getD j tl0).c))) = false from (by rw [(htj.2.2.resolve_left qhs29)]; rfl)]; decide)
       ·clear hb
        refine zzs (zzp ?_)
        refine zzf (zyq 88 (x := zI (IntKind.i64.wrap ((j : Int) + 1))) (zI (j + 1 : Nat)) (eqI xk) (zza 57 (zI (j + 1 : Nat)) (zzx ?_)))
        refine ⟨_, ?_, _, by exact zzv _ _ _, j + 1, rfl, by omega, rfl, (e25.trans (e30.trans g32.ext))⟩
        omega
      ·refine zyq 80 (x := zB ((((N.getD i []).getD j tl0).c) != (Nt.p2i W.f))) (zB false) (by rw [hs29]) ?_
       have qhs29 := hs29
       simp at qhs29
       refine zzn 81 (uw 7 true false 80) (zzn 82 (uw 7 true false 80) (zzn 83 (uw 7 true false 80) (zzn 84 (uw 7 true false 80) (zzn 85 (uw 7 true false 80) (zzn 86 (uw 7 true false 80) (zza 87 (zB false) (zzb (zys xv (zzs (zzp ?_))))))))))
       refine zzf (zyq 88 (x := zI (IntKind.i64.wrap ((j : Int) + 1))) (zI (j + 1 : Nat)) (eqI xk) (zza 57 (zI (j + 1 : Nat)) (zzx ?_)))
       refine ⟨_, ?_, _, by exact zzv _ _ _, j + 1, rfl, by omega, rfl, e25⟩
       omega
    ·replace hb26 : (decide ((j : Int) < (((La.getD i sl0).n : Nat) : Int))) = false := hb26
     have qhb26 := of_decide_eq_false hb26
     refine zyc (zzp (zzf (zyq 89 (x := zI (IntKind.i64.wrap ((i : Int) + 1))) (zI (i + 1 : Nat)) (eqI xk) (zza 45 (zI (i + 1 : Nat)) (zzx ?_)))))
     refine ⟨_, ?_, _, by exact zzv _ _ _, i + 1, rfl, by omega, rfl, (e22.trans e25)⟩
     omega
  ·replace hb23 : (decide ((i : Int) < (X.n : Int))) = false := hb23
   have qhb23 := of_decide_eq_false hb23
   refine zyc (zzp (sq9 (zza 90 (.adr 1 8) (zzi 91 (zI s) ty3 zzl (zza 92 (.adr 1 9) (zzi 93 (.v X.v) ty32 zzl (zza 94 (zI X.n) (zyq 95 (x := zI (IntKind.i64.wrap ((s : Int) + (X.n : Int)))) (zI (s + X.n : Nat)) (eqI xk) (zza 7 (zI (s + X.n : Nat)) (zzb (zzd ?_)))))))))))
   refine sq9 (zza 96 (.adr 1 10) (zzi 97 (.v Y.v) ty22 zzl (zza 98 (zI Y.n) (zza 99 (zI 0) (zzb (zzt (zyn (I := fun m34 S' u' => ∃ (k : Nat), (m34 = Y.n - k) ∧ (k ≤ Y.n) ∧ (S' = St.of 120 [(1, .adr 1 0), (7, zI (s + X.n : Nat)), (97, .v (.slice Y.a Y.n Y.c)), (98, zI Y.n), (99, zI k)] [(1, ⟨34, [.int .i64 D.b, .int .i64 D.f, .int .i64 D.r, .int .i64 D.o, .int .i64 W.b, .int .i64 W.f, .int .i64 W.r, .int .i64 W.o, .int .i64 s, .slice X.a X.n X.c, .slice Y.a Y.n Y.c, .int .i64 q]⟩)]) ∧ (Ext u22 u')) (fun m S u1 u2 e h => by obtain ⟨k, hm, p0, hS, hE⟩ := h; exact ⟨k, hm, p0, hS, hE.trans e⟩) _ yj ⟨0, rfl, Nat.zero_le _, rfl, (Ext.refl _)⟩ ?_)))))))
   rintro m34 _ u34 ⟨k, hm34, hk, rfl, e34⟩
   refine sq9 (zza 100 (zB (decide ((k : Int) < (Y.n : Int)))) (zzb (zzd (zzu (b := decide ((k : Int) < (Y.n : Int))) xv (fun hb35 => ?_) (fun hb35 => ?_)))))
   ·replace hb35 : (decide ((k : Int) < (Y.n : Int))) = true := hb35
    have qhb35 := of_decide_eq_true hb35
    refine zzs (zzp ?_)
    refine zzd (zzt (sq9 ?_))
    have hl36 := ((hYr.ext (e11.trans (g13.ext.trans (e15.trans (g17.ext.trans (e22.trans e34))))))).1
    obtain ⟨b36, o36, hA36, hc36⟩ := ints_at (hYr.ext (e11.trans (g13.ext.trans (e15.trans (g17.ext.trans (e22.trans e34)))))) (i := k) xq
    have hz36 := ints_bd hbx xq k
    refine zya 101 (o36 + k * 1) (n := Y.n) (off := o36) (sz := 1) (i := (k : Int)) xq hA36 xq xq sl22 (zyl 102 (.int .i64 (nx.getD k 0)) hc36 ty3 (zza 9 (zI (nx.getD k 0)) (zzb (zzd ?_))))
    have hrj := hok.hr k xq
    refine zzf (zza 103 (zI (nx.getD k 0)) (zza 104 (zB (decide ((nx.getD k 0) < 0))) (zyq 105 (x := zB (decide ((nx.getD k 0) < 0))) (zB false) (by rw [show (decide ((nx.getD k 0) < 0)) = false from decide_eq_false xq]) (zza 106 (zI (nx.getD k 0)) ?_ (hw := w1 2 false 105)))))
    refine zza 107 (zI (s + X.n : Nat)) ?_ (hw := w1 2 false 105)
    refine zza 108 (zB (decide (((s + X.n : Nat) : Int) < (nx.getD k 0)))) ?_ (hw := w1 2 false 105)
    refine zza 109 (zB (decide (((s + X.n : Nat) : Int) < (nx.getD k 0)))) (zzb (zzu (b := decide (((s + X.n : Nat) : Int) < (nx.getD k 0))) xv (fun hb => ?_) (fun hb => ?_)))
    ·exact absurd hb (by rw [show (decide (((s + X.n : Nat) : Int) < (nx.getD k 0))) = false from decide_eq_false xq]; decide)
    ·clear hb
     refine zzs (zzp ?_)
     refine zzf (zyq 110 (x := zI (IntKind.i64.wrap ((k : Int) + 1))) (zI (k + 1 : Nat)) (eqI xk) (zza 99 (zI (k + 1 : Nat)) (zzx ?_)))
     refine ⟨_, ?_, _, by exact zzv _ _ _, k + 1, rfl, by omega, rfl, e34⟩
     omega
   ·replace hb35 : (decide ((k : Int) < (Y.n : Int))) = false := hb35
    have qhb35 := of_decide_eq_false hb35
    refine zyc (zzp (sq9 (zza 111 (.adr 1 11) (zzi 112 (zI q) ty3 zzl (zza 113 (zB (decide ((0 : Int) ≤ q))) (zyq 114 (x := zB (decide ((0 : Int) ≤ q))) (zB true) (by rw [show (decide ((0 : Int) ≤ q)) = true from decide_eq_true xq]) (zza 115 (.adr 1 11) ?_ (hw := w1 3 true 114))))))))
    refine zzi 116 (zI q) ty3 zzl ?_ (hw := w1 3 true 114)
    refine zza 117 (zI (s + X.n : Nat)) ?_ (hw := w1 3 true 114)
    refine zza 118 (zB (decide (q ≤ ((s + X.n : Nat) : Int)))) ?_ (hw := w1 3 true 114)
    refine zza 119 (zB (decide (q ≤ ((s + X.n : Nat) : Int)))) (zza 2 (zB (decide (q ≤ ((s + X.n : Nat) : Int)))) (zzb (zzo (ret0 [.bool (decide (q ≤ ((s + X.n : Nat) : Int)))] ⟨zzq, trivial⟩ fun u39 e40 => ?_))))
    show Value.bool _ = Value.bool _
    congr 1
    exact decide_eq_true xq
set_option maxHeartbeats 1000000 in
theorem k_netWrong {u w : World} {D W : WL} {s : Nat} {X Y : Sl} {h lo : Nat} {N : List (List TL)} {nx : List Int} {q : Int} {y z : Sl} {st xs : List Int} (d : Dat u w) (hW : WdOK D) (hy : SlR .i64 u y.a y.n y.c st) (hz : SlR .i64 u z.a z.n z.c xs) (hyb : ∀ z ∈ st, -9223372036854775808 ≤ z ∧ z ≤ 9223372036854775807) (hzb : ∀ z ∈ xs, -9223372036854775808 ≤ z ∧ z ≤ 9223372036854775807) (hsl : st.length = s) (hs9 : s ≤ 64) (hst : ∀ i, i < st.length → Nt.fitB D (st.getD i 0) = true) (hxs9 : ∀ i, i < xs.length → Nt.fitB D (xs.getD i 0) = true) : Calls Try.prog 26 #[.agg #[.int .i64 D.b, .int .i64 D.f, .int .i64 D.r, .int .i64 D.o, .int .i64 W.b, .int .i64 W.f, .int .i64 W.r, .int .i64 W.o, .int .i64 (s : Int), X.v, Y.v, .int .i64 q], y.v, z.v] w (Post u w fun y _ => y = .int .i64 0) := by
 have hly : st.length = y.n := hy.1
 have hlz : xs.length = z.n := hz.1
 have hmz := Nat.le_trans hz.2.1 hz.2.2.1
 unfold maxLen at hmz
 refine zzm (args := [.agg #[.int .i64 D.b, .int .i64 D.f, .int .i64 D.r, .int .i64 D.o, .int .i64 W.b, .int .i64 W.f, .int .i64 W.r, .int .i64 W.o, .int .i64 s, .slice X.a X.n X.c, .slice Y.a Y.n Y.c, .int .i64 q], .slice y.a y.n y.c, .slice z.a z.n z.c]) Try.func26 rfl Try.ntmps26 (rs := [.tmp 6]) Try.results26 (le_b rfl) (le_b rfl) d ?_
 refine sq9 (zzk 3 ⟨34, [.int .i64 D.b, .int .i64 D.f, .int .i64 D.r, .int .i64 D.o, .int .i64 W.b, .int .i64 W.f, .int .i64 W.r, .int .i64 W.o, .int .i64 s, X.v, Y.v, .int .i64 q]⟩ (zza 6 (zI 0) (zzb (zzd (sq9 (zza 11 (.v y.v) (zza 12 (zI y.n) (zza 13 (.adr 3 8) (zzi 14 (zI s) ty3 zzl (zza 15 (zB ((y.n : Int) != (s : Int))) (zzb ?_)))))))))))
 refine zzu (b := (y.n : Int) != (s : Int)) xv (fun hb => ?_) (fun hb => ?_)
 ·exact absurd hb (by rw [show ((y.n : Int) != (s : Int)) = false from (by first | (simp; done) | (simp; omega))]; decide)
 ·clear hb
  refine zzs (zzp ?_)
  refine zzd (sq9 (zza 16 (.v y.v) (zza 17 (zI y.n) (zza 18 (zI 0) (zzb (zzt (zyn (I := fun m11 S' u' => ∃ (i : Nat), (m11 = y.n - i) ∧ (i ≤ y.n) ∧ (S' = St.of 40 [(2, .v (.slice z.a z.n z.c)), (3, .adr 3 0), (16, .v (.slice y.a y.n y.c)), (17, zI y.n), (18, zI i)] [(3, ⟨34, [.int .i64 D.b, .int .i64 D.f, .int .i64 D.r, .int .i64 D.o, .int .i64 W.b, .int .i64 W.f, .int .i64 W.r, .int .i64 W.o, .int .i64 s, .slice X.a X.n X.c, .slice Y.a Y.n Y.c, .int .i64 q]⟩)]) ∧ (Ext u u')) (fun m S u1 u2 e h => by obtain ⟨i, hm, p0, hS, hE⟩ := h; exact ⟨i, hm, p0, hS, hE.trans e⟩) _ yj ⟨0, rfl, Nat.zero_le _, rfl, (Ext.refl _)⟩ ?_)))))))
  rintro m11 _ u11 ⟨i, hm11, hi, rfl, e11⟩
  refine sq9 (zza 19 (zB (decide ((i : Int) < (y.n : Int)))) (zzb (zzd (zzu (b := decide ((i : Int) < (y.n : Int))) xv (fun hb12 => ?_) (fun hb12 => ?_)))))
  ·replace hb12 : (decide ((i : Int) < (y.n : Int))) = true := hb12
   have qhb12 := of_decide_eq_true hb12
   refine zzs (zzp ?_)
   refine zzd (zzt (sq9 ?_))
   have hl13 := ((hy.ext e11)).1
   obtain ⟨b13, o13, hA13, hc13⟩ := ints_at (hy.ext e11) (i := i) xq
   have hz13 := ints_bd hyb xq i
   refine zya 20 (o13 + i * 1) (n := y.n) (off := o13) (sz := 1) (i := (i : Int)) xq hA13 xq xq sl22 (zyl 21 (.int .i64 (st.getD i 0)) hc13 ty3 (zza 8 (zI (st.getD i 0)) (zzb (sq9 (zza 22 (.adr 3 0) (zzi 23 (.v (D.v)) ty27 zze (zza 24 (zI (st.getD i 0)) (zzg 25 43 [D.v, .int .i64 (st.getD i 0)] ?_))))))))
   intro w14 u14 e14 d14
   have k17 := k_fxFitsG (W := D) (z := (st.getD i 0)) d14 hW
   with_reducible refine zPm k17 ?_
   rintro _ u15 g16 rfl
   refine zza 26 (zB (!(Nt.fitB D (st.getD i 0)))) (zzb (zzu (b := !(Nt.fitB D (st.getD i 0))) xv (fun hb => ?_) (fun hb => ?_)))
   ·exact absurd hb (by rw [show (!(Nt.fitB D (st.getD i 0))) = false from (by rw [(hst i xq)]; rfl)]; decide)
   ·clear hb
    refine zzs (zzp ?_)
    refine zzf (zyq 27 (x := zI (IntKind.i64.wrap ((i : Int) + 1))) (zI (i + 1 : Nat)) (eqI xk) (zza 18 (zI (i + 1 : Nat)) (zzx ?_)))
    refine ⟨_, ?_, _, by exact zzv _ _ _, i + 1, rfl, by omega, rfl, (e11.trans (e14.trans g16.ext))⟩
    omega
  ·replace hb12 : (decide ((i : Int) < (y.n : Int))) = false := hb12
   have qhb12 := of_decide_eq_false hb12
   refine zyc (zzp (zzd (sq9 (zza 28 (.v z.v) (zza 29 (zI z.n) (zza 30 (zI 0) (zzb (zzt (zyn (I := fun m18 S' u' => ∃ (i : Nat), (m18 = z.n - i) ∧ (i ≤ z.n) ∧ (S' = St.of 40 [(3, .adr 3 0), (28, .v (.slice z.a z.n z.c)), (29, zI z.n), (30, zI i)] [(3, ⟨34, [.int .i64 D.b, .int .i64 D.f, .int .i64 D.r, .int .i64 D.o, .int .i64 W.b, .int .i64 W.f, .int .i64 W.r, .int .i64 W.o, .int .i64 s, .slice X.a X.n X.c, .slice Y.a Y.n Y.c, .int .i64 q]⟩)]) ∧ (Ext u11 u')) (fun m S u1 u2 e h => by obtain ⟨i, hm, p0, hS, hE⟩ := h; exact ⟨i, hm, p0, hS, hE.trans e⟩) _ yj ⟨0, rfl, Nat.zero_le _, rfl, (Ext.refl _)⟩ ?_)))))))))
   rintro m18 _ u18 ⟨i, hm18, hi, rfl, e18⟩
   refine sq9 (zza 31 (zB (decide ((i : Int) < (z.n : Int)))) (zzb (zzd (zzu (b := decide ((i : Int) < (z.n : Int))) xv (fun hb19 => ?_) (fun hb19 => ?_)))))
   ·replace hb19 : (decide ((i : Int) < (z.n : Int))) = true := hb19
    have qhb19 := of_decide_eq_true hb19
    refine zzs (zzp ?_)
    refine zzd (zzt (sq9 ?_))
    have hl20 := ((hz.ext (e11.trans e18))).1
    obtain ⟨b20, o20, hA20, hc20⟩ := ints_at (hz.ext (e11.trans e18)) (i := i) xq
    have hz20 := ints_bd hzb xq i
    refine zya 32 (o20 + i * 1) (n := z.n) (off := o20) (sz := 1) (i := (i : Int)) xq hA20 xq xq sl22 (zyl 33 (.int .i64 (xs.getD i 0)) hc20 ty3 (zza 10 (zI (xs.getD i 0)) (zzb (sq9 (zza 34 (.adr 3 0) (zzi 35 (.v (D.v)) ty27 zze (zza 36 (zI (xs.getD i 0)) (zzg 37 43 [D.v, .int .i64 (xs.getD i 0)] ?_))))))))
    intro w21 u21 e21 d21
    have k24 := k_fxFitsG (W := D) (z := (xs.getD i 0)) d21 hW
    with_reducible refine zPm k24 ?_
    rintro _ u22 g23 rfl
    refine zza 38 (zB (!(Nt.fitB D (xs.getD i 0)))) (zzb (zzu (b := !(Nt.fitB D (xs.getD i 0))) xv (fun hb => ?_) (fun hb => ?_)))
    ·exact absurd hb (by rw [show (!(Nt.fitB D (xs.getD i 0))) = false from (by rw [(hxs9 i xq)]; rfl)]; decide)
    ·clear hb
     refine zzs (zzp ?_)
     refine zzf (zyq 39 (x := zI (IntKind.i64.wrap ((i : Int) + 1))) (zI (i + 1 : Nat)) (eqI xk) (zza 30 (zI (i + 1 : Nat)) (zzx ?_)))
     refine ⟨_, ?_, _, by exact zzv _ _ _, i + 1, rfl, by omega, rfl, (e18.trans (e21.trans g23.ext))⟩
     omega
   ·replace hb19 : (decide ((i : Int) < (z.n : Int))) = false := hb19
    have qhb19 := of_decide_eq_false hb19
    refine zyc (zzp (sq9 (zza 6 (zI 0) (zzb (zzo (ret0 [.int .i64 0] ⟨zzq, trivial⟩ fun u25 e26 => ?_))))))
    rfl
set_option maxHeartbeats 4000000 in
theorem k_netCompute {u w : World} {D W : WL} {s : Nat} {X Y : Sl} {h lo : Nat} {N : List (List TL)} {nx : List Int} {q : Int} {y : Sl} {st : List Int} {x : Int} (d : Dat u w) (hN : NodesB lo h u X N) (hY : MutL 1 3 lo u Y (ics nx)) (hok : Nt.NetOK D W s N nx q) (hy : SlR .i64 u y.a y.n y.c st) (hyb : ∀ z ∈ st, -9223372036854775808 ≤ z ∧ z ≤ 9223372036854775807) (hsl : st.length = s) (hst : ∀ i, i < st.length → Nt.fitB D (st.getD i 0) = true) (hx : Nt.fitB D x = true) : Calls Try.prog 27 #[.agg #[.int .i64 D.b, .int .i64 D.f, .int .i64 D.r, .int .i64 D.o, .int .i64 W.b, .int .i64 W.f, .int .i64 W.r, .int .i64 W.o, .int .i64 (s : Int), X.v, Y.v, .int .i64 q], y.v, .int .i64 x] w (Post u w fun v u' => ∃ z : Sl, v = .tuple #[z.v, .bool (Nt.oversK D W N (x :: st) N.length)] ∧ SlR .i64 u' z.a z.n z.c (Nt.valsK D W N (x :: st) N.length) ∧ ∃ g, z.a = some ⟨g, 0, none⟩ ∧ u.heap.size ≤ g) := by
 obtain ⟨ya, yn, yc⟩ := y
 change SlR .i64 u ya yn yc st at hy
 have hyl : st.length = yn := hy.1
 obtain rfl : yn = s := by omega
 obtain ⟨La, gA, gB, gC⟩ := id hN
 have hNl := hN.len
 have hD := hok.hd
 have hWc := hok.hw
 have hs64 := hok.hs
 have hn64 := hok.hn
 have hxs := hok.hx
 have hYr := MutL.slr hY
 have hYl : nx.length = Y.n := hYr.1
 have hqq := hok.hq
 have hbx : ∀ z ∈ nx, -9223372036854775808 ≤ z ∧ z ≤ 9223372036854775807 := fun z hz => by
  obtain ⟨j, hj, rfl⟩ := Nt.mem_getD hz
  have h9 := hok.hr j hj
  omega
 have hT1 : ∀ i, i < N.length → (La.getD i sl0).n = (N.getD i []).length ∧ (N.getD i []).length ≤ 64 := fun i hi => ⟨tms_len (gC i hi).1, (hok.ht i hi).1⟩
 obtain ⟨hd1, hd2, hd3, hd4, hd5, hd6, hd7, hd8⟩ := id hD
 obtain ⟨hw1, hw2, hw3, hw4, hw5, hw6, hw7, hw8⟩ := id hWc
 have hpw1 := Nt.zxj W.f
 have hpw2 := Nt.p2i_24 (n := W.f) xq
 have hpd1 := Nt.zxj (D.b - 1)
 have hpd2 : Nt.p2i (D.b - 1) ≤ 8388608 := Nt.zxz (b := 23) xq
 have hxf := Nt.fit_iff.1 hx
 refine zzm (args := [.agg #[.int .i64 D.b, .int .i64 D.f, .int .i64 D.r, .int .i64 D.o, .int .i64 W.b, .int .i64 W.f, .int .i64 W.r, .int .i64 W.o, .int .i64 yn, .slice X.a X.n X.c, .slice Y.a Y.n Y.c, .int .i64 q], .slice ya yn yc, .int .i64 x]) Try.func27 rfl Try.ntmps27 (rs := [.tmp 6, .tmp 7]) Try.results27 (le_b rfl) (le_b rfl) d ?_
 refine sq9 (zzk 3 ⟨34, [.int .i64 D.b, .int .i64 D.f, .int .i64 D.r, .int .i64 D.o, .int .i64 W.b, .int .i64 W.f, .int .i64 W.r, .int .i64 W.o, .int .i64 yn, X.v, Y.v, .int .i64 q]⟩ (zza 6 (.v (.slice none 0 0)) (zza 7 (zB false) (zzb (sq9 (zza 16 (.adr 3 8) (zzi 17 (zI yn) ty3 zzl (zyq 18 (x := zI (IntKind.i64.wrap ((1 : Int) + (yn : Int)))) (zI (1 + yn : Nat)) (eqI xk) (zza 19 (.adr 3 9) (zzi 20 (.v X.v) ty32 zzl (zza 21 (zI X.n) ?_)))))))))))
 refine zyq 22 (x := zI (IntKind.i64.wrap (((1 + yn : Nat) : Int) + (X.n : Int)))) (zI (((1 + yn) + X.n : Nat) : Int)) (eqI xk) (sy_makeC 23 (T := 22) (E := 3) (z := .int .i64 0) (size := 1) (bytes := 8) 0 ((1 + yn) + X.n) (ics (List.replicate ((1 + yn) + X.n) 0)) xv xv rfl rfl xq xq yq (made_ints _) ?_)
 have hc11 : (ics (List.replicate ((1 + yn) + X.n) 0)).length = ((1 + yn) + X.n) * 1 := by rw [zwe, List.length_replicate, Nat.mul_one]
 have hle11 : 0 ≤ (1 + yn) + X.n := Nat.zero_le _
 have hmx11 : (1 + yn) + X.n ≤ maxLen := by unfold maxLen; omega
 have ht11 : (ics (List.replicate ((1 + yn) + X.n) 0)).take (0 * 1) = ([] : List Int).map (Value.int .i64) := by rw [Nat.zero_mul]; rfl
 refine zza 8 (.slc 23 0 0 ((1 + yn) + X.n)) (zzc 82 [(1, .v (.slice ya yn yc)), (2, zI x), (3, .adr 3 0), (8, .slc 23 0 0 ((1 + yn) + X.n))] [(3, ⟨34, [.int .i64 D.b, .int .i64 D.f, .int .i64 D.r, .int .i64 D.o, .int .i64 W.b, .int .i64 W.f, .int .i64 W.r, .int .i64 W.o, .int .i64 yn, X.v, Y.v, .int .i64 q]⟩), (23, ⟨3, (ics (List.replicate ((1 + yn) + X.n) 0))⟩)] (sq9 (zza 24 (.slc 23 0 0 ((1 + yn) + X.n)) (zza 25 (zI x) (zxs 26 ⟨3, [.int .i64 x]⟩ 1 (fun b12 u13 e14 h15 => ?_))))))
 refine sy_app1 27 (T := 22) (E := 3) (z := .int .i64 0) (size := 1) (bytes := 8) (b := b12) (off := 0) (m := 1) (n := 0) (cap := (1 + yn) + X.n) (t := 23) (cs0 := (ics (List.replicate ((1 + yn) + X.n) 0))) [8, 23, 24, 27] [.int .i64 x] xv xv xv xw rfl (lit_news ((Ext.refl _).cells h15)) (int_one _) xw yq xq xq xq xq xj ?_
 intro c16 cs16 ha16 hb16 hc16 hd16
 have hd16r : cs16.take ((0 + 1) * 1) = ([] ++ [x]).map (Value.int .i64) := by rw [hd16, ht11, List.map_append]; rfl
 refine zza 8 (.slc 27 0 (0 + 1) c16) (zzc 82 [(1, .v (.slice ya yn yc)), (3, .adr 3 0), (8, .slc 27 0 (0 + 1) c16)] [(3, ⟨34, [.int .i64 D.b, .int .i64 D.f, .int .i64 D.r, .int .i64 D.o, .int .i64 W.b, .int .i64 W.f, .int .i64 W.r, .int .i64 W.o, .int .i64 yn, X.v, Y.v, .int .i64 q]⟩), (27, ⟨3, cs16⟩)] (sq9 (zza 28 (.slc 27 0 (0 + 1) c16) (zza 29 (.v (.slice ya yn yc)) (sy_appI 30 (T := 22) (E := 3) (A := (⟨ya, yn, yc⟩ : Sl).a) (m := yn) (c := (⟨ya, yn, yc⟩ : Sl).c) (t := 27) (n := 0 + 1) (cap := c16) (cs0 := cs16) [8, 27, 28, 30] st xv xv (hy.ext e14) yq xq xq xq xq xj ?_)))))
 intro c17 cs17 ha17 hb17 hc17 hd17
 have hd17r : cs17.take ((0 + 1 + yn) * 1) = ([] ++ [x] ++ st).map (Value.int .i64) := by rw [hd17, hd16r]; simp only [List.map_append]
 refine zza 8 (.slc 30 0 (0 + 1 + yn) c17) (zzc 82 [(3, .adr 3 0), (8, .slc 30 0 (0 + 1 + yn) c17)] [(3, ⟨34, [.int .i64 D.b, .int .i64 D.f, .int .i64 D.r, .int .i64 D.o, .int .i64 W.b, .int .i64 W.f, .int .i64 W.r, .int .i64 W.o, .int .i64 yn, X.v, Y.v, .int .i64 q]⟩), (30, ⟨3, cs17⟩)] (zzd (sw_ren (r := 8) (t := 30) 78 [8, 30] xj xv (by rfl) (by rfl) xv xv ?_)))
 refine zzf (zza 9 (zB false) (zzb (zzd (sq9 (zza 31 (.adr 3 9) (zzi 32 (.v X.v) ty32 zzl (zza 33 (zI X.n) (zza 34 (zI 0) (zzb (zzt (zyn (I := fun m18 S' u' => ∃ (i : Nat) (cs : List Value) (cp : Nat) (b : Bool), (m18 = X.n - i) ∧ (i ≤ X.n) ∧ (cs.take ((1 + yn + i) * 1) = (Nt.valsK D W N (x :: st) i).map (Value.int .i64)) ∧ (cs.length = cp * 1) ∧ (1 + yn + i ≤ cp) ∧ (cp ≤ maxLen) ∧ (b = Nt.oversK D W N (x :: st) i) ∧ (S' = St.of 82 [(3, .adr 3 0), (8, .slc 78 0 (1 + yn + i) cp), (9, zB b), (32, .v (.slice X.a X.n X.c)), (33, zI X.n), (34, zI i)] [(3, ⟨34, [.int .i64 D.b, .int .i64 D.f, .int .i64 D.r, .int .i64 D.o, .int .i64 W.b, .int .i64 W.f, .int .i64 W.r, .int .i64 W.o, .int .i64 yn, .slice X.a X.n X.c, .slice Y.a Y.n Y.c, .int .i64 q]⟩), (78, ⟨3, cs⟩)]) ∧ (Ext u13 u')) (fun m S u1 u2 e h => by obtain ⟨i, cs, cp, b, hm, p0, p1, p2, p3, p4, p5, hS, hE⟩ := h; exact ⟨i, cs, cp, b, hm, p0, p1, p2, p3, p4, p5, hS, hE.trans e⟩) _ yj ⟨0, cs17, c17, false, rfl, Nat.zero_le _, (by have h9 := hd17r; rw [show 0 + 1 + yn = 1 + yn + 0 by omega] at h9; exact h9), hc17, xq, hb17, rfl, rfl, (Ext.refl _)⟩ ?_)))))))))))
 rintro m18 _ u18 ⟨i, cs, cp, b, hm18, hi, ht, hc, hle, hmx, hb9, rfl, e18⟩
 have hvl : (Nt.valsK D W N (x :: st) i).length = 1 + yn + i := Nt.valsK_len.trans yz
 refine sq9 (zza 35 (zB (decide ((i : Int) < (X.n : Int)))) (zzb (zzd (zzu (b := decide ((i : Int) < (X.n : Int))) xv (fun hb19 => ?_) (fun hb19 => ?_)))))
 ·replace hb19 : (decide ((i : Int) < (X.n : Int))) = true := hb19
  have qhb19 := of_decide_eq_true hb19
  refine zzs (zzp ?_)
  refine zzd (zzt (sq9 ?_))
  obtain ⟨b20, hA20, hc20⟩ := nodes_at (i := i) gA xq
  refine zya 36 (0 + i * 1) (n := X.n) (off := 0) (sz := 1) (i := (i : Int)) xq hA20 xq xq sl32 (zym 37 [.slice (La.getD i sl0).a (La.getD i sl0).n (La.getD i sl0).c] (fun j hj => by cases j with | zero => exact ((e14.trans e18).cell hc20) | succ j => exact absurd hj (by simp)) ty72 (zzk 11 ⟨72, [.slice none 0 0]⟩ (zzj ⟨72, [.slice (La.getD i sl0).a (La.getD i sl0).n (La.getD i sl0).c]⟩ ty72 ?_)))
  refine zzb (zzd ?_)
  have hTi := hT1 i xq
  obtain ⟨hSB, hPB⟩ := Nt.netSum (v0 := x :: st) hok (i := i) xq yz (Nt.cons_bd hD hx hst)
  refine zzf (zza 12 (zI 0) (zzb (zzd (sq9 (zza 38 (.adr 11 0) (zzi 39 (.v (.slice (La.getD i sl0).a (La.getD i sl0).n (La.getD i sl0).c)) ty68 zzl (zza 40 (zI (((La.getD i sl0).n : Nat) : Int)) (zza 41 (zI 0) (zzb (zzt (zyn (I := fun m21 S' u' => ∃ (j : Nat), (m21 = (La.getD i sl0).n - j) ∧ (j ≤ (La.getD i sl0).n) ∧ (S' = St.of 82 [(3, .adr 3 0), (8, .slc 78 0 (1 + yn + i) cp), (9, zB b), (12, zI (Nt.sumK (Nt.valsK D W N (x :: st) i) (N.getD i []) j)), (32, .v (.slice X.a X.n X.c)), (33, zI X.n), (34, zI i), (39, .v (.slice (La.getD i sl0).a (La.getD i sl0).n (La.getD i sl0).c)), (40, zI (((La.getD i sl0).n : Nat) : Int)), (41, zI j)] [(3, ⟨34, [.int .i64 D.b, .int .i64 D.f, .int .i64 D.r, .int .i64 D.o, .int .i64 W.b, .int .i64 W.f, .int .i64 W.r, .int .i64 W.o, .int .i64 yn, .slice X.a X.n X.c, .slice Y.a Y.n Y.c, .int .i64 q]⟩), (78, ⟨3, cs⟩)]) ∧ (Ext u18 u')) (fun m S u1 u2 e h => by obtain ⟨j, hm, p0, hS, hE⟩ := h; exact ⟨j, hm, p0, hS, hE.trans e⟩) _ yj ⟨0, rfl, Nat.zero_le _, rfl, (Ext.refl _)⟩ ?_)))))))))))
  rintro m21 _ u21 ⟨j, hm21, hj, rfl, e21⟩
  refine sq9 (zza 42 (zB (decide ((j : Int) < (((La.getD i sl0).n : Nat) : Int)))) (zzb (zzd (zzu (b := decide ((j : Int) < (((La.getD i sl0).n : Nat) : Int))) xv (fun hb22 => ?_) (fun hb22 => ?_)))))
  ·replace hb22 : (decide ((j : Int) < (((La.getD i sl0).n : Nat) : Int))) = true := hb22
   have qhb22 := of_decide_eq_true hb22
   refine zzs (zzp ?_)
   refine zzd (zzt (sq9 ?_))
   obtain ⟨b23, hA23, hc23⟩ := terms_at (i := j) (T := (N.getD i [])) (gC i xq).1 xq
   refine zya 43 (0 + j * 2) (n := (La.getD i sl0).n) (off := 0) (sz := 2) (i := (j : Int)) xq hA23 xq xq sl68 (zym 44 ((N.getD i []).getD j tl0).cs (fun j hj => by have h9 := hc23 j hj; rw [List.getElem?_eq_getElem hj] at h9 ⊢; exact (e14.trans (e18.trans e21)).cell h9) ty70 ?_)
   refine zzk 14 ⟨70, [.int .i64 0, .int .i64 0]⟩ (zzj ⟨70, [.int .i64 (((N.getD i []).getD j tl0).f), .int .i64 (((N.getD i []).getD j tl0).c)]⟩ ty70 ?_)
   refine zzb ?_
   have htj := (hok.ht i xq).2 j xq
   have hs1 := hSB j xq
   have hs2 := hSB (j + 1) xq
   have hp2 := hPB j xq
   refine zzz [0, 0, 2, 0, 0, 16, 56, 120, 254, 511, 1023] [(0, []), (1, []), (2, []), (3, []), (4, []), (5, []), (6, []), (7, []), (8, []), (9, []), (10, [])] xv xv (zza 45 (zI (Nt.sumK (Nt.valsK D W N (x :: st) i) (N.getD i []) j)) (zza 46 (.adr 14 1) (zzi 47 (zI (((N.getD i []).getD j tl0).c)) ty3 zzl (zza 48 (.slc 78 0 (1 + yn + i) cp) (zza 49 (.adr 14 0) (zzi 50 (zI (((N.getD i []).getD j tl0).f)) ty3 zzl (zyw 51 (off' := ((((N.getD i []).getD j tl0).f).toNat) * 1) (n := (1 + yn + i)) (off := 0) (sz := 1) (i := ((N.getD i []).getD j tl0).f) sl22 xq xq xq ?_)))))))
   refine zzi 52 (V := ⟨3, cs⟩) (off := ((((N.getD i []).getD j tl0).f).toNat) * 1) (zI ((Nt.valsK D W N (x :: st) i).getD ((((N.getD i []).getD j tl0).f).toNat) 0)) ty3 (part_take ht hvl xq rfl) (zyq 53 (x := zI (IntKind.i64.wrap ((((N.getD i []).getD j tl0).c) * ((Nt.valsK D W N (x :: st) i).getD ((((N.getD i []).getD j tl0).f).toNat) 0)))) (zI ((((N.getD i []).getD j tl0).c) * ((Nt.valsK D W N (x :: st) i).getD ((((N.getD i []).getD j tl0).f).toNat) 0))) (eqI (IntWalk.i64_in _ xq)) ?_)
   have hs3 : Nt.sumK (Nt.valsK D W N (x :: st) i) (N.getD i []) (j + 1) = Nt.sumK (Nt.valsK D W N (x :: st) i) (N.getD i []) j + (((N.getD i []).getD j tl0).c) * ((Nt.valsK D W N (x :: st) i).getD ((((N.getD i []).getD j tl0).f).toNat) 0) := Nt.sumK_succ xq
   refine zyq 54 (x := zI (IntKind.i64.wrap ((Nt.sumK (Nt.valsK D W N (x :: st) i) (N.getD i []) j) + ((((N.getD i []).getD j tl0).c) * ((Nt.valsK D W N (x :: st) i).getD ((((N.getD i []).getD j tl0).f).toNat) 0))))) (zI (Nt.sumK (Nt.valsK D W N (x :: st) i) (N.getD i []) (j + 1))) (eqI (by rw [← hs3]; exact IntWalk.i64_in _ xq)) (zza 12 (zI (Nt.sumK (Nt.valsK D W N (x :: st) i) (N.getD i []) (j + 1))) (zzx ?_))
   refine zzp (zzf (zyq 55 (x := zI (IntKind.i64.wrap ((j : Int) + 1))) (zI (j + 1 : Nat)) (eqI xk) (zza 41 (zI (j + 1 : Nat)) (zzx ?_))))
   refine ⟨_, ?_, _, by exact zzv _ _ _, j + 1, rfl, by omega, rfl, e21⟩
   omega
  ·replace hb22 : (decide ((j : Int) < (((La.getD i sl0).n : Nat) : Int))) = false := hb22
   have qhb22 := of_decide_eq_false hb22
   refine zyc (zzp (sq9 ?_))
   have hsE : Nt.sumK (Nt.valsK D W N (x :: st) i) (N.getD i []) j = Nt.sumT (Nt.valsK D W N (x :: st) i) (N.getD i []) := by rw [show j = (N.getD i []).length by omega]; exact Nt.sumK_all
   have hsF := hSB j xq
   rw [hsE] at hsF
   refine zyq 56 (x := zI (Nt.sumK (Nt.valsK D W N (x :: st) i) (N.getD i []) j)) (zI (Nt.sumT (Nt.valsK D W N (x :: st) i) (N.getD i []))) (eqI hsE) (zza 57 (.adr 3 4) (zza 58 (.adr 3 5) (zzi 59 (zI W.f) ty3 zzl (zza 60 (.adr 3 0) (zza 61 (.adr 3 2) (zzi 62 (zI D.r) ty3 zzl (zzg 63 44 [.int .i64 (Nt.sumT (Nt.valsK D W N (x :: st) i) (N.getD i [])), .int .i64 W.f, .int .i64 D.r] ?_)))))))
   intro w24 u24 e24 d24
   have k27 := k_fxShift (v := Nt.sumT (Nt.valsK D W N (x :: st) i) (N.getD i [])) (n := W.f) (r := D.r) d24 xq xq xq xq xq
   with_reducible refine zPm k27 ?_
   rintro _ u25 g26 rfl
   refine zza 15 (zI (Nt.shiftW (Nt.sumT (Nt.valsK D W N (x :: st) i) (N.getD i [])) W.f D.r)) (zzb (sq9 (zza 64 (zB b) ?_)))
   rcases Bool.eq_false_or_eq_true b with hs28 | hs28
   ·refine zyq 65 (x := zB b) (zB true) (by rw [hs28]) (zzn 66 (uw 1 false true 65) (zzn 67 (uw 1 false true 65) (zzn 68 (uw 1 false true 65) (zzn 69 (uw 1 false true 65) (zzn 70 (uw 1 false true 65) (zza 71 (zB true) (zza 9 (zB true) (zzc 82 [(3, .adr 3 0), (8, .slc 78 0 (1 + yn + i) cp), (9, zB true), (15, zI (Nt.shiftW (Nt.sumT (Nt.valsK D W N (x :: st) i) (N.getD i [])) W.f D.r)), (32, .v X.v), (33, zI X.n), (34, zI i)] [(3, ⟨34, [.int .i64 D.b, .int .i64 D.f, .int .i64 D.r, .int .i64 D.o, .int .i64 W.b, .int .i64 W.f, .int .i64 W.r, .int .i64 W.o, .int .i64 yn, X.v, Y.v, .int .i64 q]⟩), (78, ⟨3, cs⟩)] (zzf (zza 72 (.slc 78 0 (1 + yn + i) cp) (zza 73 (.adr 3 0) ?_)))))))))))
    refine zzi 74 (.v (D.v)) ty27 zze (zza 75 (zI (Nt.shiftW (Nt.sumT (Nt.valsK D W N (x :: st) i) (N.getD i [])) W.f D.r)) (zzg 76 45 [D.v, .int .i64 (Nt.shiftW (Nt.sumT (Nt.valsK D W N (x :: st) i) (N.getD i [])) W.f D.r)] ?_))
    intro w29 u29 e29 d29
    have k32 := k_fxReduce (D := D) (v := Nt.shiftW (Nt.sumT (Nt.valsK D W N (x :: st) i) (N.getD i [])) W.f D.r) d29 hD
    with_reducible refine zPm k32 ?_
    rintro _ u30 g31 rfl
    have hrd33 := Nt.redW_bd (v := Nt.shiftW (Nt.sumT (Nt.valsK D W N (x :: st) i) (N.getD i [])) W.f D.r) hD
    refine zxs 77 ⟨3, [.int .i64 (Nt.redW D (Nt.shiftW (Nt.sumT (Nt.valsK D W N (x :: st) i) (N.getD i [])) W.f D.r))]⟩ 1 (fun b34 u35 e36 h37 => ?_)
    refine sy_app1 78 (T := 22) (E := 3) (z := .int .i64 0) (size := 1) (bytes := 8) (b := b34) (off := 0) (m := 1) (n := 1 + yn + i) (cap := cp) (t := 78) (cs0 := cs) [8, 72, 78] [.int .i64 (Nt.redW D (Nt.shiftW (Nt.sumT (Nt.valsK D W N (x :: st) i) (N.getD i [])) W.f D.r))] xv xv xv xw rfl (lit_news ((Ext.refl _).cells h37)) (int_one _) xw yq xq xq xq xq xj ?_
    intro c38 cs38 ha38 hb38 hc38 hd38
    have hd38r : cs38.take ((1 + yn + i + 1) * 1) = (Nt.valsK D W N (x :: st) i ++ [Nt.redW D (Nt.shiftW (Nt.sumT (Nt.valsK D W N (x :: st) i) (N.getD i [])) W.f D.r)]).map (Value.int .i64) := by rw [hd38, ht, List.map_append]; rfl
    refine zza 8 (.slc 78 0 (1 + yn + i + 1) c38) (zzx ?_)
    refine zzp (zzf (zyq 79 (x := zI (IntKind.i64.wrap ((i : Int) + 1))) (zI (i + 1 : Nat)) (eqI xk) (zza 34 (zI (i + 1 : Nat)) (zzx ?_))))
    refine ⟨_, ?_, _, by exact zzv _ _ _, i + 1, cs38, c38, true, rfl, by omega, hd38r, hc38, xq, hb38, (by show _ = (_ || _); rw [← hb9, hs28]; rfl), rfl, (e18.trans (e21.trans (e24.trans (g26.ext.trans (e29.trans (g31.ext.trans e36))))))⟩
    omega
   ·refine zyq 65 (x := zB b) (zB false) (by rw [hs28]) (zza 66 (.adr 3 0) ?_ (hw := w1 1 false 65))
    refine zzi 67 (.v (D.v)) ty27 zze ?_ (hw := w1 1 false 65)
    refine zza 68 (zI (Nt.shiftW (Nt.sumT (Nt.valsK D W N (x :: st) i) (N.getD i [])) W.f D.r)) ?_ (hw := w1 1 false 65)
    refine zzg 69 43 [D.v, .int .i64 (Nt.shiftW (Nt.sumT (Nt.valsK D W N (x :: st) i) (N.getD i [])) W.f D.r)] ?_ (hw := w1 1 false 65)
    intro w39 u39 e39 d39
    have k42 := k_fxFitsG (W := D) (z := Nt.shiftW (Nt.sumT (Nt.valsK D W N (x :: st) i) (N.getD i [])) W.f D.r) d39 hD
    with_reducible refine zPm k42 ?_
    rintro _ u40 g41 rfl
    refine zza 70 (zB (!(Nt.fitB D (Nt.shiftW (Nt.sumT (Nt.valsK D W N (x :: st) i) (N.getD i [])) W.f D.r)))) ?_ (hw := w1 1 false 65)
    refine zza 71 (zB (!(Nt.fitB D (Nt.shiftW (Nt.sumT (Nt.valsK D W N (x :: st) i) (N.getD i [])) W.f D.r)))) (zza 9 (zB (!(Nt.fitB D (Nt.shiftW (Nt.sumT (Nt.valsK D W N (x :: st) i) (N.getD i [])) W.f D.r)))) (zzc 82 [(3, .adr 3 0), (8, .slc 78 0 (1 + yn + i) cp), (9, zB (!(Nt.fitB D (Nt.shiftW (Nt.sumT (Nt.valsK D W N (x :: st) i) (N.getD i [])) W.f D.r)))), (15, zI (Nt.shiftW (Nt.sumT (Nt.valsK D W N (x :: st) i) (N.getD i [])) W.f D.r)), (32, .v X.v), (33, zI X.n), (34, zI i)] [(3, ⟨34, [.int .i64 D.b, .int .i64 D.f, .int .i64 D.r, .int .i64 D.o, .int .i64 W.b, .int .i64 W.f, .int .i64 W.r, .int .i64 W.o, .int .i64 yn, X.v, Y.v, .int .i64 q]⟩), (78, ⟨3, cs⟩)] (zzf (zza 72 (.slc 78 0 (1 + yn + i) cp) (zza 73 (.adr 3 0) (zzi 74 (.v (D.v)) ty27 zze (zza 75 (zI (Nt.shiftW (Nt.sumT (Nt.valsK D W N (x :: st) i) (N.getD i [])) W.f D.r)) (zzg 76 45 [D.v, .int .i64 (Nt.shiftW (Nt.sumT (Nt.valsK D W N (x :: st) i) (N.getD i [])) W.f D.r)] ?_))))))))
    intro w43 u43 e43 d43
    have k46 := k_fxReduce (D := D) (v := Nt.shiftW (Nt.sumT (Nt.valsK D W N (x :: st) i) (N.getD i [])) W.f D.r) d43 hD
    with_reducible refine zPm k46 ?_
    rintro _ u44 g45 rfl
    have hrd47 := Nt.redW_bd (v := Nt.shiftW (Nt.sumT (Nt.valsK D W N (x :: st) i) (N.getD i [])) W.f D.r) hD
    refine zxs 77 ⟨3, [.int .i64 (Nt.redW D (Nt.shiftW (Nt.sumT (Nt.valsK D W N (x :: st) i) (N.getD i [])) W.f D.r))]⟩ 1 (fun b48 u49 e50 h51 => ?_)
    refine sy_app1 78 (T := 22) (E := 3) (z := .int .i64 0) (size := 1) (bytes := 8) (b := b48) (off := 0) (m := 1) (n := 1 + yn + i) (cap := cp) (t := 78) (cs0 := cs) [8, 72, 78] [.int .i64 (Nt.redW D (Nt.shiftW (Nt.sumT (Nt.valsK D W N (x :: st) i) (N.getD i [])) W.f D.r))] xv xv xv xw rfl (lit_news ((Ext.refl _).cells h51)) (int_one _) xw yq xq xq xq xq xj ?_
    intro c52 cs52 ha52 hb52 hc52 hd52
    have hd52r : cs52.take ((1 + yn + i + 1) * 1) = (Nt.valsK D W N (x :: st) i ++ [Nt.redW D (Nt.shiftW (Nt.sumT (Nt.valsK D W N (x :: st) i) (N.getD i [])) W.f D.r)]).map (Value.int .i64) := by rw [hd52, ht, List.map_append]; rfl
    refine zza 8 (.slc 78 0 (1 + yn + i + 1) c52) (zzx ?_)
    refine zzp (zzf (zyq 79 (x := zI (IntKind.i64.wrap ((i : Int) + 1))) (zI (i + 1 : Nat)) (eqI xk) (zza 34 (zI (i + 1 : Nat)) (zzx ?_))))
    refine ⟨_, ?_, _, by exact zzv _ _ _, i + 1, cs52, c52, !(Nt.fitB D (Nt.shiftW (Nt.sumT (Nt.valsK D W N (x :: st) i) (N.getD i [])) W.f D.r)), rfl, by omega, hd52r, hc52, xq, hb52, (by show _ = (_ || _); rw [← hb9, hs28]; rfl), rfl, (e18.trans (e21.trans (e24.trans (g26.ext.trans (e39.trans (g41.ext.trans (e43.trans (g45.ext.trans e50))))))))⟩
    omega
 ·replace hb19 : (decide ((i : Int) < (X.n : Int))) = false := hb19
  have qhb19 := of_decide_eq_false hb19
  refine zyc (zzp (zzd (zyp (r := 8) (t := 78) [8, 78] xj xv (by rfl) (by rfl) xv (fun b53 u54 e55 hb56 hh57 => ?_))))
  have hp58 : SlR .i64 u54 (some ⟨b53, 0, none⟩) (1 + yn + i) cp (Nt.valsK D W N (x :: st) i) := ints_data hh57 (by have h9 := ht; rw [Nat.mul_one] at h9; exact h9) (by have h9 := hc; rw [Nat.mul_one] at h9; exact h9) hle hmx
  refine zzf (zza 80 (.v (.slice (some ⟨b53, 0, none⟩) (1 + yn + i) cp)) (zza 81 (zB b) (zza 6 (.v (.slice (some ⟨b53, 0, none⟩) (1 + yn + i) cp)) (zza 7 (zB b) (zzb (zzo (ret0 [.slice (some ⟨b53, 0, none⟩) (1 + yn + i) cp, .bool b] ⟨zzq, zzq, trivial⟩ fun u59 e60 => ?_)))))))
  have hi9 : i = N.length := by omega
  have h8 := (hp58.ext e60)
  rw [hi9] at h8
  refine ⟨(⟨some ⟨b53, 0, none⟩, 1 + yn + i, cp⟩ : Sl), ?_, ?_, ⟨b53, rfl, hb56⟩⟩
  ·rw [hb9, hi9]; rfl
  ·rw [hi9]; exact h8
set_option maxHeartbeats 2000000 in
theorem k_netFollow {u w : World} {D W : WL} {s : Nat} {X Y : Sl} {h lo : Nat} {N : List (List TL)} {nx : List Int} {q : Int} {z : Sl} {vals : List Int} (d : Dat u w) (hN : NodesB lo h u X N) (hY : MutL 1 3 lo u Y (ics nx)) (hok : Nt.NetOK D W s N nx q) (hz : SlR .i64 u z.a z.n z.c vals) (hzb : ∀ z ∈ vals, -9223372036854775808 ≤ z ∧ z ≤ 9223372036854775807) (hvl : vals.length = 1 + s + N.length) : Calls Try.prog 28 #[.agg #[.int .i64 D.b, .int .i64 D.f, .int .i64 D.r, .int .i64 D.o, .int .i64 W.b, .int .i64 W.f, .int .i64 W.r, .int .i64 W.o, .int .i64 (s : Int), X.v, Y.v, .int .i64 q], z.v] w (Post u w fun v u' => ∃ y : Sl, v = y.v ∧ SlR .i64 u' y.a y.n y.c (Nt.nextV nx vals)) := by
 obtain ⟨La, gA, gB, gC⟩ := id hN
 have hNl := hN.len
 have hD := hok.hd
 have hWc := hok.hw
 have hs64 := hok.hs
 have hn64 := hok.hn
 have hxs := hok.hx
 have hYr := MutL.slr hY
 have hYl : nx.length = Y.n := hYr.1
 have hqq := hok.hq
 have hbx : ∀ z ∈ nx, -9223372036854775808 ≤ z ∧ z ≤ 9223372036854775807 := fun z hz => by
  obtain ⟨j, hj, rfl⟩ := Nt.mem_getD hz
  have h9 := hok.hr j hj
  omega
 have hT1 : ∀ i, i < N.length → (La.getD i sl0).n = (N.getD i []).length ∧ (N.getD i []).length ≤ 64 := fun i hi => ⟨tms_len (gC i hi).1, (hok.ht i hi).1⟩
 obtain ⟨hd1, hd2, hd3, hd4, hd5, hd6, hd7, hd8⟩ := id hD
 obtain ⟨hw1, hw2, hw3, hw4, hw5, hw6, hw7, hw8⟩ := id hWc
 have hpw1 := Nt.zxj W.f
 have hpw2 := Nt.p2i_24 (n := W.f) xq
 have hpd1 := Nt.zxj (D.b - 1)
 have hpd2 : Nt.p2i (D.b - 1) ≤ 8388608 := Nt.zxz (b := 23) xq
 have hzl : vals.length = z.n := hz.1
 refine zzm (args := [.agg #[.int .i64 D.b, .int .i64 D.f, .int .i64 D.r, .int .i64 D.o, .int .i64 W.b, .int .i64 W.f, .int .i64 W.r, .int .i64 W.o, .int .i64 s, .slice X.a X.n X.c, .slice Y.a Y.n Y.c, .int .i64 q], .slice z.a z.n z.c]) Try.func28 rfl Try.ntmps28 (rs := [.tmp 4]) Try.results28 (le_b rfl) (le_b rfl) d ?_
 refine sq9 (zzk 2 ⟨34, [.int .i64 D.b, .int .i64 D.f, .int .i64 D.r, .int .i64 D.o, .int .i64 W.b, .int .i64 W.f, .int .i64 W.r, .int .i64 W.o, .int .i64 s, X.v, Y.v, .int .i64 q]⟩ (zza 4 (.v (.slice none 0 0)) (zzb (sq9 (zza 8 (.adr 2 8) (zzi 9 (zI s) ty3 zzl (sy_make 10 (T := 22) (E := 3) (z := .int .i64 0) (size := 1) (bytes := 8) s (ics (List.replicate s 0)) xv xv rfl rfl xq yq (made_ints _) ?_)))))))
 refine zza 5 (.slc 10 0 s s) (zzc 28 [(1, .v z.v), (2, .adr 2 0), (5, .slc 10 0 s s)] [(2, ⟨34, [.int .i64 D.b, .int .i64 D.f, .int .i64 D.r, .int .i64 D.o, .int .i64 W.b, .int .i64 W.f, .int .i64 W.r, .int .i64 W.o, .int .i64 s, X.v, Y.v, .int .i64 q]⟩), (10, ⟨3, ics (List.replicate s 0)⟩)] (zzd (sq9 (zza 11 (.adr 2 10) (zzi 12 (.v Y.v) ty22 zzl (zza 13 (zI Y.n) (zza 14 (zI 0) (zzb (zzt (zyn (I := fun m11 S' u' => ∃ (i : Nat) (M : List Int), (m11 = Y.n - i) ∧ (i ≤ Y.n) ∧ (M.length = s) ∧ (∀ j, j < i → M.getD j 0 = vals.getD (nx.getD j 0).toNat 0) ∧ (S' = St.of 28 [(1, .v (.slice z.a z.n z.c)), (5, .slc 10 0 s s), (12, .v (.slice Y.a Y.n Y.c)), (13, zI Y.n), (14, zI i)] [(10, ⟨3, ics M⟩)]) ∧ (Ext u u')) (fun m S u1 u2 e h => by obtain ⟨i, M, hm, p0, p1, p2, hS, hE⟩ := h; exact ⟨i, M, hm, p0, p1, p2, hS, hE.trans e⟩) _ yj ⟨0, List.replicate s 0, rfl, Nat.zero_le _, (by simp), (fun j hj => absurd hj (Nat.not_lt_zero j)), rfl, (Ext.refl _)⟩ ?_))))))))))
 rintro m11 _ u11 ⟨i, M, hm11, hi, hM, hF, rfl, e11⟩
 refine sq9 (zza 15 (zB (decide ((i : Int) < (Y.n : Int)))) (zzb (zzd (zzu (b := decide ((i : Int) < (Y.n : Int))) xv (fun hb12 => ?_) (fun hb12 => ?_)))))
 ·replace hb12 : (decide ((i : Int) < (Y.n : Int))) = true := hb12
  have qhb12 := of_decide_eq_true hb12
  refine zzs (zzp ?_)
  refine zzd (zzt (sq9 (zza 16 (zI i) ?_)))
  have hl13 := ((hYr.ext e11)).1
  obtain ⟨b13, o13, hA13, hc13⟩ := ints_at (hYr.ext e11) (i := i) xq
  have hz13 := ints_bd hbx xq i
  refine zya 17 (o13 + i * 1) (n := Y.n) (off := o13) (sz := 1) (i := (i : Int)) xq hA13 xq xq sl22 (zyl 18 (.int .i64 (nx.getD i 0)) hc13 ty3 (zza 6 (zI i) (zza 7 (zI (nx.getD i 0)) (zzb ?_))))
  have hrj := hok.hr i xq
  refine zzf (zza 19 (.slc 10 0 s s) (zza 20 (zI i) (zza 21 (.v z.v) (zza 22 (zI (nx.getD i 0)) ?_))))
  have hl14 := ((hz.ext e11)).1
  obtain ⟨b14, o14, hA14, hc14⟩ := ints_at (hz.ext e11) (i := (nx.getD i 0).toNat) xq
  refine zya 23 (o14 + ((nx.getD i 0).toNat) * 1) (n := z.n) (off := o14) (sz := 1) (i := (nx.getD i 0)) xq hA14 xq xq sl22 (zyl 24 (.int .i64 (vals.getD ((nx.getD i 0).toNat) 0)) hc14 ty3 (zyw 25 (off' := i * 1) (n := s) (off := 0) (sz := 1) (i := (i : Int)) sl22 xq xq xq ?_))
  refine zyv (V := ⟨3, ics M⟩) (off := i * 1) (ics ((M).set i (vals.getD ((nx.getD i 0).toNat) 0))) ty3 (by rw [zwe]; omega) (setL_ints (z := (vals.getD ((nx.getD i 0).toNat) 0)) (i := i) xq rfl) ?_
  refine zzx ?_
  refine zzp (zzf (zyq 26 (x := zI (IntKind.i64.wrap ((i : Int) + 1))) (zI (i + 1 : Nat)) (eqI xk) (zza 14 (zI (i + 1 : Nat)) (zzx ?_))))
  refine ⟨_, ?_, _, by exact zzv _ _ _, i + 1, (M).set i (vals.getD ((nx.getD i 0).toNat) 0), rfl, by omega, (by rw [List.length_set]; exact hM), (fun j hj => by rw [Nt.getD_setI _ _ _ _ xq]; by_cases e : i = j; (rw [if_pos e, ← e]); (rw [if_neg e]; exact hF j xq)), rfl, e11⟩
  omega
 ·replace hb12 : (decide ((i : Int) < (Y.n : Int))) = false := hb12
  have qhb12 := of_decide_eq_false hb12
  refine zyc (zzp (zzd (zyp (r := 5) (t := 10) [5, 10] xj xv (by rfl) (by rfl) xv (fun b15 u16 e17 hb18 hh19 => ?_))))
  have hp20 : SlR .i64 u16 (some ⟨b15, 0, none⟩) s s M := ints_data hh19 (by unfold ics; exact List.take_of_length_le (by rw [List.length_map]; (first | omega | exact Nat.le_of_eq hrl))) (by unfold ics; rw [List.length_map]; (first | omega | exact hrl)) (Nat.le_refl _) yq
  refine zzf (zza 27 (.v (.slice (some ⟨b15, 0, none⟩) s s)) (zza 4 (.v (.slice (some ⟨b15, 0, none⟩) s s)) (zzb (zzo (ret0 [.slice (some ⟨b15, 0, none⟩) s s] ⟨zzq, trivial⟩ fun u21 e22 => ?_)))))
  have h9 : M = Nt.nextV nx vals := Nt.nextV_ext xq (fun j hj => hF j xq)
  rw [← h9]
  exact ⟨(⟨some ⟨b15, 0, none⟩, s, s⟩ : Sl), rfl, (hp20.ext e22)⟩
theorem Nt.runC_le {D W : WL} {N : List (List TL)} {nx st xs : List Int} {k : Nat} : Nt.runC D W N nx st xs k ≤ k := by
 induction k with
 | zero => exact Nat.le_refl _
 | succ k ih => show _ + (if _ then 1 else 0) ≤ _; split <;> omega
set_option maxHeartbeats 4000000 in
theorem k_netRun {u w : World} {D W : WL} {s : Nat} {X Y : Sl} {h lo : Nat} {N : List (List TL)} {nx : List Int} {q : Int} {y z : Sl} {st xs : List Int} (d : Dat u w) (hN : NodesB lo h u X N) (hY : MutL 1 3 lo u Y (ics nx)) (hok : Nt.NetOK D W s N nx q) (hy : SlR .i64 u y.a y.n y.c st) (hyb : ∀ z ∈ st, -9223372036854775808 ≤ z ∧ z ≤ 9223372036854775807) (hsl : st.length = s) (hst : ∀ i, i < st.length → Nt.fitB D (st.getD i 0) = true) (hz : SlR .i64 u z.a z.n z.c xs) (hzb : ∀ z ∈ xs, -9223372036854775808 ≤ z ∧ z ≤ 9223372036854775807) (hxl : xs.length ≤ 4096) (hxf : ∀ i, i < xs.length → Nt.fitB D (xs.getD i 0) = true) : Calls Try.prog 11 #[.agg #[.int .i64 D.b, .int .i64 D.f, .int .i64 D.r, .int .i64 D.o, .int .i64 W.b, .int .i64 W.f, .int .i64 W.r, .int .i64 W.o, .int .i64 (s : Int), X.v, Y.v, .int .i64 q], y.v, z.v] w (Post u w fun v u' => ∃ o p : Sl, v = .tuple #[o.v, p.v, .int .i64 ((Nt.runC D W N nx st xs xs.length : Nat) : Int), .int .i64 0] ∧ SlR .i64 u' o.a o.n o.c (Nt.runO D W N nx q st xs xs.length) ∧ SlR .i64 u' p.a p.n p.c (Nt.runS D W N nx st xs xs.length)) := by
 obtain ⟨ya, yn, yc⟩ := y
 change SlR .i64 u ya yn yc st at hy
 have hyl : st.length = yn := hy.1
 obtain rfl : yn = s := by omega
 obtain ⟨za, xn, zc⟩ := z
 change SlR .i64 u za xn zc xs at hz
 have hzl : xs.length = xn := hz.1
 obtain ⟨La, gA, gB, gC⟩ := id hN
 have hNl := hN.len
 have hD := hok.hd
 have hWc := hok.hw
 have hs64 := hok.hs
 have hn64 := hok.hn
 have hxs := hok.hx
 have hYr := MutL.slr hY
 have hYl : nx.length = Y.n := hYr.1
 have hqq := hok.hq
 have hbx : ∀ z ∈ nx, -9223372036854775808 ≤ z ∧ z ≤ 9223372036854775807 := fun z hz => by
  obtain ⟨j, hj, rfl⟩ := Nt.mem_getD hz
  have h9 := hok.hr j hj
  omega
 have hT1 : ∀ i, i < N.length → (La.getD i sl0).n = (N.getD i []).length ∧ (N.getD i []).length ≤ 64 := fun i hi => ⟨tms_len (gC i hi).1, (hok.ht i hi).1⟩
 obtain ⟨hd1, hd2, hd3, hd4, hd5, hd6, hd7, hd8⟩ := id hD
 obtain ⟨hw1, hw2, hw3, hw4, hw5, hw6, hw7, hw8⟩ := id hWc
 have hpw1 := Nt.zxj W.f
 have hpw2 := Nt.p2i_24 (n := W.f) xq
 have hpd1 := Nt.zxj (D.b - 1)
 have hpd2 : Nt.p2i (D.b - 1) ≤ 8388608 := Nt.zxz (b := 23) xq
 refine zzm (args := [.agg #[.int .i64 D.b, .int .i64 D.f, .int .i64 D.r, .int .i64 D.o, .int .i64 W.b, .int .i64 W.f, .int .i64 W.r, .int .i64 W.o, .int .i64 yn, .slice X.a X.n X.c, .slice Y.a Y.n Y.c, .int .i64 q], .slice ya yn yc, .slice za xn zc]) Try.func11 rfl Try.ntmps11 (rs := [.tmp 6, .tmp 7, .tmp 8, .tmp 9]) Try.results11 (le_b rfl) (le_b rfl) d ?_
 refine sq9 (zzk 3 ⟨34, [.int .i64 D.b, .int .i64 D.f, .int .i64 D.r, .int .i64 D.o, .int .i64 W.b, .int .i64 W.f, .int .i64 W.r, .int .i64 W.o, .int .i64 yn, X.v, Y.v, .int .i64 q]⟩ (zza 6 (.v (.slice none 0 0)) (zza 7 (.v (.slice none 0 0)) (zza 8 (zI 0) (zza 9 (zI 0) (zzb (zzd (sq9 (zzi 18 (.v (.agg #[.int .i64 D.b, .int .i64 D.f, .int .i64 D.r, .int .i64 D.o, .int .i64 W.b, .int .i64 W.f, .int .i64 W.r, .int .i64 W.o, .int .i64 yn, X.v, Y.v, .int .i64 q])) ty34 zze (zzg 19 25 [.agg #[.int .i64 D.b, .int .i64 D.f, .int .i64 D.r, .int .i64 D.o, .int .i64 W.b, .int .i64 W.f, .int .i64 W.r, .int .i64 W.o, .int .i64 yn, X.v, Y.v, .int .i64 q]] ?_))))))))))
 intro w11 u11 e11 d11
 have k14 := k_netValid d11 (hN.ext e11) (hY.ext e11) hok
 with_reducible refine zPm k14 ?_
 rintro _ u12 g13 rfl
 refine zza 20 (zB false) (zzb (zys xv (zzs (zzp ?_))))
 refine zzd (sq9 (zza 21 (.v (.slice za xn zc)) (zza 22 (zI xn) (zza 23 (zB (decide ((4096 : Int) < (xn : Int)))) (zzb (zzu (b := decide ((4096 : Int) < (xn : Int))) xv (fun hb => ?_) (fun hb => ?_)))))))
 ·exact absurd hb (by rw [show (decide ((4096 : Int) < (xn : Int))) = false from decide_eq_false xq]; decide)
 ·clear hb
  refine zzs (zzp ?_)
  refine zzd (sq9 (zzi 24 (.v (.agg #[.int .i64 D.b, .int .i64 D.f, .int .i64 D.r, .int .i64 D.o, .int .i64 W.b, .int .i64 W.f, .int .i64 W.r, .int .i64 W.o, .int .i64 yn, X.v, Y.v, .int .i64 q])) ty34 zze (zza 25 (.v (.slice ya yn yc)) (zza 26 (.v (.slice za xn zc)) (zzg 27 26 [.agg #[.int .i64 D.b, .int .i64 D.f, .int .i64 D.r, .int .i64 D.o, .int .i64 W.b, .int .i64 W.f, .int .i64 W.r, .int .i64 W.o, .int .i64 yn, X.v, Y.v, .int .i64 q], .slice ya yn yc, .slice za xn zc] ?_)))))
  intro w15 u15 e15 d15
  have k18 := (show Calls _ _ #[_, .slice ya yn yc, .slice za xn zc] _ _ from k_netWrong (X := X) (Y := Y) (y := (⟨ya, yn, yc⟩ : Sl)) (z := (⟨za, xn, zc⟩ : Sl)) (N := N) (nx := nx) (q := q) (h := h) (lo := lo) (W := W) d15 hD (hy.ext (e11.trans (g13.ext.trans e15))) (hz.ext (e11.trans (g13.ext.trans e15))) hyb hzb hsl hs64 hst hxf)
  with_reducible refine zPm k18 ?_
  rintro _ u16 g17 rfl
  refine zza 10 (zI 0) (zzb (sq9 (zza 28 (zI 0) (zza 29 (zB false) (zzb (zys xv (zzs (zzp ?_))))))))
  refine sq9 (zza 31 (.v (.slice ya yn yc)) (zza 32 (zI yn) (sy_make 33 (T := 22) (E := 3) (z := .int .i64 0) (size := 1) (bytes := 8) yn (ics (List.replicate yn 0)) xv xv rfl rfl xq yq (made_ints _) ?_)))
  refine zza 11 (.slc 33 0 yn yn) (zzc 73 [(1, .v (.slice ya yn yc)), (2, .v (.slice za xn zc)), (3, .adr 3 0), (11, .slc 33 0 yn yn)] [(3, ⟨34, [.int .i64 D.b, .int .i64 D.f, .int .i64 D.r, .int .i64 D.o, .int .i64 W.b, .int .i64 W.f, .int .i64 W.r, .int .i64 W.o, .int .i64 yn, X.v, Y.v, .int .i64 q]⟩), (33, ⟨3, ics (List.replicate yn 0)⟩)] (sq9 (zza 34 (.slc 33 0 yn yn) (zza 35 (.v (.slice ya yn yc)) (sy_copyI 36 (T := 22) (E := 3) (A := (⟨ya, yn, yc⟩ : Sl).a) (m := yn) (c2 := (⟨ya, yn, yc⟩ : Sl).c) (t := 33) (n := yn) (c := yn) (cs0 := ics (List.replicate yn 0)) st xv xv rfl (hy.ext (e11.trans (g13.ext.trans (e15.trans g17.ext)))) (by rw [zwe]; rw [List.length_replicate]) ?_)))))
  refine zzc 73 [(2, .v (.slice za xn zc)), (3, .adr 3 0), (11, .slc 33 0 yn yn)] [(3, ⟨34, [.int .i64 D.b, .int .i64 D.f, .int .i64 D.r, .int .i64 D.o, .int .i64 W.b, .int .i64 W.f, .int .i64 W.r, .int .i64 W.o, .int .i64 yn, X.v, Y.v, .int .i64 q]⟩), (33, ⟨3, ics st⟩)] (sq9 (zza 37 (.v (.slice za xn zc)) (zza 38 (zI xn) (sy_makeC 39 (T := 22) (E := 3) (z := .int .i64 0) (size := 1) (bytes := 8) 0 xn (ics (List.replicate xn 0)) xv xv rfl rfl xq xq yq (made_ints _) ?_))))
  have hc19 : (ics (List.replicate xn 0)).length = xn * 1 := by rw [zwe, List.length_replicate, Nat.mul_one]
  have hle19 : 0 ≤ xn := Nat.zero_le _
  have hmx19 : xn ≤ maxLen := by unfold maxLen; omega
  have ht19 : (ics (List.replicate xn 0)).take (0 * 1) = ([] : List Int).map (Value.int .i64) := by rw [Nat.zero_mul]; rfl
  refine zza 12 (.slc 39 0 0 xn) (zzc 73 [(2, .v (.slice za xn zc)), (3, .adr 3 0), (11, .slc 33 0 yn yn), (12, .slc 39 0 0 xn)] [(3, ⟨34, [.int .i64 D.b, .int .i64 D.f, .int .i64 D.r, .int .i64 D.o, .int .i64 W.b, .int .i64 W.f, .int .i64 W.r, .int .i64 W.o, .int .i64 yn, X.v, Y.v, .int .i64 q]⟩), (33, ⟨3, ics st⟩), (39, ⟨3, (ics (List.replicate xn 0))⟩)] (zzd (sw_ren (r := 12) (t := 39) 65 [12, 39] xj xv (by rfl) (by rfl) xv xv ?_)))
  refine zzf (zza 13 (zI 0) (zzb (zzd (sq9 (zza 40 (.v (.slice za xn zc)) (zza 41 (zI xn) (zza 42 (zI 0) (zzb (zzt (zyn (I := fun m20 S' u' => ∃ (i : Nat) (cs : List Value) (cp : Nat) (m : Nat), (m20 = xn - i) ∧ (i ≤ xn) ∧ (cs.take (i * 1) = (Nt.runO D W N nx q st xs i).map (Value.int .i64)) ∧ (cs.length = cp * 1) ∧ (i ≤ cp) ∧ (cp ≤ maxLen) ∧ (m = Nt.runC D W N nx st xs i) ∧ (S' = St.of 73 [(3, .adr 3 0), (11, .slc 33 0 yn yn), (12, .slc 65 0 i cp), (13, zI m), (40, .v (.slice za xn zc)), (41, zI xn), (42, zI i)] [(3, ⟨34, [.int .i64 D.b, .int .i64 D.f, .int .i64 D.r, .int .i64 D.o, .int .i64 W.b, .int .i64 W.f, .int .i64 W.r, .int .i64 W.o, .int .i64 yn, .slice X.a X.n X.c, .slice Y.a Y.n Y.c, .int .i64 q]⟩), (33, ⟨3, ics (Nt.runS D W N nx st xs i)⟩), (65, ⟨3, cs⟩)]) ∧ (Ext u u')) (fun m S u1 u2 e h => by obtain ⟨i, cs, cp, m, hm, p0, p1, p2, p3, p4, p5, hS, hE⟩ := h; exact ⟨i, cs, cp, m, hm, p0, p1, p2, p3, p4, p5, hS, hE.trans e⟩) _ yj ⟨0, (ics (List.replicate xn 0)), xn, 0, rfl, Nat.zero_le _, ht19, hc19, xq, hmx19, rfl, rfl, (e11.trans (g13.ext.trans (e15.trans g17.ext)))⟩ ?_))))))))))
  rintro m20 _ u20 ⟨i, cs, cp, m, hm20, hi, ht, hc, hle, hmx, hm9, rfl, e20⟩
  obtain ⟨hrl, hrf⟩ := Nt.runS_ok hok hsl hst hxf i xq
  have hmi : m ≤ i := by rw [hm9]; exact Nt.runC_le
  refine sq9 (zza 43 (zB (decide ((i : Int) < (xn : Int)))) (zzb (zzd (zzu (b := decide ((i : Int) < (xn : Int))) xv (fun hb21 => ?_) (fun hb21 => ?_)))))
  ·replace hb21 : (decide ((i : Int) < (xn : Int))) = true := hb21
   have qhb21 := of_decide_eq_true hb21
   refine zzs (zzp ?_)
   refine zzd (zzt (sq9 ?_))
   have hl22 := ((hz.ext e20)).1
   change _ = xn at hl22
   obtain ⟨b22, o22, hA22, hc22⟩ := ints_at (hz.ext e20) (i := i) xq
   have hz22 := ints_bd hzb xq i
   refine zya 44 (o22 + i * 1) (n := xn) (off := o22) (sz := 1) (i := (i : Int)) xq hA22 xq xq sl22 (zyl 45 (.int .i64 (xs.getD i 0)) hc22 ty3 (zza 15 (zI (xs.getD i 0)) (zzb (zzd (zyp (r := 11) (t := 33) [11, 33] xj xv (by rfl) (by rfl) xv (fun b23 u24 e25 hb26 hh27 => ?_))))))
   have hp28 : SlR .i64 u24 (some ⟨b23, 0, none⟩) yn yn (Nt.runS D W N nx st xs i) := ints_data hh27 (by unfold ics; exact List.take_of_length_le (by rw [List.length_map]; (first | omega | exact Nat.le_of_eq hrl))) (by unfold ics; rw [List.length_map]; (first | omega | exact hrl)) (Nat.le_refl _) yq
   have hxi := hxf i xq
   have hsi : (Nt.runS D W N nx st xs i).length = yn := hrl
   have hfi : ∀ j, j < (Nt.runS D W N nx st xs i).length → Nt.fitB D ((Nt.runS D W N nx st xs i).getD j 0) = true := fun j hj => hrf j xq
   have hsb : ∀ z ∈ Nt.runS D W N nx st xs i, -9223372036854775808 ≤ z ∧ z ≤ 9223372036854775807 := fun z hz => by obtain ⟨j, hj, rfl⟩ := Nt.mem_getD hz; have h9 := Nt.fit_iff.1 (hrf j xq); omega
   have hvv := Nt.valsK_bd (D := D) (W := W) (N := N) (k := N.length) hD (Nt.cons_bd hD hxi hfi)
   have hvl9 : (Nt.runV D W N nx st xs i).length = 1 + yn + N.length := Nt.valsK_len.trans yz
   have hvb : ∀ z ∈ Nt.runV D W N nx st xs i, -9223372036854775808 ≤ z ∧ z ≤ 9223372036854775807 := fun z hz => by obtain ⟨j, hj, rfl⟩ := Nt.mem_getD hz; have h9 := hvv j yz; have h8 : _ ∧ _ := h9; show _ ≤ (Nt.valsK D W N _ N.length).getD j 0 ∧ (Nt.valsK D W N _ N.length).getD j 0 ≤ _; omega
   have hnl : (Nt.nextV nx (Nt.runV D W N nx st xs i)).length = yn := Nt.nextV_len.trans hxs
   have hnb : True := trivial
   refine zzf (zzi 47 (.v (.agg #[.int .i64 D.b, .int .i64 D.f, .int .i64 D.r, .int .i64 D.o, .int .i64 W.b, .int .i64 W.f, .int .i64 W.r, .int .i64 W.o, .int .i64 yn, X.v, Y.v, .int .i64 q])) ty34 zze (zza 48 (.v (.slice (some ⟨b23, 0, none⟩) yn yn)) (zza 49 (zI (xs.getD i 0)) (zzg 50 27 [.agg #[.int .i64 D.b, .int .i64 D.f, .int .i64 D.r, .int .i64 D.o, .int .i64 W.b, .int .i64 W.f, .int .i64 W.r, .int .i64 W.o, .int .i64 yn, X.v, Y.v, .int .i64 q], .slice (some ⟨b23, 0, none⟩) yn yn, .int .i64 (xs.getD i 0)] ?_))))
   intro w29 u29 e29 d29
   have k33 := (show Calls _ _ #[_, .slice (some ⟨b23, 0, none⟩) yn yn, _] _ _ from k_netCompute (y := (⟨some ⟨b23, 0, none⟩, yn, yn⟩ : Sl)) (x := (xs.getD i 0)) d29 (hN.ext (e20.trans (e25.trans e29))) (hY.ext (e20.trans (e25.trans e29))) hok (hp28.ext e29) hsb hsi hfi hxi)
   with_reducible refine zPm k33 ?_
   rintro _ u31 g32 ⟨z30, rfl, hz30, g30, hg30, hh30⟩
   refine zza 46 (.v (.tuple #[z30.v, .bool (Nt.oversK D W N ((xs.getD i 0) :: (Nt.runS D W N nx st xs i)) N.length)])) (zza 51 (.v z30.v) (zza 52 (zB (Nt.oversK D W N ((xs.getD i 0) :: (Nt.runS D W N nx st xs i)) N.length)) (zza 16 (.v z30.v) (zza 17 (zB (Nt.oversK D W N ((xs.getD i 0) :: (Nt.runS D W N nx st xs i)) N.length)) (zzb (zzd (sw_adopt (r := 11) (k := 33) (cs := ics (Nt.runS D W N nx st xs i)) (by rfl) ((e29.trans g32.ext).cells hh27) hb26 xv (fun u34 eB35 => ?_))))))))
   have hlt9 := zyz hh27
   have hsz9 := (e29).size
   have hz36 := SlR.fresh hz30 hg30 xq eB35
   have hzn9 : z30.n = 1 + yn + N.length := (hz36).1.symm.trans hvl9
   refine zzf (zza 53 (.slc 33 0 yn yn) (zzi 54 (.v (.agg #[.int .i64 D.b, .int .i64 D.f, .int .i64 D.r, .int .i64 D.o, .int .i64 W.b, .int .i64 W.f, .int .i64 W.r, .int .i64 W.o, .int .i64 yn, X.v, Y.v, .int .i64 q])) ty34 zze (zza 55 (.v z30.v) (zzg 56 28 [.agg #[.int .i64 D.b, .int .i64 D.f, .int .i64 D.r, .int .i64 D.o, .int .i64 W.b, .int .i64 W.f, .int .i64 W.r, .int .i64 W.o, .int .i64 yn, X.v, Y.v, .int .i64 q], z30.v] ?_))))
   intro w37 u37 e37 d37
   have k41 := (show Calls _ _ #[_, .slice z30.a z30.n z30.c] _ _ from k_netFollow (z := z30) d37 (hN.ext ((ExtB.old eB35 (e20.trans (e25.trans (e29.trans g32.ext))) hb26).trans e37)) (hY.ext ((ExtB.old eB35 (e20.trans (e25.trans (e29.trans g32.ext))) hb26).trans e37)) hok (hz36.ext e37) hvb hvl9)
   with_reducible refine zPm k41 ?_
   rintro _ u39 g40 ⟨y38, rfl, hy38⟩
   refine sy_copyI 57 (T := 22) (E := 3) (A := y38.a) (m := y38.n) (c2 := y38.c) (t := 33) (n := yn) (c := yn) (cs0 := ics (Nt.runS D W N nx st xs i)) (Nt.nextV nx (Nt.valsK D W N ((xs.getD i 0) :: (Nt.runS D W N nx st xs i)) N.length)) xv xv ((hy38).1.symm.trans hnl) hy38 (by rw [zwe]; exact hrl) ?_
   refine zzc 73 [(3, .adr 3 0), (11, .slc 33 0 yn yn), (12, .slc 65 0 i cp), (13, zI m), (16, .v z30.v), (17, zB (Nt.oversK D W N ((xs.getD i 0) :: (Nt.runS D W N nx st xs i)) N.length)), (40, .v (.slice za xn zc)), (41, zI xn), (42, zI i)] [(3, ⟨34, [.int .i64 D.b, .int .i64 D.f, .int .i64 D.r, .int .i64 D.o, .int .i64 W.b, .int .i64 W.f, .int .i64 W.r, .int .i64 W.o, .int .i64 yn, X.v, Y.v, .int .i64 q]⟩), (33, ⟨3, ics (Nt.runS D W N nx st xs (i + 1))⟩), (65, ⟨3, cs⟩)] (sq9 (zza 58 (.slc 65 0 i cp) (zza 59 (.v z30.v) (zza 60 (.adr 3 11) (zzi 61 (zI q) ty3 zzl ?_)))))
   have hl42 := ((hz36.ext (e37.trans g40.ext))).1
   obtain ⟨b42, o42, hA42, hc42⟩ := ints_at (hz36.ext (e37.trans g40.ext)) (i := q.toNat) xq
   refine zya 62 (o42 + q.toNat * 1) (n := z30.n) (off := o42) (sz := 1) (i := q) xq hA42 xq xq sl22 (zyl 63 (.int .i64 ((Nt.valsK D W N ((xs.getD i 0) :: (Nt.runS D W N nx st xs i)) N.length).getD q.toNat 0)) hc42 ty3 (zxs 64 ⟨3, [.int .i64 ((Nt.valsK D W N ((xs.getD i 0) :: (Nt.runS D W N nx st xs i)) N.length).getD q.toNat 0)]⟩ 1 (fun b43 u44 e45 h46 => ?_)))
   refine sy_app1 65 (T := 22) (E := 3) (z := .int .i64 0) (size := 1) (bytes := 8) (b := b43) (off := 0) (m := 1) (n := i) (cap := cp) (t := 65) (cs0 := cs) [12, 58, 65] [.int .i64 ((Nt.valsK D W N ((xs.getD i 0) :: (Nt.runS D W N nx st xs i)) N.length).getD q.toNat 0)] xv xv xv xw rfl (lit_news ((Ext.refl _).cells h46)) (int_one _) xw yq xq xq xq xq xj ?_
   intro c47 cs47 ha47 hb47 hc47 hd47
   have hd47r : cs47.take ((i + 1) * 1) = (Nt.runO D W N nx q st xs i ++ [((Nt.valsK D W N ((xs.getD i 0) :: (Nt.runS D W N nx st xs i)) N.length).getD q.toNat 0)]).map (Value.int .i64) := by rw [hd47, ht, List.map_append]; rfl
   refine zza 12 (.slc 65 0 (i + 1) c47) (zzc 73 [(3, .adr 3 0), (11, .slc 33 0 yn yn), (12, .slc 65 0 (i + 1) c47), (13, zI m), (17, zB (Nt.oversK D W N ((xs.getD i 0) :: (Nt.runS D W N nx st xs i)) N.length)), (40, .v (.slice za xn zc)), (41, zI xn), (42, zI i)] [(3, ⟨34, [.int .i64 D.b, .int .i64 D.f, .int .i64 D.r, .int .i64 D.o, .int .i64 W.b, .int .i64 W.f, .int .i64 W.r, .int .i64 W.o, .int .i64 yn, X.v, Y.v, .int .i64 q]⟩), (33, ⟨3, ics (Nt.runS D W N nx st xs (i + 1))⟩), (65, ⟨3, cs47⟩)] (sq9 (zza 66 (zB (Nt.oversK D W N ((xs.getD i 0) :: (Nt.runS D W N nx st xs i)) N.length)) (zzb (zzu (b := (Nt.oversK D W N ((xs.getD i 0) :: (Nt.runS D W N nx st xs i)) N.length)) xv (fun hb48 => ?_) (fun hb48 => ?_))))))
   ·replace hb48 : (Nt.oversK D W N ((xs.getD i 0) :: (Nt.runS D W N nx st xs i)) N.length) = true := hb48
    refine zzf (zza 67 (zI m) (zyq 68 (x := zI (IntKind.i64.wrap ((m : Int) + 1))) (zI (m + 1 : Nat)) (eqI xk) (zza 13 (zI (m + 1 : Nat)) (zzx ?_))))
    refine zzp (zzf (zyq 69 (x := zI (IntKind.i64.wrap ((i : Int) + 1))) (zI (i + 1 : Nat)) (eqI xk) (zza 42 (zI (i + 1 : Nat)) (zzx ?_))))
    refine ⟨_, ?_, _, by exact zzv _ _ _, i + 1, cs47, c47, m + 1, rfl, by omega, hd47r, hc47, xq, hb47, (by show _ = Nt.runC D W N nx st xs i + (if _ then 1 else 0); rw [if_pos hb48]; omega), rfl, ((ExtB.old eB35 (e20.trans (e25.trans (e29.trans g32.ext))) hb26).trans (e37.trans (g40.ext.trans e45)))⟩
    omega
   ·replace hb48 : (Nt.oversK D W N ((xs.getD i 0) :: (Nt.runS D W N nx st xs i)) N.length) = false := hb48
    refine zzs (zzp ?_)
    refine zzf (zyq 69 (x := zI (IntKind.i64.wrap ((i : Int) + 1))) (zI (i + 1 : Nat)) (eqI xk) (zza 42 (zI (i + 1 : Nat)) (zzx ?_)))
    refine ⟨_, ?_, _, by exact zzv _ _ _, i + 1, cs47, c47, m, rfl, by omega, hd47r, hc47, xq, hb47, (by show _ = Nt.runC D W N nx st xs i + (if _ then 1 else 0); rw [if_neg (by rw [hb48]; decide)]; omega), rfl, ((ExtB.old eB35 (e20.trans (e25.trans (e29.trans g32.ext))) hb26).trans (e37.trans (g40.ext.trans e45)))⟩
    omega
  ·replace hb21 : (decide ((i : Int) < (xn : Int))) = false := hb21
   have qhb21 := of_decide_eq_false hb21
   refine zyc (zzp (zzd (zyp (r := 12) (t := 65) [12, 65] xj xv (by rfl) (by rfl) xv (fun b49 u50 e51 hb52 hh53 => ?_))))
   have hp54 : SlR .i64 u50 (some ⟨b49, 0, none⟩) i cp (Nt.runO D W N nx q st xs i) := ints_data hh53 (by have h9 := ht; rw [Nat.mul_one] at h9; exact h9) (by have h9 := hc; rw [Nat.mul_one] at h9; exact h9) hle hmx
   refine zyp (r := 11) (t := 33) [11, 33] xj xv (by rfl) (by rfl) xv (fun b55 u56 e57 hb58 hh59 => ?_)
   have hp60 : SlR .i64 u56 (some ⟨b55, 0, none⟩) yn yn (Nt.runS D W N nx st xs i) := ints_data hh59 (by unfold ics; exact List.take_of_length_le (by rw [List.length_map]; (first | omega | exact Nat.le_of_eq hrl))) (by unfold ics; rw [List.length_map]; (first | omega | exact hrl)) (Nat.le_refl _) yq
   refine zzf (zza 70 (.v (.slice (some ⟨b49, 0, none⟩) i cp)) (zza 71 (.v (.slice (some ⟨b55, 0, none⟩) yn yn)) (zza 72 (zI m) (zza 6 (.v (.slice (some ⟨b49, 0, none⟩) i cp)) (zza 7 (.v (.slice (some ⟨b55, 0, none⟩) yn yn)) (zza 8 (zI m) (zza 9 (zI 0) (zzb (zzo (ret0 [.slice (some ⟨b49, 0, none⟩) i cp, .slice (some ⟨b55, 0, none⟩) yn yn, .int .i64 m, .int .i64 0] ⟨zzq, zzq, zzq, zzq, trivial⟩ fun u61 e62 => ?_))))))))))
   have hi9 : i = xs.length := by omega
   have h8 := (hp54.ext (e57.trans e62))
   have h7 := (hp60.ext e62)
   rw [show Nt.runO D W N nx q st xs i = Nt.runO D W N nx q st xs xs.length by rw [hi9]] at h8
   rw [show Nt.runS D W N nx st xs i = Nt.runS D W N nx st xs xs.length by rw [hi9]] at h7
   refine ⟨(⟨some ⟨b49, 0, none⟩, i, cp⟩ : Sl), (⟨some ⟨b55, 0, none⟩, yn, yn⟩ : Sl), ?_, h8, h7⟩
   rw [hm9, hi9]; rfl
end Go.Proofs.Ytdmpfhhhlhoeiaa
