/- Parts of the proof: contracts of functions, each walked once, and plain laws. -/
import Derived.Test.YtifcjcecmoimjaaGreatCpaD
import Derived.Laws.StructEq
namespace Go.Proofs.YtifcjcecmoimjaaGreat
open Go.RowKit
set_option linter.unusedVariables false
theorem k_csize {u w : World} {z : Int} (d : Dat u w) (h0 : -1000000000 ≤ z) (h1 : z ≤ 1000000000) : Calls Tryz.prog 34 #[.int .i64 z] w (Post u w fun v _ => v = .int .i64 (Nt.az z)) := by
 refine zzm (args := [.int .i64 z]) Tryz.func34 rfl Tryz.ntmps34 (rs := [.tmp 2]) Tryz.results34 (le_b rfl) (le_b rfl) d ?_
 refine sq9 (zza 2 (zI 0) (zzb (sq9 (zza 3 (zI z) (zza 4 (zI z) (zyq 5 (x := zI (IntKind.i64.wrap (0 - z))) (zI (-z)) (eqI xw) (sy_maxN 6 (n := z) (m := -z) (v := Nt.az z) (by unfold Nt.az; split <;> omega) ?_)))))))
 refine zza 2 (zI (Nt.az z)) (zzb (zzo (ret0 [.int .i64 (Nt.az z)] ⟨zzq, trivial⟩ fun u11 e12 => ?_)))
 rfl
theorem k_cdist {u w : World} {b0 b1 b2 a0 a1 : Int} (d : Dat u w) (hb1 : -16777216 ≤ b1 ∧ b1 ≤ 16777216) (hb2 : -16777216 ≤ b2 ∧ b2 ≤ 16777216) (ha0 : -16777216 ≤ a0 ∧ a0 ≤ 16777216) (ha1 : -16777216 ≤ a1 ∧ a1 ≤ 16777216) : Calls Tryz.prog 36 #[.agg #[.int .i64 b0, .int .i64 b1, .int .i64 b2], .agg #[.int .i64 a0, .int .i64 a1]] w (Post u w fun v _ => v = .int .i64 (Nt.distZ b1 b2 a0 a1)) := by
 refine zzm (args := [.agg #[.int .i64 b0, .int .i64 b1, .int .i64 b2], .agg #[.int .i64 a0, .int .i64 a1]]) Tryz.func36 rfl Tryz.ntmps36 (rs := [.tmp 4]) Tryz.results36 (le_b rfl) (le_b rfl) d ?_
 refine sq9 (zzk 2 ⟨29, [.int .i64 b0, .int .i64 b1, .int .i64 b2]⟩ (zzk 3 ⟨30, [.int .i64 a0, .int .i64 a1]⟩ (zza 4 (zI 0) (zzb (zzd (zzz [0, 1, 0, 4, 15, 31, 0, 64, 0, 256, 960, 2047, 4095, 8191] [(0, []), (1, []), (2, []), (3, []), (4, []), (6, []), (7, []), (8, []), (9, []), (10, []), (5, []), (11, []), (12, []), (13, [])] xj xj (zza 5 (.adr 2 1) (zzi 6 (zI b1) ty3 zzl (zza 7 (.adr 3 0) (zzi 8 (zI a0) ty3 zzl (zyq 9 (x := zI (IntKind.i64.wrap (b1 - a0))) (zI (b1 - a0)) yz ?_)))))))))))
 refine zza 11 (.adr 2 2) (zzi 12 (zI b2) ty3 zzl (zza 13 (.adr 3 1) (zzi 14 (zI a1) ty3 zzl (zyq 15 (x := zI (IntKind.i64.wrap (b2 - a1))) (zI (b2 - a1)) yz (zzg 10 34 [.int .i64 (b1 - a0)] ?_)))))
 intro w11 u11 e11 d11
 have k14 := k_csize (z := b1 - a0) d11 xq xq
 with_reducible refine zPm k14 ?_
 rintro _ u12 g13 rfl
 have haz15 := Nt.az_bd (z := b1 - a0) xq xq
 refine zzg 16 34 [.int .i64 (b2 - a1)] ?_
 intro w16 u16 e16 d16
 have k19 := k_csize (z := b2 - a1) d16 xq xq
 with_reducible refine zPm k19 ?_
 rintro _ u17 g18 rfl
 have haz20 := Nt.az_bd (z := b2 - a1) xq xq
 refine zyq 17 (x := zI (IntKind.i64.wrap ((Nt.az (b1 - a0)) + (Nt.az (b2 - a1))))) (zI ((Nt.az (b1 - a0)) + (Nt.az (b2 - a1)))) yz (zza 4 (zI ((Nt.az (b1 - a0)) + (Nt.az (b2 - a1)))) (zzb (zzo (ret0 [.int .i64 ((Nt.az (b1 - a0)) + (Nt.az (b2 - a1)))] ⟨zzq, trivial⟩ fun u21 e22 => ?_))))
 rfl
theorem k_ccmp {u w : World} {a0 a1 b0 b1 : Int} (d : Dat u w) (ha0 : -16777216 ≤ a0 ∧ a0 ≤ 16777216) (ha1 : -16777216 ≤ a1 ∧ a1 ≤ 16777216) (hb0 : -16777216 ≤ b0 ∧ b0 ≤ 16777216) (hb1 : -16777216 ≤ b1 ∧ b1 ≤ 16777216) : Calls Tryz.prog 33 #[.agg #[.int .i64 a0, .int .i64 a1], .agg #[.int .i64 b0, .int .i64 b1]] w (Post u w fun v _ => v = .int .i64 (Nt.cmpZ a0 a1 b0 b1)) := by
 refine zzm (args := [.agg #[.int .i64 a0, .int .i64 a1], .agg #[.int .i64 b0, .int .i64 b1]]) Tryz.func33 rfl Tryz.ntmps33 (rs := [.tmp 4]) Tryz.results33 (le_b rfl) (le_b rfl) d ?_
 refine sq9 (zzk 2 ⟨30, [.int .i64 a0, .int .i64 a1]⟩ (zzk 3 ⟨30, [.int .i64 b0, .int .i64 b1]⟩ (zza 4 (zI 0) (zzb (zzd (zzd (zzz [0, 1, 3, 0, 8, 31, 63] [(0, []), (1, []), (3, []), (4, []), (2, []), (5, []), (6, [])] xj xj (zza 5 (.adr 2 1) (zzi 6 (zI a1) ty3 zzl (zza 8 (.adr 3 1) (zzi 9 (zI b1) ty3 zzl ?_)))))))))))
 refine zzg 7 34 [.int .i64 a1] ?_
 intro w11 u11 e11 d11
 have k14 := k_csize (z := a1) d11 xq xq
 with_reducible refine zPm k14 ?_
 rintro _ u12 g13 rfl
 have haz15 := Nt.az_bd (z := a1) xq xq
 refine zzg 10 34 [.int .i64 b1] ?_
 intro w16 u16 e16 d16
 have k19 := k_csize (z := b1) d16 xq xq
 with_reducible refine zPm k19 ?_
 rintro _ u17 g18 rfl
 have haz20 := Nt.az_bd (z := b1) xq xq
 refine zza 11 (zB ((Nt.az a1) != (Nt.az b1))) (zzb (zzu (b := (Nt.az a1) != (Nt.az b1)) xj (fun hb21 => ?_) (fun hb21 => ?_)))
 ·replace hb21 : ((Nt.az a1) != (Nt.az b1)) = true := hb21
  have qhb21 := hb21
  simp at qhb21
  refine zzd (zzz [0, 1, 3, 0, 8, 31, 63, 127] [(0, []), (1, []), (3, []), (4, []), (2, []), (5, []), (6, []), (7, [])] xj xj (zza 12 (.adr 3 1) (zzi 13 (zI b1) ty3 zzl (zza 15 (.adr 2 1) (zzi 16 (zI a1) ty3 zzl (zzg 14 34 [.int .i64 b1] ?_))))))
  intro w22 u22 e22 d22
  have k25 := k_csize (z := b1) d22 xq xq
  with_reducible refine zPm k25 ?_
  rintro _ u23 g24 rfl
  have haz26 := Nt.az_bd (z := b1) xq xq
  refine zzg 17 34 [.int .i64 a1] ?_
  intro w27 u27 e27 d27
  have k30 := k_csize (z := a1) d27 xq xq
  with_reducible refine zPm k30 ?_
  rintro _ u28 g29 rfl
  have haz31 := Nt.az_bd (z := a1) xq xq
  refine zyq 18 (x := zI (IntKind.i64.wrap ((Nt.az b1) - (Nt.az a1)))) (zI ((Nt.az b1) - (Nt.az a1))) yz (zza 4 (zI ((Nt.az b1) - (Nt.az a1))) (zzb (zzo (zzw (ret0 [.int .i64 ((Nt.az b1) - (Nt.az a1))] ⟨zzq, trivial⟩ fun u32 e33 => ?_)))))
  show Value.int _ _ = Value.int _ _
  unfold Nt.cmpZ
  rw [if_neg qhb21]
 ·replace hb21 : ((Nt.az a1) != (Nt.az b1)) = false := hb21
  have qhb21 := hb21
  simp at qhb21
  refine zzs (zzp ?_)
  refine zzd (zzz [0, 1, 3, 0, 8, 31, 63, 127] [(0, []), (1, []), (3, []), (4, []), (2, []), (5, []), (6, []), (7, [])] xj xj (zza 19 (.adr 3 0) (zzi 20 (zI b0) ty3 zzl (zza 22 (.adr 2 0) (zzi 23 (zI a0) ty3 zzl (zzg 21 34 [.int .i64 b0] ?_))))))
  intro w34 u34 e34 d34
  have k37 := k_csize (z := b0) d34 xq xq
  with_reducible refine zPm k37 ?_
  rintro _ u35 g36 rfl
  have haz38 := Nt.az_bd (z := b0) xq xq
  refine zzg 24 34 [.int .i64 a0] ?_
  intro w39 u39 e39 d39
  have k42 := k_csize (z := a0) d39 xq xq
  with_reducible refine zPm k42 ?_
  rintro _ u40 g41 rfl
  have haz43 := Nt.az_bd (z := a0) xq xq
  refine zyq 25 (x := zI (IntKind.i64.wrap ((Nt.az b0) - (Nt.az a0)))) (zI ((Nt.az b0) - (Nt.az a0))) yz (zza 4 (zI ((Nt.az b0) - (Nt.az a0))) (zzb (zzo (ret0 [.int .i64 ((Nt.az b0) - (Nt.az a0))] ⟨zzq, trivial⟩ fun u44 e45 => ?_))))
  show Value.int _ _ = Value.int _ _
  unfold Nt.cmpZ
  rw [if_pos qhb21]
set_option maxHeartbeats 2000000 in
theorem k_cins {u w : World} {g n c : Nat} {L : List (List Int)} {X : List Value} (d : Dat u w) (hg : w.heap[g]? = some (.cells (kcs L ++ X).toArray 30 (0, 0))) (hu : u.heap[g]? = some hidO) (hL : OkR 2 L) (hLn : L.length = n) (hn9 : n ≤ 1000) : Calls Tryz.prog 124 #[.slice (some ⟨g, 0, none⟩) n c, .int .i64 0, .int .i64 (n : Int), .func (.func 33) #[] #[]] w (PostL u w g fun V u' => V = ⟨30, kcs (Nt.sortR L) ++ X⟩) := by
 refine calls_lent (args := [.int .i64 0, .int .i64 (n : Int), .func (.func 33) #[] #[]]) Tryz.func124 rfl Tryz.ntmps124 Tryz.results124 (le_b rfl) d hg hu ?_
 refine sq9 (zza 10 (zI 0) (zza 11 (zI 1) (zza 8 (zI 1) (zzb (zzt (zyn (I := fun m11 S' u' => ∃ (i : Nat) (L' : List (List Int)), (m11 = n - i) ∧ (1 ≤ i) ∧ (OkR 2 L') ∧ (L'.length = n) ∧ (Nt.outR L' i (n - i) = Nt.sortR L) ∧ (S' = St.of 53 [(0, .slc 53 0 n c), (1, zI 0), (2, zI n), (3, .v (.func (.func 33) #[] #[])), (8, zI i)] [(53, ⟨30, kcs L' ++ X⟩)]) ∧ (Ext u u')) (fun m S u1 u2 e h => by obtain ⟨i, L', hm, p0, p1, p2, p3, hS, hE⟩ := h; exact ⟨i, L', hm, p0, p1, p2, p3, hS, hE.trans e⟩) _ yj ⟨1, L, rfl, Nat.le_refl _, hL, hLn, (by rw [← hLn]; rfl), rfl, (Ext.refl _)⟩ ?_))))))
 rintro m11 _ u11 ⟨i, L', hm11, hi, hL', hLn', hOut, rfl, e11⟩
 refine zzd (sq9 (zza 12 (zI i) (zza 13 (zI n) (zza 14 (zB (decide ((i : Int) < (n : Int)))) (zzb (zzu (b := decide ((i : Int) < (n : Int))) xj (fun hb12 => ?_) (fun hb12 => ?_)))))))
 ·replace hb12 : (decide ((i : Int) < (n : Int))) = true := hb12
  have qhb12 := of_decide_eq_true hb12
  refine zzs (zzp ?_)
  refine zzd (zzt (sq9 (zza 17 (zI i) (zza 9 (zI i) (zzb (zzt (zyn (I := fun m13 S' u' => ∃ (j : Nat) (M : List (List Int)), (m13 = j) ∧ (j < n) ∧ (OkR 2 M) ∧ (M.length = n) ∧ (Nt.insR M j = Nt.insR L' i) ∧ (S' = St.of 53 [(0, .slc 53 0 n c), (1, zI 0), (2, zI n), (3, .v (.func (.func 33) #[] #[])), (8, zI i), (9, zI j)] [(53, ⟨30, kcs M ++ X⟩)]) ∧ (Ext u11 u')) (fun m S u1 u2 e h => by obtain ⟨j, M, hm, p0, p1, p2, p3, hS, hE⟩ := h; exact ⟨j, M, hm, p0, p1, p2, p3, hS, hE.trans e⟩) _ yj ⟨i, L', rfl, by omega, hL', hLn', rfl, rfl, (Ext.refl _)⟩ ?_)))))))
  rintro m13 _ u13 ⟨j, M, hm13, hj, hM, hMn, hIns, rfl, e13⟩
  refine zzd (zzd (zzz [0, 0, 3, 7, 15, 15, 15, 111, 239, 15, 15, 1039, 3599, 7695, 16383, 32767, 65535] [(0, []), (1, []), (2, []), (3, []), (4, []), (5, []), (6, []), (7, []), (8, []), (9, []), (10, []), (11, []), (12, []), (13, []), (14, []), (15, []), (16, [])] xj xj (zza 18 (zI j) (zza 19 (zI 0) (zza 20 (zB (decide ((0 : Int) < (j : Int)))) ?_)))))
  rcases Bool.eq_false_or_eq_true (decide ((0 : Int) < (j : Int))) with hs14 | hs14
  ·refine zyq 21 (x := zB (decide ((0 : Int) < (j : Int)))) (zB true) (by rw [hs14]) ?_
   have qhs14 := of_decide_eq_true hs14
   refine zza 22 (.v (.func (.func 33) #[] #[])) ?_ (hw := w1 3 true 21)
   refine zza 23 (.slc 53 0 n c) ?_ (hw := w1 3 true 21)
   refine zza 24 (zI j) ?_ (hw := w1 3 true 21)
   refine zyw 25 (off' := j * 2) (n := n) (off := 0) (sz := 2) (i := (j : Int)) sl23 xq xq xq ?_ (hw := w1 3 true 21)
   refine zzi 26 (V := ⟨30, kcs M ++ X⟩) (off := j * 2) (.v (.agg #[.int .i64 (gi M j 0), .int .i64 (gi M j 1)])) ty30 (part_k2 (OkR.rows hM) (i := j) (by rw [hMn]; omega) rfl) ?_ (hw := w1 3 true 21)
   have hz150 := OkR.bd hM (i := j) (j := 0) (by rw [hMn]; omega) yq
   have hz151 := OkR.bd hM (i := j) (j := 1) (by rw [hMn]; omega) yq
   refine zza 27 (.slc 53 0 n c) ?_ (hw := w1 3 true 21)
   refine zza 28 (zI j) ?_ (hw := w1 3 true 21)
   refine zyq 29 (x := zI (IntKind.i64.wrap ((j : Int) - 1))) (zI (j - 1 : Nat)) (eqI xw) ?_ (hw := w1 3 true 21)
   refine zyw 30 (off' := (j - 1) * 2) (n := n) (off := 0) (sz := 2) (i := ((j - 1 : Nat) : Int)) sl23 xq xq xq ?_ (hw := w1 3 true 21)
   refine zzi 31 (V := ⟨30, kcs M ++ X⟩) (off := (j - 1) * 2) (.v (.agg #[.int .i64 (gi M (j - 1) 0), .int .i64 (gi M (j - 1) 1)])) ty30 (part_k2 (OkR.rows hM) (i := j - 1) (by rw [hMn]; omega) rfl) ?_ (hw := w1 3 true 21)
   have hz160 := OkR.bd hM (i := j - 1) (j := 0) (by rw [hMn]; omega) yq
   have hz161 := OkR.bd hM (i := j - 1) (j := 1) (by rw [hMn]; omega) yq
   refine zzg 32 33 [.agg #[.int .i64 (gi M j 0), .int .i64 (gi M j 1)], .agg #[.int .i64 (gi M (j - 1) 0), .int .i64 (gi M (j - 1) 1)]] ?_ (hw := w1 3 true 21)
   intro w17 u17 e17 d17
   have k20 := k_ccmp (a0 := gi M j 0) (a1 := gi M j 1) (b0 := gi M (j - 1) 0) (b1 := gi M (j - 1) 1) d17 xq xq xq xq
   with_reducible refine zPm k20 ?_
   rintro _ u18 g19 rfl
   refine zza 33 (zB (decide ((Nt.cmpZ (gi M j 0) (gi M j 1) (gi M (j - 1) 0) (gi M (j - 1) 1)) < 0))) ?_ (hw := w1 3 true 21)
   refine zza 34 (zB (decide ((Nt.cmpZ (gi M j 0) (gi M j 1) (gi M (j - 1) 0) (gi M (j - 1) 1)) < 0))) (zzc 53 [(0, .slc 53 0 n c), (1, zI 0), (2, zI n), (3, .v (.func (.func 33) #[] #[])), (8, zI i), (9, zI j), (34, zB (decide ((Nt.cmpZ (gi M j 0) (gi M j 1) (gi M (j - 1) 0) (gi M (j - 1) 1)) < 0)))] [(53, ⟨30, kcs M ++ X⟩)] (zzu (b := decide ((Nt.cmpZ (gi M j 0) (gi M j 1) (gi M (j - 1) 0) (gi M (j - 1) 1)) < 0)) xj (fun hb21 => ?_) (fun hb21 => ?_)))
   ·replace hb21 : (decide ((Nt.cmpZ (gi M j 0) (gi M j 1) (gi M (j - 1) 0) (gi M (j - 1) 1)) < 0)) = true := hb21
    have qhb21 := of_decide_eq_true hb21
    refine zzs (zzp ?_)
    refine zzd (zzt (zzz [0, 0, 0, 0, 8, 0, 0, 64, 224, 480, 0, 0, 3072, 7168, 16355, 32739, 65535, 131071] [(0, []), (1, []), (2, []), (3, []), (4, []), (5, []), (6, []), (7, []), (8, []), (9, []), (10, []), (11, []), (12, []), (13, []), (14, []), (15, []), (16, []), (17, [])] xj xj (zza 37 (.slc 53 0 n c) (zza 38 (zI j) (zza 39 (.slc 53 0 n c) (zza 40 (zI j) (zyq 41 (x := zI (IntKind.i64.wrap ((j : Int) - 1))) (zI (j - 1 : Nat)) (eqI xw) (zza 42 (.slc 53 0 n c) (zza 43 (zI j) (zyq 44 (x := zI (IntKind.i64.wrap ((j : Int) - 1))) (zI (j - 1 : Nat)) (eqI xw) (zyw 45 (off' := (j - 1) * 2) (n := n) (off := 0) (sz := 2) (i := ((j - 1 : Nat) : Int)) sl23 xq xq xq ?_)))))))))))
    refine zzi 46 (V := ⟨30, kcs M ++ X⟩) (off := (j - 1) * 2) (.v (.agg #[.int .i64 (gi M (j - 1) 0), .int .i64 (gi M (j - 1) 1)])) ty30 (part_k2 (OkR.rows hM) (i := j - 1) (by rw [hMn]; omega) rfl) ?_
    have hz220 := OkR.bd hM (i := j - 1) (j := 0) (by rw [hMn]; omega) yq
    have hz221 := OkR.bd hM (i := j - 1) (j := 1) (by rw [hMn]; omega) yq
    refine zza 47 (.slc 53 0 n c) (zza 48 (zI j) (zyw 49 (off' := j * 2) (n := n) (off := 0) (sz := 2) (i := (j : Int)) sl23 xq xq xq ?_))
    refine zzi 50 (V := ⟨30, kcs M ++ X⟩) (off := j * 2) (.v (.agg #[.int .i64 (gi M j 0), .int .i64 (gi M j 1)])) ty30 (part_k2 (OkR.rows hM) (i := j) (by rw [hMn]; omega) rfl) ?_
    have hz230 := OkR.bd hM (i := j) (j := 0) (by rw [hMn]; omega) yq
    have hz231 := OkR.bd hM (i := j) (j := 1) (by rw [hMn]; omega) yq
    refine zyw 51 (off' := j * 2) (n := n) (off := 0) (sz := 2) (i := (j : Int)) sl23 xq xq xq ?_
    have hS24 : OkR 2 (M.set j [gi M (j - 1) 0, gi M (j - 1) 1]) := (OkR.set2 hM xq xq)
    have hT24 : (M.set j [gi M (j - 1) 0, gi M (j - 1) 1]).length = n := (by rw [List.length_set]; exact hMn)
    refine zyv (V := ⟨30, kcs M ++ X⟩) (off := j * 2) (kcs (M.set j [gi M (j - 1) 0, gi M (j - 1) 1]) ++ X) ty30 (by rw [List.length_append, kcs_len (OkR.rows hM), hMn]; omega) (setL_k2 (OkR.rows hM) (i := j) (by rw [hMn]; omega) rfl) ?_
    refine zyw 52 (off' := (j - 1) * 2) (n := n) (off := 0) (sz := 2) (i := ((j - 1 : Nat) : Int)) sl23 xq xq xq ?_
    have hS25 : OkR 2 ((M.set j [gi M (j - 1) 0, gi M (j - 1) 1]).set (j - 1) [gi M j 0, gi M j 1]) := (OkR.set2 hS24 xq xq)
    have hT25 : ((M.set j [gi M (j - 1) 0, gi M (j - 1) 1]).set (j - 1) [gi M j 0, gi M j 1]).length = n := (by rw [List.length_set]; exact hT24)
    refine zyv (V := ⟨30, kcs (M.set j [gi M (j - 1) 0, gi M (j - 1) 1]) ++ X⟩) (off := (j - 1) * 2) (kcs ((M.set j [gi M (j - 1) 0, gi M (j - 1) 1]).set (j - 1) [gi M j 0, gi M j 1]) ++ X) ty30 (by rw [List.length_append, kcs_len (OkR.rows hS24), hT24]; omega) (setL_k2 (OkR.rows hS24) (i := j - 1) (by rw [hT24]; omega) rfl) ?_
    refine zzx ?_
    refine zzp (zzf (zza 35 (zI j) (zyq 36 (x := zI (IntKind.i64.wrap ((j : Int) - 1))) (zI (j - 1 : Nat)) (eqI xw) (zza 9 (zI (j - 1 : Nat)) (zzx ?_)))))
    refine ⟨_, ?_, _, by exact zzv _ _ _, j - 1, ((M.set j [gi M (j - 1) 0, gi M (j - 1) 1]).set (j - 1) [gi M j 0, gi M j 1]), rfl, by omega, hS25, hT25, (by rw [← hIns, Nt.insR_go xq qhb21]; rfl), rfl, (e13.trans (e17.trans g19.ext))⟩
    omega
   ·replace hb21 : (decide ((Nt.cmpZ (gi M j 0) (gi M j 1) (gi M (j - 1) 0) (gi M (j - 1) 1)) < 0)) = false := hb21
    have qhb21 := of_decide_eq_false hb21
    refine zyc (zzp (zzf (zza 15 (zI i) (zyq 16 (x := zI (IntKind.i64.wrap ((i : Int) + 1))) (zI (i + 1 : Nat)) (eqI xw) (zza 8 (zI (i + 1 : Nat)) (zzx ?_))))))
    refine ⟨_, ?_, _, by exact zzv _ _ _, i + 1, M, rfl, by omega, hM, hMn, (by have h9 := hOut; rw [Nt.outR_step xq, ← hIns, Nt.insR_stop (fun _ => qhb21)] at h9; exact h9), rfl, (e11.trans (e13.trans (e17.trans g19.ext)))⟩
    omega
  ·refine zyq 21 (x := zB (decide ((0 : Int) < (j : Int)))) (zB false) (by rw [hs14]) ?_
   have qhs14 := of_decide_eq_false hs14
   refine zzn 22 (uw 3 true false 21) (zzn 23 (uw 3 true false 21) (zzn 24 (uw 3 true false 21) (zzn 25 (uw 3 true false 21) (zzn 26 (uw 3 true false 21) (zzn 27 (uw 3 true false 21) (zzn 28 (uw 3 true false 21) (zzn 29 (uw 3 true false 21) (zzn 30 (uw 3 true false 21) (zzn 31 (uw 3 true false 21) (zzn 32 (uw 3 true false 21) (zzn 33 (uw 3 true false 21) ?_)))))))))))
   refine zza 34 (zB false) (zzb (zys xj (zyc (zzp (zzf (zza 15 (zI i) (zyq 16 (x := zI (IntKind.i64.wrap ((i : Int) + 1))) (zI (i + 1 : Nat)) (eqI xw) (zza 8 (zI (i + 1 : Nat)) (zzx ?_)))))))))
   refine ⟨_, ?_, _, by exact zzv _ _ _, i + 1, M, rfl, by omega, hM, hMn, (by have h9 := hOut; rw [Nt.outR_step xq, ← hIns, Nt.insR_stop (fun h9 => absurd h9 xq)] at h9; exact h9), rfl, (e11.trans e13)⟩
   omega
 ·replace hb12 : (decide ((i : Int) < (n : Int))) = false := hb12
  have qhb12 := of_decide_eq_false hb12
  refine zyc ?_
  refine lent_end (V := ⟨30, kcs L' ++ X⟩) rfl rfl (fun _ _ => ?_)
  have h9 := hOut
  rw [show n - i = 0 by omega] at h9
  rw [← h9]; rfl
theorem k_cstable {u w : World} {g n c : Nat} {L : List (List Int)} {X : List Value} (d : Dat u w) (hg : w.heap[g]? = some (.cells (kcs L ++ X).toArray 30 (0, 0))) (hu : u.heap[g]? = some hidO) (hL : OkR 2 L) (hLn : L.length = n) (hn0 : 0 < n ∧ n ≤ 12) : Calls Tryz.prog 84 #[.slice (some ⟨g, 0, none⟩) n c, .int .i64 (n : Int), .func (.func 33) #[] #[]] w (PostL u w g fun V u' => V = ⟨30, kcs (Nt.sortR L) ++ X⟩) := by
 refine calls_lent (args := [.int .i64 (n : Int), .func (.func 33) #[] #[]]) Tryz.func84 rfl Tryz.ntmps84 Tryz.results84 (le_b rfl) d hg hu ?_
 refine sq9 (zza 6 (zI 20) (zzb (sq9 (zza 10 (zI 20) (zza 7 (zI 0) (zza 8 (zI 20) (zzb (zzd (zzt (sw_rounds 0 ?_))))))))))
 refine zzd (sq9 (zza 11 (zI 20) (zza 12 (zI n) (zza 13 (zB (decide ((20 : Int) ≤ (n : Int)))) (zzb (zzu (b := decide ((20 : Int) ≤ (n : Int))) xj (fun hb => ?_) (fun hb => ?_)))))))
 ·exact absurd hb (by rw [show (decide ((20 : Int) ≤ (n : Int))) = false from decide_eq_false xq]; decide)
 ·clear hb
  refine zyc (zzp (sq9 (zza 23 (.slc 63 0 n c) (zza 24 (zI 0) (zza 25 (zI n) (zza 26 (.v (.func (.func 33) #[] #[])) ?_))))))
  have kc11 := fun (g : Nat) (w u1 : World) (e : Ext u u1) (d : Dat u1 w) (hg : w.heap[g]? = some (.cells (kcs L ++ X).toArray 30 (0, 0))) (hu : u1.heap[g]? = some hidO) => k_cins (n := n) (c := c) d hg hu hL hLn xq
  refine sy_lend 27 124 (t := 63) (V := ⟨30, kcs L ++ X⟩) (len := n) (cap := c) [.int .i64 0, .int .i64 n, .func (.func 33) #[] #[]] xj kc11 ?_
  clear kc11
  rintro _ u11 e11 rfl
  refine zzc 63 [(0, .slc 63 0 n c), (1, zI n), (2, .v (.func (.func 33) #[] #[])), (6, zI 20)] [(63, ⟨30, kcs (Nt.sortR L) ++ X⟩)] (zzt (sw_rounds 0 ?_))
  refine zzd (sq9 (zza 28 (zI 20) (zza 29 (zI n) (zza 30 (zB (decide ((20 : Int) < (n : Int)))) (zzb (zzu (b := decide ((20 : Int) < (n : Int))) xj (fun hb => ?_) (fun hb => ?_)))))))
  ·exact absurd hb (by rw [show (decide ((20 : Int) < (n : Int))) = false from decide_eq_false xq]; decide)
  ·clear hb
   refine zyc ?_
   exact lent_end rfl rfl (fun _ _ => rfl)
theorem k_csort {u w : World} {g n c : Nat} {L : List (List Int)} {X : List Value} (d : Dat u w) (hg : w.heap[g]? = some (.cells (kcs L ++ X).toArray 30 (0, 0))) (hu : u.heap[g]? = some hidO) (hL : OkR 2 L) (hLn : L.length = n) (hn0 : 0 < n ∧ n ≤ 12) : Calls Tryz.prog 32 #[.slice (some ⟨g, 0, none⟩) n c, .func (.func 33) #[] #[]] w (PostL u w g fun V u' => V = ⟨30, kcs (Nt.sortR L) ++ X⟩) := by
 refine calls_lent (args := [.func (.func 33) #[] #[]]) Tryz.func32 rfl Tryz.ntmps32 Tryz.results32 (le_b rfl) d hg hu ?_
 refine zzf (zza 4 (.slc 9 0 n c) (zza 5 (.slc 9 0 n c) (zza 6 (zI n) (zza 7 (.v (.func (.func 33) #[] #[])) ?_))))
 have kc11 := fun (g : Nat) (w u1 : World) (e : Ext u u1) (d : Dat u1 w) (hg : w.heap[g]? = some (.cells (kcs L ++ X).toArray 30 (0, 0))) (hu : u1.heap[g]? = some hidO) => k_cstable (n := n) (c := c) d hg hu hL hLn xq
 refine sy_lend 8 84 (t := 9) (V := ⟨30, kcs L ++ X⟩) (len := n) (cap := c) [.int .i64 n, .func (.func 33) #[] #[]] xj kc11 ?_
 clear kc11
 rintro _ u11 e11 rfl
 refine zzx ?_
 exact lent_end rfl rfl (fun _ _ => rfl)
set_option maxHeartbeats 1000000 in
theorem k_clone2 {u w : World} {x : Sl} {L : List (List Int)} (d : Dat u w) (hx : IrV 2 u x L) (h0 : 0 < L.length) (h9 : L.length ≤ 1000000000) : Calls Tryz.prog 31 #[x.v] w (Post u w fun v u' => ∃ (b c : Nat) (X : List Value), v = .slice (some ⟨b, 0, none⟩) x.n c ∧ u.heap.size ≤ b ∧ u'.heap[b]? = some (.cells (kcs L ++ X).toArray 30 (0, 0)) ∧ (kcs L ++ X).length = c * 2 ∧ x.n ≤ c ∧ c ≤ maxLen) := by
 have hn := hx.len
 obtain ⟨xa, n0, c0⟩ := x
 obtain ⟨hR, h1, h2, h3, h4⟩ := hx
 change n0 = L.length at hn
 obtain ⟨b0, o0, e, hb0, hc⟩ := h4 (by show 0 < n0; omega)
 change xa = _ at e
 subst e
 change Calls _ _ #[.slice (some ⟨b0, o0, none⟩) n0 c0] _ _
 refine zzm (args := [.slice (some ⟨b0, o0, none⟩) n0 c0]) Tryz.func31 rfl Tryz.ntmps31 (rs := [.tmp 2]) Tryz.results31 (le_b rfl) (le_b rfl) d ?_
 refine sq9 (zza 2 (.v (.slice none 0 0)) (zzb (zzd (sq9 (zza 3 (.v (.slice (some ⟨b0, o0, none⟩) n0 c0)) (zza 4 (zB false) (zzb (zys xj (zzs (zzp ?_))))))))))
 refine sq9 (sy_lit 5 ⟨30, []⟩ 0 ?_)
 refine zza 6 (.v (.slice (some ⟨b0, o0, none⟩) n0 c0)) (sy_app1 7 (T := 23) (E := 30) (z := .agg #[.int .i64 0, .int .i64 0]) (size := 2) (bytes := 16) (b := b0) (off := o0) (m := n0) (c := c0) (n := 0) (cap := 0) (t := 5) (cs0 := []) [5, 7] (kcs L) xj xj xj yq (by rw [kcs_len hR, hn]) (fun j v hv => by have h9 := (List.getElem?_eq_some_iff.1 hv).1; rw [kcs_len hR] at h9; rw [hc j h9]; exact hv) kcs_one xq yv xq xq yq rfl xk ?_)
 intro c1 cs k1 k2 k3 k4
 refine zza 2 (.slc 7 0 (0 + n0) c1) (zzc 8 [(2, .slc 7 0 (0 + n0) c1)] [(7, ⟨30, cs⟩)] (zyp (r := 2) (t := 7) [2, 7] xk xj (by rfl) (by rfl) xj (fun b u2 e2 hb hh => ?_)))
 refine zzo (ret0 [.slice (some ⟨b, 0, none⟩) (0 + n0) c1] ⟨zzq, trivial⟩ fun u11 e12 => ?_)
 rw [Nat.zero_add] at k1 k4
 change cs.take (n0 * 2) = kcs L at k4
 have e9 : cs = kcs L ++ cs.drop (n0 * 2) := by rw [← k4]; exact (List.take_append_drop (n0 * 2) cs).symm
 refine ⟨b, c1, cs.drop (n0 * 2), ?_, hb, ?_, by rw [← e9]; exact k3, k1, k2⟩
 ·show Value.slice _ (0 + n0) _ = _; rw [Nat.zero_add]
 ·rw [← e9]; exact e12.cells hh
set_option maxHeartbeats 1000000 in
theorem k_clone3 {u w : World} {x : Sl} {L : List (List Int)} (d : Dat u w) (hx : IrV 3 u x L) (h0 : 0 < L.length) (h9 : L.length ≤ 1000000000) : Calls Tryz.prog 35 #[x.v] w (Post u w fun v u' => ∃ (b c : Nat) (X : List Value), v = .slice (some ⟨b, 0, none⟩) x.n c ∧ u.heap.size ≤ b ∧ u'.heap[b]? = some (.cells (kcs L ++ X).toArray 29 (0, 0)) ∧ (kcs L ++ X).length = c * 3 ∧ x.n ≤ c ∧ c ≤ maxLen) := by
 have hn := hx.len
 obtain ⟨xa, n0, c0⟩ := x
 obtain ⟨hR, h1, h2, h3, h4⟩ := hx
 change n0 = L.length at hn
 obtain ⟨b0, o0, e, hb0, hc⟩ := h4 (by show 0 < n0; omega)
 change xa = _ at e
 subst e
 change Calls _ _ #[.slice (some ⟨b0, o0, none⟩) n0 c0] _ _
 refine zzm (args := [.slice (some ⟨b0, o0, none⟩) n0 c0]) Tryz.func35 rfl Tryz.ntmps35 (rs := [.tmp 2]) Tryz.results35 (le_b rfl) (le_b rfl) d ?_
 refine sq9 (zza 2 (.v (.slice none 0 0)) (zzb (zzd (sq9 (zza 3 (.v (.slice (some ⟨b0, o0, none⟩) n0 c0)) (zza 4 (zB false) (zzb (zys xj (zzs (zzp ?_))))))))))
 refine sq9 (sy_lit 5 ⟨29, []⟩ 0 ?_)
 refine zza 6 (.v (.slice (some ⟨b0, o0, none⟩) n0 c0)) (sy_app1 7 (T := 22) (E := 29) (z := .agg #[.int .i64 0, .int .i64 0, .int .i64 0]) (size := 3) (bytes := 24) (b := b0) (off := o0) (m := n0) (c := c0) (n := 0) (cap := 0) (t := 5) (cs0 := []) [5, 7] (kcs L) xj xj xj yq (by rw [kcs_len hR, hn]) (fun j v hv => by have h9 := (List.getElem?_eq_some_iff.1 hv).1; rw [kcs_len hR] at h9; rw [hc j h9]; exact hv) kcs_one xq yv xq xq yq rfl xk ?_)
 intro c1 cs k1 k2 k3 k4
 refine zza 2 (.slc 7 0 (0 + n0) c1) (zzc 8 [(2, .slc 7 0 (0 + n0) c1)] [(7, ⟨29, cs⟩)] (zyp (r := 2) (t := 7) [2, 7] xk xj (by rfl) (by rfl) xj (fun b u2 e2 hb hh => ?_)))
 refine zzo (ret0 [.slice (some ⟨b, 0, none⟩) (0 + n0) c1] ⟨zzq, trivial⟩ fun u11 e12 => ?_)
 rw [Nat.zero_add] at k1 k4
 change cs.take (n0 * 3) = kcs L at k4
 have e9 : cs = kcs L ++ cs.drop (n0 * 3) := by rw [← k4]; exact (List.take_append_drop (n0 * 3) cs).symm
 refine ⟨b, c1, cs.drop (n0 * 3), ?_, hb, ?_, by rw [← e9]; exact k3, k1, k2⟩
 ·show Value.slice _ (0 + n0) _ = _; rw [Nat.zero_add]
 ·rw [← e9]; exact e12.cells hh
def Nt.smallB (l : List Int) : Bool := decide (∀ j, j < l.length → -16777216 ≤ l.getD j 0 ∧ l.getD j 0 ≤ 16777216)
theorem Nt.smallB_of {k i : Nat} {L : List (List Int)} (h : OkR k L) (hi : i < L.length) : Nt.smallB (L.getD i []) = true := decide_eq_true (fun j hj => by
 have h9 := h.bd hi (j := j) (by rw [(h.mem hi).1] at hj; exact hj)
 exact h9)
theorem k_cwithin {u w : World} {x : Sl} {l : List Int} (d : Dat u w) (hx : SlR .i64 u x.a x.n x.c l) (hb : ∀ z ∈ l, -9223372036854775808 ≤ z ∧ z ≤ 9223372036854775807) : Calls Tryz.prog 30 #[x.v] w (Post u w fun v _ => v = .bool (Nt.smallB l)) := by
 have hlen : l.length = x.n := hx.1
 have hmx8 := Nat.le_trans hx.2.1 hx.2.2.1
 unfold maxLen at hmx8
 refine zzm (args := [.slice x.a x.n x.c]) Tryz.func30 rfl Tryz.ntmps30 (rs := [.tmp 2]) Tryz.results30 (le_b rfl) (le_b rfl) d ?_
 refine sq9 (zza 2 (zB false) (zzb (zzd (sq9 (zza 5 (.v x.v) (zza 6 (zI x.n) (zza 7 (zI 0) (zzb (zzt (zyn (I := fun m11 S' u' => ∃ (i : Nat), (m11 = x.n - i) ∧ (i ≤ x.n) ∧ (∀ j, j < i → -16777216 ≤ l.getD j 0 ∧ l.getD j 0 ≤ 16777216) ∧ (S' = St.of 18 [(5, .v (.slice x.a x.n x.c)), (6, zI x.n), (7, zI i)] []) ∧ (Ext u u')) (fun m S u1 u2 e h => by obtain ⟨i, hm, p0, p1, hS, hE⟩ := h; exact ⟨i, hm, p0, p1, hS, hE.trans e⟩) _ yj ⟨0, rfl, Nat.zero_le _, fun j hj => absurd hj (Nat.not_lt_zero j), rfl, (Ext.refl _)⟩ ?_))))))))))
 rintro m11 _ u11 ⟨i, hm11, hi, hs, rfl, e11⟩
 refine sq9 (zza 8 (zB (decide ((i : Int) < (x.n : Int)))) (zzb (zzd (zzu (b := decide ((i : Int) < (x.n : Int))) xj (fun hb12 => ?_) (fun hb12 => ?_)))))
 ·replace hb12 : (decide ((i : Int) < (x.n : Int))) = true := hb12
  have qhb12 := of_decide_eq_true hb12
  refine zzs (zzp ?_)
  refine zzd (zzt (sq9 ?_))
  have hl13 := ((hx.ext e11)).1
  obtain ⟨b13, o13, hA13, hc13⟩ := ints_at (hx.ext e11) (i := i) xq
  have hz13 := ints_bd hb xq i
  refine zya 9 (o13 + i * 1) (n := x.n) (off := o13) (sz := 1) (i := (i : Int)) xq hA13 xq xq sl37 (zyl 10 (.int .i64 (l.getD i 0)) hc13 ty3 (zza 4 (zI (l.getD i 0)) (zzb (sq9 (zza 11 (zI (l.getD i 0)) (zza 12 (zB (decide ((l.getD i 0) < (-16777216)))) ?_))))))
  rcases Bool.eq_false_or_eq_true (decide ((l.getD i 0) < (-16777216))) with hs14 | hs14
  ·refine zyq 13 (x := zB (decide ((l.getD i 0) < (-16777216)))) (zB true) (by rw [hs14]) ?_
   have qhs14 := of_decide_eq_true hs14
   refine zzn 14 (uw 2 false true 13) (zzn 15 (uw 2 false true 13) (zza 16 (zB true) (zzb (zyr xj (sq9 (zza 2 (zB false) (zzb (zzo (zyu (zzw (zyt (zyu (zzw (ret0 [.bool false] ⟨zzq, trivial⟩ fun u15 e16 => ?_))))))))))))))
   show Value.bool _ = Value.bool _
   congr 1
   exact (decide_eq_false (fun k => by have h9 := k i xq; omega)).symm
  ·refine zyq 13 (x := zB (decide ((l.getD i 0) < (-16777216)))) (zB false) (by rw [hs14]) ?_
   have qhs14 := of_decide_eq_false hs14
   refine zza 14 (zI (l.getD i 0)) ?_ (hw := w1 2 false 13)
   refine zza 15 (zB (decide ((16777216 : Int) < (l.getD i 0)))) ?_ (hw := w1 2 false 13)
   refine zza 16 (zB (decide ((16777216 : Int) < (l.getD i 0)))) (zzb (zzu (b := decide ((16777216 : Int) < (l.getD i 0))) xj (fun hb17 => ?_) (fun hb17 => ?_)))
   ·replace hb17 : (decide ((16777216 : Int) < (l.getD i 0))) = true := hb17
    have qhb17 := of_decide_eq_true hb17
    refine sq9 (zza 2 (zB false) (zzb (zzo (zyu (zzw (zyt (zyu (zzw (ret0 [.bool false] ⟨zzq, trivial⟩ fun u18 e19 => ?_)))))))))
    show Value.bool _ = Value.bool _
    congr 1
    exact (decide_eq_false (fun k => by have h9 := k i xq; omega)).symm
   ·replace hb17 : (decide ((16777216 : Int) < (l.getD i 0))) = false := hb17
    have qhb17 := of_decide_eq_false hb17
    refine zzs (zzp ?_)
    refine zzf (zyq 17 (x := zI (IntKind.i64.wrap ((i : Int) + 1))) (zI (i + 1 : Nat)) (eqI xw) (zza 7 (zI (i + 1 : Nat)) (zzx ?_)))
    refine ⟨_, ?_, _, by exact zzv _ _ _, i + 1, rfl, by omega, (fun j hj => by by_cases e : j = i; (rw [e]; omega); exact hs j xq), rfl, e11⟩
    omega
 ·replace hb12 : (decide ((i : Int) < (x.n : Int))) = false := hb12
  have qhb12 := of_decide_eq_false hb12
  refine zyc (zzp (sq9 (zza 2 (zB true) (zzb (zzo (ret0 [.bool true] ⟨zzq, trivial⟩ fun u20 e21 => ?_))))))
  show Value.bool _ = Value.bool _
  congr 1
  exact (decide_eq_true (fun j hj => hs j xq)).symm
set_option maxHeartbeats 1000000 in
theorem k_cdelete {u w : World} {g n c i : Nat} {L : List (List Int)} {X : List Value} (d : Dat u w) (hg : w.heap[g]? = some (.cells (kcs L ++ X).toArray 29 (0, 0))) (hu : u.heap[g]? = some hidO) (hL : OkR 3 L) (hLn : L.length = n) (hcl : (kcs L ++ X).length = c * 3) (hi : i < n) (hnc : n ≤ c) (hn9 : n ≤ 1000) : Calls Tryz.prog 37 #[.slice (some ⟨g, 0, none⟩) n c, .int .i64 (i : Int), .int .i64 ((i + 1 : Nat) : Int)] w (PostS u w g c fun m V u' => m = n - 1 ∧ ∃ X', V = ⟨29, kcs (L.eraseIdx i) ++ X'⟩ ∧ (kcs (L.eraseIdx i) ++ X').length = c * 3) := by
 refine calls_lentS (args := [.int .i64 (i : Int), .int .i64 ((i + 1 : Nat) : Int)]) Tryz.func37 rfl Tryz.ntmps37 Tryz.results37 (le_b rfl) d hg hu ?_
 refine sq9 (zza 6 (.v (.slice none 0 0)) (zzb (sq9 (zza 8 (.slc 33 0 n c) (zza 9 (zI i) (zza 10 (zI (i + 1 : Nat)) (zza 11 (.slc 33 0 n c) (zza 12 (zI n) (sy_subO3 13 (off := 0) (n := n) (c := c) i (i + 1) n sl22 rfl rfl rfl xq xq xq (fun o11 ho11 => ?_))))))))))
 refine zzc 33 [(0, .slc 33 0 n c), (1, zI i), (2, zI (i + 1 : Nat))] [(33, ⟨29, kcs L ++ X⟩)] (zzd (sq9 (zza 14 (zI i) (zza 15 (zI (i + 1 : Nat)) (zza 16 (zB ((i : Int) == ((i + 1 : Nat) : Int))) (zzb (zzu (b := (i : Int) == ((i + 1 : Nat) : Int)) xj (fun hb => ?_) (fun hb => ?_))))))))
 ·exact absurd hb (by rw [show ((i : Int) == ((i + 1 : Nat) : Int)) = false from yw]; decide)
 ·clear hb
  refine zzs (zzp ?_)
  refine sq9 (zza 18 (.slc 33 0 n c) (zza 19 (zI n) (zza 7 (zI n) (zzc 33 [(0, .slc 33 0 n c), (1, zI i), (2, zI (i + 1 : Nat)), (7, zI n)] [(33, ⟨29, kcs L ++ X⟩)] (zzd (sw_anyC [0, 0, 3, 0, 0, 24, 63, 127] [(0, []), (1, []), (2, []), (3, []), (4, []), (5, []), (6, [])] [(7, [])] xj xj xj ?_))))))
  refine zza 20 (.slc 33 0 n c) (zza 21 (zI i) (sy_frontO 22 (n := n) (c := c) i sl22 rfl xq ?_))
  refine zza 23 (.slc 33 0 n c) (zza 24 (zI (i + 1 : Nat)) (sy_tailO 25 (off := 0) (n := n) (c := c) (i + 1) sl22 rfl xq xq (fun o13 ho13 => ?_)))
  have hdl := del_rows (X := X) (zs := ics [0, 0, 0]) (OkR.rows hL) (i := i) xq rfl (off := o13) (fun h9 => by rw [ho13, if_neg xq]; omega)
  refine sy_appT 26 (T := 22) (E := 29) (z := .agg #[.int .i64 0, .int .i64 0, .int .i64 0]) (size := 3) (bytes := 24) (off := o13) (m := n - (i + 1)) (c := c - (i + 1)) (t := 33) (n := i) (cap := c) (cs0 := kcs L ++ X) (ns := kcs (L.drop (i + 1))) xj xj hcl (by rw [ho13, hcl]; split <;> omega) xq (by have h9 := hdl.1; rw [hLn] at h9; exact h9) kcs_one ?_
  refine zzx ?_
  refine sy_over 0 (.slc 33 0 (i + (n - (i + 1))) c) (zzc 33 [(0, .slc 33 0 (i + (n - (i + 1))) c), (7, zI n)] [(33, ⟨29, setL (kcs L ++ X) (i * 3) (kcs (L.drop (i + 1)))⟩)] (sq9 (zza 27 (.slc 33 0 (i + (n - (i + 1))) c) (zza 28 (.slc 33 0 (i + (n - (i + 1))) c) (zza 29 (zI ((i + (n - (i + 1)) : Nat) : Int)) (zza 30 (zI n) (sy_subO2 31 (off := 0) (n := (i + (n - (i + 1)))) (c := c) (i + (n - (i + 1))) n sl22 rfl rfl xq xq (fun o9 ho9 => ?_))))))))
  have e9 : o9 = (L.length - 1) * 3 := by rw [ho9, if_neg xq, hLn]; omega
  refine sy_clear1 (T := 22) (E := 29) (z := .agg #[.int .i64 0, .int .i64 0, .int .i64 0]) (size := 3) (bytes := 24) (off := o9) (m := n - (i + (n - (i + 1)))) (c := c - (i + (n - (i + 1)))) (t := 33) (cs0 := setL (kcs L ++ X) (i * 3) (kcs (L.drop (i + 1)))) (zs := ics [0, 0, 0]) xj xj xq xj (by rw [e9, setL_length (by rw [kcs_len (OkR.drop hL).rows, List.length_drop, hcl, hLn]; omega), hcl]; show _ + 3 ≤ _; omega) ics_one ?_
  rw [e9, hdl.2]
  refine zzc 33 [(0, .slc 33 0 (i + (n - (i + 1))) c)] [(33, ⟨29, kcs (L.eraseIdx i) ++ (ics [0, 0, 0] ++ X)⟩)] (sq9 (zza 32 (.slc 33 0 (i + (n - (i + 1))) c) (zza 6 (.slc 33 0 (i + (n - (i + 1))) c) (zzc 33 [(6, .slc 33 0 (i + (n - (i + 1))) c)] [(33, ⟨29, kcs (L.eraseIdx i) ++ (ics [0, 0, 0] ++ X)⟩)] (zzo (lentS_ret (V := ⟨29, kcs (L.eraseIdx i) ++ (ics [0, 0, 0] ++ X)⟩) (i + (n - (i + 1))) rfl rfl zzq (fun _ _ => ⟨by omega, ics [0, 0, 0] ++ X, rfl, ?_⟩)))))))
  rw [List.length_append, kcs_len (OkR.erase hL).rows, List.length_eraseIdx, if_pos xq, List.length_append, hLn]
  rw [List.length_append, kcs_len hL.rows, hLn] at hcl
  show _ + (3 + _) = _; omega
instance {k : Nat} {L : List (List Int)} : Decidable (OkR k L) := by unfold OkR; exact inferInstance
instance {k : Nat} {L : List (List Int)} : Decidable (Rows k L) := by unfold Rows; exact inferInstance
theorem okR_fill {A : List (List Int)} {m : Nat} (h : OkR 5 A) : OkR 5 (List.replicate m [0, 0, 0, 0, 0] ++ A) := fun p hp => by
 rcases List.mem_append.1 hp with hp | hp
 ·rw [(List.mem_replicate.1 hp).2]; decide
 ·exact h p hp
theorem okR_cons5 {A : List (List Int)} {a b c d e : Int} (h : OkR 5 A) (ha : -16777216 ≤ a ∧ a ≤ 16777216) (hb : -16777216 ≤ b ∧ b ≤ 16777216) (hc : -16777216 ≤ c ∧ c ≤ 16777216) (hd : -16777216 ≤ d ∧ d ≤ 16777216) (he : -16777216 ≤ e ∧ e ≤ 16777216) : OkR 5 ([a, b, c, d, e] :: A) := fun p hp => by
 rcases List.mem_cons.1 hp with rfl | hp
 ·refine ⟨rfl, fun z hz => ?_⟩
  simp at hz
  rcases hz with rfl | rfl | rfl | rfl | rfl
  ·exact ha
  ·exact hb
  ·exact hc
  ·exact hd
  ·exact he
 ·exact h p hp
theorem Nt.best_in {Z : List (List Int)} {a b : Int} {n j : Nat} (h : 0 < n) (hj : j ≤ n) : Nt.bestR Z a b j < n := by
 cases j with
 | zero => exact h
 | succ j => have := Nt.bestR_lt (Z := Z) (a0 := a) (a1 := b) (n := j + 1) xq; omega
set_option maxHeartbeats 8000000 in
theorem k_cpair {u w : World} {x y : Sl} {Z D : List (List Int)} (d : Dat u w) (hx : IrV 3 u x Z) (hy : IrV 2 u y D) (hZ : OkR 3 Z) (hD : OkR 2 D) (hl : Z.length = D.length) (h0 : 0 < D.length) (h8 : D.length ≤ 8) : Calls Tryz.prog 9 #[x.v, y.v] w (Post u w fun v u' => ∃ z : Sl, v = .tuple #[z.v, .int .i64 0] ∧ IrV 5 u' z (Nt.pairR (Nt.sortR D) Z [])) := by
 have hlx := hx.len
 have hly := hy.len
 obtain ⟨ya, yn, yc⟩ := y
 change yn = D.length at hly
 obtain rfl : yn = x.n := by omega
 refine zzm (args := [.slice x.a x.n x.c, .slice ya x.n yc]) Tryz.func9 rfl Tryz.ntmps9 (rs := [.tmp 4, .tmp 5]) Tryz.results9 (le_b rfl) (le_b rfl) d ?_
 refine sq9 (zza 4 (.v (.slice none 0 0)) (zza 5 (zI 0) (zzb (zzd (sq9 (zza 14 (.v x.v) (zza 15 (zI x.n) (zza 16 (.v (.slice ya x.n yc)) (zza 17 (zI x.n) (zza 18 (zB ((x.n : Int) != (x.n : Int))) (zyq 19 (x := zB ((x.n : Int) != (x.n : Int))) (zB false) (by rw [show ((x.n : Int) != (x.n : Int)) = false from (by first | (simp; done) | (simp; omega))]) ?_)))))))))))
 refine zza 20 (.v x.v) ?_ (hw := w1 5 false 19)
 refine zza 21 (zI x.n) ?_ (hw := w1 5 false 19)
 refine zza 22 (zB (decide ((x.n : Int) < 1))) ?_ (hw := w1 5 false 19)
 refine zza 23 (zB (decide ((x.n : Int) < 1))) (zyq 24 (x := zB (decide ((x.n : Int) < 1))) (zB false) (by rw [show (decide ((x.n : Int) < 1)) = false from decide_eq_false xq]) (zza 25 (.v x.v) ?_ (hw := w1 10 false 24)))
 refine zza 26 (zI x.n) ?_ (hw := w1 10 false 24)
 refine zza 27 (zB (decide ((8 : Int) < (x.n : Int)))) ?_ (hw := w1 10 false 24)
 refine zza 28 (zB (decide ((8 : Int) < (x.n : Int)))) (zzb (zzu (b := decide ((8 : Int) < (x.n : Int))) xj (fun hb => ?_) (fun hb => ?_)))
 ·exact absurd hb (by rw [show (decide ((8 : Int) < (x.n : Int))) = false from decide_eq_false xq]; decide)
 ·clear hb
  refine zzs (zzp ?_)
  refine zzd (sq9 (zza 29 (.v x.v) (zza 30 (zI x.n) (zza 31 (zI 0) (zzb (zzt (zyn (I := fun m13 S' u' => ∃ (i : Nat), (m13 = x.n - i) ∧ (i ≤ x.n) ∧ (S' = St.of 105 [(0, .v (.slice x.a x.n x.c)), (1, .v (.slice ya x.n yc)), (30, zI x.n), (31, zI i)] []) ∧ (Ext u u')) (fun m S u1 u2 e h => by obtain ⟨i, hm, p0, hS, hE⟩ := h; exact ⟨i, hm, p0, hS, hE.trans e⟩) _ yj ⟨0, rfl, Nat.zero_le _, rfl, (Ext.refl _)⟩ ?_)))))))
  rintro m13 _ u13 ⟨i, hm13, hi, rfl, e13⟩
  refine sq9 (zza 32 (zB (decide ((i : Int) < (x.n : Int)))) (zzb (zzd (zzu (b := decide ((i : Int) < (x.n : Int))) xj (fun hb14 => ?_) (fun hb14 => ?_)))))
  ·replace hb14 : (decide ((i : Int) < (x.n : Int))) = true := hb14
   have qhb14 := of_decide_eq_true hb14
   refine zzs (zzp ?_)
   refine zzd (zzt (sq9 (zza 33 (zI i) (zza 6 (zI i) (zzb (sq9 (zza 34 (.v x.v) (zza 35 (zI i) ?_))))))))
   have hl15 := ((hx.ext e13)).len
   obtain ⟨b15, o15, hA15, hc15⟩ := ir_row (hx.ext e13) (i := i) xq yv
   refine zya 36 (o15 + i * 3) (n := x.n) (off := o15) (sz := 3) (i := (i : Int)) xq hA15 xq xq sl22 (zza 37 (.v (.slice (some ⟨b15, o15 + i * 3, none⟩) 3 3)) (zzg 38 30 [.slice (some ⟨b15, o15 + i * 3, none⟩) 3 3] ?_))
   intro w16 u16 e16 d16
   have k19 := (show Calls _ _ #[.slice (some ⟨b15, o15 + i * 3, none⟩) 3 3] _ _ from k_cwithin (x := (⟨some ⟨b15, o15 + i * 3, none⟩, 3, 3⟩ : Sl)) d16 (hc15.ext e16) (fun z hz => by have h9 := (OkR.mem hZ (i := i) xq).2 z hz; omega))
   with_reducible refine zPm k19 ?_
   rintro _ u17 g18 rfl
   refine zza 39 (zB (!(Nt.smallB (Z.getD i [])))) (zyq 40 (x := zB (!(Nt.smallB (Z.getD i [])))) (zB false) (by rw [show (!(Nt.smallB (Z.getD i []))) = false from (by rw [Nt.smallB_of hZ xq]; rfl)]) (zza 41 (.v (.slice ya x.n yc)) ?_ (hw := w1 6 false 40)))
   refine zza 42 (zI i) ?_ (hw := w1 6 false 40)
   have hl21 := ((hy.ext (e13.trans (e16.trans g18.ext)))).len
   change x.n = _ at hl21
   obtain ⟨b21, o21, hA21, hc21⟩ := ir_row (hy.ext (e13.trans (e16.trans g18.ext))) (i := i) xq yv
   refine zya 43 (o21 + i * 2) (n := x.n) (off := o21) (sz := 2) (i := (i : Int)) xq hA21 xq xq sl23 ?_ (hw := w1 6 false 40)
   refine zza 44 (.v (.slice (some ⟨b21, o21 + i * 2, none⟩) 2 2)) ?_ (hw := w1 6 false 40)
   refine zzg 45 30 [.slice (some ⟨b21, o21 + i * 2, none⟩) 2 2] ?_ (hw := w1 6 false 40)
   intro w22 u22 e22 d22
   have k25 := (show Calls _ _ #[.slice (some ⟨b21, o21 + i * 2, none⟩) 2 2] _ _ from k_cwithin (x := (⟨some ⟨b21, o21 + i * 2, none⟩, 2, 2⟩ : Sl)) d22 (hc21.ext e22) (fun z hz => by have h9 := (OkR.mem hD (i := i) xq).2 z hz; omega))
   with_reducible refine zPm k25 ?_
   rintro _ u23 g24 rfl
   refine zza 46 (zB (!(Nt.smallB (D.getD i [])))) ?_ (hw := w1 6 false 40)
   refine zza 47 (zB (!(Nt.smallB (D.getD i [])))) (zzc 105 [(0, .v x.v), (1, .v (.slice ya x.n yc)), (30, zI x.n), (31, zI i), (47, zB (!(Nt.smallB (D.getD i []))))] [] (zzu (b := !(Nt.smallB (D.getD i []))) xj (fun hb => ?_) (fun hb => ?_)))
   ·exact absurd hb (by rw [show (!(Nt.smallB (D.getD i []))) = false from (by rw [Nt.smallB_of hD xq]; rfl)]; decide)
   ·clear hb
    refine zzs (zzp ?_)
    refine zzf (zyq 48 (x := zI (IntKind.i64.wrap ((i : Int) + 1))) (zI (i + 1 : Nat)) (eqI xw) (zza 31 (zI (i + 1 : Nat)) (zzx ?_)))
    refine ⟨_, ?_, _, by exact zzv _ _ _, i + 1, rfl, by omega, rfl, (e13.trans (e16.trans (g18.ext.trans (e22.trans g24.ext))))⟩
    omega
  ·replace hb14 : (decide ((i : Int) < (x.n : Int))) = false := hb14
   have qhb14 := of_decide_eq_false hb14
   refine zyc (zzp (sq9 (zza 49 (.v (.slice ya x.n yc)) (zzg 50 31 [.slice ya x.n yc] ?_))))
   intro w26 u26 e26 d26
   have k37 := k_clone2 d26 (hy.ext (e13.trans e26)) xq xq
   with_reducible refine zPm k37 ?_
   rintro _ u35 g36 ⟨b27, c28, X29, rfl, hb30, hh31, hlX32, hle33, hmx34⟩
   refine zza 7 (.v (.slice (some ⟨b27, 0, none⟩) x.n c28)) (zzb (zzd (sw_adopt (r := 7) (k := 50) (cs := kcs D ++ X29) (by rfl) hh31 (Nat.le_trans ((e13.trans e26).size) hb30) xj (fun u38 eB39 => ?_))))
   refine zzf (zza 51 (.slc 50 0 x.n c28) ?_)
   have kc40 := fun (g : Nat) (w u1 : World) (e : Ext u38 u1) (d : Dat u1 w) (hg : w.heap[g]? = some (.cells (kcs D ++ X29).toArray 30 (0, 0))) (hu : u1.heap[g]? = some hidO) => k_csort (n := x.n) (c := c28) d hg hu hD (show D.length = x.n by omega) xq
   refine sy_lend 52 32 (t := 50) (V := ⟨30, kcs D ++ X29⟩) (len := x.n) (cap := c28) [.func (.func 33) #[] #[]] xj kc40 ?_
   clear kc40
   rintro _ u40 e40 rfl
   refine zzc 105 [(0, .v x.v), (7, .slc 50 0 x.n c28)] [(50, ⟨30, kcs (Nt.sortR D) ++ X29⟩)] (sq9 (zza 53 (.v x.v) (zzg 54 35 [x.v] ?_)))
   intro w41 u41 e41 d41
   have k52 := k_clone3 d41 (hx.ext (e13.trans (e26.trans ((ExtB.old eB39 g36.ext hb30).trans (e40.trans e41))))) xq xq
   with_reducible refine zPm k52 ?_
   rintro _ u50 g51 ⟨b42, c43, X44, rfl, hb45, hh46, hlX47, hle48, hmx49⟩
   refine zza 8 (.v (.slice (some ⟨b42, 0, none⟩) x.n c43)) (zzb (zzd (sw_adopt (r := 8) (k := 54) (cs := kcs Z ++ X44) (by rfl) hh46 (Nat.le_trans ((e13.trans (e26.trans ((ExtB.old eB39 g36.ext hb30).trans (e40.trans e41)))).size) hb45) xj (fun u53 eB54 => ?_))))
   refine zzf (zza 55 (.slc 50 0 x.n c28) (zza 56 (zI x.n) (sy_make 57 (T := 25) (E := 32) (z := .agg #[.int .i64 0, .int .i64 0, .int .i64 0, .int .i64 0, .int .i64 0]) (size := 5) (bytes := 40) x.n (kcs (List.replicate x.n [0, 0, 0, 0, 0] ++ []) ++ []) xj xj rfl rfl xq yv (by rw [List.append_nil, List.append_nil]; exact made_k (z := [0, 0, 0, 0, 0]) rfl yq _) ?_)))
   refine zza 9 (.slc 57 0 x.n x.n) (zzc 105 [(7, .slc 50 0 x.n c28), (8, .slc 54 0 x.n c43), (9, .slc 57 0 x.n x.n)] [(50, ⟨30, kcs (Nt.sortR D) ++ X29⟩), (54, ⟨29, kcs Z ++ X44⟩), (57, ⟨32, kcs (List.replicate x.n [0, 0, 0, 0, 0] ++ []) ++ []⟩)] (zzd (sq9 (zza 58 (.slc 50 0 x.n c28) (zza 59 (zI x.n) (zza 60 (zI 0) (zzb (zzt (zyn (I := fun m55 S' u' => ∃ (i : Nat) (Z' : List (List Int)) (X' : List Value) (A' : List (List Int)), (m55 = x.n - i) ∧ (i ≤ x.n) ∧ (OkR 3 Z') ∧ (Z'.length = x.n - i) ∧ ((kcs Z' ++ X').length = c43 * 3) ∧ (OkR 5 A') ∧ (A'.length = i) ∧ (Nt.pairR ((Nt.sortR D).drop i) Z' A' = Nt.pairR (Nt.sortR D) Z []) ∧ (S' = St.of 105 [(7, .slc 50 0 x.n c28), (8, .slc 54 0 (x.n - i) c43), (9, .slc 57 0 x.n x.n), (58, .slc 50 0 x.n c28), (59, zI x.n), (60, zI i)] [(50, ⟨30, kcs (Nt.sortR D) ++ X29⟩), (54, ⟨29, kcs Z' ++ X'⟩), (57, ⟨32, kcs (List.replicate (x.n - i) [0, 0, 0, 0, 0] ++ A') ++ []⟩)]) ∧ (Ext u53 u')) (fun m S u1 u2 e h => by obtain ⟨i, Z', X', A', hm, p0, p1, p2, p3, p4, p5, p6, hS, hE⟩ := h; exact ⟨i, Z', X', A', hm, p0, p1, p2, p3, p4, p5, p6, hS, hE.trans e⟩) _ yj ⟨0, Z, X44, [], rfl, Nat.zero_le _, hZ, xq, hlX47, (fun p hp => by cases hp), rfl, rfl, rfl, (Ext.refl _)⟩ ?_)))))))))
   rintro m55 _ u55 ⟨i, Z', X', A', hm55, hi1, hZ', hZn', hX', hA', hAn', hP', rfl, e55⟩
   have hO9 : OkR 5 (List.replicate (x.n - i) [0, 0, 0, 0, 0] ++ A') := okR_fill hA'
   have hO8 : (List.replicate (x.n - i) [0, 0, 0, 0, 0] ++ A').length = x.n := by rw [List.length_append, List.length_replicate, hAn']; omega
   refine sq9 (zza 61 (zB (decide ((i : Int) < (x.n : Int)))) (zzb (zzd (zzu (b := decide ((i : Int) < (x.n : Int))) xj (fun hb56 => ?_) (fun hb56 => ?_)))))
   ·replace hb56 : (decide ((i : Int) < (x.n : Int))) = true := hb56
    have qhb56 := of_decide_eq_true hb56
    refine zzs (zzp ?_)
    refine zzd (zzt (sq9 (zza 62 (zI i) (zyw 63 (off' := i * 2) (n := x.n) (off := 0) (sz := 2) (i := (i : Int)) sl23 xq xq xq ?_))))
    refine zzi 64 (V := ⟨30, kcs (Nt.sortR D) ++ X29⟩) (off := i * 2) (.v (.agg #[.int .i64 (gi (Nt.sortR D) i 0), .int .i64 (gi (Nt.sortR D) i 1)])) ty30 (part_k2 (OkR.rows (Nt.sortR_ok hD (by rw [(show D.length = x.n by omega)]; omega))) (i := i) (by rw [(Nt.sortR_len.trans (show D.length = x.n by omega))]; omega) rfl) ?_
    have hz570 := OkR.bd (Nt.sortR_ok hD (by rw [(show D.length = x.n by omega)]; omega)) (i := i) (j := 0) (by rw [(Nt.sortR_len.trans (show D.length = x.n by omega))]; omega) yq
    have hz571 := OkR.bd (Nt.sortR_ok hD (by rw [(show D.length = x.n by omega)]; omega)) (i := i) (j := 1) (by rw [(Nt.sortR_len.trans (show D.length = x.n by omega))]; omega) yq
    refine zzk 11 ⟨30, [.int .i64 0, .int .i64 0]⟩ (zza 10 (zI i) (zzj ⟨30, [.int .i64 (gi (Nt.sortR D) i 0), .int .i64 (gi (Nt.sortR D) i 1)]⟩ ty30 ?_))
    refine zzc 105 [(7, .slc 50 0 x.n c28), (8, .slc 54 0 (x.n - i) c43), (9, .slc 57 0 x.n x.n), (10, zI i), (11, .adr 11 0), (58, .slc 50 0 x.n c28), (59, zI x.n), (60, zI i)] [(11, ⟨30, [.int .i64 (gi (Nt.sortR D) i 0), .int .i64 (gi (Nt.sortR D) i 1)]⟩), (50, ⟨30, kcs (Nt.sortR D) ++ X29⟩), (54, ⟨29, kcs Z' ++ X'⟩), (57, ⟨32, kcs (List.replicate (x.n - i) [0, 0, 0, 0, 0] ++ A') ++ []⟩)] (sq9 (zza 12 (zI 0) (zzb (zzd (sq9 (zza 65 (.slc 54 0 (x.n - i) c43) (zza 66 (zI (x.n - i : Nat)) (zza 67 (zI 0) (zzc 105 [(7, .slc 50 0 x.n c28), (8, .slc 54 0 (x.n - i) c43), (9, .slc 57 0 x.n x.n), (10, zI i), (11, .adr 11 0), (12, zI 0), (58, .slc 50 0 x.n c28), (59, zI x.n), (60, zI i), (66, zI (x.n - i : Nat)), (67, zI 0)] [(11, ⟨30, [.int .i64 (gi (Nt.sortR D) i 0), .int .i64 (gi (Nt.sortR D) i 1)]⟩), (50, ⟨30, kcs (Nt.sortR D) ++ X29⟩), (54, ⟨29, kcs Z' ++ X'⟩), (57, ⟨32, kcs (List.replicate (x.n - i) [0, 0, 0, 0, 0] ++ A') ++ []⟩)] (zzt (zyn (I := fun m58 S' u' => ∃ (j : Nat) (m : Nat), (m58 = x.n - i - j) ∧ (j ≤ x.n - i) ∧ (m = Nt.bestR Z' (gi (Nt.sortR D) i 0) (gi (Nt.sortR D) i 1) j) ∧ (S' = St.of 105 [(7, .slc 50 0 x.n c28), (8, .slc 54 0 (x.n - i) c43), (9, .slc 57 0 x.n x.n), (10, zI i), (11, .adr 11 0), (12, zI m), (58, .slc 50 0 x.n c28), (59, zI x.n), (60, zI i), (66, zI (x.n - i : Nat)), (67, zI j)] [(11, ⟨30, [.int .i64 (gi (Nt.sortR D) i 0), .int .i64 (gi (Nt.sortR D) i 1)]⟩), (50, ⟨30, kcs (Nt.sortR D) ++ X29⟩), (54, ⟨29, kcs Z' ++ X'⟩), (57, ⟨32, kcs (List.replicate (x.n - i) [0, 0, 0, 0, 0] ++ A') ++ []⟩)]) ∧ (Ext u55 u')) (fun m S u1 u2 e h => by obtain ⟨j, m, hm, p0, p1, hS, hE⟩ := h; exact ⟨j, m, hm, p0, p1, hS, hE.trans e⟩) _ yj ⟨0, 0, rfl, Nat.zero_le _, rfl, rfl, (Ext.refl _)⟩ ?_)))))))))))
    rintro m58 _ u58 ⟨j, m, hm58, hj, hm, rfl, e58⟩
    have hmL : m < x.n - i := by rw [hm]; exact Nt.best_in xq hj
    refine sq9 (zza 68 (zB (decide ((j : Int) < ((x.n - i : Nat) : Int)))) (zzb (zzd (zzu (b := decide ((j : Int) < ((x.n - i : Nat) : Int))) xj (fun hb59 => ?_) (fun hb59 => ?_)))))
    ·replace hb59 : (decide ((j : Int) < ((x.n - i : Nat) : Int))) = true := hb59
     have qhb59 := of_decide_eq_true hb59
     refine zzs (zzp ?_)
     refine zzd (zzt (sq9 (zza 69 (zI j) (zza 13 (zI j) (zzb (zzd (zzz [0, 0, 3, 7, 0, 31, 0, 0, 192, 448, 0, 2047, 4095] [(0, []), (1, []), (2, []), (3, []), (4, []), (6, []), (7, []), (8, []), (9, []), (10, []), (5, []), (11, []), (12, [])] xj xj (zza 70 (.slc 54 0 (x.n - i) c43) (zza 71 (zI j) (zyw 72 (off' := j * 3) (n := (x.n - i)) (off := 0) (sz := 3) (i := (j : Int)) sl22 xq xq xq ?_))))))))))
     refine zzi 73 (V := ⟨29, kcs Z' ++ X'⟩) (off := j * 3) (.v (.agg #[.int .i64 (gi Z' j 0), .int .i64 (gi Z' j 1), .int .i64 (gi Z' j 2)])) ty29 (part_k3 (OkR.rows hZ') (i := j) (by rw [hZn']; omega) rfl) ?_
     have hz600 := OkR.bd hZ' (i := j) (j := 0) (by rw [hZn']; omega) yq
     have hz601 := OkR.bd hZ' (i := j) (j := 1) (by rw [hZn']; omega) yq
     have hz602 := OkR.bd hZ' (i := j) (j := 2) (by rw [hZn']; omega) yq
     refine zzi 74 (.v (.agg #[.int .i64 (gi (Nt.sortR D) i 0), .int .i64 (gi (Nt.sortR D) i 1)])) ty30 zze (zza 76 (.slc 54 0 (x.n - i) c43) (zza 77 (zI m) (zyw 78 (off' := m * 3) (n := (x.n - i)) (off := 0) (sz := 3) (i := (m : Int)) sl22 xq xq xq ?_)))
     refine zzi 79 (V := ⟨29, kcs Z' ++ X'⟩) (off := m * 3) (.v (.agg #[.int .i64 (gi Z' m 0), .int .i64 (gi Z' m 1), .int .i64 (gi Z' m 2)])) ty29 (part_k3 (OkR.rows hZ') (i := m) (by rw [hZn']; omega) rfl) ?_
     have hz610 := OkR.bd hZ' (i := m) (j := 0) (by rw [hZn']; omega) yq
     have hz611 := OkR.bd hZ' (i := m) (j := 1) (by rw [hZn']; omega) yq
     have hz612 := OkR.bd hZ' (i := m) (j := 2) (by rw [hZn']; omega) yq
     refine zzi 80 (.v (.agg #[.int .i64 (gi (Nt.sortR D) i 0), .int .i64 (gi (Nt.sortR D) i 1)])) ty30 zze (zzg 75 36 [.agg #[.int .i64 (gi Z' j 0), .int .i64 (gi Z' j 1), .int .i64 (gi Z' j 2)], .agg #[.int .i64 (gi (Nt.sortR D) i 0), .int .i64 (gi (Nt.sortR D) i 1)]] ?_)
     intro w62 u62 e62 d62
     have k65 := k_cdist (b0 := gi Z' j 0) (b1 := gi Z' j 1) (b2 := gi Z' j 2) (a0 := gi (Nt.sortR D) i 0) (a1 := gi (Nt.sortR D) i 1) d62 xq xq xq xq
     with_reducible refine zPm k65 ?_
     rintro _ u63 g64 rfl
     have hdz66 := Nt.dist_bd (b1 := gi Z' j 1) (b2 := gi Z' j 2) (a0 := gi (Nt.sortR D) i 0) (a1 := gi (Nt.sortR D) i 1) xq xq xq xq
     refine zzg 81 36 [.agg #[.int .i64 (gi Z' m 0), .int .i64 (gi Z' m 1), .int .i64 (gi Z' m 2)], .agg #[.int .i64 (gi (Nt.sortR D) i 0), .int .i64 (gi (Nt.sortR D) i 1)]] ?_
     intro w67 u67 e67 d67
     have k70 := k_cdist (b0 := gi Z' m 0) (b1 := gi Z' m 1) (b2 := gi Z' m 2) (a0 := gi (Nt.sortR D) i 0) (a1 := gi (Nt.sortR D) i 1) d67 xq xq xq xq
     with_reducible refine zPm k70 ?_
     rintro _ u68 g69 rfl
     have hdz71 := Nt.dist_bd (b1 := gi Z' m 1) (b2 := gi Z' m 2) (a0 := gi (Nt.sortR D) i 0) (a1 := gi (Nt.sortR D) i 1) xq xq xq xq
     refine zza 82 (zB (decide ((Nt.distZ (gi Z' j 1) (gi Z' j 2) (gi (Nt.sortR D) i 0) (gi (Nt.sortR D) i 1)) < (Nt.distZ (gi Z' m 1) (gi Z' m 2) (gi (Nt.sortR D) i 0) (gi (Nt.sortR D) i 1))))) (zzc 105 [(7, .slc 50 0 x.n c28), (8, .slc 54 0 (x.n - i) c43), (9, .slc 57 0 x.n x.n), (10, zI i), (11, .adr 11 0), (12, zI m), (13, zI j), (58, .slc 50 0 x.n c28), (59, zI x.n), (60, zI i), (66, zI (x.n - i : Nat)), (67, zI j), (82, zB (decide ((Nt.distZ (gi Z' j 1) (gi Z' j 2) (gi (Nt.sortR D) i 0) (gi (Nt.sortR D) i 1)) < (Nt.distZ (gi Z' m 1) (gi Z' m 2) (gi (Nt.sortR D) i 0) (gi (Nt.sortR D) i 1)))))] [(11, ⟨30, [.int .i64 (gi (Nt.sortR D) i 0), .int .i64 (gi (Nt.sortR D) i 1)]⟩), (50, ⟨30, kcs (Nt.sortR D) ++ X29⟩), (54, ⟨29, kcs Z' ++ X'⟩), (57, ⟨32, kcs (List.replicate (x.n - i) [0, 0, 0, 0, 0] ++ A') ++ []⟩)] (zzu (b := decide ((Nt.distZ (gi Z' j 1) (gi Z' j 2) (gi (Nt.sortR D) i 0) (gi (Nt.sortR D) i 1)) < (Nt.distZ (gi Z' m 1) (gi Z' m 2) (gi (Nt.sortR D) i 0) (gi (Nt.sortR D) i 1)))) xj (fun hb72 => ?_) (fun hb72 => ?_)))
     ·replace hb72 : (decide ((Nt.distZ (gi Z' j 1) (gi Z' j 2) (gi (Nt.sortR D) i 0) (gi (Nt.sortR D) i 1)) < (Nt.distZ (gi Z' m 1) (gi Z' m 2) (gi (Nt.sortR D) i 0) (gi (Nt.sortR D) i 1)))) = true := hb72
      have qhb72 := of_decide_eq_true hb72
      refine zzf (zza 83 (zI j) (zza 12 (zI j) (zzx ?_)))
      refine zzp (zzf (zyq 84 (x := zI (IntKind.i64.wrap ((j : Int) + 1))) (zI (j + 1 : Nat)) (eqI xw) (zza 67 (zI (j + 1 : Nat)) (zzx ?_))))
      refine ⟨_, ?_, _, by exact zzv _ _ _, j + 1, j, rfl, by omega, (by have h9 := qhb72; rw [hm] at h9; exact (Nt.best_yes h9).symm), rfl, (e58.trans (e62.trans (g64.ext.trans (e67.trans g69.ext))))⟩
      omega
     ·replace hb72 : (decide ((Nt.distZ (gi Z' j 1) (gi Z' j 2) (gi (Nt.sortR D) i 0) (gi (Nt.sortR D) i 1)) < (Nt.distZ (gi Z' m 1) (gi Z' m 2) (gi (Nt.sortR D) i 0) (gi (Nt.sortR D) i 1)))) = false := hb72
      have qhb72 := of_decide_eq_false hb72
      refine zzs (zzp ?_)
      refine zzf (zyq 84 (x := zI (IntKind.i64.wrap ((j : Int) + 1))) (zI (j + 1 : Nat)) (eqI xw) (zza 67 (zI (j + 1 : Nat)) (zzx ?_)))
      refine ⟨_, ?_, _, by exact zzv _ _ _, j + 1, m, rfl, by omega, (by have h9 := qhb72; rw [hm] at h9; exact hm.trans (Nt.best_no h9).symm), rfl, (e58.trans (e62.trans (g64.ext.trans (e67.trans g69.ext))))⟩
      omega
    ·replace hb59 : (decide ((j : Int) < ((x.n - i : Nat) : Int))) = false := hb59
     have qhb59 := of_decide_eq_false hb59
     refine zyc (zzp (zzd (zzz [0, 0, 2, 6, 0, 30, 0, 0, 192, 448, 0, 1984, 4095, 8191] [(0, []), (1, []), (2, []), (3, []), (4, []), (5, []), (6, []), (7, []), (8, []), (9, []), (10, []), (11, []), (12, []), (13, [])] xj xj (zza 85 (.slc 57 0 x.n x.n) (zza 86 (.slc 50 0 x.n c28) (zza 87 (zI x.n) (zyq 88 (x := zI (IntKind.i64.wrap ((x.n : Int) - 1))) (zI (x.n - 1 : Nat)) (eqI xw) (zza 89 (zI i) (zyq 90 (x := zI (IntKind.i64.wrap (((x.n - 1 : Nat) : Int) - (i : Int)))) (zI (((x.n - 1) - i : Nat) : Int)) (eqI xw) (zza 91 (.slc 54 0 (x.n - i) c43) (zza 92 (zI m) ?_)))))))))))
     refine zyw 93 (off' := m * 3) (n := (x.n - i)) (off := 0) (sz := 3) (i := (m : Int)) sl22 xq xq xq ?_
     refine zzi 94 (V := ⟨29, kcs Z' ++ X'⟩) (off := m * 3) (.v (.agg #[.int .i64 (gi Z' m 0), .int .i64 (gi Z' m 1), .int .i64 (gi Z' m 2)])) ty29 (part_k3 (OkR.rows hZ') (i := m) (by rw [hZn']; omega) rfl) ?_
     have hz730 := OkR.bd hZ' (i := m) (j := 0) (by rw [hZn']; omega) yq
     have hz731 := OkR.bd hZ' (i := m) (j := 1) (by rw [hZn']; omega) yq
     have hz732 := OkR.bd hZ' (i := m) (j := 2) (by rw [hZn']; omega) yq
     refine zzi 95 (.v (.agg #[.int .i64 (gi (Nt.sortR D) i 0), .int .i64 (gi (Nt.sortR D) i 1)])) ty30 zze (zza 96 (.v (.agg #[.int .i64 (gi Z' m 0), .int .i64 (gi Z' m 1), .int .i64 (gi Z' m 2), .int .i64 (gi (Nt.sortR D) i 0), .int .i64 (gi (Nt.sortR D) i 1)])) (zyw 97 (off' := ((x.n - 1) - i) * 5) (n := x.n) (off := 0) (sz := 5) (i := (((x.n - 1) - i : Nat) : Int)) sl25 xq xq xq ?_))
     have hA74 : OkR 5 ([gi Z' m 0, gi Z' m 1, gi Z' m 2, gi (Nt.sortR D) i 0, gi (Nt.sortR D) i 1] :: A') := okR_cons5 hA' xq xq xq xq xq
     have hO74 : OkR 5 (List.replicate (x.n - (i + 1)) [0, 0, 0, 0, 0] ++ ([gi Z' m 0, gi Z' m 1, gi Z' m 2, gi (Nt.sortR D) i 0, gi (Nt.sortR D) i 1] :: A')) := okR_fill hA74
     have hP74 : (List.replicate (x.n - (i + 1)) [0, 0, 0, 0, 0] ++ ([gi Z' m 0, gi Z' m 1, gi Z' m 2, gi (Nt.sortR D) i 0, gi (Nt.sortR D) i 1] :: A')).length = x.n := by rw [List.length_append, List.length_replicate, List.length_cons, hAn']; omega
     refine zyv (V := ⟨32, kcs (List.replicate (x.n - i) [0, 0, 0, 0, 0] ++ A') ++ []⟩) (off := ((x.n - 1) - i) * 5) (kcs (List.replicate (x.n - (i + 1)) [0, 0, 0, 0, 0] ++ ([gi Z' m 0, gi Z' m 1, gi Z' m 2, gi (Nt.sortR D) i 0, gi (Nt.sortR D) i 1] :: A')) ++ []) ty32 (by rw [List.length_append, kcs_len (OkR.rows hO9), hO8]; omega) (by rw [← Nt.fill_back (z := [0, 0, 0, 0, 0]) (show i < x.n by omega) [gi Z' m 0, gi Z' m 1, gi Z' m 2, gi (Nt.sortR D) i 0, gi (Nt.sortR D) i 1]]; exact (setL_k5 (OkR.rows hO9) (i := (x.n - 1) - i) (by rw [hO8]; omega) rfl)) ?_
     refine zzc 105 [(7, .slc 50 0 x.n c28), (8, .slc 54 0 (x.n - i) c43), (9, .slc 57 0 x.n x.n), (12, zI m), (58, .slc 50 0 x.n c28), (59, zI x.n), (60, zI i)] [(50, ⟨30, kcs (Nt.sortR D) ++ X29⟩), (54, ⟨29, kcs Z' ++ X'⟩), (57, ⟨32, kcs (List.replicate (x.n - (i + 1)) [0, 0, 0, 0, 0] ++ ([gi Z' m 0, gi Z' m 1, gi Z' m 2, gi (Nt.sortR D) i 0, gi (Nt.sortR D) i 1] :: A')) ++ []⟩)] (zzf (zza 98 (.slc 54 0 (x.n - i) c43) (zza 99 (zI m) (zza 100 (zI m) (zyq 101 (x := zI (IntKind.i64.wrap ((m : Int) + 1))) (zI (m + 1 : Nat)) (eqI xw) ?_)))))
     have kc75 := fun (g : Nat) (w u1 : World) (e : Ext u58 u1) (d : Dat u1 w) (hg : w.heap[g]? = some (.cells (kcs Z' ++ X').toArray 29 (0, 0))) (hu : u1.heap[g]? = some hidO) => k_cdelete (n := x.n - i) (c := c43) (i := m) d hg hu hZ' hZn' hX' xq xq xq
     refine sy_lendS 102 37 (t := 54) (V := ⟨29, kcs Z' ++ X'⟩) (len := (x.n - i)) (cap := c43) [.int .i64 m, .int .i64 (m + 1 : Nat)] xj kc75 ?_
     clear kc75
     rintro m75 _ u75 e75 ⟨hm75, X75, rfl, hX75⟩
     obtain rfl : m75 = x.n - (i + 1) := by omega
     have hE75 : (Z'.eraseIdx m).length = x.n - (i + 1) := by rw [List.length_eraseIdx, if_pos xq, hZn']; omega
     refine sy_over 8 (.slc 54 0 (x.n - (i + 1)) c43) (zzx ?_)
     refine zzp (zzf (zyq 103 (x := zI (IntKind.i64.wrap ((i : Int) + 1))) (zI (i + 1 : Nat)) (eqI xw) (zza 60 (zI (i + 1 : Nat)) (zzx ?_))))
     refine ⟨_, ?_, _, by exact zzv _ _ _, i + 1, (Z'.eraseIdx m), X75, [gi Z' m 0, gi Z' m 1, gi Z' m 2, gi (Nt.sortR D) i 0, gi (Nt.sortR D) i 1] :: A', rfl, by omega, (OkR.erase hZ'), hE75, hX75, hA74, (by rw [List.length_cons, hAn']), (by have h9 := hP'; rw [Nt.pairR_step (by rw [Nt.sortR_len]; omega), hZn', show x.n - i = j by omega, ← hm] at h9; exact h9), rfl, (e55.trans (e58.trans e75))⟩
     omega
   ·replace hb56 : (decide ((i : Int) < (x.n : Int))) = false := hb56
    have qhb56 := of_decide_eq_false hb56
    refine zyc (zzp (zzd (zyp (r := 9) (t := 57) [9, 57] xk xj (by rfl) (by rfl) xj (fun b76 u77 e78 hb79 hh80 => ?_))))
    have hp81 : IrV 5 u77 ⟨some ⟨b76, 0, none⟩, x.n, x.n⟩ (List.replicate (x.n - i) [0, 0, 0, 0, 0] ++ A') := ir_data hh80 (OkR.rows hO9) (by rw [List.append_nil, List.take_of_length_le (by rw [kcs_len (OkR.rows hO9), hO8]; omega)]) (by rw [hO8]) (by rw [List.append_nil, kcs_len (OkR.rows hO9), hO8]) xq yv
    refine zzf (zza 104 (.v (.slice (some ⟨b76, 0, none⟩) x.n x.n)) (zza 4 (.v (.slice (some ⟨b76, 0, none⟩) x.n x.n)) (zza 5 (zI 0) (zzc 105 [(4, .v (.slice (some ⟨b76, 0, none⟩) x.n x.n)), (5, zI 0)] [] (zzo (ret0 [.slice (some ⟨b76, 0, none⟩) x.n x.n, .int .i64 0] ⟨zzq, zzq, trivial⟩ fun u82 e83 => ?_))))))
    have hi9 : i = x.n := by omega
    have h9 := (hp81.ext e83)
    rw [show x.n - i = 0 by omega] at h9
    have h8 := hP'
    rw [List.drop_of_length_le (by rw [Nt.sortR_len]; omega)] at h8
    refine ⟨(⟨some ⟨b76, 0, none⟩, x.n, x.n⟩ : Sl), rfl, ?_⟩
    rw [← h8]
    exact h9
set_option maxHeartbeats 2000000 in
theorem k_known24 {u w : World} (d : Dat u w) : Calls Tryz.prog 8 #[] w (Post u w fun v _ => v = .bool true) := by
 refine zzm (args := []) Tryz.func8 rfl Tryz.ntmps8 (rs := [.tmp 0]) Tryz.results8 (le_b rfl) (le_b rfl) d ?_
 refine sq9 (zza 0 (zB false) (zzb (sq9 (zza 4 (.v (.agg #[.int .i64 1, .int .i64 0, .int .i64 1])) (zza 5 (.v (.agg #[.int .i64 1, .int .i64 2, .int .i64 1])) (zxy 6 ⟨29, [.int .i64 1, .int .i64 0, .int .i64 1, .int .i64 1, .int .i64 2, .int .i64 1]⟩ 2 (fun b11 u12 e13 h14 => ?_)))))))
 have hI15 : IrV 3 u12 (⟨some ⟨b11, 0, none⟩, 2, 2⟩ : Sl) [[1, 0, 1], [1, 2, 1]] := ir_data (cs := [.int .i64 1, .int .i64 0, .int .i64 1, .int .i64 1, .int .i64 2, .int .i64 1]) h14 yq rfl rfl rfl yq (by unfold maxLen; decide)
 refine zza 7 (.v (.agg #[.int .i64 0, .int .i64 1])) (zza 8 (.v (.agg #[.int .i64 2, .int .i64 2])) (zxy 9 ⟨30, [.int .i64 0, .int .i64 1, .int .i64 2, .int .i64 2]⟩ 2 (fun b16 u17 e18 h19 => ?_)))
 have hI20 : IrV 2 u17 (⟨some ⟨b16, 0, none⟩, 2, 2⟩ : Sl) [[0, 1], [2, 2]] := ir_data (cs := [.int .i64 0, .int .i64 1, .int .i64 2, .int .i64 2]) h19 yq rfl rfl rfl yq (by unfold maxLen; decide)
 refine zzg 10 9 [.slice (some ⟨b11, 0, none⟩) 2 2, .slice (some ⟨b16, 0, none⟩) 2 2] ?_
 intro w21 u21 e21 d21
 have k25 := (show Calls _ _ #[.slice (some ⟨b11, 0, none⟩) 2 2, .slice (some ⟨b16, 0, none⟩) 2 2] _ _ from k_cpair (x := (⟨some ⟨b11, 0, none⟩, 2, 2⟩ : Sl)) (y := (⟨some ⟨b16, 0, none⟩, 2, 2⟩ : Sl)) d21 (hI15.ext (e18.trans e21)) (hI20.ext e21) yq yq yq yq yq)
 with_reducible refine zPm k25 ?_
 rintro _ u23 g24 ⟨z22, rfl, hz22⟩
 refine zza 3 (.v (.tuple #[z22.v, .int .i64 0])) (zza 11 (.v z22.v) (zza 12 (zI 0) (zza 1 (.v z22.v) (zza 2 (zI 0) (zzb (zzd ?_))))))
 have hP9 := hz22
 rw [show (Nt.pairR (Nt.sortR ([[0, 1], [2, 2]])) ([[1, 0, 1], [1, 2, 1]]) []) = [[1, 0, 1, 0, 1], [1, 2, 1, 2, 2]] by decide] at hP9
 have hn9 := hP9.len
 change _ = 2 at hn9
 refine zzf (zza 13 (zI 0) (zza 14 (zB true) (zza 15 (zB true) (zza 16 (.v z22.v) ?_ (hw := w1 2 true 15)))))
 refine zza 17 (zI z22.n) ?_ (hw := w1 2 true 15)
 refine zza 18 (zB ((z22.n : Int) == 2)) ?_ (hw := w1 2 true 15)
 refine zza 19 (zB ((z22.n : Int) == 2)) (zyq 20 (x := zB ((z22.n : Int) == 2)) (zB true) (by rw [show ((z22.n : Int) == 2) = true from yw]) (zza 21 (.v z22.v) ?_ (hw := w1 7 true 20)))
 have hl27 := (hP9).len
 obtain ⟨b27, o27, hA27, hc27⟩ := ir_at5 hP9 (i := 0) xq
 refine zya 22 (o27 + 0 * 5) (n := z22.n) (off := o27) (sz := 5) (i := 0) xq hA27 xq xq sl25 ?_ (hw := w1 7 true 20)
 refine zym 23 [.int .i64 (gi ([[1, 0, 1, 0, 1], [1, 2, 1, 2, 2]]) 0 0), .int .i64 (gi ([[1, 0, 1, 0, 1], [1, 2, 1, 2, 2]]) 0 1), .int .i64 (gi ([[1, 0, 1, 0, 1], [1, 2, 1, 2, 2]]) 0 2), .int .i64 (gi ([[1, 0, 1, 0, 1], [1, 2, 1, 2, 2]]) 0 3), .int .i64 (gi ([[1, 0, 1, 0, 1], [1, 2, 1, 2, 2]]) 0 4)] hc27 ty32 ?_ (hw := w1 7 true 20)
 refine zza 24 (.v (.agg #[.int .i64 1, .int .i64 0, .int .i64 1])) ?_ (hw := w1 7 true 20)
 refine zza 25 (.v (.agg #[.int .i64 0, .int .i64 1])) ?_ (hw := w1 7 true 20)
 refine zza 26 (.v (.agg #[.int .i64 1, .int .i64 0, .int .i64 1, .int .i64 0, .int .i64 1])) ?_ (hw := w1 7 true 20)
 refine zza 27 (zB true) ?_ (hw := w1 7 true 20)
 refine zza 28 (zB true) (zza 29 (zB true) (zza 30 (.v z22.v) ?_ (hw := w1 16 true 29)))
 have hl28 := (hP9).len
 obtain ⟨b28, o28, hA28, hc28⟩ := ir_at5 hP9 (i := 1) xq
 refine zya 31 (o28 + 1 * 5) (n := z22.n) (off := o28) (sz := 5) (i := 1) xq hA28 xq xq sl25 ?_ (hw := w1 16 true 29)
 refine zym 32 [.int .i64 (gi ([[1, 0, 1, 0, 1], [1, 2, 1, 2, 2]]) 1 0), .int .i64 (gi ([[1, 0, 1, 0, 1], [1, 2, 1, 2, 2]]) 1 1), .int .i64 (gi ([[1, 0, 1, 0, 1], [1, 2, 1, 2, 2]]) 1 2), .int .i64 (gi ([[1, 0, 1, 0, 1], [1, 2, 1, 2, 2]]) 1 3), .int .i64 (gi ([[1, 0, 1, 0, 1], [1, 2, 1, 2, 2]]) 1 4)] hc28 ty32 ?_ (hw := w1 16 true 29)
 refine zza 33 (.v (.agg #[.int .i64 1, .int .i64 2, .int .i64 1])) ?_ (hw := w1 16 true 29)
 refine zza 34 (.v (.agg #[.int .i64 2, .int .i64 2])) ?_ (hw := w1 16 true 29)
 refine zza 35 (.v (.agg #[.int .i64 1, .int .i64 2, .int .i64 1, .int .i64 2, .int .i64 2])) ?_ (hw := w1 16 true 29)
 refine zza 36 (zB true) ?_ (hw := w1 16 true 29)
 refine zza 37 (zB true) (zza 0 (zB true) (zzc 38 [(0, zB true)] [] (zzo (ret0 [.bool true] ⟨zzq, trivial⟩ fun u29 e30 => ?_))))
 rfl
theorem Nt.fit7 {a b c d e f g : Bool} (h0 : a = true) (h1 : b = true) (h2 : c = true) (h3 : d = true) (h4 : e = true) (h5 : f = true) (h6 : g = true) : (a && b && c && (d && e) && (f && g)) = true := by rw [h0, h1, h2, h3, h4, h5, h6]; rfl
theorem Nt.secFit_no {W : WL} {p : List Int} (h : fitB W (p.getD 0 0) = false ∨ fitB W (p.getD 1 0) = false ∨ fitB W (p.getD 2 0) = false ∨ fitB W (p.getD 3 0) = false ∨ fitB W (-p.getD 3 0) = false ∨ fitB W (p.getD 4 0) = false ∨ fitB W (-p.getD 4 0) = false) : secFit W p = false := by
 unfold secFit
 rcases h with h | h | h | h | h | h | h <;> rw [h] <;> simp
set_option maxHeartbeats 4000000 in
theorem k_csWrong {u w : World} {x : Sl} {L : List (List Int)} {W : WL} (d : Dat u w) (hx : IrV 5 u x L) (hb : ∀ p ∈ L, ∀ z ∈ p, -9223372036854775808 ≤ z ∧ z ≤ 9223372036854775807) : Calls Tryz.prog 45 #[x.v, W.v] w (Post u w fun v _ => v = .int .i64 (Nt.csE W L)) := by
 have hlx := hx.len
 refine zzm (args := [.slice x.a x.n x.c, .agg #[.int .i64 W.b, .int .i64 W.f, .int .i64 W.r, .int .i64 W.o]]) Tryz.func45 rfl Tryz.ntmps45 (rs := [.tmp 4]) Tryz.results45 (le_b rfl) (le_b rfl) d ?_
 refine sq9 (zzk 3 ⟨34, W.cs⟩ (zza 4 (zI 0) (zzb (zzd (sq9 (zzi 11 (.v (W.v)) ty34 zze (zzg 12 54 [W.v] ?_)))))))
 intro w11 u11 e11 d11
 have k14 := k_fxValidG (W := W) d11
 with_reducible refine zPm k14 ?_
 rintro _ u12 g13 rfl
 refine zza 13 (zB (!(decide (WdOK W)))) (zzb (zzu (b := !(decide (WdOK W))) xj (fun hb15 => ?_) (fun hb15 => ?_)))
 ·replace hb15 : (!(decide (WdOK W))) = true := hb15
  have nhW : ¬ WdOK W := by simpa using hb15
  refine sq9 (zza 4 (zI 2) (zzb (zzo (zzw (ret0 [.int .i64 2] ⟨zzq, trivial⟩ fun u16 e17 => ?_)))))
  show Value.int _ _ = Value.int _ _
  rw [Nt.csE_2 nhW]
 ·replace hb15 : (!(decide (WdOK W))) = false := hb15
  have hW : WdOK W := by simpa using hb15
  refine zzs (zzp ?_)
  refine zzd (sq9 (zza 14 (.v x.v) (zza 15 (zI x.n) (zza 16 (zB (decide ((x.n : Int) < 1))) ?_))))
  rcases Bool.eq_false_or_eq_true (decide ((x.n : Int) < 1)) with hs18 | hs18
  ·refine zyq 17 (x := zB (decide ((x.n : Int) < 1))) (zB true) (by rw [hs18]) ?_
   have qhs18 := of_decide_eq_true hs18
   refine zzn 18 (uw 3 false true 17) (zzn 19 (uw 3 false true 17) (zzn 20 (uw 3 false true 17) (zza 21 (zB true) (zzb (zyr xj (sq9 (zza 4 (zI 1) (zzb (zzo (zzw (ret0 [.int .i64 1] ⟨zzq, trivial⟩ fun u19 e20 => ?_)))))))))))
   show Value.int _ _ = Value.int _ _
   rw [Nt.csE_1 hW xq]
  ·refine zyq 17 (x := zB (decide ((x.n : Int) < 1))) (zB false) (by rw [hs18]) ?_
   have qhs18 := of_decide_eq_false hs18
   refine zza 18 (.v x.v) ?_ (hw := w1 3 false 17)
   refine zza 19 (zI x.n) ?_ (hw := w1 3 false 17)
   refine zza 20 (zB (decide ((8 : Int) < (x.n : Int)))) ?_ (hw := w1 3 false 17)
   refine zza 21 (zB (decide ((8 : Int) < (x.n : Int)))) (zzb (zzu (b := decide ((8 : Int) < (x.n : Int))) xj (fun hb21 => ?_) (fun hb21 => ?_)))
   ·replace hb21 : (decide ((8 : Int) < (x.n : Int))) = true := hb21
    have qhb21 := of_decide_eq_true hb21
    refine sq9 (zza 4 (zI 1) (zzb (zzo (zzw (ret0 [.int .i64 1] ⟨zzq, trivial⟩ fun u22 e23 => ?_)))))
    show Value.int _ _ = Value.int _ _
    rw [Nt.csE_1 hW xq]
   ·replace hb21 : (decide ((8 : Int) < (x.n : Int))) = false := hb21
    have qhb21 := of_decide_eq_false hb21
    refine zzs (zzp ?_)
    refine zzd (sq9 (zza 22 (.v x.v) (zza 23 (zI x.n) (zza 24 (zI 0) (zzb (zzt (zyn (I := fun m24 S' u' => ∃ (i : Nat), (m24 = x.n - i) ∧ (i ≤ x.n) ∧ (∀ j, j < i → Nt.secFit W (L.getD j []) = true) ∧ (S' = St.of 56 [(3, .adr 3 0), (22, .v (.slice x.a x.n x.c)), (23, zI x.n), (24, zI i)] [(3, ⟨34, [.int .i64 W.b, .int .i64 W.f, .int .i64 W.r, .int .i64 W.o]⟩)]) ∧ (Ext u12 u')) (fun m S u1 u2 e h => by obtain ⟨i, hm, p0, p1, hS, hE⟩ := h; exact ⟨i, hm, p0, p1, hS, hE.trans e⟩) _ yj ⟨0, rfl, Nat.zero_le _, (fun j hj => absurd hj (Nat.not_lt_zero j)), rfl, (Ext.refl _)⟩ ?_)))))))
    rintro m24 _ u24 ⟨i, hm24, hi, hs, rfl, e24⟩
    refine sq9 (zza 25 (zB (decide ((i : Int) < (x.n : Int)))) (zzb (zzd (zzu (b := decide ((i : Int) < (x.n : Int))) xj (fun hb25 => ?_) (fun hb25 => ?_)))))
    ·replace hb25 : (decide ((i : Int) < (x.n : Int))) = true := hb25
     have qhb25 := of_decide_eq_true hb25
     refine zzs (zzp ?_)
     refine zzd (zzt (sq9 ?_))
     have hl26 := ((hx.ext (e11.trans (g13.ext.trans e24)))).len
     obtain ⟨b26, o26, hA26, hc26⟩ := ir_at5 (hx.ext (e11.trans (g13.ext.trans e24))) (i := i) xq
     refine zya 26 (o26 + i * 5) (n := x.n) (off := o26) (sz := 5) (i := (i : Int)) xq hA26 xq xq sl25 (zym 27 [.int .i64 (gi L i 0), .int .i64 (gi L i 1), .int .i64 (gi L i 2), .int .i64 (gi L i 3), .int .i64 (gi L i 4)] hc26 ty32 (zzk 6 ⟨32, [.int .i64 0, .int .i64 0, .int .i64 0, .int .i64 0, .int .i64 0]⟩ (zzj ⟨32, [.int .i64 (gi L i 0), .int .i64 (gi L i 1), .int .i64 (gi L i 2), .int .i64 (gi L i 3), .int .i64 (gi L i 4)]⟩ ty32 ?_)))
     refine zzb (zzd (sq9 (zza 28 (.adr 6 0) (zzi 29 (.v (.agg #[.int .i64 (gi L i 0), .int .i64 (gi L i 1), .int .i64 (gi L i 2)])) ty29 zze (zza 30 (zI 0) (zzb (zzt (sw_rounds 3 ?_))))))))
     refine sq9 (zza 31 (zB true) (zzb (zzd (zyr xj (zzs (zzp ?_))))))
     refine zzd (zzt (sq9 (zza 32 (zI (gi L i 0)) (zza 8 (zI (gi L i 0)) (zzb (sq9 (zzi 33 (.v (W.v)) ty34 zze (zza 34 (zI (gi L i 0)) (zzg 35 86 [W.v, .int .i64 (gi L i 0)] ?_)))))))))
     intro w27 u27 e27 d27
     have k30 := k_fxFitsG (W := W) (z := gi L i 0) d27 hW
     with_reducible refine zPm k30 ?_
     rintro _ u28 g29 rfl
     refine zza 36 (zB (!(Nt.fitB W (gi L i 0)))) (zzc 56 [(3, .adr 3 0), (6, .adr 6 0), (22, .v x.v), (23, zI x.n), (24, zI i), (29, .v (.agg #[.int .i64 (gi L i 0), .int .i64 (gi L i 1), .int .i64 (gi L i 2)])), (30, zI 0), (36, zB (!(Nt.fitB W (gi L i 0))))] [(3, ⟨34, W.cs⟩), (6, ⟨32, [.int .i64 (gi L i 0), .int .i64 (gi L i 1), .int .i64 (gi L i 2), .int .i64 (gi L i 3), .int .i64 (gi L i 4)]⟩)] (zzu (b := !(Nt.fitB W (gi L i 0))) xj (fun hb31 => ?_) (fun hb31 => ?_)))
     ·replace hb31 : (!(Nt.fitB W (gi L i 0))) = true := hb31
      have qhb31 := hb31
      simp at qhb31
      refine sq9 (zza 4 (zI 17) (zzb (zzo (zyu (zzw (mpr_rn (zyu (zzw (zyu (zzw (zyt (zyu (zzw (ret0 [.int .i64 17] ⟨zzq, trivial⟩ fun u32 e33 => ?_))))))))))))))
      show Value.int _ _ = Value.int _ _
      rw [Nt.csE_17 hW xq xq (i := i) xq (Nt.secFit_no (.inl qhb31))]
     ·replace hb31 : (!(Nt.fitB W (gi L i 0))) = false := hb31
      have qhb31 := hb31
      simp at qhb31
      have rhb31 := Nt.fit_iff.1 qhb31
      have hp9 := Nt.p2i_24 (n := W.b - 1) (by have h9 := hW; unfold WdOK at h9; omega)
      refine zzs (zzp ?_)
      refine zzf (zza 37 (zI 1) (zza 30 (zI 1) (zzx ?_)))
      refine rn_next ?_
      refine sw_weak (T := St.of 56 [(3, .adr 3 0), (6, .adr 6 0), (22, .v (.slice x.a x.n x.c)), (23, zI x.n), (24, zI i), (29, .v (.agg #[.int .i64 (gi L i 0), .int .i64 (gi L i 1), .int .i64 (gi L i 2)])), (30, zI 1)] [(3, ⟨34, [.int .i64 W.b, .int .i64 W.f, .int .i64 W.r, .int .i64 W.o]⟩), (6, ⟨32, [.int .i64 (gi L i 0), .int .i64 (gi L i 1), .int .i64 (gi L i 2), .int .i64 (gi L i 3), .int .i64 (gi L i 4)]⟩)]) yj ?_
      refine sq9 (zza 31 (zB true) (zzb (zzd (zyr xj (zzs (zzp ?_))))))
      refine zzd (zzt (sq9 (zza 32 (zI (gi L i 1)) (zza 8 (zI (gi L i 1)) (zzb (sq9 (zzi 33 (.v (W.v)) ty34 zze (zza 34 (zI (gi L i 1)) (zzg 35 86 [W.v, .int .i64 (gi L i 1)] ?_)))))))))
      intro w34 u34 e34 d34
      have k37 := k_fxFitsG (W := W) (z := gi L i 1) d34 hW
      with_reducible refine zPm k37 ?_
      rintro _ u35 g36 rfl
      refine zza 36 (zB (!(Nt.fitB W (gi L i 1)))) (zzb (zzu (b := !(Nt.fitB W (gi L i 1))) xj (fun hb38 => ?_) (fun hb38 => ?_)))
      ·replace hb38 : (!(Nt.fitB W (gi L i 1))) = true := hb38
       have qhb38 := hb38
       simp at qhb38
       refine sq9 (zza 4 (zI 17) (zzb (zzo (zyu (zzw (mpr_rn (zyu (zzw (zyu (zzw (zyt (zyu (zzw (ret0 [.int .i64 17] ⟨zzq, trivial⟩ fun u39 e40 => ?_))))))))))))))
       show Value.int _ _ = Value.int _ _
       rw [Nt.csE_17 hW xq xq (i := i) xq (Nt.secFit_no (.inr (.inl qhb38)))]
      ·replace hb38 : (!(Nt.fitB W (gi L i 1))) = false := hb38
       have qhb38 := hb38
       simp at qhb38
       have rhb38 := Nt.fit_iff.1 qhb38
       have hp9 := Nt.p2i_24 (n := W.b - 1) (by have h9 := hW; unfold WdOK at h9; omega)
       refine zzs (zzp ?_)
       refine zzf (zza 37 (zI 2) (zza 30 (zI 2) (zzx ?_)))
       refine rn_next ?_
       refine sw_weak (T := St.of 56 [(3, .adr 3 0), (6, .adr 6 0), (22, .v (.slice x.a x.n x.c)), (23, zI x.n), (24, zI i), (29, .v (.agg #[.int .i64 (gi L i 0), .int .i64 (gi L i 1), .int .i64 (gi L i 2)])), (30, zI 2)] [(3, ⟨34, [.int .i64 W.b, .int .i64 W.f, .int .i64 W.r, .int .i64 W.o]⟩), (6, ⟨32, [.int .i64 (gi L i 0), .int .i64 (gi L i 1), .int .i64 (gi L i 2), .int .i64 (gi L i 3), .int .i64 (gi L i 4)]⟩)]) yj ?_
       refine sq9 (zza 31 (zB true) (zzb (zzd (zyr xj (zzs (zzp ?_))))))
       refine zzd (zzt (sq9 (zza 32 (zI (gi L i 2)) (zza 8 (zI (gi L i 2)) (zzb (sq9 (zzi 33 (.v (W.v)) ty34 zze (zza 34 (zI (gi L i 2)) (zzg 35 86 [W.v, .int .i64 (gi L i 2)] ?_)))))))))
       intro w41 u41 e41 d41
       have k44 := k_fxFitsG (W := W) (z := gi L i 2) d41 hW
       with_reducible refine zPm k44 ?_
       rintro _ u42 g43 rfl
       refine zza 36 (zB (!(Nt.fitB W (gi L i 2)))) (zzb (zzu (b := !(Nt.fitB W (gi L i 2))) xj (fun hb45 => ?_) (fun hb45 => ?_)))
       ·replace hb45 : (!(Nt.fitB W (gi L i 2))) = true := hb45
        have qhb45 := hb45
        simp at qhb45
        refine sq9 (zza 4 (zI 17) (zzb (zzo (zyu (zzw (mpr_rn (zyu (zzw (zyu (zzw (zyt (zyu (zzw (ret0 [.int .i64 17] ⟨zzq, trivial⟩ fun u46 e47 => ?_))))))))))))))
        show Value.int _ _ = Value.int _ _
        rw [Nt.csE_17 hW xq xq (i := i) xq (Nt.secFit_no (.inr (.inr (.inl qhb45))))]
       ·replace hb45 : (!(Nt.fitB W (gi L i 2))) = false := hb45
        have qhb45 := hb45
        simp at qhb45
        have rhb45 := Nt.fit_iff.1 qhb45
        have hp9 := Nt.p2i_24 (n := W.b - 1) (by have h9 := hW; unfold WdOK at h9; omega)
        refine zzs (zzp ?_)
        refine zzf (zza 37 (zI 3) (zza 30 (zI 3) (zzx ?_)))
        refine rn_next ?_
        refine sw_weak (T := St.of 56 [(3, .adr 3 0), (6, .adr 6 0), (22, .v (.slice x.a x.n x.c)), (23, zI x.n), (24, zI i), (29, .v (.agg #[.int .i64 (gi L i 0), .int .i64 (gi L i 1), .int .i64 (gi L i 2)])), (30, zI 3)] [(3, ⟨34, [.int .i64 W.b, .int .i64 W.f, .int .i64 W.r, .int .i64 W.o]⟩), (6, ⟨32, [.int .i64 (gi L i 0), .int .i64 (gi L i 1), .int .i64 (gi L i 2), .int .i64 (gi L i 3), .int .i64 (gi L i 4)]⟩)]) yj ?_
        refine sq9 (zza 31 (zB false) (zzb (zzd (zys xj (zyc (zzp (sq9 (zza 38 (.adr 6 3) (zzi 39 (.v (.agg #[.int .i64 (gi L i 3), .int .i64 (gi L i 4)])) ty30 zze (zza 40 (zI 0) (zzb ?_)))))))))))
        refine zzt (sw_rounds 2 ?_)
        refine sq9 (zza 41 (zB true) (zzb (zzd (zyr xj (zzs (zzp ?_))))))
        refine zzd (zzt (sq9 (zza 42 (zI (gi L i 3)) (zza 10 (zI (gi L i 3)) (zzb (sq9 (zzi 43 (.v (W.v)) ty34 zze (zza 44 (zI (gi L i 3)) (zzg 45 86 [W.v, .int .i64 (gi L i 3)] ?_)))))))))
        intro w48 u48 e48 d48
        have k51 := k_fxFitsG (W := W) (z := gi L i 3) d48 hW
        with_reducible refine zPm k51 ?_
        rintro _ u49 g50 rfl
        refine zza 46 (zB (!(Nt.fitB W (gi L i 3)))) ?_
        rcases Bool.eq_false_or_eq_true (!(Nt.fitB W (gi L i 3))) with hs52 | hs52
        ·refine zyq 47 (x := zB (!(Nt.fitB W (gi L i 3)))) (zB true) (by rw [hs52]) ?_
         have qhs52 := hs52
         simp at qhs52
         refine zzn 48 (uw 4 false true 47) (zzn 49 (uw 4 false true 47) (zzn 50 (uw 4 false true 47) (zzn 51 (uw 4 false true 47) (zzn 52 (uw 4 false true 47) (zza 53 (zB true) (zzc 56 [(3, .adr 3 0), (22, .v x.v), (23, zI x.n), (24, zI i), (39, .v (.agg #[.int .i64 (gi L i 3), .int .i64 (gi L i 4)])), (40, zI 0), (53, zB true)] [(3, ⟨34, W.cs⟩)] (zyr xj (sq9 (zza 4 (zI 17) (zzb (zzo (zyu (zzw (mpr_rn (zyu (zyu (zzw (zyt (zyu (zzw (ret0 [.int .i64 17] ⟨zzq, trivial⟩ fun u53 e54 => ?_)))))))))))))))))))))
         show Value.int _ _ = Value.int _ _
         rw [Nt.csE_17 hW xq xq (i := i) xq (Nt.secFit_no (.inr (.inr (.inr (.inl qhs52)))))]
        ·refine zyq 47 (x := zB (!(Nt.fitB W (gi L i 3)))) (zB false) (by rw [hs52]) ?_
         have qhs52 := hs52
         simp at qhs52
         have rhs52 := Nt.fit_iff.1 qhs52
         have hp9 := Nt.p2i_24 (n := W.b - 1) (by have h9 := hW; unfold WdOK at h9; omega)
         refine zzi 48 (.v (W.v)) ty34 zze ?_ (hw := w1 4 false 47)
         refine zza 49 (zI (gi L i 3)) ?_ (hw := w1 4 false 47)
         refine zyq 50 (x := zI (IntKind.i64.wrap (0 - (gi L i 3)))) (zI (-(gi L i 3))) (eqI xw) ?_ (hw := w1 4 false 47)
         refine zzg 51 86 [W.v, .int .i64 (-(gi L i 3))] ?_ (hw := w1 4 false 47)
         intro w55 u55 e55 d55
         have k58 := k_fxFitsG (W := W) (z := -(gi L i 3)) d55 hW
         with_reducible refine zPm k58 ?_
         rintro _ u56 g57 rfl
         refine zza 52 (zB (!(Nt.fitB W (-(gi L i 3))))) ?_ (hw := w1 4 false 47)
         refine zza 53 (zB (!(Nt.fitB W (-(gi L i 3))))) (zzc 56 [(3, .adr 3 0), (22, .v x.v), (23, zI x.n), (24, zI i), (39, .v (.agg #[.int .i64 (gi L i 3), .int .i64 (gi L i 4)])), (40, zI 0), (53, zB (!(Nt.fitB W (-(gi L i 3)))))] [(3, ⟨34, W.cs⟩)] (zzu (b := !(Nt.fitB W (-(gi L i 3)))) xj (fun hb59 => ?_) (fun hb59 => ?_)))
         ·replace hb59 : (!(Nt.fitB W (-(gi L i 3)))) = true := hb59
          have qhb59 := hb59
          simp at qhb59
          refine sq9 (zza 4 (zI 17) (zzb (zzo (zyu (zzw (mpr_rn (zyu (zyu (zzw (zyt (zyu (zzw (ret0 [.int .i64 17] ⟨zzq, trivial⟩ fun u60 e61 => ?_)))))))))))))
          show Value.int _ _ = Value.int _ _
          rw [Nt.csE_17 hW xq xq (i := i) xq (Nt.secFit_no (.inr (.inr (.inr (.inr (.inl qhb59))))))]
         ·replace hb59 : (!(Nt.fitB W (-(gi L i 3)))) = false := hb59
          have qhb59 := hb59
          simp at qhb59
          have rhb59 := Nt.fit_iff.1 qhb59
          have hp9 := Nt.p2i_24 (n := W.b - 1) (by have h9 := hW; unfold WdOK at h9; omega)
          refine zzs (zzp ?_)
          refine zzf (zza 54 (zI 1) (zza 40 (zI 1) (zzx ?_)))
          refine rn_next ?_
          refine sw_weak (T := St.of 56 [(3, .adr 3 0), (22, .v (.slice x.a x.n x.c)), (23, zI x.n), (24, zI i), (39, .v (.agg #[.int .i64 (gi L i 3), .int .i64 (gi L i 4)])), (40, zI 1)] [(3, ⟨34, [.int .i64 W.b, .int .i64 W.f, .int .i64 W.r, .int .i64 W.o]⟩)]) yj ?_
          refine sq9 (zza 41 (zB true) (zzb (zzd (zyr xj (zzs (zzp ?_))))))
          refine zzd (zzt (sq9 (zza 42 (zI (gi L i 4)) (zza 10 (zI (gi L i 4)) (zzb (sq9 (zzi 43 (.v (W.v)) ty34 zze (zza 44 (zI (gi L i 4)) (zzg 45 86 [W.v, .int .i64 (gi L i 4)] ?_)))))))))
          intro w62 u62 e62 d62
          have k65 := k_fxFitsG (W := W) (z := gi L i 4) d62 hW
          with_reducible refine zPm k65 ?_
          rintro _ u63 g64 rfl
          refine zza 46 (zB (!(Nt.fitB W (gi L i 4)))) ?_
          rcases Bool.eq_false_or_eq_true (!(Nt.fitB W (gi L i 4))) with hs66 | hs66
          ·refine zyq 47 (x := zB (!(Nt.fitB W (gi L i 4)))) (zB true) (by rw [hs66]) ?_
           have qhs66 := hs66
           simp at qhs66
           refine zzn 48 (uw 4 false true 47) (zzn 49 (uw 4 false true 47) (zzn 50 (uw 4 false true 47) (zzn 51 (uw 4 false true 47) (zzn 52 (uw 4 false true 47) (zza 53 (zB true) (zzb (zyr xj (sq9 (zza 4 (zI 17) (zzb (zzo (zyu (zzw (mpr_rn (zyu (zyu (zzw (zyt (zyu (zzw (ret0 [.int .i64 17] ⟨zzq, trivial⟩ fun u67 e68 => ?_)))))))))))))))))))))
           show Value.int _ _ = Value.int _ _
           rw [Nt.csE_17 hW xq xq (i := i) xq (Nt.secFit_no (.inr (.inr (.inr (.inr (.inr (.inl qhs66)))))))]
          ·refine zyq 47 (x := zB (!(Nt.fitB W (gi L i 4)))) (zB false) (by rw [hs66]) ?_
           have qhs66 := hs66
           simp at qhs66
           have rhs66 := Nt.fit_iff.1 qhs66
           have hp9 := Nt.p2i_24 (n := W.b - 1) (by have h9 := hW; unfold WdOK at h9; omega)
           refine zzi 48 (.v (W.v)) ty34 zze ?_ (hw := w1 4 false 47)
           refine zza 49 (zI (gi L i 4)) ?_ (hw := w1 4 false 47)
           refine zyq 50 (x := zI (IntKind.i64.wrap (0 - (gi L i 4)))) (zI (-(gi L i 4))) (eqI xw) ?_ (hw := w1 4 false 47)
           refine zzg 51 86 [W.v, .int .i64 (-(gi L i 4))] ?_ (hw := w1 4 false 47)
           intro w69 u69 e69 d69
           have k72 := k_fxFitsG (W := W) (z := -(gi L i 4)) d69 hW
           with_reducible refine zPm k72 ?_
           rintro _ u70 g71 rfl
           refine zza 52 (zB (!(Nt.fitB W (-(gi L i 4))))) ?_ (hw := w1 4 false 47)
           refine zza 53 (zB (!(Nt.fitB W (-(gi L i 4))))) (zzb (zzu (b := !(Nt.fitB W (-(gi L i 4)))) xj (fun hb73 => ?_) (fun hb73 => ?_)))
           ·replace hb73 : (!(Nt.fitB W (-(gi L i 4)))) = true := hb73
            have qhb73 := hb73
            simp at qhb73
            refine sq9 (zza 4 (zI 17) (zzb (zzo (zyu (zzw (mpr_rn (zyu (zyu (zzw (zyt (zyu (zzw (ret0 [.int .i64 17] ⟨zzq, trivial⟩ fun u74 e75 => ?_)))))))))))))
            show Value.int _ _ = Value.int _ _
            rw [Nt.csE_17 hW xq xq (i := i) xq (Nt.secFit_no (.inr (.inr (.inr (.inr (.inr (.inr (qhb73))))))))]
           ·replace hb73 : (!(Nt.fitB W (-(gi L i 4)))) = false := hb73
            have qhb73 := hb73
            simp at qhb73
            have rhb73 := Nt.fit_iff.1 qhb73
            have hp9 := Nt.p2i_24 (n := W.b - 1) (by have h9 := hW; unfold WdOK at h9; omega)
            refine zzs (zzp ?_)
            refine zzf (zza 54 (zI 2) (zza 40 (zI 2) (zzx ?_)))
            refine rn_next ?_
            refine sw_weak (T := St.of 56 [(3, .adr 3 0), (22, .v (.slice x.a x.n x.c)), (23, zI x.n), (24, zI i), (39, .v (.agg #[.int .i64 (gi L i 3), .int .i64 (gi L i 4)])), (40, zI 2)] [(3, ⟨34, [.int .i64 W.b, .int .i64 W.f, .int .i64 W.r, .int .i64 W.o]⟩)]) yj ?_
            refine sq9 (zza 41 (zB false) (zzb (zzd (zys xj (zyc (zzp (zzf (zyq 55 (x := zI (IntKind.i64.wrap ((i : Int) + 1))) (zI (i + 1 : Nat)) (eqI xw) (zza 24 (zI (i + 1 : Nat)) (zzx ?_))))))))))
            refine ⟨_, ?_, _, by exact zzv _ _ _, i + 1, rfl, by omega, (fun j hj => by by_cases e : j = i; (rw [e]; unfold Nt.secFit; exact Nt.fit7 qhb31 qhb38 qhb45 qhs52 qhb59 qhs66 qhb73); exact hs j xq), rfl, (e24.trans (e27.trans (g29.ext.trans (e34.trans (g36.ext.trans (e41.trans (g43.ext.trans (e48.trans (g50.ext.trans (e55.trans (g57.ext.trans (e62.trans (g64.ext.trans (e69.trans g71.ext))))))))))))))⟩
            omega
    ·replace hb25 : (decide ((i : Int) < (x.n : Int))) = false := hb25
     have qhb25 := of_decide_eq_false hb25
     refine zyc (zzp (sq9 (zza 4 (zI 0) (zzb (zzo (ret0 [.int .i64 0] ⟨zzq, trivial⟩ fun u76 e77 => ?_))))))
     show Value.int _ _ = Value.int _ _
     rw [Nt.csE_0 hW xq xq (fun i hi => hs i xq)]
namespace Nt
theorem wq_wh {z f : Int} {b : Nat} (hz : z.natAbs ≤ 2 ^ b) : Wh (wq z f * ((((p2i f).toNat : Nat) : Int) : Rat)) b := by
 have hp := zxp f
 rw [Int.toNat_of_nonneg (Int.le_of_lt hp)]
 refine ⟨z, ?_, hz⟩
 unfold wq
 exact Rat.div_mul_cancel (fun e => by have : p2i f = 0 := Rat.intCast_inj.1 e; omega)
def csN (f : Int) (p : List Int) : List Rat := [wq (p.getD 0 0) f, wq (p.getD 1 0) f, wq (p.getD 2 0) f]
def csD (f : Int) (p : List Int) : List Rat := [1, wq (p.getD 3 0) f, wq (p.getD 4 0) f]
def csP (g : List Int → List Rat) (L : List (List Int)) : Nat → List Rat
 | 0 => [1]
 | k + 1 => trimQ (mulQ (csP g L k) (g (L.getD k [])))
theorem csN_sm {f : Int} {p : List Int} (h : ∀ j, j < 5 → (p.getD j 0).natAbs ≤ 2 ^ 24) : Sm (csN f p) (p2i f).toNat 24 := by
 have hp := zxp f
 refine Sm.ofAll xq (fun x hx => ?_)
 rcases List.mem_cons.1 hx with rfl | hx
 ·exact wq_wh (h 0 yq)
 rcases List.mem_cons.1 hx with rfl | hx
 ·exact wq_wh (h 1 yq)
 rw [List.mem_singleton.1 hx]
 exact wq_wh (h 2 yq)
theorem csD_sm {f : Int} {p : List Int} (hf : p2i f ≤ 16777216) (h : ∀ j, j < 5 → (p.getD j 0).natAbs ≤ 2 ^ 24) : Sm (csD f p) (p2i f).toNat 24 := by
 have hp := zxp f
 refine Sm.ofAll xq (fun x hx => ?_)
 rcases List.mem_cons.1 hx with rfl | hx
 ·exact ⟨((p2i f).toNat : Int), by rw [Rat.one_mul], by omega⟩
 rcases List.mem_cons.1 hx with rfl | hx
 ·exact wq_wh (h 3 yq)
 rw [List.mem_singleton.1 hx]
 exact wq_wh (h 4 yq)
section
variable {g : List Int → List Rat} {L : List (List Int)} {k P K : Nat}
theorem csP_len (hg : ∀ p, (g p).length = 3) : (csP g L k).length ≤ 2 * k + 1 := by
 induction k with
 | zero => exact Nat.le_refl _
 | succ k ih => exact Nat.le_trans (zxu ih (Nat.le_of_eq (hg _))) xq
theorem csP_sm (hP : 0 < P) (hg : ∀ p, (g p).length = 3) (hs : ∀ i, i < k → Sm (g (L.getD i [])) P 24) : Sm (csP g L k) (P ^ k) (27 * k) := by
 induction k with
 | zero => exact Sm.ofAll (Nat.lt_of_lt_of_le (by decide : 0 < 1) (Nat.le_of_eq (Nat.pow_zero P).symm)) (fun x hx => by rw [List.mem_singleton.1 hx]; exact ⟨1, by simp, by decide⟩)
 | succ k ih =>
  have h1 := (Sm.mulR (ih (fun i hi => hs i xq)) (hs k xq)).trim
  rw [hg] at h1
  rw [Nat.pow_succ]
  exact h1.more xq
end
end Nt
theorem csP_fit {u : World} {x : Sl} {g : List Int → List Rat} {L : List (List Int)} {k P K : Nat} (h : PolN u x (Nt.csP g L k) K) (hP : 0 < P) (hP2 : P ≤ 2 ^ 24) (hk : k ≤ 8) (hg : ∀ p, (g p).length = 3) (hs : ∀ i, i < k → Nt.Sm (g (L.getD i [])) P 24) : PolN u x (Nt.csP g L k) 7 := by
 refine (PolN.fitS h (Nt.csP_sm hP hg hs) ?_).more ?_
 ·refine Nat.le_trans (Nat.pow_le_pow_left hP2 k) ?_
  rw [← Nat.pow_mul]
  exact Nat.pow_le_pow_right yq xq
 ·exact Nat.le_trans (Nt.dg_mono (show 27 * k ≤ 216 by omega)) yq
set_option maxHeartbeats 4000000 in
theorem k_csIdeal {u w : World} {x : Sl} {L : List (List Int)} {W : WL} (d : Dat u w) (hE : Nt.csE W L = 0) (hx : IrV 5 u x L) (hb : ∀ p ∈ L, ∀ z ∈ p, -9223372036854775808 ≤ z ∧ z ≤ 9223372036854775807) : Calls Tryz.prog 13 #[x.v, W.v] w (Post u w fun v u' => ∃ y z : Sl, v = .tuple #[.agg #[y.v, z.v], .int .i64 0] ∧ PolN u' y (Nt.csP (Nt.csN W.f) L L.length) 7 ∧ PolN u' z (Nt.csP (Nt.csD W.f) L L.length) 7) := by
 obtain ⟨hW, h1, h8, hall⟩ := Nt.csE_ok hE
 have hlx := hx.len
 obtain ⟨hw1, hw2, hw3, hw4, hw5, hw6, hw7, hw8⟩ := id hW
 have hp24 := Nt.p2i_24 (n := W.b - 1) xq
 have hpf := Nt.p2i_24 (n := W.f) xq
 have hpp := Nt.zxp W.f
 have hbd5 : ∀ i, i < L.length → ∀ j, j < 5 → ((L.getD i []).getD j 0).natAbs ≤ 2 ^ 24 := fun i hi j hj => by have h9 := Nt.secFit_ok (hall i hi) j hj; unfold gi at h9; omega
 refine zzm (args := [.slice x.a x.n x.c, .agg #[.int .i64 W.b, .int .i64 W.f, .int .i64 W.r, .int .i64 W.o]]) Tryz.func13 rfl Tryz.ntmps13 (rs := [.cell 4 42, .tmp 5]) Tryz.results13 (le_b rfl) (le_b rfl) d ?_
 refine sq9 (zzk 3 ⟨34, W.cs⟩ (zzk 4 ⟨42, [.slice none 0 0, .slice none 0 0]⟩ (zza 5 (zI 0) (zzb (zzd (sq9 (zza 17 (.v x.v) (zzi 18 (.v (W.v)) ty34 zze (zzg 19 45 [x.v, W.v] ?_)))))))))
 intro w11 u11 e11 d11
 have k14 := (Post.mono (Ψ := fun v _ => v = .int .i64 0) (k_csWrong (W := W) d11 (hx.ext e11) hb) (fun v u9 _ h => by rw [hE] at h; exact h))
 with_reducible refine zPm k14 ?_
 rintro _ u12 g13 rfl
 refine zza 6 (zI 0) (zzb (sq9 (zza 20 (zI 0) (zza 21 (zB false) (zzb (zys xj (zzs (zzp ?_))))))))
 refine sq9 (zzg 24 46 [.int .i64 1] ?_)
 intro w15 u15 e15 d15
 have k20 := k_ratOf d15 (z := 1) xq xq
 with_reducible refine zPm k20 ?_
 rintro _ u18 g19 ⟨r16, rfl, h17⟩
 refine zxy 25 ⟨74, r16.cs⟩ 1 (fun b21 u22 e23 h24 => ?_)
 have hp25 : PolN u22 (⟨some ⟨b21, 0, none⟩, 1, 1⟩ : Sl) [((1 : Int) : Rat)] 2 := pol_lit (L := [r16]) h24 (rats1 (h17.ext e23)) rfl yq
 refine zzg 26 46 [.int .i64 1] ?_
 intro w26 u26 e26 d26
 have k31 := k_ratOf d26 (z := 1) xq xq
 with_reducible refine zPm k31 ?_
 rintro _ u29 g30 ⟨r27, rfl, h28⟩
 refine zxy 27 ⟨74, r27.cs⟩ 1 (fun b32 u33 e34 h35 => ?_)
 have hp36 : PolN u33 (⟨some ⟨b32, 0, none⟩, 1, 1⟩ : Sl) [((1 : Int) : Rat)] 2 := pol_lit (L := [r27]) h35 (rats1 (h28.ext e34)) rfl yq
 refine zza 7 (.v (.slice (some ⟨b21, 0, none⟩) 1 1)) (zza 8 (.v (.slice (some ⟨b32, 0, none⟩) 1 1)) (zzb (zzd (sq9 (zza 28 (.v x.v) (zza 29 (zI x.n) (zza 30 (zI 0) (zzb (zzt (zyn (I := fun m37 S' u' => ∃ (i : Nat) (a : Sl) (b : Sl), (m37 = x.n - i) ∧ (i ≤ x.n) ∧ (S' = St.of 71 [(3, .adr 3 0), (4, .adr 4 0), (7, .v (.slice a.a a.n a.c)), (8, .v (.slice b.a b.n b.c)), (28, .v (.slice x.a x.n x.c)), (29, zI x.n), (30, zI i)] [(3, ⟨34, [.int .i64 W.b, .int .i64 W.f, .int .i64 W.r, .int .i64 W.o]⟩), (4, ⟨42, [.slice none 0 0, .slice none 0 0]⟩)]) ∧ (Ext u33 u') ∧ (PolN u' a (Nt.csP (Nt.csN W.f) L i) 7) ∧ (PolN u' b (Nt.csP (Nt.csD W.f) L i) 7)) (fun m S u1 u2 e h => by obtain ⟨i, a, b, hm, p0, hS, hE, f0, f1⟩ := h; exact ⟨i, a, b, hm, p0, hS, hE.trans e, f0.ext e, f1.ext e⟩) _ yj ⟨0, (⟨some ⟨b21, 0, none⟩, 1, 1⟩ : Sl), (⟨some ⟨b32, 0, none⟩, 1, 1⟩ : Sl), rfl, Nat.zero_le _, rfl, (Ext.refl _), (show PolN _ _ [1] _ from PolN.more (K := 2) (hp25.ext (e26.trans (g30.ext.trans e34))) xq), (show PolN _ _ [1] _ from PolN.more (K := 2) hp36 xq)⟩ ?_))))))))))
 rintro m37 _ u37 ⟨i, a, b, hm37, hi, rfl, e37, hA, hB⟩
 have hal := hA.len
 have hbl := hB.len
 have hla : ((Nt.csP (Nt.csN W.f) L i)).length ≤ 17 := Nat.le_trans (Nt.csP_len (fun _ => rfl)) xq
 have hlb : ((Nt.csP (Nt.csD W.f) L i)).length ≤ 17 := Nat.le_trans (Nt.csP_len (fun _ => rfl)) xq
 refine sq9 (zza 31 (zB (decide ((i : Int) < (x.n : Int)))) (zzb (zzd (zzu (b := decide ((i : Int) < (x.n : Int))) xj (fun hb38 => ?_) (fun hb38 => ?_)))))
 ·replace hb38 : (decide ((i : Int) < (x.n : Int))) = true := hb38
  have qhb38 := of_decide_eq_true hb38
  refine zzs (zzp ?_)
  refine zzd (zzt (zzd ?_))
  have hbd := Nt.secFit_ok (hall i xq)
  have hbd0 := hbd 0 yq
  have hbd1 := hbd 1 yq
  have hbd2 := hbd 2 yq
  have hbd3 := hbd 3 yq
  have hbd4 := hbd 4 yq
  refine zzf ?_
  have hl39 := ((hx.ext (e11.trans (g13.ext.trans (e15.trans (g19.ext.trans (e23.trans (e26.trans (g30.ext.trans (e34.trans e37)))))))))).len
  obtain ⟨b39, o39, hA39, hc39⟩ := ir_at5 (hx.ext (e11.trans (g13.ext.trans (e15.trans (g19.ext.trans (e23.trans (e26.trans (g30.ext.trans (e34.trans e37))))))))) (i := i) xq
  refine zya 32 (o39 + i * 5) (n := x.n) (off := o39) (sz := 5) (i := (i : Int)) xq hA39 xq xq sl25 (zym 33 [.int .i64 (gi L i 0), .int .i64 (gi L i 1), .int .i64 (gi L i 2), .int .i64 (gi L i 3), .int .i64 (gi L i 4)] hc39 ty32 (zzk 10 ⟨32, [.int .i64 0, .int .i64 0, .int .i64 0, .int .i64 0, .int .i64 0]⟩ (zzj ⟨32, [.int .i64 (gi L i 0), .int .i64 (gi L i 1), .int .i64 (gi L i 2), .int .i64 (gi L i 3), .int .i64 (gi L i 4)]⟩ ty32 ?_)))
  refine zzb (sq9 (zzk 11 ⟨108, [.bool false, .slice none 0 0, .slice none 0 0, .bool false, .slice none 0 0, .slice none 0 0, .bool false, .slice none 0 0, .slice none 0 0]⟩ (zzb (sq9 (zzg 34 46 [.int .i64 1] ?_)))))
  intro w40 u40 e40 d40
  have k45 := k_ratOf d40 (z := 1) xq xq
  with_reducible refine zPm k45 ?_
  rintro _ u43 g44 ⟨r41, rfl, h42⟩
  refine zza 35 (.v (.agg #[.bool r41.s, r41.m.v, r41.d.v, .bool false, .slice none 0 0, .slice none 0 0, .bool false, .slice none 0 0, .slice none 0 0])) (zzk 12 ⟨108, [.bool false, .slice none 0 0, .slice none 0 0, .bool false, .slice none 0 0, .slice none 0 0, .bool false, .slice none 0 0, .slice none 0 0]⟩ (zzj ⟨108, r41.cs ++ [.bool false, .slice none 0 0, .slice none 0 0, .bool false, .slice none 0 0, .slice none 0 0]⟩ ty108 ?_))
  refine zzb (zzd (sq9 (zza 36 (.adr 10 0) (zzi 37 (.v (.agg #[.int .i64 (gi L i 0), .int .i64 (gi L i 1), .int .i64 (gi L i 2)])) ty29 zze (zza 38 (zI 0) (zzc 71 [(3, .adr 3 0), (4, .adr 4 0), (7, .v a.v), (8, .v b.v), (10, .adr 10 0), (11, .adr 11 0), (12, .adr 12 0), (28, .v x.v), (29, zI x.n), (30, zI i), (37, .v (.agg #[.int .i64 (gi L i 0), .int .i64 (gi L i 1), .int .i64 (gi L i 2)])), (38, zI 0)] [(3, ⟨34, W.cs⟩), (4, ⟨42, [.slice none 0 0, .slice none 0 0]⟩), (10, ⟨32, [.int .i64 (gi L i 0), .int .i64 (gi L i 1), .int .i64 (gi L i 2), .int .i64 (gi L i 3), .int .i64 (gi L i 4)]⟩), (11, ⟨108, [.bool false, .slice none 0 0, .slice none 0 0, .bool false, .slice none 0 0, .slice none 0 0, .bool false, .slice none 0 0, .slice none 0 0]⟩), (12, ⟨108, r41.cs ++ [.bool false, .slice none 0 0, .slice none 0 0, .bool false, .slice none 0 0, .slice none 0 0]⟩)] (zzt (sw_rounds 3 ?_))))))))
  refine sq9 (zza 39 (zB true) (zzb (zzd (zyr xj (zzs (zzp ?_))))))
  refine zzd (zzt (sq9 (zza 40 (zI 0) (zza 41 (zI (gi L i 0)) (zza 13 (zI 0) (zza 14 (zI (gi L i 0)) (zzb (zzf (zza 42 (zI 0) (zzi 43 (.v (W.v)) ty34 zze (zza 44 (zI (gi L i 0)) ?_)))))))))))
  refine zzg 45 47 [W.v, .int .i64 (gi L i 0)] ?_
  intro w46 u46 e46 d46
  have k51 := k_fxValue (W := W) (z := gi L i 0) d46 hW xq xq
  with_reducible refine zPm k51 ?_
  rintro _ u49 g50 ⟨r47, rfl, h48⟩
  refine zza 46 (.adr 11 0) (zzj ⟨108, r47.cs ++ [.bool false, .slice none 0 0, .slice none 0 0, .bool false, .slice none 0 0, .slice none 0 0]⟩ ty74 ?_)
  refine zzx ?_
  refine zzp (zzf (zza 47 (zI 1) (zza 38 (zI 1) (zzx ?_))))
  refine rn_next ?_
  refine sw_weak (T := St.of 71 [(3, .adr 3 0), (4, .adr 4 0), (7, .v (.slice a.a a.n a.c)), (8, .v (.slice b.a b.n b.c)), (10, .adr 10 0), (11, .adr 11 0), (12, .adr 12 0), (28, .v (.slice x.a x.n x.c)), (29, zI x.n), (30, zI i), (37, .v (.agg #[.int .i64 (gi L i 0), .int .i64 (gi L i 1), .int .i64 (gi L i 2)])), (38, zI 1)] [(3, ⟨34, [.int .i64 W.b, .int .i64 W.f, .int .i64 W.r, .int .i64 W.o]⟩), (4, ⟨42, [.slice none 0 0, .slice none 0 0]⟩), (10, ⟨32, [.int .i64 (gi L i 0), .int .i64 (gi L i 1), .int .i64 (gi L i 2), .int .i64 (gi L i 3), .int .i64 (gi L i 4)]⟩), (11, ⟨108, r47.cs ++ [.bool false, .slice none 0 0, .slice none 0 0, .bool false, .slice none 0 0, .slice none 0 0]⟩), (12, ⟨108, r41.cs ++ [.bool false, .slice none 0 0, .slice none 0 0, .bool false, .slice none 0 0, .slice none 0 0]⟩)]) yj ?_
  refine sq9 (zza 39 (zB true) (zzb (zzd (zyr xj (zzs (zzp ?_))))))
  refine zzd (zzt (sq9 (zza 40 (zI 1) (zza 41 (zI (gi L i 1)) (zza 13 (zI 1) (zza 14 (zI (gi L i 1)) (zzb (zzf (zza 42 (zI 1) (zzi 43 (.v (W.v)) ty34 zze (zza 44 (zI (gi L i 1)) ?_)))))))))))
  refine zzg 45 47 [W.v, .int .i64 (gi L i 1)] ?_
  intro w52 u52 e52 d52
  have k57 := k_fxValue (W := W) (z := gi L i 1) d52 hW xq xq
  with_reducible refine zPm k57 ?_
  rintro _ u55 g56 ⟨r53, rfl, h54⟩
  refine zza 46 (.adr 11 3) (zzj ⟨108, r47.cs ++ r53.cs ++ [.bool false, .slice none 0 0, .slice none 0 0]⟩ ty74 ?_)
  refine zzx ?_
  refine zzp (zzf (zza 47 (zI 2) (zza 38 (zI 2) (zzx ?_))))
  refine rn_next ?_
  refine sw_weak (T := St.of 71 [(3, .adr 3 0), (4, .adr 4 0), (7, .v (.slice a.a a.n a.c)), (8, .v (.slice b.a b.n b.c)), (10, .adr 10 0), (11, .adr 11 0), (12, .adr 12 0), (28, .v (.slice x.a x.n x.c)), (29, zI x.n), (30, zI i), (37, .v (.agg #[.int .i64 (gi L i 0), .int .i64 (gi L i 1), .int .i64 (gi L i 2)])), (38, zI 2)] [(3, ⟨34, [.int .i64 W.b, .int .i64 W.f, .int .i64 W.r, .int .i64 W.o]⟩), (4, ⟨42, [.slice none 0 0, .slice none 0 0]⟩), (10, ⟨32, [.int .i64 (gi L i 0), .int .i64 (gi L i 1), .int .i64 (gi L i 2), .int .i64 (gi L i 3), .int .i64 (gi L i 4)]⟩), (11, ⟨108, r47.cs ++ r53.cs ++ [.bool false, .slice none 0 0, .slice none 0 0]⟩), (12, ⟨108, r41.cs ++ [.bool false, .slice none 0 0, .slice none 0 0, .bool false, .slice none 0 0, .slice none 0 0]⟩)]) yj ?_
  refine sq9 (zza 39 (zB true) (zzb (zzd (zyr xj (zzs (zzp ?_))))))
  refine zzd (zzt (sq9 (zza 40 (zI 2) (zza 41 (zI (gi L i 2)) (zza 13 (zI 2) (zza 14 (zI (gi L i 2)) (zzb (zzf (zza 42 (zI 2) (zzi 43 (.v (W.v)) ty34 zze (zza 44 (zI (gi L i 2)) ?_)))))))))))
  refine zzg 45 47 [W.v, .int .i64 (gi L i 2)] ?_
  intro w58 u58 e58 d58
  have k63 := k_fxValue (W := W) (z := gi L i 2) d58 hW xq xq
  with_reducible refine zPm k63 ?_
  rintro _ u61 g62 ⟨r59, rfl, h60⟩
  refine zza 46 (.adr 11 6) (zzj ⟨108, r47.cs ++ r53.cs ++ r59.cs⟩ ty74 ?_)
  refine zzx ?_
  refine zzp (zzf (zza 47 (zI 3) (zza 38 (zI 3) (zzx ?_))))
  refine rn_next ?_
  refine sw_weak (T := St.of 71 [(3, .adr 3 0), (4, .adr 4 0), (7, .v (.slice a.a a.n a.c)), (8, .v (.slice b.a b.n b.c)), (10, .adr 10 0), (11, .adr 11 0), (12, .adr 12 0), (28, .v (.slice x.a x.n x.c)), (29, zI x.n), (30, zI i), (37, .v (.agg #[.int .i64 (gi L i 0), .int .i64 (gi L i 1), .int .i64 (gi L i 2)])), (38, zI 3)] [(3, ⟨34, [.int .i64 W.b, .int .i64 W.f, .int .i64 W.r, .int .i64 W.o]⟩), (4, ⟨42, [.slice none 0 0, .slice none 0 0]⟩), (10, ⟨32, [.int .i64 (gi L i 0), .int .i64 (gi L i 1), .int .i64 (gi L i 2), .int .i64 (gi L i 3), .int .i64 (gi L i 4)]⟩), (11, ⟨108, r47.cs ++ r53.cs ++ r59.cs⟩), (12, ⟨108, r41.cs ++ [.bool false, .slice none 0 0, .slice none 0 0, .bool false, .slice none 0 0, .slice none 0 0]⟩)]) yj ?_
  refine sq9 (zza 39 (zB false) (zzb (zzd (zys xj (zyc (zzp (zzd (sq9 (zza 48 (.adr 10 3) (zzi 49 (.v (.agg #[.int .i64 (gi L i 3), .int .i64 (gi L i 4)])) ty30 zze (zza 50 (zI 0) ?_)))))))))))
  refine zzb (zzt (sw_rounds 2 ?_))
  refine sq9 (zza 51 (zB true) (zzb (zzd (zyr xj (zzs (zzp ?_))))))
  refine zzd (zzt (sq9 (zza 52 (zI 0) (zza 53 (zI (gi L i 3)) (zza 15 (zI 0) (zza 16 (zI (gi L i 3)) (zzb (zzf (zza 54 (zI 0) (zza 55 (zI 1) (zzi 56 (.v (W.v)) ty34 zze ?_)))))))))))
  refine zza 57 (zI (gi L i 3)) (zzg 58 47 [W.v, .int .i64 (gi L i 3)] ?_)
  intro w64 u64 e64 d64
  have k69 := k_fxValue (W := W) (z := gi L i 3) d64 hW xq xq
  with_reducible refine zPm k69 ?_
  rintro _ u67 g68 ⟨r65, rfl, h66⟩
  refine zza 59 (.adr 12 3) (zzj ⟨108, r41.cs ++ r65.cs ++ [.bool false, .slice none 0 0, .slice none 0 0]⟩ ty74 ?_)
  refine zzx ?_
  refine zzp (zzf (zza 60 (zI 1) (zza 50 (zI 1) (zzx ?_))))
  refine rn_next ?_
  refine sw_weak (T := St.of 71 [(3, .adr 3 0), (4, .adr 4 0), (7, .v (.slice a.a a.n a.c)), (8, .v (.slice b.a b.n b.c)), (11, .adr 11 0), (12, .adr 12 0), (28, .v (.slice x.a x.n x.c)), (29, zI x.n), (30, zI i), (49, .v (.agg #[.int .i64 (gi L i 3), .int .i64 (gi L i 4)])), (50, zI 1)] [(3, ⟨34, [.int .i64 W.b, .int .i64 W.f, .int .i64 W.r, .int .i64 W.o]⟩), (4, ⟨42, [.slice none 0 0, .slice none 0 0]⟩), (11, ⟨108, r47.cs ++ r53.cs ++ r59.cs⟩), (12, ⟨108, r41.cs ++ r65.cs ++ [.bool false, .slice none 0 0, .slice none 0 0]⟩)]) yj ?_
  refine sq9 (zza 51 (zB true) (zzb (zzd (zyr xj (zzs (zzp ?_))))))
  refine zzd (zzt (sq9 (zza 52 (zI 1) (zza 53 (zI (gi L i 4)) (zza 15 (zI 1) (zza 16 (zI (gi L i 4)) (zzb (zzf (zza 54 (zI 1) (zza 55 (zI 2) (zzi 56 (.v (W.v)) ty34 zze ?_)))))))))))
  refine zza 57 (zI (gi L i 4)) (zzg 58 47 [W.v, .int .i64 (gi L i 4)] ?_)
  intro w70 u70 e70 d70
  have k75 := k_fxValue (W := W) (z := gi L i 4) d70 hW xq xq
  with_reducible refine zPm k75 ?_
  rintro _ u73 g74 ⟨r71, rfl, h72⟩
  refine zza 59 (.adr 12 6) (zzj ⟨108, r41.cs ++ r65.cs ++ r71.cs⟩ ty74 ?_)
  refine zzx ?_
  refine zzp (zzf (zza 60 (zI 2) (zza 50 (zI 2) (zzx ?_))))
  refine rn_next ?_
  refine sw_weak (T := St.of 71 [(3, .adr 3 0), (4, .adr 4 0), (7, .v (.slice a.a a.n a.c)), (8, .v (.slice b.a b.n b.c)), (11, .adr 11 0), (12, .adr 12 0), (28, .v (.slice x.a x.n x.c)), (29, zI x.n), (30, zI i), (49, .v (.agg #[.int .i64 (gi L i 3), .int .i64 (gi L i 4)])), (50, zI 2)] [(3, ⟨34, [.int .i64 W.b, .int .i64 W.f, .int .i64 W.r, .int .i64 W.o]⟩), (4, ⟨42, [.slice none 0 0, .slice none 0 0]⟩), (11, ⟨108, r47.cs ++ r53.cs ++ r59.cs⟩), (12, ⟨108, r41.cs ++ r65.cs ++ r71.cs⟩)]) yj ?_
  refine sq9 (zza 51 (zB false) (zzb (zzd (zys xj (zyc (zzp (sq9 (zza 61 (.v a.v) (zza 62 (.slc 11 0 3 3) (zyo 63 48 [.v a.v, .slc 11 0 3 3] [11, 62] (.inl rfl) (pub_mk xk) (k := ?_)))))))))))
  intro B76 w76 u76 e76 d76 v76
  have h78 : u76.heap[B76 11]? = some (.cells #[.bool r47.s, .slice r47.m.a r47.m.n r47.m.c, .slice r47.d.a r47.d.n r47.d.c, .bool r53.s, .slice r53.m.a r53.m.n r53.m.c, .slice r53.d.a r53.d.n r53.d.c, .bool r59.s, .slice r59.m.a r59.m.n r59.m.c, .slice r59.d.a r59.d.n r59.d.c] 108 (0, 0)) := v76 11 yy _ rfl
  obtain ⟨b77, hBb77⟩ : ∃ b, B76 11 = b := ⟨_, rfl⟩
  rw [hBb77] at h78
  have hp79 : PolN u76 (⟨some ⟨b77, 0, none⟩, 3, 3⟩ : Sl) [(((gi L i 0 : Int) : Rat) / ((Nt.p2i W.f : Int) : Rat)), (((gi L i 1 : Int) : Rat) / ((Nt.p2i W.f : Int) : Rat)), (((gi L i 2 : Int) : Rat) / ((Nt.p2i W.f : Int) : Rat))] 2 := pol_lit (L := [r47, r53, r59]) h78 (rats3 (h48.ext (e52.trans (g56.ext.trans (e58.trans (g62.ext.trans (e64.trans (g68.ext.trans (e70.trans (g74.ext.trans e76))))))))) (h54.ext (e58.trans (g62.ext.trans (e64.trans (g68.ext.trans (e70.trans (g74.ext.trans e76))))))) (h60.ext (e64.trans (g68.ext.trans (e70.trans (g74.ext.trans e76)))))) rfl yq
  show Calls _ _ #[.slice a.a a.n a.c, .slice (some ⟨B76 11, 0, none⟩) 3 3] _ _
  rw [hBb77]
  have k84 := k_poMul d76 (hA.ext (e40.trans (g44.ext.trans (e46.trans (g50.ext.trans (e52.trans (g56.ext.trans (e58.trans (g62.ext.trans (e64.trans (g68.ext.trans (e70.trans (g74.ext.trans e76))))))))))))).raw hp79.raw (Nat.le_trans (Nt.mlK_mono hla (show ([(((gi L i 0 : Int) : Rat) / ((Nt.p2i W.f : Int) : Rat)), (((gi L i 1 : Int) : Rat) / ((Nt.p2i W.f : Int) : Rat)), (((gi L i 2 : Int) : Rat) / ((Nt.p2i W.f : Int) : Rat))]).length ≤ 3 from Nat.le_refl _) (Nat.le_refl _) (Nat.le_refl _)) (by decide +kernel)) (by have h9 := hla; omega) (by have h9 := (show ([(((gi L i 0 : Int) : Rat) / ((Nt.p2i W.f : Int) : Rat)), (((gi L i 1 : Int) : Rat) / ((Nt.p2i W.f : Int) : Rat)), (((gi L i 2 : Int) : Rat) / ((Nt.p2i W.f : Int) : Rat))]).length ≤ 3 from Nat.le_refl _); omega) (by have h9 := hla; omega) (by have h9 := (show ([(((gi L i 0 : Int) : Rat) / ((Nt.p2i W.f : Int) : Rat)), (((gi L i 1 : Int) : Rat) / ((Nt.p2i W.f : Int) : Rat)), (((gi L i 2 : Int) : Rat) / ((Nt.p2i W.f : Int) : Rat))]).length ≤ 3 from Nat.le_refl _); omega)
  with_reducible refine zPm k84 ?_
  rintro _ u82 g83 ⟨y80, rfl, h81⟩
  replace h81 := PolN.more h81 (Nat.le_trans (Nt.mlK_mono hla (show ([(((gi L i 0 : Int) : Rat) / ((Nt.p2i W.f : Int) : Rat)), (((gi L i 1 : Int) : Rat) / ((Nt.p2i W.f : Int) : Rat)), (((gi L i 2 : Int) : Rat) / ((Nt.p2i W.f : Int) : Rat))]).length ≤ 3 from Nat.le_refl _) (Nat.le_refl _) (Nat.le_refl _)) (by decide +kernel : _ ≤ 7220))
  have hly80 := h81.len
  have hm85 : (Nt.trimQ (Nt.mulQ (Nt.csP (Nt.csN W.f) L i) [(((gi L i 0 : Int) : Rat) / ((Nt.p2i W.f : Int) : Rat)), (((gi L i 1 : Int) : Rat) / ((Nt.p2i W.f : Int) : Rat)), (((gi L i 2 : Int) : Rat) / ((Nt.p2i W.f : Int) : Rat))])).length ≤ 19 := Nt.zxu hla (show ([(((gi L i 0 : Int) : Rat) / ((Nt.p2i W.f : Int) : Rat)), (((gi L i 1 : Int) : Rat) / ((Nt.p2i W.f : Int) : Rat)), (((gi L i 2 : Int) : Rat) / ((Nt.p2i W.f : Int) : Rat))]).length ≤ 3 from Nat.le_refl _)
  have hk86 : PolN _ y80 (Nt.trimQ (Nt.mulQ (Nt.csP (Nt.csN W.f) L i) [(((gi L i 0 : Int) : Rat) / ((Nt.p2i W.f : Int) : Rat)), (((gi L i 1 : Int) : Rat) / ((Nt.p2i W.f : Int) : Rat)), (((gi L i 2 : Int) : Rat) / ((Nt.p2i W.f : Int) : Rat))])) 7220 := PolN.more h81 xq
  refine zza 7 (.v y80.v) (zzc 71 [(3, .adr 3 0), (4, .adr 4 0), (7, .v y80.v), (8, .v b.v), (12, .adr 12 0), (28, .v x.v), (29, zI x.n), (30, zI i)] [(3, ⟨34, W.cs⟩), (4, ⟨42, [.slice none 0 0, .slice none 0 0]⟩), (12, ⟨108, r41.cs ++ r65.cs ++ r71.cs⟩)] (zzf (zza 64 (.v b.v) (zza 65 (.slc 12 0 3 3) (zyo 66 48 [.v b.v, .slc 12 0 3 3] [12, 65] (.inl rfl) (pub_mk xk) (k := ?_))))))
  intro B87 w87 u87 e87 d87 v87
  have h89 : u87.heap[B87 12]? = some (.cells #[.bool r41.s, .slice r41.m.a r41.m.n r41.m.c, .slice r41.d.a r41.d.n r41.d.c, .bool r65.s, .slice r65.m.a r65.m.n r65.m.c, .slice r65.d.a r65.d.n r65.d.c, .bool r71.s, .slice r71.m.a r71.m.n r71.m.c, .slice r71.d.a r71.d.n r71.d.c] 108 (0, 0)) := v87 12 yy _ rfl
  obtain ⟨b88, hBb88⟩ : ∃ b, B87 12 = b := ⟨_, rfl⟩
  rw [hBb88] at h89
  have hp90 : PolN u87 (⟨some ⟨b88, 0, none⟩, 3, 3⟩ : Sl) [((1 : Int) : Rat), (((gi L i 3 : Int) : Rat) / ((Nt.p2i W.f : Int) : Rat)), (((gi L i 4 : Int) : Rat) / ((Nt.p2i W.f : Int) : Rat))] 2 := pol_lit (L := [r41, r65, r71]) h89 (rats3 (h42.ext (e46.trans (g50.ext.trans (e52.trans (g56.ext.trans (e58.trans (g62.ext.trans (e64.trans (g68.ext.trans (e70.trans (g74.ext.trans (e76.trans (g83.ext.trans e87))))))))))))) (h66.ext (e70.trans (g74.ext.trans (e76.trans (g83.ext.trans e87))))) (h72.ext (e76.trans (g83.ext.trans e87)))) rfl yq
  show Calls _ _ #[.slice b.a b.n b.c, .slice (some ⟨B87 12, 0, none⟩) 3 3] _ _
  rw [hBb88]
  have k95 := k_poMul d87 (hB.ext (e40.trans (g44.ext.trans (e46.trans (g50.ext.trans (e52.trans (g56.ext.trans (e58.trans (g62.ext.trans (e64.trans (g68.ext.trans (e70.trans (g74.ext.trans (e76.trans (g83.ext.trans e87))))))))))))))).raw hp90.raw (Nat.le_trans (Nt.mlK_mono hlb (show ([((1 : Int) : Rat), (((gi L i 3 : Int) : Rat) / ((Nt.p2i W.f : Int) : Rat)), (((gi L i 4 : Int) : Rat) / ((Nt.p2i W.f : Int) : Rat))]).length ≤ 3 from Nat.le_refl _) (Nat.le_refl _) (Nat.le_refl _)) (by decide +kernel)) (by have h9 := hlb; omega) (by have h9 := (show ([((1 : Int) : Rat), (((gi L i 3 : Int) : Rat) / ((Nt.p2i W.f : Int) : Rat)), (((gi L i 4 : Int) : Rat) / ((Nt.p2i W.f : Int) : Rat))]).length ≤ 3 from Nat.le_refl _); omega) (by have h9 := hlb; omega) (by have h9 := (show ([((1 : Int) : Rat), (((gi L i 3 : Int) : Rat) / ((Nt.p2i W.f : Int) : Rat)), (((gi L i 4 : Int) : Rat) / ((Nt.p2i W.f : Int) : Rat))]).length ≤ 3 from Nat.le_refl _); omega)
  with_reducible refine zPm k95 ?_
  rintro _ u93 g94 ⟨y91, rfl, h92⟩
  replace h92 := PolN.more h92 (Nat.le_trans (Nt.mlK_mono hlb (show ([((1 : Int) : Rat), (((gi L i 3 : Int) : Rat) / ((Nt.p2i W.f : Int) : Rat)), (((gi L i 4 : Int) : Rat) / ((Nt.p2i W.f : Int) : Rat))]).length ≤ 3 from Nat.le_refl _) (Nat.le_refl _) (Nat.le_refl _)) (by decide +kernel : _ ≤ 7220))
  have hly91 := h92.len
  have hm96 : (Nt.trimQ (Nt.mulQ (Nt.csP (Nt.csD W.f) L i) [((1 : Int) : Rat), (((gi L i 3 : Int) : Rat) / ((Nt.p2i W.f : Int) : Rat)), (((gi L i 4 : Int) : Rat) / ((Nt.p2i W.f : Int) : Rat))])).length ≤ 19 := Nt.zxu hlb (show ([((1 : Int) : Rat), (((gi L i 3 : Int) : Rat) / ((Nt.p2i W.f : Int) : Rat)), (((gi L i 4 : Int) : Rat) / ((Nt.p2i W.f : Int) : Rat))]).length ≤ 3 from Nat.le_refl _)
  have hk97 : PolN _ y91 (Nt.trimQ (Nt.mulQ (Nt.csP (Nt.csD W.f) L i) [((1 : Int) : Rat), (((gi L i 3 : Int) : Rat) / ((Nt.p2i W.f : Int) : Rat)), (((gi L i 4 : Int) : Rat) / ((Nt.p2i W.f : Int) : Rat))])) 7220 := PolN.more h92 xq
  refine zza 8 (.v y91.v) (zzx ?_)
  refine zzp (zzf (zyq 67 (x := zI (IntKind.i64.wrap ((i : Int) + 1))) (zI (i + 1 : Nat)) (eqI xw) (zza 30 (zI (i + 1 : Nat)) (zzx ?_))))
  refine ⟨_, ?_, _, by exact zzv _ _ _, i + 1, y80, y91, rfl, by omega, rfl, (e37.trans (e40.trans (g44.ext.trans (e46.trans (g50.ext.trans (e52.trans (g56.ext.trans (e58.trans (g62.ext.trans (e64.trans (g68.ext.trans (e70.trans (g74.ext.trans (e76.trans (g83.ext.trans (e87.trans g94.ext)))))))))))))))), (csP_fit (g := Nt.csN W.f) (L := L) (k := i + 1) (P := (Nt.p2i W.f).toNat) (K := 7220) (show PolN _ _ (Nt.csP (Nt.csN W.f) L (i + 1)) _ from (hk86.ext (e87.trans g94.ext))) xq xq xq (fun _ => rfl) (fun i hi => Nt.csN_sm (hbd5 i xq))), (csP_fit (g := Nt.csD W.f) (L := L) (k := i + 1) (P := (Nt.p2i W.f).toNat) (K := 7220) (show PolN _ _ (Nt.csP (Nt.csD W.f) L (i + 1)) _ from hk97) xq xq xq (fun _ => rfl) (fun i hi => Nt.csD_sm xq (hbd5 i xq)))⟩
  omega
 ·replace hb38 : (decide ((i : Int) < (x.n : Int))) = false := hb38
  have qhb38 := of_decide_eq_false hb38
  refine zyc (zzp (sq9 (zza 68 (.v a.v) (zza 69 (.v b.v) (zza 70 (.v (.agg #[a.v, b.v])) (zzj ⟨42, [a.v, b.v]⟩ ty42 ?_))))))
  refine zza 5 (zI 0) (zzb (zzo (ret0 [.agg #[.slice a.a a.n a.c, .slice b.a b.n b.c], .int .i64 0] ⟨zzr ty42 zze, zzq, trivial⟩ fun u98 e99 => ?_)))
  have hi9 : i = L.length := by omega
  have h9 := (hA.ext e99)
  have h7 := (hB.ext e99)
  rw [hi9] at h9 h7
  exact ⟨a, b, rfl, h9, h7⟩
theorem k_rsize {u w : World} {z : Int} (d : Dat u w) (h0 : -1000000000 ≤ z) (h1 : z ≤ 1000000000) : Calls Tryz.prog 85 #[.int .i64 z] w (Post u w fun v _ => v = .int .i64 (Nt.az z)) := by
 refine zzm (args := [.int .i64 z]) Tryz.func85 rfl Tryz.ntmps85 (rs := [.tmp 2]) Tryz.results85 (le_b rfl) (le_b rfl) d ?_
 refine sq9 (zza 2 (zI 0) (zzb (sq9 (zza 3 (zI z) (zza 4 (zI z) (zyq 5 (x := zI (IntKind.i64.wrap (0 - z))) (zI (-z)) (eqI xw) (sy_maxN 6 (n := z) (m := -z) (v := Nt.az z) (by unfold Nt.az; split <;> omega) ?_)))))))
 refine zza 2 (zI (Nt.az z)) (zzb (zzo (ret0 [.int .i64 (Nt.az z)] ⟨zzq, trivial⟩ fun u11 e12 => ?_)))
 rfl
theorem ir_parts {u : World} {x : Sl} {L : List (List Int)} {i : Nat} (h : IrV 5 u x L) (hi : i < L.length) : ∃ b o, x.a = some ⟨b, o, none⟩ ∧ (∀ j, j < 5 → u.cell? ⟨b, o + i * 5 + j, none⟩ = some (.int .i64 (gi L i j))) ∧ SlR .i64 u (some ⟨b, o + i * 5, none⟩) 3 3 [gi L i 0, gi L i 1, gi L i 2] ∧ SlR .i64 u (some ⟨b, o + i * 5 + 3, none⟩) 2 2 [gi L i 3, gi L i 4] := by
 obtain ⟨b, o, h1, h2, h3⟩ := ir_at h hi
 rw [ics5 h.rows hi] at h3
 have h4 : ∀ j, j < 5 → u.cell? ⟨b, o + i * 5 + j, none⟩ = some (.int .i64 (gi L i j)) := fun j hj => by
  rw [h3 j hj]
  match j, hj with
  | 0, _ => rfl
  | 1, _ => rfl
  | 2, _ => rfl
  | 3, _ => rfl
  | 4, _ => rfl
 refine ⟨b, o, h1, h4, ⟨rfl, Nat.le_refl _, by unfold maxLen; decide, fun _ => ⟨b, o + i * 5, rfl, h2, fun j hj => ?_⟩⟩, ⟨rfl, Nat.le_refl _, by unfold maxLen; decide, fun _ => ⟨b, o + i * 5 + 3, rfl, h2, fun j hj => ?_⟩⟩⟩
 ·rw [h4 j xq]
  match j, hj with
  | 0, _ => rfl
  | 1, _ => rfl
  | 2, _ => rfl
 ·rw [Nat.add_assoc, h4 (3 + j) xq]
  match j, hj with
  | 0, _ => rfl
  | 1, _ => rfl
end Go.Proofs.YtifcjcecmoimjaaGreat
namespace Go.Proofs.YtifcjcecmoimjaaGreat
set_option linter.unusedVariables false
namespace Nt
def befZ (a b : List Int) : Bool := decide (cmpZ (a.getD 0 0) (a.getD 1 0) (b.getD 0 0) (b.getD 1 0) < 0)
theorem bef_iff {a b : List Int} : befZ a b = true ↔ az (b.getD 1 0) < az (a.getD 1 0) ∨ (az (a.getD 1 0) = az (b.getD 1 0) ∧ az (b.getD 0 0) < az (a.getD 0 0)) := by
 unfold befZ cmpZ
 rw [decide_eq_true_iff]
 split <;> omega
theorem bef_not {a b : List Int} : befZ a b = false ↔ ¬ (az (b.getD 1 0) < az (a.getD 1 0) ∨ (az (a.getD 1 0) = az (b.getD 1 0) ∧ az (b.getD 0 0) < az (a.getD 0 0))) := by
 rw [← bef_iff, Bool.not_eq_true]
def insV : List (List Int) → List Int → List (List Int)
 | [], x => [x]
 | s :: R, x => if befZ x s = true then s :: insV R x else x :: s :: R
theorem insV_len {R : List (List Int)} {x : List Int} : (insV R x).length = R.length + 1 := by
 induction R with
 | nil => rfl
 | cons s R ih =>
  unfold insV
  split
  ·rw [List.length_cons, ih]; rfl
  ·rfl
theorem insV_mem {R : List (List Int)} {x y : List Int} (h : y ∈ insV R x) : y = x ∨ y ∈ R := by
 induction R with
 | nil => exact .inl (List.mem_singleton.1 h)
 | cons s R ih =>
  unfold insV at h
  split at h
  ·rcases List.mem_cons.1 h with h | h
   ·exact .inr (h ▸ List.mem_cons_self ..)
   ·exact (ih h).imp id (fun h => List.mem_cons_of_mem _ h)
  ·rcases List.mem_cons.1 h with h | h
   ·exact .inl h
   ·exact .inr h
theorem ins_all {R : List (List Int)} {m : List Int} (h : ∀ s ∈ R, befZ m s = true) : insV R m = R ++ [m] := by
 induction R with
 | nil => rfl
 | cons s R ih =>
  unfold insV
  rw [if_pos (h s (List.mem_cons_self ..)), ih (fun s hs => h s (List.mem_cons_of_mem _ hs))]; rfl
theorem ins_last {R : List (List Int)} {m b : List Int} (h : befZ b m = false) : insV (R ++ [m]) b = insV R b ++ [m] := by
 induction R with
 | nil => show (if _ then _ else _) = _; rw [if_neg (by rw [h]; decide)]; rfl
 | cons s R ih =>
  show (if _ then _ else _) = (if _ then _ else _) ++ [m]
  split
  ·exact congrArg (s :: ·) ih
  ·rfl
theorem fold_mem {A R : List (List Int)} {y : List Int} (h : y ∈ A.foldl insV R) : y ∈ A ∨ y ∈ R := by
 induction A generalizing R with
 | nil => exact .inr h
 | cons a A ih =>
  rcases ih h with h | h
  ·exact .inl (List.mem_cons_of_mem _ h)
  ·rcases insV_mem h with h | h
   ·exact .inl (h ▸ List.mem_cons_self ..)
   ·exact .inr h
theorem fold_last {B R : List (List Int)} {m : List Int} (h : ∀ b ∈ B, befZ b m = false) : B.foldl insV (R ++ [m]) = B.foldl insV R ++ [m] := by
 induction B generalizing R with
 | nil => rfl
 | cons b B ih =>
  show B.foldl insV (insV (R ++ [m]) b) = _
  rw [ins_last (h b (List.mem_cons_self ..)), ih (fun b hb => h b (List.mem_cons_of_mem _ hb))]; rfl
theorem fold_max {A B : List (List Int)} {m : List Int} (hA : ∀ a ∈ A, befZ m a = true) (hB : ∀ b ∈ B, befZ b m = false) : (A ++ m :: B).foldl insV [] = (A ++ B).foldl insV [] ++ [m] := by
 rw [List.foldl_append, List.foldl_append]
 show B.foldl insV (insV (A.foldl insV []) m) = _
 rw [ins_all (fun s hs => hA s ((fold_mem hs).resolve_right (fun h => by cases h))), fold_last hB]
theorem insR_V {R T : List (List Int)} {x : List Int} (hR : ∀ p ∈ R, p.length = 2) (hx : x.length = 2) : insR (R.reverse ++ x :: T) R.length = (insV R x).reverse ++ T := by
 induction R generalizing T with
 | nil => rfl
 | cons s R ih =>
  have hs : s.length = 2 := hR s (List.mem_cons_self ..)
  have e : (s :: R).reverse ++ x :: T = R.reverse ++ s :: x :: T := by simp
  have g0 : (R.reverse ++ s :: x :: T).getD R.length [] = s := by
   rw [List.getD_eq_getElem?_getD, List.getElem?_append_right yy, List.length_reverse, Nat.sub_self]; rfl
  have g1 : (R.reverse ++ s :: x :: T).getD (R.length + 1) [] = x := by
   rw [List.getD_eq_getElem?_getD, List.getElem?_append_right yy, List.length_reverse, show R.length + 1 - R.length = 1 by omega]; rfl
  rw [e]
  show insR _ (R.length + 1) = _
  have two : ∀ p : List Int, p.length = 2 → [p.getD 0 0, p.getD 1 0] = p := fun p hp => by
   match p, hp with
   | [a, b], _ => rfl
  unfold insR insV gi
  rw [g0, g1]
  by_cases h : befZ x s = true
  ·rw [if_pos (of_decide_eq_true h), if_pos h]
   have e2 : swapR (R.reverse ++ s :: x :: T) (R.length + 1) = R.reverse ++ x :: s :: T := by
    unfold swapR gi
    rw [Nat.add_sub_cancel, g0, g1, two s hs, two x hx]
    rw [List.set_append_right _ _ yy, List.length_reverse, show R.length + 1 - R.length = 1 by omega]
    show (R.reverse ++ s :: s :: T).set R.length x = _
    rw [List.set_append_right _ _ yy, List.length_reverse, Nat.sub_self]; rfl
   rw [e2, ih (fun p hp => hR p (List.mem_cons_of_mem _ hp))]
   simp
  ·rw [if_neg (fun k => h (decide_eq_true k)), if_neg h]
   simp
theorem outR_V {R T : List (List Int)} (hR : ∀ p ∈ R, p.length = 2) (hT : ∀ p ∈ T, p.length = 2) : outR (R.reverse ++ T) R.length T.length = (T.foldl insV R).reverse := by
 induction T generalizing R with
 | nil => show R.reverse ++ [] = _; rw [List.append_nil]; rfl
 | cons t T ih =>
  have ht := hT t (List.mem_cons_self ..)
  show outR (insR (R.reverse ++ t :: T) R.length) (R.length + 1) T.length = _
  rw [insR_V hR ht, ← insV_len (R := R) (x := t), ih (fun p hp => by rcases insV_mem hp with h | h; (rw [h]; exact ht); exact hR p h) (fun p hp => hT p (List.mem_cons_of_mem _ hp))]
  rfl
theorem sortR_V {D : List (List Int)} (hD : ∀ p ∈ D, p.length = 2) : sortR D = (D.foldl insV []).reverse := by
 cases D with
 | nil => rfl
 | cons t T => exact outR_V (R := [t]) (fun p hp => by rw [List.mem_singleton.1 hp]; exact hD t (List.mem_cons_self ..)) (fun p hp => hD p (List.mem_cons_of_mem _ hp))
def selR (D : List (List Int)) : Nat → Nat
 | 0 => 0
 | n + 1 => if befZ (D.getD n []) (D.getD (selR D n) []) = true then n else selR D n
theorem selR_ok {D : List (List Int)} {n : Nat} (h : 0 < n) : selR D n < n ∧ (∀ j, j < selR D n → befZ (D.getD (selR D n) []) (D.getD j []) = true) ∧ ∀ j, j < n → befZ (D.getD j []) (D.getD (selR D n) []) = false := by
 induction n with
 | zero => omega
 | succ n ih =>
  unfold selR
  cases n with
  | zero =>
   have e : befZ (D.getD 0 []) (D.getD 0 []) = false := bef_not.2 xq
   have e2 : selR D 0 = 0 := rfl
   rw [e2, if_neg (by rw [e]; decide)]
   refine ⟨by decide, fun j hj => by omega, fun j hj => ?_⟩
   rw [show j = 0 by omega]; exact e
  | succ n =>
   obtain ⟨h1, h2, h3⟩ := ih xq
   by_cases hb : befZ (D.getD (n + 1) []) (D.getD (selR D (n + 1)) []) = true
   ·rw [if_pos hb]
    refine ⟨by omega, fun j hj => ?_, fun j hj => ?_⟩
    ·have h4 := bef_not.1 (h3 j hj)
     have h5 := bef_iff.1 hb
     exact bef_iff.2 xq
    ·by_cases e : j = n + 1
     ·rw [e]; exact bef_not.2 xq
     ·have h4 := bef_not.1 (h3 j xq)
      have h5 := bef_iff.1 hb
      exact bef_not.2 xq
   ·rw [if_neg hb]
    refine ⟨by omega, h2, fun j hj => ?_⟩
    by_cases e : j = n + 1
    ·rw [e]; exact Bool.not_eq_true _ ▸ hb
    ·exact h3 j xq
theorem sortR_sel {D : List (List Int)} (hD : ∀ p ∈ D, p.length = 2) (h : 0 < D.length) : sortR D = D.getD (selR D D.length) [] :: sortR (D.eraseIdx (selR D D.length)) := by
 obtain ⟨h1, h2, h3⟩ := selR_ok (D := D) h
 generalize selR D D.length = i at *
 have e1 : D = D.take i ++ D.getD i [] :: D.drop (i + 1) := by
  have e : D[i] = D.getD i [] := by rw [List.getD_eq_getElem?_getD, List.getElem?_eq_getElem h1]; rfl
  rw [← e, ← List.drop_eq_getElem_cons h1, List.take_append_drop]
 rw [sortR_V hD, sortR_V (fun p hp => hD p (List.mem_of_mem_eraseIdx hp)), List.eraseIdx_eq_take_drop_succ]
 have hA : ∀ a ∈ D.take i, befZ (D.getD i []) a = true := fun a ha => by
  obtain ⟨j, hj, rfl⟩ := List.mem_iff_getElem.1 ha
  rw [List.length_take] at hj
  rw [List.getElem_take]
  have := h2 j xq
  rw [List.getD_eq_getElem?_getD (l := D) (i := j), List.getElem?_eq_getElem xq] at this
  exact this
 have hB : ∀ b ∈ D.drop (i + 1), befZ b (D.getD i []) = false := fun b hb => by
  obtain ⟨j, hj, rfl⟩ := List.mem_iff_getElem.1 hb
  rw [List.length_drop] at hj
  rw [List.getElem_drop]
  have := h3 (i + 1 + j) xq
  rw [List.getD_eq_getElem?_getD (l := D) (i := i + 1 + j), List.getElem?_eq_getElem xq] at this
  exact this
 have e2 := fold_max hA hB
 rw [← e1] at e2
 rw [e2, List.reverse_append]
 rfl
end Nt
end Go.Proofs.YtifcjcecmoimjaaGreat
namespace Go.Proofs.YtifcjcecmoimjaaGreat
open Go.RowKit
set_option linter.unusedVariables false
namespace Nt
def befV (a0 a1 b0 b1 : Int) : Bool := if az a1 = az b1 then decide (az b0 ≤ az a0) else decide (az b1 < az a1)
theorem befV_eq {p q : List Int} : befV (p.getD 0 0) (p.getD 1 0) (q.getD 0 0) (q.getD 1 0) = !befZ q p := by
 unfold befV
 rw [Bool.eq_iff_iff, Bool.not_eq_true', bef_not]
 split <;> rw [decide_eq_true_iff] <;> omega
end Nt
theorem k_before {u w : World} {a0 a1 b0 b1 : Int} (d : Dat u w) (ha0 : -16777216 ≤ a0 ∧ a0 ≤ 16777216) (ha1 : -16777216 ≤ a1 ∧ a1 ≤ 16777216) (hb0 : -16777216 ≤ b0 ∧ b0 ≤ 16777216) (hb1 : -16777216 ≤ b1 ∧ b1 ≤ 16777216) : Calls Tryz.prog 40 #[.agg #[.int .i64 a0, .int .i64 a1], .agg #[.int .i64 b0, .int .i64 b1]] w (Post u w fun v _ => v = .bool (Nt.befV a0 a1 b0 b1)) := by
 refine zzm (args := [.agg #[.int .i64 a0, .int .i64 a1], .agg #[.int .i64 b0, .int .i64 b1]]) Tryz.func40 rfl Tryz.ntmps40 (rs := [.tmp 4]) Tryz.results40 (le_b rfl) (le_b rfl) d ?_
 refine sq9 (zzk 2 ⟨30, [.int .i64 a0, .int .i64 a1]⟩ (zzk 3 ⟨30, [.int .i64 b0, .int .i64 b1]⟩ (zza 4 (zB false) (zzb (zzd (zzd (zzz [0, 1, 3, 0, 8, 31, 63] [(0, []), (1, []), (3, []), (4, []), (2, []), (5, []), (6, [])] xj xj (zza 5 (.adr 2 1) (zzi 6 (zI a1) ty3 zzl (zza 8 (.adr 3 1) (zzi 9 (zI b1) ty3 zzl ?_)))))))))))
 refine zzg 7 85 [.int .i64 a1] ?_
 intro w11 u11 e11 d11
 have k14 := k_rsize (z := a1) d11 xq xq
 with_reducible refine zPm k14 ?_
 rintro _ u12 g13 rfl
 have haz15 := Nt.az_bd (z := a1) xq xq
 refine zzg 10 85 [.int .i64 b1] ?_
 intro w16 u16 e16 d16
 have k19 := k_rsize (z := b1) d16 xq xq
 with_reducible refine zPm k19 ?_
 rintro _ u17 g18 rfl
 have haz20 := Nt.az_bd (z := b1) xq xq
 refine zza 11 (zB ((Nt.az a1) != (Nt.az b1))) (zzb (zzu (b := (Nt.az a1) != (Nt.az b1)) xj (fun hb21 => ?_) (fun hb21 => ?_)))
 ·replace hb21 : ((Nt.az a1) != (Nt.az b1)) = true := hb21
  have qhb21 := hb21
  simp at qhb21
  refine zzd (zzz [0, 1, 3, 0, 8, 31, 63, 127] [(0, []), (1, []), (3, []), (4, []), (2, []), (5, []), (6, []), (7, [])] xj xj (zza 12 (.adr 2 1) (zzi 13 (zI a1) ty3 zzl (zza 15 (.adr 3 1) (zzi 16 (zI b1) ty3 zzl (zzg 14 85 [.int .i64 a1] ?_))))))
  intro w22 u22 e22 d22
  have k25 := k_rsize (z := a1) d22 xq xq
  with_reducible refine zPm k25 ?_
  rintro _ u23 g24 rfl
  have haz26 := Nt.az_bd (z := a1) xq xq
  refine zzg 17 85 [.int .i64 b1] ?_
  intro w27 u27 e27 d27
  have k30 := k_rsize (z := b1) d27 xq xq
  with_reducible refine zPm k30 ?_
  rintro _ u28 g29 rfl
  have haz31 := Nt.az_bd (z := b1) xq xq
  refine zza 18 (zB (decide ((Nt.az b1) < (Nt.az a1)))) (zza 4 (zB (decide ((Nt.az b1) < (Nt.az a1)))) (zzb (zzo (zzw (ret0 [.bool (decide ((Nt.az b1) < (Nt.az a1)))] ⟨zzq, trivial⟩ fun u32 e33 => ?_)))))
  show Value.bool _ = Value.bool _
  unfold Nt.befV
  rw [if_neg qhb21]
 ·replace hb21 : ((Nt.az a1) != (Nt.az b1)) = false := hb21
  have qhb21 := hb21
  simp at qhb21
  refine zzs (zzp ?_)
  refine zzd (zzz [0, 1, 3, 0, 8, 31, 63, 127] [(0, []), (1, []), (3, []), (4, []), (2, []), (5, []), (6, []), (7, [])] xj xj (zza 19 (.adr 2 0) (zzi 20 (zI a0) ty3 zzl (zza 22 (.adr 3 0) (zzi 23 (zI b0) ty3 zzl (zzg 21 85 [.int .i64 a0] ?_))))))
  intro w34 u34 e34 d34
  have k37 := k_rsize (z := a0) d34 xq xq
  with_reducible refine zPm k37 ?_
  rintro _ u35 g36 rfl
  have haz38 := Nt.az_bd (z := a0) xq xq
  refine zzg 24 85 [.int .i64 b0] ?_
  intro w39 u39 e39 d39
  have k42 := k_rsize (z := b0) d39 xq xq
  with_reducible refine zPm k42 ?_
  rintro _ u40 g41 rfl
  have haz43 := Nt.az_bd (z := b0) xq xq
  refine zza 25 (zB (decide ((Nt.az b0) ≤ (Nt.az a0)))) (zza 4 (zB (decide ((Nt.az b0) ≤ (Nt.az a0)))) (zzb (zzo (ret0 [.bool (decide ((Nt.az b0) ≤ (Nt.az a0)))] ⟨zzq, trivial⟩ fun u44 e45 => ?_))))
  show Value.bool _ = Value.bool _
  unfold Nt.befV
  rw [if_pos qhb21]
theorem k_rdist {u w : World} {b0 b1 b2 a0 a1 : Int} (d : Dat u w) (hb1 : -16777216 ≤ b1 ∧ b1 ≤ 16777216) (hb2 : -16777216 ≤ b2 ∧ b2 ≤ 16777216) (ha0 : -16777216 ≤ a0 ∧ a0 ≤ 16777216) (ha1 : -16777216 ≤ a1 ∧ a1 ≤ 16777216) : Calls Tryz.prog 41 #[.agg #[.int .i64 b0, .int .i64 b1, .int .i64 b2], .agg #[.int .i64 a0, .int .i64 a1]] w (Post u w fun v _ => v = .int .i64 (Nt.distZ b1 b2 a0 a1)) := by
 refine zzm (args := [.agg #[.int .i64 b0, .int .i64 b1, .int .i64 b2], .agg #[.int .i64 a0, .int .i64 a1]]) Tryz.func41 rfl Tryz.ntmps41 (rs := [.tmp 4]) Tryz.results41 (le_b rfl) (le_b rfl) d ?_
 refine sq9 (zzk 2 ⟨29, [.int .i64 b0, .int .i64 b1, .int .i64 b2]⟩ (zzk 3 ⟨30, [.int .i64 a0, .int .i64 a1]⟩ (zza 4 (zI 0) (zzb (zzd (zzz [0, 1, 0, 4, 15, 31, 0, 64, 0, 256, 960, 2047, 4095, 8191] [(0, []), (1, []), (2, []), (3, []), (4, []), (6, []), (7, []), (8, []), (9, []), (10, []), (5, []), (11, []), (12, []), (13, [])] xj xj (zza 5 (.adr 2 1) (zzi 6 (zI b1) ty3 zzl (zza 7 (.adr 3 0) (zzi 8 (zI a0) ty3 zzl (zyq 9 (x := zI (IntKind.i64.wrap (b1 - a0))) (zI (b1 - a0)) yz ?_)))))))))))
 refine zza 11 (.adr 2 2) (zzi 12 (zI b2) ty3 zzl (zza 13 (.adr 3 1) (zzi 14 (zI a1) ty3 zzl (zyq 15 (x := zI (IntKind.i64.wrap (b2 - a1))) (zI (b2 - a1)) yz (zzg 10 85 [.int .i64 (b1 - a0)] ?_)))))
 intro w11 u11 e11 d11
 have k14 := k_rsize (z := b1 - a0) d11 xq xq
 with_reducible refine zPm k14 ?_
 rintro _ u12 g13 rfl
 have haz15 := Nt.az_bd (z := b1 - a0) xq xq
 refine zzg 16 85 [.int .i64 (b2 - a1)] ?_
 intro w16 u16 e16 d16
 have k19 := k_rsize (z := b2 - a1) d16 xq xq
 with_reducible refine zPm k19 ?_
 rintro _ u17 g18 rfl
 have haz20 := Nt.az_bd (z := b2 - a1) xq xq
 refine zyq 17 (x := zI (IntKind.i64.wrap ((Nt.az (b1 - a0)) + (Nt.az (b2 - a1))))) (zI ((Nt.az (b1 - a0)) + (Nt.az (b2 - a1)))) yz (zza 4 (zI ((Nt.az (b1 - a0)) + (Nt.az (b2 - a1)))) (zzb (zzo (ret0 [.int .i64 ((Nt.az (b1 - a0)) + (Nt.az (b2 - a1)))] ⟨zzq, trivial⟩ fun u21 e22 => ?_))))
 rfl
theorem k_rsmall21 {u w : World} {x : Sl} {l : List Int} (d : Dat u w) (hx : SlR .i64 u x.a x.n x.c l) (hb : ∀ z ∈ l, -9223372036854775808 ≤ z ∧ z ≤ 9223372036854775807) : Calls Tryz.prog 39 #[x.v, .int .i64 24] w (Post u w fun v _ => v = .bool (Nt.smallB l)) := by
 have hlen : l.length = x.n := hx.1
 have hmx8 := Nat.le_trans hx.2.1 hx.2.2.1
 unfold maxLen at hmx8
 refine zzm (args := [.slice x.a x.n x.c, .int .i64 24]) Tryz.func39 rfl Tryz.ntmps39 (rs := [.tmp 4]) Tryz.results39 (le_b rfl) (le_b rfl) d ?_
 refine sq9 (zza 4 (zB false) (zzb (zzd (sq9 (zza 5 (zI 0) (zzb (zzt (zyn (I := fun m11 S' u' => ∃ (i : Nat), (m11 = x.n - i) ∧ (i ≤ x.n) ∧ (∀ j, j < i → -16777216 ≤ l.getD j 0 ∧ l.getD j 0 ≤ 16777216) ∧ (S' = St.of 25 [(0, .v (.slice x.a x.n x.c)), (1, zI 24), (5, zI i)] []) ∧ (Ext u u')) (fun m S u1 u2 e h => by obtain ⟨i, hm, p0, p1, hS, hE⟩ := h; exact ⟨i, hm, p0, p1, hS, hE.trans e⟩) _ yj ⟨0, rfl, Nat.zero_le _, fun j hj => absurd hj (Nat.not_lt_zero j), rfl, (Ext.refl _)⟩ ?_))))))))
 rintro m11 _ u11 ⟨i, hm11, hi, hs, rfl, e11⟩
 refine zzd (sq9 (zza 6 (zI i) (zza 7 (.v x.v) (zza 8 (zI x.n) (zza 9 (zB (decide ((i : Int) < (x.n : Int)))) (zzb (zzu (b := decide ((i : Int) < (x.n : Int))) xj (fun hb12 => ?_) (fun hb12 => ?_))))))))
 ·replace hb12 : (decide ((i : Int) < (x.n : Int))) = true := hb12
  have qhb12 := of_decide_eq_true hb12
  refine zzs (zzp ?_)
  refine zzd (zzt (sq9 (zza 12 (.v x.v) (zza 13 (zI i) ?_))))
  have hl13 := ((hx.ext e11)).1
  obtain ⟨b13, o13, hA13, hc13⟩ := ints_at (hx.ext e11) (i := i) xq
  have hz13 := ints_bd hb xq i
  refine zya 14 (o13 + i * 1) (n := x.n) (off := o13) (sz := 1) (i := (i : Int)) xq hA13 xq xq sl37 (zyl 15 (.int .i64 (l.getD i 0)) hc13 ty3 (zza 16 (zI 24) (zyq 17 (x := _) (.v (.int .u64 24)) (by rfl) (zza 18 (zI 16777216) (zza 19 (zI (-16777216)) (zza 20 (zI 24) (zyq 21 (x := _) (.v (.int .u64 24)) (by rfl) (zza 22 (zI 16777216) (zzg 23 38 [.int .i64 (l.getD i 0), .int .i64 (-16777216), .int .i64 16777216] ?_)))))))))
  intro w14 u14 e14 d14
  have k17 := k_in d14 (z := (l.getD i 0)) (a := (-16777216)) (b := 16777216)
  with_reducible refine zPm k17 ?_
  rintro _ u15 g16 rfl
  refine zza 24 (zB (!(decide ((-16777216) ≤ (l.getD i 0)) && decide ((l.getD i 0) ≤ 16777216)))) (zzb (zzu (b := !(decide ((-16777216) ≤ (l.getD i 0)) && decide ((l.getD i 0) ≤ 16777216))) xj (fun hb18 => ?_) (fun hb18 => ?_)))
  ·replace hb18 : (!(decide ((-16777216) ≤ (l.getD i 0)) && decide ((l.getD i 0) ≤ 16777216))) = true := hb18
   have hIhb18 : l.getD i 0 < -16777216 ∨ 16777216 < l.getD i 0 := by have h9 := hb18; simp only [Bool.not_eq_true', Bool.not_eq_false', Bool.and_eq_true, Bool.and_eq_false_iff, decide_eq_true_eq, decide_eq_false_iff_not] at h9; omega
   refine sq9 (zza 4 (zB false) (zzb (zzo (zyu (zzw (zyt (zyu (zzw (ret0 [.bool false] ⟨zzq, trivial⟩ fun u19 e20 => ?_)))))))))
   show Value.bool _ = Value.bool _
   congr 1
   exact (decide_eq_false (fun k => by have h9 := k i xq; omega)).symm
  ·replace hb18 : (!(decide ((-16777216) ≤ (l.getD i 0)) && decide ((l.getD i 0) ≤ 16777216))) = false := hb18
   have hIhb18 : -16777216 ≤ l.getD i 0 ∧ l.getD i 0 ≤ 16777216 := by have h9 := hb18; simp only [Bool.not_eq_true', Bool.not_eq_false', Bool.and_eq_true, Bool.and_eq_false_iff, decide_eq_true_eq, decide_eq_false_iff_not] at h9; omega
   refine zzs (zzp ?_)
   refine zzf (zza 10 (zI i) (zyq 11 (x := zI (IntKind.i64.wrap ((i : Int) + 1))) (zI (i + 1 : Nat)) (eqI xw) (zza 5 (zI (i + 1 : Nat)) (zzx ?_))))
   refine ⟨_, ?_, _, by exact zzv _ _ _, i + 1, rfl, by omega, (fun j hj => by by_cases e : j = i; (rw [e]; omega); exact hs j xq), rfl, (e11.trans (e14.trans g16.ext))⟩
   omega
 ·replace hb12 : (decide ((i : Int) < (x.n : Int))) = false := hb12
  have qhb12 := of_decide_eq_false hb12
  refine zyc (zzp (sq9 (zza 4 (zB true) (zzb (zzo (ret0 [.bool true] ⟨zzq, trivial⟩ fun u21 e22 => ?_))))))
  show Value.bool _ = Value.bool _
  congr 1
  exact (decide_eq_true (fun j hj => hs j xq)).symm
namespace Nt
variable {D W : WL} {L : List (List Int)} {N : List (List TL)} {nx st xs : List Int} {q : Int} {n k : Nat} {p p1 p2 : List Int} {x x1 x2 y1 y2 z1 z2 : Int}
theorem csE_rows {L : List (List Int)} (hW : WdOK W) (h1 : 1 ≤ L.length) (h8 : L.length ≤ 8) (h : ∀ p ∈ L, p.length = 5 ∧ ∀ z ∈ p, -(p2i (W.b - 1) - 1) ≤ z ∧ z ≤ p2i (W.b - 1) - 1) : csE W L = 0 := by
 refine csE_0 hW h1 h8 (fun i hi => ?_)
 have e : L[i] = L.getD i [] := by rw [List.getD_eq_getElem?_getD, List.getElem?_eq_getElem hi]; rfl
 obtain ⟨hl, hz⟩ := h _ (List.getElem_mem hi)
 rw [e] at hl hz
 have hj : ∀ j, j < 5 → -(p2i (W.b - 1) - 1) ≤ (L.getD i []).getD j 0 ∧ (L.getD i []).getD j 0 ≤ p2i (W.b - 1) - 1 := fun j hj => by
  refine hz _ ?_
  rw [List.getD_eq_getElem?_getD (l := L.getD i []), List.getElem?_eq_getElem xq]
  exact List.getElem_mem _
 have f0 := hj 0 yq
 have f1 := hj 1 yq
 have f2 := hj 2 yq
 have f3 := hj 3 yq
 have f4 := hj 4 yq
 unfold secFit
 rw [(fit_iff (z := (L.getD i []).getD 0 0)).2 xq, (fit_iff (z := (L.getD i []).getD 1 0)).2 xq, (fit_iff (z := (L.getD i []).getD 2 0)).2 xq, (fit_iff (z := (L.getD i []).getD 3 0)).2 xq, (fit_iff (z := -(L.getD i []).getD 3 0)).2 xq, (fit_iff (z := (L.getD i []).getD 4 0)).2 xq, (fit_iff (z := -(L.getD i []).getD 4 0)).2 xq]
 rfl
end Nt
section
variable {k n : Nat} {u : World} {x : Sl} {L : List (List Int)}
end
section
variable {P : Program} {ops : Array Oper} {w0 : Base} {u0 : World} {S : St} {u : World} {o : Oper} {p : List Tmp} {seq : Bool} {rest : List (Oper × List Tmp)} {K : St → World → Prop}
theorem sy_appS {seq : Bool} (d : Tmp) {T E : TypeId} {s x : Operand} {z : Value} {size bytes : Nat} {A : Option Addr} {m c t n cap : Nat} {cs0 : List Value} (pubs : List Tmp) (news : List Value) (hT : P.underlying T = some (.slice E)) (hi : (P.info? E).map (fun i => (i.zero, i.size, i.bytes)) = some (some z, size, bytes)) (hzs : z.cells.size = size) (hsz : 0 < size)
  (hl : news.length = m * size) (hA : 0 < m → ∃ b off, A = some ⟨b, off, none⟩ ∧ ∀ j v, news[j]? = some v → u.cell? ⟨b, off + j, none⟩ = some v) (h1 : ∀ v ∈ news, v.oneCell' = true) (h63 : n + m ≤ maxLen) (hbytes : (n + m) * bytes ≤ 140737488355328)
  (hn : n ≤ cap) (hcap : cap ≤ maxLen) (hcl : cs0.length = cap * size) (hno : NoAt S pubs)
  (k : ∀ c1 cs, n + m ≤ c1 → c1 ≤ maxLen → cs.length = c1 * size → cs.take ((n + m) * size) = cs0.take (n * size) ++ news → sym P ops w0 u0 seq rest ((S.unpub pubs).own d ⟨E, cs⟩ (n + m) c1) u K)
  (hw : Wants ops o S := by exact zwh xj) (hd : o.dst = some d := by kernel_rfl) (hop : o.op = .call { callee := .builtin .append, args := #[s, x], argTypes := #[T, T] } := by rfl) (hf : (Nat.blt d S.n && ((S.var d).isNone || pubs.contains d) && pubs.contains t && Nat.blt t S.n) = true := by kernel_rfl)
  (hs : evO S s = some (.slc t 0 n cap) := by rfl) (hv : S.var t = some ⟨E, cs0⟩ := by rfl) (hx : evO S x = some (.v (.slice A m c)) := by rfl) : sym P ops w0 u0 seq ((o, p) :: rest) S u K := by
 simp only [Bool.and_eq_true, Bool.or_eq_true, Option.isNone_iff_eq_none, List.contains_iff_mem] at hf
 refine .inr (.inr (.inl ⟨.inr ⟨by rw [hop]; rfl, by rw [hop]; rfl⟩, fun B a w u' he hrep => ⟨hw B a hrep.regs, ?_⟩⟩))
 have htn : t < S.n := Nat.le_of_ble_eq_true hf.2
 obtain ⟨v1, v2, v3⟩ := hrep.var t _ hv
 have v3 := v3.1 htn
 by_cases hm : 0 < m
 ·obtain ⟨b, off, rfl, hA2⟩ := hA hm
  obtain ⟨g, c1, cs, w', hrun, hgv, k1, k2, k3, k4, k5, k6⟩ := run_app (P := P) (u0 := u0) (w := w) (v := .slice (some ⟨B t, 0, none⟩) n cap) (n := n) (xs := cs0.take (n * size)) (ad := ⟨b, off, none⟩) (c := c) hT hi hzs hsz
   ⟨by rw [List.length_take, hcl]; exact Nat.min_eq_left (Nat.mul_le_mul_right _ hn), .inr ⟨B t, cap, cs0.toArray, rfl, v3, v1, hn, hcap, by simpa using hcl, by simp⟩⟩ hl (fun j v hv => by rw [addr_add]; exact hrep.dat.ext.cell (he.cell (hA2 j v hv))) h1 hm h63 hbytes (by rw [← hrep.dat.size]; exact hrep.grow.size) o.type
  unfold Oper.wp execOp
  simp only [hop, resolve, invoke, builtin, Sem.run_bind, Sem.run_pure, Result.andThen_ok, List.map_toArray, List.map_cons, List.map_nil, ev_of hrep.regs hs, ev_of hrep.regs hx, SV.conc, hrun]
  have hr2 := hrep.grown hno (row := some (B t)) (fun b h => by injection h with h; exact ⟨t, hf.1.2, htn, _, hv, h⟩) k5 (d := d) (V := ⟨E, cs.toList⟩) (g := g) (n := n + m) (c := c1) (Nat.le_of_ble_eq_true hf.1.1.1) hf.1.1.2 (by simpa using hgv) k6
  have hsz2 : u'.heap.size ≤ w'.heap.size := by rw [hrep.dat.size]; exact k5.size
  show ∃ S' B' u'' u2, Rep w0 u0 S' B' (a.put o.dst _) w' u'' ∧ _
  rw [hd]
  exact ⟨_, _, _, u, hr2, fun _ => (hide_grow hsz2).ext, fun _ => Ext.refl _, he.trans (hide_grow hsz2).ext, k c1 cs.toList k1 k2 k3 k4⟩
 ·obtain rfl : m = 0 := by omega
  have hnil : news = [] := List.eq_nil_of_length_eq_zero (by simpa using hl)
  subst hnil
  obtain ⟨inf, hi1, hz, hs1, hby⟩ := info_parts hi
  have hrun : ∀ ty, (Builtin.append_ #[T, T] ty #[.slice (some ⟨B t, 0, none⟩) n cap, .slice A 0 c]).run P w = .ok (.slice (some ⟨B t, 0, none⟩) (n + 0) cap) w := by
   intro ty
   cases A with
   | none => simp [Builtin.append_, run_underlying hT, sizeOf, typeInfo, hi1, Builtin.lenOf, Builtin.firstCells, hn, storeCells]
   | some A => simp [Builtin.append_, run_underlying hT, sizeOf, typeInfo, hi1, Builtin.lenOf, Builtin.firstCells, loadCells, loadCellsFrom, hn, storeCells]
  unfold Oper.wp execOp
  simp only [hop, resolve, invoke, builtin, Sem.run_bind, Sem.run_pure, Result.andThen_ok, List.map_toArray, List.map_cons, List.map_nil, ev_of hrep.regs hs, ev_of hrep.regs hx, SV.conc, hrun]
  have hr2 := hrep.grown hno (row := some (B t)) (fun b h => by injection h with h; exact ⟨t, hf.1.2, htn, _, hv, h⟩) (w' := w) ⟨rfl, rfl, rfl, Nat.le_refl _, fun _ _ _ => rfl⟩ (d := d) (V := ⟨E, cs0⟩) (g := B t) (n := n + 0) (c := cap) (Nat.le_of_ble_eq_true hf.1.1.1) hf.1.1.2 (by simpa using v1) (.inl rfl)
  have hsz2 : u'.heap.size ≤ w.heap.size := Nat.le_of_eq hrep.dat.size
  show ∃ S' B' u'' u2, Rep w0 u0 S' B' (a.put o.dst _) w u'' ∧ _
  rw [hd]
  exact ⟨_, _, _, u, hr2, fun _ => (hide_grow hsz2).ext, fun _ => Ext.refl _, he.trans (hide_grow hsz2).ext, k cap cs0 hn hcap hcl (by rw [List.append_nil]; rfl)⟩
end
section
variable {L M : List (List Int)} {k i : Nat} {X : List Value}
theorem era_rows (h : Rows k L) (hi : i < L.length) : ∃ Y : List Value, Y.length = k ∧ setL (kcs L ++ X) (i * k) (kcs (L.drop (i + 1))) = kcs (L.eraseIdx i) ++ (Y ++ X) := by
 have hl := kcs_len h
 have hdl := kcs_len (h.drop (n := i + 1))
 rw [List.length_drop] at hdl
 have htl : (kcs (L.take i)).length = i * k := by rw [← kcs_take h, List.length_take, hl]; exact Nat.min_eq_left (Nat.mul_le_mul_right _ (Nat.le_of_lt hi))
 have e1 : kcs L = kcs (L.take i) ++ (kcs (L.drop i)) := by rw [← kcs_app, List.take_append_drop]
 have hB : kcs (L.drop i) = (kcs (L.drop i)).take ((L.length - (i + 1)) * k) ++ (kcs (L.drop i)).drop ((L.length - (i + 1)) * k) := (List.take_append_drop _ _).symm
 have hdi := kcs_len (h.drop (n := i))
 rw [List.length_drop] at hdi
 have e3 : (L.length - i) * k = (L.length - (i + 1)) * k + k := by rw [← Nat.succ_mul]; congr 1; omega
 have hT : ((kcs (L.drop i)).drop ((L.length - (i + 1)) * k)).length = k := by rw [List.length_drop, hdi, e3]; omega
 have hB1 : ((kcs (L.drop i)).take ((L.length - (i + 1)) * k)).length = (L.length - (i + 1)) * k := by rw [List.length_take, hdi, e3]; omega
 refine ⟨_, hT, ?_⟩
 generalize ((kcs (L.drop i)).drop ((L.length - (i + 1)) * k)) = T at *
 generalize ((kcs (L.drop i)).take ((L.length - (i + 1)) * k)) = B at *
 rw [e1, hB, List.append_assoc, List.append_assoc, setL_mid (by rw [hdl, hB1]) htl.symm, ← List.append_assoc, ← kcs_app, List.eraseIdx_eq_take_drop_succ]
theorem IrV.nil {k : Nat} {u : World} : IrV k u ⟨none, 0, 0⟩ [] := ⟨(fun p hp => by cases hp), rfl, Nat.le_refl _, Nat.zero_le _, fun h => absurd h (Nat.lt_irrefl 0)⟩
theorem IrV.src {u : World} {x : Sl} (h : IrV k u x L) : (kcs L).length = x.n * k ∧ (0 < x.n → ∃ b off, x.a = some ⟨b, off, none⟩ ∧ ∀ j v, (kcs L)[j]? = some v → u.cell? ⟨b, off + j, none⟩ = some v) := by
 obtain ⟨h0, h1, h2, h3, h4⟩ := h
 refine ⟨by rw [kcs_len h0, h1], fun hp => ?_⟩
 obtain ⟨b, o, g1, g2, g3⟩ := h4 hp
 refine ⟨b, o, g1, fun j v hv => ?_⟩
 have hj := (List.getElem?_eq_some_iff.1 hv).1
 rw [kcs_len h0] at hj
 rw [g3 j hj]; exact hv
end
namespace Nt
def smallAt (Z D : List (List Int)) (i : Nat) : Bool := smallB (Z.getD i []) && smallB (D.getD i [])
def pairE (Z D : List (List Int)) : Int := if Z.length ≠ D.length ∨ D.length < 1 ∨ 8 < D.length then 1 else if ∀ i, i < D.length → smallAt Z D i = true then 0 else 17
variable {Z D L M acc : List (List Int)} {n i j : Nat} {a0 a1 : Int}
theorem pairE_1 (h : Z.length ≠ D.length ∨ D.length < 1 ∨ 8 < D.length) : pairE Z D = 1 := by unfold pairE; rw [if_pos h]
theorem pairE_17 (h1 : ¬ (Z.length ≠ D.length ∨ D.length < 1 ∨ 8 < D.length)) (hi : i < D.length) (h : smallAt Z D i = false) : pairE Z D = 17 := by
 unfold pairE; rw [if_neg h1, if_neg (fun k => by rw [k i hi] at h; cases h)]
theorem pairE_0 (h1 : ¬ (Z.length ≠ D.length ∨ D.length < 1 ∨ 8 < D.length)) (h : ∀ i, i < D.length → smallAt Z D i = true) : pairE Z D = 0 := by
 unfold pairE; rw [if_neg h1, if_pos h]
theorem pairE_ok (h : pairE Z D = 0) : Z.length = D.length ∧ 1 ≤ D.length ∧ D.length ≤ 8 ∧ ∀ i, i < D.length → smallAt Z D i = true := by
 unfold pairE at h
 by_cases h1 : Z.length ≠ D.length ∨ D.length < 1 ∨ 8 < D.length
 ·rw [if_pos h1] at h; cases h
 ·rw [if_neg h1] at h
  by_cases h2 : ∀ i, i < D.length → smallAt Z D i = true
  ·exact ⟨by omega, by omega, by omega, h2⟩
  ·rw [if_neg h2] at h; cases h
theorem okR_small {k : Nat} (hR : Rows k L) (h : ∀ i, i < L.length → smallB (L.getD i []) = true) : OkR k L := fun p hp => by
 obtain ⟨i, hi, rfl⟩ := List.mem_iff_getElem.1 hp
 have e : L[i] = L.getD i [] := by rw [List.getD_eq_getElem?_getD, List.getElem?_eq_getElem hi]; rfl
 refine ⟨hR _ hp, fun z hz => ?_⟩
 have h1 := of_decide_eq_true (h i hi)
 rw [e] at hz
 obtain ⟨j, hj, rfl⟩ := List.mem_iff_getElem.1 hz
 have := h1 j hj
 rwa [List.getD_eq_getElem?_getD (l := L.getD i []), List.getElem?_eq_getElem hj] at this
theorem pairE_okR (hZ : Rows 3 Z) (hD : Rows 2 D) (h : pairE Z D = 0) : OkR 3 Z ∧ OkR 2 D := by
 obtain ⟨h1, h2, h3, h4⟩ := pairE_ok h
 constructor
 ·exact okR_small hZ (fun i hi => by have := h4 i xq; unfold smallAt at this; rw [Bool.and_eq_true] at this; exact this.1)
 ·exact okR_small hD (fun i hi => by have := h4 i hi; unfold smallAt at this; rw [Bool.and_eq_true] at this; exact this.2)
theorem selR_one : selR D 1 = 0 := by show (if _ then 0 else 0) = 0; split <;> rfl
theorem bestR_one : bestR Z a0 a1 1 = 0 := by show (if _ then 0 else 0) = 0; split <;> rfl
theorem sel_yes (h : befZ (D.getD n []) (D.getD (selR D n) []) = true) : selR D (n + 1) = n := by show (if _ then _ else _) = _; rw [if_pos h]
theorem sel_no (h : befZ (D.getD n []) (D.getD (selR D n) []) = false) : selR D (n + 1) = selR D n := by show (if _ then _ else _) = _; rw [if_neg (by rw [h]; decide)]
theorem sel_in (h : 0 < n) (hj : j ≤ n) : selR D j < n := by
 cases j with
 | zero => exact h
 | succ j => have := (selR_ok (D := D) (n := j + 1) xq).1; omega
theorem pair_sel (hD : ∀ p ∈ D, p.length = 2) (h : 0 < D.length) (hi : i = selR D D.length) (hj : j = bestR Z (gi D i 0) (gi D i 1) Z.length) : pairR (sortR D) Z acc = pairR (sortR (D.eraseIdx i)) (Z.eraseIdx j) ([gi Z j 0, gi Z j 1, gi Z j 2, gi D i 0, gi D i 1] :: acc) := by
 have e : bestR Z ((D.getD i []).getD 0 0) ((D.getD i []).getD 1 0) Z.length = j := hj.symm
 rw [sortR_sel hD h, ← hi]
 simp only [pairR]
 rw [e]; rfl
theorem erase_perm {L : List (List Int)} {i : Nat} (hi : i < L.length) : (L[i] :: L.eraseIdx i).Perm L := by
 rw [List.eraseIdx_eq_take_drop_succ]
 refine List.perm_middle.symm.trans ?_
 rw [← List.drop_eq_getElem_cons hi, List.take_append_drop]
theorem sort_perm (hD : ∀ p ∈ D, p.length = 2) : (sortR D).Perm D := by
 generalize hn : D.length = n
 induction n generalizing D with
 | zero => rw [List.eq_nil_of_length_eq_zero hn]; exact List.Perm.refl _
 | succ n ih =>
  have h0 : 0 < D.length := by omega
  have hs := (selR_ok (D := D) h0).1
  rw [sortR_sel hD h0]
  generalize selR D D.length = i at *
  have e : D[i] = D.getD i [] := by rw [List.getD_eq_getElem?_getD, List.getElem?_eq_getElem hs]; rfl
  refine (List.Perm.cons _ (ih (fun p hp => hD p (List.mem_of_mem_eraseIdx hp)) (by rw [List.length_eraseIdx, if_pos hs]; omega))).trans ?_
  rw [← e]
  exact erase_perm hs
theorem pair_perm (hD : ∀ p ∈ D, p.length = 2) (hZ : ∀ p ∈ Z, p.length = 3) (hl : Z.length = D.length) : ((pairR D Z acc).map (·.take 3)).Perm (Z ++ acc.map (·.take 3)) ∧ ((pairR D Z acc).map (·.drop 3)).Perm (D ++ acc.map (·.drop 3)) := by
 induction D generalizing Z acc with
 | nil =>
  rw [List.eq_nil_of_length_eq_zero hl]
  exact ⟨List.Perm.refl _, List.Perm.refl _⟩
 | cons a D ih =>
  have hb := bestR_lt (Z := Z) (a0 := a.getD 0 0) (a1 := a.getD 1 0) (n := Z.length) (by rw [hl]; simp)
  unfold pairR
  generalize bestR Z (a.getD 0 0) (a.getD 1 0) Z.length = b at *
  obtain ⟨h1, h2⟩ := ih (Z := Z.eraseIdx b) (acc := [gi Z b 0, gi Z b 1, gi Z b 2, a.getD 0 0, a.getD 1 0] :: acc) (fun p hp => hD p (List.mem_cons_of_mem _ hp)) (fun p hp => hZ p (List.mem_of_mem_eraseIdx hp)) (by rw [List.length_eraseIdx, if_pos hb, hl]; simp)
  have e : Z[b] = Z.getD b [] := by rw [List.getD_eq_getElem?_getD, List.getElem?_eq_getElem hb]; rfl
  have e3 : [gi Z b 0, gi Z b 1, gi Z b 2] = Z[b] := by
   have := hZ _ (List.getElem_mem hb)
   unfold gi; rw [← e]
   exact (row_eq3 this).symm
  have e2 : [a.getD 0 0, a.getD 1 0] = a := (row_eq2 (hD a (List.mem_cons_self ..))).symm
  constructor
  ·refine h1.trans ?_
   show (Z.eraseIdx b ++ [gi Z b 0, gi Z b 1, gi Z b 2] :: acc.map (·.take 3)).Perm _
   rw [e3]
   exact List.perm_middle.trans (List.Perm.append_right _ (erase_perm hb))
  ·refine h2.trans ?_
   show (D ++ [a.getD 0 0, a.getD 1 0] :: acc.map (·.drop 3)).Perm _
   rw [e2]
   exact List.perm_middle
def foldP (g : List Int → List Rat) (L : List (List Int)) : List Rat := L.foldl (fun a p => trimQ (mulQ a (g p))) [1]
theorem csP_fold (g : List Int → List Rat) (h : n ≤ L.length) : csP g L n = foldP g (L.take n) := by
 induction n with
 | zero => rfl
 | succ n ih =>
  have e : L[n] = L.getD n [] := by rw [List.getD_eq_getElem?_getD, List.getElem?_eq_getElem xq]; rfl
  show trimQ (mulQ (csP g L n) (g (L.getD n []))) = _
  unfold foldP
  rw [ih xq, List.take_succ_eq_append_getElem xq, List.foldl_append, ← e]; rfl
theorem foldP_perm (g : List Int → List Rat) (h : L.Perm M) : foldP g L = foldP g M := by
 unfold foldP
 refine h.foldl_eq' (fun x _ y _ z => ?_) _
 refine Pol.mk_eq.1 ?_
 rw [Pol.mk_mul, Pol.mk_mul, mk_trim, mk_trim, Pol.mk_mul, Pol.mk_mul]
 grind
theorem csP_N (f : Int) : csP (csN f) L L.length = foldP (csN f) (L.map (·.take 3)) := by
 rw [csP_fold _ (Nat.le_refl _), List.take_length]
 unfold foldP
 rw [List.foldl_map]
 congr 1
 funext a p
 have : csN f (p.take 3) = csN f p := by unfold csN; simp [List.getD_eq_getElem?_getD, List.getElem?_take]
 rw [this]
def csD2 (f : Int) (p : List Int) : List Rat := [1, wq (p.getD 0 0) f, wq (p.getD 1 0) f]
theorem csP_D (f : Int) : csP (csD f) L L.length = foldP (csD2 f) (L.map (·.drop 3)) := by
 rw [csP_fold _ (Nat.le_refl _), List.take_length]
 unfold foldP
 rw [List.foldl_map]
 congr 1
 funext a p
 have : csD2 f (p.drop 3) = csD f p := by unfold csD csD2; simp [List.getD_eq_getElem?_getD, List.getElem?_drop]
 rw [this]
theorem pair_prod (f : Int) (h1 : (L.map (·.take 3)).Perm (M.map (·.take 3))) (h2 : (L.map (·.drop 3)).Perm (M.map (·.drop 3))) : csP (csN f) L L.length = csP (csN f) M M.length ∧ csP (csD f) L L.length = csP (csD f) M M.length := by
 rw [csP_N, csP_N, csP_D, csP_D]
 exact ⟨foldP_perm _ h1, foldP_perm _ h2⟩
section
variable {b : Int} {f : Int} {W : WL}
theorem row5_parts {p : List Int} (h : p.length = 5) : p.take 3 = [p.getD 0 0, p.getD 1 0, p.getD 2 0] ∧ p.drop 3 = [p.getD 3 0, p.getD 4 0] := by
 rw [row_eq5 h]; exact ⟨rfl, rfl⟩
theorem parts_ok (hb : b ≤ 16777216) (hS : ∀ p ∈ L, p.length = 5 ∧ ∀ z ∈ p, -b ≤ z ∧ z ≤ b) : OkR 3 (L.map (·.take 3)) ∧ OkR 2 (L.map (·.drop 3)) := by
 constructor
 ·intro q hq
  obtain ⟨p, hp, rfl⟩ := List.mem_map.1 hq
  obtain ⟨h1, h2⟩ := hS p hp
  refine ⟨by rw [List.length_take, h1]; rfl, fun z hz => ?_⟩
  have := h2 z (List.mem_of_mem_take hz)
  omega
 ·intro q hq
  obtain ⟨p, hp, rfl⟩ := List.mem_map.1 hq
  obtain ⟨h1, h2⟩ := hS p hp
  refine ⟨by rw [List.length_drop, h1], fun z hz => ?_⟩
  have := h2 z (List.mem_of_mem_drop hz)
  omega
theorem paired_perm (hb : b ≤ 16777216) (hS : ∀ p ∈ L, p.length = 5 ∧ ∀ z ∈ p, -b ≤ z ∧ z ≤ b) (hM : M = pairR (sortR (L.map (·.drop 3))) (L.map (·.take 3)) []) : (M.map (·.take 3)).Perm (L.map (·.take 3)) ∧ (M.map (·.drop 3)).Perm (L.map (·.drop 3)) := by
 obtain ⟨h3, h2⟩ := parts_ok hb hS
 have hs := sort_perm (D := L.map (·.drop 3)) (fun p hp => (h2 p hp).1)
 obtain ⟨k1, k2⟩ := pair_perm (D := sortR (L.map (·.drop 3))) (Z := L.map (·.take 3)) (acc := []) (fun p hp => (h2 p (hs.mem_iff.1 hp)).1) (fun p hp => (h3 p hp).1) (by rw [sortR_len, List.length_map, List.length_map])
 rw [List.map_nil, List.append_nil, ← hM] at k1 k2
 exact ⟨k1, k2.trans hs⟩
theorem paired_rows (hb : b ≤ 16777216) (hS : ∀ p ∈ L, p.length = 5 ∧ ∀ z ∈ p, -b ≤ z ∧ z ≤ b) (hM : M = pairR (sortR (L.map (·.drop 3))) (L.map (·.take 3)) []) : M.length = L.length ∧ ∀ p ∈ M, p.length = 5 ∧ ∀ z ∈ p, -b ≤ z ∧ z ≤ b := by
 obtain ⟨h1, h2⟩ := paired_perm hb hS hM
 refine ⟨by have := h1.length_eq; simpa using this, fun p hp => ?_⟩
 obtain ⟨q, hq, e1⟩ := List.mem_map.1 (h1.mem_iff.1 (List.mem_map_of_mem hp))
 obtain ⟨r, hr, e2⟩ := List.mem_map.1 (h2.mem_iff.1 (List.mem_map_of_mem hp))
 have e1 : q.take 3 = p.take 3 := e1
 have e2 : r.drop 3 = p.drop 3 := e2
 have l1 : (p.take 3).length = 3 := by rw [← e1, List.length_take, (hS q hq).1]; rfl
 have l2 : (p.drop 3).length = 2 := by rw [← e2, List.length_drop, (hS r hr).1]
 have l3 : (p.take 3 ++ p.drop 3).length = 5 := by rw [List.length_append, l1, l2]
 rw [List.take_append_drop] at l3
 refine ⟨l3, fun z hz => ?_⟩
 rw [← List.take_append_drop 3 p] at hz
 rcases List.mem_append.1 hz with hz | hz
 ·rw [← e1] at hz; exact (hS q hq).2 z (List.mem_of_mem_take hz)
 ·rw [← e2] at hz; exact (hS r hr).2 z (List.mem_of_mem_drop hz)
theorem paired_prod (hb : b ≤ 16777216) (hS : ∀ p ∈ L, p.length = 5 ∧ ∀ z ∈ p, -b ≤ z ∧ z ≤ b) (hM : M = pairR (sortR (L.map (·.drop 3))) (L.map (·.take 3)) []) : csP (csN f) M M.length = csP (csN f) L L.length ∧ csP (csD f) M M.length = csP (csD f) L L.length := by
 obtain ⟨h1, h2⟩ := paired_perm hb hS hM
 exact pair_prod f h1 h2
theorem take_k3 (hS : ∀ p ∈ L, p.length = 5 ∧ ∀ z ∈ p, -b ≤ z ∧ z ≤ b) (hi : i < L.length) : kcs ((L.take (i + 1)).map (·.take 3)) = kcs ((L.take i).map (·.take 3)) ++ [.int .i64 (gi L i 0), .int .i64 (gi L i 1), .int .i64 (gi L i 2)] := by
 have e : L[i] = L.getD i [] := by rw [List.getD_eq_getElem?_getD, List.getElem?_eq_getElem hi]; rfl
 have h5 := (hS _ (List.getElem_mem hi)).1
 rw [e] at h5
 rw [List.take_succ_eq_append_getElem hi, List.map_append, kcs_app, e]
 show _ ++ (ics ((L.getD i []).take 3) ++ []) = _
 rw [(row5_parts h5).1, List.append_nil]; rfl
theorem take_k2 (hS : ∀ p ∈ L, p.length = 5 ∧ ∀ z ∈ p, -b ≤ z ∧ z ≤ b) (hi : i < L.length) : kcs ((L.take (i + 1)).map (·.drop 3)) = kcs ((L.take i).map (·.drop 3)) ++ [.int .i64 (gi L i 3), .int .i64 (gi L i 4)] := by
 have e : L[i] = L.getD i [] := by rw [List.getD_eq_getElem?_getD, List.getElem?_eq_getElem hi]; rfl
 have h5 := (hS _ (List.getElem_mem hi)).1
 rw [e] at h5
 rw [List.take_succ_eq_append_getElem hi, List.map_append, kcs_app, e]
 show _ ++ (ics ((L.getD i []).drop 3) ++ []) = _
 rw [(row5_parts h5).2, List.append_nil]; rfl
theorem rows_bd9 {L : List (List Int)} (hW : WdOK W) (h : ∀ p ∈ L, p.length = 5 ∧ ∀ z ∈ p, -(p2i (W.b - 1) - 1) ≤ z ∧ z ≤ p2i (W.b - 1) - 1) : ∀ p ∈ L, ∀ z ∈ p, -9223372036854775808 ≤ z ∧ z ≤ 9223372036854775807 := fun p hp z hz => by
 have h1 := (h p hp).2 z hz
 have h2 := p2i_24 (n := W.b - 1) (by obtain ⟨_, h3, _⟩ := hW; omega)
 omega
end
theorem sec_nil9 {b : Int} : ∀ p ∈ ([] : List (List Int)), p.length = 5 ∧ ∀ z ∈ p, -b ≤ z ∧ z ≤ b := fun p hp => by cases hp
theorem sec_snoc9 {lo a b c d e : Int} (h : ∀ p ∈ L, p.length = 5 ∧ ∀ z ∈ p, -lo ≤ z ∧ z ≤ lo) (h1 : -lo ≤ a ∧ a ≤ lo) (h2 : -lo ≤ b ∧ b ≤ lo) (h3 : -lo ≤ c ∧ c ≤ lo) (h4 : -lo ≤ d ∧ d ≤ lo) (h5 : -lo ≤ e ∧ e ≤ lo) : ∀ p ∈ L ++ [[a, b, c, d, e]], p.length = 5 ∧ ∀ z ∈ p, -lo ≤ z ∧ z ≤ lo := fun p hp => by
 rcases List.mem_append.1 hp with hp | hp
 ·exact h p hp
 ·rw [List.mem_singleton.1 hp]
  refine ⟨rfl, fun z hz => ?_⟩
  simp at hz
  rcases hz with rfl | rfl | rfl | rfl | rfl
  ·exact h1
  ·exact h2
  ·exact h3
  ·exact h4
  ·exact h5
end Nt
section
variable {P : Program} {ops : Array Oper} {w0 : Base} {u0 : World} {S : St} {u : World} {Q : MP} {listed : Array Bool}
theorem takeXR (i d n : Nat) (x : SV) {t : Tmp} (hat : x.at? = some t) (listed' : Array Bool) (k : AnyX P w0 u0 ops listed' n (S.set d x) u Q) (hp : ∀ c S u, ¬ Q.f (.panic c) S u) (hl : listed.setIfInBounds i true = listed')
  (hs : (Region.noSelect ops && Region.free .any ops listed i && (Region.ready .any ops listed).contains i && Nat.blt i ops.size && (ops.getD i default).dst == some d && (ops.getD i default).guard.isNone && freeB S d) = true) (hv : (S.var t).isSome = true)
  (hrun : ∀ B a w, RegOK S B a → (execOp a.eval (ops.getD i default)).run P w = .ok (.value (x.conc B)) w) : AnyX P w0 u0 ops listed (n + 1) S u Q := by
 intro B a w u' e hr
 simp only [Bool.and_eq_true, beq_iff_eq, Option.isNone_iff_eq_none] at hs
 obtain ⟨⟨⟨⟨⟨⟨h1, h2⟩, h3⟩, h4⟩, h5⟩, h6⟩, h8⟩ := hs
 have hi : ops[i]? = some (ops.getD i default) := get_op (Nat.le_of_ble_eq_true h4)
 subst hl
 refine wpAny_take (v := x.conc B) hi h1 h2 h3 (fun c a w h => ?_) (.inl ⟨zwh (S := S) h6 B a hr.regs, fun w => hrun B a w hr.regs⟩) ?_
 ·obtain ⟨S', B', u'', _, g⟩ := h
  exact absurd g (hp c S' u'')
 ·refine k B _ w u' e ?_
  rw [h5]
  exact hr.set (d := some d) (x := some x) (v := x.conc B) (fun s hs => (zxz h5 h8 s (by rw [h5]; exact hs)).1) (fun z e => by injection e with e; rw [← e]) (fun z t' e ht => by
   injection e with e
   rw [← e, hat] at ht
   injection ht with ht
   subst ht
   exact Option.isSome_iff_exists.1 hv)
theorem takeXm (i d n : Nat) {r t : Tmp} {off m c : Nat} (listed' : Array Bool) (k : AnyX P w0 u0 ops listed' n (S.set d (.slc t off m c)) u Q) (hp : ∀ c S u, ¬ Q.f (.panic c) S u := by intro c S u h; exact h) (hl : listed.setIfInBounds i true = listed' := by kernel_rfl)
  (hs : (Region.noSelect ops && Region.free .any ops listed i && (Region.ready .any ops listed).contains i && Nat.blt i ops.size && (ops.getD i default).dst == some d && (ops.getD i default).guard.isNone && freeB S d) = true := by kernel_rfl)
  (hop : (ops.getD i default).op = .move (.tmp r) := by rfl) (hx : S.reg r = some (.slc t off m c) := by rfl) (hv : (S.var t).isSome = true := by rfl) : AnyX P w0 u0 ops listed (n + 1) S u Q :=
 takeXR i d n _ rfl listed' k hp hl hs hv (fun B a w hr => by unfold execOp; rw [hop]; show Sem.run P (pure (Next.value (a.eval (.tmp r)))) w = _; rw [hr.eval hx]; rfl)
theorem takeXf (i d n : Nat) {T : TypeId} {r t : Tmp} {h : Operand} {m c : Nat} {k : IntKind} {z : Int} (q : Nat) {sz : Nat} (hT : SlIs P T sz) (hi : z = q) (hm : q ≤ c) (listed' : Array Bool) (kk : AnyX P w0 u0 ops listed' n (S.set d (.slc t 0 q c)) u Q) (hp : ∀ c S u, ¬ Q.f (.panic c) S u := by intro c S u h; exact h) (hl : listed.setIfInBounds i true = listed' := by kernel_rfl)
  (hs : (Region.noSelect ops && Region.free .any ops listed i && (Region.ready .any ops listed).contains i && Nat.blt i ops.size && (ops.getD i default).dst == some d && (ops.getD i default).guard.isNone && freeB S d) = true := by kernel_rfl)
  (hop : (ops.getD i default).op = .slice T (.tmp r) none (some h) none := by rfl) (hx : S.reg r = some (.slc t 0 m c) := by rfl) (hh : evO S h = some (.v (.int k z)) := by rfl) (hv : (S.var t).isSome = true := by rfl) : AnyX P w0 u0 ops listed (n + 1) S u Q := by
 subst hi
 obtain ⟨E, agg, hu, hE⟩ := hT
 refine takeXR i d n _ rfl listed' kk hp hl hs hv (fun B a w hr => ?_)
 have e1 : (execOp a.eval (ops.getD i default)).run P w = (do pure (Next.value (← Instr.sliceAt T (a.eval (.tmp r)) none (some (a.eval h)) none)) : Sem Next).run P w := by unfold execOp; rw [hop]; rfl
 rw [e1, hr.eval hx, ev_eval hr hh]
 refine run_val ?_
 show (Instr.sliceAt T (.slice (some ⟨B t, 0, none⟩) m c) none (some (.int k q)) none).run P w = .ok (.slice (some ⟨B t, 0, none⟩) q c) w
 have hs := (hE w).2
 simp [Instr.sliceAt, Instr.slice, Instr.sliceBounds, Instr.sliceBound, asIntOf, run_underlying hu, go_sem, hs, hm]
theorem takeXt (i d n : Nat) {T : TypeId} {r t : Tmp} {g : Operand} {off m c : Nat} {k1 : IntKind} {i1 : Int} (lo : Nat) {sz : Nat} (hT : SlIs P T sz) (e1 : i1 = lo) (h1 : lo ≤ m) (h2 : m ≤ c) (listed' : Array Bool)
  (kk : ∀ off', off' = (if c = lo then off else off + lo * sz) → AnyX P w0 u0 ops listed' n (S.set d (.slc t off' (m - lo) (c - lo))) u Q) (hp : ∀ c S u, ¬ Q.f (.panic c) S u := by intro c S u h; exact h) (hl : listed.setIfInBounds i true = listed' := by kernel_rfl)
  (hs : (Region.noSelect ops && Region.free .any ops listed i && (Region.ready .any ops listed).contains i && Nat.blt i ops.size && (ops.getD i default).dst == some d && (ops.getD i default).guard.isNone && freeB S d) = true := by kernel_rfl)
  (hop : (ops.getD i default).op = .slice T (.tmp r) (some g) none none := by rfl) (hx : S.reg r = some (.slc t off m c) := by rfl) (hg : evO S g = some (.v (.int k1 i1)) := by rfl) (hv : (S.var t).isSome = true := by rfl) : AnyX P w0 u0 ops listed (n + 1) S u Q := by
 subst e1
 obtain ⟨E, agg, hu, hE⟩ := hT
 refine takeXR i d n _ rfl listed' (kk _ rfl) hp hl hs hv (fun B a w hr => ?_)
 have e1 : (execOp a.eval (ops.getD i default)).run P w = (do pure (Next.value (← Instr.sliceAt T (a.eval (.tmp r)) (some (a.eval g)) none none)) : Sem Next).run P w := by unfold execOp; rw [hop]; rfl
 rw [e1, hr.eval hx, ev_eval hr hg]
 refine run_val ?_
 show (Instr.sliceAt T (.slice (some ⟨B t, off, none⟩) m c) (some (.int k1 lo)) none none).run P w = .ok (.slice (some ⟨B t, if c = lo then off else off + lo * sz, none⟩) (m - lo) (c - lo)) w
 have hs := (hE w).2
 by_cases e : c = lo
 ·simp [Instr.sliceAt, Instr.slice, Instr.sliceBounds, Instr.sliceBound, asIntOf, run_underlying hu, go_sem, hs, e, h1]
 ·simp [Instr.sliceAt, Instr.slice, Instr.sliceBounds, Instr.sliceBound, asIntOf, run_underlying hu, go_sem, hs, e, h1, h2, Addr.add]
theorem takeXi (i d n off' : Nat) {T : TypeId} {x ix : Operand} {A : Option Addr} {b off m c sz : Nat} {k : IntKind} {z : Int} (ho : off' = off + z.toNat * sz) (hA : A = some ⟨b, off, none⟩) (h0 : 0 ≤ z) (h1 : z < m) (hT : SlIs P T sz) (listed' : Array Bool)
  (kk : AnyX P w0 u0 ops listed' n (S.set d (.v (.pointer (some ⟨b, off', none⟩)))) u Q) (hp : ∀ c S u, ¬ Q.f (.panic c) S u := by intro c S u h; exact h) (hl : listed.setIfInBounds i true = listed' := by kernel_rfl)
  (hs : (Region.noSelect ops && Region.free .any ops listed i && (Region.ready .any ops listed).contains i && Nat.blt i ops.size && (ops.getD i default).dst == some d && (ops.getD i default).guard.isNone && freeB S d) = true := by kernel_rfl)
  (hop : (ops.getD i default).op = .indexAddr T x ix := by rfl) (hx : evO S x = some (.v (.slice A m c)) := by rfl) (hi : evO S ix = some (.v (.int k z)) := by rfl) : AnyX P w0 u0 ops listed (n + 1) S u Q := by
 subst hA ho
 intro B a w u' e hr
 simp only [Bool.and_eq_true, beq_iff_eq, Option.isNone_iff_eq_none] at hs
 obtain ⟨⟨⟨⟨⟨⟨h1', h2⟩, h3⟩, h4⟩, h5⟩, h6⟩, h8⟩ := hs
 have hgi : ops[i]? = some (ops.getD i default) := get_op (Nat.le_of_ble_eq_true h4)
 subst hl
 refine wpAny_take (v := .pointer (some ⟨b, off + z.toNat * sz, none⟩)) hgi h1' h2 h3 (fun c a w h => ?_) (.inl ⟨zwh (S := S) h6 B a hr.regs, fun w => ?_⟩) ?_
 ·obtain ⟨S', B', u'', _, g⟩ := h
  exact absurd g (hp c S' u'')
 ·have e1 : (execOp a.eval (ops.getD i default)).run P w = (do pure (Next.value (← Instr.indexAt T (a.eval x) (a.eval ix))) : Sem Next).run P w := by unfold execOp; rw [hop]
  rw [e1, ev_eval hr.regs hx, ev_eval hr.regs hi]
  exact run_val (run_index hT h0 h1)
 ·refine kk B _ w u' e ?_
  rw [h5]
  exact hr.set (d := some d) (x := some (.v (.pointer (some ⟨b, off + z.toNat * sz, none⟩)))) (v := .pointer (some ⟨b, off + z.toNat * sz, none⟩)) (fun s hs => (zxz h5 h8 s (by rw [h5]; exact hs)).1) (fun y e => by injection e with e; rw [← e]; rfl) (fun y t e ht => by injection e with e; rw [← e] at ht; cases ht)
end
namespace Nt
theorem befV_gi {D : List (List Int)} {i k : Nat} : befV (gi D i 0) (gi D i 1) (gi D k 0) (gi D k 1) = !befZ (D.getD k []) (D.getD i []) := befV_eq
end Nt
set_option maxHeartbeats 8000000 in
theorem k_rpair {u w : World} {x y : Sl} {Z D : List (List Int)} (d : Dat u w) (hx : IrV 3 u x Z) (hy : IrV 2 u y D) (hZ : OkR 3 Z) (hD : OkR 2 D) (hl : Z.length = D.length) (h0 : 0 < D.length) (h8 : D.length ≤ 8) : Calls Tryz.prog 10 #[x.v, y.v] w (Post u w fun v u' => ∃ z : Sl, v = .tuple #[z.v, .int .i64 0] ∧ IrV 5 u' z (Nt.pairR (Nt.sortR D) Z [])) := by
 have hlx := hx.len
 have hly := hy.len
 obtain ⟨ya, yn, yc⟩ := y
 change yn = D.length at hly
 obtain rfl : yn = x.n := by omega
 refine zzm (args := [.slice x.a x.n x.c, .slice ya x.n yc]) Tryz.func10 rfl Tryz.ntmps10 (rs := [.tmp 4, .tmp 5]) Tryz.results10 (le_b rfl) (le_b rfl) d ?_
 refine sq9 (zza 4 (.v (.slice none 0 0)) (zza 5 (zI 0) (zzb (zzd (sq9 (zza 14 (.v x.v) (zza 15 (zI x.n) (zza 16 (.v (.slice ya x.n yc)) (zza 17 (zI x.n) (zza 18 (zB ((x.n : Int) != (x.n : Int))) (zyq 19 (x := zB ((x.n : Int) != (x.n : Int))) (zB false) (by rw [show ((x.n : Int) != (x.n : Int)) = false from (by first | (simp; done) | (simp; omega))]) ?_)))))))))))
 refine zza 20 (.v (.slice ya x.n yc)) ?_ (hw := w1 5 false 19)
 refine zza 21 (zI x.n) ?_ (hw := w1 5 false 19)
 refine zzg 22 38 [.int .i64 x.n, .int .i64 1, .int .i64 8] ?_ (hw := w1 5 false 19)
 intro w12 u12 e12 d12
 have k15 := k_in d12 (z := (x.n : Int)) (a := 1) (b := 8)
 with_reducible refine zPm k15 ?_
 rintro _ u13 g14 rfl
 refine zza 23 (zB (!(decide ((1 : Int) ≤ (x.n : Int)) && decide ((x.n : Int) ≤ 8)))) ?_ (hw := w1 5 false 19)
 refine zza 24 (zB (!(decide ((1 : Int) ≤ (x.n : Int)) && decide ((x.n : Int) ≤ 8)))) (zzb (zzu (b := !(decide ((1 : Int) ≤ (x.n : Int)) && decide ((x.n : Int) ≤ 8))) xj (fun hb => ?_) (fun hb => ?_)))
 ·exact absurd hb (by rw [show (!(decide ((1 : Int) ≤ (x.n : Int)) && decide ((x.n : Int) ≤ 8))) = false from yw]; decide)
 ·clear hb
  refine zzs (zzp ?_)
  refine zzd (sq9 (zza 6 (zI 0) (zzb (zzt (zyn (I := fun m16 S' u' => ∃ (n : Nat), (m16 = x.n - n) ∧ (n ≤ x.n) ∧ (S' = St.of 126 [(0, .v (.slice x.a x.n x.c)), (1, .v (.slice ya x.n yc)), (6, zI n)] []) ∧ (Ext u13 u')) (fun m S u1 u2 e h => by obtain ⟨n, hm, p0, hS, hE⟩ := h; exact ⟨n, hm, p0, hS, hE.trans e⟩) _ yj ⟨0, rfl, Nat.zero_le _, rfl, (Ext.refl _)⟩ ?_)))))
  rintro m16 _ u16 ⟨n, hm16, hn, rfl, e16⟩
  refine zzd (sq9 (zza 25 (zI n) (zza 26 (.v (.slice ya x.n yc)) (zza 27 (zI x.n) (zza 28 (zB (decide ((n : Int) < (x.n : Int)))) (zzb (zzu (b := decide ((n : Int) < (x.n : Int))) xj (fun hb17 => ?_) (fun hb17 => ?_))))))))
  ·replace hb17 : (decide ((n : Int) < (x.n : Int))) = true := hb17
   have qhb17 := of_decide_eq_true hb17
   refine zzs (zzp ?_)
   refine zzd (zzt (sq9 (zza 31 (.v x.v) (zza 32 (zI n) ?_))))
   have hl18 := ((hx.ext (e12.trans (g14.ext.trans e16)))).len
   obtain ⟨b18, o18, hA18, hc18⟩ := ir_row (hx.ext (e12.trans (g14.ext.trans e16))) (i := n) xq yv
   refine zya 33 (o18 + n * 3) (n := x.n) (off := o18) (sz := 3) (i := (n : Int)) xq hA18 xq xq sl22 (zza 34 (.v (.slice (some ⟨b18, o18 + n * 3, none⟩) 3 3)) (zzg 35 39 [.slice (some ⟨b18, o18 + n * 3, none⟩) 3 3, .int .i64 24] ?_))
   intro w19 u19 e19 d19
   have k22 := (show Calls _ _ #[.slice (some ⟨b18, o18 + n * 3, none⟩) 3 3, .int .i64 24] _ _ from k_rsmall21 (x := (⟨some ⟨b18, o18 + n * 3, none⟩, 3, 3⟩ : Sl)) d19 (hc18.ext e19) (fun z hz => by have h9 := (OkR.mem hZ (i := n) xq).2 z hz; omega))
   with_reducible refine zPm k22 ?_
   rintro _ u20 g21 rfl
   refine zza 36 (zB (!(Nt.smallB (Z.getD n [])))) (zyq 37 (x := zB (!(Nt.smallB (Z.getD n [])))) (zB false) (by rw [show (!(Nt.smallB (Z.getD n []))) = false from (by rw [Nt.smallB_of hZ xq]; rfl)]) (zza 38 (.v (.slice ya x.n yc)) ?_ (hw := w1 6 false 37)))
   refine zza 39 (zI n) ?_ (hw := w1 6 false 37)
   have hl24 := ((hy.ext (e12.trans (g14.ext.trans (e16.trans (e19.trans g21.ext)))))).len
   change x.n = _ at hl24
   obtain ⟨b24, o24, hA24, hc24⟩ := ir_row (hy.ext (e12.trans (g14.ext.trans (e16.trans (e19.trans g21.ext))))) (i := n) xq yv
   refine zya 40 (o24 + n * 2) (n := x.n) (off := o24) (sz := 2) (i := (n : Int)) xq hA24 xq xq sl23 ?_ (hw := w1 6 false 37)
   refine zza 41 (.v (.slice (some ⟨b24, o24 + n * 2, none⟩) 2 2)) ?_ (hw := w1 6 false 37)
   refine zzg 42 39 [.slice (some ⟨b24, o24 + n * 2, none⟩) 2 2, .int .i64 24] ?_ (hw := w1 6 false 37)
   intro w25 u25 e25 d25
   have k28 := (show Calls _ _ #[.slice (some ⟨b24, o24 + n * 2, none⟩) 2 2, .int .i64 24] _ _ from k_rsmall21 (x := (⟨some ⟨b24, o24 + n * 2, none⟩, 2, 2⟩ : Sl)) d25 (hc24.ext e25) (fun z hz => by have h9 := (OkR.mem hD (i := n) xq).2 z hz; omega))
   with_reducible refine zPm k28 ?_
   rintro _ u26 g27 rfl
   refine zza 43 (zB (!(Nt.smallB (D.getD n [])))) ?_ (hw := w1 6 false 37)
   refine zza 44 (zB (!(Nt.smallB (D.getD n [])))) (zzc 126 [(0, .v x.v), (1, .v (.slice ya x.n yc)), (6, zI n), (44, zB (!(Nt.smallB (D.getD n []))))] [] (zzu (b := !(Nt.smallB (D.getD n []))) xj (fun hb => ?_) (fun hb => ?_)))
   ·exact absurd hb (by rw [show (!(Nt.smallB (D.getD n []))) = false from (by rw [Nt.smallB_of hD xq]; rfl)]; decide)
   ·clear hb
    refine zzs (zzp ?_)
    refine zzf (zza 29 (zI n) (zyq 30 (x := zI (IntKind.i64.wrap ((n : Int) + 1))) (zI (n + 1 : Nat)) (eqI xw) (zza 6 (zI (n + 1 : Nat)) (zzx ?_))))
    refine ⟨_, ?_, _, by exact zzv _ _ _, n + 1, rfl, by omega, rfl, (e16.trans (e19.trans (g21.ext.trans (e25.trans g27.ext))))⟩
    omega
  ·replace hb17 : (decide ((n : Int) < (x.n : Int))) = false := hb17
   have qhb17 := of_decide_eq_false hb17
   refine zyc (zzp (sq9 (sy_lit 45 ⟨29, []⟩ 0 ?_)))
   refine zza 46 (.v x.v) ?_
   have hs29 := IrV.src (hx.ext (e12.trans (g14.ext.trans e16)))
   refine sy_appS 47 (T := 22) (E := 29) (z := .agg #[.int .i64 0, .int .i64 0, .int .i64 0]) (size := 3) (bytes := 24) (A := x.a) (m := x.n) (c := x.c) (n := 0) (cap := 0) (t := 45) (cs0 := []) [45, 47] (kcs Z) xj xj xj yq hs29.1 hs29.2 kcs_one yv xq xq yq rfl xk ?_
   intro c29 cs29 ha29 hb29 hc29 hd29
   rw [Nat.zero_add] at ha29 hd29
   obtain ⟨X29, rfl⟩ : ∃ X, cs29 = kcs Z ++ X := ⟨cs29.drop (x.n * 3), by rw [← show cs29.take (x.n * 3) = kcs Z from hd29]; exact (List.take_append_drop _ _).symm⟩
   rw [Nat.zero_add]
   refine sy_lit 48 ⟨30, []⟩ 0 ?_
   refine zza 49 (.v (.slice ya x.n yc)) ?_
   have hs30 := IrV.src (hy.ext (e12.trans (g14.ext.trans e16)))
   refine sy_appS 50 (T := 23) (E := 30) (z := .agg #[.int .i64 0, .int .i64 0]) (size := 2) (bytes := 16) (A := ya) (m := x.n) (c := yc) (n := 0) (cap := 0) (t := 48) (cs0 := []) [48, 50] (kcs D) xj xj xj yq hs30.1 hs30.2 kcs_one yv xq xq yq rfl xk ?_
   intro c30 cs30 ha30 hb30 hc30 hd30
   rw [Nat.zero_add] at ha30 hd30
   obtain ⟨X30, rfl⟩ : ∃ X, cs30 = kcs D ++ X := ⟨cs30.drop (x.n * 2), by rw [← show cs30.take (x.n * 2) = kcs D from hd30]; exact (List.take_append_drop _ _).symm⟩
   rw [Nat.zero_add]
   refine zza 7 (.slc 47 0 x.n c29) (zza 8 (.slc 50 0 x.n c30) (zzc 126 [(7, .slc 47 0 x.n c29), (8, .slc 50 0 x.n c30)] [(47, ⟨29, kcs Z ++ X29⟩), (50, ⟨30, kcs D ++ X30⟩)] (sq9 (zza 9 (.v (.slice none 0 0)) (zzb (zzd (zzt (zyn (I := fun m31 S' u' => ∃ (m : Nat) (Z' : List (List Int)) (D' : List (List Int)) (X' : List Value) (Y' : List Value) (zo : Sl) (A' : List (List Int)), (m31 = m) ∧ (OkR 3 Z') ∧ (OkR 2 D') ∧ (Z'.length = m) ∧ (D'.length = m) ∧ (m ≤ x.n) ∧ ((kcs Z' ++ X').length = c29 * 3) ∧ ((kcs D' ++ Y').length = c30 * 2) ∧ (A'.length + m = x.n) ∧ (Nt.pairR (Nt.sortR D') Z' A' = Nt.pairR (Nt.sortR D) Z []) ∧ (S' = St.of 126 [(7, .slc 47 0 m c29), (8, .slc 50 0 m c30), (9, .v (.slice zo.a zo.n zo.c))] [(47, ⟨29, kcs Z' ++ X'⟩), (50, ⟨30, kcs D' ++ Y'⟩)]) ∧ (Ext u16 u') ∧ (IrV 5 u' zo A')) (fun m S u1 u2 e h => by obtain ⟨m, Z', D', X', Y', zo, A', hm, p0, p1, p2, p3, p4, p5, p6, p7, p8, hS, hE, f0⟩ := h; exact ⟨m, Z', D', X', Y', zo, A', hm, p0, p1, p2, p3, p4, p5, p6, p7, p8, hS, hE.trans e, f0.ext e⟩) _ yj ⟨x.n, Z, D, X29, X30, ⟨none, 0, 0⟩, [], rfl, hZ, hD, xq, xq, xq, hc29, hc30, (by show 0 + _ = _; omega), rfl, rfl, (Ext.refl _), IrV.nil⟩ ?_))))))))
   rintro m31 _ u31 ⟨m, Z', D', X', Y', zo, A', hm31, hZ', hD', hZn', hDn', hm9, hX', hY', hAl, hP', rfl, e31, hA⟩
   refine zzd (sq9 (zza 51 (.slc 50 0 m c30) (zza 52 (zI m) (zza 53 (zB (decide ((0 : Int) < (m : Int)))) (zzc 126 [(7, .slc 47 0 m c29), (8, .slc 50 0 m c30), (9, .v zo.v), (53, zB (decide ((0 : Int) < (m : Int))))] [(47, ⟨29, kcs Z' ++ X'⟩), (50, ⟨30, kcs D' ++ Y'⟩)] (zzu (b := decide ((0 : Int) < (m : Int))) xj (fun hb32 => ?_) (fun hb32 => ?_)))))))
   ·replace hb32 : (decide ((0 : Int) < (m : Int))) = true := hb32
    have qhb32 := of_decide_eq_true hb32
    refine zzs (zzp ?_)
    refine zzt (sq9 (zza 10 (zI 0) (zzb (zzd (sq9 (zza 11 (zI 1) (zzb (zzt (zyn (I := fun m33 S' u' => ∃ (k : Nat) (i : Nat), (m33 = m - k) ∧ (1 ≤ k) ∧ (k ≤ m) ∧ (i = Nt.selR D' k) ∧ (S' = St.of 126 [(7, .slc 47 0 m c29), (8, .slc 50 0 m c30), (9, .v (.slice zo.a zo.n zo.c)), (10, zI i), (11, zI k)] [(47, ⟨29, kcs Z' ++ X'⟩), (50, ⟨30, kcs D' ++ Y'⟩)]) ∧ (Ext u31 u')) (fun m S u1 u2 e h => by obtain ⟨k, i, hm, p0, p1, p2, hS, hE⟩ := h; exact ⟨k, i, hm, p0, p1, p2, hS, hE.trans e⟩) _ yj ⟨1, 0, rfl, Nat.le_refl _, by omega, Nt.selR_one.symm, rfl, (Ext.refl _)⟩ ?_)))))))))
    rintro m33 _ u33 ⟨k, i, hm33, hk1, hk, hi, rfl, e33⟩
    have hiL : i < m := by rw [hi]; exact Nt.sel_in xq hk
    refine zzd (sq9 (zza 54 (zI k) (zza 55 (.slc 50 0 m c30) (zza 56 (zI m) (zza 57 (zB (decide ((k : Int) < (m : Int)))) (zzc 126 [(7, .slc 47 0 m c29), (8, .slc 50 0 m c30), (9, .v zo.v), (10, zI i), (11, zI k), (57, zB (decide ((k : Int) < (m : Int))))] [(47, ⟨29, kcs Z' ++ X'⟩), (50, ⟨30, kcs D' ++ Y'⟩)] (zzu (b := decide ((k : Int) < (m : Int))) xj (fun hb34 => ?_) (fun hb34 => ?_))))))))
    ·replace hb34 : (decide ((k : Int) < (m : Int))) = true := hb34
     have qhb34 := of_decide_eq_true hb34
     refine zzs (zzp ?_)
     refine zzd (zzt (zzd (zzz [0, 0, 3, 7, 0, 0, 48, 112, 255, 511] [(0, []), (1, []), (2, []), (3, []), (4, []), (5, []), (6, []), (7, []), (8, []), (9, [])] xj xj (zza 60 (.slc 50 0 m c30) (zza 61 (zI i) (zyw 62 (off' := i * 2) (n := m) (off := 0) (sz := 2) (i := (i : Int)) sl23 xq xq xq ?_))))))
     refine zzi 63 (V := ⟨30, kcs D' ++ Y'⟩) (off := i * 2) (.v (.agg #[.int .i64 (gi D' i 0), .int .i64 (gi D' i 1)])) ty30 (part_k2 (OkR.rows hD') (i := i) (by rw [hDn']; omega) rfl) ?_
     have hz350 := OkR.bd hD' (i := i) (j := 0) (by rw [hDn']; omega) yq
     have hz351 := OkR.bd hD' (i := i) (j := 1) (by rw [hDn']; omega) yq
     refine zza 64 (.slc 50 0 m c30) (zza 65 (zI k) (zyw 66 (off' := k * 2) (n := m) (off := 0) (sz := 2) (i := (k : Int)) sl23 xq xq xq ?_))
     refine zzi 67 (V := ⟨30, kcs D' ++ Y'⟩) (off := k * 2) (.v (.agg #[.int .i64 (gi D' k 0), .int .i64 (gi D' k 1)])) ty30 (part_k2 (OkR.rows hD') (i := k) (by rw [hDn']; omega) rfl) ?_
     have hz360 := OkR.bd hD' (i := k) (j := 0) (by rw [hDn']; omega) yq
     have hz361 := OkR.bd hD' (i := k) (j := 1) (by rw [hDn']; omega) yq
     refine zzg 68 40 [.agg #[.int .i64 (gi D' i 0), .int .i64 (gi D' i 1)], .agg #[.int .i64 (gi D' k 0), .int .i64 (gi D' k 1)]] ?_
     intro w37 u37 e37 d37
     have k40 := k_before (a0 := gi D' i 0) (a1 := gi D' i 1) (b0 := gi D' k 0) (b1 := gi D' k 1) d37 xq xq xq xq
     with_reducible refine zPm k40 ?_
     rintro _ u38 g39 rfl
     refine zza 69 (zB (!(Nt.befV (gi D' i 0) (gi D' i 1) (gi D' k 0) (gi D' k 1)))) (zzc 126 [(7, .slc 47 0 m c29), (8, .slc 50 0 m c30), (9, .v zo.v), (10, zI i), (11, zI k), (69, zB (!(Nt.befV (gi D' i 0) (gi D' i 1) (gi D' k 0) (gi D' k 1))))] [(47, ⟨29, kcs Z' ++ X'⟩), (50, ⟨30, kcs D' ++ Y'⟩)] (zzu (b := !(Nt.befV (gi D' i 0) (gi D' i 1) (gi D' k 0) (gi D' k 1))) xj (fun hb41 => ?_) (fun hb41 => ?_)))
     ·replace hb41 : (!(Nt.befV (gi D' i 0) (gi D' i 1) (gi D' k 0) (gi D' k 1))) = true := hb41
      have qhb41 := hb41
      rw [Nt.befV_gi, Bool.not_not] at qhb41
      refine zzf (zza 70 (zI k) (zza 10 (zI k) (zzx ?_)))
      refine zzp (zzf (zza 58 (zI k) (zyq 59 (x := zI (IntKind.i64.wrap ((k : Int) + 1))) (zI (k + 1 : Nat)) (eqI xw) (zza 11 (zI (k + 1 : Nat)) (zzx ?_)))))
      refine ⟨_, ?_, _, by exact zzv _ _ _, k + 1, k, rfl, by omega, by omega, (by have h9 := qhb41; rw [hi] at h9; exact (Nt.sel_yes h9).symm), rfl, (e33.trans (e37.trans g39.ext))⟩
      omega
     ·replace hb41 : (!(Nt.befV (gi D' i 0) (gi D' i 1) (gi D' k 0) (gi D' k 1))) = false := hb41
      have qhb41 := hb41
      rw [Nt.befV_gi, Bool.not_not] at qhb41
      refine zzs (zzp ?_)
      refine zzf (zza 58 (zI k) (zyq 59 (x := zI (IntKind.i64.wrap ((k : Int) + 1))) (zI (k + 1 : Nat)) (eqI xw) (zza 11 (zI (k + 1 : Nat)) (zzx ?_))))
      refine ⟨_, ?_, _, by exact zzv _ _ _, k + 1, i, rfl, by omega, by omega, (by have h9 := qhb41; rw [hi] at h9; exact hi.trans (Nt.sel_no h9).symm), rfl, (e33.trans (e37.trans g39.ext))⟩
      omega
    ·replace hb34 : (decide ((k : Int) < (m : Int))) = false := hb34
     have qhb34 := of_decide_eq_false hb34
     refine zyc (zzp (zzd ?_))
     have hi2 : i = Nt.selR D' m := by rw [hi, show k = m by omega]
     refine zzf (zza 12 (zI 0) (zzb (zzd (sq9 (zza 13 (zI 1) (zzb (zzt (zyn (I := fun m42 S' u' => ∃ (q : Nat) (j : Nat), (m42 = m - q) ∧ (1 ≤ q) ∧ (q ≤ m) ∧ (j = Nt.bestR Z' (gi D' i 0) (gi D' i 1) q) ∧ (S' = St.of 126 [(7, .slc 47 0 m c29), (8, .slc 50 0 m c30), (9, .v (.slice zo.a zo.n zo.c)), (10, zI i), (12, zI j), (13, zI q)] [(47, ⟨29, kcs Z' ++ X'⟩), (50, ⟨30, kcs D' ++ Y'⟩)]) ∧ (Ext u33 u')) (fun m S u1 u2 e h => by obtain ⟨q, j, hm, p0, p1, p2, hS, hE⟩ := h; exact ⟨q, j, hm, p0, p1, p2, hS, hE.trans e⟩) _ yj ⟨1, 0, rfl, Nat.le_refl _, by omega, Nt.bestR_one.symm, rfl, (Ext.refl _)⟩ ?_))))))))
     rintro m42 _ u42 ⟨q, j, hm42, hq1, hq, hj, rfl, e42⟩
     have hjL : j < m := by rw [hj]; exact Nt.best_in xq hq
     refine zzd (sq9 (zza 71 (zI q) (zza 72 (.slc 47 0 m c29) (zza 73 (zI m) (zza 74 (zB (decide ((q : Int) < (m : Int)))) (zzc 126 [(7, .slc 47 0 m c29), (8, .slc 50 0 m c30), (9, .v zo.v), (10, zI i), (12, zI j), (13, zI q), (74, zB (decide ((q : Int) < (m : Int))))] [(47, ⟨29, kcs Z' ++ X'⟩), (50, ⟨30, kcs D' ++ Y'⟩)] (zzu (b := decide ((q : Int) < (m : Int))) xj (fun hb43 => ?_) (fun hb43 => ?_))))))))
     ·replace hb43 : (decide ((q : Int) < (m : Int))) = true := hb43
      have qhb43 := of_decide_eq_true hb43
      refine zzs (zzp ?_)
      refine zzd (zzt (zzd (zzz [0, 0, 3, 7, 0, 0, 48, 112, 255, 0, 0, 1536, 3584, 0, 0, 24576, 57344, 131071, 262143] [(0, []), (1, []), (2, []), (3, []), (4, []), (5, []), (6, []), (7, []), (9, []), (10, []), (11, []), (12, []), (13, []), (14, []), (15, []), (16, []), (8, []), (17, []), (18, [])] xj xj (zza 77 (.slc 47 0 m c29) (zza 78 (zI q) (zyw 79 (off' := q * 3) (n := m) (off := 0) (sz := 3) (i := (q : Int)) sl22 xq xq xq ?_))))))
      refine zzi 80 (V := ⟨29, kcs Z' ++ X'⟩) (off := q * 3) (.v (.agg #[.int .i64 (gi Z' q 0), .int .i64 (gi Z' q 1), .int .i64 (gi Z' q 2)])) ty29 (part_k3 (OkR.rows hZ') (i := q) (by rw [hZn']; omega) rfl) ?_
      have hz440 := OkR.bd hZ' (i := q) (j := 0) (by rw [hZn']; omega) yq
      have hz441 := OkR.bd hZ' (i := q) (j := 1) (by rw [hZn']; omega) yq
      have hz442 := OkR.bd hZ' (i := q) (j := 2) (by rw [hZn']; omega) yq
      refine zza 81 (.slc 50 0 m c30) (zza 82 (zI i) (zyw 83 (off' := i * 2) (n := m) (off := 0) (sz := 2) (i := (i : Int)) sl23 xq xq xq ?_))
      refine zzi 84 (V := ⟨30, kcs D' ++ Y'⟩) (off := i * 2) (.v (.agg #[.int .i64 (gi D' i 0), .int .i64 (gi D' i 1)])) ty30 (part_k2 (OkR.rows hD') (i := i) (by rw [hDn']; omega) rfl) ?_
      have hz450 := OkR.bd hD' (i := i) (j := 0) (by rw [hDn']; omega) yq
      have hz451 := OkR.bd hD' (i := i) (j := 1) (by rw [hDn']; omega) yq
      refine zza 86 (.slc 47 0 m c29) (zza 87 (zI j) (zyw 88 (off' := j * 3) (n := m) (off := 0) (sz := 3) (i := (j : Int)) sl22 xq xq xq ?_))
      refine zzi 89 (V := ⟨29, kcs Z' ++ X'⟩) (off := j * 3) (.v (.agg #[.int .i64 (gi Z' j 0), .int .i64 (gi Z' j 1), .int .i64 (gi Z' j 2)])) ty29 (part_k3 (OkR.rows hZ') (i := j) (by rw [hZn']; omega) rfl) ?_
      have hz460 := OkR.bd hZ' (i := j) (j := 0) (by rw [hZn']; omega) yq
      have hz461 := OkR.bd hZ' (i := j) (j := 1) (by rw [hZn']; omega) yq
      have hz462 := OkR.bd hZ' (i := j) (j := 2) (by rw [hZn']; omega) yq
      refine zza 90 (.slc 50 0 m c30) (zza 91 (zI i) (zyw 92 (off' := i * 2) (n := m) (off := 0) (sz := 2) (i := (i : Int)) sl23 xq xq xq ?_))
      refine zzi 93 (V := ⟨30, kcs D' ++ Y'⟩) (off := i * 2) (.v (.agg #[.int .i64 (gi D' i 0), .int .i64 (gi D' i 1)])) ty30 (part_k2 (OkR.rows hD') (i := i) (by rw [hDn']; omega) rfl) ?_
      have hz470 := OkR.bd hD' (i := i) (j := 0) (by rw [hDn']; omega) yq
      have hz471 := OkR.bd hD' (i := i) (j := 1) (by rw [hDn']; omega) yq
      refine zzg 85 41 [.agg #[.int .i64 (gi Z' q 0), .int .i64 (gi Z' q 1), .int .i64 (gi Z' q 2)], .agg #[.int .i64 (gi D' i 0), .int .i64 (gi D' i 1)]] ?_
      intro w48 u48 e48 d48
      have k51 := k_rdist (b0 := gi Z' q 0) (b1 := gi Z' q 1) (b2 := gi Z' q 2) (a0 := gi D' i 0) (a1 := gi D' i 1) d48 xq xq xq xq
      with_reducible refine zPm k51 ?_
      rintro _ u49 g50 rfl
      have hdz52 := Nt.dist_bd (b1 := gi Z' q 1) (b2 := gi Z' q 2) (a0 := gi D' i 0) (a1 := gi D' i 1) xq xq xq xq
      refine zzg 94 41 [.agg #[.int .i64 (gi Z' j 0), .int .i64 (gi Z' j 1), .int .i64 (gi Z' j 2)], .agg #[.int .i64 (gi D' i 0), .int .i64 (gi D' i 1)]] ?_
      intro w53 u53 e53 d53
      have k56 := k_rdist (b0 := gi Z' j 0) (b1 := gi Z' j 1) (b2 := gi Z' j 2) (a0 := gi D' i 0) (a1 := gi D' i 1) d53 xq xq xq xq
      with_reducible refine zPm k56 ?_
      rintro _ u54 g55 rfl
      have hdz57 := Nt.dist_bd (b1 := gi Z' j 1) (b2 := gi Z' j 2) (a0 := gi D' i 0) (a1 := gi D' i 1) xq xq xq xq
      refine zza 95 (zB (decide ((Nt.distZ (gi Z' q 1) (gi Z' q 2) (gi D' i 0) (gi D' i 1)) < (Nt.distZ (gi Z' j 1) (gi Z' j 2) (gi D' i 0) (gi D' i 1))))) (zzc 126 [(7, .slc 47 0 m c29), (8, .slc 50 0 m c30), (9, .v zo.v), (10, zI i), (12, zI j), (13, zI q), (95, zB (decide ((Nt.distZ (gi Z' q 1) (gi Z' q 2) (gi D' i 0) (gi D' i 1)) < (Nt.distZ (gi Z' j 1) (gi Z' j 2) (gi D' i 0) (gi D' i 1)))))] [(47, ⟨29, kcs Z' ++ X'⟩), (50, ⟨30, kcs D' ++ Y'⟩)] (zzu (b := decide ((Nt.distZ (gi Z' q 1) (gi Z' q 2) (gi D' i 0) (gi D' i 1)) < (Nt.distZ (gi Z' j 1) (gi Z' j 2) (gi D' i 0) (gi D' i 1)))) xj (fun hb58 => ?_) (fun hb58 => ?_)))
      ·replace hb58 : (decide ((Nt.distZ (gi Z' q 1) (gi Z' q 2) (gi D' i 0) (gi D' i 1)) < (Nt.distZ (gi Z' j 1) (gi Z' j 2) (gi D' i 0) (gi D' i 1)))) = true := hb58
       have qhb58 := of_decide_eq_true hb58
       refine zzf (zza 96 (zI q) (zza 12 (zI q) (zzx ?_)))
       refine zzp (zzf (zza 75 (zI q) (zyq 76 (x := zI (IntKind.i64.wrap ((q : Int) + 1))) (zI (q + 1 : Nat)) (eqI xw) (zza 13 (zI (q + 1 : Nat)) (zzx ?_)))))
       refine ⟨_, ?_, _, by exact zzv _ _ _, q + 1, q, rfl, by omega, by omega, (by have h9 := qhb58; rw [hj] at h9; exact (Nt.best_yes h9).symm), rfl, (e42.trans (e48.trans (g50.ext.trans (e53.trans g55.ext))))⟩
       omega
      ·replace hb58 : (decide ((Nt.distZ (gi Z' q 1) (gi Z' q 2) (gi D' i 0) (gi D' i 1)) < (Nt.distZ (gi Z' j 1) (gi Z' j 2) (gi D' i 0) (gi D' i 1)))) = false := hb58
       have qhb58 := of_decide_eq_false hb58
       refine zzs (zzp ?_)
       refine zzf (zza 75 (zI q) (zyq 76 (x := zI (IntKind.i64.wrap ((q : Int) + 1))) (zI (q + 1 : Nat)) (eqI xw) (zza 13 (zI (q + 1 : Nat)) (zzx ?_))))
       refine ⟨_, ?_, _, by exact zzv _ _ _, q + 1, j, rfl, by omega, by omega, (by have h9 := qhb58; rw [hj] at h9; exact hj.trans (Nt.best_no h9).symm), rfl, (e42.trans (e48.trans (g50.ext.trans (e53.trans g55.ext))))⟩
       omega
     ·replace hb43 : (decide ((q : Int) < (m : Int))) = false := hb43
      have qhb43 := of_decide_eq_false hb43
      refine zyc (zzp (zzd ?_))
      have hj2 : j = Nt.bestR Z' (gi D' i 0) (gi D' i 1) m := by rw [hj, show q = m by omega]
      refine zzz [0, 0, 3, 7, 0, 0, 48, 112, 255, 511, 0, 2047, 4095] [(0, []), (1, []), (2, []), (3, []), (4, []), (5, []), (6, []), (7, []), (8, []), (9, []), (10, []), (11, []), (12, [])] xj xj (zza 97 (.slc 47 0 m c29) (zza 98 (zI j) (zyw 99 (off' := j * 3) (n := m) (off := 0) (sz := 3) (i := (j : Int)) sl22 xq xq xq ?_)))
      refine zzi 100 (V := ⟨29, kcs Z' ++ X'⟩) (off := j * 3) (.v (.agg #[.int .i64 (gi Z' j 0), .int .i64 (gi Z' j 1), .int .i64 (gi Z' j 2)])) ty29 (part_k3 (OkR.rows hZ') (i := j) (by rw [hZn']; omega) rfl) ?_
      have hz590 := OkR.bd hZ' (i := j) (j := 0) (by rw [hZn']; omega) yq
      have hz591 := OkR.bd hZ' (i := j) (j := 1) (by rw [hZn']; omega) yq
      have hz592 := OkR.bd hZ' (i := j) (j := 2) (by rw [hZn']; omega) yq
      refine zza 101 (.slc 50 0 m c30) (zza 102 (zI i) (zyw 103 (off' := i * 2) (n := m) (off := 0) (sz := 2) (i := (i : Int)) sl23 xq xq xq ?_))
      refine zzi 104 (V := ⟨30, kcs D' ++ Y'⟩) (off := i * 2) (.v (.agg #[.int .i64 (gi D' i 0), .int .i64 (gi D' i 1)])) ty30 (part_k2 (OkR.rows hD') (i := i) (by rw [hDn']; omega) rfl) ?_
      have hz600 := OkR.bd hD' (i := i) (j := 0) (by rw [hDn']; omega) yq
      have hz601 := OkR.bd hD' (i := i) (j := 1) (by rw [hDn']; omega) yq
      refine zza 105 (.v (.agg #[.int .i64 (gi Z' j 0), .int .i64 (gi Z' j 1), .int .i64 (gi Z' j 2), .int .i64 (gi D' i 0), .int .i64 (gi D' i 1)])) (sy_lit 106 ⟨32, [.int .i64 (gi Z' j 0), .int .i64 (gi Z' j 1), .int .i64 (gi Z' j 2), .int .i64 (gi D' i 0), .int .i64 (gi D' i 1)]⟩ 1 ?_)
      refine zza 107 (.v zo.v) ?_
      have hs61 := IrV.src (hA.ext (e33.trans e42))
      have hzl9 := IrV.len hA
      refine sy_appS 108 (T := 25) (E := 32) (z := .agg #[.int .i64 0, .int .i64 0, .int .i64 0, .int .i64 0, .int .i64 0]) (size := 5) (bytes := 40) (A := zo.a) (m := zo.n) (c := zo.c) (n := 1) (cap := 1) (t := 106) (cs0 := [.int .i64 (gi Z' j 0), .int .i64 (gi Z' j 1), .int .i64 (gi Z' j 2), .int .i64 (gi D' i 0), .int .i64 (gi D' i 1)]) [106, 108] (kcs A') xj xj xj yq hs61.1 hs61.2 kcs_one yv xq yq yq rfl xk ?_
      intro c61 cs61 ha61 hb61 hc61 hd61
      refine zza 9 (.slc 108 0 (1 + zo.n) c61) (zzc 126 [(7, .slc 47 0 m c29), (8, .slc 50 0 m c30), (9, .slc 108 0 (1 + zo.n) c61), (10, zI i), (12, zI j)] [(47, ⟨29, kcs Z' ++ X'⟩), (50, ⟨30, kcs D' ++ Y'⟩), (108, ⟨32, cs61⟩)] (zyp (r := 9) (t := 108) [9, 108] xk xj (by rfl) (by rfl) xj (fun b62 u63 e64 hb65 hh66 => ?_)))
      have hp67 : IrV 5 u63 ⟨some ⟨b62, 0, none⟩, 1 + zo.n, c61⟩ ([gi Z' j 0, gi Z' j 1, gi Z' j 2, gi D' i 0, gi D' i 1] :: A') := ir_data hh66 (rows_cons rfl (IrV.rows hA)) hd61 (by rw [List.length_cons, ← IrV.len hA, Nat.add_comm]) hc61 ha61 hb61
      refine sw_anyX xj 18 rfl ?_
      refine takeXm 8 117 17 #[false, false, false, false, false, false, false, false, true, false, false, false, false, false, false, false, false, false] ?_
      refine takeX 9 118 16 (.v (.int .i64 (i : Int))) #[false, false, false, false, false, false, false, false, true, true, false, false, false, false, false, false, false, false] ?_
      refine takeXf 10 119 15 (m := m) (c := c30) i sl23 rfl xq #[false, false, false, false, false, false, false, false, true, true, true, false, false, false, false, false, false, false] ?_
      refine takeXm 11 120 14 #[false, false, false, false, false, false, false, false, true, true, true, true, false, false, false, false, false, false] ?_
      refine takeX 12 121 13 (.v (.int .i64 (i : Int))) #[false, false, false, false, false, false, false, false, true, true, true, true, true, false, false, false, false, false] ?_
      refine takeXe 13 122 12 (x := .v (.int .i64 (IntKind.i64.wrap ((i : Int) + 1)))) (.v (.int .i64 ((i + 1 : Nat) : Int))) (eqI xw) #[false, false, false, false, false, false, false, false, true, true, true, true, true, true, false, false, false, false] ?_
      refine takeXt 14 123 11 (off := 0) (m := m) (c := c30) (i + 1) sl23 rfl xq xq #[false, false, false, false, false, false, false, false, true, true, true, true, true, true, true, false, false, false] (fun o69 ho69 => ?_)
      refine restX [0, 0, 3, 0, 0, 16, 56, 127, 0, 0, 768, 0, 0, 4096, 14336, 32767, 65535, 131071] [(0, []), (1, []), (2, []), (3, []), (4, []), (5, []), (6, [])] [] (7, []) [(15, []), (16, []), (17, [])] xj ?_
      refine zza 109 (.slc 47 0 m c29) (zza 110 (zI j) (sy_frontO 111 (n := m) (c := c29) j sl22 rfl xq ?_))
      refine zza 112 (.slc 47 0 m c29) (zza 113 (zI j) (zyq 114 (x := zI (IntKind.i64.wrap ((j : Int) + 1))) (zI (j + 1 : Nat)) (eqI xw) (sy_tailO 115 (off := 0) (n := m) (c := c29) (j + 1) sl22 rfl xq xq (fun o71 ho71 => ?_))))
      refine zzx ?_
      refine exitsK_last ?_
      obtain ⟨Yy72, hY72, eY72⟩ := era_rows (X := X') (OkR.rows hZ') (i := j) xq
      have hdl72 := (del_rows (X := X') (zs := ics (List.replicate 3 0)) (OkR.rows hZ') (i := j) xq rfl (off := o71) (fun h9 => by rw [ho71, if_neg xq]; omega)).1
      rw [hZn'] at hdl72
      refine sy_appT 116 (T := 22) (E := 29) (z := .agg #[.int .i64 0, .int .i64 0, .int .i64 0]) (size := 3) (bytes := 24) (off := o71) (m := m - (j + 1)) (c := c29 - (j + 1)) (t := 47) (n := j) (cap := c29) (cs0 := kcs Z' ++ X') (ns := kcs (Z'.drop (j + 1))) xj xj hX' (by rw [ho71, hX']; split <;> omega) xq hdl72 kcs_one ?_
      rw [eY72, show j + (m - (j + 1)) = m - 1 by omega]
      have hN72 : (Z'.eraseIdx j).length = m - 1 ∧ (kcs (Z'.eraseIdx j) ++ (Yy72 ++ X')).length = c29 * 3 := by
       have h9 : (Z'.eraseIdx j).length = m - 1 := by rw [List.length_eraseIdx, if_pos xq, hZn']
       refine ⟨h9, ?_⟩
       have h8 := hX'
       rw [List.length_append, kcs_len (OkR.rows hZ'), hZn'] at h8
       rw [List.length_append, kcs_len (OkR.erase hZ').rows, h9, List.length_append, hY72]
       omega
      obtain ⟨Yy73, hY73, eY73⟩ := era_rows (X := Y') (OkR.rows hD') (i := i) xq
      have hdl73 := (del_rows (X := Y') (zs := ics (List.replicate 2 0)) (OkR.rows hD') (i := i) xq rfl (off := o69) (fun h9 => by rw [ho69, if_neg xq]; omega)).1
      rw [hDn'] at hdl73
      refine sy_appT 124 (T := 23) (E := 30) (z := .agg #[.int .i64 0, .int .i64 0]) (size := 2) (bytes := 16) (off := o69) (m := m - (i + 1)) (c := c30 - (i + 1)) (t := 50) (n := i) (cap := c30) (cs0 := kcs D' ++ Y') (ns := kcs (D'.drop (i + 1))) xj xj hY' (by rw [ho69, hY']; split <;> omega) xq hdl73 kcs_one ?_
      rw [eY73, show i + (m - (i + 1)) = m - 1 by omega]
      have hN73 : (D'.eraseIdx i).length = m - 1 ∧ (kcs (D'.eraseIdx i) ++ (Yy73 ++ Y')).length = c30 * 2 := by
       have h9 : (D'.eraseIdx i).length = m - 1 := by rw [List.length_eraseIdx, if_pos xq, hDn']
       refine ⟨h9, ?_⟩
       have h8 := hY'
       rw [List.length_append, kcs_len (OkR.rows hD'), hDn'] at h8
       rw [List.length_append, kcs_len (OkR.erase hD').rows, h9, List.length_append, hY73]
       omega
      refine sy_over 7 (.slc 47 0 (m - 1) c29) (sy_over 8 (.slc 50 0 (m - 1) c30) (zzx ?_))
      refine ⟨_, ?_, _, by exact zzv _ _ _, m - 1, (Z'.eraseIdx j), (D'.eraseIdx i), (Yy72 ++ X'), (Yy73 ++ Y'), (⟨some ⟨b62, 0, none⟩, 1 + zo.n, c61⟩ : Sl), ([gi Z' j 0, gi Z' j 1, gi Z' j 2, gi D' i 0, gi D' i 1] :: A'), rfl, (OkR.erase hZ'), (OkR.erase hD'), hN72.1, hN73.1, xq, hN72.2, hN73.2, (by rw [List.length_cons]; omega), (by have h9 := hP'; rw [Nt.pair_sel (fun p hp => (hD' p hp).1) xq (show i = _ by rw [hDn']; exact hi2) (show j = _ by rw [hZn']; exact hj2)] at h9; exact h9), rfl, (e31.trans (e33.trans (e42.trans e64))), hp67⟩
      omega
   ·replace hb32 : (decide ((0 : Int) < (m : Int))) = false := hb32
    have qhb32 := of_decide_eq_false hb32
    refine zyc (zzp (sq9 (zza 125 (.v zo.v) (zza 4 (.v zo.v) (zza 5 (zI 0) (zzc 126 [(4, .v zo.v), (5, zI 0)] [] (zzo (ret0 [.slice zo.a zo.n zo.c, .int .i64 0] ⟨zzq, zzq, trivial⟩ fun u74 e75 => ?_))))))))
    have hm0 : m = 0 := by omega
    subst hm0
    have hD0 := List.eq_nil_of_length_eq_zero hDn'
    subst hD0
    refine ⟨zo, rfl, ?_⟩
    rw [← hP']
    exact (hA.ext e75)
theorem bdI_get {L : List (List Int)} (h : ∀ p ∈ L, BdI p) (i : Nat) : BdI (L.getD i []) := by
 by_cases hi : i < L.length
 ·rw [List.getD_eq_getElem?_getD, List.getElem?_eq_getElem hi]; exact h _ (List.getElem_mem hi)
 ·rw [List.getD_eq_getElem?_getD, List.getElem?_eq_none xq]; exact bdI_nil
namespace Nt
variable {Z D : List (List Int)} {i : Nat}
theorem smallAt_1 (h : (!(smallB (Z.getD i []))) = true) : smallAt Z D i = false := by unfold smallAt; rw [Bool.not_eq_true'] at h; rw [h]; rfl
theorem smallAt_2 (h : (!(smallB (D.getD i []))) = true) : smallAt Z D i = false := by unfold smallAt; rw [Bool.not_eq_true'] at h; rw [h, Bool.and_false]
theorem smallAt_0 (h : (!(smallB (Z.getD i []))) = false) (k : (!(smallB (D.getD i []))) = false) : smallAt Z D i = true := by unfold smallAt; rw [Bool.not_eq_false'] at h k; rw [h, k]; rfl
end Nt
set_option maxHeartbeats 4000000 in
theorem k_cpairBad {u w : World} {x y : Sl} {Z D : List (List Int)} (d : Dat u w) (hx : IrV 3 u x Z) (hy : IrV 2 u y D) (hbZ : ∀ p ∈ Z, BdI p) (hbD : ∀ p ∈ D, BdI p) (hE : Nt.pairE Z D ≠ 0) : Calls Tryz.prog 9 #[x.v, y.v] w (Post u w fun v u' => v = .tuple #[.slice none 0 0, .int .i64 (Nt.pairE Z D)]) := by
 have hlx := hx.len
 have hly := hy.len
 refine zzm (args := [.slice x.a x.n x.c, .slice y.a y.n y.c]) Tryz.func9 rfl Tryz.ntmps9 (rs := [.tmp 4, .tmp 5]) Tryz.results9 (le_b rfl) (le_b rfl) d ?_
 refine sq9 (zza 4 (.v (.slice none 0 0)) (zza 5 (zI 0) (zzb (zzd (sq9 (zza 14 (.v x.v) (zza 15 (zI x.n) (zza 16 (.v y.v) (zza 17 (zI y.n) (zza 18 (zB ((x.n : Int) != (y.n : Int))) ?_))))))))))
 rcases Bool.eq_false_or_eq_true ((x.n : Int) != (y.n : Int)) with hs11 | hs11
 ·refine zyq 19 (x := zB ((x.n : Int) != (y.n : Int))) (zB true) (by rw [hs11]) ?_
  have qhs11 : ¬ x.n = y.n := by have h9 := hs11; simp at h9; omega
  refine zzn 20 (uw 5 false true 19) (zzn 21 (uw 5 false true 19) (zzn 22 (uw 5 false true 19) (zza 23 (zB true) (zza 24 (zB true) (zzn 25 (uw 10 false true 24) (zzn 26 (uw 10 false true 24) (zzn 27 (uw 10 false true 24) (zza 28 (zB true) (zzb (zyr xj (sq9 ?_)))))))))))
  refine zza 4 (.v (.slice none 0 0)) (zza 5 (zI 1) (zzb (zzo (zzw (ret0 [.slice none 0 0, .int .i64 1] ⟨zzq, zzq, trivial⟩ fun u12 e13 => ?_)))))
  rw [Nt.pairE_1 xq]
  rfl
 ·refine zyq 19 (x := zB ((x.n : Int) != (y.n : Int))) (zB false) (by rw [hs11]) ?_
  have qhs11 : x.n = y.n := by have h9 := hs11; simp at h9; omega
  refine zza 20 (.v x.v) ?_ (hw := w1 5 false 19)
  refine zza 21 (zI x.n) ?_ (hw := w1 5 false 19)
  refine zza 22 (zB (decide ((x.n : Int) < 1))) ?_ (hw := w1 5 false 19)
  refine zza 23 (zB (decide ((x.n : Int) < 1))) ?_
  rcases Bool.eq_false_or_eq_true (decide ((x.n : Int) < 1)) with hs14 | hs14
  ·refine zyq 24 (x := zB (decide ((x.n : Int) < 1))) (zB true) (by rw [hs14]) ?_
   have qhs14 := of_decide_eq_true hs14
   refine zzn 25 (uw 10 false true 24) (zzn 26 (uw 10 false true 24) (zzn 27 (uw 10 false true 24) (zza 28 (zB true) (zzb (zyr xj (sq9 (zza 4 (.v (.slice none 0 0)) (zza 5 (zI 1) (zzb (zzo (zzw (ret0 [.slice none 0 0, .int .i64 1] ⟨zzq, zzq, trivial⟩ fun u15 e16 => ?_))))))))))))
   rw [Nt.pairE_1 xq]
   rfl
  ·refine zyq 24 (x := zB (decide ((x.n : Int) < 1))) (zB false) (by rw [hs14]) ?_
   have qhs14 := of_decide_eq_false hs14
   refine zza 25 (.v x.v) ?_ (hw := w1 10 false 24)
   refine zza 26 (zI x.n) ?_ (hw := w1 10 false 24)
   refine zza 27 (zB (decide ((8 : Int) < (x.n : Int)))) ?_ (hw := w1 10 false 24)
   refine zza 28 (zB (decide ((8 : Int) < (x.n : Int)))) (zzb (zzu (b := decide ((8 : Int) < (x.n : Int))) xj (fun hb17 => ?_) (fun hb17 => ?_)))
   ·replace hb17 : (decide ((8 : Int) < (x.n : Int))) = true := hb17
    have qhb17 := of_decide_eq_true hb17
    refine sq9 (zza 4 (.v (.slice none 0 0)) (zza 5 (zI 1) (zzb (zzo (zzw (ret0 [.slice none 0 0, .int .i64 1] ⟨zzq, zzq, trivial⟩ fun u18 e19 => ?_))))))
    rw [Nt.pairE_1 xq]
    rfl
   ·replace hb17 : (decide ((8 : Int) < (x.n : Int))) = false := hb17
    have qhb17 := of_decide_eq_false hb17
    refine zzs (zzp ?_)
    refine zzd (sq9 (zza 29 (.v x.v) (zza 30 (zI x.n) (zza 31 (zI 0) (zzb (zzt (zyn (I := fun m20 S' u' => ∃ (i : Nat), (m20 = x.n - i) ∧ (i ≤ x.n) ∧ (∀ j, j < i → Nt.smallAt Z D j = true) ∧ (S' = St.of 105 [(0, .v (.slice x.a x.n x.c)), (1, .v (.slice y.a y.n y.c)), (30, zI x.n), (31, zI i)] []) ∧ (Ext u u')) (fun m S u1 u2 e h => by obtain ⟨i, hm, p0, p1, hS, hE⟩ := h; exact ⟨i, hm, p0, p1, hS, hE.trans e⟩) _ yj ⟨0, rfl, Nat.zero_le _, (fun j hj => absurd hj (Nat.not_lt_zero j)), rfl, (Ext.refl _)⟩ ?_)))))))
    rintro m20 _ u20 ⟨i, hm20, hi, hs, rfl, e20⟩
    refine sq9 (zza 32 (zB (decide ((i : Int) < (x.n : Int)))) (zzb (zzd (zzu (b := decide ((i : Int) < (x.n : Int))) xj (fun hb21 => ?_) (fun hb21 => ?_)))))
    ·replace hb21 : (decide ((i : Int) < (x.n : Int))) = true := hb21
     have qhb21 := of_decide_eq_true hb21
     refine zzs (zzp ?_)
     refine zzd (zzt (sq9 (zza 33 (zI i) (zza 6 (zI i) (zzb (sq9 (zza 34 (.v x.v) (zza 35 (zI i) ?_))))))))
     have hl22 := ((hx.ext e20)).len
     obtain ⟨b22, o22, hA22, hc22⟩ := ir_row (hx.ext e20) (i := i) xq yv
     refine zya 36 (o22 + i * 3) (n := x.n) (off := o22) (sz := 3) (i := (i : Int)) xq hA22 xq xq sl22 (zza 37 (.v (.slice (some ⟨b22, o22 + i * 3, none⟩) 3 3)) (zzg 38 30 [.slice (some ⟨b22, o22 + i * 3, none⟩) 3 3] ?_))
     intro w23 u23 e23 d23
     have k26 := (show Calls _ _ #[.slice (some ⟨b22, o22 + i * 3, none⟩) 3 3] _ _ from k_cwithin (x := (⟨some ⟨b22, o22 + i * 3, none⟩, 3, 3⟩ : Sl)) d23 (hc22.ext e23) (bdI_get hbZ i))
     with_reducible refine zPm k26 ?_
     rintro _ u24 g25 rfl
     refine zza 39 (zB (!(Nt.smallB (Z.getD i [])))) ?_
     rcases Bool.eq_false_or_eq_true (!(Nt.smallB (Z.getD i []))) with hs27 | hs27
     ·refine zyq 40 (x := zB (!(Nt.smallB (Z.getD i [])))) (zB true) (by rw [hs27]) (zzn 41 (uw 6 false true 40) (zzn 42 (uw 6 false true 40) (zzn 43 (uw 6 false true 40) (zzn 44 (uw 6 false true 40) (zzn 45 (uw 6 false true 40) (zzn 46 (uw 6 false true 40) (zza 47 (zB true) (zzc 105 [(0, .v x.v), (1, .v y.v), (30, zI x.n), (31, zI i), (47, zB true)] [] (zyr xj (sq9 (zza 4 (.v (.slice none 0 0)) ?_)))))))))))
      refine zza 5 (zI 17) (zzb (zzo (zyu (zzw (zyt (zyu (zzw (ret0 [.slice none 0 0, .int .i64 17] ⟨zzq, zzq, trivial⟩ fun u28 e29 => ?_))))))))
      rw [Nt.pairE_17 xq (i := i) xq (Nt.smallAt_1 hs27)]
      rfl
     ·refine zyq 40 (x := zB (!(Nt.smallB (Z.getD i [])))) (zB false) (by rw [hs27]) (zza 41 (.v y.v) ?_ (hw := w1 6 false 40))
      refine zza 42 (zI i) ?_ (hw := w1 6 false 40)
      have hl30 := ((hy.ext (e20.trans (e23.trans g25.ext)))).len
      obtain ⟨b30, o30, hA30, hc30⟩ := ir_row (hy.ext (e20.trans (e23.trans g25.ext))) (i := i) xq yv
      refine zya 43 (o30 + i * 2) (n := y.n) (off := o30) (sz := 2) (i := (i : Int)) xq hA30 xq xq sl23 ?_ (hw := w1 6 false 40)
      refine zza 44 (.v (.slice (some ⟨b30, o30 + i * 2, none⟩) 2 2)) ?_ (hw := w1 6 false 40)
      refine zzg 45 30 [.slice (some ⟨b30, o30 + i * 2, none⟩) 2 2] ?_ (hw := w1 6 false 40)
      intro w31 u31 e31 d31
      have k34 := (show Calls _ _ #[.slice (some ⟨b30, o30 + i * 2, none⟩) 2 2] _ _ from k_cwithin (x := (⟨some ⟨b30, o30 + i * 2, none⟩, 2, 2⟩ : Sl)) d31 (hc30.ext e31) (bdI_get hbD i))
      with_reducible refine zPm k34 ?_
      rintro _ u32 g33 rfl
      refine zza 46 (zB (!(Nt.smallB (D.getD i [])))) ?_ (hw := w1 6 false 40)
      refine zza 47 (zB (!(Nt.smallB (D.getD i [])))) (zzc 105 [(0, .v x.v), (1, .v y.v), (30, zI x.n), (31, zI i), (47, zB (!(Nt.smallB (D.getD i []))))] [] (zzu (b := !(Nt.smallB (D.getD i []))) xj (fun hb35 => ?_) (fun hb35 => ?_)))
      ·replace hb35 : (!(Nt.smallB (D.getD i []))) = true := hb35
       refine sq9 (zza 4 (.v (.slice none 0 0)) (zza 5 (zI 17) (zzb (zzo (zyu (zzw (zyt (zyu (zzw (ret0 [.slice none 0 0, .int .i64 17] ⟨zzq, zzq, trivial⟩ fun u36 e37 => ?_))))))))))
       rw [Nt.pairE_17 xq (i := i) xq (Nt.smallAt_2 hb35)]
       rfl
      ·replace hb35 : (!(Nt.smallB (D.getD i []))) = false := hb35
       refine zzs (zzp ?_)
       refine zzf (zyq 48 (x := zI (IntKind.i64.wrap ((i : Int) + 1))) (zI (i + 1 : Nat)) (eqI xw) (zza 31 (zI (i + 1 : Nat)) (zzx ?_)))
       refine ⟨_, ?_, _, by exact zzv _ _ _, i + 1, rfl, by omega, (fun j hj => by by_cases e : j = i; (rw [e]; exact Nt.smallAt_0 hs27 hb35); exact hs j xq), rfl, (e20.trans (e23.trans (g25.ext.trans (e31.trans g33.ext))))⟩
       omega
    ·replace hb21 : (decide ((i : Int) < (x.n : Int))) = false := hb21
     have qhb21 := of_decide_eq_false hb21
     refine zyc (zzp (zzd ?_))
     exact absurd (Nt.pairE_0 xq (fun j hj => hs j xq)) hE
set_option maxHeartbeats 4000000 in
theorem k_rpairBad {u w : World} {x y : Sl} {Z D : List (List Int)} (d : Dat u w) (hx : IrV 3 u x Z) (hy : IrV 2 u y D) (hbZ : ∀ p ∈ Z, BdI p) (hbD : ∀ p ∈ D, BdI p) (hE : Nt.pairE Z D ≠ 0) : Calls Tryz.prog 10 #[x.v, y.v] w (Post u w fun v u' => v = .tuple #[.slice none 0 0, .int .i64 (Nt.pairE Z D)]) := by
 have hlx := hx.len
 have hly := hy.len
 refine zzm (args := [.slice x.a x.n x.c, .slice y.a y.n y.c]) Tryz.func10 rfl Tryz.ntmps10 (rs := [.tmp 4, .tmp 5]) Tryz.results10 (le_b rfl) (le_b rfl) d ?_
 refine sq9 (zza 4 (.v (.slice none 0 0)) (zza 5 (zI 0) (zzb (zzd (sq9 (zza 14 (.v x.v) (zza 15 (zI x.n) (zza 16 (.v y.v) (zza 17 (zI y.n) (zza 18 (zB ((x.n : Int) != (y.n : Int))) ?_))))))))))
 rcases Bool.eq_false_or_eq_true ((x.n : Int) != (y.n : Int)) with hs11 | hs11
 ·refine zyq 19 (x := zB ((x.n : Int) != (y.n : Int))) (zB true) (by rw [hs11]) ?_
  have qhs11 : ¬ x.n = y.n := by have h9 := hs11; simp at h9; omega
  refine zzn 20 (uw 5 false true 19) (zzn 21 (uw 5 false true 19) (zzn 22 (uw 5 false true 19) (zzn 23 (uw 5 false true 19) (zza 24 (zB true) (zzb (zyr xj (sq9 (zza 4 (.v (.slice none 0 0)) (zza 5 (zI 1) (zzb (zzo (zzw (ret0 [.slice none 0 0, .int .i64 1] ⟨zzq, zzq, trivial⟩ fun u12 e13 => ?_)))))))))))))
  rw [Nt.pairE_1 xq]
  rfl
 ·refine zyq 19 (x := zB ((x.n : Int) != (y.n : Int))) (zB false) (by rw [hs11]) ?_
  have qhs11 : x.n = y.n := by have h9 := hs11; simp at h9; omega
  refine zza 20 (.v y.v) ?_ (hw := w1 5 false 19)
  refine zza 21 (zI y.n) ?_ (hw := w1 5 false 19)
  refine zzg 22 38 [.int .i64 y.n, .int .i64 1, .int .i64 8] ?_ (hw := w1 5 false 19)
  intro w14 u14 e14 d14
  have k17 := k_in d14 (z := (y.n : Int)) (a := 1) (b := 8)
  with_reducible refine zPm k17 ?_
  rintro _ u15 g16 rfl
  refine zza 23 (zB (!(decide ((1 : Int) ≤ (y.n : Int)) && decide ((y.n : Int) ≤ 8)))) ?_ (hw := w1 5 false 19)
  refine zza 24 (zB (!(decide ((1 : Int) ≤ (y.n : Int)) && decide ((y.n : Int) ≤ 8)))) (zzb (zzu (b := !(decide ((1 : Int) ≤ (y.n : Int)) && decide ((y.n : Int) ≤ 8))) xj (fun hb18 => ?_) (fun hb18 => ?_)))
  ·replace hb18 : (!(decide ((1 : Int) ≤ (y.n : Int)) && decide ((y.n : Int) ≤ 8))) = true := hb18
   have qhb18 : y.n < 1 ∨ 8 < y.n := by have h9 := hb18; simp at h9; omega
   refine sq9 (zza 4 (.v (.slice none 0 0)) (zza 5 (zI 1) (zzb (zzo (zzw (ret0 [.slice none 0 0, .int .i64 1] ⟨zzq, zzq, trivial⟩ fun u19 e20 => ?_))))))
   rw [Nt.pairE_1 xq]
   rfl
  ·replace hb18 : (!(decide ((1 : Int) ≤ (y.n : Int)) && decide ((y.n : Int) ≤ 8))) = false := hb18
   have qhb18 : 1 ≤ y.n ∧ y.n ≤ 8 := by have h9 := hb18; simp at h9; omega
   refine zzs (zzp ?_)
   refine zzd (sq9 (zza 6 (zI 0) (zzb (zzt (zyn (I := fun m21 S' u' => ∃ (i : Nat), (m21 = x.n - i) ∧ (i ≤ x.n) ∧ (∀ j, j < i → Nt.smallAt Z D j = true) ∧ (S' = St.of 126 [(0, .v (.slice x.a x.n x.c)), (1, .v (.slice y.a y.n y.c)), (6, zI i)] []) ∧ (Ext u15 u')) (fun m S u1 u2 e h => by obtain ⟨i, hm, p0, p1, hS, hE⟩ := h; exact ⟨i, hm, p0, p1, hS, hE.trans e⟩) _ yj ⟨0, rfl, Nat.zero_le _, (fun j hj => absurd hj (Nat.not_lt_zero j)), rfl, (Ext.refl _)⟩ ?_)))))
   rintro m21 _ u21 ⟨i, hm21, hi, hs, rfl, e21⟩
   refine zzd (sq9 (zza 25 (zI i) (zza 26 (.v y.v) (zza 27 (zI y.n) (zza 28 (zB (decide ((i : Int) < (y.n : Int)))) (zzb (zzu (b := decide ((i : Int) < (y.n : Int))) xj (fun hb22 => ?_) (fun hb22 => ?_))))))))
   ·replace hb22 : (decide ((i : Int) < (y.n : Int))) = true := hb22
    have qhb22 := of_decide_eq_true hb22
    refine zzs (zzp ?_)
    refine zzd (zzt (sq9 (zza 31 (.v x.v) (zza 32 (zI i) ?_))))
    have hl23 := ((hx.ext (e14.trans (g16.ext.trans e21)))).len
    obtain ⟨b23, o23, hA23, hc23⟩ := ir_row (hx.ext (e14.trans (g16.ext.trans e21))) (i := i) xq yv
    refine zya 33 (o23 + i * 3) (n := x.n) (off := o23) (sz := 3) (i := (i : Int)) xq hA23 xq xq sl22 (zza 34 (.v (.slice (some ⟨b23, o23 + i * 3, none⟩) 3 3)) (zzg 35 39 [.slice (some ⟨b23, o23 + i * 3, none⟩) 3 3, .int .i64 24] ?_))
    intro w24 u24 e24 d24
    have k27 := (show Calls _ _ #[.slice (some ⟨b23, o23 + i * 3, none⟩) 3 3, .int .i64 24] _ _ from k_rsmall21 (x := (⟨some ⟨b23, o23 + i * 3, none⟩, 3, 3⟩ : Sl)) d24 (hc23.ext e24) (bdI_get hbZ i))
    with_reducible refine zPm k27 ?_
    rintro _ u25 g26 rfl
    refine zza 36 (zB (!(Nt.smallB (Z.getD i [])))) ?_
    rcases Bool.eq_false_or_eq_true (!(Nt.smallB (Z.getD i []))) with hs28 | hs28
    ·refine zyq 37 (x := zB (!(Nt.smallB (Z.getD i [])))) (zB true) (by rw [hs28]) (zzn 38 (uw 6 false true 37) (zzn 39 (uw 6 false true 37) (zzn 40 (uw 6 false true 37) (zzn 41 (uw 6 false true 37) (zzn 42 (uw 6 false true 37) (zzn 43 (uw 6 false true 37) (zza 44 (zB true) (zzc 126 [(0, .v x.v), (1, .v y.v), (6, zI i), (44, zB true)] [] (zyr xj (sq9 (zza 4 (.v (.slice none 0 0)) ?_)))))))))))
     refine zza 5 (zI 17) (zzb (zzo (zyu (zzw (zyt (zyu (zzw (ret0 [.slice none 0 0, .int .i64 17] ⟨zzq, zzq, trivial⟩ fun u29 e30 => ?_))))))))
     rw [Nt.pairE_17 xq (i := i) xq (Nt.smallAt_1 hs28)]
     rfl
    ·refine zyq 37 (x := zB (!(Nt.smallB (Z.getD i [])))) (zB false) (by rw [hs28]) (zza 38 (.v y.v) ?_ (hw := w1 6 false 37))
     refine zza 39 (zI i) ?_ (hw := w1 6 false 37)
     have hl31 := ((hy.ext (e14.trans (g16.ext.trans (e21.trans (e24.trans g26.ext)))))).len
     obtain ⟨b31, o31, hA31, hc31⟩ := ir_row (hy.ext (e14.trans (g16.ext.trans (e21.trans (e24.trans g26.ext))))) (i := i) xq yv
     refine zya 40 (o31 + i * 2) (n := y.n) (off := o31) (sz := 2) (i := (i : Int)) xq hA31 xq xq sl23 ?_ (hw := w1 6 false 37)
     refine zza 41 (.v (.slice (some ⟨b31, o31 + i * 2, none⟩) 2 2)) ?_ (hw := w1 6 false 37)
     refine zzg 42 39 [.slice (some ⟨b31, o31 + i * 2, none⟩) 2 2, .int .i64 24] ?_ (hw := w1 6 false 37)
     intro w32 u32 e32 d32
     have k35 := (show Calls _ _ #[.slice (some ⟨b31, o31 + i * 2, none⟩) 2 2, .int .i64 24] _ _ from k_rsmall21 (x := (⟨some ⟨b31, o31 + i * 2, none⟩, 2, 2⟩ : Sl)) d32 (hc31.ext e32) (bdI_get hbD i))
     with_reducible refine zPm k35 ?_
     rintro _ u33 g34 rfl
     refine zza 43 (zB (!(Nt.smallB (D.getD i [])))) ?_ (hw := w1 6 false 37)
     refine zza 44 (zB (!(Nt.smallB (D.getD i [])))) (zzc 126 [(0, .v x.v), (1, .v y.v), (6, zI i), (44, zB (!(Nt.smallB (D.getD i []))))] [] (zzu (b := !(Nt.smallB (D.getD i []))) xj (fun hb36 => ?_) (fun hb36 => ?_)))
     ·replace hb36 : (!(Nt.smallB (D.getD i []))) = true := hb36
      refine sq9 (zza 4 (.v (.slice none 0 0)) (zza 5 (zI 17) (zzb (zzo (zyu (zzw (zyt (zyu (zzw (ret0 [.slice none 0 0, .int .i64 17] ⟨zzq, zzq, trivial⟩ fun u37 e38 => ?_))))))))))
      rw [Nt.pairE_17 xq (i := i) xq (Nt.smallAt_2 hb36)]
      rfl
     ·replace hb36 : (!(Nt.smallB (D.getD i []))) = false := hb36
      refine zzs (zzp ?_)
      refine zzf (zza 29 (zI i) (zyq 30 (x := zI (IntKind.i64.wrap ((i : Int) + 1))) (zI (i + 1 : Nat)) (eqI xw) (zza 6 (zI (i + 1 : Nat)) (zzx ?_))))
      refine ⟨_, ?_, _, by exact zzv _ _ _, i + 1, rfl, by omega, (fun j hj => by by_cases e : j = i; (rw [e]; exact Nt.smallAt_0 hs28 hb36); exact hs j xq), rfl, (e21.trans (e24.trans (g26.ext.trans (e32.trans g34.ext))))⟩
      omega
   ·replace hb22 : (decide ((i : Int) < (y.n : Int))) = false := hb22
    have qhb22 := of_decide_eq_false hb22
    refine zyc (zzp (zzd ?_))
    exact absurd (Nt.pairE_0 xq (fun j hj => hs j xq)) hE
namespace Nt
def pairL (Z D : List (List Int)) : List (List Int) := if pairE Z D = 0 then pairR (sortR D) Z [] else []
theorem pairL_len {Z D : List (List Int)} : (pairL Z D).length ≤ 8 := by
 unfold pairL
 by_cases h : pairE Z D = 0
 ·rw [if_pos h]
  obtain ⟨h1, h2, h3, _⟩ := pairE_ok h
  have : ∀ (D Z acc : List (List Int)), (pairR D Z acc).length = D.length + acc.length := fun D => by
   induction D with
   | nil => intro Z acc; show acc.length = 0 + acc.length; omega
   | cons a D ih => intro Z acc; unfold pairR; rw [ih, List.length_cons, List.length_cons]; omega
  rw [this, sortR_len]; simpa using h3
 ·rw [if_neg h]; decide
end Nt
theorem k_cpairU {u w : World} {x y : Sl} {Z D : List (List Int)} (d : Dat u w) (hx : IrV 3 u x Z) (hy : IrV 2 u y D) (hbZ : ∀ p ∈ Z, BdI p) (hbD : ∀ p ∈ D, BdI p) : Calls Tryz.prog 9 #[x.v, y.v] w (Post u w fun v u' => ∃ z : Sl, v = .tuple #[z.v, .int .i64 (Nt.pairE Z D)] ∧ IrV 5 u' z (Nt.pairL Z D)) := by
 unfold Nt.pairL
 by_cases h : Nt.pairE Z D = 0
 ·rw [if_pos h, h]
  obtain ⟨h1, h2, h3, _⟩ := Nt.pairE_ok h
  obtain ⟨k1, k2⟩ := Nt.pairE_okR hx.rows hy.rows h
  exact k_cpair d hx hy k1 k2 h1 xq h3
 ·rw [if_neg h]
  exact Post.mono (k_cpairBad d hx hy hbZ hbD h) fun v u' _ e => ⟨⟨none, 0, 0⟩, e, IrV.nil⟩
theorem k_rpairU {u w : World} {x y : Sl} {Z D : List (List Int)} (d : Dat u w) (hx : IrV 3 u x Z) (hy : IrV 2 u y D) (hbZ : ∀ p ∈ Z, BdI p) (hbD : ∀ p ∈ D, BdI p) : Calls Tryz.prog 10 #[x.v, y.v] w (Post u w fun v u' => ∃ z : Sl, v = .tuple #[z.v, .int .i64 (Nt.pairE Z D)] ∧ IrV 5 u' z (Nt.pairL Z D)) := by
 unfold Nt.pairL
 by_cases h : Nt.pairE Z D = 0
 ·rw [if_pos h, h]
  obtain ⟨h1, h2, h3, _⟩ := Nt.pairE_ok h
  obtain ⟨k1, k2⟩ := Nt.pairE_okR hx.rows hy.rows h
  exact k_rpair d hx hy k1 k2 h1 xq h3
 ·rw [if_neg h]
  exact Post.mono (k_rpairBad d hx hy hbZ hbD h) fun v u' _ e => ⟨⟨none, 0, 0⟩, e, IrV.nil⟩
theorem eqA3 (w : World) (d : Nat) (a b c : Int) : (Op.equalIn (d + 2) 29 (.agg #[.int .i64 a, .int .i64 b, .int .i64 c]) (.agg #[.int .i64 a, .int .i64 b, .int .i64 c])).run Tryz.prog w = .ok true w := by
 have hs : (sizeOf 3).run Tryz.prog w = .ok 1 w := by kernel_rfl
 have hr : List.range' 0 3 = [0, 1, 2] := rfl
 have he := fun (d : Nat) (k : IntKind) (x y : Int) => run_equalIn_int (P := Tryz.prog) w d 3 k _ x y Tryz.underlying3
 unfold Op.equalIn
 simp [run_underlying Tryz.underlying29, hs, hr, he, go_sem, part]
theorem eqA2 (w : World) (d : Nat) (a b : Int) : (Op.equalIn (d + 2) 30 (.agg #[.int .i64 a, .int .i64 b]) (.agg #[.int .i64 a, .int .i64 b])).run Tryz.prog w = .ok true w := by
 have hs : (sizeOf 3).run Tryz.prog w = .ok 1 w := by kernel_rfl
 have hr : List.range' 0 2 = [0, 1] := rfl
 have he := fun (d : Nat) (k : IntKind) (x y : Int) => run_equalIn_int (P := Tryz.prog) w d 3 k _ x y Tryz.underlying3
 unfold Op.equalIn
 simp [run_underlying Tryz.underlying30, hs, hr, he, go_sem, part]
theorem neq5 (w : World) (x y : Operand) (a b c d e : Int) : (do eqGuard .neq 32 x y (.agg #[.int .i64 a, .int .i64 b, .int .i64 c, .int .i64 d, .int .i64 e]) (.agg #[.int .i64 a, .int .i64 b, .int .i64 c, .int .i64 d, .int .i64 e]); binOp .neq 32 (.agg #[.int .i64 a, .int .i64 b, .int .i64 c, .int .i64 d, .int .i64 e]) (.agg #[.int .i64 a, .int .i64 b, .int .i64 c, .int .i64 d, .int .i64 e]) : Sem Value).run Tryz.prog w = .ok (.bool false) w := by
 have hg : Tryz.prog.eqGuardType Tryz.prog.depth 32 = false := by kernel_rfl
 have h3 : (sizeOf 29).run Tryz.prog w = .ok 3 w := by kernel_rfl
 have h2 : (sizeOf 30).run Tryz.prog w = .ok 2 w := by kernel_rfl
 have a3 : (isAgg 29).run Tryz.prog w = .ok true w := by kernel_rfl
 have a2 : (isAgg 30).run Tryz.prog w = .ok true w := by kernel_rfl
 have e3 : ∀ a b c : Int, (Op.equalIn 9999 29 (.agg #[.int .i64 a, .int .i64 b, .int .i64 c]) (.agg #[.int .i64 a, .int .i64 b, .int .i64 c])).run Tryz.prog w = .ok true w := fun a b c => eqA3 w 9997 a b c
 have e2 : ∀ a b : Int, (Op.equalIn 9999 30 (.agg #[.int .i64 a, .int .i64 b]) (.agg #[.int .i64 a, .int .i64 b])).run Tryz.prog w = .ok true w := fun a b => eqA2 w 9997 a b
 have hst : Tryz.prog.stoodInHeld 32 = false := by kernel_rfl
 have hf : Tryz.prog.fieldsOf 32 = #[{ name := "B", type := 29, offset := 0, embedded := false, tag := "", pkgPath := "", byteOffset := 0 }, { name := "A", type := 30, offset := 3, embedded := false, tag := "", pkgPath := "", byteOffset := 24 }] := by unfold Program.fieldsOf; rw [Tryz.underlying32]
 have hu : Tryz.prog.underlying 32 = some (.struct (Tryz.prog.fieldsOf 32)) := by rw [hf]; exact Tryz.underlying32
 have key : (Op.equalIn 10000 32 (.agg #[.int .i64 a, .int .i64 b, .int .i64 c, .int .i64 d, .int .i64 e]) (.agg #[.int .i64 a, .int .i64 b, .int .i64 c, .int .i64 d, .int .i64 e])).run Tryz.prog w = .ok true w := by
  refine (run_equalIn_agg w 9999 32 _ _ hu hst).trans ?_
  rw [hf]
  generalize 9999 = N at *
  simp [Op.eqFields, part, h3, h2, a3, a2, e3, e2, go_sem]
 rw [Sem.run_bind, run_eqGuard_agg w .neq 32 x y _ _ hg, Result.andThen_ok, run_neq_struct, key]
 rfl
section
variable {ops : Array Oper} {w0 : Base} {u0 : World} {S : St} {u : World} {o : Oper} {p : List Tmp} {seq : Bool} {rest : List (Oper × List Tmp)} {K : St → World → Prop}
theorem sy_neq5 (d : Tmp) {T2 : TypeId} {x y : Operand} {a1 a2 a3 a4 a5 : Int} (kk : sym Tryz.prog ops w0 u0 seq rest (S.set d (.v (.bool false))) u K) (hw : Wants ops o S := by exact zwh xj) (hd : o.dst = some d := by kernel_rfl) (hop : o.op = .binOp .neq 32 x y T2 := by rfl) (hf : freeB S d = true := by kernel_rfl)
  (hx : evO S x = some (.v (.agg #[.int .i64 a1, .int .i64 a2, .int .i64 a3, .int .i64 a4, .int .i64 a5])) := by rfl) (hy : evO S y = some (.v (.agg #[.int .i64 a1, .int .i64 a2, .int .i64 a3, .int .i64 a4, .int .i64 a5])) := by rfl) : sym Tryz.prog ops w0 u0 seq ((o, p) :: rest) S u K := by
 refine .inl ⟨by rw [hop]; exact (by decide : (0 : Nat) ≠ 2), .set (.v (.bool false)), ⟨zxz hd hf, .inl ⟨(fun t ht => by cases ht), fun B a w u' hr he hdt => ⟨hw B a hr, ?_⟩⟩⟩, ?_⟩
 ·have e1 : (execOp a.eval o).run Tryz.prog w = (do pure (Next.value (← (do eqGuard .neq 32 x y (a.eval x) (a.eval y); binOp .neq 32 (a.eval x) (a.eval y)))) : Sem Next).run Tryz.prog w := by unfold execOp; rw [hop]
  rw [e1, ev_eval hr hx, ev_eval hr hy]
  exact run_val (neq5 w x y a1 a2 a3 a4 a5)
 ·show sym Tryz.prog ops w0 u0 seq rest (S.put o.dst (some _)) u K
  rw [hd]; exact kk
end
section
variable {u : World} {b o : Nat} {L : List (List Int)} {i : Nat}
theorem rowf3 (h : ∀ j, j < 5 → u.cell? ⟨b, o + j, none⟩ = some (.int .i64 (gi L i j))) : ∀ j, j < [Value.int .i64 (gi L i 0), .int .i64 (gi L i 1), .int .i64 (gi L i 2)].length → u.cell? ⟨b, o + j, none⟩ = [Value.int .i64 (gi L i 0), .int .i64 (gi L i 1), .int .i64 (gi L i 2)][j]? := fun j hj => by
 have hj : j < 3 := hj
 rw [h j xq]
 obtain rfl | rfl | rfl : j = 0 ∨ j = 1 ∨ j = 2 := by omega
 ·rfl
 ·rfl
 ·rfl
theorem rowf2 (h : ∀ j, j < 5 → u.cell? ⟨b, o + j, none⟩ = some (.int .i64 (gi L i j))) : ∀ j, j < [Value.int .i64 (gi L i 3), .int .i64 (gi L i 4)].length → u.cell? ⟨b, o + 3 + j, none⟩ = [Value.int .i64 (gi L i 3), .int .i64 (gi L i 4)][j]? := fun j hj => by
 have hj : j < 2 := hj
 rw [Nat.add_assoc, h (3 + j) xq]
 obtain rfl | rfl : j = 0 ∨ j = 1 := by omega
 ·rfl
 ·rfl
end
set_option maxHeartbeats 1000000 in
theorem k_sameFilt {u w : World} {x1 y1 x2 y2 : Sl} {l m : List Rat} {K : Nat} (d : Dat u w) (hx1 : PolN u x1 l K) (hy1 : PolN u y1 m K) (hx2 : PolN u x2 l K) (hy2 : PolN u y2 m K) (hK : K ≤ 1000000) (h8 : l.length ≤ 1000) (h9 : m.length ≤ 1000) : Calls Tryz.prog 14 #[.agg #[x1.v, y1.v], .agg #[x2.v, y2.v]] w (Post u w fun v u' => v = .bool true) := by
 have hl1 := hx1.len
 have hl2 := hx2.len
 have hl3 := hy1.len
 have hl4 := hy2.len
 refine zzm (args := [.agg #[.slice x1.a x1.n x1.c, .slice y1.a y1.n y1.c], .agg #[.slice x2.a x2.n x2.c, .slice y2.a y2.n y2.c]]) Tryz.func14 rfl Tryz.ntmps14 (rs := [.tmp 4]) Tryz.results14 (le_b rfl) (le_b rfl) d ?_
 refine sq9 (zzk 2 ⟨42, [x1.v, y1.v]⟩ (zzk 3 ⟨42, [x2.v, y2.v]⟩ (zza 4 (zB false) (zzb (sq9 (zza 5 (.adr 2 0) (zzi 6 (.v x1.v) ty40 zzl (zza 7 (.adr 3 0) (zzi 8 (.v x2.v) ty40 zzl (zzg 9 49 [x1.v, x2.v] ?_))))))))))
 intro w11 u11 e11 d11
 have k14 := k_r5Same d11 (hx1.ext e11).raw (hx2.ext e11).raw xq xq xz xz
 with_reducible refine zPm k14 ?_
 rintro _ u12 g13 rfl
 refine zyq 10 (x := zB (decide (Nt.trimQ l = Nt.trimQ l))) (zB true) (by rw [show (decide (Nt.trimQ l = Nt.trimQ l)) = true from decide_eq_true rfl]) (zza 11 (.adr 2 1) ?_ (hw := w1 5 true 10))
 refine zzi 12 (.v y1.v) ty40 zzl ?_ (hw := w1 5 true 10)
 refine zza 13 (.adr 3 1) ?_ (hw := w1 5 true 10)
 refine zzi 14 (.v y2.v) ty40 zzl ?_ (hw := w1 5 true 10)
 refine zzg 15 49 [y1.v, y2.v] ?_ (hw := w1 5 true 10)
 intro w16 u16 e16 d16
 have k19 := k_r5Same d16 (hy1.ext (e11.trans (g13.ext.trans e16))).raw (hy2.ext (e11.trans (g13.ext.trans e16))).raw xq xq xz xz
 with_reducible refine zPm k19 ?_
 rintro _ u17 g18 rfl
 refine zza 16 (zB (decide (Nt.trimQ m = Nt.trimQ m))) (zza 4 (zB (decide (Nt.trimQ m = Nt.trimQ m))) (zzb (zzo (ret0 [.bool (decide (Nt.trimQ m = Nt.trimQ m))] ⟨zzq, trivial⟩ fun u20 e21 => ?_))))
 show Value.bool _ = Value.bool _
 rw [show (decide (Nt.trimQ m = Nt.trimQ m)) = true from decide_eq_true rfl]
end Go.Proofs.YtifcjcecmoimjaaGreat
