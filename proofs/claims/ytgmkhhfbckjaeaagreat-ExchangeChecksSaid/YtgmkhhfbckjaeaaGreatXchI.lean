/- Parts of the proof: contracts of functions, each walked once, and plain laws. -/
import Derived.Test.YtgmkhhfbckjaeaaGreatXchH
set_option linter.unusedVariables false
set_option maxHeartbeats 8000000
namespace Go.Proofs.YtgmkhhfbckjaeaaGreat
open Nt
open Go.RowKit
def Nt.sgJ (i : Nat) : Int := if i % 2 = 0 then 1 else -1
theorem Nt.sgJ_q (i : Nat) : ((Nt.sgJ i : Int) : Rat) = Nt.sg1 i := by unfold Nt.sgJ Nt.sg1; split <;> rfl
theorem Nt.trim_nwL {x c : Nat → Rat} {n j : Nat} (h : 1 ≤ j) : Nt.trimQ (Nt.nwL x c n j) = Nt.nwL x c n j := by
 match j, h with
 | j + 1, _ => exact Nt.trim_trim _
theorem Nt.tmod2 (i : Nat) : Int.tmod (i : Int) 2 = ((i % 2 : Nat) : Int) := (Int.ofNat_tmod i 2).symm
theorem Nt.mul_len9 {l m : List Rat} (h : l.length ≤ 11) (k : m.length ≤ 2) : (Nt.trimQ (Nt.mulQ l m)).length ≤ 13 := Nat.le_trans (zxt h k) yv
theorem k_levelled {u w : World} {z : Sl} {l : List Nat} {n : Nat} {x : Sl} {N : Nat} {V : List Rat} (d : Dat u w) (hg : GrN u x N V 1) (ho : Nt.GrOK V N) (hz : SlR .i64 u z.a z.n z.c (Nt.inl l)) (hR : Nt.Rf N l n) (hn1 : 1 ≤ n) : qyc 61 #[x.v, z.v] w (Post u w fun v u' => ∃ (y : Sl) (r : RL), v = .tuple #[y.v, r.v] ∧ PolN u' y (Nt.pL V l) 60000 ∧ RatN u' r (Nt.eL V l) 2700) := by
 have hxn : x.n = N := hg.len
 have hN12 := ho.n12
 have hN1 := ho.n1
 have hl := hR.len
 have hzn : z.n = n + 1 := by have h9 := hz.1; rw [Nt.inl_len] at h9; omega
 have hn11 := hR.n11 hN12
 refine zzm Tryz.func61 rfl Tryz.ntmps61 Tryz.results61 d ?_
 refine sq9 (zza 4 (.v (qyn)) (zzk 5 ⟨32, zw3⟩ (zzb (sq9 (zza 20 (.v (z.v)) (zza 21 (zI z.n) (zza 6 (zI z.n) (zzb (zzd (zzz [0, 1, 0, 4, 3, 31] [(0, []), (1, []), (2, []), (3, []), (4, []), (5, [])] xj xj (zza 22 (zI z.n) ?_)))))))))))
 refine sy_make 23 (T := 26) (E := 32) (z := .agg #[.bool false, qyn, qyn]) (size := 3) (bytes := 56) z.n (rcs (List.replicate z.n rl0)) xj xj rfl rfl xq yk (made_rcs _) ?_
 refine zza 24 (zI z.n) (sy_make 25 (T := 26) (E := 32) (z := .agg #[.bool false, qyn, qyn]) (size := 3) (bytes := 56) z.n (rcs (List.replicate z.n rl0)) xj xj rfl rfl xq yk (made_rcs _) ?_)
 refine zza 7 (.slc 23 0 z.n z.n) (zza 8 (.slc 25 0 z.n z.n) (zzc 177 [(0, .v (x.v)), (1, .v (z.v)), (5, .adr 5 0), (6, zI z.n), (7, .slc 23 0 z.n z.n), (8, .slc 25 0 z.n z.n)] [(5, ⟨32, zw3⟩), (23, ⟨32, rcs (List.replicate z.n rl0)⟩), (25, ⟨32, rcs (List.replicate z.n rl0)⟩)] (zzd (sq9 (zza 26 (.v (z.v)) (zza 27 (zI z.n) (zza 28 (zI 0) (zzb (zzt (zyn (I := fun cz S' u' => ∃ (i : Nat) (L1 : List RL) (L2 : List RL), (cz = n + 1 - i) ∧ (i ≤ n + 1) ∧ (L1.length = z.n) ∧ (L2.length = z.n) ∧ (S' = St.of 177 [(0, .v (x.v)), (1, .v (z.v)), (5, .adr 5 0), (6, zI z.n), (7, .slc 23 0 z.n z.n), (8, .slc 25 0 z.n z.n), (26, .v (z.v)), (27, zI z.n), (28, zI i)] [(5, ⟨32, zw3⟩), (23, ⟨32, rcs L1⟩), (25, ⟨32, rcs L2⟩)]) ∧ (Ext u u') ∧ (RatG u' L1 (Nt.dT (Nt.xs V l) (Nt.ys V l) 0) (fun _ => 3) i) ∧ (RatG u' L2 (Nt.dT (Nt.xs V l) (Nt.sgw V l) 0) (fun _ => 3) i)) (fun m S u1 u2 e h => by obtain ⟨i, L1, L2, hm, p0, p1, p2, hS, hE, f0, f1⟩ := h; exact ⟨i, L1, L2, hm, p0, p1, p2, hS, hE.trans e, f0.ext e, f1.ext e⟩) _ yz ⟨0, List.replicate z.n rl0, List.replicate z.n rl0, rfl, by omega, zv, zv, rfl, (Ext.refl _), RatG.nil, RatG.nil⟩ ?_))))))))))
 rintro cz _ dF ⟨i, L1, L2, dQ, hi, c1, cY, rfl, ac, g1, g2⟩
 refine sq9 (zza 29 (zB (decide ((i : Int) < (z.n : Int)))) (zzb (zzd (zzu (b := decide ((i : Int) < (z.n : Int))) xj (fun aP => ?_) (fun aP => ?_)))))
 ·have qhb12 := qyt aP
  refine zzs (zzp ?_)
  refine zzd (zzt (sq9 (zza 30 (zI i) ?_)))
  have bI : (Nt.inl l).length = z.n := ((hz.ext ac)).1
  rw [Nt.inl_len] at bI
  obtain ⟨b13, cN, bN, bf⟩ := ints_at (hz.ext ac) (i := i) (by have h9 : i < l.length := xq; omega)
  rw [Nt.inl_at] at bf
  refine zya 31 (cN + i * 1) (n := z.n) (off := cN) (sz := 1) (i := (i : Int)) xq bN xq (by first | omega | (have h9 : i < l.length := xq; omega)) sl22 (zyl 32 (.int .i64 (((l.getD i 0) : Nat) : Int)) bf ty3 (zza 9 (zI i) (zza 10 (zI (((l.getD i 0) : Nat) : Int)) (zzb (sq9 (zza 33 (.slc 23 0 z.n z.n) (zza 34 (zI i) (zza 35 (.v (x.v)) (zza 36 (zI (((l.getD i 0) : Nat) : Int)) ?_)))))))))
  have dL : x.n = N := GrN.len (hg.ext ac)
  obtain ⟨dM, ah, ds, dv, bH, b5, cp, bh, cM, cl, a2, cK⟩ := gr_at (hg.ext ac) (i := (l.getD i 0)) (hR.lt _ xq)
  refine zya 37 (bH + (l.getD i 0) * 9) (n := x.n) (off := bH) (sz := 9) (i := (((l.getD i 0) : Nat) : Int)) xq b5 xq (by first | omega | (have h9 : (l.getD i 0) < N := (hR.lt _ xq); omega)) sl23 (zza 38 (.v (.pointer (some ⟨dv, bH + (l.getD i 0) * 9 + 3, none⟩))) (zym 39 (ah.cs) bh ty32 (zyw 40 (off' := i * 3) (n := z.n) (off := 0) (sz := 3) (i := (i : Int)) sl26 xq xq xq ?_)))
  refine zyv (V := ⟨32, rcs L1⟩) (off := i * 3) (rcs ((L1).set i ah)) ty32 (by rw [zyy]; omega) (zyx (r := ah) (i := i) xq rfl) ?_
  refine zzc 177 [(0, .v (x.v)), (1, .v (z.v)), (5, .adr 5 0), (6, zI z.n), (7, .slc 23 0 z.n z.n), (8, .slc 25 0 z.n z.n), (9, zI i), (10, zI (((l.getD i 0) : Nat) : Int)), (26, .v (z.v)), (27, zI z.n), (28, zI i)] [(5, ⟨32, zw3⟩), (23, ⟨32, rcs ((L1).set i ah)⟩), (25, ⟨32, rcs L2⟩)] (zzz [0, 0, 0, 4, 12, 28, 60, 0, 0, 384, 896, 1920, 4092, 8188, 16380, 16380, 32767, 98303] [(0, []), (1, []), (2, []), (3, []), (4, []), (5, []), (7, []), (8, []), (9, []), (10, []), (11, []), (6, []), (12, []), (13, []), (14, []), (15, []), (16, []), (17, [])] xj xj (zza 42 (.slc 25 0 z.n z.n) (zza 43 (zI i) (zza 44 (zI i) (zyq 45 (x := zI (Int.tmod (i : Int) 2)) (zI (i % 2 : Nat)) (by rw [Nt.tmod2]) (qwi 46 ((2 : Int) * (((i % 2) : Nat) : Int)) ((2 * (i % 2) : Nat) : Int) xz (qwi 47 (1 - ((2 * (i % 2) : Nat) : Int)) (Nt.sgJ i) (by rw [IntWalk.i64_in _ xq]; unfold Nt.sgJ; split <;> omega) ?_)))))))
  have hsg : -1 ≤ Nt.sgJ i ∧ Nt.sgJ i ≤ 1 := by unfold Nt.sgJ; split <;> omega
  refine zza 49 (.v (x.v)) (zza 50 (zI (((l.getD i 0) : Nat) : Int)) ?_)
  have c7 : x.n = N := GrN.len (hg.ext ac)
  obtain ⟨cU, da, bK, cX, bU, b3, cq, cj, br, ct, cv, aZ⟩ := gr_at (hg.ext ac) (i := (l.getD i 0)) (hR.lt _ xq)
  refine zya 51 (bU + (l.getD i 0) * 9) (n := x.n) (off := bU) (sz := 9) (i := (((l.getD i 0) : Nat) : Int)) xq b3 xq (by first | omega | (have h9 : (l.getD i 0) < N := (hR.lt _ xq); omega)) sl23 (zza 52 (.v (.pointer (some ⟨cX, bU + (l.getD i 0) * 9 + 6, none⟩))) (zym 53 (bK.cs) br ty32 (zzg 48 109 _ fun _ _ a3 df => qym (k_ratOf df (z := Nt.sgJ i) xq xq) ?_)))
  rintro _ u19 bd ⟨r17, rfl, dS⟩
  refine zzg 54 138 _ fun _ _ aV du => qym (k_ratDiv1 du (dS.ext aV).raw (aZ.ext (a3.t (bd.t aV))).raw (ho.wne (hR.lt _ xq)) xq xq) ?_
  rintro _ u25 bx ⟨a4, rfl, dk⟩
  refine zza 41 (.v (.tuple #[a4.v, .int .i64 0])) (zza 55 (.v (a4.v)) (zza 56 (zI 0) (zyw 57 (off' := i * 3) (n := z.n) (off := 0) (sz := 3) (i := (i : Int)) sl26 xq xq xq ?_)))
  refine zyv (V := ⟨32, rcs L2⟩) (off := i * 3) (rcs ((L2).set i a4)) ty32 (by rw [zyy]; omega) (zyx (r := a4) (i := i) xq rfl) ?_
  refine zzx ?_
  refine zzp (zzf (qwi 58 ((i : Int) + 1) (i + 1 : Nat) xz (zza 28 (zI (i + 1 : Nat)) (zzx ?_))))
  refine ⟨_, ?_, _, by exact zzv _ _ _, i + 1, (L1).set i ah, (L2).set i a4, rfl, by omega, yw, yw, rfl, (ac.t (a3.t (bd.t (aV.t bx.ext)))), (RatG.set (g1.ext (a3.t (bd.t (aV.t bx.ext)))) xq (a2.ext (a3.t (bd.t (aV.t bx.ext)))) (fun j hj => by by_cases e : j = i; (exact .inl ⟨e, by subst e; exact Nt.dT_0, by omega⟩); exact .inr ⟨e, by omega, rfl, Nat.le_refl _⟩)), (RatG.set (g2.ext (a3.t (bd.t (aV.t bx.ext)))) xq dk (fun j hj => by by_cases e : j = i; (exact .inl ⟨e, by subst e; rw [Nt.dT_0, Nt.sgJ_q]; rfl, by omega⟩); exact .inr ⟨e, by omega, rfl, Nat.le_refl _⟩))⟩
  omega
 have qhb12 := qyf aP
 refine zyc (zzp (zzd (sq9 (zza 11 (zI 1) (zzb (zzt (zyn (I := fun cH S' u' => ∃ (o : Nat) (M1 : List RL) (M2 : List RL), (cH = n - o) ∧ (o ≤ n) ∧ (M1.length = z.n) ∧ (M2.length = z.n) ∧ (S' = St.of 177 [(0, .v (x.v)), (1, .v (z.v)), (5, .adr 5 0), (6, zI z.n), (7, .slc 23 0 z.n z.n), (8, .slc 25 0 z.n z.n), (11, zI (((o + 1) : Nat) : Int))] [(5, ⟨32, zw3⟩), (23, ⟨32, rcs M1⟩), (25, ⟨32, rcs M2⟩)]) ∧ (Ext dF u') ∧ (RatG u' M1 (Nt.dT (Nt.xs V l) (Nt.ys V l) o) (fun _ => Nt.sZ o) (n + 1)) ∧ (RatG u' M2 (Nt.dT (Nt.xs V l) (Nt.sgw V l) o) (fun _ => Nt.sZ o) (n + 1))) (fun m S u1 u2 e h => by obtain ⟨o, M1, M2, hm, p0, p1, p2, hS, hE, f0, f1⟩ := h; exact ⟨o, M1, M2, hm, p0, p1, p2, hS, hE.trans e, f0.ext e, f1.ext e⟩) _ yz ⟨0, L1, L2, rfl, by omega, c1, cY, rfl, (Ext.refl _), (by have h9 := g1; rw [show i = n + 1 by omega] at h9; exact h9), (by have h9 := g2; rw [show i = n + 1 by omega] at h9; exact h9)⟩ ?_)))))))
 rintro cH _ ba ⟨o, M1, M2, cV, ho9, dH, c9, rfl, ae, f1, f2⟩
 have hsz := Nt.sZ_bd (o := o) xq
 refine zzd (sq9 (zza 59 (zI (((o + 1) : Nat) : Int)) (zza 60 (zI z.n) (zza 61 (zB (decide ((((o + 1) : Nat) : Int) < (z.n : Int)))) (zzb (zzu (b := decide ((((o + 1) : Nat) : Int) < (z.n : Int))) xj (fun aJ => ?_) (fun aJ => ?_)))))))
 ·have qhb29 := qyt aJ
  refine zzs (zzp ?_)
  refine zzd (zzt (sq9 (zza 64 (zI z.n) (qwi 65 ((z.n : Int) - 1) ((n : Int)) (by rw [IntWalk.i64_in _ xq] <;> omega) (zza 12 (zI ((n : Int))) (zzb (zzt (zyn (I := fun ce S' u' => ∃ (i : Nat) (A1 : List RL) (A2 : List RL), (ce = i - o) ∧ (o ≤ i) ∧ (i ≤ n) ∧ (A1.length = z.n) ∧ (A2.length = z.n) ∧ (S' = St.of 177 [(0, .v (x.v)), (1, .v (z.v)), (5, .adr 5 0), (6, zI z.n), (7, .slc 23 0 z.n z.n), (8, .slc 25 0 z.n z.n), (11, zI (((o + 1) : Nat) : Int)), (12, zI i)] [(5, ⟨32, zw3⟩), (23, ⟨32, rcs A1⟩), (25, ⟨32, rcs A2⟩)]) ∧ (Ext ba u') ∧ (RatG u' A1 (Nt.fM (Nt.xs V l) (Nt.ys V l) o i) (Nt.kM o i) (n + 1)) ∧ (RatG u' A2 (Nt.fM (Nt.xs V l) (Nt.sgw V l) o i) (Nt.kM o i) (n + 1))) (fun m S u1 u2 e h => by obtain ⟨i, A1, A2, hm, p0, p1, p2, p3, hS, hE, f0, f1⟩ := h; exact ⟨i, A1, A2, hm, p0, p1, p2, p3, hS, hE.trans e, f0.ext e, f1.ext e⟩) _ yz ⟨n, M1, M2, rfl, by omega, by omega, dH, c9, rfl, (Ext.refl _), (RatG.turn f1 (fun j hj => ⟨if_neg xq, Nat.le_of_eq (if_neg xq).symm⟩)), (RatG.turn f2 (fun j hj => ⟨if_neg xq, Nat.le_of_eq (if_neg xq).symm⟩))⟩ ?_))))))))
  rintro ce _ u30 ⟨i, A1, A2, dU, hi0, hi1, dG, dP, rfl, an, e1, e2⟩
  refine zzd (sq9 (zza 66 (zI i) (zza 67 (zI (((o + 1) : Nat) : Int)) (zza 68 (zB (decide ((((o + 1) : Nat) : Int) ≤ (i : Int)))) (zzb (zzu (b := decide ((((o + 1) : Nat) : Int) ≤ (i : Int))) xj (fun aI => ?_) (fun aI => ?_)))))))
  ·have qhb31 := qyt aI
   refine zzs (zzp ?_)
   refine zzd (zzt (zzd (zzz [0, 0, 0, 6, 14, 31, 63, 127, 0, 0, 0, 0, 3072, 7680, 15872, 32512, 65280, 130816, 262143, 0, 1048575] [(0, []), (1, []), (2, []), (3, []), (4, []), (5, []), (6, []), (7, []), (8, []), (9, []), (10, []), (11, []), (12, []), (13, []), (14, []), (15, []), (16, []), (17, []), (19, []), (18, []), (20, [])] xj xj (zza 71 (.v (x.v)) (zza 72 (.v (z.v)) (zza 73 (zI i) ?_))))))
   have b7 : (Nt.inl l).length = z.n := ((hz.ext (ac.trans (ae.trans an)))).1
   rw [Nt.inl_len] at b7
   obtain ⟨b32, cr, b4, a9⟩ := ints_at (hz.ext (ac.trans (ae.trans an))) (i := i) (by have h9 : i < l.length := xq; omega)
   rw [Nt.inl_at] at a9
   refine zya 74 (cr + i * 1) (n := z.n) (off := cr) (sz := 1) (i := (i : Int)) xq b4 xq (by first | omega | (have h9 : i < l.length := xq; omega)) sl22 (zyl 75 (.int .i64 (((l.getD i 0) : Nat) : Int)) a9 ty3 ?_)
   have c0 : x.n = N := GrN.len (hg.ext (ac.trans (ae.trans an)))
   obtain ⟨b6, dR, dp, dw, bV, b9, bi, cF, cA, bg, ci, cx⟩ := gr_at (hg.ext (ac.trans (ae.trans an))) (i := (l.getD i 0)) (hR.lt _ xq)
   refine zya 76 (bV + (l.getD i 0) * 9) (n := x.n) (off := bV) (sz := 9) (i := (((l.getD i 0) : Nat) : Int)) xq b9 xq (by first | omega | (have h9 : (l.getD i 0) < N := (hR.lt _ xq); omega)) sl23 (zza 77 (.v (.pointer (some ⟨dw, bV + (l.getD i 0) * 9, none⟩))) (zym 78 (b6.cs) bi ty32 (zza 79 (.v (x.v)) (zza 80 (.v (z.v)) (zza 81 (zI i) (zza 82 (zI (((o + 1) : Nat) : Int)) (qwi 83 ((i : Int) - (((o + 1) : Nat) : Int)) ((i - (o + 1) : Nat) : Int) xz ?_)))))))
   have bF : (Nt.inl l).length = z.n := ((hz.ext (ac.trans (ae.trans an)))).1
   rw [Nt.inl_len] at bF
   obtain ⟨b34, cy, bT, bk⟩ := ints_at (hz.ext (ac.trans (ae.trans an))) (i := i - (o + 1)) (by have h9 : i - (o + 1) < l.length := xq; omega)
   rw [Nt.inl_at] at bk
   refine zya 84 (cy + (i - (o + 1)) * 1) (n := z.n) (off := cy) (sz := 1) (i := ((i - (o + 1) : Nat) : Int)) xq bT xq (by first | omega | (have h9 : i - (o + 1) < l.length := xq; omega)) sl22 (zyl 85 (.int .i64 (((l.getD (i - (o + 1)) 0) : Nat) : Int)) bk ty3 ?_)
   have de : x.n = N := GrN.len (hg.ext (ac.trans (ae.trans an)))
   obtain ⟨bR, c2, dc, c6, bB, bL, bb, ch, cD, bv, cJ, cG⟩ := gr_at (hg.ext (ac.trans (ae.trans an))) (i := (l.getD (i - (o + 1)) 0)) (hR.lt _ xq)
   refine zya 86 (bB + (l.getD (i - (o + 1)) 0) * 9) (n := x.n) (off := bB) (sz := 9) (i := (((l.getD (i - (o + 1)) 0) : Nat) : Int)) xq bL xq (by first | omega | (have h9 : (l.getD (i - (o + 1)) 0) < N := (hR.lt _ xq); omega)) sl23 (zza 87 (.v (.pointer (some ⟨c6, bB + (l.getD (i - (o + 1)) 0) * 9, none⟩))) (zym 88 (bR.cs) bb ty32 (zzk 13 ⟨32, zw3⟩ (zzg 89 139 _ fun _ _ aw cR => qym (k_ratSub cR (bg.ext aw).raw (bv.ext aw).raw xq xq) ?_))))
   rintro _ u39 aG ⟨a8, rfl, cn⟩
   refine zzj ⟨32, a8.cs⟩ ty32 ?_
   refine zzc 177 [(0, .v (x.v)), (1, .v (z.v)), (5, .adr 5 0), (6, zI z.n), (7, .slc 23 0 z.n z.n), (8, .slc 25 0 z.n z.n), (11, zI (((o + 1) : Nat) : Int)), (12, zI i), (13, .adr 13 0)] [(5, ⟨32, zw3⟩), (13, ⟨32, a8.cs⟩), (23, ⟨32, rcs A1⟩), (25, ⟨32, rcs A2⟩)] (zzd (zzz [0, 0, 0, 0, 12, 28, 0, 0, 128, 448, 960, 2044, 0, 8188, 16380, 32764, 32764, 65535, 196607] [(0, []), (1, []), (2, []), (3, []), (4, []), (5, []), (6, []), (7, []), (8, []), (9, []), (10, []), (12, []), (11, []), (13, []), (14, []), (15, []), (16, []), (17, []), (18, [])] xj xj (zza 91 (.slc 23 0 z.n z.n) (zza 92 (zI i) (zza 93 (.slc 23 0 z.n z.n) (zza 94 (zI i) (zyw 95 (off' := i * 3) (n := z.n) (off := 0) (sz := 3) (i := (i : Int)) sl26 xq xq xq ?_)))))))
   obtain ⟨dn, aA⟩ : ∃ r : RL, (A1).getD i rl0 = r := ⟨_, rfl⟩
   refine zzi 96 (V := ⟨32, rcs A1⟩) (off := i * 3) (.v dn.v) ty32 (by have h9 := part_rcs (L := A1) (i := i) (off := i * 3) xq rfl; rw [aA] at h9; exact h9) ?_
   have h43 := (e1.ext (aw.t aG.ext)) i xq
   rw [show Nt.fM (Nt.xs V l) (Nt.ys V l) o i i = Nt.dT (Nt.xs V l) (Nt.ys V l) o i from if_neg xq, show Nt.kM o i i = Nt.sZ o from if_neg xq, aA] at h43
   refine zza 97 (.slc 23 0 z.n z.n) (zza 98 (zI i) (qwi 99 ((i : Int) - 1) (i - 1 : Nat) xz (zyw 100 (off' := (i - 1) * 3) (n := z.n) (off := 0) (sz := 3) (i := ((i - 1 : Nat) : Int)) sl26 xq xq xq ?_)))
   obtain ⟨dr, az⟩ : ∃ r : RL, (A1).getD (i - 1) rl0 = r := ⟨_, rfl⟩
   refine zzi 101 (V := ⟨32, rcs A1⟩) (off := (i - 1) * 3) (.v dr.v) ty32 (by have h9 := part_rcs (L := A1) (i := i - 1) (off := (i - 1) * 3) xq rfl; rw [az] at h9; exact h9) ?_
   have h45 := (e1.ext (aw.t aG.ext)) (i - 1) xq
   rw [show Nt.fM (Nt.xs V l) (Nt.ys V l) o i (i - 1) = Nt.dT (Nt.xs V l) (Nt.ys V l) o (i - 1) from if_neg xq, show Nt.kM o i (i - 1) = Nt.sZ o from if_neg xq, az] at h45
   refine zzi 103 (.v (a8.v)) ty32 zze (zzg 102 139 _ fun _ _ av dO => qym (k_ratSub dO (h43.ext av).raw (h45.ext av).raw xq xq) ?_)
   rintro _ u49 aO ⟨r47, rfl, cS⟩
   refine zzg 104 138 _ fun _ _ ax dI => qym (k_ratDiv1 dI (cS.ext ax).raw (cn.ext (av.t (aO.t ax))).raw (ho.gap hR xq xq) xq xq) ?_
   rintro _ u55 aU ⟨aW, rfl, cZ⟩
   refine zza 90 (.v (.tuple #[aW.v, .int .i64 0])) (zza 105 (.v (aW.v)) (zza 106 (zI 0) (zyw 107 (off' := i * 3) (n := z.n) (off := 0) (sz := 3) (i := (i : Int)) sl26 xq xq xq ?_)))
   refine zyv (V := ⟨32, rcs A1⟩) (off := i * 3) (rcs ((A1).set i aW)) ty32 (by rw [zyy]; omega) (zyx (r := aW) (i := i) xq rfl) ?_
   refine zzc 177 [(0, .v (x.v)), (1, .v (z.v)), (5, .adr 5 0), (6, zI z.n), (7, .slc 23 0 z.n z.n), (8, .slc 25 0 z.n z.n), (11, zI (((o + 1) : Nat) : Int)), (12, zI i), (13, .adr 13 0)] [(5, ⟨32, zw3⟩), (13, ⟨32, a8.cs⟩), (23, ⟨32, rcs ((A1).set i aW)⟩), (25, ⟨32, rcs A2⟩)] (zzz [0, 0, 0, 0, 12, 28, 0, 0, 128, 448, 960, 2044, 0, 8188, 16380, 32764, 32764, 65535, 196607] [(0, []), (1, []), (2, []), (3, []), (4, []), (5, []), (6, []), (7, []), (8, []), (9, []), (10, []), (12, []), (11, []), (13, []), (14, []), (15, []), (16, []), (17, []), (18, [])] xj xj (zza 109 (.slc 25 0 z.n z.n) (zza 110 (zI i) (zza 111 (.slc 25 0 z.n z.n) (zza 112 (zI i) (zyw 113 (off' := i * 3) (n := z.n) (off := 0) (sz := 3) (i := (i : Int)) sl26 xq xq xq ?_))))))
   obtain ⟨c5, aC⟩ : ∃ r : RL, (A2).getD i rl0 = r := ⟨_, rfl⟩
   refine zzi 114 (V := ⟨32, rcs A2⟩) (off := i * 3) (.v c5.v) ty32 (by have h9 := part_rcs (L := A2) (i := i) (off := i * 3) xq rfl; rw [aC] at h9; exact h9) ?_
   have h59 := (e2.ext (aw.t (aG.t (av.t (aO.t (ax.t aU.ext)))))) i xq
   rw [show Nt.fM (Nt.xs V l) (Nt.sgw V l) o i i = Nt.dT (Nt.xs V l) (Nt.sgw V l) o i from if_neg xq, show Nt.kM o i i = Nt.sZ o from if_neg xq, aC] at h59
   refine zza 115 (.slc 25 0 z.n z.n) (zza 116 (zI i) (qwi 117 ((i : Int) - 1) (i - 1 : Nat) xz (zyw 118 (off' := (i - 1) * 3) (n := z.n) (off := 0) (sz := 3) (i := ((i - 1 : Nat) : Int)) sl26 xq xq xq ?_)))
   obtain ⟨dK, aB⟩ : ∃ r : RL, (A2).getD (i - 1) rl0 = r := ⟨_, rfl⟩
   refine zzi 119 (V := ⟨32, rcs A2⟩) (off := (i - 1) * 3) (.v dK.v) ty32 (by have h9 := part_rcs (L := A2) (i := i - 1) (off := (i - 1) * 3) xq rfl; rw [aB] at h9; exact h9) ?_
   have h61 := (e2.ext (aw.t (aG.t (av.t (aO.t (ax.t aU.ext)))))) (i - 1) xq
   rw [show Nt.fM (Nt.xs V l) (Nt.sgw V l) o i (i - 1) = Nt.dT (Nt.xs V l) (Nt.sgw V l) o (i - 1) from if_neg xq, show Nt.kM o i (i - 1) = Nt.sZ o from if_neg xq, aB] at h61
   refine zzi 121 (.v (a8.v)) ty32 zze (zzg 120 139 _ fun _ _ aM cP => qym (k_ratSub cP (h59.ext aM).raw (h61.ext aM).raw xq xq) ?_)
   rintro _ u65 bl ⟨r63, rfl, dh⟩
   refine zzg 122 138 _ fun _ _ aS dj => qym (k_ratDiv1 dj (dh.ext aS).raw (cn.ext (av.t (aO.t (ax.t (aU.t (aM.t (bl.t aS))))))).raw (ho.gap hR xq xq) xq xq) ?_
   rintro _ u71 bw ⟨bu, rfl, dJ⟩
   refine zza 108 (.v (.tuple #[bu.v, .int .i64 0])) (zza 123 (.v (bu.v)) (zza 124 (zI 0) (zyw 125 (off' := i * 3) (n := z.n) (off := 0) (sz := 3) (i := (i : Int)) sl26 xq xq xq ?_)))
   refine zyv (V := ⟨32, rcs A2⟩) (off := i * 3) (rcs ((A2).set i bu)) ty32 (by rw [zyy]; omega) (zyx (r := bu) (i := i) xq rfl) ?_
   refine zzx ?_
   refine zzp (zzf (zza 69 (zI i) (qwi 70 ((i : Int) - 1) (i - 1 : Nat) xz (zza 12 (zI (i - 1 : Nat)) (zzx ?_)))))
   refine ⟨_, ?_, _, by exact zzv _ _ _, i - 1, (A1).set i aW, (A2).set i bu, rfl, by omega, by omega, yw, yw, rfl, (an.t (aw.t (aG.t (av.t (aO.t (ax.t (aU.t (aM.t (bl.t (aS.t bw.ext)))))))))), (RatG.set (e1.ext (aw.t (aG.t (av.t (aO.t (ax.t (aU.t (aM.t (bl.t (aS.t bw.ext)))))))))) xq (cZ.ext (aM.t (bl.t (aS.t bw.ext)))) (fun j hj => by by_cases e : j = i; (subst e; exact .inl ⟨rfl, (if_pos xq).trans (Nt.dT_s xq), by unfold Nt.kM; rw [if_pos xq]; show _ ≤ 2 * Nt.sZ o + 4; omega⟩); (exact .inr ⟨e, hj, by unfold Nt.fM; split <;> split <;> first | rfl | omega, by unfold Nt.kM; split <;> split <;> first | exact Nat.le_refl _ | omega⟩))), (RatG.set (e2.ext (aw.t (aG.t (av.t (aO.t (ax.t (aU.t (aM.t (bl.t (aS.t bw.ext)))))))))) xq dJ (fun j hj => by by_cases e : j = i; (subst e; exact .inl ⟨rfl, (if_pos xq).trans (Nt.dT_s xq), by unfold Nt.kM; rw [if_pos xq]; show _ ≤ 2 * Nt.sZ o + 4; omega⟩); (exact .inr ⟨e, hj, by unfold Nt.fM; split <;> split <;> first | rfl | omega, by unfold Nt.kM; split <;> split <;> first | exact Nat.le_refl _ | omega⟩)))⟩
   omega
  have qhb31 := qyf aI
  refine zyc (zzp (zzf (zza 62 (zI (((o + 1) : Nat) : Int)) (qwi 63 ((((o + 1) : Nat) : Int) + 1) (((o + 1) + 1 : Nat) : Int) xz (zza 11 (zI (((o + 1) + 1 : Nat) : Int)) (zzx ?_))))))
  refine ⟨_, ?_, _, by exact zzv _ _ _, o + 1, A1, A2, rfl, by omega, dG, dP, rfl, (ae.trans an), (RatG.turn e1 (fun j hj => by by_cases e : o < j; (exact ⟨(if_pos e).symm.trans (by rw [show i = o by omega]; rfl), Nat.le_of_eq (by rw [show i = o by omega]; exact if_pos e)⟩); (exact ⟨(Nt.dT_keep xq).trans ((if_neg e).symm.trans (by rw [show i = o by omega]; rfl)), by rw [show i = o by omega]; show (if o < j then _ else _) ≤ _; rw [if_neg e]; exact Nt.sZ_le _ _ xq⟩))), (RatG.turn e2 (fun j hj => by by_cases e : o < j; (exact ⟨(if_pos e).symm.trans (by rw [show i = o by omega]; rfl), Nat.le_of_eq (by rw [show i = o by omega]; exact if_pos e)⟩); (exact ⟨(Nt.dT_keep xq).trans ((if_neg e).symm.trans (by rw [show i = o by omega]; rfl)), by rw [show i = o by omega]; show (if o < j then _ else _) ≤ _; rw [if_neg e]; exact Nt.sZ_le _ _ xq⟩)))⟩
  omega
 have qhb29 := qyf aJ
 refine zyc (zzp (zzd ?_))
 have hon : o = n := by omega
 have G1 : RatG ba M1 (Nt.dT (Nt.xs V l) (Nt.ys V l) n) (fun _ => Nt.sZ n) (n + 1) := by have h9 := f1; rw [hon] at h9; exact h9
 have G2 : RatG ba M2 (Nt.dT (Nt.xs V l) (Nt.sgw V l) n) (fun _ => Nt.sZ n) (n + 1) := by have h9 := f2; rw [hon] at h9; exact h9
 have hsn := Nt.sZ_bd (o := n) xq
 refine zzz [0, 0, 2, 7, 15, 0, 0, 64, 224, 480, 1023, 2047, 4095, 4095, 0, 24575, 65535] [(0, []), (1, []), (2, []), (3, []), (4, []), (5, []), (6, []), (7, []), (8, []), (9, []), (14, []), (10, []), (11, []), (12, []), (13, []), (15, []), (16, [])] xj xj (zza 127 (.slc 23 0 z.n z.n) (zza 128 (zI z.n) (qwi 129 ((z.n : Int) - 1) ((n : Int)) (by rw [IntWalk.i64_in _ xq] <;> omega) (zyw 130 (off' := n * 3) (n := z.n) (off := 0) (sz := 3) (i := (n : Int)) sl26 xq xq xq ?_))))
 obtain ⟨dN, ay⟩ : ∃ r : RL, (M1).getD n rl0 = r := ⟨_, rfl⟩
 refine zzi 131 (V := ⟨32, rcs M1⟩) (off := n * 3) (.v dN.v) ty32 (by have h9 := part_rcs (L := M1) (i := n) (off := n * 3) xq rfl; rw [ay] at h9; exact h9) ?_
 have cE : RatN ba _ (Nt.dT (Nt.xs V l) (Nt.ys V l) n n) (Nt.sZ n) := G1 n xq
 rw [ay] at cE
 refine zza 132 (.slc 25 0 z.n z.n) (zza 133 (zI z.n) (qwi 134 ((z.n : Int) - 1) ((n : Int)) (by rw [IntWalk.i64_in _ xq] <;> omega) (zyw 135 (off' := n * 3) (n := z.n) (off := 0) (sz := 3) (i := (n : Int)) sl26 xq xq xq ?_)))
 obtain ⟨dq, aD⟩ : ∃ r : RL, (M2).getD n rl0 = r := ⟨_, rfl⟩
 refine zzi 136 (V := ⟨32, rcs M2⟩) (off := n * 3) (.v dq.v) ty32 (by have h9 := part_rcs (L := M2) (i := n) (off := n * 3) xq rfl; rw [aD] at h9; exact h9) ?_
 have cC : RatN ba _ (Nt.dT (Nt.xs V l) (Nt.sgw V l) n n) (Nt.sZ n) := G2 n xq
 rw [aD] at cC
 refine zzk 14 ⟨32, zw3⟩ (zzg 137 138 _ fun _ _ aE cW => qym (k_ratDiv1 cW (cE.ext aE).raw (cC.ext aE).raw (ho.lvne hR) xq xq) ?_)
 rintro _ ck aY ⟨ag, rfl, dC⟩
 refine zza 126 (.v (.tuple #[ag.v, .int .i64 0])) (zza 138 (.v (ag.v)) (zza 139 (zI 0) (zzj ⟨32, ag.cs⟩ ty32 ?_)))
 refine zza 15 (zI 0) (zzc 177 [(0, .v (x.v)), (1, .v (z.v)), (5, .adr 5 0), (6, zI z.n), (7, .slc 23 0 z.n z.n), (8, .slc 25 0 z.n z.n), (14, .adr 14 0)] [(5, ⟨32, zw3⟩), (14, ⟨32, ag.cs⟩), (23, ⟨32, rcs M1⟩), (25, ⟨32, rcs M2⟩)] (zzd ?_))
 have cc : RatN ck ag (Nt.eL V l) 2700 := by have h9 := dC; rw [Nt.lvl_e hR] at h9; exact RatN.fit h9 (Nt.eL_B ho hR)
 refine zzf (zza 16 (.v (qyn)) (zzb (zzd (sq9 (zza 140 (zI z.n) (qwi 141 ((z.n : Int) - 2) ((n : Int) - 1) (by rw [IntWalk.i64_in _ xq] <;> omega) (zza 17 (zI ((n : Int) - 1)) (zzb (zzt (zyn (I := fun cd S' u' => ∃ (m : Nat) (yp : Sl), (cd = m) ∧ (m ≤ n) ∧ (S' = St.of 177 [(0, .v (x.v)), (1, .v (z.v)), (5, .adr 5 0), (7, .slc 23 0 z.n z.n), (8, .slc 25 0 z.n z.n), (14, .adr 14 0), (16, .v (yp.v)), (17, zI ((m : Int) - 1))] [(5, ⟨32, zw3⟩), (14, ⟨32, ag.cs⟩), (23, ⟨32, rcs M1⟩), (25, ⟨32, rcs M2⟩)]) ∧ (Ext ck u') ∧ (PolN u' yp (Nt.nwL (Nt.xs V l) (Nt.cL V l) n (n - m)) 60000)) (fun m S u1 u2 e h => by obtain ⟨m, yp, hm, p0, hS, hE, f0⟩ := h; exact ⟨m, yp, hm, p0, hS, hE.trans e, f0.ext e⟩) _ yz ⟨n, ⟨none, 0, 0⟩, rfl, Nat.le_refl _, rfl, (Ext.refl _), (by rw [Nat.sub_self]; exact pol_nil _ _)⟩ ?_))))))))))
 rintro cd _ u84 ⟨m, yp, dm, hm, rfl, ao, hP⟩
 have hPl := hP.len
 have hnl : (Nt.nwL (Nt.xs V l) (Nt.cL V l) n (n - m)).length ≤ 11 := Nat.le_trans (Nt.nwL_len _) xq
 refine zzd (sq9 (zza 142 (zI ((m : Int) - 1)) (zza 143 (zB (decide ((0 : Int) ≤ ((m : Int) - 1)))) (zzb (zzu (b := decide ((0 : Int) ≤ ((m : Int) - 1))) xj (fun aL => ?_) (fun aL => ?_))))))
 ·have qhb85 := qyt aL
  refine zzs (zzp ?_)
  refine zzd (zzt (sq9 (zza 146 (.v (x.v)) (zza 147 (.v (z.v)) (zyq 148 (x := zI ((m : Int) - 1)) (zI (((m - 1 : Nat) : Int))) (eqI xq) ?_)))))
  have ca : (Nt.inl l).length = z.n := ((hz.ext (ac.t (ae.t (aE.t (aY.t ao)))))).1
  rw [Nt.inl_len] at ca
  obtain ⟨b86, cf, b1, bo⟩ := ints_at (hz.ext (ac.t (ae.t (aE.t (aY.t ao))))) (i := (m - 1)) (by have h9 : (m - 1) < l.length := xq; omega)
  rw [Nt.inl_at] at bo
  refine zya 149 (cf + (m - 1) * 1) (n := z.n) (off := cf) (sz := 1) (i := ((m - 1 : Nat) : Int)) xq b1 xq (by first | omega | (have h9 : (m - 1) < l.length := xq; omega)) sl22 (zyl 150 (.int .i64 (((l.getD (m - 1) 0) : Nat) : Int)) bo ty3 ?_)
  have cT : x.n = N := GrN.len (hg.ext (ac.t (ae.t (aE.t (aY.t ao)))))
  obtain ⟨bz, db, di, c3, b8, bC, be, cB, cI, a7, cm, cu⟩ := gr_at (hg.ext (ac.t (ae.t (aE.t (aY.t ao))))) (i := (l.getD (m - 1) 0)) (hR.lt _ xq)
  refine zya 151 (b8 + (l.getD (m - 1) 0) * 9) (n := x.n) (off := b8) (sz := 9) (i := (((l.getD (m - 1) 0) : Nat) : Int)) xq bC xq (by first | omega | (have h9 : (l.getD (m - 1) 0) < N := (hR.lt _ xq); omega)) sl23 (zza 152 (.v (.pointer (some ⟨c3, b8 + (l.getD (m - 1) 0) * 9, none⟩))) (zym 153 (bz.cs) be ty32 (zzg 154 79 _ fun _ _ aX dA => qym (k_ratNeg dA (a7.ext aX).raw xq) ?_)))
  rintro _ u91 bq ⟨cw, rfl, dD⟩
  refine zzg 155 109 _ fun _ _ aT dE => qym (k_ratOf dE (z := 1) xq xq) ?_
  rintro _ u97 aR ⟨cg, rfl, cO⟩
  refine zxx 156 ⟨32, cw.cs ++ cg.cs⟩ 2 (fun ap aK ad bW => ?_)
  have bp : PolN aK (⟨some ⟨ap, 0, none⟩, 2, 2⟩ : Sl) [(-(Nt.gX V (l.getD (m - 1) 0))), ((1 : Int) : Rat)] (max 1 2) := pol_lit (L := [cw, cg]) bW (rats2 (RatN.more (L := (max 1 2)) (dD.ext (aT.t (aR.t ad))) xq) (RatN.more (L := (max 1 2)) (cO.ext ad) xq)) rfl yv
  refine zza 18 (.v (.slice (some ⟨ap, 0, none⟩) 2 2)) (zzb (zzd (zzz [0, 0, 3, 7, 0, 0, 0, 96, 224, 496, 1023, 0, 4095] [(0, []), (1, []), (2, []), (3, []), (4, []), (5, []), (6, []), (7, []), (8, []), (11, []), (9, []), (10, []), (12, [])] xj xj (zza 157 (.slc 23 0 z.n z.n) (zyq 158 (x := zI ((m : Int) - 1)) (zI (((m - 1 : Nat) : Int))) (eqI xq) (zyw 159 (off' := (m - 1) * 3) (n := z.n) (off := 0) (sz := 3) (i := ((m - 1 : Nat) : Int)) sl26 xq xq xq ?_))))))
  obtain ⟨bS, am⟩ : ∃ r : RL, (M1).getD (m - 1) rl0 = r := ⟨_, rfl⟩
  refine zzi 160 (V := ⟨32, rcs M1⟩) (off := (m - 1) * 3) (.v bS.v) ty32 (by have h9 := part_rcs (L := M1) (i := (m - 1)) (off := (m - 1) * 3) xq rfl; rw [am] at h9; exact h9) ?_
  have a1 : RatN aK _ (Nt.dT (Nt.xs V l) (Nt.ys V l) n (m - 1)) (Nt.sZ n) := (G1.ext (aE.t (aY.t (ao.t (aX.t (bq.t (aT.t (aR.t ad)))))))) (m - 1) xq
  rw [am] at a1
  refine zzi 161 (.v (ag.v)) ty32 zze (zza 162 (.slc 25 0 z.n z.n) (zyq 163 (x := zI ((m : Int) - 1)) (zI (((m - 1 : Nat) : Int))) (eqI xq) (zyw 164 (off' := (m - 1) * 3) (n := z.n) (off := 0) (sz := 3) (i := ((m - 1 : Nat) : Int)) sl26 xq xq xq ?_)))
  obtain ⟨bY, ai⟩ : ∃ r : RL, (M2).getD (m - 1) rl0 = r := ⟨_, rfl⟩
  refine zzi 165 (V := ⟨32, rcs M2⟩) (off := (m - 1) * 3) (.v bY.v) ty32 (by have h9 := part_rcs (L := M2) (i := (m - 1)) (off := (m - 1) * 3) xq rfl; rw [ai] at h9; exact h9) ?_
  have bn : RatN aK _ (Nt.dT (Nt.xs V l) (Nt.sgw V l) n (m - 1)) (Nt.sZ n) := (G2.ext (aE.t (aY.t (ao.t (aX.t (bq.t (aT.t (aR.t ad)))))))) (m - 1) xq
  rw [ai] at bn
  refine zzk 19 ⟨32, zw3⟩ (zzg 166 113 _ fun _ _ af bO => qym (k_ratMul bO (cc.ext (ao.t (aX.t (bq.t (aT.t (aR.t (ad.trans af))))))).raw (bn.ext af).raw xq xq) ?_)
  rintro _ dx aq ⟨c4, rfl, bQ⟩
  refine zzg 167 139 _ fun _ _ aj b2 => qym (k_ratSub b2 (a1.ext (af.t (aq.t aj))).raw (bQ.ext aj).raw xq xq) ?_
  rintro _ c8 aQ ⟨aa, rfl, bE⟩
  refine zzj ⟨32, aa.cs⟩ ty32 ?_
  refine zzc 177 [(0, .v (x.v)), (1, .v (z.v)), (5, .adr 5 0), (7, .slc 23 0 z.n z.n), (8, .slc 25 0 z.n z.n), (14, .adr 14 0), (16, .v (yp.v)), (17, zI ((m : Int) - 1)), (18, .v (.slice (some ⟨ap, 0, none⟩) 2 2)), (19, .adr 19 0)] [(5, ⟨32, zw3⟩), (14, ⟨32, ag.cs⟩), (19, ⟨32, aa.cs⟩), (23, ⟨32, rcs M1⟩), (25, ⟨32, rcs M2⟩)] (zzz [0, 0, 3, 0, 8, 31, 63] [(0, []), (1, []), (3, []), (4, []), (2, []), (5, [172]), (6, [])] xj xj (zza 168 (.v (yp.v)) (zza 169 (.v (.slice (some ⟨ap, 0, none⟩) 2 2)) (zzi 171 (.v (aa.v)) ty32 zze (sy_lit 172 ⟨32, aa.cs⟩ 1 ?_)))))
  refine zzg 170 130 _ fun _ _ ar cb => qym (k_poMul cb (hP.ext (aX.t (bq.t (aT.t (aR.t (ad.t (af.t (aq.t (aj.t (aQ.t ar)))))))))).raw (bp.ext (af.t (aq.t (aj.t (aQ.t ar))))).raw (Nat.le_trans (Nt.mlK_mono (n' := 11) (m' := 2) (K' := 60000) (M' := 3) hnl (Nat.le_refl 2) qyl xq) (show Nt.mlK 11 2 60000 3 ≤ 30000000 by decide)) xq (show (2 + 1) * _ ≤ _ by omega) xq (show 2 ≤ _ by decide)) ?_
  rintro _ dB bs ⟨au, rfl, h123⟩
  replace h123 := PolN.more h123 (Nat.le_trans (Nt.mlK_mono (n' := 11) (m' := 2) (K' := 60000) (M' := 3) hnl (Nat.le_refl 2) qyl xq) (show Nt.mlK 11 2 60000 3 ≤ 30000000 by decide))
  have hly122 := h123.len
  have hlly122 := Nt.mul_len9 hnl (show ([(-(Nt.gX V (l.getD (m - 1) 0))), ((1 : Int) : Rat)] : List Rat).length ≤ 2 from Nat.le_refl 2)
  refine zyo 173 115 [.v (au.v), .slc 172 0 1 1] [172] (.inr rfl) (pub_mk xw) (k := ?_)
  intro aF dt bm aN bM bD
  have bj : bm.heap[aF 172]? = some (.cells #[.bool aa.s, .slice aa.m.a aa.m.n aa.m.c, .slice aa.d.a aa.d.n aa.d.c] 32 (0, 0)) := bD 172 zv _ rfl
  obtain ⟨bA, al⟩ : ∃ b, aF 172 = b := ⟨_, rfl⟩
  rw [al] at bj
  have a5 : PolN bm (⟨some ⟨bA, 0, none⟩, 1, 1⟩ : Sl) [((Nt.dT (Nt.xs V l) (Nt.ys V l) n (m - 1)) - ((Nt.eL V l) * (Nt.dT (Nt.xs V l) (Nt.sgw V l) n (m - 1))))] ((Nt.sZ n) + (2700 + (Nt.sZ n)) + 1) := pol_lit (L := [aa]) bj (rats1 (bE.ext (ar.t (bs.t aN)))) rfl yv
  show Calls _ _ #[.slice au.a au.n au.c, .slice (some ⟨aF 172, 0, none⟩) 1 1] _ _
  rw [al]
  have k136 := k_poAdd bM (h123.ext aN).raw a5.raw xq xq xq (by first | (show 1 ≤ _; decide) | omega)
  with_reducible refine zPm k136 ?_
  rintro _ bJ bP ⟨aH, rfl, bt⟩
  have hly132 := bt.len
  refine zza 16 (.v (aH.v)) (zzx ?_)
  refine zzp (zzf (zza 144 (zI ((m : Int) - 1)) (qwi 145 ((m : Int) - 1 - 1) (((m - 1 : Nat) : Int) - 1) (by rw [IntWalk.i64_in _ xq] <;> omega) (zza 17 (zI (((m - 1 : Nat) : Int) - 1)) (zzx ?_)))))
  have hcl : Nt.cL V l (m - 1) = Nt.dT (Nt.xs V l) (Nt.ys V l) n (m - 1) - Nt.eL V l * Nt.dT (Nt.xs V l) (Nt.sgw V l) n (m - 1) := by unfold Nt.cL; rw [hl, Nat.add_sub_cancel]
  have hPn : PolN bJ aH (Nt.nwL (Nt.xs V l) (Nt.cL V l) n (n - (m - 1))) 60000 := PolN.fitR (K := (30000000 + ((Nt.sZ n) + (2700 + (Nt.sZ n)) + 1) + 1)) (by rw [show n - (m - 1) = (n - m) + 1 by omega]; show PolN _ _ (Nt.trimQ (Nt.addQ (Nt.trimQ (Nt.mulQ _ [-Nt.xs V l (n - (n - m + 1)), _])) [Nt.cL V l (n - (n - m + 1))])) _; rw [show n - (n - m + 1) = m - 1 by omega, hcl]; exact bt) (fun i => Nt.lvl_rs ho hR xq i)
  refine ⟨_, ?_, _, by exact zzv _ _ _, m - 1, aH, rfl, by omega, rfl, (ao.t (aX.t (bq.t (aT.t (aR.t (ad.t (af.t (aq.t (aj.t (aQ.t (ar.t (bs.t (aN.t bP.ext))))))))))))), hPn⟩
  omega
 have qhb85 := qyf aL
 refine zyc (zzp (zzd (zzz [0, 1, 0, 3, 15] [(0, []), (2, []), (1, []), (3, []), (4, [])] xj xj (zza 174 (.v (yp.v)) (zzi 176 (.v (ag.v)) ty32 zze (zzg 175 117 _ fun _ _ a0 bG => qym (k_poTrim bG (hP.ext a0).raw xq xk) ?_))))))
 rintro _ dy bX ⟨ak, rfl, bc⟩
 have hly138 := bc.len
 refine zza 4 (.v (ak.v)) (zzj ⟨32, ag.cs⟩ ty32 ?_)
 refine zzc 177 [(4, .v (ak.v)), (5, .adr 5 0)] [(5, ⟨32, ag.cs⟩)] (zzo (ret0 [ak.v, ag.v] ⟨zzq, zzr ty32 zze, trivial⟩ fun b0 a6 => ?_))
 have cQ : PolN b0 ak (Nt.pL V l) 60000 := by have h9 := (bc.ext a6); rw [show n - m = n by omega, Nt.trim_nwL hn1, ← Nt.lvl_pL hR] at h9; exact h9
 exact ⟨ak, ag, rfl, cQ, (cc.ext (ao.t (a0.t (bX.t a6))))⟩
namespace Nt
section
variable {V : List Rat} {N n a pl : Nat} {l : List Nat} {like : Bool}
def exF (V : List Rat) (l : List Nat) : Rat := ab (rE (gX V) (gW V) (gY V) l)
def exN (V : List Rat) (N n : Nat) (l : List Nat) : Nat := exM (exF V) N (n + 1) (exF V l)
theorem sgQ_1 {x : Rat} (h : 0 < x) : sgQ x = 1 := by unfold sgQ cmpQ; rw [if_neg (by grind), if_neg (by grind)]
theorem sgQ_m {x : Rat} (h : x < 0) : sgQ x = -1 := by unfold sgQ cmpQ; rw [if_pos h]
theorem sgQ_0 : sgQ 0 = 0 := by unfold sgQ cmpQ; rw [if_neg (by grind), if_pos rfl]
def fst1 (e : Rat) : Int := if sgQ e = 0 then 1 else sgQ e
theorem ab_eq (x : Rat) : absQ x = ab x := rfl
theorem exF_lt (hR : Rf N l n) {m : List Nat} (hm : Rf N m n) (h : exF V l < exF V m) : exN V N n m < exN V N n l := exM_lt hm.len hm.mem h
theorem exR_off (g : GrOK V N) (hR : Rf N l n) (h1 : 1 ≤ n) (hc : absQ (eL V l) < absQ (gE (gX V) (gW V) (gY V) (pL V l) a)) {i : Nat} (hi : i ≤ n) : l.getD i 0 ≠ a := fun e => by
 have := lvl_at g hR h1 hi
 rw [e] at this
 rw [this, ab_eq, ab_eq, ab_sg] at hc
 grind
theorem design_step (g : GrOK V N) (hR : Rf N l n) (h1 : 1 ≤ n) (ha : a < N) (hc : absQ (eL V l) < absQ (gE (gX V) (gW V) (gY V) (pL V l) a)) (hp1 : pl ≤ n + 1) (hp2 : ∀ i, i < pl → (inl l).getD i 0 < (a : Int)) (hp3 : pl < n + 1 → (a : Int) ≤ (inl l).getD pl 0) (hlk : like = (sgQ (gE (gX V) (gW V) (gY V) (pL V l) a) == fst1 (eL V l))) : Rf N (exL l a like pl) n ∧ exN V N n (exL l a like pl) < exN V N n l := by
 obtain ⟨E, hE⟩ : ∃ E, eL V l = E := ⟨_, rfl⟩
 obtain ⟨G, hG⟩ : ∃ G, gE (gX V) (gW V) (gY V) (pL V l) a = G := ⟨_, rfl⟩
 have hoff := fun i hi => exR_off (a := a) g hR h1 hc (i := i) hi
 have hq1 : ∀ i, i < pl → l.getD i 0 < a := fun i hi => by have := hp2 i hi; rw [inl_at] at this; omega
 have hq2 : ∀ i, pl ≤ i → i ≤ n → a < l.getD i 0 := fun i hi hn => by
  have h9 := hp3 xq
  rw [inl_at] at h9
  have h8 := hoff i hn
  by_cases e : i = pl
  ·rw [e] at h8 ⊢; omega
  have := hR.asc pl i xq hn
  omega
 have hRf := exL_Rf (like := like) hR ha hp1 hq1 hq2
 refine ⟨hRf, exF_lt hR hRf ?_⟩
 have he : ∀ i, i ≤ n → gE (gX V) (gW V) (gY V) (pL V l) (l.getD i 0) = sg1 i * E := fun i hi => by rw [lvl_at g hR h1 hi, hE]
 rw [hE, hG] at hc hlk
 have hrE : rE (gX V) (gW V) (gY V) l = E := hE
 unfold exF
 rw [hrE]
 have hG0 : G ≠ 0 := fun e => by
  rw [e] at hc
  have : absQ 0 = 0 := by decide +kernel
  rw [this] at hc
  have := ab_nn E
  rw [ab_eq] at hc; grind
 obtain ⟨τ, hτ⟩ : ∃ τ : Rat, (if E < 0 then (-1 : Rat) else 1) = τ := ⟨_, rfl⟩
 have hτ1 : τ = 1 ∨ τ = -1 := by rw [← hτ]; split <;> simp
 refine exL_grow (τ := τ) hR g.gr ha hp1 hq1 hq2 (lvl_len hR) he hτ1 ?_ (by rw [hG]; exact hc) ?_
 ·rw [← hτ]; unfold ab; split <;> grind
 rw [hG]
 have hf : fst1 E = if E < 0 then -1 else 1 := by
  unfold fst1
  by_cases c : E < 0
  ·rw [sgQ_m c, if_pos c]; rfl
  rw [if_neg c]
  by_cases c2 : E = 0
  ·rw [c2, sgQ_0]; rfl
  rw [sgQ_1 (by grind)]; rfl
 rw [hf] at hlk
 by_cases c : E < 0
 ·rw [if_pos c] at hlk hτ
  by_cases c2 : G < 0
  ·rw [sgQ_m c2] at hlk
   have : like = true := by rw [hlk]; rfl
   rw [this, if_pos rfl, ← hτ]; grind
  rw [sgQ_1 (by grind)] at hlk
  have : like = false := by rw [hlk]; rfl
  rw [this, if_neg yv, ← hτ]; grind
 rw [if_neg c] at hlk hτ
 by_cases c2 : G < 0
 ·rw [sgQ_m c2] at hlk
  have : like = false := by rw [hlk]; rfl
  rw [this, if_neg yv, ← hτ]; grind
 rw [sgQ_1 (by grind)] at hlk
 have : like = true := by rw [hlk]; rfl
 rw [this, if_pos rfl, ← hτ]; grind
theorem design_end (g : GrOK V N) (hR : Rf N l n) (h1 : 1 ≤ n) (hG : Gst (erL V (pL V l) N) N a) (hc : ¬ absQ (eL V l) < absQ (gE (gX V) (gW V) (gY V) (pL V l) a)) : Bst (gX V) (gW V) (gY V) N n (pL V l) l ∧ absQ (gE (gX V) (gW V) (gY V) (pL V l) a) = absQ (eL V l) := by
 have hmax : ∀ b, b < N → ab (gE (gX V) (gW V) (gY V) (pL V l) b) ≤ ab (rE (gX V) (gW V) (gY V) l) := fun b hb => by
  have h9 := hG.le b hb
  rw [erL_at hb, erL_at hG.lt] at h9
  have h8 : ab (gE (gX V) (gW V) (gY V) (pL V l) a) ≤ ab (rE (gX V) (gW V) (gY V) l) := by
   rw [ab_eq, ab_eq] at hc
   have : eL V l = rE (gX V) (gW V) (gY V) l := rfl
   rw [this] at hc; grind
  grind
 refine ⟨⟨hR, lvl_len hR, hmax⟩, ?_⟩
 have h8 := hG.le (l.getD 0 0) (hR.lt 0 xq)
 rw [erL_at (hR.lt 0 xq), erL_at hG.lt, lvl_at g hR h1 xq, ab_sg] at h8
 rw [ab_eq, ab_eq] at hc ⊢
 grind
end
end Nt
section
variable {P : Program} {w0 : Base} {u0 : World} {S T : St} {B : Tmp → Nat} {a : Act} {w u u' : World} {Q : MP} {c d A C R : Code}
theorem mpr_into {I : Nat → St → World → Prop} {Q : MP} {hI : ∀ m, Mono (I m)} (h : Q.f .ret S u) : (MP.into I Q hI).f .ret S u := h
theorem sw_scope2 {l : Nat} {I : Nat → St → World → Prop} (hI : ∀ m, Mono (I m)) (hf : findLabel (.seq A (.seq C (.seq (.label l) R))) l = some (.seq .skip R)) (hA : SW P w0 u0 A S u (MP.seq P w0 u0 C (MP.into I Q hI))) (h : ∀ n S u, I n S u → SW P w0 u0 R S u (MP.jump l I n Q hI)) : SW P w0 u0 (.scope (.seq A (.seq C (.seq (.label l) R)))) S u Q := by
 intro B a w u' e hr
 let J : Nat → Act → World → Prop := fun n a w => ∃ S B u'', Rep w0 u0 S B a w u'' ∧ I n S u''
 let μ : Act → World → Nat := fun a w => Classical.epsilon fun m => J m a w ∧ ∀ k, J k a w → m ≤ k
 have hμ : ∀ a w n, J n a w → J (μ a w) a w ∧ μ a w ≤ n := fun a w n hn => by
  have := Classical.epsilon_spec (p := fun m => J m a w ∧ ∀ k, J k a w → m ≤ k) (least n hn)
  exact ⟨this.1, this.2 n hn⟩
 refine wp_scope_jumps l (fun a w => ∃ n, J n a w) μ hf ?_ ?_
 ·refine wp_seq (wp_mono (hA B a w u' e hr) fun ex a' w' ⟨S', B', u'', k1, k3⟩ => ?_)
  cases ex with
  | normal =>
   refine wp_seq (wp_mono (k3 B' a' w' u'' (Ext.refl _) k1) fun ex a' w' ⟨S', B', u'', k1, k3⟩ => ?_)
   cases ex with
   | normal =>
    obtain ⟨m, T', t1, t2⟩ := k3
    refine wp_seq (wp_label ?_)
    refine wp_mono (h m T' u'' t2 B' a' w' u'' (Ext.refl _) (k1.weak t1)) fun ex a' w' ⟨S', B', u'', k1, k3⟩ => ?_
    cases ex with
    | goto l' =>
     obtain ⟨rfl, m, hm, T', t1, t2⟩ := k3
     exact ⟨rfl, m, T', B', u'', k1.weak t1, t2⟩
    | _ => exact ⟨S', B', u'', k1, k3⟩
   | goto l' => exact k3.elim
   | _ => exact ⟨S', B', u'', k1, k3⟩
  | goto l' => exact k3.elim
  | _ => exact ⟨S', B', u'', k1, k3⟩
 rintro a w ⟨n, hn⟩
 obtain ⟨S1, B1, u1, r1, i1⟩ := (hμ a w n hn).1
 refine wp_seq (wp_skip ?_)
 refine wp_mono (h _ S1 u1 i1 B1 a w u1 (Ext.refl _) r1) fun ex a' w' ⟨S', B', u'', k1, k3⟩ => ?_
 cases ex with
 | goto l' =>
  obtain ⟨rfl, m, hm, T', t1, t2⟩ := k3
  have hJ : J m a' w' := ⟨T', B', u'', k1.weak t1, t2⟩
  exact ⟨rfl, ⟨m, hJ⟩, Nat.lt_of_le_of_lt (hμ a' w' m hJ).2 hm⟩
 | _ => exact ⟨S', B', u'', k1, k3⟩
end
theorem Nt.inl_inj {l m : List Nat} (h : Nt.inl l = Nt.inl m) : l = m := by
 have := congrArg (List.map Int.toNat) h
 unfold Nt.inl at this
 rw [List.map_map, List.map_map] at this
 have e : (Int.toNat ∘ fun a : Nat => (a : Int)) = id := by funext a; simp
 rw [e, List.map_id, List.map_id] at this; exact this
theorem k_exLevel {u w : World} {x : Sl} {N : Nat} {V : List Rat} (d : Dat u w) (hg : GrN u x N V 1) (ho : Nt.GrOK V N) {z : Sl} {L : List Int} (hz : SlR .i64 u z.a z.n z.c L) (hb : ∀ x ∈ L, -9223372036854775808 ≤ x ∧ x ≤ 9223372036854775807) : qyc 25 #[x.v, z.v] w (Post u w fun v u' => (v = .tuple #[qyn, .agg #[.bool false, qyn, qyn], .int .i64 1] ∧ (L.length < 2 ∨ 52 < L.length ∨ ¬ Nt.Up (N : Int) L)) ∨ ∃ (l : List Nat) (n : Nat) (y : Sl) (r : RL), L = Nt.inl l ∧ Nt.Rf N l n ∧ 1 ≤ n ∧ v = .tuple #[y.v, r.v, .int .i64 0] ∧ PolN u' y (Nt.pL V l) 60000 ∧ RatN u' r (Nt.eL V l) 2700) := by
 have hxn : x.n = N := hg.len
 have hN12 := ho.n12
 have hN1 := ho.n1
 have hzn : L.length = z.n := hz.1
 have hzm : z.n ≤ maxLen := Nat.le_trans hz.2.1 hz.2.2.1
 unfold maxLen at hzm
 refine zzm Tryz.func25 rfl Tryz.ntmps25 Tryz.results25 d ?_
 refine sq9 (zza 4 (.v (qyn)) (zzk 5 ⟨32, zw3⟩ (zza 6 (zI 0) (zzb (zzd (sq9 (zza 9 (.v (x.v)) (zzg 10 89 _ fun _ _ ah ao => qym (k_lsqValid ao (hg.ext ah) ho) ?_))))))))
 rintro _ u12 aj rfl
 refine zza 11 (zB false) (zzb (zys xj (zzs (zzp ?_))))
 refine zzd (sq9 (zza 13 (.v (z.v)) (zza 14 (zI z.n) (zza 15 (zB (decide ((z.n : Int) < 2))) ?_))))
 rcases Bool.eq_false_or_eq_true (decide ((z.n : Int) < 2)) with hs15 | hs15
 ·refine qbi 16 hs15 ?_
  have qhs15 := qyt hs15
  refine zzn 17 (uw 3 false true 16) (zzn 18 (uw 3 false true 16) (zzn 19 (uw 3 false true 16) (zza 20 (zB true) (zza 21 (zB true) (zzn 22 (uw 8 false true 21) (zzn 23 (uw 8 false true 21) (zzn 24 (uw 8 false true 21) (zzn 25 (uw 8 false true 21) (zzn 26 (uw 8 false true 21) (zza 27 (zB true) (zzb ?_)))))))))))
  refine zyr xj (sq9 (zza 28 (.v (.agg #[.bool false, qyn, qyn])) (zza 4 (.v (qyn)) (zzj ⟨32, zw3⟩ ty32 ?_))))
  refine zza 6 (zI 1) (zzb (zzo (zzw (ret0 [qyn, .agg #[.bool false, qyn, qyn], .int .i64 1] ⟨zzq, zzr ty32 zze, zzq, trivial⟩ fun u16 e17 => ?_))))
  try have qhs15 := qyt hs15
  exact .inl ⟨rfl, by omega⟩
 refine qbi 16 hs15 ?_
 have qhs15 := qyf hs15
 refine zza 17 (.v (z.v)) ?_ (hw := w1 3 false 16)
 refine zza 18 (zI z.n) ?_ (hw := w1 3 false 16)
 refine zza 19 (zB (decide ((52 : Int) < (z.n : Int)))) ?_ (hw := w1 3 false 16)
 refine zza 20 (zB (decide ((52 : Int) < (z.n : Int)))) ?_
 rcases Bool.eq_false_or_eq_true (decide ((52 : Int) < (z.n : Int))) with hs18 | hs18
 ·refine qbi 21 hs18 ?_
  have qhs18 := qyt hs18
  refine zzn 22 (uw 8 false true 21) (zzn 23 (uw 8 false true 21) (zzn 24 (uw 8 false true 21) (zzn 25 (uw 8 false true 21) (zzn 26 (uw 8 false true 21) (zza 27 (zB true) (zzb (zyr xj (sq9 (zza 28 (.v (.agg #[.bool false, qyn, qyn])) (zza 4 (.v (qyn)) (zzj ⟨32, zw3⟩ ty32 ?_)))))))))))
  refine zza 6 (zI 1) (zzb (zzo (zzw (ret0 [qyn, .agg #[.bool false, qyn, qyn], .int .i64 1] ⟨zzq, zzr ty32 zze, zzq, trivial⟩ fun u19 e20 => ?_))))
  try have qhs15 := qyf hs15
  try have qhs18 := qyt hs18
  exact .inl ⟨rfl, by omega⟩
 refine qbi 21 hs18 ?_
 have qhs18 := qyf hs18
 refine zza 22 (.v (z.v)) ?_ (hw := w1 8 false 21)
 refine zza 23 (.v (x.v)) ?_ (hw := w1 8 false 21)
 refine zza 24 (zI x.n) ?_ (hw := w1 8 false 21)
 refine zzg 25 77 _ (fun _ _ ak ar => qym (k_ascending (z := z) (N := (x.n : Int)) ar (hz.ext (ah.t (aj.t ak))) hb) ?_) (hw := w1 8 false 21)
 rintro _ u24 al ⟨ac, rfl, aa⟩
 refine zza 26 (zB (!ac)) ?_ (hw := w1 8 false 21)
 refine zza 27 (zB (!ac)) (zzb (zzu (b := !ac) xj (fun af => ?_) (fun af => ?_)))
 ·refine sq9 (zza 28 (.v (.agg #[.bool false, qyn, qyn])) (zza 4 (.v (qyn)) (zzj ⟨32, zw3⟩ ty32 ?_)))
  refine zza 6 (zI 1) (zzb (zzo (zzw (ret0 [qyn, .agg #[.bool false, qyn, qyn], .int .i64 1] ⟨zzq, zzr ty32 zze, zzq, trivial⟩ fun u28 e29 => ?_))))
  try have qhs15 := qyf hs15
  try have qhs18 := qyf hs18
  refine .inl ⟨rfl, .inr (.inr (fun hu => ?_))⟩
  have h9 : ac = false := by simpa using af
  have h8 := aa.2 (by rw [hxn]; exact hu)
  rw [h9] at h8; exact absurd h8 yv
 refine zzs (zzp ?_)
 refine zzd ?_
 have hU : Nt.Up (N : Int) L := by rw [hxn] at aa; exact aa.1 (by simpa using af)
 try have qhs15 := qyf hs15
 try have qhs18 := qyf hs18
 obtain ⟨l, hLl, hR⟩ := Nt.up_inl (n := L.length - 1) hU xq
 have hzl := hz
 rw [hLl] at hzl
 have aq : 1 ≤ L.length - 1 := by omega
 refine zzf (zza 30 (.v (x.v)) (zza 31 (.v (z.v)) (zzg 32 61 _ fun _ _ an ap => qym (k_levelled (z := z) (n := (L.length - 1)) ap (hg.ext (ah.t (aj.t (ak.t (al.t an))))) ho (hzl.ext (ah.t (aj.t (ak.t (al.t an))))) hR xq) ?_)))
 rintro _ u32 g33 ⟨ae, ad, rfl, ag, ai⟩
 have hly31 := ag.len
 have hlly31 := Nt.lvl_len (V := V) hR
 refine zza 29 (.v (.tuple #[ae.v, ad.v])) (zza 33 (.v (ae.v)) (zza 34 (.v (ad.v)) (zzk 8 ⟨32, zw3⟩ (zza 7 (.v (ae.v)) (zzj ⟨32, ad.cs⟩ ty32 ?_)))))
 refine zzb (zzd (zzz [0, 0, 1, 7, 15] [(0, []), (1, []), (2, []), (3, []), (4, [])] xj xj (zza 35 (.v (ae.v)) (zzi 36 (.v (ad.v)) ty32 zze (zza 4 (.v (ae.v)) (zzj ⟨32, ad.cs⟩ ty32 ?_))))))
 refine zza 6 (zI 0) (zzc 37 [(4, .v (ae.v)), (5, .adr 5 0), (6, zI 0)] [(5, ⟨32, ad.cs⟩)] (zzo (ret0 [ae.v, ad.v, .int .i64 0] ⟨zzq, zzr ty32 zze, zzq, trivial⟩ fun u35 am => ?_)))
 exact .inr ⟨l, L.length - 1, ae, ad, hLl, hR, aq, rfl, (ag.ext am), (ai.ext am)⟩
theorem k_exLevelR {u w : World} {z : Sl} {l : List Nat} {n : Nat} {x : Sl} {N : Nat} {V : List Rat} (d : Dat u w) (hg : GrN u x N V 1) (ho : Nt.GrOK V N) (hz : SlR .i64 u z.a z.n z.c (Nt.inl l)) (hR : Nt.Rf N l n) (hn1 : 1 ≤ n) : qyc 25 #[x.v, z.v] w (Post u w fun v u' => ∃ (y : Sl) (r : RL), v = .tuple #[y.v, r.v, .int .i64 0] ∧ PolN u' y (Nt.pL V l) 60000 ∧ RatN u' r (Nt.eL V l) 2700) := by
 have hn := hR.n11 ho.n12
 refine qym (k_exLevel d hg ho hz (Nt.inl_bd hR.mem (by have := ho.n12; omega))) ?_
 rintro v u' _ (⟨_, h⟩ | ⟨l', n', y, r, e, hR', _, rfl, hp, hq⟩)
 ·rw [Nt.inl_len, hR.len] at h
  rcases h with h | h | h
  ·omega
  ·omega
  exact absurd hR.up h
 have : l' = l := Nt.inl_inj e.symm
 subst this
 exact ⟨y, r, rfl, hp, hq⟩
theorem k_exDesignE {u w : World} {D : Int} {x : Sl} {N : Nat} {V : List Rat} (d : Dat u w) (hg : GrN u x N V 1) (ho : Nt.GrOK V N) (hwr : Nt.wrE N D ≠ 0) : qyc 13 #[x.v, .int .i64 D] w (Post u w fun v u' => v = .tuple #[.agg #[qyn, .bool false, qyn, qyn, qyn], .int .i64 (Nt.wrE N D)]) := by
 have hxn : x.n = N := hg.len
 have hN12 := ho.n12
 have hN1 := ho.n1
 refine zzm Tryz.func13 rfl Tryz.ntmps13 Tryz.results13 d ?_
 refine sq9 (zzk 4 ⟨34, [qyn, .bool false, qyn, qyn, qyn]⟩ (zza 5 (zI 0) (zzb (sw_scope2 (I := fun _ _ _ => False) (fun m S u1 u2 e h => h) xj ?_ ?_))))
 ·skip
  refine sq9 (zza 14 (.v (x.v)) (zza 15 (zI D) (zzg 16 59 _ fun _ _ ac aa => qym (k_exWrong (D := D) aa (hg.ext ac) ho) ?_)))
  rintro _ u12 g13 rfl
  refine zza 6 (zI (Nt.wrE N D)) (zzb (sq9 (zza 17 (zI (Nt.wrE N D)) (zza 18 (zB ((Nt.wrE N D) != 0)) (zzb (zzu (b := (Nt.wrE N D) != 0) xj (fun hb => ?_) (fun hb => ?_)))))))
  ·clear hb
   refine sq9 (zza 19 (.v (.agg #[qyn, .bool false, qyn, qyn, qyn])) (zza 20 (zI (Nt.wrE N D)) (zzj ⟨34, [qyn, .bool false, qyn, qyn, qyn]⟩ ty34 ?_)))
   refine zza 5 (zI (Nt.wrE N D)) (zzb (zzo (zzw (mpr_into (ret0 [.agg #[qyn, .bool false, qyn, qyn, qyn], .int .i64 (Nt.wrE N D)] ⟨zzr ty34 zze, zzq, trivial⟩ fun u15 e16 => ?_)))))
   rfl
  exact absurd hb (by rw [show ((Nt.wrE N D) != 0) = true from (by simpa using hwr)]; decide)
 intro n S u h; exact h.elim
namespace Nt
def ChkOK (V : List Rat) (N D : Nat) (p : List Rat) (e : Rat) (L : List Int) : Prop := ∃ (l : List Nat) (a : Nat), L = inl l ∧ Rf N l (D + 1) ∧ (trimQ p).length ≤ D + 1 ∧ Gst (erL V p N) N a ∧ absQ (gE (gX V) (gW V) (gY V) p a) = e ∧ absQ (gE (gX V) (gW V) (gY V) p (l.getD 0 0)) = absQ (gE (gX V) (gW V) (gY V) p a) ∧ ∀ i, i < D + 2 → gE (gX V) (gW V) (gY V) p (l.getD i 0) = sg1 i * gE (gX V) (gW V) (gY V) p (l.getD 0 0)
section
variable {V : List Rat} {N D a i : Nat} {p : List Rat} {e : Rat} {L : List Int} {l : List Nat}
theorem chk_1 (h : ¬ (trimQ p).length ≤ D + 1) : ¬ ChkOK V N D p e L := fun ⟨_, _, _, _, h1, _⟩ => h h1
theorem chk_2 (h : ¬ L.length = D + 2) : ¬ ChkOK V N D p e L := fun ⟨l, _, h1, h2, _⟩ => h (by rw [h1, inl_len, h2.len])
theorem chk_3 (h : ¬ Up N L) : ¬ ChkOK V N D p e L := fun ⟨l, _, h1, h2, _⟩ => h (by rw [h1]; exact h2.up)
theorem chk_4 (hG : Gst (erL V p N) N a) (h : ¬ absQ (gE (gX V) (gW V) (gY V) p a) = e) : ¬ ChkOK V N D p e L := fun ⟨l, b, _, _, _, h4, h5, _⟩ => h (by rw [hG.uniq h4 (fun _ _ => rfl)]; exact h5)
theorem chk_5 (hG : Gst (erL V p N) N a) (hl : L = inl l) (h : ¬ absQ (gE (gX V) (gW V) (gY V) p (l.getD 0 0)) = absQ (gE (gX V) (gW V) (gY V) p a)) : ¬ ChkOK V N D p e L := fun ⟨m, b, h1, _, _, h4, _, h6, _⟩ => h (by
 have e1 : l = m := inl_inj (hl.symm.trans h1)
 subst e1
 rw [hG.uniq h4 (fun _ _ => rfl)]; exact h6)
theorem chk_6 (hl : L = inl l) (hi : i < D + 2) (h : ¬ gE (gX V) (gW V) (gY V) p (l.getD i 0) = sg1 i * gE (gX V) (gW V) (gY V) p (l.getD 0 0)) : ¬ ChkOK V N D p e L := fun ⟨m, b, h1, _, _, _, _, _, h7⟩ => h (by
 have e1 : l = m := inl_inj (hl.symm.trans h1)
 subst e1
 exact h7 i hi)
theorem sg1_n (i : Nat) (x : Rat) : -(sg1 i * x) = sg1 (i + 1) * x := by rw [sg1_s]; grind
theorem cmp_z {x y : Rat} (h : (cmpQ x y != (0 : Int)) = false) : x = y := by
 have h1 : (cmpQ x y == (0 : Int)) = true := by simpa using h
 rw [cmpQ_eq] at h1; exact qyt h1
theorem cmp_nz {x y : Rat} (h : (cmpQ x y != (0 : Int)) = true) : ¬ x = y := fun e => by
 have h1 : (cmpQ x y == (0 : Int)) = true := by rw [cmpQ_eq]; exact decide_eq_true e
 simp only [bne, h1] at h; cases h
end
end Nt
theorem k_exCheck {u w : World} {D : Nat} {y z : Sl} {r : RL} {p : List Rat} {e : Rat} {L : List Int} {K Ke M : Nat} {x : Sl} {N : Nat} {V : List Rat} (d : Dat u w) (hg : GrN u x N V 1) (ho : Nt.GrOK V N) (hy : PolV u y p K) (hr : RatV u r e Ke) (hz : SlR .i64 u z.a z.n z.c L) (hb : ∀ x ∈ L, -9223372036854775808 ≤ x ∧ x ≤ 9223372036854775807) (hl : p.length ≤ 60) (hB : 2 * (p.length * (K + 1) + 2) + K + 2 * p.length + 11 ≤ M) (hM : M ≤ 20000000) (hKe : Ke ≤ 20000000) (hD : D + 2 ≤ N) : qyc 17 #[x.v, .int .i64 (D : Int), .agg #[.slice y.a y.n y.c, .bool r.s, .slice r.m.a r.m.n r.m.c, .slice r.d.a r.d.n r.d.c, .slice z.a z.n z.c]] w (Post u w fun v _ => (v = .int .i64 0 ∧ Nt.ChkOK V N D p e L) ∨ (v = .int .i64 22 ∧ ¬ Nt.ChkOK V N D p e L)) := by
 have hxn : x.n = N := hg.len
 have hN12 := ho.n12
 have hN1 := ho.n1
 have hyl := hy.len
 have htl := zzh p
 have hzn : L.length = z.n := hz.1
 have hzm : z.n ≤ maxLen := Nat.le_trans hz.2.1 hz.2.2.1
 unfold maxLen at hzm
 have hwr : Nt.wrE N (D : Int) = 0 := by unfold Nt.wrE; rw [if_neg xq, if_neg xq]
 refine zzm Tryz.func17 rfl Tryz.ntmps17 Tryz.results17 d ?_
 refine sq9 (zzk 5 ⟨34, [y.v] ++ r.cs ++ [z.v]⟩ (zza 6 (zI 0) (zzb (zzd (sq9 (zza 14 (.v (x.v)) (zza 15 (zI D) (zzg 16 59 _ fun _ _ af bb => qym (k_exWrong (D := (D : Int)) bb (hg.ext af) ho) ?_))))))))
 rintro _ u12 ai rfl
 refine zza 7 (zI (Nt.wrE N (D : Int))) (zzb (sq9 (zza 17 (zI (Nt.wrE N (D : Int))) (zza 18 (zB ((Nt.wrE N (D : Int)) != 0)) (zzb (zzu (b := (Nt.wrE N (D : Int)) != 0) xj (fun hb => ?_) (fun hb => ?_)))))))
 ·exact absurd hb (by rw [show ((Nt.wrE N (D : Int)) != 0) = false from (by rw [hwr]; rfl)]; decide)
 clear hb
 refine zzs (zzp ?_)
 refine zzd (sq9 (zza 20 (.adr 5 0) (zzi 21 (.v (y.v)) ty27 zzl (zzg 22 76 _ fun _ _ am a7 => qym (k_poDegree a7 (hy.ext (af.t (ai.t am))) xq xq) ?_))))
 rintro _ u16 ao rfl
 refine zza 23 (zI D) (zza 24 (zB (decide ((D : Int) < (((Nt.trimQ p).length : Int) - 1)))) (zzb (zzu (b := decide ((D : Int) < (((Nt.trimQ p).length : Int) - 1))) xj (fun aa => ?_) (fun aa => ?_))))
 ·have qhb19 := qyt aa
  refine sq9 (zza 6 (zI 22) (zzb (zzo (zzw (ret0 [.int .i64 22] ⟨zzq, trivial⟩ fun u20 e21 => ?_)))))
  exact .inr ⟨rfl, (Nt.chk_1 (by have h9 := qyt aa; omega))⟩
 have qhb19 := qyf aa
 refine zzs (zzp ?_)
 refine zzd (sq9 (zza 25 (.adr 5 4) (zzi 26 (.v (z.v)) ty22 zzl (zza 27 (zI z.n) (zza 28 (zI D) (qwi 29 ((D : Int) + 2) (D + 2 : Nat) xz (zza 30 (zB ((z.n : Int) != ((D + 2 : Nat) : Int))) ?_)))))))
 rcases Bool.eq_false_or_eq_true ((z.n : Int) != ((D + 2 : Nat) : Int)) with hs22 | hs22
 ·refine qbi 31 hs22 (zzn 32 (uw 6 false true 31) (zzn 33 (uw 6 false true 31) (zzn 34 (uw 6 false true 31) (zzn 35 (uw 6 false true 31) (zzn 36 (uw 6 false true 31) (zzn 37 (uw 6 false true 31) (zza 38 (zB true) (zzb (zyr xj (sq9 (zza 6 (zI 22) ?_)))))))))))
  refine zzb (zzo (zzw (ret0 [.int .i64 22] ⟨zzq, trivial⟩ fun u23 e24 => ?_)))
  exact .inr ⟨rfl, (Nt.chk_2 (fun e9 => by have h9 := hs22; rw [bne_iff_ne] at h9; exact h9 xq))⟩
 refine qbi 31 hs22 (zza 32 (.adr 5 4) ?_ (hw := w1 6 false 31))
 refine zzi 33 (.v (z.v)) ty22 zzl ?_ (hw := w1 6 false 31)
 refine zza 34 (.v (x.v)) ?_ (hw := w1 6 false 31)
 refine zza 35 (zI x.n) ?_ (hw := w1 6 false 31)
 refine zzg 36 77 _ (fun _ _ aq bj => qym (k_ascending (z := z) (N := (x.n : Int)) bj (hz.ext (af.t (ai.t (am.t (ao.t aq))))) hb) ?_) (hw := w1 6 false 31)
 rintro _ u28 az ⟨ak, rfl, ae⟩
 refine zza 37 (zB (!ak)) ?_ (hw := w1 6 false 31)
 refine zza 38 (zB (!ak)) (zzb (zzu (b := !ak) xj (fun ay => ?_) (fun ay => ?_)))
 ·refine sq9 (zza 6 (zI 22) (zzb (zzo (zzw (ret0 [.int .i64 22] ⟨zzq, trivial⟩ fun u32 e33 => ?_)))))
  exact .inr ⟨rfl, (Nt.chk_3 (fun hu => by have h9 : ak = false := (by simpa using ay); have h8 := ae.2 (by rw [hxn]; exact hu); rw [h9] at h8; exact absurd h8 yv))⟩
 refine zzs (zzp ?_)
 refine zzd ?_
 have hU : Nt.Up (N : Int) L := by rw [hxn] at ae; exact ae.1 (by simpa using ay)
 have hLn : L.length = D + 2 := by have h9 := hs22; simp only [bne_eq_false_iff_eq] at h9; omega
 have hdg : (Nt.trimQ p).length ≤ D + 1 := by have h9 := qyf aa; omega
 obtain ⟨l, hLl, hR⟩ := Nt.up_inl (n := D + 1) hU hLn
 have hzl := hz
 rw [hLl] at hzl
 have hlk : l.length = D + 2 := by have h9 := hR.len; omega
 have hlt : ∀ i, i < D + 2 → l.getD i 0 < N := fun i hi => hR.lt i xq
 have hlt0 := hlt 0 xq
 refine zzf (zza 39 (.v (x.v)) (zza 40 (.adr 5 0) (zzi 41 (.v (y.v)) ty27 zzl (zzg 42 62 _ fun _ _ ar ba => qym (k_errorsOf (M := M) ba (hg.ext (af.t (ai.t (am.t (ao.t (aq.t (az.t ar))))))) ho (hy.ext (af.t (ai.t (am.t (ao.t (aq.t (az.t ar))))))) hl hB hM) ?_))))
 rintro _ u37 aG ⟨ah, rfl, ac⟩
 refine zza 8 (.v (ah.v)) (zzc 82 [(5, .adr 5 0), (8, .v (ah.v))] [(5, ⟨34, [y.v] ++ r.cs ++ [z.v]⟩)] (sq9 (zza 44 (.v (ah.v)) (zzg 45 63 _ fun _ _ ag bg => qym (k_greatest (n := N) bg (ac.ext ag) Nt.erL_len xq xq xq) ?_))))
 rintro _ u42 al ⟨aM, ap, rfl, aL, aj⟩
 have hgl41 := Nt.Gst.lt aj
 refine zza 43 (.v (.tuple #[aM.v, .int .i64 ap])) (zza 46 (.v (aM.v)) (zza 47 (zI ap) (zzk 9 ⟨32, zw3⟩ (zzj ⟨32, aM.cs⟩ ty32 ?_))))
 refine zza 10 (zI ap) (zzb (zzd (sq9 (zzi 48 (.v (aM.v)) ty32 zze (zza 49 (.adr 5 1) (zzi 50 (.v (r.v)) ty32 zze (zzg 51 78 _ fun _ _ ad a8 => qym (k_ratCompare a8 ((RatP.raw aL).ext ad) (hr.ext (af.t (ai.t (am.t (ao.t (aq.t (az.t (ar.t (aG.t (ag.t (al.t ad))))))))))) xq xq) ?_)))))))
 rintro _ u46 an rfl
 refine zza 52 (zB ((Nt.cmpQ (Nt.absQ ((Nt.erL V p N).getD ap 0)) e) != 0)) (zzb (zzu (b := (Nt.cmpQ (Nt.absQ ((Nt.erL V p N).getD ap 0)) e) != 0) xj (fun aw => ?_) (fun aw => ?_)))
 ·refine sq9 (zza 6 (zI 22) (zzb (zzo (zzw (ret0 [.int .i64 22] ⟨zzq, trivial⟩ fun u50 e51 => ?_)))))
  exact .inr ⟨rfl, (Nt.chk_4 aj (by have h9 := Nt.cmp_nz aw; rw [Nt.erL_at xq] at h9; exact h9))⟩
 refine zzs (zzp ?_)
 refine sq9 (zza 53 (.v (ah.v)) (zza 54 (.adr 5 4) (zzi 55 (.v (z.v)) ty22 zzl ?_)))
 have aS : (Nt.inl l).length = z.n := ((hzl.ext (af.t (ai.t (am.t (ao.t (aq.t (az.t (ar.t (aG.t (ag.t (al.t (ad.t an.ext))))))))))))).1
 rw [Nt.inl_len] at aS
 obtain ⟨b52, aZ, aR, aJ⟩ := ints_at (hzl.ext (af.t (ai.t (am.t (ao.t (aq.t (az.t (ar.t (aG.t (ag.t (al.t (ad.t an.ext)))))))))))) (i := 0) (by have h9 : 0 < l.length := xq; omega)
 rw [Nt.inl_at] at aJ
 refine zya 56 (aZ + 0 * 1) (n := z.n) (off := aZ) (sz := 1) (i := 0) xq aR xq (by first | omega | (have h9 : 0 < l.length := xq; omega)) sl22 (zyl 57 (.int .i64 (((l.getD 0 0) : Nat) : Int)) aJ ty3 ?_)
 have hl53 := PolP.len (ac.ext (ag.t (al.t (ad.t an.ext))))
 rw [Nt.erL_len] at hl53
 obtain ⟨aK, b53, a1, aP, aV, aA⟩ := polp_at (ac.ext (ag.t (al.t (ad.t an.ext)))) (i := (l.getD 0 0)) (by rw [Nt.erL_len]; omega)
 rw [Nt.erL_at xq] at aA
 refine zya 58 (a1 + (l.getD 0 0) * 3) (n := ah.n) (off := a1) (sz := 3) (i := (((l.getD 0 0) : Nat) : Int)) xq aP xq xq sl26 (zym 59 aK.cs aV ty32 (zzk 11 ⟨32, zw3⟩ (zzj ⟨32, aK.cs⟩ ty32 ?_)))
 refine zzb (zzd (zzd (zzz [0, 1, 0, 7, 15] [(0, []), (2, []), (1, []), (3, []), (4, [])] xj xj (zzi 60 (.v (aK.v)) ty32 zze (zzi 62 (.v (aM.v)) ty32 zze (zzg 61 65 _ fun _ _ aB a6 => qym (k_ratAbs a6 ((RatP.raw aA).ext aB) xq) ?_))))))
 rintro _ u57 aD ⟨r55, rfl, be⟩
 refine zzg 63 78 _ fun _ _ ax bh => qym (k_ratCompare bh (be.ext ax).raw ((RatP.raw aL).ext (ad.t (an.t (aB.t (aD.t ax))))) xq xq) ?_
 rintro _ bc aI rfl
 refine zza 64 (zB ((Nt.cmpQ (Nt.absQ (Nt.gE (Nt.gX V) (Nt.gW V) (Nt.gY V) p (l.getD 0 0))) (Nt.absQ ((Nt.erL V p N).getD ap 0))) != 0)) (zzb (zzu (b := (Nt.cmpQ (Nt.absQ (Nt.gE (Nt.gX V) (Nt.gW V) (Nt.gY V) p (l.getD 0 0))) (Nt.absQ ((Nt.erL V p N).getD ap 0))) != 0) xj (fun av => ?_) (fun av => ?_)))
 ·refine sq9 (zza 6 (zI 22) (zzb (zzo (zzw (ret0 [.int .i64 22] ⟨zzq, trivial⟩ fun u65 e66 => ?_)))))
  exact .inr ⟨rfl, (Nt.chk_5 aj hLl (by have h9 := Nt.cmp_nz av; rw [Nt.erL_at xq] at h9; exact h9))⟩
 refine zzs (zzp ?_)
 refine zzd (sq9 (zza 65 (.adr 5 4) (zzi 66 (.v (z.v)) ty22 zzl (zza 67 (zI z.n) (zza 68 (zI 0) (zzc 82 [(8, .v (ah.v)), (11, .adr 11 0), (66, .v (z.v)), (67, zI z.n), (68, zI 0)] [(11, ⟨32, aK.cs⟩)] (zzt (zyn (I := fun aY S' u' => ∃ (i : Nat) (rd : RL), (aY = D + 2 - i) ∧ (i ≤ D + 2) ∧ (∀ j, j < i → Nt.gE (Nt.gX V) (Nt.gW V) (Nt.gY V) p (l.getD j 0) = Nt.sg1 j * Nt.gE (Nt.gX V) (Nt.gW V) (Nt.gY V) p (l.getD 0 0)) ∧ (S' = St.of 82 [(8, .v (ah.v)), (11, .adr 11 0), (66, .v (z.v)), (67, zI z.n), (68, zI i)] [(11, ⟨32, rd.cs⟩)]) ∧ (Ext bc u') ∧ (RatV u' rd (Nt.sg1 i * Nt.gE (Nt.gX V) (Nt.gW V) (Nt.gY V) p (l.getD 0 0)) M)) (fun m S u1 u2 e h => by obtain ⟨i, rd, hm, p0, p1, hS, hE, f0⟩ := h; exact ⟨i, rd, hm, p0, p1, hS, hE.trans e, f0.ext e⟩) _ yz ⟨0, aK, rfl, by omega, (fun j hj => absurd hj (Nat.not_lt_zero j)), rfl, (Ext.refl _), (by rw [show Nt.sg1 0 = 1 from rfl, Rat.one_mul]; exact RatV.more ((RatP.raw aA).ext (aB.t (aD.t (ax.t aI.ext)))) xq)⟩ ?_))))))))
 rintro aY _ u67 ⟨i, rd, a4, hi, hal, rfl, aF, fd⟩
 refine sq9 (zza 69 (zB (decide ((i : Int) < (z.n : Int)))) (zzb (zzd (zzu (b := decide ((i : Int) < (z.n : Int))) xj (fun au => ?_) (fun au => ?_)))))
 ·have qhb68 := qyt au
  refine zzs (zzp ?_)
  refine zzd (zzt (zzd ?_))
  have hlti := hlt i xq
  refine zzf ?_
  have aT : (Nt.inl l).length = z.n := ((hzl.ext (af.t (ai.t (am.t (ao.t (aq.t (az.t (ar.t (aG.t (ag.t (al.t (ad.t (an.t (aB.t (aD.t (ax.t (aI.t aF)))))))))))))))))).1
  rw [Nt.inl_len] at aT
  obtain ⟨b69, a0, aU, aE⟩ := ints_at (hzl.ext (af.t (ai.t (am.t (ao.t (aq.t (az.t (ar.t (aG.t (ag.t (al.t (ad.t (an.t (aB.t (aD.t (ax.t (aI.t aF))))))))))))))))) (i := i) (by have h9 : i < l.length := xq; omega)
  rw [Nt.inl_at] at aE
  refine zya 70 (a0 + i * 1) (n := z.n) (off := a0) (sz := 1) (i := (i : Int)) xq aU xq (by first | omega | (have h9 : i < l.length := xq; omega)) sl22 (zyl 71 (.int .i64 (((l.getD i 0) : Nat) : Int)) aE ty3 (zza 13 (zI (((l.getD i 0) : Nat) : Int)) (zzb (zzd (zzd (zzz [0, 0, 3, 7, 0, 31, 63] [(0, []), (1, []), (2, []), (3, []), (4, []), (5, []), (6, [])] xj xj (zza 72 (.v (ah.v)) (zza 73 (zI (((l.getD i 0) : Nat) : Int)) ?_))))))))
  have hl70 := PolP.len (ac.ext (ag.t (al.t (ad.t (an.t (aB.t (aD.t (ax.t (aI.t aF)))))))))
  rw [Nt.erL_len] at hl70
  obtain ⟨bd, b70, aW, aQ, aO, aH⟩ := polp_at (ac.ext (ag.t (al.t (ad.t (an.t (aB.t (aD.t (ax.t (aI.t aF))))))))) (i := (l.getD i 0)) (by rw [Nt.erL_len]; omega)
  rw [Nt.erL_at xq] at aH
  refine zya 74 (aW + (l.getD i 0) * 3) (n := ah.n) (off := aW) (sz := 3) (i := (((l.getD i 0) : Nat) : Int)) xq aQ xq xq sl26 (zym 75 bd.cs aO ty32 (zzi 76 (.v (rd.v)) ty32 zze (zzg 77 78 _ fun _ _ aN a9 => qym (k_ratCompare a9 ((RatP.raw aH).ext aN) (fd.ext aN) xq xq) ?_)))
  rintro _ u72 aX rfl
  refine zza 78 (zB ((Nt.cmpQ (Nt.gE (Nt.gX V) (Nt.gW V) (Nt.gY V) p (l.getD i 0)) (Nt.sg1 i * Nt.gE (Nt.gX V) (Nt.gW V) (Nt.gY V) p (l.getD 0 0))) != 0)) (zzb (zzu (b := (Nt.cmpQ (Nt.gE (Nt.gX V) (Nt.gW V) (Nt.gY V) p (l.getD i 0)) (Nt.sg1 i * Nt.gE (Nt.gX V) (Nt.gW V) (Nt.gY V) p (l.getD 0 0))) != 0) xj (fun aC => ?_) (fun aC => ?_)))
  ·refine sq9 (zza 6 (zI 22) (zzb (zzo (zzw (zyu (zzw (zyt (zyu (zzw (ret0 [.int .i64 22] ⟨zzq, trivial⟩ fun u76 e77 => ?_))))))))))
   exact .inr ⟨rfl, (Nt.chk_6 hLl (i := i) xq (Nt.cmp_nz aC))⟩
  refine zzs (zzp ?_)
  refine zzf (zzi 79 (.v (rd.v)) ty32 zze (zzg 80 79 _ fun _ _ a3 a5 => qym (k_ratNeg a5 (fd.ext (aN.t (aX.t a3))) xq) ?_))
  rintro _ u81 bi ⟨a2, rfl, bf⟩
  refine zzj ⟨32, a2.cs⟩ ty32 ?_
  refine zzx ?_
  refine zzp (zzf (qwi 81 ((i : Int) + 1) (i + 1 : Nat) xz (zza 68 (zI (i + 1 : Nat)) (zzx ?_))))
  refine ⟨_, ?_, _, by exact zzv _ _ _, i + 1, a2, rfl, by omega, (fun j hj => by by_cases e9 : j = i; (rw [e9]; exact Nt.cmp_z aC); exact hal j xq), rfl, (aF.t (aN.t (aX.t (a3.t bi.ext)))), (by rw [← Nt.sg1_n]; exact RatV.more (RatN.raw bf) xq)⟩
  omega
 have qhb68 := qyf au
 refine zyc (zzp (sq9 (zza 6 (zI 0) (zzb (zzo (ret0 [.int .i64 0] ⟨zzq, trivial⟩ fun u84 e85 => ?_))))))
 obtain rfl : i = D + 2 := by omega
 exact .inl ⟨rfl, l, ap, hLl, hR, hdg, aj, (by have h9 := Nt.cmp_z aw; rw [Nt.erL_at xq] at h9; exact h9), (by have h9 := Nt.cmp_z av; rw [Nt.erL_at xq] at h9; exact h9), fun i hi => hal i hi⟩
theorem k_exCheckE {u w : World} {D : Int} {y z : Sl} {r : RL} {x : Sl} {N : Nat} {V : List Rat} (d : Dat u w) (hg : GrN u x N V 1) (ho : Nt.GrOK V N) (hwr : Nt.wrE N D ≠ 0) : qyc 17 #[x.v, .int .i64 D, .agg #[.slice y.a y.n y.c, .bool r.s, .slice r.m.a r.m.n r.m.c, .slice r.d.a r.d.n r.d.c, .slice z.a z.n z.c]] w (Post u w fun v _ => v = .int .i64 (Nt.wrE N D)) := by
 have hxn : x.n = N := hg.len
 have hN12 := ho.n12
 have hN1 := ho.n1
 refine zzm Tryz.func17 rfl Tryz.ntmps17 Tryz.results17 d ?_
 refine sq9 (zzk 5 ⟨34, [y.v] ++ r.cs ++ [z.v]⟩ (zza 6 (zI 0) (zzb (zzd (sq9 (zza 14 (.v (x.v)) (zza 15 (zI D) (zzg 16 59 _ fun _ _ ac aa => qym (k_exWrong (D := D) aa (hg.ext ac) ho) ?_))))))))
 rintro _ u12 g13 rfl
 refine zza 7 (zI (Nt.wrE N D)) (zzb (sq9 (zza 17 (zI (Nt.wrE N D)) (zza 18 (zB ((Nt.wrE N D) != 0)) (zzb (zzu (b := (Nt.wrE N D) != 0) xj (fun hb => ?_) (fun hb => ?_)))))))
 ·clear hb
  refine sq9 (zza 19 (zI (Nt.wrE N D)) (zza 6 (zI (Nt.wrE N D)) (zzb (zzo (zzw (ret0 [.int .i64 (Nt.wrE N D)] ⟨zzq, trivial⟩ fun u15 e16 => ?_))))))
  rfl
 exact absurd hb (by rw [show ((Nt.wrE N D) != 0) = true from (by simpa using hwr)]; decide)
namespace Nt
open Pol
section
variable {V : List Rat} {N n D : Nat} {p q : List Rat} {l m : List Nat}
theorem gst_ex (E : List Rat) : ∀ n, 1 ≤ n → ∃ a, Gst E n a
 | 0, h => absurd h xq
 | n + 1, _ => by
  by_cases h : n = 0
  ·subst h; exact ⟨0, gst_1 E⟩
  obtain ⟨a, ha⟩ := gst_ex E n xq
  by_cases c : ab (E.getD a 0) < ab (E.getD n 0)
  ·exact ⟨n, ha.up c⟩
  exact ⟨a, ha.keep c⟩
theorem bst_max (g : GrOK V N) (h : Bst (gX V) (gW V) (gY V) N n p l) {a : Nat} (hG : Gst (erL V p N) N a) : absQ (gE (gX V) (gW V) (gY V) p a) = absQ (eL V l) := by
 have h1 := h.max a hG.lt
 have h2 := h.at_ab g.gr 0 xq
 have h3 := hG.le (l.getD 0 0) (h.rf.lt 0 xq)
 rw [erL_at (h.rf.lt 0 xq), erL_at hG.lt] at h3
 rw [ab_eq, ab_eq]
 have e : eL V l = rE (gX V) (gW V) (gY V) l := rfl
 rw [e]; grind
theorem chk_bst (g : GrOK V N) (h : Bst (gX V) (gW V) (gY V) N (D + 1) p l) {e : Rat} (he : e = absQ (eL V l)) : ChkOK V N D p e (inl l) := by
 obtain ⟨a, ha⟩ := gst_ex (erL V p N) N g.n1
 refine ⟨l, a, rfl, h.rf, Nat.le_trans (zzh p) h.len, ha, by rw [he]; exact bst_max g h ha, ?_, fun i hi => ?_⟩
 ·rw [bst_max g h ha, ab_eq, ab_eq]; exact h.at_ab g.gr 0 xq
 rw [h.at g.gr i xq, h.at g.gr 0 xq]
 have : sg1 0 = 1 := rfl
 rw [this]; grind
theorem pL_trim (h : Rf N l n) (h1 : 1 ≤ n) : trimQ (pL V l) = pL V l := by rw [lvl_pL h]; exact trim_nwL h1
theorem bst_list (g : GrOK V N) (h : Bst (gX V) (gW V) (gY V) N n p l) (k : Bst (gX V) (gW V) (gY V) N n q m) (hp : trimQ p = p) (hq : trimQ q = q) : p = q := by
 rw [← hp, ← hq]; exact trim_ext (fun i => (h.same k g.gr).2 i)
theorem bst_err (g : GrOK V N) (h : Bst (gX V) (gW V) (gY V) N n p l) (k : Bst (gX V) (gW V) (gY V) N n q m) : absQ (eL V l) = absQ (eL V m) := (h.same k g.gr).1
end
def awV : List Rat := [((-1 : Int) : Rat), ((1 : Int) : Rat), ((1 : Int) : Rat), ((0 : Int) : Rat), ((0 : Int) : Rat), ((1 : Int) : Rat), ((1 : Int) : Rat), ((1 : Int) : Rat), ((1 : Int) : Rat)]
theorem awOK : GrOK awV 3 := by
 refine ⟨by decide, by decide, rfl, fun i hi => ?_, fun i hi => ?_, fun i hi => ⟨1, 1, ?_, by decide, by decide, by decide, by decide⟩, fun a b hab hb => ?_⟩
 ·rcases (by omega : i = 0 ∨ i = 1 ∨ i = 2) with rfl | rfl | rfl
  ·exact ⟨-12, by decide +kernel, by decide, by decide⟩
  ·exact ⟨0, by decide +kernel, by decide, by decide⟩
  exact ⟨12, by decide +kernel, by decide, by decide⟩
 ·rcases (by omega : i = 0 ∨ i = 1 ∨ i = 2) with rfl | rfl | rfl
  ·exact ⟨840, by decide +kernel, by decide⟩
  ·exact ⟨0, by decide +kernel, by decide⟩
  exact ⟨840, by decide +kernel, by decide⟩
 ·rcases (by omega : i = 0 ∨ i = 1 ∨ i = 2) with rfl | rfl | rfl <;> decide +kernel
 rcases (by omega : a = 0 ∧ b = 1 ∨ a = 0 ∧ b = 2 ∨ a = 1 ∧ b = 2) with ⟨rfl, rfl⟩ | ⟨rfl, rfl⟩ | ⟨rfl, rfl⟩ <;> decide +kernel
theorem awRf : Rf 3 [0, 1, 2] 2 := ⟨rfl, fun i j hij hj => by
 rcases (by omega : i = 0 ∧ j = 1 ∨ i = 0 ∧ j = 2 ∨ i = 1 ∧ j = 2) with ⟨rfl, rfl⟩ | ⟨rfl, rfl⟩ | ⟨rfl, rfl⟩ <;> decide, fun i hi => by
 rcases (by omega : i = 0 ∨ i = 1 ∨ i = 2) with rfl | rfl | rfl <;> decide⟩
theorem aw_e : eL awV [0, 1, 2] = ((1 : Int) : Rat) / ((2 : Int) : Rat) := by decide +kernel
theorem aw_best : Bst (gX awV) (gW awV) (gY awV) 3 2 [((1 : Int) : Rat) / ((2 : Int) : Rat)] [0, 1, 2] := by
 refine ⟨awRf, by decide, fun a ha => ?_⟩
 rcases (by omega : a = 0 ∨ a = 1 ∨ a = 2) with rfl | rfl | rfl <;> decide +kernel
theorem aw_lev : Bst (gX awV) (gW awV) (gY awV) 3 2 (pL awV [0, 1, 2]) [0, 1, 2] := by
 refine ⟨awRf, lvl_len awRf, fun a ha => ?_⟩
 have h9 : a = [0, 1, 2].getD a 0 := by rcases (by omega : a = 0 ∨ a = 1 ∨ a = 2) with rfl | rfl | rfl <;> rfl
 rw [h9, lvl_at awOK awRf yv xq, ab_sg]
 exact Rat.le_refl
theorem aw_half : trimQ [((1 : Int) : Rat) / ((2 : Int) : Rat)] = [((1 : Int) : Rat) / ((2 : Int) : Rat)] := by decide +kernel
theorem aw_p {l : List Nat} (h : Bst (gX awV) (gW awV) (gY awV) 3 2 (pL awV l) l) : pL awV l = [((1 : Int) : Rat) / ((2 : Int) : Rat)] := bst_list awOK h aw_best (pL_trim h.rf yv) aw_half
theorem aw_x {l : List Nat} (h : Bst (gX awV) (gW awV) (gY awV) 3 2 (pL awV l) l) : absQ (eL awV l) = ((1 : Int) : Rat) / ((2 : Int) : Rat) := by
 rw [bst_err awOK h aw_best, aw_e]; decide +kernel
end Nt
theorem k_exCheckB {u w : World} {D : Nat} {y z : Sl} {r : RL} {p : List Rat} {e : Rat} {l : List Nat} {K Ke M : Nat} {x : Sl} {N : Nat} {V : List Rat} (d : Dat u w) (hg : GrN u x N V 1) (ho : Nt.GrOK V N) (hy : PolV u y p K) (hr : RatV u r e Ke) (hz : SlR .i64 u z.a z.n z.c (Nt.inl l)) (hl : p.length ≤ 60) (hB : 2 * (p.length * (K + 1) + 2) + K + 2 * p.length + 11 ≤ M) (hM : M ≤ 20000000) (hKe : Ke ≤ 20000000) (hD : D + 2 ≤ N) (hb : Nt.Bst (Nt.gX V) (Nt.gW V) (Nt.gY V) N (D + 1) p l) (he : e = Nt.absQ (Nt.eL V l)) : qyc 17 #[x.v, .int .i64 (D : Int), .agg #[.slice y.a y.n y.c, .bool r.s, .slice r.m.a r.m.n r.m.c, .slice r.d.a r.d.n r.d.c, .slice z.a z.n z.c]] w (Post u w fun v _ => v = .int .i64 0) :=
 qym (k_exCheck d hg ho hy hr hz (Nt.inl_bd hb.rf.mem (by have := ho.n12; omega)) hl hB hM hKe hD) fun v u' _ h => h.elim (fun h => h.1) (fun h => absurd (Nt.chk_bst ho hb he) h.2)
theorem Nt.rs_small {z : Int} (h : z.natAbs ≤ 1) : Nt.rs (z : Rat) ≤ 1 := Nt.rs_int (K := 1) (Nat.le_trans (Nt.dl_mono h) (Nat.le_of_eq Nt.dl_one)) (Nat.le_refl 1)
theorem Nt.wrE_1 {N D : Nat} (h : ¬ D + 2 ≤ N) (hD : D ≤ 50) : Nt.wrE N (D : Int) = 1 := by unfold Nt.wrE; rw [if_neg xq, if_pos xq]
theorem Nt.wrE_0 {N D : Nat} (h : D + 2 ≤ N) (hD : D ≤ 50) : Nt.wrE N (D : Int) = 0 := by unfold Nt.wrE; rw [if_neg xq, if_neg xq]
theorem k_r5Eval {u w : World} {x : Sl} {l : List Rat} {r : RL} {q : Rat} {K M S : Nat} (d : Dat u w) (hx : PolV u x l K) (hr : RatV u r q M) (hS : K + M + 4 ≤ S) (hS9 : l.length * S ≤ 20000000) (hM : M ≤ 10000000) (hK : K ≤ 10000000) (hl9 : l.length ≤ 1000000) : qyc 94 #[x.v, r.v] w (Post u w fun v u' => ∃ p : RL, v = p.v ∧ RatN u' p (Nt.Pol.evL l q) (l.length * S + 2)) := by
 have hlen := hx.len
 refine zzm Tryz.func94 rfl Tryz.ntmps94 Tryz.results94 d ?_
 refine sq9 (zzk 3 ⟨32, r.cs⟩ (zzk 4 ⟨32, zw3⟩ (zzb (sq9 (zzg 7 30 _ fun _ _ aj aq => qym (k_rqOf aq (z := 0) xq xq) ?_)))))
 rintro _ aB ai ⟨ap, rfl, ar⟩
 refine zzk 5 ⟨32, zw3⟩ (zzj ⟨32, ap.cs⟩ ty32 ?_)
 refine zzb (zzd (sq9 (zza 8 (.v (x.v)) (zza 9 (zI x.n) (qwi 10 ((x.n : Int) - 1) ((x.n : Int) - 1) (by rw [IntWalk.i64_in _ xq]; try omega) (zza 6 (zI ((x.n : Int) - 1)) (zzb (zzt (zyn (I := fun am S' u' => ∃ (k : Nat) (ry : RL), (am = k) ∧ (k ≤ l.length) ∧ (S' = St.of 24 [(0, .v (x.v)), (3, .adr 3 0), (4, .adr 4 0), (5, .adr 5 0), (6, zI ((k : Int) - 1))] [(3, ⟨32, r.cs⟩), (4, ⟨32, zw3⟩), (5, ⟨32, ry.cs⟩)]) ∧ (Ext aB u') ∧ (RatN u' ry (Nt.Pol.evL (l.drop k) q) ((l.length - k) * S + 2))) (fun m S u1 u2 e h => by obtain ⟨k, ry, hm, p0, hS, hE, f0⟩ := h; exact ⟨k, ry, hm, p0, hS, hE.trans e, f0.ext e⟩) _ yz ⟨x.n, ap, rfl, by omega, rfl, (Ext.refl _), (by rw [Nt.ev_drop_all xq]; exact RatN.more (K := 2) ar xq)⟩ ?_)))))))))
 rintro am _ u17 ⟨k, ry, av, hk, rfl, ad, hY⟩
 have hm1 : (l.length - k) * S ≤ l.length * S := Nat.mul_le_mul_right _ xq
 refine zzd (sq9 (zza 11 (zI ((k : Int) - 1)) (zza 12 (zB (decide ((0 : Int) ≤ ((k : Int) - 1)))) (zzb (zzu (b := decide ((0 : Int) ≤ ((k : Int) - 1))) xj (fun aa => ?_) (fun aa => ?_))))))
 ·have qhb18 := qyt aa
  refine zzs (zzp ?_)
  refine zzd (zzt (zzz [0, 0, 3, 0, 0, 24, 56, 127, 255] [(0, []), (1, []), (3, []), (4, []), (5, []), (6, []), (2, []), (7, []), (8, [])] xj xj (zzi 15 (.v (ry.v)) ty32 zze (zzi 16 (.v (r.v)) ty32 zze (zza 18 (.v (x.v)) (zyq 19 (x := zI ((k : Int) - 1)) (zI (k - 1 : Nat)) (eqI xq) ?_))))))
  have hl19 := (hx.ext (aj.t (ai.t ad))).len
  obtain ⟨az, b19, ao, af, ag, ah⟩ := pol_at (hx.ext (aj.t (ai.t ad))) (i := (k - 1)) xq
  refine zya 20 (ao + (k - 1) * 3) (n := x.n) (off := ao) (sz := 3) (i := ((k - 1 : Nat) : Int)) xq af xq xq sl27 (zym 21 az.cs ag ty32 (zzg 17 91 _ fun _ _ ac aA => qym (k_rqMul aA (hY.ext ac).raw (hr.ext (aj.t (ai.t (ad.trans ac)))) xq xq) ?_))
  rintro _ u23 ak ⟨r21, rfl, ax⟩
  refine zzg 22 58 _ fun _ _ ae au => qym (k_rqAdd au (ax.ext ae).raw (ah.ext (ac.t (ak.t ae))) xq xq) ?_
  rintro _ u29 ay ⟨al, rfl, aw⟩
  refine zzj ⟨32, al.cs⟩ ty32 ?_
  refine zzx ?_
  refine zzp (zzf (zza 13 (zI ((k : Int) - 1)) (qwi 14 (((k : Int) - 1) - 1) (((k - 1 : Nat) : Int) - 1) (by rw [IntWalk.i64_in _ xq]; try omega) (zza 6 (zI (((k - 1 : Nat) : Int) - 1)) (zzx ?_)))))
  have hs1 : (l.length - (k - 1)) * S = (l.length - k) * S + S := by rw [show l.length - (k - 1) = (l.length - k) + 1 by omega, Nat.add_mul, Nat.one_mul]
  refine ⟨_, ?_, _, by exact zzv _ _ _, k - 1, al, rfl, by omega, rfl, (ad.t (ac.t (ak.t (ae.t ay.ext)))), (by rw [Nt.ev_drop1 xq xq]; exact RatN.more (K := ((((l.length - k) * S + 2) + M + 1) + K + 2)) aw xq)⟩
  omega
 have qhb18 := qyf aa
 refine zyc (zzp (sq9 (zzi 23 (.v (ry.v)) ty32 zze (zzj ⟨32, ry.cs⟩ ty32 ?_))))
 refine zzb (zzo (ret0 [ry.v] ⟨zzr ty32 zze, trivial⟩ fun u32 aC => ?_))
 have an : k = 0 := by omega
 refine ⟨ry, rfl, RatN.more (K := ((l.length - k) * S + 2)) ?_ xq⟩
 have h9 := (hY.ext aC)
 rw [an, Nt.ev_drop0] at h9
 rw [an]
 exact h9
theorem k_r15At {u w : World} {r0 r1 r2 : RL} {x y g : Rat} {s : Sl} {p : List Rat} {K T : Nat} (d : Dat u w) (hr0 : RatN u r0 x 1) (hr1 : RatN u r1 y 1) (hr2 : RatN u r2 g 1) (hS : PolV u s p K) (hl : p.length ≤ 60) (hT : p.length * (K + 5) + 10 ≤ T) (hT9 : T ≤ 10000000) (hK : K ≤ 10000000) : qyc 31 #[.agg #[.bool r0.s, .slice r0.m.a r0.m.n r0.m.c, .slice r0.d.a r0.d.n r0.d.c, .bool r1.s, .slice r1.m.a r1.m.n r1.m.c, .slice r1.d.a r1.d.n r1.d.c, .bool r2.s, .slice r2.m.a r2.m.n r2.m.c, .slice r2.d.a r2.d.n r2.d.c], s.v] w (Post u w fun v u' => ∃ r : RL, v = r.v ∧ RatN u' r (g * (y - Nt.Pol.evL p x)) T) := by
 refine zzm Tryz.func31 rfl Tryz.ntmps31 Tryz.results31 d ?_
 refine sq9 (zzk 2 ⟨56, r0.cs ++ r1.cs ++ r2.cs⟩ (zzk 4 ⟨32, zw3⟩ (zzb (zzd (zzz [0, 1, 0, 4, 0, 0, 32, 112, 252, 511, 1023] [(0, []), (1, []), (2, []), (3, []), (4, []), (5, []), (6, []), (7, []), (8, []), (9, []), (10, [])] xj xj (zza 5 (.adr 2 6) (zzi 6 (.v (r2.v)) ty32 zze (zza 7 (.adr 2 3) (zzi 8 (.v (r1.v)) ty32 zze (zza 9 (.v (s.v)) (zza 10 (.adr 2 0) ?_)))))))))))
 refine zzi 11 (.v (r0.v)) ty32 zze (zzg 12 94 _ fun _ _ aa ah => qym (k_r5Eval (S := K + 5) ah (hS.ext aa) (hr0.ext aa).raw xq xq xq xq xq) ?_)
 rintro _ u14 af ⟨r12, rfl, ai⟩
 refine zzg 13 93 _ fun _ _ ad ag => qym (k_rqSub ag (hr1.ext (aa.t (af.t ad))).raw (ai.ext ad).raw xq xq) ?_
 rintro _ u20 al ⟨r18, rfl, ak⟩
 refine zzg 14 91 _ fun _ _ ae aj => qym (k_rqMul aj (hr2.ext (aa.t (af.t (ad.t (al.t ae))))).raw (ak.ext ae).raw xq xq) ?_
 rintro _ u26 g27 ⟨ac, rfl, an⟩
 refine zzj ⟨32, ac.cs⟩ ty32 ?_
 refine zzb (zzo (ret0 [ac.v] ⟨zzr ty32 zze, trivial⟩ fun u29 am => ?_))
 exact ⟨ac, rfl, RatN.more (K := (1 + (1 + (p.length * (K + 5) + 2) + 2) + 1)) (an.ext am) xq⟩
namespace Nt
section
variable {E : List Rat} {i a : Nat}
theorem gs1_up (h : Gst E (max i 1) a) (h0 : i = 0 → a = 0) (hh : decide (absQ (E.getD a 0) < absQ (E.getD i 0)) = true) : Gst E (max (i + 1) 1) i := by
 have h9 : ab (E.getD a 0) < ab (E.getD i 0) := qyt hh
 by_cases c : i = 0
 ·rw [h0 c, c] at h9; exact absurd h9 (by grind)
 rw [show max i 1 = i by omega] at h; rw [show max (i + 1) 1 = i + 1 by omega]; exact h.up h9
theorem gs1_keep (h : Gst E (max i 1) a) (h0 : i = 0 → a = 0) (hh : decide (absQ (E.getD a 0) < absQ (E.getD i 0)) = false) : Gst E (max (i + 1) 1) a := by
 have h9 : ¬ ab (E.getD a 0) < ab (E.getD i 0) := qyf hh
 by_cases c : i = 0
 ·rw [c] at h ⊢; exact h
 rw [show max i 1 = i by omega] at h; rw [show max (i + 1) 1 = i + 1 by omega]; exact h.keep h9
end
end Nt
theorem k_r15Error {u w : World} {y : Sl} {p : List Rat} {K T : Nat} {x : Sl} {N : Nat} {V : List Rat} (d : Dat u w) (hg : GrN u x N V 1) (ho : Nt.GrOK V N) (hy : PolV u y p K) (hl : p.length ≤ 60) (hT : p.length * (K + 5) + 10 ≤ T) (hT9 : T ≤ 10000000) (hK : K ≤ 10000000) : qyc 35 #[x.v, y.v] w (Post u w fun v u' => ∃ (r : RL) (a : Nat), v = .tuple #[r.v, .int .i64 (a : Int), .int .i64 0] ∧ RatN u' r (Nt.absQ (Nt.gE (Nt.gX V) (Nt.gW V) (Nt.gY V) p a)) T ∧ Nt.Gst (Nt.erL V p N) N a) := by
 have hxn : x.n = N := hg.len
 have hN12 := ho.n12
 have hN1 := ho.n1
 have hyl := hy.len
 refine zzm Tryz.func35 rfl Tryz.ntmps35 Tryz.results35 d ?_
 refine sq9 (zzk 4 ⟨32, zw3⟩ (zza 5 (zI 0) (zza 6 (zI 0) (zzb (zzd (sq9 (zza 11 (.v (x.v)) (zzg 12 69 _ fun _ _ af aT => qym (k_r14Valid aT (hg.ext af) ho) ?_))))))))
 rintro _ u12 ah rfl
 refine zza 13 (zB false) (zzb (zys xj (zzs (zzp ?_))))
 refine sq9 (zza 15 (.v (x.v)) ?_)
 have aV : x.n = N := GrN.len (hg.ext (af.t ah.ext))
 obtain ⟨az, au, aE, b15, aP, aM, am, aj, aq, ax, ay, an⟩ := gr_at (hg.ext (af.t ah.ext)) (i := 0) xq
 refine zya 16 (aP + 0 * 9) (n := x.n) (off := aP) (sz := 9) (i := 0) xq aM xq (by first | omega | (have h9 : 0 < N := xq; omega)) sl23 (zym 17 (az.cs ++ au.cs ++ aE.cs) (gr_pt am aj aq) ty56 (zza 18 (.v (y.v)) (zzg 19 31 _ fun _ _ ad a3 => qym (k_r15At (r0 := az) (r1 := au) (r2 := aE) (T := T) a3 (ax.ext ad) (ay.ext ad) (an.ext ad) (hy.ext (af.t (ah.t ad))) xq xq xq xq) ?_)))
 rintro _ u19 aJ ⟨r17, rfl, a5⟩
 refine zzg 20 27 _ fun _ _ aH aU => qym (k_rqAbs aU (a5.ext aH).raw xq) ?_
 rintro _ a0 aL ⟨aN, rfl, a4⟩
 refine zzk 7 ⟨32, zw3⟩ (zzj ⟨32, aN.cs⟩ ty32 ?_)
 refine zza 8 (zI 0) (zzb (zzd (sq9 (zza 21 (.v (x.v)) (zza 22 (zI x.n) (zza 23 (zI 0) (zzb (zzt (zyn (I := fun aS S' u' => ∃ (i : Nat) (a : Nat) (rm : RL), (aS = N - i) ∧ (i ≤ N) ∧ (Nt.Gst (Nt.erL V p N) (max i 1) a) ∧ (i = 0 → a = 0) ∧ (a < N) ∧ (S' = St.of 41 [(0, .v (x.v)), (1, .v (y.v)), (4, .adr 4 0), (7, .adr 7 0), (8, zI a), (22, zI x.n), (23, zI i)] [(4, ⟨32, zw3⟩), (7, ⟨32, rm.cs⟩)]) ∧ (Ext a0 u') ∧ (RatN u' rm (Nt.absQ ((Nt.erL V p N).getD a 0)) T)) (fun m S u1 u2 e h => by obtain ⟨i, a, rm, hm, p0, p1, p2, p3, hS, hE, f0⟩ := h; exact ⟨i, a, rm, hm, p0, p1, p2, p3, hS, hE.trans e, f0.ext e⟩) _ yz ⟨0, 0, aN, rfl, by omega, (Nt.gst_1 _), (fun _ => rfl), by omega, rfl, (Ext.refl _), (by rw [Nt.erL_at xq]; exact RatN.more (K := T) a4 xq)⟩ ?_)))))))))
 rintro aS _ u28 ⟨i, a, rm, aZ, hi, hG, aR, ha9, rfl, av, f0⟩
 refine sq9 (zza 24 (zB (decide ((i : Int) < (x.n : Int)))) (zzb (zzd (zzu (b := decide ((i : Int) < (x.n : Int))) xj (fun ae => ?_) (fun ae => ?_)))))
 ·have qhb29 := qyt ae
  refine zzs (zzp ?_)
  refine zzd (zzt (sq9 (zza 25 (zI i) (zza 9 (zI i) (zzb (sq9 (zza 26 (.v (x.v)) (zza 27 (zI i) ?_))))))))
  have aX : x.n = N := GrN.len (hg.ext (af.t (ah.t (ad.t (aJ.t (aH.t (aL.t av)))))))
  obtain ⟨ao, aB, aA, b30, aO, aK, aw, al, ap, aC, ak, aD⟩ := gr_at (hg.ext (af.t (ah.t (ad.t (aJ.t (aH.t (aL.t av))))))) (i := i) xq
  refine zya 28 (aO + i * 9) (n := x.n) (off := aO) (sz := 9) (i := (i : Int)) xq aK xq (by first | omega | (have h9 : i < N := xq; omega)) sl23 (zym 29 (ao.cs ++ aB.cs ++ aA.cs) (gr_pt aw al ap) ty56 (zza 30 (.v (y.v)) (zzg 31 31 _ fun _ _ ac aY => qym (k_r15At (r0 := ao) (r1 := aB) (r2 := aA) (T := T) aY (aC.ext ac) (ak.ext ac) (aD.ext ac) (hy.ext (af.t (ah.t (ad.t (aJ.t (aH.t (aL.t (av.trans ac)))))))) xq xq xq xq) ?_)))
  rintro _ u34 aI ⟨r32, rfl, a6⟩
  refine zzg 32 27 _ fun _ _ ar a1 => qym (k_rqAbs a1 (a6.ext ar).raw xq) ?_
  rintro _ u40 aG ⟨ai, rfl, aQ⟩
  refine zzk 10 ⟨32, zw3⟩ (zzj ⟨32, ai.cs⟩ ty32 ?_)
  refine zzb (sq9 (zzi 33 (.v (rm.v)) ty32 zze (zzi 34 (.v (ai.v)) ty32 zze (zzg 35 26 _ fun _ _ ag aW => qym (k_rqLess aW (f0.ext (ac.t (aI.t (ar.t (aG.t ag))))).raw (aQ.ext ag).raw xq xq) ?_))))
  rintro _ u44 aF rfl
  refine zzc 41 [(0, .v (x.v)), (1, .v (y.v)), (4, .adr 4 0), (7, .adr 7 0), (8, zI a), (9, zI i), (10, .adr 10 0), (22, zI x.n), (23, zI i), (35, zB (decide ((Nt.absQ ((Nt.erL V p N).getD a 0)) < (Nt.absQ ((Nt.gW V i) * ((Nt.gY V i) - Nt.Pol.evL p (Nt.gX V i)))))))] [(4, ⟨32, zw3⟩), (7, ⟨32, rm.cs⟩), (10, ⟨32, ai.cs⟩)] (zzu (b := decide ((Nt.absQ ((Nt.erL V p N).getD a 0)) < (Nt.absQ ((Nt.gW V i) * ((Nt.gY V i) - Nt.Pol.evL p (Nt.gX V i)))))) xj (fun aa => ?_) (fun aa => ?_))
  ·have qhb47 := qyt aa
   refine zzf (zzi 36 (.v (ai.v)) ty32 zze (zza 37 (zI i) (zzj ⟨32, ai.cs⟩ ty32 ?_)))
   refine zza 8 (zI i) (zzx ?_)
   refine zzp (zzf (qwi 38 ((i : Int) + 1) (i + 1 : Nat) xz (zza 23 (zI (i + 1 : Nat)) (zzx ?_))))
   refine ⟨_, ?_, _, by exact zzv _ _ _, i + 1, i, ai, rfl, by omega, (Nt.gs1_up hG aR (by rw [Nt.erL_at (a := i) xq]; exact aa)), (fun h => by omega), by omega, rfl, (av.t (ac.t (aI.t (ar.t (aG.t (ag.t aF.ext)))))), (by rw [Nt.erL_at (a := i) xq]; exact (aQ.ext (ag.t aF.ext)))⟩
   omega
  have qhb47 := qyf aa
  refine zzs (zzp ?_)
  refine zzf (qwi 38 ((i : Int) + 1) (i + 1 : Nat) xz (zza 23 (zI (i + 1 : Nat)) (zzx ?_)))
  refine ⟨_, ?_, _, by exact zzv _ _ _, i + 1, a, rm, rfl, by omega, (Nt.gs1_keep hG aR (by rw [Nt.erL_at (a := i) xq]; exact aa)), (fun h => by omega), by omega, rfl, (av.t (ac.t (aI.t (ar.t (aG.t (ag.t aF.ext)))))), (f0.ext (ac.t (aI.t (ar.t (aG.t (ag.t aF.ext))))))⟩
  omega
 have qhb29 := qyf ae
 refine zyc (zzp (sq9 (zzi 39 (.v (rm.v)) ty32 zze (zza 40 (zI a) (zzj ⟨32, rm.cs⟩ ty32 ?_)))))
 refine zza 5 (zI a) (zza 6 (zI 0) (zzb (zzo (ret0 [rm.v, .int .i64 a, .int .i64 0] ⟨zzr ty32 zze, zzq, zzq, trivial⟩ fun u48 a2 => ?_))))
 obtain rfl : i = N := by omega
 have hG9 := hG
 rw [show max i 1 = i by omega] at hG9
 exact ⟨rm, a, rfl, (by have h9 := (f0.ext a2); rw [Nt.erL_at xq] at h9; exact h9), hG9⟩
namespace Nt
def ovR (a : List Rat) (p : Rat) : List Rat := (List.range a.length).map fun j => a.getD j 0 / p
def dotV (M : List (List Rat)) (i : Nat) (v : Nat → Rat) (m : Nat) : Rat := su (fun j => ent M i j * v j) m
def Ker (n m : Nat) (M : List (List Rat)) (v : Nat → Rat) : Prop := ∀ i, i < n → dotV M i v m = 0
def Inj (n : Nat) (M : List (List Rat)) : Prop := ∀ v, Ker n n M v → ∀ j, j < n → v j = 0
structure GI (n m : Nat) (A M : List (List Rat)) (c : Nat) (d : Rat) : Prop where
 len : M.length = n
 row : ∀ i, i < n → (M.getD i []).length = m
 ker : ∀ v, Ker n m M v → Ker n m A v
 unit : ∀ j, j < c → ∀ i, i < n → ent M i j = if i = j then 1 else 0
 dt : n ≤ m → det n (ent A) = d * det n (ent M)
structure GE (n m : Nat) (A M : List (List Rat)) (c : Nat) (d : Rat) (i : Nat) : Prop extends GI n m A M c d where
 piv : ent M c c = 1
 done : ∀ k, k < i → k < n → k ≠ c → ent M k c = 0
section
variable {M A : List (List Rat)} {a b l : List Rat} {n m t f i j c k r : Nat} {p q d : Rat} {v : Nat → Rat}
theorem ovR_len : (ovR a p).length = a.length := by unfold ovR; simp
theorem ovR_at (h : j < a.length) : (ovR a p).getD j 0 = a.getD j 0 / p := mapR_at h
theorem dotV_congr {M N : List (List Rat)} (h : ∀ j, j < m → ent M i j = ent N k j) : dotV M i v m = dotV N k v m := su_congr fun j hj => by rw [h j hj]
theorem GI.start (h1 : A.length = n) (h2 : ∀ i, i < n → (A.getD i []).length = m) : GI n m A A 0 1 :=
 ⟨h1, h2, fun v h => h, fun j hj => absurd hj (Nat.not_lt_zero j), fun _ => by grind⟩
theorem GI.swap (g : GI n m A M c d) (hc : c < n) (hk : k < n) (hck : c < k) : GI n m A (swL M k c []) c (-d) := by
 have hl := g.len
 have hat : ∀ i, (swL M k c []).getD i [] = if i = k then M.getD c [] else if i = c then M.getD k [] else M.getD i [] := fun i => swL_at xq xq
 refine ⟨by rw [swL_len]; exact hl, fun i hi => ?_, fun v h => ?_, fun j hj i hi => ?_, fun hm => ?_⟩
 ·rw [hat]; split
  ·exact g.row c hc
  split
  ·exact g.row k hk
  exact g.row i hi
 ·refine g.ker v fun i hi => ?_
  by_cases e1 : i = k
  ·subst e1
   rw [← h c hc]
   exact dotV_congr fun j hj => by unfold ent; rw [hat c, if_neg xq, if_pos rfl]
  by_cases e2 : i = c
  ·subst e2
   rw [← h k hk]
   exact dotV_congr fun j hj => by unfold ent; rw [hat k, if_pos rfl]
  rw [← h i hi]
  exact dotV_congr fun j hj => by unfold ent; rw [hat i, if_neg e1, if_neg e2]
 ·unfold ent
  rw [hat]
  split
  ·have := g.unit j hj c hc; unfold ent at this; rw [this, if_neg xq, if_neg xq]
  split
  ·have := g.unit j hj k hk; unfold ent at this; rw [this, if_neg xq, if_neg xq]
  exact g.unit j hj i hi
 rw [ent_swap xq xq, det_swap hk hc xq, g.dt hm]; grind
theorem GI.scale (g : GI n m A M c d) (hc : c < n) (hm : c < m) (hp : ent M c c = p) (h0 : p ≠ 0) : GE n m A (M.set c (ovR (M.getD c []) p)) c (d * p) 0 := by
 have hl := g.len
 have hat : ∀ i j, j < m → ent (M.set c (ovR (M.getD c []) p)) i j = if i = c then ent M c j / p else ent M i j := fun i j hj => by
  rw [ent_set]
  by_cases e : i = c
  ·subst e; rw [if_pos ⟨rfl, by omega⟩, if_pos rfl, ovR_at (by rw [g.row i hc]; exact hj)]; rfl
  rw [if_neg (fun h => e h.1.symm), if_neg e]
 refine ⟨⟨by rw [List.length_set]; exact hl, fun i hi => ?_, fun v h => ?_, fun j hj i hi => ?_, fun hm => ?_⟩, ?_, fun k hk => absurd hk (Nat.not_lt_zero k)⟩
 ·rw [getD_setL (y := [])]; split
  ·rw [ovR_len]; exact g.row c hc
  exact g.row i hi
 ·refine g.ker v fun i hi => ?_
  by_cases e : i = c
  ·subst e
   have h1 := h i hc
   have h2 : dotV (M.set i (ovR (M.getD i []) p)) i v m = (1 / p) * dotV M i v m := by
    unfold dotV; rw [← su_mul]
    refine su_congr fun j hj => ?_
    rw [hat i j hj, if_pos rfl]; rw [Rat.div_def, Rat.div_def]; grind
   rw [h2] at h1
   rcases Rat.mul_eq_zero.1 h1 with h3 | h3
   ·exfalso
    have : (1 / p) * p = 1 := by rw [Rat.div_def, Rat.one_mul, Rat.inv_mul_cancel _ h0]
    rw [h3, Rat.zero_mul] at this
    exact absurd this yv
   exact h3
  rw [← h i hi]
  exact dotV_congr fun j hj => by rw [hat i j hj, if_neg e]
 ·rw [hat i j xq]
  split
  ·rename_i e
   subst e
   rw [g.unit j hj i hi, if_neg xq, Rat.div_def, Rat.zero_mul]
  exact g.unit j hj i hi
 ·have h1 := det_scale (M := ent M) (a := 1 / p) hc
  have h2 : det n (ent (M.set c (ovR (M.getD c []) p))) = det n (up (ent M) c fun j => 1 / p * ent M c j) := det_congr fun r s hr hs => by
   rw [hat r s xq]; unfold up
   split
   ·rw [Rat.div_def, Rat.div_def]; grind
   rfl
  rw [h2, h1, g.dt hm]
  have : p * (1 / p) = 1 := by rw [Rat.div_def, Rat.one_mul, Rat.mul_inv_cancel _ h0]
  grind
 rw [hat c c hm, if_pos rfl, hp, Rat.div_def, Rat.mul_inv_cancel _ h0]
theorem GE.skip (g : GE n m A M c d i) (h : i = c ∨ ent M i c = 0) : GE n m A M c d (i + 1) :=
 ⟨g.toGI, g.piv, fun k hk hn hc => by
  rcases Nat.lt_or_ge k i with h1 | h1
  ·exact g.done k h1 hn hc
  have e : k = i := by omega
  subst e
  rcases h with h2 | h2
  ·exact absurd h2 hc
  exact h2⟩
theorem GE.step (g : GE n m A M c d i) (hc : c < n) (hm : c < m) (hi : i < n) (hic : i ≠ c) (hq : ent M i c = q) : GE n m A (M.set i (rowA (M.getD i []) (M.getD c []) (-q))) c d (i + 1) := by
 have hl := g.len
 have hat : ∀ k j, j < m → ent (M.set i (rowA (M.getD i []) (M.getD c []) (-q))) k j = if k = i then ent M i j + (-q) * ent M c j else ent M k j := fun k j hj => by
  rw [ent_set]
  by_cases e : k = i
  ·subst e; rw [if_pos ⟨rfl, by omega⟩, if_pos rfl, rowA_at (by rw [g.row k hi]; exact hj)]; rfl
  rw [if_neg (fun h => e h.1.symm), if_neg e]
 refine ⟨⟨by rw [List.length_set]; exact hl, fun k hk => ?_, fun v h => ?_, fun j hj k hk => ?_, fun hm => ?_⟩, ?_, fun k hk hn hkc => ?_⟩
 ·rw [getD_setL (y := [])]; split
  ·rw [rowA_len]; exact g.row i hi
  exact g.row k hk
 ·refine g.ker v fun k hk => ?_
  have hcc : dotV M c v m = 0 := by
   rw [← h c hc]
   exact dotV_congr fun j hj => by rw [hat c j hj, if_neg (Ne.symm hic)]
  by_cases e : k = i
  ·subst e
   have h1 := h k hk
   have h2 : dotV (M.set k (rowA (M.getD k []) (M.getD c []) (-q))) k v m = dotV M k v m + (-q) * dotV M c v m := by
    unfold dotV; rw [← su_mul, ← su_add]
    refine su_congr fun j hj => ?_
    rw [hat k j hj, if_pos rfl]; grind
   rw [h2, hcc] at h1
   grind
  rw [← h k hk]
  exact dotV_congr fun j hj => by rw [hat k j hj, if_neg e]
 ·rw [hat k j xq]
  split
  ·rename_i e
   subst e
   rw [g.unit j hj k hk, g.unit j hj c hc, if_neg (show ¬ c = j by omega)]; grind
  exact g.unit j hj k hk
 ·rw [g.dt hm]
  congr 1
  rw [← det_shear (M := ent M) (a := -q) hi hc hic]
  exact det_congr fun r s hr hs => by
   rw [hat r s xq]; unfold up; split <;> rfl
 ·rw [hat c c hm, if_neg (Ne.symm hic)]; exact g.piv
 rw [hat k c hm]
 split
 ·rw [hq, g.piv]; grind
 rename_i e
 exact g.done k xq hn hkc
theorem GE.next (g : GE n m A M c d n) (hc : c < n) : GI n m A M (c + 1) d :=
 ⟨g.len, g.row, g.ker, fun j hj i hi => by
  rcases Nat.lt_or_ge j c with h1 | h1
  ·exact g.unit j h1 i hi
  have e : j = c := by omega
  subst e
  by_cases e2 : i = j
  ·subst e2; rw [if_pos rfl]; exact g.piv
  rw [if_neg e2]; exact g.done i hi hi e2, g.dt⟩
theorem su_at : ∀ {n : Nat} {f : Nat → Rat}, k < n → (∀ j, j < n → j ≠ k → f j = 0) → su f n = f k := by
 intro n
 induction n with
 | zero => intro f h; omega
 | succ n ih =>
  intro f hk h
  show su f n + f n = _
  by_cases e : k = n
  ·subst e
   rw [su_0 fun j hj => h j xq xq]; grind
  rw [ih xq (fun j hj hjk => h j xq hjk), h n xq (Ne.symm e)]; grind
theorem su_cut {f : Nat → Rat} (h : n ≤ m) (h0 : ∀ j, n ≤ j → f j = 0) : su f m = su f n := by
 obtain ⟨k, rfl⟩ : ∃ k, m = n + k := ⟨m - n, by omega⟩
 rw [su_split, su_0 fun j _ => h0 (n + j) xq]; grind
theorem GI.pivot (g : GI n m A M c d) (hc : c < n) (hnm : n ≤ m) (hI : Inj n A) (h : ∀ i, c ≤ i → i < n → ent M i c = 0) : False := by
 obtain ⟨v, hv⟩ : ∃ v : Nat → Rat, ∀ j, v j = if j = c then 1 else if j < c then -(ent M j c) else 0 := ⟨_, fun j => rfl⟩
 have hz : ∀ j, n ≤ j → v j = 0 := fun j hj => by rw [hv, if_neg xq, if_neg xq]
 have hk : ∀ X i, dotV X i v m = dotV X i v n := fun X i => su_cut hnm fun j hj => by rw [hz j hj]; grind
 have key : Ker n m M v := fun i hi => by
  rw [hk M i]
  unfold dotV
  rcases Nat.lt_or_ge i c with h2 | h2
  ·have e : ∀ j, j < n → ent M i j * v j = (if j = c then ent M i c else 0) + (if j = i then -(ent M i c) else 0) := fun j hj => by
    rw [hv]
    by_cases e1 : j = c
    ·subst e1; rw [if_pos rfl, if_pos rfl, if_neg xq]; grind
    rw [if_neg e1, if_neg e1]
    by_cases e2 : j < c
    ·rw [if_pos e2, g.unit j e2 i hi]
     by_cases e3 : i = j
     ·subst e3; rw [if_pos rfl, if_pos rfl]; grind
     rw [if_neg e3, if_neg (Ne.symm e3)]; grind
    rw [if_neg e2, if_neg xq]; grind
   rw [su_congr e, su_add, su_at (k := c) hc (fun j _ hj => if_neg hj), su_at (k := i) hi (fun j _ hj => if_neg hj), if_pos rfl, if_pos rfl]; grind
  refine su_0 fun j hj => ?_
  rw [hv]
  by_cases e1 : j = c
  ·subst e1; rw [h i h2 hi]; grind
  rw [if_neg e1]
  by_cases e2 : j < c
  ·rw [if_pos e2, g.unit j e2 i hi, if_neg xq]; grind
  rw [if_neg e2]; grind
 have h1 := hI v (fun i hi => by rw [← hk A i]; exact g.ker v key i hi) c hc
 rw [hv, if_pos rfl] at h1; exact absurd h1 yv
def kz : Nat → Nat → Nat
 | 0, K => K
 | c + 1, K => 4 * kz c K + 6
theorem kz_s {K : Nat} : kz (c + 1) K = 4 * kz c K + 6 := rfl
theorem kz_mono {K : Nat} (h : c ≤ n) : kz c K ≤ kz n K := by
 induction n with
 | zero => rw [show c = 0 by omega]; exact Nat.le_refl _
 | succ n ih =>
  rcases Nat.lt_or_ge n c with h1 | h1
  ·rw [show c = n + 1 by omega]; exact Nat.le_refl _
  have := ih h1; rw [kz_s]; omega
def kfS (c j k1 k0 : Nat) : Nat → Nat → Nat := fun a b => if a = c ∧ b < j then k1 else k0
def kfE (c i j k1 k2 k0 : Nat) : Nat → Nat → Nat := fun a b => if a = c then k2 else if a < i ∨ (a = i ∧ b < j) then k1 else k0
section
variable {x y : Nat}
theorem kfS_old : kfS c j (2 * k + 2) k c j ≤ k := by unfold kfS; rw [if_neg xq]; exact Nat.le_refl _
theorem kfS_el : 2 * k + 2 ≤ kfS c (j + 1) (2 * k + 2) k c j := by unfold kfS; rw [if_pos xq]; exact Nat.le_refl _
theorem kfS_mono : ∀ x y, (x ≠ c ∨ y ≠ j) → kfS c j (2 * k + 2) k x y ≤ kfS c (j + 1) (2 * k + 2) k x y := fun x y h => by unfold kfS; split <;> split <;> omega
theorem kfS_start : ∀ x y, k ≤ kfS c 0 (2 * k + 2) k x y := fun x y => by unfold kfS; split <;> omega
theorem kfS_E : ∀ x y, kfS c j (2 * k + 2) k x y ≤ kfE c 0 0 (4 * k + 6) (2 * k + 2) k x y := fun x y => by unfold kfS kfE; split <;> split <;> (try split) <;> omega
theorem kfE_c : kfE c i j (4 * k + 6) (2 * k + 2) k c y ≤ 2 * k + 2 := by unfold kfE; rw [if_pos rfl]; exact Nat.le_refl _
theorem kfE_o (h : i ≠ c) (h1 : j ≤ y) : kfE c i j (4 * k + 6) (2 * k + 2) k i y ≤ k := by unfold kfE; rw [if_neg h, if_neg xq]; exact Nat.le_refl _
def KfH (i c s k : Nat) : Prop := i ≠ c → s ≤ k
theorem kfE_two : ∃ s, kfE c i 0 (4 * k + 6) (2 * k + 2) k i y ≤ s ∧ s ≤ 2 * k + 2 ∧ KfH i c s k := by
 by_cases h : i = c
 ·exact ⟨2 * k + 2, by rw [h]; exact kfE_c, Nat.le_refl _, fun g => absurd h g⟩
 exact ⟨k, kfE_o h (Nat.zero_le _), by omega, fun _ => Nat.le_refl _⟩
theorem kfE_el (h : i ≠ c) : 4 * k + 6 ≤ kfE c i (j + 1) (4 * k + 6) (2 * k + 2) k i j := by unfold kfE; rw [if_neg h, if_pos xq]; exact Nat.le_refl _
theorem kfE_mono : ∀ x y, (x ≠ i ∨ y ≠ j) → kfE c i j (4 * k + 6) (2 * k + 2) k x y ≤ kfE c i (j + 1) (4 * k + 6) (2 * k + 2) k x y := fun x y h => by unfold kfE; split <;> (try split) <;> (try split) <;> omega
theorem kfE_next : ∀ x y, kfE c i j (4 * k + 6) (2 * k + 2) k x y ≤ kfE c (i + 1) 0 (4 * k + 6) (2 * k + 2) k x y := fun x y => by unfold kfE; split <;> (try split) <;> (try split) <;> omega
theorem kfE_top : kfE c i j (4 * k + 6) (2 * k + 2) k x y ≤ 4 * k + 6 := by unfold kfE; split <;> (try split) <;> omega
end
theorem swL_t (hk : k < M.length) (hc : c < M.length) (h : c ≠ k) : (swL M k c []).getD c [] = M.getD k [] := by
 rw [swL_at hk hc, if_neg h, if_pos rfl]
end
end Nt
end Go.Proofs.YtgmkhhfbckjaeaaGreat
