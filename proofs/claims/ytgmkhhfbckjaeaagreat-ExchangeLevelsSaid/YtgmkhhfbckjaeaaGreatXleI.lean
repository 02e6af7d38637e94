/- Parts of the proof: contracts of functions, each walked once, and plain laws. -/
import Derived.Test.YtgmkhhfbckjaeaaGreatXleH
set_option linter.unusedVariables false
set_option maxHeartbeats 8000000
namespace Go.Proofs.YtgmkhhfbckjaeaaGreat
open Nt
open Go.RowKit
def Nt.sgJ (i : Nat) : Int := if i % 2 = 0 then 1 else -1
theorem Nt.sgJ_q (i : Nat) : ((Nt.sgJ i : Int) : Rat) = Nt.sg1 i := by unfold Nt.sgJ Nt.sg1; split <;> rfl
theorem Nt.trim_nwL {x c : Nat → Rat} {n j : Nat} (h : 1 ≤ j) : Nt.trimQ (Nt.nwL x c n j) = Nt.nwL x c n j := by
 match j, h with
 | j + 1, _ => exact Nt.trim_trim _
theorem Nt.tmod2 (i : Nat) : Int.tmod (i : Int) 2 = ((i % 2 : Nat) : Int) := (Int.ofNat_tmod i 2).symm
theorem Nt.mul_len9 {l m : List Rat} (h : l.length ≤ 11) (k : m.length ≤ 2) : (Nt.trimQ (Nt.mulQ l m)).length ≤ 13 := Nat.le_trans (zxt h k) yv
theorem k_levelled {u w : World} {z : Sl} {l : List Nat} {n : Nat} {x : Sl} {N : Nat} {V : List Rat} (d : Dat u w) (hg : GrN u x N V 1) (ho : Nt.GrOK V N) (hz : SlR .i64 u z.a z.n z.c (Nt.inl l)) (hR : Nt.Rf N l n) (hn1 : 1 ≤ n) : qyc 61 #[x.v, z.v] w (Post u w fun v u' => ∃ (y : Sl) (r : RL), v = .tuple #[y.v, r.v] ∧ PolN u' y (Nt.pL V l) 60000 ∧ RatN u' r (Nt.eL V l) 2700) := by
 have hxn : x.n = N := hg.len
 have hN12 := ho.n12
 have hN1 := ho.n1
 have hl := hR.len
 have hzn : z.n = n + 1 := by have h9 := hz.1; rw [Nt.inl_len] at h9; omega
 have hn11 := hR.n11 hN12
 refine zzm (args := [x.v, z.v]) Tryz.func61 rfl Tryz.ntmps61 (rs := [.tmp 4, .cell 5 32]) Tryz.results61 (le_b rfl) (le_b rfl) d ?_
 refine sq9 (zza 4 (.v (qyn)) (zzk 5 ⟨32, zw3⟩ (zzb (sq9 (zza 20 (.v (z.v)) (zza 21 (zI z.n) (zza 6 (zI z.n) (zzb (zzd (zzz [0, 1, 0, 4, 3, 31] [(0, []), (1, []), (2, []), (3, []), (4, []), (5, [])] xj xj (zza 22 (zI z.n) ?_)))))))))))
 refine sy_make 23 (T := 26) (E := 32) (z := .agg #[.bool false, qyn, qyn]) (size := 3) (bytes := 56) z.n (rcs (List.replicate z.n rl0)) xj xj rfl rfl xq yk (made_rcs _) ?_
 refine zza 24 (zI z.n) (sy_make 25 (T := 26) (E := 32) (z := .agg #[.bool false, qyn, qyn]) (size := 3) (bytes := 56) z.n (rcs (List.replicate z.n rl0)) xj xj rfl rfl xq yk (made_rcs _) ?_)
 refine zza 7 (.slc 23 0 z.n z.n) (zza 8 (.slc 25 0 z.n z.n) (zzc 177 [(0, .v (x.v)), (1, .v (z.v)), (5, .adr 5 0), (6, zI z.n), (7, .slc 23 0 z.n z.n), (8, .slc 25 0 z.n z.n)] [(5, ⟨32, zw3⟩), (23, ⟨32, rcs (List.replicate z.n rl0)⟩), (25, ⟨32, rcs (List.replicate z.n rl0)⟩)] (zzd (sq9 (zza 26 (.v (z.v)) (zza 27 (zI z.n) (zza 28 (zI 0) (zzb (zzt (zyn (I := fun cn S' u' => ∃ (i : Nat) (L1 : List RL) (L2 : List RL), (cn = n + 1 - i) ∧ (i ≤ n + 1) ∧ (L1.length = z.n) ∧ (L2.length = z.n) ∧ (S' = St.of 177 [(0, .v (x.v)), (1, .v (z.v)), (5, .adr 5 0), (6, zI z.n), (7, .slc 23 0 z.n z.n), (8, .slc 25 0 z.n z.n), (26, .v (z.v)), (27, zI z.n), (28, zI i)] [(5, ⟨32, zw3⟩), (23, ⟨32, rcs L1⟩), (25, ⟨32, rcs L2⟩)]) ∧ (Ext u u') ∧ (RatG u' L1 (Nt.dT (Nt.xs V l) (Nt.ys V l) 0) (fun _ => 3) i) ∧ (RatG u' L2 (Nt.dT (Nt.xs V l) (Nt.sgw V l) 0) (fun _ => 3) i)) (fun m S u1 u2 e h => by obtain ⟨i, L1, L2, hm, p0, p1, p2, hS, hE, f0, f1⟩ := h; exact ⟨i, L1, L2, hm, p0, p1, p2, hS, hE.trans e, f0.ext e, f1.ext e⟩) _ yz ⟨0, List.replicate z.n rl0, List.replicate z.n rl0, rfl, by omega, zv, zv, rfl, (Ext.refl _), RatG.nil, RatG.nil⟩ ?_))))))))))
 rintro cn _ cP ⟨i, L1, L2, cW, hi, dC, dG, rfl, ac, g1, g2⟩
 refine sq9 (zza 29 (zB (decide ((i : Int) < (z.n : Int)))) (zzb (zzd (zzu (b := decide ((i : Int) < (z.n : Int))) xj (fun aF => ?_) (fun aF => ?_)))))
 ·have qhb12 := qyt aF
  refine zzs (zzp ?_)
  refine zzd (zzt (sq9 (zza 30 (zI i) ?_)))
  have bV : (Nt.inl l).length = z.n := ((hz.ext ac)).1
  rw [Nt.inl_len] at bV
  obtain ⟨b13, cF, bC, bf⟩ := ints_at (hz.ext ac) (i := i) (by have h9 : i < l.length := xq; omega)
  rw [Nt.inl_at] at bf
  refine zya 31 (cF + i * 1) (n := z.n) (off := cF) (sz := 1) (i := (i : Int)) xq bC xq (by first | omega | (have h9 : i < l.length := xq; omega)) sl22 (zyl 32 (.int .i64 (((l.getD i 0) : Nat) : Int)) bf ty3 (zza 9 (zI i) (zza 10 (zI (((l.getD i 0) : Nat) : Int)) (zzb (sq9 (zza 33 (.slc 23 0 z.n z.n) (zza 34 (zI i) (zza 35 (.v (x.v)) (zza 36 (zI (((l.getD i 0) : Nat) : Int)) ?_)))))))))
  have dj : x.n = N := GrN.len (hg.ext ac)
  obtain ⟨dF, ak, dq, dS, bR, bG, cd, a2, ch, cz, bn, cv⟩ := gr_at (hg.ext ac) (i := (l.getD i 0)) (hR.lt _ xq)
  refine zya 37 (bR + (l.getD i 0) * 9) (n := x.n) (off := bR) (sz := 9) (i := (((l.getD i 0) : Nat) : Int)) xq bG xq (by first | omega | (have h9 : (l.getD i 0) < N := (hR.lt _ xq); omega)) sl23 (zza 38 (.v (.pointer (some ⟨dS, bR + (l.getD i 0) * 9 + 3, none⟩))) (zym 39 (ak.cs) a2 ty32 (zyw 40 (off' := i * 3) (n := z.n) (off := 0) (sz := 3) (i := (i : Int)) sl26 xq xq xq ?_)))
  refine zyv (V := ⟨32, rcs L1⟩) (off := i * 3) (rcs ((L1).set i ak)) ty32 (by rw [zyy]; omega) (zyx (r := ak) (i := i) xq rfl) ?_
  refine zzc 177 [(0, .v (x.v)), (1, .v (z.v)), (5, .adr 5 0), (6, zI z.n), (7, .slc 23 0 z.n z.n), (8, .slc 25 0 z.n z.n), (9, zI i), (10, zI (((l.getD i 0) : Nat) : Int)), (26, .v (z.v)), (27, zI z.n), (28, zI i)] [(5, ⟨32, zw3⟩), (23, ⟨32, rcs ((L1).set i ak)⟩), (25, ⟨32, rcs L2⟩)] (zzz [0, 0, 0, 4, 12, 28, 60, 0, 0, 384, 896, 1920, 4092, 8188, 16380, 16380, 32767, 98303] [(0, []), (1, []), (2, []), (3, []), (4, []), (5, []), (7, []), (8, []), (9, []), (10, []), (11, []), (6, []), (12, []), (13, []), (14, []), (15, []), (16, []), (17, [])] xj xj (zza 42 (.slc 25 0 z.n z.n) (zza 43 (zI i) (zza 44 (zI i) (zyq 45 (x := zI (Int.tmod (i : Int) 2)) (zI (i % 2 : Nat)) (by rw [Nt.tmod2]) (zyq 46 (x := zI (IntKind.i64.wrap ((2 : Int) * (((i % 2) : Nat) : Int)))) (zI ((2 * (i % 2) : Nat) : Int)) (eqI xk) (zyq 47 (x := zI (IntKind.i64.wrap (1 - ((2 * (i % 2) : Nat) : Int)))) (zI (Nt.sgJ i)) (eqI (by rw [IntWalk.i64_in _ xq]; unfold Nt.sgJ; split <;> omega)) ?_)))))))
  have hsg : -1 ≤ Nt.sgJ i ∧ Nt.sgJ i ≤ 1 := by unfold Nt.sgJ; split <;> omega
  refine zza 49 (.v (x.v)) (zza 50 (zI (((l.getD i 0) : Nat) : Int)) ?_)
  have dA : x.n = N := GrN.len (hg.ext ac)
  obtain ⟨dw, dB, bX, cO, bP, bK, cq, ci, bq, cA, cp, bt⟩ := gr_at (hg.ext ac) (i := (l.getD i 0)) (hR.lt _ xq)
  refine zya 51 (bP + (l.getD i 0) * 9) (n := x.n) (off := bP) (sz := 9) (i := (((l.getD i 0) : Nat) : Int)) xq bK xq (by first | omega | (have h9 : (l.getD i 0) < N := (hR.lt _ xq); omega)) sl23 (zza 52 (.v (.pointer (some ⟨cO, bP + (l.getD i 0) * 9 + 6, none⟩))) (zym 53 (bX.cs) bq ty32 (zzg 48 109 _ fun _ _ ba dt => qym (k_ratOf dt (z := Nt.sgJ i) xq xq) ?_)))
  rintro _ u19 a4 ⟨r17, rfl, dc⟩
  refine zzg 54 138 _ fun _ _ aW dN => qym (k_ratDiv1 dN (dc.ext aW).raw (bt.ext (ba.t (a4.t aW))).raw (ho.wne (hR.lt _ xq)) xq xq) ?_
  rintro _ u25 bw ⟨bg, rfl, dp⟩
  refine zza 41 (.v (.tuple #[bg.v, .int .i64 0])) (zza 55 (.v (bg.v)) (zza 56 (zI 0) (zyw 57 (off' := i * 3) (n := z.n) (off := 0) (sz := 3) (i := (i : Int)) sl26 xq xq xq ?_)))
  refine zyv (V := ⟨32, rcs L2⟩) (off := i * 3) (rcs ((L2).set i bg)) ty32 (by rw [zyy]; omega) (zyx (r := bg) (i := i) xq rfl) ?_
  refine zzx ?_
  refine zzp (zzf (zyq 58 (x := zI (IntKind.i64.wrap ((i : Int) + 1))) (zI (i + 1 : Nat)) (eqI xk) (zza 28 (zI (i + 1 : Nat)) (zzx ?_))))
  refine ⟨_, ?_, _, by exact zzv _ _ _, i + 1, (L1).set i ak, (L2).set i bg, rfl, by omega, yw, yw, rfl, (ac.t (ba.t (a4.t (aW.t bw.ext)))), (RatG.set (g1.ext (ba.t (a4.t (aW.t bw.ext)))) xq (bn.ext (ba.t (a4.t (aW.t bw.ext)))) (fun j hj => by by_cases e : j = i; (exact .inl ⟨e, by subst e; exact Nt.dT_0, by omega⟩); exact .inr ⟨e, by omega, rfl, Nat.le_refl _⟩)), (RatG.set (g2.ext (ba.t (a4.t (aW.t bw.ext)))) xq dp (fun j hj => by by_cases e : j = i; (exact .inl ⟨e, by subst e; rw [Nt.dT_0, Nt.sgJ_q]; rfl, by omega⟩); exact .inr ⟨e, by omega, rfl, Nat.le_refl _⟩))⟩
  omega
 have qhb12 := qyf aF
 refine zyc (zzp (zzd (sq9 (zza 11 (zI 1) (zzb (zzt (zyn (I := fun cw S' u' => ∃ (o : Nat) (M1 : List RL) (M2 : List RL), (cw = n - o) ∧ (o ≤ n) ∧ (M1.length = z.n) ∧ (M2.length = z.n) ∧ (S' = St.of 177 [(0, .v (x.v)), (1, .v (z.v)), (5, .adr 5 0), (6, zI z.n), (7, .slc 23 0 z.n z.n), (8, .slc 25 0 z.n z.n), (11, zI (((o + 1) : Nat) : Int))] [(5, ⟨32, zw3⟩), (23, ⟨32, rcs M1⟩), (25, ⟨32, rcs M2⟩)]) ∧ (Ext cP u') ∧ (RatG u' M1 (Nt.dT (Nt.xs V l) (Nt.ys V l) o) (fun _ => Nt.sZ o) (n + 1)) ∧ (RatG u' M2 (Nt.dT (Nt.xs V l) (Nt.sgw V l) o) (fun _ => Nt.sZ o) (n + 1))) (fun m S u1 u2 e h => by obtain ⟨o, M1, M2, hm, p0, p1, p2, hS, hE, f0, f1⟩ := h; exact ⟨o, M1, M2, hm, p0, p1, p2, hS, hE.trans e, f0.ext e, f1.ext e⟩) _ yz ⟨0, L1, L2, rfl, by omega, dC, dG, rfl, (Ext.refl _), (by have h9 := g1; rw [show i = n + 1 by omega] at h9; exact h9), (by have h9 := g2; rw [show i = n + 1 by omega] at h9; exact h9)⟩ ?_)))))))
 rintro cw _ be ⟨o, M1, M2, c1, ho9, dU, cZ, rfl, ag, f1, f2⟩
 have hsz := Nt.sZ_bd (o := o) xq
 refine zzd (sq9 (zza 59 (zI (((o + 1) : Nat) : Int)) (zza 60 (zI z.n) (zza 61 (zB (decide ((((o + 1) : Nat) : Int) < (z.n : Int)))) (zzb (zzu (b := decide ((((o + 1) : Nat) : Int) < (z.n : Int))) xj (fun aG => ?_) (fun aG => ?_)))))))
 ·have qhb29 := qyt aG
  refine zzs (zzp ?_)
  refine zzd (zzt (sq9 (zza 64 (zI z.n) (zyq 65 (x := zI (IntKind.i64.wrap ((z.n : Int) - 1))) (zI ((n : Int))) (eqI (by rw [IntWalk.i64_in _ xq] <;> omega)) (zza 12 (zI ((n : Int))) (zzb (zzt (zyn (I := fun cH S' u' => ∃ (i : Nat) (A1 : List RL) (A2 : List RL), (cH = i - o) ∧ (o ≤ i) ∧ (i ≤ n) ∧ (A1.length = z.n) ∧ (A2.length = z.n) ∧ (S' = St.of 177 [(0, .v (x.v)), (1, .v (z.v)), (5, .adr 5 0), (6, zI z.n), (7, .slc 23 0 z.n z.n), (8, .slc 25 0 z.n z.n), (11, zI (((o + 1) : Nat) : Int)), (12, zI i)] [(5, ⟨32, zw3⟩), (23, ⟨32, rcs A1⟩), (25, ⟨32, rcs A2⟩)]) ∧ (Ext be u') ∧ (RatG u' A1 (Nt.fM (Nt.xs V l) (Nt.ys V l) o i) (Nt.kM o i) (n + 1)) ∧ (RatG u' A2 (Nt.fM (Nt.xs V l) (Nt.sgw V l) o i) (Nt.kM o i) (n + 1))) (fun m S u1 u2 e h => by obtain ⟨i, A1, A2, hm, p0, p1, p2, p3, hS, hE, f0, f1⟩ := h; exact ⟨i, A1, A2, hm, p0, p1, p2, p3, hS, hE.trans e, f0.ext e, f1.ext e⟩) _ yz ⟨n, M1, M2, rfl, by omega, by omega, dU, cZ, rfl, (Ext.refl _), (RatG.turn f1 (fun j hj => ⟨if_neg xq, Nat.le_of_eq (if_neg xq).symm⟩)), (RatG.turn f2 (fun j hj => ⟨if_neg xq, Nat.le_of_eq (if_neg xq).symm⟩))⟩ ?_))))))))
  rintro cH _ u30 ⟨i, A1, A2, dO, hi0, hi1, de, dJ, rfl, an, e1, e2⟩
  refine zzd (sq9 (zza 66 (zI i) (zza 67 (zI (((o + 1) : Nat) : Int)) (zza 68 (zB (decide ((((o + 1) : Nat) : Int) ≤ (i : Int)))) (zzb (zzu (b := decide ((((o + 1) : Nat) : Int) ≤ (i : Int))) xj (fun aP => ?_) (fun aP => ?_)))))))
  ·have qhb31 := qyt aP
   refine zzs (zzp ?_)
   refine zzd (zzt (zzd (zzz [0, 0, 0, 6, 14, 31, 63, 127, 0, 0, 0, 0, 3072, 7680, 15872, 32512, 65280, 130816, 262143, 0, 1048575] [(0, []), (1, []), (2, []), (3, []), (4, []), (5, []), (6, []), (7, []), (8, []), (9, []), (10, []), (11, []), (12, []), (13, []), (14, []), (15, []), (16, []), (17, []), (19, []), (18, []), (20, [])] xj xj (zza 71 (.v (x.v)) (zza 72 (.v (z.v)) (zza 73 (zI i) ?_))))))
   have b3 : (Nt.inl l).length = z.n := ((hz.ext (ac.trans (ag.trans an)))).1
   rw [Nt.inl_len] at b3
   obtain ⟨b32, cg, bW, bm⟩ := ints_at (hz.ext (ac.trans (ag.trans an))) (i := i) (by have h9 : i < l.length := xq; omega)
   rw [Nt.inl_at] at bm
   refine zya 74 (cg + i * 1) (n := z.n) (off := cg) (sz := 1) (i := (i : Int)) xq bW xq (by first | omega | (have h9 : i < l.length := xq; omega)) sl22 (zyl 75 (.int .i64 (((l.getD i 0) : Nat) : Int)) bm ty3 ?_)
   have dE : x.n = N := GrN.len (hg.ext (ac.trans (ag.trans an)))
   obtain ⟨bI, dm, dy, cS, bU, bE, bk, cl, cr, br, ct, cB⟩ := gr_at (hg.ext (ac.trans (ag.trans an))) (i := (l.getD i 0)) (hR.lt _ xq)
   refine zya 76 (bU + (l.getD i 0) * 9) (n := x.n) (off := bU) (sz := 9) (i := (((l.getD i 0) : Nat) : Int)) xq bE xq (by first | omega | (have h9 : (l.getD i 0) < N := (hR.lt _ xq); omega)) sl23 (zza 77 (.v (.pointer (some ⟨cS, bU + (l.getD i 0) * 9, none⟩))) (zym 78 (bI.cs) bk ty32 (zza 79 (.v (x.v)) (zza 80 (.v (z.v)) (zza 81 (zI i) (zza 82 (zI (((o + 1) : Nat) : Int)) (zyq 83 (x := zI (IntKind.i64.wrap ((i : Int) - (((o + 1) : Nat) : Int)))) (zI ((i - (o + 1) : Nat) : Int)) (eqI xk) ?_)))))))
   have b6 : (Nt.inl l).length = z.n := ((hz.ext (ac.trans (ag.trans an)))).1
   rw [Nt.inl_len] at b6
   obtain ⟨b34, cK, bY, a9⟩ := ints_at (hz.ext (ac.trans (ag.trans an))) (i := i - (o + 1)) (by have h9 : i - (o + 1) < l.length := xq; omega)
   rw [Nt.inl_at] at a9
   refine zya 84 (cK + (i - (o + 1)) * 1) (n := z.n) (off := cK) (sz := 1) (i := ((i - (o + 1) : Nat) : Int)) xq bY xq (by first | omega | (have h9 : i - (o + 1) < l.length := xq; omega)) sl22 (zyl 85 (.int .i64 (((l.getD (i - (o + 1)) 0) : Nat) : Int)) a9 ty3 ?_)
   have dK : x.n = N := GrN.len (hg.ext (ac.trans (ag.trans an)))
   obtain ⟨bJ, dM, cR, dL, b0, bH, bv, cf, cE, bs, cc, cx⟩ := gr_at (hg.ext (ac.trans (ag.trans an))) (i := (l.getD (i - (o + 1)) 0)) (hR.lt _ xq)
   refine zya 86 (b0 + (l.getD (i - (o + 1)) 0) * 9) (n := x.n) (off := b0) (sz := 9) (i := (((l.getD (i - (o + 1)) 0) : Nat) : Int)) xq bH xq (by first | omega | (have h9 : (l.getD (i - (o + 1)) 0) < N := (hR.lt _ xq); omega)) sl23 (zza 87 (.v (.pointer (some ⟨dL, b0 + (l.getD (i - (o + 1)) 0) * 9, none⟩))) (zym 88 (bJ.cs) bv ty32 (zzk 13 ⟨32, zw3⟩ (zzg 89 139 _ fun _ _ ar di => qym (k_ratSub di (br.ext ar).raw (bs.ext ar).raw xq xq) ?_))))
   rintro _ u39 aQ ⟨bh, rfl, cC⟩
   refine zzj ⟨32, bh.cs⟩ ty32 ?_
   refine zzc 177 [(0, .v (x.v)), (1, .v (z.v)), (5, .adr 5 0), (6, zI z.n), (7, .slc 23 0 z.n z.n), (8, .slc 25 0 z.n z.n), (11, zI (((o + 1) : Nat) : Int)), (12, zI i), (13, .adr 13 0)] [(5, ⟨32, zw3⟩), (13, ⟨32, bh.cs⟩), (23, ⟨32, rcs A1⟩), (25, ⟨32, rcs A2⟩)] (zzd (zzz [0, 0, 0, 0, 12, 28, 0, 0, 128, 448, 960, 2044, 0, 8188, 16380, 32764, 32764, 65535, 196607] [(0, []), (1, []), (2, []), (3, []), (4, []), (5, []), (6, []), (7, []), (8, []), (9, []), (10, []), (12, []), (11, []), (13, []), (14, []), (15, []), (16, []), (17, []), (18, [])] xj xj (zza 91 (.slc 23 0 z.n z.n) (zza 92 (zI i) (zza 93 (.slc 23 0 z.n z.n) (zza 94 (zI i) (zyw 95 (off' := i * 3) (n := z.n) (off := 0) (sz := 3) (i := (i : Int)) sl26 xq xq xq ?_)))))))
   obtain ⟨dP, az⟩ : ∃ r : RL, (A1).getD i rl0 = r := ⟨_, rfl⟩
   refine zzi 96 (V := ⟨32, rcs A1⟩) (off := i * 3) (.v dP.v) ty32 (by have h9 := part_rcs (L := A1) (i := i) (off := i * 3) xq rfl; rw [az] at h9; exact h9) ?_
   have h43 := (e1.ext (ar.t aQ.ext)) i xq
   rw [show Nt.fM (Nt.xs V l) (Nt.ys V l) o i i = Nt.dT (Nt.xs V l) (Nt.ys V l) o i from if_neg xq, show Nt.kM o i i = Nt.sZ o from if_neg xq, az] at h43
   refine zza 97 (.slc 23 0 z.n z.n) (zza 98 (zI i) (zyq 99 (x := zI (IntKind.i64.wrap ((i : Int) - 1))) (zI (i - 1 : Nat)) (eqI xk) (zyw 100 (off' := (i - 1) * 3) (n := z.n) (off := 0) (sz := 3) (i := ((i - 1 : Nat) : Int)) sl26 xq xq xq ?_)))
   obtain ⟨c2, aE⟩ : ∃ r : RL, (A1).getD (i - 1) rl0 = r := ⟨_, rfl⟩
   refine zzi 101 (V := ⟨32, rcs A1⟩) (off := (i - 1) * 3) (.v c2.v) ty32 (by have h9 := part_rcs (L := A1) (i := i - 1) (off := (i - 1) * 3) xq rfl; rw [aE] at h9; exact h9) ?_
   have h45 := (e1.ext (ar.t aQ.ext)) (i - 1) xq
   rw [show Nt.fM (Nt.xs V l) (Nt.ys V l) o i (i - 1) = Nt.dT (Nt.xs V l) (Nt.ys V l) o (i - 1) from if_neg xq, show Nt.kM o i (i - 1) = Nt.sZ o from if_neg xq, aE] at h45
   refine zzi 103 (.v (bh.v)) ty32 zze (zzg 102 139 _ fun _ _ au cU => qym (k_ratSub cU (h43.ext au).raw (h45.ext au).raw xq xq) ?_)
   rintro _ u49 aN ⟨r47, rfl, dv⟩
   refine zzg 104 138 _ fun _ _ aD dI => qym (k_ratDiv1 dI (dv.ext aD).raw (cC.ext (au.t (aN.t aD))).raw (ho.gap hR xq xq) xq xq) ?_
   rintro _ u55 aV ⟨aU, rfl, cX⟩
   refine zza 90 (.v (.tuple #[aU.v, .int .i64 0])) (zza 105 (.v (aU.v)) (zza 106 (zI 0) (zyw 107 (off' := i * 3) (n := z.n) (off := 0) (sz := 3) (i := (i : Int)) sl26 xq xq xq ?_)))
   refine zyv (V := ⟨32, rcs A1⟩) (off := i * 3) (rcs ((A1).set i aU)) ty32 (by rw [zyy]; omega) (zyx (r := aU) (i := i) xq rfl) ?_
   refine zzc 177 [(0, .v (x.v)), (1, .v (z.v)), (5, .adr 5 0), (6, zI z.n), (7, .slc 23 0 z.n z.n), (8, .slc 25 0 z.n z.n), (11, zI (((o + 1) : Nat) : Int)), (12, zI i), (13, .adr 13 0)] [(5, ⟨32, zw3⟩), (13, ⟨32, bh.cs⟩), (23, ⟨32, rcs ((A1).set i aU)⟩), (25, ⟨32, rcs A2⟩)] (zzz [0, 0, 0, 0, 12, 28, 0, 0, 128, 448, 960, 2044, 0, 8188, 16380, 32764, 32764, 65535, 196607] [(0, []), (1, []), (2, []), (3, []), (4, []), (5, []), (6, []), (7, []), (8, []), (9, []), (10, []), (12, []), (11, []), (13, []), (14, []), (15, []), (16, []), (17, []), (18, [])] xj xj (zza 109 (.slc 25 0 z.n z.n) (zza 110 (zI i) (zza 111 (.slc 25 0 z.n z.n) (zza 112 (zI i) (zyw 113 (off' := i * 3) (n := z.n) (off := 0) (sz := 3) (i := (i : Int)) sl26 xq xq xq ?_))))))
   obtain ⟨c8, aC⟩ : ∃ r : RL, (A2).getD i rl0 = r := ⟨_, rfl⟩
   refine zzi 114 (V := ⟨32, rcs A2⟩) (off := i * 3) (.v c8.v) ty32 (by have h9 := part_rcs (L := A2) (i := i) (off := i * 3) xq rfl; rw [aC] at h9; exact h9) ?_
   have h59 := (e2.ext (ar.t (aQ.t (au.t (aN.t (aD.t aV.ext)))))) i xq
   rw [show Nt.fM (Nt.xs V l) (Nt.sgw V l) o i i = Nt.dT (Nt.xs V l) (Nt.sgw V l) o i from if_neg xq, show Nt.kM o i i = Nt.sZ o from if_neg xq, aC] at h59
   refine zza 115 (.slc 25 0 z.n z.n) (zza 116 (zI i) (zyq 117 (x := zI (IntKind.i64.wrap ((i : Int) - 1))) (zI (i - 1 : Nat)) (eqI xk) (zyw 118 (off' := (i - 1) * 3) (n := z.n) (off := 0) (sz := 3) (i := ((i - 1 : Nat) : Int)) sl26 xq xq xq ?_)))
   obtain ⟨c7, aA⟩ : ∃ r : RL, (A2).getD (i - 1) rl0 = r := ⟨_, rfl⟩
   refine zzi 119 (V := ⟨32, rcs A2⟩) (off := (i - 1) * 3) (.v c7.v) ty32 (by have h9 := part_rcs (L := A2) (i := i - 1) (off := (i - 1) * 3) xq rfl; rw [aA] at h9; exact h9) ?_
   have h61 := (e2.ext (ar.t (aQ.t (au.t (aN.t (aD.t aV.ext)))))) (i - 1) xq
   rw [show Nt.fM (Nt.xs V l) (Nt.sgw V l) o i (i - 1) = Nt.dT (Nt.xs V l) (Nt.sgw V l) o (i - 1) from if_neg xq, show Nt.kM o i (i - 1) = Nt.sZ o from if_neg xq, aA] at h61
   refine zzi 121 (.v (bh.v)) ty32 zze (zzg 120 139 _ fun _ _ aL du => qym (k_ratSub du (h59.ext aL).raw (h61.ext aL).raw xq xq) ?_)
   rintro _ u65 bp ⟨r63, rfl, db⟩
   refine zzg 122 138 _ fun _ _ aX cT => qym (k_ratDiv1 cT (db.ext aX).raw (cC.ext (au.t (aN.t (aD.t (aV.t (aL.t (bp.t aX))))))).raw (ho.gap hR xq xq) xq xq) ?_
   rintro _ u71 bx ⟨bo, rfl, dR⟩
   refine zza 108 (.v (.tuple #[bo.v, .int .i64 0])) (zza 123 (.v (bo.v)) (zza 124 (zI 0) (zyw 125 (off' := i * 3) (n := z.n) (off := 0) (sz := 3) (i := (i : Int)) sl26 xq xq xq ?_)))
   refine zyv (V := ⟨32, rcs A2⟩) (off := i * 3) (rcs ((A2).set i bo)) ty32 (by rw [zyy]; omega) (zyx (r := bo) (i := i) xq rfl) ?_
   refine zzx ?_
   refine zzp (zzf (zza 69 (zI i) (zyq 70 (x := zI (IntKind.i64.wrap ((i : Int) - 1))) (zI (i - 1 : Nat)) (eqI xk) (zza 12 (zI (i - 1 : Nat)) (zzx ?_)))))
   refine ⟨_, ?_, _, by exact zzv _ _ _, i - 1, (A1).set i aU, (A2).set i bo, rfl, by omega, by omega, yw, yw, rfl, (an.t (ar.t (aQ.t (au.t (aN.t (aD.t (aV.t (aL.t (bp.t (aX.t bx.ext)))))))))), (RatG.set (e1.ext (ar.t (aQ.t (au.t (aN.t (aD.t (aV.t (aL.t (bp.t (aX.t bx.ext)))))))))) xq (cX.ext (aL.t (bp.t (aX.t bx.ext)))) (fun j hj => by by_cases e : j = i; (subst e; exact .inl ⟨rfl, (if_pos xq).trans (Nt.dT_s xq), by unfold Nt.kM; rw [if_pos xq]; show _ ≤ 2 * Nt.sZ o + 4; omega⟩); (exact .inr ⟨e, hj, by unfold Nt.fM; split <;> split <;> first | rfl | omega, by unfold Nt.kM; split <;> split <;> first | exact Nat.le_refl _ | omega⟩))), (RatG.set (e2.ext (ar.t (aQ.t (au.t (aN.t (aD.t (aV.t (aL.t (bp.t (aX.t bx.ext)))))))))) xq dR (fun j hj => by by_cases e : j = i; (subst e; exact .inl ⟨rfl, (if_pos xq).trans (Nt.dT_s xq), by unfold Nt.kM; rw [if_pos xq]; show _ ≤ 2 * Nt.sZ o + 4; omega⟩); (exact .inr ⟨e, hj, by unfold Nt.fM; split <;> split <;> first | rfl | omega, by unfold Nt.kM; split <;> split <;> first | exact Nat.le_refl _ | omega⟩)))⟩
   omega
  have qhb31 := qyf aP
  refine zyc (zzp (zzf (zza 62 (zI (((o + 1) : Nat) : Int)) (zyq 63 (x := zI (IntKind.i64.wrap ((((o + 1) : Nat) : Int) + 1))) (zI (((o + 1) + 1 : Nat) : Int)) (eqI xk) (zza 11 (zI (((o + 1) + 1 : Nat) : Int)) (zzx ?_))))))
  refine ⟨_, ?_, _, by exact zzv _ _ _, o + 1, A1, A2, rfl, by omega, de, dJ, rfl, (ag.trans an), (RatG.turn e1 (fun j hj => by by_cases e : o < j; (exact ⟨(if_pos e).symm.trans (by rw [show i = o by omega]; rfl), Nat.le_of_eq (by rw [show i = o by omega]; exact if_pos e)⟩); (exact ⟨(Nt.dT_keep xq).trans ((if_neg e).symm.trans (by rw [show i = o by omega]; rfl)), by rw [show i = o by omega]; show (if o < j then _ else _) ≤ _; rw [if_neg e]; exact Nt.sZ_le _ _ xq⟩))), (RatG.turn e2 (fun j hj => by by_cases e : o < j; (exact ⟨(if_pos e).symm.trans (by rw [show i = o by omega]; rfl), Nat.le_of_eq (by rw [show i = o by omega]; exact if_pos e)⟩); (exact ⟨(Nt.dT_keep xq).trans ((if_neg e).symm.trans (by rw [show i = o by omega]; rfl)), by rw [show i = o by omega]; show (if o < j then _ else _) ≤ _; rw [if_neg e]; exact Nt.sZ_le _ _ xq⟩)))⟩
  omega
 have qhb29 := qyf aG
 refine zyc (zzp (zzd ?_))
 have hon : o = n := by omega
 have G1 : RatG be M1 (Nt.dT (Nt.xs V l) (Nt.ys V l) n) (fun _ => Nt.sZ n) (n + 1) := by have h9 := f1; rw [hon] at h9; exact h9
 have G2 : RatG be M2 (Nt.dT (Nt.xs V l) (Nt.sgw V l) n) (fun _ => Nt.sZ n) (n + 1) := by have h9 := f2; rw [hon] at h9; exact h9
 have hsn := Nt.sZ_bd (o := n) xq
 refine zzz [0, 0, 2, 7, 15, 0, 0, 64, 224, 480, 1023, 2047, 4095, 4095, 0, 24575, 65535] [(0, []), (1, []), (2, []), (3, []), (4, []), (5, []), (6, []), (7, []), (8, []), (9, []), (14, []), (10, []), (11, []), (12, []), (13, []), (15, []), (16, [])] xj xj (zza 127 (.slc 23 0 z.n z.n) (zza 128 (zI z.n) (zyq 129 (x := zI (IntKind.i64.wrap ((z.n : Int) - 1))) (zI ((n : Int))) (eqI (by rw [IntWalk.i64_in _ xq] <;> omega)) (zyw 130 (off' := n * 3) (n := z.n) (off := 0) (sz := 3) (i := (n : Int)) sl26 xq xq xq ?_))))
 obtain ⟨dr, ax⟩ : ∃ r : RL, (M1).getD n rl0 = r := ⟨_, rfl⟩
 refine zzi 131 (V := ⟨32, rcs M1⟩) (off := n * 3) (.v dr.v) ty32 (by have h9 := part_rcs (L := M1) (i := n) (off := n * 3) xq rfl; rw [ax] at h9; exact h9) ?_
 have cI : RatN be _ (Nt.dT (Nt.xs V l) (Nt.ys V l) n n) (Nt.sZ n) := G1 n xq
 rw [ax] at cI
 refine zza 132 (.slc 25 0 z.n z.n) (zza 133 (zI z.n) (zyq 134 (x := zI (IntKind.i64.wrap ((z.n : Int) - 1))) (zI ((n : Int))) (eqI (by rw [IntWalk.i64_in _ xq] <;> omega)) (zyw 135 (off' := n * 3) (n := z.n) (off := 0) (sz := 3) (i := (n : Int)) sl26 xq xq xq ?_)))
 obtain ⟨ds, ay⟩ : ∃ r : RL, (M2).getD n rl0 = r := ⟨_, rfl⟩
 refine zzi 136 (V := ⟨32, rcs M2⟩) (off := n * 3) (.v ds.v) ty32 (by have h9 := part_rcs (L := M2) (i := n) (off := n * 3) xq rfl; rw [ay] at h9; exact h9) ?_
 have cD : RatN be _ (Nt.dT (Nt.xs V l) (Nt.sgw V l) n n) (Nt.sZ n) := G2 n xq
 rw [ay] at cD
 refine zzk 14 ⟨32, zw3⟩ (zzg 137 138 _ fun _ _ aB c0 => qym (k_ratDiv1 c0 (cI.ext aB).raw (cD.ext aB).raw (ho.lvne hR) xq xq) ?_)
 rintro _ ce aR ⟨ae, rfl, dk⟩
 refine zza 126 (.v (.tuple #[ae.v, .int .i64 0])) (zza 138 (.v (ae.v)) (zza 139 (zI 0) (zzj ⟨32, ae.cs⟩ ty32 ?_)))
 refine zza 15 (zI 0) (zzc 177 [(0, .v (x.v)), (1, .v (z.v)), (5, .adr 5 0), (6, zI z.n), (7, .slc 23 0 z.n z.n), (8, .slc 25 0 z.n z.n), (14, .adr 14 0)] [(5, ⟨32, zw3⟩), (14, ⟨32, ae.cs⟩), (23, ⟨32, rcs M1⟩), (25, ⟨32, rcs M2⟩)] (zzd ?_))
 have ck : RatN ce ae (Nt.eL V l) 2700 := by have h9 := dk; rw [Nt.lvl_e hR] at h9; exact RatN.fit h9 (Nt.eL_B ho hR)
 refine zzf (zza 16 (.v (qyn)) (zzb (zzd (sq9 (zza 140 (zI z.n) (zyq 141 (x := zI (IntKind.i64.wrap ((z.n : Int) - 2))) (zI ((n : Int) - 1)) (eqI (by rw [IntWalk.i64_in _ xq] <;> omega)) (zza 17 (zI ((n : Int) - 1)) (zzb (zzt (zyn (I := fun cG S' u' => ∃ (m : Nat) (yp : Sl), (cG = m) ∧ (m ≤ n) ∧ (S' = St.of 177 [(0, .v (x.v)), (1, .v (z.v)), (5, .adr 5 0), (7, .slc 23 0 z.n z.n), (8, .slc 25 0 z.n z.n), (14, .adr 14 0), (16, .v (yp.v)), (17, zI ((m : Int) - 1))] [(5, ⟨32, zw3⟩), (14, ⟨32, ae.cs⟩), (23, ⟨32, rcs M1⟩), (25, ⟨32, rcs M2⟩)]) ∧ (Ext ce u') ∧ (PolN u' yp (Nt.nwL (Nt.xs V l) (Nt.cL V l) n (n - m)) 60000)) (fun m S u1 u2 e h => by obtain ⟨m, yp, hm, p0, hS, hE, f0⟩ := h; exact ⟨m, yp, hm, p0, hS, hE.trans e, f0.ext e⟩) _ yz ⟨n, ⟨none, 0, 0⟩, rfl, Nat.le_refl _, rfl, (Ext.refl _), (by rw [Nat.sub_self]; exact pol_nil _ _)⟩ ?_))))))))))
 rintro cG _ u84 ⟨m, yp, da, hm, rfl, ap, hP⟩
 have hPl := hP.len
 have hnl : (Nt.nwL (Nt.xs V l) (Nt.cL V l) n (n - m)).length ≤ 11 := Nat.le_trans (Nt.nwL_len _) xq
 refine zzd (sq9 (zza 142 (zI ((m : Int) - 1)) (zza 143 (zB (decide ((0 : Int) ≤ ((m : Int) - 1)))) (zzb (zzu (b := decide ((0 : Int) ≤ ((m : Int) - 1))) xj (fun aO => ?_) (fun aO => ?_))))))
 ·have qhb85 := qyt aO
  refine zzs (zzp ?_)
  refine zzd (zzt (sq9 (zza 146 (.v (x.v)) (zza 147 (.v (z.v)) (zyq 148 (x := zI ((m : Int) - 1)) (zI (((m - 1 : Nat) : Int))) (eqI xq) ?_)))))
  have bM : (Nt.inl l).length = z.n := ((hz.ext (ac.t (ag.t (aB.t (aR.t ap)))))).1
  rw [Nt.inl_len] at bM
  obtain ⟨b86, cu, b7, a8⟩ := ints_at (hz.ext (ac.t (ag.t (aB.t (aR.t ap))))) (i := (m - 1)) (by have h9 : (m - 1) < l.length := xq; omega)
  rw [Nt.inl_at] at a8
  refine zya 149 (cu + (m - 1) * 1) (n := z.n) (off := cu) (sz := 1) (i := ((m - 1 : Nat) : Int)) xq b7 xq (by first | omega | (have h9 : (m - 1) < l.length := xq; omega)) sl22 (zyl 150 (.int .i64 (((l.getD (m - 1) 0) : Nat) : Int)) a8 ty3 ?_)
  have c3 : x.n = N := GrN.len (hg.ext (ac.t (ag.t (aB.t (aR.t ap)))))
  obtain ⟨bN, c6, cV, cY, b8, b2, a1, cN, cJ, bl, cy, cj⟩ := gr_at (hg.ext (ac.t (ag.t (aB.t (aR.t ap))))) (i := (l.getD (m - 1) 0)) (hR.lt _ xq)
  refine zya 151 (b8 + (l.getD (m - 1) 0) * 9) (n := x.n) (off := b8) (sz := 9) (i := (((l.getD (m - 1) 0) : Nat) : Int)) xq b2 xq (by first | omega | (have h9 : (l.getD (m - 1) 0) < N := (hR.lt _ xq); omega)) sl23 (zza 152 (.v (.pointer (some ⟨cY, b8 + (l.getD (m - 1) 0) * 9, none⟩))) (zym 153 (bN.cs) a1 ty32 (zzg 154 79 _ fun _ _ aS dn => qym (k_ratNeg dn (bl.ext aS).raw xq) ?_)))
  rintro _ u91 bb ⟨cm, rfl, dD⟩
  refine zzg 155 109 _ fun _ _ aT dQ => qym (k_ratOf dQ (z := 1) xq xq) ?_
  rintro _ u97 aY ⟨cM, rfl, dh⟩
  refine zxx 156 ⟨32, cm.cs ++ cM.cs⟩ 2 (fun aq aI ad bA => ?_)
  have bu : PolN aI (⟨some ⟨aq, 0, none⟩, 2, 2⟩ : Sl) [(-(Nt.gX V (l.getD (m - 1) 0))), ((1 : Int) : Rat)] (max 1 2) := pol_lit (L := [cm, cM]) bA (rats2 (RatN.more (L := (max 1 2)) (dD.ext (aT.t (aY.t ad))) xq) (RatN.more (L := (max 1 2)) (dh.ext ad) xq)) rfl yv
  refine zza 18 (.v (.slice (some ⟨aq, 0, none⟩) 2 2)) (zzb (zzd (zzz [0, 0, 3, 7, 0, 0, 0, 96, 224, 496, 1023, 0, 4095] [(0, []), (1, []), (2, []), (3, []), (4, []), (5, []), (6, []), (7, []), (8, []), (11, []), (9, []), (10, []), (12, [])] xj xj (zza 157 (.slc 23 0 z.n z.n) (zyq 158 (x := zI ((m : Int) - 1)) (zI (((m - 1 : Nat) : Int))) (eqI xq) (zyw 159 (off' := (m - 1) * 3) (n := z.n) (off := 0) (sz := 3) (i := ((m - 1 : Nat) : Int)) sl26 xq xq xq ?_))))))
  obtain ⟨bQ, am⟩ : ∃ r : RL, (M1).getD (m - 1) rl0 = r := ⟨_, rfl⟩
  refine zzi 160 (V := ⟨32, rcs M1⟩) (off := (m - 1) * 3) (.v bQ.v) ty32 (by have h9 := part_rcs (L := M1) (i := (m - 1)) (off := (m - 1) * 3) xq rfl; rw [am] at h9; exact h9) ?_
  have a0 : RatN aI _ (Nt.dT (Nt.xs V l) (Nt.ys V l) n (m - 1)) (Nt.sZ n) := (G1.ext (aB.t (aR.t (ap.t (aS.t (bb.t (aT.t (aY.t ad)))))))) (m - 1) xq
  rw [am] at a0
  refine zzi 161 (.v (ae.v)) ty32 zze (zza 162 (.slc 25 0 z.n z.n) (zyq 163 (x := zI ((m : Int) - 1)) (zI (((m - 1 : Nat) : Int))) (eqI xq) (zyw 164 (off' := (m - 1) * 3) (n := z.n) (off := 0) (sz := 3) (i := ((m - 1 : Nat) : Int)) sl26 xq xq xq ?_)))
  obtain ⟨b9, al⟩ : ∃ r : RL, (M2).getD (m - 1) rl0 = r := ⟨_, rfl⟩
  refine zzi 165 (V := ⟨32, rcs M2⟩) (off := (m - 1) * 3) (.v b9.v) ty32 (by have h9 := part_rcs (L := M2) (i := (m - 1)) (off := (m - 1) * 3) xq rfl; rw [al] at h9; exact h9) ?_
  have a6 : RatN aI _ (Nt.dT (Nt.xs V l) (Nt.sgw V l) n (m - 1)) (Nt.sZ n) := (G2.ext (aB.t (aR.t (ap.t (aS.t (bb.t (aT.t (aY.t ad)))))))) (m - 1) xq
  rw [al] at a6
  refine zzk 19 ⟨32, zw3⟩ (zzg 166 113 _ fun _ _ af bO => qym (k_ratMul bO (ck.ext (ap.t (aS.t (bb.t (aT.t (aY.t (ad.trans af))))))).raw (a6.ext af).raw xq xq) ?_)
  rintro _ c5 ao ⟨c4, rfl, b4⟩
  refine zzg 167 139 _ fun _ _ aj bB => qym (k_ratSub bB (a0.ext (af.t (ao.t aj))).raw (b4.ext aj).raw xq xq) ?_
  rintro _ c9 aH ⟨aa, rfl, bz⟩
  refine zzj ⟨32, aa.cs⟩ ty32 ?_
  refine zzc 177 [(0, .v (x.v)), (1, .v (z.v)), (5, .adr 5 0), (7, .slc 23 0 z.n z.n), (8, .slc 25 0 z.n z.n), (14, .adr 14 0), (16, .v (yp.v)), (17, zI ((m : Int) - 1)), (18, .v (.slice (some ⟨aq, 0, none⟩) 2 2)), (19, .adr 19 0)] [(5, ⟨32, zw3⟩), (14, ⟨32, ae.cs⟩), (19, ⟨32, aa.cs⟩), (23, ⟨32, rcs M1⟩), (25, ⟨32, rcs M2⟩)] (zzz [0, 0, 3, 0, 8, 31, 63] [(0, []), (1, []), (3, []), (4, []), (2, []), (5, [172]), (6, [])] xj xj (zza 168 (.v (yp.v)) (zza 169 (.v (.slice (some ⟨aq, 0, none⟩) 2 2)) (zzi 171 (.v (aa.v)) ty32 zze (sy_lit 172 ⟨32, aa.cs⟩ 1 ?_)))))
  refine zzg 170 130 _ fun _ _ av cb => qym (k_poMul cb (hP.ext (aS.t (bb.t (aT.t (aY.t (ad.t (af.t (ao.t (aj.t (aH.t av)))))))))).raw (bu.ext (af.t (ao.t (aj.t (aH.t av))))).raw (Nat.le_trans (Nt.mlK_mono (n' := 11) (m' := 2) (K' := 60000) (M' := 3) hnl (Nat.le_refl 2) qyl xq) (show Nt.mlK 11 2 60000 3 ≤ 30000000 by decide)) xq (show (2 + 1) * _ ≤ _ by omega) xq (show 2 ≤ _ by decide)) ?_
  rintro _ dx bd ⟨aw, rfl, h123⟩
  replace h123 := PolN.more h123 (Nat.le_trans (Nt.mlK_mono (n' := 11) (m' := 2) (K' := 60000) (M' := 3) hnl (Nat.le_refl 2) qyl xq) (show Nt.mlK 11 2 60000 3 ≤ 30000000 by decide))
  have hly122 := h123.len
  have hlly122 := Nt.mul_len9 hnl (show ([(-(Nt.gX V (l.getD (m - 1) 0))), ((1 : Int) : Rat)] : List Rat).length ≤ 2 from Nat.le_refl 2)
  refine zyo 173 115 [.v (aw.v), .slc 172 0 1 1] [172] (.inr rfl) (pub_mk xw) (k := ?_)
  intro aJ df bj aK bF bS
  have a3 : bj.heap[aJ 172]? = some (.cells #[.bool aa.s, .slice aa.m.a aa.m.n aa.m.c, .slice aa.d.a aa.d.n aa.d.c] 32 (0, 0)) := bS 172 zv _ rfl
  obtain ⟨bL, ah⟩ : ∃ b, aJ 172 = b := ⟨_, rfl⟩
  rw [ah] at a3
  have bi : PolN bj (⟨some ⟨bL, 0, none⟩, 1, 1⟩ : Sl) [((Nt.dT (Nt.xs V l) (Nt.ys V l) n (m - 1)) - ((Nt.eL V l) * (Nt.dT (Nt.xs V l) (Nt.sgw V l) n (m - 1))))] ((Nt.sZ n) + (2700 + (Nt.sZ n)) + 1) := pol_lit (L := [aa]) a3 (rats1 (bz.ext (av.t (bd.t aK)))) rfl yv
  show Calls _ _ #[.slice aw.a aw.n aw.c, .slice (some ⟨aJ 172, 0, none⟩) 1 1] _ _
  rw [ah]
  have k136 := k_poAdd bF (h123.ext aK).raw bi.raw xq xq xq (by first | (show 1 ≤ _; decide) | omega)
  with_reducible refine zPm k136 ?_
  rintro _ ca b5 ⟨aM, rfl, a7⟩
  have hly132 := a7.len
  refine zza 16 (.v (aM.v)) (zzx ?_)
  refine zzp (zzf (zza 144 (zI ((m : Int) - 1)) (zyq 145 (x := zI (IntKind.i64.wrap ((m : Int) - 1 - 1))) (zI (((m - 1 : Nat) : Int) - 1)) (eqI (by rw [IntWalk.i64_in _ xq] <;> omega)) (zza 17 (zI (((m - 1 : Nat) : Int) - 1)) (zzx ?_)))))
  have hcl : Nt.cL V l (m - 1) = Nt.dT (Nt.xs V l) (Nt.ys V l) n (m - 1) - Nt.eL V l * Nt.dT (Nt.xs V l) (Nt.sgw V l) n (m - 1) := by unfold Nt.cL; rw [hl, Nat.add_sub_cancel]
  have hPn : PolN ca aM (Nt.nwL (Nt.xs V l) (Nt.cL V l) n (n - (m - 1))) 60000 := PolN.fitR (K := (30000000 + ((Nt.sZ n) + (2700 + (Nt.sZ n)) + 1) + 1)) (by rw [show n - (m - 1) = (n - m) + 1 by omega]; show PolN _ _ (Nt.trimQ (Nt.addQ (Nt.trimQ (Nt.mulQ _ [-Nt.xs V l (n - (n - m + 1)), _])) [Nt.cL V l (n - (n - m + 1))])) _; rw [show n - (n - m + 1) = m - 1 by omega, hcl]; exact a7) (fun i => Nt.lvl_rs ho hR xq i)
  refine ⟨_, ?_, _, by exact zzv _ _ _, m - 1, aM, rfl, by omega, rfl, (ap.t (aS.t (bb.t (aT.t (aY.t (ad.t (af.t (ao.t (aj.t (aH.t (av.t (bd.t (aK.t b5.ext))))))))))))), hPn⟩
  omega
 have qhb85 := qyf aO
 refine zyc (zzp (zzd (zzz [0, 1, 0, 3, 15] [(0, []), (2, []), (1, []), (3, []), (4, [])] xj xj (zza 174 (.v (yp.v)) (zzi 176 (.v (ae.v)) ty32 zze (zzg 175 117 _ fun _ _ a5 bT => qym (k_poTrim bT (hP.ext a5).raw xq xz) ?_))))))
 rintro _ cQ b1 ⟨ai, rfl, bc⟩
 have hly138 := bc.len
 refine zza 4 (.v (ai.v)) (zzj ⟨32, ae.cs⟩ ty32 ?_)
 refine zzc 177 [(4, .v (ai.v)), (5, .adr 5 0)] [(5, ⟨32, ae.cs⟩)] (zzo (ret0 [ai.v, ae.v] ⟨zzq, zzr ty32 zze, trivial⟩ fun bD aZ => ?_))
 have dH : PolN bD ai (Nt.pL V l) 60000 := by have h9 := (bc.ext aZ); rw [show n - m = n by omega, Nt.trim_nwL hn1, ← Nt.lvl_pL hR] at h9; exact h9
 exact ⟨ai, ae, rfl, dH, (ck.ext (ap.t (a5.t (b1.t aZ))))⟩
namespace Nt
section
variable {V : List Rat} {N n a pl : Nat} {l : List Nat} {like : Bool}
def exF (V : List Rat) (l : List Nat) : Rat := ab (rE (gX V) (gW V) (gY V) l)
def exN (V : List Rat) (N n : Nat) (l : List Nat) : Nat := exM (exF V) N (n + 1) (exF V l)
theorem sgQ_1 {x : Rat} (h : 0 < x) : sgQ x = 1 := by unfold sgQ cmpQ; rw [if_neg (by grind), if_neg (by grind)]
theorem sgQ_m {x : Rat} (h : x < 0) : sgQ x = -1 := by unfold sgQ cmpQ; rw [if_pos h]
theorem sgQ_0 : sgQ 0 = 0 := by unfold sgQ cmpQ; rw [if_neg (by grind), if_pos rfl]
def fst1 (e : Rat) : Int := if sgQ e = 0 then 1 else sgQ e
theorem ab_eq (x : Rat) : absQ x = ab x := rfl
theorem exF_lt (hR : Rf N l n) {m : List Nat} (hm : Rf N m n) (h : exF V l < exF V m) : exN V N n m < exN V N n l := exM_lt hm.len hm.mem h
theorem exR_off (g : GrOK V N) (hR : Rf N l n) (h1 : 1 ≤ n) (hc : absQ (eL V l) < absQ (gE (gX V) (gW V) (gY V) (pL V l) a)) {i : Nat} (hi : i ≤ n) : l.getD i 0 ≠ a := fun e => by
 have := lvl_at g hR h1 hi
 rw [e] at this
 rw [this, ab_eq, ab_eq, ab_sg] at hc
 grind
theorem design_step (g : GrOK V N) (hR : Rf N l n) (h1 : 1 ≤ n) (ha : a < N) (hc : absQ (eL V l) < absQ (gE (gX V) (gW V) (gY V) (pL V l) a)) (hp1 : pl ≤ n + 1) (hp2 : ∀ i, i < pl → (inl l).getD i 0 < (a : Int)) (hp3 : pl < n + 1 → (a : Int) ≤ (inl l).getD pl 0) (hlk : like = (sgQ (gE (gX V) (gW V) (gY V) (pL V l) a) == fst1 (eL V l))) : Rf N (exL l a like pl) n ∧ exN V N n (exL l a like pl) < exN V N n l := by
 obtain ⟨E, hE⟩ : ∃ E, eL V l = E := ⟨_, rfl⟩
 obtain ⟨G, hG⟩ : ∃ G, gE (gX V) (gW V) (gY V) (pL V l) a = G := ⟨_, rfl⟩
 have hoff := fun i hi => exR_off (a := a) g hR h1 hc (i := i) hi
 have hq1 : ∀ i, i < pl → l.getD i 0 < a := fun i hi => by have := hp2 i hi; rw [inl_at] at this; omega
 have hq2 : ∀ i, pl ≤ i → i ≤ n → a < l.getD i 0 := fun i hi hn => by
  have h9 := hp3 xq
  rw [inl_at] at h9
  have h8 := hoff i hn
  by_cases e : i = pl
  ·rw [e] at h8 ⊢; omega
  have := hR.asc pl i xq hn
  omega
 have hRf := exL_Rf (like := like) hR ha hp1 hq1 hq2
 refine ⟨hRf, exF_lt hR hRf ?_⟩
 have he : ∀ i, i ≤ n → gE (gX V) (gW V) (gY V) (pL V l) (l.getD i 0) = sg1 i * E := fun i hi => by rw [lvl_at g hR h1 hi, hE]
 rw [hE, hG] at hc hlk
 have hrE : rE (gX V) (gW V) (gY V) l = E := hE
 unfold exF
 rw [hrE]
 have hG0 : G ≠ 0 := fun e => by
  rw [e] at hc
  have : absQ 0 = 0 := by decide +kernel
  rw [this] at hc
  have := ab_nn E
  rw [ab_eq] at hc; grind
 obtain ⟨τ, hτ⟩ : ∃ τ : Rat, (if E < 0 then (-1 : Rat) else 1) = τ := ⟨_, rfl⟩
 have hτ1 : τ = 1 ∨ τ = -1 := by rw [← hτ]; split <;> simp
 refine exL_grow (τ := τ) hR g.gr ha hp1 hq1 hq2 (lvl_len hR) he hτ1 ?_ (by rw [hG]; exact hc) ?_
 ·rw [← hτ]; unfold ab; split <;> grind
 rw [hG]
 have hf : fst1 E = if E < 0 then -1 else 1 := by
  unfold fst1
  by_cases c : E < 0
  ·rw [sgQ_m c, if_pos c]; rfl
  rw [if_neg c]
  by_cases c2 : E = 0
  ·rw [c2, sgQ_0]; rfl
  rw [sgQ_1 (by grind)]; rfl
 rw [hf] at hlk
 by_cases c : E < 0
 ·rw [if_pos c] at hlk hτ
  by_cases c2 : G < 0
  ·rw [sgQ_m c2] at hlk
   have : like = true := by rw [hlk]; rfl
   rw [this, if_pos rfl, ← hτ]; grind
  rw [sgQ_1 (by grind)] at hlk
  have : like = false := by rw [hlk]; rfl
  rw [this, if_neg yv, ← hτ]; grind
 rw [if_neg c] at hlk hτ
 by_cases c2 : G < 0
 ·rw [sgQ_m c2] at hlk
  have : like = false := by rw [hlk]; rfl
  rw [this, if_neg yv, ← hτ]; grind
 rw [sgQ_1 (by grind)] at hlk
 have : like = true := by rw [hlk]; rfl
 rw [this, if_pos rfl, ← hτ]; grind
theorem design_end (g : GrOK V N) (hR : Rf N l n) (h1 : 1 ≤ n) (hG : Gst (erL V (pL V l) N) N a) (hc : ¬ absQ (eL V l) < absQ (gE (gX V) (gW V) (gY V) (pL V l) a)) : Bst (gX V) (gW V) (gY V) N n (pL V l) l ∧ absQ (gE (gX V) (gW V) (gY V) (pL V l) a) = absQ (eL V l) := by
 have hmax : ∀ b, b < N → ab (gE (gX V) (gW V) (gY V) (pL V l) b) ≤ ab (rE (gX V) (gW V) (gY V) l) := fun b hb => by
  have h9 := hG.le b hb
  rw [erL_at hb, erL_at hG.lt] at h9
  have h8 : ab (gE (gX V) (gW V) (gY V) (pL V l) a) ≤ ab (rE (gX V) (gW V) (gY V) l) := by
   rw [ab_eq, ab_eq] at hc
   have : eL V l = rE (gX V) (gW V) (gY V) l := rfl
   rw [this] at hc; grind
  grind
 refine ⟨⟨hR, lvl_len hR, hmax⟩, ?_⟩
 have h8 := hG.le (l.getD 0 0) (hR.lt 0 xq)
 rw [erL_at (hR.lt 0 xq), erL_at hG.lt, lvl_at g hR h1 xq, ab_sg] at h8
 rw [ab_eq, ab_eq] at hc ⊢
 grind
end
end Nt
section
variable {P : Program} {w0 : Base} {u0 : World} {S T : St} {B : Tmp → Nat} {a : Act} {w u u' : World} {Q : MP} {c d A C R : Code}
theorem mpr_into {I : Nat → St → World → Prop} {Q : MP} {hI : ∀ m, Mono (I m)} (h : Q.f .ret S u) : (MP.into I Q hI).f .ret S u := h
theorem sw_scope2 {l : Nat} {I : Nat → St → World → Prop} (hI : ∀ m, Mono (I m)) (hf : findLabel (.seq A (.seq C (.seq (.label l) R))) l = some (.seq .skip R)) (hA : SW P w0 u0 A S u (MP.seq P w0 u0 C (MP.into I Q hI))) (h : ∀ n S u, I n S u → SW P w0 u0 R S u (MP.jump l I n Q hI)) : SW P w0 u0 (.scope (.seq A (.seq C (.seq (.label l) R)))) S u Q := by
 intro B a w u' e hr
 let J : Nat → Act → World → Prop := fun n a w => ∃ S B u'', Rep w0 u0 S B a w u'' ∧ I n S u''
 let μ : Act → World → Nat := fun a w => Classical.epsilon fun m => J m a w ∧ ∀ k, J k a w → m ≤ k
 have hμ : ∀ a w n, J n a w → J (μ a w) a w ∧ μ a w ≤ n := fun a w n hn => by
  have := Classical.epsilon_spec (p := fun m => J m a w ∧ ∀ k, J k a w → m ≤ k) (least n hn)
  exact ⟨this.1, this.2 n hn⟩
 refine wp_scope_jumps l (fun a w => ∃ n, J n a w) μ hf ?_ ?_
 ·refine wp_seq (wp_mono (hA B a w u' e hr) fun ex a' w' ⟨S', B', u'', k1, k3⟩ => ?_)
  cases ex with
  | normal =>
   refine wp_seq (wp_mono (k3 B' a' w' u'' (Ext.refl _) k1) fun ex a' w' ⟨S', B', u'', k1, k3⟩ => ?_)
   cases ex with
   | normal =>
    obtain ⟨m, T', t1, t2⟩ := k3
    refine wp_seq (wp_label ?_)
    refine wp_mono (h m T' u'' t2 B' a' w' u'' (Ext.refl _) (k1.weak t1)) fun ex a' w' ⟨S', B', u'', k1, k3⟩ => ?_
    cases ex with
    | goto l' =>
     obtain ⟨rfl, m, hm, T', t1, t2⟩ := k3
     exact ⟨rfl, m, T', B', u'', k1.weak t1, t2⟩
    | _ => exact ⟨S', B', u'', k1, k3⟩
   | goto l' => exact k3.elim
   | _ => exact ⟨S', B', u'', k1, k3⟩
  | goto l' => exact k3.elim
  | _ => exact ⟨S', B', u'', k1, k3⟩
 rintro a w ⟨n, hn⟩
 obtain ⟨S1, B1, u1, r1, i1⟩ := (hμ a w n hn).1
 refine wp_seq (wp_skip ?_)
 refine wp_mono (h _ S1 u1 i1 B1 a w u1 (Ext.refl _) r1) fun ex a' w' ⟨S', B', u'', k1, k3⟩ => ?_
 cases ex with
 | goto l' =>
  obtain ⟨rfl, m, hm, T', t1, t2⟩ := k3
  have hJ : J m a' w' := ⟨T', B', u'', k1.weak t1, t2⟩
  exact ⟨rfl, ⟨m, hJ⟩, Nat.lt_of_le_of_lt (hμ a' w' m hJ).2 hm⟩
 | _ => exact ⟨S', B', u'', k1, k3⟩
end
theorem Nt.inl_inj {l m : List Nat} (h : Nt.inl l = Nt.inl m) : l = m := by
 have := congrArg (List.map Int.toNat) h
 unfold Nt.inl at this
 rw [List.map_map, List.map_map] at this
 have e : (Int.toNat ∘ fun a : Nat => (a : Int)) = id := by funext a; simp
 rw [e, List.map_id, List.map_id] at this; exact this
theorem k_exLevel {u w : World} {x : Sl} {N : Nat} {V : List Rat} (d : Dat u w) (hg : GrN u x N V 1) (ho : Nt.GrOK V N) {z : Sl} {L : List Int} (hz : SlR .i64 u z.a z.n z.c L) (hb : ∀ x ∈ L, -9223372036854775808 ≤ x ∧ x ≤ 9223372036854775807) : qyc 25 #[x.v, z.v] w (Post u w fun v u' => (v = .tuple #[qyn, .agg #[.bool false, qyn, qyn], .int .i64 1] ∧ (L.length < 2 ∨ 52 < L.length ∨ ¬ Nt.Up (N : Int) L)) ∨ ∃ (l : List Nat) (n : Nat) (y : Sl) (r : RL), L = Nt.inl l ∧ Nt.Rf N l n ∧ 1 ≤ n ∧ v = .tuple #[y.v, r.v, .int .i64 0] ∧ PolN u' y (Nt.pL V l) 60000 ∧ RatN u' r (Nt.eL V l) 2700) := by
 have hxn : x.n = N := hg.len
 have hN12 := ho.n12
 have hN1 := ho.n1
 have hzn : L.length = z.n := hz.1
 have hzm : z.n ≤ maxLen := Nat.le_trans hz.2.1 hz.2.2.1
 unfold maxLen at hzm
 refine zzm (args := [x.v, z.v]) Tryz.func25 rfl Tryz.ntmps25 (rs := [.tmp 4, .cell 5 32, .tmp 6]) Tryz.results25 (le_b rfl) (le_b rfl) d ?_
 refine sq9 (zza 4 (.v (qyn)) (zzk 5 ⟨32, zw3⟩ (zza 6 (zI 0) (zzb (zzd (sq9 (zza 9 (.v (x.v)) (zzg 10 89 _ fun _ _ ah ap => qym (k_lsqValid ap (hg.ext ah) ho) ?_))))))))
 rintro _ u12 ak rfl
 refine zza 11 (zB false) (zzb (zys xj (zzs (zzp ?_))))
 refine zzd (sq9 (zza 13 (.v (z.v)) (zza 14 (zI z.n) (zza 15 (zB (decide ((z.n : Int) < 2))) ?_))))
 rcases Bool.eq_false_or_eq_true (decide ((z.n : Int) < 2)) with hs15 | hs15
 ·refine zyq 16 (x := zB (decide ((z.n : Int) < 2))) (zB true) (by rw [hs15]) ?_
  have qhs15 := qyt hs15
  refine zzn 17 (uw 3 false true 16) (zzn 18 (uw 3 false true 16) (zzn 19 (uw 3 false true 16) (zza 20 (zB true) (zza 21 (zB true) (zzn 22 (uw 8 false true 21) (zzn 23 (uw 8 false true 21) (zzn 24 (uw 8 false true 21) (zzn 25 (uw 8 false true 21) (zzn 26 (uw 8 false true 21) (zza 27 (zB true) (zzb ?_)))))))))))
  refine zyr xj (sq9 (zza 28 (.v (.agg #[.bool false, qyn, qyn])) (zza 4 (.v (qyn)) (zzj ⟨32, zw3⟩ ty32 ?_))))
  refine zza 6 (zI 1) (zzb (zzo (zzw (ret0 [qyn, .agg #[.bool false, qyn, qyn], .int .i64 1] ⟨zzq, zzr ty32 zze, zzq, trivial⟩ fun u16 e17 => ?_))))
  try have qhs15 := qyt hs15
  exact .inl ⟨rfl, by omega⟩
 refine zyq 16 (x := zB (decide ((z.n : Int) < 2))) (zB false) (by rw [hs15]) ?_
 have qhs15 := qyf hs15
 refine zza 17 (.v (z.v)) ?_ (hw := w1 3 false 16)
 refine zza 18 (zI z.n) ?_ (hw := w1 3 false 16)
 refine zza 19 (zB (decide ((52 : Int) < (z.n : Int)))) ?_ (hw := w1 3 false 16)
 refine zza 20 (zB (decide ((52 : Int) < (z.n : Int)))) ?_
 rcases Bool.eq_false_or_eq_true (decide ((52 : Int) < (z.n : Int))) with hs18 | hs18
 ·refine zyq 21 (x := zB (decide ((52 : Int) < (z.n : Int)))) (zB true) (by rw [hs18]) ?_
  have qhs18 := qyt hs18
  refine zzn 22 (uw 8 false true 21) (zzn 23 (uw 8 false true 21) (zzn 24 (uw 8 false true 21) (zzn 25 (uw 8 false true 21) (zzn 26 (uw 8 false true 21) (zza 27 (zB true) (zzb (zyr xj (sq9 (zza 28 (.v (.agg #[.bool false, qyn, qyn])) (zza 4 (.v (qyn)) (zzj ⟨32, zw3⟩ ty32 ?_)))))))))))
  refine zza 6 (zI 1) (zzb (zzo (zzw (ret0 [qyn, .agg #[.bool false, qyn, qyn], .int .i64 1] ⟨zzq, zzr ty32 zze, zzq, trivial⟩ fun u19 e20 => ?_))))
  try have qhs15 := qyf hs15
  try have qhs18 := qyt hs18
  exact .inl ⟨rfl, by omega⟩
 refine zyq 21 (x := zB (decide ((52 : Int) < (z.n : Int)))) (zB false) (by rw [hs18]) ?_
 have qhs18 := qyf hs18
 refine zza 22 (.v (z.v)) ?_ (hw := w1 8 false 21)
 refine zza 23 (.v (x.v)) ?_ (hw := w1 8 false 21)
 refine zza 24 (zI x.n) ?_ (hw := w1 8 false 21)
 refine zzg 25 77 _ (fun _ _ ai ar => qym (k_ascending (z := z) (N := (x.n : Int)) ar (hz.ext (ah.t (ak.t ai))) hb) ?_) (hw := w1 8 false 21)
 rintro _ u24 an ⟨ac, rfl, aa⟩
 refine zza 26 (zB (!ac)) ?_ (hw := w1 8 false 21)
 refine zza 27 (zB (!ac)) (zzb (zzu (b := !ac) xj (fun af => ?_) (fun af => ?_)))
 ·refine sq9 (zza 28 (.v (.agg #[.bool false, qyn, qyn])) (zza 4 (.v (qyn)) (zzj ⟨32, zw3⟩ ty32 ?_)))
  refine zza 6 (zI 1) (zzb (zzo (zzw (ret0 [qyn, .agg #[.bool false, qyn, qyn], .int .i64 1] ⟨zzq, zzr ty32 zze, zzq, trivial⟩ fun u28 e29 => ?_))))
  try have qhs15 := qyf hs15
  try have qhs18 := qyf hs18
  refine .inl ⟨rfl, .inr (.inr (fun hu => ?_))⟩
  have h9 : ac = false := by simpa using af
  have h8 := aa.2 (by rw [hxn]; exact hu)
  rw [h9] at h8; exact absurd h8 yv
 refine zzs (zzp ?_)
 refine zzd ?_
 have hU : Nt.Up (N : Int) L := by rw [hxn] at aa; exact aa.1 (by simpa using af)
 try have qhs15 := qyf hs15
 try have qhs18 := qyf hs18
 obtain ⟨l, hLl, hR⟩ := Nt.up_inl (n := L.length - 1) hU xq
 have hzl := hz
 rw [hLl] at hzl
 have ao : 1 ≤ L.length - 1 := by omega
 refine zzf (zza 30 (.v (x.v)) (zza 31 (.v (z.v)) (zzg 32 61 _ fun _ _ al aq => qym (k_levelled (z := z) (n := (L.length - 1)) aq (hg.ext (ah.t (ak.t (ai.t (an.t al))))) ho (hzl.ext (ah.t (ak.t (ai.t (an.t al))))) hR xq) ?_)))
 rintro _ u32 g33 ⟨ad, ae, rfl, ag, aj⟩
 have hly31 := ag.len
 have hlly31 := Nt.lvl_len (V := V) hR
 refine zza 29 (.v (.tuple #[ad.v, ae.v])) (zza 33 (.v (ad.v)) (zza 34 (.v (ae.v)) (zzk 8 ⟨32, zw3⟩ (zza 7 (.v (ad.v)) (zzj ⟨32, ae.cs⟩ ty32 ?_)))))
 refine zzb (zzd (zzz [0, 0, 1, 7, 15] [(0, []), (1, []), (2, []), (3, []), (4, [])] xj xj (zza 35 (.v (ad.v)) (zzi 36 (.v (ae.v)) ty32 zze (zza 4 (.v (ad.v)) (zzj ⟨32, ae.cs⟩ ty32 ?_))))))
 refine zza 6 (zI 0) (zzc 37 [(4, .v (ad.v)), (5, .adr 5 0), (6, zI 0)] [(5, ⟨32, ae.cs⟩)] (zzo (ret0 [ad.v, ae.v, .int .i64 0] ⟨zzq, zzr ty32 zze, zzq, trivial⟩ fun u35 am => ?_)))
 exact .inr ⟨l, L.length - 1, ad, ae, hLl, hR, ao, rfl, (ag.ext am), (aj.ext am)⟩
theorem k_exLevelR {u w : World} {z : Sl} {l : List Nat} {n : Nat} {x : Sl} {N : Nat} {V : List Rat} (d : Dat u w) (hg : GrN u x N V 1) (ho : Nt.GrOK V N) (hz : SlR .i64 u z.a z.n z.c (Nt.inl l)) (hR : Nt.Rf N l n) (hn1 : 1 ≤ n) : qyc 25 #[x.v, z.v] w (Post u w fun v u' => ∃ (y : Sl) (r : RL), v = .tuple #[y.v, r.v, .int .i64 0] ∧ PolN u' y (Nt.pL V l) 60000 ∧ RatN u' r (Nt.eL V l) 2700) := by
 have hn := hR.n11 ho.n12
 refine qym (k_exLevel d hg ho hz (Nt.inl_bd hR.mem (by have := ho.n12; omega))) ?_
 rintro v u' _ (⟨_, h⟩ | ⟨l', n', y, r, e, hR', _, rfl, hp, hq⟩)
 ·rw [Nt.inl_len, hR.len] at h
  rcases h with h | h | h
  ·omega
  ·omega
  exact absurd hR.up h
 have : l' = l := Nt.inl_inj e.symm
 subst this
 exact ⟨y, r, rfl, hp, hq⟩
theorem k_exDesign {u w : World} {D : Nat} {x : Sl} {N : Nat} {V : List Rat} (d : Dat u w) (hg : GrN u x N V 1) (ho : Nt.GrOK V N) (hD : D + 2 ≤ N) : qyc 13 #[x.v, .int .i64 (D : Int)] w (Post u w fun v u' => ∃ (y : Sl) (r : RL) (b : Nat) (l : List Nat), v = .tuple #[.agg #[.slice y.a y.n y.c, .bool r.s, .slice r.m.a r.m.n r.m.c, .slice r.d.a r.d.n r.d.c, .slice (some ⟨b, 0, none⟩) (D + 2) (D + 2)], .int .i64 0] ∧ PolN u' y (Nt.pL V l) 60000 ∧ RatN u' r (Nt.absQ (Nt.eL V l)) 1400000 ∧ SlR .i64 u' (some ⟨b, 0, none⟩) (D + 2) (D + 2) (Nt.inl l) ∧ Nt.Bst (Nt.gX V) (Nt.gW V) (Nt.gY V) N (D + 1) (Nt.pL V l) l) := by
 have hxn : x.n = N := hg.len
 have hN12 := ho.n12
 have hN1 := ho.n1
 have hwr : Nt.wrE N (D : Int) = 0 := by unfold Nt.wrE; rw [if_neg xq, if_neg xq]
 refine zzm (args := [x.v, .int .i64 D]) Tryz.func13 rfl Tryz.ntmps13 (rs := [.cell 4 34, .tmp 5]) Tryz.results13 (le_b rfl) (le_b rfl) d ?_
 refine sq9 (zzk 4 ⟨34, [qyn, .bool false, qyn, qyn, qyn]⟩ (zza 5 (zI 0) (zzb (sw_scope2 (I := fun a7 S' u' => ∃ (b : Nat) (l : List Nat), (a7 = Nt.exN V N (D + 1) l) ∧ (Nt.Rf N l (D + 1)) ∧ (S' = St.of 64 [(0, .v (x.v)), (4, .adr 4 0), (7, .v (.slice (some ⟨b, 0, none⟩) (D + 2) (D + 2)))] [(4, ⟨34, [qyn, .bool false, qyn, qyn, qyn]⟩)]) ∧ (Ext u u') ∧ (MutQ 1 3 u.heap.size u' (⟨some ⟨b, 0, none⟩, D + 2, D + 2⟩ : Sl) (ics (Nt.inl l)))) (fun m S u1 u2 e h => by obtain ⟨b, l, hm, p0, hS, hE, f0⟩ := h; exact ⟨b, l, hm, p0, hS, hE.trans e, f0.ext e⟩) xj ?_ ?_))))
 ·skip
  refine sq9 (zza 14 (.v (x.v)) (zza 15 (zI D) (zzg 16 59 _ fun _ _ aQ bi => qym (k_exWrong (D := (D : Int)) bi (hg.ext aQ) ho) ?_)))
  rintro _ u13 a6 rfl
  refine zza 6 (zI (Nt.wrE N (D : Int))) (zzb (sq9 (zza 17 (zI (Nt.wrE N (D : Int))) (zza 18 (zB ((Nt.wrE N (D : Int)) != 0)) (zzb (zzu (b := (Nt.wrE N (D : Int)) != 0) xj (fun hb => ?_) (fun hb => ?_)))))))
  ·exact absurd hb (by rw [show ((Nt.wrE N (D : Int)) != 0) = false from (by rw [hwr]; rfl)]; decide)
  clear hb
  refine zzs (zzp ?_)
  refine zzf (zza 21 (.v (x.v)) (zza 22 (zI x.n) (zza 23 (zI D) (zyq 24 (x := zI (IntKind.i64.wrap ((D : Int) + 2))) (zI (D + 2 : Nat)) (eqI xk) (zzg 25 60 _ fun _ _ a8 br => qym (k_spread (N := x.n) (k := D + 2) br xq xq xq) ?_)))))
  rintro _ u18 bs ⟨aW, bp, rfl, aO, aY, aC⟩
  refine zza 7 (.v (.slice (some ⟨aW, 0, none⟩) (D + 2) (D + 2))) (zzx ?_)
  exact mpi_into (T := St.of 64 [(0, .v (.slice x.a x.n x.c)), (4, .adr 4 0), (7, .v (.slice (some ⟨aW, 0, none⟩) (D + 2) (D + 2)))] [(4, ⟨34, [qyn, .bool false, qyn, qyn, qyn]⟩)]) yz ⟨aW, bp, rfl, (by have h9 := aC; rw [hxn] at h9; exact h9), rfl, (aQ.t (a6.t (a8.t bs.ext))), (MutQ.lit aY (by rw [zwi, Nt.inl_len, Nt.Rf.len aC]; omega) yk (Nat.le_trans (Ext.size (aQ.t (a6.t a8))) aO) nu_ics)⟩
 rintro a7 _ u11 ⟨b, l, bg, hR, rfl, ax, hm⟩
 have hlk : l.length = D + 2 := by have h9 := hR.len; omega
 have hpl9 := Nt.lvl_len (V := V) hR
 refine sq9 (zza 27 (.v (x.v)) (zza 28 (.v (.slice (some ⟨b, 0, none⟩) (D + 2) (D + 2))) (zzg 29 61 _ fun _ _ am bl => qym (k_levelled (z := (⟨some ⟨b, 0, none⟩, D + 2, D + 2⟩ : Sl)) (n := (D + 1)) bl (hg.ext (ax.trans am)) ho (MutQ.slr (hm.ext am)) hR xq) ?_)))
 rintro _ u23 ar ⟨an, aG, rfl, aw, az⟩
 have hly22 := aw.len
 have hlly22 := Nt.lvl_len (V := V) hR
 refine zza 26 (.v (.tuple #[an.v, aG.v])) (zza 30 (.v (an.v)) (zza 31 (.v (aG.v)) (zzk 9 ⟨32, zw3⟩ (zza 8 (.v (an.v)) (zzj ⟨32, aG.cs⟩ ty32 ?_)))))
 refine zzb (sq9 (zza 32 (.v (x.v)) (zza 33 (.v (an.v)) (zzg 34 62 _ fun _ _ aj bo => qym (k_errorsOf (M := 1400000) bo (hg.ext (ax.t (am.t (ar.t aj)))) ho (aw.ext aj).raw xq xq yv) ?_))))
 rintro _ u29 ap ⟨av, rfl, al⟩
 refine zza 10 (.v (av.v)) (zzb (sq9 (zza 36 (.v (av.v)) (zzg 37 63 _ fun _ _ ae bm => qym (k_greatest (n := N) bm (al.ext ae) Nt.erL_len xq xq xq) ?_))))
 rintro _ u34 ag ⟨aJ, aa, rfl, aE, aA⟩
 have hgl33 := Nt.Gst.lt aA
 refine zza 35 (.v (.tuple #[aJ.v, .int .i64 aa])) (zza 38 (.v (aJ.v)) (zza 39 (zI aa) (zzk 11 ⟨32, zw3⟩ (zzj ⟨32, aJ.cs⟩ ty32 ?_))))
 refine zza 12 (zI aa) (zzb (zzd (zzd (zzz [0, 0, 2, 7, 15] [(0, []), (1, []), (2, []), (3, []), (4, [])] xj xj (zzi 40 (.v (aJ.v)) ty32 zze (zzi 41 (.v (aG.v)) ty32 zze (zzg 42 65 _ fun _ _ ac bz => qym (k_ratAbs bz (az.ext (aj.t (ap.t (ae.t (ag.t ac))))).raw xq) ?_)))))))
 rintro _ u40 af ⟨r38, rfl, bj⟩
 refine zzg 43 64 _ fun _ _ ad bu => qym (k_exCompare bu (aE.ext (ac.t (af.t ad))) (RatN.toP (bj.ext ad)) xq xq) ?_
 rintro _ u44 ah rfl
 refine zza 44 (zB (decide ((0 : Int) < (Nt.cmpQ (Nt.absQ ((Nt.erL V (Nt.pL V l) N).getD aa 0)) (Nt.absQ (Nt.eL V l)))))) (zzb (zzu (b := decide ((0 : Int) < (Nt.cmpQ (Nt.absQ ((Nt.erL V (Nt.pL V l) N).getD aa 0)) (Nt.absQ (Nt.eL V l))))) xj (fun ai => ?_) (fun ai => ?_)))
 ·have qhb47 := qyt ai
  refine sq9 (zzi 45 (.v (aG.v)) ty32 zze (zzg 46 66 _ fun _ _ ak bA => qym (k_ratSign bA (az.ext (aj.t (ap.t (ae.t (ag.t (ac.t (af.t (ad.t (ah.t ak))))))))).raw) ?_))
  rintro _ u49 ao rfl
  refine zza 13 (zI (Nt.sgQ (Nt.eL V l))) (zzc 64 [(0, .v (x.v)), (4, .adr 4 0), (7, .v (.slice (some ⟨b, 0, none⟩) (D + 2) (D + 2))), (10, .v (av.v)), (12, zI aa), (13, zI (Nt.sgQ (Nt.eL V l)))] [(4, ⟨34, [qyn, .bool false, qyn, qyn, qyn]⟩)] (zzd (sq9 (zza 47 (zI (Nt.sgQ (Nt.eL V l))) (zza 48 (zB ((Nt.sgQ (Nt.eL V l)) == 0)) (zzb (zzu (b := (Nt.sgQ (Nt.eL V l)) == 0) xj (fun au => ?_) (fun au => ?_))))))))
  ·refine zzf (zza 13 (zI 1) (zzb (sq9 (zza 49 (.v (.slice (some ⟨b, 0, none⟩) (D + 2) (D + 2))) (zza 50 (zI aa) (zza 51 (.v (av.v)) (zza 52 (zI aa) ?_)))))))
   have hl53 := PolP.len (al.ext (ae.t (ag.t (ac.t (af.t (ad.t (ah.t (ak.t ao.ext))))))))
   rw [Nt.erL_len] at hl53
   obtain ⟨bq, b53, bd, a5, aV, aI⟩ := polp_at (al.ext (ae.t (ag.t (ac.t (af.t (ad.t (ah.t (ak.t ao.ext)))))))) (i := aa) (by rw [Nt.erL_len]; omega)
   rw [Nt.erL_at xq] at aI
   refine zya 53 (bd + aa * 3) (n := av.n) (off := bd) (sz := 3) (i := (aa : Int)) xq a5 xq xq sl26 (zym 54 bq.cs aV ty32 (zzg 55 66 _ fun _ _ aN bv => qym (k_ratSign bv ((RatP.raw aI).ext aN)) ?_))
   rintro _ u55 a0 rfl
   refine zza 56 (zI 1) (zza 57 (zB ((Nt.sgQ (Nt.gE (Nt.gX V) (Nt.gW V) (Nt.gY V) (Nt.pL V l) aa)) == 1)) ?_)
   have hA58 := (hm).ext (am.t (ar.t (aj.t (ap.t (ae.t (ag.t (ac.t (af.t (ad.t (ah.t (ak.t (ao.t (aN.t a0.ext)))))))))))))
   refine zwk (mqB (⟨some ⟨b, 0, none⟩, (D + 2), (D + 2)⟩ : Sl) []) 58 67 [.slice (some ⟨b, 0, none⟩) (D + 2) (D + 2), .int .i64 aa, .bool ((Nt.sgQ (Nt.gE (Nt.gX V) (Nt.gW V) (Nt.gY V) (Nt.pL V l) aa)) == 1)] (MutQ.mayF hA58 (Ext.size (Ext.refl _))) (fun w58 u58 bb bx => k_exchange (v0 := u) (like := (Nt.sgQ (Nt.gE (Nt.gX V) (Nt.gW V) (Nt.gY V) (Nt.pL V l) aa)) == 1) bx (Ext.t (ax.t (am.t (ar.t (aj.t (ap.t (ae.t (ag.t (ac.t (af.t (ad.t (ah.t (ak.t (ao.t (aN.t a0.ext)))))))))))))) bb) (hA58.ext bb) hlk xq xq xq) (fun v58 bC a4 aU => ?_)
   obtain ⟨rfl, aK, bf, ay, aH, aZ⟩ := aU
   have eR58 := ExtF.rootL a4 hA58 (ax.t (am.t (ar.t (aj.t (ap.t (ae.t (ag.t (ac.t (af.t (ad.t (ah.t (ak.t (ao.t (aN.t a0.ext))))))))))))))
   refine zzb ?_
   have hcc := Nt.cmpg_y _ _ ai
   rw [Nt.erL_at xq] at hcc
   have hds := Nt.design_step (a := aa) (pl := aK) (like := (Nt.sgQ (Nt.gE (Nt.gX V) (Nt.gW V) (Nt.gY V) (Nt.pL V l) aa)) == 1) ho hR xq xq hcc xq ay (fun h9 => aH xq) (by unfold Nt.fst1; rw [if_pos (by simpa using au)])
   have hds2 := hds.2
   refine sw_goto (mpg_seq (mpg_jump (m := _) (T := St.of 64 [(0, .v (x.v)), (4, .adr 4 0), (7, .v (.slice (some ⟨b, 0, none⟩) (D + 2) (D + 2)))] [(4, ⟨34, [qyn, .bool false, qyn, qyn, qyn]⟩)]) ?_ yz ⟨b, (Nt.exL l aa ((Nt.sgQ (Nt.gE (Nt.gX V) (Nt.gW V) (Nt.gY V) (Nt.pL V l) aa)) == 1) aK), rfl, hds.1, rfl, eR58, aZ⟩))
   omega
  refine zzs (zzp ?_)
  refine sq9 (zza 49 (.v (.slice (some ⟨b, 0, none⟩) (D + 2) (D + 2))) (zza 50 (zI aa) (zza 51 (.v (av.v)) (zza 52 (zI aa) ?_))))
  have hl59 := PolP.len (al.ext (ae.t (ag.t (ac.t (af.t (ad.t (ah.t (ak.t ao.ext))))))))
  rw [Nt.erL_len] at hl59
  obtain ⟨bt, b59, ba, aR, a3, aD⟩ := polp_at (al.ext (ae.t (ag.t (ac.t (af.t (ad.t (ah.t (ak.t ao.ext)))))))) (i := aa) (by rw [Nt.erL_len]; omega)
  rw [Nt.erL_at xq] at aD
  refine zya 53 (ba + aa * 3) (n := av.n) (off := ba) (sz := 3) (i := (aa : Int)) xq aR xq xq sl26 (zym 54 bt.cs a3 ty32 (zzg 55 66 _ fun _ _ aM bw => qym (k_ratSign bw ((RatP.raw aD).ext aM)) ?_))
  rintro _ u61 aT rfl
  refine zza 56 (zI (Nt.sgQ (Nt.eL V l))) (zza 57 (zB ((Nt.sgQ (Nt.gE (Nt.gX V) (Nt.gW V) (Nt.gY V) (Nt.pL V l) aa)) == (Nt.sgQ (Nt.eL V l)))) ?_)
  have hA64 := (hm).ext (am.t (ar.t (aj.t (ap.t (ae.t (ag.t (ac.t (af.t (ad.t (ah.t (ak.t (ao.t (aM.t aT.ext)))))))))))))
  refine zwk (mqB (⟨some ⟨b, 0, none⟩, (D + 2), (D + 2)⟩ : Sl) []) 58 67 [.slice (some ⟨b, 0, none⟩) (D + 2) (D + 2), .int .i64 aa, .bool ((Nt.sgQ (Nt.gE (Nt.gX V) (Nt.gW V) (Nt.gY V) (Nt.pL V l) aa)) == (Nt.sgQ (Nt.eL V l)))] (MutQ.mayF hA64 (Ext.size (Ext.refl _))) (fun w64 u64 bc bn => k_exchange (v0 := u) (like := (Nt.sgQ (Nt.gE (Nt.gX V) (Nt.gW V) (Nt.gY V) (Nt.pL V l) aa)) == (Nt.sgQ (Nt.eL V l))) bn (Ext.t (ax.t (am.t (ar.t (aj.t (ap.t (ae.t (ag.t (ac.t (af.t (ad.t (ah.t (ak.t (ao.t (aM.t aT.ext)))))))))))))) bc) (hA64.ext bc) hlk xq xq xq) (fun v64 bh aS aX => ?_)
  obtain ⟨rfl, aL, a9, aF, aB, a2⟩ := aX
  have eR64 := ExtF.rootL aS hA64 (ax.t (am.t (ar.t (aj.t (ap.t (ae.t (ag.t (ac.t (af.t (ad.t (ah.t (ak.t (ao.t (aM.t aT.ext))))))))))))))
  refine zzb ?_
  have hcc := Nt.cmpg_y _ _ ai
  rw [Nt.erL_at xq] at hcc
  have hds := Nt.design_step (a := aa) (pl := aL) (like := (Nt.sgQ (Nt.gE (Nt.gX V) (Nt.gW V) (Nt.gY V) (Nt.pL V l) aa)) == (Nt.sgQ (Nt.eL V l))) ho hR xq xq hcc xq aF (fun h9 => aB xq) (by unfold Nt.fst1; rw [if_neg (by simpa using au)])
  have hds2 := hds.2
  refine sw_goto (mpg_seq (mpg_jump (m := _) (T := St.of 64 [(0, .v (x.v)), (4, .adr 4 0), (7, .v (.slice (some ⟨b, 0, none⟩) (D + 2) (D + 2)))] [(4, ⟨34, [qyn, .bool false, qyn, qyn, qyn]⟩)]) ?_ yz ⟨b, (Nt.exL l aa ((Nt.sgQ (Nt.gE (Nt.gX V) (Nt.gW V) (Nt.gY V) (Nt.pL V l) aa)) == (Nt.sgQ (Nt.eL V l))) aL), rfl, hds.1, rfl, eR64, a2⟩))
  omega
 have qhb47 := qyf ai
 refine zzs (zzp ?_)
 refine sq9 (zza 59 (.v (an.v)) (zzi 60 (.v (aJ.v)) ty32 zze (zzg 61 68 _ fun _ _ aP bk => qym (k_ratTrim bk ((RatP.raw aE).ext (ac.t (af.t (ad.t (ah.t aP))))) xq) ?_)))
 rintro _ u68 be ⟨aq, rfl, bB⟩
 refine zza 62 (.v (.slice (some ⟨b, 0, none⟩) (D + 2) (D + 2))) (zza 63 (.v (.agg #[an.v, .bool aq.s, aq.m.v, aq.d.v, .slice (some ⟨b, 0, none⟩) (D + 2) (D + 2)])) (zzj ⟨34, [an.v] ++ aq.cs ++ [.slice (some ⟨b, 0, none⟩) (D + 2) (D + 2)]⟩ ty34 ?_))
 refine zza 5 (zI 0) (zzc 64 [(4, .adr 4 0), (5, zI 0)] [(4, ⟨34, [an.v] ++ aq.cs ++ [.slice (some ⟨b, 0, none⟩) (D + 2) (D + 2)]⟩)] (zzo (mpr_jump (ret0 [.agg #[an.v, .bool aq.s, aq.m.v, aq.d.v, .slice (some ⟨b, 0, none⟩) (D + 2) (D + 2)], .int .i64 0] ⟨zzr ty34 zze, zzq, trivial⟩ fun u71 a1 => ?_))))
 have hde := Nt.design_end ho hR xq aA (by have h9 := Nt.cmpg_n _ _ ai; rw [Nt.erL_at xq] at h9; exact h9)
 have h8 := (bB.ext a1)
 rw [Nt.erL_at xq, hde.2] at h8
 exact ⟨an, aq, b, l, rfl, (aw.ext (aj.t (ap.t (ae.t (ag.t (ac.t (af.t (ad.t (ah.t (aP.t (be.t a1))))))))))), h8, MutQ.slr (hm.ext (am.t (ar.t (aj.t (ap.t (ae.t (ag.t (ac.t (af.t (ad.t (ah.t (aP.t (be.t a1))))))))))))), hde.1⟩
theorem k_exDesignE {u w : World} {D : Int} {x : Sl} {N : Nat} {V : List Rat} (d : Dat u w) (hg : GrN u x N V 1) (ho : Nt.GrOK V N) (hwr : Nt.wrE N D ≠ 0) : qyc 13 #[x.v, .int .i64 D] w (Post u w fun v u' => v = .tuple #[.agg #[qyn, .bool false, qyn, qyn, qyn], .int .i64 (Nt.wrE N D)]) := by
 have hxn : x.n = N := hg.len
 have hN12 := ho.n12
 have hN1 := ho.n1
 refine zzm (args := [x.v, .int .i64 D]) Tryz.func13 rfl Tryz.ntmps13 (rs := [.cell 4 34, .tmp 5]) Tryz.results13 (le_b rfl) (le_b rfl) d ?_
 refine sq9 (zzk 4 ⟨34, [qyn, .bool false, qyn, qyn, qyn]⟩ (zza 5 (zI 0) (zzb (sw_scope2 (I := fun _ _ _ => False) (fun m S u1 u2 e h => h) xj ?_ ?_))))
 ·skip
  refine sq9 (zza 14 (.v (x.v)) (zza 15 (zI D) (zzg 16 59 _ fun _ _ aa ac => qym (k_exWrong (D := D) ac (hg.ext aa) ho) ?_)))
  rintro _ u12 g13 rfl
  refine zza 6 (zI (Nt.wrE N D)) (zzb (sq9 (zza 17 (zI (Nt.wrE N D)) (zza 18 (zB ((Nt.wrE N D) != 0)) (zzb (zzu (b := (Nt.wrE N D) != 0) xj (fun hb => ?_) (fun hb => ?_)))))))
  ·clear hb
   refine sq9 (zza 19 (.v (.agg #[qyn, .bool false, qyn, qyn, qyn])) (zza 20 (zI (Nt.wrE N D)) (zzj ⟨34, [qyn, .bool false, qyn, qyn, qyn]⟩ ty34 ?_)))
   refine zza 5 (zI (Nt.wrE N D)) (zzb (zzo (zzw (mpr_into (ret0 [.agg #[qyn, .bool false, qyn, qyn, qyn], .int .i64 (Nt.wrE N D)] ⟨zzr ty34 zze, zzq, trivial⟩ fun u15 e16 => ?_)))))
   rfl
  exact absurd hb (by rw [show ((Nt.wrE N D) != 0) = true from (by simpa using hwr)]; decide)
 intro n S u h; exact h.elim
namespace Nt
def ChkOK (V : List Rat) (N D : Nat) (p : List Rat) (e : Rat) (L : List Int) : Prop := ∃ (l : List Nat) (a : Nat), L = inl l ∧ Rf N l (D + 1) ∧ (trimQ p).length ≤ D + 1 ∧ Gst (erL V p N) N a ∧ absQ (gE (gX V) (gW V) (gY V) p a) = e ∧ absQ (gE (gX V) (gW V) (gY V) p (l.getD 0 0)) = absQ (gE (gX V) (gW V) (gY V) p a) ∧ ∀ i, i < D + 2 → gE (gX V) (gW V) (gY V) p (l.getD i 0) = sg1 i * gE (gX V) (gW V) (gY V) p (l.getD 0 0)
section
variable {V : List Rat} {N D a i : Nat} {p : List Rat} {e : Rat} {L : List Int} {l : List Nat}
theorem chk_1 (h : ¬ (trimQ p).length ≤ D + 1) : ¬ ChkOK V N D p e L := fun ⟨_, _, _, _, h1, _⟩ => h h1
theorem chk_2 (h : ¬ L.length = D + 2) : ¬ ChkOK V N D p e L := fun ⟨l, _, h1, h2, _⟩ => h (by rw [h1, inl_len, h2.len])
theorem chk_3 (h : ¬ Up N L) : ¬ ChkOK V N D p e L := fun ⟨l, _, h1, h2, _⟩ => h (by rw [h1]; exact h2.up)
theorem chk_4 (hG : Gst (erL V p N) N a) (h : ¬ absQ (gE (gX V) (gW V) (gY V) p a) = e) : ¬ ChkOK V N D p e L := fun ⟨l, b, _, _, _, h4, h5, _⟩ => h (by rw [hG.uniq h4 (fun _ _ => rfl)]; exact h5)
theorem chk_5 (hG : Gst (erL V p N) N a) (hl : L = inl l) (h : ¬ absQ (gE (gX V) (gW V) (gY V) p (l.getD 0 0)) = absQ (gE (gX V) (gW V) (gY V) p a)) : ¬ ChkOK V N D p e L := fun ⟨m, b, h1, _, _, h4, _, h6, _⟩ => h (by
 have e1 : l = m := inl_inj (hl.symm.trans h1)
 subst e1
 rw [hG.uniq h4 (fun _ _ => rfl)]; exact h6)
theorem chk_6 (hl : L = inl l) (hi : i < D + 2) (h : ¬ gE (gX V) (gW V) (gY V) p (l.getD i 0) = sg1 i * gE (gX V) (gW V) (gY V) p (l.getD 0 0)) : ¬ ChkOK V N D p e L := fun ⟨m, b, h1, _, _, _, _, _, h7⟩ => h (by
 have e1 : l = m := inl_inj (hl.symm.trans h1)
 subst e1
 exact h7 i hi)
theorem sg1_n (i : Nat) (x : Rat) : -(sg1 i * x) = sg1 (i + 1) * x := by rw [sg1_s]; grind
theorem cmp_z {x y : Rat} (h : (cmpQ x y != (0 : Int)) = false) : x = y := by
 have h1 : (cmpQ x y == (0 : Int)) = true := by simpa using h
 rw [cmpQ_eq] at h1; exact qyt h1
theorem cmp_nz {x y : Rat} (h : (cmpQ x y != (0 : Int)) = true) : ¬ x = y := fun e => by
 have h1 : (cmpQ x y == (0 : Int)) = true := by rw [cmpQ_eq]; exact decide_eq_true e
 simp only [bne, h1] at h; cases h
end
end Nt
theorem k_exCheck {u w : World} {D : Nat} {y z : Sl} {r : RL} {p : List Rat} {e : Rat} {L : List Int} {K Ke M : Nat} {x : Sl} {N : Nat} {V : List Rat} (d : Dat u w) (hg : GrN u x N V 1) (ho : Nt.GrOK V N) (hy : PolV u y p K) (hr : RatV u r e Ke) (hz : SlR .i64 u z.a z.n z.c L) (hb : ∀ x ∈ L, -9223372036854775808 ≤ x ∧ x ≤ 9223372036854775807) (hl : p.length ≤ 60) (hB : 2 * (p.length * (K + 1) + 2) + K + 2 * p.length + 11 ≤ M) (hM : M ≤ 20000000) (hKe : Ke ≤ 20000000) (hD : D + 2 ≤ N) : qyc 17 #[x.v, .int .i64 (D : Int), .agg #[.slice y.a y.n y.c, .bool r.s, .slice r.m.a r.m.n r.m.c, .slice r.d.a r.d.n r.d.c, .slice z.a z.n z.c]] w (Post u w fun v _ => (v = .int .i64 0 ∧ Nt.ChkOK V N D p e L) ∨ (v = .int .i64 22 ∧ ¬ Nt.ChkOK V N D p e L)) := by
 have hxn : x.n = N := hg.len
 have hN12 := ho.n12
 have hN1 := ho.n1
 have hyl := hy.len
 have htl := zzh p
 have hzn : L.length = z.n := hz.1
 have hzm : z.n ≤ maxLen := Nat.le_trans hz.2.1 hz.2.2.1
 unfold maxLen at hzm
 have hwr : Nt.wrE N (D : Int) = 0 := by unfold Nt.wrE; rw [if_neg xq, if_neg xq]
 refine zzm (args := [x.v, .int .i64 D, .agg #[y.v, .bool r.s, r.m.v, r.d.v, z.v]]) Tryz.func17 rfl Tryz.ntmps17 (rs := [.tmp 6]) Tryz.results17 (le_b rfl) (le_b rfl) d ?_
 refine sq9 (zzk 5 ⟨34, [y.v] ++ r.cs ++ [z.v]⟩ (zza 6 (zI 0) (zzb (zzd (sq9 (zza 14 (.v (x.v)) (zza 15 (zI D) (zzg 16 59 _ fun _ _ af bf => qym (k_exWrong (D := (D : Int)) bf (hg.ext af) ho) ?_))))))))
 rintro _ u12 am rfl
 refine zza 7 (zI (Nt.wrE N (D : Int))) (zzb (sq9 (zza 17 (zI (Nt.wrE N (D : Int))) (zza 18 (zB ((Nt.wrE N (D : Int)) != 0)) (zzb (zzu (b := (Nt.wrE N (D : Int)) != 0) xj (fun hb => ?_) (fun hb => ?_)))))))
 ·exact absurd hb (by rw [show ((Nt.wrE N (D : Int)) != 0) = false from (by rw [hwr]; rfl)]; decide)
 clear hb
 refine zzs (zzp ?_)
 refine zzd (sq9 (zza 20 (.adr 5 0) (zzi 21 (.v (y.v)) ty27 zzl (zzg 22 76 _ fun _ _ al bd => qym (k_poDegree bd (hy.ext (af.t (am.t al))) xq xq) ?_))))
 rintro _ u16 ao rfl
 refine zza 23 (zI D) (zza 24 (zB (decide ((D : Int) < (((Nt.trimQ p).length : Int) - 1)))) (zzb (zzu (b := decide ((D : Int) < (((Nt.trimQ p).length : Int) - 1))) xj (fun ad => ?_) (fun ad => ?_))))
 ·have qhb19 := qyt ad
  refine sq9 (zza 6 (zI 22) (zzb (zzo (zzw (ret0 [.int .i64 22] ⟨zzq, trivial⟩ fun u20 e21 => ?_)))))
  exact .inr ⟨rfl, (Nt.chk_1 (by have h9 := qyt ad; omega))⟩
 have qhb19 := qyf ad
 refine zzs (zzp ?_)
 refine zzd (sq9 (zza 25 (.adr 5 4) (zzi 26 (.v (z.v)) ty22 zzl (zza 27 (zI z.n) (zza 28 (zI D) (zyq 29 (x := zI (IntKind.i64.wrap ((D : Int) + 2))) (zI (D + 2 : Nat)) (eqI xk) (zza 30 (zB ((z.n : Int) != ((D + 2 : Nat) : Int))) ?_)))))))
 rcases Bool.eq_false_or_eq_true ((z.n : Int) != ((D + 2 : Nat) : Int)) with hs22 | hs22
 ·refine zyq 31 (x := zB ((z.n : Int) != ((D + 2 : Nat) : Int))) (zB true) (by rw [hs22]) (zzn 32 (uw 6 false true 31) (zzn 33 (uw 6 false true 31) (zzn 34 (uw 6 false true 31) (zzn 35 (uw 6 false true 31) (zzn 36 (uw 6 false true 31) (zzn 37 (uw 6 false true 31) (zza 38 (zB true) (zzb (zyr xj (sq9 (zza 6 (zI 22) ?_)))))))))))
  refine zzb (zzo (zzw (ret0 [.int .i64 22] ⟨zzq, trivial⟩ fun u23 e24 => ?_)))
  exact .inr ⟨rfl, (Nt.chk_2 (fun e9 => by have h9 := hs22; rw [bne_iff_ne] at h9; exact h9 xq))⟩
 refine zyq 31 (x := zB ((z.n : Int) != ((D + 2 : Nat) : Int))) (zB false) (by rw [hs22]) (zza 32 (.adr 5 4) ?_ (hw := w1 6 false 31))
 refine zzi 33 (.v (z.v)) ty22 zzl ?_ (hw := w1 6 false 31)
 refine zza 34 (.v (x.v)) ?_ (hw := w1 6 false 31)
 refine zza 35 (zI x.n) ?_ (hw := w1 6 false 31)
 refine zzg 36 77 _ (fun _ _ aq bb => qym (k_ascending (z := z) (N := (x.n : Int)) bb (hz.ext (af.t (am.t (al.t (ao.t aq))))) hb) ?_) (hw := w1 6 false 31)
 rintro _ u28 av ⟨ak, rfl, ac⟩
 refine zza 37 (zB (!ak)) ?_ (hw := w1 6 false 31)
 refine zza 38 (zB (!ak)) (zzb (zzu (b := !ak) xj (fun az => ?_) (fun az => ?_)))
 ·refine sq9 (zza 6 (zI 22) (zzb (zzo (zzw (ret0 [.int .i64 22] ⟨zzq, trivial⟩ fun u32 e33 => ?_)))))
  exact .inr ⟨rfl, (Nt.chk_3 (fun hu => by have h9 : ak = false := (by simpa using az); have h8 := ac.2 (by rw [hxn]; exact hu); rw [h9] at h8; exact absurd h8 yv))⟩
 refine zzs (zzp ?_)
 refine zzd ?_
 have hU : Nt.Up (N : Int) L := by rw [hxn] at ac; exact ac.1 (by simpa using az)
 have hLn : L.length = D + 2 := by have h9 := hs22; simp only [bne_eq_false_iff_eq] at h9; omega
 have hdg : (Nt.trimQ p).length ≤ D + 1 := by have h9 := qyf ad; omega
 obtain ⟨l, hLl, hR⟩ := Nt.up_inl (n := D + 1) hU hLn
 have hzl := hz
 rw [hLl] at hzl
 have hlk : l.length = D + 2 := by have h9 := hR.len; omega
 have hlt : ∀ i, i < D + 2 → l.getD i 0 < N := fun i hi => hR.lt i xq
 have hlt0 := hlt 0 xq
 refine zzf (zza 39 (.v (x.v)) (zza 40 (.adr 5 0) (zzi 41 (.v (y.v)) ty27 zzl (zzg 42 62 _ fun _ _ ar a6 => qym (k_errorsOf (M := M) a6 (hg.ext (af.t (am.t (al.t (ao.t (aq.t (av.t ar))))))) ho (hy.ext (af.t (am.t (al.t (ao.t (aq.t (av.t ar))))))) hl hB hM) ?_))))
 rintro _ u37 aL ⟨an, rfl, ae⟩
 refine zza 8 (.v (an.v)) (zzc 82 [(5, .adr 5 0), (8, .v (an.v))] [(5, ⟨34, [y.v] ++ r.cs ++ [z.v]⟩)] (sq9 (zza 44 (.v (an.v)) (zzg 45 63 _ fun _ _ ag bj => qym (k_greatest (n := N) bj (ae.ext ag) Nt.erL_len xq xq xq) ?_))))
 rintro _ u42 ai ⟨aH, ap, rfl, aJ, ah⟩
 have hgl41 := Nt.Gst.lt ah
 refine zza 43 (.v (.tuple #[aH.v, .int .i64 ap])) (zza 46 (.v (aH.v)) (zza 47 (zI ap) (zzk 9 ⟨32, zw3⟩ (zzj ⟨32, aH.cs⟩ ty32 ?_))))
 refine zza 10 (zI ap) (zzb (zzd (sq9 (zzi 48 (.v (aH.v)) ty32 zze (zza 49 (.adr 5 1) (zzi 50 (.v (r.v)) ty32 zze (zzg 51 78 _ fun _ _ aa bg => qym (k_ratCompare bg ((RatP.raw aJ).ext aa) (hr.ext (af.t (am.t (al.t (ao.t (aq.t (av.t (ar.t (aL.t (ag.t (ai.t aa))))))))))) xq xq) ?_)))))))
 rintro _ u46 aj rfl
 refine zza 52 (zB ((Nt.cmpQ (Nt.absQ ((Nt.erL V p N).getD ap 0)) e) != 0)) (zzb (zzu (b := (Nt.cmpQ (Nt.absQ ((Nt.erL V p N).getD ap 0)) e) != 0) xj (fun aA => ?_) (fun aA => ?_)))
 ·refine sq9 (zza 6 (zI 22) (zzb (zzo (zzw (ret0 [.int .i64 22] ⟨zzq, trivial⟩ fun u50 e51 => ?_)))))
  exact .inr ⟨rfl, (Nt.chk_4 ah (by have h9 := Nt.cmp_nz aA; rw [Nt.erL_at xq] at h9; exact h9))⟩
 refine zzs (zzp ?_)
 refine sq9 (zza 53 (.v (an.v)) (zza 54 (.adr 5 4) (zzi 55 (.v (z.v)) ty22 zzl ?_)))
 have aT : (Nt.inl l).length = z.n := ((hzl.ext (af.t (am.t (al.t (ao.t (aq.t (av.t (ar.t (aL.t (ag.t (ai.t (aa.t aj.ext))))))))))))).1
 rw [Nt.inl_len] at aT
 obtain ⟨b52, a0, aR, aI⟩ := ints_at (hzl.ext (af.t (am.t (al.t (ao.t (aq.t (av.t (ar.t (aL.t (ag.t (ai.t (aa.t aj.ext)))))))))))) (i := 0) (by have h9 : 0 < l.length := xq; omega)
 rw [Nt.inl_at] at aI
 refine zya 56 (a0 + 0 * 1) (n := z.n) (off := a0) (sz := 1) (i := 0) xq aR xq (by first | omega | (have h9 : 0 < l.length := xq; omega)) sl22 (zyl 57 (.int .i64 (((l.getD 0 0) : Nat) : Int)) aI ty3 ?_)
 have hl53 := PolP.len (ae.ext (ag.t (ai.t (aa.t aj.ext))))
 rw [Nt.erL_len] at hl53
 obtain ⟨aK, b53, a1, aU, aO, aB⟩ := polp_at (ae.ext (ag.t (ai.t (aa.t aj.ext)))) (i := (l.getD 0 0)) (by rw [Nt.erL_len]; omega)
 rw [Nt.erL_at xq] at aB
 refine zya 58 (a1 + (l.getD 0 0) * 3) (n := an.n) (off := a1) (sz := 3) (i := (((l.getD 0 0) : Nat) : Int)) xq aU xq xq sl26 (zym 59 aK.cs aO ty32 (zzk 11 ⟨32, zw3⟩ (zzj ⟨32, aK.cs⟩ ty32 ?_)))
 refine zzb (zzd (zzd (zzz [0, 1, 0, 7, 15] [(0, []), (2, []), (1, []), (3, []), (4, [])] xj xj (zzi 60 (.v (aK.v)) ty32 zze (zzi 62 (.v (aH.v)) ty32 zze (zzg 61 65 _ fun _ _ ay bh => qym (k_ratAbs bh ((RatP.raw aB).ext ay) xq) ?_))))))
 rintro _ u57 aD ⟨r55, rfl, bc⟩
 refine zzg 63 78 _ fun _ _ au bi => qym (k_ratCompare bi (bc.ext au).raw ((RatP.raw aJ).ext (aa.t (aj.t (ay.t (aD.t au))))) xq xq) ?_
 rintro _ a7 aG rfl
 refine zza 64 (zB ((Nt.cmpQ (Nt.absQ (Nt.gE (Nt.gX V) (Nt.gW V) (Nt.gY V) p (l.getD 0 0))) (Nt.absQ ((Nt.erL V p N).getD ap 0))) != 0)) (zzb (zzu (b := (Nt.cmpQ (Nt.absQ (Nt.gE (Nt.gX V) (Nt.gW V) (Nt.gY V) p (l.getD 0 0))) (Nt.absQ ((Nt.erL V p N).getD ap 0))) != 0) xj (fun aw => ?_) (fun aw => ?_)))
 ·refine sq9 (zza 6 (zI 22) (zzb (zzo (zzw (ret0 [.int .i64 22] ⟨zzq, trivial⟩ fun u65 e66 => ?_)))))
  exact .inr ⟨rfl, (Nt.chk_5 ah hLl (by have h9 := Nt.cmp_nz aw; rw [Nt.erL_at xq] at h9; exact h9))⟩
 refine zzs (zzp ?_)
 refine zzd (sq9 (zza 65 (.adr 5 4) (zzi 66 (.v (z.v)) ty22 zzl (zza 67 (zI z.n) (zza 68 (zI 0) (zzc 82 [(8, .v (an.v)), (11, .adr 11 0), (66, .v (z.v)), (67, zI z.n), (68, zI 0)] [(11, ⟨32, aK.cs⟩)] (zzt (zyn (I := fun aX S' u' => ∃ (i : Nat) (rd : RL), (aX = D + 2 - i) ∧ (i ≤ D + 2) ∧ (∀ j, j < i → Nt.gE (Nt.gX V) (Nt.gW V) (Nt.gY V) p (l.getD j 0) = Nt.sg1 j * Nt.gE (Nt.gX V) (Nt.gW V) (Nt.gY V) p (l.getD 0 0)) ∧ (S' = St.of 82 [(8, .v (an.v)), (11, .adr 11 0), (66, .v (z.v)), (67, zI z.n), (68, zI i)] [(11, ⟨32, rd.cs⟩)]) ∧ (Ext a7 u') ∧ (RatV u' rd (Nt.sg1 i * Nt.gE (Nt.gX V) (Nt.gW V) (Nt.gY V) p (l.getD 0 0)) M)) (fun m S u1 u2 e h => by obtain ⟨i, rd, hm, p0, p1, hS, hE, f0⟩ := h; exact ⟨i, rd, hm, p0, p1, hS, hE.trans e, f0.ext e⟩) _ yz ⟨0, aK, rfl, by omega, (fun j hj => absurd hj (Nat.not_lt_zero j)), rfl, (Ext.refl _), (by rw [show Nt.sg1 0 = 1 from rfl, Rat.one_mul]; exact RatV.more ((RatP.raw aB).ext (ay.t (aD.t (au.t aG.ext)))) xq)⟩ ?_))))))))
 rintro aX _ u67 ⟨i, rd, a8, hi, hal, rfl, aF, fd⟩
 refine sq9 (zza 69 (zB (decide ((i : Int) < (z.n : Int)))) (zzb (zzd (zzu (b := decide ((i : Int) < (z.n : Int))) xj (fun ax => ?_) (fun ax => ?_)))))
 ·have qhb68 := qyt ax
  refine zzs (zzp ?_)
  refine zzd (zzt (zzd ?_))
  have hlti := hlt i xq
  refine zzf ?_
  have aQ : (Nt.inl l).length = z.n := ((hzl.ext (af.t (am.t (al.t (ao.t (aq.t (av.t (ar.t (aL.t (ag.t (ai.t (aa.t (aj.t (ay.t (aD.t (au.t (aG.t aF)))))))))))))))))).1
  rw [Nt.inl_len] at aQ
  obtain ⟨b69, a2, aP, aE⟩ := ints_at (hzl.ext (af.t (am.t (al.t (ao.t (aq.t (av.t (ar.t (aL.t (ag.t (ai.t (aa.t (aj.t (ay.t (aD.t (au.t (aG.t aF))))))))))))))))) (i := i) (by have h9 : i < l.length := xq; omega)
  rw [Nt.inl_at] at aE
  refine zya 70 (a2 + i * 1) (n := z.n) (off := a2) (sz := 1) (i := (i : Int)) xq aP xq (by first | omega | (have h9 : i < l.length := xq; omega)) sl22 (zyl 71 (.int .i64 (((l.getD i 0) : Nat) : Int)) aE ty3 (zza 13 (zI (((l.getD i 0) : Nat) : Int)) (zzb (zzd (zzd (zzz [0, 0, 3, 7, 0, 31, 63] [(0, []), (1, []), (2, []), (3, []), (4, []), (5, []), (6, [])] xj xj (zza 72 (.v (an.v)) (zza 73 (zI (((l.getD i 0) : Nat) : Int)) ?_))))))))
  have hl70 := PolP.len (ae.ext (ag.t (ai.t (aa.t (aj.t (ay.t (aD.t (au.t (aG.t aF)))))))))
  rw [Nt.erL_len] at hl70
  obtain ⟨a4, b70, a3, aS, aV, aM⟩ := polp_at (ae.ext (ag.t (ai.t (aa.t (aj.t (ay.t (aD.t (au.t (aG.t aF))))))))) (i := (l.getD i 0)) (by rw [Nt.erL_len]; omega)
  rw [Nt.erL_at xq] at aM
  refine zya 74 (a3 + (l.getD i 0) * 3) (n := an.n) (off := a3) (sz := 3) (i := (((l.getD i 0) : Nat) : Int)) xq aS xq xq sl26 (zym 75 a4.cs aV ty32 (zzi 76 (.v (rd.v)) ty32 zze (zzg 77 78 _ fun _ _ aN be => qym (k_ratCompare be ((RatP.raw aM).ext aN) (fd.ext aN) xq xq) ?_)))
  rintro _ u72 aW rfl
  refine zza 78 (zB ((Nt.cmpQ (Nt.gE (Nt.gX V) (Nt.gW V) (Nt.gY V) p (l.getD i 0)) (Nt.sg1 i * Nt.gE (Nt.gX V) (Nt.gW V) (Nt.gY V) p (l.getD 0 0))) != 0)) (zzb (zzu (b := (Nt.cmpQ (Nt.gE (Nt.gX V) (Nt.gW V) (Nt.gY V) p (l.getD i 0)) (Nt.sg1 i * Nt.gE (Nt.gX V) (Nt.gW V) (Nt.gY V) p (l.getD 0 0))) != 0) xj (fun aC => ?_) (fun aC => ?_)))
  ·refine sq9 (zza 6 (zI 22) (zzb (zzo (zzw (zyu (zzw (zyt (zyu (zzw (ret0 [.int .i64 22] ⟨zzq, trivial⟩ fun u76 e77 => ?_))))))))))
   exact .inr ⟨rfl, (Nt.chk_6 hLl (i := i) xq (Nt.cmp_nz aC))⟩
  refine zzs (zzp ?_)
  refine zzf (zzi 79 (.v (rd.v)) ty32 zze (zzg 80 79 _ fun _ _ aZ a9 => qym (k_ratNeg a9 (fd.ext (aN.t (aW.t aZ))) xq) ?_))
  rintro _ u81 a5 ⟨aY, rfl, ba⟩
  refine zzj ⟨32, aY.cs⟩ ty32 ?_
  refine zzx ?_
  refine zzp (zzf (zyq 81 (x := zI (IntKind.i64.wrap ((i : Int) + 1))) (zI (i + 1 : Nat)) (eqI xk) (zza 68 (zI (i + 1 : Nat)) (zzx ?_))))
  refine ⟨_, ?_, _, by exact zzv _ _ _, i + 1, aY, rfl, by omega, (fun j hj => by by_cases e9 : j = i; (rw [e9]; exact Nt.cmp_z aC); exact hal j xq), rfl, (aF.t (aN.t (aW.t (aZ.t a5.ext)))), (by rw [← Nt.sg1_n]; exact RatV.more (RatN.raw ba) xq)⟩
  omega
 have qhb68 := qyf ax
 refine zyc (zzp (sq9 (zza 6 (zI 0) (zzb (zzo (ret0 [.int .i64 0] ⟨zzq, trivial⟩ fun u84 e85 => ?_))))))
 obtain rfl : i = D + 2 := by omega
 exact .inl ⟨rfl, l, ap, hLl, hR, hdg, ah, (by have h9 := Nt.cmp_z aA; rw [Nt.erL_at xq] at h9; exact h9), (by have h9 := Nt.cmp_z aw; rw [Nt.erL_at xq] at h9; exact h9), fun i hi => hal i hi⟩
namespace Nt
open Pol
section
variable {V : List Rat} {N n D : Nat} {p q : List Rat} {l m : List Nat}
theorem gst_ex (E : List Rat) : ∀ n, 1 ≤ n → ∃ a, Gst E n a
 | 0, h => absurd h xq
 | n + 1, _ => by
  by_cases h : n = 0
  ·subst h; exact ⟨0, gst_1 E⟩
  obtain ⟨a, ha⟩ := gst_ex E n xq
  by_cases c : ab (E.getD a 0) < ab (E.getD n 0)
  ·exact ⟨n, ha.up c⟩
  exact ⟨a, ha.keep c⟩
theorem bst_max (g : GrOK V N) (h : Bst (gX V) (gW V) (gY V) N n p l) {a : Nat} (hG : Gst (erL V p N) N a) : absQ (gE (gX V) (gW V) (gY V) p a) = absQ (eL V l) := by
 have h1 := h.max a hG.lt
 have h2 := h.at_ab g.gr 0 xq
 have h3 := hG.le (l.getD 0 0) (h.rf.lt 0 xq)
 rw [erL_at (h.rf.lt 0 xq), erL_at hG.lt] at h3
 rw [ab_eq, ab_eq]
 have e : eL V l = rE (gX V) (gW V) (gY V) l := rfl
 rw [e]; grind
theorem chk_bst (g : GrOK V N) (h : Bst (gX V) (gW V) (gY V) N (D + 1) p l) {e : Rat} (he : e = absQ (eL V l)) : ChkOK V N D p e (inl l) := by
 obtain ⟨a, ha⟩ := gst_ex (erL V p N) N g.n1
 refine ⟨l, a, rfl, h.rf, Nat.le_trans (zzh p) h.len, ha, by rw [he]; exact bst_max g h ha, ?_, fun i hi => ?_⟩
 ·rw [bst_max g h ha, ab_eq, ab_eq]; exact h.at_ab g.gr 0 xq
 rw [h.at g.gr i xq, h.at g.gr 0 xq]
 have : sg1 0 = 1 := rfl
 rw [this]; grind
theorem pL_trim (h : Rf N l n) (h1 : 1 ≤ n) : trimQ (pL V l) = pL V l := by rw [lvl_pL h]; exact trim_nwL h1
theorem bst_list (g : GrOK V N) (h : Bst (gX V) (gW V) (gY V) N n p l) (k : Bst (gX V) (gW V) (gY V) N n q m) (hp : trimQ p = p) (hq : trimQ q = q) : p = q := by
 rw [← hp, ← hq]; exact trim_ext (fun i => (h.same k g.gr).2 i)
theorem bst_err (g : GrOK V N) (h : Bst (gX V) (gW V) (gY V) N n p l) (k : Bst (gX V) (gW V) (gY V) N n q m) : absQ (eL V l) = absQ (eL V m) := (h.same k g.gr).1
end
def awV : List Rat := [((-1 : Int) : Rat), ((1 : Int) : Rat), ((1 : Int) : Rat), ((0 : Int) : Rat), ((0 : Int) : Rat), ((1 : Int) : Rat), ((1 : Int) : Rat), ((1 : Int) : Rat), ((1 : Int) : Rat)]
theorem awOK : GrOK awV 3 := by
 refine ⟨by decide, by decide, rfl, fun i hi => ?_, fun i hi => ?_, fun i hi => ⟨1, 1, ?_, by decide, by decide, by decide, by decide⟩, fun a b hab hb => ?_⟩
 ·rcases (by omega : i = 0 ∨ i = 1 ∨ i = 2) with rfl | rfl | rfl
  ·exact ⟨-12, by decide +kernel, by decide, by decide⟩
  ·exact ⟨0, by decide +kernel, by decide, by decide⟩
  exact ⟨12, by decide +kernel, by decide, by decide⟩
 ·rcases (by omega : i = 0 ∨ i = 1 ∨ i = 2) with rfl | rfl | rfl
  ·exact ⟨840, by decide +kernel, by decide⟩
  ·exact ⟨0, by decide +kernel, by decide⟩
  exact ⟨840, by decide +kernel, by decide⟩
 ·rcases (by omega : i = 0 ∨ i = 1 ∨ i = 2) with rfl | rfl | rfl <;> decide +kernel
 rcases (by omega : a = 0 ∧ b = 1 ∨ a = 0 ∧ b = 2 ∨ a = 1 ∧ b = 2) with ⟨rfl, rfl⟩ | ⟨rfl, rfl⟩ | ⟨rfl, rfl⟩ <;> decide +kernel
theorem awRf : Rf 3 [0, 1, 2] 2 := ⟨rfl, fun i j hij hj => by
 rcases (by omega : i = 0 ∧ j = 1 ∨ i = 0 ∧ j = 2 ∨ i = 1 ∧ j = 2) with ⟨rfl, rfl⟩ | ⟨rfl, rfl⟩ | ⟨rfl, rfl⟩ <;> decide, fun i hi => by
 rcases (by omega : i = 0 ∨ i = 1 ∨ i = 2) with rfl | rfl | rfl <;> decide⟩
theorem aw_e : eL awV [0, 1, 2] = ((1 : Int) : Rat) / ((2 : Int) : Rat) := by decide +kernel
theorem aw_best : Bst (gX awV) (gW awV) (gY awV) 3 2 [((1 : Int) : Rat) / ((2 : Int) : Rat)] [0, 1, 2] := by
 refine ⟨awRf, by decide, fun a ha => ?_⟩
 rcases (by omega : a = 0 ∨ a = 1 ∨ a = 2) with rfl | rfl | rfl <;> decide +kernel
theorem aw_lev : Bst (gX awV) (gW awV) (gY awV) 3 2 (pL awV [0, 1, 2]) [0, 1, 2] := by
 refine ⟨awRf, lvl_len awRf, fun a ha => ?_⟩
 have h9 : a = [0, 1, 2].getD a 0 := by rcases (by omega : a = 0 ∨ a = 1 ∨ a = 2) with rfl | rfl | rfl <;> rfl
 rw [h9, lvl_at awOK awRf yv xq, ab_sg]
 exact Rat.le_refl
theorem aw_half : trimQ [((1 : Int) : Rat) / ((2 : Int) : Rat)] = [((1 : Int) : Rat) / ((2 : Int) : Rat)] := by decide +kernel
theorem aw_p {l : List Nat} (h : Bst (gX awV) (gW awV) (gY awV) 3 2 (pL awV l) l) : pL awV l = [((1 : Int) : Rat) / ((2 : Int) : Rat)] := bst_list awOK h aw_best (pL_trim h.rf yv) aw_half
theorem aw_x {l : List Nat} (h : Bst (gX awV) (gW awV) (gY awV) 3 2 (pL awV l) l) : absQ (eL awV l) = ((1 : Int) : Rat) / ((2 : Int) : Rat) := by
 rw [bst_err awOK h aw_best, aw_e]; decide +kernel
end Nt
theorem k_exCheckB {u w : World} {D : Nat} {y z : Sl} {r : RL} {p : List Rat} {e : Rat} {l : List Nat} {K Ke M : Nat} {x : Sl} {N : Nat} {V : List Rat} (d : Dat u w) (hg : GrN u x N V 1) (ho : Nt.GrOK V N) (hy : PolV u y p K) (hr : RatV u r e Ke) (hz : SlR .i64 u z.a z.n z.c (Nt.inl l)) (hl : p.length ≤ 60) (hB : 2 * (p.length * (K + 1) + 2) + K + 2 * p.length + 11 ≤ M) (hM : M ≤ 20000000) (hKe : Ke ≤ 20000000) (hD : D + 2 ≤ N) (hb : Nt.Bst (Nt.gX V) (Nt.gW V) (Nt.gY V) N (D + 1) p l) (he : e = Nt.absQ (Nt.eL V l)) : qyc 17 #[x.v, .int .i64 (D : Int), .agg #[.slice y.a y.n y.c, .bool r.s, .slice r.m.a r.m.n r.m.c, .slice r.d.a r.d.n r.d.c, .slice z.a z.n z.c]] w (Post u w fun v _ => v = .int .i64 0) :=
 qym (k_exCheck d hg ho hy hr hz (Nt.inl_bd hb.rf.mem (by have := ho.n12; omega)) hl hB hM hKe hD) fun v u' _ h => h.elim (fun h => h.1) (fun h => absurd (Nt.chk_bst ho hb he) h.2)
theorem Nt.rs_small {z : Int} (h : z.natAbs ≤ 1) : Nt.rs (z : Rat) ≤ 1 := Nt.rs_int (K := 1) (Nat.le_trans (Nt.dl_mono h) (Nat.le_of_eq Nt.dl_one)) (Nat.le_refl 1)
theorem k_awake15 {u w : World} (d : Dat u w) : qyc 18 #[] w (Post u w fun v _ => v = .bool true) := by
 refine zzm (args := []) Tryz.func18 rfl Tryz.ntmps18 (rs := [.tmp 0]) Tryz.results18 (le_b rfl) (le_b rfl) d ?_
 refine sq9 (zza 0 (zB false) (zzb (sq9 (zzg 11 30 _ fun _ _ _ bm => qym (k_rqOf bm (z := 1) xq xq) ?_))))
 rintro _ u14 g15 ⟨aa, rfl, aI⟩
 refine zzk 1 ⟨32, zw3⟩ (zzj ⟨32, aa.cs⟩ ty32 ?_)
 refine zzb (zzd (zzz [0, 0, 0, 7, 1, 17, 0, 113, 0, 0, 0, 1792, 4095, 8191] [(1, []), (2, []), (6, []), (8, []), (9, []), (10, []), (11, []), (0, []), (3, []), (4, []), (5, []), (7, []), (12, []), (13, [])] xj xj (zzi 13 (.v (aa.v)) ty32 zze (zzi 14 (.v (aa.v)) ty32 zze (zzi 18 (.v (aa.v)) ty32 zze (zzi 20 (.v (aa.v)) ty32 zze (zzi 21 (.v (aa.v)) ty32 zze (zzi 22 (.v (aa.v)) ty32 zze (zza 23 (.v (.agg #[.bool aa.s, aa.m.v, aa.d.v, .bool aa.s, aa.m.v, aa.d.v, .bool aa.s, aa.m.v, aa.d.v])) (zzg 12 30 _ fun _ _ aL bp => qym (k_rqOf bp (z := (-1)) xq xq) ?_))))))))))
 rintro _ u20 aE ⟨aD, rfl, ba⟩
 refine zza 15 (.v (.agg #[.bool aD.s, aD.m.v, aD.d.v, .bool aa.s, aa.m.v, aa.d.v, .bool aa.s, aa.m.v, aa.d.v])) (zzg 16 30 _ fun _ _ aA bi => qym (k_rqOf bi (z := 0) xq xq) ?_)
 rintro _ u26 aB ⟨aG, rfl, bg⟩
 refine zzg 17 30 _ fun _ _ ao br => qym (k_rqOf br (z := 0) xq xq) ?_
 rintro _ u32 an ⟨aK, rfl, bc⟩
 refine zza 19 (.v (.agg #[.bool aG.s, aG.m.v, aG.d.v, .bool aK.s, aK.m.v, aK.d.v, .bool aa.s, aa.m.v, aa.d.v])) (sy_lit 24 ⟨56, aD.cs ++ aa.cs ++ aa.cs ++ aG.cs ++ aK.cs ++ aa.cs ++ aa.cs ++ aa.cs ++ aa.cs⟩ 3 ?_)
 refine zza 2 (.slc 24 0 3 3) (zzb (zzd (zyp (r := 2) (t := 24) [2, 24] xw xj (by rfl) (by rfl) xj (fun aM a3 ak bs a1 => ?_))))
 have hAw : RatsN a3 [aD, aa, aa, aG, aK, aa, aa, aa, aa] Nt.awV 1 := (RatsN.snoc (RatsN.snoc (RatsN.snoc (RatsN.snoc (RatsN.snoc (rats4 (RatN.fit (K := 2) (ba.ext (aA.t (aB.t (ao.t (an.t ak))))) (Nt.rs_small yv)) (RatN.fit (K := 2) (aI.ext (aL.t (aE.t (aA.t (aB.t (ao.t (an.t ak))))))) (Nt.rs_small yv)) (RatN.fit (K := 2) (aI.ext (aL.t (aE.t (aA.t (aB.t (ao.t (an.t ak))))))) (Nt.rs_small yv)) (RatN.fit (K := 2) (bg.ext (ao.t (an.t ak))) (Nt.rs_small yv))) (RatN.fit (K := 2) (bc.ext ak) (Nt.rs_small yv))) (RatN.fit (K := 2) (aI.ext (aL.t (aE.t (aA.t (aB.t (ao.t (an.t ak))))))) (Nt.rs_small yv))) (RatN.fit (K := 2) (aI.ext (aL.t (aE.t (aA.t (aB.t (ao.t (an.t ak))))))) (Nt.rs_small yv))) (RatN.fit (K := 2) (aI.ext (aL.t (aE.t (aA.t (aB.t (ao.t (an.t ak))))))) (Nt.rs_small yv))) (RatN.fit (K := 2) (aI.ext (aL.t (aE.t (aA.t (aB.t (ao.t (an.t ak))))))) (Nt.rs_small yv)))
 have hGw : GrN a3 ⟨some ⟨aM, 0, none⟩, 3, 3⟩ 3 Nt.awV 1 := gr_lit (L := [aD, aa, aa, aG, aK, aa, aa, aa, aa]) a1 hAw rfl yv
 refine zzf (zza 26 (.v (.slice (some ⟨aM, 0, none⟩) 3 3)) (zzg 27 13 _ fun _ _ aT bt => qym (k_exDesign (D := 1) bt (hGw.ext aT) Nt.awOK yv) ?_))
 rintro _ u42 aX ⟨aC, ac, ay, aJ, rfl, az, aP, aY, aj⟩
 have hly41 := az.len
 have hlly41 := Nt.Bst.len aj
 refine zza 25 (.v (.tuple #[.agg #[aC.v, .bool ac.s, ac.m.v, ac.d.v, .slice (some ⟨ay, 0, none⟩) (1 + 2) (1 + 2)], .int .i64 0])) (zza 28 (.v (.agg #[aC.v, .bool ac.s, ac.m.v, ac.d.v, .slice (some ⟨ay, 0, none⟩) (1 + 2) (1 + 2)])) (zza 29 (zI 0) (zzk 3 ⟨34, [qyn, .bool false, qyn, qyn, qyn]⟩ (zzj ⟨34, [aC.v] ++ ac.cs ++ [.slice (some ⟨ay, 0, none⟩) (1 + 2) (1 + 2)]⟩ ty34 ?_))))
 refine zza 4 (zI 0) (zzb (sq9 (zza 31 (.v (.slice (some ⟨aM, 0, none⟩) 3 3)) (zxx 32 ⟨3, [.int .i64 0, .int .i64 1, .int .i64 2]⟩ 3 (fun aS a4 av bn => ?_)))))
 have aW : SlR .i64 a4 ((⟨some ⟨aS, 0, none⟩, 3, 3⟩ : Sl)).a ((⟨some ⟨aS, 0, none⟩, 3, 3⟩ : Sl)).n ((⟨some ⟨aS, 0, none⟩, 3, 3⟩ : Sl)).c (Nt.inl [0, 1, 2]) := ints_data bn rfl rfl qyl (by show 3 ≤ maxLen; unfold maxLen; omega)
 refine zzg 33 25 _ fun _ _ al bo => qym (k_exLevelR (z := (⟨some ⟨aS, 0, none⟩, 3, 3⟩ : Sl)) (n := 2) bo (hGw.ext (aT.t (aX.t (av.trans al)))) Nt.awOK (aW.ext al) Nt.awRf xq) ?_
 rintro _ u52 ax ⟨aN, aO, rfl, aQ, a2⟩
 have hly51 := aQ.len
 have hlly51 := Nt.lvl_len (V := Nt.awV) Nt.awRf
 refine zza 30 (.v (.tuple #[aN.v, aO.v, .int .i64 0])) (zza 34 (.v (aN.v)) (zza 35 (.v (aO.v)) (zza 36 (zI 0) (zzk 6 ⟨32, zw3⟩ (zza 5 (.v (aN.v)) (zzj ⟨32, aO.cs⟩ ty32 ?_))))))
 refine zza 7 (zI 0) (zzc 89 [(2, .v (.slice (some ⟨aM, 0, none⟩) 3 3)), (3, .adr 3 0), (4, zI 0), (5, .v (aN.v)), (6, .adr 6 0), (7, zI 0)] [(3, ⟨34, [aC.v] ++ ac.cs ++ [.slice (some ⟨ay, 0, none⟩) (1 + 2) (1 + 2)]⟩), (6, ⟨32, aO.cs⟩)] (sq9 (zza 38 (.v (.slice (some ⟨aM, 0, none⟩) 3 3)) (zzg 39 13 _ fun _ _ ah bu => qym (k_exDesignE (D := (2 : Nat)) bu (hGw.ext (aT.t (aX.t (av.t (al.t (ax.t ah)))))) Nt.awOK yv) ?_))))
 rintro _ u56 aq rfl
 refine zza 37 (.v (.tuple #[.agg #[qyn, .bool false, qyn, qyn, qyn], .int .i64 (Nt.wrE 3 2)])) (zza 40 (.v (.agg #[qyn, .bool false, qyn, qyn, qyn])) (zza 41 (zI (Nt.wrE 3 2)) (zzk 8 ⟨34, [qyn, .bool false, qyn, qyn, qyn]⟩ (zzj ⟨34, [qyn, .bool false, qyn, qyn, qyn]⟩ ty34 ?_))))
 refine zza 9 (zI (Nt.wrE 3 2)) (zzb (sq9 (zzg 42 23 _ fun _ _ am a8 => qym (k_rqFrac a8 (a := 1) (b := 2) xq xq xq xq) ?_)))
 rintro _ u62 aw ⟨ai, rfl, aR⟩
 refine zzk 10 ⟨32, zw3⟩ (zzj ⟨32, ai.cs⟩ ty32 ?_)
 refine zzb (sq9 (zza 43 (zI 0) (zza 44 (zB true) (zza 45 (zB true) (zza 46 (zI 0) ?_ (hw := w1 2 true 45))))))
 refine zza 47 (zB true) ?_ (hw := w1 2 true 45)
 refine zza 48 (zB true) (zza 49 (zB true) (zza 50 (zI (Nt.wrE 3 2)) ?_ (hw := w1 6 true 49)))
 refine zza 51 (zB ((Nt.wrE 3 2) == 1)) ?_ (hw := w1 6 true 49)
 refine zza 52 (zB ((Nt.wrE 3 2) == 1)) (zyq 53 (x := zB ((Nt.wrE 3 2) == 1)) (zB true) (by rw [show ((Nt.wrE 3 2) == 1) = true from yv]) (zza 54 (.adr 3 0) ?_ (hw := w1 10 true 53)))
 refine zzi 55 (.v (aC.v)) ty27 zzl ?_ (hw := w1 10 true 53)
 refine zzi 56 (.v (ai.v)) ty32 zze ?_ (hw := w1 10 true 53)
 refine zxx 57 ⟨32, ai.cs⟩ 1 (fun bk be ae bh => ?_) (hw := w1 10 true 53)
 have a0 : PolN be (⟨some ⟨bk, 0, none⟩, 1, 1⟩ : Sl) [(((1 : Int) : Rat) / ((2 : Int) : Rat))] 3 := pol_lit (L := [ai]) bh (rats1 (aR.ext ae)) rfl yv
 refine zzg 58 15 _ (fun _ _ ad bl => qym (k_r5Equal bl (az.ext (av.t (al.t (ax.t (ah.t (aq.t (am.t (aw.t (ae.trans ad))))))))) (a0.ext ad) xz zv) ?_) (hw := w1 10 true 53)
 rintro _ u72 af rfl
 refine zza 59 (zB (decide ((Nt.pL Nt.awV aJ) = [(((1 : Int) : Rat) / ((2 : Int) : Rat))]))) (zyq 60 (x := zB (decide ((Nt.pL Nt.awV aJ) = [(((1 : Int) : Rat) / ((2 : Int) : Rat))]))) (zB true) (by rw [show (decide ((Nt.pL Nt.awV aJ) = [(((1 : Int) : Rat) / ((2 : Int) : Rat))])) = true from (decide_eq_true (Nt.aw_p aj))]) (zza 61 (.adr 3 1) ?_ (hw := w1 17 true 60)))
 refine zzi 62 (.v (ac.v)) ty32 zze ?_ (hw := w1 17 true 60)
 refine zzi 63 (.v (ai.v)) ty32 zze ?_ (hw := w1 17 true 60)
 refine zzg 64 16 _ (fun _ _ ag bf => qym (k_rqSame bf (aP.ext (av.t (al.t (ax.t (ah.t (aq.t (am.t (aw.t (ae.t (ad.t (af.t ag))))))))))) (aR.ext (ae.t (ad.t (af.t ag))))) ?_) (hw := w1 17 true 60)
 rintro _ u77 au rfl
 refine zza 65 (zB (decide ((Nt.absQ (Nt.eL Nt.awV aJ)) = (((1 : Int) : Rat) / ((2 : Int) : Rat))))) (zyq 66 (x := zB (decide ((Nt.absQ (Nt.eL Nt.awV aJ)) = (((1 : Int) : Rat) / ((2 : Int) : Rat))))) (zB true) (by rw [show (decide ((Nt.absQ (Nt.eL Nt.awV aJ)) = (((1 : Int) : Rat) / ((2 : Int) : Rat)))) = true from (decide_eq_true (Nt.aw_x aj))]) (zza 67 (.adr 3 4) ?_ (hw := w1 23 true 66)))
 refine zzi 68 (.v (.slice (some ⟨ay, 0, none⟩) (1 + 2) (1 + 2))) ty22 zzl ?_ (hw := w1 23 true 66)
 refine zza 69 (zI (1 + 2 : Nat)) ?_ (hw := w1 23 true 66)
 refine zza 70 (zB (((1 + 2 : Nat) : Int) == 3)) ?_ (hw := w1 23 true 66)
 refine zza 71 (zB (((1 + 2 : Nat) : Int) == 3)) (zyq 72 (x := zB (((1 + 2 : Nat) : Int) == 3)) (zB true) (by rw [show (((1 + 2 : Nat) : Int) == 3) = true from yv]) (zza 73 (.v (aN.v)) ?_ (hw := w1 29 true 72)))
 refine zzi 74 (.v (ai.v)) ty32 zze ?_ (hw := w1 29 true 72)
 refine zxx 75 ⟨32, ai.cs⟩ 1 (fun a9 bd ap a6 => ?_) (hw := w1 29 true 72)
 have aZ : PolN bd (⟨some ⟨a9, 0, none⟩, 1, 1⟩ : Sl) [(((1 : Int) : Rat) / ((2 : Int) : Rat))] 3 := pol_lit (L := [ai]) a6 (rats1 (aR.ext (ae.t (ad.t (af.t (ag.t (au.t ap))))))) rfl yv
 refine zzg 76 15 _ (fun _ _ ar bb => qym (k_r5Equal bb (aQ.ext (ah.t (aq.t (am.t (aw.t (ae.t (ad.t (af.t (ag.t (au.t (ap.trans ar))))))))))) (aZ.ext ar) xz zv) ?_) (hw := w1 29 true 72)
 rintro _ u88 aF rfl
 refine zza 77 (zB (decide ((Nt.pL Nt.awV ([0, 1, 2])) = [(((1 : Int) : Rat) / ((2 : Int) : Rat))]))) (zyq 78 (x := zB (decide ((Nt.pL Nt.awV ([0, 1, 2])) = [(((1 : Int) : Rat) / ((2 : Int) : Rat))]))) (zB true) (by rw [show (decide ((Nt.pL Nt.awV ([0, 1, 2])) = [(((1 : Int) : Rat) / ((2 : Int) : Rat))])) = true from (decide_eq_true (Nt.aw_p Nt.aw_lev))]) (zzi 79 (.v (aO.v)) ty32 zze ?_ (hw := w1 35 true 78)))
 refine zzi 80 (.v (ai.v)) ty32 zze ?_ (hw := w1 35 true 78)
 refine zzg 81 16 _ (fun _ _ aH a5 => qym (k_rqSame a5 (a2.ext (ah.t (aq.t (am.t (aw.t (ae.t (ad.t (af.t (ag.t (au.t (ap.t (ar.t (aF.t aH))))))))))))) (aR.ext (ae.t (ad.t (af.t (ag.t (au.t (ap.t (ar.t (aF.t aH)))))))))) ?_) (hw := w1 35 true 78)
 rintro _ u93 aV rfl
 refine zza 82 (zB (decide ((Nt.eL Nt.awV ([0, 1, 2])) = (((1 : Int) : Rat) / ((2 : Int) : Rat))))) (zyq 83 (x := zB (decide ((Nt.eL Nt.awV ([0, 1, 2])) = (((1 : Int) : Rat) / ((2 : Int) : Rat))))) (zB true) (by rw [show (decide ((Nt.eL Nt.awV ([0, 1, 2])) = (((1 : Int) : Rat) / ((2 : Int) : Rat)))) = true from (decide_eq_true Nt.aw_e)]) (zza 84 (.v (.slice (some ⟨aM, 0, none⟩) 3 3)) ?_ (hw := w1 40 true 83)))
 refine zzi 85 (.v (.agg #[aC.v, .bool ac.s, ac.m.v, ac.d.v, .slice (some ⟨ay, 0, none⟩) (1 + 2) (1 + 2)])) ty34 zze ?_ (hw := w1 40 true 83)
 refine zzg 86 17 _ (fun _ _ aU bj => qym (k_exCheckB (D := 1) (y := aC) (z := (⟨some ⟨ay, 0, none⟩, 1 + 2, 1 + 2⟩ : Sl)) (r := ac) (M := 1400000) bj (hGw.ext (aT.t (aX.t (av.t (al.t (ax.t (ah.t (aq.t (am.t (aw.t (ae.t (ad.t (af.t (ag.t (au.t (ap.t (ar.t (aF.t (aH.t (aV.t aU)))))))))))))))))))) Nt.awOK (az.ext (av.t (al.t (ax.t (ah.t (aq.t (am.t (aw.t (ae.t (ad.t (af.t (ag.t (au.t (ap.t (ar.t (aF.t (aH.t (aV.t aU)))))))))))))))))).raw (aP.ext (av.t (al.t (ax.t (ah.t (aq.t (am.t (aw.t (ae.t (ad.t (af.t (ag.t (au.t (ap.t (ar.t (aF.t (aH.t (aV.t aU)))))))))))))))))).raw (aY.ext (av.t (al.t (ax.t (ah.t (aq.t (am.t (aw.t (ae.t (ad.t (af.t (ag.t (au.t (ap.t (ar.t (aF.t (aH.t (aV.t aU)))))))))))))))))) xq xq yv xq yv aj rfl) ?_) (hw := w1 40 true 83)
 rintro _ u98 g99 rfl
 refine zza 87 (zB true) ?_ (hw := w1 40 true 83)
 refine zza 88 (zB true) (zza 0 (zB true) (zzc 89 [(0, zB true)] [] (zzo (ret0 [.bool true] ⟨zzq, trivial⟩ fun a7 bq => ?_))))
 rfl
theorem k_r5Eval {u w : World} {x : Sl} {l : List Rat} {r : RL} {q : Rat} {K M S : Nat} (d : Dat u w) (hx : PolV u x l K) (hr : RatV u r q M) (hS : K + M + 4 ≤ S) (hS9 : l.length * S ≤ 20000000) (hM : M ≤ 10000000) (hK : K ≤ 10000000) (hl9 : l.length ≤ 1000000) : qyc 94 #[x.v, r.v] w (Post u w fun v u' => ∃ p : RL, v = p.v ∧ RatN u' p (Nt.Pol.evL l q) (l.length * S + 2)) := by
 have hlen := hx.len
 refine zzm (args := [x.v, r.v]) Tryz.func94 rfl Tryz.ntmps94 (rs := [.cell 4 32]) Tryz.results94 (le_b rfl) (le_b rfl) d ?_
 refine sq9 (zzk 3 ⟨32, r.cs⟩ (zzk 4 ⟨32, zw3⟩ (zzb (sq9 (zzg 7 30 _ fun _ _ ae av => qym (k_rqOf av (z := 0) xq xq) ?_)))))
 rintro _ aC af ⟨am, rfl, au⟩
 refine zzk 5 ⟨32, zw3⟩ (zzj ⟨32, am.cs⟩ ty32 ?_)
 refine zzb (zzd (sq9 (zza 8 (.v (x.v)) (zza 9 (zI x.n) (zyq 10 (x := zI (IntKind.i64.wrap ((x.n : Int) - 1))) (zI ((x.n : Int) - 1)) (eqI (by rw [IntWalk.i64_in _ xq]; try omega)) (zza 6 (zI ((x.n : Int) - 1)) (zzb (zzt (zyn (I := fun ap S' u' => ∃ (k : Nat) (ry : RL), (ap = k) ∧ (k ≤ l.length) ∧ (S' = St.of 24 [(0, .v (x.v)), (3, .adr 3 0), (4, .adr 4 0), (5, .adr 5 0), (6, zI ((k : Int) - 1))] [(3, ⟨32, r.cs⟩), (4, ⟨32, zw3⟩), (5, ⟨32, ry.cs⟩)]) ∧ (Ext aC u') ∧ (RatN u' ry (Nt.Pol.evL (l.drop k) q) ((l.length - k) * S + 2))) (fun m S u1 u2 e h => by obtain ⟨k, ry, hm, p0, hS, hE, f0⟩ := h; exact ⟨k, ry, hm, p0, hS, hE.trans e, f0.ext e⟩) _ yz ⟨x.n, am, rfl, by omega, rfl, (Ext.refl _), (by rw [Nt.ev_drop_all xq]; exact RatN.more (K := 2) au xq)⟩ ?_)))))))))
 rintro ap _ u17 ⟨k, ry, ax, hk, rfl, ac, hY⟩
 have hm1 : (l.length - k) * S ≤ l.length * S := Nat.mul_le_mul_right _ xq
 refine zzd (sq9 (zza 11 (zI ((k : Int) - 1)) (zza 12 (zB (decide ((0 : Int) ≤ ((k : Int) - 1)))) (zzb (zzu (b := decide ((0 : Int) ≤ ((k : Int) - 1))) xj (fun aa => ?_) (fun aa => ?_))))))
 ·have qhb18 := qyt aa
  refine zzs (zzp ?_)
  refine zzd (zzt (zzz [0, 0, 3, 0, 0, 24, 56, 127, 255] [(0, []), (1, []), (3, []), (4, []), (5, []), (6, []), (2, []), (7, []), (8, [])] xj xj (zzi 15 (.v (ry.v)) ty32 zze (zzi 16 (.v (r.v)) ty32 zze (zza 18 (.v (x.v)) (zyq 19 (x := zI ((k : Int) - 1)) (zI (k - 1 : Nat)) (eqI xq) ?_))))))
  have hl19 := (hx.ext (ae.t (af.t ac))).len
  obtain ⟨aB, b19, ao, ai, aj, ah⟩ := pol_at (hx.ext (ae.t (af.t ac))) (i := (k - 1)) xq
  refine zya 20 (ao + (k - 1) * 3) (n := x.n) (off := ao) (sz := 3) (i := ((k - 1 : Nat) : Int)) xq ai xq xq sl27 (zym 21 aB.cs aj ty32 (zzg 17 91 _ fun _ _ ad aA => qym (k_rqMul aA (hY.ext ad).raw (hr.ext (ae.t (af.t (ac.trans ad)))) xq xq) ?_))
  rintro _ u23 an ⟨r21, rfl, aw⟩
  refine zzg 22 58 _ fun _ _ ag aq => qym (k_rqAdd aq (aw.ext ag).raw (ah.ext (ad.t (an.t ag))) xq xq) ?_
  rintro _ u29 ay ⟨ak, rfl, az⟩
  refine zzj ⟨32, ak.cs⟩ ty32 ?_
  refine zzx ?_
  refine zzp (zzf (zza 13 (zI ((k : Int) - 1)) (zyq 14 (x := zI (IntKind.i64.wrap (((k : Int) - 1) - 1))) (zI (((k - 1 : Nat) : Int) - 1)) (eqI (by rw [IntWalk.i64_in _ xq]; try omega)) (zza 6 (zI (((k - 1 : Nat) : Int) - 1)) (zzx ?_)))))
  have hs1 : (l.length - (k - 1)) * S = (l.length - k) * S + S := by rw [show l.length - (k - 1) = (l.length - k) + 1 by omega, Nat.add_mul, Nat.one_mul]
  refine ⟨_, ?_, _, by exact zzv _ _ _, k - 1, ak, rfl, by omega, rfl, (ac.t (ad.t (an.t (ag.t ay.ext)))), (by rw [Nt.ev_drop1 xq xq]; exact RatN.more (K := ((((l.length - k) * S + 2) + M + 1) + K + 2)) az xq)⟩
  omega
 have qhb18 := qyf aa
 refine zyc (zzp (sq9 (zzi 23 (.v (ry.v)) ty32 zze (zzj ⟨32, ry.cs⟩ ty32 ?_))))
 refine zzb (zzo (ret0 [ry.v] ⟨zzr ty32 zze, trivial⟩ fun u32 ar => ?_))
 have al : k = 0 := by omega
 refine ⟨ry, rfl, RatN.more (K := ((l.length - k) * S + 2)) ?_ xq⟩
 have h9 := (hY.ext ar)
 rw [al, Nt.ev_drop0] at h9
 rw [al]
 exact h9
theorem k_r15At {u w : World} {r0 r1 r2 : RL} {x y g : Rat} {s : Sl} {p : List Rat} {K T : Nat} (d : Dat u w) (hr0 : RatN u r0 x 1) (hr1 : RatN u r1 y 1) (hr2 : RatN u r2 g 1) (hS : PolV u s p K) (hl : p.length ≤ 60) (hT : p.length * (K + 5) + 10 ≤ T) (hT9 : T ≤ 10000000) (hK : K ≤ 10000000) : qyc 31 #[.agg #[.bool r0.s, .slice r0.m.a r0.m.n r0.m.c, .slice r0.d.a r0.d.n r0.d.c, .bool r1.s, .slice r1.m.a r1.m.n r1.m.c, .slice r1.d.a r1.d.n r1.d.c, .bool r2.s, .slice r2.m.a r2.m.n r2.m.c, .slice r2.d.a r2.d.n r2.d.c], s.v] w (Post u w fun v u' => ∃ r : RL, v = r.v ∧ RatN u' r (g * (y - Nt.Pol.evL p x)) T) := by
 refine zzm (args := [.agg #[.bool r0.s, r0.m.v, r0.d.v, .bool r1.s, r1.m.v, r1.d.v, .bool r2.s, r2.m.v, r2.d.v], s.v]) Tryz.func31 rfl Tryz.ntmps31 (rs := [.cell 4 32]) Tryz.results31 (le_b rfl) (le_b rfl) d ?_
 refine sq9 (zzk 2 ⟨56, r0.cs ++ r1.cs ++ r2.cs⟩ (zzk 4 ⟨32, zw3⟩ (zzb (zzd (zzz [0, 1, 0, 4, 0, 0, 32, 112, 252, 511, 1023] [(0, []), (1, []), (2, []), (3, []), (4, []), (5, []), (6, []), (7, []), (8, []), (9, []), (10, [])] xj xj (zza 5 (.adr 2 6) (zzi 6 (.v (r2.v)) ty32 zze (zza 7 (.adr 2 3) (zzi 8 (.v (r1.v)) ty32 zze (zza 9 (.v (s.v)) (zza 10 (.adr 2 0) ?_)))))))))))
 refine zzi 11 (.v (r0.v)) ty32 zze (zzg 12 94 _ fun _ _ aa am => qym (k_r5Eval (S := K + 5) am (hS.ext aa) (hr0.ext aa).raw xq xq xq xq xq) ?_)
 rintro _ u14 af ⟨r12, rfl, al⟩
 refine zzg 13 93 _ fun _ _ ad an => qym (k_rqSub an (hr1.ext (aa.t (af.t ad))).raw (al.ext ad).raw xq xq) ?_
 rintro _ u20 ai ⟨r18, rfl, ag⟩
 refine zzg 14 91 _ fun _ _ ae aj => qym (k_rqMul aj (hr2.ext (aa.t (af.t (ad.t (ai.t ae))))).raw (ag.ext ae).raw xq xq) ?_
 rintro _ u26 g27 ⟨ac, rfl, ah⟩
 refine zzj ⟨32, ac.cs⟩ ty32 ?_
 refine zzb (zzo (ret0 [ac.v] ⟨zzr ty32 zze, trivial⟩ fun u29 ak => ?_))
 exact ⟨ac, rfl, RatN.more (K := (1 + (1 + (p.length * (K + 5) + 2) + 2) + 1)) (ah.ext ak) xq⟩
namespace Nt
section
variable {E : List Rat} {i a : Nat}
theorem gs1_up (h : Gst E (max i 1) a) (h0 : i = 0 → a = 0) (hh : decide (absQ (E.getD a 0) < absQ (E.getD i 0)) = true) : Gst E (max (i + 1) 1) i := by
 have h9 : ab (E.getD a 0) < ab (E.getD i 0) := qyt hh
 by_cases c : i = 0
 ·rw [h0 c, c] at h9; exact absurd h9 (by grind)
 rw [show max i 1 = i by omega] at h; rw [show max (i + 1) 1 = i + 1 by omega]; exact h.up h9
theorem gs1_keep (h : Gst E (max i 1) a) (h0 : i = 0 → a = 0) (hh : decide (absQ (E.getD a 0) < absQ (E.getD i 0)) = false) : Gst E (max (i + 1) 1) a := by
 have h9 : ¬ ab (E.getD a 0) < ab (E.getD i 0) := qyf hh
 by_cases c : i = 0
 ·rw [c] at h ⊢; exact h
 rw [show max i 1 = i by omega] at h; rw [show max (i + 1) 1 = i + 1 by omega]; exact h.keep h9
end
end Nt
theorem k_r15Error {u w : World} {y : Sl} {p : List Rat} {K T : Nat} {x : Sl} {N : Nat} {V : List Rat} (d : Dat u w) (hg : GrN u x N V 1) (ho : Nt.GrOK V N) (hy : PolV u y p K) (hl : p.length ≤ 60) (hT : p.length * (K + 5) + 10 ≤ T) (hT9 : T ≤ 10000000) (hK : K ≤ 10000000) : qyc 35 #[x.v, y.v] w (Post u w fun v u' => ∃ (r : RL) (a : Nat), v = .tuple #[r.v, .int .i64 (a : Int), .int .i64 0] ∧ RatN u' r (Nt.absQ (Nt.gE (Nt.gX V) (Nt.gW V) (Nt.gY V) p a)) T ∧ Nt.Gst (Nt.erL V p N) N a) := by
 have hxn : x.n = N := hg.len
 have hN12 := ho.n12
 have hN1 := ho.n1
 have hyl := hy.len
 refine zzm (args := [x.v, y.v]) Tryz.func35 rfl Tryz.ntmps35 (rs := [.cell 4 32, .tmp 5, .tmp 6]) Tryz.results35 (le_b rfl) (le_b rfl) d ?_
 refine sq9 (zzk 4 ⟨32, zw3⟩ (zza 5 (zI 0) (zza 6 (zI 0) (zzb (zzd (sq9 (zza 11 (.v (x.v)) (zzg 12 69 _ fun _ _ ae aY => qym (k_r14Valid aY (hg.ext ae) ho) ?_))))))))
 rintro _ u12 ai rfl
 refine zza 13 (zB false) (zzb (zys xj (zzs (zzp ?_))))
 refine sq9 (zza 15 (.v (x.v)) ?_)
 have a6 : x.n = N := GrN.len (hg.ext (ae.t ai.ext))
 obtain ⟨aw, aD, av, b15, aR, aL, ar, aj, au, aA, ap, ax⟩ := gr_at (hg.ext (ae.t ai.ext)) (i := 0) xq
 refine zya 16 (aR + 0 * 9) (n := x.n) (off := aR) (sz := 9) (i := 0) xq aL xq (by first | omega | (have h9 : 0 < N := xq; omega)) sl23 (zym 17 (aw.cs ++ aD.cs ++ av.cs) (gr_pt ar aj au) ty56 (zza 18 (.v (y.v)) (zzg 19 31 _ fun _ _ ad a1 => qym (k_r15At (r0 := aw) (r1 := aD) (r2 := av) (T := T) a1 (aA.ext ad) (ap.ext ad) (ax.ext ad) (hy.ext (ae.t (ai.t ad))) xq xq xq xq) ?_)))
 rintro _ u19 aJ ⟨r17, rfl, a2⟩
 refine zzg 20 27 _ fun _ _ aH a0 => qym (k_rqAbs a0 (a2.ext aH).raw xq) ?_
 rintro _ aZ aM ⟨aP, rfl, aT⟩
 refine zzk 7 ⟨32, zw3⟩ (zzj ⟨32, aP.cs⟩ ty32 ?_)
 refine zza 8 (zI 0) (zzb (zzd (sq9 (zza 21 (.v (x.v)) (zza 22 (zI x.n) (zza 23 (zI 0) (zzb (zzt (zyn (I := fun aO S' u' => ∃ (i : Nat) (a : Nat) (rm : RL), (aO = N - i) ∧ (i ≤ N) ∧ (Nt.Gst (Nt.erL V p N) (max i 1) a) ∧ (i = 0 → a = 0) ∧ (a < N) ∧ (S' = St.of 41 [(0, .v (x.v)), (1, .v (y.v)), (4, .adr 4 0), (7, .adr 7 0), (8, zI a), (22, zI x.n), (23, zI i)] [(4, ⟨32, zw3⟩), (7, ⟨32, rm.cs⟩)]) ∧ (Ext aZ u') ∧ (RatN u' rm (Nt.absQ ((Nt.erL V p N).getD a 0)) T)) (fun m S u1 u2 e h => by obtain ⟨i, a, rm, hm, p0, p1, p2, p3, hS, hE, f0⟩ := h; exact ⟨i, a, rm, hm, p0, p1, p2, p3, hS, hE.trans e, f0.ext e⟩) _ yz ⟨0, 0, aP, rfl, by omega, (Nt.gst_1 _), (fun _ => rfl), by omega, rfl, (Ext.refl _), (by rw [Nt.erL_at xq]; exact RatN.more (K := T) aT xq)⟩ ?_)))))))))
 rintro aO _ u28 ⟨i, a, rm, aU, hi, hG, aQ, ha9, rfl, am, f0⟩
 refine sq9 (zza 24 (zB (decide ((i : Int) < (x.n : Int)))) (zzb (zzd (zzu (b := decide ((i : Int) < (x.n : Int))) xj (fun af => ?_) (fun af => ?_)))))
 ·have qhb29 := qyt af
  refine zzs (zzp ?_)
  refine zzd (zzt (sq9 (zza 25 (zI i) (zza 9 (zI i) (zzb (sq9 (zza 26 (.v (x.v)) (zza 27 (zI i) ?_))))))))
  have a5 : x.n = N := GrN.len (hg.ext (ae.t (ai.t (ad.t (aJ.t (aH.t (aM.t am)))))))
  obtain ⟨aB, az, aq, b30, aS, aK, aC, aE, ay, ao, an, al⟩ := gr_at (hg.ext (ae.t (ai.t (ad.t (aJ.t (aH.t (aM.t am))))))) (i := i) xq
  refine zya 28 (aS + i * 9) (n := x.n) (off := aS) (sz := 9) (i := (i : Int)) xq aK xq (by first | omega | (have h9 : i < N := xq; omega)) sl23 (zym 29 (aB.cs ++ az.cs ++ aq.cs) (gr_pt aC aE ay) ty56 (zza 30 (.v (y.v)) (zzg 31 31 _ fun _ _ ac a3 => qym (k_r15At (r0 := aB) (r1 := az) (r2 := aq) (T := T) a3 (ao.ext ac) (an.ext ac) (al.ext ac) (hy.ext (ae.t (ai.t (ad.t (aJ.t (aH.t (aM.t (am.trans ac)))))))) xq xq xq xq) ?_)))
  rintro _ u34 aF ⟨r32, rfl, aW⟩
  refine zzg 32 27 _ fun _ _ ak aX => qym (k_rqAbs aX (aW.ext ak).raw xq) ?_
  rintro _ u40 aI ⟨ah, rfl, aN⟩
  refine zzk 10 ⟨32, zw3⟩ (zzj ⟨32, ah.cs⟩ ty32 ?_)
  refine zzb (sq9 (zzi 33 (.v (rm.v)) ty32 zze (zzi 34 (.v (ah.v)) ty32 zze (zzg 35 26 _ fun _ _ ag a4 => qym (k_rqLess a4 (f0.ext (ac.t (aF.t (ak.t (aI.t ag))))).raw (aN.ext ag).raw xq xq) ?_))))
  rintro _ u44 aG rfl
  refine zzc 41 [(0, .v (x.v)), (1, .v (y.v)), (4, .adr 4 0), (7, .adr 7 0), (8, zI a), (9, zI i), (10, .adr 10 0), (22, zI x.n), (23, zI i), (35, zB (decide ((Nt.absQ ((Nt.erL V p N).getD a 0)) < (Nt.absQ ((Nt.gW V i) * ((Nt.gY V i) - Nt.Pol.evL p (Nt.gX V i)))))))] [(4, ⟨32, zw3⟩), (7, ⟨32, rm.cs⟩), (10, ⟨32, ah.cs⟩)] (zzu (b := decide ((Nt.absQ ((Nt.erL V p N).getD a 0)) < (Nt.absQ ((Nt.gW V i) * ((Nt.gY V i) - Nt.Pol.evL p (Nt.gX V i)))))) xj (fun aa => ?_) (fun aa => ?_))
  ·have qhb47 := qyt aa
   refine zzf (zzi 36 (.v (ah.v)) ty32 zze (zza 37 (zI i) (zzj ⟨32, ah.cs⟩ ty32 ?_)))
   refine zza 8 (zI i) (zzx ?_)
   refine zzp (zzf (zyq 38 (x := zI (IntKind.i64.wrap ((i : Int) + 1))) (zI (i + 1 : Nat)) (eqI xk) (zza 23 (zI (i + 1 : Nat)) (zzx ?_))))
   refine ⟨_, ?_, _, by exact zzv _ _ _, i + 1, i, ah, rfl, by omega, (Nt.gs1_up hG aQ (by rw [Nt.erL_at (a := i) xq]; exact aa)), (fun h => by omega), by omega, rfl, (am.t (ac.t (aF.t (ak.t (aI.t (ag.t aG.ext)))))), (by rw [Nt.erL_at (a := i) xq]; exact (aN.ext (ag.t aG.ext)))⟩
   omega
  have qhb47 := qyf aa
  refine zzs (zzp ?_)
  refine zzf (zyq 38 (x := zI (IntKind.i64.wrap ((i : Int) + 1))) (zI (i + 1 : Nat)) (eqI xk) (zza 23 (zI (i + 1 : Nat)) (zzx ?_)))
  refine ⟨_, ?_, _, by exact zzv _ _ _, i + 1, a, rm, rfl, by omega, (Nt.gs1_keep hG aQ (by rw [Nt.erL_at (a := i) xq]; exact aa)), (fun h => by omega), by omega, rfl, (am.t (ac.t (aF.t (ak.t (aI.t (ag.t aG.ext)))))), (f0.ext (ac.t (aF.t (ak.t (aI.t (ag.t aG.ext))))))⟩
  omega
 have qhb29 := qyf af
 refine zyc (zzp (sq9 (zzi 39 (.v (rm.v)) ty32 zze (zza 40 (zI a) (zzj ⟨32, rm.cs⟩ ty32 ?_)))))
 refine zza 5 (zI a) (zza 6 (zI 0) (zzb (zzo (ret0 [rm.v, .int .i64 a, .int .i64 0] ⟨zzr ty32 zze, zzq, zzq, trivial⟩ fun u48 aV => ?_))))
 obtain rfl : i = N := by omega
 have hG9 := hG
 rw [show max i 1 = i by omega] at hG9
 exact ⟨rm, a, rfl, (by have h9 := (f0.ext aV); rw [Nt.erL_at xq] at h9; exact h9), hG9⟩
namespace Nt
def ovR (a : List Rat) (p : Rat) : List Rat := (List.range a.length).map fun j => a.getD j 0 / p
def dotV (M : List (List Rat)) (i : Nat) (v : Nat → Rat) (m : Nat) : Rat := su (fun j => ent M i j * v j) m
def Ker (n m : Nat) (M : List (List Rat)) (v : Nat → Rat) : Prop := ∀ i, i < n → dotV M i v m = 0
def Inj (n : Nat) (M : List (List Rat)) : Prop := ∀ v, Ker n n M v → ∀ j, j < n → v j = 0
structure GI (n m : Nat) (A M : List (List Rat)) (c : Nat) (d : Rat) : Prop where
 len : M.length = n
 row : ∀ i, i < n → (M.getD i []).length = m
 ker : ∀ v, Ker n m M v → Ker n m A v
 unit : ∀ j, j < c → ∀ i, i < n → ent M i j = if i = j then 1 else 0
 dt : n ≤ m → det n (ent A) = d * det n (ent M)
structure GE (n m : Nat) (A M : List (List Rat)) (c : Nat) (d : Rat) (i : Nat) : Prop extends GI n m A M c d where
 piv : ent M c c = 1
 done : ∀ k, k < i → k < n → k ≠ c → ent M k c = 0
section
variable {M A : List (List Rat)} {a b l : List Rat} {n m t f i j c k r : Nat} {p q d : Rat} {v : Nat → Rat}
theorem ovR_len : (ovR a p).length = a.length := by unfold ovR; simp
theorem ovR_at (h : j < a.length) : (ovR a p).getD j 0 = a.getD j 0 / p := mapR_at h
theorem dotV_congr {M N : List (List Rat)} (h : ∀ j, j < m → ent M i j = ent N k j) : dotV M i v m = dotV N k v m := su_congr fun j hj => by rw [h j hj]
theorem GI.start (h1 : A.length = n) (h2 : ∀ i, i < n → (A.getD i []).length = m) : GI n m A A 0 1 :=
 ⟨h1, h2, fun v h => h, fun j hj => absurd hj (Nat.not_lt_zero j), fun _ => by grind⟩
theorem GI.swap (g : GI n m A M c d) (hc : c < n) (hk : k < n) (hck : c < k) : GI n m A (swL M k c []) c (-d) := by
 have hl := g.len
 have hat : ∀ i, (swL M k c []).getD i [] = if i = k then M.getD c [] else if i = c then M.getD k [] else M.getD i [] := fun i => swL_at xq xq
 refine ⟨by rw [swL_len]; exact hl, fun i hi => ?_, fun v h => ?_, fun j hj i hi => ?_, fun hm => ?_⟩
 ·rw [hat]; split
  ·exact g.row c hc
  split
  ·exact g.row k hk
  exact g.row i hi
 ·refine g.ker v fun i hi => ?_
  by_cases e1 : i = k
  ·subst e1
   rw [← h c hc]
   exact dotV_congr fun j hj => by unfold ent; rw [hat c, if_neg xq, if_pos rfl]
  by_cases e2 : i = c
  ·subst e2
   rw [← h k hk]
   exact dotV_congr fun j hj => by unfold ent; rw [hat k, if_pos rfl]
  rw [← h i hi]
  exact dotV_congr fun j hj => by unfold ent; rw [hat i, if_neg e1, if_neg e2]
 ·unfold ent
  rw [hat]
  split
  ·have := g.unit j hj c hc; unfold ent at this; rw [this, if_neg xq, if_neg xq]
  split
  ·have := g.unit j hj k hk; unfold ent at this; rw [this, if_neg xq, if_neg xq]
  exact g.unit j hj i hi
 rw [ent_swap xq xq, det_swap hk hc xq, g.dt hm]; grind
theorem GI.scale (g : GI n m A M c d) (hc : c < n) (hm : c < m) (hp : ent M c c = p) (h0 : p ≠ 0) : GE n m A (M.set c (ovR (M.getD c []) p)) c (d * p) 0 := by
 have hl := g.len
 have hat : ∀ i j, j < m → ent (M.set c (ovR (M.getD c []) p)) i j = if i = c then ent M c j / p else ent M i j := fun i j hj => by
  rw [ent_set]
  by_cases e : i = c
  ·subst e; rw [if_pos ⟨rfl, by omega⟩, if_pos rfl, ovR_at (by rw [g.row i hc]; exact hj)]; rfl
  rw [if_neg (fun h => e h.1.symm), if_neg e]
 refine ⟨⟨by rw [List.length_set]; exact hl, fun i hi => ?_, fun v h => ?_, fun j hj i hi => ?_, fun hm => ?_⟩, ?_, fun k hk => absurd hk (Nat.not_lt_zero k)⟩
 ·rw [getD_setL (y := [])]; split
  ·rw [ovR_len]; exact g.row c hc
  exact g.row i hi
 ·refine g.ker v fun i hi => ?_
  by_cases e : i = c
  ·subst e
   have h1 := h i hc
   have h2 : dotV (M.set i (ovR (M.getD i []) p)) i v m = (1 / p) * dotV M i v m := by
    unfold dotV; rw [← su_mul]
    refine su_congr fun j hj => ?_
    rw [hat i j hj, if_pos rfl]; rw [Rat.div_def, Rat.div_def]; grind
   rw [h2] at h1
   rcases Rat.mul_eq_zero.1 h1 with h3 | h3
   ·exfalso
    have : (1 / p) * p = 1 := by rw [Rat.div_def, Rat.one_mul, Rat.inv_mul_cancel _ h0]
    rw [h3, Rat.zero_mul] at this
    exact absurd this yv
   exact h3
  rw [← h i hi]
  exact dotV_congr fun j hj => by rw [hat i j hj, if_neg e]
 ·rw [hat i j xq]
  split
  ·rename_i e
   subst e
   rw [g.unit j hj i hi, if_neg xq, Rat.div_def, Rat.zero_mul]
  exact g.unit j hj i hi
 ·have h1 := det_scale (M := ent M) (a := 1 / p) hc
  have h2 : det n (ent (M.set c (ovR (M.getD c []) p))) = det n (up (ent M) c fun j => 1 / p * ent M c j) := det_congr fun r s hr hs => by
   rw [hat r s xq]; unfold up
   split
   ·rw [Rat.div_def, Rat.div_def]; grind
   rfl
  rw [h2, h1, g.dt hm]
  have : p * (1 / p) = 1 := by rw [Rat.div_def, Rat.one_mul, Rat.mul_inv_cancel _ h0]
  grind
 rw [hat c c hm, if_pos rfl, hp, Rat.div_def, Rat.mul_inv_cancel _ h0]
theorem GE.skip (g : GE n m A M c d i) (h : i = c ∨ ent M i c = 0) : GE n m A M c d (i + 1) :=
 ⟨g.toGI, g.piv, fun k hk hn hc => by
  rcases Nat.lt_or_ge k i with h1 | h1
  ·exact g.done k h1 hn hc
  have e : k = i := by omega
  subst e
  rcases h with h2 | h2
  ·exact absurd h2 hc
  exact h2⟩
theorem GE.step (g : GE n m A M c d i) (hc : c < n) (hm : c < m) (hi : i < n) (hic : i ≠ c) (hq : ent M i c = q) : GE n m A (M.set i (rowA (M.getD i []) (M.getD c []) (-q))) c d (i + 1) := by
 have hl := g.len
 have hat : ∀ k j, j < m → ent (M.set i (rowA (M.getD i []) (M.getD c []) (-q))) k j = if k = i then ent M i j + (-q) * ent M c j else ent M k j := fun k j hj => by
  rw [ent_set]
  by_cases e : k = i
  ·subst e; rw [if_pos ⟨rfl, by omega⟩, if_pos rfl, rowA_at (by rw [g.row k hi]; exact hj)]; rfl
  rw [if_neg (fun h => e h.1.symm), if_neg e]
 refine ⟨⟨by rw [List.length_set]; exact hl, fun k hk => ?_, fun v h => ?_, fun j hj k hk => ?_, fun hm => ?_⟩, ?_, fun k hk hn hkc => ?_⟩
 ·rw [getD_setL (y := [])]; split
  ·rw [rowA_len]; exact g.row i hi
  exact g.row k hk
 ·refine g.ker v fun k hk => ?_
  have hcc : dotV M c v m = 0 := by
   rw [← h c hc]
   exact dotV_congr fun j hj => by rw [hat c j hj, if_neg (Ne.symm hic)]
  by_cases e : k = i
  ·subst e
   have h1 := h k hk
   have h2 : dotV (M.set k (rowA (M.getD k []) (M.getD c []) (-q))) k v m = dotV M k v m + (-q) * dotV M c v m := by
    unfold dotV; rw [← su_mul, ← su_add]
    refine su_congr fun j hj => ?_
    rw [hat k j hj, if_pos rfl]; grind
   rw [h2, hcc] at h1
   grind
  rw [← h k hk]
  exact dotV_congr fun j hj => by rw [hat k j hj, if_neg e]
 ·rw [hat k j xq]
  split
  ·rename_i e
   subst e
   rw [g.unit j hj k hk, g.unit j hj c hc, if_neg (show ¬ c = j by omega)]; grind
  exact g.unit j hj k hk
 ·rw [g.dt hm]
  congr 1
  rw [← det_shear (M := ent M) (a := -q) hi hc hic]
  exact det_congr fun r s hr hs => by
   rw [hat r s xq]; unfold up; split <;> rfl
 ·rw [hat c c hm, if_neg (Ne.symm hic)]; exact g.piv
 rw [hat k c hm]
 split
 ·rw [hq, g.piv]; grind
 rename_i e
 exact g.done k xq hn hkc
theorem GE.next (g : GE n m A M c d n) (hc : c < n) : GI n m A M (c + 1) d :=
 ⟨g.len, g.row, g.ker, fun j hj i hi => by
  rcases Nat.lt_or_ge j c with h1 | h1
  ·exact g.unit j h1 i hi
  have e : j = c := by omega
  subst e
  by_cases e2 : i = j
  ·subst e2; rw [if_pos rfl]; exact g.piv
  rw [if_neg e2]; exact g.done i hi hi e2, g.dt⟩
theorem su_at : ∀ {n : Nat} {f : Nat → Rat}, k < n → (∀ j, j < n → j ≠ k → f j = 0) → su f n = f k := by
 intro n
 induction n with
 | zero => intro f h; omega
 | succ n ih =>
  intro f hk h
  show su f n + f n = _
  by_cases e : k = n
  ·subst e
   rw [su_0 fun j hj => h j xq xq]; grind
  rw [ih xq (fun j hj hjk => h j xq hjk), h n xq (Ne.symm e)]; grind
theorem su_cut {f : Nat → Rat} (h : n ≤ m) (h0 : ∀ j, n ≤ j → f j = 0) : su f m = su f n := by
 obtain ⟨k, rfl⟩ : ∃ k, m = n + k := ⟨m - n, by omega⟩
 rw [su_split, su_0 fun j _ => h0 (n + j) xq]; grind
theorem GI.pivot (g : GI n m A M c d) (hc : c < n) (hnm : n ≤ m) (hI : Inj n A) (h : ∀ i, c ≤ i → i < n → ent M i c = 0) : False := by
 obtain ⟨v, hv⟩ : ∃ v : Nat → Rat, ∀ j, v j = if j = c then 1 else if j < c then -(ent M j c) else 0 := ⟨_, fun j => rfl⟩
 have hz : ∀ j, n ≤ j → v j = 0 := fun j hj => by rw [hv, if_neg xq, if_neg xq]
 have hk : ∀ X i, dotV X i v m = dotV X i v n := fun X i => su_cut hnm fun j hj => by rw [hz j hj]; grind
 have key : Ker n m M v := fun i hi => by
  rw [hk M i]
  unfold dotV
  rcases Nat.lt_or_ge i c with h2 | h2
  ·have e : ∀ j, j < n → ent M i j * v j = (if j = c then ent M i c else 0) + (if j = i then -(ent M i c) else 0) := fun j hj => by
    rw [hv]
    by_cases e1 : j = c
    ·subst e1; rw [if_pos rfl, if_pos rfl, if_neg xq]; grind
    rw [if_neg e1, if_neg e1]
    by_cases e2 : j < c
    ·rw [if_pos e2, g.unit j e2 i hi]
     by_cases e3 : i = j
     ·subst e3; rw [if_pos rfl, if_pos rfl]; grind
     rw [if_neg e3, if_neg (Ne.symm e3)]; grind
    rw [if_neg e2, if_neg xq]; grind
   rw [su_congr e, su_add, su_at (k := c) hc (fun j _ hj => if_neg hj), su_at (k := i) hi (fun j _ hj => if_neg hj), if_pos rfl, if_pos rfl]; grind
  refine su_0 fun j hj => ?_
  rw [hv]
  by_cases e1 : j = c
  ·subst e1; rw [h i h2 hi]; grind
  rw [if_neg e1]
  by_cases e2 : j < c
  ·rw [if_pos e2, g.unit j e2 i hi, if_neg xq]; grind
  rw [if_neg e2]; grind
 have h1 := hI v (fun i hi => by rw [← hk A i]; exact g.ker v key i hi) c hc
 rw [hv, if_pos rfl] at h1; exact absurd h1 yv
def kz : Nat → Nat → Nat
 | 0, K => K
 | c + 1, K => 4 * kz c K + 6
theorem kz_s {K : Nat} : kz (c + 1) K = 4 * kz c K + 6 := rfl
theorem kz_mono {K : Nat} (h : c ≤ n) : kz c K ≤ kz n K := by
 induction n with
 | zero => rw [show c = 0 by omega]; exact Nat.le_refl _
 | succ n ih =>
  rcases Nat.lt_or_ge n c with h1 | h1
  ·rw [show c = n + 1 by omega]; exact Nat.le_refl _
  have := ih h1; rw [kz_s]; omega
def kfS (c j k1 k0 : Nat) : Nat → Nat → Nat := fun a b => if a = c ∧ b < j then k1 else k0
def kfE (c i j k1 k2 k0 : Nat) : Nat → Nat → Nat := fun a b => if a = c then k2 else if a < i ∨ (a = i ∧ b < j) then k1 else k0
section
variable {x y : Nat}
theorem kfS_old : kfS c j (2 * k + 2) k c j ≤ k := by unfold kfS; rw [if_neg xq]; exact Nat.le_refl _
theorem kfS_el : 2 * k + 2 ≤ kfS c (j + 1) (2 * k + 2) k c j := by unfold kfS; rw [if_pos xq]; exact Nat.le_refl _
theorem kfS_mono : ∀ x y, (x ≠ c ∨ y ≠ j) → kfS c j (2 * k + 2) k x y ≤ kfS c (j + 1) (2 * k + 2) k x y := fun x y h => by unfold kfS; split <;> split <;> omega
theorem kfS_start : ∀ x y, k ≤ kfS c 0 (2 * k + 2) k x y := fun x y => by unfold kfS; split <;> omega
theorem kfS_E : ∀ x y, kfS c j (2 * k + 2) k x y ≤ kfE c 0 0 (4 * k + 6) (2 * k + 2) k x y := fun x y => by unfold kfS kfE; split <;> split <;> (try split) <;> omega
theorem kfE_c : kfE c i j (4 * k + 6) (2 * k + 2) k c y ≤ 2 * k + 2 := by unfold kfE; rw [if_pos rfl]; exact Nat.le_refl _
theorem kfE_o (h : i ≠ c) (h1 : j ≤ y) : kfE c i j (4 * k + 6) (2 * k + 2) k i y ≤ k := by unfold kfE; rw [if_neg h, if_neg xq]; exact Nat.le_refl _
def KfH (i c s k : Nat) : Prop := i ≠ c → s ≤ k
theorem kfE_two : ∃ s, kfE c i 0 (4 * k + 6) (2 * k + 2) k i y ≤ s ∧ s ≤ 2 * k + 2 ∧ KfH i c s k := by
 by_cases h : i = c
 ·exact ⟨2 * k + 2, by rw [h]; exact kfE_c, Nat.le_refl _, fun g => absurd h g⟩
 exact ⟨k, kfE_o h (Nat.zero_le _), by omega, fun _ => Nat.le_refl _⟩
theorem kfE_el (h : i ≠ c) : 4 * k + 6 ≤ kfE c i (j + 1) (4 * k + 6) (2 * k + 2) k i j := by unfold kfE; rw [if_neg h, if_pos xq]; exact Nat.le_refl _
theorem kfE_mono : ∀ x y, (x ≠ i ∨ y ≠ j) → kfE c i j (4 * k + 6) (2 * k + 2) k x y ≤ kfE c i (j + 1) (4 * k + 6) (2 * k + 2) k x y := fun x y h => by unfold kfE; split <;> (try split) <;> (try split) <;> omega
theorem kfE_next : ∀ x y, kfE c i j (4 * k + 6) (2 * k + 2) k x y ≤ kfE c (i + 1) 0 (4 * k + 6) (2 * k + 2) k x y := fun x y => by unfold kfE; split <;> (try split) <;> (try split) <;> omega
theorem kfE_top : kfE c i j (4 * k + 6) (2 * k + 2) k x y ≤ 4 * k + 6 := by unfold kfE; split <;> (try split) <;> omega
end
theorem swL_t (hk : k < M.length) (hc : c < M.length) (h : c ≠ k) : (swL M k c []).getD c [] = M.getD k [] := by
 rw [swL_at hk hc, if_neg h, if_pos rfl]
end
end Nt
end Go.Proofs.YtgmkhhfbckjaeaaGreat
