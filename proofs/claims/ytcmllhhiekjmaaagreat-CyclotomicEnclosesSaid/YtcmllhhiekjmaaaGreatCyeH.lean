/- The reference: arc tangent, pi. Printed by wip/sym/g_ej.py. The reference: pi, the cosine, tightest enclosures. Printed by wip/sym/g_ek.py. The reference: tightest enclosures of pi and of cosines. Printed by wip/sym/g_el.py. -/
import Derived.Test.YtcmllhhiekjmaaaGreatCyeG
set_option linter.unusedVariables false
set_option maxHeartbeats 8000000
namespace Go.Proofs.YtcmllhhiekjmaaaGreat
open Nt
open Go.RowKit
theorem k_wide {u w : World} {a1 a2 : RL} {x1 x2 : Rat} {K k : Nat} (d : Dat u w) (ha1 : RatV u a1 x1 K) (ha2 : RatV u a2 x2 K) (hk : k ≤ 800) (hK : K ≤ 100000) : qyc 274 #[IV a1 a2, .int .i64 (k : Int)] w (Post u w fun v u' => ∃ r1 r2 : RL, v = IV r1 r2 ∧ RatN u' r1 (Nt.gr k (Nt.flU k x1)) (K + 70) ∧ RatN u' r2 (Nt.gr k (Nt.ceU k x2)) (K + 70)) := by
 refine zzl (args := [.agg #[.bool a1.s, a1.m.v, a1.d.v, .bool a2.s, a2.m.v, a2.d.v], .int .i64 k]) Tryz.func274 rfl Tryz.ntmps274 (rs := [.cell 4 34]) Tryz.results274 (le_b rfl) (le_b rfl) d ?_
 refine sq9 (zzj 2 ⟨34, a1.cs ++ a2.cs⟩ (zzj 4 ⟨34, zw6⟩ (zzb (sq9 (zza 8 (zI k) (zzg 9 218 _ fun _ _ aB aM => qym (k_unit (k := k) aM xq) ?_))))))
 rintro _ u14 aC ⟨ai, rfl, aq⟩
 refine zzj 5 ⟨32, zw3⟩ (zzi ⟨32, ai.cs⟩ ty32 ?_)
 refine zzb (sq9 (zza 10 (.adr 2 0) (zzh 11 (.v (a1.v)) ty32 zze (zzh 12 (.v (ai.v)) ty32 zze (zzg 13 22 _ fun _ _ ae aR => qym (k_rqMul aR (ha1.ext (aB.t (aC.t ae))) (aq.ext ae).raw xq xq) ?_)))))
 rintro _ u20 au ⟨r18, rfl, aT⟩
 refine zzg 14 220 _ fun _ _ ak aS => qym (k_floor aS (aT.ext ak).raw xq) ?_
 rintro _ u26 ao ⟨ac, rfl, aK⟩
 refine zxp 15 ⟨132, [.int .u32 1]⟩ 1 (fun ay u30 al aP => ?_)
 refine zza 16 (.v (.agg #[.bool ac.s, ac.m.v, .slice (some ⟨ay, 0, none⟩) 1 1])) (zzj 6 ⟨32, zw3⟩ (zzi ⟨32, ac.cs ++ [.slice (some ⟨ay, 0, none⟩) 1 1]⟩ ty32 ?_))
 refine zzb (sq9 (zza 17 (.adr 2 3) (zzh 18 (.v (a2.v)) ty32 zze (zzh 19 (.v (ai.v)) ty32 zze (zzg 20 22 _ fun _ _ af aY => qym (k_rqMul aY (ha2.ext (aB.t (aC.t (ae.t (au.t (ak.t (ao.t (al.trans af)))))))) (aq.ext (ae.t (au.t (ak.t (ao.t (al.trans af)))))).raw xq xq) ?_)))))
 rintro _ u36 ar ⟨r34, rfl, aE⟩
 refine zzg 21 123 _ fun _ _ ag aX => qym (k_rqNeg aX (aE.ext ag).raw xq) ?_
 rintro _ u42 an ⟨r40, rfl, aV⟩
 refine zzg 22 220 _ fun _ _ am aW => qym (k_floor aW (aV.ext am).raw xq) ?_
 rintro _ u48 av ⟨aw, rfl, aL⟩
 refine zxp 23 ⟨132, [.int .u32 1]⟩ 1 (fun aO u52 ah aG => ?_)
 refine zza 24 (.v (.agg #[.bool aw.s, aw.m.v, .slice (some ⟨aO, 0, none⟩) 1 1])) (zzg 25 123 _ fun _ _ ad aJ => qym (k_rqNeg aJ (rat_mk2 (s := aw.s) (aL.ext (ah.trans ad)).raw ((one_data aG).ext ad).raw) xq) ?_)
 rintro _ u58 ap ⟨az, rfl, aF⟩
 refine zzj 7 ⟨32, zw3⟩ (zzi ⟨32, az.cs⟩ ty32 ?_)
 refine zzb (zzd (zzy [0, 0, 3, 0, 0, 31, 63, 127] [(0, []), (1, []), (3, []), (4, []), (2, []), (5, []), (6, []), (7, [])] xj xj (zzh 26 (.v (.agg #[.bool ac.s, ac.m.v, .slice (some ⟨ay, 0, none⟩) 1 1])) ty32 zze (zzh 27 (.v (ai.v)) ty32 zze (zzh 29 (.v (az.v)) ty32 zze (zzh 30 (.v (ai.v)) ty32 zze (zzg 28 135 _ fun _ _ aj aH => qym (k_rqOver aH (rat_mk2 (s := ac.s) (aK.ext (al.t (af.t (ar.t (ag.t (an.t (am.t (av.t (ah.t (ad.t (ap.t aj))))))))))).raw ((one_data aP).ext (af.t (ar.t (ag.t (an.t (am.t (av.t (ah.t (ad.t (ap.t aj)))))))))).raw) (aq.ext (ae.t (au.t (ak.t (ao.t (al.t (af.t (ar.t (ag.t (an.t (am.t (av.t (ah.t (ad.t (ap.t aj))))))))))))))).raw xq xq) ?_)))))))
 rintro _ u64 aD ⟨ab, rfl, aU⟩
 refine zzg 31 135 _ fun _ _ ax aI => qym (k_rqOver aI (aF.ext (aj.t (aD.t ax))).raw (aq.ext (ae.t (au.t (ak.t (ao.t (al.t (af.t (ar.t (ag.t (an.t (am.t (av.t (ah.t (ad.t (ap.t (aj.t (aD.t ax))))))))))))))))).raw xq xq) ?_
 rintro _ u70 aQ ⟨aa, rfl, aN⟩
 refine zza 32 (.v (.agg #[.bool ab.s, ab.m.v, ab.d.v, .bool aa.s, aa.m.v, aa.d.v])) (zzi ⟨34, ab.cs ++ aa.cs⟩ ty34 ?_)
 refine zzc 33 [(4, .adr 4 0)] [(4, ⟨34, ab.cs ++ aa.cs⟩)] (zzn (ret0 [.agg #[.bool ab.s, ab.m.v, ab.d.v, .bool aa.s, aa.m.v, aa.d.v]] ⟨zzq ty34 zze, trivial⟩ fun u73 aA => ?_))
 refine ⟨ab, aa, rfl, RatN.more (K := ((max (max ((K + (k / 32 + 2) + 1) + 1) 1) 1) + (k / 32 + 2) + 2)) ?_ xq, RatN.more (K := ((max (max ((K + (k / 32 + 2) + 1) + 1) 1) 1) + (k / 32 + 2) + 2)) ?_ xq⟩
 ·have h9 := (aU.ext (ax.t (aQ.t aA)))
  rw [Nt.mk_one] at h9
  exact h9
 have h9 := (aN.ext aA)
 rw [Nt.mk_one, ← Rat.intCast_neg] at h9
 exact h9
theorem k_atan {u w : World} {n k : Nat} (d : Dat u w) (hn : 2 ≤ n) (hn2 : n ≤ 1000) (hk : k ≤ 800) : qyc 276 #[.int .i64 (n : Int), .int .i64 (k : Int)] w (Post u w fun v u' => ∃ (r1 r2 : RL) (a b : Int), v = IV r1 r2 ∧ RatN u' r1 (Nt.gr k a) 40 ∧ RatN u' r2 (Nt.gr k b) 40 ∧ Nt.AtR n k a b) := by
 have hN2 : 4 ≤ n * n := Nat.mul_le_mul hn hn
 have hN3 : n * n ≤ 1000000 := Nat.mul_le_mul hn2 hn2
 have hbig := Nt.big hk
 have hu2 := Nt.u2_pos k
 refine zzl (args := [.int .i64 n, .int .i64 k]) Tryz.func276 rfl Tryz.ntmps276 (rs := [.cell 4 34]) Tryz.results276 (le_b rfl) (le_b rfl) d ?_
 refine sq9 (zzj 4 ⟨34, zw6⟩ (zzb (sq9 (zzg 11 23 _ fun _ _ _ dn => qym (k_rqOf dn (z := 0) xq xq) ?_))))
 rintro _ u14 g15 ⟨r12, rfl, dk⟩
 refine zzg 12 23 _ fun _ _ dj cO => qym (k_rqOf cO (z := 0) xq xq) ?_
 rintro _ u20 dr ⟨r18, rfl, c5⟩
 refine zzg 13 59 _ fun _ _ cy dq => qym (k_r4Make dq (dk.ext (dj.t (dr.t cy))).raw (c5.ext cy).raw xq) ?_
 rintro _ u28 g29 ⟨cm, bY, rfl, cL, cI⟩
 refine zzj 5 ⟨34, zw6⟩ (zzi ⟨34, cm.cs ++ bY.cs⟩ ty34 ?_)
 refine zzb (sq9 (zza 14 (zI n) (zzg 15 24 _ fun _ _ cu db => qym (k_rqFrac db (a := 1) (b := (n : Int)) xq xq xq xq) ?_)))
 rintro _ u34 cz ⟨r32, rfl, dc⟩
 refine zza 16 (zI n) (zzg 17 24 _ fun _ _ ck dD => qym (k_rqFrac dD (a := 1) (b := (n : Int)) xq xq xq xq) ?_)
 rintro _ u40 bO ⟨r38, rfl, dh⟩
 refine zzg 18 59 _ fun _ _ bt c8 => qym (k_r4Make c8 (dc.ext (ck.t (bO.t bt))).raw (dh.ext bt).raw xq) ?_
 rintro _ u48 cv ⟨bu, bw, rfl, c2, cZ⟩
 refine zzj 6 ⟨34, zw6⟩ (zzi ⟨34, bu.cs ++ bw.cs⟩ ty34 ?_)
 refine zzb (sq9 (zzh 19 (.v (.agg #[.bool bu.s, bu.m.v, bu.d.v, .bool bw.s, bw.m.v, bw.d.v])) ty34 zze (zza 20 (zI k) (zzg 21 274 _ fun _ _ bv cG => qym (k_wide (k := k) cG (c2.ext bv).raw (cZ.ext bv).raw xq xq) ?_))))
 rintro _ u56 cx ⟨bG, bA, rfl, cK, cF⟩
 refine zzi ⟨34, bG.cs ++ bA.cs⟩ ty34 ?_
 refine zzb (sq9 (zza 22 (zI n) (zza 23 (zI n) (zyn 24 (x := zI (IntKind.i64.wrap ((n : Int) * (n : Int)))) (zI (n * n : Nat)) (eqI (by rw [← Int.natCast_mul]; exact IntWalk.i64_in _ xq)) (zzg 25 24 _ fun _ _ bq cM => qym (k_rqFrac cM (a := 1) (b := ((n * n : Nat) : Int)) xq xq xq xq) ?_)))))
 rintro _ u62 br ⟨r60, rfl, cW⟩
 refine zza 26 (zI n) (zza 27 (zI n) (zyn 28 (x := zI (IntKind.i64.wrap ((n : Int) * (n : Int)))) (zI (n * n : Nat)) (eqI (by rw [← Int.natCast_mul]; exact IntWalk.i64_in _ xq)) (zzg 29 24 _ fun _ _ bn dv => qym (k_rqFrac dv (a := 1) (b := ((n * n : Nat) : Int)) xq xq xq xq) ?_)))
 rintro _ u68 ba ⟨r66, rfl, c4⟩
 refine zzg 30 59 _ fun _ _ a8 cE => qym (k_r4Make cE (cW.ext (bn.t (ba.t a8))).raw (c4.ext a8).raw xq) ?_
 rintro _ u76 bs ⟨aL, aR, rfl, cw, ct⟩
 refine zzj 7 ⟨34, zw6⟩ (zzi ⟨34, aL.cs ++ aR.cs⟩ ty34 ?_)
 refine zzb (sq9 (zzg 31 23 _ fun _ _ aW dw => qym (k_rqOf dw (z := 1) xq xq) ?_))
 rintro _ u82 aV ⟨r80, rfl, cH⟩
 refine zza 32 (zI k) (zzg 33 218 _ fun _ _ aM c1 => qym (k_unit (k := k) c1 xq) ?_)
 rintro _ u88 aN ⟨r86, rfl, cQ⟩
 refine zzg 34 135 _ fun _ _ aI dz => qym (k_rqOver dz (cH.ext (aM.t (aN.t aI))).raw (cQ.ext aI).raw xq xq) ?_
 rintro _ dp aU ⟨bx, rfl, c9⟩
 refine zzj 8 ⟨32, zw3⟩ (zzi ⟨32, bx.cs⟩ ty32 ?_)
 refine zzc 80 [(1, zI k), (4, .adr 4 0), (5, .adr 5 0), (6, .adr 6 0), (7, .adr 7 0), (8, .adr 8 0)] [(4, ⟨34, zw6⟩), (5, ⟨34, cm.cs ++ bY.cs⟩), (6, ⟨34, bG.cs ++ bA.cs⟩), (7, ⟨34, aL.cs ++ aR.cs⟩), (8, ⟨32, bx.cs⟩)] (sq9 (zza 9 (zI 0) (zzb (zzs (zyl (I := fun cA S' u' => ∃ (j : Nat) (x1 : RL) (x2 : RL) (y1 : RL) (y2 : RL) (a : Int) (b : Int) (cc : Int) (dd : Int), (cA = b.toNat) ∧ (Nt.AtF n k j a b cc dd) ∧ (S' = St.of 80 [(1, zI k), (4, .adr 4 0), (5, .adr 5 0), (6, .adr 6 0), (7, .adr 7 0), (8, .adr 8 0), (9, zI j)] [(4, ⟨34, zw6⟩), (5, ⟨34, y1.cs ++ y2.cs⟩), (6, ⟨34, x1.cs ++ x2.cs⟩), (7, ⟨34, aL.cs ++ aR.cs⟩), (8, ⟨32, bx.cs⟩)]) ∧ (Ext dp u') ∧ (RatN u' x1 (Nt.gr k a) 40) ∧ (RatN u' x2 (Nt.gr k b) 40) ∧ (RatN u' y1 (Nt.gr k cc) 40) ∧ (RatN u' y2 (Nt.gr k dd) 40)) (fun m S u1 u2 e h => by obtain ⟨j, x1, x2, y1, y2, a, b, cc, dd, hm, p0, hS, hE, f0, f1, f2, f3⟩ := h; exact ⟨j, x1, x2, y1, y2, a, b, cc, dd, hm, p0, hS, hE.trans e, f0.ext e, f1.ext e, f2.ext e, f3.ext e⟩) _ yv ⟨0, bG, bA, cm, bY, (Nt.u2 k / (n : Int)), (Nt.cdiv (Nt.u2 k) (n : Int)), 0, 0, rfl, (Nt.AtF.start xq), rfl, (Ext.refl _), (RatN.limG (by have h9 := (cK.ext (bq.t (br.t (bn.t (ba.t (a8.t (bs.t (aW.t (aV.t (aM.t (aN.t (aI.t aU.ext)))))))))))); rw [Nt.lo_self, show (((1 : Int) : Rat) / ((n : Int) : Rat)) = Nt.fr1 (n : Int) from rfl, (Nt.fl_fr xq).1] at h9; exact h9) (by have h8 := (Nt.AtF.start (n := n) (w := k) xq).bd xq; have h7 := (Nt.AtF.start (n := n) (w := k) xq).ab; have h6 := (Nt.AtF.start (n := n) (w := k) xq).p0; omega) (by have h8 := (Nt.AtF.start (n := n) (w := k) xq).bd xq; have h7 := (Nt.AtF.start (n := n) (w := k) xq).ab; have h6 := (Nt.AtF.start (n := n) (w := k) xq).p0; omega) hk), (RatN.limG (by have h9 := (cF.ext (bq.t (br.t (bn.t (ba.t (a8.t (bs.t (aW.t (aV.t (aM.t (aN.t (aI.t aU.ext)))))))))))); rw [Nt.hi_self, show (((1 : Int) : Rat) / ((n : Int) : Rat)) = Nt.fr1 (n : Int) from rfl, (Nt.fl_fr xq).2] at h9; exact h9) (by have h8 := (Nt.AtF.start (n := n) (w := k) xq).bd xq; have h7 := (Nt.AtF.start (n := n) (w := k) xq).ab; have h6 := (Nt.AtF.start (n := n) (w := k) xq).p0; omega) (by have h8 := (Nt.AtF.start (n := n) (w := k) xq).bd xq; have h7 := (Nt.AtF.start (n := n) (w := k) xq).ab; have h6 := (Nt.AtF.start (n := n) (w := k) xq).p0; omega) hk), (by have h9 := (cL.ext (cu.t (cz.t (ck.t (bO.t (bt.t (cv.t (bv.t (cx.t (bq.t (br.t (bn.t (ba.t (a8.t (bs.t (aW.t (aV.t (aM.t (aN.t (aI.t aU.ext)))))))))))))))))))); rw [Nt.lo_self, show ((0 : Int) : Rat) = Nt.gr k 0 from (Nt.gr_zero k).symm] at h9; exact RatN.more h9 xq), (by have h9 := (cI.ext (cu.t (cz.t (ck.t (bO.t (bt.t (cv.t (bv.t (cx.t (bq.t (br.t (bn.t (ba.t (a8.t (bs.t (aW.t (aV.t (aM.t (aN.t (aI.t aU.ext)))))))))))))))))))); rw [Nt.hi_self, show ((0 : Int) : Rat) = Nt.gr k 0 from (Nt.gr_zero k).symm] at h9; exact RatN.more h9 xq)⟩ ?_)))))
 rintro cA _ u97 ⟨j, x1, x2, y1, y2, a, b, cc, dd, cR, hI, rfl, a0, f0, f1, f2, f3⟩
 have hjw := hI.kw
 have hbd := hI.bd xq
 have hab := hI.ab
 have hcd := hI.cd
 have hp0 := hI.p0
 have hp1 := hI.p1
 refine zzd (zzs (zzd (zzy [0, 0, 2, 6, 14, 0, 32, 96, 254, 510, 1023, 0, 4095] [(0, []), (1, []), (2, []), (3, []), (5, []), (6, []), (7, []), (11, []), (4, []), (8, []), (9, []), (10, []), (12, [])] xj xj (zzh 37 (.v (.agg #[.bool x1.s, x1.m.v, x1.d.v, .bool x2.s, x2.m.v, x2.d.v])) ty34 zze (zza 38 (zI j) (zyn 39 (x := zI (IntKind.i64.wrap ((2 : Int) * (j : Int)))) (zI (2 * j : Nat)) (eqI xk) (zyn 40 (x := zI (IntKind.i64.wrap (((2 * j : Nat) : Int) + 1))) (zI (((2 * j) + 1 : Nat) : Int)) (eqI xk) (zza 42 (zI j) (zyn 43 (x := zI (IntKind.i64.wrap ((2 : Int) * (j : Int)))) (zI (2 * j : Nat)) (eqI xk) (zyn 44 (x := zI (IntKind.i64.wrap (((2 * j : Nat) : Int) + 1))) (zI (((2 * j) + 1 : Nat) : Int)) (eqI xk) (zzj 10 ⟨34, zw6⟩ ?_)))))))))))
 refine zzg 41 24 _ fun _ _ ao dx => qym (k_rqFrac dx (a := 1) (b := (((2 * j) + 1 : Nat) : Int)) xq xq xq xq) ?_
 rintro _ cD ai ⟨r99, rfl, bT⟩
 refine zzg 45 24 _ fun _ _ af ca => qym (k_rqFrac ca (a := 1) (b := (((2 * j) + 1 : Nat) : Int)) xq xq xq xq) ?_
 rintro _ df ag ⟨cV, rfl, bB⟩
 refine zzg 46 59 _ fun _ _ ae b1 => qym (k_r4Make b1 (bT.ext (af.t (ag.t ae))).raw (bB.ext ae).raw xq) ?_
 rintro _ cN ah ⟨cY, cU, rfl, cr, bR⟩
 refine zzg 47 62 _ fun _ _ ad ch => qym (k_r4Mul ch (f0.ext (ao.t (ai.t (af.t (ag.t (ae.t (ah.t ad))))))).raw (f1.ext (ao.t (ai.t (af.t (ag.t (ae.t (ah.t ad))))))).raw (cr.ext ad).raw (bR.ext ad).raw xq xq) ?_
 rintro _ a9 aj ⟨aq, ak, rfl, bN, b4⟩
 refine zzi ⟨34, aq.cs ++ ak.cs⟩ ty34 ?_
 refine zzb (zzd (zzd ?_))
 have aX : RatN a9 aq (Nt.gr k a * (Nt.fr1 ((2 * j + 1 : Nat) : Int))) (40 + 3 + 1) := zRc bN ((Nt.at_t hab xq).1)
 have ar : RatN a9 ak (Nt.gr k b * (Nt.fr1 ((2 * j + 1 : Nat) : Int))) (40 + 3 + 1) := zRc b4 ((Nt.at_t hab xq).2)
 refine zzf (zza 48 (.adr 10 3) (zzh 49 (.v (ak.v)) ty32 zze (zzh 50 (.v (bx.v)) ty32 zze (zzg 51 14 _ fun _ _ aa b5 => qym (k_rqCompare b5 (ar.ext aa).raw (c9.ext (a0.t (ao.t (ai.t (af.t (ag.t (ae.t (ah.t (ad.t (aj.t aa)))))))))).raw xq xq) ?_))))
 rintro _ cS ac rfl
 refine zza 52 (zB (decide ((Nt.cmpQ (Nt.gr k b * (Nt.fr1 ((2 * j + 1 : Nat) : Int))) (((1 : Int) : Rat) / (((2 ^ k : Nat) : Int) : Rat))) ≤ 0))) (zzb (zzt (b := decide ((Nt.cmpQ (Nt.gr k b * (Nt.fr1 ((2 * j + 1 : Nat) : Int))) (((1 : Int) : Rat) / (((2 ^ k : Nat) : Int) : Rat))) ≤ 0)) xj (fun al => ?_) (fun al => ?_)))
 ·have qhb132 := qyt al
  refine zzd (zzy [0, 0, 2, 6, 0, 16, 62, 127, 0, 511, 1023] [(0, []), (1, []), (2, []), (4, []), (5, []), (8, []), (3, []), (6, []), (7, []), (9, []), (10, [])] xj xj (zzh 53 (.v (.agg #[.bool y1.s, y1.m.v, y1.d.v, .bool y2.s, y2.m.v, y2.d.v])) ty34 zze (zza 54 (.adr 10 3) (zzh 55 (.v (ak.v)) ty32 zze (zza 57 (.adr 10 3) (zzh 58 (.v (ak.v)) ty32 zze (zza 61 (zI k) (zzg 56 123 _ fun _ _ aQ bK => qym (k_rqNeg bK (ar.ext (aa.t (ac.t aQ))).raw xq) ?_))))))))
  rintro _ di a3 ⟨dy, rfl, ce⟩
  refine zzg 59 59 _ fun _ _ aJ cb => qym (k_r4Make cb (ce.ext aJ).raw (ar.ext (aa.t (ac.t (aQ.t (a3.t aJ))))).raw xq) ?_
  rintro _ dt bf ⟨c7, cT, rfl, cp, b8⟩
  refine zzg 60 61 _ fun _ _ aS bL => qym (k_r4Add bL (f2.ext (ao.t (ai.t (af.t (ag.t (ae.t (ah.t (ad.t (aj.t (aa.t (ac.t (aQ.t (a3.t (aJ.t (bf.t aS))))))))))))))).raw (f3.ext (ao.t (ai.t (af.t (ag.t (ae.t (ah.t (ad.t (aj.t (aa.t (ac.t (aQ.t (a3.t (aJ.t (bf.t aS))))))))))))))).raw (cp.ext aS).raw (b8.ext aS).raw xq xq) ?_
  rintro _ de cB ⟨cC, ds, rfl, cl, bH⟩
  refine zzg 62 274 _ fun _ _ bh b6 => qym (k_wide (k := k) b6 (cl.ext bh).raw (bH.ext bh).raw xq xq) ?_
  rintro _ c6 dC ⟨aD, aC, rfl, bD, bI⟩
  refine zzi ⟨34, aD.cs ++ aC.cs⟩ ty34 ?_
  refine zzb (zzn (zzv (zyr (zzv (zyq (zyr (ret0 [.agg #[.bool aD.s, aD.m.v, aD.d.v, .bool aC.s, aC.m.v, aC.d.v]] ⟨zzq ty34 zze, trivial⟩ fun dA bo => ?_)))))))
  have hle : b ≤ ((2 * j + 1 : Nat) : Int) := by have h9 := al; rw [show (((1 : Int) : Rat) / (((2 ^ k : Nat) : Int) : Rat)) = Nt.gr k 1 from rfl, Nt.at_end xq] at h9; exact qyt h9
  have ho := hI.out xq hle
  have hob := Nt.atR_bd ho xq
  refine ⟨aD, aC, _, _, rfl, RatN.limG (z := (cc - Nt.cdiv b ((2 * j + 1 : Nat) : Int))) (K := ((40 + (40 + 3 + 1) + 2) + 70)) ?_ xq xq hk, RatN.limG (z := (dd + Nt.cdiv b ((2 * j + 1 : Nat) : Int))) (K := ((40 + (40 + 3 + 1) + 2) + 70)) ?_ xq xq hk, ho⟩
  ·have h9 := (bD.ext bo)
   rw [(Nt.at_o xq hcd xq).1] at h9
   exact h9
  have h9 := (bI.ext bo)
  rw [(Nt.at_o xq hcd xq).2] at h9
  exact h9
 have qhb132 := qyf al
 refine zzr (zzo ?_)
 refine zzd (sq9 (zza 63 (zI j) (zza 64 (zI (Int.tmod (j : Int) 2)) (zza 65 (zB ((Int.tmod (j : Int) 2) == 0)) (zzb (zzt (b := (Int.tmod (j : Int) 2) == 0) xj (fun aA => ?_) (fun aA => ?_)))))))
 ·have ax : Int.tmod (j : Int) 2 = (j : Int) % 2 := Int.tmod_eq_emod_of_nonneg xq
  have an :  j % 2 = 0 := by have h9 := aA; rw [ax] at h9; simp at h9; omega
  refine zzf (zzh 66 (.v (.agg #[.bool y1.s, y1.m.v, y1.d.v, .bool y2.s, y2.m.v, y2.d.v])) ty34 zze (zzh 67 (.v (.agg #[.bool aq.s, aq.m.v, aq.d.v, .bool ak.s, ak.m.v, ak.d.v])) ty34 zze (zzg 68 61 _ fun _ _ ap b7 => qym (k_r4Add b7 (f2.ext (ao.t (ai.t (af.t (ag.t (ae.t (ah.t (ad.t (aj.t (aa.t (ac.t ap))))))))))).raw (f3.ext (ao.t (ai.t (af.t (ag.t (ae.t (ah.t (ad.t (aj.t (aa.t (ac.t ap))))))))))).raw (aX.ext (aa.t (ac.t ap))).raw (ar.ext (aa.t (ac.t ap))).raw xq xq) ?_)))
  rintro _ dg aH ⟨aK, aP, rfl, cg, bz⟩
  refine zzi ⟨34, aK.cs ++ aP.cs⟩ ty34 ?_
  refine zzb (sq9 (zzh 72 (.v (.agg #[.bool aK.s, aK.m.v, aK.d.v, .bool aP.s, aP.m.v, aP.d.v])) ty34 zze (zza 73 (zI k) (zzg 74 274 _ fun _ _ av cj => qym (k_wide (k := k) cj (cg.ext av).raw (bz.ext av).raw xq xq) ?_))))
  rintro _ be aB ⟨a7, a5, rfl, bZ, bW⟩
  refine zzi ⟨34, a7.cs ++ a5.cs⟩ ty34 ?_
  refine zzb ?_
  have bl : RatN be a7 (Nt.gr k (cc + a / ((2 * j + 1 : Nat) : Int))) ((40 + (40 + 3 + 1) + 2) + 70) := zRc bZ (by rw [(Nt.at_a (D := ((2 * j + 1 : Nat) : Int)) hab hcd xq).1])
  have bi : RatN be a5 (Nt.gr k (dd + Nt.cdiv b ((2 * j + 1 : Nat) : Int))) ((40 + (40 + 3 + 1) + 2) + 70) := zRc bW (by rw [(Nt.at_a (D := ((2 * j + 1 : Nat) : Int)) hab hcd xq).2])
  refine zzf (zzh 75 (.v (.agg #[.bool x1.s, x1.m.v, x1.d.v, .bool x2.s, x2.m.v, x2.d.v])) ty34 zze (zzh 76 (.v (.agg #[.bool aL.s, aL.m.v, aL.d.v, .bool aR.s, aR.m.v, aR.d.v])) ty34 zze (zzg 77 62 _ fun _ _ ay bS => qym (k_r4Mul bS (f0.ext (ao.t (ai.t (af.t (ag.t (ae.t (ah.t (ad.t (aj.t (aa.t (ac.t (ap.t (aH.t (av.t (aB.t ay))))))))))))))).raw (f1.ext (ao.t (ai.t (af.t (ag.t (ae.t (ah.t (ad.t (aj.t (aa.t (ac.t (ap.t (aH.t (av.t (aB.t ay))))))))))))))).raw (cw.ext (aW.t (aV.t (aM.t (aN.t (aI.t (aU.t (a0.t (ao.t (ai.t (af.t (ag.t (ae.t (ah.t (ad.t (aj.t (aa.t (ac.t (ap.t (aH.t (av.t (aB.t ay)))))))))))))))))))))).raw (ct.ext (aW.t (aV.t (aM.t (aN.t (aI.t (aU.t (a0.t (ao.t (ai.t (af.t (ag.t (ae.t (ah.t (ad.t (aj.t (aa.t (ac.t (ap.t (aH.t (av.t (aB.t ay)))))))))))))))))))))).raw xq xq) ?_)))
  rintro _ dB a4 ⟨cX, cJ, rfl, b0, bC⟩
  refine zza 78 (zI k) (zzg 79 274 _ fun _ _ az cq => qym (k_wide (k := k) cq (b0.ext az).raw (bC.ext az).raw xq xq) ?_)
  rintro _ dm aY ⟨bm, bb, rfl, b3, bP⟩
  refine zzi ⟨34, bm.cs ++ bb.cs⟩ ty34 ?_
  refine zzw ?_
  refine zzo (zzf (zza 35 (zI j) (zyn 36 (x := zI (IntKind.i64.wrap ((j : Int) + 1))) (zI (j + 1 : Nat)) (eqI xk) (zza 9 (zI (j + 1 : Nat)) (zzw ?_)))))
  have hlt : ((2 * j + 1 : Nat) : Int) < b := by have h9 := al; rw [show (((1 : Int) : Rat) / (((2 ^ k : Nat) : Int) : Rat)) = Nt.gr k 1 from rfl, Nt.at_end xq] at h9; have h8 := qyf h9; omega
  have hgo := hI.go hn hlt (.inl ⟨an, rfl, rfl⟩)
  have hb9 := hgo.1.bd xq
  have ha9 := hgo.1.ab
  have hc9 := hgo.1.cd
  have h09 := hgo.1.p0
  have hm9 := hgo.2
  refine ⟨_, ?_, _, by exact zzu _ _ _, j + 1, bm, bb, a7, a5, (a / ((n * n : Nat) : Int)), (Nt.cdiv b ((n * n : Nat) : Int)), (cc + a / ((2 * j + 1 : Nat) : Int)), (dd + Nt.cdiv b ((2 * j + 1 : Nat) : Int)), rfl, hgo.1, rfl, (a0.t (ao.t (ai.t (af.t (ag.t (ae.t (ah.t (ad.t (aj.t (aa.t (ac.t (ap.t (aH.t (av.t (aB.t (ay.t (a4.t (az.t aY.ext)))))))))))))))))), (RatN.limG (by have h9 := b3; rw [show (((1 : Int) : Rat) / ((((n * n : Nat) : Int)) : Rat)) = Nt.fr1 ((n * n : Nat) : Int) from rfl, (Nt.at_x hab xq).1] at h9; exact h9) xq xq hk), (RatN.limG (by have h9 := bP; rw [show (((1 : Int) : Rat) / ((((n * n : Nat) : Int)) : Rat)) = Nt.fr1 ((n * n : Nat) : Int) from rfl, (Nt.at_x hab xq).2] at h9; exact h9) xq xq hk), (RatN.limG (bl.ext (ay.t (a4.t (az.t aY.ext)))) xq xq hk), (RatN.limG (bi.ext (ay.t (a4.t (az.t aY.ext)))) xq xq hk)⟩
  omega
 have ax : Int.tmod (j : Int) 2 = (j : Int) % 2 := Int.tmod_eq_emod_of_nonneg xq
 have an : ¬ j % 2 = 0 := by have h9 := aA; rw [ax] at h9; simp at h9; omega
 refine zzf (zzh 69 (.v (.agg #[.bool y1.s, y1.m.v, y1.d.v, .bool y2.s, y2.m.v, y2.d.v])) ty34 zze (zzh 70 (.v (.agg #[.bool aq.s, aq.m.v, aq.d.v, .bool ak.s, ak.m.v, ak.d.v])) ty34 zze (zzg 71 89 _ fun _ _ am bQ => qym (k_r4Sub bQ (f2.ext (ao.t (ai.t (af.t (ag.t (ae.t (ah.t (ad.t (aj.t (aa.t (ac.t am))))))))))).raw (f3.ext (ao.t (ai.t (af.t (ag.t (ae.t (ah.t (ad.t (aj.t (aa.t (ac.t am))))))))))).raw (aX.ext (aa.t (ac.t am))).raw (ar.ext (aa.t (ac.t am))).raw xq xq) ?_)))
 rintro _ c3 aE ⟨aT, aO, rfl, bE, bU⟩
 refine zzi ⟨34, aT.cs ++ aO.cs⟩ ty34 ?_
 refine zzb (sq9 (zzh 72 (.v (.agg #[.bool aT.s, aT.m.v, aT.d.v, .bool aO.s, aO.m.v, aO.d.v])) ty34 zze (zza 73 (zI k) (zzg 74 274 _ fun _ _ au ci => qym (k_wide (k := k) ci (bE.ext au).raw (bU.ext au).raw xq xq) ?_))))
 rintro _ bj aG ⟨a6, a2, rfl, bJ, bM⟩
 refine zzi ⟨34, a6.cs ++ a2.cs⟩ ty34 ?_
 refine zzb ?_
 have bp : RatN bj a6 (Nt.gr k (cc - Nt.cdiv b ((2 * j + 1 : Nat) : Int))) ((40 + (40 + 3 + 1) + 2) + 70) := zRc bJ (by rw [(Nt.at_s (D := ((2 * j + 1 : Nat) : Int)) hab hcd xq).1])
 have bc : RatN bj a2 (Nt.gr k (dd - a / ((2 * j + 1 : Nat) : Int))) ((40 + (40 + 3 + 1) + 2) + 70) := zRc bM (by rw [(Nt.at_s (D := ((2 * j + 1 : Nat) : Int)) hab hcd xq).2])
 refine zzf (zzh 75 (.v (.agg #[.bool x1.s, x1.m.v, x1.d.v, .bool x2.s, x2.m.v, x2.d.v])) ty34 zze (zzh 76 (.v (.agg #[.bool aL.s, aL.m.v, aL.d.v, .bool aR.s, aR.m.v, aR.d.v])) ty34 zze (zzg 77 62 _ fun _ _ aw bV => qym (k_r4Mul bV (f0.ext (ao.t (ai.t (af.t (ag.t (ae.t (ah.t (ad.t (aj.t (aa.t (ac.t (am.t (aE.t (au.t (aG.t aw))))))))))))))).raw (f1.ext (ao.t (ai.t (af.t (ag.t (ae.t (ah.t (ad.t (aj.t (aa.t (ac.t (am.t (aE.t (au.t (aG.t aw))))))))))))))).raw (cw.ext (aW.t (aV.t (aM.t (aN.t (aI.t (aU.t (a0.t (ao.t (ai.t (af.t (ag.t (ae.t (ah.t (ad.t (aj.t (aa.t (ac.t (am.t (aE.t (au.t (aG.t aw)))))))))))))))))))))).raw (ct.ext (aW.t (aV.t (aM.t (aN.t (aI.t (aU.t (a0.t (ao.t (ai.t (af.t (ag.t (ae.t (ah.t (ad.t (aj.t (aa.t (ac.t (am.t (aE.t (au.t (aG.t aw)))))))))))))))))))))).raw xq xq) ?_)))
 rintro _ da aZ ⟨c0, cP, rfl, b2, bX⟩
 refine zza 78 (zI k) (zzg 79 274 _ fun _ _ aF cf => qym (k_wide (k := k) cf (b2.ext aF).raw (bX.ext aF).raw xq xq) ?_)
 rintro _ du a1 ⟨bg, bk, rfl, bF, b9⟩
 refine zzi ⟨34, bg.cs ++ bk.cs⟩ ty34 ?_
 refine zzw ?_
 refine zzo (zzf (zza 35 (zI j) (zyn 36 (x := zI (IntKind.i64.wrap ((j : Int) + 1))) (zI (j + 1 : Nat)) (eqI xk) (zza 9 (zI (j + 1 : Nat)) (zzw ?_)))))
 have hlt : ((2 * j + 1 : Nat) : Int) < b := by have h9 := al; rw [show (((1 : Int) : Rat) / (((2 ^ k : Nat) : Int) : Rat)) = Nt.gr k 1 from rfl, Nt.at_end xq] at h9; have h8 := qyf h9; omega
 have hgo := hI.go hn hlt (.inr ⟨an, rfl, rfl⟩)
 have hb9 := hgo.1.bd xq
 have ha9 := hgo.1.ab
 have hc9 := hgo.1.cd
 have h09 := hgo.1.p0
 have hm9 := hgo.2
 refine ⟨_, ?_, _, by exact zzu _ _ _, j + 1, bg, bk, a6, a2, (a / ((n * n : Nat) : Int)), (Nt.cdiv b ((n * n : Nat) : Int)), (cc - Nt.cdiv b ((2 * j + 1 : Nat) : Int)), (dd - a / ((2 * j + 1 : Nat) : Int)), rfl, hgo.1, rfl, (a0.t (ao.t (ai.t (af.t (ag.t (ae.t (ah.t (ad.t (aj.t (aa.t (ac.t (am.t (aE.t (au.t (aG.t (aw.t (aZ.t (aF.t a1.ext)))))))))))))))))), (RatN.limG (by have h9 := bF; rw [show (((1 : Int) : Rat) / ((((n * n : Nat) : Int)) : Rat)) = Nt.fr1 ((n * n : Nat) : Int) from rfl, (Nt.at_x hab xq).1] at h9; exact h9) xq xq hk), (RatN.limG (by have h9 := b9; rw [show (((1 : Int) : Rat) / ((((n * n : Nat) : Int)) : Rat)) = Nt.fr1 ((n * n : Nat) : Int) from rfl, (Nt.at_x hab xq).2] at h9; exact h9) xq xq hk), (RatN.limG (bp.ext (aw.t (aZ.t (aF.t a1.ext)))) xq xq hk), (RatN.limG (bc.ext (aw.t (aZ.t (aF.t a1.ext)))) xq xq hk)⟩
 omega
theorem k_r10pi {u w : World} {k : Nat} (d : Dat u w) (hk0 : 16 ≤ k) (hk : k ≤ 800) : qyc 167 #[.int .i64 (k : Int)] w (Post u w fun v u' => ∃ (r1 r2 : RL) (a b : Int), v = IV r1 r2 ∧ RatN u' r1 (Nt.gr k a) 40 ∧ RatN u' r2 (Nt.gr k b) 40 ∧ Nt.PiR k a b) := by
 have hbig := Nt.big hk
 have hu2 := Nt.u2_pos k
 refine zzl (args := [.int .i64 k]) Tryz.func167 rfl Tryz.ntmps167 (rs := [.cell 2 34]) Tryz.results167 (le_b rfl) (le_b rfl) d ?_
 refine sq9 (zzj 2 ⟨34, zw6⟩ (zzb (sq9 (zza 5 (zI k) (zzg 6 276 _ fun _ _ _ a6 => qym (k_atan a6 (n := 5) (k := k) xq xq xq) ?_)))))
 rintro _ u13 g14 ⟨aY, aV, al, an, rfl, aB, az, aj⟩
 refine zzg 7 23 _ fun _ _ aL a9 => qym (k_rqOf a9 (z := 16) xq xq) ?_
 rintro _ u19 aP ⟨r17, rfl, aS⟩
 refine zzg 8 23 _ fun _ _ aH bi => qym (k_rqOf bi (z := 16) xq xq) ?_
 rintro _ u25 aE ⟨r23, rfl, bk⟩
 refine zzg 9 59 _ fun _ _ ax aU => qym (k_r4Make aU (aS.ext (aH.t (aE.t ax))).raw (bk.ext ax).raw xq) ?_
 rintro _ u33 aN ⟨r29, r31, rfl, a8, a1⟩
 refine zzg 10 62 _ fun _ _ au bb => qym (k_r4Mul bb (aB.ext (aL.t (aP.t (aH.t (aE.t (ax.t (aN.t au))))))).raw (az.ext (aL.t (aP.t (aH.t (aE.t (ax.t (aN.t au))))))).raw (a8.ext au).raw (a1.ext au).raw xq xq) ?_
 rintro _ aK g42 ⟨ah, am, rfl, aT, ba⟩
 refine zzj 3 ⟨34, zw6⟩ (zzi ⟨34, ah.cs ++ am.cs⟩ ty34 ?_)
 refine zzb (zzd ?_)
 have hab44 := (Nt.atR_bd aj xq).2.2.2.2
 have ay : RatN aK ah (Nt.gr k (al * 16)) (40 + 2 + 1) := zRc aT ((Nt.pi_m (m := 16) hab44).1)
 have aA : RatN aK am (Nt.gr k (an * 16)) (40 + 2 + 1) := zRc ba ((Nt.pi_m (m := 16) hab44).2)
 refine zzf (zza 11 (zI k) (zzg 12 276 _ fun _ _ aI a3 => qym (k_atan a3 (n := 239) (k := k) xq xq xq) ?_))
 rintro _ u49 aO ⟨be, a0, ag, af, rfl, aD, aG, ae⟩
 refine zzg 13 23 _ fun _ _ aw aZ => qym (k_rqOf aZ (z := 4) xq xq) ?_
 rintro _ u55 ar ⟨r53, rfl, bc⟩
 refine zzg 14 23 _ fun _ _ ap bj => qym (k_rqOf bj (z := 4) xq xq) ?_
 rintro _ u61 ak ⟨r59, rfl, bf⟩
 refine zzg 15 59 _ fun _ _ aa aR => qym (k_r4Make aR (bc.ext (ap.t (ak.t aa))).raw (bf.ext aa).raw xq) ?_
 rintro _ u69 av ⟨r65, r67, rfl, a5, a2⟩
 refine zzg 16 62 _ fun _ _ ab bg => qym (k_r4Mul bg (aD.ext (aw.t (ar.t (ap.t (ak.t (aa.t (av.t ab))))))).raw (aG.ext (aw.t (ar.t (ap.t (ak.t (aa.t (av.t ab))))))).raw (a5.ext ab).raw (a2.ext ab).raw xq xq) ?_
 rintro _ aM aJ ⟨ac, ai, rfl, a7, bh⟩
 refine zzj 4 ⟨34, zw6⟩ (zzi ⟨34, ac.cs ++ ai.cs⟩ ty34 ?_)
 refine zzb (zzd ?_)
 have hab80 := (Nt.atR_bd ae xq).2.2.2.2
 have aF : RatN aM ac (Nt.gr k (ag * 4)) (40 + 2 + 1) := zRc a7 ((Nt.pi_m (m := 4) hab80).1)
 have aC : RatN aM ai (Nt.gr k (af * 4)) (40 + 2 + 1) := zRc bh ((Nt.pi_m (m := 4) hab80).2)
 refine zzf (zzh 17 (.v (.agg #[.bool ah.s, ah.m.v, ah.d.v, .bool am.s, am.m.v, am.d.v])) ty34 zze (zzh 18 (.v (.agg #[.bool ac.s, ac.m.v, ac.d.v, .bool ai.s, ai.m.v, ai.d.v])) ty34 zze (zzg 19 89 _ fun _ _ aq a4 => qym (k_r4Sub a4 (ay.ext (aI.t (aO.t (aw.t (ar.t (ap.t (ak.t (aa.t (av.t (ab.t (aJ.t aq))))))))))).raw (aA.ext (aI.t (aO.t (aw.t (ar.t (ap.t (ak.t (aa.t (av.t (ab.t (aJ.t aq))))))))))).raw (aF.ext aq).raw (aC.ext aq).raw xq xq) ?_)))
 rintro _ u88 g89 ⟨ad, ao, rfl, aX, aW⟩
 refine zzi ⟨34, ad.cs ++ ao.cs⟩ ty34 ?_
 refine zzb (zzn (ret0 [.agg #[.bool ad.s, ad.m.v, ad.d.v, .bool ao.s, ao.m.v, ao.d.v]] ⟨zzq ty34 zze, trivial⟩ fun u91 aQ => ?_))
 have hP := Nt.PiR.of aj ae
 have hb9 := hP.bd hk0
 refine ⟨ad, ao, _, _, rfl, RatN.limG (K := ((40 + 2 + 1) + (40 + 2 + 1) + 2)) (z := al * 16 - af * 4) ?_ xq xq hk, RatN.limG (K := ((40 + 2 + 1) + (40 + 2 + 1) + 2)) (z := an * 16 - ag * 4) ?_ xq xq hk, hP⟩
 ·have h9 := (aX.ext aQ)
  rw [(Nt.cs_s xq xq).1] at h9
  exact h9
 have h9 := (aW.ext aQ)
 rw [(Nt.cs_s xq xq).2] at h9
 exact h9
theorem k_r10cos {u w : World} {a1 a2 : RL} {p q k K : Nat} {a b : Int} (d : Dat u w) (hP : Nt.PiR k a b) (hq0 : 0 < q) (hp : 2 * p ≤ q) (hp1 : 1 ≤ p) (hk0 : 16 ≤ k) (hk : k ≤ 800) (ha1 : RatN u a1 (Nt.gr k a * (((p : Int) : Rat) / ((q : Int) : Rat))) K) (ha2 : RatN u a2 (Nt.gr k b * (((p : Int) : Rat) / ((q : Int) : Rat))) K) (hK : K ≤ 1000) : qyc 166 #[IV a1 a2, .int .i64 (k : Int)] w (Post u w fun v u' => ∃ (r1 r2 : RL) (a b : Int), v = IV r1 r2 ∧ RatN u' r1 (Nt.gr k a) 40 ∧ RatN u' r2 (Nt.gr k b) 40 ∧ Nt.CsR p q k a b) := by
 have hbig := Nt.big hk
 have hu2 := Nt.u2_pos k
 have hw0 := Nt.csW_le hk
 have ec : Nt.CsQ p q k (Nt.flU k ((Nt.gr k a * (((p : Int) : Rat) / ((q : Int) : Rat))) * (Nt.gr k a * (((p : Int) : Rat) / ((q : Int) : Rat))))) (Nt.ceU k ((Nt.gr k b * (((p : Int) : Rat) / ((q : Int) : Rat))) * (Nt.gr k b * (((p : Int) : Rat) / ((q : Int) : Rat))))) ∧ 0 ≤ (Nt.gr k a * (((p : Int) : Rat) / ((q : Int) : Rat))) ∧ (Nt.gr k a * (((p : Int) : Rat) / ((q : Int) : Rat))) ≤ (Nt.gr k b * (((p : Int) : Rat) / ((q : Int) : Rat))) ∧ 0 < (Nt.gr k b * (((p : Int) : Rat) / ((q : Int) : Rat))) := Nt.CsQ.ofR hP hk0 hq0 hp hp1
 obtain ⟨hQ, d7, hxy, ex⟩ := ec
 have hS := Nt.sq_of_nn d7 hxy ex
 obtain ⟨ql, hql⟩ : ∃ z : Int, Nt.flU k ((Nt.gr k a * (((p : Int) : Rat) / ((q : Int) : Rat))) * (Nt.gr k a * (((p : Int) : Rat) / ((q : Int) : Rat)))) = z := ⟨_, rfl⟩
 obtain ⟨qh, hqh⟩ : ∃ z : Int, Nt.ceU k ((Nt.gr k b * (((p : Int) : Rat) / ((q : Int) : Rat))) * (Nt.gr k b * (((p : Int) : Rat) / ((q : Int) : Rat)))) = z := ⟨_, rfl⟩
 rw [hql, hqh] at hQ
 obtain ⟨_, hQ2, bh, hQ4, bi, hQ6⟩ := id hQ
 refine zzl (args := [.agg #[.bool a1.s, a1.m.v, a1.d.v, .bool a2.s, a2.m.v, a2.d.v], .int .i64 k]) Tryz.func166 rfl Tryz.ntmps166 (rs := [.cell 4 34]) Tryz.results166 (le_b rfl) (le_b rfl) d ?_
 refine sq9 (zzj 2 ⟨34, a1.cs ++ a2.cs⟩ (zzj 4 ⟨34, zw6⟩ (zzb (sq9 (zzg 11 23 _ fun _ _ dW ez => qym (k_rqOf ez (z := 0) xq xq) ?_)))))
 rintro _ u14 dU ⟨r12, rfl, ey⟩
 refine zzg 12 23 _ fun _ _ dE el => qym (k_rqOf el (z := 0) xq xq) ?_
 rintro _ u20 c1 ⟨r18, rfl, er⟩
 refine zzg 13 59 _ fun _ _ cw eB => qym (k_r4Make eB (ey.ext (dE.t (c1.t cw))).raw (er.ext cw).raw xq) ?_
 rintro _ u28 dR ⟨dT, dP, rfl, d2, d0⟩
 refine zzj 5 ⟨34, zw6⟩ (zzi ⟨34, dT.cs ++ dP.cs⟩ ty34 ?_)
 refine zzb (sq9 (zzg 14 23 _ fun _ _ cx et => qym (k_rqOf et (z := 1) xq xq) ?_))
 rintro _ u34 cz ⟨r32, rfl, e8⟩
 refine zzg 15 23 _ fun _ _ cl ej => qym (k_rqOf ej (z := 1) xq xq) ?_
 rintro _ u40 bT ⟨r38, rfl, eu⟩
 refine zzg 16 59 _ fun _ _ bN eP => qym (k_r4Make eP (e8.ext (cl.t (bT.t bN))).raw (eu.ext bN).raw xq) ?_
 rintro _ u48 cr ⟨dQ, dV, rfl, e7, e5⟩
 refine zzj 6 ⟨34, zw6⟩ (zzi ⟨34, dQ.cs ++ dV.cs⟩ ty34 ?_)
 refine zzb (sq9 (zzh 17 (.v (.agg #[.bool a1.s, a1.m.v, a1.d.v, .bool a2.s, a2.m.v, a2.d.v])) ty34 zze (zzg 18 275 _ fun _ _ bO dZ => qym (k_r4Square dZ (ha1.ext (dW.t (dU.t (dE.t (c1.t (cw.t (dR.t (cx.t (cz.t (cl.t (bT.t (bN.t (cr.t bO))))))))))))).raw (ha2.ext (dW.t (dU.t (dE.t (c1.t (cw.t (dR.t (cx.t (cz.t (cl.t (bT.t (bN.t (cr.t bO))))))))))))).raw xq) ?_)))
 rintro _ u56 cu ⟨r52, r54, rfl, d1, e0⟩
 refine zza 19 (zI k) (zzg 20 274 _ fun _ _ bP d3 => qym (k_wide (k := k) d3 (d1.ext bP).raw (e0.ext bP).raw xq xq) ?_)
 rintro _ cv ct ⟨an, am, rfl, ep, ei⟩
 refine zzj 7 ⟨34, zw6⟩ (zzi ⟨34, an.cs ++ am.cs⟩ ty34 ?_)
 refine zzb (zzd ?_)
 have cA : RatN cv an (Nt.gr k ql) ((K + K + 3) + 70) := zRc ep ((congrArg (fun z => Nt.gr k (Nt.flU k z)) hS.1).trans (by rw [hql]))
 have dO : RatN cv am (Nt.gr k qh) ((K + K + 3) + 70) := zRc ei ((congrArg (fun z => Nt.gr k (Nt.ceU k z)) hS.2).trans (by rw [hqh]))
 have bc : RatN cv an (Nt.gr k ql) 40 := RatN.limG cA xq xq hk
 have be : RatN cv am (Nt.gr k qh) 40 := RatN.limG dO xq xq hk
 refine zzf (zzg 21 23 _ fun _ _ aO dX => qym (k_rqOf dX (z := 1) xq xq) ?_)
 rintro _ u74 aP ⟨r72, rfl, ew⟩
 refine zza 22 (zI k) (zzg 23 218 _ fun _ _ aM eL => qym (k_unit (k := k) eL xq) ?_)
 rintro _ u80 aL ⟨r78, rfl, eY⟩
 refine zzg 24 135 _ fun _ _ aI ee => qym (k_rqOver ee (ew.ext (aM.t (aL.t aI))).raw (eY.ext aI).raw xq xq) ?_
 rintro _ eo aN ⟨b0, rfl, eK⟩
 refine zzj 8 ⟨32, zw3⟩ (zzi ⟨32, b0.cs⟩ ty32 ?_)
 refine zzb (sq9 (zza 9 (zI 0) (zzb (zzs (zyl (I := fun dS S' u' => ∃ (j : Nat) (x1 : RL) (x2 : RL) (y1 : RL) (y2 : RL) (tl : Int) (th : Int) (cc : Int) (dd : Int), (dS = Nt.csMF k j th) ∧ (Nt.CsF p q k j tl th cc dd) ∧ (S' = St.of 70 [(1, zI k), (4, .adr 4 0), (5, .adr 5 0), (6, .adr 6 0), (7, .adr 7 0), (8, .adr 8 0), (9, zI j)] [(4, ⟨34, zw6⟩), (5, ⟨34, y1.cs ++ y2.cs⟩), (6, ⟨34, x1.cs ++ x2.cs⟩), (7, ⟨34, an.cs ++ am.cs⟩), (8, ⟨32, b0.cs⟩)]) ∧ (Ext eo u') ∧ (RatN u' x1 (Nt.gr k tl) 40) ∧ (RatN u' x2 (Nt.gr k th) 40) ∧ (RatN u' y1 (Nt.gr k cc) 40) ∧ (RatN u' y2 (Nt.gr k dd) 40)) (fun m S u1 u2 e h => by obtain ⟨j, x1, x2, y1, y2, tl, th, cc, dd, hm, p0, hS, hE, f0, f1, f2, f3⟩ := h; exact ⟨j, x1, x2, y1, y2, tl, th, cc, dd, hm, p0, hS, hE.trans e, f0.ext e, f1.ext e, f2.ext e, f3.ext e⟩) _ yv ⟨0, dQ, dV, dT, dP, (Nt.u2 k), (Nt.u2 k), 0, 0, rfl, Nt.CsF.start, rfl, (Ext.refl _), (by have h9 := (e7.ext (bO.t (cu.t (bP.t (ct.t (aO.t (aP.t (aM.t (aL.t (aI.t aN.ext)))))))))); (try simp only [Nt.lo_self] at h9); (try simp only [Nt.hi_self] at h9); rw [show ((1 : Int) : Rat) = Nt.gr k (Nt.u2 k) from (Nt.gr_one k).symm] at h9; exact RatN.more h9 xq), (by have h9 := (e5.ext (bO.t (cu.t (bP.t (ct.t (aO.t (aP.t (aM.t (aL.t (aI.t aN.ext)))))))))); (try simp only [Nt.lo_self] at h9); (try simp only [Nt.hi_self] at h9); rw [show ((1 : Int) : Rat) = Nt.gr k (Nt.u2 k) from (Nt.gr_one k).symm] at h9; exact RatN.more h9 xq), (by have h9 := (d2.ext (cx.t (cz.t (cl.t (bT.t (bN.t (cr.t (bO.t (cu.t (bP.t (ct.t (aO.t (aP.t (aM.t (aL.t (aI.t aN.ext)))))))))))))))); (try simp only [Nt.lo_self] at h9); (try simp only [Nt.hi_self] at h9); rw [show ((0 : Int) : Rat) = Nt.gr k 0 from (Nt.gr_zero k).symm] at h9; exact RatN.more h9 xq), (by have h9 := (d0.ext (cx.t (cz.t (cl.t (bT.t (bN.t (cr.t (bO.t (cu.t (bP.t (ct.t (aO.t (aP.t (aM.t (aL.t (aI.t aN.ext)))))))))))))))); (try simp only [Nt.lo_self] at h9); (try simp only [Nt.hi_self] at h9); rw [show ((0 : Int) : Rat) = Nt.gr k 0 from (Nt.gr_zero k).symm] at h9; exact RatN.more h9 xq)⟩ ?_)))))
 rintro dS _ u89 ⟨j, x1, x2, y1, y2, tl, th, cc, dd, eU, hI, rfl, aK, f0, f1, f2, f3⟩
 have hjw := hI.t.jw
 have ht0 := hI.t.t0
 have ht1 := hI.t.t1
 have htt := hI.t.tt
 have ht2 := hI.t.t2
 have hcd := hI.cd
 have hbd := hI.bd hq0 hp
 have hD1 := Nt.coD_pos j
 have hD2 := Nt.coD_mulR (j := j) xq
 refine zzd (zzs (zzd (sq9 (zza 27 (zI j) (zza 28 (zB (decide ((1 : Int) < (j : Int)))) ?_)))))
 rcases Bool.eq_false_or_eq_true (decide ((1 : Int) < (j : Int))) with hs90 | hs90
 ·refine zyn 29 (x := zB (decide ((1 : Int) < (j : Int)))) (zB true) (by rw [hs90]) ?_
  have qhs90 := qyt hs90
  refine zza 30 (.adr 6 3) ?_ (hw := w1 2 true 29)
  refine zzh 31 (.v (x2.v)) ty32 zze ?_ (hw := w1 2 true 29)
  refine zzh 32 (.v (b0.v)) ty32 zze ?_ (hw := w1 2 true 29)
  refine zzg 33 14 _ (fun _ _ aa ff => qym (k_rqCompare ff (f1.ext aa).raw (eK.ext (aK.trans aa)).raw xq xq) ?_) (hw := w1 2 true 29)
  rintro _ u92 ab rfl
  refine zza 34 (zB (decide ((Nt.cmpQ (Nt.gr k th) (((1 : Int) : Rat) / (((2 ^ k : Nat) : Int) : Rat))) ≤ 0))) ?_ (hw := w1 2 true 29)
  refine zza 35 (zB (decide ((Nt.cmpQ (Nt.gr k th) (((1 : Int) : Rat) / (((2 ^ k : Nat) : Int) : Rat))) ≤ 0))) (zzc 70 [(1, zI k), (4, .adr 4 0), (5, .adr 5 0), (6, .adr 6 0), (7, .adr 7 0), (8, .adr 8 0), (9, zI j), (35, zB (decide ((Nt.cmpQ (Nt.gr k th) (((1 : Int) : Rat) / (((2 ^ k : Nat) : Int) : Rat))) ≤ 0)))] [(4, ⟨34, zw6⟩), (5, ⟨34, y1.cs ++ y2.cs⟩), (6, ⟨34, x1.cs ++ x2.cs⟩), (7, ⟨34, an.cs ++ am.cs⟩), (8, ⟨32, b0.cs⟩)] (zzt (b := decide ((Nt.cmpQ (Nt.gr k th) (((1 : Int) : Rat) / (((2 ^ k : Nat) : Int) : Rat))) ≤ 0)) xj (fun aJ => ?_) (fun aJ => ?_)))
  ·have qhb95 := qyt aJ
   refine zzd (zzy [0, 0, 2, 6, 0, 16, 62, 127, 255] [(0, []), (1, []), (2, []), (4, []), (5, []), (3, []), (6, []), (7, []), (8, [])] xj xj (zzh 36 (.v (.agg #[.bool y1.s, y1.m.v, y1.d.v, .bool y2.s, y2.m.v, y2.d.v])) ty34 zze (zza 37 (.adr 6 3) (zzh 38 (.v (x2.v)) ty32 zze (zza 40 (.adr 6 3) (zzh 41 (.v (x2.v)) ty32 zze (zzg 39 123 _ fun _ _ cy en => qym (k_rqNeg en (f1.ext (aa.t (ab.t cy))).raw xq) ?_)))))))
   rintro _ u99 bC ⟨r97, rfl, d9⟩
   refine zzg 42 59 _ fun _ _ bg c3 => qym (k_r4Make c3 (d9.ext bg).raw (f1.ext (aa.t (ab.t (cy.t (bC.t bg))))).raw xq) ?_
   rintro _ eQ cj ⟨e6, eM, rfl, c5, du⟩
   refine zzg 43 61 _ fun _ _ bf dC => qym (k_r4Add dC (f2.ext (aa.t (ab.t (cy.t (bC.t (bg.t (cj.t bf))))))).raw (f3.ext (aa.t (ab.t (cy.t (bC.t (bg.t (cj.t bf))))))).raw (c5.ext bf).raw (du.ext bf).raw xq xq) ?_
   rintro _ e2 eN ⟨aT, a3, rfl, c8, c9⟩
   refine zzi ⟨34, aT.cs ++ a3.cs⟩ ty34 ?_
   refine zzb (zzn (zzv (zyr (zzv (zyq (zyr (ret0 [.agg #[.bool aT.s, aT.m.v, aT.d.v, .bool a3.s, a3.m.v, a3.d.v]] ⟨zzq ty34 zze, trivial⟩ fun eH bS => ?_)))))))
   have hle : 1 < j ∧ th ≤ 1 := by have h8 := qyt hs90; have h9 := aJ; rw [show (((1 : Int) : Rat) / (((2 ^ k : Nat) : Int) : Rat)) = Nt.gr k 1 from rfl, Nt.cs_end] at h9; have h7 := qyt h9; omega
   have ho := hI.out hq0 hp hle.1 hle.2
   have hob := Nt.csR_bd ho hq0 hp hk
   refine ⟨aT, a3, _, _, rfl, RatN.limG (K := (40 + 40 + 2)) (z := cc - th) ?_ xq xq hk, RatN.limG (K := (40 + 40 + 2)) (z := dd + th) ?_ xq xq hk, ho⟩
   ·have h9 := (c8.ext bS)
    rw [(Nt.cs_o xq hcd).1] at h9
    exact h9
   have h9 := (c9.ext bS)
   rw [(Nt.cs_o xq hcd).2] at h9
   exact h9
  have qhb95 := qyf aJ
  refine zzr (zzo ?_)
  refine zzd (sq9 (zza 44 (zI j) (zza 45 (zI (Int.tmod (j : Int) 2)) (zza 46 (zB ((Int.tmod (j : Int) 2) == 0)) (zzb (zzt (b := (Int.tmod (j : Int) 2) == 0) xj (fun a5 => ?_) (fun a5 => ?_)))))))
  ·have aD : Int.tmod (j : Int) 2 = (j : Int) % 2 := Int.tmod_eq_emod_of_nonneg xq
   have ak :  j % 2 = 0 := by have h9 := a5; rw [aD] at h9; simp at h9; omega
   refine zzf (zzh 47 (.v (.agg #[.bool y1.s, y1.m.v, y1.d.v, .bool y2.s, y2.m.v, y2.d.v])) ty34 zze (zzh 48 (.v (.agg #[.bool x1.s, x1.m.v, x1.d.v, .bool x2.s, x2.m.v, x2.d.v])) ty34 zze (zzg 49 61 _ fun _ _ al c2 => qym (k_r4Add c2 (f2.ext (aa.t (ab.t al))).raw (f3.ext (aa.t (ab.t al))).raw (f0.ext (aa.t (ab.t al))).raw (f1.ext (aa.t (ab.t al))).raw xq xq) ?_)))
   rintro _ bQ aY ⟨bs, bw, rfl, c0, dy⟩
   refine zzi ⟨34, bs.cs ++ bw.cs⟩ ty34 ?_
   refine zzb (zzd ?_)
   have ce : RatN bQ bs (Nt.gr k (cc + tl)) (40 + 40 + 2) := zRc c0 ((Nt.cs_a htt hcd).1)
   have cg : RatN bQ bw (Nt.gr k (dd + th)) (40 + 40 + 2) := zRc dy ((Nt.cs_a htt hcd).2)
   refine zzf (zza 53 (zI j) (zyn 54 (x := zI (IntKind.i64.wrap ((2 : Int) * (j : Int)))) (zI (2 * j : Nat)) (eqI xk) (zyn 55 (x := zI (IntKind.i64.wrap (((2 * j : Nat) : Int) + 1))) (zI (((2 * j) + 1 : Nat) : Int)) (eqI xk) (zza 56 (zI j) (zyn 57 (x := zI (IntKind.i64.wrap ((2 : Int) * (j : Int)))) (zI (2 * j : Nat)) (eqI xk) (zyn 58 (x := zI (IntKind.i64.wrap (((2 * j : Nat) : Int) + 2))) (zI (((2 * j) + 2 : Nat) : Int)) (eqI xk) (zyn 59 (x := zI (IntKind.i64.wrap (((2 * j + 1 : Nat) : Int) * ((2 * j + 2 : Nat) : Int)))) (zI (Nt.coD j)) (by rw [show (IntKind.i64.wrap (((2 * j + 1 : Nat) : Int) * ((2 * j + 2 : Nat) : Int))) = (Nt.coD j) from hD2.1]) (zzg 60 24 _ fun _ _ aA cY => qym (k_rqFrac cY (a := 1) (b := (Nt.coD j)) xq xq xq xq) ?_))))))))
   rintro _ d8 aC ⟨bu, rfl, b2⟩
   refine zzj 10 ⟨32, zw3⟩ (zzi ⟨32, bu.cs⟩ ty32 ?_)
   refine zzb (zzy [0, 0, 3, 0, 0, 31, 63, 0, 255, 511] [(0, []), (1, []), (3, []), (4, []), (7, []), (2, []), (5, []), (6, []), (8, []), (9, [])] xj xj (zzh 61 (.v (.agg #[.bool x1.s, x1.m.v, x1.d.v, .bool x2.s, x2.m.v, x2.d.v])) ty34 zze (zzh 62 (.v (.agg #[.bool an.s, an.m.v, an.d.v, .bool am.s, am.m.v, am.d.v])) ty34 zze (zzh 64 (.v (bu.v)) ty32 zze (zzh 65 (.v (bu.v)) ty32 zze (zza 68 (zI k) (zzg 63 62 _ fun _ _ af dc => qym (k_r4Mul dc (f0.ext (aa.t (ab.t (al.t (aY.t (aA.t (aC.t af))))))).raw (f1.ext (aa.t (ab.t (al.t (aY.t (aA.t (aC.t af))))))).raw (bc.ext (aO.t (aP.t (aM.t (aL.t (aI.t (aN.t (aK.t (aa.t (ab.t (al.t (aY.t (aA.t (aC.t af)))))))))))))).raw (be.ext (aO.t (aP.t (aM.t (aL.t (aI.t (aN.t (aK.t (aa.t (ab.t (al.t (aY.t (aA.t (aC.t af)))))))))))))).raw xq xq) ?_)))))))
   rintro _ eZ bb ⟨eX, es, rfl, c4, c7⟩
   refine zzg 66 59 _ fun _ _ aF cL => qym (k_r4Make cL (b2.ext (af.t (bb.t aF))).raw (b2.ext (af.t (bb.t aF))).raw xq) ?_
   rintro _ eI a7 ⟨eb, eG, rfl, ds, dJ⟩
   refine zzg 67 62 _ fun _ _ aH dm => qym (k_r4Mul dm (c4.ext (aF.t (a7.t aH))).raw (c7.ext (aF.t (a7.t aH))).raw (ds.ext aH).raw (dJ.ext aH).raw xq xq) ?_
   rintro _ e3 bq ⟨eh, eT, rfl, dI, cR⟩
   refine zzg 69 274 _ fun _ _ a4 db => qym (k_wide (k := k) db (dI.ext a4).raw (cR.ext a4).raw xq xq) ?_
   rintro _ ch bK ⟨bL, bp, rfl, dp, cI⟩
   refine zzi ⟨34, bL.cs ++ bp.cs⟩ ty34 ?_
   refine zzw ?_
   refine zzo ?_
   have b1 : RatN ch bL (Nt.gr k (Nt.csL k j tl ql)) (((40 + 40 + 1) + 3 + 1) + 70) := zRc dp (congrArg (Nt.gr k) (Nt.cs_t (j := j) (F := (((1 : Int) : Rat) / ((Nt.coD j : Int) : Rat))) ht0 htt bh bi rfl).1)
   have cb : RatN ch bp (Nt.gr k (Nt.csH k j th qh)) (((40 + 40 + 1) + 3 + 1) + 70) := zRc cI (congrArg (Nt.gr k) (Nt.cs_t (j := j) (F := (((1 : Int) : Rat) / ((Nt.coD j : Int) : Rat))) ht0 htt bh bi rfl).2)
   refine zzf (zza 25 (zI j) (zyn 26 (x := zI (IntKind.i64.wrap ((j : Int) + 1))) (zI (j + 1 : Nat)) (eqI xk) (zza 9 (zI (j + 1 : Nat)) (zzw ?_))))
   have hne : j ≤ 1 ∨ 2 ≤ th := by have h9 := aJ; rw [show (((1 : Int) : Rat) / (((2 ^ k : Nat) : Int) : Rat)) = Nt.gr k 1 from rfl, Nt.cs_end] at h9; have h7 := qyf h9; omega
   have hgo := hI.go hQ hne (.inl ⟨ak, rfl, rfl⟩)
   have hb9 := hgo.1.bd hq0 hp
   have hw9 := Nt.csW_le hk
   have hg0 := hgo.1.t.t0
   have hg1 := hgo.1.t.t1
   have hgt := hgo.1.t.tt
   have hg2 := hgo.1.t.t2
   have hmm := hgo.2
   refine ⟨_, ?_, _, by exact zzu _ _ _, j + 1, bL, bp, bs, bw, (Nt.csL k j tl ql), (Nt.csH k j th qh), (cc + tl), (dd + th), rfl, hgo.1, rfl, (aK.t (aa.t (ab.t (al.t (aY.t (aA.t (aC.t (af.t (bb.t (aF.t (a7.t (aH.t (bq.t (a4.t bK.ext)))))))))))))), (RatN.limG b1 xq xq hk), (RatN.limG cb xq xq hk), (RatN.limG (ce.ext (aA.t (aC.t (af.t (bb.t (aF.t (a7.t (aH.t (bq.t (a4.t bK.ext)))))))))) xq xq hk), (RatN.limG (cg.ext (aA.t (aC.t (af.t (bb.t (aF.t (a7.t (aH.t (bq.t (a4.t bK.ext)))))))))) xq xq hk)⟩
   omega
  have aD : Int.tmod (j : Int) 2 = (j : Int) % 2 := Int.tmod_eq_emod_of_nonneg xq
  have ak : ¬ j % 2 = 0 := by have h9 := a5; rw [aD] at h9; simp at h9; omega
  refine zzf (zzh 50 (.v (.agg #[.bool y1.s, y1.m.v, y1.d.v, .bool y2.s, y2.m.v, y2.d.v])) ty34 zze (zzh 51 (.v (.agg #[.bool x1.s, x1.m.v, x1.d.v, .bool x2.s, x2.m.v, x2.d.v])) ty34 zze (zzg 52 89 _ fun _ _ ai di => qym (k_r4Sub di (f2.ext (aa.t (ab.t ai))).raw (f3.ext (aa.t (ab.t ai))).raw (f0.ext (aa.t (ab.t ai))).raw (f1.ext (aa.t (ab.t ai))).raw xq xq) ?_)))
  rintro _ b4 aR ⟨bG, bE, rfl, dj, dq⟩
  refine zzi ⟨34, bG.cs ++ bE.cs⟩ ty34 ?_
  refine zzb (zzd ?_)
  have b5 : RatN b4 bG (Nt.gr k (cc - th)) (40 + 40 + 2) := zRc dj ((Nt.cs_s htt hcd).1)
  have bR : RatN b4 bE (Nt.gr k (dd - tl)) (40 + 40 + 2) := zRc dq ((Nt.cs_s htt hcd).2)
  refine zzf (zza 53 (zI j) (zyn 54 (x := zI (IntKind.i64.wrap ((2 : Int) * (j : Int)))) (zI (2 * j : Nat)) (eqI xk) (zyn 55 (x := zI (IntKind.i64.wrap (((2 * j : Nat) : Int) + 1))) (zI (((2 * j) + 1 : Nat) : Int)) (eqI xk) (zza 56 (zI j) (zyn 57 (x := zI (IntKind.i64.wrap ((2 : Int) * (j : Int)))) (zI (2 * j : Nat)) (eqI xk) (zyn 58 (x := zI (IntKind.i64.wrap (((2 * j : Nat) : Int) + 2))) (zI (((2 * j) + 2 : Nat) : Int)) (eqI xk) (zyn 59 (x := zI (IntKind.i64.wrap (((2 * j + 1 : Nat) : Int) * ((2 * j + 2 : Nat) : Int)))) (zI (Nt.coD j)) (by rw [show (IntKind.i64.wrap (((2 * j + 1 : Nat) : Int) * ((2 * j + 2 : Nat) : Int))) = (Nt.coD j) from hD2.1]) (zzg 60 24 _ fun _ _ aG dw => qym (k_rqFrac dw (a := 1) (b := (Nt.coD j)) xq xq xq xq) ?_))))))))
  rintro _ d6 aE ⟨bt, rfl, cm⟩
  refine zzj 10 ⟨32, zw3⟩ (zzi ⟨32, bt.cs⟩ ty32 ?_)
  refine zzb (zzy [0, 0, 3, 0, 0, 31, 63, 0, 255, 511] [(0, []), (1, []), (3, []), (4, []), (7, []), (2, []), (5, []), (6, []), (8, []), (9, [])] xj xj (zzh 61 (.v (.agg #[.bool x1.s, x1.m.v, x1.d.v, .bool x2.s, x2.m.v, x2.d.v])) ty34 zze (zzh 62 (.v (.agg #[.bool an.s, an.m.v, an.d.v, .bool am.s, am.m.v, am.d.v])) ty34 zze (zzh 64 (.v (bt.v)) ty32 zze (zzh 65 (.v (bt.v)) ty32 zze (zza 68 (zI k) (zzg 63 62 _ fun _ _ ae cE => qym (k_r4Mul cE (f0.ext (aa.t (ab.t (ai.t (aR.t (aG.t (aE.t ae))))))).raw (f1.ext (aa.t (ab.t (ai.t (aR.t (aG.t (aE.t ae))))))).raw (bc.ext (aO.t (aP.t (aM.t (aL.t (aI.t (aN.t (aK.t (aa.t (ab.t (ai.t (aR.t (aG.t (aE.t ae)))))))))))))).raw (be.ext (aO.t (aP.t (aM.t (aL.t (aI.t (aN.t (aK.t (aa.t (ab.t (ai.t (aR.t (aG.t (aE.t ae)))))))))))))).raw xq xq) ?_)))))))
  rintro _ eW aW ⟨ea, fd, rfl, dH, dg⟩
  refine zzg 66 59 _ fun _ _ aq cW => qym (k_r4Make cW (cm.ext (ae.t (aW.t aq))).raw (cm.ext (ae.t (aW.t aq))).raw xq) ?_
  rintro _ e4 ba ⟨eA, em, rfl, cF, cP⟩
  refine zzg 67 62 _ fun _ _ ao dz => qym (k_r4Mul dz (dH.ext (aq.t (ba.t ao))).raw (dg.ext (aq.t (ba.t ao))).raw (cF.ext ao).raw (cP.ext ao).raw xq xq) ?_
  rintro _ eR bD ⟨eJ, ek, rfl, dD, dF⟩
  refine zzg 69 274 _ fun _ _ a9 dL => qym (k_wide (k := k) dL (dD.ext a9).raw (dF.ext a9).raw xq xq) ?_
  rintro _ b7 bI ⟨bo, bk, rfl, dA, dk⟩
  refine zzi ⟨34, bo.cs ++ bk.cs⟩ ty34 ?_
  refine zzw ?_
  refine zzo ?_
  have bW : RatN b7 bo (Nt.gr k (Nt.csL k j tl ql)) (((40 + 40 + 1) + 3 + 1) + 70) := zRc dA (congrArg (Nt.gr k) (Nt.cs_t (j := j) (F := (((1 : Int) : Rat) / ((Nt.coD j : Int) : Rat))) ht0 htt bh bi rfl).1)
  have cq : RatN b7 bk (Nt.gr k (Nt.csH k j th qh)) (((40 + 40 + 1) + 3 + 1) + 70) := zRc dk (congrArg (Nt.gr k) (Nt.cs_t (j := j) (F := (((1 : Int) : Rat) / ((Nt.coD j : Int) : Rat))) ht0 htt bh bi rfl).2)
  refine zzf (zza 25 (zI j) (zyn 26 (x := zI (IntKind.i64.wrap ((j : Int) + 1))) (zI (j + 1 : Nat)) (eqI xk) (zza 9 (zI (j + 1 : Nat)) (zzw ?_))))
  have hne : j ≤ 1 ∨ 2 ≤ th := by have h9 := aJ; rw [show (((1 : Int) : Rat) / (((2 ^ k : Nat) : Int) : Rat)) = Nt.gr k 1 from rfl, Nt.cs_end] at h9; have h7 := qyf h9; omega
  have hgo := hI.go hQ hne (.inr ⟨ak, rfl, rfl⟩)
  have hb9 := hgo.1.bd hq0 hp
  have hw9 := Nt.csW_le hk
  have hg0 := hgo.1.t.t0
  have hg1 := hgo.1.t.t1
  have hgt := hgo.1.t.tt
  have hg2 := hgo.1.t.t2
  have hmm := hgo.2
  refine ⟨_, ?_, _, by exact zzu _ _ _, j + 1, bo, bk, bG, bE, (Nt.csL k j tl ql), (Nt.csH k j th qh), (cc - th), (dd - tl), rfl, hgo.1, rfl, (aK.t (aa.t (ab.t (ai.t (aR.t (aG.t (aE.t (ae.t (aW.t (aq.t (ba.t (ao.t (bD.t (a9.t bI.ext)))))))))))))), (RatN.limG bW xq xq hk), (RatN.limG cq xq xq hk), (RatN.limG (b5.ext (aG.t (aE.t (ae.t (aW.t (aq.t (ba.t (ao.t (bD.t (a9.t bI.ext)))))))))) xq xq hk), (RatN.limG (bR.ext (aG.t (aE.t (ae.t (aW.t (aq.t (ba.t (ao.t (bD.t (a9.t bI.ext)))))))))) xq xq hk)⟩
  omega
 refine zyn 29 (x := zB (decide ((1 : Int) < (j : Int)))) (zB false) (by rw [hs90]) ?_
 have qhs90 := qyf hs90
 refine zzm 30 (uw 2 true false 29) (zzm 31 (uw 2 true false 29) (zzm 32 (uw 2 true false 29) (zzm 33 (uw 2 true false 29) (zzm 34 (uw 2 true false 29) (zza 35 (zB false) (zzc 70 [(1, zI k), (4, .adr 4 0), (5, .adr 5 0), (6, .adr 6 0), (7, .adr 7 0), (8, .adr 8 0), (9, zI j), (35, zB false)] [(4, ⟨34, zw6⟩), (5, ⟨34, y1.cs ++ y2.cs⟩), (6, ⟨34, x1.cs ++ x2.cs⟩), (7, ⟨34, an.cs ++ am.cs⟩), (8, ⟨32, b0.cs⟩)] (zyp xj (zzr (zzo ?_)))))))))
 refine zzd (sq9 (zza 44 (zI j) (zza 45 (zI (Int.tmod (j : Int) 2)) (zza 46 (zB ((Int.tmod (j : Int) 2) == 0)) (zzb (zzt (b := (Int.tmod (j : Int) 2) == 0) xj (fun aX => ?_) (fun aX => ?_)))))))
 ·have ar : Int.tmod (j : Int) 2 = (j : Int) % 2 := Int.tmod_eq_emod_of_nonneg xq
  have ac :  j % 2 = 0 := by have h9 := aX; rw [ar] at h9; simp at h9; omega
  refine zzf (zzh 47 (.v (.agg #[.bool y1.s, y1.m.v, y1.d.v, .bool y2.s, y2.m.v, y2.d.v])) ty34 zze (zzh 48 (.v (.agg #[.bool x1.s, x1.m.v, x1.d.v, .bool x2.s, x2.m.v, x2.d.v])) ty34 zze (zzg 49 61 _ fun _ _ ag cU => qym (k_r4Add cU (f2.ext ag).raw (f3.ext ag).raw (f0.ext ag).raw (f1.ext ag).raw xq xq) ?_)))
  rintro _ b9 aZ ⟨bn, bJ, rfl, cS, dN⟩
  refine zzi ⟨34, bn.cs ++ bJ.cs⟩ ty34 ?_
  refine zzb (zzd ?_)
  have bZ : RatN b9 bn (Nt.gr k (cc + tl)) (40 + 40 + 2) := zRc cS ((Nt.cs_a htt hcd).1)
  have bU : RatN b9 bJ (Nt.gr k (dd + th)) (40 + 40 + 2) := zRc dN ((Nt.cs_a htt hcd).2)
  refine zzf (zza 53 (zI j) (zyn 54 (x := zI (IntKind.i64.wrap ((2 : Int) * (j : Int)))) (zI (2 * j : Nat)) (eqI xk) (zyn 55 (x := zI (IntKind.i64.wrap (((2 * j : Nat) : Int) + 1))) (zI (((2 * j) + 1 : Nat) : Int)) (eqI xk) (zza 56 (zI j) (zyn 57 (x := zI (IntKind.i64.wrap ((2 : Int) * (j : Int)))) (zI (2 * j : Nat)) (eqI xk) (zyn 58 (x := zI (IntKind.i64.wrap (((2 * j : Nat) : Int) + 2))) (zI (((2 * j) + 2 : Nat) : Int)) (eqI xk) (zyn 59 (x := zI (IntKind.i64.wrap (((2 * j + 1 : Nat) : Int) * ((2 * j + 2 : Nat) : Int)))) (zI (Nt.coD j)) (by rw [show (IntKind.i64.wrap (((2 * j + 1 : Nat) : Int) * ((2 * j + 2 : Nat) : Int))) = (Nt.coD j) from hD2.1]) (zzg 60 24 _ fun _ _ aB cM => qym (k_rqFrac cM (a := 1) (b := (Nt.coD j)) xq xq xq xq) ?_))))))))
  rintro _ e1 az ⟨bl, rfl, bY⟩
  refine zzj 10 ⟨32, zw3⟩ (zzi ⟨32, bl.cs⟩ ty32 ?_)
  refine zzb (zzy [0, 0, 3, 0, 0, 31, 63, 0, 255, 511] [(0, []), (1, []), (3, []), (4, []), (7, []), (2, []), (5, []), (6, []), (8, []), (9, [])] xj xj (zzh 61 (.v (.agg #[.bool x1.s, x1.m.v, x1.d.v, .bool x2.s, x2.m.v, x2.d.v])) ty34 zze (zzh 62 (.v (.agg #[.bool an.s, an.m.v, an.d.v, .bool am.s, am.m.v, am.d.v])) ty34 zze (zzh 64 (.v (bl.v)) ty32 zze (zzh 65 (.v (bl.v)) ty32 zze (zza 68 (zI k) (zzg 63 62 _ fun _ _ ad cV => qym (k_r4Mul cV (f0.ext (ag.t (aZ.t (aB.t (az.t ad))))).raw (f1.ext (ag.t (aZ.t (aB.t (az.t ad))))).raw (bc.ext (aO.t (aP.t (aM.t (aL.t (aI.t (aN.t (aK.t (ag.t (aZ.t (aB.t (az.t ad)))))))))))).raw (be.ext (aO.t (aP.t (aM.t (aL.t (aI.t (aN.t (aK.t (ag.t (aZ.t (aB.t (az.t ad)))))))))))).raw xq xq) ?_)))))))
  rintro _ ef a0 ⟨d4, ed, rfl, cN, dr⟩
  refine zzg 66 59 _ fun _ _ aw cG => qym (k_r4Make cG (bY.ext (ad.t (a0.t aw))).raw (bY.ext (ad.t (a0.t aw))).raw xq) ?_
  rintro _ d5 aU ⟨fb, e9, rfl, cB, dh⟩
  refine zzg 67 62 _ fun _ _ ax dG => qym (k_r4Mul dG (cN.ext (aw.t (aU.t ax))).raw (dr.ext (aw.t (aU.t ax))).raw (cB.ext ax).raw (dh.ext ax).raw xq xq) ?_
  rintro _ eg bA ⟨eF, eq, rfl, de, dn⟩
  refine zzg 69 274 _ fun _ _ a6 dM => qym (k_wide (k := k) dM (de.ext a6).raw (dn.ext a6).raw xq xq) ?_
  rintro _ b8 br ⟨bM, bx, rfl, dt, cT⟩
  refine zzi ⟨34, bM.cs ++ bx.cs⟩ ty34 ?_
  refine zzw ?_
  refine zzo ?_
  have bV : RatN b8 bM (Nt.gr k (Nt.csL k j tl ql)) (((40 + 40 + 1) + 3 + 1) + 70) := zRc dt (congrArg (Nt.gr k) (Nt.cs_t (j := j) (F := (((1 : Int) : Rat) / ((Nt.coD j : Int) : Rat))) ht0 htt bh bi rfl).1)
  have b6 : RatN b8 bx (Nt.gr k (Nt.csH k j th qh)) (((40 + 40 + 1) + 3 + 1) + 70) := zRc cT (congrArg (Nt.gr k) (Nt.cs_t (j := j) (F := (((1 : Int) : Rat) / ((Nt.coD j : Int) : Rat))) ht0 htt bh bi rfl).2)
  refine zzf (zza 25 (zI j) (zyn 26 (x := zI (IntKind.i64.wrap ((j : Int) + 1))) (zI (j + 1 : Nat)) (eqI xk) (zza 9 (zI (j + 1 : Nat)) (zzw ?_))))
  have hne : j ≤ 1 ∨ 2 ≤ th := by have h8 := qyf hs90; omega
  have hgo := hI.go hQ hne (.inl ⟨ac, rfl, rfl⟩)
  have hb9 := hgo.1.bd hq0 hp
  have hw9 := Nt.csW_le hk
  have hg0 := hgo.1.t.t0
  have hg1 := hgo.1.t.t1
  have hgt := hgo.1.t.tt
  have hg2 := hgo.1.t.t2
  have hmm := hgo.2
  refine ⟨_, ?_, _, by exact zzu _ _ _, j + 1, bM, bx, bn, bJ, (Nt.csL k j tl ql), (Nt.csH k j th qh), (cc + tl), (dd + th), rfl, hgo.1, rfl, (aK.t (ag.t (aZ.t (aB.t (az.t (ad.t (a0.t (aw.t (aU.t (ax.t (bA.t (a6.t br.ext)))))))))))), (RatN.limG bV xq xq hk), (RatN.limG b6 xq xq hk), (RatN.limG (bZ.ext (aB.t (az.t (ad.t (a0.t (aw.t (aU.t (ax.t (bA.t (a6.t br.ext)))))))))) xq xq hk), (RatN.limG (bU.ext (aB.t (az.t (ad.t (a0.t (aw.t (aU.t (ax.t (bA.t (a6.t br.ext)))))))))) xq xq hk)⟩
  omega
 have ar : Int.tmod (j : Int) 2 = (j : Int) % 2 := Int.tmod_eq_emod_of_nonneg xq
 have ac : ¬ j % 2 = 0 := by have h9 := aX; rw [ar] at h9; simp at h9; omega
 refine zzf (zzh 50 (.v (.agg #[.bool y1.s, y1.m.v, y1.d.v, .bool y2.s, y2.m.v, y2.d.v])) ty34 zze (zzh 51 (.v (.agg #[.bool x1.s, x1.m.v, x1.d.v, .bool x2.s, x2.m.v, x2.d.v])) ty34 zze (zzg 52 89 _ fun _ _ ah cD => qym (k_r4Sub cD (f2.ext ah).raw (f3.ext ah).raw (f0.ext ah).raw (f1.ext ah).raw xq xq) ?_)))
 rintro _ cf a8 ⟨bF, bv, rfl, c6, cO⟩
 refine zzi ⟨34, bF.cs ++ bv.cs⟩ ty34 ?_
 refine zzb (zzd ?_)
 have b3 : RatN cf bF (Nt.gr k (cc - th)) (40 + 40 + 2) := zRc c6 ((Nt.cs_s htt hcd).1)
 have ci : RatN cf bv (Nt.gr k (dd - tl)) (40 + 40 + 2) := zRc cO ((Nt.cs_s htt hcd).2)
 refine zzf (zza 53 (zI j) (zyn 54 (x := zI (IntKind.i64.wrap ((2 : Int) * (j : Int)))) (zI (2 * j : Nat)) (eqI xk) (zyn 55 (x := zI (IntKind.i64.wrap (((2 * j : Nat) : Int) + 1))) (zI (((2 * j) + 1 : Nat) : Int)) (eqI xk) (zza 56 (zI j) (zyn 57 (x := zI (IntKind.i64.wrap ((2 : Int) * (j : Int)))) (zI (2 * j : Nat)) (eqI xk) (zyn 58 (x := zI (IntKind.i64.wrap (((2 * j : Nat) : Int) + 2))) (zI (((2 * j) + 2 : Nat) : Int)) (eqI xk) (zyn 59 (x := zI (IntKind.i64.wrap (((2 * j + 1 : Nat) : Int) * ((2 * j + 2 : Nat) : Int)))) (zI (Nt.coD j)) (by rw [show (IntKind.i64.wrap (((2 * j + 1 : Nat) : Int) * ((2 * j + 2 : Nat) : Int))) = (Nt.coD j) from hD2.1]) (zzg 60 24 _ fun _ _ ay cQ => qym (k_rqFrac cQ (a := 1) (b := (Nt.coD j)) xq xq xq xq) ?_))))))))
 rintro _ eS ap ⟨bB, rfl, ck⟩
 refine zzj 10 ⟨32, zw3⟩ (zzi ⟨32, bB.cs⟩ ty32 ?_)
 refine zzb (zzy [0, 0, 3, 0, 0, 31, 63, 0, 255, 511] [(0, []), (1, []), (3, []), (4, []), (7, []), (2, []), (5, []), (6, []), (8, []), (9, [])] xj xj (zzh 61 (.v (.agg #[.bool x1.s, x1.m.v, x1.d.v, .bool x2.s, x2.m.v, x2.d.v])) ty34 zze (zzh 62 (.v (.agg #[.bool an.s, an.m.v, an.d.v, .bool am.s, am.m.v, am.d.v])) ty34 zze (zzh 64 (.v (bB.v)) ty32 zze (zzh 65 (.v (bB.v)) ty32 zze (zza 68 (zI k) (zzg 63 62 _ fun _ _ aj dK => qym (k_r4Mul dK (f0.ext (ah.t (a8.t (ay.t (ap.t aj))))).raw (f1.ext (ah.t (a8.t (ay.t (ap.t aj))))).raw (bc.ext (aO.t (aP.t (aM.t (aL.t (aI.t (aN.t (aK.t (ah.t (a8.t (ay.t (ap.t aj)))))))))))).raw (be.ext (aO.t (aP.t (aM.t (aL.t (aI.t (aN.t (aK.t (ah.t (a8.t (ay.t (ap.t aj)))))))))))).raw xq xq) ?_)))))))
 rintro _ fc aS ⟨eV, eD, rfl, dv, cH⟩
 refine zzg 66 59 _ fun _ _ av cC => qym (k_r4Make cC (ck.ext (aj.t (aS.t av))).raw (ck.ext (aj.t (aS.t av))).raw xq) ?_
 rintro _ dY aQ ⟨fa, eC, rfl, cZ, cK⟩
 refine zzg 67 62 _ fun _ _ au dB => qym (k_r4Mul dB (dv.ext (av.t (aQ.t au))).raw (cH.ext (av.t (aQ.t au))).raw (cZ.ext au).raw (cK.ext au).raw xq xq) ?_
 rintro _ fe bj ⟨eO, eE, rfl, df, da⟩
 refine zzg 69 274 _ fun _ _ aV cJ => qym (k_wide (k := k) cJ (df.ext aV).raw (da.ext aV).raw xq xq) ?_
 rintro _ bX bH ⟨bm, bz, rfl, dx, cX⟩
 refine zzi ⟨34, bm.cs ++ bz.cs⟩ ty34 ?_
 refine zzw ?_
 refine zzo ?_
 have ca : RatN bX bm (Nt.gr k (Nt.csL k j tl ql)) (((40 + 40 + 1) + 3 + 1) + 70) := zRc dx (congrArg (Nt.gr k) (Nt.cs_t (j := j) (F := (((1 : Int) : Rat) / ((Nt.coD j : Int) : Rat))) ht0 htt bh bi rfl).1)
 have cp : RatN bX bz (Nt.gr k (Nt.csH k j th qh)) (((40 + 40 + 1) + 3 + 1) + 70) := zRc cX (congrArg (Nt.gr k) (Nt.cs_t (j := j) (F := (((1 : Int) : Rat) / ((Nt.coD j : Int) : Rat))) ht0 htt bh bi rfl).2)
 refine zzf (zza 25 (zI j) (zyn 26 (x := zI (IntKind.i64.wrap ((j : Int) + 1))) (zI (j + 1 : Nat)) (eqI xk) (zza 9 (zI (j + 1 : Nat)) (zzw ?_))))
 have hne : j ≤ 1 ∨ 2 ≤ th := by have h8 := qyf hs90; omega
 have hgo := hI.go hQ hne (.inr ⟨ac, rfl, rfl⟩)
 have hb9 := hgo.1.bd hq0 hp
 have hw9 := Nt.csW_le hk
 have hg0 := hgo.1.t.t0
 have hg1 := hgo.1.t.t1
 have hgt := hgo.1.t.tt
 have hg2 := hgo.1.t.t2
 have hmm := hgo.2
 refine ⟨_, ?_, _, by exact zzu _ _ _, j + 1, bm, bz, bF, bv, (Nt.csL k j tl ql), (Nt.csH k j th qh), (cc - th), (dd - tl), rfl, hgo.1, rfl, (aK.t (ah.t (a8.t (ay.t (ap.t (aj.t (aS.t (av.t (aQ.t (au.t (bj.t (aV.t bH.ext)))))))))))), (RatN.limG ca xq xq hk), (RatN.limG cp xq xq hk), (RatN.limG (b3.ext (ay.t (ap.t (aj.t (aS.t (av.t (aQ.t (au.t (bj.t (aV.t bH.ext)))))))))) xq xq hk), (RatN.limG (ci.ext (ay.t (ap.t (aj.t (aS.t (av.t (aQ.t (au.t (bj.t (aV.t bH.ext)))))))))) xq xq hk)⟩
 omega
theorem k_r10tight {u w : World} {a1 a2 : RL} {a b : Int} {k m : Nat} (d : Dat u w) (ha1 : RatN u a1 (Nt.gr m a) 40) (ha2 : RatN u a2 (Nt.gr m b) 40) (hkm : k ≤ m) (hk : k ≤ 256) (hm : m ≤ 800) : qyc 165 #[IV a1 a2, .int .i64 (k : Int)] w (Post u w fun v u' => ∃ r1 r2 : RL, v = .tuple #[IV r1 r2, .bool (!(Nt.cmpS (a / Nt.u2 (m - k)) (b / Nt.u2 (m - k)) != 0))] ∧ ((Nt.cmpS (a / Nt.u2 (m - k)) (b / Nt.u2 (m - k)) != 0) = false → RatN u' r1 (Nt.gr k (a / Nt.u2 (m - k))) 200 ∧ RatN u' r2 (Nt.gr k (a / Nt.u2 (m - k) + 1)) 200)) := by
 refine zzl (args := [.agg #[.bool a1.s, a1.m.v, a1.d.v, .bool a2.s, a2.m.v, a2.d.v], .int .i64 k]) Tryz.func165 rfl Tryz.ntmps165 (rs := [.cell 4 34, .tmp 5]) Tryz.results165 (le_b rfl) (le_b rfl) d ?_
 refine sq9 (zzj 2 ⟨34, a1.cs ++ a2.cs⟩ (zzj 4 ⟨34, zw6⟩ (zza 5 (zB false) (zzb (sq9 (zza 10 (zI k) (zzg 11 218 _ fun _ _ aH aS => qym (k_unit (k := k) aS xq) ?_)))))))
 rintro _ u14 aI ⟨ak, rfl, aq⟩
 refine zzj 6 ⟨32, zw3⟩ (zzi ⟨32, ak.cs⟩ ty32 ?_)
 refine zzb (zzd (zzy [0, 1, 0, 7, 15, 0, 32, 0, 255, 511, 0, 0, 4095, 8191] [(0, []), (1, []), (2, []), (5, []), (6, []), (7, []), (10, []), (11, []), (3, []), (4, []), (8, []), (9, []), (12, []), (13, [])] xj xj (zza 12 (.adr 2 0) (zzh 13 (.v (a1.v)) ty32 zze (zzh 14 (.v (ak.v)) ty32 zze (zza 17 (.adr 2 3) (zzh 18 (.v (a2.v)) ty32 zze (zzh 19 (.v (ak.v)) ty32 zze (zzj 7 ⟨30, [.bool false, qyn]⟩ (zzj 8 ⟨30, [.bool false, qyn]⟩ (zzg 15 22 _ fun _ _ af aW => qym (k_rqMul aW (ha1.ext (aH.t (aI.t af))).raw (aq.ext af).raw xq xq) ?_)))))))))))
 rintro _ u20 av ⟨r18, rfl, a0⟩
 refine zzg 16 220 _ fun _ _ al aY => qym (k_floor aY (a0.ext al).raw xq) ?_
 rintro _ u26 ao ⟨aa, rfl, aP⟩
 refine zzg 20 22 _ fun _ _ ai a3 => qym (k_rqMul a3 (ha2.ext (aH.t (aI.t (af.t (av.t (al.t (ao.t ai))))))).raw (aq.ext (af.t (av.t (al.t (ao.t ai))))).raw xq xq) ?_
 rintro _ aO aB ⟨r30, rfl, aX⟩
 refine zzg 21 220 _ fun _ _ au aN => qym (k_floor aN (aX.ext au).raw xq) ?_
 rintro _ aD ay ⟨aC, rfl, aJ⟩
 refine zzi ⟨30, aa.cs⟩ ty30 ?_
 refine zzi ⟨30, aC.cs⟩ ty30 ?_
 refine zzb (zzd (zzd ?_))
 have ae : IntN aD aa (a / Nt.u2 (m - k)) ((40 + (k / 32 + 2) + 1) + 1) := by have h9 := (aP.ext (ai.t (aB.t (au.t ay.ext)))); rw [Nt.flr_gr hkm] at h9; exact h9
 have az : IntN aD aC (b / Nt.u2 (m - k)) ((40 + (k / 32 + 2) + 1) + 1) := by have h9 := aJ; rw [Nt.flr_gr hkm] at h9; exact h9
 refine zzf (zzh 22 (.v (aa.v)) ty30 zze (zzh 23 (.v (aC.v)) ty30 zze (zzg 24 71 _ fun _ _ ah a4 => qym (k_riCompare a4 (ae.ext ah).raw (az.ext ah).raw xq xq) ?_)))
 rintro _ u44 am rfl
 refine zza 25 (zB ((Nt.cmpS (a / Nt.u2 (m - k)) (b / Nt.u2 (m - k))) != 0)) (zzb (zzt (b := (Nt.cmpS (a / Nt.u2 (m - k)) (b / Nt.u2 (m - k))) != 0) xj (fun ad => ?_) (fun ad => ?_)))
 ·refine sq9 (zza 26 (.v (.agg #[.bool false, qyn, qyn, .bool false, qyn, qyn])) (zzi ⟨34, zw6⟩ ty34 ?_))
  refine zza 5 (zB false) (zzb (zzn (zzv (ret0 [.agg #[.bool false, qyn, qyn, .bool false, qyn, qyn], .bool false] ⟨zzq ty34 zze, zzp, trivial⟩ fun u48 e49 => ?_))))
  refine ⟨(⟨false, ⟨none, 0, 0⟩, ⟨none, 0, 0⟩⟩ : RL), (⟨false, ⟨none, 0, 0⟩, ⟨none, 0, 0⟩⟩ : RL), ?_, fun h8 => absurd (h8.symm.trans ad) yq⟩
  rw [ad]; rfl
 refine zzr (zzo ?_)
 refine sq9 (zzh 27 (.v (aa.v)) ty30 zze (zxp 28 ⟨132, [.int .u32 1]⟩ 1 (fun ar u51 aw aG => ?_)))
 refine zza 29 (.v (.agg #[.bool aa.s, aa.m.v, .slice (some ⟨ar, 0, none⟩) 1 1])) (zzj 9 ⟨32, zw3⟩ (zzi ⟨32, aa.cs ++ [.slice (some ⟨ar, 0, none⟩) 1 1]⟩ ty32 ?_))
 refine zzb (zzd (zzy [0, 0, 3, 0, 7, 31, 0, 127, 255, 511, 1023] [(0, []), (1, []), (3, []), (6, []), (2, []), (4, []), (5, []), (7, []), (8, []), (9, []), (10, [])] xj xj (zzh 30 (.v (.agg #[.bool aa.s, aa.m.v, .slice (some ⟨ar, 0, none⟩) 1 1])) ty32 zze (zzh 31 (.v (ak.v)) ty32 zze (zzh 33 (.v (.agg #[.bool aa.s, aa.m.v, .slice (some ⟨ar, 0, none⟩) 1 1])) ty32 zze (zzh 36 (.v (ak.v)) ty32 zze (zzg 32 135 _ fun _ _ ag aU => qym (k_rqOver aU (rat_mk2 (s := aa.s) (ae.ext (ah.t (am.t (aw.trans ag)))).raw ((one_data aG).ext ag).raw) (aq.ext (af.t (av.t (al.t (ao.t (ai.t (aB.t (au.t (ay.t (ah.t (am.t (aw.trans ag)))))))))))).raw xq xq) ?_)))))))
 rintro _ u57 aA ⟨ac, rfl, aK⟩
 refine zzg 34 23 _ fun _ _ an aM => qym (k_rqOf aM (z := 1) xq xq) ?_
 rintro _ u63 ap ⟨r61, rfl, aV⟩
 refine zzg 35 33 _ fun _ _ aj aR => qym (k_rqAdd aR (rat_mk2 (s := aa.s) (ae.ext (ah.t (am.t (aw.t (ag.t (aA.t (an.t (ap.t aj)))))))).raw ((one_data aG).ext (ag.t (aA.t (an.t (ap.t aj))))).raw) (aV.ext aj).raw xq xq) ?_
 rintro _ u69 aE ⟨r67, rfl, aL⟩
 refine zzg 37 135 _ fun _ _ ax aZ => qym (k_rqOver aZ (aL.ext ax).raw (aq.ext (af.t (av.t (al.t (ao.t (ai.t (aB.t (au.t (ay.t (ah.t (am.t (aw.t (ag.t (aA.t (an.t (ap.t (aj.t (aE.t ax)))))))))))))))))).raw xq xq) ?_
 rintro _ u75 aQ ⟨ab, rfl, aT⟩
 refine zza 38 (.v (.agg #[.bool ac.s, ac.m.v, ac.d.v, .bool ab.s, ab.m.v, ab.d.v])) (zzi ⟨34, ac.cs ++ ab.cs⟩ ty34 ?_)
 refine zza 5 (zB true) (zzc 39 [(4, .adr 4 0), (5, zB true)] [(4, ⟨34, ac.cs ++ ab.cs⟩)] (zzn (ret0 [.agg #[.bool ac.s, ac.m.v, ac.d.v, .bool ab.s, ab.m.v, ab.d.v], .bool true] ⟨zzq ty34 zze, zzp, trivial⟩ fun u78 aF => ?_)))
 refine ⟨ac, ab, by rw [ad]; rfl, fun _ => ⟨RatN.more (K := ((max (max ((40 + (k / 32 + 2) + 1) + 1) 1) 1) + (k / 32 + 2) + 2)) ?_ xq, RatN.more (K := (((max (max ((40 + (k / 32 + 2) + 1) + 1) 1) 1) + 2 + 2) + (k / 32 + 2) + 2)) ?_ xq⟩⟩
 ·have h9 := (aK.ext (an.t (ap.t (aj.t (aE.t (ax.t (aQ.t aF)))))))
  rw [Nt.tight_lo] at h9
  exact h9
 have h9 := (aT.ext aF)
 rw [Nt.tight_hi] at h9
 exact h9
theorem Nt.not_f {b : Bool} (h : (!b) = false) : b = true := by cases b with | true => rfl | false => exact absurd h yq
theorem Nt.not_t {b : Bool} (h : (!b) = true) : b = false := by cases b with | false => rfl | true => exact absurd h yq
def IfI (u : World) (ok : Bool) (r1 r2 : RL) (x y : Rat) : Prop := ok = true → RatN u r1 x 200 ∧ RatN u r2 y 200
theorem IfI.ext {u u' : World} {ok : Bool} {r1 r2 : RL} {x y : Rat} (h : IfI u ok r1 r2 x y) (e : Ext u u') : IfI u' ok r1 r2 x y := fun k => ⟨(h k).1.ext e, (h k).2.ext e⟩
theorem k_r10bad {u w : World} {n : Int} (d : Dat u w) : qyc 163 #[.int .i64 n] w (Post u w fun v _ => v = .bool (decide (n < 0 ∨ 256 < n))) := by
 refine zzl (args := [.int .i64 n]) Tryz.func163 rfl Tryz.ntmps163 (rs := [.tmp 2]) Tryz.results163 (le_b rfl) (le_b rfl) d ?_
 refine sq9 (zza 2 (zB false) (zzb (sq9 (zza 3 (zI n) (zza 4 (zB (decide (n < 0))) ?_)))))
 rcases Bool.eq_false_or_eq_true (decide (n < 0)) with hs11 | hs11
 ·refine zyn 5 (x := zB (decide (n < 0))) (zB true) (by rw [hs11]) ?_
  have qhs11 := qyt hs11
  refine zzm 6 (uw 2 false true 5) (zzm 7 (uw 2 false true 5) (zza 8 (zB true) (zza 2 (zB true) (zzb (zzn (ret0 [.bool true] ⟨zzp, trivial⟩ fun u12 e13 => ?_))))))
  show Value.bool _ = Value.bool _
  congr 1
  symm
  exact decide_eq_true (.inl (qyt hs11))
 refine zyn 5 (x := zB (decide (n < 0))) (zB false) (by rw [hs11]) ?_
 have qhs11 := qyf hs11
 refine zza 6 (zI n) ?_ (hw := w1 2 false 5)
 refine zza 7 (zB (decide ((256 : Int) < n))) ?_ (hw := w1 2 false 5)
 refine zza 8 (zB (decide ((256 : Int) < n))) (zza 2 (zB (decide ((256 : Int) < n))) (zzb (zzn (ret0 [.bool (decide ((256 : Int) < n))] ⟨zzp, trivial⟩ fun u14 e15 => ?_))))
 show Value.bool _ = Value.bool _
 congr 1
 symm
 have h9 := qyf hs11
 by_cases h8 : 256 < n
 ·rw [decide_eq_true h8]; exact decide_eq_true (.inr h8)
 rw [decide_eq_false h8]; exact decide_eq_false (fun h => h.elim h9 h8)
theorem k_r10point {u w : World} {r : RL} {q : Rat} {K k : Nat} (d : Dat u w) (hr : RatN u r q K) (hk : k ≤ 256) (hK : K ≤ 10) : qyc 164 #[r.v, .int .i64 (k : Int)] w (Post u w fun v u' => ∃ r1 r2 : RL, v = IV r1 r2 ∧ RatN u' r1 (Nt.dnQ q k) 80 ∧ RatN u' r2 (-Nt.dnQ (-q) k) 80) := by
 refine zzl (args := [r.v, .int .i64 k]) Tryz.func164 rfl Tryz.ntmps164 (rs := [.cell 4 34]) Tryz.results164 (le_b rfl) (le_b rfl) d ?_
 refine sq9 (zzj 2 ⟨32, r.cs⟩ (zzj 4 ⟨34, zw6⟩ (zzb (sq9 (zzh 8 (.v (r.v)) ty32 zze (zzh 9 (.v (r.v)) ty32 zze (zzg 10 59 _ fun _ _ ad af => qym (k_r4Make af (hr.ext ad).raw (hr.ext ad).raw xq) ?_)))))))
 rintro _ u16 g17 ⟨r12, r14, rfl, ag, ah⟩
 refine zza 11 (zI k) (zzg 12 273 _ fun _ _ ac aj => qym (k_r4RoundG (k := k) xq aj (ag.ext ac).raw (ah.ext ac).raw xq) ?_)
 rintro _ u23 g24 ⟨aa, ab, rfl, ai⟩
 refine zza 7 (.v (.tuple #[.agg #[.bool aa.s, aa.m.v, aa.d.v, .bool ab.s, ab.m.v, ab.d.v], .int .i64 (Nt.rndE (k : Int))])) (zza 13 (.v (.agg #[.bool aa.s, aa.m.v, aa.d.v, .bool ab.s, ab.m.v, ab.d.v])) (zza 14 (zI (Nt.rndE (k : Int))) (zzj 5 ⟨34, zw6⟩ (zzi ⟨34, aa.cs ++ ab.cs⟩ ty34 ?_))))
 refine zza 6 (zI (Nt.rndE (k : Int))) (zzb (sq9 (zzh 15 (.v (.agg #[.bool aa.s, aa.m.v, aa.d.v, .bool ab.s, ab.m.v, ab.d.v])) ty34 zze (zzi ⟨34, aa.cs ++ ab.cs⟩ ty34 ?_))))
 refine zzb (zzn (ret0 [.agg #[.bool aa.s, aa.m.v, aa.d.v, .bool ab.s, ab.m.v, ab.d.v]] ⟨zzq ty34 zze, trivial⟩ fun u26 ae => ?_))
 have h9 := (ai.ext ae)
 rw [Nt.rnd_pt hk] at h9
 exact ⟨aa, ab, rfl, RatN.more h9.1 xq, RatN.more h9.2 xq⟩
end Go.Proofs.YtcmllhhiekjmaaaGreat
